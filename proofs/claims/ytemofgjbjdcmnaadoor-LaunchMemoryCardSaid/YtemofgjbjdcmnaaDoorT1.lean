/- The texts of the functions of this chapter, as the abstract machine has them. No condition. -/
import Derived.Test.YtemofgjbjdcmnaaDoorProg
import Derived.KernelRfl
import Derived.Test.YtemofgjbjdcmnaaDoorA3
set_option linter.defProp false
set_option linter.unusedSectionVars false
set_option linter.unusedSimpArgs false
set_option linter.unusedVariables false
/- The functions of this seat's program in the short form, as a program of ours printed them (part 1); each line of it is checked. No condition. -/
set_option linter.unusedVariables false
namespace Go.Am
open Go Go.Proofs
/-- warpwright/warpwrightlaw04.LaunchMatchesReference -/
def loops3 : Nat → Option (List Nat × List Nat)
  | _ => none
def tbl3 : Nat → Option (List Nat × List Nat × List Nat)
  | 9 => some ([0, 1, 0, 4, 3, 19, 63, 127], [5, 7], [2, 3]) | 10 => some ([0, 0, 3, 0, 0, 31, 63, 127, 255, 255, 1023, 2047, 4095, 8191, 16383, 16383, 65535, 16383, 16383, 524287, 1048575, 2097151, 4194303, 8388607, 8388607, 33554431, 8388607, 8388607, 268435455, 536870911, 1073741823], [], []) | 13 => some ([0, 0, 0, 7, 0, 0, 0, 64, 0, 256, 1023, 2047, 4095, 8191, 8191, 8191, 65535, 8191, 8191, 8191, 532479, 8191, 2105343, 8388607, 16777215, 33554431, 67108863, 134217727, 268435455, 536870911], [], []) | _ => none
def F3 : AFunc := ⟨103,
  .seq (.reg [⟨(some 3), .box (.t 0), none⟩,
    ⟨(some 4), .box (.t 1), none⟩,
    ⟨(some 5), .box (.t 2), none⟩,
    ⟨(some 6), .mov (.c (.bool false)), none⟩]) <|
  .seq (.reg [⟨(some 12), .call 9 [], none⟩,
    ⟨(some 7), .mov (.t 12), none⟩]) <|
  .seq (.seq (.reg [⟨(some 13), .mov (.t 7), none⟩,
    ⟨(some 14), .un .not (.t 13), none⟩]) <|
  .cond (.t 14) (.seq (.reg [⟨(some 6), .mov (.c (.bool false)), none⟩]) <|
  .ret) (.skip)) <|
  .seq (.seq (.reg [⟨(some 15), .fadd (.t 4) 1, none⟩,
    ⟨(some 16), .ld (.t 15) 1 false, none⟩,
    ⟨(some 17), .len (.t 16), none⟩,
    ⟨(some 18), .bin .gtr (.t 17) (.c (.int .i64 20)), none⟩]) <|
  .cond (.t 18) (.seq (.reg [⟨(some 19), .mov (.t 7), none⟩,
    ⟨(some 6), .mov (.t 19), none⟩]) <|
  .ret) (.skip)) <|
  .seq (.reg [⟨(some 20), .ld (.t 3) 4 true, none⟩,
    ⟨(some 21), .call 10 [(.t 20)], none⟩,
    ⟨(some 8), .alloc (.agg [(.int .i64 0), (.int .i64 0), (.int .i64 0), (.int .i64 0), (.int .i64 0), .nil, .nil, .nil]), none⟩,
    ⟨none, .st (.t 8) (.t 21) 8, none⟩]) <|
  .seq (.reg [⟨(some 22), .ld (.t 8) 8 true, none⟩,
    ⟨(some 23), .iadda (.t 5) (.c (.int .i64 0)) 2 1, none⟩,
    ⟨(some 24), .ld (.t 23) 1 false, none⟩,
    ⟨(some 25), .bin .and (.t 24) (.c (.int .i64 3)), none⟩,
    ⟨(some 26), .conv .u8 (.t 25), none⟩,
    ⟨(some 27), .bld [(.int .u8 0), (.int .i8 0), (.int .i8 0), (.int .i8 0), (.int .i8 0), (.int .i8 0), (.int .i8 0), (.int .i8 0), (.int .i8 0), (.int .i8 0), (.int .i8 0), (.int .i8 0), (.int .i8 0)] [(0, 1, (.t 26))], none⟩,
    ⟨(some 28), .call 11 [(.t 22), (.t 27)], none⟩,
    ⟨(some 9), .alloc (.agg [(.int .i64 0), .nil]), none⟩,
    ⟨none, .st (.t 9) (.t 28) 2, none⟩]) <|
  .seq (.reg [⟨(some 29), .ld (.t 8) 8 true, none⟩,
    ⟨(some 10), .alloc (.agg [(.int .i64 0), (.int .i64 0), (.int .i64 0), (.int .i64 0), (.int .i64 0), .nil, .nil, .nil]), none⟩,
    ⟨none, .st (.t 10) (.t 29) 8, none⟩]) <|
  .seq (.dreg [⟨(some 30), .iadda (.t 5) (.c (.int .i64 0)) 2 1, none⟩,
    ⟨(some 31), .ld (.t 30) 1 false, none⟩,
    ⟨(some 32), .iadda (.t 5) (.c (.int .i64 1)) 2 1, none⟩,
    ⟨(some 33), .ld (.t 32) 1 false, none⟩,
    ⟨(some 34), .fadd (.t 10) 0, none⟩,
    ⟨(some 35), .fadd (.t 10) 1, none⟩] [⟨none, .st (.t 34) (.t 31) 1, none⟩,
    ⟨none, .st (.t 35) (.t 33) 1, none⟩] [⟨(some 32), .iadda (.t 5) (.c (.int .i64 1)) 2 1, none⟩,
    ⟨(some 33), .ld (.t 32) 1 false, none⟩]) <|
  .seq (.seq (.dreg [⟨(some 36), .ld (.t 8) 8 true, none⟩,
    ⟨(some 37), .ld (.t 4) 2 true, none⟩,
    ⟨(some 38), .call 12 [(.t 36), (.t 37)], none⟩,
    ⟨(some 39), .ld (.t 8) 8 true, none⟩,
    ⟨(some 40), .ld (.t 4) 2 true, none⟩,
    ⟨(some 41), .call 13 [(.t 39), (.t 40)], none⟩,
    ⟨(some 42), .bin .neq (.t 38) (.t 41), none⟩,
    ⟨(some 43), .mov (.t 42), none⟩,
    ⟨(some 44), .ld (.t 8) 8 true, some (43, false)⟩,
    ⟨(some 45), .ld (.t 9) 2 true, some (43, false)⟩,
    ⟨(some 46), .call 12 [(.t 44), (.t 45)], some (43, false)⟩,
    ⟨(some 47), .bin .neq (.t 46) (.c (.int .i64 0)), some (43, false)⟩,
    ⟨(some 48), .pick (.t 43) (.c (.bool true)) (.t 47), none⟩,
    ⟨(some 49), .mov (.t 48), none⟩,
    ⟨(some 50), .ld (.t 10) 8 true, some (49, false)⟩,
    ⟨(some 51), .ld (.t 9) 2 true, some (49, false)⟩,
    ⟨(some 52), .call 12 [(.t 50), (.t 51)], some (49, false)⟩,
    ⟨(some 53), .ld (.t 10) 8 true, some (49, false)⟩,
    ⟨(some 54), .ld (.t 9) 2 true, some (49, false)⟩,
    ⟨(some 55), .call 13 [(.t 53), (.t 54)], some (49, false)⟩,
    ⟨(some 56), .bin .neq (.t 52) (.t 55), some (49, false)⟩,
    ⟨(some 57), .pick (.t 49) (.c (.bool true)) (.t 56), none⟩,
    ⟨(some 58), .mov (.t 57), none⟩,
    ⟨(some 59), .ld (.t 10) 8 true, some (58, false)⟩,
    ⟨(some 60), .ld (.t 4) 2 true, some (58, false)⟩,
    ⟨(some 61), .call 12 [(.t 59), (.t 60)], some (58, false)⟩,
    ⟨(some 62), .ld (.t 10) 8 true, some (58, false)⟩,
    ⟨(some 63), .ld (.t 4) 2 true, some (58, false)⟩,
    ⟨(some 64), .call 13 [(.t 62), (.t 63)], some (58, false)⟩,
    ⟨(some 65), .bin .neq (.t 61) (.t 64), some (58, false)⟩,
    ⟨(some 66), .pick (.t 58) (.c (.bool true)) (.t 65), none⟩] [] []) <|
  .cond (.t 66) (.seq (.reg [⟨(some 6), .mov (.c (.bool false)), none⟩]) <|
  .ret) (.skip)) <|
  .seq (.reg [⟨(some 67), .iadda (.t 5) (.c (.int .i64 0)) 2 1, none⟩,
    ⟨(some 68), .ld (.t 67) 1 false, none⟩,
    ⟨(some 69), .bin .and (.t 68) (.c (.int .i64 255)), none⟩,
    ⟨(some 70), .iadda (.t 5) (.c (.int .i64 1)) 2 1, none⟩,
    ⟨(some 71), .ld (.t 70) 1 false, none⟩,
    ⟨(some 72), .bin .and (.t 71) (.c (.int .i64 7)), none⟩,
    ⟨(some 73), .bld [(.int .i64 0), (.int .i64 0)] [(0, 1, (.t 69)), (1, 1, (.t 72))], none⟩,
    ⟨(some 11), .alloc (.agg [(.int .i64 0), (.int .i64 0)]), none⟩,
    ⟨none, .st (.t 11) (.t 73) 2, none⟩]) <|
  .seq (.dreg [⟨(some 74), .ld (.t 8) 8 true, none⟩,
    ⟨(some 75), .ld (.t 9) 2 true, none⟩,
    ⟨(some 76), .ld (.t 5) 2 true, none⟩,
    ⟨(some 77), .call 14 [(.t 74), (.t 75), (.t 76)], none⟩,
    ⟨(some 78), .ld (.t 8) 8 true, none⟩,
    ⟨(some 79), .ld (.t 9) 2 true, none⟩,
    ⟨(some 80), .iadda (.t 5) (.c (.int .i64 0)) 2 1, none⟩,
    ⟨(some 81), .ld (.t 80) 1 false, none⟩,
    ⟨(some 82), .iadda (.t 5) (.c (.int .i64 1)) 2 1, none⟩,
    ⟨(some 83), .ld (.t 82) 1 false, none⟩,
    ⟨(some 84), .call 15 [(.t 78), (.t 79), (.t 81), (.t 83)], none⟩,
    ⟨(some 85), .eqv false true [.i, .i] (.t 77) (.t 84), none⟩,
    ⟨(some 86), .mov (.t 85), none⟩,
    ⟨(some 87), .ld (.t 8) 8 true, some (86, true)⟩,
    ⟨(some 88), .ld (.t 9) 2 true, some (86, true)⟩,
    ⟨(some 89), .ld (.t 11) 2 true, some (86, true)⟩,
    ⟨(some 90), .call 14 [(.t 87), (.t 88), (.t 89)], some (86, true)⟩,
    ⟨(some 91), .ld (.t 8) 8 true, some (86, true)⟩,
    ⟨(some 92), .ld (.t 9) 2 true, some (86, true)⟩,
    ⟨(some 93), .iadda (.t 11) (.c (.int .i64 0)) 2 1, some (86, true)⟩,
    ⟨(some 94), .ld (.t 93) 1 false, some (86, true)⟩,
    ⟨(some 95), .iadda (.t 11) (.c (.int .i64 1)) 2 1, some (86, true)⟩,
    ⟨(some 96), .ld (.t 95) 1 false, some (86, true)⟩,
    ⟨(some 97), .call 15 [(.t 91), (.t 92), (.t 94), (.t 96)], some (86, true)⟩,
    ⟨(some 98), .eqv false true [.i, .i] (.t 90) (.t 97), some (86, true)⟩,
    ⟨(some 99), .pick (.t 86) (.t 98) (.c (.bool false)), none⟩,
    ⟨(some 100), .mov (.t 99), none⟩,
    ⟨(some 101), .mov (.t 7), some (100, true)⟩,
    ⟨(some 102), .pick (.t 100) (.t 101) (.c (.bool false)), none⟩,
    ⟨(some 6), .mov (.t 102), none⟩] [] []) <|
  .ret,
  [.t 6]⟩
theorem F3_ok : cFn Tryd.prog true 3 loops3 (cDr Tryd.prog 103 tbl3) = some F3 := by kernel_rfl


def V3 (a0 : D) (a1 : D) (a2 : D) (h0 : Heap) (K : D → Heap → Prop) : Prop :=
  vhOp Tryd.prog (.box (.c a0)) h0 fun a4 h5 =>
  vhOp Tryd.prog (.box (.c a1)) h5 fun a6 h7 =>
  vhOp Tryd.prog (.box (.c a2)) h7 fun a8 h9 =>
  ACall Tryd.prog 9 [] h9 fun a10 h11 =>
  vun .not a10 fun a12 =>
  vcond a12 (K (.bool false) h11) (
  vhOp Tryd.prog (.fadd (.c a6) 1) h11 fun a13 h14 =>
  vhOp Tryd.prog (.ld (.c a13) 1 false) h14 fun a15 h16 =>
  vlen a15 h16 fun a17 =>
  vbin .gtr a17 (.int .i64 20) fun a18 =>
  vcond a18 (K a10 h16) (
  vhOp Tryd.prog (.ld (.c a4) 4 true) h16 fun a19 h20 =>
  ACall Tryd.prog 10 [a19] h20 fun a21 h22 =>
  vhOp Tryd.prog (.alloc (.agg [(.int .i64 0), (.int .i64 0), (.int .i64 0), (.int .i64 0), (.int .i64 0), .nil, .nil, .nil])) h22 fun a23 h24 =>
  vhOp Tryd.prog (.st (.c a23) (.c a21) 8) h24 fun a25 h26 =>
  vhOp Tryd.prog (.ld (.c a23) 8 true) h26 fun a27 h28 =>
  vhOp Tryd.prog (.iadda (.c a8) (.c (.int .i64 0)) 2 1) h28 fun a29 h30 =>
  vhOp Tryd.prog (.ld (.c a29) 1 false) h30 fun a31 h32 =>
  vbin .and a31 (.int .i64 3) fun a33 =>
  vhOp Tryd.prog (.conv .u8 (.c a33)) h32 fun a34 h35 =>
  vhOp Tryd.prog (.bld [(.int .u8 0), (.int .i8 0), (.int .i8 0), (.int .i8 0), (.int .i8 0), (.int .i8 0), (.int .i8 0), (.int .i8 0), (.int .i8 0), (.int .i8 0), (.int .i8 0), (.int .i8 0), (.int .i8 0)] [(0, 1, (.c a34))]) h35 fun a36 h37 =>
  ACall Tryd.prog 11 [a27, a36] h37 fun a38 h39 =>
  vhOp Tryd.prog (.alloc (.agg [(.int .i64 0), .nil])) h39 fun a40 h41 =>
  vhOp Tryd.prog (.st (.c a40) (.c a38) 2) h41 fun a42 h43 =>
  vhOp Tryd.prog (.ld (.c a23) 8 true) h43 fun a44 h45 =>
  vhOp Tryd.prog (.alloc (.agg [(.int .i64 0), (.int .i64 0), (.int .i64 0), (.int .i64 0), (.int .i64 0), .nil, .nil, .nil])) h45 fun a46 h47 =>
  vhOp Tryd.prog (.st (.c a46) (.c a44) 8) h47 fun a48 h49 =>
  vdOp Tryd.prog (.iadda (.c a8) (.c (.int .i64 0)) 2 1) h49 fun a50 =>
  vdOp Tryd.prog (.ld (.c a50) 1 false) h49 fun a51 =>
  vdOp Tryd.prog (.iadda (.c a8) (.c (.int .i64 1)) 2 1) h49 fun a52 =>
  vdOp Tryd.prog (.ld (.c a52) 1 false) h49 fun a53 =>
  vdOp Tryd.prog (.fadd (.c a46) 0) h49 fun a54 =>
  vdOp Tryd.prog (.fadd (.c a46) 1) h49 fun a55 =>
  vhOp Tryd.prog (.st (.c a54) (.c a51) 1) h49 fun a56 h57 =>
  ((vdOp Tryd.prog (.iadda (.c a8) (.c (.int .i64 1)) 2 1) h57 fun a58 => keq [a58] [a52]) ∧ (vdOp Tryd.prog (.ld (.c a52) 1 false) h57 fun a59 => keq [a59] [a53]) ∧ True) ∧
  vhOp Tryd.prog (.st (.c a55) (.c a53) 1) h57 fun a60 h61 =>
  ((vdOp Tryd.prog (.iadda (.c a8) (.c (.int .i64 1)) 2 1) h61 fun a62 => keq [a62] [a52]) ∧ (vdOp Tryd.prog (.ld (.c a52) 1 false) h61 fun a63 => keq [a63] [a53]) ∧ True) ∧
  vdOp Tryd.prog (.ld (.c a23) 8 true) h61 fun a64 =>
  vdOp Tryd.prog (.ld (.c a6) 2 true) h61 fun a65 =>
  vdOp Tryd.prog (.call 12 [(.c a64), (.c a65)]) h61 fun a66 =>
  vdOp Tryd.prog (.ld (.c a23) 8 true) h61 fun a67 =>
  vdOp Tryd.prog (.ld (.c a6) 2 true) h61 fun a68 =>
  vdOp Tryd.prog (.call 13 [(.c a67), (.c a68)]) h61 fun a69 =>
  vbin .neq a66 a69 fun a70 =>
  vguard1 a70 false (fun G71 =>
  vdOp Tryd.prog (.ld (.c a23) 8 true) h61 fun a256 =>
  G71 a256) fun a72 =>
  vguard1 a70 false (fun G75 =>
  vdOp Tryd.prog (.ld (.c a40) 2 true) h61 fun a255 =>
  G75 a255) fun a76 =>
  vguard1 a70 false (fun G79 =>
  vdOp Tryd.prog (.call 12 [(.c a72), (.c a76)]) h61 fun a254 =>
  G79 a254) fun a80 =>
  vguard1 a70 false (fun G83 =>
  vbin .neq a80 (.int .i64 0) fun a253 =>
  G83 a253) fun a84 =>
  vdOp Tryd.prog (.pick (.c a70) (.c (.bool true)) (.c a84)) h61 fun a87 =>
  vguard1 a87 false (fun G88 =>
  vdOp Tryd.prog (.ld (.c a46) 8 true) h61 fun a252 =>
  G88 a252) fun a89 =>
  vguard1 a87 false (fun G92 =>
  vdOp Tryd.prog (.ld (.c a40) 2 true) h61 fun a251 =>
  G92 a251) fun a93 =>
  vguard1 a87 false (fun G96 =>
  vdOp Tryd.prog (.call 12 [(.c a89), (.c a93)]) h61 fun a250 =>
  G96 a250) fun a97 =>
  vguard1 a87 false (fun G100 =>
  vdOp Tryd.prog (.ld (.c a46) 8 true) h61 fun a249 =>
  G100 a249) fun a101 =>
  vguard1 a87 false (fun G104 =>
  vdOp Tryd.prog (.ld (.c a40) 2 true) h61 fun a248 =>
  G104 a248) fun a105 =>
  vguard1 a87 false (fun G108 =>
  vdOp Tryd.prog (.call 13 [(.c a101), (.c a105)]) h61 fun a247 =>
  G108 a247) fun a109 =>
  vguard1 a87 false (fun G112 =>
  vbin .neq a97 a109 fun a246 =>
  G112 a246) fun a113 =>
  vdOp Tryd.prog (.pick (.c a87) (.c (.bool true)) (.c a113)) h61 fun a116 =>
  vguard1 a116 false (fun G117 =>
  vdOp Tryd.prog (.ld (.c a46) 8 true) h61 fun a245 =>
  G117 a245) fun a118 =>
  vguard1 a116 false (fun G121 =>
  vdOp Tryd.prog (.ld (.c a6) 2 true) h61 fun a244 =>
  G121 a244) fun a122 =>
  vguard1 a116 false (fun G125 =>
  vdOp Tryd.prog (.call 12 [(.c a118), (.c a122)]) h61 fun a243 =>
  G125 a243) fun a126 =>
  vguard1 a116 false (fun G129 =>
  vdOp Tryd.prog (.ld (.c a46) 8 true) h61 fun a242 =>
  G129 a242) fun a130 =>
  vguard1 a116 false (fun G133 =>
  vdOp Tryd.prog (.ld (.c a6) 2 true) h61 fun a241 =>
  G133 a241) fun a134 =>
  vguard1 a116 false (fun G137 =>
  vdOp Tryd.prog (.call 13 [(.c a130), (.c a134)]) h61 fun a240 =>
  G137 a240) fun a138 =>
  vguard1 a116 false (fun G141 =>
  vbin .neq a126 a138 fun a239 =>
  G141 a239) fun a142 =>
  vdOp Tryd.prog (.pick (.c a116) (.c (.bool true)) (.c a142)) h61 fun a145 =>
  vcond a145 (K (.bool false) h61) (
  vhOp Tryd.prog (.iadda (.c a8) (.c (.int .i64 0)) 2 1) h61 fun a146 h147 =>
  vhOp Tryd.prog (.ld (.c a146) 1 false) h147 fun a148 h149 =>
  vbin .and a148 (.int .i64 255) fun a150 =>
  vhOp Tryd.prog (.iadda (.c a8) (.c (.int .i64 1)) 2 1) h149 fun a151 h152 =>
  vhOp Tryd.prog (.ld (.c a151) 1 false) h152 fun a153 h154 =>
  vbin .and a153 (.int .i64 7) fun a155 =>
  vhOp Tryd.prog (.bld [(.int .i64 0), (.int .i64 0)] [(0, 1, (.c a150)), (1, 1, (.c a155))]) h154 fun a156 h157 =>
  vhOp Tryd.prog (.alloc (.agg [(.int .i64 0), (.int .i64 0)])) h157 fun a158 h159 =>
  vhOp Tryd.prog (.st (.c a158) (.c a156) 2) h159 fun a160 h161 =>
  vdOp Tryd.prog (.ld (.c a23) 8 true) h161 fun a162 =>
  vdOp Tryd.prog (.ld (.c a40) 2 true) h161 fun a163 =>
  vdOp Tryd.prog (.ld (.c a8) 2 true) h161 fun a164 =>
  vdOp Tryd.prog (.call 14 [(.c a162), (.c a163), (.c a164)]) h161 fun a165 =>
  vdOp Tryd.prog (.ld (.c a23) 8 true) h161 fun a166 =>
  vdOp Tryd.prog (.ld (.c a40) 2 true) h161 fun a167 =>
  vdOp Tryd.prog (.iadda (.c a8) (.c (.int .i64 0)) 2 1) h161 fun a168 =>
  vdOp Tryd.prog (.ld (.c a168) 1 false) h161 fun a169 =>
  vdOp Tryd.prog (.iadda (.c a8) (.c (.int .i64 1)) 2 1) h161 fun a170 =>
  vdOp Tryd.prog (.ld (.c a170) 1 false) h161 fun a171 =>
  vdOp Tryd.prog (.call 15 [(.c a166), (.c a167), (.c a169), (.c a171)]) h161 fun a172 =>
  vdOp Tryd.prog (.eqv false true [.i, .i] (.c a165) (.c a172)) h161 fun a173 =>
  vguard1 a173 true (fun G174 =>
  vdOp Tryd.prog (.ld (.c a23) 8 true) h161 fun a238 =>
  G174 a238) fun a175 =>
  vguard1 a173 true (fun G178 =>
  vdOp Tryd.prog (.ld (.c a40) 2 true) h161 fun a237 =>
  G178 a237) fun a179 =>
  vguard1 a173 true (fun G182 =>
  vdOp Tryd.prog (.ld (.c a158) 2 true) h161 fun a236 =>
  G182 a236) fun a183 =>
  vguard1 a173 true (fun G186 =>
  vdOp Tryd.prog (.call 14 [(.c a175), (.c a179), (.c a183)]) h161 fun a235 =>
  G186 a235) fun a187 =>
  vguard1 a173 true (fun G190 =>
  vdOp Tryd.prog (.ld (.c a23) 8 true) h161 fun a234 =>
  G190 a234) fun a191 =>
  vguard1 a173 true (fun G194 =>
  vdOp Tryd.prog (.ld (.c a40) 2 true) h161 fun a233 =>
  G194 a233) fun a195 =>
  vguard1 a173 true (fun G198 =>
  vdOp Tryd.prog (.iadda (.c a158) (.c (.int .i64 0)) 2 1) h161 fun a232 =>
  G198 a232) fun a199 =>
  vguard1 a173 true (fun G202 =>
  vdOp Tryd.prog (.ld (.c a199) 1 false) h161 fun a231 =>
  G202 a231) fun a203 =>
  vguard1 a173 true (fun G206 =>
  vdOp Tryd.prog (.iadda (.c a158) (.c (.int .i64 1)) 2 1) h161 fun a230 =>
  G206 a230) fun a207 =>
  vguard1 a173 true (fun G210 =>
  vdOp Tryd.prog (.ld (.c a207) 1 false) h161 fun a229 =>
  G210 a229) fun a211 =>
  vguard1 a173 true (fun G214 =>
  vdOp Tryd.prog (.call 15 [(.c a191), (.c a195), (.c a203), (.c a211)]) h161 fun a228 =>
  G214 a228) fun a215 =>
  vguard1 a173 true (fun G218 =>
  vdOp Tryd.prog (.eqv false true [.i, .i] (.c a187) (.c a215)) h161 fun a227 =>
  G218 a227) fun a219 =>
  vdOp Tryd.prog (.pick (.c a173) (.c a219) (.c (.bool false))) h161 fun a222 =>
  vguard1 a222 true (fun G223 =>
  G223 a10) fun a224 =>
  vdOp Tryd.prog (.pick (.c a222) (.c a224) (.c (.bool false))) h161 fun a226 =>
  K a226 h161)))
theorem V3_ok (a0 : D) (a1 : D) (a2 : D) (h0 : Heap) (K : D → Heap → Prop) : V3 a0 a1 a2 h0 K = vcC Tryd.prog F3.code (fun x e h' => match x with | .exit _ => False | _ => vcRet Tryd.prog F3.res K e h') (params [a0, a1, a2] 0) h0 := by kernel_rfl

/-- warpwright/warpwrightlaw04.LaunchNumbers -/
def loops4 : Nat → Option (List Nat × List Nat)
  | 1000017 => some ([7, 8, 9, 10, 11], [12]) | 10 => some ([7, 8, 9, 10, 11], [12, 13]) | _ => none
def tbl4 : Nat → Option (List Nat × List Nat × List Nat)
  | 17 => some ([0, 1, 3, 0, 15, 31, 63, 127, 255, 63, 1023, 2047, 4095, 8191, 16383, 32767, 8191, 131071, 262143, 524287, 1048575, 2097151, 4194303, 1048575, 16777215, 33554431, 67108863, 134217727, 268435455, 536870911, 134217727, 1207959551, 4294967295, 8589934591, 17179869183, 34359738367, 68719476735, 137438953471, 34359738367, 309237645311, 858993459199, 2199023255551, 34359738367, 4432406249471, 13228499271679, 35184372088831, 34359738367, 140737488355327, 281474976710655, 562949953421311, 1125899906842623, 2251799813685247, 4503599627370495, 1125899906842623, 10133099161583615, 36028797018963967, 1125899906842623, 73183493944770559, 217298682020626431, 576460752303423487, 1125899906842623, 1154047404513689599, 3459890413727383551, 9223372036854775807, 18446744073709551615], [], []) | 19 => some ([0, 1, 3, 7, 15, 31, 63, 127, 31, 287, 1023, 2047, 4095, 8191, 16383, 32767, 65535, 131071, 262143, 524287, 1048575, 2097151, 524287, 4718591, 16777215, 33554431, 67108863, 134217727, 268435455, 536870911, 1073741823, 2147483647, 4294967295, 8589934591, 17179869183, 34359738367, 8589934591, 77309411327, 274877906943, 549755813887, 1099511627775, 2199023255551, 2199023255551, 2199023255551, 10995116277759, 35184372088831, 70368744177663, 140737488355327, 281474976710655, 562949953421311, 1125899906842623, 1125899906842623, 1125899906842623, 9007199254740991, 18014398509481983, 36028797018963967, 72057594037927935, 144115188075855871, 288230376151711743, 576460752303423487, 1152921504606846975], [], []) | _ => none
def F4 : AFunc := ⟨186,
  .seq (.reg [⟨(some 3), .box (.t 0), none⟩,
    ⟨(some 6), .mov (.c (.bool false)), none⟩]) <|
  .seq (.reg [⟨(some 17), .call 9 [], none⟩,
    ⟨(some 7), .mov (.t 17), none⟩]) <|
  .seq (.seq (.reg [⟨(some 18), .mov (.t 7), none⟩,
    ⟨(some 19), .un .not (.t 18), none⟩]) <|
  .cond (.t 19) (.seq (.reg [⟨(some 6), .mov (.c (.bool false)), none⟩]) <|
  .ret) (.skip)) <|
  .seq (.reg [⟨(some 20), .ld (.t 3) 4 true, none⟩,
    ⟨(some 21), .call 10 [(.t 20)], none⟩,
    ⟨(some 8), .alloc (.agg [(.int .i64 0), (.int .i64 0), (.int .i64 0), (.int .i64 0), (.int .i64 0), .nil, .nil, .nil]), none⟩,
    ⟨none, .st (.t 8) (.t 21) 8, none⟩]) <|
  .seq (.reg [⟨(some 22), .ld (.t 8) 8 true, none⟩,
    ⟨(some 23), .mov (.t 1), none⟩,
    ⟨(some 24), .bld [(.int .u8 0), (.int .i8 0), (.int .i8 0), (.int .i8 0), (.int .i8 0), (.int .i8 0), (.int .i8 0), (.int .i8 0), (.int .i8 0), (.int .i8 0), (.int .i8 0), (.int .i8 0), (.int .i8 0)] [(0, 1, (.t 23))], none⟩,
    ⟨(some 25), .call 11 [(.t 22), (.t 24)], none⟩,
    ⟨(some 9), .alloc (.agg [(.int .i64 0), .nil]), none⟩,
    ⟨none, .st (.t 9) (.t 25) 2, none⟩]) <|
  .seq (.reg [⟨(some 26), .fadd (.t 9) 0, none⟩,
    ⟨(some 27), .ld (.t 26) 1 false, none⟩,
    ⟨(some 28), .fadd (.t 8) 0, none⟩,
    ⟨(some 29), .ld (.t 28) 1 false, none⟩,
    ⟨(some 30), .bin .mul (.t 27) (.t 29), none⟩,
    ⟨(some 10), .mov (.t 30), none⟩]) <|
  .seq (.reg [⟨(some 31), .mov (.t 2), none⟩,
    ⟨(some 32), .conv .i64 (.t 31), none⟩,
    ⟨(some 33), .mov (.t 10), none⟩,
    ⟨(some 34), .bin .rem (.t 32) (.t 33), none⟩,
    ⟨(some 11), .mov (.t 34), none⟩]) <|
  .seq (.reg [⟨(some 35), .bldS true 1 0 (.int .i64 0) [], none⟩,
    ⟨(some 12), .mov (.t 35), none⟩]) <|
  .seqj [7, 8, 9, 10, 11] [12] (.seq (.reg [⟨(some 13), .mov (.c (.int .i64 1)), none⟩]) <|
  .block 0 (.loop [7, 8, 9, 10, 11] [12, 13] (.seq (.seq (.reg [⟨(some 36), .mov (.t 13), none⟩,
    ⟨(some 37), .bin .leq (.t 36) (.c (.int .i64 7)), none⟩]) <|
  .cond (.t 37) (.skip) (.exit 0)) <|
  .seq (.block 1 (.seq (.reg [⟨(some 40), .ld (.t 8) 8 true, none⟩,
    ⟨(some 41), .ld (.t 9) 2 true, none⟩,
    ⟨(some 42), .mov (.t 11), none⟩,
    ⟨(some 43), .mov (.t 13), none⟩,
    ⟨(some 44), .bld [(.int .i64 0), (.int .i64 0)] [(0, 1, (.t 42)), (1, 1, (.t 43))], none⟩,
    ⟨(some 45), .call 14 [(.t 40), (.t 41), (.t 44)], none⟩,
    ⟨(some 14), .alloc (.agg [(.int .i32 0), (.int .i64 0)]), none⟩,
    ⟨none, .st (.t 14) (.t 45) 2, none⟩]) <|
  .seq (.seq (.reg [⟨(some 46), .fadd (.t 14) 1, none⟩,
    ⟨(some 47), .ld (.t 46) 1 false, none⟩,
    ⟨(some 48), .bin .neq (.t 47) (.c (.int .i64 0)), none⟩]) <|
  .cond (.t 48) (.seq (.reg [⟨(some 6), .mov (.c (.bool false)), none⟩]) <|
  .ret) (.skip)) <|
  .reg [⟨(some 49), .mov (.t 12), none⟩,
    ⟨(some 50), .fadd (.t 14) 0, none⟩,
    ⟨(some 51), .ld (.t 50) 1 false, none⟩,
    ⟨(some 52), .conv .i64 (.t 51), none⟩,
    ⟨(some 53), .bldS true 1 1 (.int .i64 0) [(0, (.t 52))], none⟩,
    ⟨(some 54), .app (.t 49) (.t 53) 1 8 (.int .i64 0), none⟩,
    ⟨(some 12), .mov (.t 54), none⟩])) <|
  .reg [⟨(some 38), .mov (.t 13), none⟩,
    ⟨(some 39), .bin .add (.t 38) (.c (.int .i64 1)), none⟩,
    ⟨(some 13), .mov (.t 39), none⟩]))) <|
  .seq (.reg [⟨(some 56), .ld (.t 8) 8 true, none⟩,
    ⟨(some 57), .mov (.t 11), none⟩,
    ⟨(some 58), .call 16 [(.t 56), (.t 57)], none⟩,
    ⟨(some 55), .mov (.t 58), none⟩,
    ⟨(some 59), .ext (.t 55) 0, none⟩,
    ⟨(some 60), .ext (.t 55) 1, none⟩,
    ⟨(some 15), .mov (.t 59), none⟩,
    ⟨(some 16), .mov (.t 60), none⟩]) <|
  .seq (.seq (.dreg [⟨(some 61), .mov (.t 12), none⟩,
    ⟨(some 62), .iadd (.t 61) (.c (.int .i64 0)) 1, none⟩,
    ⟨(some 63), .ld (.t 62) 1 false, none⟩,
    ⟨(some 64), .mov (.t 11), none⟩,
    ⟨(some 65), .bin .neq (.t 63) (.t 64), none⟩,
    ⟨(some 66), .mov (.t 65), none⟩,
    ⟨(some 67), .mov (.t 12), some (66, false)⟩,
    ⟨(some 68), .iadd (.t 67) (.c (.int .i64 1)) 1, some (66, false)⟩,
    ⟨(some 69), .ld (.t 68) 1 false, some (66, false)⟩,
    ⟨(some 70), .mov (.t 16), some (66, false)⟩,
    ⟨(some 71), .bin .neq (.t 69) (.t 70), some (66, false)⟩,
    ⟨(some 72), .pick (.t 66) (.c (.bool true)) (.t 71), none⟩,
    ⟨(some 73), .mov (.t 72), none⟩,
    ⟨(some 74), .mov (.t 12), some (73, false)⟩,
    ⟨(some 75), .iadd (.t 74) (.c (.int .i64 2)) 1, some (73, false)⟩,
    ⟨(some 76), .ld (.t 75) 1 false, some (73, false)⟩,
    ⟨(some 77), .mov (.t 15), some (73, false)⟩,
    ⟨(some 78), .bin .neq (.t 76) (.t 77), some (73, false)⟩,
    ⟨(some 79), .pick (.t 73) (.c (.bool true)) (.t 78), none⟩,
    ⟨(some 80), .mov (.t 79), none⟩,
    ⟨(some 81), .mov (.t 12), some (80, false)⟩,
    ⟨(some 82), .iadd (.t 81) (.c (.int .i64 3)) 1, some (80, false)⟩,
    ⟨(some 83), .ld (.t 82) 1 false, some (80, false)⟩,
    ⟨(some 84), .mov (.t 10), some (80, false)⟩,
    ⟨(some 85), .bin .neq (.t 83) (.t 84), some (80, false)⟩,
    ⟨(some 86), .pick (.t 80) (.c (.bool true)) (.t 85), none⟩,
    ⟨(some 87), .mov (.t 86), none⟩,
    ⟨(some 88), .mov (.t 12), some (87, false)⟩,
    ⟨(some 89), .iadd (.t 88) (.c (.int .i64 4)) 1, some (87, false)⟩,
    ⟨(some 90), .ld (.t 89) 1 false, some (87, false)⟩,
    ⟨(some 91), .fadd (.t 8) 0, some (87, false)⟩,
    ⟨(some 92), .ld (.t 91) 1 false, some (87, false)⟩,
    ⟨(some 93), .bin .neq (.t 90) (.t 92), some (87, false)⟩,
    ⟨(some 94), .pick (.t 87) (.c (.bool true)) (.t 93), none⟩,
    ⟨(some 95), .mov (.t 94), none⟩,
    ⟨(some 96), .mov (.t 12), some (95, false)⟩,
    ⟨(some 97), .iadd (.t 96) (.c (.int .i64 2)) 1, some (95, false)⟩,
    ⟨(some 98), .ld (.t 97) 1 false, some (95, false)⟩,
    ⟨(some 99), .mov (.t 12), some (95, false)⟩,
    ⟨(some 100), .iadd (.t 99) (.c (.int .i64 4)) 1, some (95, false)⟩,
    ⟨(some 101), .ld (.t 100) 1 false, some (95, false)⟩,
    ⟨(some 102), .bin .mul (.t 98) (.t 101), some (95, false)⟩,
    ⟨(some 103), .mov (.t 12), some (95, false)⟩,
    ⟨(some 104), .iadd (.t 103) (.c (.int .i64 1)) 1, some (95, false)⟩,
    ⟨(some 105), .ld (.t 104) 1 false, some (95, false)⟩,
    ⟨(some 106), .bin .add (.t 102) (.t 105), some (95, false)⟩,
    ⟨(some 107), .mov (.t 11), some (95, false)⟩,
    ⟨(some 108), .bin .neq (.t 106) (.t 107), some (95, false)⟩,
    ⟨(some 109), .pick (.t 95) (.c (.bool true)) (.t 108), none⟩,
    ⟨(some 110), .mov (.t 109), none⟩,
    ⟨(some 111), .mov (.t 12), some (110, false)⟩,
    ⟨(some 112), .iadd (.t 111) (.c (.int .i64 6)) 1, some (110, false)⟩,
    ⟨(some 113), .ld (.t 112) 1 false, some (110, false)⟩,
    ⟨(some 114), .fadd (.t 8) 1, some (110, false)⟩,
    ⟨(some 115), .ld (.t 114) 1 false, some (110, false)⟩,
    ⟨(some 116), .bin .mul (.t 113) (.t 115), some (110, false)⟩,
    ⟨(some 117), .mov (.t 12), some (110, false)⟩,
    ⟨(some 118), .iadd (.t 117) (.c (.int .i64 5)) 1, some (110, false)⟩,
    ⟨(some 119), .ld (.t 118) 1 false, some (110, false)⟩,
    ⟨(some 120), .bin .add (.t 116) (.t 119), some (110, false)⟩,
    ⟨(some 121), .mov (.t 12), some (110, false)⟩,
    ⟨(some 122), .iadd (.t 121) (.c (.int .i64 1)) 1, some (110, false)⟩,
    ⟨(some 123), .ld (.t 122) 1 false, some (110, false)⟩,
    ⟨(some 124), .bin .neq (.t 120) (.t 123), some (110, false)⟩,
    ⟨(some 125), .pick (.t 110) (.c (.bool true)) (.t 124), none⟩] [] []) <|
  .cond (.t 125) (.seq (.reg [⟨(some 6), .mov (.c (.bool false)), none⟩]) <|
  .ret) (.skip)) <|
  .seq (.dreg [⟨(some 126), .mov (.t 12), none⟩,
    ⟨(some 127), .iadd (.t 126) (.c (.int .i64 1)) 1, none⟩,
    ⟨(some 128), .ld (.t 127) 1 false, none⟩,
    ⟨(some 129), .bin .geq (.t 128) (.c (.int .i64 0)), none⟩,
    ⟨(some 130), .mov (.t 129), none⟩,
    ⟨(some 131), .mov (.t 12), some (130, true)⟩,
    ⟨(some 132), .iadd (.t 131) (.c (.int .i64 1)) 1, some (130, true)⟩,
    ⟨(some 133), .ld (.t 132) 1 false, some (130, true)⟩,
    ⟨(some 134), .fadd (.t 8) 0, some (130, true)⟩,
    ⟨(some 135), .ld (.t 134) 1 false, some (130, true)⟩,
    ⟨(some 136), .bin .lss (.t 133) (.t 135), some (130, true)⟩,
    ⟨(some 137), .pick (.t 130) (.t 136) (.c (.bool false)), none⟩,
    ⟨(some 138), .mov (.t 137), none⟩,
    ⟨(some 139), .mov (.t 12), some (138, true)⟩,
    ⟨(some 140), .iadd (.t 139) (.c (.int .i64 5)) 1, some (138, true)⟩,
    ⟨(some 141), .ld (.t 140) 1 false, some (138, true)⟩,
    ⟨(some 142), .bin .geq (.t 141) (.c (.int .i64 0)), some (138, true)⟩,
    ⟨(some 143), .pick (.t 138) (.t 142) (.c (.bool false)), none⟩,
    ⟨(some 144), .mov (.t 143), none⟩,
    ⟨(some 145), .mov (.t 12), some (144, true)⟩,
    ⟨(some 146), .iadd (.t 145) (.c (.int .i64 5)) 1, some (144, true)⟩,
    ⟨(some 147), .ld (.t 146) 1 false, some (144, true)⟩,
    ⟨(some 148), .fadd (.t 8) 1, some (144, true)⟩,
    ⟨(some 149), .ld (.t 148) 1 false, some (144, true)⟩,
    ⟨(some 150), .bin .lss (.t 147) (.t 149), some (144, true)⟩,
    ⟨(some 151), .pick (.t 144) (.t 150) (.c (.bool false)), none⟩,
    ⟨(some 152), .mov (.t 151), none⟩,
    ⟨(some 153), .mov (.t 12), some (152, true)⟩,
    ⟨(some 154), .iadd (.t 153) (.c (.int .i64 2)) 1, some (152, true)⟩,
    ⟨(some 155), .ld (.t 154) 1 false, some (152, true)⟩,
    ⟨(some 156), .bin .geq (.t 155) (.c (.int .i64 0)), some (152, true)⟩,
    ⟨(some 157), .pick (.t 152) (.t 156) (.c (.bool false)), none⟩,
    ⟨(some 158), .mov (.t 157), none⟩,
    ⟨(some 159), .mov (.t 12), some (158, true)⟩,
    ⟨(some 160), .iadd (.t 159) (.c (.int .i64 2)) 1, some (158, true)⟩,
    ⟨(some 161), .ld (.t 160) 1 false, some (158, true)⟩,
    ⟨(some 162), .fadd (.t 9) 0, some (158, true)⟩,
    ⟨(some 163), .ld (.t 162) 1 false, some (158, true)⟩,
    ⟨(some 164), .bin .lss (.t 161) (.t 163), some (158, true)⟩,
    ⟨(some 165), .pick (.t 158) (.t 164) (.c (.bool false)), none⟩,
    ⟨(some 166), .mov (.t 165), none⟩,
    ⟨(some 167), .ld (.t 8) 8 true, some (166, true)⟩,
    ⟨(some 168), .ld (.t 9) 2 true, some (166, true)⟩,
    ⟨(some 169), .mov (.t 10), some (166, true)⟩,
    ⟨(some 170), .bld [(.int .i64 0), (.int .i64 0)] [(0, 1, (.t 169)), (1, 1, (.c (.int .i64 1)))], some (166, true)⟩,
    ⟨(some 171), .call 14 [(.t 167), (.t 168), (.t 170)], some (166, true)⟩,
    ⟨(some 172), .fld (.t 171) 1 1 false, some (166, true)⟩,
    ⟨(some 173), .bin .eql (.t 172) (.c (.int .i64 1)), some (166, true)⟩,
    ⟨(some 174), .pick (.t 166) (.t 173) (.c (.bool false)), none⟩,
    ⟨(some 175), .mov (.t 174), none⟩,
    ⟨(some 176), .ld (.t 8) 8 true, some (175, true)⟩,
    ⟨(some 177), .ld (.t 9) 2 true, some (175, true)⟩,
    ⟨(some 178), .bld [(.int .i64 0), (.int .i64 0)] [(0, 1, (.c (.int .i64 (-1)))), (1, 1, (.c (.int .i64 1)))], some (175, true)⟩,
    ⟨(some 179), .call 14 [(.t 176), (.t 177), (.t 178)], some (175, true)⟩,
    ⟨(some 180), .fld (.t 179) 1 1 false, some (175, true)⟩,
    ⟨(some 181), .bin .eql (.t 180) (.c (.int .i64 1)), some (175, true)⟩,
    ⟨(some 182), .pick (.t 175) (.t 181) (.c (.bool false)), none⟩,
    ⟨(some 183), .mov (.t 182), none⟩,
    ⟨(some 184), .mov (.t 7), some (183, true)⟩,
    ⟨(some 185), .pick (.t 183) (.t 184) (.c (.bool false)), none⟩,
    ⟨(some 6), .mov (.t 185), none⟩] [] []) <|
  .ret,
  [.t 6]⟩
theorem F4_ok : cFn Tryd.prog true 4 loops4 (cDr Tryd.prog 186 tbl4) = some F4 := by kernel_rfl

def V4_L0 (a39 : D) (h40 : Heap) (a13 : D) (a23 : D) (a38 : D) (a6 : D) (a35 : D) (J41 : List D → Heap → Prop) (K : D → Heap → Prop) : Prop :=
  ∃ (I470 : Nat → List D → Heap → Prop) (n₀ : Nat), I470 n₀ [a39, (.int .i64 1)] h40 ∧ ∀ (n471 : Nat) (f472 : Nat → D) (h473 : Heap), I470 n471 [f472 12, f472 13] h473 →
  vbin .leq (f472 13) (.int .i64 7) fun a474 =>
  vcond a474 (vhOp Tryd.prog (.ld (.c a13) 8 true) h473 fun a475 h476 =>
  vhOp Tryd.prog (.ld (.c a23) 2 true) h476 fun a477 h478 =>
  vhOp Tryd.prog (.bld [(.int .i64 0), (.int .i64 0)] [(0, 1, (.c a38)), (1, 1, (.c (f472 13)))]) h478 fun a479 h480 =>
  ACall Tryd.prog 14 [a475, a477, a479] h480 fun a481 h482 =>
  vhOp Tryd.prog (.alloc (.agg [(.int .i32 0), (.int .i64 0)])) h482 fun a483 h484 =>
  vhOp Tryd.prog (.st (.c a483) (.c a481) 2) h484 fun a485 h486 =>
  vhOp Tryd.prog (.fadd (.c a483) 1) h486 fun a487 h488 =>
  vhOp Tryd.prog (.ld (.c a487) 1 false) h488 fun a489 h490 =>
  vbin .neq a489 (.int .i64 0) fun a491 =>
  vcond a491 (K (.bool false) h490) (
  vhOp Tryd.prog (.fadd (.c a483) 0) h490 fun a492 h493 =>
  vhOp Tryd.prog (.ld (.c a492) 1 false) h493 fun a494 h495 =>
  vhOp Tryd.prog (.conv .i64 (.c a494)) h495 fun a496 h497 =>
  vhOp Tryd.prog (.bldS true 1 1 (.int .i64 0) [(0, (.c a496))]) h497 fun a498 h499 =>
  vhOp Tryd.prog (.app (.c (f472 12)) (.c a498) 1 8 (.int .i64 0)) h499 fun a500 h501 =>
  vbin .add (f472 13) (.int .i64 1) fun a502 =>
  keq [a6, a13, a23, a35, a38] [a6, a13, a23, a35, a38] ∧ ∃ m, m < n471 ∧ I470 m [a500, a502] h501)) (
  keq [a6, a13, a23, a35, a38] [a6, a13, a23, a35, a38] ∧ J41 [(f472 12)] h473)
def V4 (a0 : D) (a1 : D) (a2 : D) (h0 : Heap) (K : D → Heap → Prop) : Prop :=
  vhOp Tryd.prog (.box (.c a0)) h0 fun a4 h5 =>
  ACall Tryd.prog 9 [] h5 fun a6 h7 =>
  vun .not a6 fun a8 =>
  vcond a8 (K (.bool false) h7) (
  vhOp Tryd.prog (.ld (.c a4) 4 true) h7 fun a9 h10 =>
  ACall Tryd.prog 10 [a9] h10 fun a11 h12 =>
  vhOp Tryd.prog (.alloc (.agg [(.int .i64 0), (.int .i64 0), (.int .i64 0), (.int .i64 0), (.int .i64 0), .nil, .nil, .nil])) h12 fun a13 h14 =>
  vhOp Tryd.prog (.st (.c a13) (.c a11) 8) h14 fun a15 h16 =>
  vhOp Tryd.prog (.ld (.c a13) 8 true) h16 fun a17 h18 =>
  vhOp Tryd.prog (.bld [(.int .u8 0), (.int .i8 0), (.int .i8 0), (.int .i8 0), (.int .i8 0), (.int .i8 0), (.int .i8 0), (.int .i8 0), (.int .i8 0), (.int .i8 0), (.int .i8 0), (.int .i8 0), (.int .i8 0)] [(0, 1, (.c a1))]) h18 fun a19 h20 =>
  ACall Tryd.prog 11 [a17, a19] h20 fun a21 h22 =>
  vhOp Tryd.prog (.alloc (.agg [(.int .i64 0), .nil])) h22 fun a23 h24 =>
  vhOp Tryd.prog (.st (.c a23) (.c a21) 2) h24 fun a25 h26 =>
  vhOp Tryd.prog (.fadd (.c a23) 0) h26 fun a27 h28 =>
  vhOp Tryd.prog (.ld (.c a27) 1 false) h28 fun a29 h30 =>
  vhOp Tryd.prog (.fadd (.c a13) 0) h30 fun a31 h32 =>
  vhOp Tryd.prog (.ld (.c a31) 1 false) h32 fun a33 h34 =>
  vbin .mul a29 a33 fun a35 =>
  vhOp Tryd.prog (.conv .i64 (.c a2)) h34 fun a36 h37 =>
  vbin .rem a36 a35 fun a38 =>
  vhOp Tryd.prog (.bldS true 1 0 (.int .i64 0) []) h37 fun a39 h40 =>
  ∃ (J41 : List D → Heap → Prop), (∀ (f42 : Nat → D) (h43 : Heap), J41 [f42 12] h43 →
  vhOp Tryd.prog (.ld (.c a13) 8 true) h43 fun a44 h45 =>
  ACall Tryd.prog 16 [a44, a38] h45 fun a46 h47 =>
  vhOp Tryd.prog (.ext (.c a46) 0) h47 fun a48 h49 =>
  vhOp Tryd.prog (.ext (.c a46) 1) h49 fun a50 h51 =>
  vdOp Tryd.prog (.iadd (.c (f42 12)) (.c (.int .i64 0)) 1) h51 fun a52 =>
  vdOp Tryd.prog (.ld (.c a52) 1 false) h51 fun a53 =>
  vbin .neq a53 a38 fun a54 =>
  vguard1 a54 false (fun G55 =>
  G55 (f42 12)) fun a56 =>
  vguard1 a54 false (fun G58 =>
  vdOp Tryd.prog (.iadd (.c a56) (.c (.int .i64 1)) 1) h51 fun a469 =>
  G58 a469) fun a59 =>
  vguard1 a54 false (fun G62 =>
  vdOp Tryd.prog (.ld (.c a59) 1 false) h51 fun a468 =>
  G62 a468) fun a63 =>
  vguard1 a54 false (fun G66 =>
  G66 a50) fun a67 =>
  vguard1 a54 false (fun G69 =>
  vbin .neq a63 a67 fun a467 =>
  G69 a467) fun a70 =>
  vdOp Tryd.prog (.pick (.c a54) (.c (.bool true)) (.c a70)) h51 fun a73 =>
  vguard1 a73 false (fun G74 =>
  G74 (f42 12)) fun a75 =>
  vguard1 a73 false (fun G77 =>
  vdOp Tryd.prog (.iadd (.c a75) (.c (.int .i64 2)) 1) h51 fun a466 =>
  G77 a466) fun a78 =>
  vguard1 a73 false (fun G81 =>
  vdOp Tryd.prog (.ld (.c a78) 1 false) h51 fun a465 =>
  G81 a465) fun a82 =>
  vguard1 a73 false (fun G85 =>
  G85 a48) fun a86 =>
  vguard1 a73 false (fun G88 =>
  vbin .neq a82 a86 fun a464 =>
  G88 a464) fun a89 =>
  vdOp Tryd.prog (.pick (.c a73) (.c (.bool true)) (.c a89)) h51 fun a92 =>
  vguard1 a92 false (fun G93 =>
  G93 (f42 12)) fun a94 =>
  vguard1 a92 false (fun G96 =>
  vdOp Tryd.prog (.iadd (.c a94) (.c (.int .i64 3)) 1) h51 fun a463 =>
  G96 a463) fun a97 =>
  vguard1 a92 false (fun G100 =>
  vdOp Tryd.prog (.ld (.c a97) 1 false) h51 fun a462 =>
  G100 a462) fun a101 =>
  vguard1 a92 false (fun G104 =>
  G104 a35) fun a105 =>
  vguard1 a92 false (fun G107 =>
  vbin .neq a101 a105 fun a461 =>
  G107 a461) fun a108 =>
  vdOp Tryd.prog (.pick (.c a92) (.c (.bool true)) (.c a108)) h51 fun a111 =>
  vguard1 a111 false (fun G112 =>
  G112 (f42 12)) fun a113 =>
  vguard1 a111 false (fun G115 =>
  vdOp Tryd.prog (.iadd (.c a113) (.c (.int .i64 4)) 1) h51 fun a460 =>
  G115 a460) fun a116 =>
  vguard1 a111 false (fun G119 =>
  vdOp Tryd.prog (.ld (.c a116) 1 false) h51 fun a459 =>
  G119 a459) fun a120 =>
  vguard1 a111 false (fun G123 =>
  vdOp Tryd.prog (.fadd (.c a13) 0) h51 fun a458 =>
  G123 a458) fun a124 =>
  vguard1 a111 false (fun G127 =>
  vdOp Tryd.prog (.ld (.c a124) 1 false) h51 fun a457 =>
  G127 a457) fun a128 =>
  vguard1 a111 false (fun G131 =>
  vbin .neq a120 a128 fun a456 =>
  G131 a456) fun a132 =>
  vdOp Tryd.prog (.pick (.c a111) (.c (.bool true)) (.c a132)) h51 fun a135 =>
  vguard1 a135 false (fun G136 =>
  G136 (f42 12)) fun a137 =>
  vguard1 a135 false (fun G139 =>
  vdOp Tryd.prog (.iadd (.c a137) (.c (.int .i64 2)) 1) h51 fun a455 =>
  G139 a455) fun a140 =>
  vguard1 a135 false (fun G143 =>
  vdOp Tryd.prog (.ld (.c a140) 1 false) h51 fun a454 =>
  G143 a454) fun a144 =>
  vguard1 a135 false (fun G147 =>
  G147 (f42 12)) fun a148 =>
  vguard1 a135 false (fun G150 =>
  vdOp Tryd.prog (.iadd (.c a148) (.c (.int .i64 4)) 1) h51 fun a453 =>
  G150 a453) fun a151 =>
  vguard1 a135 false (fun G154 =>
  vdOp Tryd.prog (.ld (.c a151) 1 false) h51 fun a452 =>
  G154 a452) fun a155 =>
  vguard1 a135 false (fun G158 =>
  vbin .mul a144 a155 fun a451 =>
  G158 a451) fun a159 =>
  vguard1 a135 false (fun G162 =>
  G162 (f42 12)) fun a163 =>
  vguard1 a135 false (fun G165 =>
  vdOp Tryd.prog (.iadd (.c a163) (.c (.int .i64 1)) 1) h51 fun a450 =>
  G165 a450) fun a166 =>
  vguard1 a135 false (fun G169 =>
  vdOp Tryd.prog (.ld (.c a166) 1 false) h51 fun a449 =>
  G169 a449) fun a170 =>
  vguard1 a135 false (fun G173 =>
  vbin .add a159 a170 fun a448 =>
  G173 a448) fun a174 =>
  vguard1 a135 false (fun G177 =>
  G177 a38) fun a178 =>
  vguard1 a135 false (fun G180 =>
  vbin .neq a174 a178 fun a447 =>
  G180 a447) fun a181 =>
  vdOp Tryd.prog (.pick (.c a135) (.c (.bool true)) (.c a181)) h51 fun a184 =>
  vguard1 a184 false (fun G185 =>
  G185 (f42 12)) fun a186 =>
  vguard1 a184 false (fun G188 =>
  vdOp Tryd.prog (.iadd (.c a186) (.c (.int .i64 6)) 1) h51 fun a446 =>
  G188 a446) fun a189 =>
  vguard1 a184 false (fun G192 =>
  vdOp Tryd.prog (.ld (.c a189) 1 false) h51 fun a445 =>
  G192 a445) fun a193 =>
  vguard1 a184 false (fun G196 =>
  vdOp Tryd.prog (.fadd (.c a13) 1) h51 fun a444 =>
  G196 a444) fun a197 =>
  vguard1 a184 false (fun G200 =>
  vdOp Tryd.prog (.ld (.c a197) 1 false) h51 fun a443 =>
  G200 a443) fun a201 =>
  vguard1 a184 false (fun G204 =>
  vbin .mul a193 a201 fun a442 =>
  G204 a442) fun a205 =>
  vguard1 a184 false (fun G208 =>
  G208 (f42 12)) fun a209 =>
  vguard1 a184 false (fun G211 =>
  vdOp Tryd.prog (.iadd (.c a209) (.c (.int .i64 5)) 1) h51 fun a441 =>
  G211 a441) fun a212 =>
  vguard1 a184 false (fun G215 =>
  vdOp Tryd.prog (.ld (.c a212) 1 false) h51 fun a440 =>
  G215 a440) fun a216 =>
  vguard1 a184 false (fun G219 =>
  vbin .add a205 a216 fun a439 =>
  G219 a439) fun a220 =>
  vguard1 a184 false (fun G223 =>
  G223 (f42 12)) fun a224 =>
  vguard1 a184 false (fun G226 =>
  vdOp Tryd.prog (.iadd (.c a224) (.c (.int .i64 1)) 1) h51 fun a438 =>
  G226 a438) fun a227 =>
  vguard1 a184 false (fun G230 =>
  vdOp Tryd.prog (.ld (.c a227) 1 false) h51 fun a437 =>
  G230 a437) fun a231 =>
  vguard1 a184 false (fun G234 =>
  vbin .neq a220 a231 fun a436 =>
  G234 a436) fun a235 =>
  vdOp Tryd.prog (.pick (.c a184) (.c (.bool true)) (.c a235)) h51 fun a238 =>
  vcond a238 (K (.bool false) h51) (
  vdOp Tryd.prog (.iadd (.c (f42 12)) (.c (.int .i64 1)) 1) h51 fun a239 =>
  vdOp Tryd.prog (.ld (.c a239) 1 false) h51 fun a240 =>
  vbin .geq a240 (.int .i64 0) fun a241 =>
  vguard1 a241 true (fun G242 =>
  G242 (f42 12)) fun a243 =>
  vguard1 a241 true (fun G245 =>
  vdOp Tryd.prog (.iadd (.c a243) (.c (.int .i64 1)) 1) h51 fun a435 =>
  G245 a435) fun a246 =>
  vguard1 a241 true (fun G249 =>
  vdOp Tryd.prog (.ld (.c a246) 1 false) h51 fun a434 =>
  G249 a434) fun a250 =>
  vguard1 a241 true (fun G253 =>
  vdOp Tryd.prog (.fadd (.c a13) 0) h51 fun a433 =>
  G253 a433) fun a254 =>
  vguard1 a241 true (fun G257 =>
  vdOp Tryd.prog (.ld (.c a254) 1 false) h51 fun a432 =>
  G257 a432) fun a258 =>
  vguard1 a241 true (fun G261 =>
  vbin .lss a250 a258 fun a431 =>
  G261 a431) fun a262 =>
  vdOp Tryd.prog (.pick (.c a241) (.c a262) (.c (.bool false))) h51 fun a265 =>
  vguard1 a265 true (fun G266 =>
  G266 (f42 12)) fun a267 =>
  vguard1 a265 true (fun G269 =>
  vdOp Tryd.prog (.iadd (.c a267) (.c (.int .i64 5)) 1) h51 fun a430 =>
  G269 a430) fun a270 =>
  vguard1 a265 true (fun G273 =>
  vdOp Tryd.prog (.ld (.c a270) 1 false) h51 fun a429 =>
  G273 a429) fun a274 =>
  vguard1 a265 true (fun G277 =>
  vbin .geq a274 (.int .i64 0) fun a428 =>
  G277 a428) fun a278 =>
  vdOp Tryd.prog (.pick (.c a265) (.c a278) (.c (.bool false))) h51 fun a281 =>
  vguard1 a281 true (fun G282 =>
  G282 (f42 12)) fun a283 =>
  vguard1 a281 true (fun G285 =>
  vdOp Tryd.prog (.iadd (.c a283) (.c (.int .i64 5)) 1) h51 fun a427 =>
  G285 a427) fun a286 =>
  vguard1 a281 true (fun G289 =>
  vdOp Tryd.prog (.ld (.c a286) 1 false) h51 fun a426 =>
  G289 a426) fun a290 =>
  vguard1 a281 true (fun G293 =>
  vdOp Tryd.prog (.fadd (.c a13) 1) h51 fun a425 =>
  G293 a425) fun a294 =>
  vguard1 a281 true (fun G297 =>
  vdOp Tryd.prog (.ld (.c a294) 1 false) h51 fun a424 =>
  G297 a424) fun a298 =>
  vguard1 a281 true (fun G301 =>
  vbin .lss a290 a298 fun a423 =>
  G301 a423) fun a302 =>
  vdOp Tryd.prog (.pick (.c a281) (.c a302) (.c (.bool false))) h51 fun a305 =>
  vguard1 a305 true (fun G306 =>
  G306 (f42 12)) fun a307 =>
  vguard1 a305 true (fun G309 =>
  vdOp Tryd.prog (.iadd (.c a307) (.c (.int .i64 2)) 1) h51 fun a422 =>
  G309 a422) fun a310 =>
  vguard1 a305 true (fun G313 =>
  vdOp Tryd.prog (.ld (.c a310) 1 false) h51 fun a421 =>
  G313 a421) fun a314 =>
  vguard1 a305 true (fun G317 =>
  vbin .geq a314 (.int .i64 0) fun a420 =>
  G317 a420) fun a318 =>
  vdOp Tryd.prog (.pick (.c a305) (.c a318) (.c (.bool false))) h51 fun a321 =>
  vguard1 a321 true (fun G322 =>
  G322 (f42 12)) fun a323 =>
  vguard1 a321 true (fun G325 =>
  vdOp Tryd.prog (.iadd (.c a323) (.c (.int .i64 2)) 1) h51 fun a419 =>
  G325 a419) fun a326 =>
  vguard1 a321 true (fun G329 =>
  vdOp Tryd.prog (.ld (.c a326) 1 false) h51 fun a418 =>
  G329 a418) fun a330 =>
  vguard1 a321 true (fun G333 =>
  vdOp Tryd.prog (.fadd (.c a23) 0) h51 fun a417 =>
  G333 a417) fun a334 =>
  vguard1 a321 true (fun G337 =>
  vdOp Tryd.prog (.ld (.c a334) 1 false) h51 fun a416 =>
  G337 a416) fun a338 =>
  vguard1 a321 true (fun G341 =>
  vbin .lss a330 a338 fun a415 =>
  G341 a415) fun a342 =>
  vdOp Tryd.prog (.pick (.c a321) (.c a342) (.c (.bool false))) h51 fun a345 =>
  vguard1 a345 true (fun G346 =>
  vdOp Tryd.prog (.ld (.c a13) 8 true) h51 fun a414 =>
  G346 a414) fun a347 =>
  vguard1 a345 true (fun G350 =>
  vdOp Tryd.prog (.ld (.c a23) 2 true) h51 fun a413 =>
  G350 a413) fun a351 =>
  vguard1 a345 true (fun G354 =>
  G354 a35) fun a355 =>
  vguard1 a345 true (fun G357 =>
  vdOp Tryd.prog (.bld [(.int .i64 0), (.int .i64 0)] [(0, 1, (.c a355)), (1, 1, (.c (.int .i64 1)))]) h51 fun a412 =>
  G357 a412) fun a358 =>
  vguard1 a345 true (fun G361 =>
  vdOp Tryd.prog (.call 14 [(.c a347), (.c a351), (.c a358)]) h51 fun a411 =>
  G361 a411) fun a362 =>
  vguard1 a345 true (fun G365 =>
  vdOp Tryd.prog (.fld (.c a362) 1 1 false) h51 fun a410 =>
  G365 a410) fun a366 =>
  vguard1 a345 true (fun G369 =>
  vbin .eql a366 (.int .i64 1) fun a409 =>
  G369 a409) fun a370 =>
  vdOp Tryd.prog (.pick (.c a345) (.c a370) (.c (.bool false))) h51 fun a373 =>
  vguard1 a373 true (fun G374 =>
  vdOp Tryd.prog (.ld (.c a13) 8 true) h51 fun a408 =>
  G374 a408) fun a375 =>
  vguard1 a373 true (fun G378 =>
  vdOp Tryd.prog (.ld (.c a23) 2 true) h51 fun a407 =>
  G378 a407) fun a379 =>
  vguard1 a373 true (fun G382 =>
  vdOp Tryd.prog (.bld [(.int .i64 0), (.int .i64 0)] [(0, 1, (.c (.int .i64 (-1)))), (1, 1, (.c (.int .i64 1)))]) h51 fun a406 =>
  G382 a406) fun a383 =>
  vguard1 a373 true (fun G386 =>
  vdOp Tryd.prog (.call 14 [(.c a375), (.c a379), (.c a383)]) h51 fun a405 =>
  G386 a405) fun a387 =>
  vguard1 a373 true (fun G390 =>
  vdOp Tryd.prog (.fld (.c a387) 1 1 false) h51 fun a404 =>
  G390 a404) fun a391 =>
  vguard1 a373 true (fun G394 =>
  vbin .eql a391 (.int .i64 1) fun a403 =>
  G394 a403) fun a395 =>
  vdOp Tryd.prog (.pick (.c a373) (.c a395) (.c (.bool false))) h51 fun a398 =>
  vguard1 a398 true (fun G399 =>
  G399 a6) fun a400 =>
  vdOp Tryd.prog (.pick (.c a398) (.c a400) (.c (.bool false))) h51 fun a402 =>
  K a402 h51)) ∧
  V4_L0 a39 h40 a13 a23 a38 a6 a35 J41 K)
theorem V4_ok (a0 : D) (a1 : D) (a2 : D) (h0 : Heap) (K : D → Heap → Prop) : V4 a0 a1 a2 h0 K = vcC Tryd.prog F4.code (fun x e h' => match x with | .exit _ => False | _ => vcRet Tryd.prog F4.res K e h') (params [a0, a1, a2] 0) h0 := by kernel_rfl

/-- warpwright/warpwrightlaw04.LaunchCollects -/
def loops5 : Nat → Option (List Nat × List Nat)
  | 1000012 => some ([0, 7, 8, 9], []) | 6 => some ([0, 7, 8, 9], [10]) | _ => none
def tbl5 : Nat → Option (List Nat × List Nat × List Nat)
  | _ => none
def F5 : AFunc := ⟨59,
  .seq (.reg [⟨(some 6), .mov (.c (.bool false)), none⟩]) <|
  .seq (.reg [⟨(some 13), .call 9 [], none⟩,
    ⟨(some 7), .mov (.t 13), none⟩]) <|
  .seq (.seq (.reg [⟨(some 14), .mov (.t 7), none⟩,
    ⟨(some 15), .un .not (.t 14), none⟩]) <|
  .cond (.t 15) (.seq (.reg [⟨(some 6), .mov (.c (.bool false)), none⟩]) <|
  .ret) (.skip)) <|
  .seq (.reg [⟨(some 16), .mov (.t 1), none⟩,
    ⟨(some 17), .call 17 [(.t 16), (.c (.int .i64 40))], none⟩,
    ⟨(some 18), .mov (.t 2), none⟩,
    ⟨(some 19), .call 17 [(.t 18), (.c (.int .i64 40))], none⟩,
    ⟨(some 8), .mov (.t 17), none⟩,
    ⟨(some 9), .mov (.t 19), none⟩]) <|
  .seqj [0, 7, 8, 9] [] (.seq (.reg [⟨(some 10), .mov (.c (.int .i64 0)), none⟩]) <|
  .block 0 (.loop [0, 7, 8, 9] [10] (.seq (.seq (.reg [⟨(some 20), .mov (.t 10), none⟩,
    ⟨(some 21), .bin .leq (.t 20) (.c (.int .i64 7)), none⟩]) <|
  .cond (.t 21) (.skip) (.exit 0)) <|
  .seq (.block 1 (.seq (.reg [⟨(some 24), .mov (.t 10), none⟩,
    ⟨(some 25), .mov (.t 8), none⟩,
    ⟨(some 26), .mov (.t 9), none⟩,
    ⟨(some 27), .call 18 [(.t 24), (.t 25), (.t 26)], none⟩,
    ⟨(some 28), .mov (.t 10), none⟩,
    ⟨(some 29), .mov (.t 8), none⟩,
    ⟨(some 30), .mov (.t 9), none⟩,
    ⟨(some 31), .call 19 [(.t 28), (.t 29), (.t 30)], none⟩,
    ⟨(some 11), .alloc (.agg [.nil, (.int .i64 0)]), none⟩,
    ⟨(some 12), .alloc (.agg [.nil, (.int .i64 0)]), none⟩,
    ⟨none, .st (.t 11) (.t 27) 2, none⟩,
    ⟨none, .st (.t 12) (.t 31) 2, none⟩]) <|
  .seq (.reg [⟨(some 32), .fadd (.t 11) 1, none⟩,
    ⟨(some 33), .ld (.t 32) 1 false, none⟩,
    ⟨(some 34), .fadd (.t 12) 1, none⟩,
    ⟨(some 35), .ld (.t 34) 1 false, none⟩,
    ⟨(some 36), .bin .neq (.t 33) (.t 35), none⟩,
    ⟨(some 37), .mov (.t 36), none⟩,
    ⟨(some 38), .fadd (.t 11) 0, some (37, false)⟩,
    ⟨(some 39), .ld (.t 38) 1 false, some (37, false)⟩,
    ⟨(some 40), .fadd (.t 12) 0, some (37, false)⟩,
    ⟨(some 41), .ld (.t 40) 1 false, some (37, false)⟩,
    ⟨(some 42), .call 20 [(.t 39), (.t 41)], some (37, false)⟩,
    ⟨(some 43), .un .not (.t 42), some (37, false)⟩,
    ⟨(some 44), .pick (.t 37) (.c (.bool true)) (.t 43), none⟩]) <|
  .cond (.t 44) (.seq (.reg [⟨(some 6), .mov (.c (.bool false)), none⟩]) <|
  .ret) (.skip))) <|
  .reg [⟨(some 22), .mov (.t 10), none⟩,
    ⟨(some 23), .bin .add (.t 22) (.c (.int .i64 1)), none⟩,
    ⟨(some 10), .mov (.t 23), none⟩]))) <|
  .seq (.reg [⟨(some 45), .mov (.t 0), none⟩,
    ⟨(some 46), .mov (.t 8), none⟩,
    ⟨(some 47), .mov (.t 9), none⟩,
    ⟨(some 48), .call 18 [(.t 45), (.t 46), (.t 47)], none⟩,
    ⟨(some 49), .fld (.t 48) 1 1 false, none⟩,
    ⟨(some 50), .mov (.t 0), none⟩,
    ⟨(some 51), .mov (.t 8), none⟩,
    ⟨(some 52), .mov (.t 9), none⟩,
    ⟨(some 53), .call 19 [(.t 50), (.t 51), (.t 52)], none⟩,
    ⟨(some 54), .fld (.t 53) 1 1 false, none⟩,
    ⟨(some 55), .bin .eql (.t 49) (.t 54), none⟩,
    ⟨(some 56), .mov (.t 55), none⟩,
    ⟨(some 57), .mov (.t 7), some (56, true)⟩,
    ⟨(some 58), .pick (.t 56) (.t 57) (.c (.bool false)), none⟩,
    ⟨(some 6), .mov (.t 58), none⟩]) <|
  .ret,
  [.t 6]⟩
theorem F5_ok : cFn Tryd.prog true 5 loops5 (cDr Tryd.prog 59 tbl5) = some F5 := by kernel_rfl

def V5_L0 (h10 : Heap) (a7 : D) (a9 : D) (a0 : D) (a4 : D) (J11 : List D → Heap → Prop) (K : D → Heap → Prop) : Prop :=
  ∃ (I28 : Nat → List D → Heap → Prop) (n₀ : Nat), I28 n₀ [(.int .i64 0)] h10 ∧ ∀ (n29 : Nat) (f30 : Nat → D) (h31 : Heap), I28 n29 [f30 10] h31 →
  vbin .leq (f30 10) (.int .i64 7) fun a32 =>
  vcond a32 (ACall Tryd.prog 18 [(f30 10), a7, a9] h31 fun a33 h34 =>
  ACall Tryd.prog 19 [(f30 10), a7, a9] h34 fun a35 h36 =>
  vhOp Tryd.prog (.alloc (.agg [.nil, (.int .i64 0)])) h36 fun a37 h38 =>
  vhOp Tryd.prog (.alloc (.agg [.nil, (.int .i64 0)])) h38 fun a39 h40 =>
  vhOp Tryd.prog (.st (.c a37) (.c a33) 2) h40 fun a41 h42 =>
  vhOp Tryd.prog (.st (.c a39) (.c a35) 2) h42 fun a43 h44 =>
  vhOp Tryd.prog (.fadd (.c a37) 1) h44 fun a45 h46 =>
  vhOp Tryd.prog (.ld (.c a45) 1 false) h46 fun a47 h48 =>
  vhOp Tryd.prog (.fadd (.c a39) 1) h48 fun a49 h50 =>
  vhOp Tryd.prog (.ld (.c a49) 1 false) h50 fun a51 h52 =>
  vbin .neq a47 a51 fun a53 =>
  vguard a53 false (fun G54 =>
  vhOp Tryd.prog (.fadd (.c a37) 0) h52 fun a57 h58 =>
  G54 a57 h58) h52 fun a55 h56 =>
  vguard a53 false (fun G59 =>
  vhOp Tryd.prog (.ld (.c a55) 1 false) h56 fun a62 h63 =>
  G59 a62 h63) h56 fun a60 h61 =>
  vguard a53 false (fun G64 =>
  vhOp Tryd.prog (.fadd (.c a39) 0) h61 fun a67 h68 =>
  G64 a67 h68) h61 fun a65 h66 =>
  vguard a53 false (fun G69 =>
  vhOp Tryd.prog (.ld (.c a65) 1 false) h66 fun a72 h73 =>
  G69 a72 h73) h66 fun a70 h71 =>
  vguard a53 false (fun G74 =>
  ACall Tryd.prog 20 [a60, a70] h71 fun a77 h78 =>
  G74 a77 h78) h71 fun a75 h76 =>
  vguard a53 false (fun G79 =>
  vun .not a75 fun a82 =>
  G79 a82 h76) h76 fun a80 h81 =>
  vhOp Tryd.prog (.pick (.c a53) (.c (.bool true)) (.c a80)) h81 fun a83 h84 =>
  vcond a83 (K (.bool false) h84) (
  vbin .add (f30 10) (.int .i64 1) fun a85 =>
  keq [a0, a4, a7, a9] [a0, a4, a7, a9] ∧ ∃ m, m < n29 ∧ I28 m [a85] h84)) (
  keq [a0, a4, a7, a9] [a0, a4, a7, a9] ∧ J11 [] h31)
def V5 (a0 : D) (a1 : D) (a2 : D) (h0 : Heap) (K : D → Heap → Prop) : Prop :=
  ACall Tryd.prog 9 [] h0 fun a4 h5 =>
  vun .not a4 fun a6 =>
  vcond a6 (K (.bool false) h5) (
  ACall Tryd.prog 17 [a1, (.int .i64 40)] h5 fun a7 h8 =>
  ACall Tryd.prog 17 [a2, (.int .i64 40)] h8 fun a9 h10 =>
  ∃ (J11 : List D → Heap → Prop), (∀ (f12 : Nat → D) (h13 : Heap), J11 [] h13 →
  ACall Tryd.prog 18 [a0, a7, a9] h13 fun a14 h15 =>
  vhOp Tryd.prog (.fld (.c a14) 1 1 false) h15 fun a16 h17 =>
  ACall Tryd.prog 19 [a0, a7, a9] h17 fun a18 h19 =>
  vhOp Tryd.prog (.fld (.c a18) 1 1 false) h19 fun a20 h21 =>
  vbin .eql a16 a20 fun a22 =>
  vguard a22 true (fun G23 =>
  G23 a4 h21) h21 fun a24 h25 =>
  vhOp Tryd.prog (.pick (.c a22) (.c a24) (.c (.bool false))) h25 fun a26 h27 =>
  K a26 h27) ∧
  V5_L0 h10 a7 a9 a0 a4 J11 K)
theorem V5_ok (a0 : D) (a1 : D) (a2 : D) (h0 : Heap) (K : D → Heap → Prop) : V5 a0 a1 a2 h0 K = vcC Tryd.prog F5.code (fun x e h' => match x with | .exit _ => False | _ => vcRet Tryd.prog F5.res K e h') (params [a0, a1, a2] 0) h0 := by kernel_rfl

/-- warpwright/warpwrightlaw04.LaunchShuffles -/
def loops6 : Nat → Option (List Nat × List Nat)
  | 1000014 => some ([7, 8, 9, 10, 11], [12]) | 10 => some ([7, 8, 9, 10, 11], [12, 13]) | 1000025 => some ([7, 9, 10, 11, 12], []) | 19 => some ([7, 8, 9, 10, 11, 12, 14, 15, 16, 17, 18, 19], [20]) | _ => none
def tbl6 : Nat → Option (List Nat × List Nat × List Nat)
  | 15 => some ([0, 1, 0, 7, 15, 31, 63, 31, 255, 511, 1023, 2047, 4095, 2047, 16383, 32767, 65535, 131071, 262143, 131071, 1048575, 2097151, 4194303, 8388607, 16777215, 8388607, 67108863, 134217727, 268435455, 536870911, 536870911, 1610612735, 4294967295, 8589934591, 536870911, 17716740095, 52076478463, 137438953471, 274877906943, 549755813887, 1099511627775, 2199023255551, 4398046511103, 1099511627775, 9895604649983, 27487790694399, 70368744177663, 140737488355327], [], []) | 22 => some ([0, 0, 0, 6, 14, 30, 63, 127, 255, 255, 1023, 2047, 255, 4351, 12543, 32767, 65535, 131071, 262143, 262143, 1048575, 2097151, 4194303, 262143, 262143, 25427967, 58982399, 126091263, 268435455, 536870911, 1073741823, 2147483647, 2147483647, 8589934591, 17179869183, 34359738367, 2147483647, 2147483647, 208305913855, 483183820799, 2147483647, 2132451262463, 4398046511103, 8796093022207, 17592186044415, 35184372088831, 70368744177663, 140737488355327, 281474976710655, 281474976710655, 1125899906842623, 2251799813685247, 281474976710655, 281474976710655, 9288674231451647, 31806672368304127, 67835469387268095, 144115188075855871, 281474976710655, 281474976710655, 864972603431845887, 2017894108038692863, 4611686018427387903, 9223372036854775807, 18446744073709551615], [], []) | _ => none
def F6 : AFunc := ⟨244,
  .seq (.reg [⟨(some 6), .mov (.c (.bool false)), none⟩]) <|
  .seq (.reg [⟨(some 26), .call 9 [], none⟩,
    ⟨(some 7), .mov (.t 26), none⟩]) <|
  .seq (.seq (.reg [⟨(some 27), .mov (.t 7), none⟩,
    ⟨(some 28), .un .not (.t 27), none⟩]) <|
  .cond (.t 28) (.seq (.reg [⟨(some 6), .mov (.c (.bool false)), none⟩]) <|
  .ret) (.skip)) <|
  .seq (.reg [⟨(some 29), .mov (.t 0), none⟩,
    ⟨(some 30), .len (.t 29), none⟩,
    ⟨(some 31), .mov (.t 1), none⟩,
    ⟨(some 32), .len (.t 31), none⟩,
    ⟨(some 33), .mn (.t 30) (.t 32), none⟩,
    ⟨(some 34), .mov (.t 2), none⟩,
    ⟨(some 35), .len (.t 34), none⟩,
    ⟨(some 36), .mn (.t 35) (.c (.int .i64 32)), none⟩,
    ⟨(some 37), .mn (.t 33) (.t 36), none⟩,
    ⟨(some 8), .mov (.t 37), none⟩]) <|
  .seq (.seq (.reg [⟨(some 38), .mov (.t 8), none⟩,
    ⟨(some 39), .bin .eql (.t 38) (.c (.int .i64 0)), none⟩]) <|
  .cond (.t 39) (.seq (.reg [⟨(some 40), .mov (.t 7), none⟩,
    ⟨(some 6), .mov (.t 40), none⟩]) <|
  .ret) (.skip)) <|
  .seq (.reg [⟨(some 41), .mov (.t 0), none⟩,
    ⟨(some 42), .mov (.t 8), none⟩,
    ⟨(some 43), .call 17 [(.t 41), (.t 42)], none⟩,
    ⟨(some 44), .mov (.t 1), none⟩,
    ⟨(some 45), .mov (.t 8), none⟩,
    ⟨(some 46), .call 17 [(.t 44), (.t 45)], none⟩,
    ⟨(some 47), .mov (.t 2), none⟩,
    ⟨(some 48), .mov (.t 8), none⟩,
    ⟨(some 49), .call 17 [(.t 47), (.t 48)], none⟩,
    ⟨(some 9), .mov (.t 43), none⟩,
    ⟨(some 10), .mov (.t 46), none⟩,
    ⟨(some 11), .mov (.t 49), none⟩]) <|
  .seq (.reg [⟨(some 50), .bldS true 1 0 (.int .i32 0) [], none⟩,
    ⟨(some 12), .mov (.t 50), none⟩]) <|
  .seqj [7, 8, 9, 10, 11] [12] (.seq (.reg [⟨(some 13), .mov (.c (.int .i64 0)), none⟩]) <|
  .block 0 (.loop [7, 8, 9, 10, 11] [12, 13] (.seq (.seq (.reg [⟨(some 51), .mov (.t 13), none⟩,
    ⟨(some 52), .mov (.t 8), none⟩,
    ⟨(some 53), .bin .lss (.t 51) (.t 52), none⟩]) <|
  .cond (.t 53) (.skip) (.exit 0)) <|
  .seq (.block 1 (.reg [⟨(some 56), .mov (.t 12), none⟩,
    ⟨(some 57), .mov (.t 13), none⟩,
    ⟨(some 58), .conv .i32 (.t 57), none⟩,
    ⟨(some 59), .bldS true 1 1 (.int .i32 0) [(0, (.t 58))], none⟩,
    ⟨(some 60), .app (.t 56) (.t 59) 1 4 (.int .i32 0), none⟩,
    ⟨(some 12), .mov (.t 60), none⟩])) <|
  .reg [⟨(some 54), .mov (.t 13), none⟩,
    ⟨(some 55), .bin .add (.t 54) (.c (.int .i64 1)), none⟩,
    ⟨(some 13), .mov (.t 55), none⟩]))) <|
  .seq (.reg [⟨(some 61), .mov (.t 9), none⟩,
    ⟨(some 62), .mov (.t 10), none⟩,
    ⟨(some 63), .call 18 [(.c (.int .i64 5)), (.t 61), (.t 62)], none⟩,
    ⟨(some 64), .fld (.t 63) 0 1 false, none⟩,
    ⟨(some 65), .mov (.t 9), none⟩,
    ⟨(some 66), .mov (.t 10), none⟩,
    ⟨(some 67), .call 18 [(.c (.int .i64 6)), (.t 65), (.t 66)], none⟩,
    ⟨(some 68), .fld (.t 67) 0 1 false, none⟩,
    ⟨(some 14), .mov (.t 64), none⟩,
    ⟨(some 15), .mov (.t 68), none⟩]) <|
  .seq (.reg [⟨(some 69), .mov (.t 9), none⟩,
    ⟨(some 70), .mov (.t 10), none⟩,
    ⟨(some 71), .call 18 [(.c (.int .i64 1)), (.t 69), (.t 70)], none⟩,
    ⟨(some 72), .fld (.t 71) 0 1 false, none⟩,
    ⟨(some 73), .mov (.t 9), none⟩,
    ⟨(some 74), .mov (.t 10), none⟩,
    ⟨(some 75), .call 18 [(.c (.int .i64 2)), (.t 73), (.t 74)], none⟩,
    ⟨(some 76), .fld (.t 75) 0 1 false, none⟩,
    ⟨(some 77), .mov (.t 9), none⟩,
    ⟨(some 78), .mov (.t 10), none⟩,
    ⟨(some 79), .call 18 [(.c (.int .i64 3)), (.t 77), (.t 78)], none⟩,
    ⟨(some 80), .fld (.t 79) 0 1 false, none⟩,
    ⟨(some 16), .mov (.t 72), none⟩,
    ⟨(some 17), .mov (.t 76), none⟩,
    ⟨(some 18), .mov (.t 80), none⟩]) <|
  .seq (.seq (.dreg [⟨(some 81), .mov (.t 14), none⟩,
    ⟨(some 82), .len (.t 81), none⟩,
    ⟨(some 83), .mov (.t 8), none⟩,
    ⟨(some 84), .bin .neq (.t 82) (.t 83), none⟩,
    ⟨(some 85), .mov (.t 84), none⟩,
    ⟨(some 86), .mov (.t 15), some (85, false)⟩,
    ⟨(some 87), .len (.t 86), some (85, false)⟩,
    ⟨(some 88), .mov (.t 8), some (85, false)⟩,
    ⟨(some 89), .bin .neq (.t 87) (.t 88), some (85, false)⟩,
    ⟨(some 90), .pick (.t 85) (.c (.bool true)) (.t 89), none⟩,
    ⟨(some 91), .mov (.t 90), none⟩,
    ⟨(some 92), .mov (.t 16), some (91, false)⟩,
    ⟨(some 93), .len (.t 92), some (91, false)⟩,
    ⟨(some 94), .mov (.t 8), some (91, false)⟩,
    ⟨(some 95), .bin .neq (.t 93) (.t 94), some (91, false)⟩,
    ⟨(some 96), .pick (.t 91) (.c (.bool true)) (.t 95), none⟩,
    ⟨(some 97), .mov (.t 96), none⟩,
    ⟨(some 98), .mov (.t 17), some (97, false)⟩,
    ⟨(some 99), .len (.t 98), some (97, false)⟩,
    ⟨(some 100), .mov (.t 8), some (97, false)⟩,
    ⟨(some 101), .bin .neq (.t 99) (.t 100), some (97, false)⟩,
    ⟨(some 102), .pick (.t 97) (.c (.bool true)) (.t 101), none⟩,
    ⟨(some 103), .mov (.t 102), none⟩,
    ⟨(some 104), .mov (.t 18), some (103, false)⟩,
    ⟨(some 105), .len (.t 104), some (103, false)⟩,
    ⟨(some 106), .mov (.t 8), some (103, false)⟩,
    ⟨(some 107), .bin .neq (.t 105) (.t 106), some (103, false)⟩,
    ⟨(some 108), .pick (.t 103) (.c (.bool true)) (.t 107), none⟩,
    ⟨(some 109), .mov (.t 108), none⟩,
    ⟨(some 110), .mov (.t 14), some (109, false)⟩,
    ⟨(some 111), .mov (.t 8), some (109, false)⟩,
    ⟨(some 112), .bin .sub (.t 111) (.c (.int .i64 1)), some (109, false)⟩,
    ⟨(some 113), .iadd (.t 110) (.t 112) 1, some (109, false)⟩,
    ⟨(some 114), .ld (.t 113) 1 false, some (109, false)⟩,
    ⟨(some 115), .mov (.t 15), some (109, false)⟩,
    ⟨(some 116), .iadd (.t 115) (.c (.int .i64 0)) 1, some (109, false)⟩,
    ⟨(some 117), .ld (.t 116) 1 false, some (109, false)⟩,
    ⟨(some 118), .bin .neq (.t 114) (.t 117), some (109, false)⟩,
    ⟨(some 119), .pick (.t 109) (.c (.bool true)) (.t 118), none⟩,
    ⟨(some 120), .mov (.t 119), none⟩,
    ⟨(some 121), .mov (.t 14), some (120, false)⟩,
    ⟨(some 122), .iadd (.t 121) (.c (.int .i64 0)) 1, some (120, false)⟩,
    ⟨(some 123), .ld (.t 122) 1 false, some (120, false)⟩,
    ⟨(some 124), .mov (.t 9), some (120, false)⟩,
    ⟨(some 125), .iadd (.t 124) (.c (.int .i64 0)) 1, some (120, false)⟩,
    ⟨(some 126), .ld (.t 125) 1 false, some (120, false)⟩,
    ⟨(some 127), .bin .neq (.t 123) (.t 126), some (120, false)⟩,
    ⟨(some 128), .pick (.t 120) (.c (.bool true)) (.t 127), none⟩] [] []) <|
  .cond (.t 128) (.seq (.reg [⟨(some 6), .mov (.c (.bool false)), none⟩]) <|
  .ret) (.skip)) <|
  .seq (.reg [⟨(some 129), .mov (.t 8), none⟩,
    ⟨(some 130), .conv .u64 (.t 129), none⟩,
    ⟨(some 131), .bin .shl (.c (.int .u64 1)) (.t 130), none⟩,
    ⟨(some 132), .bin .sub (.t 131) (.c (.int .u64 1)), none⟩,
    ⟨(some 133), .conv .u32 (.t 132), none⟩,
    ⟨(some 134), .conv .i32 (.t 133), none⟩,
    ⟨(some 19), .mov (.t 134), none⟩]) <|
  .seqj [7, 9, 10, 11, 12] [] (.seq (.reg [⟨(some 20), .mov (.c (.int .i64 0)), none⟩]) <|
  .block 2 (.loop [7, 8, 9, 10, 11, 12, 14, 15, 16, 17, 18, 19] [20] (.seq (.seq (.reg [⟨(some 135), .mov (.t 20), none⟩,
    ⟨(some 136), .mov (.t 8), none⟩,
    ⟨(some 137), .bin .lss (.t 135) (.t 136), none⟩]) <|
  .cond (.t 137) (.skip) (.exit 2)) <|
  .seq (.block 3 (.seq (.reg [⟨(some 140), .mov (.t 16), none⟩,
    ⟨(some 141), .mov (.t 20), none⟩,
    ⟨(some 142), .iadd (.t 140) (.t 141) 1, none⟩,
    ⟨(some 143), .ld (.t 142) 1 false, none⟩,
    ⟨(some 144), .mov (.t 20), none⟩,
    ⟨(some 145), .conv .u64 (.t 144), none⟩,
    ⟨(some 146), .bin .shr (.t 143) (.t 145), none⟩,
    ⟨(some 147), .bin .and (.t 146) (.c (.int .i32 1)), none⟩,
    ⟨(some 148), .bin .neq (.t 147) (.c (.int .i32 0)), none⟩,
    ⟨(some 21), .mov (.t 148), none⟩]) <|
  .seq (.dreg [⟨(some 149), .mov (.t 21), none⟩,
    ⟨(some 150), .mov (.t 9), none⟩,
    ⟨(some 151), .mov (.t 20), none⟩,
    ⟨(some 152), .iadd (.t 150) (.t 151) 1, none⟩,
    ⟨(some 153), .ld (.t 152) 1 false, none⟩,
    ⟨(some 154), .bin .neq (.t 153) (.c (.int .i32 0)), none⟩,
    ⟨(some 155), .eqv true false [.b] (.t 149) (.t 154), none⟩,
    ⟨(some 156), .mov (.t 155), none⟩,
    ⟨(some 157), .mov (.t 15), some (156, false)⟩,
    ⟨(some 158), .mov (.t 20), some (156, false)⟩,
    ⟨(some 159), .iadd (.t 157) (.t 158) 1, some (156, false)⟩,
    ⟨(some 160), .ld (.t 159) 1 false, some (156, false)⟩,
    ⟨(some 161), .mov (.t 15), some (156, false)⟩,
    ⟨(some 162), .iadd (.t 161) (.c (.int .i64 0)) 1, some (156, false)⟩,
    ⟨(some 163), .ld (.t 162) 1 false, some (156, false)⟩,
    ⟨(some 164), .bin .neq (.t 160) (.t 163), some (156, false)⟩,
    ⟨(some 165), .pick (.t 156) (.c (.bool true)) (.t 164), none⟩,
    ⟨(some 166), .mov (.t 165), none⟩,
    ⟨(some 167), .mov (.t 17), some (166, false)⟩,
    ⟨(some 168), .mov (.t 20), some (166, false)⟩,
    ⟨(some 169), .iadd (.t 167) (.t 168) 1, some (166, false)⟩,
    ⟨(some 170), .ld (.t 169) 1 false, some (166, false)⟩,
    ⟨(some 171), .bin .eql (.t 170) (.c (.int .i32 1)), some (166, false)⟩,
    ⟨(some 172), .mov (.t 16), some (166, false)⟩,
    ⟨(some 173), .mov (.t 20), some (166, false)⟩,
    ⟨(some 174), .iadd (.t 172) (.t 173) 1, some (166, false)⟩,
    ⟨(some 175), .ld (.t 174) 1 false, some (166, false)⟩,
    ⟨(some 176), .bin .neq (.t 175) (.c (.int .i32 0)), some (166, false)⟩,
    ⟨(some 177), .eqv true false [.b] (.t 171) (.t 176), some (166, false)⟩,
    ⟨(some 178), .pick (.t 166) (.c (.bool true)) (.t 177), none⟩,
    ⟨(some 179), .mov (.t 178), none⟩,
    ⟨(some 180), .mov (.t 18), some (179, false)⟩,
    ⟨(some 181), .mov (.t 20), some (179, false)⟩,
    ⟨(some 182), .iadd (.t 180) (.t 181) 1, some (179, false)⟩,
    ⟨(some 183), .ld (.t 182) 1 false, some (179, false)⟩,
    ⟨(some 184), .bin .eql (.t 183) (.c (.int .i32 1)), some (179, false)⟩,
    ⟨(some 185), .mov (.t 16), some (179, false)⟩,
    ⟨(some 186), .mov (.t 20), some (179, false)⟩,
    ⟨(some 187), .iadd (.t 185) (.t 186) 1, some (179, false)⟩,
    ⟨(some 188), .ld (.t 187) 1 false, some (179, false)⟩,
    ⟨(some 189), .mov (.t 19), some (179, false)⟩,
    ⟨(some 190), .bin .eql (.t 188) (.t 189), some (179, false)⟩,
    ⟨(some 191), .eqv true false [.b] (.t 184) (.t 190), some (179, false)⟩,
    ⟨(some 192), .pick (.t 179) (.c (.bool true)) (.t 191), none⟩,
    ⟨(some 193), .mov (.t 192), none⟩,
    ⟨(some 194), .mov (.t 20), some (193, false)⟩,
    ⟨(some 195), .bin .gtr (.t 194) (.c (.int .i64 0)), some (193, false)⟩,
    ⟨(some 196), .mov (.t 195), some (193, false)⟩,
    ⟨(some 197), .mov (.t 14), some (196, true)⟩,
    ⟨(some 198), .mov (.t 20), some (196, true)⟩,
    ⟨(some 199), .iadd (.t 197) (.t 198) 1, some (196, true)⟩,
    ⟨(some 200), .ld (.t 199) 1 false, some (196, true)⟩,
    ⟨(some 201), .mov (.t 14), some (196, true)⟩,
    ⟨(some 202), .mov (.t 20), some (196, true)⟩,
    ⟨(some 203), .bin .sub (.t 202) (.c (.int .i64 1)), some (196, true)⟩,
    ⟨(some 204), .iadd (.t 201) (.t 203) 1, some (196, true)⟩,
    ⟨(some 205), .ld (.t 204) 1 false, some (196, true)⟩,
    ⟨(some 206), .bin .sub (.t 200) (.t 205), some (196, true)⟩,
    ⟨(some 207), .mov (.t 9), some (196, true)⟩,
    ⟨(some 208), .mov (.t 20), some (196, true)⟩,
    ⟨(some 209), .iadd (.t 207) (.t 208) 1, some (196, true)⟩,
    ⟨(some 210), .ld (.t 209) 1 false, some (196, true)⟩,
    ⟨(some 211), .bin .neq (.t 206) (.t 210), some (196, true)⟩,
    ⟨(some 212), .pick (.t 196) (.t 211) (.c (.bool false)), some (193, false)⟩,
    ⟨(some 213), .pick (.t 193) (.c (.bool true)) (.t 212), none⟩] [] []) <|
  .cond (.t 213) (.seq (.reg [⟨(some 6), .mov (.c (.bool false)), none⟩]) <|
  .ret) (.skip))) <|
  .reg [⟨(some 138), .mov (.t 20), none⟩,
    ⟨(some 139), .bin .add (.t 138) (.c (.int .i64 1)), none⟩,
    ⟨(some 20), .mov (.t 139), none⟩]))) <|
  .seq (.reg [⟨(some 214), .mov (.t 9), none⟩,
    ⟨(some 215), .mov (.t 12), none⟩,
    ⟨(some 216), .call 18 [(.c (.int .i64 4)), (.t 214), (.t 215)], none⟩,
    ⟨(some 217), .fld (.t 216) 0 1 false, none⟩,
    ⟨(some 22), .mov (.t 217), none⟩]) <|
  .seq (.reg [⟨(some 218), .mov (.t 9), none⟩,
    ⟨(some 219), .mov (.t 10), none⟩,
    ⟨(some 220), .call 18 [(.c (.int .i64 4)), (.t 218), (.t 219)], none⟩,
    ⟨(some 221), .fld (.t 220) 0 1 false, none⟩,
    ⟨(some 23), .mov (.t 221), none⟩]) <|
  .seq (.reg [⟨(some 222), .mov (.t 23), none⟩,
    ⟨(some 223), .mov (.t 11), none⟩,
    ⟨(some 224), .call 18 [(.c (.int .i64 4)), (.t 222), (.t 223)], none⟩,
    ⟨(some 225), .fld (.t 224) 0 1 false, none⟩,
    ⟨(some 24), .mov (.t 225), none⟩]) <|
  .seq (.reg [⟨(some 226), .mov (.t 10), none⟩,
    ⟨(some 227), .mov (.t 11), none⟩,
    ⟨(some 228), .call 18 [(.c (.int .i64 4)), (.t 226), (.t 227)], none⟩,
    ⟨(some 229), .fld (.t 228) 0 1 false, none⟩,
    ⟨(some 25), .mov (.t 229), none⟩]) <|
  .seq (.reg [⟨(some 230), .mov (.t 22), none⟩,
    ⟨(some 231), .mov (.t 9), none⟩,
    ⟨(some 232), .call 20 [(.t 230), (.t 231)], none⟩,
    ⟨(some 233), .mov (.t 232), none⟩,
    ⟨(some 234), .mov (.t 24), some (233, true)⟩,
    ⟨(some 235), .mov (.t 9), some (233, true)⟩,
    ⟨(some 236), .mov (.t 25), some (233, true)⟩,
    ⟨(some 237), .call 18 [(.c (.int .i64 4)), (.t 235), (.t 236)], some (233, true)⟩,
    ⟨(some 238), .fld (.t 237) 0 1 false, some (233, true)⟩,
    ⟨(some 239), .call 20 [(.t 234), (.t 238)], some (233, true)⟩,
    ⟨(some 240), .pick (.t 233) (.t 239) (.c (.bool false)), none⟩,
    ⟨(some 241), .mov (.t 240), none⟩,
    ⟨(some 242), .mov (.t 7), some (241, true)⟩,
    ⟨(some 243), .pick (.t 241) (.t 242) (.c (.bool false)), none⟩,
    ⟨(some 6), .mov (.t 243), none⟩]) <|
  .ret,
  [.t 6]⟩
theorem F6_ok : cFn Tryd.prog true 6 loops6 (cDr Tryd.prog 244 tbl6) = some F6 := by kernel_rfl

def V6_L0 (h178 : Heap) (a14 : D) (a38 : D) (a17 : D) (a34 : D) (a42 : D) (a46 : D) (a177 : D) (a30 : D) (a4 : D) (a19 : D) (a21 : D) (f26 : Nat → D) (J179 : List D → Heap → Prop) (K : D → Heap → Prop) : Prop :=
  ∃ (I231 : Nat → List D → Heap → Prop) (n₀ : Nat), I231 n₀ [(.int .i64 0)] h178 ∧ ∀ (n232 : Nat) (f233 : Nat → D) (h234 : Heap), I231 n232 [f233 20] h234 →
  vbin .lss (f233 20) a14 fun a235 =>
  vcond a235 (vhOp Tryd.prog (.iadd (.c a38) (.c (f233 20)) 1) h234 fun a236 h237 =>
  vhOp Tryd.prog (.ld (.c a236) 1 false) h237 fun a238 h239 =>
  vhOp Tryd.prog (.conv .u64 (.c (f233 20))) h239 fun a240 h241 =>
  vbin .shr a238 a240 fun a242 =>
  vbin .and a242 (.int .i32 1) fun a243 =>
  vbin .neq a243 (.int .i32 0) fun a244 =>
  vdOp Tryd.prog (.iadd (.c a17) (.c (f233 20)) 1) h241 fun a245 =>
  vdOp Tryd.prog (.ld (.c a245) 1 false) h241 fun a246 =>
  vbin .neq a246 (.int .i32 0) fun a247 =>
  vdOp Tryd.prog (.eqv true false [.b] (.c a244) (.c a247)) h241 fun a248 =>
  vguard1 a248 false (fun G249 =>
  G249 a34) fun a250 =>
  vguard1 a248 false (fun G252 =>
  G252 (f233 20)) fun a253 =>
  vguard1 a248 false (fun G255 =>
  vdOp Tryd.prog (.iadd (.c a250) (.c a253) 1) h241 fun a463 =>
  G255 a463) fun a256 =>
  vguard1 a248 false (fun G259 =>
  vdOp Tryd.prog (.ld (.c a256) 1 false) h241 fun a462 =>
  G259 a462) fun a260 =>
  vguard1 a248 false (fun G263 =>
  G263 a34) fun a264 =>
  vguard1 a248 false (fun G266 =>
  vdOp Tryd.prog (.iadd (.c a264) (.c (.int .i64 0)) 1) h241 fun a461 =>
  G266 a461) fun a267 =>
  vguard1 a248 false (fun G270 =>
  vdOp Tryd.prog (.ld (.c a267) 1 false) h241 fun a460 =>
  G270 a460) fun a271 =>
  vguard1 a248 false (fun G274 =>
  vbin .neq a260 a271 fun a459 =>
  G274 a459) fun a275 =>
  vdOp Tryd.prog (.pick (.c a248) (.c (.bool true)) (.c a275)) h241 fun a278 =>
  vguard1 a278 false (fun G279 =>
  G279 a42) fun a280 =>
  vguard1 a278 false (fun G282 =>
  G282 (f233 20)) fun a283 =>
  vguard1 a278 false (fun G285 =>
  vdOp Tryd.prog (.iadd (.c a280) (.c a283) 1) h241 fun a458 =>
  G285 a458) fun a286 =>
  vguard1 a278 false (fun G289 =>
  vdOp Tryd.prog (.ld (.c a286) 1 false) h241 fun a457 =>
  G289 a457) fun a290 =>
  vguard1 a278 false (fun G293 =>
  vbin .eql a290 (.int .i32 1) fun a456 =>
  G293 a456) fun a294 =>
  vguard1 a278 false (fun G297 =>
  G297 a38) fun a298 =>
  vguard1 a278 false (fun G300 =>
  G300 (f233 20)) fun a301 =>
  vguard1 a278 false (fun G303 =>
  vdOp Tryd.prog (.iadd (.c a298) (.c a301) 1) h241 fun a455 =>
  G303 a455) fun a304 =>
  vguard1 a278 false (fun G307 =>
  vdOp Tryd.prog (.ld (.c a304) 1 false) h241 fun a454 =>
  G307 a454) fun a308 =>
  vguard1 a278 false (fun G311 =>
  vbin .neq a308 (.int .i32 0) fun a453 =>
  G311 a453) fun a312 =>
  vguard1 a278 false (fun G315 =>
  vdOp Tryd.prog (.eqv true false [.b] (.c a294) (.c a312)) h241 fun a452 =>
  G315 a452) fun a316 =>
  vdOp Tryd.prog (.pick (.c a278) (.c (.bool true)) (.c a316)) h241 fun a319 =>
  vguard1 a319 false (fun G320 =>
  G320 a46) fun a321 =>
  vguard1 a319 false (fun G323 =>
  G323 (f233 20)) fun a324 =>
  vguard1 a319 false (fun G326 =>
  vdOp Tryd.prog (.iadd (.c a321) (.c a324) 1) h241 fun a451 =>
  G326 a451) fun a327 =>
  vguard1 a319 false (fun G330 =>
  vdOp Tryd.prog (.ld (.c a327) 1 false) h241 fun a450 =>
  G330 a450) fun a331 =>
  vguard1 a319 false (fun G334 =>
  vbin .eql a331 (.int .i32 1) fun a449 =>
  G334 a449) fun a335 =>
  vguard1 a319 false (fun G338 =>
  G338 a38) fun a339 =>
  vguard1 a319 false (fun G341 =>
  G341 (f233 20)) fun a342 =>
  vguard1 a319 false (fun G344 =>
  vdOp Tryd.prog (.iadd (.c a339) (.c a342) 1) h241 fun a448 =>
  G344 a448) fun a345 =>
  vguard1 a319 false (fun G348 =>
  vdOp Tryd.prog (.ld (.c a345) 1 false) h241 fun a447 =>
  G348 a447) fun a349 =>
  vguard1 a319 false (fun G352 =>
  G352 a177) fun a353 =>
  vguard1 a319 false (fun G355 =>
  vbin .eql a349 a353 fun a446 =>
  G355 a446) fun a356 =>
  vguard1 a319 false (fun G359 =>
  vdOp Tryd.prog (.eqv true false [.b] (.c a335) (.c a356)) h241 fun a445 =>
  G359 a445) fun a360 =>
  vdOp Tryd.prog (.pick (.c a319) (.c (.bool true)) (.c a360)) h241 fun a363 =>
  vguard1 a363 false (fun G364 =>
  G364 (f233 20)) fun a365 =>
  vguard1 a363 false (fun G367 =>
  vbin .gtr a365 (.int .i64 0) fun a444 =>
  G367 a444) fun a368 =>
  vguard1 a363 false (fun G371 =>
  G371 a368) fun a372 =>
  vguard1 a372 true (fun G374 =>
  G374 a30) fun a375 =>
  vguard1 a372 true (fun G377 =>
  G377 (f233 20)) fun a378 =>
  vguard1 a372 true (fun G380 =>
  vdOp Tryd.prog (.iadd (.c a375) (.c a378) 1) h241 fun a443 =>
  G380 a443) fun a381 =>
  vguard1 a372 true (fun G384 =>
  vdOp Tryd.prog (.ld (.c a381) 1 false) h241 fun a442 =>
  G384 a442) fun a385 =>
  vguard1 a372 true (fun G388 =>
  G388 a30) fun a389 =>
  vguard1 a372 true (fun G391 =>
  G391 (f233 20)) fun a392 =>
  vguard1 a372 true (fun G394 =>
  vbin .sub a392 (.int .i64 1) fun a441 =>
  G394 a441) fun a395 =>
  vguard1 a372 true (fun G398 =>
  vdOp Tryd.prog (.iadd (.c a389) (.c a395) 1) h241 fun a440 =>
  G398 a440) fun a399 =>
  vguard1 a372 true (fun G402 =>
  vdOp Tryd.prog (.ld (.c a399) 1 false) h241 fun a439 =>
  G402 a439) fun a403 =>
  vguard1 a372 true (fun G406 =>
  vbin .sub a385 a403 fun a438 =>
  G406 a438) fun a407 =>
  vguard1 a372 true (fun G410 =>
  G410 a17) fun a411 =>
  vguard1 a372 true (fun G413 =>
  G413 (f233 20)) fun a414 =>
  vguard1 a372 true (fun G416 =>
  vdOp Tryd.prog (.iadd (.c a411) (.c a414) 1) h241 fun a437 =>
  G416 a437) fun a417 =>
  vguard1 a372 true (fun G420 =>
  vdOp Tryd.prog (.ld (.c a417) 1 false) h241 fun a436 =>
  G420 a436) fun a421 =>
  vguard1 a372 true (fun G424 =>
  vbin .neq a407 a421 fun a435 =>
  G424 a435) fun a425 =>
  vguard1 a363 false (fun G428 =>
  vdOp Tryd.prog (.pick (.c a372) (.c a425) (.c (.bool false))) h241 fun a434 =>
  G428 a434) fun a429 =>
  vdOp Tryd.prog (.pick (.c a363) (.c (.bool true)) (.c a429)) h241 fun a432 =>
  vcond a432 (K (.bool false) h241) (
  vbin .add (f233 20) (.int .i64 1) fun a433 =>
  keq [a4, a14, a17, a19, a21, (f26 12), a30, a34, a38, a42, a46, a177] [a4, a14, a17, a19, a21, (f26 12), a30, a34, a38, a42, a46, a177] ∧ ∃ m, m < n232 ∧ I231 m [a433] h241)) (
  keq [a4, a17, a19, a21, (f26 12)] [a4, a17, a19, a21, (f26 12)] ∧ J179 [] h234)
def V6_L1 (a23 : D) (h24 : Heap) (a14 : D) (a4 : D) (a17 : D) (a19 : D) (a21 : D) (J25 : List D → Heap → Prop) : Prop :=
  ∃ (I483 : Nat → List D → Heap → Prop) (n₀ : Nat), I483 n₀ [a23, (.int .i64 0)] h24 ∧ ∀ (n484 : Nat) (f485 : Nat → D) (h486 : Heap), I483 n484 [f485 12, f485 13] h486 →
  vbin .lss (f485 13) a14 fun a487 =>
  vcond a487 (vhOp Tryd.prog (.conv .i32 (.c (f485 13))) h486 fun a488 h489 =>
  vhOp Tryd.prog (.bldS true 1 1 (.int .i32 0) [(0, (.c a488))]) h489 fun a490 h491 =>
  vhOp Tryd.prog (.app (.c (f485 12)) (.c a490) 1 4 (.int .i32 0)) h491 fun a492 h493 =>
  vbin .add (f485 13) (.int .i64 1) fun a494 =>
  keq [a4, a14, a17, a19, a21] [a4, a14, a17, a19, a21] ∧ ∃ m, m < n484 ∧ I483 m [a492, a494] h493) (
  keq [a4, a14, a17, a19, a21] [a4, a14, a17, a19, a21] ∧ J25 [(f485 12)] h486)
def V6 (a0 : D) (a1 : D) (a2 : D) (h0 : Heap) (K : D → Heap → Prop) : Prop :=
  ACall Tryd.prog 9 [] h0 fun a4 h5 =>
  vun .not a4 fun a6 =>
  vcond a6 (K (.bool false) h5) (
  vlen a0 h5 fun a7 =>
  vlen a1 h5 fun a8 =>
  vhOp Tryd.prog (.mn (.c a7) (.c a8)) h5 fun a9 h10 =>
  vlen a2 h10 fun a11 =>
  vhOp Tryd.prog (.mn (.c a11) (.c (.int .i64 32))) h10 fun a12 h13 =>
  vhOp Tryd.prog (.mn (.c a9) (.c a12)) h13 fun a14 h15 =>
  vbin .eql a14 (.int .i64 0) fun a16 =>
  vcond a16 (K a4 h15) (
  ACall Tryd.prog 17 [a0, a14] h15 fun a17 h18 =>
  ACall Tryd.prog 17 [a1, a14] h18 fun a19 h20 =>
  ACall Tryd.prog 17 [a2, a14] h20 fun a21 h22 =>
  vhOp Tryd.prog (.bldS true 1 0 (.int .i32 0) []) h22 fun a23 h24 =>
  ∃ (J25 : List D → Heap → Prop), (∀ (f26 : Nat → D) (h27 : Heap), J25 [f26 12] h27 →
  ACall Tryd.prog 18 [(.int .i64 5), a17, a19] h27 fun a28 h29 =>
  vhOp Tryd.prog (.fld (.c a28) 0 1 false) h29 fun a30 h31 =>
  ACall Tryd.prog 18 [(.int .i64 6), a17, a19] h31 fun a32 h33 =>
  vhOp Tryd.prog (.fld (.c a32) 0 1 false) h33 fun a34 h35 =>
  ACall Tryd.prog 18 [(.int .i64 1), a17, a19] h35 fun a36 h37 =>
  vhOp Tryd.prog (.fld (.c a36) 0 1 false) h37 fun a38 h39 =>
  ACall Tryd.prog 18 [(.int .i64 2), a17, a19] h39 fun a40 h41 =>
  vhOp Tryd.prog (.fld (.c a40) 0 1 false) h41 fun a42 h43 =>
  ACall Tryd.prog 18 [(.int .i64 3), a17, a19] h43 fun a44 h45 =>
  vhOp Tryd.prog (.fld (.c a44) 0 1 false) h45 fun a46 h47 =>
  vlen a30 h47 fun a48 =>
  vbin .neq a48 a14 fun a49 =>
  vguard1 a49 false (fun G50 =>
  G50 a34) fun a51 =>
  vguard1 a49 false (fun G53 =>
  vlen a51 h47 fun a482 =>
  G53 a482) fun a54 =>
  vguard1 a49 false (fun G57 =>
  G57 a14) fun a58 =>
  vguard1 a49 false (fun G60 =>
  vbin .neq a54 a58 fun a481 =>
  G60 a481) fun a61 =>
  vdOp Tryd.prog (.pick (.c a49) (.c (.bool true)) (.c a61)) h47 fun a64 =>
  vguard1 a64 false (fun G65 =>
  G65 a38) fun a66 =>
  vguard1 a64 false (fun G68 =>
  vlen a66 h47 fun a480 =>
  G68 a480) fun a69 =>
  vguard1 a64 false (fun G72 =>
  G72 a14) fun a73 =>
  vguard1 a64 false (fun G75 =>
  vbin .neq a69 a73 fun a479 =>
  G75 a479) fun a76 =>
  vdOp Tryd.prog (.pick (.c a64) (.c (.bool true)) (.c a76)) h47 fun a79 =>
  vguard1 a79 false (fun G80 =>
  G80 a42) fun a81 =>
  vguard1 a79 false (fun G83 =>
  vlen a81 h47 fun a478 =>
  G83 a478) fun a84 =>
  vguard1 a79 false (fun G87 =>
  G87 a14) fun a88 =>
  vguard1 a79 false (fun G90 =>
  vbin .neq a84 a88 fun a477 =>
  G90 a477) fun a91 =>
  vdOp Tryd.prog (.pick (.c a79) (.c (.bool true)) (.c a91)) h47 fun a94 =>
  vguard1 a94 false (fun G95 =>
  G95 a46) fun a96 =>
  vguard1 a94 false (fun G98 =>
  vlen a96 h47 fun a476 =>
  G98 a476) fun a99 =>
  vguard1 a94 false (fun G102 =>
  G102 a14) fun a103 =>
  vguard1 a94 false (fun G105 =>
  vbin .neq a99 a103 fun a475 =>
  G105 a475) fun a106 =>
  vdOp Tryd.prog (.pick (.c a94) (.c (.bool true)) (.c a106)) h47 fun a109 =>
  vguard1 a109 false (fun G110 =>
  G110 a30) fun a111 =>
  vguard1 a109 false (fun G113 =>
  G113 a14) fun a114 =>
  vguard1 a109 false (fun G116 =>
  vbin .sub a114 (.int .i64 1) fun a474 =>
  G116 a474) fun a117 =>
  vguard1 a109 false (fun G120 =>
  vdOp Tryd.prog (.iadd (.c a111) (.c a117) 1) h47 fun a473 =>
  G120 a473) fun a121 =>
  vguard1 a109 false (fun G124 =>
  vdOp Tryd.prog (.ld (.c a121) 1 false) h47 fun a472 =>
  G124 a472) fun a125 =>
  vguard1 a109 false (fun G128 =>
  G128 a34) fun a129 =>
  vguard1 a109 false (fun G131 =>
  vdOp Tryd.prog (.iadd (.c a129) (.c (.int .i64 0)) 1) h47 fun a471 =>
  G131 a471) fun a132 =>
  vguard1 a109 false (fun G135 =>
  vdOp Tryd.prog (.ld (.c a132) 1 false) h47 fun a470 =>
  G135 a470) fun a136 =>
  vguard1 a109 false (fun G139 =>
  vbin .neq a125 a136 fun a469 =>
  G139 a469) fun a140 =>
  vdOp Tryd.prog (.pick (.c a109) (.c (.bool true)) (.c a140)) h47 fun a143 =>
  vguard1 a143 false (fun G144 =>
  G144 a30) fun a145 =>
  vguard1 a143 false (fun G147 =>
  vdOp Tryd.prog (.iadd (.c a145) (.c (.int .i64 0)) 1) h47 fun a468 =>
  G147 a468) fun a148 =>
  vguard1 a143 false (fun G151 =>
  vdOp Tryd.prog (.ld (.c a148) 1 false) h47 fun a467 =>
  G151 a467) fun a152 =>
  vguard1 a143 false (fun G155 =>
  G155 a17) fun a156 =>
  vguard1 a143 false (fun G158 =>
  vdOp Tryd.prog (.iadd (.c a156) (.c (.int .i64 0)) 1) h47 fun a466 =>
  G158 a466) fun a159 =>
  vguard1 a143 false (fun G162 =>
  vdOp Tryd.prog (.ld (.c a159) 1 false) h47 fun a465 =>
  G162 a465) fun a163 =>
  vguard1 a143 false (fun G166 =>
  vbin .neq a152 a163 fun a464 =>
  G166 a464) fun a167 =>
  vdOp Tryd.prog (.pick (.c a143) (.c (.bool true)) (.c a167)) h47 fun a170 =>
  vcond a170 (K (.bool false) h47) (
  vhOp Tryd.prog (.conv .u64 (.c a14)) h47 fun a171 h172 =>
  vbin .shl (.int .u64 1) a171 fun a173 =>
  vbin .sub a173 (.int .u64 1) fun a174 =>
  vhOp Tryd.prog (.conv .u32 (.c a174)) h172 fun a175 h176 =>
  vhOp Tryd.prog (.conv .i32 (.c a175)) h176 fun a177 h178 =>
  ∃ (J179 : List D → Heap → Prop), (∀ (f180 : Nat → D) (h181 : Heap), J179 [] h181 →
  ACall Tryd.prog 18 [(.int .i64 4), a17, (f26 12)] h181 fun a182 h183 =>
  vhOp Tryd.prog (.fld (.c a182) 0 1 false) h183 fun a184 h185 =>
  ACall Tryd.prog 18 [(.int .i64 4), a17, a19] h185 fun a186 h187 =>
  vhOp Tryd.prog (.fld (.c a186) 0 1 false) h187 fun a188 h189 =>
  ACall Tryd.prog 18 [(.int .i64 4), a188, a21] h189 fun a190 h191 =>
  vhOp Tryd.prog (.fld (.c a190) 0 1 false) h191 fun a192 h193 =>
  ACall Tryd.prog 18 [(.int .i64 4), a19, a21] h193 fun a194 h195 =>
  vhOp Tryd.prog (.fld (.c a194) 0 1 false) h195 fun a196 h197 =>
  ACall Tryd.prog 20 [a184, a17] h197 fun a198 h199 =>
  vguard a198 true (fun G200 =>
  G200 a192 h199) h199 fun a201 h202 =>
  vguard a198 true (fun G203 =>
  G203 a17 h202) h202 fun a204 h205 =>
  vguard a198 true (fun G206 =>
  G206 a196 h205) h205 fun a207 h208 =>
  vguard a198 true (fun G209 =>
  ACall Tryd.prog 18 [(.int .i64 4), a204, a207] h208 fun a212 h213 =>
  G209 a212 h213) h208 fun a210 h211 =>
  vguard a198 true (fun G214 =>
  vhOp Tryd.prog (.fld (.c a210) 0 1 false) h211 fun a217 h218 =>
  G214 a217 h218) h211 fun a215 h216 =>
  vguard a198 true (fun G219 =>
  ACall Tryd.prog 20 [a201, a215] h216 fun a222 h223 =>
  G219 a222 h223) h216 fun a220 h221 =>
  vhOp Tryd.prog (.pick (.c a198) (.c a220) (.c (.bool false))) h221 fun a224 h225 =>
  vguard a224 true (fun G226 =>
  G226 a4 h225) h225 fun a227 h228 =>
  vhOp Tryd.prog (.pick (.c a224) (.c a227) (.c (.bool false))) h228 fun a229 h230 =>
  K a229 h230) ∧
  V6_L0 h178 a14 a38 a17 a34 a42 a46 a177 a30 a4 a19 a21 f26 J179 K)) ∧
  V6_L1 a23 h24 a14 a4 a17 a19 a21 J25))
theorem V6_ok (a0 : D) (a1 : D) (a2 : D) (h0 : Heap) (K : D → Heap → Prop) : V6 a0 a1 a2 h0 K = vcC Tryd.prog F6.code (fun x e h' => match x with | .exit _ => False | _ => vcRet Tryd.prog F6.res K e h') (params [a0, a1, a2] 0) h0 := by kernel_rfl

/-- warpwright/warpwrightlaw04.LaunchPacks -/
def loops7 : Nat → Option (List Nat × List Nat)
  | 1000014 => some ([2, 7, 8, 9], [10]) | 10 => some ([2, 7, 8, 9], [10, 11]) | 1000033 => some ([7, 8], [13]) | 18 => some ([2, 7, 8, 9, 12], [13, 14]) | 1000020 => some ([2, 7, 8, 9, 12, 14], [13]) | 23 => some ([2, 7, 8, 9, 12, 14], [13, 15]) | 1000031 => some ([2, 7, 8, 9, 12, 14, 15], [13, 17]) | _ => none
def tbl7 : Nat → Option (List Nat × List Nat × List Nat)
  | _ => none
def F7 : AFunc := ⟨140,
  .seq (.reg [⟨(some 6), .mov (.c (.bool false)), none⟩]) <|
  .seq (.reg [⟨(some 18), .call 9 [], none⟩,
    ⟨(some 7), .mov (.t 18), none⟩]) <|
  .seq (.seq (.reg [⟨(some 19), .mov (.t 7), none⟩,
    ⟨(some 20), .un .not (.t 19), none⟩]) <|
  .cond (.t 20) (.seq (.reg [⟨(some 6), .mov (.c (.bool false)), none⟩]) <|
  .ret) (.skip)) <|
  .seq (.reg [⟨(some 21), .mov (.t 0), none⟩,
    ⟨(some 22), .mov (.t 0), none⟩,
    ⟨(some 23), .len (.t 22), none⟩,
    ⟨(some 24), .mn (.t 23) (.c (.int .i64 300)), none⟩,
    ⟨(some 25), .slc (.t 21) none (some (.t 24)) none 1, none⟩,
    ⟨(some 8), .mov (.t 25), none⟩]) <|
  .seq (.reg [⟨(some 26), .mov (.t 1), none⟩,
    ⟨(some 27), .bin .and (.t 26) (.c (.int .i64 63)), none⟩,
    ⟨(some 28), .bin .add (.c (.int .i64 1)) (.t 27), none⟩,
    ⟨(some 9), .mov (.t 28), none⟩]) <|
  .seq (.seq (.reg [⟨(some 29), .mov (.t 8), none⟩,
    ⟨(some 30), .mov (.t 1), none⟩,
    ⟨(some 31), .mov (.t 2), none⟩,
    ⟨(some 32), .call 22 [(.t 29), (.t 30), (.t 31)], none⟩,
    ⟨(some 33), .mov (.t 8), none⟩,
    ⟨(some 34), .mov (.t 1), none⟩,
    ⟨(some 35), .mov (.t 2), none⟩,
    ⟨(some 36), .call 23 [(.t 33), (.t 34), (.t 35)], none⟩,
    ⟨(some 37), .call 21 [(.t 32), (.t 36)], none⟩,
    ⟨(some 38), .un .not (.t 37), none⟩,
    ⟨(some 39), .mov (.t 38), none⟩,
    ⟨(some 40), .mov (.t 8), some (39, false)⟩,
    ⟨(some 41), .mov (.t 9), some (39, false)⟩,
    ⟨(some 42), .mov (.t 2), some (39, false)⟩,
    ⟨(some 43), .call 22 [(.t 40), (.t 41), (.t 42)], some (39, false)⟩,
    ⟨(some 44), .mov (.t 8), some (39, false)⟩,
    ⟨(some 45), .mov (.t 9), some (39, false)⟩,
    ⟨(some 46), .mov (.t 2), some (39, false)⟩,
    ⟨(some 47), .call 23 [(.t 44), (.t 45), (.t 46)], some (39, false)⟩,
    ⟨(some 48), .call 21 [(.t 43), (.t 47)], some (39, false)⟩,
    ⟨(some 49), .un .not (.t 48), some (39, false)⟩,
    ⟨(some 50), .pick (.t 39) (.c (.bool true)) (.t 49), none⟩]) <|
  .cond (.t 50) (.seq (.reg [⟨(some 6), .mov (.c (.bool false)), none⟩]) <|
  .ret) (.skip)) <|
  .seq (.reg [⟨(some 51), .bldS true 1 0 (.int .i64 0) [], none⟩,
    ⟨(some 10), .mov (.t 51), none⟩]) <|
  .seqj [2, 7, 8, 9] [10] (.seq (.reg [⟨(some 11), .mov (.c (.int .i64 0)), none⟩]) <|
  .block 0 (.loop [2, 7, 8, 9] [10, 11] (.seq (.seq (.reg [⟨(some 52), .mov (.t 11), none⟩,
    ⟨(some 53), .mov (.t 8), none⟩,
    ⟨(some 54), .len (.t 53), none⟩,
    ⟨(some 55), .bin .lss (.t 52) (.t 54), none⟩]) <|
  .cond (.t 55) (.skip) (.exit 0)) <|
  .seq (.block 1 (.reg [⟨(some 58), .mov (.t 10), none⟩,
    ⟨(some 59), .mov (.t 11), none⟩,
    ⟨(some 60), .bldS true 1 1 (.int .i64 0) [(0, (.t 59))], none⟩,
    ⟨(some 61), .app (.t 58) (.t 60) 1 8 (.int .i64 0), none⟩,
    ⟨(some 10), .mov (.t 61), none⟩])) <|
  .reg [⟨(some 56), .mov (.t 11), none⟩,
    ⟨(some 57), .bin .add (.t 56) (.c (.int .i64 1)), none⟩,
    ⟨(some 11), .mov (.t 57), none⟩]))) <|
  .seq (.reg [⟨(some 62), .mov (.t 10), none⟩,
    ⟨(some 63), .mov (.t 9), none⟩,
    ⟨(some 64), .mov (.t 2), none⟩,
    ⟨(some 65), .call 22 [(.t 62), (.t 63), (.t 64)], none⟩,
    ⟨(some 12), .alloc (.agg [.nil, (.int .i64 0)]), none⟩,
    ⟨none, .st (.t 12) (.t 65) 2, none⟩]) <|
  .seq (.seq (.reg [⟨(some 66), .fadd (.t 12) 1, none⟩,
    ⟨(some 67), .ld (.t 66) 1 false, none⟩,
    ⟨(some 68), .bin .neq (.t 67) (.c (.int .i64 0)), none⟩]) <|
  .cond (.t 68) (.seq (.reg [⟨(some 69), .fadd (.t 12) 1, none⟩,
    ⟨(some 70), .ld (.t 69) 1 false, none⟩,
    ⟨(some 71), .bin .eql (.t 70) (.c (.int .i64 1)), none⟩,
    ⟨(some 72), .mov (.t 71), none⟩,
    ⟨(some 73), .fadd (.t 12) 0, some (72, true)⟩,
    ⟨(some 74), .ld (.t 73) 1 false, some (72, true)⟩,
    ⟨(some 75), .len (.t 74), some (72, true)⟩,
    ⟨(some 76), .bin .eql (.t 75) (.c (.int .i64 0)), some (72, true)⟩,
    ⟨(some 77), .pick (.t 72) (.t 76) (.c (.bool false)), none⟩,
    ⟨(some 78), .mov (.t 77), none⟩,
    ⟨(some 79), .mov (.t 7), some (78, true)⟩,
    ⟨(some 80), .pick (.t 78) (.t 79) (.c (.bool false)), none⟩,
    ⟨(some 6), .mov (.t 80), none⟩]) <|
  .ret) (.skip)) <|
  .seq (.reg [⟨(some 13), .mov (.c (.int .i64 0)), none⟩]) <|
  .seqj [7, 8] [13] (.seq (.reg [⟨(some 14), .mov (.c (.int .i64 0)), none⟩]) <|
  .block 2 (.loop [2, 7, 8, 9, 12] [13, 14] (.seq (.seq (.reg [⟨(some 81), .mov (.t 14), none⟩,
    ⟨(some 82), .fadd (.t 12) 0, none⟩,
    ⟨(some 83), .ld (.t 82) 1 false, none⟩,
    ⟨(some 84), .len (.t 83), none⟩,
    ⟨(some 85), .bin .lss (.t 81) (.t 84), none⟩]) <|
  .cond (.t 85) (.skip) (.exit 2)) <|
  .seqj [2, 7, 8, 9, 12, 14] [13] (.block 3 (.seq (.seq (.reg [⟨(some 88), .fadd (.t 12) 0, none⟩,
    ⟨(some 89), .ld (.t 88) 1 false, none⟩,
    ⟨(some 90), .mov (.t 14), none⟩,
    ⟨(some 91), .iadd (.t 89) (.t 90) 1, none⟩,
    ⟨(some 92), .ld (.t 91) 1 false, none⟩,
    ⟨(some 93), .len (.t 92), none⟩,
    ⟨(some 94), .mov (.t 9), none⟩,
    ⟨(some 95), .bin .neq (.t 93) (.t 94), none⟩,
    ⟨(some 96), .mov (.t 95), none⟩,
    ⟨(some 97), .mov (.t 13), some (96, false)⟩,
    ⟨(some 98), .mov (.t 8), some (96, false)⟩,
    ⟨(some 99), .len (.t 98), some (96, false)⟩,
    ⟨(some 100), .bin .geq (.t 97) (.t 99), some (96, false)⟩,
    ⟨(some 101), .pick (.t 96) (.c (.bool true)) (.t 100), none⟩]) <|
  .cond (.t 101) (.seq (.reg [⟨(some 6), .mov (.c (.bool false)), none⟩]) <|
  .ret) (.skip)) <|
  .seq (.reg [⟨(some 15), .mov (.c (.int .i64 0)), none⟩]) <|
  .block 4 (.loop [2, 7, 8, 9, 12, 14] [13, 15] (.seq (.seq (.reg [⟨(some 102), .mov (.t 15), none⟩,
    ⟨(some 103), .mov (.t 9), none⟩,
    ⟨(some 104), .bin .lss (.t 102) (.t 103), none⟩]) <|
  .cond (.t 104) (.skip) (.exit 4)) <|
  .seq (.block 5 (.seq (.reg [⟨(some 107), .mov (.t 2), none⟩,
    ⟨(some 108), .mov (.t 15), none⟩,
    ⟨(some 109), .conv .u64 (.t 108), none⟩,
    ⟨(some 110), .bin .shr (.t 107) (.t 109), none⟩,
    ⟨(some 111), .bin .and (.t 110) (.c (.int .u64 1)), none⟩,
    ⟨(some 112), .bin .eql (.t 111) (.c (.int .u64 0)), none⟩,
    ⟨(some 16), .mov (.t 112), none⟩]) <|
  .seq (.reg [⟨(some 17), .mov (.c (.int .i64 (-1))), none⟩]) <|
  .seqj [2, 7, 8, 9, 12, 14, 15] [13, 17] (.seq (.reg [⟨(some 113), .mov (.t 16), none⟩,
    ⟨(some 114), .mov (.t 113), none⟩,
    ⟨(some 115), .mov (.t 13), some (114, true)⟩,
    ⟨(some 116), .mov (.t 8), some (114, true)⟩,
    ⟨(some 117), .len (.t 116), some (114, true)⟩,
    ⟨(some 118), .bin .lss (.t 115) (.t 117), some (114, true)⟩,
    ⟨(some 119), .pick (.t 114) (.t 118) (.c (.bool false)), none⟩]) <|
  .cond (.t 119) (.seq (.reg [⟨(some 120), .mov (.t 13), none⟩,
    ⟨(some 17), .mov (.t 120), none⟩]) <|
  .reg [⟨(some 121), .mov (.t 13), none⟩,
    ⟨(some 122), .bin .add (.t 121) (.c (.int .i64 1)), none⟩,
    ⟨(some 13), .mov (.t 122), none⟩]) (.skip)) <|
  .seq (.reg [⟨(some 123), .fadd (.t 12) 0, none⟩,
    ⟨(some 124), .ld (.t 123) 1 false, none⟩,
    ⟨(some 125), .mov (.t 14), none⟩,
    ⟨(some 126), .iadd (.t 124) (.t 125) 1, none⟩,
    ⟨(some 127), .ld (.t 126) 1 false, none⟩,
    ⟨(some 128), .mov (.t 15), none⟩,
    ⟨(some 129), .iadd (.t 127) (.t 128) 1, none⟩,
    ⟨(some 130), .ld (.t 129) 1 false, none⟩,
    ⟨(some 131), .mov (.t 17), none⟩,
    ⟨(some 132), .bin .neq (.t 130) (.t 131), none⟩]) <|
  .cond (.t 132) (.seq (.reg [⟨(some 6), .mov (.c (.bool false)), none⟩]) <|
  .ret) (.skip))) <|
  .reg [⟨(some 105), .mov (.t 15), none⟩,
    ⟨(some 106), .bin .add (.t 105) (.c (.int .i64 1)), none⟩,
    ⟨(some 15), .mov (.t 106), none⟩])))) <|
  .reg [⟨(some 86), .mov (.t 14), none⟩,
    ⟨(some 87), .bin .add (.t 86) (.c (.int .i64 1)), none⟩,
    ⟨(some 14), .mov (.t 87), none⟩]))) <|
  .seq (.reg [⟨(some 133), .mov (.t 13), none⟩,
    ⟨(some 134), .mov (.t 8), none⟩,
    ⟨(some 135), .len (.t 134), none⟩,
    ⟨(some 136), .bin .eql (.t 133) (.t 135), none⟩,
    ⟨(some 137), .mov (.t 136), none⟩,
    ⟨(some 138), .mov (.t 7), some (137, true)⟩,
    ⟨(some 139), .pick (.t 137) (.t 138) (.c (.bool false)), none⟩,
    ⟨(some 6), .mov (.t 139), none⟩]) <|
  .ret,
  [.t 6]⟩
theorem F7_ok : cFn Tryd.prog true 7 loops7 (cDr Tryd.prog 140 tbl7) = some F7 := by kernel_rfl

def V7_L0 (f118 : Nat → D) (h155 : Heap) (a13 : D) (a2 : D) (a67 : D) (a4 : D) (a10 : D) (J126 : List D → Heap → Prop) (K : D → Heap → Prop) : Prop :=
  ∃ (I156 : Nat → List D → Heap → Prop) (n₀ : Nat), I156 n₀ [(f118 13), (.int .i64 0)] h155 ∧ ∀ (n157 : Nat) (f158 : Nat → D) (h159 : Heap), I156 n157 [f158 13, f158 15] h159 →
  vbin .lss (f158 15) a13 fun a160 =>
  vcond a160 (vhOp Tryd.prog (.conv .u64 (.c (f158 15))) h159 fun a161 h162 =>
  vbin .shr a2 a161 fun a163 =>
  vbin .and a163 (.int .u64 1) fun a164 =>
  vbin .eql a164 (.int .u64 0) fun a165 =>
  ∃ (J166 : List D → Heap → Prop), (∀ (f167 : Nat → D) (h168 : Heap), J166 [f167 13, f167 17] h168 →
  vhOp Tryd.prog (.fadd (.c a67) 0) h168 fun a169 h170 =>
  vhOp Tryd.prog (.ld (.c a169) 1 false) h170 fun a171 h172 =>
  vhOp Tryd.prog (.iadd (.c a171) (.c (f118 14)) 1) h172 fun a173 h174 =>
  vhOp Tryd.prog (.ld (.c a173) 1 false) h174 fun a175 h176 =>
  vhOp Tryd.prog (.iadd (.c a175) (.c (f158 15)) 1) h176 fun a177 h178 =>
  vhOp Tryd.prog (.ld (.c a177) 1 false) h178 fun a179 h180 =>
  vbin .neq a179 (f167 17) fun a181 =>
  vcond a181 (K (.bool false) h180) (
  vbin .add (f158 15) (.int .i64 1) fun a182 =>
  keq [a2, a4, a10, a13, a67, (f118 14)] [a2, a4, a10, a13, a67, (f118 14)] ∧ ∃ m, m < n157 ∧ I156 m [(f167 13), a182] h180)) ∧
  vguard a165 true (fun G183 =>
  G183 (f158 13) h162) h162 fun a184 h185 =>
  vguard a165 true (fun G186 =>
  G186 a10 h185) h185 fun a187 h188 =>
  vguard a165 true (fun G189 =>
  vlen a187 h188 fun a192 =>
  G189 a192 h188) h188 fun a190 h191 =>
  vguard a165 true (fun G193 =>
  vbin .lss a184 a190 fun a196 =>
  G193 a196 h191) h191 fun a194 h195 =>
  vhOp Tryd.prog (.pick (.c a165) (.c a194) (.c (.bool false))) h195 fun a197 h198 =>
  vcond a197 (vbin .add (f158 13) (.int .i64 1) fun a199 =>
  keq [a2, a4, a10, a13, a67, (f118 14), (f158 15)] [a2, a4, a10, a13, a67, (f118 14), (f158 15)] ∧ J166 [a199, (f158 13)] h198) (
  keq [a2, a4, a10, a13, a67, (f118 14), (f158 15)] [a2, a4, a10, a13, a67, (f118 14), (f158 15)] ∧ J166 [(f158 13), (.int .i64 (-1))] h198)) (
  keq [a2, a4, a10, a13, a67, (f118 14)] [a2, a4, a10, a13, a67, (f118 14)] ∧ J126 [(f158 13)] h159)
def V7_L1 (h74 : Heap) (a67 : D) (a2 : D) (a4 : D) (a10 : D) (a13 : D) (J106 : List D → Heap → Prop) (K : D → Heap → Prop) : Prop :=
  ∃ (I116 : Nat → List D → Heap → Prop) (n₀ : Nat), I116 n₀ [(.int .i64 0), (.int .i64 0)] h74 ∧ ∀ (n117 : Nat) (f118 : Nat → D) (h119 : Heap), I116 n117 [f118 13, f118 14] h119 →
  vhOp Tryd.prog (.fadd (.c a67) 0) h119 fun a120 h121 =>
  vhOp Tryd.prog (.ld (.c a120) 1 false) h121 fun a122 h123 =>
  vlen a122 h123 fun a124 =>
  vbin .lss (f118 14) a124 fun a125 =>
  vcond a125 (∃ (J126 : List D → Heap → Prop), (∀ (f127 : Nat → D) (h128 : Heap), J126 [f127 13] h128 →
  vbin .add (f118 14) (.int .i64 1) fun a129 =>
  keq [a2, a4, a10, a13, a67] [a2, a4, a10, a13, a67] ∧ ∃ m, m < n117 ∧ I116 m [(f127 13), a129] h128) ∧
  vhOp Tryd.prog (.fadd (.c a67) 0) h123 fun a130 h131 =>
  vhOp Tryd.prog (.ld (.c a130) 1 false) h131 fun a132 h133 =>
  vhOp Tryd.prog (.iadd (.c a132) (.c (f118 14)) 1) h133 fun a134 h135 =>
  vhOp Tryd.prog (.ld (.c a134) 1 false) h135 fun a136 h137 =>
  vlen a136 h137 fun a138 =>
  vbin .neq a138 a13 fun a139 =>
  vguard a139 false (fun G140 =>
  G140 (f118 13) h137) h137 fun a141 h142 =>
  vguard a139 false (fun G143 =>
  G143 a10 h142) h142 fun a144 h145 =>
  vguard a139 false (fun G146 =>
  vlen a144 h145 fun a149 =>
  G146 a149 h145) h145 fun a147 h148 =>
  vguard a139 false (fun G150 =>
  vbin .geq a141 a147 fun a153 =>
  G150 a153 h148) h148 fun a151 h152 =>
  vhOp Tryd.prog (.pick (.c a139) (.c (.bool true)) (.c a151)) h152 fun a154 h155 =>
  vcond a154 (K (.bool false) h155) (
  V7_L0 f118 h155 a13 a2 a67 a4 a10 J126 K)) (
  keq [a4, a10] [a4, a10] ∧ J106 [(f118 13)] h123)
def V7_L2 (a60 : D) (h61 : Heap) (a10 : D) (a2 : D) (a4 : D) (a13 : D) (J62 : List D → Heap → Prop) : Prop :=
  ∃ (I200 : Nat → List D → Heap → Prop) (n₀ : Nat), I200 n₀ [a60, (.int .i64 0)] h61 ∧ ∀ (n201 : Nat) (f202 : Nat → D) (h203 : Heap), I200 n201 [f202 10, f202 11] h203 →
  vlen a10 h203 fun a204 =>
  vbin .lss (f202 11) a204 fun a205 =>
  vcond a205 (vhOp Tryd.prog (.bldS true 1 1 (.int .i64 0) [(0, (.c (f202 11)))]) h203 fun a206 h207 =>
  vhOp Tryd.prog (.app (.c (f202 10)) (.c a206) 1 8 (.int .i64 0)) h207 fun a208 h209 =>
  vbin .add (f202 11) (.int .i64 1) fun a210 =>
  keq [a2, a4, a10, a13] [a2, a4, a10, a13] ∧ ∃ m, m < n201 ∧ I200 m [a208, a210] h209) (
  keq [a2, a4, a10, a13] [a2, a4, a10, a13] ∧ J62 [(f202 10)] h203)
def V7 (a0 : D) (a1 : D) (a2 : D) (h0 : Heap) (K : D → Heap → Prop) : Prop :=
  ACall Tryd.prog 9 [] h0 fun a4 h5 =>
  vun .not a4 fun a6 =>
  vcond a6 (K (.bool false) h5) (
  vlen a0 h5 fun a7 =>
  vhOp Tryd.prog (.mn (.c a7) (.c (.int .i64 300))) h5 fun a8 h9 =>
  vhOp Tryd.prog (.slc (.c a0) none (some (.c a8)) none 1) h9 fun a10 h11 =>
  vbin .and a1 (.int .i64 63) fun a12 =>
  vbin .add (.int .i64 1) a12 fun a13 =>
  ACall Tryd.prog 22 [a10, a1, a2] h11 fun a14 h15 =>
  ACall Tryd.prog 23 [a10, a1, a2] h15 fun a16 h17 =>
  ACall Tryd.prog 21 [a14, a16] h17 fun a18 h19 =>
  vun .not a18 fun a20 =>
  vguard a20 false (fun G21 =>
  G21 a10 h19) h19 fun a22 h23 =>
  vguard a20 false (fun G24 =>
  G24 a13 h23) h23 fun a25 h26 =>
  vguard a20 false (fun G27 =>
  G27 a2 h26) h26 fun a28 h29 =>
  vguard a20 false (fun G30 =>
  ACall Tryd.prog 22 [a22, a25, a28] h29 fun a33 h34 =>
  G30 a33 h34) h29 fun a31 h32 =>
  vguard a20 false (fun G35 =>
  G35 a10 h32) h32 fun a36 h37 =>
  vguard a20 false (fun G38 =>
  G38 a13 h37) h37 fun a39 h40 =>
  vguard a20 false (fun G41 =>
  G41 a2 h40) h40 fun a42 h43 =>
  vguard a20 false (fun G44 =>
  ACall Tryd.prog 23 [a36, a39, a42] h43 fun a47 h48 =>
  G44 a47 h48) h43 fun a45 h46 =>
  vguard a20 false (fun G49 =>
  ACall Tryd.prog 21 [a31, a45] h46 fun a52 h53 =>
  G49 a52 h53) h46 fun a50 h51 =>
  vguard a20 false (fun G54 =>
  vun .not a50 fun a57 =>
  G54 a57 h51) h51 fun a55 h56 =>
  vhOp Tryd.prog (.pick (.c a20) (.c (.bool true)) (.c a55)) h56 fun a58 h59 =>
  vcond a58 (K (.bool false) h59) (
  vhOp Tryd.prog (.bldS true 1 0 (.int .i64 0) []) h59 fun a60 h61 =>
  ∃ (J62 : List D → Heap → Prop), (∀ (f63 : Nat → D) (h64 : Heap), J62 [f63 10] h64 →
  ACall Tryd.prog 22 [(f63 10), a13, a2] h64 fun a65 h66 =>
  vhOp Tryd.prog (.alloc (.agg [.nil, (.int .i64 0)])) h66 fun a67 h68 =>
  vhOp Tryd.prog (.st (.c a67) (.c a65) 2) h68 fun a69 h70 =>
  vhOp Tryd.prog (.fadd (.c a67) 1) h70 fun a71 h72 =>
  vhOp Tryd.prog (.ld (.c a71) 1 false) h72 fun a73 h74 =>
  vbin .neq a73 (.int .i64 0) fun a75 =>
  vcond a75 (vhOp Tryd.prog (.fadd (.c a67) 1) h74 fun a76 h77 =>
  vhOp Tryd.prog (.ld (.c a76) 1 false) h77 fun a78 h79 =>
  vbin .eql a78 (.int .i64 1) fun a80 =>
  vguard a80 true (fun G81 =>
  vhOp Tryd.prog (.fadd (.c a67) 0) h79 fun a84 h85 =>
  G81 a84 h85) h79 fun a82 h83 =>
  vguard a80 true (fun G86 =>
  vhOp Tryd.prog (.ld (.c a82) 1 false) h83 fun a89 h90 =>
  G86 a89 h90) h83 fun a87 h88 =>
  vguard a80 true (fun G91 =>
  vlen a87 h88 fun a94 =>
  G91 a94 h88) h88 fun a92 h93 =>
  vguard a80 true (fun G95 =>
  vbin .eql a92 (.int .i64 0) fun a98 =>
  G95 a98 h93) h93 fun a96 h97 =>
  vhOp Tryd.prog (.pick (.c a80) (.c a96) (.c (.bool false))) h97 fun a99 h100 =>
  vguard a99 true (fun G101 =>
  G101 a4 h100) h100 fun a102 h103 =>
  vhOp Tryd.prog (.pick (.c a99) (.c a102) (.c (.bool false))) h103 fun a104 h105 =>
  K a104 h105) (
  ∃ (J106 : List D → Heap → Prop), (∀ (f107 : Nat → D) (h108 : Heap), J106 [f107 13] h108 →
  vlen a10 h108 fun a109 =>
  vbin .eql (f107 13) a109 fun a110 =>
  vguard a110 true (fun G111 =>
  G111 a4 h108) h108 fun a112 h113 =>
  vhOp Tryd.prog (.pick (.c a110) (.c a112) (.c (.bool false))) h113 fun a114 h115 =>
  K a114 h115) ∧
  V7_L1 h74 a67 a2 a4 a10 a13 J106 K)) ∧
  V7_L2 a60 h61 a10 a2 a4 a13 J62))
theorem V7_ok (a0 : D) (a1 : D) (a2 : D) (h0 : Heap) (K : D → Heap → Prop) : V7 a0 a1 a2 h0 K = vcC Tryd.prog F7.code (fun x e h' => match x with | .exit _ => False | _ => vcRet Tryd.prog F7.res K e h') (params [a0, a1, a2] 0) h0 := by kernel_rfl

/-- warpwright/warpwrightlaw04.LaunchMemory -/
def loops8 : Nat → Option (List Nat × List Nat)
  | 1000020 => some ([7], []) | 8 => some ([1, 5, 7, 8], [9]) | 1000010 => some ([1, 5, 7, 8, 9], []) | _ => none
def tbl8 : Nat → Option (List Nat × List Nat × List Nat)
  | 16 => some ([0, 0, 0, 0, 12, 28, 0, 64, 192, 448, 1020, 2047, 4095], [10, 12], [11]) | _ => none
def F8 : AFunc := ⟨98,
  .seq (.reg [⟨(some 3), .box (.t 0), none⟩,
    ⟨(some 5), .box (.t 2), none⟩,
    ⟨(some 6), .mov (.c (.bool false)), none⟩]) <|
  .seq (.reg [⟨(some 13), .call 9 [], none⟩,
    ⟨(some 7), .mov (.t 13), none⟩]) <|
  .seq (.seq (.reg [⟨(some 14), .mov (.t 7), none⟩,
    ⟨(some 15), .un .not (.t 14), none⟩]) <|
  .cond (.t 15) (.seq (.reg [⟨(some 6), .mov (.c (.bool false)), none⟩]) <|
  .ret) (.skip)) <|
  .seq (.seq (.reg [⟨(some 16), .mov (.t 1), none⟩,
    ⟨(some 17), .len (.t 16), none⟩,
    ⟨(some 18), .bin .gtr (.t 17) (.c (.int .i64 20)), none⟩]) <|
  .cond (.t 18) (.seq (.reg [⟨(some 19), .mov (.t 7), none⟩,
    ⟨(some 6), .mov (.t 19), none⟩]) <|
  .ret) (.skip)) <|
  .seq (.reg [⟨(some 20), .ld (.t 3) 4 true, none⟩,
    ⟨(some 21), .call 10 [(.t 20)], none⟩,
    ⟨(some 22), .fld (.t 21) 5 1 false, none⟩,
    ⟨(some 8), .mov (.t 22), none⟩]) <|
  .seqj [7] [] (.seq (.reg [⟨(some 9), .mov (.c (.int .i64 0)), none⟩]) <|
  .block 0 (.loop [1, 5, 7, 8] [9] (.seq (.seq (.reg [⟨(some 23), .mov (.t 9), none⟩,
    ⟨(some 24), .bin .leq (.t 23) (.c (.int .i64 4)), none⟩]) <|
  .cond (.t 24) (.skip) (.exit 0)) <|
  .seqj [1, 5, 7, 8, 9] [] (.block 1 (.seq (.reg [⟨(some 27), .mov (.t 8), none⟩,
    ⟨(some 28), .mov (.t 9), none⟩,
    ⟨(some 29), .call 24 [(.t 27), (.t 28)], none⟩,
    ⟨(some 10), .mov (.t 29), none⟩]) <|
  .seq (.seq (.reg [⟨(some 30), .mov (.t 10), none⟩,
    ⟨(some 31), .mov (.t 8), none⟩,
    ⟨(some 32), .mov (.t 9), none⟩,
    ⟨(some 33), .call 26 [(.t 31), (.t 32)], none⟩,
    ⟨(some 34), .call 25 [(.t 30), (.t 33)], none⟩,
    ⟨(some 35), .un .not (.t 34), none⟩,
    ⟨(some 36), .mov (.t 35), none⟩,
    ⟨(some 37), .mov (.t 8), some (36, false)⟩,
    ⟨(some 38), .mov (.t 9), some (36, false)⟩,
    ⟨(some 39), .mov (.t 10), some (36, false)⟩,
    ⟨(some 40), .call 27 [(.t 37), (.t 38), (.t 39)], some (36, false)⟩,
    ⟨(some 41), .un .not (.t 40), some (36, false)⟩,
    ⟨(some 42), .pick (.t 36) (.c (.bool true)) (.t 41), none⟩,
    ⟨(some 43), .mov (.t 42), none⟩,
    ⟨(some 44), .mov (.t 8), some (43, false)⟩,
    ⟨(some 45), .mov (.t 9), some (43, false)⟩,
    ⟨(some 46), .mov (.t 1), some (43, false)⟩,
    ⟨(some 47), .call 27 [(.t 44), (.t 45), (.t 46)], some (43, false)⟩,
    ⟨(some 48), .mov (.t 8), some (43, false)⟩,
    ⟨(some 49), .mov (.t 9), some (43, false)⟩,
    ⟨(some 50), .mov (.t 1), some (43, false)⟩,
    ⟨(some 51), .call 28 [(.t 48), (.t 49), (.t 50)], some (43, false)⟩,
    ⟨(some 52), .eqv true false [.b] (.t 47) (.t 51), some (43, false)⟩,
    ⟨(some 53), .pick (.t 43) (.c (.bool true)) (.t 52), none⟩]) <|
  .cond (.t 53) (.seq (.reg [⟨(some 6), .mov (.c (.bool false)), none⟩]) <|
  .ret) (.skip)) <|
  .seq (.reg [⟨(some 54), .mov (.t 10), none⟩,
    ⟨(some 55), .call 29 [(.t 54)], none⟩,
    ⟨(some 11), .mov (.t 55), none⟩]) <|
  .seq (.seq (.reg [⟨(some 56), .mov (.t 11), none⟩,
    ⟨(some 57), .len (.t 56), none⟩,
    ⟨(some 58), .bin .eql (.t 57) (.c (.int .i64 0)), none⟩]) <|
  .cond (.t 58) (.exit 1) (.skip)) <|
  .seq (.reg [⟨(some 59), .iadda (.t 5) (.c (.int .i64 0)) 2 1, none⟩,
    ⟨(some 60), .ld (.t 59) 1 false, none⟩,
    ⟨(some 61), .conv .i64 (.t 60), none⟩,
    ⟨(some 62), .mov (.t 11), none⟩,
    ⟨(some 63), .len (.t 62), none⟩,
    ⟨(some 64), .bin .rem (.t 61) (.t 63), none⟩,
    ⟨(some 12), .mov (.t 64), none⟩]) <|
  .seq (.dreg [⟨(some 65), .mov (.t 11), none⟩,
    ⟨(some 66), .mov (.t 12), none⟩,
    ⟨(some 67), .mov (.t 11), none⟩,
    ⟨(some 68), .mov (.t 12), none⟩,
    ⟨(some 69), .iadd (.t 67) (.t 68) 1, none⟩,
    ⟨(some 70), .ld (.t 69) 1 false, none⟩,
    ⟨(some 71), .iadda (.t 5) (.c (.int .i64 1)) 2 1, none⟩,
    ⟨(some 72), .ld (.t 71) 1 false, none⟩,
    ⟨(some 73), .conv .i32 (.t 72), none⟩,
    ⟨(some 74), .bldS false 1 1 (.int .i32 0) [(0, (.t 73))], none⟩,
    ⟨(some 76), .iadd (.t 65) (.t 66) 1, none⟩] [⟨(some 75), .app (.t 70) (.t 74) 1 4 (.int .i32 0), none⟩,
    ⟨none, .st (.t 76) (.t 75) 1, none⟩] [⟨(some 76), .iadd (.t 65) (.t 66) 1, none⟩]) <|
  .seq (.reg [⟨(some 77), .mov (.t 8), none⟩,
    ⟨(some 78), .mov (.t 9), none⟩,
    ⟨(some 79), .mov (.t 11), none⟩,
    ⟨(some 80), .call 27 [(.t 77), (.t 78), (.t 79)], none⟩,
    ⟨(some 81), .mov (.t 80), none⟩,
    ⟨(some 82), .mov (.t 8), some (81, false)⟩,
    ⟨(some 83), .mov (.t 9), some (81, false)⟩,
    ⟨(some 84), .mov (.t 10), some (81, false)⟩,
    ⟨(some 85), .slc (.t 84) (some (.c (.int .i64 1))) none none 1, some (81, false)⟩,
    ⟨(some 86), .call 27 [(.t 82), (.t 83), (.t 85)], some (81, false)⟩,
    ⟨(some 87), .pick (.t 81) (.c (.bool true)) (.t 86), none⟩,
    ⟨(some 88), .mov (.t 87), none⟩,
    ⟨(some 89), .mov (.t 8), some (88, false)⟩,
    ⟨(some 90), .mov (.t 9), some (88, false)⟩,
    ⟨(some 91), .mov (.t 10), some (88, false)⟩,
    ⟨(some 92), .call 29 [(.t 91)], some (88, false)⟩,
    ⟨(some 93), .bldS true 1 1 .nil [(0, (.c .nil))], some (88, false)⟩,
    ⟨(some 94), .app (.t 92) (.t 93) 1 24 .nil, some (88, false)⟩,
    ⟨(some 95), .call 27 [(.t 89), (.t 90), (.t 94)], some (88, false)⟩,
    ⟨(some 96), .pick (.t 88) (.c (.bool true)) (.t 95), none⟩]) <|
  .cond (.t 96) (.seq (.reg [⟨(some 6), .mov (.c (.bool false)), none⟩]) <|
  .ret) (.skip))) <|
  .reg [⟨(some 25), .mov (.t 9), none⟩,
    ⟨(some 26), .bin .add (.t 25) (.c (.int .i64 1)), none⟩,
    ⟨(some 9), .mov (.t 26), none⟩]))) <|
  .seq (.reg [⟨(some 97), .mov (.t 7), none⟩,
    ⟨(some 6), .mov (.t 97), none⟩]) <|
  .ret,
  [.t 6]⟩
theorem F8_ok : cFn Tryd.prog true 8 loops8 (cDr Tryd.prog 98 tbl8) = some F8 := by kernel_rfl

def V8_L0 (h18 : Heap) (a1 : D) (a6 : D) (a8 : D) (a17 : D) (J19 : List D → Heap → Prop) (K : D → Heap → Prop) : Prop :=
  ∃ (I22 : Nat → List D → Heap → Prop) (n₀ : Nat), I22 n₀ [(.int .i64 0)] h18 ∧ ∀ (n23 : Nat) (f24 : Nat → D) (h25 : Heap), I22 n23 [f24 9] h25 →
  vbin .leq (f24 9) (.int .i64 4) fun a26 =>
  vcond a26 (∃ (J27 : List D → Heap → Prop), (∀ (f28 : Nat → D) (h29 : Heap), J27 [] h29 →
  vbin .add (f24 9) (.int .i64 1) fun a30 =>
  keq [a1, a6, a8, a17] [a1, a6, a8, a17] ∧ ∃ m, m < n23 ∧ I22 m [a30] h29) ∧
  ACall Tryd.prog 24 [a17, (f24 9)] h25 fun a31 h32 =>
  ACall Tryd.prog 26 [a17, (f24 9)] h32 fun a33 h34 =>
  ACall Tryd.prog 25 [a31, a33] h34 fun a35 h36 =>
  vun .not a35 fun a37 =>
  vguard a37 false (fun G38 =>
  G38 a17 h36) h36 fun a39 h40 =>
  vguard a37 false (fun G41 =>
  G41 (f24 9) h40) h40 fun a42 h43 =>
  vguard a37 false (fun G44 =>
  G44 a31 h43) h43 fun a45 h46 =>
  vguard a37 false (fun G47 =>
  ACall Tryd.prog 27 [a39, a42, a45] h46 fun a50 h51 =>
  G47 a50 h51) h46 fun a48 h49 =>
  vguard a37 false (fun G52 =>
  vun .not a48 fun a55 =>
  G52 a55 h49) h49 fun a53 h54 =>
  vhOp Tryd.prog (.pick (.c a37) (.c (.bool true)) (.c a53)) h54 fun a56 h57 =>
  vguard a56 false (fun G58 =>
  G58 a17 h57) h57 fun a59 h60 =>
  vguard a56 false (fun G61 =>
  G61 (f24 9) h60) h60 fun a62 h63 =>
  vguard a56 false (fun G64 =>
  G64 a1 h63) h63 fun a65 h66 =>
  vguard a56 false (fun G67 =>
  ACall Tryd.prog 27 [a59, a62, a65] h66 fun a70 h71 =>
  G67 a70 h71) h66 fun a68 h69 =>
  vguard a56 false (fun G72 =>
  G72 a17 h69) h69 fun a73 h74 =>
  vguard a56 false (fun G75 =>
  G75 (f24 9) h74) h74 fun a76 h77 =>
  vguard a56 false (fun G78 =>
  G78 a1 h77) h77 fun a79 h80 =>
  vguard a56 false (fun G81 =>
  ACall Tryd.prog 28 [a73, a76, a79] h80 fun a84 h85 =>
  G81 a84 h85) h80 fun a82 h83 =>
  vguard a56 false (fun G86 =>
  vhOp Tryd.prog (.eqv true false [.b] (.c a68) (.c a82)) h83 fun a89 h90 =>
  G86 a89 h90) h83 fun a87 h88 =>
  vhOp Tryd.prog (.pick (.c a56) (.c (.bool true)) (.c a87)) h88 fun a91 h92 =>
  vcond a91 (K (.bool false) h92) (
  ACall Tryd.prog 29 [a31] h92 fun a93 h94 =>
  vlen a93 h94 fun a95 =>
  vbin .eql a95 (.int .i64 0) fun a96 =>
  vcond a96 (keq [a1, a6, a8, a17, (f24 9)] [a1, a6, a8, a17, (f24 9)] ∧ J27 [] h94) (
  vhOp Tryd.prog (.iadda (.c a6) (.c (.int .i64 0)) 2 1) h94 fun a97 h98 =>
  vhOp Tryd.prog (.ld (.c a97) 1 false) h98 fun a99 h100 =>
  vhOp Tryd.prog (.conv .i64 (.c a99)) h100 fun a101 h102 =>
  vlen a93 h102 fun a103 =>
  vbin .rem a101 a103 fun a104 =>
  vdOp Tryd.prog (.iadd (.c a93) (.c a104) 1) h102 fun a105 =>
  vdOp Tryd.prog (.ld (.c a105) 1 false) h102 fun a106 =>
  vdOp Tryd.prog (.iadda (.c a6) (.c (.int .i64 1)) 2 1) h102 fun a107 =>
  vdOp Tryd.prog (.ld (.c a107) 1 false) h102 fun a108 =>
  vdOp Tryd.prog (.conv .i32 (.c a108)) h102 fun a109 =>
  vdOp Tryd.prog (.bldS false 1 1 (.int .i32 0) [(0, (.c a109))]) h102 fun a110 =>
  vdOp Tryd.prog (.iadd (.c a93) (.c a104) 1) h102 fun a111 =>
  vhOp Tryd.prog (.app (.c a106) (.c a110) 1 4 (.int .i32 0)) h102 fun a112 h113 =>
  ((vdOp Tryd.prog (.iadd (.c a93) (.c a104) 1) h113 fun a114 => keq [a114] [a111]) ∧ True) ∧
  vhOp Tryd.prog (.st (.c a111) (.c a112) 1) h113 fun a115 h116 =>
  ((vdOp Tryd.prog (.iadd (.c a93) (.c a104) 1) h116 fun a117 => keq [a117] [a111]) ∧ True) ∧
  ACall Tryd.prog 27 [a17, (f24 9), a93] h116 fun a118 h119 =>
  vguard a118 false (fun G120 =>
  G120 a17 h119) h119 fun a121 h122 =>
  vguard a118 false (fun G123 =>
  G123 (f24 9) h122) h122 fun a124 h125 =>
  vguard a118 false (fun G126 =>
  G126 a31 h125) h125 fun a127 h128 =>
  vguard a118 false (fun G129 =>
  vhOp Tryd.prog (.slc (.c a127) (some (.c (.int .i64 1))) none none 1) h128 fun a132 h133 =>
  G129 a132 h133) h128 fun a130 h131 =>
  vguard a118 false (fun G134 =>
  ACall Tryd.prog 27 [a121, a124, a130] h131 fun a137 h138 =>
  G134 a137 h138) h131 fun a135 h136 =>
  vhOp Tryd.prog (.pick (.c a118) (.c (.bool true)) (.c a135)) h136 fun a139 h140 =>
  vguard a139 false (fun G141 =>
  G141 a17 h140) h140 fun a142 h143 =>
  vguard a139 false (fun G144 =>
  G144 (f24 9) h143) h143 fun a145 h146 =>
  vguard a139 false (fun G147 =>
  G147 a31 h146) h146 fun a148 h149 =>
  vguard a139 false (fun G150 =>
  ACall Tryd.prog 29 [a148] h149 fun a153 h154 =>
  G150 a153 h154) h149 fun a151 h152 =>
  vguard a139 false (fun G155 =>
  vhOp Tryd.prog (.bldS true 1 1 .nil [(0, (.c .nil))]) h152 fun a158 h159 =>
  G155 a158 h159) h152 fun a156 h157 =>
  vguard a139 false (fun G160 =>
  vhOp Tryd.prog (.app (.c a151) (.c a156) 1 24 .nil) h157 fun a163 h164 =>
  G160 a163 h164) h157 fun a161 h162 =>
  vguard a139 false (fun G165 =>
  ACall Tryd.prog 27 [a142, a145, a161] h162 fun a168 h169 =>
  G165 a168 h169) h162 fun a166 h167 =>
  vhOp Tryd.prog (.pick (.c a139) (.c (.bool true)) (.c a166)) h167 fun a170 h171 =>
  vcond a170 (K (.bool false) h171) (
  keq [a1, a6, a8, a17, (f24 9)] [a1, a6, a8, a17, (f24 9)] ∧ J27 [] h171)))) (
  keq [a8] [a8] ∧ J19 [] h25)
def V8 (a0 : D) (a1 : D) (a2 : D) (h0 : Heap) (K : D → Heap → Prop) : Prop :=
  vhOp Tryd.prog (.box (.c a0)) h0 fun a4 h5 =>
  vhOp Tryd.prog (.box (.c a2)) h5 fun a6 h7 =>
  ACall Tryd.prog 9 [] h7 fun a8 h9 =>
  vun .not a8 fun a10 =>
  vcond a10 (K (.bool false) h9) (
  vlen a1 h9 fun a11 =>
  vbin .gtr a11 (.int .i64 20) fun a12 =>
  vcond a12 (K a8 h9) (
  vhOp Tryd.prog (.ld (.c a4) 4 true) h9 fun a13 h14 =>
  ACall Tryd.prog 10 [a13] h14 fun a15 h16 =>
  vhOp Tryd.prog (.fld (.c a15) 5 1 false) h16 fun a17 h18 =>
  ∃ (J19 : List D → Heap → Prop), (∀ (f20 : Nat → D) (h21 : Heap), J19 [] h21 →
  K a8 h21) ∧
  V8_L0 h18 a1 a6 a8 a17 J19 K))
theorem V8_ok (a0 : D) (a1 : D) (a2 : D) (h0 : Heap) (K : D → Heap → Prop) : V8 a0 a1 a2 h0 K = vcC Tryd.prog F8.code (fun x e h' => match x with | .exit _ => False | _ => vcRet Tryd.prog F8.res K e h') (params [a0, a1, a2] 0) h0 := by kernel_rfl

/-- warpwright/warpwrightlaw04.examples -/
def loops9 : Nat → Option (List Nat × List Nat)
  | 6000012 => some ([], []) | _ => none
def tbl9 : Nat → Option (List Nat × List Nat × List Nat)
  | 11 => some ([0, 1, 0, 7, 15, 31, 63, 31, 255, 511, 1023, 2047, 4095, 8191, 16383, 32767, 65535, 131071, 262143, 131071, 655359, 2097151, 4194303, 8388607], [], []) | _ => none
def F9 : AFunc := ⟨105,
  .seq (.reg [⟨(some 0), .mov (.c (.bool false)), none⟩]) <|
  .seq (.reg [⟨(some 8), .bld [(.int .i64 0), (.int .i64 0), (.int .i64 0), (.int .i64 0), (.int .i64 0), .nil, .nil, .nil] [(0, 1, (.c (.int .i64 6))), (1, 1, (.c (.int .i64 2)))], none⟩,
    ⟨(some 1), .alloc (.agg [(.int .i64 0), (.int .i64 0), (.int .i64 0), (.int .i64 0), (.int .i64 0), .nil, .nil, .nil]), none⟩,
    ⟨none, .st (.t 1) (.t 8) 8, none⟩]) <|
  .seq (.reg [⟨(some 9), .bld [(.int .i64 0), .nil] [(0, 1, (.c (.int .i64 2)))], none⟩,
    ⟨(some 2), .alloc (.agg [(.int .i64 0), .nil]), none⟩,
    ⟨none, .st (.t 2) (.t 9) 2, none⟩]) <|
  .seq (.reg [⟨(some 11), .ld (.t 1) 8 true, none⟩,
    ⟨(some 12), .call 16 [(.t 11), (.c (.int .i64 9))], none⟩,
    ⟨(some 10), .mov (.t 12), none⟩,
    ⟨(some 13), .ext (.t 10) 0, none⟩,
    ⟨(some 14), .ext (.t 10) 1, none⟩,
    ⟨(some 3), .mov (.t 13), none⟩,
    ⟨(some 4), .mov (.t 14), none⟩]) <|
  .seq (.seq (.reg [⟨(some 15), .mov (.t 3), none⟩,
    ⟨(some 16), .bin .neq (.t 15) (.c (.int .i64 1)), none⟩,
    ⟨(some 17), .mov (.t 16), none⟩,
    ⟨(some 18), .mov (.t 4), some (17, false)⟩,
    ⟨(some 19), .bin .neq (.t 18) (.c (.int .i64 3)), some (17, false)⟩,
    ⟨(some 20), .pick (.t 17) (.c (.bool true)) (.t 19), none⟩,
    ⟨(some 21), .mov (.t 20), none⟩,
    ⟨(some 22), .ld (.t 1) 8 true, some (21, false)⟩,
    ⟨(some 23), .ld (.t 2) 2 true, some (21, false)⟩,
    ⟨(some 24), .call 12 [(.t 22), (.t 23)], some (21, false)⟩,
    ⟨(some 25), .bin .neq (.t 24) (.c (.int .i64 0)), some (21, false)⟩,
    ⟨(some 26), .pick (.t 21) (.c (.bool true)) (.t 25), none⟩,
    ⟨(some 27), .mov (.t 26), none⟩,
    ⟨(some 28), .ld (.t 1) 8 true, some (27, false)⟩,
    ⟨(some 29), .ld (.t 2) 2 true, some (27, false)⟩,
    ⟨(some 30), .bld [(.int .i64 0), (.int .i64 0)] [(0, 1, (.c (.int .i64 9))), (1, 1, (.c (.int .i64 6)))], some (27, false)⟩,
    ⟨(some 31), .call 14 [(.t 28), (.t 29), (.t 30)], some (27, false)⟩,
    ⟨(some 32), .bld [(.int .i32 0), (.int .i64 0)] [(0, 1, (.c (.int .i32 1)))], some (27, false)⟩,
    ⟨(some 33), .eqv true true [.i, .i] (.t 31) (.t 32), some (27, false)⟩,
    ⟨(some 34), .pick (.t 27) (.c (.bool true)) (.t 33), none⟩,
    ⟨(some 35), .mov (.t 34), none⟩,
    ⟨(some 36), .ld (.t 1) 8 true, some (35, false)⟩,
    ⟨(some 37), .ld (.t 2) 2 true, some (35, false)⟩,
    ⟨(some 38), .bld [(.int .i64 0), (.int .i64 0)] [(0, 1, (.c (.int .i64 9))), (1, 1, (.c (.int .i64 7)))], some (35, false)⟩,
    ⟨(some 39), .call 14 [(.t 36), (.t 37), (.t 38)], some (35, false)⟩,
    ⟨(some 40), .bld [(.int .i32 0), (.int .i64 0)] [(0, 1, (.c (.int .i32 1)))], some (35, false)⟩,
    ⟨(some 41), .eqv true true [.i, .i] (.t 39) (.t 40), some (35, false)⟩,
    ⟨(some 42), .pick (.t 35) (.c (.bool true)) (.t 41), none⟩,
    ⟨(some 43), .mov (.t 42), none⟩,
    ⟨(some 44), .ld (.t 1) 8 true, some (43, false)⟩,
    ⟨(some 45), .ld (.t 2) 2 true, some (43, false)⟩,
    ⟨(some 46), .bld [(.int .i64 0), (.int .i64 0)] [(0, 1, (.c (.int .i64 12))), (1, 1, (.c (.int .i64 7)))], some (43, false)⟩,
    ⟨(some 47), .call 14 [(.t 44), (.t 45), (.t 46)], some (43, false)⟩,
    ⟨(some 48), .fld (.t 47) 1 1 false, some (43, false)⟩,
    ⟨(some 49), .bin .neq (.t 48) (.c (.int .i64 1)), some (43, false)⟩,
    ⟨(some 50), .pick (.t 43) (.c (.bool true)) (.t 49), none⟩]) <|
  .cond (.t 50) (.seq (.reg [⟨(some 0), .mov (.c (.bool false)), none⟩]) <|
  .ret) (.skip)) <|
  .seq (.seq (.reg [⟨(some 51), .bldS true 1 3 (.int .i32 0) [(0, (.c (.int .i32 1))), (1, (.c (.int .i32 2))), (2, (.c (.int .i32 3)))], none⟩,
    ⟨(some 52), .bldS true 1 3 (.int .i32 0) [(0, (.c (.int .i32 0))), (1, (.c (.int .i32 0))), (2, (.c (.int .i32 0)))], none⟩,
    ⟨(some 53), .call 18 [(.c (.int .i64 5)), (.t 51), (.t 52)], none⟩,
    ⟨(some 54), .bldS true 1 3 (.int .i32 0) [(0, (.c (.int .i32 1))), (1, (.c (.int .i32 3))), (2, (.c (.int .i32 6)))], none⟩,
    ⟨(some 55), .call 30 [(.t 53), (.t 54)], none⟩,
    ⟨(some 56), .un .not (.t 55), none⟩,
    ⟨(some 57), .mov (.t 56), none⟩,
    ⟨(some 58), .bldS true 1 3 (.int .i32 0) [(0, (.c (.int .i32 5))), (1, (.c (.int .i32 6))), (2, (.c (.int .i32 7)))], some (57, false)⟩,
    ⟨(some 59), .bldS true 1 3 (.int .i32 0) [(0, (.c (.int .i32 2))), (1, (.c (.int .i32 (-1)))), (2, (.c (.int .i32 3)))], some (57, false)⟩,
    ⟨(some 60), .call 18 [(.c (.int .i64 4)), (.t 58), (.t 59)], some (57, false)⟩,
    ⟨(some 61), .bldS true 1 3 (.int .i32 0) [(0, (.c (.int .i32 7))), (1, (.c (.int .i32 7))), (2, (.c (.int .i32 5)))], some (57, false)⟩,
    ⟨(some 62), .call 30 [(.t 60), (.t 61)], some (57, false)⟩,
    ⟨(some 63), .un .not (.t 62), some (57, false)⟩,
    ⟨(some 64), .pick (.t 57) (.c (.bool true)) (.t 63), none⟩,
    ⟨(some 65), .mov (.t 64), none⟩,
    ⟨(some 66), .bldS true 1 3 (.int .i32 0) [(0, (.c (.int .i32 0))), (1, (.c (.int .i32 4))), (2, (.c (.int .i32 1)))], some (65, false)⟩,
    ⟨(some 67), .bldS true 1 3 (.int .i32 0) [(0, (.c (.int .i32 0))), (1, (.c (.int .i32 0))), (2, (.c (.int .i32 0)))], some (65, false)⟩,
    ⟨(some 68), .call 18 [(.c (.int .i64 1)), (.t 66), (.t 67)], some (65, false)⟩,
    ⟨(some 69), .bldS true 1 3 (.int .i32 0) [(0, (.c (.int .i32 6))), (1, (.c (.int .i32 6))), (2, (.c (.int .i32 6)))], some (65, false)⟩,
    ⟨(some 70), .call 30 [(.t 68), (.t 69)], some (65, false)⟩,
    ⟨(some 71), .un .not (.t 70), some (65, false)⟩,
    ⟨(some 72), .pick (.t 65) (.c (.bool true)) (.t 71), none⟩]) <|
  .cond (.t 72) (.seq (.reg [⟨(some 0), .mov (.c (.bool false)), none⟩]) <|
  .ret) (.skip)) <|
  .seq (.reg [⟨(some 73), .bldS true 1 4 (.int .i64 0) [(0, (.c (.int .i64 10))), (1, (.c (.int .i64 (-1)))), (2, (.c (.int .i64 11))), (3, (.c (.int .i64 12)))], none⟩,
    ⟨(some 74), .bldS true 1 1 .nil [(0, (.t 73))], none⟩,
    ⟨(some 75), .bld [.nil, (.int .i64 0)] [(0, 1, (.t 74))], none⟩,
    ⟨(some 5), .alloc (.agg [.nil, (.int .i64 0)]), none⟩,
    ⟨none, .st (.t 5) (.t 75) 2, none⟩]) <|
  .seq (.reg [⟨(some 76), .bldS true 1 2 (.int .i64 0) [(0, (.c (.int .i64 (-1)))), (1, (.c (.int .i64 10)))], none⟩,
    ⟨(some 77), .bldS true 1 2 (.int .i64 0) [(0, (.c (.int .i64 (-1)))), (1, (.c (.int .i64 11)))], none⟩,
    ⟨(some 78), .bldS true 1 2 (.int .i64 0) [(0, (.c (.int .i64 (-1)))), (1, (.c (.int .i64 12)))], none⟩,
    ⟨(some 79), .bldS true 1 3 .nil [(0, (.t 76)), (1, (.t 77)), (2, (.t 78))], none⟩,
    ⟨(some 80), .bld [.nil, (.int .i64 0)] [(0, 1, (.t 79))], none⟩,
    ⟨(some 6), .alloc (.agg [.nil, (.int .i64 0)]), none⟩,
    ⟨none, .st (.t 6) (.t 80) 2, none⟩]) <|
  .seq (.reg [⟨(some 81), .bldS true 1 3 (.int .i64 0) [(0, (.c (.int .i64 10))), (1, (.c (.int .i64 11))), (2, (.c (.int .i64 12)))], none⟩,
    ⟨(some 7), .mov (.t 81), none⟩]) <|
  .seq (.frz (.dreg [⟨(some 82), .mov (.t 7), none⟩,
    ⟨(some 83), .call 22 [(.t 82), (.c (.int .i64 4)), (.c (.int .u64 2))], none⟩,
    ⟨(some 84), .ld (.t 5) 2 true, none⟩,
    ⟨(some 85), .call 21 [(.t 83), (.t 84)], none⟩,
    ⟨(some 86), .mov (.t 85), none⟩,
    ⟨(some 87), .mov (.t 7), some (86, true)⟩,
    ⟨(some 88), .call 22 [(.t 87), (.c (.int .i64 2)), (.c (.int .u64 1))], some (86, true)⟩,
    ⟨(some 89), .ld (.t 6) 2 true, some (86, true)⟩,
    ⟨(some 90), .call 21 [(.t 88), (.t 89)], some (86, true)⟩,
    ⟨(some 91), .pick (.t 86) (.t 90) (.c (.bool false)), none⟩,
    ⟨(some 92), .mov (.t 91), none⟩,
    ⟨(some 93), .mov (.t 7), some (92, true)⟩,
    ⟨(some 94), .call 22 [(.t 93), (.c (.int .i64 2)), (.c (.int .u64 3))], some (92, true)⟩,
    ⟨(some 95), .fld (.t 94) 1 1 false, some (92, true)⟩,
    ⟨(some 96), .bin .eql (.t 95) (.c (.int .i64 1)), some (92, true)⟩,
    ⟨(some 97), .pick (.t 92) (.t 96) (.c (.bool false)), none⟩,
    ⟨(some 98), .mov (.t 97), none⟩,
    ⟨(some 99), .bld [(.str ⟨#[]⟩), (.int .i64 0), (.int .i64 0), (.int .i64 0)] [(1, 1, (.c (.int .i64 1))), (3, 1, (.c (.int .i64 2)))], some (98, true)⟩,
    ⟨(some 100), .bldS false 4 1 (.agg [(.str ⟨#[]⟩), (.int .i64 0), (.int .i64 0), (.int .i64 0)]) [(0, (.t 99))], some (98, true)⟩,
    ⟨(some 101), .bldS false 1 2 (.int .i32 0) [(0, (.c (.int .i32 0))), (1, (.c (.int .i32 7)))], some (98, true)⟩,
    ⟨(some 102), .bldS false 1 1 .nil [(0, (.t 101))], some (98, true)⟩,
    ⟨(some 103), .call 27 [(.t 100), (.c (.int .i64 1)), (.t 102)], some (98, true)⟩,
    ⟨(some 104), .pick (.t 98) (.t 103) (.c (.bool false)), none⟩,
    ⟨(some 0), .mov (.t 104), none⟩] [] [])) <|
  .ret,
  [.t 0]⟩
theorem F9_ok : cFn Tryd.prog true 9 loops9 (cDr Tryd.prog 105 tbl9) = some F9 := by kernel_rfl

/-- warpwright/warpwrightref04.Code -/
def loops10 : Nat → Option (List Nat × List Nat)
  | 1000009 => some ([2, 3], []) | 4 => some ([1, 2, 3], [4]) | _ => none
def tbl10 : Nat → Option (List Nat × List Nat × List Nat)
  | 1 => some ([0, 0, 2, 6, 15, 31, 0, 64, 192, 448, 1023, 0, 4095], [11, 12], []) | 2 => some ([0, 1, 0, 4, 12, 0, 32, 96, 224, 508, 1020, 2047, 4095, 8191], [13], []) | 7 => some ([0, 1, 0, 0, 8, 28, 60, 0, 128, 384, 0, 1024, 4092, 8188, 16383, 32767, 65535], [14, 16], []) | _ => none
def F10 : AFunc := ⟨64,
  .seq (.reg [⟨(some 1), .box (.t 0), none⟩,
    ⟨(some 2), .alloc (.agg [(.int .i64 0), (.int .i64 0), (.int .i64 0), (.int .i64 0), (.int .i64 0), .nil, .nil, .nil]), none⟩]) <|
  .seq (.dreg [⟨(some 6), .bldS false 1 6 (.int .i64 0) [(0, (.c (.int .i64 1))), (1, (.c (.int .i64 2))), (2, (.c (.int .i64 4))), (3, (.c (.int .i64 8))), (4, (.c (.int .i64 16))), (5, (.c (.int .i64 32)))], none⟩,
    ⟨(some 7), .fadd (.t 1) 0, none⟩,
    ⟨(some 8), .ld (.t 7) 1 false, none⟩,
    ⟨(some 9), .bin .rem (.t 8) (.c (.int .u8 6)), none⟩,
    ⟨(some 10), .iadd (.t 6) (.t 9) 1, none⟩,
    ⟨(some 11), .ld (.t 10) 1 false, none⟩,
    ⟨(some 12), .fadd (.t 1) 2, none⟩,
    ⟨(some 13), .ld (.t 12) 1 false, none⟩,
    ⟨(some 14), .bin .rem (.t 13) (.c (.int .u8 4)), none⟩,
    ⟨(some 15), .conv .i64 (.t 14), none⟩,
    ⟨(some 16), .bld [(.int .i64 0), (.int .i64 0), (.int .i64 0), (.int .i64 0), (.int .i64 0), .nil, .nil, .nil] [(1, 1, (.t 11)), (4, 1, (.t 15))], none⟩] [⟨(some 3), .alloc (.agg [(.int .i64 0), (.int .i64 0), (.int .i64 0), (.int .i64 0), (.int .i64 0), .nil, .nil, .nil]), none⟩,
    ⟨none, .st (.t 3) (.t 16) 8, none⟩] []) <|
  .seq (.dreg [⟨(some 17), .fadd (.t 3) 1, none⟩,
    ⟨(some 18), .ld (.t 17) 1 false, none⟩,
    ⟨(some 19), .fadd (.t 1) 1, none⟩,
    ⟨(some 20), .ld (.t 19) 1 false, none⟩,
    ⟨(some 21), .conv .i64 (.t 20), none⟩,
    ⟨(some 22), .fadd (.t 3) 1, none⟩,
    ⟨(some 23), .ld (.t 22) 1 false, none⟩,
    ⟨(some 24), .bin .quo (.c (.int .i64 64)) (.t 23), none⟩,
    ⟨(some 25), .mx (.c (.int .i64 1)) (.t 24), none⟩,
    ⟨(some 26), .bin .rem (.t 21) (.t 25), none⟩,
    ⟨(some 27), .bin .add (.c (.int .i64 1)) (.t 26), none⟩,
    ⟨(some 28), .bin .mul (.t 18) (.t 27), none⟩,
    ⟨(some 29), .fadd (.t 3) 0, none⟩] [⟨none, .st (.t 29) (.t 28) 1, none⟩] []) <|
  .seqj [2, 3] [] (.seq (.reg [⟨(some 4), .mov (.c (.int .i64 0)), none⟩]) <|
  .block 0 (.loop [1, 2, 3] [4] (.seq (.seq (.reg [⟨(some 30), .mov (.t 4), none⟩,
    ⟨(some 31), .fadd (.t 1) 3, none⟩,
    ⟨(some 32), .ld (.t 31) 1 false, none⟩,
    ⟨(some 33), .len (.t 32), none⟩,
    ⟨(some 34), .bin .lss (.t 30) (.t 33), none⟩,
    ⟨(some 35), .mov (.t 34), none⟩,
    ⟨(some 36), .mov (.t 4), some (35, true)⟩,
    ⟨(some 37), .bin .lss (.t 36) (.c (.int .i64 8)), some (35, true)⟩,
    ⟨(some 38), .pick (.t 35) (.t 37) (.c (.bool false)), none⟩]) <|
  .cond (.t 38) (.skip) (.exit 0)) <|
  .seq (.block 1 (.seq (.reg [⟨(some 41), .fadd (.t 1) 3, none⟩,
    ⟨(some 42), .ld (.t 41) 1 false, none⟩,
    ⟨(some 43), .mov (.t 4), none⟩,
    ⟨(some 44), .iadd (.t 42) (.t 43) 1, none⟩,
    ⟨(some 45), .ld (.t 44) 1 false, none⟩,
    ⟨(some 46), .conv .i64 (.t 45), none⟩,
    ⟨(some 5), .mov (.t 46), none⟩]) <|
  .dreg [⟨(some 47), .fadd (.t 3) 5, none⟩,
    ⟨(some 48), .ld (.t 47) 1 false, none⟩,
    ⟨(some 49), .mov (.t 4), none⟩,
    ⟨(some 50), .mov (.t 4), none⟩,
    ⟨(some 51), .bin .add (.t 50) (.c (.int .i64 1)), none⟩,
    ⟨(some 52), .sslc (.c (.str ⟨#[48, 49, 50, 51, 52, 53, 54, 55]⟩)) (some (.t 49)) (some (.t 51)), none⟩,
    ⟨(some 53), .bin .add (.c (.str ⟨#[97]⟩)) (.t 52), none⟩,
    ⟨(some 54), .mov (.t 5), none⟩,
    ⟨(some 55), .bin .rem (.t 54) (.c (.int .i64 3)), none⟩,
    ⟨(some 56), .bin .add (.c (.int .i64 1)) (.t 55), none⟩,
    ⟨(some 57), .mov (.t 5), none⟩,
    ⟨(some 58), .bin .quo (.t 57) (.c (.int .i64 16)), none⟩,
    ⟨(some 59), .bld [(.str ⟨#[]⟩), (.int .i64 0), (.int .i64 0), (.int .i64 0)] [(0, 1, (.t 53)), (1, 1, (.t 56)), (2, 1, (.c (.int .i64 1))), (3, 1, (.t 58))], none⟩,
    ⟨(some 60), .bldS false 4 1 (.agg [(.str ⟨#[]⟩), (.int .i64 0), (.int .i64 0), (.int .i64 0)]) [(0, (.t 59))], none⟩,
    ⟨(some 62), .fadd (.t 3) 5, none⟩] [⟨(some 61), .app (.t 48) (.t 60) 4 40 (.agg [(.str ⟨#[]⟩), (.int .i64 0), (.int .i64 0), (.int .i64 0)]), none⟩,
    ⟨none, .st (.t 62) (.t 61) 1, none⟩] [])) <|
  .reg [⟨(some 39), .mov (.t 4), none⟩,
    ⟨(some 40), .bin .add (.t 39) (.c (.int .i64 1)), none⟩,
    ⟨(some 4), .mov (.t 40), none⟩]))) <|
  .seq (.reg [⟨(some 63), .ld (.t 3) 8 true, none⟩,
    ⟨none, .st (.t 2) (.t 63) 8, none⟩]) <|
  .ret,
  [.cell 2 8 true]⟩
theorem F10_ok : cFn Tryd.prog true 10 loops10 (cDr Tryd.prog 64 tbl10) = some F10 := by kernel_rfl

def V10_L0 (h35 : Heap) (a2 : D) (a17 : D) (a4 : D) (J36 : List D → Heap → Prop) : Prop :=
  ∃ (I44 : Nat → List D → Heap → Prop) (n₀ : Nat), I44 n₀ [(.int .i64 0)] h35 ∧ ∀ (n45 : Nat) (f46 : Nat → D) (h47 : Heap), I44 n45 [f46 4] h47 →
  vhOp Tryd.prog (.fadd (.c a2) 3) h47 fun a48 h49 =>
  vhOp Tryd.prog (.ld (.c a48) 1 false) h49 fun a50 h51 =>
  vlen a50 h51 fun a52 =>
  vbin .lss (f46 4) a52 fun a53 =>
  vguard a53 true (fun G54 =>
  G54 (f46 4) h51) h51 fun a55 h56 =>
  vguard a53 true (fun G57 =>
  vbin .lss a55 (.int .i64 8) fun a60 =>
  G57 a60 h56) h56 fun a58 h59 =>
  vhOp Tryd.prog (.pick (.c a53) (.c a58) (.c (.bool false))) h59 fun a61 h62 =>
  vcond a61 (vhOp Tryd.prog (.fadd (.c a2) 3) h62 fun a63 h64 =>
  vhOp Tryd.prog (.ld (.c a63) 1 false) h64 fun a65 h66 =>
  vhOp Tryd.prog (.iadd (.c a65) (.c (f46 4)) 1) h66 fun a67 h68 =>
  vhOp Tryd.prog (.ld (.c a67) 1 false) h68 fun a69 h70 =>
  vhOp Tryd.prog (.conv .i64 (.c a69)) h70 fun a71 h72 =>
  vdOp Tryd.prog (.fadd (.c a17) 5) h72 fun a73 =>
  vdOp Tryd.prog (.ld (.c a73) 1 false) h72 fun a74 =>
  vbin .add (f46 4) (.int .i64 1) fun a75 =>
  vdOp Tryd.prog (.sslc (.c (.str ⟨#[48, 49, 50, 51, 52, 53, 54, 55]⟩)) (some (.c (f46 4))) (some (.c a75))) h72 fun a76 =>
  vbin .add (.str ⟨#[97]⟩) a76 fun a77 =>
  vbin .rem a71 (.int .i64 3) fun a78 =>
  vbin .add (.int .i64 1) a78 fun a79 =>
  vbin .quo a71 (.int .i64 16) fun a80 =>
  vdOp Tryd.prog (.bld [(.str ⟨#[]⟩), (.int .i64 0), (.int .i64 0), (.int .i64 0)] [(0, 1, (.c a77)), (1, 1, (.c a79)), (2, 1, (.c (.int .i64 1))), (3, 1, (.c a80))]) h72 fun a81 =>
  vdOp Tryd.prog (.bldS false 4 1 (.agg [(.str ⟨#[]⟩), (.int .i64 0), (.int .i64 0), (.int .i64 0)]) [(0, (.c a81))]) h72 fun a82 =>
  vdOp Tryd.prog (.fadd (.c a17) 5) h72 fun a83 =>
  vhOp Tryd.prog (.app (.c a74) (.c a82) 4 40 (.agg [(.str ⟨#[]⟩), (.int .i64 0), (.int .i64 0), (.int .i64 0)])) h72 fun a84 h85 =>
  vhOp Tryd.prog (.st (.c a83) (.c a84) 1) h85 fun a86 h87 =>
  vbin .add (f46 4) (.int .i64 1) fun a88 =>
  keq [a2, a4, a17] [a2, a4, a17] ∧ ∃ m, m < n45 ∧ I44 m [a88] h87) (
  keq [a4, a17] [a4, a17] ∧ J36 [] h62)
def V10 (a0 : D) (h0 : Heap) (K : D → Heap → Prop) : Prop :=
  vhOp Tryd.prog (.box (.c a0)) h0 fun a2 h3 =>
  vhOp Tryd.prog (.alloc (.agg [(.int .i64 0), (.int .i64 0), (.int .i64 0), (.int .i64 0), (.int .i64 0), .nil, .nil, .nil])) h3 fun a4 h5 =>
  vdOp Tryd.prog (.bldS false 1 6 (.int .i64 0) [(0, (.c (.int .i64 1))), (1, (.c (.int .i64 2))), (2, (.c (.int .i64 4))), (3, (.c (.int .i64 8))), (4, (.c (.int .i64 16))), (5, (.c (.int .i64 32)))]) h5 fun a6 =>
  vdOp Tryd.prog (.fadd (.c a2) 0) h5 fun a7 =>
  vdOp Tryd.prog (.ld (.c a7) 1 false) h5 fun a8 =>
  vbin .rem a8 (.int .u8 6) fun a9 =>
  vdOp Tryd.prog (.iadd (.c a6) (.c a9) 1) h5 fun a10 =>
  vdOp Tryd.prog (.ld (.c a10) 1 false) h5 fun a11 =>
  vdOp Tryd.prog (.fadd (.c a2) 2) h5 fun a12 =>
  vdOp Tryd.prog (.ld (.c a12) 1 false) h5 fun a13 =>
  vbin .rem a13 (.int .u8 4) fun a14 =>
  vdOp Tryd.prog (.conv .i64 (.c a14)) h5 fun a15 =>
  vdOp Tryd.prog (.bld [(.int .i64 0), (.int .i64 0), (.int .i64 0), (.int .i64 0), (.int .i64 0), .nil, .nil, .nil] [(1, 1, (.c a11)), (4, 1, (.c a15))]) h5 fun a16 =>
  vhOp Tryd.prog (.alloc (.agg [(.int .i64 0), (.int .i64 0), (.int .i64 0), (.int .i64 0), (.int .i64 0), .nil, .nil, .nil])) h5 fun a17 h18 =>
  vhOp Tryd.prog (.st (.c a17) (.c a16) 8) h18 fun a19 h20 =>
  vdOp Tryd.prog (.fadd (.c a17) 1) h20 fun a21 =>
  vdOp Tryd.prog (.ld (.c a21) 1 false) h20 fun a22 =>
  vdOp Tryd.prog (.fadd (.c a2) 1) h20 fun a23 =>
  vdOp Tryd.prog (.ld (.c a23) 1 false) h20 fun a24 =>
  vdOp Tryd.prog (.conv .i64 (.c a24)) h20 fun a25 =>
  vdOp Tryd.prog (.fadd (.c a17) 1) h20 fun a26 =>
  vdOp Tryd.prog (.ld (.c a26) 1 false) h20 fun a27 =>
  vbin .quo (.int .i64 64) a27 fun a28 =>
  vdOp Tryd.prog (.mx (.c (.int .i64 1)) (.c a28)) h20 fun a29 =>
  vbin .rem a25 a29 fun a30 =>
  vbin .add (.int .i64 1) a30 fun a31 =>
  vbin .mul a22 a31 fun a32 =>
  vdOp Tryd.prog (.fadd (.c a17) 0) h20 fun a33 =>
  vhOp Tryd.prog (.st (.c a33) (.c a32) 1) h20 fun a34 h35 =>
  ∃ (J36 : List D → Heap → Prop), (∀ (f37 : Nat → D) (h38 : Heap), J36 [] h38 →
  vhOp Tryd.prog (.ld (.c a17) 8 true) h38 fun a39 h40 =>
  vhOp Tryd.prog (.st (.c a4) (.c a39) 8) h40 fun a41 h42 =>
  vhOp Tryd.prog (.ld (.c a4) 8 true) h42 fun a43 _ =>
  K a43 h42) ∧
  V10_L0 h35 a2 a17 a4 J36
theorem V10_ok (a0 : D) (h0 : Heap) (K : D → Heap → Prop) : V10 a0 h0 K = vcC Tryd.prog F10.code (fun x e h' => match x with | .exit _ => False | _ => vcRet Tryd.prog F10.res K e h') (params [a0] 0) h0 := by kernel_rfl

/-- warpwright/warpwrightref04.Launch -/
def loops11 : Nat → Option (List Nat × List Nat)
  | 1000005 => some ([2, 3, 4, 5], []) | 1000009 => some ([4, 5], []) | 5 => some ([2, 3, 4, 5], [6]) | _ => none
def tbl11 : Nat → Option (List Nat × List Nat × List Nat)
  | 3 => some ([0, 1, 0, 4, 12, 31, 63, 127, 255], [8], []) | 7 => some ([0, 1, 0, 4, 0, 28, 60, 124, 252, 511, 1023, 2047], [9, 11], []) | _ => none
def F11 : AFunc := ⟨42,
  .seq (.reg [⟨(some 2), .box (.t 0), none⟩,
    ⟨(some 3), .box (.t 1), none⟩,
    ⟨(some 4), .alloc (.agg [(.int .i64 0), .nil]), none⟩]) <|
  .seq (.reg [⟨(some 7), .fadd (.t 3) 0, none⟩,
    ⟨(some 8), .ld (.t 7) 1 false, none⟩,
    ⟨(some 9), .bin .rem (.t 8) (.c (.int .u8 3)), none⟩,
    ⟨(some 10), .conv .i64 (.t 9), none⟩,
    ⟨(some 11), .bin .add (.c (.int .i64 1)) (.t 10), none⟩,
    ⟨(some 12), .bld [(.int .i64 0), .nil] [(0, 1, (.t 11))], none⟩,
    ⟨(some 5), .alloc (.agg [(.int .i64 0), .nil]), none⟩,
    ⟨none, .st (.t 5) (.t 12) 2, none⟩]) <|
  .seqj [2, 3, 4, 5] [] (.seq (.reg [⟨(some 13), .fadd (.t 2) 0, none⟩,
    ⟨(some 14), .ld (.t 13) 1 false, none⟩,
    ⟨(some 15), .bin .gtr (.t 14) (.c (.int .i64 0)), none⟩]) <|
  .cond (.t 15) (.dreg [⟨(some 16), .fadd (.t 5) 0, none⟩,
    ⟨(some 17), .ld (.t 16) 1 false, none⟩,
    ⟨(some 18), .fadd (.t 2) 0, none⟩,
    ⟨(some 19), .ld (.t 18) 1 false, none⟩,
    ⟨(some 20), .bin .quo (.c (.int .i64 4096)) (.t 19), none⟩,
    ⟨(some 21), .mn (.t 17) (.t 20), none⟩,
    ⟨(some 22), .mx (.t 21) (.c (.int .i64 1)), none⟩,
    ⟨(some 23), .fadd (.t 5) 0, none⟩] [⟨none, .st (.t 23) (.t 22) 1, none⟩] []) (.skip)) <|
  .seqj [4, 5] [] (.seq (.reg [⟨(some 6), .mov (.c (.int .i64 0)), none⟩]) <|
  .block 0 (.loop [2, 3, 4, 5] [6] (.seq (.seq (.reg [⟨(some 24), .mov (.t 6), none⟩,
    ⟨(some 25), .fadd (.t 2) 4, none⟩,
    ⟨(some 26), .ld (.t 25) 1 false, none⟩,
    ⟨(some 27), .bin .lss (.t 24) (.t 26), none⟩]) <|
  .cond (.t 27) (.skip) (.exit 0)) <|
  .seq (.block 1 (.dreg [⟨(some 30), .fadd (.t 5) 1, none⟩,
    ⟨(some 31), .ld (.t 30) 1 false, none⟩,
    ⟨(some 32), .mov (.t 6), none⟩,
    ⟨(some 33), .bin .rem (.t 32) (.c (.int .i64 8)), none⟩,
    ⟨(some 34), .fadd (.t 3) 1, none⟩,
    ⟨(some 35), .iadda (.t 34) (.t 33) 8 1, none⟩,
    ⟨(some 36), .ld (.t 35) 1 false, none⟩,
    ⟨(some 37), .conv .i32 (.t 36), none⟩,
    ⟨(some 38), .bldS false 1 1 (.int .i32 0) [(0, (.t 37))], none⟩,
    ⟨(some 40), .fadd (.t 5) 1, none⟩] [⟨(some 39), .app (.t 31) (.t 38) 1 4 (.int .i32 0), none⟩,
    ⟨none, .st (.t 40) (.t 39) 1, none⟩] [])) <|
  .reg [⟨(some 28), .mov (.t 6), none⟩,
    ⟨(some 29), .bin .add (.t 28) (.c (.int .i64 1)), none⟩,
    ⟨(some 6), .mov (.t 29), none⟩]))) <|
  .seq (.reg [⟨(some 41), .ld (.t 5) 2 true, none⟩,
    ⟨none, .st (.t 4) (.t 41) 2, none⟩]) <|
  .ret,
  [.cell 4 2 true]⟩
theorem F11_ok : cFn Tryd.prog true 11 loops11 (cDr Tryd.prog 42 tbl11) = some F11 := by kernel_rfl

def V11_L0 (h25 : Heap) (a3 : D) (a19 : D) (a5 : D) (a7 : D) (J26 : List D → Heap → Prop) : Prop :=
  ∃ (I34 : Nat → List D → Heap → Prop) (n₀ : Nat), I34 n₀ [(.int .i64 0)] h25 ∧ ∀ (n35 : Nat) (f36 : Nat → D) (h37 : Heap), I34 n35 [f36 6] h37 →
  vhOp Tryd.prog (.fadd (.c a3) 4) h37 fun a38 h39 =>
  vhOp Tryd.prog (.ld (.c a38) 1 false) h39 fun a40 h41 =>
  vbin .lss (f36 6) a40 fun a42 =>
  vcond a42 (vdOp Tryd.prog (.fadd (.c a19) 1) h41 fun a43 =>
  vdOp Tryd.prog (.ld (.c a43) 1 false) h41 fun a44 =>
  vbin .rem (f36 6) (.int .i64 8) fun a45 =>
  vdOp Tryd.prog (.fadd (.c a5) 1) h41 fun a46 =>
  vdOp Tryd.prog (.iadda (.c a46) (.c a45) 8 1) h41 fun a47 =>
  vdOp Tryd.prog (.ld (.c a47) 1 false) h41 fun a48 =>
  vdOp Tryd.prog (.conv .i32 (.c a48)) h41 fun a49 =>
  vdOp Tryd.prog (.bldS false 1 1 (.int .i32 0) [(0, (.c a49))]) h41 fun a50 =>
  vdOp Tryd.prog (.fadd (.c a19) 1) h41 fun a51 =>
  vhOp Tryd.prog (.app (.c a44) (.c a50) 1 4 (.int .i32 0)) h41 fun a52 h53 =>
  vhOp Tryd.prog (.st (.c a51) (.c a52) 1) h53 fun a54 h55 =>
  vbin .add (f36 6) (.int .i64 1) fun a56 =>
  keq [a3, a5, a7, a19] [a3, a5, a7, a19] ∧ ∃ m, m < n35 ∧ I34 m [a56] h55) (
  keq [a7, a19] [a7, a19] ∧ J26 [] h41)
def V11 (a0 : D) (a1 : D) (h0 : Heap) (K : D → Heap → Prop) : Prop :=
  vhOp Tryd.prog (.box (.c a0)) h0 fun a3 h4 =>
  vhOp Tryd.prog (.box (.c a1)) h4 fun a5 h6 =>
  vhOp Tryd.prog (.alloc (.agg [(.int .i64 0), .nil])) h6 fun a7 h8 =>
  vhOp Tryd.prog (.fadd (.c a5) 0) h8 fun a9 h10 =>
  vhOp Tryd.prog (.ld (.c a9) 1 false) h10 fun a11 h12 =>
  vbin .rem a11 (.int .u8 3) fun a13 =>
  vhOp Tryd.prog (.conv .i64 (.c a13)) h12 fun a14 h15 =>
  vbin .add (.int .i64 1) a14 fun a16 =>
  vhOp Tryd.prog (.bld [(.int .i64 0), .nil] [(0, 1, (.c a16))]) h15 fun a17 h18 =>
  vhOp Tryd.prog (.alloc (.agg [(.int .i64 0), .nil])) h18 fun a19 h20 =>
  vhOp Tryd.prog (.st (.c a19) (.c a17) 2) h20 fun a21 h22 =>
  ∃ (J23 : List D → Heap → Prop), (∀ (f24 : Nat → D) (h25 : Heap), J23 [] h25 →
  ∃ (J26 : List D → Heap → Prop), (∀ (f27 : Nat → D) (h28 : Heap), J26 [] h28 →
  vhOp Tryd.prog (.ld (.c a19) 2 true) h28 fun a29 h30 =>
  vhOp Tryd.prog (.st (.c a7) (.c a29) 2) h30 fun a31 h32 =>
  vhOp Tryd.prog (.ld (.c a7) 2 true) h32 fun a33 _ =>
  K a33 h32) ∧
  V11_L0 h25 a3 a19 a5 a7 J26) ∧
  vhOp Tryd.prog (.fadd (.c a3) 0) h22 fun a57 h58 =>
  vhOp Tryd.prog (.ld (.c a57) 1 false) h58 fun a59 h60 =>
  vbin .gtr a59 (.int .i64 0) fun a61 =>
  vcond a61 (vdOp Tryd.prog (.fadd (.c a19) 0) h60 fun a62 =>
  vdOp Tryd.prog (.ld (.c a62) 1 false) h60 fun a63 =>
  vdOp Tryd.prog (.fadd (.c a3) 0) h60 fun a64 =>
  vdOp Tryd.prog (.ld (.c a64) 1 false) h60 fun a65 =>
  vbin .quo (.int .i64 4096) a65 fun a66 =>
  vdOp Tryd.prog (.mn (.c a63) (.c a66)) h60 fun a67 =>
  vdOp Tryd.prog (.mx (.c a67) (.c (.int .i64 1))) h60 fun a68 =>
  vdOp Tryd.prog (.fadd (.c a19) 0) h60 fun a69 =>
  vhOp Tryd.prog (.st (.c a69) (.c a68) 1) h60 fun a70 h71 =>
  keq [a3, a5, a7, a19] [a3, a5, a7, a19] ∧ J23 [] h71) (
  keq [a3, a5, a7, a19] [a3, a5, a7, a19] ∧ J23 [] h60)
theorem V11_ok (a0 : D) (a1 : D) (h0 : Heap) (K : D → Heap → Prop) : V11 a0 a1 h0 K = vcC Tryd.prog F11.code (fun x e h' => match x with | .exit _ => False | _ => vcRet Tryd.prog F11.res K e h') (params [a0, a1] 0) h0 := by kernel_rfl

/-- warpwright/launch.Check -/
def loops12 : Nat → Option (List Nat × List Nat)
  | 1000007 => some ([], []) | _ => none
def tbl12 : Nat → Option (List Nat × List Nat × List Nat)
  | 4 => some ([0, 1, 3, 7, 15, 31, 15, 79, 207, 511, 1023, 2047], [], []) | _ => none
def F12 : AFunc := ⟨62,
  .seq (.reg [⟨(some 2), .box (.t 0), none⟩,
    ⟨(some 3), .box (.t 1), none⟩,
    ⟨(some 4), .mov (.c (.int .i64 0)), none⟩]) <|
  .seqj [] [] (.block 0 (.seq (.reg [⟨(some 6), .fadd (.t 2) 0, none⟩,
    ⟨(some 7), .ld (.t 6) 1 false, none⟩,
    ⟨(some 8), .bin .lss (.t 7) (.c (.int .i64 1)), none⟩,
    ⟨(some 9), .mov (.t 8), none⟩,
    ⟨(some 10), .fadd (.t 2) 0, some (9, false)⟩,
    ⟨(some 11), .ld (.t 10) 1 false, some (9, false)⟩,
    ⟨(some 12), .bin .gtr (.t 11) (.c (.int .i64 256)), some (9, false)⟩,
    ⟨(some 13), .pick (.t 9) (.c (.bool true)) (.t 12), none⟩,
    ⟨(some 5), .mov (.t 13), none⟩]) <|
  .cond (.t 5) (.skip) (.seq (.reg [⟨(some 15), .fadd (.t 2) 1, none⟩,
    ⟨(some 16), .ld (.t 15) 1 false, none⟩,
    ⟨(some 17), .bin .lss (.t 16) (.c (.int .i64 1)), none⟩,
    ⟨(some 18), .mov (.t 17), none⟩,
    ⟨(some 19), .fadd (.t 2) 1, some (18, false)⟩,
    ⟨(some 20), .ld (.t 19) 1 false, some (18, false)⟩,
    ⟨(some 21), .bin .gtr (.t 20) (.c (.int .i64 32)), some (18, false)⟩,
    ⟨(some 22), .pick (.t 18) (.c (.bool true)) (.t 21), none⟩,
    ⟨(some 23), .mov (.t 22), none⟩,
    ⟨(some 24), .fadd (.t 2) 1, some (23, false)⟩,
    ⟨(some 25), .ld (.t 24) 1 false, some (23, false)⟩,
    ⟨(some 26), .conv .u64 (.t 25), some (23, false)⟩,
    ⟨(some 27), .call 31 [(.t 26)], some (23, false)⟩,
    ⟨(some 28), .bin .neq (.t 27) (.c (.int .i64 1)), some (23, false)⟩,
    ⟨(some 29), .pick (.t 23) (.c (.bool true)) (.t 28), none⟩,
    ⟨(some 30), .mov (.t 29), none⟩,
    ⟨(some 31), .fadd (.t 2) 0, some (30, false)⟩,
    ⟨(some 32), .ld (.t 31) 1 false, some (30, false)⟩,
    ⟨(some 33), .fadd (.t 2) 1, some (30, false)⟩,
    ⟨(some 34), .ld (.t 33) 1 false, some (30, false)⟩,
    ⟨(some 35), .bin .rem (.t 32) (.t 34), some (30, false)⟩,
    ⟨(some 36), .bin .neq (.t 35) (.c (.int .i64 0)), some (30, false)⟩,
    ⟨(some 37), .pick (.t 30) (.c (.bool true)) (.t 36), none⟩,
    ⟨(some 14), .mov (.t 37), none⟩]) <|
  .cond (.t 14) (.skip) (.seq (.dreg [⟨(some 39), .fadd (.t 3) 0, none⟩,
    ⟨(some 40), .ld (.t 39) 1 false, none⟩,
    ⟨(some 41), .bin .lss (.t 40) (.c (.int .i64 1)), none⟩,
    ⟨(some 42), .mov (.t 41), none⟩,
    ⟨(some 43), .fadd (.t 3) 0, some (42, false)⟩,
    ⟨(some 44), .ld (.t 43) 1 false, some (42, false)⟩,
    ⟨(some 45), .fadd (.t 2) 0, some (42, false)⟩,
    ⟨(some 46), .ld (.t 45) 1 false, some (42, false)⟩,
    ⟨(some 47), .bin .quo (.c (.int .i64 4096)) (.t 46), some (42, false)⟩,
    ⟨(some 48), .bin .gtr (.t 44) (.t 47), some (42, false)⟩,
    ⟨(some 49), .pick (.t 42) (.c (.bool true)) (.t 48), none⟩,
    ⟨(some 38), .mov (.t 49), none⟩] [] []) <|
  .cond (.t 38) (.skip) (.seq (.reg [⟨(some 51), .fadd (.t 3) 1, none⟩,
    ⟨(some 52), .ld (.t 51) 1 false, none⟩,
    ⟨(some 53), .len (.t 52), none⟩,
    ⟨(some 54), .fadd (.t 2) 4, none⟩,
    ⟨(some 55), .ld (.t 54) 1 false, none⟩,
    ⟨(some 56), .bin .neq (.t 53) (.t 55), none⟩,
    ⟨(some 57), .mov (.t 56), none⟩,
    ⟨(some 58), .fadd (.t 2) 4, some (57, false)⟩,
    ⟨(some 59), .ld (.t 58) 1 false, some (57, false)⟩,
    ⟨(some 60), .bin .gtr (.t 59) (.c (.int .i64 8)), some (57, false)⟩,
    ⟨(some 61), .pick (.t 57) (.c (.bool true)) (.t 60), none⟩,
    ⟨(some 50), .mov (.t 61), none⟩]) <|
  .cond (.t 50) (.skip) (.seq (.reg [⟨(some 4), .mov (.c (.int .i64 0)), none⟩]) <|
  .ret)))))) <|
  .seq (.reg [⟨(some 4), .mov (.c (.int .i64 40)), none⟩]) <|
  .ret,
  [.t 4]⟩
theorem F12_ok : cFn Tryd.prog true 12 loops12 (cDr Tryd.prog 62 tbl12) = some F12 := by kernel_rfl


def V12 (a0 : D) (a1 : D) (h0 : Heap) (K : D → Heap → Prop) : Prop :=
  vhOp Tryd.prog (.box (.c a0)) h0 fun a3 h4 =>
  vhOp Tryd.prog (.box (.c a1)) h4 fun a5 h6 =>
  ∃ (J7 : List D → Heap → Prop), (∀ (f8 : Nat → D) (h9 : Heap), J7 [] h9 →
  K (.int .i64 40) h9) ∧
  vhOp Tryd.prog (.fadd (.c a3) 0) h6 fun a10 h11 =>
  vhOp Tryd.prog (.ld (.c a10) 1 false) h11 fun a12 h13 =>
  vbin .lss a12 (.int .i64 1) fun a14 =>
  vguard a14 false (fun G15 =>
  vhOp Tryd.prog (.fadd (.c a3) 0) h13 fun a18 h19 =>
  G15 a18 h19) h13 fun a16 h17 =>
  vguard a14 false (fun G20 =>
  vhOp Tryd.prog (.ld (.c a16) 1 false) h17 fun a23 h24 =>
  G20 a23 h24) h17 fun a21 h22 =>
  vguard a14 false (fun G25 =>
  vbin .gtr a21 (.int .i64 256) fun a28 =>
  G25 a28 h22) h22 fun a26 h27 =>
  vhOp Tryd.prog (.pick (.c a14) (.c (.bool true)) (.c a26)) h27 fun a29 h30 =>
  vcond a29 (keq [] [] ∧ J7 [] h30) (
  vhOp Tryd.prog (.fadd (.c a3) 1) h30 fun a31 h32 =>
  vhOp Tryd.prog (.ld (.c a31) 1 false) h32 fun a33 h34 =>
  vbin .lss a33 (.int .i64 1) fun a35 =>
  vguard a35 false (fun G36 =>
  vhOp Tryd.prog (.fadd (.c a3) 1) h34 fun a39 h40 =>
  G36 a39 h40) h34 fun a37 h38 =>
  vguard a35 false (fun G41 =>
  vhOp Tryd.prog (.ld (.c a37) 1 false) h38 fun a44 h45 =>
  G41 a44 h45) h38 fun a42 h43 =>
  vguard a35 false (fun G46 =>
  vbin .gtr a42 (.int .i64 32) fun a49 =>
  G46 a49 h43) h43 fun a47 h48 =>
  vhOp Tryd.prog (.pick (.c a35) (.c (.bool true)) (.c a47)) h48 fun a50 h51 =>
  vguard a50 false (fun G52 =>
  vhOp Tryd.prog (.fadd (.c a3) 1) h51 fun a55 h56 =>
  G52 a55 h56) h51 fun a53 h54 =>
  vguard a50 false (fun G57 =>
  vhOp Tryd.prog (.ld (.c a53) 1 false) h54 fun a60 h61 =>
  G57 a60 h61) h54 fun a58 h59 =>
  vguard a50 false (fun G62 =>
  vhOp Tryd.prog (.conv .u64 (.c a58)) h59 fun a65 h66 =>
  G62 a65 h66) h59 fun a63 h64 =>
  vguard a50 false (fun G67 =>
  ACall Tryd.prog 31 [a63] h64 fun a70 h71 =>
  G67 a70 h71) h64 fun a68 h69 =>
  vguard a50 false (fun G72 =>
  vbin .neq a68 (.int .i64 1) fun a75 =>
  G72 a75 h69) h69 fun a73 h74 =>
  vhOp Tryd.prog (.pick (.c a50) (.c (.bool true)) (.c a73)) h74 fun a76 h77 =>
  vguard a76 false (fun G78 =>
  vhOp Tryd.prog (.fadd (.c a3) 0) h77 fun a81 h82 =>
  G78 a81 h82) h77 fun a79 h80 =>
  vguard a76 false (fun G83 =>
  vhOp Tryd.prog (.ld (.c a79) 1 false) h80 fun a86 h87 =>
  G83 a86 h87) h80 fun a84 h85 =>
  vguard a76 false (fun G88 =>
  vhOp Tryd.prog (.fadd (.c a3) 1) h85 fun a91 h92 =>
  G88 a91 h92) h85 fun a89 h90 =>
  vguard a76 false (fun G93 =>
  vhOp Tryd.prog (.ld (.c a89) 1 false) h90 fun a96 h97 =>
  G93 a96 h97) h90 fun a94 h95 =>
  vguard a76 false (fun G98 =>
  vbin .rem a84 a94 fun a101 =>
  G98 a101 h95) h95 fun a99 h100 =>
  vguard a76 false (fun G102 =>
  vbin .neq a99 (.int .i64 0) fun a105 =>
  G102 a105 h100) h100 fun a103 h104 =>
  vhOp Tryd.prog (.pick (.c a76) (.c (.bool true)) (.c a103)) h104 fun a106 h107 =>
  vcond a106 (keq [] [] ∧ J7 [] h107) (
  vdOp Tryd.prog (.fadd (.c a5) 0) h107 fun a108 =>
  vdOp Tryd.prog (.ld (.c a108) 1 false) h107 fun a109 =>
  vbin .lss a109 (.int .i64 1) fun a110 =>
  vguard1 a110 false (fun G111 =>
  vdOp Tryd.prog (.fadd (.c a5) 0) h107 fun a167 =>
  G111 a167) fun a112 =>
  vguard1 a110 false (fun G115 =>
  vdOp Tryd.prog (.ld (.c a112) 1 false) h107 fun a166 =>
  G115 a166) fun a116 =>
  vguard1 a110 false (fun G119 =>
  vdOp Tryd.prog (.fadd (.c a3) 0) h107 fun a165 =>
  G119 a165) fun a120 =>
  vguard1 a110 false (fun G123 =>
  vdOp Tryd.prog (.ld (.c a120) 1 false) h107 fun a164 =>
  G123 a164) fun a124 =>
  vguard1 a110 false (fun G127 =>
  vbin .quo (.int .i64 4096) a124 fun a163 =>
  G127 a163) fun a128 =>
  vguard1 a110 false (fun G131 =>
  vbin .gtr a116 a128 fun a162 =>
  G131 a162) fun a132 =>
  vdOp Tryd.prog (.pick (.c a110) (.c (.bool true)) (.c a132)) h107 fun a135 =>
  vcond a135 (keq [] [] ∧ J7 [] h107) (
  vhOp Tryd.prog (.fadd (.c a5) 1) h107 fun a136 h137 =>
  vhOp Tryd.prog (.ld (.c a136) 1 false) h137 fun a138 h139 =>
  vlen a138 h139 fun a140 =>
  vhOp Tryd.prog (.fadd (.c a3) 4) h139 fun a141 h142 =>
  vhOp Tryd.prog (.ld (.c a141) 1 false) h142 fun a143 h144 =>
  vbin .neq a140 a143 fun a145 =>
  vguard a145 false (fun G146 =>
  vhOp Tryd.prog (.fadd (.c a3) 4) h144 fun a149 h150 =>
  G146 a149 h150) h144 fun a147 h148 =>
  vguard a145 false (fun G151 =>
  vhOp Tryd.prog (.ld (.c a147) 1 false) h148 fun a154 h155 =>
  G151 a154 h155) h148 fun a152 h153 =>
  vguard a145 false (fun G156 =>
  vbin .gtr a152 (.int .i64 8) fun a159 =>
  G156 a159 h153) h153 fun a157 h158 =>
  vhOp Tryd.prog (.pick (.c a145) (.c (.bool true)) (.c a157)) h158 fun a160 h161 =>
  vcond a160 (keq [] [] ∧ J7 [] h161) (
  K (.int .i64 0) h161))))
theorem V12_ok (a0 : D) (a1 : D) (h0 : Heap) (K : D → Heap → Prop) : V12 a0 a1 h0 K = vcC Tryd.prog F12.code (fun x e h' => match x with | .exit _ => False | _ => vcRet Tryd.prog F12.res K e h') (params [a0, a1] 0) h0 := by kernel_rfl


end Go.Am
