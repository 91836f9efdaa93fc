/- The texts of the functions of this chapter, as the abstract machine has them. No condition. -/
import Derived.Test.YtemofgjbjdcmnaaDoorProg
import Derived.KernelRfl
import Derived.Test.YtemofgjbjdcmnaaDoorT1
set_option linter.defProp false
set_option linter.unusedSectionVars false
set_option linter.unusedSimpArgs false
set_option linter.unusedVariables false
/- The functions of this seat's program in the short form, as a program of ours printed them (part 2); each line of it is checked. No condition. -/
set_option linter.unusedVariables false
namespace Go.Am
open Go Go.Proofs
/-- warpwright/warpwrightref04.Check -/
def loops13 : Nat → Option (List Nat × List Nat)
  | 1000009 => some ([], []) | 4 => some ([2], [5]) | _ => none
def tbl13 : Nat → Option (List Nat × List Nat × List Nat)
  | _ => none
def F13 : AFunc := ⟨60,
  .seq (.reg [⟨(some 2), .box (.t 0), none⟩,
    ⟨(some 3), .box (.t 1), none⟩,
    ⟨(some 4), .mov (.c (.int .i64 0)), none⟩]) <|
  .seq (.seq (.reg [⟨(some 6), .fadd (.t 2) 0, none⟩,
    ⟨(some 7), .ld (.t 6) 1 false, none⟩,
    ⟨(some 8), .bin .lss (.t 7) (.c (.int .i64 1)), none⟩,
    ⟨(some 9), .mov (.t 8), none⟩,
    ⟨(some 10), .fadd (.t 2) 0, some (9, false)⟩,
    ⟨(some 11), .ld (.t 10) 1 false, some (9, false)⟩,
    ⟨(some 12), .bin .gtr (.t 11) (.c (.int .i64 256)), some (9, false)⟩,
    ⟨(some 13), .pick (.t 9) (.c (.bool true)) (.t 12), none⟩,
    ⟨(some 14), .mov (.t 13), none⟩,
    ⟨(some 15), .fadd (.t 3) 0, some (14, false)⟩,
    ⟨(some 16), .ld (.t 15) 1 false, some (14, false)⟩,
    ⟨(some 17), .bin .lss (.t 16) (.c (.int .i64 1)), some (14, false)⟩,
    ⟨(some 18), .pick (.t 14) (.c (.bool true)) (.t 17), none⟩,
    ⟨(some 19), .mov (.t 18), none⟩,
    ⟨(some 20), .fadd (.t 3) 0, some (19, false)⟩,
    ⟨(some 21), .ld (.t 20) 1 false, some (19, false)⟩,
    ⟨(some 22), .bin .gtr (.t 21) (.c (.int .i64 4096)), some (19, false)⟩,
    ⟨(some 23), .pick (.t 19) (.c (.bool true)) (.t 22), none⟩,
    ⟨(some 24), .mov (.t 23), none⟩,
    ⟨(some 25), .fadd (.t 3) 0, some (24, false)⟩,
    ⟨(some 26), .ld (.t 25) 1 false, some (24, false)⟩,
    ⟨(some 27), .fadd (.t 2) 0, some (24, false)⟩,
    ⟨(some 28), .ld (.t 27) 1 false, some (24, false)⟩,
    ⟨(some 29), .bin .mul (.t 26) (.t 28), some (24, false)⟩,
    ⟨(some 30), .bin .gtr (.t 29) (.c (.int .i64 4096)), some (24, false)⟩,
    ⟨(some 31), .pick (.t 24) (.c (.bool true)) (.t 30), none⟩,
    ⟨(some 32), .mov (.t 31), none⟩,
    ⟨(some 33), .fadd (.t 2) 4, some (32, false)⟩,
    ⟨(some 34), .ld (.t 33) 1 false, some (32, false)⟩,
    ⟨(some 35), .bin .gtr (.t 34) (.c (.int .i64 8)), some (32, false)⟩,
    ⟨(some 36), .pick (.t 32) (.c (.bool true)) (.t 35), none⟩,
    ⟨(some 37), .mov (.t 36), none⟩,
    ⟨(some 38), .fadd (.t 3) 1, some (37, false)⟩,
    ⟨(some 39), .ld (.t 38) 1 false, some (37, false)⟩,
    ⟨(some 40), .len (.t 39), some (37, false)⟩,
    ⟨(some 41), .fadd (.t 2) 4, some (37, false)⟩,
    ⟨(some 42), .ld (.t 41) 1 false, some (37, false)⟩,
    ⟨(some 43), .bin .neq (.t 40) (.t 42), some (37, false)⟩,
    ⟨(some 44), .pick (.t 37) (.c (.bool true)) (.t 43), none⟩]) <|
  .cond (.t 44) (.seq (.reg [⟨(some 4), .mov (.c (.int .i64 40)), none⟩]) <|
  .ret) (.skip)) <|
  .seqj [] [] (.seq (.reg [⟨(some 5), .mov (.c (.int .i64 1)), none⟩]) <|
  .block 0 (.loop [2] [5] (.seq (.seq (.reg [⟨(some 45), .mov (.t 5), none⟩,
    ⟨(some 46), .bin .leq (.t 45) (.c (.int .i64 32)), none⟩]) <|
  .cond (.t 46) (.skip) (.exit 0)) <|
  .seq (.block 1 (.seq (.reg [⟨(some 49), .fadd (.t 2) 1, none⟩,
    ⟨(some 50), .ld (.t 49) 1 false, none⟩,
    ⟨(some 51), .mov (.t 5), none⟩,
    ⟨(some 52), .bin .eql (.t 50) (.t 51), none⟩,
    ⟨(some 53), .mov (.t 52), none⟩,
    ⟨(some 54), .fadd (.t 2) 0, some (53, true)⟩,
    ⟨(some 55), .ld (.t 54) 1 false, some (53, true)⟩,
    ⟨(some 56), .mov (.t 5), some (53, true)⟩,
    ⟨(some 57), .bin .rem (.t 55) (.t 56), some (53, true)⟩,
    ⟨(some 58), .bin .eql (.t 57) (.c (.int .i64 0)), some (53, true)⟩,
    ⟨(some 59), .pick (.t 53) (.t 58) (.c (.bool false)), none⟩]) <|
  .cond (.t 59) (.seq (.reg [⟨(some 4), .mov (.c (.int .i64 0)), none⟩]) <|
  .ret) (.skip))) <|
  .reg [⟨(some 47), .mov (.t 5), none⟩,
    ⟨(some 48), .bin .mul (.c (.int .i64 2)) (.t 47), none⟩,
    ⟨(some 5), .mov (.t 48), none⟩]))) <|
  .seq (.reg [⟨(some 4), .mov (.c (.int .i64 40)), none⟩]) <|
  .ret,
  [.t 4]⟩
theorem F13_ok : cFn Tryd.prog true 13 loops13 (cDr Tryd.prog 60 tbl13) = some F13 := by kernel_rfl

def V13_L0 (h135 : Heap) (a3 : D) (J136 : List D → Heap → Prop) (K : D → Heap → Prop) : Prop :=
  ∃ (I139 : Nat → List D → Heap → Prop) (n₀ : Nat), I139 n₀ [(.int .i64 1)] h135 ∧ ∀ (n140 : Nat) (f141 : Nat → D) (h142 : Heap), I139 n140 [f141 5] h142 →
  vbin .leq (f141 5) (.int .i64 32) fun a143 =>
  vcond a143 (vhOp Tryd.prog (.fadd (.c a3) 1) h142 fun a144 h145 =>
  vhOp Tryd.prog (.ld (.c a144) 1 false) h145 fun a146 h147 =>
  vbin .eql a146 (f141 5) fun a148 =>
  vguard a148 true (fun G149 =>
  vhOp Tryd.prog (.fadd (.c a3) 0) h147 fun a152 h153 =>
  G149 a152 h153) h147 fun a150 h151 =>
  vguard a148 true (fun G154 =>
  vhOp Tryd.prog (.ld (.c a150) 1 false) h151 fun a157 h158 =>
  G154 a157 h158) h151 fun a155 h156 =>
  vguard a148 true (fun G159 =>
  G159 (f141 5) h156) h156 fun a160 h161 =>
  vguard a148 true (fun G162 =>
  vbin .rem a155 a160 fun a165 =>
  G162 a165 h161) h161 fun a163 h164 =>
  vguard a148 true (fun G166 =>
  vbin .eql a163 (.int .i64 0) fun a169 =>
  G166 a169 h164) h164 fun a167 h168 =>
  vhOp Tryd.prog (.pick (.c a148) (.c a167) (.c (.bool false))) h168 fun a170 h171 =>
  vcond a170 (K (.int .i64 0) h171) (
  vbin .mul (.int .i64 2) (f141 5) fun a172 =>
  keq [a3] [a3] ∧ ∃ m, m < n140 ∧ I139 m [a172] h171)) (
  keq [] [] ∧ J136 [] h142)
def V13 (a0 : D) (a1 : D) (h0 : Heap) (K : D → Heap → Prop) : Prop :=
  vhOp Tryd.prog (.box (.c a0)) h0 fun a3 h4 =>
  vhOp Tryd.prog (.box (.c a1)) h4 fun a5 h6 =>
  vhOp Tryd.prog (.fadd (.c a3) 0) h6 fun a7 h8 =>
  vhOp Tryd.prog (.ld (.c a7) 1 false) h8 fun a9 h10 =>
  vbin .lss a9 (.int .i64 1) fun a11 =>
  vguard a11 false (fun G12 =>
  vhOp Tryd.prog (.fadd (.c a3) 0) h10 fun a15 h16 =>
  G12 a15 h16) h10 fun a13 h14 =>
  vguard a11 false (fun G17 =>
  vhOp Tryd.prog (.ld (.c a13) 1 false) h14 fun a20 h21 =>
  G17 a20 h21) h14 fun a18 h19 =>
  vguard a11 false (fun G22 =>
  vbin .gtr a18 (.int .i64 256) fun a25 =>
  G22 a25 h19) h19 fun a23 h24 =>
  vhOp Tryd.prog (.pick (.c a11) (.c (.bool true)) (.c a23)) h24 fun a26 h27 =>
  vguard a26 false (fun G28 =>
  vhOp Tryd.prog (.fadd (.c a5) 0) h27 fun a31 h32 =>
  G28 a31 h32) h27 fun a29 h30 =>
  vguard a26 false (fun G33 =>
  vhOp Tryd.prog (.ld (.c a29) 1 false) h30 fun a36 h37 =>
  G33 a36 h37) h30 fun a34 h35 =>
  vguard a26 false (fun G38 =>
  vbin .lss a34 (.int .i64 1) fun a41 =>
  G38 a41 h35) h35 fun a39 h40 =>
  vhOp Tryd.prog (.pick (.c a26) (.c (.bool true)) (.c a39)) h40 fun a42 h43 =>
  vguard a42 false (fun G44 =>
  vhOp Tryd.prog (.fadd (.c a5) 0) h43 fun a47 h48 =>
  G44 a47 h48) h43 fun a45 h46 =>
  vguard a42 false (fun G49 =>
  vhOp Tryd.prog (.ld (.c a45) 1 false) h46 fun a52 h53 =>
  G49 a52 h53) h46 fun a50 h51 =>
  vguard a42 false (fun G54 =>
  vbin .gtr a50 (.int .i64 4096) fun a57 =>
  G54 a57 h51) h51 fun a55 h56 =>
  vhOp Tryd.prog (.pick (.c a42) (.c (.bool true)) (.c a55)) h56 fun a58 h59 =>
  vguard a58 false (fun G60 =>
  vhOp Tryd.prog (.fadd (.c a5) 0) h59 fun a63 h64 =>
  G60 a63 h64) h59 fun a61 h62 =>
  vguard a58 false (fun G65 =>
  vhOp Tryd.prog (.ld (.c a61) 1 false) h62 fun a68 h69 =>
  G65 a68 h69) h62 fun a66 h67 =>
  vguard a58 false (fun G70 =>
  vhOp Tryd.prog (.fadd (.c a3) 0) h67 fun a73 h74 =>
  G70 a73 h74) h67 fun a71 h72 =>
  vguard a58 false (fun G75 =>
  vhOp Tryd.prog (.ld (.c a71) 1 false) h72 fun a78 h79 =>
  G75 a78 h79) h72 fun a76 h77 =>
  vguard a58 false (fun G80 =>
  vbin .mul a66 a76 fun a83 =>
  G80 a83 h77) h77 fun a81 h82 =>
  vguard a58 false (fun G84 =>
  vbin .gtr a81 (.int .i64 4096) fun a87 =>
  G84 a87 h82) h82 fun a85 h86 =>
  vhOp Tryd.prog (.pick (.c a58) (.c (.bool true)) (.c a85)) h86 fun a88 h89 =>
  vguard a88 false (fun G90 =>
  vhOp Tryd.prog (.fadd (.c a3) 4) h89 fun a93 h94 =>
  G90 a93 h94) h89 fun a91 h92 =>
  vguard a88 false (fun G95 =>
  vhOp Tryd.prog (.ld (.c a91) 1 false) h92 fun a98 h99 =>
  G95 a98 h99) h92 fun a96 h97 =>
  vguard a88 false (fun G100 =>
  vbin .gtr a96 (.int .i64 8) fun a103 =>
  G100 a103 h97) h97 fun a101 h102 =>
  vhOp Tryd.prog (.pick (.c a88) (.c (.bool true)) (.c a101)) h102 fun a104 h105 =>
  vguard a104 false (fun G106 =>
  vhOp Tryd.prog (.fadd (.c a5) 1) h105 fun a109 h110 =>
  G106 a109 h110) h105 fun a107 h108 =>
  vguard a104 false (fun G111 =>
  vhOp Tryd.prog (.ld (.c a107) 1 false) h108 fun a114 h115 =>
  G111 a114 h115) h108 fun a112 h113 =>
  vguard a104 false (fun G116 =>
  vlen a112 h113 fun a119 =>
  G116 a119 h113) h113 fun a117 h118 =>
  vguard a104 false (fun G120 =>
  vhOp Tryd.prog (.fadd (.c a3) 4) h118 fun a123 h124 =>
  G120 a123 h124) h118 fun a121 h122 =>
  vguard a104 false (fun G125 =>
  vhOp Tryd.prog (.ld (.c a121) 1 false) h122 fun a128 h129 =>
  G125 a128 h129) h122 fun a126 h127 =>
  vguard a104 false (fun G130 =>
  vbin .neq a117 a126 fun a133 =>
  G130 a133 h127) h127 fun a131 h132 =>
  vhOp Tryd.prog (.pick (.c a104) (.c (.bool true)) (.c a131)) h132 fun a134 h135 =>
  vcond a134 (K (.int .i64 40) h135) (
  ∃ (J136 : List D → Heap → Prop), (∀ (f137 : Nat → D) (h138 : Heap), J136 [] h138 →
  K (.int .i64 40) h138) ∧
  V13_L0 h135 a3 J136 K)
theorem V13_ok (a0 : D) (a1 : D) (h0 : Heap) (K : D → Heap → Prop) : V13 a0 a1 h0 K = vcC Tryd.prog F13.code (fun x e h' => match x with | .exit _ => False | _ => vcRet Tryd.prog F13.res K e h') (params [a0, a1] 0) h0 := by kernel_rfl

/-- warpwright/warpwrightlaw04.id -/
def loops14 : Nat → Option (List Nat × List Nat)
  | _ => none
def tbl14 : Nat → Option (List Nat × List Nat × List Nat)
  | _ => none
def F14 : AFunc := ⟨22,
  .seq (.reg [⟨(some 3), .box (.t 0), none⟩,
    ⟨(some 4), .box (.t 1), none⟩,
    ⟨(some 5), .box (.t 2), none⟩,
    ⟨(some 6), .alloc (.agg [(.int .i32 0), (.int .i64 0)]), none⟩]) <|
  .seq (.reg [⟨(some 10), .ld (.t 3) 8 true, none⟩,
    ⟨(some 11), .ld (.t 4) 2 true, none⟩,
    ⟨(some 12), .iadda (.t 5) (.c (.int .i64 0)) 2 1, none⟩,
    ⟨(some 13), .ld (.t 12) 1 false, none⟩,
    ⟨(some 14), .iadda (.t 5) (.c (.int .i64 1)) 2 1, none⟩,
    ⟨(some 15), .ld (.t 14) 1 false, none⟩,
    ⟨(some 16), .call 32 [(.t 10), (.t 11), (.t 13), (.t 15)], none⟩,
    ⟨(some 9), .mov (.t 16), none⟩,
    ⟨(some 17), .ext (.t 9) 0, none⟩,
    ⟨(some 18), .ext (.t 9) 1, none⟩,
    ⟨(some 7), .mov (.t 17), none⟩,
    ⟨(some 8), .mov (.t 18), none⟩]) <|
  .seq (.reg [⟨(some 19), .mov (.t 7), none⟩,
    ⟨(some 20), .mov (.t 8), none⟩,
    ⟨(some 21), .bld [(.int .i32 0), (.int .i64 0)] [(0, 1, (.t 19)), (1, 1, (.t 20))], none⟩,
    ⟨none, .st (.t 6) (.t 21) 2, none⟩]) <|
  .ret,
  [.cell 6 2 true]⟩
theorem F14_ok : cFn Tryd.prog true 14 loops14 (cDr Tryd.prog 22 tbl14) = some F14 := by kernel_rfl


def V14 (a0 : D) (a1 : D) (a2 : D) (h0 : Heap) (K : D → Heap → Prop) : Prop :=
  vhOp Tryd.prog (.box (.c a0)) h0 fun a4 h5 =>
  vhOp Tryd.prog (.box (.c a1)) h5 fun a6 h7 =>
  vhOp Tryd.prog (.box (.c a2)) h7 fun a8 h9 =>
  vhOp Tryd.prog (.alloc (.agg [(.int .i32 0), (.int .i64 0)])) h9 fun a10 h11 =>
  vhOp Tryd.prog (.ld (.c a4) 8 true) h11 fun a12 h13 =>
  vhOp Tryd.prog (.ld (.c a6) 2 true) h13 fun a14 h15 =>
  vhOp Tryd.prog (.iadda (.c a8) (.c (.int .i64 0)) 2 1) h15 fun a16 h17 =>
  vhOp Tryd.prog (.ld (.c a16) 1 false) h17 fun a18 h19 =>
  vhOp Tryd.prog (.iadda (.c a8) (.c (.int .i64 1)) 2 1) h19 fun a20 h21 =>
  vhOp Tryd.prog (.ld (.c a20) 1 false) h21 fun a22 h23 =>
  ACall Tryd.prog 32 [a12, a14, a18, a22] h23 fun a24 h25 =>
  vhOp Tryd.prog (.ext (.c a24) 0) h25 fun a26 h27 =>
  vhOp Tryd.prog (.ext (.c a24) 1) h27 fun a28 h29 =>
  vhOp Tryd.prog (.bld [(.int .i32 0), (.int .i64 0)] [(0, 1, (.c a26)), (1, 1, (.c a28))]) h29 fun a30 h31 =>
  vhOp Tryd.prog (.st (.c a10) (.c a30) 2) h31 fun a32 h33 =>
  vhOp Tryd.prog (.ld (.c a10) 2 true) h33 fun a34 _ =>
  K a34 h33
theorem V14_ok (a0 : D) (a1 : D) (a2 : D) (h0 : Heap) (K : D → Heap → Prop) : V14 a0 a1 a2 h0 K = vcC Tryd.prog F14.code (fun x e h' => match x with | .exit _ => False | _ => vcRet Tryd.prog F14.res K e h') (params [a0, a1, a2] 0) h0 := by kernel_rfl

/-- warpwright/warpwrightref04.IdIn -/
def loops15 : Nat → Option (List Nat × List Nat)
  | _ => none
def tbl15 : Nat → Option (List Nat × List Nat × List Nat)
  | 4 => some ([0, 0, 0, 0, 8, 0, 32, 120, 0, 256, 0, 0, 2048, 7168, 0, 0, 32768, 114688, 262143, 524287], [], []) | _ => none
def F15 : AFunc := ⟨63,
  .seq (.reg [⟨(some 4), .box (.t 0), none⟩,
    ⟨(some 5), .box (.t 1), none⟩,
    ⟨(some 8), .alloc (.agg [(.int .i32 0), (.int .i64 0)]), none⟩]) <|
  .seq (.seq (.reg [⟨(some 12), .mov (.t 3), none⟩,
    ⟨(some 13), .bin .lss (.t 12) (.c (.int .i64 1)), none⟩,
    ⟨(some 14), .mov (.t 13), none⟩,
    ⟨(some 15), .mov (.t 3), some (14, false)⟩,
    ⟨(some 16), .bin .gtr (.t 15) (.c (.int .i64 7)), some (14, false)⟩,
    ⟨(some 17), .pick (.t 14) (.c (.bool true)) (.t 16), none⟩,
    ⟨(some 18), .mov (.t 17), none⟩,
    ⟨(some 19), .mov (.t 2), some (18, false)⟩,
    ⟨(some 20), .bin .lss (.t 19) (.c (.int .i64 0)), some (18, false)⟩,
    ⟨(some 21), .pick (.t 18) (.c (.bool true)) (.t 20), none⟩,
    ⟨(some 22), .mov (.t 21), none⟩,
    ⟨(some 23), .mov (.t 2), some (22, false)⟩,
    ⟨(some 24), .fadd (.t 5) 0, some (22, false)⟩,
    ⟨(some 25), .ld (.t 24) 1 false, some (22, false)⟩,
    ⟨(some 26), .fadd (.t 4) 0, some (22, false)⟩,
    ⟨(some 27), .ld (.t 26) 1 false, some (22, false)⟩,
    ⟨(some 28), .bin .mul (.t 25) (.t 27), some (22, false)⟩,
    ⟨(some 29), .bin .geq (.t 23) (.t 28), some (22, false)⟩,
    ⟨(some 30), .pick (.t 22) (.c (.bool true)) (.t 29), none⟩]) <|
  .cond (.t 30) (.seq (.reg [⟨(some 31), .bld [(.int .i32 0), (.int .i64 0)] [(1, 1, (.c (.int .i64 1)))], none⟩,
    ⟨none, .st (.t 8) (.t 31) 2, none⟩]) <|
  .ret) (.skip)) <|
  .seq (.reg [⟨(some 33), .ld (.t 4) 8 true, none⟩,
    ⟨(some 34), .mov (.t 2), none⟩,
    ⟨(some 35), .call 33 [(.t 33), (.t 34)], none⟩,
    ⟨(some 32), .mov (.t 35), none⟩,
    ⟨(some 36), .ext (.t 32) 0, none⟩,
    ⟨(some 37), .ext (.t 32) 1, none⟩,
    ⟨(some 9), .mov (.t 36), none⟩,
    ⟨(some 10), .mov (.t 37), none⟩]) <|
  .seq (.dreg [⟨(some 38), .mov (.t 2), none⟩,
    ⟨(some 39), .mov (.t 10), none⟩,
    ⟨(some 40), .mov (.t 9), none⟩,
    ⟨(some 41), .fadd (.t 5) 0, none⟩,
    ⟨(some 42), .ld (.t 41) 1 false, none⟩,
    ⟨(some 43), .fadd (.t 4) 0, none⟩,
    ⟨(some 44), .ld (.t 43) 1 false, none⟩,
    ⟨(some 45), .bin .mul (.t 42) (.t 44), none⟩,
    ⟨(some 46), .fadd (.t 4) 0, none⟩,
    ⟨(some 47), .ld (.t 46) 1 false, none⟩,
    ⟨(some 48), .mov (.t 10), none⟩,
    ⟨(some 49), .fadd (.t 4) 1, none⟩,
    ⟨(some 50), .ld (.t 49) 1 false, none⟩,
    ⟨(some 51), .bin .rem (.t 48) (.t 50), none⟩,
    ⟨(some 52), .mov (.t 10), none⟩,
    ⟨(some 53), .fadd (.t 4) 1, none⟩,
    ⟨(some 54), .ld (.t 53) 1 false, none⟩,
    ⟨(some 55), .bin .quo (.t 52) (.t 54), none⟩,
    ⟨(some 56), .bldS false 1 8 (.int .i64 0) [(0, (.c (.int .i64 0))), (1, (.t 38)), (2, (.t 39)), (3, (.t 40)), (4, (.t 45)), (5, (.t 47)), (6, (.t 51)), (7, (.t 55))], none⟩,
    ⟨(some 11), .mov (.t 56), none⟩] [] []) <|
  .seq (.reg [⟨(some 57), .mov (.t 11), none⟩,
    ⟨(some 58), .mov (.t 3), none⟩,
    ⟨(some 59), .iadd (.t 57) (.t 58) 1, none⟩,
    ⟨(some 60), .ld (.t 59) 1 false, none⟩,
    ⟨(some 61), .conv .i32 (.t 60), none⟩,
    ⟨(some 62), .bld [(.int .i32 0), (.int .i64 0)] [(0, 1, (.t 61))], none⟩,
    ⟨none, .st (.t 8) (.t 62) 2, none⟩]) <|
  .ret,
  [.cell 8 2 true]⟩
theorem F15_ok : cFn Tryd.prog true 15 loops15 (cDr Tryd.prog 63 tbl15) = some F15 := by kernel_rfl


def V15 (a0 : D) (a1 : D) (a2 : D) (a3 : D) (h0 : Heap) (K : D → Heap → Prop) : Prop :=
  vhOp Tryd.prog (.box (.c a0)) h0 fun a5 h6 =>
  vhOp Tryd.prog (.box (.c a1)) h6 fun a7 h8 =>
  vhOp Tryd.prog (.alloc (.agg [(.int .i32 0), (.int .i64 0)])) h8 fun a9 h10 =>
  vbin .lss a3 (.int .i64 1) fun a11 =>
  vguard a11 false (fun G12 =>
  G12 a3 h10) h10 fun a13 h14 =>
  vguard a11 false (fun G15 =>
  vbin .gtr a13 (.int .i64 7) fun a18 =>
  G15 a18 h14) h14 fun a16 h17 =>
  vhOp Tryd.prog (.pick (.c a11) (.c (.bool true)) (.c a16)) h17 fun a19 h20 =>
  vguard a19 false (fun G21 =>
  G21 a2 h20) h20 fun a22 h23 =>
  vguard a19 false (fun G24 =>
  vbin .lss a22 (.int .i64 0) fun a27 =>
  G24 a27 h23) h23 fun a25 h26 =>
  vhOp Tryd.prog (.pick (.c a19) (.c (.bool true)) (.c a25)) h26 fun a28 h29 =>
  vguard a28 false (fun G30 =>
  G30 a2 h29) h29 fun a31 h32 =>
  vguard a28 false (fun G33 =>
  vhOp Tryd.prog (.fadd (.c a7) 0) h32 fun a36 h37 =>
  G33 a36 h37) h32 fun a34 h35 =>
  vguard a28 false (fun G38 =>
  vhOp Tryd.prog (.ld (.c a34) 1 false) h35 fun a41 h42 =>
  G38 a41 h42) h35 fun a39 h40 =>
  vguard a28 false (fun G43 =>
  vhOp Tryd.prog (.fadd (.c a5) 0) h40 fun a46 h47 =>
  G43 a46 h47) h40 fun a44 h45 =>
  vguard a28 false (fun G48 =>
  vhOp Tryd.prog (.ld (.c a44) 1 false) h45 fun a51 h52 =>
  G48 a51 h52) h45 fun a49 h50 =>
  vguard a28 false (fun G53 =>
  vbin .mul a39 a49 fun a56 =>
  G53 a56 h50) h50 fun a54 h55 =>
  vguard a28 false (fun G57 =>
  vbin .geq a31 a54 fun a60 =>
  G57 a60 h55) h55 fun a58 h59 =>
  vhOp Tryd.prog (.pick (.c a28) (.c (.bool true)) (.c a58)) h59 fun a61 h62 =>
  vcond a61 (vhOp Tryd.prog (.bld [(.int .i32 0), (.int .i64 0)] [(1, 1, (.c (.int .i64 1)))]) h62 fun a63 h64 =>
  vhOp Tryd.prog (.st (.c a9) (.c a63) 2) h64 fun a65 h66 =>
  vhOp Tryd.prog (.ld (.c a9) 2 true) h66 fun a67 _ =>
  K a67 h66) (
  vhOp Tryd.prog (.ld (.c a5) 8 true) h62 fun a68 h69 =>
  ACall Tryd.prog 33 [a68, a2] h69 fun a70 h71 =>
  vhOp Tryd.prog (.ext (.c a70) 0) h71 fun a72 h73 =>
  vhOp Tryd.prog (.ext (.c a70) 1) h73 fun a74 h75 =>
  vdOp Tryd.prog (.fadd (.c a7) 0) h75 fun a76 =>
  vdOp Tryd.prog (.ld (.c a76) 1 false) h75 fun a77 =>
  vdOp Tryd.prog (.fadd (.c a5) 0) h75 fun a78 =>
  vdOp Tryd.prog (.ld (.c a78) 1 false) h75 fun a79 =>
  vbin .mul a77 a79 fun a80 =>
  vdOp Tryd.prog (.fadd (.c a5) 0) h75 fun a81 =>
  vdOp Tryd.prog (.ld (.c a81) 1 false) h75 fun a82 =>
  vdOp Tryd.prog (.fadd (.c a5) 1) h75 fun a83 =>
  vdOp Tryd.prog (.ld (.c a83) 1 false) h75 fun a84 =>
  vbin .rem a74 a84 fun a85 =>
  vdOp Tryd.prog (.fadd (.c a5) 1) h75 fun a86 =>
  vdOp Tryd.prog (.ld (.c a86) 1 false) h75 fun a87 =>
  vbin .quo a74 a87 fun a88 =>
  vdOp Tryd.prog (.bldS false 1 8 (.int .i64 0) [(0, (.c (.int .i64 0))), (1, (.c a2)), (2, (.c a74)), (3, (.c a72)), (4, (.c a80)), (5, (.c a82)), (6, (.c a85)), (7, (.c a88))]) h75 fun a89 =>
  vhOp Tryd.prog (.iadd (.c a89) (.c a3) 1) h75 fun a90 h91 =>
  vhOp Tryd.prog (.ld (.c a90) 1 false) h91 fun a92 h93 =>
  vhOp Tryd.prog (.conv .i32 (.c a92)) h93 fun a94 h95 =>
  vhOp Tryd.prog (.bld [(.int .i32 0), (.int .i64 0)] [(0, 1, (.c a94))]) h95 fun a96 h97 =>
  vhOp Tryd.prog (.st (.c a9) (.c a96) 2) h97 fun a98 h99 =>
  vhOp Tryd.prog (.ld (.c a9) 2 true) h99 fun a100 _ =>
  K a100 h99)
theorem V15_ok (a0 : D) (a1 : D) (a2 : D) (a3 : D) (h0 : Heap) (K : D → Heap → Prop) : V15 a0 a1 a2 a3 h0 K = vcC Tryd.prog F15.code (fun x e h' => match x with | .exit _ => False | _ => vcRet Tryd.prog F15.res K e h') (params [a0, a1, a2, a3] 0) h0 := by kernel_rfl

/-- warpwright/launch.Of -/
def loops16 : Nat → Option (List Nat × List Nat)
  | _ => none
def tbl16 : Nat → Option (List Nat × List Nat × List Nat)
  | 1 => some ([0, 0, 2, 7, 0, 0, 32, 112, 15, 511], [], []) | _ => none
def F16 : AFunc := ⟨14,
  .seq (.reg [⟨(some 2), .box (.t 0), none⟩,
    ⟨(some 4), .mov (.c (.int .i64 0)), none⟩,
    ⟨(some 5), .mov (.c (.int .i64 0)), none⟩]) <|
  .seq (.dreg [⟨(some 6), .mov (.t 1), none⟩,
    ⟨(some 7), .fadd (.t 2) 0, none⟩,
    ⟨(some 8), .ld (.t 7) 1 false, none⟩,
    ⟨(some 9), .bin .quo (.t 6) (.t 8), none⟩,
    ⟨(some 10), .mov (.t 1), none⟩,
    ⟨(some 11), .fadd (.t 2) 0, none⟩,
    ⟨(some 12), .ld (.t 11) 1 false, none⟩,
    ⟨(some 13), .bin .rem (.t 10) (.t 12), none⟩,
    ⟨(some 4), .mov (.t 9), none⟩,
    ⟨(some 5), .mov (.t 13), none⟩] [] []) <|
  .ret,
  [.t 4, .t 5]⟩
theorem F16_ok : cFn Tryd.prog true 16 loops16 (cDr Tryd.prog 14 tbl16) = some F16 := by kernel_rfl


def V16 (a0 : D) (a1 : D) (h0 : Heap) (K : D → Heap → Prop) : Prop :=
  vhOp Tryd.prog (.box (.c a0)) h0 fun a3 h4 =>
  vdOp Tryd.prog (.fadd (.c a3) 0) h4 fun a5 =>
  vdOp Tryd.prog (.ld (.c a5) 1 false) h4 fun a6 =>
  vbin .quo a1 a6 fun a7 =>
  vdOp Tryd.prog (.fadd (.c a3) 0) h4 fun a8 =>
  vdOp Tryd.prog (.ld (.c a8) 1 false) h4 fun a9 =>
  vbin .rem a1 a9 fun a10 =>
  K (.tup [a7, a10]) h4
theorem V16_ok (a0 : D) (a1 : D) (h0 : Heap) (K : D → Heap → Prop) : V16 a0 a1 h0 K = vcC Tryd.prog F16.code (fun x e h' => match x with | .exit _ => False | _ => vcRet Tryd.prog F16.res K e h') (params [a0, a1] 0) h0 := by kernel_rfl

/-- warpwright/warpwrightlaw04.cut -/
def loops17 : Nat → Option (List Nat × List Nat)
  | _ => none
def tbl17 : Nat → Option (List Nat × List Nat × List Nat)
  | _ => none
def F17 : AFunc := ⟨11,
  .seq (.reg [⟨(some 4), .mov (.c .nil), none⟩]) <|
  .seq (.reg [⟨(some 5), .mov (.t 0), none⟩,
    ⟨(some 6), .mov (.t 0), none⟩,
    ⟨(some 7), .len (.t 6), none⟩,
    ⟨(some 8), .mov (.t 1), none⟩,
    ⟨(some 9), .mn (.t 7) (.t 8), none⟩,
    ⟨(some 10), .slc (.t 5) none (some (.t 9)) none 1, none⟩,
    ⟨(some 4), .mov (.t 10), none⟩]) <|
  .ret,
  [.t 4]⟩
theorem F17_ok : cFn Tryd.prog true 17 loops17 (cDr Tryd.prog 11 tbl17) = some F17 := by kernel_rfl


def V17 (a0 : D) (a1 : D) (h0 : Heap) (K : D → Heap → Prop) : Prop :=
  vlen a0 h0 fun a3 =>
  vhOp Tryd.prog (.mn (.c a3) (.c a1)) h0 fun a4 h5 =>
  vhOp Tryd.prog (.slc (.c a0) none (some (.c a4)) none 1) h5 fun a6 h7 =>
  K a6 h7
theorem V17_ok (a0 : D) (a1 : D) (h0 : Heap) (K : D → Heap → Prop) : V17 a0 a1 h0 K = vcC Tryd.prog F17.code (fun x e h' => match x with | .exit _ => False | _ => vcRet Tryd.prog F17.res K e h') (params [a0, a1] 0) h0 := by kernel_rfl

/-- warpwright/warpwrightlaw04.collect -/
def loops18 : Nat → Option (List Nat × List Nat)
  | _ => none
def tbl18 : Nat → Option (List Nat × List Nat × List Nat)
  | _ => none
def F18 : AFunc := ⟨19,
  .seq (.reg [⟨(some 6), .alloc (.agg [.nil, (.int .i64 0)]), none⟩]) <|
  .seq (.reg [⟨(some 10), .mov (.t 0), none⟩,
    ⟨(some 11), .mov (.t 1), none⟩,
    ⟨(some 12), .mov (.t 2), none⟩,
    ⟨(some 13), .call 34 [(.t 10), (.t 11), (.t 12)], none⟩,
    ⟨(some 9), .mov (.t 13), none⟩,
    ⟨(some 14), .ext (.t 9) 0, none⟩,
    ⟨(some 15), .ext (.t 9) 1, none⟩,
    ⟨(some 7), .mov (.t 14), none⟩,
    ⟨(some 8), .mov (.t 15), none⟩]) <|
  .seq (.reg [⟨(some 16), .mov (.t 7), none⟩,
    ⟨(some 17), .mov (.t 8), none⟩,
    ⟨(some 18), .bld [.nil, (.int .i64 0)] [(0, 1, (.t 16)), (1, 1, (.t 17))], none⟩,
    ⟨none, .st (.t 6) (.t 18) 2, none⟩]) <|
  .ret,
  [.cell 6 2 true]⟩
theorem F18_ok : cFn Tryd.prog true 18 loops18 (cDr Tryd.prog 19 tbl18) = some F18 := by kernel_rfl


def V18 (a0 : D) (a1 : D) (a2 : D) (h0 : Heap) (K : D → Heap → Prop) : Prop :=
  vhOp Tryd.prog (.alloc (.agg [.nil, (.int .i64 0)])) h0 fun a4 h5 =>
  ACall Tryd.prog 34 [a0, a1, a2] h5 fun a6 h7 =>
  vhOp Tryd.prog (.ext (.c a6) 0) h7 fun a8 h9 =>
  vhOp Tryd.prog (.ext (.c a6) 1) h9 fun a10 h11 =>
  vhOp Tryd.prog (.bld [.nil, (.int .i64 0)] [(0, 1, (.c a8)), (1, 1, (.c a10))]) h11 fun a12 h13 =>
  vhOp Tryd.prog (.st (.c a4) (.c a12) 2) h13 fun a14 h15 =>
  vhOp Tryd.prog (.ld (.c a4) 2 true) h15 fun a16 _ =>
  K a16 h15
theorem V18_ok (a0 : D) (a1 : D) (a2 : D) (h0 : Heap) (K : D → Heap → Prop) : V18 a0 a1 a2 h0 K = vcC Tryd.prog F18.code (fun x e h' => match x with | .exit _ => False | _ => vcRet Tryd.prog F18.res K e h') (params [a0, a1, a2] 0) h0 := by kernel_rfl

/-- warpwright/warpwrightref04.CollectIn -/
def loops19 : Nat → Option (List Nat × List Nat)
  | 1000009 => some ([6, 7], []) | 5 => some ([0, 1, 2, 6, 7], [8]) | _ => none
def tbl19 : Nat → Option (List Nat × List Nat × List Nat)
  | 7 => some ([0, 1, 0, 0, 0, 0, 60, 124, 255, 511, 1023], [8, 10], []) | _ => none
def F19 : AFunc := ⟨51,
  .seq (.reg [⟨(some 6), .alloc (.agg [.nil, (.int .i64 0)]), none⟩]) <|
  .seq (.seq (.reg [⟨(some 9), .mov (.t 0), none⟩,
    ⟨(some 10), .bin .lss (.t 9) (.c (.int .i64 1)), none⟩,
    ⟨(some 11), .mov (.t 10), none⟩,
    ⟨(some 12), .mov (.t 0), some (11, false)⟩,
    ⟨(some 13), .bin .gtr (.t 12) (.c (.int .i64 6)), some (11, false)⟩,
    ⟨(some 14), .pick (.t 11) (.c (.bool true)) (.t 13), none⟩,
    ⟨(some 15), .mov (.t 14), none⟩,
    ⟨(some 16), .mov (.t 1), some (15, false)⟩,
    ⟨(some 17), .len (.t 16), some (15, false)⟩,
    ⟨(some 18), .mov (.t 2), some (15, false)⟩,
    ⟨(some 19), .len (.t 18), some (15, false)⟩,
    ⟨(some 20), .bin .neq (.t 17) (.t 19), some (15, false)⟩,
    ⟨(some 21), .pick (.t 15) (.c (.bool true)) (.t 20), none⟩,
    ⟨(some 22), .mov (.t 21), none⟩,
    ⟨(some 23), .mov (.t 1), some (22, false)⟩,
    ⟨(some 24), .len (.t 23), some (22, false)⟩,
    ⟨(some 25), .bin .lss (.t 24) (.c (.int .i64 1)), some (22, false)⟩,
    ⟨(some 26), .pick (.t 22) (.c (.bool true)) (.t 25), none⟩,
    ⟨(some 27), .mov (.t 26), none⟩,
    ⟨(some 28), .mov (.t 1), some (27, false)⟩,
    ⟨(some 29), .len (.t 28), some (27, false)⟩,
    ⟨(some 30), .bin .gtr (.t 29) (.c (.int .i64 32)), some (27, false)⟩,
    ⟨(some 31), .pick (.t 27) (.c (.bool true)) (.t 30), none⟩]) <|
  .cond (.t 31) (.seq (.reg [⟨(some 32), .bld [.nil, (.int .i64 0)] [(1, 1, (.c (.int .i64 1)))], none⟩,
    ⟨none, .st (.t 6) (.t 32) 2, none⟩]) <|
  .ret) (.skip)) <|
  .seq (.reg [⟨(some 33), .bld [.nil, (.int .i64 0)] [], none⟩,
    ⟨(some 7), .alloc (.agg [.nil, (.int .i64 0)]), none⟩,
    ⟨none, .st (.t 7) (.t 33) 2, none⟩]) <|
  .seqj [6, 7] [] (.seq (.reg [⟨(some 8), .mov (.c (.int .i64 0)), none⟩]) <|
  .block 0 (.loop [0, 1, 2, 6, 7] [8] (.seq (.seq (.reg [⟨(some 34), .mov (.t 8), none⟩,
    ⟨(some 35), .mov (.t 1), none⟩,
    ⟨(some 36), .len (.t 35), none⟩,
    ⟨(some 37), .bin .lss (.t 34) (.t 36), none⟩]) <|
  .cond (.t 37) (.skip) (.exit 0)) <|
  .seq (.block 1 (.dreg [⟨(some 40), .fadd (.t 7) 0, none⟩,
    ⟨(some 41), .ld (.t 40) 1 false, none⟩,
    ⟨(some 42), .mov (.t 0), none⟩,
    ⟨(some 43), .mov (.t 8), none⟩,
    ⟨(some 44), .mov (.t 1), none⟩,
    ⟨(some 45), .mov (.t 2), none⟩,
    ⟨(some 46), .call 35 [(.t 42), (.t 43), (.t 44), (.t 45)], none⟩,
    ⟨(some 47), .bldS false 1 1 (.int .i32 0) [(0, (.t 46))], none⟩,
    ⟨(some 49), .fadd (.t 7) 0, none⟩] [⟨(some 48), .app (.t 41) (.t 47) 1 4 (.int .i32 0), none⟩,
    ⟨none, .st (.t 49) (.t 48) 1, none⟩] [])) <|
  .reg [⟨(some 38), .mov (.t 8), none⟩,
    ⟨(some 39), .bin .add (.t 38) (.c (.int .i64 1)), none⟩,
    ⟨(some 8), .mov (.t 39), none⟩]))) <|
  .seq (.reg [⟨(some 50), .ld (.t 7) 2 true, none⟩,
    ⟨none, .st (.t 6) (.t 50) 2, none⟩]) <|
  .ret,
  [.cell 6 2 true]⟩
theorem F19_ok : cFn Tryd.prog true 19 loops19 (cDr Tryd.prog 51 tbl19) = some F19 := by kernel_rfl

def V19_L0 (h72 : Heap) (a1 : D) (a69 : D) (a0 : D) (a2 : D) (a4 : D) (J73 : List D → Heap → Prop) : Prop :=
  ∃ (I81 : Nat → List D → Heap → Prop) (n₀ : Nat), I81 n₀ [(.int .i64 0)] h72 ∧ ∀ (n82 : Nat) (f83 : Nat → D) (h84 : Heap), I81 n82 [f83 8] h84 →
  vlen a1 h84 fun a85 =>
  vbin .lss (f83 8) a85 fun a86 =>
  vcond a86 (vdOp Tryd.prog (.fadd (.c a69) 0) h84 fun a87 =>
  vdOp Tryd.prog (.ld (.c a87) 1 false) h84 fun a88 =>
  vdOp Tryd.prog (.call 35 [(.c a0), (.c (f83 8)), (.c a1), (.c a2)]) h84 fun a89 =>
  vdOp Tryd.prog (.bldS false 1 1 (.int .i32 0) [(0, (.c a89))]) h84 fun a90 =>
  vdOp Tryd.prog (.fadd (.c a69) 0) h84 fun a91 =>
  vhOp Tryd.prog (.app (.c a88) (.c a90) 1 4 (.int .i32 0)) h84 fun a92 h93 =>
  vhOp Tryd.prog (.st (.c a91) (.c a92) 1) h93 fun a94 h95 =>
  vbin .add (f83 8) (.int .i64 1) fun a96 =>
  keq [a0, a1, a2, a4, a69] [a0, a1, a2, a4, a69] ∧ ∃ m, m < n82 ∧ I81 m [a96] h95) (
  keq [a4, a69] [a4, a69] ∧ J73 [] h84)
def V19 (a0 : D) (a1 : D) (a2 : D) (h0 : Heap) (K : D → Heap → Prop) : Prop :=
  vhOp Tryd.prog (.alloc (.agg [.nil, (.int .i64 0)])) h0 fun a4 h5 =>
  vbin .lss a0 (.int .i64 1) fun a6 =>
  vguard a6 false (fun G7 =>
  G7 a0 h5) h5 fun a8 h9 =>
  vguard a6 false (fun G10 =>
  vbin .gtr a8 (.int .i64 6) fun a13 =>
  G10 a13 h9) h9 fun a11 h12 =>
  vhOp Tryd.prog (.pick (.c a6) (.c (.bool true)) (.c a11)) h12 fun a14 h15 =>
  vguard a14 false (fun G16 =>
  G16 a1 h15) h15 fun a17 h18 =>
  vguard a14 false (fun G19 =>
  vlen a17 h18 fun a22 =>
  G19 a22 h18) h18 fun a20 h21 =>
  vguard a14 false (fun G23 =>
  G23 a2 h21) h21 fun a24 h25 =>
  vguard a14 false (fun G26 =>
  vlen a24 h25 fun a29 =>
  G26 a29 h25) h25 fun a27 h28 =>
  vguard a14 false (fun G30 =>
  vbin .neq a20 a27 fun a33 =>
  G30 a33 h28) h28 fun a31 h32 =>
  vhOp Tryd.prog (.pick (.c a14) (.c (.bool true)) (.c a31)) h32 fun a34 h35 =>
  vguard a34 false (fun G36 =>
  G36 a1 h35) h35 fun a37 h38 =>
  vguard a34 false (fun G39 =>
  vlen a37 h38 fun a42 =>
  G39 a42 h38) h38 fun a40 h41 =>
  vguard a34 false (fun G43 =>
  vbin .lss a40 (.int .i64 1) fun a46 =>
  G43 a46 h41) h41 fun a44 h45 =>
  vhOp Tryd.prog (.pick (.c a34) (.c (.bool true)) (.c a44)) h45 fun a47 h48 =>
  vguard a47 false (fun G49 =>
  G49 a1 h48) h48 fun a50 h51 =>
  vguard a47 false (fun G52 =>
  vlen a50 h51 fun a55 =>
  G52 a55 h51) h51 fun a53 h54 =>
  vguard a47 false (fun G56 =>
  vbin .gtr a53 (.int .i64 32) fun a59 =>
  G56 a59 h54) h54 fun a57 h58 =>
  vhOp Tryd.prog (.pick (.c a47) (.c (.bool true)) (.c a57)) h58 fun a60 h61 =>
  vcond a60 (vhOp Tryd.prog (.bld [.nil, (.int .i64 0)] [(1, 1, (.c (.int .i64 1)))]) h61 fun a62 h63 =>
  vhOp Tryd.prog (.st (.c a4) (.c a62) 2) h63 fun a64 h65 =>
  vhOp Tryd.prog (.ld (.c a4) 2 true) h65 fun a66 _ =>
  K a66 h65) (
  vhOp Tryd.prog (.bld [.nil, (.int .i64 0)] []) h61 fun a67 h68 =>
  vhOp Tryd.prog (.alloc (.agg [.nil, (.int .i64 0)])) h68 fun a69 h70 =>
  vhOp Tryd.prog (.st (.c a69) (.c a67) 2) h70 fun a71 h72 =>
  ∃ (J73 : List D → Heap → Prop), (∀ (f74 : Nat → D) (h75 : Heap), J73 [] h75 →
  vhOp Tryd.prog (.ld (.c a69) 2 true) h75 fun a76 h77 =>
  vhOp Tryd.prog (.st (.c a4) (.c a76) 2) h77 fun a78 h79 =>
  vhOp Tryd.prog (.ld (.c a4) 2 true) h79 fun a80 _ =>
  K a80 h79) ∧
  V19_L0 h72 a1 a69 a0 a2 a4 J73)
theorem V19_ok (a0 : D) (a1 : D) (a2 : D) (h0 : Heap) (K : D → Heap → Prop) : V19 a0 a1 a2 h0 K = vcC Tryd.prog F19.code (fun x e h' => match x with | .exit _ => False | _ => vcRet Tryd.prog F19.res K e h') (params [a0, a1, a2] 0) h0 := by kernel_rfl

/-- warpwright/warpwrightref04.SameWords -/
def loops20 : Nat → Option (List Nat × List Nat)
  | 1000009 => some ([], []) | 4 => some ([0, 1], [5]) | _ => none
def tbl20 : Nat → Option (List Nat × List Nat × List Nat)
  | 6 => some ([0, 0, 3, 7, 0, 0, 48, 112, 255], [], []) | _ => none
def F20 : AFunc := ⟨26,
  .seq (.reg [⟨(some 4), .mov (.c (.bool false)), none⟩]) <|
  .seq (.seq (.reg [⟨(some 6), .mov (.t 0), none⟩,
    ⟨(some 7), .len (.t 6), none⟩,
    ⟨(some 8), .mov (.t 1), none⟩,
    ⟨(some 9), .len (.t 8), none⟩,
    ⟨(some 10), .bin .neq (.t 7) (.t 9), none⟩]) <|
  .cond (.t 10) (.seq (.reg [⟨(some 4), .mov (.c (.bool false)), none⟩]) <|
  .ret) (.skip)) <|
  .seqj [] [] (.seq (.reg [⟨(some 5), .mov (.c (.int .i64 0)), none⟩]) <|
  .block 0 (.loop [0, 1] [5] (.seq (.seq (.reg [⟨(some 11), .mov (.t 5), none⟩,
    ⟨(some 12), .mov (.t 0), none⟩,
    ⟨(some 13), .len (.t 12), none⟩,
    ⟨(some 14), .bin .lss (.t 11) (.t 13), none⟩]) <|
  .cond (.t 14) (.skip) (.exit 0)) <|
  .seq (.block 1 (.seq (.dreg [⟨(some 17), .mov (.t 0), none⟩,
    ⟨(some 18), .mov (.t 5), none⟩,
    ⟨(some 19), .iadd (.t 17) (.t 18) 1, none⟩,
    ⟨(some 20), .ld (.t 19) 1 false, none⟩,
    ⟨(some 21), .mov (.t 1), none⟩,
    ⟨(some 22), .mov (.t 5), none⟩,
    ⟨(some 23), .iadd (.t 21) (.t 22) 1, none⟩,
    ⟨(some 24), .ld (.t 23) 1 false, none⟩,
    ⟨(some 25), .bin .neq (.t 20) (.t 24), none⟩] [] []) <|
  .cond (.t 25) (.seq (.reg [⟨(some 4), .mov (.c (.bool false)), none⟩]) <|
  .ret) (.skip))) <|
  .reg [⟨(some 15), .mov (.t 5), none⟩,
    ⟨(some 16), .bin .add (.t 15) (.c (.int .i64 1)), none⟩,
    ⟨(some 5), .mov (.t 16), none⟩]))) <|
  .seq (.reg [⟨(some 4), .mov (.c (.bool true)), none⟩]) <|
  .ret,
  [.t 4]⟩
theorem F20_ok : cFn Tryd.prog true 20 loops20 (cDr Tryd.prog 26 tbl20) = some F20 := by kernel_rfl

def V20_L0 (h0 : Heap) (a0 : D) (a1 : D) (J6 : List D → Heap → Prop) (K : D → Heap → Prop) : Prop :=
  ∃ (I9 : Nat → List D → Heap → Prop) (n₀ : Nat), I9 n₀ [(.int .i64 0)] h0 ∧ ∀ (n10 : Nat) (f11 : Nat → D) (h12 : Heap), I9 n10 [f11 5] h12 →
  vlen a0 h12 fun a13 =>
  vbin .lss (f11 5) a13 fun a14 =>
  vcond a14 (vdOp Tryd.prog (.iadd (.c a0) (.c (f11 5)) 1) h12 fun a15 =>
  vdOp Tryd.prog (.ld (.c a15) 1 false) h12 fun a16 =>
  vdOp Tryd.prog (.iadd (.c a1) (.c (f11 5)) 1) h12 fun a17 =>
  vdOp Tryd.prog (.ld (.c a17) 1 false) h12 fun a18 =>
  vbin .neq a16 a18 fun a19 =>
  vcond a19 (K (.bool false) h12) (
  vbin .add (f11 5) (.int .i64 1) fun a20 =>
  keq [a0, a1] [a0, a1] ∧ ∃ m, m < n10 ∧ I9 m [a20] h12)) (
  keq [] [] ∧ J6 [] h12)
def V20 (a0 : D) (a1 : D) (h0 : Heap) (K : D → Heap → Prop) : Prop :=
  vlen a0 h0 fun a3 =>
  vlen a1 h0 fun a4 =>
  vbin .neq a3 a4 fun a5 =>
  vcond a5 (K (.bool false) h0) (
  ∃ (J6 : List D → Heap → Prop), (∀ (f7 : Nat → D) (h8 : Heap), J6 [] h8 →
  K (.bool true) h8) ∧
  V20_L0 h0 a0 a1 J6 K)
theorem V20_ok (a0 : D) (a1 : D) (h0 : Heap) (K : D → Heap → Prop) : V20 a0 a1 h0 K = vcC Tryd.prog F20.code (fun x e h' => match x with | .exit _ => False | _ => vcRet Tryd.prog F20.res K e h') (params [a0, a1] 0) h0 := by kernel_rfl

/-- warpwright/warpwrightref04.SamePacked -/
def loops21 : Nat → Option (List Nat × List Nat)
  | 1000009 => some ([], []) | 4 => some ([2, 3], [5]) | _ => none
def tbl21 : Nat → Option (List Nat × List Nat × List Nat)
  | 6 => some ([0, 1, 0, 7, 15, 0, 32, 0, 224, 480, 1023, 2047], [], []) | _ => none
def F21 : AFunc := ⟨39,
  .seq (.reg [⟨(some 2), .box (.t 0), none⟩,
    ⟨(some 3), .box (.t 1), none⟩,
    ⟨(some 4), .mov (.c (.bool false)), none⟩]) <|
  .seq (.seq (.reg [⟨(some 6), .fadd (.t 2) 1, none⟩,
    ⟨(some 7), .ld (.t 6) 1 false, none⟩,
    ⟨(some 8), .fadd (.t 3) 1, none⟩,
    ⟨(some 9), .ld (.t 8) 1 false, none⟩,
    ⟨(some 10), .bin .neq (.t 7) (.t 9), none⟩,
    ⟨(some 11), .mov (.t 10), none⟩,
    ⟨(some 12), .fadd (.t 2) 0, some (11, false)⟩,
    ⟨(some 13), .ld (.t 12) 1 false, some (11, false)⟩,
    ⟨(some 14), .len (.t 13), some (11, false)⟩,
    ⟨(some 15), .fadd (.t 3) 0, some (11, false)⟩,
    ⟨(some 16), .ld (.t 15) 1 false, some (11, false)⟩,
    ⟨(some 17), .len (.t 16), some (11, false)⟩,
    ⟨(some 18), .bin .neq (.t 14) (.t 17), some (11, false)⟩,
    ⟨(some 19), .pick (.t 11) (.c (.bool true)) (.t 18), none⟩]) <|
  .cond (.t 19) (.seq (.reg [⟨(some 4), .mov (.c (.bool false)), none⟩]) <|
  .ret) (.skip)) <|
  .seqj [] [] (.seq (.reg [⟨(some 5), .mov (.c (.int .i64 0)), none⟩]) <|
  .block 0 (.loop [2, 3] [5] (.seq (.seq (.reg [⟨(some 20), .mov (.t 5), none⟩,
    ⟨(some 21), .fadd (.t 2) 0, none⟩,
    ⟨(some 22), .ld (.t 21) 1 false, none⟩,
    ⟨(some 23), .len (.t 22), none⟩,
    ⟨(some 24), .bin .lss (.t 20) (.t 23), none⟩]) <|
  .cond (.t 24) (.skip) (.exit 0)) <|
  .seq (.block 1 (.seq (.dreg [⟨(some 27), .fadd (.t 2) 0, none⟩,
    ⟨(some 28), .ld (.t 27) 1 false, none⟩,
    ⟨(some 29), .mov (.t 5), none⟩,
    ⟨(some 30), .iadd (.t 28) (.t 29) 1, none⟩,
    ⟨(some 31), .ld (.t 30) 1 false, none⟩,
    ⟨(some 32), .fadd (.t 3) 0, none⟩,
    ⟨(some 33), .ld (.t 32) 1 false, none⟩,
    ⟨(some 34), .mov (.t 5), none⟩,
    ⟨(some 35), .iadd (.t 33) (.t 34) 1, none⟩,
    ⟨(some 36), .ld (.t 35) 1 false, none⟩,
    ⟨(some 37), .call 36 [(.t 31), (.t 36)], none⟩,
    ⟨(some 38), .un .not (.t 37), none⟩] [] []) <|
  .cond (.t 38) (.seq (.reg [⟨(some 4), .mov (.c (.bool false)), none⟩]) <|
  .ret) (.skip))) <|
  .reg [⟨(some 25), .mov (.t 5), none⟩,
    ⟨(some 26), .bin .add (.t 25) (.c (.int .i64 1)), none⟩,
    ⟨(some 5), .mov (.t 26), none⟩]))) <|
  .seq (.reg [⟨(some 4), .mov (.c (.bool true)), none⟩]) <|
  .ret,
  [.t 4]⟩
theorem F21_ok : cFn Tryd.prog true 21 loops21 (cDr Tryd.prog 39 tbl21) = some F21 := by kernel_rfl

def V21_L0 (h49 : Heap) (a3 : D) (a5 : D) (J50 : List D → Heap → Prop) (K : D → Heap → Prop) : Prop :=
  ∃ (I53 : Nat → List D → Heap → Prop) (n₀ : Nat), I53 n₀ [(.int .i64 0)] h49 ∧ ∀ (n54 : Nat) (f55 : Nat → D) (h56 : Heap), I53 n54 [f55 5] h56 →
  vhOp Tryd.prog (.fadd (.c a3) 0) h56 fun a57 h58 =>
  vhOp Tryd.prog (.ld (.c a57) 1 false) h58 fun a59 h60 =>
  vlen a59 h60 fun a61 =>
  vbin .lss (f55 5) a61 fun a62 =>
  vcond a62 (vdOp Tryd.prog (.fadd (.c a3) 0) h60 fun a63 =>
  vdOp Tryd.prog (.ld (.c a63) 1 false) h60 fun a64 =>
  vdOp Tryd.prog (.iadd (.c a64) (.c (f55 5)) 1) h60 fun a65 =>
  vdOp Tryd.prog (.ld (.c a65) 1 false) h60 fun a66 =>
  vdOp Tryd.prog (.fadd (.c a5) 0) h60 fun a67 =>
  vdOp Tryd.prog (.ld (.c a67) 1 false) h60 fun a68 =>
  vdOp Tryd.prog (.iadd (.c a68) (.c (f55 5)) 1) h60 fun a69 =>
  vdOp Tryd.prog (.ld (.c a69) 1 false) h60 fun a70 =>
  vdOp Tryd.prog (.call 36 [(.c a66), (.c a70)]) h60 fun a71 =>
  vun .not a71 fun a72 =>
  vcond a72 (K (.bool false) h60) (
  vbin .add (f55 5) (.int .i64 1) fun a73 =>
  keq [a3, a5] [a3, a5] ∧ ∃ m, m < n54 ∧ I53 m [a73] h60)) (
  keq [] [] ∧ J50 [] h60)
def V21 (a0 : D) (a1 : D) (h0 : Heap) (K : D → Heap → Prop) : Prop :=
  vhOp Tryd.prog (.box (.c a0)) h0 fun a3 h4 =>
  vhOp Tryd.prog (.box (.c a1)) h4 fun a5 h6 =>
  vhOp Tryd.prog (.fadd (.c a3) 1) h6 fun a7 h8 =>
  vhOp Tryd.prog (.ld (.c a7) 1 false) h8 fun a9 h10 =>
  vhOp Tryd.prog (.fadd (.c a5) 1) h10 fun a11 h12 =>
  vhOp Tryd.prog (.ld (.c a11) 1 false) h12 fun a13 h14 =>
  vbin .neq a9 a13 fun a15 =>
  vguard a15 false (fun G16 =>
  vhOp Tryd.prog (.fadd (.c a3) 0) h14 fun a19 h20 =>
  G16 a19 h20) h14 fun a17 h18 =>
  vguard a15 false (fun G21 =>
  vhOp Tryd.prog (.ld (.c a17) 1 false) h18 fun a24 h25 =>
  G21 a24 h25) h18 fun a22 h23 =>
  vguard a15 false (fun G26 =>
  vlen a22 h23 fun a29 =>
  G26 a29 h23) h23 fun a27 h28 =>
  vguard a15 false (fun G30 =>
  vhOp Tryd.prog (.fadd (.c a5) 0) h28 fun a33 h34 =>
  G30 a33 h34) h28 fun a31 h32 =>
  vguard a15 false (fun G35 =>
  vhOp Tryd.prog (.ld (.c a31) 1 false) h32 fun a38 h39 =>
  G35 a38 h39) h32 fun a36 h37 =>
  vguard a15 false (fun G40 =>
  vlen a36 h37 fun a43 =>
  G40 a43 h37) h37 fun a41 h42 =>
  vguard a15 false (fun G44 =>
  vbin .neq a27 a41 fun a47 =>
  G44 a47 h42) h42 fun a45 h46 =>
  vhOp Tryd.prog (.pick (.c a15) (.c (.bool true)) (.c a45)) h46 fun a48 h49 =>
  vcond a48 (K (.bool false) h49) (
  ∃ (J50 : List D → Heap → Prop), (∀ (f51 : Nat → D) (h52 : Heap), J50 [] h52 →
  K (.bool true) h52) ∧
  V21_L0 h49 a3 a5 J50 K)
theorem V21_ok (a0 : D) (a1 : D) (h0 : Heap) (K : D → Heap → Prop) : V21 a0 a1 h0 K = vcC Tryd.prog F21.code (fun x e h' => match x with | .exit _ => False | _ => vcRet Tryd.prog F21.res K e h') (params [a0, a1] 0) h0 := by kernel_rfl

/-- warpwright/warpwrightlaw04.pack -/
def loops22 : Nat → Option (List Nat × List Nat)
  | _ => none
def tbl22 : Nat → Option (List Nat × List Nat × List Nat)
  | _ => none
def F22 : AFunc := ⟨19,
  .seq (.reg [⟨(some 6), .alloc (.agg [.nil, (.int .i64 0)]), none⟩]) <|
  .seq (.reg [⟨(some 10), .mov (.t 0), none⟩,
    ⟨(some 11), .mov (.t 1), none⟩,
    ⟨(some 12), .mov (.t 2), none⟩,
    ⟨(some 13), .call 37 [(.t 10), (.t 11), (.t 12)], none⟩,
    ⟨(some 9), .mov (.t 13), none⟩,
    ⟨(some 14), .ext (.t 9) 0, none⟩,
    ⟨(some 15), .ext (.t 9) 1, none⟩,
    ⟨(some 7), .mov (.t 14), none⟩,
    ⟨(some 8), .mov (.t 15), none⟩]) <|
  .seq (.reg [⟨(some 16), .mov (.t 7), none⟩,
    ⟨(some 17), .mov (.t 8), none⟩,
    ⟨(some 18), .bld [.nil, (.int .i64 0)] [(0, 1, (.t 16)), (1, 1, (.t 17))], none⟩,
    ⟨none, .st (.t 6) (.t 18) 2, none⟩]) <|
  .ret,
  [.cell 6 2 true]⟩
theorem F22_ok : cFn Tryd.prog true 22 loops22 (cDr Tryd.prog 19 tbl22) = some F22 := by kernel_rfl


def V22 (a0 : D) (a1 : D) (a2 : D) (h0 : Heap) (K : D → Heap → Prop) : Prop :=
  vhOp Tryd.prog (.alloc (.agg [.nil, (.int .i64 0)])) h0 fun a4 h5 =>
  ACall Tryd.prog 37 [a0, a1, a2] h5 fun a6 h7 =>
  vhOp Tryd.prog (.ext (.c a6) 0) h7 fun a8 h9 =>
  vhOp Tryd.prog (.ext (.c a6) 1) h9 fun a10 h11 =>
  vhOp Tryd.prog (.bld [.nil, (.int .i64 0)] [(0, 1, (.c a8)), (1, 1, (.c a10))]) h11 fun a12 h13 =>
  vhOp Tryd.prog (.st (.c a4) (.c a12) 2) h13 fun a14 h15 =>
  vhOp Tryd.prog (.ld (.c a4) 2 true) h15 fun a16 _ =>
  K a16 h15
theorem V22_ok (a0 : D) (a1 : D) (a2 : D) (h0 : Heap) (K : D → Heap → Prop) : V22 a0 a1 a2 h0 K = vcC Tryd.prog F22.code (fun x e h' => match x with | .exit _ => False | _ => vcRet Tryd.prog F22.res K e h') (params [a0, a1, a2] 0) h0 := by kernel_rfl

/-- warpwright/warpwrightref04.PackIn -/
def loops23 : Nat → Option (List Nat × List Nat)
  | 1000019 => some ([6, 8], []) | 6 => some ([0, 1, 6, 7, 8], [9]) | 1000014 => some ([0, 1, 6, 7, 8, 9], [10]) | 10 => some ([0, 1, 6, 7, 8, 9], [10, 11]) | 1000018 => some ([0, 1, 6, 7, 8, 9, 10], []) | 14 => some ([0, 1, 6, 7, 8, 9, 10], [12]) | _ => none
def tbl23 : Nat → Option (List Nat × List Nat × List Nat)
  | 16 => some ([0, 0, 0, 6, 14, 0, 0, 0, 192, 480, 992, 2047, 4095], [12], []) | _ => none
def F23 : AFunc := ⟨79,
  .seq (.reg [⟨(some 6), .alloc (.agg [.nil, (.int .i64 0)]), none⟩]) <|
  .seq (.reg [⟨(some 13), .mov (.t 1), none⟩,
    ⟨(some 14), .mov (.t 2), none⟩,
    ⟨(some 15), .call 38 [(.t 13), (.t 14)], none⟩,
    ⟨(some 7), .mov (.t 15), none⟩]) <|
  .seq (.seq (.reg [⟨(some 16), .mov (.t 1), none⟩,
    ⟨(some 17), .bin .lss (.t 16) (.c (.int .i64 1)), none⟩,
    ⟨(some 18), .mov (.t 17), none⟩,
    ⟨(some 19), .mov (.t 1), some (18, false)⟩,
    ⟨(some 20), .bin .gtr (.t 19) (.c (.int .i64 64)), some (18, false)⟩,
    ⟨(some 21), .pick (.t 18) (.c (.bool true)) (.t 20), none⟩,
    ⟨(some 22), .mov (.t 21), none⟩,
    ⟨(some 23), .mov (.t 7), some (22, false)⟩,
    ⟨(some 24), .len (.t 23), some (22, false)⟩,
    ⟨(some 25), .bin .eql (.t 24) (.c (.int .i64 0)), some (22, false)⟩,
    ⟨(some 26), .pick (.t 22) (.c (.bool true)) (.t 25), none⟩]) <|
  .cond (.t 26) (.seq (.reg [⟨(some 27), .bld [.nil, (.int .i64 0)] [(1, 1, (.c (.int .i64 1)))], none⟩,
    ⟨none, .st (.t 6) (.t 27) 2, none⟩]) <|
  .ret) (.skip)) <|
  .seq (.reg [⟨(some 28), .bld [.nil, (.int .i64 0)] [], none⟩,
    ⟨(some 8), .alloc (.agg [.nil, (.int .i64 0)]), none⟩,
    ⟨none, .st (.t 8) (.t 28) 2, none⟩]) <|
  .seqj [6, 8] [] (.seq (.reg [⟨(some 9), .mov (.c (.int .i64 0)), none⟩]) <|
  .block 0 (.loop [0, 1, 6, 7, 8] [9] (.seq (.seq (.reg [⟨(some 29), .mov (.t 9), none⟩,
    ⟨(some 30), .mov (.t 0), none⟩,
    ⟨(some 31), .len (.t 30), none⟩,
    ⟨(some 32), .bin .lss (.t 29) (.t 31), none⟩]) <|
  .cond (.t 32) (.skip) (.exit 0)) <|
  .seq (.block 1 (.seq (.reg [⟨(some 37), .bldS true 1 0 (.int .i64 0) [], none⟩,
    ⟨(some 10), .mov (.t 37), none⟩]) <|
  .seqj [0, 1, 6, 7, 8, 9] [10] (.seq (.reg [⟨(some 11), .mov (.c (.int .i64 0)), none⟩]) <|
  .block 2 (.loop [0, 1, 6, 7, 8, 9] [10, 11] (.seq (.seq (.reg [⟨(some 38), .mov (.t 11), none⟩,
    ⟨(some 39), .mov (.t 1), none⟩,
    ⟨(some 40), .bin .lss (.t 38) (.t 39), none⟩]) <|
  .cond (.t 40) (.skip) (.exit 2)) <|
  .seq (.block 3 (.reg [⟨(some 43), .mov (.t 10), none⟩,
    ⟨(some 44), .bldS true 1 1 (.int .i64 0) [(0, (.c (.int .i64 (-1))))], none⟩,
    ⟨(some 45), .app (.t 43) (.t 44) 1 8 (.int .i64 0), none⟩,
    ⟨(some 10), .mov (.t 45), none⟩])) <|
  .reg [⟨(some 41), .mov (.t 11), none⟩,
    ⟨(some 42), .bin .add (.t 41) (.c (.int .i64 1)), none⟩,
    ⟨(some 11), .mov (.t 42), none⟩]))) <|
  .seqj [0, 1, 6, 7, 8, 9, 10] [] (.seq (.reg [⟨(some 12), .mov (.c (.int .i64 0)), none⟩]) <|
  .block 4 (.loop [0, 1, 6, 7, 8, 9, 10] [12] (.seq (.seq (.reg [⟨(some 46), .mov (.t 12), none⟩,
    ⟨(some 47), .mov (.t 7), none⟩,
    ⟨(some 48), .len (.t 47), none⟩,
    ⟨(some 49), .bin .lss (.t 46) (.t 48), none⟩,
    ⟨(some 50), .mov (.t 49), none⟩,
    ⟨(some 51), .mov (.t 9), some (50, true)⟩,
    ⟨(some 52), .mov (.t 12), some (50, true)⟩,
    ⟨(some 53), .bin .add (.t 51) (.t 52), some (50, true)⟩,
    ⟨(some 54), .mov (.t 0), some (50, true)⟩,
    ⟨(some 55), .len (.t 54), some (50, true)⟩,
    ⟨(some 56), .bin .lss (.t 53) (.t 55), some (50, true)⟩,
    ⟨(some 57), .pick (.t 50) (.t 56) (.c (.bool false)), none⟩]) <|
  .cond (.t 57) (.skip) (.exit 4)) <|
  .seq (.block 5 (.dreg [⟨(some 60), .mov (.t 10), none⟩,
    ⟨(some 61), .mov (.t 7), none⟩,
    ⟨(some 62), .mov (.t 12), none⟩,
    ⟨(some 63), .iadd (.t 61) (.t 62) 1, none⟩,
    ⟨(some 64), .ld (.t 63) 1 false, none⟩,
    ⟨(some 65), .mov (.t 0), none⟩,
    ⟨(some 66), .mov (.t 9), none⟩,
    ⟨(some 67), .mov (.t 12), none⟩,
    ⟨(some 68), .bin .add (.t 66) (.t 67), none⟩,
    ⟨(some 69), .iadd (.t 65) (.t 68) 1, none⟩,
    ⟨(some 70), .ld (.t 69) 1 false, none⟩,
    ⟨(some 71), .iadd (.t 60) (.t 64) 1, none⟩] [⟨none, .st (.t 71) (.t 70) 1, none⟩] [])) <|
  .reg [⟨(some 58), .mov (.t 12), none⟩,
    ⟨(some 59), .bin .add (.t 58) (.c (.int .i64 1)), none⟩,
    ⟨(some 12), .mov (.t 59), none⟩]))) <|
  .reg [⟨(some 72), .fadd (.t 8) 0, none⟩,
    ⟨(some 73), .ld (.t 72) 1 false, none⟩,
    ⟨(some 74), .mov (.t 10), none⟩,
    ⟨(some 75), .bldS true 1 1 .nil [(0, (.t 74))], none⟩,
    ⟨(some 76), .app (.t 73) (.t 75) 1 24 .nil, none⟩,
    ⟨(some 77), .fadd (.t 8) 0, none⟩,
    ⟨none, .st (.t 77) (.t 76) 1, none⟩])) <|
  .reg [⟨(some 33), .mov (.t 9), none⟩,
    ⟨(some 34), .mov (.t 7), none⟩,
    ⟨(some 35), .len (.t 34), none⟩,
    ⟨(some 36), .bin .add (.t 33) (.t 35), none⟩,
    ⟨(some 9), .mov (.t 36), none⟩]))) <|
  .seq (.reg [⟨(some 78), .ld (.t 8) 2 true, none⟩,
    ⟨none, .st (.t 6) (.t 78) 2, none⟩]) <|
  .ret,
  [.cell 6 2 true]⟩
theorem F23_ok : cFn Tryd.prog true 23 loops23 (cDr Tryd.prog 79 tbl23) = some F23 := by kernel_rfl

def V23_L0 (h60 : Heap) (a6 : D) (f52 : Nat → D) (a0 : D) (f59 : Nat → D) (a1 : D) (a4 : D) (a38 : D) (J61 : List D → Heap → Prop) : Prop :=
  ∃ (I78 : Nat → List D → Heap → Prop) (n₀ : Nat), I78 n₀ [(.int .i64 0)] h60 ∧ ∀ (n79 : Nat) (f80 : Nat → D) (h81 : Heap), I78 n79 [f80 12] h81 →
  vlen a6 h81 fun a82 =>
  vbin .lss (f80 12) a82 fun a83 =>
  vguard a83 true (fun G84 =>
  G84 (f52 9) h81) h81 fun a85 h86 =>
  vguard a83 true (fun G87 =>
  G87 (f80 12) h86) h86 fun a88 h89 =>
  vguard a83 true (fun G90 =>
  vbin .add a85 a88 fun a93 =>
  G90 a93 h89) h89 fun a91 h92 =>
  vguard a83 true (fun G94 =>
  G94 a0 h92) h92 fun a95 h96 =>
  vguard a83 true (fun G97 =>
  vlen a95 h96 fun a100 =>
  G97 a100 h96) h96 fun a98 h99 =>
  vguard a83 true (fun G101 =>
  vbin .lss a91 a98 fun a104 =>
  G101 a104 h99) h99 fun a102 h103 =>
  vhOp Tryd.prog (.pick (.c a83) (.c a102) (.c (.bool false))) h103 fun a105 h106 =>
  vcond a105 (vdOp Tryd.prog (.iadd (.c a6) (.c (f80 12)) 1) h106 fun a107 =>
  vdOp Tryd.prog (.ld (.c a107) 1 false) h106 fun a108 =>
  vbin .add (f52 9) (f80 12) fun a109 =>
  vdOp Tryd.prog (.iadd (.c a0) (.c a109) 1) h106 fun a110 =>
  vdOp Tryd.prog (.ld (.c a110) 1 false) h106 fun a111 =>
  vdOp Tryd.prog (.iadd (.c (f59 10)) (.c a108) 1) h106 fun a112 =>
  vhOp Tryd.prog (.st (.c a112) (.c a111) 1) h106 fun a113 h114 =>
  vbin .add (f80 12) (.int .i64 1) fun a115 =>
  keq [a0, a1, a4, a6, a38, (f52 9), (f59 10)] [a0, a1, a4, a6, a38, (f52 9), (f59 10)] ∧ ∃ m, m < n79 ∧ I78 m [a115] h114) (
  keq [a0, a1, a4, a6, a38, (f52 9), (f59 10)] [a0, a1, a4, a6, a38, (f52 9), (f59 10)] ∧ J61 [] h106)
def V23_L1 (a56 : D) (h57 : Heap) (a1 : D) (a0 : D) (a4 : D) (a6 : D) (a38 : D) (f52 : Nat → D) (J58 : List D → Heap → Prop) : Prop :=
  ∃ (I116 : Nat → List D → Heap → Prop) (n₀ : Nat), I116 n₀ [a56, (.int .i64 0)] h57 ∧ ∀ (n117 : Nat) (f118 : Nat → D) (h119 : Heap), I116 n117 [f118 10, f118 11] h119 →
  vbin .lss (f118 11) a1 fun a120 =>
  vcond a120 (vhOp Tryd.prog (.bldS true 1 1 (.int .i64 0) [(0, (.c (.int .i64 (-1))))]) h119 fun a121 h122 =>
  vhOp Tryd.prog (.app (.c (f118 10)) (.c a121) 1 8 (.int .i64 0)) h122 fun a123 h124 =>
  vbin .add (f118 11) (.int .i64 1) fun a125 =>
  keq [a0, a1, a4, a6, a38, (f52 9)] [a0, a1, a4, a6, a38, (f52 9)] ∧ ∃ m, m < n117 ∧ I116 m [a123, a125] h124) (
  keq [a0, a1, a4, a6, a38, (f52 9)] [a0, a1, a4, a6, a38, (f52 9)] ∧ J58 [(f118 10)] h119)
def V23_L2 (h41 : Heap) (a0 : D) (a38 : D) (a6 : D) (a1 : D) (a4 : D) (J42 : List D → Heap → Prop) : Prop :=
  ∃ (I50 : Nat → List D → Heap → Prop) (n₀ : Nat), I50 n₀ [(.int .i64 0)] h41 ∧ ∀ (n51 : Nat) (f52 : Nat → D) (h53 : Heap), I50 n51 [f52 9] h53 →
  vlen a0 h53 fun a54 =>
  vbin .lss (f52 9) a54 fun a55 =>
  vcond a55 (vhOp Tryd.prog (.bldS true 1 0 (.int .i64 0) []) h53 fun a56 h57 =>
  ∃ (J58 : List D → Heap → Prop), (∀ (f59 : Nat → D) (h60 : Heap), J58 [f59 10] h60 →
  ∃ (J61 : List D → Heap → Prop), (∀ (f62 : Nat → D) (h63 : Heap), J61 [] h63 →
  vhOp Tryd.prog (.fadd (.c a38) 0) h63 fun a64 h65 =>
  vhOp Tryd.prog (.ld (.c a64) 1 false) h65 fun a66 h67 =>
  vhOp Tryd.prog (.bldS true 1 1 .nil [(0, (.c (f59 10)))]) h67 fun a68 h69 =>
  vhOp Tryd.prog (.app (.c a66) (.c a68) 1 24 .nil) h69 fun a70 h71 =>
  vhOp Tryd.prog (.fadd (.c a38) 0) h71 fun a72 h73 =>
  vhOp Tryd.prog (.st (.c a72) (.c a70) 1) h73 fun a74 h75 =>
  vlen a6 h75 fun a76 =>
  vbin .add (f52 9) a76 fun a77 =>
  keq [a0, a1, a4, a6, a38] [a0, a1, a4, a6, a38] ∧ ∃ m, m < n51 ∧ I50 m [a77] h75) ∧
  V23_L0 h60 a6 f52 a0 f59 a1 a4 a38 J61) ∧
  V23_L1 a56 h57 a1 a0 a4 a6 a38 f52 J58) (
  keq [a4, a38] [a4, a38] ∧ J42 [] h53)
def V23 (a0 : D) (a1 : D) (a2 : D) (h0 : Heap) (K : D → Heap → Prop) : Prop :=
  vhOp Tryd.prog (.alloc (.agg [.nil, (.int .i64 0)])) h0 fun a4 h5 =>
  ACall Tryd.prog 38 [a1, a2] h5 fun a6 h7 =>
  vbin .lss a1 (.int .i64 1) fun a8 =>
  vguard a8 false (fun G9 =>
  G9 a1 h7) h7 fun a10 h11 =>
  vguard a8 false (fun G12 =>
  vbin .gtr a10 (.int .i64 64) fun a15 =>
  G12 a15 h11) h11 fun a13 h14 =>
  vhOp Tryd.prog (.pick (.c a8) (.c (.bool true)) (.c a13)) h14 fun a16 h17 =>
  vguard a16 false (fun G18 =>
  G18 a6 h17) h17 fun a19 h20 =>
  vguard a16 false (fun G21 =>
  vlen a19 h20 fun a24 =>
  G21 a24 h20) h20 fun a22 h23 =>
  vguard a16 false (fun G25 =>
  vbin .eql a22 (.int .i64 0) fun a28 =>
  G25 a28 h23) h23 fun a26 h27 =>
  vhOp Tryd.prog (.pick (.c a16) (.c (.bool true)) (.c a26)) h27 fun a29 h30 =>
  vcond a29 (vhOp Tryd.prog (.bld [.nil, (.int .i64 0)] [(1, 1, (.c (.int .i64 1)))]) h30 fun a31 h32 =>
  vhOp Tryd.prog (.st (.c a4) (.c a31) 2) h32 fun a33 h34 =>
  vhOp Tryd.prog (.ld (.c a4) 2 true) h34 fun a35 _ =>
  K a35 h34) (
  vhOp Tryd.prog (.bld [.nil, (.int .i64 0)] []) h30 fun a36 h37 =>
  vhOp Tryd.prog (.alloc (.agg [.nil, (.int .i64 0)])) h37 fun a38 h39 =>
  vhOp Tryd.prog (.st (.c a38) (.c a36) 2) h39 fun a40 h41 =>
  ∃ (J42 : List D → Heap → Prop), (∀ (f43 : Nat → D) (h44 : Heap), J42 [] h44 →
  vhOp Tryd.prog (.ld (.c a38) 2 true) h44 fun a45 h46 =>
  vhOp Tryd.prog (.st (.c a4) (.c a45) 2) h46 fun a47 h48 =>
  vhOp Tryd.prog (.ld (.c a4) 2 true) h48 fun a49 _ =>
  K a49 h48) ∧
  V23_L2 h41 a0 a38 a6 a1 a4 J42)
theorem V23_ok (a0 : D) (a1 : D) (a2 : D) (h0 : Heap) (K : D → Heap → Prop) : V23 a0 a1 a2 h0 K = vcC Tryd.prog F23.code (fun x e h' => match x with | .exit _ => False | _ => vcRet Tryd.prog F23.res K e h') (params [a0, a1, a2] 0) h0 := by kernel_rfl

/-- warpwright/launch.Zero -/
def loops24 : Nat → Option (List Nat × List Nat)
  | 1000008 => some ([5], []) | 3 => some ([1, 5, 11, 12], [13]) | _ => none
def tbl24 : Nat → Option (List Nat × List Nat × List Nat)
  | _ => none
def F24 : AFunc := ⟨27,
  .seq (.reg [⟨(some 4), .mov (.c .nil), none⟩]) <|
  .seq (.reg [⟨(some 8), .mov (.t 0), none⟩,
    ⟨(some 9), .len (.t 8), none⟩,
    ⟨(some 10), .mk 1 24 .nil (.t 9) (.t 9), none⟩,
    ⟨(some 5), .mov (.t 10), none⟩]) <|
  .seqj [5] [] (.seq (.reg [⟨(some 11), .mov (.t 0), none⟩,
    ⟨(some 12), .len (.t 11), none⟩,
    ⟨(some 13), .mov (.c (.int .i64 0)), none⟩]) <|
  .block 0 (.loop [1, 5, 11, 12] [13] (.seq (.reg [⟨(some 14), .bin .lss (.t 13) (.t 12), none⟩]) <|
  .seq (.cond (.t 14) (.skip) (.exit 0)) <|
  .seq (.block 1 (.seq (.reg [⟨(some 15), .mov (.t 13), none⟩,
    ⟨(some 16), .iadd (.t 11) (.t 13) 4, none⟩,
    ⟨(some 17), .ld (.t 16) 4 true, none⟩,
    ⟨(some 7), .alloc (.agg [(.str ⟨#[]⟩), (.int .i64 0), (.int .i64 0), (.int .i64 0)]), none⟩,
    ⟨(some 6), .mov (.t 15), none⟩,
    ⟨none, .st (.t 7) (.t 17) 4, none⟩]) <|
  .reg [⟨(some 18), .mov (.t 5), none⟩,
    ⟨(some 19), .mov (.t 6), none⟩,
    ⟨(some 20), .ld (.t 7) 4 true, none⟩,
    ⟨(some 21), .mov (.t 1), none⟩,
    ⟨(some 22), .call 39 [(.t 20), (.t 21)], none⟩,
    ⟨(some 23), .mk 1 4 (.int .i32 0) (.t 22) (.t 22), none⟩,
    ⟨(some 24), .iadd (.t 18) (.t 19) 1, none⟩,
    ⟨none, .st (.t 24) (.t 23) 1, none⟩])) <|
  .reg [⟨(some 25), .bin .add (.t 13) (.c (.int .i64 1)), none⟩,
    ⟨(some 13), .mov (.t 25), none⟩]))) <|
  .seq (.reg [⟨(some 26), .mov (.t 5), none⟩,
    ⟨(some 4), .mov (.t 26), none⟩]) <|
  .ret,
  [.t 4]⟩
theorem F24_ok : cFn Tryd.prog true 24 loops24 (cDr Tryd.prog 27 tbl24) = some F24 := by kernel_rfl

def V24_L0 (h5 : Heap) (a9 : D) (a0 : D) (a1 : D) (a4 : D) (J6 : List D → Heap → Prop) : Prop :=
  ∃ (I10 : Nat → List D → Heap → Prop) (n₀ : Nat), I10 n₀ [(.int .i64 0)] h5 ∧ ∀ (n11 : Nat) (f12 : Nat → D) (h13 : Heap), I10 n11 [f12 13] h13 →
  vbin .lss (f12 13) a9 fun a14 =>
  vcond a14 (vhOp Tryd.prog (.iadd (.c a0) (.c (f12 13)) 4) h13 fun a15 h16 =>
  vhOp Tryd.prog (.ld (.c a15) 4 true) h16 fun a17 h18 =>
  vhOp Tryd.prog (.alloc (.agg [(.str ⟨#[]⟩), (.int .i64 0), (.int .i64 0), (.int .i64 0)])) h18 fun a19 h20 =>
  vhOp Tryd.prog (.st (.c a19) (.c a17) 4) h20 fun a21 h22 =>
  vhOp Tryd.prog (.ld (.c a19) 4 true) h22 fun a23 h24 =>
  ACall Tryd.prog 39 [a23, a1] h24 fun a25 h26 =>
  vhOp Tryd.prog (.mk 1 4 (.int .i32 0) (.c a25) (.c a25)) h26 fun a27 h28 =>
  vhOp Tryd.prog (.iadd (.c a4) (.c (f12 13)) 1) h28 fun a29 h30 =>
  vhOp Tryd.prog (.st (.c a29) (.c a27) 1) h30 fun a31 h32 =>
  vbin .add (f12 13) (.int .i64 1) fun a33 =>
  keq [a1, a4, a0, a9] [a1, a4, a0, a9] ∧ ∃ m, m < n11 ∧ I10 m [a33] h32) (
  keq [a4] [a4] ∧ J6 [] h13)
def V24 (a0 : D) (a1 : D) (h0 : Heap) (K : D → Heap → Prop) : Prop :=
  vlen a0 h0 fun a3 =>
  vhOp Tryd.prog (.mk 1 24 .nil (.c a3) (.c a3)) h0 fun a4 h5 =>
  ∃ (J6 : List D → Heap → Prop), (∀ (f7 : Nat → D) (h8 : Heap), J6 [] h8 →
  K a4 h8) ∧
  vlen a0 h5 fun a9 =>
  V24_L0 h5 a9 a0 a1 a4 J6
theorem V24_ok (a0 : D) (a1 : D) (h0 : Heap) (K : D → Heap → Prop) : V24 a0 a1 h0 K = vcC Tryd.prog F24.code (fun x e h' => match x with | .exit _ => False | _ => vcRet Tryd.prog F24.res K e h') (params [a0, a1] 0) h0 := by kernel_rfl

/-- warpwright/warpwrightref04.Same -/
def loops25 : Nat → Option (List Nat × List Nat)
  | 1000009 => some ([], []) | 4 => some ([0, 1], [5]) | _ => none
def tbl25 : Nat → Option (List Nat × List Nat × List Nat)
  | 6 => some ([0, 0, 3, 7, 0, 0, 48, 112, 255, 511], [], []) | _ => none
def F25 : AFunc := ⟨27,
  .seq (.reg [⟨(some 4), .mov (.c (.bool false)), none⟩]) <|
  .seq (.seq (.reg [⟨(some 6), .mov (.t 0), none⟩,
    ⟨(some 7), .len (.t 6), none⟩,
    ⟨(some 8), .mov (.t 1), none⟩,
    ⟨(some 9), .len (.t 8), none⟩,
    ⟨(some 10), .bin .neq (.t 7) (.t 9), none⟩]) <|
  .cond (.t 10) (.seq (.reg [⟨(some 4), .mov (.c (.bool false)), none⟩]) <|
  .ret) (.skip)) <|
  .seqj [] [] (.seq (.reg [⟨(some 5), .mov (.c (.int .i64 0)), none⟩]) <|
  .block 0 (.loop [0, 1] [5] (.seq (.seq (.reg [⟨(some 11), .mov (.t 5), none⟩,
    ⟨(some 12), .mov (.t 0), none⟩,
    ⟨(some 13), .len (.t 12), none⟩,
    ⟨(some 14), .bin .lss (.t 11) (.t 13), none⟩]) <|
  .cond (.t 14) (.skip) (.exit 0)) <|
  .seq (.block 1 (.seq (.dreg [⟨(some 17), .mov (.t 0), none⟩,
    ⟨(some 18), .mov (.t 5), none⟩,
    ⟨(some 19), .iadd (.t 17) (.t 18) 1, none⟩,
    ⟨(some 20), .ld (.t 19) 1 false, none⟩,
    ⟨(some 21), .mov (.t 1), none⟩,
    ⟨(some 22), .mov (.t 5), none⟩,
    ⟨(some 23), .iadd (.t 21) (.t 22) 1, none⟩,
    ⟨(some 24), .ld (.t 23) 1 false, none⟩,
    ⟨(some 25), .call 20 [(.t 20), (.t 24)], none⟩,
    ⟨(some 26), .un .not (.t 25), none⟩] [] []) <|
  .cond (.t 26) (.seq (.reg [⟨(some 4), .mov (.c (.bool false)), none⟩]) <|
  .ret) (.skip))) <|
  .reg [⟨(some 15), .mov (.t 5), none⟩,
    ⟨(some 16), .bin .add (.t 15) (.c (.int .i64 1)), none⟩,
    ⟨(some 5), .mov (.t 16), none⟩]))) <|
  .seq (.reg [⟨(some 4), .mov (.c (.bool true)), none⟩]) <|
  .ret,
  [.t 4]⟩
theorem F25_ok : cFn Tryd.prog true 25 loops25 (cDr Tryd.prog 27 tbl25) = some F25 := by kernel_rfl

def V25_L0 (h0 : Heap) (a0 : D) (a1 : D) (J6 : List D → Heap → Prop) (K : D → Heap → Prop) : Prop :=
  ∃ (I9 : Nat → List D → Heap → Prop) (n₀ : Nat), I9 n₀ [(.int .i64 0)] h0 ∧ ∀ (n10 : Nat) (f11 : Nat → D) (h12 : Heap), I9 n10 [f11 5] h12 →
  vlen a0 h12 fun a13 =>
  vbin .lss (f11 5) a13 fun a14 =>
  vcond a14 (vdOp Tryd.prog (.iadd (.c a0) (.c (f11 5)) 1) h12 fun a15 =>
  vdOp Tryd.prog (.ld (.c a15) 1 false) h12 fun a16 =>
  vdOp Tryd.prog (.iadd (.c a1) (.c (f11 5)) 1) h12 fun a17 =>
  vdOp Tryd.prog (.ld (.c a17) 1 false) h12 fun a18 =>
  vdOp Tryd.prog (.call 20 [(.c a16), (.c a18)]) h12 fun a19 =>
  vun .not a19 fun a20 =>
  vcond a20 (K (.bool false) h12) (
  vbin .add (f11 5) (.int .i64 1) fun a21 =>
  keq [a0, a1] [a0, a1] ∧ ∃ m, m < n10 ∧ I9 m [a21] h12)) (
  keq [] [] ∧ J6 [] h12)
def V25 (a0 : D) (a1 : D) (h0 : Heap) (K : D → Heap → Prop) : Prop :=
  vlen a0 h0 fun a3 =>
  vlen a1 h0 fun a4 =>
  vbin .neq a3 a4 fun a5 =>
  vcond a5 (K (.bool false) h0) (
  ∃ (J6 : List D → Heap → Prop), (∀ (f7 : Nat → D) (h8 : Heap), J6 [] h8 →
  K (.bool true) h8) ∧
  V25_L0 h0 a0 a1 J6 K)
theorem V25_ok (a0 : D) (a1 : D) (h0 : Heap) (K : D → Heap → Prop) : V25 a0 a1 h0 K = vcC Tryd.prog F25.code (fun x e h' => match x with | .exit _ => False | _ => vcRet Tryd.prog F25.res K e h') (params [a0, a1] 0) h0 := by kernel_rfl

/-- warpwright/warpwrightref04.Zero -/
def loops26 : Nat → Option (List Nat × List Nat)
  | 1000007 => some ([], [5]) | 3 => some ([0, 1], [5, 6]) | _ => none
def tbl26 : Nat → Option (List Nat × List Nat × List Nat)
  | _ => none
def F26 : AFunc := ⟨25,
  .seq (.reg [⟨(some 4), .mov (.c .nil), none⟩]) <|
  .seq (.reg [⟨(some 7), .bldS true 1 0 .nil [], none⟩,
    ⟨(some 5), .mov (.t 7), none⟩]) <|
  .seqj [] [5] (.seq (.reg [⟨(some 6), .mov (.c (.int .i64 0)), none⟩]) <|
  .block 0 (.loop [0, 1] [5, 6] (.seq (.seq (.reg [⟨(some 8), .mov (.t 6), none⟩,
    ⟨(some 9), .mov (.t 0), none⟩,
    ⟨(some 10), .len (.t 9), none⟩,
    ⟨(some 11), .bin .lss (.t 8) (.t 10), none⟩]) <|
  .cond (.t 11) (.skip) (.exit 0)) <|
  .seq (.block 1 (.reg [⟨(some 14), .mov (.t 5), none⟩,
    ⟨(some 15), .mov (.t 0), none⟩,
    ⟨(some 16), .mov (.t 6), none⟩,
    ⟨(some 17), .iadd (.t 15) (.t 16) 4, none⟩,
    ⟨(some 18), .ld (.t 17) 4 true, none⟩,
    ⟨(some 19), .mov (.t 1), none⟩,
    ⟨(some 20), .call 40 [(.t 18), (.t 19)], none⟩,
    ⟨(some 21), .mk 1 4 (.int .i32 0) (.t 20) (.t 20), none⟩,
    ⟨(some 22), .bldS true 1 1 .nil [(0, (.t 21))], none⟩,
    ⟨(some 23), .app (.t 14) (.t 22) 1 24 .nil, none⟩,
    ⟨(some 5), .mov (.t 23), none⟩])) <|
  .reg [⟨(some 12), .mov (.t 6), none⟩,
    ⟨(some 13), .bin .add (.t 12) (.c (.int .i64 1)), none⟩,
    ⟨(some 6), .mov (.t 13), none⟩]))) <|
  .seq (.reg [⟨(some 24), .mov (.t 5), none⟩,
    ⟨(some 4), .mov (.t 24), none⟩]) <|
  .ret,
  [.t 4]⟩
theorem F26_ok : cFn Tryd.prog true 26 loops26 (cDr Tryd.prog 25 tbl26) = some F26 := by kernel_rfl

def V26_L0 (a3 : D) (h4 : Heap) (a0 : D) (a1 : D) (J5 : List D → Heap → Prop) : Prop :=
  ∃ (I8 : Nat → List D → Heap → Prop) (n₀ : Nat), I8 n₀ [a3, (.int .i64 0)] h4 ∧ ∀ (n9 : Nat) (f10 : Nat → D) (h11 : Heap), I8 n9 [f10 5, f10 6] h11 →
  vlen a0 h11 fun a12 =>
  vbin .lss (f10 6) a12 fun a13 =>
  vcond a13 (vhOp Tryd.prog (.iadd (.c a0) (.c (f10 6)) 4) h11 fun a14 h15 =>
  vhOp Tryd.prog (.ld (.c a14) 4 true) h15 fun a16 h17 =>
  ACall Tryd.prog 40 [a16, a1] h17 fun a18 h19 =>
  vhOp Tryd.prog (.mk 1 4 (.int .i32 0) (.c a18) (.c a18)) h19 fun a20 h21 =>
  vhOp Tryd.prog (.bldS true 1 1 .nil [(0, (.c a20))]) h21 fun a22 h23 =>
  vhOp Tryd.prog (.app (.c (f10 5)) (.c a22) 1 24 .nil) h23 fun a24 h25 =>
  vbin .add (f10 6) (.int .i64 1) fun a26 =>
  keq [a0, a1] [a0, a1] ∧ ∃ m, m < n9 ∧ I8 m [a24, a26] h25) (
  keq [] [] ∧ J5 [(f10 5)] h11)
def V26 (a0 : D) (a1 : D) (h0 : Heap) (K : D → Heap → Prop) : Prop :=
  vhOp Tryd.prog (.bldS true 1 0 .nil []) h0 fun a3 h4 =>
  ∃ (J5 : List D → Heap → Prop), (∀ (f6 : Nat → D) (h7 : Heap), J5 [f6 5] h7 →
  K (f6 5) h7) ∧
  V26_L0 a3 h4 a0 a1 J5
theorem V26_ok (a0 : D) (a1 : D) (h0 : Heap) (K : D → Heap → Prop) : V26 a0 a1 h0 K = vcC Tryd.prog F26.code (fun x e h' => match x with | .exit _ => False | _ => vcRet Tryd.prog F26.res K e h') (params [a0, a1] 0) h0 := by kernel_rfl

/-- warpwright/launch.Fits -/
def loops27 : Nat → Option (List Nat × List Nat)
  | _ => none
def tbl27 : Nat → Option (List Nat × List Nat × List Nat)
  | _ => none
def F27 : AFunc := ⟨11,
  .seq (.reg [⟨(some 4), .box (.t 1), none⟩,
    ⟨(some 6), .mov (.c (.bool false)), none⟩]) <|
  .seq (.reg [⟨(some 7), .mov (.t 0), none⟩,
    ⟨(some 8), .mov (.t 2), none⟩,
    ⟨(some 9), .mkf 42 [] [(.t 4)], none⟩,
    ⟨(some 10), .call 41 [(.t 7), (.t 8), (.t 9)], none⟩,
    ⟨(some 6), .mov (.t 10), none⟩]) <|
  .ret,
  [.t 6]⟩
theorem F27_ok : cFn Tryd.prog true 27 loops27 (cDr Tryd.prog 11 tbl27) = some F27 := by kernel_rfl


def V27 (a0 : D) (a1 : D) (a2 : D) (h0 : Heap) (K : D → Heap → Prop) : Prop :=
  vhOp Tryd.prog (.box (.c a1)) h0 fun a4 h5 =>
  vhOp Tryd.prog (.mkf 42 [] [(.c a4)]) h5 fun a6 h7 =>
  ACall Tryd.prog 41 [a0, a2, a6] h7 fun a8 h9 =>
  K a8 h9
theorem V27_ok (a0 : D) (a1 : D) (a2 : D) (h0 : Heap) (K : D → Heap → Prop) : V27 a0 a1 a2 h0 K = vcC Tryd.prog F27.code (fun x e h' => match x with | .exit _ => False | _ => vcRet Tryd.prog F27.res K e h') (params [a0, a1, a2] 0) h0 := by kernel_rfl

/-- warpwright/warpwrightref04.Fits -/
def loops28 : Nat → Option (List Nat × List Nat)
  | 1000009 => some ([], []) | 4 => some ([0, 1, 2], [7]) | _ => none
def tbl28 : Nat → Option (List Nat × List Nat × List Nat)
  | 6 => some ([0, 0, 3, 7, 15, 0, 0, 96, 224, 0, 992, 2047], [], []) | _ => none
def F28 : AFunc := ⟨31,
  .seq (.reg [⟨(some 6), .mov (.c (.bool false)), none⟩]) <|
  .seq (.seq (.reg [⟨(some 8), .mov (.t 2), none⟩,
    ⟨(some 9), .len (.t 8), none⟩,
    ⟨(some 10), .mov (.t 0), none⟩,
    ⟨(some 11), .len (.t 10), none⟩,
    ⟨(some 12), .bin .neq (.t 9) (.t 11), none⟩]) <|
  .cond (.t 12) (.seq (.reg [⟨(some 6), .mov (.c (.bool false)), none⟩]) <|
  .ret) (.skip)) <|
  .seqj [] [] (.seq (.reg [⟨(some 7), .mov (.c (.int .i64 0)), none⟩]) <|
  .block 0 (.loop [0, 1, 2] [7] (.seq (.seq (.reg [⟨(some 13), .mov (.t 7), none⟩,
    ⟨(some 14), .mov (.t 0), none⟩,
    ⟨(some 15), .len (.t 14), none⟩,
    ⟨(some 16), .bin .lss (.t 13) (.t 15), none⟩]) <|
  .cond (.t 16) (.skip) (.exit 0)) <|
  .seq (.block 1 (.seq (.dreg [⟨(some 19), .mov (.t 2), none⟩,
    ⟨(some 20), .mov (.t 7), none⟩,
    ⟨(some 21), .iadd (.t 19) (.t 20) 1, none⟩,
    ⟨(some 22), .ld (.t 21) 1 false, none⟩,
    ⟨(some 23), .len (.t 22), none⟩,
    ⟨(some 24), .mov (.t 0), none⟩,
    ⟨(some 25), .mov (.t 7), none⟩,
    ⟨(some 26), .iadd (.t 24) (.t 25) 4, none⟩,
    ⟨(some 27), .ld (.t 26) 4 true, none⟩,
    ⟨(some 28), .mov (.t 1), none⟩,
    ⟨(some 29), .call 40 [(.t 27), (.t 28)], none⟩,
    ⟨(some 30), .bin .neq (.t 23) (.t 29), none⟩] [] []) <|
  .cond (.t 30) (.seq (.reg [⟨(some 6), .mov (.c (.bool false)), none⟩]) <|
  .ret) (.skip))) <|
  .reg [⟨(some 17), .mov (.t 7), none⟩,
    ⟨(some 18), .bin .add (.t 17) (.c (.int .i64 1)), none⟩,
    ⟨(some 7), .mov (.t 18), none⟩]))) <|
  .seq (.reg [⟨(some 6), .mov (.c (.bool true)), none⟩]) <|
  .ret,
  [.t 6]⟩
theorem F28_ok : cFn Tryd.prog true 28 loops28 (cDr Tryd.prog 31 tbl28) = some F28 := by kernel_rfl

def V28_L0 (h0 : Heap) (a0 : D) (a2 : D) (a1 : D) (J7 : List D → Heap → Prop) (K : D → Heap → Prop) : Prop :=
  ∃ (I10 : Nat → List D → Heap → Prop) (n₀ : Nat), I10 n₀ [(.int .i64 0)] h0 ∧ ∀ (n11 : Nat) (f12 : Nat → D) (h13 : Heap), I10 n11 [f12 7] h13 →
  vlen a0 h13 fun a14 =>
  vbin .lss (f12 7) a14 fun a15 =>
  vcond a15 (vdOp Tryd.prog (.iadd (.c a2) (.c (f12 7)) 1) h13 fun a16 =>
  vdOp Tryd.prog (.ld (.c a16) 1 false) h13 fun a17 =>
  vlen a17 h13 fun a18 =>
  vdOp Tryd.prog (.iadd (.c a0) (.c (f12 7)) 4) h13 fun a19 =>
  vdOp Tryd.prog (.ld (.c a19) 4 true) h13 fun a20 =>
  vdOp Tryd.prog (.call 40 [(.c a20), (.c a1)]) h13 fun a21 =>
  vbin .neq a18 a21 fun a22 =>
  vcond a22 (K (.bool false) h13) (
  vbin .add (f12 7) (.int .i64 1) fun a23 =>
  keq [a0, a1, a2] [a0, a1, a2] ∧ ∃ m, m < n11 ∧ I10 m [a23] h13)) (
  keq [] [] ∧ J7 [] h13)
def V28 (a0 : D) (a1 : D) (a2 : D) (h0 : Heap) (K : D → Heap → Prop) : Prop :=
  vlen a2 h0 fun a4 =>
  vlen a0 h0 fun a5 =>
  vbin .neq a4 a5 fun a6 =>
  vcond a6 (K (.bool false) h0) (
  ∃ (J7 : List D → Heap → Prop), (∀ (f8 : Nat → D) (h9 : Heap), J7 [] h9 →
  K (.bool true) h9) ∧
  V28_L0 h0 a0 a2 a1 J7 K)
theorem V28_ok (a0 : D) (a1 : D) (a2 : D) (h0 : Heap) (K : D → Heap → Prop) : V28 a0 a1 a2 h0 K = vcC Tryd.prog F28.code (fun x e h' => match x with | .exit _ => False | _ => vcRet Tryd.prog F28.res K e h') (params [a0, a1, a2] 0) h0 := by kernel_rfl

/-- warpwright/warpwrightref04.Copy -/
def loops29 : Nat → Option (List Nat × List Nat)
  | 1000007 => some ([], [3]) | 3 => some ([0], [3, 4]) | _ => none
def tbl29 : Nat → Option (List Nat × List Nat × List Nat)
  | _ => none
def F29 : AFunc := ⟨22,
  .seq (.reg [⟨(some 2), .mov (.c .nil), none⟩]) <|
  .seq (.reg [⟨(some 5), .bldS true 1 0 .nil [], none⟩,
    ⟨(some 3), .mov (.t 5), none⟩]) <|
  .seqj [] [3] (.seq (.reg [⟨(some 4), .mov (.c (.int .i64 0)), none⟩]) <|
  .block 0 (.loop [0] [3, 4] (.seq (.seq (.reg [⟨(some 6), .mov (.t 4), none⟩,
    ⟨(some 7), .mov (.t 0), none⟩,
    ⟨(some 8), .len (.t 7), none⟩,
    ⟨(some 9), .bin .lss (.t 6) (.t 8), none⟩]) <|
  .cond (.t 9) (.skip) (.exit 0)) <|
  .seq (.block 1 (.reg [⟨(some 12), .mov (.t 3), none⟩,
    ⟨(some 13), .bldS true 1 0 (.int .i32 0) [], none⟩,
    ⟨(some 14), .mov (.t 0), none⟩,
    ⟨(some 15), .mov (.t 4), none⟩,
    ⟨(some 16), .iadd (.t 14) (.t 15) 1, none⟩,
    ⟨(some 17), .ld (.t 16) 1 false, none⟩,
    ⟨(some 18), .app (.t 13) (.t 17) 1 4 (.int .i32 0), none⟩,
    ⟨(some 19), .bldS true 1 1 .nil [(0, (.t 18))], none⟩,
    ⟨(some 20), .app (.t 12) (.t 19) 1 24 .nil, none⟩,
    ⟨(some 3), .mov (.t 20), none⟩])) <|
  .reg [⟨(some 10), .mov (.t 4), none⟩,
    ⟨(some 11), .bin .add (.t 10) (.c (.int .i64 1)), none⟩,
    ⟨(some 4), .mov (.t 11), none⟩]))) <|
  .seq (.reg [⟨(some 21), .mov (.t 3), none⟩,
    ⟨(some 2), .mov (.t 21), none⟩]) <|
  .ret,
  [.t 2]⟩
theorem F29_ok : cFn Tryd.prog true 29 loops29 (cDr Tryd.prog 22 tbl29) = some F29 := by kernel_rfl

def V29_L0 (a2 : D) (h3 : Heap) (a0 : D) (J4 : List D → Heap → Prop) : Prop :=
  ∃ (I7 : Nat → List D → Heap → Prop) (n₀ : Nat), I7 n₀ [a2, (.int .i64 0)] h3 ∧ ∀ (n8 : Nat) (f9 : Nat → D) (h10 : Heap), I7 n8 [f9 3, f9 4] h10 →
  vlen a0 h10 fun a11 =>
  vbin .lss (f9 4) a11 fun a12 =>
  vcond a12 (vhOp Tryd.prog (.bldS true 1 0 (.int .i32 0) []) h10 fun a13 h14 =>
  vhOp Tryd.prog (.iadd (.c a0) (.c (f9 4)) 1) h14 fun a15 h16 =>
  vhOp Tryd.prog (.ld (.c a15) 1 false) h16 fun a17 h18 =>
  vhOp Tryd.prog (.app (.c a13) (.c a17) 1 4 (.int .i32 0)) h18 fun a19 h20 =>
  vhOp Tryd.prog (.bldS true 1 1 .nil [(0, (.c a19))]) h20 fun a21 h22 =>
  vhOp Tryd.prog (.app (.c (f9 3)) (.c a21) 1 24 .nil) h22 fun a23 h24 =>
  vbin .add (f9 4) (.int .i64 1) fun a25 =>
  keq [a0] [a0] ∧ ∃ m, m < n8 ∧ I7 m [a23, a25] h24) (
  keq [] [] ∧ J4 [(f9 3)] h10)
def V29 (a0 : D) (h0 : Heap) (K : D → Heap → Prop) : Prop :=
  vhOp Tryd.prog (.bldS true 1 0 .nil []) h0 fun a2 h3 =>
  ∃ (J4 : List D → Heap → Prop), (∀ (f5 : Nat → D) (h6 : Heap), J4 [f5 3] h6 →
  K (f5 3) h6) ∧
  V29_L0 a2 h3 a0 J4
theorem V29_ok (a0 : D) (h0 : Heap) (K : D → Heap → Prop) : V29 a0 h0 K = vcC Tryd.prog F29.code (fun x e h' => match x with | .exit _ => False | _ => vcRet Tryd.prog F29.res K e h') (params [a0] 0) h0 := by kernel_rfl

/-- warpwright/warpwrightlaw04.is -/
def loops30 : Nat → Option (List Nat × List Nat)
  | _ => none
def tbl30 : Nat → Option (List Nat × List Nat × List Nat)
  | _ => none
def F30 : AFunc := ⟨14,
  .seq (.reg [⟨(some 2), .box (.t 0), none⟩,
    ⟨(some 4), .mov (.c (.bool false)), none⟩]) <|
  .seq (.reg [⟨(some 5), .fadd (.t 2) 1, none⟩,
    ⟨(some 6), .ld (.t 5) 1 false, none⟩,
    ⟨(some 7), .bin .eql (.t 6) (.c (.int .i64 0)), none⟩,
    ⟨(some 8), .mov (.t 7), none⟩,
    ⟨(some 9), .fadd (.t 2) 0, some (8, true)⟩,
    ⟨(some 10), .ld (.t 9) 1 false, some (8, true)⟩,
    ⟨(some 11), .mov (.t 1), some (8, true)⟩,
    ⟨(some 12), .call 20 [(.t 10), (.t 11)], some (8, true)⟩,
    ⟨(some 13), .pick (.t 8) (.t 12) (.c (.bool false)), none⟩,
    ⟨(some 4), .mov (.t 13), none⟩]) <|
  .ret,
  [.t 4]⟩
theorem F30_ok : cFn Tryd.prog true 30 loops30 (cDr Tryd.prog 14 tbl30) = some F30 := by kernel_rfl


def V30 (a0 : D) (a1 : D) (h0 : Heap) (K : D → Heap → Prop) : Prop :=
  vhOp Tryd.prog (.box (.c a0)) h0 fun a3 h4 =>
  vhOp Tryd.prog (.fadd (.c a3) 1) h4 fun a5 h6 =>
  vhOp Tryd.prog (.ld (.c a5) 1 false) h6 fun a7 h8 =>
  vbin .eql a7 (.int .i64 0) fun a9 =>
  vguard a9 true (fun G10 =>
  vhOp Tryd.prog (.fadd (.c a3) 0) h8 fun a13 h14 =>
  G10 a13 h14) h8 fun a11 h12 =>
  vguard a9 true (fun G15 =>
  vhOp Tryd.prog (.ld (.c a11) 1 false) h12 fun a18 h19 =>
  G15 a18 h19) h12 fun a16 h17 =>
  vguard a9 true (fun G20 =>
  G20 a1 h17) h17 fun a21 h22 =>
  vguard a9 true (fun G23 =>
  ACall Tryd.prog 20 [a16, a21] h22 fun a26 h27 =>
  G23 a26 h27) h22 fun a24 h25 =>
  vhOp Tryd.prog (.pick (.c a9) (.c a24) (.c (.bool false))) h25 fun a28 h29 =>
  K a28 h29
theorem V30_ok (a0 : D) (a1 : D) (h0 : Heap) (K : D → Heap → Prop) : V30 a0 a1 h0 K = vcC Tryd.prog F30.code (fun x e h' => match x with | .exit _ => False | _ => vcRet Tryd.prog F30.res K e h') (params [a0, a1] 0) h0 := by kernel_rfl

/-- math/bits.OnesCount -/
def loops31 : Nat → Option (List Nat × List Nat)
  | _ => none
def tbl31 : Nat → Option (List Nat × List Nat × List Nat)
  | _ => none
def F31 : AFunc := ⟨8,
  .seq (.reg [⟨(some 2), .mov (.c (.int .i64 0)), none⟩]) <|
  .seq (.cond (.c (.bool false)) (.seq (.reg [⟨(some 3), .mov (.t 0), none⟩,
    ⟨(some 4), .conv .u32 (.t 3), none⟩,
    ⟨(some 5), .call 43 [(.t 4)], none⟩,
    ⟨(some 2), .mov (.t 5), none⟩]) <|
  .ret) (.skip)) <|
  .seq (.reg [⟨(some 6), .mov (.t 0), none⟩,
    ⟨(some 7), .call 44 [(.t 6)], none⟩,
    ⟨(some 2), .mov (.t 7), none⟩]) <|
  .ret,
  [.t 2]⟩
theorem F31_ok : cFn Tryd.prog true 31 loops31 (cDr Tryd.prog 8 tbl31) = some F31 := by kernel_rfl


def V31 (a0 : D) (h0 : Heap) (K : D → Heap → Prop) : Prop :=
  vcond (.bool false) (vhOp Tryd.prog (.conv .u32 (.c a0)) h0 fun a2 h3 =>
  ACall Tryd.prog 43 [a2] h3 fun a4 h5 =>
  K a4 h5) (
  ACall Tryd.prog 44 [a0] h0 fun a6 h7 =>
  K a6 h7)
theorem V31_ok (a0 : D) (h0 : Heap) (K : D → Heap → Prop) : V31 a0 h0 K = vcC Tryd.prog F31.code (fun x e h' => match x with | .exit _ => False | _ => vcRet Tryd.prog F31.res K e h') (params [a0] 0) h0 := by kernel_rfl

/-- warpwright/launch.Id -/
def loops32 : Nat → Option (List Nat × List Nat)
  | 1000023 => some ([], [13]) | _ => none
def tbl32 : Nat → Option (List Nat × List Nat × List Nat)
  | _ => none
def F32 : AFunc := ⟨63,
  .seq (.reg [⟨(some 4), .box (.t 0), none⟩,
    ⟨(some 5), .box (.t 1), none⟩,
    ⟨(some 8), .mov (.c (.int .i32 0)), none⟩,
    ⟨(some 9), .mov (.c (.int .i64 0)), none⟩]) <|
  .seq (.reg [⟨(some 14), .fadd (.t 5) 0, none⟩,
    ⟨(some 15), .ld (.t 14) 1 false, none⟩,
    ⟨(some 16), .fadd (.t 4) 0, none⟩,
    ⟨(some 17), .ld (.t 16) 1 false, none⟩,
    ⟨(some 18), .bin .mul (.t 15) (.t 17), none⟩,
    ⟨(some 10), .mov (.t 18), none⟩]) <|
  .seq (.seq (.reg [⟨(some 19), .mov (.t 2), none⟩,
    ⟨(some 20), .bin .lss (.t 19) (.c (.int .i64 0)), none⟩,
    ⟨(some 21), .mov (.t 20), none⟩,
    ⟨(some 22), .mov (.t 2), some (21, false)⟩,
    ⟨(some 23), .mov (.t 10), some (21, false)⟩,
    ⟨(some 24), .bin .geq (.t 22) (.t 23), some (21, false)⟩,
    ⟨(some 25), .pick (.t 21) (.c (.bool true)) (.t 24), none⟩]) <|
  .cond (.t 25) (.seq (.reg [⟨(some 8), .mov (.c (.int .i32 0)), none⟩,
    ⟨(some 9), .mov (.c (.int .i64 1)), none⟩]) <|
  .ret) (.skip)) <|
  .seq (.reg [⟨(some 27), .ld (.t 4) 8 true, none⟩,
    ⟨(some 28), .mov (.t 2), none⟩,
    ⟨(some 29), .call 16 [(.t 27), (.t 28)], none⟩,
    ⟨(some 26), .mov (.t 29), none⟩,
    ⟨(some 30), .ext (.t 26) 0, none⟩,
    ⟨(some 31), .ext (.t 26) 1, none⟩,
    ⟨(some 11), .mov (.t 30), none⟩,
    ⟨(some 12), .mov (.t 31), none⟩]) <|
  .seq (.reg [⟨(some 13), .mov (.c (.int .i64 0)), none⟩]) <|
  .seqj [] [13] (.seq (.reg [⟨(some 32), .mov (.t 3), none⟩]) <|
  .block 0 (.seq (.reg [⟨(some 34), .bin .eql (.t 32) (.c (.int .i64 1)), none⟩,
    ⟨(some 33), .mov (.t 34), none⟩]) <|
  .cond (.t 33) (.reg [⟨(some 35), .mov (.t 2), none⟩,
    ⟨(some 13), .mov (.t 35), none⟩]) (.seq (.reg [⟨(some 37), .bin .eql (.t 32) (.c (.int .i64 2)), none⟩,
    ⟨(some 36), .mov (.t 37), none⟩]) <|
  .cond (.t 36) (.reg [⟨(some 38), .mov (.t 12), none⟩,
    ⟨(some 13), .mov (.t 38), none⟩]) (.seq (.reg [⟨(some 40), .bin .eql (.t 32) (.c (.int .i64 3)), none⟩,
    ⟨(some 39), .mov (.t 40), none⟩]) <|
  .cond (.t 39) (.reg [⟨(some 41), .mov (.t 11), none⟩,
    ⟨(some 13), .mov (.t 41), none⟩]) (.seq (.reg [⟨(some 43), .bin .eql (.t 32) (.c (.int .i64 4)), none⟩,
    ⟨(some 42), .mov (.t 43), none⟩]) <|
  .cond (.t 42) (.reg [⟨(some 44), .mov (.t 10), none⟩,
    ⟨(some 13), .mov (.t 44), none⟩]) (.seq (.reg [⟨(some 46), .bin .eql (.t 32) (.c (.int .i64 5)), none⟩,
    ⟨(some 45), .mov (.t 46), none⟩]) <|
  .cond (.t 45) (.reg [⟨(some 47), .fadd (.t 4) 0, none⟩,
    ⟨(some 48), .ld (.t 47) 1 false, none⟩,
    ⟨(some 13), .mov (.t 48), none⟩]) (.seq (.reg [⟨(some 50), .bin .eql (.t 32) (.c (.int .i64 6)), none⟩,
    ⟨(some 49), .mov (.t 50), none⟩]) <|
  .cond (.t 49) (.reg [⟨(some 51), .mov (.t 12), none⟩,
    ⟨(some 52), .fadd (.t 4) 1, none⟩,
    ⟨(some 53), .ld (.t 52) 1 false, none⟩,
    ⟨(some 54), .bin .rem (.t 51) (.t 53), none⟩,
    ⟨(some 13), .mov (.t 54), none⟩]) (.seq (.reg [⟨(some 56), .bin .eql (.t 32) (.c (.int .i64 7)), none⟩,
    ⟨(some 55), .mov (.t 56), none⟩]) <|
  .cond (.t 55) (.reg [⟨(some 57), .mov (.t 12), none⟩,
    ⟨(some 58), .fadd (.t 4) 1, none⟩,
    ⟨(some 59), .ld (.t 58) 1 false, none⟩,
    ⟨(some 60), .bin .quo (.t 57) (.t 59), none⟩,
    ⟨(some 13), .mov (.t 60), none⟩]) (.seq (.reg [⟨(some 8), .mov (.c (.int .i32 0)), none⟩,
    ⟨(some 9), .mov (.c (.int .i64 1)), none⟩]) <|
  .ret))))))))) <|
  .seq (.reg [⟨(some 61), .mov (.t 13), none⟩,
    ⟨(some 62), .conv .i32 (.t 61), none⟩,
    ⟨(some 8), .mov (.t 62), none⟩,
    ⟨(some 9), .mov (.c (.int .i64 0)), none⟩]) <|
  .ret,
  [.t 8, .t 9]⟩
theorem F32_ok : cFn Tryd.prog true 32 loops32 (cDr Tryd.prog 63 tbl32) = some F32 := by kernel_rfl


def V32 (a0 : D) (a1 : D) (a2 : D) (a3 : D) (h0 : Heap) (K : D → Heap → Prop) : Prop :=
  vhOp Tryd.prog (.box (.c a0)) h0 fun a5 h6 =>
  vhOp Tryd.prog (.box (.c a1)) h6 fun a7 h8 =>
  vhOp Tryd.prog (.fadd (.c a7) 0) h8 fun a9 h10 =>
  vhOp Tryd.prog (.ld (.c a9) 1 false) h10 fun a11 h12 =>
  vhOp Tryd.prog (.fadd (.c a5) 0) h12 fun a13 h14 =>
  vhOp Tryd.prog (.ld (.c a13) 1 false) h14 fun a15 h16 =>
  vbin .mul a11 a15 fun a17 =>
  vbin .lss a2 (.int .i64 0) fun a18 =>
  vguard a18 false (fun G19 =>
  G19 a2 h16) h16 fun a20 h21 =>
  vguard a18 false (fun G22 =>
  G22 a17 h21) h21 fun a23 h24 =>
  vguard a18 false (fun G25 =>
  vbin .geq a20 a23 fun a28 =>
  G25 a28 h24) h24 fun a26 h27 =>
  vhOp Tryd.prog (.pick (.c a18) (.c (.bool true)) (.c a26)) h27 fun a29 h30 =>
  vcond a29 (K (.tup [(.int .i32 0), (.int .i64 1)]) h30) (
  vhOp Tryd.prog (.ld (.c a5) 8 true) h30 fun a31 h32 =>
  ACall Tryd.prog 16 [a31, a2] h32 fun a33 h34 =>
  vhOp Tryd.prog (.ext (.c a33) 0) h34 fun a35 h36 =>
  vhOp Tryd.prog (.ext (.c a33) 1) h36 fun a37 h38 =>
  ∃ (J39 : List D → Heap → Prop), (∀ (f40 : Nat → D) (h41 : Heap), J39 [f40 13] h41 →
  vhOp Tryd.prog (.conv .i32 (.c (f40 13))) h41 fun a42 h43 =>
  K (.tup [a42, (.int .i64 0)]) h43) ∧
  vbin .eql a3 (.int .i64 1) fun a44 =>
  vcond a44 (keq [] [] ∧ J39 [a2] h38) (
  vbin .eql a3 (.int .i64 2) fun a45 =>
  vcond a45 (keq [] [] ∧ J39 [a37] h38) (
  vbin .eql a3 (.int .i64 3) fun a46 =>
  vcond a46 (keq [] [] ∧ J39 [a35] h38) (
  vbin .eql a3 (.int .i64 4) fun a47 =>
  vcond a47 (keq [] [] ∧ J39 [a17] h38) (
  vbin .eql a3 (.int .i64 5) fun a48 =>
  vcond a48 (vhOp Tryd.prog (.fadd (.c a5) 0) h38 fun a49 h50 =>
  vhOp Tryd.prog (.ld (.c a49) 1 false) h50 fun a51 h52 =>
  keq [] [] ∧ J39 [a51] h52) (
  vbin .eql a3 (.int .i64 6) fun a53 =>
  vcond a53 (vhOp Tryd.prog (.fadd (.c a5) 1) h38 fun a54 h55 =>
  vhOp Tryd.prog (.ld (.c a54) 1 false) h55 fun a56 h57 =>
  vbin .rem a37 a56 fun a58 =>
  keq [] [] ∧ J39 [a58] h57) (
  vbin .eql a3 (.int .i64 7) fun a59 =>
  vcond a59 (vhOp Tryd.prog (.fadd (.c a5) 1) h38 fun a60 h61 =>
  vhOp Tryd.prog (.ld (.c a60) 1 false) h61 fun a62 h63 =>
  vbin .quo a37 a62 fun a64 =>
  keq [] [] ∧ J39 [a64] h63) (
  K (.tup [(.int .i32 0), (.int .i64 1)]) h38))))))))
theorem V32_ok (a0 : D) (a1 : D) (a2 : D) (a3 : D) (h0 : Heap) (K : D → Heap → Prop) : V32 a0 a1 a2 a3 h0 K = vcC Tryd.prog F32.code (fun x e h' => match x with | .exit _ => False | _ => vcRet Tryd.prog F32.res K e h') (params [a0, a1, a2, a3] 0) h0 := by kernel_rfl

/-- warpwright/warpwrightref04.Of -/
def loops33 : Nat → Option (List Nat × List Nat)
  | _ => none
def tbl33 : Nat → Option (List Nat × List Nat × List Nat)
  | 1 => some ([0, 0, 2, 7, 0, 0, 32, 112, 15, 511], [], []) | _ => none
def F33 : AFunc := ⟨14,
  .seq (.reg [⟨(some 2), .box (.t 0), none⟩,
    ⟨(some 4), .mov (.c (.int .i64 0)), none⟩,
    ⟨(some 5), .mov (.c (.int .i64 0)), none⟩]) <|
  .seq (.dreg [⟨(some 6), .mov (.t 1), none⟩,
    ⟨(some 7), .fadd (.t 2) 0, none⟩,
    ⟨(some 8), .ld (.t 7) 1 false, none⟩,
    ⟨(some 9), .bin .quo (.t 6) (.t 8), none⟩,
    ⟨(some 10), .mov (.t 1), none⟩,
    ⟨(some 11), .fadd (.t 2) 0, none⟩,
    ⟨(some 12), .ld (.t 11) 1 false, none⟩,
    ⟨(some 13), .bin .rem (.t 10) (.t 12), none⟩,
    ⟨(some 4), .mov (.t 9), none⟩,
    ⟨(some 5), .mov (.t 13), none⟩] [] []) <|
  .ret,
  [.t 4, .t 5]⟩
theorem F33_ok : cFn Tryd.prog true 33 loops33 (cDr Tryd.prog 14 tbl33) = some F33 := by kernel_rfl


def V33 (a0 : D) (a1 : D) (h0 : Heap) (K : D → Heap → Prop) : Prop :=
  vhOp Tryd.prog (.box (.c a0)) h0 fun a3 h4 =>
  vdOp Tryd.prog (.fadd (.c a3) 0) h4 fun a5 =>
  vdOp Tryd.prog (.ld (.c a5) 1 false) h4 fun a6 =>
  vbin .quo a1 a6 fun a7 =>
  vdOp Tryd.prog (.fadd (.c a3) 0) h4 fun a8 =>
  vdOp Tryd.prog (.ld (.c a8) 1 false) h4 fun a9 =>
  vbin .rem a1 a9 fun a10 =>
  K (.tup [a7, a10]) h4
theorem V33_ok (a0 : D) (a1 : D) (h0 : Heap) (K : D → Heap → Prop) : V33 a0 a1 h0 K = vcC Tryd.prog F33.code (fun x e h' => match x with | .exit _ => False | _ => vcRet Tryd.prog F33.res K e h') (params [a0, a1] 0) h0 := by kernel_rfl

/-- warpwright/launch.Collect -/
def loops34 : Nat → Option (List Nat × List Nat)
  | 1000006 => some ([0, 2, 4, 8], [48]) | 1000030 => some ([], [9]) | 19 => some ([0, 2, 4, 8, 52], [9, 10, 53]) | 1000029 => some ([0, 2, 4, 8, 52, 53], [9, 10]) | 1000028 => some ([0, 2, 4, 8, 9, 10, 52, 53], [12]) | _ => none
def tbl34 : Nat → Option (List Nat × List Nat × List Nat)
  | _ => none
def F34 : AFunc := ⟨89,
  .seq (.reg [⟨(some 4), .box (.t 1), none⟩,
    ⟨(some 6), .mov (.c .nil), none⟩,
    ⟨(some 7), .mov (.c (.int .i64 0)), none⟩]) <|
  .seq (.reg [⟨(some 13), .ld (.t 4) 1 false, none⟩,
    ⟨(some 14), .len (.t 13), none⟩,
    ⟨(some 8), .mov (.t 14), none⟩]) <|
  .seq (.seq (.reg [⟨(some 15), .mov (.t 8), none⟩,
    ⟨(some 16), .mov (.t 2), none⟩,
    ⟨(some 17), .len (.t 16), none⟩,
    ⟨(some 18), .bin .neq (.t 15) (.t 17), none⟩,
    ⟨(some 19), .mov (.t 18), none⟩,
    ⟨(some 20), .mov (.t 8), some (19, false)⟩,
    ⟨(some 21), .bin .lss (.t 20) (.c (.int .i64 1)), some (19, false)⟩,
    ⟨(some 22), .pick (.t 19) (.c (.bool true)) (.t 21), none⟩,
    ⟨(some 23), .mov (.t 22), none⟩,
    ⟨(some 24), .mov (.t 8), some (23, false)⟩,
    ⟨(some 25), .bin .gtr (.t 24) (.c (.int .i64 32)), some (23, false)⟩,
    ⟨(some 26), .pick (.t 23) (.c (.bool true)) (.t 25), none⟩]) <|
  .cond (.t 26) (.seq (.reg [⟨(some 6), .mov (.c .nil), none⟩,
    ⟨(some 7), .mov (.c (.int .i64 1)), none⟩]) <|
  .ret) (.skip)) <|
  .seq (.seq (.reg [⟨(some 27), .mov (.t 0), none⟩]) <|
  .block 0 (.seq (.reg [⟨(some 29), .bin .eql (.t 27) (.c (.int .i64 1)), none⟩,
    ⟨(some 28), .mov (.t 29), none⟩]) <|
  .cond (.t 28) (.seq (.reg [⟨(some 30), .ld (.t 4) 1 false, none⟩,
    ⟨(some 31), .mkf 46 [] [(.t 4)], none⟩,
    ⟨(some 32), .call 45 [(.t 30), (.c (.int .i32 0)), (.t 31)], none⟩,
    ⟨(some 6), .mov (.t 32), none⟩,
    ⟨(some 7), .mov (.c (.int .i64 0)), none⟩]) <|
  .ret) (.seq (.reg [⟨(some 34), .bin .eql (.t 27) (.c (.int .i64 2)), none⟩,
    ⟨(some 33), .mov (.t 34), none⟩]) <|
  .cond (.t 33) (.seq (.reg [⟨(some 35), .ld (.t 4) 1 false, none⟩,
    ⟨(some 36), .mkf 48 [] [(.t 4)], none⟩,
    ⟨(some 37), .call 45 [(.t 35), (.c (.int .i32 0)), (.t 36)], none⟩,
    ⟨(some 6), .mov (.t 37), none⟩,
    ⟨(some 7), .mov (.c (.int .i64 0)), none⟩]) <|
  .ret) (.seq (.reg [⟨(some 39), .bin .eql (.t 27) (.c (.int .i64 3)), none⟩,
    ⟨(some 38), .mov (.t 39), none⟩]) <|
  .cond (.t 38) (.seq (.reg [⟨(some 40), .ld (.t 4) 1 false, none⟩,
    ⟨(some 41), .mkf 49 [] [(.t 4)], none⟩,
    ⟨(some 42), .call 45 [(.t 40), (.c (.int .i32 1)), (.t 41)], none⟩,
    ⟨(some 6), .mov (.t 42), none⟩,
    ⟨(some 7), .mov (.c (.int .i64 0)), none⟩]) <|
  .ret) (.seq (.reg [⟨(some 44), .bin .eql (.t 27) (.c (.int .i64 6)), none⟩,
    ⟨(some 43), .mov (.t 44), none⟩]) <|
  .cond (.t 43) (.seq (.reg [⟨(some 45), .ld (.t 4) 1 false, none⟩,
    ⟨(some 46), .mkf 50 [] [(.t 4)], none⟩,
    ⟨(some 47), .call 45 [(.t 45), (.c (.int .i32 0)), (.t 46)], none⟩,
    ⟨(some 6), .mov (.t 47), none⟩,
    ⟨(some 7), .mov (.c (.int .i64 0)), none⟩]) <|
  .ret) (.seqj [0, 2, 4, 8] [48] (.seq (.reg [⟨(some 49), .bin .eql (.t 27) (.c (.int .i64 5)), none⟩,
    ⟨(some 48), .mov (.t 49), none⟩]) <|
  .cond (.t 48) (.skip) (.reg [⟨(some 50), .bin .eql (.t 27) (.c (.int .i64 4)), none⟩,
    ⟨(some 48), .mov (.t 50), none⟩])) <|
  .cond (.t 48) (.skip) (.seq (.reg [⟨(some 6), .mov (.c .nil), none⟩,
    ⟨(some 7), .mov (.c (.int .i64 1)), none⟩]) <|
  .ret))))))) <|
  .seq (.reg [⟨(some 9), .mov (.c .nil), none⟩]) <|
  .seq (.reg [⟨(some 10), .mov (.c (.int .i32 0)), none⟩]) <|
  .seqj [] [9] (.seq (.reg [⟨(some 51), .ld (.t 4) 1 false, none⟩,
    ⟨(some 52), .len (.t 51), none⟩,
    ⟨(some 53), .mov (.c (.int .i64 0)), none⟩]) <|
  .block 1 (.loop [0, 2, 4, 8, 52] [9, 10, 53] (.seq (.reg [⟨(some 54), .bin .lss (.t 53) (.t 52), none⟩]) <|
  .seq (.cond (.t 54) (.skip) (.exit 1)) <|
  .seqj [0, 2, 4, 8, 52, 53] [9, 10] (.block 2 (.seq (.reg [⟨(some 55), .mov (.t 53), none⟩,
    ⟨(some 11), .mov (.t 55), none⟩]) <|
  .seq (.seq (.reg [⟨(some 56), .mov (.t 10), none⟩,
    ⟨(some 57), .ld (.t 4) 1 false, none⟩,
    ⟨(some 58), .mov (.t 11), none⟩,
    ⟨(some 59), .iadd (.t 57) (.t 58) 1, none⟩,
    ⟨(some 60), .ld (.t 59) 1 false, none⟩,
    ⟨(some 61), .bin .add (.t 56) (.t 60), none⟩,
    ⟨(some 10), .mov (.t 61), none⟩]) <|
  .seq (.reg [⟨(some 62), .mov (.t 0), none⟩,
    ⟨(some 63), .bin .eql (.t 62) (.c (.int .i64 5)), none⟩]) <|
  .cond (.t 63) (.seq (.reg [⟨(some 64), .mov (.t 9), none⟩,
    ⟨(some 65), .mov (.t 10), none⟩,
    ⟨(some 66), .bldS true 1 1 (.int .i32 0) [(0, (.t 65))], none⟩,
    ⟨(some 67), .app (.t 64) (.t 66) 1 4 (.int .i32 0), none⟩,
    ⟨(some 9), .mov (.t 67), none⟩]) <|
  .exit 2) (.skip)) <|
  .seq (.reg [⟨(some 68), .mov (.t 2), none⟩,
    ⟨(some 69), .mov (.t 11), none⟩,
    ⟨(some 70), .iadd (.t 68) (.t 69) 1, none⟩,
    ⟨(some 71), .ld (.t 70) 1 false, none⟩,
    ⟨(some 72), .conv .i64 (.t 71), none⟩,
    ⟨(some 73), .mov (.t 8), none⟩,
    ⟨(some 74), .bin .rem (.t 72) (.t 73), none⟩,
    ⟨(some 12), .mov (.t 74), none⟩]) <|
  .seqj [0, 2, 4, 8, 9, 10, 52, 53] [12] (.seq (.reg [⟨(some 75), .mov (.t 12), none⟩,
    ⟨(some 76), .bin .lss (.t 75) (.c (.int .i64 0)), none⟩]) <|
  .cond (.t 76) (.reg [⟨(some 77), .mov (.t 12), none⟩,
    ⟨(some 78), .mov (.t 8), none⟩,
    ⟨(some 79), .bin .add (.t 77) (.t 78), none⟩,
    ⟨(some 12), .mov (.t 79), none⟩]) (.skip)) <|
  .reg [⟨(some 80), .mov (.t 9), none⟩,
    ⟨(some 81), .ld (.t 4) 1 false, none⟩,
    ⟨(some 82), .mov (.t 12), none⟩,
    ⟨(some 83), .iadd (.t 81) (.t 82) 1, none⟩,
    ⟨(some 84), .ld (.t 83) 1 false, none⟩,
    ⟨(some 85), .bldS true 1 1 (.int .i32 0) [(0, (.t 84))], none⟩,
    ⟨(some 86), .app (.t 80) (.t 85) 1 4 (.int .i32 0), none⟩,
    ⟨(some 9), .mov (.t 86), none⟩])) <|
  .reg [⟨(some 87), .bin .add (.t 53) (.c (.int .i64 1)), none⟩,
    ⟨(some 53), .mov (.t 87), none⟩]))) <|
  .seq (.reg [⟨(some 88), .mov (.t 9), none⟩,
    ⟨(some 6), .mov (.t 88), none⟩,
    ⟨(some 7), .mov (.c (.int .i64 0)), none⟩]) <|
  .ret,
  [.t 6, .t 7]⟩
theorem F34_ok : cFn Tryd.prog true 34 loops34 (cDr Tryd.prog 89 tbl34) = some F34 := by kernel_rfl

def V34_L0 (h64 : Heap) (a65 : D) (a0 : D) (a2 : D) (a4 : D) (a8 : D) (J60 : List D → Heap → Prop) : Prop :=
  ∃ (I66 : Nat → List D → Heap → Prop) (n₀ : Nat), I66 n₀ [.nil, (.int .i32 0), (.int .i64 0)] h64 ∧ ∀ (n67 : Nat) (f68 : Nat → D) (h69 : Heap), I66 n67 [f68 9, f68 10, f68 53] h69 →
  vbin .lss (f68 53) a65 fun a70 =>
  vcond a70 (∃ (J71 : List D → Heap → Prop), (∀ (f72 : Nat → D) (h73 : Heap), J71 [f72 9, f72 10] h73 →
  vbin .add (f68 53) (.int .i64 1) fun a74 =>
  keq [a0, a2, a4, a8, a65] [a0, a2, a4, a8, a65] ∧ ∃ m, m < n67 ∧ I66 m [(f72 9), (f72 10), a74] h73) ∧
  vhOp Tryd.prog (.ld (.c a4) 1 false) h69 fun a75 h76 =>
  vhOp Tryd.prog (.iadd (.c a75) (.c (f68 53)) 1) h76 fun a77 h78 =>
  vhOp Tryd.prog (.ld (.c a77) 1 false) h78 fun a79 h80 =>
  vbin .add (f68 10) a79 fun a81 =>
  vbin .eql a0 (.int .i64 5) fun a82 =>
  vcond a82 (vhOp Tryd.prog (.bldS true 1 1 (.int .i32 0) [(0, (.c a81))]) h80 fun a83 h84 =>
  vhOp Tryd.prog (.app (.c (f68 9)) (.c a83) 1 4 (.int .i32 0)) h84 fun a85 h86 =>
  keq [a0, a2, a4, a8, a65, (f68 53)] [a0, a2, a4, a8, a65, (f68 53)] ∧ J71 [a85, a81] h86) (
  vhOp Tryd.prog (.iadd (.c a2) (.c (f68 53)) 1) h80 fun a87 h88 =>
  vhOp Tryd.prog (.ld (.c a87) 1 false) h88 fun a89 h90 =>
  vhOp Tryd.prog (.conv .i64 (.c a89)) h90 fun a91 h92 =>
  vbin .rem a91 a8 fun a93 =>
  ∃ (J94 : List D → Heap → Prop), (∀ (f95 : Nat → D) (h96 : Heap), J94 [f95 12] h96 →
  vhOp Tryd.prog (.ld (.c a4) 1 false) h96 fun a97 h98 =>
  vhOp Tryd.prog (.iadd (.c a97) (.c (f95 12)) 1) h98 fun a99 h100 =>
  vhOp Tryd.prog (.ld (.c a99) 1 false) h100 fun a101 h102 =>
  vhOp Tryd.prog (.bldS true 1 1 (.int .i32 0) [(0, (.c a101))]) h102 fun a103 h104 =>
  vhOp Tryd.prog (.app (.c (f68 9)) (.c a103) 1 4 (.int .i32 0)) h104 fun a105 h106 =>
  keq [a0, a2, a4, a8, a65, (f68 53)] [a0, a2, a4, a8, a65, (f68 53)] ∧ J71 [a105, a81] h106) ∧
  vbin .lss a93 (.int .i64 0) fun a107 =>
  vcond a107 (vbin .add a93 a8 fun a108 =>
  keq [a0, a2, a4, a8, (f68 9), a81, a65, (f68 53)] [a0, a2, a4, a8, (f68 9), a81, a65, (f68 53)] ∧ J94 [a108] h92) (
  keq [a0, a2, a4, a8, (f68 9), a81, a65, (f68 53)] [a0, a2, a4, a8, (f68 9), a81, a65, (f68 53)] ∧ J94 [a93] h92))) (
  keq [] [] ∧ J60 [(f68 9)] h69)
def V34 (a0 : D) (a1 : D) (a2 : D) (h0 : Heap) (K : D → Heap → Prop) : Prop :=
  vhOp Tryd.prog (.box (.c a1)) h0 fun a4 h5 =>
  vhOp Tryd.prog (.ld (.c a4) 1 false) h5 fun a6 h7 =>
  vlen a6 h7 fun a8 =>
  vlen a2 h7 fun a9 =>
  vbin .neq a8 a9 fun a10 =>
  vguard a10 false (fun G11 =>
  G11 a8 h7) h7 fun a12 h13 =>
  vguard a10 false (fun G14 =>
  vbin .lss a12 (.int .i64 1) fun a17 =>
  G14 a17 h13) h13 fun a15 h16 =>
  vhOp Tryd.prog (.pick (.c a10) (.c (.bool true)) (.c a15)) h16 fun a18 h19 =>
  vguard a18 false (fun G20 =>
  G20 a8 h19) h19 fun a21 h22 =>
  vguard a18 false (fun G23 =>
  vbin .gtr a21 (.int .i64 32) fun a26 =>
  G23 a26 h22) h22 fun a24 h25 =>
  vhOp Tryd.prog (.pick (.c a18) (.c (.bool true)) (.c a24)) h25 fun a27 h28 =>
  vcond a27 (K (.tup [.nil, (.int .i64 1)]) h28) (
  vbin .eql a0 (.int .i64 1) fun a29 =>
  vcond a29 (vhOp Tryd.prog (.ld (.c a4) 1 false) h28 fun a30 h31 =>
  vhOp Tryd.prog (.mkf 46 [] [(.c a4)]) h31 fun a32 h33 =>
  ACall Tryd.prog 45 [a30, (.int .i32 0), a32] h33 fun a34 h35 =>
  K (.tup [a34, (.int .i64 0)]) h35) (
  vbin .eql a0 (.int .i64 2) fun a36 =>
  vcond a36 (vhOp Tryd.prog (.ld (.c a4) 1 false) h28 fun a37 h38 =>
  vhOp Tryd.prog (.mkf 48 [] [(.c a4)]) h38 fun a39 h40 =>
  ACall Tryd.prog 45 [a37, (.int .i32 0), a39] h40 fun a41 h42 =>
  K (.tup [a41, (.int .i64 0)]) h42) (
  vbin .eql a0 (.int .i64 3) fun a43 =>
  vcond a43 (vhOp Tryd.prog (.ld (.c a4) 1 false) h28 fun a44 h45 =>
  vhOp Tryd.prog (.mkf 49 [] [(.c a4)]) h45 fun a46 h47 =>
  ACall Tryd.prog 45 [a44, (.int .i32 1), a46] h47 fun a48 h49 =>
  K (.tup [a48, (.int .i64 0)]) h49) (
  vbin .eql a0 (.int .i64 6) fun a50 =>
  vcond a50 (vhOp Tryd.prog (.ld (.c a4) 1 false) h28 fun a51 h52 =>
  vhOp Tryd.prog (.mkf 50 [] [(.c a4)]) h52 fun a53 h54 =>
  ACall Tryd.prog 45 [a51, (.int .i32 0), a53] h54 fun a55 h56 =>
  K (.tup [a55, (.int .i64 0)]) h56) (
  ∃ (J57 : List D → Heap → Prop), (∀ (f58 : Nat → D) (h59 : Heap), J57 [f58 48] h59 →
  vcond (f58 48) (∃ (J60 : List D → Heap → Prop), (∀ (f61 : Nat → D) (h62 : Heap), J60 [f61 9] h62 →
  K (.tup [(f61 9), (.int .i64 0)]) h62) ∧
  vhOp Tryd.prog (.ld (.c a4) 1 false) h59 fun a63 h64 =>
  vlen a63 h64 fun a65 =>
  V34_L0 h64 a65 a0 a2 a4 a8 J60) (
  K (.tup [.nil, (.int .i64 1)]) h59)) ∧
  vbin .eql a0 (.int .i64 5) fun a109 =>
  vcond a109 (keq [a0, a2, a4, a8] [a0, a2, a4, a8] ∧ J57 [a109] h28) (
  vbin .eql a0 (.int .i64 4) fun a110 =>
  keq [a0, a2, a4, a8] [a0, a2, a4, a8] ∧ J57 [a110] h28))))))
theorem V34_ok (a0 : D) (a1 : D) (a2 : D) (h0 : Heap) (K : D → Heap → Prop) : V34 a0 a1 a2 h0 K = vcC Tryd.prog F34.code (fun x e h' => match x with | .exit _ => False | _ => vcRet Tryd.prog F34.res K e h') (params [a0, a1, a2] 0) h0 := by kernel_rfl

/-- warpwright/warpwrightref04.one -/
def loops35 : Nat → Option (List Nat × List Nat)
  | 1000014 => some ([0, 1, 2, 3, 9], [10, 12, 13, 14]) | 4 => some ([0, 1, 2, 3, 9], [10, 11, 12, 13, 14, 15]) | 1000006 => some ([0, 1, 2, 3, 9, 15], [10, 11, 12, 13, 14]) | 1000010 => some ([0, 1, 2, 3, 9, 11, 13, 14, 15], [10, 12]) | _ => none
def tbl35 : Nat → Option (List Nat × List Nat × List Nat)
  | _ => none
def F35 : AFunc := ⟨85,
  .seq (.reg [⟨(some 8), .mov (.c (.int .i32 0)), none⟩]) <|
  .seq (.reg [⟨(some 16), .mov (.t 2), none⟩,
    ⟨(some 17), .len (.t 16), none⟩,
    ⟨(some 9), .mov (.t 17), none⟩]) <|
  .seq (.reg [⟨(some 10), .mov (.c (.int .i32 0)), none⟩,
    ⟨(some 11), .mov (.c (.int .i32 1)), none⟩,
    ⟨(some 12), .mov (.c (.int .i64 0)), none⟩,
    ⟨(some 13), .mov (.c (.int .i32 0)), none⟩,
    ⟨(some 14), .mov (.c (.int .i32 0)), none⟩]) <|
  .seqj [0, 1, 2, 3, 9] [10, 12, 13, 14] (.seq (.reg [⟨(some 15), .mov (.c (.int .i64 0)), none⟩]) <|
  .block 0 (.loop [0, 1, 2, 3, 9] [10, 11, 12, 13, 14, 15] (.seq (.seq (.reg [⟨(some 18), .mov (.t 15), none⟩,
    ⟨(some 19), .mov (.t 9), none⟩,
    ⟨(some 20), .bin .lss (.t 18) (.t 19), none⟩]) <|
  .cond (.t 20) (.skip) (.exit 0)) <|
  .seqj [0, 1, 2, 3, 9, 15] [10, 11, 12, 13, 14] (.block 1 (.seqj [0, 1, 2, 3, 9, 11, 13, 14, 15] [10, 12] (.seq (.reg [⟨(some 23), .mov (.t 2), none⟩,
    ⟨(some 24), .mov (.t 15), none⟩,
    ⟨(some 25), .iadd (.t 23) (.t 24) 1, none⟩,
    ⟨(some 26), .ld (.t 25) 1 false, none⟩,
    ⟨(some 27), .bin .neq (.t 26) (.c (.int .i32 0)), none⟩]) <|
  .cond (.t 27) (.seq (.reg [⟨(some 28), .mov (.t 10), none⟩,
    ⟨(some 29), .mov (.t 11), none⟩,
    ⟨(some 30), .bin .add (.t 28) (.t 29), none⟩,
    ⟨(some 10), .mov (.t 30), none⟩]) <|
  .reg [⟨(some 31), .mov (.t 12), none⟩,
    ⟨(some 32), .bin .add (.t 31) (.c (.int .i64 1)), none⟩,
    ⟨(some 12), .mov (.t 32), none⟩]) (.skip)) <|
  .seq (.reg [⟨(some 33), .mov (.t 11), none⟩,
    ⟨(some 34), .bin .mul (.c (.int .i32 2)) (.t 33), none⟩,
    ⟨(some 11), .mov (.t 34), none⟩]) <|
  .seq (.reg [⟨(some 35), .mov (.t 13), none⟩,
    ⟨(some 36), .mov (.t 2), none⟩,
    ⟨(some 37), .mov (.t 15), none⟩,
    ⟨(some 38), .iadd (.t 36) (.t 37) 1, none⟩,
    ⟨(some 39), .ld (.t 38) 1 false, none⟩,
    ⟨(some 40), .bin .add (.t 35) (.t 39), none⟩,
    ⟨(some 13), .mov (.t 40), none⟩]) <|
  .seq (.reg [⟨(some 41), .mov (.t 15), none⟩,
    ⟨(some 42), .mov (.t 1), none⟩,
    ⟨(some 43), .bin .leq (.t 41) (.t 42), none⟩]) <|
  .cond (.t 43) (.reg [⟨(some 44), .mov (.t 14), none⟩,
    ⟨(some 45), .mov (.t 2), none⟩,
    ⟨(some 46), .mov (.t 15), none⟩,
    ⟨(some 47), .iadd (.t 45) (.t 46) 1, none⟩,
    ⟨(some 48), .ld (.t 47) 1 false, none⟩,
    ⟨(some 49), .bin .add (.t 44) (.t 48), none⟩,
    ⟨(some 14), .mov (.t 49), none⟩]) (.skip))) <|
  .reg [⟨(some 21), .mov (.t 15), none⟩,
    ⟨(some 22), .bin .add (.t 21) (.c (.int .i64 1)), none⟩,
    ⟨(some 15), .mov (.t 22), none⟩]))) <|
  .seq (.seq (.reg [⟨(some 50), .mov (.t 0), none⟩]) <|
  .block 2 (.seq (.reg [⟨(some 52), .bin .eql (.t 50) (.c (.int .i64 1)), none⟩,
    ⟨(some 51), .mov (.t 52), none⟩]) <|
  .cond (.t 51) (.seq (.reg [⟨(some 53), .mov (.t 10), none⟩,
    ⟨(some 8), .mov (.t 53), none⟩]) <|
  .ret) (.seq (.reg [⟨(some 55), .bin .eql (.t 50) (.c (.int .i64 2)), none⟩,
    ⟨(some 54), .mov (.t 55), none⟩]) <|
  .cond (.t 54) (.seq (.reg [⟨(some 56), .mov (.t 12), none⟩,
    ⟨(some 57), .bin .gtr (.t 56) (.c (.int .i64 0)), none⟩,
    ⟨(some 58), .call 51 [(.t 57)], none⟩,
    ⟨(some 8), .mov (.t 58), none⟩]) <|
  .ret) (.seq (.reg [⟨(some 60), .bin .eql (.t 50) (.c (.int .i64 3)), none⟩,
    ⟨(some 59), .mov (.t 60), none⟩]) <|
  .cond (.t 59) (.seq (.reg [⟨(some 61), .mov (.t 12), none⟩,
    ⟨(some 62), .mov (.t 9), none⟩,
    ⟨(some 63), .bin .eql (.t 61) (.t 62), none⟩,
    ⟨(some 64), .call 51 [(.t 63)], none⟩,
    ⟨(some 8), .mov (.t 64), none⟩]) <|
  .ret) (.seq (.reg [⟨(some 66), .bin .eql (.t 50) (.c (.int .i64 5)), none⟩,
    ⟨(some 65), .mov (.t 66), none⟩]) <|
  .cond (.t 65) (.seq (.reg [⟨(some 67), .mov (.t 14), none⟩,
    ⟨(some 8), .mov (.t 67), none⟩]) <|
  .ret) (.seq (.reg [⟨(some 69), .bin .eql (.t 50) (.c (.int .i64 6)), none⟩,
    ⟨(some 68), .mov (.t 69), none⟩]) <|
  .cond (.t 68) (.seq (.reg [⟨(some 70), .mov (.t 13), none⟩,
    ⟨(some 8), .mov (.t 70), none⟩]) <|
  .ret) (.skip))))))) <|
  .seq (.reg [⟨(some 71), .mov (.t 2), none⟩,
    ⟨(some 72), .mov (.t 3), none⟩,
    ⟨(some 73), .mov (.t 1), none⟩,
    ⟨(some 74), .iadd (.t 72) (.t 73) 1, none⟩,
    ⟨(some 75), .ld (.t 74) 1 false, none⟩,
    ⟨(some 76), .conv .i64 (.t 75), none⟩,
    ⟨(some 77), .mov (.t 9), none⟩,
    ⟨(some 78), .bin .rem (.t 76) (.t 77), none⟩,
    ⟨(some 79), .mov (.t 9), none⟩,
    ⟨(some 80), .bin .add (.t 78) (.t 79), none⟩,
    ⟨(some 81), .mov (.t 9), none⟩,
    ⟨(some 82), .bin .rem (.t 80) (.t 81), none⟩,
    ⟨(some 83), .iadd (.t 71) (.t 82) 1, none⟩,
    ⟨(some 84), .ld (.t 83) 1 false, none⟩,
    ⟨(some 8), .mov (.t 84), none⟩]) <|
  .ret,
  [.t 8]⟩
theorem F35_ok : cFn Tryd.prog true 35 loops35 (cDr Tryd.prog 85 tbl35) = some F35 := by kernel_rfl

def V35_L0 (h0 : Heap) (a5 : D) (a0 : D) (a1 : D) (a2 : D) (a3 : D) (J6 : List D → Heap → Prop) : Prop :=
  ∃ (I33 : Nat → List D → Heap → Prop) (n₀ : Nat), I33 n₀ [(.int .i32 0), (.int .i32 1), (.int .i64 0), (.int .i32 0), (.int .i32 0), (.int .i64 0)] h0 ∧ ∀ (n34 : Nat) (f35 : Nat → D) (h36 : Heap), I33 n34 [f35 10, f35 11, f35 12, f35 13, f35 14, f35 15] h36 →
  vbin .lss (f35 15) a5 fun a37 =>
  vcond a37 (∃ (J38 : List D → Heap → Prop), (∀ (f39 : Nat → D) (h40 : Heap), J38 [f39 10, f39 11, f39 12, f39 13, f39 14] h40 →
  vbin .add (f35 15) (.int .i64 1) fun a41 =>
  keq [a0, a1, a2, a3, a5] [a0, a1, a2, a3, a5] ∧ ∃ m, m < n34 ∧ I33 m [(f39 10), (f39 11), (f39 12), (f39 13), (f39 14), a41] h40) ∧
  ∃ (J42 : List D → Heap → Prop), (∀ (f43 : Nat → D) (h44 : Heap), J42 [f43 10, f43 12] h44 →
  vbin .mul (.int .i32 2) (f35 11) fun a45 =>
  vhOp Tryd.prog (.iadd (.c a2) (.c (f35 15)) 1) h44 fun a46 h47 =>
  vhOp Tryd.prog (.ld (.c a46) 1 false) h47 fun a48 h49 =>
  vbin .add (f35 13) a48 fun a50 =>
  vbin .leq (f35 15) a1 fun a51 =>
  vcond a51 (vhOp Tryd.prog (.iadd (.c a2) (.c (f35 15)) 1) h49 fun a52 h53 =>
  vhOp Tryd.prog (.ld (.c a52) 1 false) h53 fun a54 h55 =>
  vbin .add (f35 14) a54 fun a56 =>
  keq [a0, a1, a2, a3, a5, (f35 15)] [a0, a1, a2, a3, a5, (f35 15)] ∧ J38 [(f43 10), a45, (f43 12), a50, a56] h55) (
  keq [a0, a1, a2, a3, a5, (f35 15)] [a0, a1, a2, a3, a5, (f35 15)] ∧ J38 [(f43 10), a45, (f43 12), a50, (f35 14)] h49)) ∧
  vhOp Tryd.prog (.iadd (.c a2) (.c (f35 15)) 1) h36 fun a57 h58 =>
  vhOp Tryd.prog (.ld (.c a57) 1 false) h58 fun a59 h60 =>
  vbin .neq a59 (.int .i32 0) fun a61 =>
  vcond a61 (vbin .add (f35 10) (f35 11) fun a62 =>
  vbin .add (f35 12) (.int .i64 1) fun a63 =>
  keq [a0, a1, a2, a3, a5, (f35 11), (f35 13), (f35 14), (f35 15)] [a0, a1, a2, a3, a5, (f35 11), (f35 13), (f35 14), (f35 15)] ∧ J42 [a62, a63] h60) (
  keq [a0, a1, a2, a3, a5, (f35 11), (f35 13), (f35 14), (f35 15)] [a0, a1, a2, a3, a5, (f35 11), (f35 13), (f35 14), (f35 15)] ∧ J42 [(f35 10), (f35 12)] h60)) (
  keq [a0, a1, a2, a3, a5] [a0, a1, a2, a3, a5] ∧ J6 [(f35 10), (f35 12), (f35 13), (f35 14)] h36)
def V35 (a0 : D) (a1 : D) (a2 : D) (a3 : D) (h0 : Heap) (K : D → Heap → Prop) : Prop :=
  vlen a2 h0 fun a5 =>
  ∃ (J6 : List D → Heap → Prop), (∀ (f7 : Nat → D) (h8 : Heap), J6 [f7 10, f7 12, f7 13, f7 14] h8 →
  vbin .eql a0 (.int .i64 1) fun a9 =>
  vcond a9 (K (f7 10) h8) (
  vbin .eql a0 (.int .i64 2) fun a10 =>
  vcond a10 (vbin .gtr (f7 12) (.int .i64 0) fun a11 =>
  ACall Tryd.prog 51 [a11] h8 fun a12 h13 =>
  K a12 h13) (
  vbin .eql a0 (.int .i64 3) fun a14 =>
  vcond a14 (vbin .eql (f7 12) a5 fun a15 =>
  ACall Tryd.prog 51 [a15] h8 fun a16 h17 =>
  K a16 h17) (
  vbin .eql a0 (.int .i64 5) fun a18 =>
  vcond a18 (K (f7 14) h8) (
  vbin .eql a0 (.int .i64 6) fun a19 =>
  vcond a19 (K (f7 13) h8) (
  vhOp Tryd.prog (.iadd (.c a3) (.c a1) 1) h8 fun a20 h21 =>
  vhOp Tryd.prog (.ld (.c a20) 1 false) h21 fun a22 h23 =>
  vhOp Tryd.prog (.conv .i64 (.c a22)) h23 fun a24 h25 =>
  vbin .rem a24 a5 fun a26 =>
  vbin .add a26 a5 fun a27 =>
  vbin .rem a27 a5 fun a28 =>
  vhOp Tryd.prog (.iadd (.c a2) (.c a28) 1) h25 fun a29 h30 =>
  vhOp Tryd.prog (.ld (.c a29) 1 false) h30 fun a31 h32 =>
  K a31 h32)))))) ∧
  V35_L0 h0 a5 a0 a1 a2 a3 J6
theorem V35_ok (a0 : D) (a1 : D) (a2 : D) (a3 : D) (h0 : Heap) (K : D → Heap → Prop) : V35 a0 a1 a2 a3 h0 K = vcC Tryd.prog F35.code (fun x e h' => match x with | .exit _ => False | _ => vcRet Tryd.prog F35.res K e h') (params [a0, a1, a2, a3] 0) h0 := by kernel_rfl

/-- warpwright/warpwrightref04.SameInts -/
def loops36 : Nat → Option (List Nat × List Nat)
  | 1000009 => some ([], []) | 4 => some ([0, 1], [5]) | _ => none
def tbl36 : Nat → Option (List Nat × List Nat × List Nat)
  | 6 => some ([0, 0, 3, 7, 0, 0, 48, 112, 255], [], []) | _ => none
def F36 : AFunc := ⟨26,
  .seq (.reg [⟨(some 4), .mov (.c (.bool false)), none⟩]) <|
  .seq (.seq (.reg [⟨(some 6), .mov (.t 0), none⟩,
    ⟨(some 7), .len (.t 6), none⟩,
    ⟨(some 8), .mov (.t 1), none⟩,
    ⟨(some 9), .len (.t 8), none⟩,
    ⟨(some 10), .bin .neq (.t 7) (.t 9), none⟩]) <|
  .cond (.t 10) (.seq (.reg [⟨(some 4), .mov (.c (.bool false)), none⟩]) <|
  .ret) (.skip)) <|
  .seqj [] [] (.seq (.reg [⟨(some 5), .mov (.c (.int .i64 0)), none⟩]) <|
  .block 0 (.loop [0, 1] [5] (.seq (.seq (.reg [⟨(some 11), .mov (.t 5), none⟩,
    ⟨(some 12), .mov (.t 0), none⟩,
    ⟨(some 13), .len (.t 12), none⟩,
    ⟨(some 14), .bin .lss (.t 11) (.t 13), none⟩]) <|
  .cond (.t 14) (.skip) (.exit 0)) <|
  .seq (.block 1 (.seq (.dreg [⟨(some 17), .mov (.t 0), none⟩,
    ⟨(some 18), .mov (.t 5), none⟩,
    ⟨(some 19), .iadd (.t 17) (.t 18) 1, none⟩,
    ⟨(some 20), .ld (.t 19) 1 false, none⟩,
    ⟨(some 21), .mov (.t 1), none⟩,
    ⟨(some 22), .mov (.t 5), none⟩,
    ⟨(some 23), .iadd (.t 21) (.t 22) 1, none⟩,
    ⟨(some 24), .ld (.t 23) 1 false, none⟩,
    ⟨(some 25), .bin .neq (.t 20) (.t 24), none⟩] [] []) <|
  .cond (.t 25) (.seq (.reg [⟨(some 4), .mov (.c (.bool false)), none⟩]) <|
  .ret) (.skip))) <|
  .reg [⟨(some 15), .mov (.t 5), none⟩,
    ⟨(some 16), .bin .add (.t 15) (.c (.int .i64 1)), none⟩,
    ⟨(some 5), .mov (.t 16), none⟩]))) <|
  .seq (.reg [⟨(some 4), .mov (.c (.bool true)), none⟩]) <|
  .ret,
  [.t 4]⟩
theorem F36_ok : cFn Tryd.prog true 36 loops36 (cDr Tryd.prog 26 tbl36) = some F36 := by kernel_rfl

def V36_L0 (h0 : Heap) (a0 : D) (a1 : D) (J6 : List D → Heap → Prop) (K : D → Heap → Prop) : Prop :=
  ∃ (I9 : Nat → List D → Heap → Prop) (n₀ : Nat), I9 n₀ [(.int .i64 0)] h0 ∧ ∀ (n10 : Nat) (f11 : Nat → D) (h12 : Heap), I9 n10 [f11 5] h12 →
  vlen a0 h12 fun a13 =>
  vbin .lss (f11 5) a13 fun a14 =>
  vcond a14 (vdOp Tryd.prog (.iadd (.c a0) (.c (f11 5)) 1) h12 fun a15 =>
  vdOp Tryd.prog (.ld (.c a15) 1 false) h12 fun a16 =>
  vdOp Tryd.prog (.iadd (.c a1) (.c (f11 5)) 1) h12 fun a17 =>
  vdOp Tryd.prog (.ld (.c a17) 1 false) h12 fun a18 =>
  vbin .neq a16 a18 fun a19 =>
  vcond a19 (K (.bool false) h12) (
  vbin .add (f11 5) (.int .i64 1) fun a20 =>
  keq [a0, a1] [a0, a1] ∧ ∃ m, m < n10 ∧ I9 m [a20] h12)) (
  keq [] [] ∧ J6 [] h12)
def V36 (a0 : D) (a1 : D) (h0 : Heap) (K : D → Heap → Prop) : Prop :=
  vlen a0 h0 fun a3 =>
  vlen a1 h0 fun a4 =>
  vbin .neq a3 a4 fun a5 =>
  vcond a5 (K (.bool false) h0) (
  ∃ (J6 : List D → Heap → Prop), (∀ (f7 : Nat → D) (h8 : Heap), J6 [] h8 →
  K (.bool true) h8) ∧
  V36_L0 h0 a0 a1 J6 K)
theorem V36_ok (a0 : D) (a1 : D) (h0 : Heap) (K : D → Heap → Prop) : V36 a0 a1 h0 K = vcC Tryd.prog F36.code (fun x e h' => match x with | .exit _ => False | _ => vcRet Tryd.prog F36.res K e h') (params [a0, a1] 0) h0 := by kernel_rfl

/-- warpwright/launch.Pack -/
def loops37 : Nat → Option (List Nat × List Nat)
  | 1000019 => some ([9], []) | 4000010 => some ([4, 8, 9], []) | 1000018 => some ([9, 11], []) | 12 => some ([9, 11, 40, 41], [12, 42]) | _ => none
def tbl37 : Nat → Option (List Nat × List Nat × List Nat)
  | 3 => some ([0, 1, 0, 4, 15, 0, 32, 127, 0, 511], [8, 9], []) | _ => none
def F37 : AFunc := ⟨61,
  .seq (.reg [⟨(some 4), .box (.t 1), none⟩,
    ⟨(some 6), .mov (.c .nil), none⟩,
    ⟨(some 7), .mov (.c (.int .i64 0)), none⟩]) <|
  .seq (.seq (.reg [⟨(some 15), .ld (.t 4) 1 false, none⟩,
    ⟨(some 16), .bin .lss (.t 15) (.c (.int .i64 1)), none⟩,
    ⟨(some 17), .mov (.t 16), none⟩,
    ⟨(some 18), .ld (.t 4) 1 false, some (17, false)⟩,
    ⟨(some 19), .bin .gtr (.t 18) (.c (.int .i64 64)), some (17, false)⟩,
    ⟨(some 20), .pick (.t 17) (.c (.bool true)) (.t 19), none⟩]) <|
  .cond (.t 20) (.seq (.reg [⟨(some 6), .mov (.c .nil), none⟩,
    ⟨(some 7), .mov (.c (.int .i64 1)), none⟩]) <|
  .ret) (.skip)) <|
  .seq (.dreg [⟨(some 21), .mov (.t 2), none⟩,
    ⟨(some 22), .un .xor (.t 21), none⟩,
    ⟨(some 23), .ld (.t 4) 1 false, none⟩,
    ⟨(some 24), .bin .sub (.c (.int .i64 64)) (.t 23), none⟩,
    ⟨(some 25), .bin .shl (.t 22) (.t 24), none⟩,
    ⟨(some 26), .ld (.t 4) 1 false, none⟩,
    ⟨(some 27), .bin .sub (.c (.int .i64 64)) (.t 26), none⟩,
    ⟨(some 28), .bin .shr (.t 25) (.t 27), none⟩] [⟨(some 8), .alloc (.int .u64 0), none⟩,
    ⟨none, .st (.t 8) (.t 28) 1, none⟩] []) <|
  .seq (.seq (.reg [⟨(some 29), .ld (.t 8) 1 false, none⟩,
    ⟨(some 30), .bin .eql (.t 29) (.c (.int .u64 0)), none⟩]) <|
  .cond (.t 30) (.seq (.reg [⟨(some 6), .mov (.c .nil), none⟩,
    ⟨(some 7), .mov (.c (.int .i64 1)), none⟩]) <|
  .ret) (.skip)) <|
  .seq (.reg [⟨(some 9), .alloc .nil, none⟩]) <|
  .seqj [9] [] (.seq (.reg [⟨(some 31), .mov (.t 0), none⟩,
    ⟨(some 32), .ld (.t 8) 1 false, none⟩,
    ⟨(some 33), .call 44 [(.t 32)], none⟩,
    ⟨(some 34), .call 52 [(.t 31), (.t 33)], none⟩]) <|
  .block 0 (.range (.t 34) [35] [4, 8, 9] [] (.reg [⟨(some 10), .mov (.t 35), none⟩]) (.block 1 (.seq (.reg [⟨(some 36), .bldS true 1 1 (.int .i64 0) [(0, (.c (.int .i64 (-1))))], none⟩,
    ⟨(some 37), .ld (.t 4) 1 false, none⟩,
    ⟨(some 38), .call 53 [(.t 36), (.t 37)], none⟩,
    ⟨(some 11), .mov (.t 38), none⟩]) <|
  .seq (.reg [⟨(some 39), .ld (.t 8) 1 false, none⟩,
    ⟨(some 12), .mov (.t 39), none⟩]) <|
  .seqj [9, 11] [] (.seq (.reg [⟨(some 40), .mov (.t 10), none⟩,
    ⟨(some 41), .len (.t 40), none⟩,
    ⟨(some 42), .mov (.c (.int .i64 0)), none⟩]) <|
  .block 2 (.loop [9, 11, 40, 41] [12, 42] (.seq (.reg [⟨(some 43), .bin .lss (.t 42) (.t 41), none⟩]) <|
  .seq (.cond (.t 43) (.skip) (.exit 2)) <|
  .seq (.block 3 (.seq (.reg [⟨(some 44), .iadd (.t 40) (.t 42) 1, none⟩,
    ⟨(some 45), .ld (.t 44) 1 false, none⟩,
    ⟨(some 14), .mov (.t 45), none⟩]) <|
  .seq (.reg [⟨(some 46), .mov (.t 11), none⟩,
    ⟨(some 47), .mov (.t 12), none⟩,
    ⟨(some 48), .call 54 [(.t 47)], none⟩,
    ⟨(some 49), .mov (.t 14), none⟩,
    ⟨(some 50), .iadd (.t 46) (.t 48) 1, none⟩,
    ⟨none, .st (.t 50) (.t 49) 1, none⟩]) <|
  .reg [⟨(some 51), .mov (.t 12), none⟩,
    ⟨(some 52), .mov (.t 12), none⟩,
    ⟨(some 53), .bin .sub (.t 52) (.c (.int .u64 1)), none⟩,
    ⟨(some 54), .bin .and (.t 51) (.t 53), none⟩,
    ⟨(some 12), .mov (.t 54), none⟩])) <|
  .reg [⟨(some 55), .bin .add (.t 42) (.c (.int .i64 1)), none⟩,
    ⟨(some 42), .mov (.t 55), none⟩]))) <|
  .reg [⟨(some 56), .ld (.t 9) 1 false, none⟩,
    ⟨(some 57), .mov (.t 11), none⟩,
    ⟨(some 58), .bldS true 1 1 .nil [(0, (.t 57))], none⟩,
    ⟨(some 59), .app (.t 56) (.t 58) 1 24 .nil, none⟩,
    ⟨none, .st (.t 9) (.t 59) 1, none⟩])))) <|
  .seq (.reg [⟨(some 60), .ld (.t 9) 1 false, none⟩,
    ⟨(some 6), .mov (.t 60), none⟩,
    ⟨(some 7), .mov (.c (.int .i64 0)), none⟩]) <|
  .ret,
  [.t 6, .t 7]⟩
theorem F37_ok : cFn Tryd.prog true 37 loops37 (cDr Tryd.prog 61 tbl37) = some F37 := by kernel_rfl

def F37_A0 : ACode := .reg [⟨(some 10), .mov (.t 35), none⟩]
def F37_B0 : ACode := .block 1 (.seq (.reg [⟨(some 36), .bldS true 1 1 (.int .i64 0) [(0, (.c (.int .i64 (-1))))], none⟩,
    ⟨(some 37), .ld (.t 4) 1 false, none⟩,
    ⟨(some 38), .call 53 [(.t 36), (.t 37)], none⟩,
    ⟨(some 11), .mov (.t 38), none⟩]) <|
  .seq (.reg [⟨(some 39), .ld (.t 8) 1 false, none⟩,
    ⟨(some 12), .mov (.t 39), none⟩]) <|
  .seqj [9, 11] [] (.seq (.reg [⟨(some 40), .mov (.t 10), none⟩,
    ⟨(some 41), .len (.t 40), none⟩,
    ⟨(some 42), .mov (.c (.int .i64 0)), none⟩]) <|
  .block 2 (.loop [9, 11, 40, 41] [12, 42] (.seq (.reg [⟨(some 43), .bin .lss (.t 42) (.t 41), none⟩]) <|
  .seq (.cond (.t 43) (.skip) (.exit 2)) <|
  .seq (.block 3 (.seq (.reg [⟨(some 44), .iadd (.t 40) (.t 42) 1, none⟩,
    ⟨(some 45), .ld (.t 44) 1 false, none⟩,
    ⟨(some 14), .mov (.t 45), none⟩]) <|
  .seq (.reg [⟨(some 46), .mov (.t 11), none⟩,
    ⟨(some 47), .mov (.t 12), none⟩,
    ⟨(some 48), .call 54 [(.t 47)], none⟩,
    ⟨(some 49), .mov (.t 14), none⟩,
    ⟨(some 50), .iadd (.t 46) (.t 48) 1, none⟩,
    ⟨none, .st (.t 50) (.t 49) 1, none⟩]) <|
  .reg [⟨(some 51), .mov (.t 12), none⟩,
    ⟨(some 52), .mov (.t 12), none⟩,
    ⟨(some 53), .bin .sub (.t 52) (.c (.int .u64 1)), none⟩,
    ⟨(some 54), .bin .and (.t 51) (.t 53), none⟩,
    ⟨(some 12), .mov (.t 54), none⟩])) <|
  .reg [⟨(some 55), .bin .add (.t 42) (.c (.int .i64 1)), none⟩,
    ⟨(some 42), .mov (.t 55), none⟩]))) <|
  .reg [⟨(some 56), .ld (.t 9) 1 false, none⟩,
    ⟨(some 57), .mov (.t 11), none⟩,
    ⟨(some 58), .bldS true 1 1 .nil [(0, (.t 57))], none⟩,
    ⟨(some 59), .app (.t 56) (.t 58) 1 24 .nil, none⟩,
    ⟨none, .st (.t 9) (.t 59) 1, none⟩])
def V37_R0_L0 (a100006 : D) (h100007 : Heap) (a100019 : D) (a35 : D) (a100004 : D) (a9 : D) (J100008 : List D → Heap → Prop) : Prop :=
  ∃ (I100020 : Nat → List D → Heap → Prop) (n₀ : Nat), I100020 n₀ [a100006, (.int .i64 0)] h100007 ∧ ∀ (n100021 : Nat) (f100022 : Nat → D) (h100023 : Heap), I100020 n100021 [f100022 12, f100022 42] h100023 →
  vbin .lss (f100022 42) a100019 fun a100024 =>
  vcond a100024 (vhOp Tryd.prog (.iadd (.c a35) (.c (f100022 42)) 1) h100023 fun a100025 h100026 =>
  vhOp Tryd.prog (.ld (.c a100025) 1 false) h100026 fun a100027 h100028 =>
  ACall Tryd.prog 54 [(f100022 12)] h100028 fun a100029 h100030 =>
  vhOp Tryd.prog (.iadd (.c a100004) (.c a100029) 1) h100030 fun a100031 h100032 =>
  vhOp Tryd.prog (.st (.c a100031) (.c a100027) 1) h100032 fun a100033 h100034 =>
  vbin .sub (f100022 12) (.int .u64 1) fun a100035 =>
  vbin .and (f100022 12) a100035 fun a100036 =>
  vbin .add (f100022 42) (.int .i64 1) fun a100037 =>
  keq [a9, a100004, a35, a100019] [a9, a100004, a35, a100019] ∧ ∃ m, m < n100021 ∧ I100020 m [a100036, a100037] h100034) (
  keq [a9, a100004] [a9, a100004] ∧ J100008 [] h100023)
def V37_R0 (n0 : Nat) (B0 : LoopB) (a35 : D) (a4 : D) (a8 : D) (a9 : D) (h0 : Heap) (K : D → Heap → Prop) : Prop :=
  Ex.normal = Ex.normal ∧ h0 n0 = .lp .ready B0 ∧ vhOp Tryd.prog (.bldS true 1 1 (.int .i64 0) [(0, (.c (.int .i64 (-1))))]) (upd h0 n0 (.lp .busy B0)) fun a100000 h100001 =>
  vhOp Tryd.prog (.ld (.c a4) 1 false) h100001 fun a100002 h100003 =>
  ACall Tryd.prog 53 [a100000, a100002] h100003 fun a100004 h100005 =>
  vhOp Tryd.prog (.ld (.c a8) 1 false) h100005 fun a100006 h100007 =>
  ∃ (J100008 : List D → Heap → Prop), (∀ (f100009 : Nat → D) (h100010 : Heap), J100008 [] h100010 →
  vhOp Tryd.prog (.ld (.c a9) 1 false) h100010 fun a100011 h100012 =>
  vhOp Tryd.prog (.bldS true 1 1 .nil [(0, (.c a100004))]) h100012 fun a100013 h100014 =>
  vhOp Tryd.prog (.app (.c a100011) (.c a100013) 1 24 .nil) h100014 fun a100015 h100016 =>
  vhOp Tryd.prog (.st (.c a9) (.c a100015) 1) h100016 fun a100017 h100018 =>
  h100018 n0 = .lp .busy B0 ∧ K (.bool true) (upd h100018 n0 (.lp .ready B0))) ∧
  vlen a35 h100007 fun a100019 =>
  V37_R0_L0 a100006 h100007 a100019 a35 a100004 a9 J100008
theorem V37_R0_ok (n0 : Nat) (B0 : LoopB) (a35 : D) (a4 : D) (a8 : D) (a9 : D) (h0 : Heap) (K : D → Heap → Prop) : V37_R0 n0 B0 a35 a4 a8 a9 h0 K = vround Tryd.prog n0 B0 [35] [a35] [(4, a4), (8, a8), (9, a9)] F37_A0 F37_B0 h0 K := by kernel_rfl

def V37 (a0 : D) (a1 : D) (a2 : D) (h0 : Heap) (K : D → Heap → Prop) : Prop :=
  vhOp Tryd.prog (.box (.c a1)) h0 fun a4 h5 =>
  vhOp Tryd.prog (.ld (.c a4) 1 false) h5 fun a6 h7 =>
  vbin .lss a6 (.int .i64 1) fun a8 =>
  vguard a8 false (fun G9 =>
  vhOp Tryd.prog (.ld (.c a4) 1 false) h7 fun a12 h13 =>
  G9 a12 h13) h7 fun a10 h11 =>
  vguard a8 false (fun G14 =>
  vbin .gtr a10 (.int .i64 64) fun a17 =>
  G14 a17 h11) h11 fun a15 h16 =>
  vhOp Tryd.prog (.pick (.c a8) (.c (.bool true)) (.c a15)) h16 fun a18 h19 =>
  vcond a18 (K (.tup [.nil, (.int .i64 1)]) h19) (
  vun .xor a2 fun a20 =>
  vdOp Tryd.prog (.ld (.c a4) 1 false) h19 fun a21 =>
  vbin .sub (.int .i64 64) a21 fun a22 =>
  vbin .shl a20 a22 fun a23 =>
  vdOp Tryd.prog (.ld (.c a4) 1 false) h19 fun a24 =>
  vbin .sub (.int .i64 64) a24 fun a25 =>
  vbin .shr a23 a25 fun a26 =>
  vhOp Tryd.prog (.alloc (.int .u64 0)) h19 fun a27 h28 =>
  vhOp Tryd.prog (.st (.c a27) (.c a26) 1) h28 fun a29 h30 =>
  vhOp Tryd.prog (.ld (.c a27) 1 false) h30 fun a31 h32 =>
  vbin .eql a31 (.int .u64 0) fun a33 =>
  vcond a33 (K (.tup [.nil, (.int .i64 1)]) h32) (
  vhOp Tryd.prog (.alloc .nil) h32 fun a34 h35 =>
  ∃ (J36 : List D → Heap → Prop), (∀ (f37 : Nat → D) (h38 : Heap), J36 [] h38 →
  vhOp Tryd.prog (.ld (.c a34) 1 false) h38 fun a39 h40 =>
  K (.tup [a39, (.int .i64 0)]) h40) ∧
  vhOp Tryd.prog (.ld (.c a27) 1 false) h35 fun a41 h42 =>
  ACall Tryd.prog 44 [a41] h42 fun a43 h44 =>
  ACall Tryd.prog 52 [a0, a43] h44 fun a45 h46 =>
  vrange Tryd.prog a45 [35] [(4, a4), (8, a27), (9, a34)] F37_A0 F37_B0 h46 fun n47 h48 => vrangeEnd n47 h48 (
  keq [a34] [a34] ∧ J36 [] (upd h48 n47 .dead)) (fun i0 => False) (False)))
theorem V37_ok (a0 : D) (a1 : D) (a2 : D) (h0 : Heap) (K : D → Heap → Prop) : V37 a0 a1 a2 h0 K = vcC Tryd.prog F37.code (fun x e h' => match x with | .exit _ => False | _ => vcRet Tryd.prog F37.res K e h') (params [a0, a1, a2] 0) h0 := by kernel_rfl

/-- warpwright/warpwrightref04.Living -/
def loops38 : Nat → Option (List Nat × List Nat)
  | 1000008 => some ([], [5]) | 3 => some ([0, 1], [5, 6]) | 1000005 => some ([0, 1, 6], [5]) | _ => none
def tbl38 : Nat → Option (List Nat × List Nat × List Nat)
  | _ => none
def F38 : AFunc := ⟨28,
  .seq (.reg [⟨(some 4), .mov (.c .nil), none⟩]) <|
  .seq (.reg [⟨(some 7), .bldS true 1 0 (.int .i64 0) [], none⟩,
    ⟨(some 5), .mov (.t 7), none⟩]) <|
  .seqj [] [5] (.seq (.reg [⟨(some 6), .mov (.c (.int .i64 0)), none⟩]) <|
  .block 0 (.loop [0, 1] [5, 6] (.seq (.seq (.reg [⟨(some 8), .mov (.t 6), none⟩,
    ⟨(some 9), .mov (.t 0), none⟩,
    ⟨(some 10), .bin .lss (.t 8) (.t 9), none⟩,
    ⟨(some 11), .mov (.t 10), none⟩,
    ⟨(some 12), .mov (.t 6), some (11, true)⟩,
    ⟨(some 13), .bin .lss (.t 12) (.c (.int .i64 64)), some (11, true)⟩,
    ⟨(some 14), .pick (.t 11) (.t 13) (.c (.bool false)), none⟩]) <|
  .cond (.t 14) (.skip) (.exit 0)) <|
  .seqj [0, 1, 6] [5] (.block 1 (.seq (.reg [⟨(some 17), .mov (.t 1), none⟩,
    ⟨(some 18), .mov (.t 6), none⟩,
    ⟨(some 19), .conv .u64 (.t 18), none⟩,
    ⟨(some 20), .bin .shr (.t 17) (.t 19), none⟩,
    ⟨(some 21), .bin .and (.t 20) (.c (.int .u64 1)), none⟩,
    ⟨(some 22), .bin .eql (.t 21) (.c (.int .u64 0)), none⟩]) <|
  .cond (.t 22) (.reg [⟨(some 23), .mov (.t 5), none⟩,
    ⟨(some 24), .mov (.t 6), none⟩,
    ⟨(some 25), .bldS true 1 1 (.int .i64 0) [(0, (.t 24))], none⟩,
    ⟨(some 26), .app (.t 23) (.t 25) 1 8 (.int .i64 0), none⟩,
    ⟨(some 5), .mov (.t 26), none⟩]) (.skip))) <|
  .reg [⟨(some 15), .mov (.t 6), none⟩,
    ⟨(some 16), .bin .add (.t 15) (.c (.int .i64 1)), none⟩,
    ⟨(some 6), .mov (.t 16), none⟩]))) <|
  .seq (.reg [⟨(some 27), .mov (.t 5), none⟩,
    ⟨(some 4), .mov (.t 27), none⟩]) <|
  .ret,
  [.t 4]⟩
theorem F38_ok : cFn Tryd.prog true 38 loops38 (cDr Tryd.prog 28 tbl38) = some F38 := by kernel_rfl

def V38_L0 (a3 : D) (h4 : Heap) (a0 : D) (a1 : D) (J5 : List D → Heap → Prop) : Prop :=
  ∃ (I8 : Nat → List D → Heap → Prop) (n₀ : Nat), I8 n₀ [a3, (.int .i64 0)] h4 ∧ ∀ (n9 : Nat) (f10 : Nat → D) (h11 : Heap), I8 n9 [f10 5, f10 6] h11 →
  vbin .lss (f10 6) a0 fun a12 =>
  vguard a12 true (fun G13 =>
  G13 (f10 6) h11) h11 fun a14 h15 =>
  vguard a12 true (fun G16 =>
  vbin .lss a14 (.int .i64 64) fun a19 =>
  G16 a19 h15) h15 fun a17 h18 =>
  vhOp Tryd.prog (.pick (.c a12) (.c a17) (.c (.bool false))) h18 fun a20 h21 =>
  vcond a20 (∃ (J22 : List D → Heap → Prop), (∀ (f23 : Nat → D) (h24 : Heap), J22 [f23 5] h24 →
  vbin .add (f10 6) (.int .i64 1) fun a25 =>
  keq [a0, a1] [a0, a1] ∧ ∃ m, m < n9 ∧ I8 m [(f23 5), a25] h24) ∧
  vhOp Tryd.prog (.conv .u64 (.c (f10 6))) h21 fun a26 h27 =>
  vbin .shr a1 a26 fun a28 =>
  vbin .and a28 (.int .u64 1) fun a29 =>
  vbin .eql a29 (.int .u64 0) fun a30 =>
  vcond a30 (vhOp Tryd.prog (.bldS true 1 1 (.int .i64 0) [(0, (.c (f10 6)))]) h27 fun a31 h32 =>
  vhOp Tryd.prog (.app (.c (f10 5)) (.c a31) 1 8 (.int .i64 0)) h32 fun a33 h34 =>
  keq [a0, a1, (f10 6)] [a0, a1, (f10 6)] ∧ J22 [a33] h34) (
  keq [a0, a1, (f10 6)] [a0, a1, (f10 6)] ∧ J22 [(f10 5)] h27)) (
  keq [] [] ∧ J5 [(f10 5)] h21)
def V38 (a0 : D) (a1 : D) (h0 : Heap) (K : D → Heap → Prop) : Prop :=
  vhOp Tryd.prog (.bldS true 1 0 (.int .i64 0) []) h0 fun a3 h4 =>
  ∃ (J5 : List D → Heap → Prop), (∀ (f6 : Nat → D) (h7 : Heap), J5 [f6 5] h7 →
  K (f6 5) h7) ∧
  V38_L0 a3 h4 a0 a1 J5
theorem V38_ok (a0 : D) (a1 : D) (h0 : Heap) (K : D → Heap → Prop) : V38 a0 a1 h0 K = vcC Tryd.prog F38.code (fun x e h' => match x with | .exit _ => False | _ => vcRet Tryd.prog F38.res K e h') (params [a0, a1] 0) h0 := by kernel_rfl

/-- warpwright/launch.size -/
def loops39 : Nat → Option (List Nat × List Nat)
  | _ => none
def tbl39 : Nat → Option (List Nat × List Nat × List Nat)
  | _ => none
def F39 : AFunc := ⟨11,
  .seq (.reg [⟨(some 2), .box (.t 0), none⟩,
    ⟨(some 4), .mov (.c (.int .i64 0)), none⟩]) <|
  .seq (.seq (.reg [⟨(some 5), .fadd (.t 2) 1, none⟩,
    ⟨(some 6), .ld (.t 5) 1 false, none⟩,
    ⟨(some 7), .mov (.t 1), none⟩,
    ⟨(some 8), .bin .neq (.t 6) (.t 7), none⟩]) <|
  .cond (.t 8) (.seq (.reg [⟨(some 4), .mov (.c (.int .i64 0)), none⟩]) <|
  .ret) (.skip)) <|
  .seq (.reg [⟨(some 9), .fadd (.t 2) 3, none⟩,
    ⟨(some 10), .ld (.t 9) 1 false, none⟩,
    ⟨(some 4), .mov (.t 10), none⟩]) <|
  .ret,
  [.t 4]⟩
theorem F39_ok : cFn Tryd.prog true 39 loops39 (cDr Tryd.prog 11 tbl39) = some F39 := by kernel_rfl


def V39 (a0 : D) (a1 : D) (h0 : Heap) (K : D → Heap → Prop) : Prop :=
  vhOp Tryd.prog (.box (.c a0)) h0 fun a3 h4 =>
  vhOp Tryd.prog (.fadd (.c a3) 1) h4 fun a5 h6 =>
  vhOp Tryd.prog (.ld (.c a5) 1 false) h6 fun a7 h8 =>
  vbin .neq a7 a1 fun a9 =>
  vcond a9 (K (.int .i64 0) h8) (
  vhOp Tryd.prog (.fadd (.c a3) 3) h8 fun a10 h11 =>
  vhOp Tryd.prog (.ld (.c a10) 1 false) h11 fun a12 h13 =>
  K a12 h13)
theorem V39_ok (a0 : D) (a1 : D) (h0 : Heap) (K : D → Heap → Prop) : V39 a0 a1 h0 K = vcC Tryd.prog F39.code (fun x e h' => match x with | .exit _ => False | _ => vcRet Tryd.prog F39.res K e h') (params [a0, a1] 0) h0 := by kernel_rfl

/-- warpwright/warpwrightref04.words -/
def loops40 : Nat → Option (List Nat × List Nat)
  | _ => none
def tbl40 : Nat → Option (List Nat × List Nat × List Nat)
  | _ => none
def F40 : AFunc := ⟨11,
  .seq (.reg [⟨(some 2), .box (.t 0), none⟩,
    ⟨(some 4), .mov (.c (.int .i64 0)), none⟩]) <|
  .seq (.seq (.reg [⟨(some 5), .fadd (.t 2) 1, none⟩,
    ⟨(some 6), .ld (.t 5) 1 false, none⟩,
    ⟨(some 7), .mov (.t 1), none⟩,
    ⟨(some 8), .bin .eql (.t 6) (.t 7), none⟩]) <|
  .cond (.t 8) (.seq (.reg [⟨(some 9), .fadd (.t 2) 3, none⟩,
    ⟨(some 10), .ld (.t 9) 1 false, none⟩,
    ⟨(some 4), .mov (.t 10), none⟩]) <|
  .ret) (.skip)) <|
  .seq (.reg [⟨(some 4), .mov (.c (.int .i64 0)), none⟩]) <|
  .ret,
  [.t 4]⟩
theorem F40_ok : cFn Tryd.prog true 40 loops40 (cDr Tryd.prog 11 tbl40) = some F40 := by kernel_rfl


def V40 (a0 : D) (a1 : D) (h0 : Heap) (K : D → Heap → Prop) : Prop :=
  vhOp Tryd.prog (.box (.c a0)) h0 fun a3 h4 =>
  vhOp Tryd.prog (.fadd (.c a3) 1) h4 fun a5 h6 =>
  vhOp Tryd.prog (.ld (.c a5) 1 false) h6 fun a7 h8 =>
  vbin .eql a7 a1 fun a9 =>
  vcond a9 (vhOp Tryd.prog (.fadd (.c a3) 3) h8 fun a10 h11 =>
  vhOp Tryd.prog (.ld (.c a10) 1 false) h11 fun a12 h13 =>
  K a12 h13) (
  K (.int .i64 0) h8)
theorem V40_ok (a0 : D) (a1 : D) (h0 : Heap) (K : D → Heap → Prop) : V40 a0 a1 h0 K = vcC Tryd.prog F40.code (fun x e h' => match x with | .exit _ => False | _ => vcRet Tryd.prog F40.res K e h') (params [a0, a1] 0) h0 := by kernel_rfl

/-- slices.EqualFunc[[]warpwright/api.Array,warpwright/api.Memory,warpwright/api.Array,[]int32] -/
def loops41 : Nat → Option (List Nat × List Nat)
  | 1000011 => some ([], []) | 4 => some ([1, 2, 15, 16], [17]) | _ => none
def tbl41 : Nat → Option (List Nat × List Nat × List Nat)
  | _ => none
def F41 : AFunc := ⟨32,
  .seq (.reg [⟨(some 6), .mov (.c (.bool false)), none⟩]) <|
  .seq (.seq (.reg [⟨(some 10), .mov (.t 0), none⟩,
    ⟨(some 11), .len (.t 10), none⟩,
    ⟨(some 12), .mov (.t 1), none⟩,
    ⟨(some 13), .len (.t 12), none⟩,
    ⟨(some 14), .bin .neq (.t 11) (.t 13), none⟩]) <|
  .cond (.t 14) (.seq (.reg [⟨(some 6), .mov (.c (.bool false)), none⟩]) <|
  .ret) (.skip)) <|
  .seqj [] [] (.seq (.reg [⟨(some 15), .mov (.t 0), none⟩,
    ⟨(some 16), .len (.t 15), none⟩,
    ⟨(some 17), .mov (.c (.int .i64 0)), none⟩]) <|
  .block 0 (.loop [1, 2, 15, 16] [17] (.seq (.reg [⟨(some 18), .bin .lss (.t 17) (.t 16), none⟩]) <|
  .seq (.cond (.t 18) (.skip) (.exit 0)) <|
  .seq (.block 1 (.seq (.reg [⟨(some 19), .mov (.t 17), none⟩,
    ⟨(some 20), .iadd (.t 15) (.t 17) 4, none⟩,
    ⟨(some 21), .ld (.t 20) 4 true, none⟩,
    ⟨(some 8), .alloc (.agg [(.str ⟨#[]⟩), (.int .i64 0), (.int .i64 0), (.int .i64 0)]), none⟩,
    ⟨(some 7), .mov (.t 19), none⟩,
    ⟨none, .st (.t 8) (.t 21) 4, none⟩]) <|
  .seq (.reg [⟨(some 22), .mov (.t 1), none⟩,
    ⟨(some 23), .mov (.t 7), none⟩,
    ⟨(some 24), .iadd (.t 22) (.t 23) 1, none⟩,
    ⟨(some 25), .ld (.t 24) 1 false, none⟩,
    ⟨(some 9), .mov (.t 25), none⟩]) <|
  .seq (.reg [⟨(some 26), .mov (.t 2), none⟩,
    ⟨(some 27), .ld (.t 8) 4 true, none⟩,
    ⟨(some 28), .mov (.t 9), none⟩,
    ⟨(some 29), .callv (.t 26) [(.t 27), (.t 28)], none⟩,
    ⟨(some 30), .un .not (.t 29), none⟩]) <|
  .cond (.t 30) (.seq (.reg [⟨(some 6), .mov (.c (.bool false)), none⟩]) <|
  .ret) (.skip))) <|
  .reg [⟨(some 31), .bin .add (.t 17) (.c (.int .i64 1)), none⟩,
    ⟨(some 17), .mov (.t 31), none⟩]))) <|
  .seq (.reg [⟨(some 6), .mov (.c (.bool true)), none⟩]) <|
  .ret,
  [.t 6]⟩
theorem F41_ok : cFn Tryd.prog true 41 loops41 (cDr Tryd.prog 32 tbl41) = some F41 := by kernel_rfl

def V41_L0 (h0 : Heap) (a10 : D) (a0 : D) (a1 : D) (a2 : D) (J7 : List D → Heap → Prop) (K : D → Heap → Prop) : Prop :=
  ∃ (I11 : Nat → List D → Heap → Prop) (n₀ : Nat), I11 n₀ [(.int .i64 0)] h0 ∧ ∀ (n12 : Nat) (f13 : Nat → D) (h14 : Heap), I11 n12 [f13 17] h14 →
  vbin .lss (f13 17) a10 fun a15 =>
  vcond a15 (vhOp Tryd.prog (.iadd (.c a0) (.c (f13 17)) 4) h14 fun a16 h17 =>
  vhOp Tryd.prog (.ld (.c a16) 4 true) h17 fun a18 h19 =>
  vhOp Tryd.prog (.alloc (.agg [(.str ⟨#[]⟩), (.int .i64 0), (.int .i64 0), (.int .i64 0)])) h19 fun a20 h21 =>
  vhOp Tryd.prog (.st (.c a20) (.c a18) 4) h21 fun a22 h23 =>
  vhOp Tryd.prog (.iadd (.c a1) (.c (f13 17)) 1) h23 fun a24 h25 =>
  vhOp Tryd.prog (.ld (.c a24) 1 false) h25 fun a26 h27 =>
  vhOp Tryd.prog (.ld (.c a20) 4 true) h27 fun a28 h29 =>
  vhOp Tryd.prog (.callv (.c a2) [(.c a28), (.c a26)]) h29 fun a30 h31 =>
  vun .not a30 fun a32 =>
  vcond a32 (K (.bool false) h31) (
  vbin .add (f13 17) (.int .i64 1) fun a33 =>
  keq [a1, a2, a0, a10] [a1, a2, a0, a10] ∧ ∃ m, m < n12 ∧ I11 m [a33] h31)) (
  keq [] [] ∧ J7 [] h14)
def V41 (a0 : D) (a1 : D) (a2 : D) (h0 : Heap) (K : D → Heap → Prop) : Prop :=
  vlen a0 h0 fun a4 =>
  vlen a1 h0 fun a5 =>
  vbin .neq a4 a5 fun a6 =>
  vcond a6 (K (.bool false) h0) (
  ∃ (J7 : List D → Heap → Prop), (∀ (f8 : Nat → D) (h9 : Heap), J7 [] h9 →
  K (.bool true) h9) ∧
  vlen a0 h0 fun a10 =>
  V41_L0 h0 a10 a0 a1 a2 J7 K)
theorem V41_ok (a0 : D) (a1 : D) (a2 : D) (h0 : Heap) (K : D → Heap → Prop) : V41 a0 a1 a2 h0 K = vcC Tryd.prog F41.code (fun x e h' => match x with | .exit _ => False | _ => vcRet Tryd.prog F41.res K e h') (params [a0, a1, a2] 0) h0 := by kernel_rfl

/-- warpwright/launch.Fits$1 -/
def loops42 : Nat → Option (List Nat × List Nat)
  | _ => none
def tbl42 : Nat → Option (List Nat × List Nat × List Nat)
  | _ => none
def F42 : AFunc := ⟨12,
  .seq (.reg [⟨(some 3), .box (.t 0), none⟩,
    ⟨(some 5), .mov (.c (.bool false)), none⟩]) <|
  .seq (.reg [⟨(some 6), .ld (.t 3) 4 true, none⟩,
    ⟨(some 7), .ld (.t 2) 1 false, none⟩,
    ⟨(some 8), .call 39 [(.t 6), (.t 7)], none⟩,
    ⟨(some 9), .mov (.t 1), none⟩,
    ⟨(some 10), .len (.t 9), none⟩,
    ⟨(some 11), .bin .eql (.t 8) (.t 10), none⟩,
    ⟨(some 5), .mov (.t 11), none⟩]) <|
  .ret,
  [.t 5]⟩
theorem F42_ok : cFn Tryd.prog true 42 loops42 (cDr Tryd.prog 12 tbl42) = some F42 := by kernel_rfl


def V42 (a0 : D) (a1 : D) (a2 : D) (h0 : Heap) (K : D → Heap → Prop) : Prop :=
  vhOp Tryd.prog (.box (.c a0)) h0 fun a4 h5 =>
  vhOp Tryd.prog (.ld (.c a4) 4 true) h5 fun a6 h7 =>
  vhOp Tryd.prog (.ld (.c a2) 1 false) h7 fun a8 h9 =>
  ACall Tryd.prog 39 [a6, a8] h9 fun a10 h11 =>
  vlen a1 h11 fun a12 =>
  vbin .eql a10 a12 fun a13 =>
  K a13 h11
theorem V42_ok (a0 : D) (a1 : D) (a2 : D) (h0 : Heap) (K : D → Heap → Prop) : V42 a0 a1 a2 h0 K = vcC Tryd.prog F42.code (fun x e h' => match x with | .exit _ => False | _ => vcRet Tryd.prog F42.res K e h') (params [a0, a1, a2] 0) h0 := by kernel_rfl

/-- math/bits.OnesCount32 -/
def loops43 : Nat → Option (List Nat × List Nat)
  | _ => none
def tbl43 : Nat → Option (List Nat × List Nat × List Nat)
  | 1 => some ([0, 1, 3, 0, 8, 24, 56, 127, 0, 256, 768, 1792, 4095, 0, 8192, 24576, 65535, 131071, 262143], [], []) | _ => none
def F43 : AFunc := ⟨21,
  .seq (.reg [⟨(some 2), .mov (.c (.int .i64 0)), none⟩]) <|
  .seq (.dreg [⟨(some 3), .mov (.t 0), none⟩,
    ⟨(some 4), .bin .shr (.t 3) (.c (.int .u64 24)), none⟩,
    ⟨(some 5), .sidx (.c (.str ⟨#[0, 1, 1, 2, 1, 2, 2, 3, 1, 2, 2, 3, 2, 3, 3, 4, 1, 2, 2, 3, 2, 3, 3, 4, 2, 3, 3, 4, 3, 4, 4, 5, 1, 2, 2, 3, 2, 3, 3, 4, 2, 3, 3, 4, 3, 4, 4, 5, 2, 3, 3, 4, 3, 4, 4, 5, 3, 4, 4, 5, 4, 5, 5, 6, 1, 2, 2, 3, 2, 3, 3, 4, 2, 3, 3, 4, 3, 4, 4, 5, 2, 3, 3, 4, 3, 4, 4, 5, 3, 4, 4, 5, 4, 5, 5, 6, 2, 3, 3, 4, 3, 4, 4, 5, 3, 4, 4, 5, 4, 5, 5, 6, 3, 4, 4, 5, 4, 5, 5, 6, 4, 5, 5, 6, 5, 6, 6, 7, 1, 2, 2, 3, 2, 3, 3, 4, 2, 3, 3, 4, 3, 4, 4, 5, 2, 3, 3, 4, 3, 4, 4, 5, 3, 4, 4, 5, 4, 5, 5, 6, 2, 3, 3, 4, 3, 4, 4, 5, 3, 4, 4, 5, 4, 5, 5, 6, 3, 4, 4, 5, 4, 5, 5, 6, 4, 5, 5, 6, 5, 6, 6, 7, 2, 3, 3, 4, 3, 4, 4, 5, 3, 4, 4, 5, 4, 5, 5, 6, 3, 4, 4, 5, 4, 5, 5, 6, 4, 5, 5, 6, 5, 6, 6, 7, 3, 4, 4, 5, 4, 5, 5, 6, 4, 5, 5, 6, 5, 6, 6, 7, 4, 5, 5, 6, 5, 6, 6, 7, 5, 6, 6, 7, 6, 7, 7, 8]⟩)) (.t 4), none⟩,
    ⟨(some 6), .mov (.t 0), none⟩,
    ⟨(some 7), .bin .shr (.t 6) (.c (.int .u64 16)), none⟩,
    ⟨(some 8), .bin .and (.t 7) (.c (.int .u32 255)), none⟩,
    ⟨(some 9), .sidx (.c (.str ⟨#[0, 1, 1, 2, 1, 2, 2, 3, 1, 2, 2, 3, 2, 3, 3, 4, 1, 2, 2, 3, 2, 3, 3, 4, 2, 3, 3, 4, 3, 4, 4, 5, 1, 2, 2, 3, 2, 3, 3, 4, 2, 3, 3, 4, 3, 4, 4, 5, 2, 3, 3, 4, 3, 4, 4, 5, 3, 4, 4, 5, 4, 5, 5, 6, 1, 2, 2, 3, 2, 3, 3, 4, 2, 3, 3, 4, 3, 4, 4, 5, 2, 3, 3, 4, 3, 4, 4, 5, 3, 4, 4, 5, 4, 5, 5, 6, 2, 3, 3, 4, 3, 4, 4, 5, 3, 4, 4, 5, 4, 5, 5, 6, 3, 4, 4, 5, 4, 5, 5, 6, 4, 5, 5, 6, 5, 6, 6, 7, 1, 2, 2, 3, 2, 3, 3, 4, 2, 3, 3, 4, 3, 4, 4, 5, 2, 3, 3, 4, 3, 4, 4, 5, 3, 4, 4, 5, 4, 5, 5, 6, 2, 3, 3, 4, 3, 4, 4, 5, 3, 4, 4, 5, 4, 5, 5, 6, 3, 4, 4, 5, 4, 5, 5, 6, 4, 5, 5, 6, 5, 6, 6, 7, 2, 3, 3, 4, 3, 4, 4, 5, 3, 4, 4, 5, 4, 5, 5, 6, 3, 4, 4, 5, 4, 5, 5, 6, 4, 5, 5, 6, 5, 6, 6, 7, 3, 4, 4, 5, 4, 5, 5, 6, 4, 5, 5, 6, 5, 6, 6, 7, 4, 5, 5, 6, 5, 6, 6, 7, 5, 6, 6, 7, 6, 7, 7, 8]⟩)) (.t 8), none⟩,
    ⟨(some 10), .bin .add (.t 5) (.t 9), none⟩,
    ⟨(some 11), .mov (.t 0), none⟩,
    ⟨(some 12), .bin .shr (.t 11) (.c (.int .u64 8)), none⟩,
    ⟨(some 13), .bin .and (.t 12) (.c (.int .u32 255)), none⟩,
    ⟨(some 14), .sidx (.c (.str ⟨#[0, 1, 1, 2, 1, 2, 2, 3, 1, 2, 2, 3, 2, 3, 3, 4, 1, 2, 2, 3, 2, 3, 3, 4, 2, 3, 3, 4, 3, 4, 4, 5, 1, 2, 2, 3, 2, 3, 3, 4, 2, 3, 3, 4, 3, 4, 4, 5, 2, 3, 3, 4, 3, 4, 4, 5, 3, 4, 4, 5, 4, 5, 5, 6, 1, 2, 2, 3, 2, 3, 3, 4, 2, 3, 3, 4, 3, 4, 4, 5, 2, 3, 3, 4, 3, 4, 4, 5, 3, 4, 4, 5, 4, 5, 5, 6, 2, 3, 3, 4, 3, 4, 4, 5, 3, 4, 4, 5, 4, 5, 5, 6, 3, 4, 4, 5, 4, 5, 5, 6, 4, 5, 5, 6, 5, 6, 6, 7, 1, 2, 2, 3, 2, 3, 3, 4, 2, 3, 3, 4, 3, 4, 4, 5, 2, 3, 3, 4, 3, 4, 4, 5, 3, 4, 4, 5, 4, 5, 5, 6, 2, 3, 3, 4, 3, 4, 4, 5, 3, 4, 4, 5, 4, 5, 5, 6, 3, 4, 4, 5, 4, 5, 5, 6, 4, 5, 5, 6, 5, 6, 6, 7, 2, 3, 3, 4, 3, 4, 4, 5, 3, 4, 4, 5, 4, 5, 5, 6, 3, 4, 4, 5, 4, 5, 5, 6, 4, 5, 5, 6, 5, 6, 6, 7, 3, 4, 4, 5, 4, 5, 5, 6, 4, 5, 5, 6, 5, 6, 6, 7, 4, 5, 5, 6, 5, 6, 6, 7, 5, 6, 6, 7, 6, 7, 7, 8]⟩)) (.t 13), none⟩,
    ⟨(some 15), .bin .add (.t 10) (.t 14), none⟩,
    ⟨(some 16), .mov (.t 0), none⟩,
    ⟨(some 17), .bin .and (.t 16) (.c (.int .u32 255)), none⟩,
    ⟨(some 18), .sidx (.c (.str ⟨#[0, 1, 1, 2, 1, 2, 2, 3, 1, 2, 2, 3, 2, 3, 3, 4, 1, 2, 2, 3, 2, 3, 3, 4, 2, 3, 3, 4, 3, 4, 4, 5, 1, 2, 2, 3, 2, 3, 3, 4, 2, 3, 3, 4, 3, 4, 4, 5, 2, 3, 3, 4, 3, 4, 4, 5, 3, 4, 4, 5, 4, 5, 5, 6, 1, 2, 2, 3, 2, 3, 3, 4, 2, 3, 3, 4, 3, 4, 4, 5, 2, 3, 3, 4, 3, 4, 4, 5, 3, 4, 4, 5, 4, 5, 5, 6, 2, 3, 3, 4, 3, 4, 4, 5, 3, 4, 4, 5, 4, 5, 5, 6, 3, 4, 4, 5, 4, 5, 5, 6, 4, 5, 5, 6, 5, 6, 6, 7, 1, 2, 2, 3, 2, 3, 3, 4, 2, 3, 3, 4, 3, 4, 4, 5, 2, 3, 3, 4, 3, 4, 4, 5, 3, 4, 4, 5, 4, 5, 5, 6, 2, 3, 3, 4, 3, 4, 4, 5, 3, 4, 4, 5, 4, 5, 5, 6, 3, 4, 4, 5, 4, 5, 5, 6, 4, 5, 5, 6, 5, 6, 6, 7, 2, 3, 3, 4, 3, 4, 4, 5, 3, 4, 4, 5, 4, 5, 5, 6, 3, 4, 4, 5, 4, 5, 5, 6, 4, 5, 5, 6, 5, 6, 6, 7, 3, 4, 4, 5, 4, 5, 5, 6, 4, 5, 5, 6, 5, 6, 6, 7, 4, 5, 5, 6, 5, 6, 6, 7, 5, 6, 6, 7, 6, 7, 7, 8]⟩)) (.t 17), none⟩,
    ⟨(some 19), .bin .add (.t 15) (.t 18), none⟩,
    ⟨(some 20), .conv .i64 (.t 19), none⟩,
    ⟨(some 2), .mov (.t 20), none⟩] [] []) <|
  .ret,
  [.t 2]⟩
theorem F43_ok : cFn Tryd.prog true 43 loops43 (cDr Tryd.prog 21 tbl43) = some F43 := by kernel_rfl


def V43 (a0 : D) (h0 : Heap) (K : D → Heap → Prop) : Prop :=
  vbin .shr a0 (.int .u64 24) fun a2 =>
  vdOp Tryd.prog (.sidx (.c (.str ⟨#[0, 1, 1, 2, 1, 2, 2, 3, 1, 2, 2, 3, 2, 3, 3, 4, 1, 2, 2, 3, 2, 3, 3, 4, 2, 3, 3, 4, 3, 4, 4, 5, 1, 2, 2, 3, 2, 3, 3, 4, 2, 3, 3, 4, 3, 4, 4, 5, 2, 3, 3, 4, 3, 4, 4, 5, 3, 4, 4, 5, 4, 5, 5, 6, 1, 2, 2, 3, 2, 3, 3, 4, 2, 3, 3, 4, 3, 4, 4, 5, 2, 3, 3, 4, 3, 4, 4, 5, 3, 4, 4, 5, 4, 5, 5, 6, 2, 3, 3, 4, 3, 4, 4, 5, 3, 4, 4, 5, 4, 5, 5, 6, 3, 4, 4, 5, 4, 5, 5, 6, 4, 5, 5, 6, 5, 6, 6, 7, 1, 2, 2, 3, 2, 3, 3, 4, 2, 3, 3, 4, 3, 4, 4, 5, 2, 3, 3, 4, 3, 4, 4, 5, 3, 4, 4, 5, 4, 5, 5, 6, 2, 3, 3, 4, 3, 4, 4, 5, 3, 4, 4, 5, 4, 5, 5, 6, 3, 4, 4, 5, 4, 5, 5, 6, 4, 5, 5, 6, 5, 6, 6, 7, 2, 3, 3, 4, 3, 4, 4, 5, 3, 4, 4, 5, 4, 5, 5, 6, 3, 4, 4, 5, 4, 5, 5, 6, 4, 5, 5, 6, 5, 6, 6, 7, 3, 4, 4, 5, 4, 5, 5, 6, 4, 5, 5, 6, 5, 6, 6, 7, 4, 5, 5, 6, 5, 6, 6, 7, 5, 6, 6, 7, 6, 7, 7, 8]⟩)) (.c a2)) h0 fun a3 =>
  vbin .shr a0 (.int .u64 16) fun a4 =>
  vbin .and a4 (.int .u32 255) fun a5 =>
  vdOp Tryd.prog (.sidx (.c (.str ⟨#[0, 1, 1, 2, 1, 2, 2, 3, 1, 2, 2, 3, 2, 3, 3, 4, 1, 2, 2, 3, 2, 3, 3, 4, 2, 3, 3, 4, 3, 4, 4, 5, 1, 2, 2, 3, 2, 3, 3, 4, 2, 3, 3, 4, 3, 4, 4, 5, 2, 3, 3, 4, 3, 4, 4, 5, 3, 4, 4, 5, 4, 5, 5, 6, 1, 2, 2, 3, 2, 3, 3, 4, 2, 3, 3, 4, 3, 4, 4, 5, 2, 3, 3, 4, 3, 4, 4, 5, 3, 4, 4, 5, 4, 5, 5, 6, 2, 3, 3, 4, 3, 4, 4, 5, 3, 4, 4, 5, 4, 5, 5, 6, 3, 4, 4, 5, 4, 5, 5, 6, 4, 5, 5, 6, 5, 6, 6, 7, 1, 2, 2, 3, 2, 3, 3, 4, 2, 3, 3, 4, 3, 4, 4, 5, 2, 3, 3, 4, 3, 4, 4, 5, 3, 4, 4, 5, 4, 5, 5, 6, 2, 3, 3, 4, 3, 4, 4, 5, 3, 4, 4, 5, 4, 5, 5, 6, 3, 4, 4, 5, 4, 5, 5, 6, 4, 5, 5, 6, 5, 6, 6, 7, 2, 3, 3, 4, 3, 4, 4, 5, 3, 4, 4, 5, 4, 5, 5, 6, 3, 4, 4, 5, 4, 5, 5, 6, 4, 5, 5, 6, 5, 6, 6, 7, 3, 4, 4, 5, 4, 5, 5, 6, 4, 5, 5, 6, 5, 6, 6, 7, 4, 5, 5, 6, 5, 6, 6, 7, 5, 6, 6, 7, 6, 7, 7, 8]⟩)) (.c a5)) h0 fun a6 =>
  vbin .add a3 a6 fun a7 =>
  vbin .shr a0 (.int .u64 8) fun a8 =>
  vbin .and a8 (.int .u32 255) fun a9 =>
  vdOp Tryd.prog (.sidx (.c (.str ⟨#[0, 1, 1, 2, 1, 2, 2, 3, 1, 2, 2, 3, 2, 3, 3, 4, 1, 2, 2, 3, 2, 3, 3, 4, 2, 3, 3, 4, 3, 4, 4, 5, 1, 2, 2, 3, 2, 3, 3, 4, 2, 3, 3, 4, 3, 4, 4, 5, 2, 3, 3, 4, 3, 4, 4, 5, 3, 4, 4, 5, 4, 5, 5, 6, 1, 2, 2, 3, 2, 3, 3, 4, 2, 3, 3, 4, 3, 4, 4, 5, 2, 3, 3, 4, 3, 4, 4, 5, 3, 4, 4, 5, 4, 5, 5, 6, 2, 3, 3, 4, 3, 4, 4, 5, 3, 4, 4, 5, 4, 5, 5, 6, 3, 4, 4, 5, 4, 5, 5, 6, 4, 5, 5, 6, 5, 6, 6, 7, 1, 2, 2, 3, 2, 3, 3, 4, 2, 3, 3, 4, 3, 4, 4, 5, 2, 3, 3, 4, 3, 4, 4, 5, 3, 4, 4, 5, 4, 5, 5, 6, 2, 3, 3, 4, 3, 4, 4, 5, 3, 4, 4, 5, 4, 5, 5, 6, 3, 4, 4, 5, 4, 5, 5, 6, 4, 5, 5, 6, 5, 6, 6, 7, 2, 3, 3, 4, 3, 4, 4, 5, 3, 4, 4, 5, 4, 5, 5, 6, 3, 4, 4, 5, 4, 5, 5, 6, 4, 5, 5, 6, 5, 6, 6, 7, 3, 4, 4, 5, 4, 5, 5, 6, 4, 5, 5, 6, 5, 6, 6, 7, 4, 5, 5, 6, 5, 6, 6, 7, 5, 6, 6, 7, 6, 7, 7, 8]⟩)) (.c a9)) h0 fun a10 =>
  vbin .add a7 a10 fun a11 =>
  vbin .and a0 (.int .u32 255) fun a12 =>
  vdOp Tryd.prog (.sidx (.c (.str ⟨#[0, 1, 1, 2, 1, 2, 2, 3, 1, 2, 2, 3, 2, 3, 3, 4, 1, 2, 2, 3, 2, 3, 3, 4, 2, 3, 3, 4, 3, 4, 4, 5, 1, 2, 2, 3, 2, 3, 3, 4, 2, 3, 3, 4, 3, 4, 4, 5, 2, 3, 3, 4, 3, 4, 4, 5, 3, 4, 4, 5, 4, 5, 5, 6, 1, 2, 2, 3, 2, 3, 3, 4, 2, 3, 3, 4, 3, 4, 4, 5, 2, 3, 3, 4, 3, 4, 4, 5, 3, 4, 4, 5, 4, 5, 5, 6, 2, 3, 3, 4, 3, 4, 4, 5, 3, 4, 4, 5, 4, 5, 5, 6, 3, 4, 4, 5, 4, 5, 5, 6, 4, 5, 5, 6, 5, 6, 6, 7, 1, 2, 2, 3, 2, 3, 3, 4, 2, 3, 3, 4, 3, 4, 4, 5, 2, 3, 3, 4, 3, 4, 4, 5, 3, 4, 4, 5, 4, 5, 5, 6, 2, 3, 3, 4, 3, 4, 4, 5, 3, 4, 4, 5, 4, 5, 5, 6, 3, 4, 4, 5, 4, 5, 5, 6, 4, 5, 5, 6, 5, 6, 6, 7, 2, 3, 3, 4, 3, 4, 4, 5, 3, 4, 4, 5, 4, 5, 5, 6, 3, 4, 4, 5, 4, 5, 5, 6, 4, 5, 5, 6, 5, 6, 6, 7, 3, 4, 4, 5, 4, 5, 5, 6, 4, 5, 5, 6, 5, 6, 6, 7, 4, 5, 5, 6, 5, 6, 6, 7, 5, 6, 6, 7, 6, 7, 7, 8]⟩)) (.c a12)) h0 fun a13 =>
  vbin .add a11 a13 fun a14 =>
  vdOp Tryd.prog (.conv .i64 (.c a14)) h0 fun a15 =>
  K a15 h0
theorem V43_ok (a0 : D) (h0 : Heap) (K : D → Heap → Prop) : V43 a0 h0 K = vcC Tryd.prog F43.code (fun x e h' => match x with | .exit _ => False | _ => vcRet Tryd.prog F43.res K e h') (params [a0] 0) h0 := by kernel_rfl

/-- math/bits.OnesCount64 -/
def loops44 : Nat → Option (List Nat × List Nat)
  | _ => none
def tbl44 : Nat → Option (List Nat × List Nat × List Nat)
  | _ => none
def F44 : AFunc := ⟨35,
  .seq (.reg [⟨(some 2), .mov (.c (.int .i64 0)), none⟩]) <|
  .seq (.reg [⟨(some 3), .mov (.t 0), none⟩,
    ⟨(some 4), .bin .shr (.t 3) (.c (.int .u64 1)), none⟩,
    ⟨(some 5), .bin .and (.t 4) (.c (.int .u64 6148914691236517205)), none⟩,
    ⟨(some 6), .mov (.t 0), none⟩,
    ⟨(some 7), .bin .and (.t 6) (.c (.int .u64 6148914691236517205)), none⟩,
    ⟨(some 8), .bin .add (.t 5) (.t 7), none⟩,
    ⟨(some 0), .mov (.t 8), none⟩]) <|
  .seq (.reg [⟨(some 9), .mov (.t 0), none⟩,
    ⟨(some 10), .bin .shr (.t 9) (.c (.int .u64 2)), none⟩,
    ⟨(some 11), .bin .and (.t 10) (.c (.int .u64 3689348814741910323)), none⟩,
    ⟨(some 12), .mov (.t 0), none⟩,
    ⟨(some 13), .bin .and (.t 12) (.c (.int .u64 3689348814741910323)), none⟩,
    ⟨(some 14), .bin .add (.t 11) (.t 13), none⟩,
    ⟨(some 0), .mov (.t 14), none⟩]) <|
  .seq (.reg [⟨(some 15), .mov (.t 0), none⟩,
    ⟨(some 16), .bin .shr (.t 15) (.c (.int .u64 4)), none⟩,
    ⟨(some 17), .mov (.t 0), none⟩,
    ⟨(some 18), .bin .add (.t 16) (.t 17), none⟩,
    ⟨(some 19), .bin .and (.t 18) (.c (.int .u64 1085102592571150095)), none⟩,
    ⟨(some 0), .mov (.t 19), none⟩]) <|
  .seq (.reg [⟨(some 20), .mov (.t 0), none⟩,
    ⟨(some 21), .mov (.t 0), none⟩,
    ⟨(some 22), .bin .shr (.t 21) (.c (.int .u64 8)), none⟩,
    ⟨(some 23), .bin .add (.t 20) (.t 22), none⟩,
    ⟨(some 0), .mov (.t 23), none⟩]) <|
  .seq (.reg [⟨(some 24), .mov (.t 0), none⟩,
    ⟨(some 25), .mov (.t 0), none⟩,
    ⟨(some 26), .bin .shr (.t 25) (.c (.int .u64 16)), none⟩,
    ⟨(some 27), .bin .add (.t 24) (.t 26), none⟩,
    ⟨(some 0), .mov (.t 27), none⟩]) <|
  .seq (.reg [⟨(some 28), .mov (.t 0), none⟩,
    ⟨(some 29), .mov (.t 0), none⟩,
    ⟨(some 30), .bin .shr (.t 29) (.c (.int .u64 32)), none⟩,
    ⟨(some 31), .bin .add (.t 28) (.t 30), none⟩,
    ⟨(some 0), .mov (.t 31), none⟩]) <|
  .seq (.reg [⟨(some 32), .mov (.t 0), none⟩,
    ⟨(some 33), .conv .i64 (.t 32), none⟩,
    ⟨(some 34), .bin .and (.t 33) (.c (.int .i64 127)), none⟩,
    ⟨(some 2), .mov (.t 34), none⟩]) <|
  .ret,
  [.t 2]⟩
theorem F44_ok : cFn Tryd.prog true 44 loops44 (cDr Tryd.prog 35 tbl44) = some F44 := by kernel_rfl


def V44 (a0 : D) (h0 : Heap) (K : D → Heap → Prop) : Prop :=
  vbin .shr a0 (.int .u64 1) fun a2 =>
  vbin .and a2 (.int .u64 6148914691236517205) fun a3 =>
  vbin .and a0 (.int .u64 6148914691236517205) fun a4 =>
  vbin .add a3 a4 fun a5 =>
  vbin .shr a5 (.int .u64 2) fun a6 =>
  vbin .and a6 (.int .u64 3689348814741910323) fun a7 =>
  vbin .and a5 (.int .u64 3689348814741910323) fun a8 =>
  vbin .add a7 a8 fun a9 =>
  vbin .shr a9 (.int .u64 4) fun a10 =>
  vbin .add a10 a9 fun a11 =>
  vbin .and a11 (.int .u64 1085102592571150095) fun a12 =>
  vbin .shr a12 (.int .u64 8) fun a13 =>
  vbin .add a12 a13 fun a14 =>
  vbin .shr a14 (.int .u64 16) fun a15 =>
  vbin .add a14 a15 fun a16 =>
  vbin .shr a16 (.int .u64 32) fun a17 =>
  vbin .add a16 a17 fun a18 =>
  vhOp Tryd.prog (.conv .i64 (.c a18)) h0 fun a19 h20 =>
  vbin .and a19 (.int .i64 127) fun a21 =>
  K a21 h20
theorem V44_ok (a0 : D) (h0 : Heap) (K : D → Heap → Prop) : V44 a0 h0 K = vcC Tryd.prog F44.code (fun x e h' => match x with | .exit _ => False | _ => vcRet Tryd.prog F44.res K e h') (params [a0] 0) h0 := by kernel_rfl

/-- warpwright/launch.folded -/
def loops45 : Nat → Option (List Nat × List Nat)
  | 1000007 => some ([0], [1]) | 2 => some ([0, 2, 9], [1, 10]) | _ => none
def tbl45 : Nat → Option (List Nat × List Nat × List Nat)
  | _ => none
def F45 : AFunc := ⟨23,
  .seq (.reg [⟨(some 6), .mov (.c .nil), none⟩]) <|
  .seqj [0] [1] (.seq (.reg [⟨(some 8), .mov (.t 0), none⟩,
    ⟨(some 9), .len (.t 8), none⟩,
    ⟨(some 10), .mov (.c (.int .i64 0)), none⟩]) <|
  .block 0 (.loop [0, 2, 9] [1, 10] (.seq (.reg [⟨(some 11), .bin .lss (.t 10) (.t 9), none⟩]) <|
  .seq (.cond (.t 11) (.skip) (.exit 0)) <|
  .seq (.block 1 (.seq (.reg [⟨(some 12), .mov (.t 10), none⟩,
    ⟨(some 7), .mov (.t 12), none⟩]) <|
  .reg [⟨(some 13), .mov (.t 2), none⟩,
    ⟨(some 14), .mov (.t 1), none⟩,
    ⟨(some 15), .mov (.t 7), none⟩,
    ⟨(some 16), .callv (.t 13) [(.t 14), (.t 15)], none⟩,
    ⟨(some 1), .mov (.t 16), none⟩])) <|
  .reg [⟨(some 17), .bin .add (.t 10) (.c (.int .i64 1)), none⟩,
    ⟨(some 10), .mov (.t 17), none⟩]))) <|
  .seq (.reg [⟨(some 18), .mov (.t 1), none⟩,
    ⟨(some 19), .bldS true 1 1 (.int .i32 0) [(0, (.t 18))], none⟩,
    ⟨(some 20), .mov (.t 0), none⟩,
    ⟨(some 21), .len (.t 20), none⟩,
    ⟨(some 22), .call 55 [(.t 19), (.t 21)], none⟩,
    ⟨(some 6), .mov (.t 22), none⟩]) <|
  .ret,
  [.t 6]⟩
theorem F45_ok : cFn Tryd.prog true 45 loops45 (cDr Tryd.prog 23 tbl45) = some F45 := by kernel_rfl

def V45_L0 (a1 : D) (h0 : Heap) (a12 : D) (a2 : D) (a0 : D) (J4 : List D → Heap → Prop) : Prop :=
  ∃ (I13 : Nat → List D → Heap → Prop) (n₀ : Nat), I13 n₀ [a1, (.int .i64 0)] h0 ∧ ∀ (n14 : Nat) (f15 : Nat → D) (h16 : Heap), I13 n14 [f15 1, f15 10] h16 →
  vbin .lss (f15 10) a12 fun a17 =>
  vcond a17 (vhOp Tryd.prog (.callv (.c a2) [(.c (f15 1)), (.c (f15 10))]) h16 fun a18 h19 =>
  vbin .add (f15 10) (.int .i64 1) fun a20 =>
  keq [a0, a2, a12] [a0, a2, a12] ∧ ∃ m, m < n14 ∧ I13 m [a18, a20] h19) (
  keq [a0] [a0] ∧ J4 [(f15 1)] h16)
def V45 (a0 : D) (a1 : D) (a2 : D) (h0 : Heap) (K : D → Heap → Prop) : Prop :=
  ∃ (J4 : List D → Heap → Prop), (∀ (f5 : Nat → D) (h6 : Heap), J4 [f5 1] h6 →
  vhOp Tryd.prog (.bldS true 1 1 (.int .i32 0) [(0, (.c (f5 1)))]) h6 fun a7 h8 =>
  vlen a0 h8 fun a9 =>
  ACall Tryd.prog 55 [a7, a9] h8 fun a10 h11 =>
  K a10 h11) ∧
  vlen a0 h0 fun a12 =>
  V45_L0 a1 h0 a12 a2 a0 J4
theorem V45_ok (a0 : D) (a1 : D) (a2 : D) (h0 : Heap) (K : D → Heap → Prop) : V45 a0 a1 a2 h0 K = vcC Tryd.prog F45.code (fun x e h' => match x with | .exit _ => False | _ => vcRet Tryd.prog F45.res K e h') (params [a0, a1, a2] 0) h0 := by kernel_rfl

/-- warpwright/launch.Collect$1 -/
def loops46 : Nat → Option (List Nat × List Nat)
  | _ => none
def tbl46 : Nat → Option (List Nat × List Nat × List Nat)
  | _ => none
def F46 : AFunc := ⟨16,
  .seq (.reg [⟨(some 5), .mov (.c (.int .i32 0)), none⟩]) <|
  .seq (.reg [⟨(some 6), .mov (.t 0), none⟩,
    ⟨(some 7), .ld (.t 2) 1 false, none⟩,
    ⟨(some 8), .mov (.t 1), none⟩,
    ⟨(some 9), .iadd (.t 7) (.t 8) 1, none⟩,
    ⟨(some 10), .ld (.t 9) 1 false, none⟩,
    ⟨(some 11), .bin .neq (.t 10) (.c (.int .i32 0)), none⟩,
    ⟨(some 12), .call 47 [(.t 11)], none⟩,
    ⟨(some 13), .mov (.t 1), none⟩,
    ⟨(some 14), .bin .shl (.t 12) (.t 13), none⟩,
    ⟨(some 15), .bin .or (.t 6) (.t 14), none⟩,
    ⟨(some 5), .mov (.t 15), none⟩]) <|
  .ret,
  [.t 5]⟩
theorem F46_ok : cFn Tryd.prog true 46 loops46 (cDr Tryd.prog 16 tbl46) = some F46 := by kernel_rfl


def V46 (a0 : D) (a1 : D) (a2 : D) (h0 : Heap) (K : D → Heap → Prop) : Prop :=
  vhOp Tryd.prog (.ld (.c a2) 1 false) h0 fun a4 h5 =>
  vhOp Tryd.prog (.iadd (.c a4) (.c a1) 1) h5 fun a6 h7 =>
  vhOp Tryd.prog (.ld (.c a6) 1 false) h7 fun a8 h9 =>
  vbin .neq a8 (.int .i32 0) fun a10 =>
  ACall Tryd.prog 47 [a10] h9 fun a11 h12 =>
  vbin .shl a11 a1 fun a13 =>
  vbin .or a0 a13 fun a14 =>
  K a14 h12
theorem V46_ok (a0 : D) (a1 : D) (a2 : D) (h0 : Heap) (K : D → Heap → Prop) : V46 a0 a1 a2 h0 K = vcC Tryd.prog F46.code (fun x e h' => match x with | .exit _ => False | _ => vcRet Tryd.prog F46.res K e h') (params [a0, a1, a2] 0) h0 := by kernel_rfl

/-- warpwright/launch.truth -/
def loops47 : Nat → Option (List Nat × List Nat)
  | _ => none
def tbl47 : Nat → Option (List Nat × List Nat × List Nat)
  | _ => none
def F47 : AFunc := ⟨4,
  .seq (.reg [⟨(some 2), .mov (.c (.int .i32 0)), none⟩]) <|
  .seq (.seq (.reg [⟨(some 3), .mov (.t 0), none⟩]) <|
  .cond (.t 3) (.seq (.reg [⟨(some 2), .mov (.c (.int .i32 1)), none⟩]) <|
  .ret) (.skip)) <|
  .seq (.reg [⟨(some 2), .mov (.c (.int .i32 0)), none⟩]) <|
  .ret,
  [.t 2]⟩
theorem F47_ok : cFn Tryd.prog true 47 loops47 (cDr Tryd.prog 4 tbl47) = some F47 := by kernel_rfl


def V47 (a0 : D) (h0 : Heap) (K : D → Heap → Prop) : Prop :=
  vcond a0 (K (.int .i32 1) h0) (
  K (.int .i32 0) h0)
theorem V47_ok (a0 : D) (h0 : Heap) (K : D → Heap → Prop) : V47 a0 h0 K = vcC Tryd.prog F47.code (fun x e h' => match x with | .exit _ => False | _ => vcRet Tryd.prog F47.res K e h') (params [a0] 0) h0 := by kernel_rfl

/-- warpwright/launch.Collect$2 -/
def loops48 : Nat → Option (List Nat × List Nat)
  | _ => none
def tbl48 : Nat → Option (List Nat × List Nat × List Nat)
  | _ => none
def F48 : AFunc := ⟨14,
  .seq (.reg [⟨(some 5), .mov (.c (.int .i32 0)), none⟩]) <|
  .seq (.reg [⟨(some 6), .mov (.t 0), none⟩,
    ⟨(some 7), .ld (.t 2) 1 false, none⟩,
    ⟨(some 8), .mov (.t 1), none⟩,
    ⟨(some 9), .iadd (.t 7) (.t 8) 1, none⟩,
    ⟨(some 10), .ld (.t 9) 1 false, none⟩,
    ⟨(some 11), .bin .neq (.t 10) (.c (.int .i32 0)), none⟩,
    ⟨(some 12), .call 47 [(.t 11)], none⟩,
    ⟨(some 13), .bin .or (.t 6) (.t 12), none⟩,
    ⟨(some 5), .mov (.t 13), none⟩]) <|
  .ret,
  [.t 5]⟩
theorem F48_ok : cFn Tryd.prog true 48 loops48 (cDr Tryd.prog 14 tbl48) = some F48 := by kernel_rfl


def V48 (a0 : D) (a1 : D) (a2 : D) (h0 : Heap) (K : D → Heap → Prop) : Prop :=
  vhOp Tryd.prog (.ld (.c a2) 1 false) h0 fun a4 h5 =>
  vhOp Tryd.prog (.iadd (.c a4) (.c a1) 1) h5 fun a6 h7 =>
  vhOp Tryd.prog (.ld (.c a6) 1 false) h7 fun a8 h9 =>
  vbin .neq a8 (.int .i32 0) fun a10 =>
  ACall Tryd.prog 47 [a10] h9 fun a11 h12 =>
  vbin .or a0 a11 fun a13 =>
  K a13 h12
theorem V48_ok (a0 : D) (a1 : D) (a2 : D) (h0 : Heap) (K : D → Heap → Prop) : V48 a0 a1 a2 h0 K = vcC Tryd.prog F48.code (fun x e h' => match x with | .exit _ => False | _ => vcRet Tryd.prog F48.res K e h') (params [a0, a1, a2] 0) h0 := by kernel_rfl

/-- warpwright/launch.Collect$3 -/
def loops49 : Nat → Option (List Nat × List Nat)
  | _ => none
def tbl49 : Nat → Option (List Nat × List Nat × List Nat)
  | _ => none
def F49 : AFunc := ⟨14,
  .seq (.reg [⟨(some 5), .mov (.c (.int .i32 0)), none⟩]) <|
  .seq (.reg [⟨(some 6), .mov (.t 0), none⟩,
    ⟨(some 7), .ld (.t 2) 1 false, none⟩,
    ⟨(some 8), .mov (.t 1), none⟩,
    ⟨(some 9), .iadd (.t 7) (.t 8) 1, none⟩,
    ⟨(some 10), .ld (.t 9) 1 false, none⟩,
    ⟨(some 11), .bin .neq (.t 10) (.c (.int .i32 0)), none⟩,
    ⟨(some 12), .call 47 [(.t 11)], none⟩,
    ⟨(some 13), .bin .and (.t 6) (.t 12), none⟩,
    ⟨(some 5), .mov (.t 13), none⟩]) <|
  .ret,
  [.t 5]⟩
theorem F49_ok : cFn Tryd.prog true 49 loops49 (cDr Tryd.prog 14 tbl49) = some F49 := by kernel_rfl


def V49 (a0 : D) (a1 : D) (a2 : D) (h0 : Heap) (K : D → Heap → Prop) : Prop :=
  vhOp Tryd.prog (.ld (.c a2) 1 false) h0 fun a4 h5 =>
  vhOp Tryd.prog (.iadd (.c a4) (.c a1) 1) h5 fun a6 h7 =>
  vhOp Tryd.prog (.ld (.c a6) 1 false) h7 fun a8 h9 =>
  vbin .neq a8 (.int .i32 0) fun a10 =>
  ACall Tryd.prog 47 [a10] h9 fun a11 h12 =>
  vbin .and a0 a11 fun a13 =>
  K a13 h12
theorem V49_ok (a0 : D) (a1 : D) (a2 : D) (h0 : Heap) (K : D → Heap → Prop) : V49 a0 a1 a2 h0 K = vcC Tryd.prog F49.code (fun x e h' => match x with | .exit _ => False | _ => vcRet Tryd.prog F49.res K e h') (params [a0, a1, a2] 0) h0 := by kernel_rfl


end Go.Am
/- The functions of this seat's program in the short form, as a program of ours printed them (part 3); each line of it is checked. No condition. -/
set_option linter.unusedVariables false
namespace Go.Am
open Go Go.Proofs
/-- warpwright/launch.Collect$4 -/
def loops50 : Nat → Option (List Nat × List Nat)
  | _ => none
def tbl50 : Nat → Option (List Nat × List Nat × List Nat)
  | _ => none
def F50 : AFunc := ⟨12,
  .seq (.reg [⟨(some 5), .mov (.c (.int .i32 0)), none⟩]) <|
  .seq (.reg [⟨(some 6), .mov (.t 0), none⟩,
    ⟨(some 7), .ld (.t 2) 1 false, none⟩,
    ⟨(some 8), .mov (.t 1), none⟩,
    ⟨(some 9), .iadd (.t 7) (.t 8) 1, none⟩,
    ⟨(some 10), .ld (.t 9) 1 false, none⟩,
    ⟨(some 11), .bin .add (.t 6) (.t 10), none⟩,
    ⟨(some 5), .mov (.t 11), none⟩]) <|
  .ret,
  [.t 5]⟩
theorem F50_ok : cFn Tryd.prog true 50 loops50 (cDr Tryd.prog 12 tbl50) = some F50 := by kernel_rfl


def V50 (a0 : D) (a1 : D) (a2 : D) (h0 : Heap) (K : D → Heap → Prop) : Prop :=
  vhOp Tryd.prog (.ld (.c a2) 1 false) h0 fun a4 h5 =>
  vhOp Tryd.prog (.iadd (.c a4) (.c a1) 1) h5 fun a6 h7 =>
  vhOp Tryd.prog (.ld (.c a6) 1 false) h7 fun a8 h9 =>
  vbin .add a0 a8 fun a10 =>
  K a10 h9
theorem V50_ok (a0 : D) (a1 : D) (a2 : D) (h0 : Heap) (K : D → Heap → Prop) : V50 a0 a1 a2 h0 K = vcC Tryd.prog F50.code (fun x e h' => match x with | .exit _ => False | _ => vcRet Tryd.prog F50.res K e h') (params [a0, a1, a2] 0) h0 := by kernel_rfl

/-- warpwright/warpwrightref04.truth -/
def loops51 : Nat → Option (List Nat × List Nat)
  | _ => none
def tbl51 : Nat → Option (List Nat × List Nat × List Nat)
  | _ => none
def F51 : AFunc := ⟨4,
  .seq (.reg [⟨(some 2), .mov (.c (.int .i32 0)), none⟩]) <|
  .seq (.seq (.reg [⟨(some 3), .mov (.t 0), none⟩]) <|
  .cond (.t 3) (.seq (.reg [⟨(some 2), .mov (.c (.int .i32 1)), none⟩]) <|
  .ret) (.skip)) <|
  .seq (.reg [⟨(some 2), .mov (.c (.int .i32 0)), none⟩]) <|
  .ret,
  [.t 2]⟩
theorem F51_ok : cFn Tryd.prog true 51 loops51 (cDr Tryd.prog 4 tbl51) = some F51 := by kernel_rfl


def V51 (a0 : D) (h0 : Heap) (K : D → Heap → Prop) : Prop :=
  vcond a0 (K (.int .i32 1) h0) (
  K (.int .i32 0) h0)
theorem V51_ok (a0 : D) (h0 : Heap) (K : D → Heap → Prop) : V51 a0 h0 K = vcC Tryd.prog F51.code (fun x e h' => match x with | .exit _ => False | _ => vcRet Tryd.prog F51.res K e h') (params [a0] 0) h0 := by kernel_rfl

/-- slices.Chunk[[]int,int] -/
def loops52 : Nat → Option (List Nat × List Nat)
  | 1000004 => some ([2, 3], []) | _ => none
def tbl52 : Nat → Option (List Nat × List Nat × List Nat)
  | _ => none
def F52 : AFunc := ⟨9,
  .seq (.reg [⟨(some 2), .box (.t 0), none⟩,
    ⟨(some 3), .box (.t 1), none⟩,
    ⟨(some 4), .mov (.c .nilfn), none⟩]) <|
  .seqj [2, 3] [] (.seq (.reg [⟨(some 5), .ld (.t 3) 1 false, none⟩,
    ⟨(some 6), .bin .lss (.t 5) (.c (.int .i64 1)), none⟩]) <|
  .cond (.t 6) (.reg [⟨(some 7), .dead, none⟩,
    ⟨none, .dead, none⟩]) (.skip)) <|
  .seq (.reg [⟨(some 8), .mkf 56 [] [(.t 2), (.t 3)], none⟩,
    ⟨(some 4), .mov (.t 8), none⟩]) <|
  .ret,
  [.t 4]⟩
theorem F52_ok : cFn Tryd.prog true 52 loops52 (cDr Tryd.prog 9 tbl52) = some F52 := by kernel_rfl


def V52 (a0 : D) (a1 : D) (h0 : Heap) (K : D → Heap → Prop) : Prop :=
  vhOp Tryd.prog (.box (.c a0)) h0 fun a3 h4 =>
  vhOp Tryd.prog (.box (.c a1)) h4 fun a5 h6 =>
  ∃ (J7 : List D → Heap → Prop), (∀ (f8 : Nat → D) (h9 : Heap), J7 [] h9 →
  vhOp Tryd.prog (.mkf 56 [] [(.c a3), (.c a5)]) h9 fun a10 h11 =>
  K a10 h11) ∧
  vhOp Tryd.prog (.ld (.c a5) 1 false) h6 fun a12 h13 =>
  vbin .lss a12 (.int .i64 1) fun a14 =>
  vcond a14 (vhOp Tryd.prog (.dead) h13 fun a15 h16 =>
  vhOp Tryd.prog (.dead) h16 fun a17 h18 =>
  keq [a3, a5] [a3, a5] ∧ J7 [] h18) (
  keq [a3, a5] [a3, a5] ∧ J7 [] h13)
theorem V52_ok (a0 : D) (a1 : D) (h0 : Heap) (K : D → Heap → Prop) : V52 a0 a1 h0 K = vcC Tryd.prog F52.code (fun x e h' => match x with | .exit _ => False | _ => vcRet Tryd.prog F52.res K e h') (params [a0, a1] 0) h0 := by kernel_rfl

/-- slices.Repeat[[]int,int] -/
def loops53 : Nat → Option (List Nat × List Nat)
  | 1000004 => some ([0, 1], []) | 1000007 => some ([0, 6], []) | 1000011 => some ([7], []) | 8 => some ([7], [8]) | _ => none
def tbl53 : Nat → Option (List Nat × List Nat × List Nat)
  | 9 => some ([0, 0, 0, 6, 0, 0, 48, 126, 255, 511], [7, 8, 9], []) | _ => none
def F53 : AFunc := ⟨48,
  .seq (.reg [⟨(some 4), .mov (.c .nil), none⟩]) <|
  .seqj [0, 1] [] (.seq (.reg [⟨(some 9), .mov (.t 1), none⟩,
    ⟨(some 10), .bin .lss (.t 9) (.c (.int .i64 0)), none⟩]) <|
  .cond (.t 10) (.reg [⟨(some 11), .dead, none⟩,
    ⟨none, .dead, none⟩]) (.skip)) <|
  .seq (.reg [⟨(some 13), .mov (.t 0), none⟩,
    ⟨(some 14), .len (.t 13), none⟩,
    ⟨(some 15), .conv .u64 (.t 14), none⟩,
    ⟨(some 16), .mov (.t 1), none⟩,
    ⟨(some 17), .conv .u64 (.t 16), none⟩,
    ⟨(some 18), .call 57 [(.t 15), (.t 17)], none⟩,
    ⟨(some 12), .mov (.t 18), none⟩,
    ⟨(some 19), .ext (.t 12) 0, none⟩,
    ⟨(some 20), .ext (.t 12) 1, none⟩,
    ⟨(some 5), .mov (.t 19), none⟩,
    ⟨(some 6), .mov (.t 20), none⟩]) <|
  .seqj [0, 6] [] (.seq (.reg [⟨(some 21), .mov (.t 5), none⟩,
    ⟨(some 22), .bin .gtr (.t 21) (.c (.int .u64 0)), none⟩,
    ⟨(some 23), .mov (.t 22), none⟩,
    ⟨(some 24), .mov (.t 6), some (23, false)⟩,
    ⟨(some 25), .bin .gtr (.t 24) (.c (.int .u64 9223372036854775807)), some (23, false)⟩,
    ⟨(some 26), .pick (.t 23) (.c (.bool true)) (.t 25), none⟩]) <|
  .cond (.t 26) (.reg [⟨(some 27), .dead, none⟩,
    ⟨none, .dead, none⟩]) (.skip)) <|
  .seq (.reg [⟨(some 28), .mov (.t 6), none⟩,
    ⟨(some 29), .conv .i64 (.t 28), none⟩,
    ⟨(some 30), .mk 1 8 (.int .i64 0) (.t 29) (.t 29), none⟩,
    ⟨(some 7), .mov (.t 30), none⟩]) <|
  .seq (.reg [⟨(some 31), .mov (.t 7), none⟩,
    ⟨(some 32), .mov (.t 0), none⟩,
    ⟨(some 33), .cpy (.t 31) (.t 32) 1, none⟩,
    ⟨(some 8), .mov (.t 33), none⟩]) <|
  .seqj [7] [] (.block 0 (.loop [7] [8] (.seq (.seq (.reg [⟨(some 34), .mov (.t 8), none⟩,
    ⟨(some 35), .mov (.t 7), none⟩,
    ⟨(some 36), .len (.t 35), none⟩,
    ⟨(some 37), .bin .lss (.t 34) (.t 36), none⟩]) <|
  .cond (.t 37) (.skip) (.exit 0)) <|
  .block 1 (.dreg [⟨(some 38), .mov (.t 8), none⟩,
    ⟨(some 39), .mov (.t 7), none⟩,
    ⟨(some 40), .mov (.t 8), none⟩,
    ⟨(some 41), .slc (.t 39) (some (.t 40)) none none 1, none⟩,
    ⟨(some 42), .mov (.t 7), none⟩,
    ⟨(some 43), .mov (.t 8), none⟩,
    ⟨(some 44), .slc (.t 42) none (some (.t 43)) none 1, none⟩] [⟨(some 45), .cpy (.t 41) (.t 44) 1, none⟩,
    ⟨(some 46), .bin .add (.t 38) (.t 45), none⟩,
    ⟨(some 8), .mov (.t 46), none⟩] [])))) <|
  .seq (.reg [⟨(some 47), .mov (.t 7), none⟩,
    ⟨(some 4), .mov (.t 47), none⟩]) <|
  .ret,
  [.t 4]⟩
theorem F53_ok : cFn Tryd.prog true 53 loops53 (cDr Tryd.prog 48 tbl53) = some F53 := by kernel_rfl

def V53_L0 (a24 : D) (h25 : Heap) (a22 : D) (J26 : List D → Heap → Prop) : Prop :=
  ∃ (I29 : Nat → List D → Heap → Prop) (n₀ : Nat), I29 n₀ [a24] h25 ∧ ∀ (n30 : Nat) (f31 : Nat → D) (h32 : Heap), I29 n30 [f31 8] h32 →
  vlen a22 h32 fun a33 =>
  vbin .lss (f31 8) a33 fun a34 =>
  vcond a34 (vdOp Tryd.prog (.slc (.c a22) (some (.c (f31 8))) none none 1) h32 fun a35 =>
  vdOp Tryd.prog (.slc (.c a22) none (some (.c (f31 8))) none 1) h32 fun a36 =>
  vhOp Tryd.prog (.cpy (.c a35) (.c a36) 1) h32 fun a37 h38 =>
  vbin .add (f31 8) a37 fun a39 =>
  keq [a22] [a22] ∧ ∃ m, m < n30 ∧ I29 m [a39] h38) (
  keq [a22] [a22] ∧ J26 [] h32)
def V53 (a0 : D) (a1 : D) (h0 : Heap) (K : D → Heap → Prop) : Prop :=
  ∃ (J3 : List D → Heap → Prop), (∀ (f4 : Nat → D) (h5 : Heap), J3 [] h5 →
  vlen a0 h5 fun a6 =>
  vhOp Tryd.prog (.conv .u64 (.c a6)) h5 fun a7 h8 =>
  vhOp Tryd.prog (.conv .u64 (.c a1)) h8 fun a9 h10 =>
  ACall Tryd.prog 57 [a7, a9] h10 fun a11 h12 =>
  vhOp Tryd.prog (.ext (.c a11) 0) h12 fun a13 h14 =>
  vhOp Tryd.prog (.ext (.c a11) 1) h14 fun a15 h16 =>
  ∃ (J17 : List D → Heap → Prop), (∀ (f18 : Nat → D) (h19 : Heap), J17 [] h19 →
  vhOp Tryd.prog (.conv .i64 (.c a15)) h19 fun a20 h21 =>
  vhOp Tryd.prog (.mk 1 8 (.int .i64 0) (.c a20) (.c a20)) h21 fun a22 h23 =>
  vhOp Tryd.prog (.cpy (.c a22) (.c a0) 1) h23 fun a24 h25 =>
  ∃ (J26 : List D → Heap → Prop), (∀ (f27 : Nat → D) (h28 : Heap), J26 [] h28 →
  K a22 h28) ∧
  V53_L0 a24 h25 a22 J26) ∧
  vbin .gtr a13 (.int .u64 0) fun a40 =>
  vguard a40 false (fun G41 =>
  G41 a15 h16) h16 fun a42 h43 =>
  vguard a40 false (fun G44 =>
  vbin .gtr a42 (.int .u64 9223372036854775807) fun a47 =>
  G44 a47 h43) h43 fun a45 h46 =>
  vhOp Tryd.prog (.pick (.c a40) (.c (.bool true)) (.c a45)) h46 fun a48 h49 =>
  vcond a48 (vhOp Tryd.prog (.dead) h49 fun a50 h51 =>
  vhOp Tryd.prog (.dead) h51 fun a52 h53 =>
  keq [a0, a15] [a0, a15] ∧ J17 [] h53) (
  keq [a0, a15] [a0, a15] ∧ J17 [] h49)) ∧
  vbin .lss a1 (.int .i64 0) fun a54 =>
  vcond a54 (vhOp Tryd.prog (.dead) h0 fun a55 h56 =>
  vhOp Tryd.prog (.dead) h56 fun a57 h58 =>
  keq [a0, a1] [a0, a1] ∧ J3 [] h58) (
  keq [a0, a1] [a0, a1] ∧ J3 [] h0)
theorem V53_ok (a0 : D) (a1 : D) (h0 : Heap) (K : D → Heap → Prop) : V53 a0 a1 h0 K = vcC Tryd.prog F53.code (fun x e h' => match x with | .exit _ => False | _ => vcRet Tryd.prog F53.res K e h') (params [a0, a1] 0) h0 := by kernel_rfl

/-- math/bits.TrailingZeros64 -/
def loops54 : Nat → Option (List Nat × List Nat)
  | _ => none
def tbl54 : Nat → Option (List Nat × List Nat × List Nat)
  | _ => none
def F54 : AFunc := ⟨14,
  .seq (.reg [⟨(some 2), .mov (.c (.int .i64 0)), none⟩]) <|
  .seq (.seq (.reg [⟨(some 3), .mov (.t 0), none⟩,
    ⟨(some 4), .bin .eql (.t 3) (.c (.int .u64 0)), none⟩]) <|
  .cond (.t 4) (.seq (.reg [⟨(some 2), .mov (.c (.int .i64 64)), none⟩]) <|
  .ret) (.skip)) <|
  .seq (.reg [⟨(some 5), .mov (.t 0), none⟩,
    ⟨(some 6), .mov (.t 0), none⟩,
    ⟨(some 7), .un .neg (.t 6), none⟩,
    ⟨(some 8), .bin .and (.t 5) (.t 7), none⟩,
    ⟨(some 9), .bin .mul (.t 8) (.c (.int .u64 285870213051353865)), none⟩,
    ⟨(some 10), .bin .shr (.t 9) (.c (.int .u64 58)), none⟩,
    ⟨(some 11), .iadda (.c (.vp tabD0 0)) (.t 10) 64 1, none⟩,
    ⟨(some 12), .ld (.t 11) 1 false, none⟩,
    ⟨(some 13), .conv .i64 (.t 12), none⟩,
    ⟨(some 2), .mov (.t 13), none⟩]) <|
  .ret,
  [.t 2]⟩
theorem F54_ok : cFn Tryd.prog true 54 loops54 (cDr Tryd.prog 14 tbl54) = some F54 := by kernel_rfl


def V54 (a0 : D) (h0 : Heap) (K : D → Heap → Prop) : Prop :=
  vbin .eql a0 (.int .u64 0) fun a2 =>
  vcond a2 (K (.int .i64 64) h0) (
  vun .neg a0 fun a3 =>
  vbin .and a0 a3 fun a4 =>
  vbin .mul a4 (.int .u64 285870213051353865) fun a5 =>
  vbin .shr a5 (.int .u64 58) fun a6 =>
  vhOp Tryd.prog (.iadda (.c (.vp tabD0 0)) (.c a6) 64 1) h0 fun a7 h8 =>
  vhOp Tryd.prog (.ld (.c a7) 1 false) h8 fun a9 h10 =>
  vhOp Tryd.prog (.conv .i64 (.c a9)) h10 fun a11 h12 =>
  K a11 h12)
theorem V54_ok (a0 : D) (h0 : Heap) (K : D → Heap → Prop) : V54 a0 h0 K = vcC Tryd.prog F54.code (fun x e h' => match x with | .exit _ => False | _ => vcRet Tryd.prog F54.res K e h') (params [a0] 0) h0 := by kernel_rfl

/-- slices.Repeat[[]int32,int32] -/
def loops55 : Nat → Option (List Nat × List Nat)
  | 1000004 => some ([0, 1], []) | 1000007 => some ([0, 6], []) | 1000011 => some ([7], []) | 8 => some ([7], [8]) | _ => none
def tbl55 : Nat → Option (List Nat × List Nat × List Nat)
  | 9 => some ([0, 0, 0, 6, 0, 0, 48, 126, 255, 511], [7, 8, 9], []) | _ => none
def F55 : AFunc := ⟨48,
  .seq (.reg [⟨(some 4), .mov (.c .nil), none⟩]) <|
  .seqj [0, 1] [] (.seq (.reg [⟨(some 9), .mov (.t 1), none⟩,
    ⟨(some 10), .bin .lss (.t 9) (.c (.int .i64 0)), none⟩]) <|
  .cond (.t 10) (.reg [⟨(some 11), .dead, none⟩,
    ⟨none, .dead, none⟩]) (.skip)) <|
  .seq (.reg [⟨(some 13), .mov (.t 0), none⟩,
    ⟨(some 14), .len (.t 13), none⟩,
    ⟨(some 15), .conv .u64 (.t 14), none⟩,
    ⟨(some 16), .mov (.t 1), none⟩,
    ⟨(some 17), .conv .u64 (.t 16), none⟩,
    ⟨(some 18), .call 57 [(.t 15), (.t 17)], none⟩,
    ⟨(some 12), .mov (.t 18), none⟩,
    ⟨(some 19), .ext (.t 12) 0, none⟩,
    ⟨(some 20), .ext (.t 12) 1, none⟩,
    ⟨(some 5), .mov (.t 19), none⟩,
    ⟨(some 6), .mov (.t 20), none⟩]) <|
  .seqj [0, 6] [] (.seq (.reg [⟨(some 21), .mov (.t 5), none⟩,
    ⟨(some 22), .bin .gtr (.t 21) (.c (.int .u64 0)), none⟩,
    ⟨(some 23), .mov (.t 22), none⟩,
    ⟨(some 24), .mov (.t 6), some (23, false)⟩,
    ⟨(some 25), .bin .gtr (.t 24) (.c (.int .u64 9223372036854775807)), some (23, false)⟩,
    ⟨(some 26), .pick (.t 23) (.c (.bool true)) (.t 25), none⟩]) <|
  .cond (.t 26) (.reg [⟨(some 27), .dead, none⟩,
    ⟨none, .dead, none⟩]) (.skip)) <|
  .seq (.reg [⟨(some 28), .mov (.t 6), none⟩,
    ⟨(some 29), .conv .i64 (.t 28), none⟩,
    ⟨(some 30), .mk 1 4 (.int .i32 0) (.t 29) (.t 29), none⟩,
    ⟨(some 7), .mov (.t 30), none⟩]) <|
  .seq (.reg [⟨(some 31), .mov (.t 7), none⟩,
    ⟨(some 32), .mov (.t 0), none⟩,
    ⟨(some 33), .cpy (.t 31) (.t 32) 1, none⟩,
    ⟨(some 8), .mov (.t 33), none⟩]) <|
  .seqj [7] [] (.block 0 (.loop [7] [8] (.seq (.seq (.reg [⟨(some 34), .mov (.t 8), none⟩,
    ⟨(some 35), .mov (.t 7), none⟩,
    ⟨(some 36), .len (.t 35), none⟩,
    ⟨(some 37), .bin .lss (.t 34) (.t 36), none⟩]) <|
  .cond (.t 37) (.skip) (.exit 0)) <|
  .block 1 (.dreg [⟨(some 38), .mov (.t 8), none⟩,
    ⟨(some 39), .mov (.t 7), none⟩,
    ⟨(some 40), .mov (.t 8), none⟩,
    ⟨(some 41), .slc (.t 39) (some (.t 40)) none none 1, none⟩,
    ⟨(some 42), .mov (.t 7), none⟩,
    ⟨(some 43), .mov (.t 8), none⟩,
    ⟨(some 44), .slc (.t 42) none (some (.t 43)) none 1, none⟩] [⟨(some 45), .cpy (.t 41) (.t 44) 1, none⟩,
    ⟨(some 46), .bin .add (.t 38) (.t 45), none⟩,
    ⟨(some 8), .mov (.t 46), none⟩] [])))) <|
  .seq (.reg [⟨(some 47), .mov (.t 7), none⟩,
    ⟨(some 4), .mov (.t 47), none⟩]) <|
  .ret,
  [.t 4]⟩
theorem F55_ok : cFn Tryd.prog true 55 loops55 (cDr Tryd.prog 48 tbl55) = some F55 := by kernel_rfl

def V55_L0 (a24 : D) (h25 : Heap) (a22 : D) (J26 : List D → Heap → Prop) : Prop :=
  ∃ (I29 : Nat → List D → Heap → Prop) (n₀ : Nat), I29 n₀ [a24] h25 ∧ ∀ (n30 : Nat) (f31 : Nat → D) (h32 : Heap), I29 n30 [f31 8] h32 →
  vlen a22 h32 fun a33 =>
  vbin .lss (f31 8) a33 fun a34 =>
  vcond a34 (vdOp Tryd.prog (.slc (.c a22) (some (.c (f31 8))) none none 1) h32 fun a35 =>
  vdOp Tryd.prog (.slc (.c a22) none (some (.c (f31 8))) none 1) h32 fun a36 =>
  vhOp Tryd.prog (.cpy (.c a35) (.c a36) 1) h32 fun a37 h38 =>
  vbin .add (f31 8) a37 fun a39 =>
  keq [a22] [a22] ∧ ∃ m, m < n30 ∧ I29 m [a39] h38) (
  keq [a22] [a22] ∧ J26 [] h32)
def V55 (a0 : D) (a1 : D) (h0 : Heap) (K : D → Heap → Prop) : Prop :=
  ∃ (J3 : List D → Heap → Prop), (∀ (f4 : Nat → D) (h5 : Heap), J3 [] h5 →
  vlen a0 h5 fun a6 =>
  vhOp Tryd.prog (.conv .u64 (.c a6)) h5 fun a7 h8 =>
  vhOp Tryd.prog (.conv .u64 (.c a1)) h8 fun a9 h10 =>
  ACall Tryd.prog 57 [a7, a9] h10 fun a11 h12 =>
  vhOp Tryd.prog (.ext (.c a11) 0) h12 fun a13 h14 =>
  vhOp Tryd.prog (.ext (.c a11) 1) h14 fun a15 h16 =>
  ∃ (J17 : List D → Heap → Prop), (∀ (f18 : Nat → D) (h19 : Heap), J17 [] h19 →
  vhOp Tryd.prog (.conv .i64 (.c a15)) h19 fun a20 h21 =>
  vhOp Tryd.prog (.mk 1 4 (.int .i32 0) (.c a20) (.c a20)) h21 fun a22 h23 =>
  vhOp Tryd.prog (.cpy (.c a22) (.c a0) 1) h23 fun a24 h25 =>
  ∃ (J26 : List D → Heap → Prop), (∀ (f27 : Nat → D) (h28 : Heap), J26 [] h28 →
  K a22 h28) ∧
  V55_L0 a24 h25 a22 J26) ∧
  vbin .gtr a13 (.int .u64 0) fun a40 =>
  vguard a40 false (fun G41 =>
  G41 a15 h16) h16 fun a42 h43 =>
  vguard a40 false (fun G44 =>
  vbin .gtr a42 (.int .u64 9223372036854775807) fun a47 =>
  G44 a47 h43) h43 fun a45 h46 =>
  vhOp Tryd.prog (.pick (.c a40) (.c (.bool true)) (.c a45)) h46 fun a48 h49 =>
  vcond a48 (vhOp Tryd.prog (.dead) h49 fun a50 h51 =>
  vhOp Tryd.prog (.dead) h51 fun a52 h53 =>
  keq [a0, a15] [a0, a15] ∧ J17 [] h53) (
  keq [a0, a15] [a0, a15] ∧ J17 [] h49)) ∧
  vbin .lss a1 (.int .i64 0) fun a54 =>
  vcond a54 (vhOp Tryd.prog (.dead) h0 fun a55 h56 =>
  vhOp Tryd.prog (.dead) h56 fun a57 h58 =>
  keq [a0, a1] [a0, a1] ∧ J3 [] h58) (
  keq [a0, a1] [a0, a1] ∧ J3 [] h0)
theorem V55_ok (a0 : D) (a1 : D) (h0 : Heap) (K : D → Heap → Prop) : V55 a0 a1 h0 K = vcC Tryd.prog F55.code (fun x e h' => match x with | .exit _ => False | _ => vcRet Tryd.prog F55.res K e h') (params [a0, a1] 0) h0 := by kernel_rfl

/-- slices.Chunk[[]int,int]$1 -/
def loops56 : Nat → Option (List Nat × List Nat)
  | 1 => some ([0, 1, 2], [4]) | _ => none
def tbl56 : Nat → Option (List Nat × List Nat × List Nat)
  | 3 => some ([0, 0, 0, 6, 14, 31, 63], [], []) | _ => none
def F56 : AFunc := ⟨31,
  .seq (.reg [⟨(some 4), .mov (.c (.int .i64 0)), none⟩]) <|
  .block 0 (.loop [0, 1, 2] [4] (.seq (.seq (.reg [⟨(some 6), .mov (.t 4), none⟩,
    ⟨(some 7), .ld (.t 1) 1 false, none⟩,
    ⟨(some 8), .len (.t 7), none⟩,
    ⟨(some 9), .bin .lss (.t 6) (.t 8), none⟩]) <|
  .cond (.t 9) (.skip) (.exit 0)) <|
  .seq (.block 1 (.seq (.dreg [⟨(some 13), .ld (.t 2) 1 false, none⟩,
    ⟨(some 14), .ld (.t 1) 1 false, none⟩,
    ⟨(some 15), .mov (.t 4), none⟩,
    ⟨(some 16), .slc (.t 14) (some (.t 15)) none none 1, none⟩,
    ⟨(some 17), .len (.t 16), none⟩,
    ⟨(some 18), .mn (.t 13) (.t 17), none⟩,
    ⟨(some 5), .mov (.t 18), none⟩] [] []) <|
  .seq (.reg [⟨(some 19), .mov (.t 0), none⟩,
    ⟨(some 20), .ld (.t 1) 1 false, none⟩,
    ⟨(some 21), .mov (.t 4), none⟩,
    ⟨(some 22), .mov (.t 4), none⟩,
    ⟨(some 23), .mov (.t 5), none⟩,
    ⟨(some 24), .bin .add (.t 22) (.t 23), none⟩,
    ⟨(some 25), .mov (.t 4), none⟩,
    ⟨(some 26), .mov (.t 5), none⟩,
    ⟨(some 27), .bin .add (.t 25) (.t 26), none⟩,
    ⟨(some 28), .slc (.t 20) (some (.t 21)) (some (.t 24)) (some (.t 27)) 1, none⟩,
    ⟨(some 29), .callv (.t 19) [(.t 28)], none⟩,
    ⟨(some 30), .un .not (.t 29), none⟩]) <|
  .cond (.t 30) (.ret) (.skip))) <|
  .reg [⟨(some 10), .mov (.t 4), none⟩,
    ⟨(some 11), .ld (.t 2) 1 false, none⟩,
    ⟨(some 12), .bin .add (.t 10) (.t 11), none⟩,
    ⟨(some 4), .mov (.t 12), none⟩])),
  []⟩
theorem F56_ok : cFn Tryd.prog true 56 loops56 (cDr Tryd.prog 31 tbl56) = some F56 := by kernel_rfl

def V56_L0 (h0 : Heap) (a1 : D) (a2 : D) (a0 : D) (K : D → Heap → Prop) : Prop :=
  ∃ (I4 : Nat → List D → Heap → Prop) (n₀ : Nat), I4 n₀ [(.int .i64 0)] h0 ∧ ∀ (n5 : Nat) (f6 : Nat → D) (h7 : Heap), I4 n5 [f6 4] h7 →
  vhOp Tryd.prog (.ld (.c a1) 1 false) h7 fun a8 h9 =>
  vlen a8 h9 fun a10 =>
  vbin .lss (f6 4) a10 fun a11 =>
  vcond a11 (vdOp Tryd.prog (.ld (.c a2) 1 false) h9 fun a12 =>
  vdOp Tryd.prog (.ld (.c a1) 1 false) h9 fun a13 =>
  vdOp Tryd.prog (.slc (.c a13) (some (.c (f6 4))) none none 1) h9 fun a14 =>
  vlen a14 h9 fun a15 =>
  vdOp Tryd.prog (.mn (.c a12) (.c a15)) h9 fun a16 =>
  vhOp Tryd.prog (.ld (.c a1) 1 false) h9 fun a17 h18 =>
  vbin .add (f6 4) a16 fun a19 =>
  vbin .add (f6 4) a16 fun a20 =>
  vhOp Tryd.prog (.slc (.c a17) (some (.c (f6 4))) (some (.c a19)) (some (.c a20)) 1) h18 fun a21 h22 =>
  vhOp Tryd.prog (.callv (.c a0) [(.c a21)]) h22 fun a23 h24 =>
  vun .not a23 fun a25 =>
  vcond a25 (K (.tup []) h24) (
  vhOp Tryd.prog (.ld (.c a2) 1 false) h24 fun a26 h27 =>
  vbin .add (f6 4) a26 fun a28 =>
  keq [a0, a1, a2] [a0, a1, a2] ∧ ∃ m, m < n5 ∧ I4 m [a28] h27)) (
  K (.tup []) h9)
def V56 (a0 : D) (a1 : D) (a2 : D) (h0 : Heap) (K : D → Heap → Prop) : Prop :=
  V56_L0 h0 a1 a2 a0 K
theorem V56_ok (a0 : D) (a1 : D) (a2 : D) (h0 : Heap) (K : D → Heap → Prop) : V56 a0 a1 a2 h0 K = vcC Tryd.prog F56.code (fun x e h' => match x with | .exit _ => False | _ => vcRet Tryd.prog F56.res K e h') (params [a0, a1, a2] 0) h0 := by kernel_rfl

/-- math/bits.Mul -/
def loops57 : Nat → Option (List Nat × List Nat)
  | _ => none
def tbl57 : Nat → Option (List Nat × List Nat × List Nat)
  | _ => none
def F57 : AFunc := ⟨30,
  .seq (.reg [⟨(some 4), .mov (.c (.int .u64 0)), none⟩,
    ⟨(some 5), .mov (.c (.int .u64 0)), none⟩]) <|
  .seq (.cond (.c (.bool false)) (.seq (.reg [⟨(some 11), .mov (.t 0), none⟩,
    ⟨(some 12), .conv .u32 (.t 11), none⟩,
    ⟨(some 13), .mov (.t 1), none⟩,
    ⟨(some 14), .conv .u32 (.t 13), none⟩,
    ⟨(some 15), .call 58 [(.t 12), (.t 14)], none⟩,
    ⟨(some 10), .mov (.t 15), none⟩,
    ⟨(some 16), .ext (.t 10) 0, none⟩,
    ⟨(some 17), .ext (.t 10) 1, none⟩,
    ⟨(some 6), .mov (.t 16), none⟩,
    ⟨(some 7), .mov (.t 17), none⟩]) <|
  .seq (.reg [⟨(some 18), .mov (.t 6), none⟩,
    ⟨(some 19), .conv .u64 (.t 18), none⟩,
    ⟨(some 20), .mov (.t 7), none⟩,
    ⟨(some 21), .conv .u64 (.t 20), none⟩,
    ⟨(some 4), .mov (.t 19), none⟩,
    ⟨(some 5), .mov (.t 21), none⟩]) <|
  .ret) (.skip)) <|
  .seq (.reg [⟨(some 23), .mov (.t 0), none⟩,
    ⟨(some 24), .mov (.t 1), none⟩,
    ⟨(some 25), .call 59 [(.t 23), (.t 24)], none⟩,
    ⟨(some 22), .mov (.t 25), none⟩,
    ⟨(some 26), .ext (.t 22) 0, none⟩,
    ⟨(some 27), .ext (.t 22) 1, none⟩,
    ⟨(some 8), .mov (.t 26), none⟩,
    ⟨(some 9), .mov (.t 27), none⟩]) <|
  .seq (.reg [⟨(some 28), .mov (.t 8), none⟩,
    ⟨(some 29), .mov (.t 9), none⟩,
    ⟨(some 4), .mov (.t 28), none⟩,
    ⟨(some 5), .mov (.t 29), none⟩]) <|
  .ret,
  [.t 4, .t 5]⟩
theorem F57_ok : cFn Tryd.prog true 57 loops57 (cDr Tryd.prog 30 tbl57) = some F57 := by kernel_rfl


def V57 (a0 : D) (a1 : D) (h0 : Heap) (K : D → Heap → Prop) : Prop :=
  vcond (.bool false) (vhOp Tryd.prog (.conv .u32 (.c a0)) h0 fun a3 h4 =>
  vhOp Tryd.prog (.conv .u32 (.c a1)) h4 fun a5 h6 =>
  ACall Tryd.prog 58 [a3, a5] h6 fun a7 h8 =>
  vhOp Tryd.prog (.ext (.c a7) 0) h8 fun a9 h10 =>
  vhOp Tryd.prog (.ext (.c a7) 1) h10 fun a11 h12 =>
  vhOp Tryd.prog (.conv .u64 (.c a9)) h12 fun a13 h14 =>
  vhOp Tryd.prog (.conv .u64 (.c a11)) h14 fun a15 h16 =>
  K (.tup [a13, a15]) h16) (
  ACall Tryd.prog 59 [a0, a1] h0 fun a17 h18 =>
  vhOp Tryd.prog (.ext (.c a17) 0) h18 fun a19 h20 =>
  vhOp Tryd.prog (.ext (.c a17) 1) h20 fun a21 h22 =>
  K (.tup [a19, a21]) h22)
theorem V57_ok (a0 : D) (a1 : D) (h0 : Heap) (K : D → Heap → Prop) : V57 a0 a1 h0 K = vcC Tryd.prog F57.code (fun x e h' => match x with | .exit _ => False | _ => vcRet Tryd.prog F57.res K e h') (params [a0, a1] 0) h0 := by kernel_rfl

/-- math/bits.Mul32 -/
def loops58 : Nat → Option (List Nat × List Nat)
  | _ => none
def tbl58 : Nat → Option (List Nat × List Nat × List Nat)
  | _ => none
def F58 : AFunc := ⟨17,
  .seq (.reg [⟨(some 4), .mov (.c (.int .u32 0)), none⟩,
    ⟨(some 5), .mov (.c (.int .u32 0)), none⟩]) <|
  .seq (.reg [⟨(some 7), .mov (.t 0), none⟩,
    ⟨(some 8), .conv .u64 (.t 7), none⟩,
    ⟨(some 9), .mov (.t 1), none⟩,
    ⟨(some 10), .conv .u64 (.t 9), none⟩,
    ⟨(some 11), .bin .mul (.t 8) (.t 10), none⟩,
    ⟨(some 6), .mov (.t 11), none⟩]) <|
  .seq (.reg [⟨(some 12), .mov (.t 6), none⟩,
    ⟨(some 13), .bin .shr (.t 12) (.c (.int .u64 32)), none⟩,
    ⟨(some 14), .conv .u32 (.t 13), none⟩,
    ⟨(some 15), .mov (.t 6), none⟩,
    ⟨(some 16), .conv .u32 (.t 15), none⟩,
    ⟨(some 4), .mov (.t 14), none⟩,
    ⟨(some 5), .mov (.t 16), none⟩]) <|
  .ret,
  [.t 4, .t 5]⟩
theorem F58_ok : cFn Tryd.prog true 58 loops58 (cDr Tryd.prog 17 tbl58) = some F58 := by kernel_rfl


def V58 (a0 : D) (a1 : D) (h0 : Heap) (K : D → Heap → Prop) : Prop :=
  vhOp Tryd.prog (.conv .u64 (.c a0)) h0 fun a3 h4 =>
  vhOp Tryd.prog (.conv .u64 (.c a1)) h4 fun a5 h6 =>
  vbin .mul a3 a5 fun a7 =>
  vbin .shr a7 (.int .u64 32) fun a8 =>
  vhOp Tryd.prog (.conv .u32 (.c a8)) h6 fun a9 h10 =>
  vhOp Tryd.prog (.conv .u32 (.c a7)) h10 fun a11 h12 =>
  K (.tup [a9, a11]) h12
theorem V58_ok (a0 : D) (a1 : D) (h0 : Heap) (K : D → Heap → Prop) : V58 a0 a1 h0 K = vcC Tryd.prog F58.code (fun x e h' => match x with | .exit _ => False | _ => vcRet Tryd.prog F58.res K e h') (params [a0, a1] 0) h0 := by kernel_rfl

/-- math/bits.Mul64 -/
def loops59 : Nat → Option (List Nat × List Nat)
  | _ => none
def tbl59 : Nat → Option (List Nat × List Nat × List Nat)
  | _ => none
def F59 : AFunc := ⟨51,
  .seq (.reg [⟨(some 4), .mov (.c (.int .u64 0)), none⟩,
    ⟨(some 5), .mov (.c (.int .u64 0)), none⟩]) <|
  .seq (.reg [⟨(some 14), .mov (.t 0), none⟩,
    ⟨(some 15), .bin .and (.t 14) (.c (.int .u64 4294967295)), none⟩,
    ⟨(some 6), .mov (.t 15), none⟩]) <|
  .seq (.reg [⟨(some 16), .mov (.t 0), none⟩,
    ⟨(some 17), .bin .shr (.t 16) (.c (.int .u64 32)), none⟩,
    ⟨(some 7), .mov (.t 17), none⟩]) <|
  .seq (.reg [⟨(some 18), .mov (.t 1), none⟩,
    ⟨(some 19), .bin .and (.t 18) (.c (.int .u64 4294967295)), none⟩,
    ⟨(some 8), .mov (.t 19), none⟩]) <|
  .seq (.reg [⟨(some 20), .mov (.t 1), none⟩,
    ⟨(some 21), .bin .shr (.t 20) (.c (.int .u64 32)), none⟩,
    ⟨(some 9), .mov (.t 21), none⟩]) <|
  .seq (.reg [⟨(some 22), .mov (.t 6), none⟩,
    ⟨(some 23), .mov (.t 8), none⟩,
    ⟨(some 24), .bin .mul (.t 22) (.t 23), none⟩,
    ⟨(some 10), .mov (.t 24), none⟩]) <|
  .seq (.reg [⟨(some 25), .mov (.t 7), none⟩,
    ⟨(some 26), .mov (.t 8), none⟩,
    ⟨(some 27), .bin .mul (.t 25) (.t 26), none⟩,
    ⟨(some 28), .mov (.t 10), none⟩,
    ⟨(some 29), .bin .shr (.t 28) (.c (.int .u64 32)), none⟩,
    ⟨(some 30), .bin .add (.t 27) (.t 29), none⟩,
    ⟨(some 11), .mov (.t 30), none⟩]) <|
  .seq (.reg [⟨(some 31), .mov (.t 11), none⟩,
    ⟨(some 32), .bin .and (.t 31) (.c (.int .u64 4294967295)), none⟩,
    ⟨(some 12), .mov (.t 32), none⟩]) <|
  .seq (.reg [⟨(some 33), .mov (.t 11), none⟩,
    ⟨(some 34), .bin .shr (.t 33) (.c (.int .u64 32)), none⟩,
    ⟨(some 13), .mov (.t 34), none⟩]) <|
  .seq (.reg [⟨(some 35), .mov (.t 12), none⟩,
    ⟨(some 36), .mov (.t 6), none⟩,
    ⟨(some 37), .mov (.t 9), none⟩,
    ⟨(some 38), .bin .mul (.t 36) (.t 37), none⟩,
    ⟨(some 39), .bin .add (.t 35) (.t 38), none⟩,
    ⟨(some 12), .mov (.t 39), none⟩]) <|
  .seq (.reg [⟨(some 40), .mov (.t 7), none⟩,
    ⟨(some 41), .mov (.t 9), none⟩,
    ⟨(some 42), .bin .mul (.t 40) (.t 41), none⟩,
    ⟨(some 43), .mov (.t 13), none⟩,
    ⟨(some 44), .bin .add (.t 42) (.t 43), none⟩,
    ⟨(some 45), .mov (.t 12), none⟩,
    ⟨(some 46), .bin .shr (.t 45) (.c (.int .u64 32)), none⟩,
    ⟨(some 47), .bin .add (.t 44) (.t 46), none⟩,
    ⟨(some 4), .mov (.t 47), none⟩]) <|
  .seq (.reg [⟨(some 48), .mov (.t 0), none⟩,
    ⟨(some 49), .mov (.t 1), none⟩,
    ⟨(some 50), .bin .mul (.t 48) (.t 49), none⟩,
    ⟨(some 5), .mov (.t 50), none⟩]) <|
  .ret,
  [.t 4, .t 5]⟩
theorem F59_ok : cFn Tryd.prog true 59 loops59 (cDr Tryd.prog 51 tbl59) = some F59 := by kernel_rfl


def V59 (a0 : D) (a1 : D) (h0 : Heap) (K : D → Heap → Prop) : Prop :=
  vbin .and a0 (.int .u64 4294967295) fun a3 =>
  vbin .shr a0 (.int .u64 32) fun a4 =>
  vbin .and a1 (.int .u64 4294967295) fun a5 =>
  vbin .shr a1 (.int .u64 32) fun a6 =>
  vbin .mul a3 a5 fun a7 =>
  vbin .mul a4 a5 fun a8 =>
  vbin .shr a7 (.int .u64 32) fun a9 =>
  vbin .add a8 a9 fun a10 =>
  vbin .and a10 (.int .u64 4294967295) fun a11 =>
  vbin .shr a10 (.int .u64 32) fun a12 =>
  vbin .mul a3 a6 fun a13 =>
  vbin .add a11 a13 fun a14 =>
  vbin .mul a4 a6 fun a15 =>
  vbin .add a15 a12 fun a16 =>
  vbin .shr a14 (.int .u64 32) fun a17 =>
  vbin .add a16 a17 fun a18 =>
  vbin .mul a0 a1 fun a19 =>
  K (.tup [a18, a19]) h0
theorem V59_ok (a0 : D) (a1 : D) (h0 : Heap) (K : D → Heap → Prop) : V59 a0 a1 h0 K = vcC Tryd.prog F59.code (fun x e h' => match x with | .exit _ => False | _ => vcRet Tryd.prog F59.res K e h') (params [a0, a1] 0) h0 := by kernel_rfl


end Go.Am
/- Copy, its rows of rows its own. No condition. -/
set_option linter.unusedVariables false
namespace Go.Am
open Go Go.Proofs
/-- warpwright/warpwrightref04.Copy -/
def loops29r : Nat → Option (List Nat × List Nat)
  | 1000007 => some ([], [3]) | 3 => some ([0], [3, 4]) | _ => none
def tbl29r : Nat → Option (List Nat × List Nat × List Nat)
  | _ => none
def F29r : AFunc := ⟨22,
  .seq (.reg [⟨(some 2), .mov (.c .nil), none⟩]) <|
  .seq (.reg [⟨(some 5), .bldS false 1 0 .nil [], none⟩,
    ⟨(some 3), .mov (.t 5), none⟩]) <|
  .seqj [] [3] (.seq (.reg [⟨(some 4), .mov (.c (.int .i64 0)), none⟩]) <|
  .block 0 (.loop [0] [3, 4] (.seq (.seq (.reg [⟨(some 6), .mov (.t 4), none⟩,
    ⟨(some 7), .mov (.t 0), none⟩,
    ⟨(some 8), .len (.t 7), none⟩,
    ⟨(some 9), .bin .lss (.t 6) (.t 8), none⟩]) <|
  .cond (.t 9) (.skip) (.exit 0)) <|
  .seq (.block 1 (.reg [⟨(some 12), .mov (.t 3), none⟩,
    ⟨(some 13), .bldS false 1 0 (.int .i32 0) [], none⟩,
    ⟨(some 14), .mov (.t 0), none⟩,
    ⟨(some 15), .mov (.t 4), none⟩,
    ⟨(some 16), .iadd (.t 14) (.t 15) 1, none⟩,
    ⟨(some 17), .ld (.t 16) 1 false, none⟩,
    ⟨(some 18), .app (.t 13) (.t 17) 1 4 (.int .i32 0), none⟩,
    ⟨(some 19), .bldS false 1 1 .nil [(0, (.t 18))], none⟩,
    ⟨(some 20), .app (.t 12) (.t 19) 1 24 .nil, none⟩,
    ⟨(some 3), .mov (.t 20), none⟩])) <|
  .reg [⟨(some 10), .mov (.t 4), none⟩,
    ⟨(some 11), .bin .add (.t 10) (.c (.int .i64 1)), none⟩,
    ⟨(some 4), .mov (.t 11), none⟩]))) <|
  .seq (.reg [⟨(some 21), .mov (.t 3), none⟩,
    ⟨(some 2), .mov (.t 21), none⟩]) <|
  .ret,
  [.t 2]⟩
theorem F29r_ok : cFn Tryd.prog false 29 loops29r (cDr Tryd.prog 22 tbl29r) = some F29r := by kernel_rfl

def V29r_L0 (a2 : D) (h3 : Heap) (a0 : D) (J4 : List D → Heap → Prop) : Prop :=
  ∃ (I7 : Nat → List D → Heap → Prop) (n₀ : Nat), I7 n₀ [a2, (.int .i64 0)] h3 ∧ ∀ (n8 : Nat) (f9 : Nat → D) (h10 : Heap), I7 n8 [f9 3, f9 4] h10 →
  vlen a0 h10 fun a11 =>
  vbin .lss (f9 4) a11 fun a12 =>
  vcond a12 (vhOp Tryd.prog (.bldS false 1 0 (.int .i32 0) []) h10 fun a13 h14 =>
  vhOp Tryd.prog (.iadd (.c a0) (.c (f9 4)) 1) h14 fun a15 h16 =>
  vhOp Tryd.prog (.ld (.c a15) 1 false) h16 fun a17 h18 =>
  vhOp Tryd.prog (.app (.c a13) (.c a17) 1 4 (.int .i32 0)) h18 fun a19 h20 =>
  vhOp Tryd.prog (.bldS false 1 1 .nil [(0, (.c a19))]) h20 fun a21 h22 =>
  vhOp Tryd.prog (.app (.c (f9 3)) (.c a21) 1 24 .nil) h22 fun a23 h24 =>
  vbin .add (f9 4) (.int .i64 1) fun a25 =>
  keq [a0] [a0] ∧ ∃ m, m < n8 ∧ I7 m [a23, a25] h24) (
  keq [] [] ∧ J4 [(f9 3)] h10)
def V29r (a0 : D) (h0 : Heap) (K : D → Heap → Prop) : Prop :=
  vhOp Tryd.prog (.bldS false 1 0 .nil []) h0 fun a2 h3 =>
  ∃ (J4 : List D → Heap → Prop), (∀ (f5 : Nat → D) (h6 : Heap), J4 [f5 3] h6 →
  K (f5 3) h6) ∧
  V29r_L0 a2 h3 a0 J4
theorem V29r_ok (a0 : D) (h0 : Heap) (K : D → Heap → Prop) : V29r a0 h0 K = vcC Tryd.prog F29r.code (fun x e h' => match x with | .exit _ => False | _ => vcRet Tryd.prog F29r.res K e h') (params [a0] 0) h0 := by kernel_rfl


end Go.Am
