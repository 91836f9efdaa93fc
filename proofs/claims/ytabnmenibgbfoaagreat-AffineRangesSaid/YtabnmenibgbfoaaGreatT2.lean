/- The texts of the functions of this chapter, as the abstract machine has them. No condition. -/
import Derived.KernelRfl
import Derived.Test.YtabnmenibgbfoaaGreatT1
set_option linter.unnecessarySimpa false
set_option linter.defProp false
set_option linter.unusedSectionVars false
set_option linter.unusedSimpArgs false
set_option linter.unusedVariables false
/- The functions of this seat's program in the short form, as a program of ours printed them (part 3); each line of it is checked. No condition. -/
set_option linter.unusedVariables false
namespace Go.Am
open Go Go.Proofs
/-- warpwright/warpwrightref26.one -/
def loops_ref26_one : Nat → Option (List Nat × List Nat)
  | _ => none
def tbl_ref26_one : Nat → Option (List Nat × List Nat × List Nat)
  | _ => none
def F_ref26_one : AFunc := ⟨6,
  .seq (.reg [⟨(some 2), .alloc (.agg [(.int .i64 0), (.int .i64 0), (.int .i64 0)]), none⟩]) <|
  .seq (.reg [⟨(some 3), .mov (.t 0), none⟩,
    ⟨(some 4), .mov (.t 0), none⟩,
    ⟨(some 5), .bld [(.int .i64 0), (.int .i64 0), (.int .i64 0)] [(0, 1, (.t 3)), (1, 1, (.t 4))], none⟩,
    ⟨none, .st (.t 2) (.t 5) 3, none⟩]) <|
  .ret,
  [.cell 2 3 true]⟩
theorem F_ref26_one_ok : cFn PP true n_ref26_one loops_ref26_one (cDr PP 6 tbl_ref26_one) = some F_ref26_one := by kernel_rfl


def V_ref26_one (a0 : D) (h0 : Heap) (K : D → Heap → Prop) : Prop :=
  vhOp PP (.alloc (.agg [(.int .i64 0), (.int .i64 0), (.int .i64 0)])) h0 fun a2 h3 =>
  vhOp PP (.bld [(.int .i64 0), (.int .i64 0), (.int .i64 0)] [(0, 1, (.c a0)), (1, 1, (.c a0))]) h3 fun a4 h5 =>
  vhOp PP (.st (.c a2) (.c a4) 3) h5 fun a6 h7 =>
  vhOp PP (.ld (.c a2) 3 true) h7 fun a8 _ =>
  K a8 h7
theorem V_ref26_one_ok (a0 : D) (h0 : Heap) (K : D → Heap → Prop) : V_ref26_one a0 h0 K = vcC PP F_ref26_one.code (fun x e h' => match x with | .exit _ => False | _ => vcRet PP F_ref26_one.res K e h') (params [a0] 0) h0 := by kernel_rfl

/-- warpwright/warpwrightref25.near -/
def loops_ref25_near : Nat → Option (List Nat × List Nat)
  | _ => none
def tbl_ref25_near : Nat → Option (List Nat × List Nat × List Nat)
  | _ => none
def F_ref25_near : AFunc := ⟨12,
  .seq (.reg [⟨(some 2), .mov (.c (.bool false)), none⟩]) <|
  .seq (.reg [⟨(some 3), .mov (.t 0), none⟩,
    ⟨(some 4), .call n_ref25_Edge [], none⟩,
    ⟨(some 5), .un .neg (.t 4), none⟩,
    ⟨(some 6), .bin .geq (.t 3) (.t 5), none⟩,
    ⟨(some 7), .mov (.t 6), none⟩,
    ⟨(some 8), .mov (.t 0), some (7, true)⟩,
    ⟨(some 9), .call n_ref25_Edge [], some (7, true)⟩,
    ⟨(some 10), .bin .leq (.t 8) (.t 9), some (7, true)⟩,
    ⟨(some 11), .pick (.t 7) (.t 10) (.c (.bool false)), none⟩,
    ⟨(some 2), .mov (.t 11), none⟩]) <|
  .ret,
  [.t 2]⟩
theorem F_ref25_near_ok : cFn PP true n_ref25_near loops_ref25_near (cDr PP 12 tbl_ref25_near) = some F_ref25_near := by kernel_rfl


def V_ref25_near (a0 : D) (h0 : Heap) (K : D → Heap → Prop) : Prop :=
  ACall PP n_ref25_Edge [] h0 fun a2 h3 =>
  vun .neg a2 fun a4 =>
  vbin .geq a0 a4 fun a5 =>
  vguard a5 true (fun G6 =>
  G6 a0 h3) h3 fun a7 h8 =>
  vguard a5 true (fun G9 =>
  ACall PP n_ref25_Edge [] h8 fun a12 h13 =>
  G9 a12 h13) h8 fun a10 h11 =>
  vguard a5 true (fun G14 =>
  vbin .leq a7 a10 fun a17 =>
  G14 a17 h11) h11 fun a15 h16 =>
  vhOp PP (.pick (.c a5) (.c a15) (.c (.bool false))) h16 fun a18 h19 =>
  K a18 h19
theorem V_ref25_near_ok (a0 : D) (h0 : Heap) (K : D → Heap → Prop) : V_ref25_near a0 h0 K = vcC PP F_ref25_near.code (fun x e h' => match x with | .exit _ => False | _ => vcRet PP F_ref25_near.res K e h') (params [a0] 0) h0 := by kernel_rfl

/-- warpwright/warpwrightref26.plus -/
def loops_ref26_plus : Nat → Option (List Nat × List Nat)
  | _ => none
def tbl_ref26_plus : Nat → Option (List Nat × List Nat × List Nat)
  | _ => none
def F_ref26_plus : AFunc := ⟨25,
  .seq (.reg [⟨(some 2), .box (.t 0), none⟩,
    ⟨(some 3), .box (.t 1), none⟩,
    ⟨(some 4), .alloc (.agg [(.int .i64 0), (.int .i64 0), (.int .i64 0), (.bool false)]), none⟩]) <|
  .seq (.seq (.reg [⟨(some 6), .fadd (.t 2) 3, none⟩,
    ⟨(some 7), .ld (.t 6) 1 false, none⟩,
    ⟨(some 8), .un .not (.t 7), none⟩,
    ⟨(some 9), .mov (.t 8), none⟩,
    ⟨(some 10), .ld (.t 3) 3 true, some (9, false)⟩,
    ⟨(some 11), .call n_ref25_Valid [(.t 10)], some (9, false)⟩,
    ⟨(some 12), .un .not (.t 11), some (9, false)⟩,
    ⟨(some 13), .pick (.t 9) (.c (.bool true)) (.t 12), none⟩]) <|
  .cond (.t 13) (.seq (.reg [⟨(some 14), .bld [(.int .i64 0), (.int .i64 0), (.int .i64 0), (.bool false)] [], none⟩,
    ⟨none, .st (.t 4) (.t 14) 4, none⟩]) <|
  .ret) (.skip)) <|
  .seq (.reg [⟨(some 15), .fadd (.t 2) 0, none⟩,
    ⟨(some 16), .ld (.t 15) 3 true, none⟩,
    ⟨(some 17), .ld (.t 3) 3 true, none⟩,
    ⟨(some 18), .call n_ref25_AddIn [(.t 16), (.t 17)], none⟩,
    ⟨(some 5), .alloc (.agg [(.int .i64 0), (.int .i64 0), (.int .i64 0), (.int .i64 0)]), none⟩,
    ⟨none, .st (.t 5) (.t 18) 4, none⟩]) <|
  .seq (.reg [⟨(some 19), .fadd (.t 5) 0, none⟩,
    ⟨(some 20), .ld (.t 19) 3 true, none⟩,
    ⟨(some 21), .fadd (.t 5) 3, none⟩,
    ⟨(some 22), .ld (.t 21) 1 false, none⟩,
    ⟨(some 23), .bin .eql (.t 22) (.c (.int .i64 0)), none⟩,
    ⟨(some 24), .bld [(.int .i64 0), (.int .i64 0), (.int .i64 0), (.bool false)] [(0, 3, (.t 20)), (3, 1, (.t 23))], none⟩,
    ⟨none, .st (.t 4) (.t 24) 4, none⟩]) <|
  .ret,
  [.cell 4 4 true]⟩
theorem F_ref26_plus_ok : cFn PP true n_ref26_plus loops_ref26_plus (cDr PP 25 tbl_ref26_plus) = some F_ref26_plus := by kernel_rfl


def V_ref26_plus (a0 : D) (a1 : D) (h0 : Heap) (K : D → Heap → Prop) : Prop :=
  vhOp PP (.box (.c a0)) h0 fun a3 h4 =>
  vhOp PP (.box (.c a1)) h4 fun a5 h6 =>
  vhOp PP (.alloc (.agg [(.int .i64 0), (.int .i64 0), (.int .i64 0), (.bool false)])) h6 fun a7 h8 =>
  vhOp PP (.fadd (.c a3) 3) h8 fun a9 h10 =>
  vhOp PP (.ld (.c a9) 1 false) h10 fun a11 h12 =>
  vun .not a11 fun a13 =>
  vguard a13 false (fun G14 =>
  vhOp PP (.ld (.c a5) 3 true) h12 fun a17 h18 =>
  G14 a17 h18) h12 fun a15 h16 =>
  vguard a13 false (fun G19 =>
  ACall PP n_ref25_Valid [a15] h16 fun a22 h23 =>
  G19 a22 h23) h16 fun a20 h21 =>
  vguard a13 false (fun G24 =>
  vun .not a20 fun a27 =>
  G24 a27 h21) h21 fun a25 h26 =>
  vhOp PP (.pick (.c a13) (.c (.bool true)) (.c a25)) h26 fun a28 h29 =>
  vcond a28 (vhOp PP (.bld [(.int .i64 0), (.int .i64 0), (.int .i64 0), (.bool false)] []) h29 fun a30 h31 =>
  vhOp PP (.st (.c a7) (.c a30) 4) h31 fun a32 h33 =>
  vhOp PP (.ld (.c a7) 4 true) h33 fun a34 _ =>
  K a34 h33) (
  vhOp PP (.fadd (.c a3) 0) h29 fun a35 h36 =>
  vhOp PP (.ld (.c a35) 3 true) h36 fun a37 h38 =>
  vhOp PP (.ld (.c a5) 3 true) h38 fun a39 h40 =>
  ACall PP n_ref25_AddIn [a37, a39] h40 fun a41 h42 =>
  vhOp PP (.alloc (.agg [(.int .i64 0), (.int .i64 0), (.int .i64 0), (.int .i64 0)])) h42 fun a43 h44 =>
  vhOp PP (.st (.c a43) (.c a41) 4) h44 fun a45 h46 =>
  vhOp PP (.fadd (.c a43) 0) h46 fun a47 h48 =>
  vhOp PP (.ld (.c a47) 3 true) h48 fun a49 h50 =>
  vhOp PP (.fadd (.c a43) 3) h50 fun a51 h52 =>
  vhOp PP (.ld (.c a51) 1 false) h52 fun a53 h54 =>
  vbin .eql a53 (.int .i64 0) fun a55 =>
  vhOp PP (.bld [(.int .i64 0), (.int .i64 0), (.int .i64 0), (.bool false)] [(0, 3, (.c a49)), (3, 1, (.c a55))]) h54 fun a56 h57 =>
  vhOp PP (.st (.c a7) (.c a56) 4) h57 fun a58 h59 =>
  vhOp PP (.ld (.c a7) 4 true) h59 fun a60 _ =>
  K a60 h59)
theorem V_ref26_plus_ok (a0 : D) (a1 : D) (h0 : Heap) (K : D → Heap → Prop) : V_ref26_plus a0 a1 h0 K = vcC PP F_ref26_plus.code (fun x e h' => match x with | .exit _ => False | _ => vcRet PP F_ref26_plus.res K e h') (params [a0, a1] 0) h0 := by kernel_rfl

/-- warpwright/warpwrightref26.part -/
def loops_ref26_part : Nat → Option (List Nat × List Nat)
  | _ => none
def tbl_ref26_part : Nat → Option (List Nat × List Nat × List Nat)
  | _ => none
def F_ref26_part : AFunc := ⟨26,
  .seq (.reg [⟨(some 4), .alloc (.agg [(.int .i64 0), (.int .i64 0), (.int .i64 0)]), none⟩]) <|
  .seq (.seq (.reg [⟨(some 6), .mov (.t 0), none⟩,
    ⟨(some 7), .bin .eql (.t 6) (.c (.int .i64 0)), none⟩,
    ⟨(some 8), .mov (.t 7), none⟩,
    ⟨(some 9), .mov (.t 1), some (8, false)⟩,
    ⟨(some 10), .bin .lss (.t 9) (.c (.int .i64 2)), some (8, false)⟩,
    ⟨(some 11), .pick (.t 8) (.c (.bool true)) (.t 10), none⟩]) <|
  .cond (.t 11) (.seq (.reg [⟨(some 12), .call n_ref26_one [(.c (.int .i64 0))], none⟩,
    ⟨none, .st (.t 4) (.t 12) 3, none⟩]) <|
  .ret) (.skip)) <|
  .seq (.reg [⟨(some 13), .mov (.t 0), none⟩,
    ⟨(some 14), .mov (.t 1), none⟩,
    ⟨(some 15), .bin .sub (.t 14) (.c (.int .i64 1)), none⟩,
    ⟨(some 16), .bin .mul (.t 13) (.t 15), none⟩,
    ⟨(some 5), .mov (.t 16), none⟩]) <|
  .seq (.seq (.reg [⟨(some 17), .mov (.t 0), none⟩,
    ⟨(some 18), .bin .lss (.t 17) (.c (.int .i64 0)), none⟩]) <|
  .cond (.t 18) (.seq (.reg [⟨(some 19), .mov (.t 5), none⟩,
    ⟨(some 20), .mov (.t 0), none⟩,
    ⟨(some 21), .un .neg (.t 20), none⟩,
    ⟨(some 22), .bld [(.int .i64 0), (.int .i64 0), (.int .i64 0)] [(0, 1, (.t 19)), (1, 1, (.c (.int .i64 0))), (2, 1, (.t 21))], none⟩,
    ⟨none, .st (.t 4) (.t 22) 3, none⟩]) <|
  .ret) (.skip)) <|
  .seq (.reg [⟨(some 23), .mov (.t 5), none⟩,
    ⟨(some 24), .mov (.t 0), none⟩,
    ⟨(some 25), .bld [(.int .i64 0), (.int .i64 0), (.int .i64 0)] [(0, 1, (.c (.int .i64 0))), (1, 1, (.t 23)), (2, 1, (.t 24))], none⟩,
    ⟨none, .st (.t 4) (.t 25) 3, none⟩]) <|
  .ret,
  [.cell 4 3 true]⟩
theorem F_ref26_part_ok : cFn PP true n_ref26_part loops_ref26_part (cDr PP 26 tbl_ref26_part) = some F_ref26_part := by kernel_rfl


def V_ref26_part (a0 : D) (a1 : D) (h0 : Heap) (K : D → Heap → Prop) : Prop :=
  vhOp PP (.alloc (.agg [(.int .i64 0), (.int .i64 0), (.int .i64 0)])) h0 fun a3 h4 =>
  vbin .eql a0 (.int .i64 0) fun a5 =>
  vguard a5 false (fun G6 =>
  G6 a1 h4) h4 fun a7 h8 =>
  vguard a5 false (fun G9 =>
  vbin .lss a7 (.int .i64 2) fun a12 =>
  G9 a12 h8) h8 fun a10 h11 =>
  vhOp PP (.pick (.c a5) (.c (.bool true)) (.c a10)) h11 fun a13 h14 =>
  vcond a13 (ACall PP n_ref26_one [(.int .i64 0)] h14 fun a15 h16 =>
  vhOp PP (.st (.c a3) (.c a15) 3) h16 fun a17 h18 =>
  vhOp PP (.ld (.c a3) 3 true) h18 fun a19 _ =>
  K a19 h18) (
  vbin .sub a1 (.int .i64 1) fun a20 =>
  vbin .mul a0 a20 fun a21 =>
  vbin .lss a0 (.int .i64 0) fun a22 =>
  vcond a22 (vun .neg a0 fun a23 =>
  vhOp PP (.bld [(.int .i64 0), (.int .i64 0), (.int .i64 0)] [(0, 1, (.c a21)), (1, 1, (.c (.int .i64 0))), (2, 1, (.c a23))]) h14 fun a24 h25 =>
  vhOp PP (.st (.c a3) (.c a24) 3) h25 fun a26 h27 =>
  vhOp PP (.ld (.c a3) 3 true) h27 fun a28 _ =>
  K a28 h27) (
  vhOp PP (.bld [(.int .i64 0), (.int .i64 0), (.int .i64 0)] [(0, 1, (.c (.int .i64 0))), (1, 1, (.c a21)), (2, 1, (.c a0))]) h14 fun a29 h30 =>
  vhOp PP (.st (.c a3) (.c a29) 3) h30 fun a31 h32 =>
  vhOp PP (.ld (.c a3) 3 true) h32 fun a33 _ =>
  K a33 h32))
theorem V_ref26_part_ok (a0 : D) (a1 : D) (h0 : Heap) (K : D → Heap → Prop) : V_ref26_part a0 a1 h0 K = vcC PP F_ref26_part.code (fun x e h' => match x with | .exit _ => False | _ => vcRet PP F_ref26_part.res K e h') (params [a0, a1] 0) h0 := by kernel_rfl

/-- warpwright/span.Valid -/
def loops_span_Valid : Nat → Option (List Nat × List Nat)
  | _ => none
def tbl_span_Valid : Nat → Option (List Nat × List Nat × List Nat)
  | _ => none
def F_span_Valid : AFunc := ⟨44,
  .seq (.reg [⟨(some 1), .box (.t 0), none⟩,
    ⟨(some 2), .mov (.c (.bool false)), none⟩]) <|
  .seq (.block 0 (.seq (.reg [⟨(some 4), .fadd (.t 1) 0, none⟩,
    ⟨(some 5), .ld (.t 4) 1 false, none⟩,
    ⟨(some 6), .call n_span_near [(.t 5)], none⟩,
    ⟨(some 7), .un .not (.t 6), none⟩,
    ⟨(some 8), .mov (.t 7), none⟩,
    ⟨(some 9), .fadd (.t 1) 1, some (8, false)⟩,
    ⟨(some 10), .ld (.t 9) 1 false, some (8, false)⟩,
    ⟨(some 11), .call n_span_near [(.t 10)], some (8, false)⟩,
    ⟨(some 12), .un .not (.t 11), some (8, false)⟩,
    ⟨(some 13), .pick (.t 8) (.c (.bool true)) (.t 12), none⟩,
    ⟨(some 14), .mov (.t 13), none⟩,
    ⟨(some 15), .fadd (.t 1) 0, some (14, false)⟩,
    ⟨(some 16), .ld (.t 15) 1 false, some (14, false)⟩,
    ⟨(some 17), .fadd (.t 1) 1, some (14, false)⟩,
    ⟨(some 18), .ld (.t 17) 1 false, some (14, false)⟩,
    ⟨(some 19), .bin .gtr (.t 16) (.t 18), some (14, false)⟩,
    ⟨(some 20), .pick (.t 14) (.c (.bool true)) (.t 19), none⟩,
    ⟨(some 3), .mov (.t 20), none⟩]) <|
  .cond (.t 3) (.seq (.reg [⟨(some 2), .mov (.c (.bool false)), none⟩]) <|
  .ret) (.seq (.reg [⟨(some 22), .fadd (.t 1) 0, none⟩,
    ⟨(some 23), .ld (.t 22) 1 false, none⟩,
    ⟨(some 24), .fadd (.t 1) 1, none⟩,
    ⟨(some 25), .ld (.t 24) 1 false, none⟩,
    ⟨(some 26), .bin .eql (.t 23) (.t 25), none⟩,
    ⟨(some 21), .mov (.t 26), none⟩]) <|
  .cond (.t 21) (.seq (.reg [⟨(some 27), .fadd (.t 1) 2, none⟩,
    ⟨(some 28), .ld (.t 27) 1 false, none⟩,
    ⟨(some 29), .bin .eql (.t 28) (.c (.int .i64 0)), none⟩,
    ⟨(some 2), .mov (.t 29), none⟩]) <|
  .ret) (.skip)))) <|
  .seq (.reg [⟨(some 30), .fadd (.t 1) 2, none⟩,
    ⟨(some 31), .ld (.t 30) 1 false, none⟩,
    ⟨(some 32), .bin .gtr (.t 31) (.c (.int .i64 0)), none⟩,
    ⟨(some 33), .mov (.t 32), none⟩,
    ⟨(some 34), .fadd (.t 1) 1, some (33, true)⟩,
    ⟨(some 35), .ld (.t 34) 1 false, some (33, true)⟩,
    ⟨(some 36), .fadd (.t 1) 0, some (33, true)⟩,
    ⟨(some 37), .ld (.t 36) 1 false, some (33, true)⟩,
    ⟨(some 38), .bin .sub (.t 35) (.t 37), some (33, true)⟩,
    ⟨(some 39), .fadd (.t 1) 2, some (33, true)⟩,
    ⟨(some 40), .ld (.t 39) 1 false, some (33, true)⟩,
    ⟨(some 41), .bin .rem (.t 38) (.t 40), some (33, true)⟩,
    ⟨(some 42), .bin .eql (.t 41) (.c (.int .i64 0)), some (33, true)⟩,
    ⟨(some 43), .pick (.t 33) (.t 42) (.c (.bool false)), none⟩,
    ⟨(some 2), .mov (.t 43), none⟩]) <|
  .ret,
  [.t 2]⟩
theorem F_span_Valid_ok : cFn PP true n_span_Valid loops_span_Valid (cDr PP 44 tbl_span_Valid) = some F_span_Valid := by kernel_rfl


def V_span_Valid (a0 : D) (h0 : Heap) (K : D → Heap → Prop) : Prop :=
  vhOp PP (.box (.c a0)) h0 fun a2 h3 =>
  vhOp PP (.fadd (.c a2) 0) h3 fun a4 h5 =>
  vhOp PP (.ld (.c a4) 1 false) h5 fun a6 h7 =>
  ACall PP n_span_near [a6] h7 fun a8 h9 =>
  vun .not a8 fun a10 =>
  vguard a10 false (fun G11 =>
  vhOp PP (.fadd (.c a2) 1) h9 fun a14 h15 =>
  G11 a14 h15) h9 fun a12 h13 =>
  vguard a10 false (fun G16 =>
  vhOp PP (.ld (.c a12) 1 false) h13 fun a19 h20 =>
  G16 a19 h20) h13 fun a17 h18 =>
  vguard a10 false (fun G21 =>
  ACall PP n_span_near [a17] h18 fun a24 h25 =>
  G21 a24 h25) h18 fun a22 h23 =>
  vguard a10 false (fun G26 =>
  vun .not a22 fun a29 =>
  G26 a29 h23) h23 fun a27 h28 =>
  vhOp PP (.pick (.c a10) (.c (.bool true)) (.c a27)) h28 fun a30 h31 =>
  vguard a30 false (fun G32 =>
  vhOp PP (.fadd (.c a2) 0) h31 fun a35 h36 =>
  G32 a35 h36) h31 fun a33 h34 =>
  vguard a30 false (fun G37 =>
  vhOp PP (.ld (.c a33) 1 false) h34 fun a40 h41 =>
  G37 a40 h41) h34 fun a38 h39 =>
  vguard a30 false (fun G42 =>
  vhOp PP (.fadd (.c a2) 1) h39 fun a45 h46 =>
  G42 a45 h46) h39 fun a43 h44 =>
  vguard a30 false (fun G47 =>
  vhOp PP (.ld (.c a43) 1 false) h44 fun a50 h51 =>
  G47 a50 h51) h44 fun a48 h49 =>
  vguard a30 false (fun G52 =>
  vbin .gtr a38 a48 fun a55 =>
  G52 a55 h49) h49 fun a53 h54 =>
  vhOp PP (.pick (.c a30) (.c (.bool true)) (.c a53)) h54 fun a56 h57 =>
  vcond a56 (K (.bool false) h57) (
  vhOp PP (.fadd (.c a2) 0) h57 fun a58 h59 =>
  vhOp PP (.ld (.c a58) 1 false) h59 fun a60 h61 =>
  vhOp PP (.fadd (.c a2) 1) h61 fun a62 h63 =>
  vhOp PP (.ld (.c a62) 1 false) h63 fun a64 h65 =>
  vbin .eql a60 a64 fun a66 =>
  vcond a66 (vhOp PP (.fadd (.c a2) 2) h65 fun a67 h68 =>
  vhOp PP (.ld (.c a67) 1 false) h68 fun a69 h70 =>
  vbin .eql a69 (.int .i64 0) fun a71 =>
  K a71 h70) (
  vhOp PP (.fadd (.c a2) 2) h65 fun a72 h73 =>
  vhOp PP (.ld (.c a72) 1 false) h73 fun a74 h75 =>
  vbin .gtr a74 (.int .i64 0) fun a76 =>
  vguard a76 true (fun G77 =>
  vhOp PP (.fadd (.c a2) 1) h75 fun a80 h81 =>
  G77 a80 h81) h75 fun a78 h79 =>
  vguard a76 true (fun G82 =>
  vhOp PP (.ld (.c a78) 1 false) h79 fun a85 h86 =>
  G82 a85 h86) h79 fun a83 h84 =>
  vguard a76 true (fun G87 =>
  vhOp PP (.fadd (.c a2) 0) h84 fun a90 h91 =>
  G87 a90 h91) h84 fun a88 h89 =>
  vguard a76 true (fun G92 =>
  vhOp PP (.ld (.c a88) 1 false) h89 fun a95 h96 =>
  G92 a95 h96) h89 fun a93 h94 =>
  vguard a76 true (fun G97 =>
  vbin .sub a83 a93 fun a100 =>
  G97 a100 h94) h94 fun a98 h99 =>
  vguard a76 true (fun G101 =>
  vhOp PP (.fadd (.c a2) 2) h99 fun a104 h105 =>
  G101 a104 h105) h99 fun a102 h103 =>
  vguard a76 true (fun G106 =>
  vhOp PP (.ld (.c a102) 1 false) h103 fun a109 h110 =>
  G106 a109 h110) h103 fun a107 h108 =>
  vguard a76 true (fun G111 =>
  vbin .rem a98 a107 fun a114 =>
  G111 a114 h108) h108 fun a112 h113 =>
  vguard a76 true (fun G115 =>
  vbin .eql a112 (.int .i64 0) fun a118 =>
  G115 a118 h113) h113 fun a116 h117 =>
  vhOp PP (.pick (.c a76) (.c a116) (.c (.bool false))) h117 fun a119 h120 =>
  K a119 h120))
theorem V_span_Valid_ok (a0 : D) (h0 : Heap) (K : D → Heap → Prop) : V_span_Valid a0 h0 K = vcC PP F_span_Valid.code (fun x e h' => match x with | .exit _ => False | _ => vcRet PP F_span_Valid.res K e h') (params [a0] 0) h0 := by kernel_rfl

/-- warpwright/affine.multiples -/
def loops_affine_multiples : Nat → Option (List Nat × List Nat)
  | 1000007 => some ([4, 6], [7]) | _ => none
def tbl_affine_multiples : Nat → Option (List Nat × List Nat × List Nat)
  | _ => none
def F_affine_multiples : AFunc := ⟨32,
  .seq (.reg [⟨(some 4), .alloc (.agg [(.int .i64 0), (.int .i64 0), (.int .i64 0)]), none⟩,
    ⟨(some 5), .mov (.c (.bool false)), none⟩]) <|
  .seq (.seq (.reg [⟨(some 8), .mov (.t 1), none⟩,
    ⟨(some 9), .bin .lss (.t 8) (.c (.int .i64 2)), none⟩,
    ⟨(some 10), .mov (.t 9), none⟩,
    ⟨(some 11), .mov (.t 0), some (10, false)⟩,
    ⟨(some 12), .bin .eql (.t 11) (.c (.int .i64 0)), some (10, false)⟩,
    ⟨(some 13), .pick (.t 10) (.c (.bool true)) (.t 12), none⟩]) <|
  .cond (.t 13) (.seq (.reg [⟨(some 14), .bld [(.int .i64 0), (.int .i64 0), (.int .i64 0)] [], none⟩,
    ⟨none, .st (.t 4) (.t 14) 3, none⟩,
    ⟨(some 5), .mov (.c (.bool true)), none⟩]) <|
  .ret) (.skip)) <|
  .seq (.reg [⟨(some 16), .mov (.t 1), none⟩,
    ⟨(some 17), .bin .sub (.t 16) (.c (.int .i64 1)), none⟩,
    ⟨(some 18), .call n_span_Of [(.c (.int .i64 0)), (.t 17), (.c (.int .i64 1))], none⟩,
    ⟨(some 15), .mov (.t 18), none⟩,
    ⟨(some 19), .ext (.t 15) 0, none⟩,
    ⟨(some 20), .ext (.t 15) 1, none⟩,
    ⟨(some 6), .alloc (.agg [(.int .i64 0), (.int .i64 0), (.int .i64 0)]), none⟩,
    ⟨none, .st (.t 6) (.t 19) 3, none⟩,
    ⟨(some 7), .mov (.t 20), none⟩]) <|
  .seqj [4, 6] [7] (.seq (.reg [⟨(some 21), .mov (.t 7), none⟩,
    ⟨(some 22), .bin .eql (.t 21) (.c (.int .i64 0)), none⟩]) <|
  .cond (.t 22) (.reg [⟨(some 24), .ld (.t 6) 3 true, none⟩,
    ⟨(some 25), .mov (.t 0), none⟩,
    ⟨(some 26), .call n_span_Scale [(.t 24), (.t 25)], none⟩,
    ⟨(some 23), .mov (.t 26), none⟩,
    ⟨(some 27), .ext (.t 23) 0, none⟩,
    ⟨(some 28), .ext (.t 23) 1, none⟩,
    ⟨none, .st (.t 6) (.t 27) 3, none⟩,
    ⟨(some 7), .mov (.t 28), none⟩]) (.skip)) <|
  .seq (.reg [⟨(some 29), .ld (.t 6) 3 true, none⟩,
    ⟨(some 30), .mov (.t 7), none⟩,
    ⟨(some 31), .bin .eql (.t 30) (.c (.int .i64 0)), none⟩,
    ⟨none, .st (.t 4) (.t 29) 3, none⟩,
    ⟨(some 5), .mov (.t 31), none⟩]) <|
  .ret,
  [.cell 4 3 true, .t 5]⟩
theorem F_affine_multiples_ok : cFn PP true n_affine_multiples loops_affine_multiples (cDr PP 32 tbl_affine_multiples) = some F_affine_multiples := by kernel_rfl


def V_affine_multiples (a0 : D) (a1 : D) (h0 : Heap) (K : D → Heap → Prop) : Prop :=
  vhOp PP (.alloc (.agg [(.int .i64 0), (.int .i64 0), (.int .i64 0)])) h0 fun a3 h4 =>
  vbin .lss a1 (.int .i64 2) fun a5 =>
  vguard a5 false (fun G6 =>
  G6 a0 h4) h4 fun a7 h8 =>
  vguard a5 false (fun G9 =>
  vbin .eql a7 (.int .i64 0) fun a12 =>
  G9 a12 h8) h8 fun a10 h11 =>
  vhOp PP (.pick (.c a5) (.c (.bool true)) (.c a10)) h11 fun a13 h14 =>
  vcond a13 (vhOp PP (.bld [(.int .i64 0), (.int .i64 0), (.int .i64 0)] []) h14 fun a15 h16 =>
  vhOp PP (.st (.c a3) (.c a15) 3) h16 fun a17 h18 =>
  vhOp PP (.ld (.c a3) 3 true) h18 fun a19 _ =>
  K (.tup [a19, (.bool true)]) h18) (
  vbin .sub a1 (.int .i64 1) fun a20 =>
  ACall PP n_span_Of [(.int .i64 0), a20, (.int .i64 1)] h14 fun a21 h22 =>
  vhOp PP (.ext (.c a21) 0) h22 fun a23 h24 =>
  vhOp PP (.ext (.c a21) 1) h24 fun a25 h26 =>
  vhOp PP (.alloc (.agg [(.int .i64 0), (.int .i64 0), (.int .i64 0)])) h26 fun a27 h28 =>
  vhOp PP (.st (.c a27) (.c a23) 3) h28 fun a29 h30 =>
  ∃ (J31 : List D → Heap → Prop), (∀ (f32 : Nat → D) (h33 : Heap), J31 [f32 7] h33 →
  vhOp PP (.ld (.c a27) 3 true) h33 fun a34 h35 =>
  vbin .eql (f32 7) (.int .i64 0) fun a36 =>
  vhOp PP (.st (.c a3) (.c a34) 3) h35 fun a37 h38 =>
  vhOp PP (.ld (.c a3) 3 true) h38 fun a39 _ =>
  K (.tup [a39, a36]) h38) ∧
  vbin .eql a25 (.int .i64 0) fun a40 =>
  vcond a40 (vhOp PP (.ld (.c a27) 3 true) h30 fun a41 h42 =>
  ACall PP n_span_Scale [a41, a0] h42 fun a43 h44 =>
  vhOp PP (.ext (.c a43) 0) h44 fun a45 h46 =>
  vhOp PP (.ext (.c a43) 1) h46 fun a47 h48 =>
  vhOp PP (.st (.c a27) (.c a45) 3) h48 fun a49 h50 =>
  keq [a3, a27] [a3, a27] ∧ J31 [a47] h50) (
  keq [a3, a27] [a3, a27] ∧ J31 [a25] h30))
theorem V_affine_multiples_ok (a0 : D) (a1 : D) (h0 : Heap) (K : D → Heap → Prop) : V_affine_multiples a0 a1 h0 K = vcC PP F_affine_multiples.code (fun x e h' => match x with | .exit _ => False | _ => vcRet PP F_affine_multiples.res K e h') (params [a0, a1] 0) h0 := by kernel_rfl

/-- warpwright/span.Add -/
def loops_span_Add : Nat → Option (List Nat × List Nat)
  | _ => none
def tbl_span_Add : Nat → Option (List Nat × List Nat × List Nat)
  | 1 => some ([0, 1, 0, 4, 15, 0, 32, 0, 128, 480, 0, 1024, 0, 4096, 15360, 31744, 65535, 131071, 131071, 524287, 1048575], [19], []) | _ => none
def F_span_Add : AFunc := ⟨25,
  .seq (.reg [⟨(some 2), .box (.t 0), none⟩,
    ⟨(some 3), .box (.t 1), none⟩,
    ⟨(some 4), .alloc (.agg [(.int .i64 0), (.int .i64 0), (.int .i64 0)]), none⟩,
    ⟨(some 5), .mov (.c (.int .i64 0)), none⟩]) <|
  .seq (.dreg [⟨(some 6), .fadd (.t 2) 0, none⟩,
    ⟨(some 7), .ld (.t 6) 1 false, none⟩,
    ⟨(some 8), .fadd (.t 3) 0, none⟩,
    ⟨(some 9), .ld (.t 8) 1 false, none⟩,
    ⟨(some 10), .bin .add (.t 7) (.t 9), none⟩,
    ⟨(some 11), .fadd (.t 2) 1, none⟩,
    ⟨(some 12), .ld (.t 11) 1 false, none⟩,
    ⟨(some 13), .fadd (.t 3) 1, none⟩,
    ⟨(some 14), .ld (.t 13) 1 false, none⟩,
    ⟨(some 15), .bin .add (.t 12) (.t 14), none⟩,
    ⟨(some 16), .fadd (.t 2) 2, none⟩,
    ⟨(some 17), .ld (.t 16) 1 false, none⟩,
    ⟨(some 18), .fadd (.t 3) 2, none⟩,
    ⟨(some 19), .ld (.t 18) 1 false, none⟩,
    ⟨(some 20), .bldS false 1 2 (.int .i64 0) [(0, (.t 17)), (1, (.t 19))], none⟩,
    ⟨(some 21), .call n_span_gcd [(.t 20)], none⟩,
    ⟨(some 22), .call n_span_bounded [(.t 10), (.t 15), (.t 21)], none⟩,
    ⟨(some 23), .ext (.t 22) 0, none⟩,
    ⟨(some 24), .ext (.t 22) 1, none⟩,
    ⟨(some 5), .mov (.t 24), none⟩] [⟨none, .st (.t 4) (.t 23) 3, none⟩] []) <|
  .ret,
  [.cell 4 3 true, .t 5]⟩
theorem F_span_Add_ok : cFn PP true n_span_Add loops_span_Add (cDr PP 25 tbl_span_Add) = some F_span_Add := by kernel_rfl


def V_span_Add (a0 : D) (a1 : D) (h0 : Heap) (K : D → Heap → Prop) : Prop :=
  vhOp PP (.box (.c a0)) h0 fun a3 h4 =>
  vhOp PP (.box (.c a1)) h4 fun a5 h6 =>
  vhOp PP (.alloc (.agg [(.int .i64 0), (.int .i64 0), (.int .i64 0)])) h6 fun a7 h8 =>
  vdOp PP (.fadd (.c a3) 0) h8 fun a9 =>
  vdOp PP (.ld (.c a9) 1 false) h8 fun a10 =>
  vdOp PP (.fadd (.c a5) 0) h8 fun a11 =>
  vdOp PP (.ld (.c a11) 1 false) h8 fun a12 =>
  vbin .add a10 a12 fun a13 =>
  vdOp PP (.fadd (.c a3) 1) h8 fun a14 =>
  vdOp PP (.ld (.c a14) 1 false) h8 fun a15 =>
  vdOp PP (.fadd (.c a5) 1) h8 fun a16 =>
  vdOp PP (.ld (.c a16) 1 false) h8 fun a17 =>
  vbin .add a15 a17 fun a18 =>
  vdOp PP (.fadd (.c a3) 2) h8 fun a19 =>
  vdOp PP (.ld (.c a19) 1 false) h8 fun a20 =>
  vdOp PP (.fadd (.c a5) 2) h8 fun a21 =>
  vdOp PP (.ld (.c a21) 1 false) h8 fun a22 =>
  vdOp PP (.bldS false 1 2 (.int .i64 0) [(0, (.c a20)), (1, (.c a22))]) h8 fun a23 =>
  vdOp PP (.call n_span_gcd [(.c a23)]) h8 fun a24 =>
  vdOp PP (.call n_span_bounded [(.c a13), (.c a18), (.c a24)]) h8 fun a25 =>
  vdOp PP (.ext (.c a25) 0) h8 fun a26 =>
  vdOp PP (.ext (.c a25) 1) h8 fun a27 =>
  vhOp PP (.st (.c a7) (.c a26) 3) h8 fun a28 h29 =>
  vhOp PP (.ld (.c a7) 3 true) h29 fun a30 _ =>
  K (.tup [a30, a27]) h29
theorem V_span_Add_ok (a0 : D) (a1 : D) (h0 : Heap) (K : D → Heap → Prop) : V_span_Add a0 a1 h0 K = vcC PP F_span_Add.code (fun x e h' => match x with | .exit _ => False | _ => vcRet PP F_span_Add.res K e h') (params [a0, a1] 0) h0 := by kernel_rfl

/-- slices.Clone[[]warpwright/api.Form,warpwright/api.Form] -/
def loops_slices_Clone_sapi_Form_api_Form : Nat → Option (List Nat × List Nat)
  | _ => none
def tbl_slices_Clone_sapi_Form_api_Form : Nat → Option (List Nat × List Nat × List Nat)
  | _ => none
def F_slices_Clone_sapi_Form_api_Form : AFunc := ⟨8,
  .seq (.reg [⟨(some 2), .mov (.c .nil), none⟩]) <|
  .seq (.seq (.reg [⟨(some 3), .mov (.t 0), none⟩,
    ⟨(some 4), .nilq false (.t 3), none⟩]) <|
  .cond (.t 4) (.seq (.reg [⟨(some 2), .mov (.c .nil), none⟩]) <|
  .ret) (.skip)) <|
  .seq (.reg [⟨(some 5), .bldS true 7 0 (.agg [(.bool false), (.int .i64 0), (.int .i64 0), (.int .i64 0), (.int .i64 0), (.int .i64 0), (.int .i64 0)]) [], none⟩,
    ⟨(some 6), .mov (.t 0), none⟩,
    ⟨(some 7), .app (.t 5) (.t 6) 7 56 (.agg [(.bool false), (.int .i64 0), (.int .i64 0), (.int .i64 0), (.int .i64 0), (.int .i64 0), (.int .i64 0)]), none⟩,
    ⟨(some 2), .mov (.t 7), none⟩]) <|
  .ret,
  [.t 2]⟩
theorem F_slices_Clone_sapi_Form_api_Form_ok : cFn PP true n_slices_Clone_sapi_Form_api_Form loops_slices_Clone_sapi_Form_api_Form (cDr PP 8 tbl_slices_Clone_sapi_Form_api_Form) = some F_slices_Clone_sapi_Form_api_Form := by kernel_rfl


def V_slices_Clone_sapi_Form_api_Form (a0 : D) (h0 : Heap) (K : D → Heap → Prop) : Prop :=
  vhOp PP (.nilq false (.c a0)) h0 fun a2 h3 =>
  vcond a2 (K .nil h3) (
  vhOp PP (.bldS true 7 0 (.agg [(.bool false), (.int .i64 0), (.int .i64 0), (.int .i64 0), (.int .i64 0), (.int .i64 0), (.int .i64 0)]) []) h3 fun a4 h5 =>
  vhOp PP (.app (.c a4) (.c a0) 7 56 (.agg [(.bool false), (.int .i64 0), (.int .i64 0), (.int .i64 0), (.int .i64 0), (.int .i64 0), (.int .i64 0)])) h5 fun a6 h7 =>
  K a6 h7)
theorem V_slices_Clone_sapi_Form_api_Form_ok (a0 : D) (h0 : Heap) (K : D → Heap → Prop) : V_slices_Clone_sapi_Form_api_Form a0 h0 K = vcC PP F_slices_Clone_sapi_Form_api_Form.code (fun x e h' => match x with | .exit _ => False | _ => vcRet PP F_slices_Clone_sapi_Form_api_Form.res K e h') (params [a0] 0) h0 := by kernel_rfl

/-- (warpwright/affine.space).join -/
def loops_affine_space_join : Nat → Option (List Nat × List Nat)
  | _ => none
def tbl_affine_space_join : Nat → Option (List Nat × List Nat × List Nat)
  | 8 => some ([0, 0, 0, 6, 14, 31, 63], [6], []) | _ => none
def F_affine_space_join : AFunc := ⟨50,
  .seq (.reg [⟨(some 3), .box (.t 0), none⟩,
    ⟨(some 4), .box (.t 1), none⟩,
    ⟨(some 5), .box (.t 2), none⟩,
    ⟨(some 6), .alloc (.agg [(.bool false), (.int .i64 0), (.int .i64 0), (.int .i64 0), (.int .i64 0), (.int .i64 0), (.int .i64 0)]), none⟩]) <|
  .seq (.block 0 (.seq (.reg [⟨(some 12), .fadd (.t 4) 0, none⟩,
    ⟨(some 13), .ld (.t 12) 1 false, none⟩,
    ⟨(some 14), .mov (.t 13), none⟩,
    ⟨(some 15), .fadd (.t 5) 0, some (14, false)⟩,
    ⟨(some 16), .ld (.t 15) 1 false, some (14, false)⟩,
    ⟨(some 17), .pick (.t 14) (.c (.bool true)) (.t 16), none⟩,
    ⟨(some 11), .mov (.t 17), none⟩]) <|
  .cond (.t 11) (.seq (.reg [⟨(some 18), .call n_affine_unknown [], none⟩,
    ⟨none, .st (.t 6) (.t 18) 7, none⟩]) <|
  .ret) (.seq (.reg [⟨(some 20), .ld (.t 4) 7 true, none⟩,
    ⟨(some 21), .ld (.t 5) 7 true, none⟩,
    ⟨(some 22), .call n_affine_alike [(.t 20), (.t 21)], none⟩,
    ⟨(some 19), .mov (.t 22), none⟩]) <|
  .cond (.t 19) (.seq (.reg [⟨(some 23), .fadd (.t 4) 4, none⟩,
    ⟨(some 24), .ld (.t 23) 3 true, none⟩,
    ⟨(some 25), .fadd (.t 5) 4, none⟩,
    ⟨(some 26), .ld (.t 25) 3 true, none⟩,
    ⟨(some 27), .call n_span_Join [(.t 24), (.t 26)], none⟩,
    ⟨(some 28), .fadd (.t 4) 4, none⟩,
    ⟨none, .st (.t 28) (.t 27) 3, none⟩]) <|
  .seq (.reg [⟨(some 29), .ld (.t 3) 9 true, none⟩,
    ⟨(some 30), .ld (.t 4) 7 true, none⟩,
    ⟨(some 31), .call n_affine_space_made [(.t 29), (.t 30), (.c (.int .i64 0))], none⟩,
    ⟨none, .st (.t 6) (.t 31) 7, none⟩]) <|
  .ret) (.skip)))) <|
  .seq (.reg [⟨(some 33), .ld (.t 3) 9 true, none⟩,
    ⟨(some 34), .ld (.t 4) 7 true, none⟩,
    ⟨(some 35), .call n_affine_space_span [(.t 33), (.t 34)], none⟩,
    ⟨(some 32), .mov (.t 35), none⟩,
    ⟨(some 36), .ext (.t 32) 0, none⟩,
    ⟨(some 37), .ext (.t 32) 1, none⟩,
    ⟨(some 7), .alloc (.agg [(.int .i64 0), (.int .i64 0), (.int .i64 0)]), none⟩,
    ⟨none, .st (.t 7) (.t 36) 3, none⟩,
    ⟨(some 8), .mov (.t 37), none⟩]) <|
  .seq (.reg [⟨(some 39), .ld (.t 3) 9 true, none⟩,
    ⟨(some 40), .ld (.t 5) 7 true, none⟩,
    ⟨(some 41), .call n_affine_space_span [(.t 39), (.t 40)], none⟩,
    ⟨(some 38), .mov (.t 41), none⟩,
    ⟨(some 42), .ext (.t 38) 0, none⟩,
    ⟨(some 43), .ext (.t 38) 1, none⟩,
    ⟨(some 9), .alloc (.agg [(.int .i64 0), (.int .i64 0), (.int .i64 0)]), none⟩,
    ⟨none, .st (.t 9) (.t 42) 3, none⟩,
    ⟨(some 10), .mov (.t 43), none⟩]) <|
  .seq (.dreg [⟨(some 44), .ld (.t 3) 9 true, none⟩,
    ⟨(some 45), .ld (.t 7) 3 true, none⟩,
    ⟨(some 46), .ld (.t 9) 3 true, none⟩,
    ⟨(some 47), .call n_span_Join [(.t 45), (.t 46)], none⟩,
    ⟨(some 48), .bld [(.bool false), (.int .i64 0), (.int .i64 0), (.int .i64 0), (.int .i64 0), (.int .i64 0), (.int .i64 0)] [(4, 3, (.t 47))], none⟩,
    ⟨(some 49), .call n_affine_space_made [(.t 44), (.t 48), (.c (.int .i64 0))], none⟩] [⟨none, .st (.t 6) (.t 49) 7, none⟩] []) <|
  .ret,
  [.cell 6 7 true]⟩
theorem F_affine_space_join_ok : cFn PP true n_affine_space_join loops_affine_space_join (cDr PP 50 tbl_affine_space_join) = some F_affine_space_join := by kernel_rfl


def V_affine_space_join (a0 : D) (a1 : D) (a2 : D) (h0 : Heap) (K : D → Heap → Prop) : Prop :=
  vhOp PP (.box (.c a0)) h0 fun a4 h5 =>
  vhOp PP (.box (.c a1)) h5 fun a6 h7 =>
  vhOp PP (.box (.c a2)) h7 fun a8 h9 =>
  vhOp PP (.alloc (.agg [(.bool false), (.int .i64 0), (.int .i64 0), (.int .i64 0), (.int .i64 0), (.int .i64 0), (.int .i64 0)])) h9 fun a10 h11 =>
  vhOp PP (.fadd (.c a6) 0) h11 fun a12 h13 =>
  vhOp PP (.ld (.c a12) 1 false) h13 fun a14 h15 =>
  vguard a14 false (fun G16 =>
  vhOp PP (.fadd (.c a8) 0) h15 fun a19 h20 =>
  G16 a19 h20) h15 fun a17 h18 =>
  vguard a14 false (fun G21 =>
  vhOp PP (.ld (.c a17) 1 false) h18 fun a24 h25 =>
  G21 a24 h25) h18 fun a22 h23 =>
  vhOp PP (.pick (.c a14) (.c (.bool true)) (.c a22)) h23 fun a26 h27 =>
  vcond a26 (ACall PP n_affine_unknown [] h27 fun a28 h29 =>
  vhOp PP (.st (.c a10) (.c a28) 7) h29 fun a30 h31 =>
  vhOp PP (.ld (.c a10) 7 true) h31 fun a32 _ =>
  K a32 h31) (
  vhOp PP (.ld (.c a6) 7 true) h27 fun a33 h34 =>
  vhOp PP (.ld (.c a8) 7 true) h34 fun a35 h36 =>
  ACall PP n_affine_alike [a33, a35] h36 fun a37 h38 =>
  vcond a37 (vhOp PP (.fadd (.c a6) 4) h38 fun a39 h40 =>
  vhOp PP (.ld (.c a39) 3 true) h40 fun a41 h42 =>
  vhOp PP (.fadd (.c a8) 4) h42 fun a43 h44 =>
  vhOp PP (.ld (.c a43) 3 true) h44 fun a45 h46 =>
  ACall PP n_span_Join [a41, a45] h46 fun a47 h48 =>
  vhOp PP (.fadd (.c a6) 4) h48 fun a49 h50 =>
  vhOp PP (.st (.c a49) (.c a47) 3) h50 fun a51 h52 =>
  vhOp PP (.ld (.c a4) 9 true) h52 fun a53 h54 =>
  vhOp PP (.ld (.c a6) 7 true) h54 fun a55 h56 =>
  ACall PP n_affine_space_made [a53, a55, (.int .i64 0)] h56 fun a57 h58 =>
  vhOp PP (.st (.c a10) (.c a57) 7) h58 fun a59 h60 =>
  vhOp PP (.ld (.c a10) 7 true) h60 fun a61 _ =>
  K a61 h60) (
  vhOp PP (.ld (.c a4) 9 true) h38 fun a62 h63 =>
  vhOp PP (.ld (.c a6) 7 true) h63 fun a64 h65 =>
  ACall PP n_affine_space_span [a62, a64] h65 fun a66 h67 =>
  vhOp PP (.ext (.c a66) 0) h67 fun a68 h69 =>
  vhOp PP (.ext (.c a66) 1) h69 fun a70 h71 =>
  vhOp PP (.alloc (.agg [(.int .i64 0), (.int .i64 0), (.int .i64 0)])) h71 fun a72 h73 =>
  vhOp PP (.st (.c a72) (.c a68) 3) h73 fun a74 h75 =>
  vhOp PP (.ld (.c a4) 9 true) h75 fun a76 h77 =>
  vhOp PP (.ld (.c a8) 7 true) h77 fun a78 h79 =>
  ACall PP n_affine_space_span [a76, a78] h79 fun a80 h81 =>
  vhOp PP (.ext (.c a80) 0) h81 fun a82 h83 =>
  vhOp PP (.ext (.c a80) 1) h83 fun a84 h85 =>
  vhOp PP (.alloc (.agg [(.int .i64 0), (.int .i64 0), (.int .i64 0)])) h85 fun a86 h87 =>
  vhOp PP (.st (.c a86) (.c a82) 3) h87 fun a88 h89 =>
  vdOp PP (.ld (.c a4) 9 true) h89 fun a90 =>
  vdOp PP (.ld (.c a72) 3 true) h89 fun a91 =>
  vdOp PP (.ld (.c a86) 3 true) h89 fun a92 =>
  vdOp PP (.call n_span_Join [(.c a91), (.c a92)]) h89 fun a93 =>
  vdOp PP (.bld [(.bool false), (.int .i64 0), (.int .i64 0), (.int .i64 0), (.int .i64 0), (.int .i64 0), (.int .i64 0)] [(4, 3, (.c a93))]) h89 fun a94 =>
  vdOp PP (.call n_affine_space_made [(.c a90), (.c a94), (.c (.int .i64 0))]) h89 fun a95 =>
  vhOp PP (.st (.c a10) (.c a95) 7) h89 fun a96 h97 =>
  vhOp PP (.ld (.c a10) 7 true) h97 fun a98 _ =>
  K a98 h97))
theorem V_affine_space_join_ok (a0 : D) (a1 : D) (a2 : D) (h0 : Heap) (K : D → Heap → Prop) : V_affine_space_join a0 a1 a2 h0 K = vcC PP F_affine_space_join.code (fun x e h' => match x with | .exit _ => False | _ => vcRet PP F_affine_space_join.res K e h') (params [a0, a1, a2] 0) h0 := by kernel_rfl

/-- warpwright/affine.between -/
def loops_affine_between : Nat → Option (List Nat × List Nat)
  | _ => none
def tbl_affine_between : Nat → Option (List Nat × List Nat × List Nat)
  | _ => none
def F_affine_between : AFunc := ⟨18,
  .seq (.reg [⟨(some 4), .alloc (.agg [(.bool false), (.int .i64 0), (.int .i64 0), (.int .i64 0), (.int .i64 0), (.int .i64 0), (.int .i64 0)]), none⟩]) <|
  .seq (.reg [⟨(some 8), .mov (.t 0), none⟩,
    ⟨(some 9), .mov (.t 1), none⟩,
    ⟨(some 10), .call n_span_Of [(.t 8), (.t 9), (.c (.int .i64 1))], none⟩,
    ⟨(some 7), .mov (.t 10), none⟩,
    ⟨(some 11), .ext (.t 7) 0, none⟩,
    ⟨(some 12), .ext (.t 7) 1, none⟩,
    ⟨(some 5), .alloc (.agg [(.int .i64 0), (.int .i64 0), (.int .i64 0)]), none⟩,
    ⟨none, .st (.t 5) (.t 11) 3, none⟩,
    ⟨(some 6), .mov (.t 12), none⟩]) <|
  .seq (.seq (.reg [⟨(some 13), .mov (.t 6), none⟩,
    ⟨(some 14), .bin .neq (.t 13) (.c (.int .i64 0)), none⟩]) <|
  .cond (.t 14) (.seq (.reg [⟨(some 15), .call n_affine_unknown [], none⟩,
    ⟨none, .st (.t 4) (.t 15) 7, none⟩]) <|
  .ret) (.skip)) <|
  .seq (.reg [⟨(some 16), .ld (.t 5) 3 true, none⟩,
    ⟨(some 17), .bld [(.bool false), (.int .i64 0), (.int .i64 0), (.int .i64 0), (.int .i64 0), (.int .i64 0), (.int .i64 0)] [(4, 3, (.t 16))], none⟩,
    ⟨none, .st (.t 4) (.t 17) 7, none⟩]) <|
  .ret,
  [.cell 4 7 true]⟩
theorem F_affine_between_ok : cFn PP true n_affine_between loops_affine_between (cDr PP 18 tbl_affine_between) = some F_affine_between := by kernel_rfl


def V_affine_between (a0 : D) (a1 : D) (h0 : Heap) (K : D → Heap → Prop) : Prop :=
  vhOp PP (.alloc (.agg [(.bool false), (.int .i64 0), (.int .i64 0), (.int .i64 0), (.int .i64 0), (.int .i64 0), (.int .i64 0)])) h0 fun a3 h4 =>
  ACall PP n_span_Of [a0, a1, (.int .i64 1)] h4 fun a5 h6 =>
  vhOp PP (.ext (.c a5) 0) h6 fun a7 h8 =>
  vhOp PP (.ext (.c a5) 1) h8 fun a9 h10 =>
  vhOp PP (.alloc (.agg [(.int .i64 0), (.int .i64 0), (.int .i64 0)])) h10 fun a11 h12 =>
  vhOp PP (.st (.c a11) (.c a7) 3) h12 fun a13 h14 =>
  vbin .neq a9 (.int .i64 0) fun a15 =>
  vcond a15 (ACall PP n_affine_unknown [] h14 fun a16 h17 =>
  vhOp PP (.st (.c a3) (.c a16) 7) h17 fun a18 h19 =>
  vhOp PP (.ld (.c a3) 7 true) h19 fun a20 _ =>
  K a20 h19) (
  vhOp PP (.ld (.c a11) 3 true) h14 fun a21 h22 =>
  vhOp PP (.bld [(.bool false), (.int .i64 0), (.int .i64 0), (.int .i64 0), (.int .i64 0), (.int .i64 0), (.int .i64 0)] [(4, 3, (.c a21))]) h22 fun a23 h24 =>
  vhOp PP (.st (.c a3) (.c a23) 7) h24 fun a25 h26 =>
  vhOp PP (.ld (.c a3) 7 true) h26 fun a27 _ =>
  K a27 h26)
theorem V_affine_between_ok (a0 : D) (a1 : D) (h0 : Heap) (K : D → Heap → Prop) : V_affine_between a0 a1 h0 K = vcC PP F_affine_between.code (fun x e h' => match x with | .exit _ => False | _ => vcRet PP F_affine_between.res K e h') (params [a0, a1] 0) h0 := by kernel_rfl

/-- warpwright/code.Def -/
def loops_code_Def : Nat → Option (List Nat × List Nat)
  | _ => none
def tbl_code_Def : Nat → Option (List Nat × List Nat × List Nat)
  | _ => none
def F_code_Def : AFunc := ⟨6,
  .seq (.reg [⟨(some 1), .box (.t 0), none⟩,
    ⟨(some 2), .mov (.c (.int .i64 0)), none⟩]) <|
  .seq (.reg [⟨(some 3), .fadd (.t 1) 3, none⟩,
    ⟨(some 4), .ld (.t 3) 3 true, none⟩,
    ⟨(some 5), .call n_code_def [(.t 4)], none⟩,
    ⟨(some 2), .mov (.t 5), none⟩]) <|
  .ret,
  [.t 2]⟩
theorem F_code_Def_ok : cFn PP true n_code_Def loops_code_Def (cDr PP 6 tbl_code_Def) = some F_code_Def := by kernel_rfl


def V_code_Def (a0 : D) (h0 : Heap) (K : D → Heap → Prop) : Prop :=
  vhOp PP (.box (.c a0)) h0 fun a2 h3 =>
  vhOp PP (.fadd (.c a2) 3) h3 fun a4 h5 =>
  vhOp PP (.ld (.c a4) 3 true) h5 fun a6 h7 =>
  ACall PP n_code_def [a6] h7 fun a8 h9 =>
  K a8 h9
theorem V_code_Def_ok (a0 : D) (h0 : Heap) (K : D → Heap → Prop) : V_code_Def a0 h0 K = vcC PP F_code_Def.code (fun x e h' => match x with | .exit _ => False | _ => vcRet PP F_code_Def.res K e h') (params [a0] 0) h0 := by kernel_rfl

/-- (warpwright/affine.space).result -/
def loops_affine_space_result : Nat → Option (List Nat × List Nat)
  | 1000021 => some ([6], []) | 15 => some ([3, 5, 6, 7, 8, 52, 53], [54]) | _ => none
def tbl_affine_space_result : Nat → Option (List Nat × List Nat × List Nat)
  | 1 => some ([0, 0, 2, 7, 0, 0, 32, 127, 0, 0, 1023, 2047], [8, 9, 10, 11], []) | 6 => some ([0, 0, 0, 0, 8, 28, 63, 127], [7], []) | _ => none
def F_affine_space_result : AFunc := ⟨71,
  .seq (.reg [⟨(some 3), .box (.t 0), none⟩,
    ⟨(some 5), .box (.t 2), none⟩,
    ⟨(some 6), .alloc (.agg [(.bool false), (.int .i64 0), (.int .i64 0), (.int .i64 0), (.int .i64 0), (.int .i64 0), (.int .i64 0)]), none⟩]) <|
  .seq (.dreg [⟨(some 11), .mov (.t 1), none⟩,
    ⟨(some 12), .fadd (.t 5) 6, none⟩,
    ⟨(some 13), .ld (.t 12) 3 true, none⟩,
    ⟨(some 14), .call n_affine_operand [(.t 11), (.t 13)], none⟩,
    ⟨(some 15), .mov (.t 1), none⟩,
    ⟨(some 16), .fadd (.t 5) 9, none⟩,
    ⟨(some 17), .ld (.t 16) 3 true, none⟩,
    ⟨(some 18), .call n_affine_operand [(.t 15), (.t 17)], none⟩] [⟨(some 7), .alloc (.agg [(.bool false), (.int .i64 0), (.int .i64 0), (.int .i64 0), (.int .i64 0), (.int .i64 0), (.int .i64 0)]), none⟩,
    ⟨(some 8), .alloc (.agg [(.bool false), (.int .i64 0), (.int .i64 0), (.int .i64 0), (.int .i64 0), (.int .i64 0), (.int .i64 0)]), none⟩,
    ⟨none, .st (.t 7) (.t 14) 7, none⟩,
    ⟨none, .st (.t 8) (.t 18) 7, none⟩] []) <|
  .seqj [6] [] (.seq (.reg [⟨(some 19), .fadd (.t 5) 0, none⟩,
    ⟨(some 20), .ld (.t 19) 1 false, none⟩]) <|
  .block 0 (.seq (.reg [⟨(some 22), .bin .eql (.t 20) (.c (.int .i64 1)), none⟩,
    ⟨(some 21), .mov (.t 22), none⟩]) <|
  .cond (.t 21) (.seq (.reg [⟨(some 23), .ld (.t 7) 7 true, none⟩,
    ⟨none, .st (.t 6) (.t 23) 7, none⟩]) <|
  .ret) (.seq (.reg [⟨(some 25), .bin .eql (.t 20) (.c (.int .i64 4)), none⟩,
    ⟨(some 24), .mov (.t 25), none⟩]) <|
  .cond (.t 24) (.seq (.dreg [⟨(some 26), .ld (.t 3) 9 true, none⟩,
    ⟨(some 27), .ld (.t 8) 7 true, none⟩,
    ⟨(some 28), .mov (.t 1), none⟩,
    ⟨(some 29), .fadd (.t 5) 12, none⟩,
    ⟨(some 30), .ld (.t 29) 3 true, none⟩,
    ⟨(some 31), .call n_affine_operand [(.t 28), (.t 30)], none⟩,
    ⟨(some 32), .call n_affine_space_join [(.t 26), (.t 27), (.t 31)], none⟩] [⟨none, .st (.t 6) (.t 32) 7, none⟩] []) <|
  .ret) (.seq (.reg [⟨(some 34), .bin .eql (.t 20) (.c (.int .i64 5)), none⟩,
    ⟨(some 33), .mov (.t 34), none⟩]) <|
  .cond (.t 33) (.seq (.reg [⟨(some 35), .ld (.t 3) 9 true, none⟩,
    ⟨(some 36), .fadd (.t 5) 1, none⟩,
    ⟨(some 37), .ld (.t 36) 1 false, none⟩,
    ⟨(some 38), .call n_affine_space_id [(.t 35), (.t 37)], none⟩,
    ⟨none, .st (.t 6) (.t 38) 7, none⟩]) <|
  .ret) (.seq (.reg [⟨(some 40), .bin .eql (.t 20) (.c (.int .i64 2)), none⟩,
    ⟨(some 39), .mov (.t 40), none⟩]) <|
  .cond (.t 39) (.seq (.reg [⟨(some 41), .ld (.t 3) 9 true, none⟩,
    ⟨(some 42), .fadd (.t 5) 1, none⟩,
    ⟨(some 43), .ld (.t 42) 1 false, none⟩,
    ⟨(some 44), .ld (.t 7) 7 true, none⟩,
    ⟨(some 45), .call n_affine_space_unary [(.t 41), (.t 43), (.t 44)], none⟩,
    ⟨none, .st (.t 6) (.t 45) 7, none⟩]) <|
  .ret) (.seq (.reg [⟨(some 47), .bin .eql (.t 20) (.c (.int .i64 3)), none⟩,
    ⟨(some 46), .mov (.t 47), none⟩]) <|
  .cond (.t 46) (.seq (.seq (.reg [⟨(some 48), .fadd (.t 5) 1, none⟩,
    ⟨(some 49), .ld (.t 48) 1 false, none⟩,
    ⟨(some 50), .bin .geq (.t 49) (.c (.int .i64 24)), none⟩]) <|
  .cond (.t 50) (.seq (.reg [⟨(some 51), .call n_affine_between [(.c (.int .i64 0)), (.c (.int .i64 1))], none⟩,
    ⟨none, .st (.t 6) (.t 51) 7, none⟩]) <|
  .ret) (.skip)) <|
  .seq (.reg [⟨(some 52), .call n_affine_operators [], none⟩,
    ⟨(some 53), .len (.t 52), none⟩,
    ⟨(some 54), .mov (.c (.int .i64 0)), none⟩]) <|
  .block 1 (.loop [3, 5, 6, 7, 8, 52, 53] [54] (.seq (.reg [⟨(some 55), .bin .lss (.t 54) (.t 53), none⟩]) <|
  .seq (.cond (.t 55) (.skip) (.exit 1)) <|
  .seq (.block 2 (.seq (.reg [⟨(some 56), .iadd (.t 52) (.t 54) 2, none⟩,
    ⟨(some 57), .ld (.t 56) 2 true, none⟩,
    ⟨(some 10), .alloc (.agg [(.int .i64 0), .nilfn]), none⟩,
    ⟨none, .st (.t 10) (.t 57) 2, none⟩]) <|
  .seq (.reg [⟨(some 58), .fadd (.t 10) 0, none⟩,
    ⟨(some 59), .ld (.t 58) 1 false, none⟩,
    ⟨(some 60), .fadd (.t 5) 1, none⟩,
    ⟨(some 61), .ld (.t 60) 1 false, none⟩,
    ⟨(some 62), .bin .eql (.t 59) (.t 61), none⟩]) <|
  .cond (.t 62) (.seq (.reg [⟨(some 63), .fadd (.t 10) 1, none⟩,
    ⟨(some 64), .ld (.t 63) 1 false, none⟩,
    ⟨(some 65), .ld (.t 3) 9 true, none⟩,
    ⟨(some 66), .ld (.t 7) 7 true, none⟩,
    ⟨(some 67), .ld (.t 8) 7 true, none⟩,
    ⟨(some 68), .callv (.t 64) [(.t 65), (.t 66), (.t 67)], none⟩,
    ⟨none, .st (.t 6) (.t 68) 7, none⟩]) <|
  .ret) (.skip))) <|
  .reg [⟨(some 69), .bin .add (.t 54) (.c (.int .i64 1)), none⟩,
    ⟨(some 54), .mov (.t 69), none⟩]))) (.skip))))))) <|
  .seq (.reg [⟨(some 70), .call n_affine_unknown [], none⟩,
    ⟨none, .st (.t 6) (.t 70) 7, none⟩]) <|
  .ret,
  [.cell 6 7 true]⟩
theorem F_affine_space_result_ok : cFn PP true n_affine_space_result loops_affine_space_result (cDr PP 71 tbl_affine_space_result) = some F_affine_space_result := by kernel_rfl

/-- warpwright/affine.plain -/
def loops_affine_plain : Nat → Option (List Nat × List Nat)
  | _ => none
def tbl_affine_plain : Nat → Option (List Nat × List Nat × List Nat)
  | _ => none
def F_affine_plain : AFunc := ⟨6,
  .seq (.reg [⟨(some 1), .box (.t 0), none⟩,
    ⟨(some 2), .mov (.c (.bool false)), none⟩]) <|
  .seq (.reg [⟨(some 3), .ld (.t 1) 7 true, none⟩,
    ⟨(some 4), .bld [(.bool false), (.int .i64 0), (.int .i64 0), (.int .i64 0), (.int .i64 0), (.int .i64 0), (.int .i64 0)] [], none⟩,
    ⟨(some 5), .call n_affine_alike [(.t 3), (.t 4)], none⟩,
    ⟨(some 2), .mov (.t 5), none⟩]) <|
  .ret,
  [.t 2]⟩
theorem F_affine_plain_ok : cFn PP true n_affine_plain loops_affine_plain (cDr PP 6 tbl_affine_plain) = some F_affine_plain := by kernel_rfl


def V_affine_plain (a0 : D) (h0 : Heap) (K : D → Heap → Prop) : Prop :=
  vhOp PP (.box (.c a0)) h0 fun a2 h3 =>
  vhOp PP (.ld (.c a2) 7 true) h3 fun a4 h5 =>
  vhOp PP (.bld [(.bool false), (.int .i64 0), (.int .i64 0), (.int .i64 0), (.int .i64 0), (.int .i64 0), (.int .i64 0)] []) h5 fun a6 h7 =>
  ACall PP n_affine_alike [a4, a6] h7 fun a8 h9 =>
  K a8 h9
theorem V_affine_plain_ok (a0 : D) (h0 : Heap) (K : D → Heap → Prop) : V_affine_plain a0 h0 K = vcC PP F_affine_plain.code (fun x e h' => match x with | .exit _ => False | _ => vcRet PP F_affine_plain.res K e h') (params [a0] 0) h0 := by kernel_rfl

/-- warpwright/affine.constant -/
def loops_affine_constant : Nat → Option (List Nat × List Nat)
  | _ => none
def tbl_affine_constant : Nat → Option (List Nat × List Nat × List Nat)
  | 1 => some ([0, 1, 3, 0, 8, 24, 56, 120, 248, 56, 568, 1592, 4088, 8184, 63, 32767], [], []) | _ => none
def F_affine_constant : AFunc := ⟨18,
  .seq (.reg [⟨(some 1), .box (.t 0), none⟩,
    ⟨(some 2), .mov (.c (.int .i64 0)), none⟩,
    ⟨(some 3), .mov (.c (.bool false)), none⟩]) <|
  .seq (.dreg [⟨(some 4), .fadd (.t 1) 4, none⟩,
    ⟨(some 5), .fadd (.t 4) 0, none⟩,
    ⟨(some 6), .ld (.t 5) 1 false, none⟩,
    ⟨(some 7), .ld (.t 1) 7 true, none⟩,
    ⟨(some 8), .call n_affine_plain [(.t 7)], none⟩,
    ⟨(some 9), .mov (.t 8), none⟩,
    ⟨(some 10), .fadd (.t 1) 4, some (9, true)⟩,
    ⟨(some 11), .fadd (.t 10) 0, some (9, true)⟩,
    ⟨(some 12), .ld (.t 11) 1 false, some (9, true)⟩,
    ⟨(some 13), .fadd (.t 1) 4, some (9, true)⟩,
    ⟨(some 14), .fadd (.t 13) 1, some (9, true)⟩,
    ⟨(some 15), .ld (.t 14) 1 false, some (9, true)⟩,
    ⟨(some 16), .bin .eql (.t 12) (.t 15), some (9, true)⟩,
    ⟨(some 17), .pick (.t 9) (.t 16) (.c (.bool false)), none⟩,
    ⟨(some 2), .mov (.t 6), none⟩,
    ⟨(some 3), .mov (.t 17), none⟩] [] []) <|
  .ret,
  [.t 2, .t 3]⟩
theorem F_affine_constant_ok : cFn PP true n_affine_constant loops_affine_constant (cDr PP 18 tbl_affine_constant) = some F_affine_constant := by kernel_rfl


def V_affine_constant (a0 : D) (h0 : Heap) (K : D → Heap → Prop) : Prop :=
  vhOp PP (.box (.c a0)) h0 fun a2 h3 =>
  vdOp PP (.fadd (.c a2) 4) h3 fun a4 =>
  vdOp PP (.fadd (.c a4) 0) h3 fun a5 =>
  vdOp PP (.ld (.c a5) 1 false) h3 fun a6 =>
  vdOp PP (.ld (.c a2) 7 true) h3 fun a7 =>
  vdOp PP (.call n_affine_plain [(.c a7)]) h3 fun a8 =>
  vguard1 a8 true (fun G9 =>
  vdOp PP (.fadd (.c a2) 4) h3 fun a44 =>
  G9 a44) fun a10 =>
  vguard1 a8 true (fun G13 =>
  vdOp PP (.fadd (.c a10) 0) h3 fun a43 =>
  G13 a43) fun a14 =>
  vguard1 a8 true (fun G17 =>
  vdOp PP (.ld (.c a14) 1 false) h3 fun a42 =>
  G17 a42) fun a18 =>
  vguard1 a8 true (fun G21 =>
  vdOp PP (.fadd (.c a2) 4) h3 fun a41 =>
  G21 a41) fun a22 =>
  vguard1 a8 true (fun G25 =>
  vdOp PP (.fadd (.c a22) 1) h3 fun a40 =>
  G25 a40) fun a26 =>
  vguard1 a8 true (fun G29 =>
  vdOp PP (.ld (.c a26) 1 false) h3 fun a39 =>
  G29 a39) fun a30 =>
  vguard1 a8 true (fun G33 =>
  vbin .eql a18 a30 fun a38 =>
  G33 a38) fun a34 =>
  vdOp PP (.pick (.c a8) (.c a34) (.c (.bool false))) h3 fun a37 =>
  K (.tup [a6, a37]) h3
theorem V_affine_constant_ok (a0 : D) (h0 : Heap) (K : D → Heap → Prop) : V_affine_constant a0 h0 K = vcC PP F_affine_constant.code (fun x e h' => match x with | .exit _ => False | _ => vcRet PP F_affine_constant.res K e h') (params [a0] 0) h0 := by kernel_rfl

/-- warpwright/affine.decides -/
def loops_affine_decides : Nat → Option (List Nat × List Nat)
  | 1000012 => some ([2, 3], []) | 4000007 => some ([1, 2, 3, 4], [1000000]) | _ => none
def tbl_affine_decides : Nat → Option (List Nat × List Nat × List Nat)
  | _ => none
def F_affine_decides : AFunc := ⟨69,
  .seq (.reg [⟨(some 1), .box (.t 0), none⟩,
    ⟨(some 2), .alloc (.agg [(.int .i64 0), (.int .i64 0), (.int .i64 0), (.int .i64 0), (.int .i64 0), (.int .i32 0), (.int .i64 0), (.int .i64 0), (.int .i32 0), (.int .i64 0), (.int .i64 0), (.int .i32 0), (.int .i64 0), (.int .i64 0), (.int .i32 0)]), none⟩,
    ⟨(some 3), .alloc (.bool false), none⟩]) <|
  .seq (.seq (.reg [⟨(some 9), .fadd (.t 1) 1, none⟩,
    ⟨(some 10), .fadd (.t 9) 5, none⟩,
    ⟨(some 11), .fadd (.t 10) 0, none⟩,
    ⟨(some 12), .ld (.t 11) 1 false, none⟩,
    ⟨(some 13), .bin .neq (.t 12) (.c (.int .i64 2)), none⟩]) <|
  .cond (.t 13) (.seq (.reg [⟨(some 14), .bld [(.int .i64 0), (.int .i64 0), (.int .i64 0), (.int .i64 0), (.int .i64 0), (.int .i32 0), (.int .i64 0), (.int .i64 0), (.int .i32 0), (.int .i64 0), (.int .i64 0), (.int .i32 0), (.int .i64 0), (.int .i64 0), (.int .i32 0)] [], none⟩,
    ⟨none, .st (.t 2) (.t 14) 15, none⟩,
    ⟨none, .st (.t 3) (.c (.bool false)) 1, none⟩]) <|
  .ret) (.skip)) <|
  .seq (.reg [⟨(some 15), .dead, none⟩,
    ⟨(some 4), .dead, none⟩,
    ⟨none, .st (.t 4) (.t 15) 1, none⟩]) <|
  .seqj [2, 3] [] (.seq (.reg [⟨(some 16), .fadd (.t 1) 0, none⟩,
    ⟨(some 17), .ld (.t 16) 1 false, none⟩,
    ⟨(some 18), .call n_slices_Backward_sapi_Inst_api_Inst [(.t 17)], none⟩]) <|
  .block 0 (.range (.t 18) [19, 20] [1, 2, 3, 4] [1000000] (.reg [⟨(some 6), .alloc (.agg [(.int .i64 0), (.int .i64 0), (.int .i64 0), (.int .i64 0), (.int .i64 0), (.int .i32 0), (.int .i64 0), (.int .i64 0), (.int .i32 0), (.int .i64 0), (.int .i64 0), (.int .i32 0), (.int .i64 0), (.int .i64 0), (.int .i32 0)]), none⟩,
    ⟨none, .st (.t 6) (.t 20) 15, none⟩]) (.block 1 (.seq (.reg [⟨(some 21), .ld (.t 6) 15 true, none⟩,
    ⟨(some 22), .call n_code_Def [(.t 21)], none⟩,
    ⟨(some 7), .mov (.t 22), none⟩]) <|
  .seq (.seq (.reg [⟨(some 23), .mov (.t 7), none⟩,
    ⟨(some 24), .fadd (.t 1) 1, none⟩,
    ⟨(some 25), .fadd (.t 24) 5, none⟩,
    ⟨(some 26), .fadd (.t 25) 1, none⟩,
    ⟨(some 27), .ld (.t 26) 1 false, none⟩,
    ⟨(some 28), .bin .neq (.t 23) (.t 27), none⟩]) <|
  .cond (.t 28) (.seq (.reg [⟨(some 29), .ld (.t 4) 1 false, none⟩,
    ⟨(some 30), .mov (.t 7), none⟩,
    ⟨none, .dead, none⟩]) <|
  .exit 1) (.skip)) <|
  .seq (.reg [⟨(some 31), .fadd (.t 6) 0, none⟩,
    ⟨(some 32), .ld (.t 31) 1 false, none⟩,
    ⟨(some 33), .bin .eql (.t 32) (.c (.int .i64 3)), none⟩,
    ⟨(some 34), .mov (.t 33), none⟩,
    ⟨(some 35), .fadd (.t 6) 1, some (34, true)⟩,
    ⟨(some 36), .ld (.t 35) 1 false, some (34, true)⟩,
    ⟨(some 37), .bin .geq (.t 36) (.c (.int .i64 24)), some (34, true)⟩,
    ⟨(some 38), .pick (.t 34) (.t 37) (.c (.bool false)), none⟩,
    ⟨(some 39), .mov (.t 38), none⟩,
    ⟨(some 40), .fadd (.t 6) 6, some (39, true)⟩,
    ⟨(some 41), .fadd (.t 40) 0, some (39, true)⟩,
    ⟨(some 42), .ld (.t 41) 1 false, some (39, true)⟩,
    ⟨(some 43), .bin .eql (.t 42) (.c (.int .i64 2)), some (39, true)⟩,
    ⟨(some 44), .pick (.t 39) (.t 43) (.c (.bool false)), none⟩,
    ⟨(some 45), .mov (.t 44), none⟩,
    ⟨(some 46), .fadd (.t 6) 9, some (45, true)⟩,
    ⟨(some 47), .fadd (.t 46) 0, some (45, true)⟩,
    ⟨(some 48), .ld (.t 47) 1 false, some (45, true)⟩,
    ⟨(some 49), .bin .eql (.t 48) (.c (.int .i64 1)), some (45, true)⟩,
    ⟨(some 50), .pick (.t 45) (.t 49) (.c (.bool false)), none⟩,
    ⟨(some 51), .mov (.t 50), none⟩,
    ⟨(some 52), .fadd (.t 6) 6, some (51, true)⟩,
    ⟨(some 53), .fadd (.t 52) 1, some (51, true)⟩,
    ⟨(some 54), .ld (.t 53) 1 false, some (51, true)⟩,
    ⟨(some 55), .mov (.t 7), some (51, true)⟩,
    ⟨(some 56), .bin .neq (.t 54) (.t 55), some (51, true)⟩,
    ⟨(some 57), .pick (.t 51) (.t 56) (.c (.bool false)), none⟩,
    ⟨(some 58), .mov (.t 57), none⟩,
    ⟨(some 59), .ld (.t 4) 1 false, some (58, true)⟩,
    ⟨(some 60), .fadd (.t 6) 6, some (58, true)⟩,
    ⟨(some 61), .fadd (.t 60) 1, some (58, true)⟩,
    ⟨(some 62), .ld (.t 61) 1 false, some (58, true)⟩,
    ⟨(some 63), .dead, some (58, true)⟩,
    ⟨(some 64), .un .not (.t 63), some (58, true)⟩,
    ⟨(some 65), .pick (.t 58) (.t 64) (.c (.bool false)), none⟩,
    ⟨(some 8), .mov (.t 65), none⟩]) <|
  .seq (.reg [⟨(some 66), .ld (.t 6) 15 true, none⟩,
    ⟨(some 67), .mov (.t 8), none⟩,
    ⟨none, .st (.t 2) (.t 66) 15, none⟩,
    ⟨none, .st (.t 3) (.t 67) 1, none⟩]) <|
  .ret)))) <|
  .seq (.reg [⟨(some 68), .bld [(.int .i64 0), (.int .i64 0), (.int .i64 0), (.int .i64 0), (.int .i64 0), (.int .i32 0), (.int .i64 0), (.int .i64 0), (.int .i32 0), (.int .i64 0), (.int .i64 0), (.int .i32 0), (.int .i64 0), (.int .i64 0), (.int .i32 0)] [], none⟩,
    ⟨none, .st (.t 2) (.t 68) 15, none⟩,
    ⟨none, .st (.t 3) (.c (.bool false)) 1, none⟩]) <|
  .ret,
  [.cell 2 15 true, .cell 3 1 false]⟩
theorem F_affine_decides_ok : cFn PP true n_affine_decides loops_affine_decides (cDr PP 69 tbl_affine_decides) = some F_affine_decides := by kernel_rfl

/-- warpwright/affine.where -/
def loops_affine_where : Nat → Option (List Nat × List Nat)
  | 1000005 => some ([1], [0]) | _ => none
def tbl_affine_where : Nat → Option (List Nat × List Nat × List Nat)
  | _ => none
def F_affine_where : AFunc := ⟨36,
  .seq (.reg [⟨(some 6), .mov (.c (.int .i64 0)), none⟩,
    ⟨(some 7), .mov (.c (.int .i64 0)), none⟩,
    ⟨(some 8), .mov (.c (.bool false)), none⟩]) <|
  .seq (.reg [⟨(some 10), .dead, none⟩,
    ⟨none, .dead, none⟩,
    ⟨none, .dead, none⟩,
    ⟨none, .dead, none⟩,
    ⟨none, .dead, none⟩,
    ⟨none, .dead, none⟩,
    ⟨none, .dead, none⟩,
    ⟨(some 11), .mov (.t 10), none⟩,
    ⟨(some 9), .mov (.t 11), none⟩]) <|
  .seqj [1] [0] (.seq (.reg [⟨(some 12), .mov (.t 2), none⟩,
    ⟨(some 13), .un .not (.t 12), none⟩]) <|
  .cond (.t 13) (.reg [⟨(some 14), .mov (.t 9), none⟩,
    ⟨(some 15), .mov (.t 0), none⟩,
    ⟨(some 16), .dead, none⟩,
    ⟨(some 0), .mov (.t 16), none⟩]) (.skip)) <|
  .seq (.seq (.reg [⟨(some 17), .mov (.t 0), none⟩]) <|
  .block 0 (.seq (.reg [⟨(some 19), .bin .eql (.t 17) (.c (.int .i64 26)), none⟩,
    ⟨(some 18), .mov (.t 19), none⟩]) <|
  .cond (.t 18) (.seq (.reg [⟨(some 20), .mov (.t 1), none⟩,
    ⟨(some 21), .bin .sub (.t 20) (.c (.int .i64 1)), none⟩,
    ⟨(some 6), .mov (.c (.int .i64 (-2147483648))), none⟩,
    ⟨(some 7), .mov (.t 21), none⟩,
    ⟨(some 8), .mov (.c (.bool true)), none⟩]) <|
  .ret) (.seq (.reg [⟨(some 23), .bin .eql (.t 17) (.c (.int .i64 27)), none⟩,
    ⟨(some 22), .mov (.t 23), none⟩]) <|
  .cond (.t 22) (.seq (.reg [⟨(some 24), .mov (.t 1), none⟩,
    ⟨(some 6), .mov (.c (.int .i64 (-2147483648))), none⟩,
    ⟨(some 7), .mov (.t 24), none⟩,
    ⟨(some 8), .mov (.c (.bool true)), none⟩]) <|
  .ret) (.seq (.reg [⟨(some 26), .bin .eql (.t 17) (.c (.int .i64 28)), none⟩,
    ⟨(some 25), .mov (.t 26), none⟩]) <|
  .cond (.t 25) (.seq (.reg [⟨(some 27), .mov (.t 1), none⟩,
    ⟨(some 28), .bin .add (.t 27) (.c (.int .i64 1)), none⟩,
    ⟨(some 6), .mov (.t 28), none⟩,
    ⟨(some 7), .mov (.c (.int .i64 2147483647)), none⟩,
    ⟨(some 8), .mov (.c (.bool true)), none⟩]) <|
  .ret) (.seq (.reg [⟨(some 30), .bin .eql (.t 17) (.c (.int .i64 29)), none⟩,
    ⟨(some 29), .mov (.t 30), none⟩]) <|
  .cond (.t 29) (.seq (.reg [⟨(some 31), .mov (.t 1), none⟩,
    ⟨(some 6), .mov (.t 31), none⟩,
    ⟨(some 7), .mov (.c (.int .i64 2147483647)), none⟩,
    ⟨(some 8), .mov (.c (.bool true)), none⟩]) <|
  .ret) (.seq (.reg [⟨(some 33), .bin .eql (.t 17) (.c (.int .i64 24)), none⟩,
    ⟨(some 32), .mov (.t 33), none⟩]) <|
  .cond (.t 32) (.seq (.reg [⟨(some 34), .mov (.t 1), none⟩,
    ⟨(some 35), .mov (.t 1), none⟩,
    ⟨(some 6), .mov (.t 34), none⟩,
    ⟨(some 7), .mov (.t 35), none⟩,
    ⟨(some 8), .mov (.c (.bool true)), none⟩]) <|
  .ret) (.skip))))))) <|
  .seq (.reg [⟨(some 6), .mov (.c (.int .i64 0)), none⟩,
    ⟨(some 7), .mov (.c (.int .i64 0)), none⟩,
    ⟨(some 8), .mov (.c (.bool false)), none⟩]) <|
  .ret,
  [.t 6, .t 7, .t 8]⟩
theorem F_affine_where_ok : cFn PP true n_affine_where loops_affine_where (cDr PP 36 tbl_affine_where) = some F_affine_where := by kernel_rfl


def V_affine_where (a0 : D) (a1 : D) (a2 : D) (h0 : Heap) (K : D → Heap → Prop) : Prop :=
  vhOp PP (.dead) h0 fun a4 h5 =>
  vhOp PP (.dead) h5 fun a6 h7 =>
  vhOp PP (.dead) h7 fun a8 h9 =>
  vhOp PP (.dead) h9 fun a10 h11 =>
  vhOp PP (.dead) h11 fun a12 h13 =>
  vhOp PP (.dead) h13 fun a14 h15 =>
  vhOp PP (.dead) h15 fun a16 h17 =>
  ∃ (J18 : List D → Heap → Prop), (∀ (f19 : Nat → D) (h20 : Heap), J18 [f19 0] h20 →
  vbin .eql (f19 0) (.int .i64 26) fun a21 =>
  vcond a21 (vbin .sub a1 (.int .i64 1) fun a22 =>
  K (.tup [(.int .i64 (-2147483648)), a22, (.bool true)]) h20) (
  vbin .eql (f19 0) (.int .i64 27) fun a23 =>
  vcond a23 (K (.tup [(.int .i64 (-2147483648)), a1, (.bool true)]) h20) (
  vbin .eql (f19 0) (.int .i64 28) fun a24 =>
  vcond a24 (vbin .add a1 (.int .i64 1) fun a25 =>
  K (.tup [a25, (.int .i64 2147483647), (.bool true)]) h20) (
  vbin .eql (f19 0) (.int .i64 29) fun a26 =>
  vcond a26 (K (.tup [a1, (.int .i64 2147483647), (.bool true)]) h20) (
  vbin .eql (f19 0) (.int .i64 24) fun a27 =>
  vcond a27 (K (.tup [a1, a1, (.bool true)]) h20) (
  K (.tup [(.int .i64 0), (.int .i64 0), (.bool false)]) h20)))))) ∧
  vun .not a2 fun a28 =>
  vcond a28 (vhOp PP (.dead) h17 fun a29 h30 =>
  keq [a1] [a1] ∧ J18 [a29] h30) (
  keq [a1] [a1] ∧ J18 [a0] h17)
theorem V_affine_where_ok (a0 : D) (a1 : D) (a2 : D) (h0 : Heap) (K : D → Heap → Prop) : V_affine_where a0 a1 a2 h0 K = vcC PP F_affine_where.code (fun x e h' => match x with | .exit _ => False | _ => vcRet PP F_affine_where.res K e h') (params [a0, a1, a2] 0) h0 := by kernel_rfl

/-- warpwright/span.Of -/
def loops_span_Of : Nat → Option (List Nat × List Nat)
  | _ => none
def tbl_span_Of : Nat → Option (List Nat × List Nat × List Nat)
  | _ => none
def F_span_Of : AFunc := ⟨36,
  .seq (.reg [⟨(some 6), .alloc (.agg [(.int .i64 0), (.int .i64 0), (.int .i64 0)]), none⟩,
    ⟨(some 7), .mov (.c (.int .i64 0)), none⟩]) <|
  .seq (.seq (.reg [⟨(some 8), .mov (.t 0), none⟩,
    ⟨(some 9), .call n_span_near [(.t 8)], none⟩,
    ⟨(some 10), .un .not (.t 9), none⟩,
    ⟨(some 11), .mov (.t 10), none⟩,
    ⟨(some 12), .mov (.t 1), some (11, false)⟩,
    ⟨(some 13), .call n_span_near [(.t 12)], some (11, false)⟩,
    ⟨(some 14), .un .not (.t 13), some (11, false)⟩,
    ⟨(some 15), .pick (.t 11) (.c (.bool true)) (.t 14), none⟩,
    ⟨(some 16), .mov (.t 15), none⟩,
    ⟨(some 17), .mov (.t 0), some (16, false)⟩,
    ⟨(some 18), .mov (.t 1), some (16, false)⟩,
    ⟨(some 19), .bin .gtr (.t 17) (.t 18), some (16, false)⟩,
    ⟨(some 20), .pick (.t 16) (.c (.bool true)) (.t 19), none⟩,
    ⟨(some 21), .mov (.t 20), none⟩,
    ⟨(some 22), .mov (.t 2), some (21, false)⟩,
    ⟨(some 23), .bin .lss (.t 22) (.c (.int .i64 1)), some (21, false)⟩,
    ⟨(some 24), .pick (.t 21) (.c (.bool true)) (.t 23), none⟩]) <|
  .cond (.t 24) (.seq (.reg [⟨(some 25), .bld [(.int .i64 0), (.int .i64 0), (.int .i64 0)] [], none⟩,
    ⟨none, .st (.t 6) (.t 25) 3, none⟩,
    ⟨(some 7), .mov (.c (.int .i64 1)), none⟩]) <|
  .ret) (.skip)) <|
  .seq (.reg [⟨(some 26), .mov (.t 0), none⟩,
    ⟨(some 27), .mov (.t 1), none⟩,
    ⟨(some 28), .mov (.t 1), none⟩,
    ⟨(some 29), .mov (.t 0), none⟩,
    ⟨(some 30), .bin .sub (.t 28) (.t 29), none⟩,
    ⟨(some 31), .mov (.t 2), none⟩,
    ⟨(some 32), .bin .rem (.t 30) (.t 31), none⟩,
    ⟨(some 33), .bin .sub (.t 27) (.t 32), none⟩,
    ⟨(some 34), .mov (.t 2), none⟩,
    ⟨(some 35), .call n_span_made [(.t 26), (.t 33), (.t 34)], none⟩,
    ⟨none, .st (.t 6) (.t 35) 3, none⟩,
    ⟨(some 7), .mov (.c (.int .i64 0)), none⟩]) <|
  .ret,
  [.cell 6 3 true, .t 7]⟩
theorem F_span_Of_ok : cFn PP true n_span_Of loops_span_Of (cDr PP 36 tbl_span_Of) = some F_span_Of := by kernel_rfl


def V_span_Of (a0 : D) (a1 : D) (a2 : D) (h0 : Heap) (K : D → Heap → Prop) : Prop :=
  vhOp PP (.alloc (.agg [(.int .i64 0), (.int .i64 0), (.int .i64 0)])) h0 fun a4 h5 =>
  ACall PP n_span_near [a0] h5 fun a6 h7 =>
  vun .not a6 fun a8 =>
  vguard a8 false (fun G9 =>
  G9 a1 h7) h7 fun a10 h11 =>
  vguard a8 false (fun G12 =>
  ACall PP n_span_near [a10] h11 fun a15 h16 =>
  G12 a15 h16) h11 fun a13 h14 =>
  vguard a8 false (fun G17 =>
  vun .not a13 fun a20 =>
  G17 a20 h14) h14 fun a18 h19 =>
  vhOp PP (.pick (.c a8) (.c (.bool true)) (.c a18)) h19 fun a21 h22 =>
  vguard a21 false (fun G23 =>
  G23 a0 h22) h22 fun a24 h25 =>
  vguard a21 false (fun G26 =>
  G26 a1 h25) h25 fun a27 h28 =>
  vguard a21 false (fun G29 =>
  vbin .gtr a24 a27 fun a32 =>
  G29 a32 h28) h28 fun a30 h31 =>
  vhOp PP (.pick (.c a21) (.c (.bool true)) (.c a30)) h31 fun a33 h34 =>
  vguard a33 false (fun G35 =>
  G35 a2 h34) h34 fun a36 h37 =>
  vguard a33 false (fun G38 =>
  vbin .lss a36 (.int .i64 1) fun a41 =>
  G38 a41 h37) h37 fun a39 h40 =>
  vhOp PP (.pick (.c a33) (.c (.bool true)) (.c a39)) h40 fun a42 h43 =>
  vcond a42 (vhOp PP (.bld [(.int .i64 0), (.int .i64 0), (.int .i64 0)] []) h43 fun a44 h45 =>
  vhOp PP (.st (.c a4) (.c a44) 3) h45 fun a46 h47 =>
  vhOp PP (.ld (.c a4) 3 true) h47 fun a48 _ =>
  K (.tup [a48, (.int .i64 1)]) h47) (
  vbin .sub a1 a0 fun a49 =>
  vbin .rem a49 a2 fun a50 =>
  vbin .sub a1 a50 fun a51 =>
  ACall PP n_span_made [a0, a51, a2] h43 fun a52 h53 =>
  vhOp PP (.st (.c a4) (.c a52) 3) h53 fun a54 h55 =>
  vhOp PP (.ld (.c a4) 3 true) h55 fun a56 _ =>
  K (.tup [a56, (.int .i64 0)]) h55)
theorem V_span_Of_ok (a0 : D) (a1 : D) (a2 : D) (h0 : Heap) (K : D → Heap → Prop) : V_span_Of a0 a1 a2 h0 K = vcC PP F_span_Of.code (fun x e h' => match x with | .exit _ => False | _ => vcRet PP F_span_Of.res K e h') (params [a0, a1, a2] 0) h0 := by kernel_rfl

/-- warpwright/span.Meet -/
def loops_span_Meet : Nat → Option (List Nat × List Nat)
  | 1000004 => some ([2, 3, 4], []) | 1000025 => some ([4, 14], []) | _ => none
def tbl_span_Meet : Nat → Option (List Nat × List Nat × List Nat)
  | 3 => some ([0, 1, 0, 4, 15, 0, 32, 0, 128, 480, 31, 2047], [], []) | 15 => some ([0, 1, 0, 4, 15, 0, 63, 0, 128, 0, 1023, 2047], [], []) | 16 => some ([0, 1, 0, 7, 0, 16, 63, 127, 0, 0, 512, 1792, 0, 4096, 16255, 32767, 65535], [], []) | _ => none
def F_span_Meet : AFunc := ⟨143,
  .seq (.reg [⟨(some 2), .box (.t 0), none⟩,
    ⟨(some 3), .box (.t 1), none⟩,
    ⟨(some 4), .alloc (.agg [(.int .i64 0), (.int .i64 0), (.int .i64 0)]), none⟩,
    ⟨(some 5), .mov (.c (.bool false)), none⟩]) <|
  .seqj [2, 3, 4] [] (.seq (.reg [⟨(some 15), .fadd (.t 2) 2, none⟩,
    ⟨(some 16), .ld (.t 15) 1 false, none⟩,
    ⟨(some 17), .fadd (.t 3) 2, none⟩,
    ⟨(some 18), .ld (.t 17) 1 false, none⟩,
    ⟨(some 19), .bin .lss (.t 16) (.t 18), none⟩]) <|
  .cond (.t 19) (.reg [⟨(some 20), .ld (.t 3) 3 true, none⟩,
    ⟨(some 21), .ld (.t 2) 3 true, none⟩,
    ⟨none, .st (.t 2) (.t 20) 3, none⟩,
    ⟨none, .st (.t 3) (.t 21) 3, none⟩]) (.skip)) <|
  .seq (.dreg [⟨(some 22), .fadd (.t 2) 0, none⟩,
    ⟨(some 23), .ld (.t 22) 1 false, none⟩,
    ⟨(some 24), .fadd (.t 3) 0, none⟩,
    ⟨(some 25), .ld (.t 24) 1 false, none⟩,
    ⟨(some 26), .mx (.t 23) (.t 25), none⟩,
    ⟨(some 27), .fadd (.t 2) 1, none⟩,
    ⟨(some 28), .ld (.t 27) 1 false, none⟩,
    ⟨(some 29), .fadd (.t 3) 1, none⟩,
    ⟨(some 30), .ld (.t 29) 1 false, none⟩,
    ⟨(some 31), .mn (.t 28) (.t 30), none⟩,
    ⟨(some 6), .mov (.t 26), none⟩,
    ⟨(some 7), .mov (.t 31), none⟩] [] []) <|
  .seq (.seq (.reg [⟨(some 32), .mov (.t 6), none⟩,
    ⟨(some 33), .mov (.t 7), none⟩,
    ⟨(some 34), .bin .gtr (.t 32) (.t 33), none⟩]) <|
  .cond (.t 34) (.seq (.reg [⟨(some 35), .bld [(.int .i64 0), (.int .i64 0), (.int .i64 0)] [], none⟩,
    ⟨none, .st (.t 4) (.t 35) 3, none⟩,
    ⟨(some 5), .mov (.c (.bool false)), none⟩]) <|
  .ret) (.skip)) <|
  .seq (.seq (.reg [⟨(some 36), .fadd (.t 3) 2, none⟩,
    ⟨(some 37), .ld (.t 36) 1 false, none⟩,
    ⟨(some 38), .bin .eql (.t 37) (.c (.int .i64 0)), none⟩,
    ⟨(some 39), .mov (.t 38), none⟩,
    ⟨(some 40), .ld (.t 2) 3 true, some (39, true)⟩,
    ⟨(some 41), .fadd (.t 3) 0, some (39, true)⟩,
    ⟨(some 42), .ld (.t 41) 1 false, some (39, true)⟩,
    ⟨(some 43), .call n_span_Has [(.t 40), (.t 42)], some (39, true)⟩,
    ⟨(some 44), .un .not (.t 43), some (39, true)⟩,
    ⟨(some 45), .pick (.t 39) (.t 44) (.c (.bool false)), none⟩]) <|
  .cond (.t 45) (.seq (.reg [⟨(some 46), .bld [(.int .i64 0), (.int .i64 0), (.int .i64 0)] [], none⟩,
    ⟨none, .st (.t 4) (.t 46) 3, none⟩,
    ⟨(some 5), .mov (.c (.bool false)), none⟩]) <|
  .ret) (.skip)) <|
  .seq (.seq (.reg [⟨(some 47), .fadd (.t 3) 2, none⟩,
    ⟨(some 48), .ld (.t 47) 1 false, none⟩,
    ⟨(some 49), .bin .eql (.t 48) (.c (.int .i64 0)), none⟩]) <|
  .cond (.t 49) (.seq (.reg [⟨(some 50), .ld (.t 3) 3 true, none⟩,
    ⟨none, .st (.t 4) (.t 50) 3, none⟩,
    ⟨(some 5), .mov (.c (.bool true)), none⟩]) <|
  .ret) (.skip)) <|
  .seq (.reg [⟨(some 51), .fadd (.t 2) 2, none⟩,
    ⟨(some 52), .ld (.t 51) 1 false, none⟩,
    ⟨(some 53), .fadd (.t 3) 2, none⟩,
    ⟨(some 54), .ld (.t 53) 1 false, none⟩,
    ⟨(some 55), .call n_span_euclid [(.t 52), (.t 54)], none⟩,
    ⟨(some 8), .alloc (.agg [(.int .i64 0), (.int .i64 0), (.int .i64 0)]), none⟩,
    ⟨none, .st (.t 8) (.t 55) 3, none⟩]) <|
  .seq (.reg [⟨(some 56), .iadda (.t 8) (.c (.int .i64 0)) 3 1, none⟩,
    ⟨(some 57), .ld (.t 56) 1 false, none⟩,
    ⟨(some 9), .mov (.t 57), none⟩]) <|
  .seq (.seq (.reg [⟨(some 58), .fadd (.t 3) 0, none⟩,
    ⟨(some 59), .ld (.t 58) 1 false, none⟩,
    ⟨(some 60), .fadd (.t 2) 0, none⟩,
    ⟨(some 61), .ld (.t 60) 1 false, none⟩,
    ⟨(some 62), .bin .sub (.t 59) (.t 61), none⟩,
    ⟨(some 63), .mov (.t 9), none⟩,
    ⟨(some 64), .bin .rem (.t 62) (.t 63), none⟩,
    ⟨(some 65), .bin .neq (.t 64) (.c (.int .i64 0)), none⟩]) <|
  .cond (.t 65) (.seq (.reg [⟨(some 66), .bld [(.int .i64 0), (.int .i64 0), (.int .i64 0)] [], none⟩,
    ⟨none, .st (.t 4) (.t 66) 3, none⟩,
    ⟨(some 5), .mov (.c (.bool false)), none⟩]) <|
  .ret) (.skip)) <|
  .seq (.reg [⟨(some 67), .fadd (.t 3) 2, none⟩,
    ⟨(some 68), .ld (.t 67) 1 false, none⟩,
    ⟨(some 69), .mov (.t 9), none⟩,
    ⟨(some 70), .bin .quo (.t 68) (.t 69), none⟩,
    ⟨(some 10), .mov (.t 70), none⟩]) <|
  .seq (.dreg [⟨(some 71), .fadd (.t 3) 0, none⟩,
    ⟨(some 72), .ld (.t 71) 1 false, none⟩,
    ⟨(some 73), .fadd (.t 2) 0, none⟩,
    ⟨(some 74), .ld (.t 73) 1 false, none⟩,
    ⟨(some 75), .bin .sub (.t 72) (.t 74), none⟩,
    ⟨(some 76), .mov (.t 9), none⟩,
    ⟨(some 77), .bin .quo (.t 75) (.t 76), none⟩,
    ⟨(some 78), .iadda (.t 8) (.c (.int .i64 1)) 3 1, none⟩,
    ⟨(some 79), .ld (.t 78) 1 false, none⟩,
    ⟨(some 80), .mov (.t 10), none⟩,
    ⟨(some 81), .call n_span_mulmod [(.t 77), (.t 79), (.t 80)], none⟩,
    ⟨(some 11), .mov (.t 81), none⟩] [] []) <|
  .seq (.dreg [⟨(some 82), .fadd (.t 2) 0, none⟩,
    ⟨(some 83), .ld (.t 82) 1 false, none⟩,
    ⟨(some 84), .mov (.t 6), none⟩,
    ⟨(some 85), .bin .sub (.t 83) (.t 84), none⟩,
    ⟨(some 86), .fadd (.t 2) 2, none⟩,
    ⟨(some 87), .ld (.t 86) 1 false, none⟩,
    ⟨(some 88), .call n_span_floor [(.t 85), (.t 87)], none⟩,
    ⟨(some 89), .un .neg (.t 88), none⟩,
    ⟨(some 90), .mov (.t 7), none⟩,
    ⟨(some 91), .fadd (.t 2) 0, none⟩,
    ⟨(some 92), .ld (.t 91) 1 false, none⟩,
    ⟨(some 93), .bin .sub (.t 90) (.t 92), none⟩,
    ⟨(some 94), .fadd (.t 2) 2, none⟩,
    ⟨(some 95), .ld (.t 94) 1 false, none⟩,
    ⟨(some 96), .call n_span_floor [(.t 93), (.t 95)], none⟩,
    ⟨(some 12), .mov (.t 89), none⟩,
    ⟨(some 13), .mov (.t 96), none⟩] [] []) <|
  .seq (.reg [⟨(some 97), .mov (.t 11), none⟩,
    ⟨(some 98), .mov (.t 11), none⟩,
    ⟨(some 99), .mov (.t 12), none⟩,
    ⟨(some 100), .bin .sub (.t 98) (.t 99), none⟩,
    ⟨(some 101), .mov (.t 10), none⟩,
    ⟨(some 102), .call n_span_floor [(.t 100), (.t 101)], none⟩,
    ⟨(some 103), .un .neg (.t 102), none⟩,
    ⟨(some 104), .mx (.c (.int .i64 0)) (.t 103), none⟩,
    ⟨(some 105), .mov (.t 10), none⟩,
    ⟨(some 106), .bin .mul (.t 104) (.t 105), none⟩,
    ⟨(some 107), .bin .add (.t 97) (.t 106), none⟩,
    ⟨(some 11), .mov (.t 107), none⟩]) <|
  .seq (.seq (.reg [⟨(some 108), .mov (.t 11), none⟩,
    ⟨(some 109), .mov (.t 13), none⟩,
    ⟨(some 110), .bin .gtr (.t 108) (.t 109), none⟩]) <|
  .cond (.t 110) (.seq (.reg [⟨(some 111), .bld [(.int .i64 0), (.int .i64 0), (.int .i64 0)] [], none⟩,
    ⟨none, .st (.t 4) (.t 111) 3, none⟩,
    ⟨(some 5), .mov (.c (.bool false)), none⟩]) <|
  .ret) (.skip)) <|
  .seq (.reg [⟨(some 112), .mov (.t 13), none⟩,
    ⟨(some 113), .mov (.t 13), none⟩,
    ⟨(some 114), .mov (.t 11), none⟩,
    ⟨(some 115), .bin .sub (.t 113) (.t 114), none⟩,
    ⟨(some 116), .mov (.t 10), none⟩,
    ⟨(some 117), .bin .rem (.t 115) (.t 116), none⟩,
    ⟨(some 118), .bin .sub (.t 112) (.t 117), none⟩,
    ⟨(some 13), .mov (.t 118), none⟩]) <|
  .seq (.reg [⟨(some 119), .fadd (.t 2) 0, none⟩,
    ⟨(some 120), .ld (.t 119) 1 false, none⟩,
    ⟨(some 121), .fadd (.t 2) 2, none⟩,
    ⟨(some 122), .ld (.t 121) 1 false, none⟩,
    ⟨(some 123), .mov (.t 11), none⟩,
    ⟨(some 124), .bin .mul (.t 122) (.t 123), none⟩,
    ⟨(some 125), .bin .add (.t 120) (.t 124), none⟩,
    ⟨(some 126), .fadd (.t 2) 0, none⟩,
    ⟨(some 127), .ld (.t 126) 1 false, none⟩,
    ⟨(some 128), .fadd (.t 2) 2, none⟩,
    ⟨(some 129), .ld (.t 128) 1 false, none⟩,
    ⟨(some 130), .mov (.t 13), none⟩,
    ⟨(some 131), .bin .mul (.t 129) (.t 130), none⟩,
    ⟨(some 132), .bin .add (.t 127) (.t 131), none⟩,
    ⟨(some 133), .call n_span_made [(.t 125), (.t 132), (.c (.int .i64 0))], none⟩,
    ⟨(some 14), .alloc (.agg [(.int .i64 0), (.int .i64 0), (.int .i64 0)]), none⟩,
    ⟨none, .st (.t 14) (.t 133) 3, none⟩]) <|
  .seqj [4, 14] [] (.seq (.reg [⟨(some 134), .mov (.t 11), none⟩,
    ⟨(some 135), .mov (.t 13), none⟩,
    ⟨(some 136), .bin .lss (.t 134) (.t 135), none⟩]) <|
  .cond (.t 136) (.reg [⟨(some 137), .fadd (.t 2) 2, none⟩,
    ⟨(some 138), .ld (.t 137) 1 false, none⟩,
    ⟨(some 139), .mov (.t 10), none⟩,
    ⟨(some 140), .bin .mul (.t 138) (.t 139), none⟩,
    ⟨(some 141), .fadd (.t 14) 2, none⟩,
    ⟨none, .st (.t 141) (.t 140) 1, none⟩]) (.skip)) <|
  .seq (.reg [⟨(some 142), .ld (.t 14) 3 true, none⟩,
    ⟨none, .st (.t 4) (.t 142) 3, none⟩,
    ⟨(some 5), .mov (.c (.bool true)), none⟩]) <|
  .ret,
  [.cell 4 3 true, .t 5]⟩
theorem F_span_Meet_ok : cFn PP true n_span_Meet loops_span_Meet (cDr PP 143 tbl_span_Meet) = some F_span_Meet := by kernel_rfl

/-- (warpwright/affine.space).inside -/
def loops_affine_space_inside : Nat → Option (List Nat × List Nat)
  | _ => none
def tbl_affine_space_inside : Nat → Option (List Nat × List Nat × List Nat)
  | 3 => some ([0, 0, 3, 7, 15, 31, 15, 79, 255, 15, 527, 2047, 4095], [], []) | 6 => some ([0, 1, 3, 7, 7, 23, 63, 7, 135, 511, 1023, 2047], [], []) | _ => none
def F_affine_space_inside : AFunc := ⟨47,
  .seq (.reg [⟨(some 3), .box (.t 0), none⟩,
    ⟨(some 4), .box (.t 1), none⟩,
    ⟨(some 5), .box (.t 2), none⟩,
    ⟨(some 6), .mov (.c (.bool false)), none⟩]) <|
  .seq (.seq (.reg [⟨(some 9), .fadd (.t 4) 0, none⟩,
    ⟨(some 10), .ld (.t 9) 1 false, none⟩,
    ⟨(some 11), .mov (.t 10), none⟩,
    ⟨(some 12), .fadd (.t 5) 0, some (11, false)⟩,
    ⟨(some 13), .ld (.t 12) 1 false, some (11, false)⟩,
    ⟨(some 14), .pick (.t 11) (.c (.bool true)) (.t 13), none⟩]) <|
  .cond (.t 14) (.seq (.reg [⟨(some 15), .fadd (.t 5) 0, none⟩,
    ⟨(some 16), .ld (.t 15) 1 false, none⟩,
    ⟨(some 6), .mov (.t 16), none⟩]) <|
  .ret) (.skip)) <|
  .seq (.seq (.dreg [⟨(some 17), .ld (.t 4) 7 true, none⟩,
    ⟨(some 18), .ld (.t 5) 7 true, none⟩,
    ⟨(some 19), .call n_affine_alike [(.t 17), (.t 18)], none⟩,
    ⟨(some 20), .mov (.t 19), none⟩,
    ⟨(some 21), .fadd (.t 4) 4, some (20, true)⟩,
    ⟨(some 22), .ld (.t 21) 3 true, some (20, true)⟩,
    ⟨(some 23), .fadd (.t 5) 4, some (20, true)⟩,
    ⟨(some 24), .ld (.t 23) 3 true, some (20, true)⟩,
    ⟨(some 25), .call n_span_Join [(.t 22), (.t 24)], some (20, true)⟩,
    ⟨(some 26), .fadd (.t 5) 4, some (20, true)⟩,
    ⟨(some 27), .ld (.t 26) 3 true, some (20, true)⟩,
    ⟨(some 28), .eqv false true [.i, .i, .i] (.t 25) (.t 27), some (20, true)⟩,
    ⟨(some 29), .pick (.t 20) (.t 28) (.c (.bool false)), none⟩] [] []) <|
  .cond (.t 29) (.seq (.reg [⟨(some 6), .mov (.c (.bool true)), none⟩]) <|
  .ret) (.skip)) <|
  .seq (.reg [⟨(some 31), .ld (.t 3) 9 true, none⟩,
    ⟨(some 32), .ld (.t 4) 7 true, none⟩,
    ⟨(some 33), .call n_affine_space_span [(.t 31), (.t 32)], none⟩,
    ⟨(some 30), .mov (.t 33), none⟩,
    ⟨(some 34), .ext (.t 30) 0, none⟩,
    ⟨(some 35), .ext (.t 30) 1, none⟩,
    ⟨(some 7), .alloc (.agg [(.int .i64 0), (.int .i64 0), (.int .i64 0)]), none⟩,
    ⟨none, .st (.t 7) (.t 34) 3, none⟩,
    ⟨(some 8), .mov (.t 35), none⟩]) <|
  .seq (.dreg [⟨(some 36), .ld (.t 5) 7 true, none⟩,
    ⟨(some 37), .call n_affine_plain [(.t 36)], none⟩,
    ⟨(some 38), .mov (.t 37), none⟩,
    ⟨(some 39), .ld (.t 7) 3 true, some (38, true)⟩,
    ⟨(some 40), .fadd (.t 5) 4, some (38, true)⟩,
    ⟨(some 41), .ld (.t 40) 3 true, some (38, true)⟩,
    ⟨(some 42), .call n_span_Join [(.t 39), (.t 41)], some (38, true)⟩,
    ⟨(some 43), .fadd (.t 5) 4, some (38, true)⟩,
    ⟨(some 44), .ld (.t 43) 3 true, some (38, true)⟩,
    ⟨(some 45), .eqv false true [.i, .i, .i] (.t 42) (.t 44), some (38, true)⟩,
    ⟨(some 46), .pick (.t 38) (.t 45) (.c (.bool false)), none⟩,
    ⟨(some 6), .mov (.t 46), none⟩] [] []) <|
  .ret,
  [.t 6]⟩
theorem F_affine_space_inside_ok : cFn PP true n_affine_space_inside loops_affine_space_inside (cDr PP 47 tbl_affine_space_inside) = some F_affine_space_inside := by kernel_rfl

/-- slices.IndexFunc[[]warpwright/api.Form,warpwright/api.Form] -/
def loops_slices_IndexFunc_sapi_Form_api_Form : Nat → Option (List Nat × List Nat)
  | 1000008 => some ([], []) | 2 => some ([0, 1, 7], [8]) | _ => none
def tbl_slices_IndexFunc_sapi_Form_api_Form : Nat → Option (List Nat × List Nat × List Nat)
  | _ => none
def F_slices_IndexFunc_sapi_Form_api_Form : AFunc := ⟨19,
  .seq (.reg [⟨(some 4), .mov (.c (.int .i64 0)), none⟩]) <|
  .seqj [] [] (.seq (.reg [⟨(some 6), .mov (.t 0), none⟩,
    ⟨(some 7), .len (.t 6), none⟩,
    ⟨(some 8), .mov (.c (.int .i64 0)), none⟩]) <|
  .block 0 (.loop [0, 1, 7] [8] (.seq (.reg [⟨(some 9), .bin .lss (.t 8) (.t 7), none⟩]) <|
  .seq (.cond (.t 9) (.skip) (.exit 0)) <|
  .seq (.block 1 (.seq (.reg [⟨(some 10), .mov (.t 8), none⟩,
    ⟨(some 5), .mov (.t 10), none⟩]) <|
  .seq (.reg [⟨(some 11), .mov (.t 1), none⟩,
    ⟨(some 12), .mov (.t 0), none⟩,
    ⟨(some 13), .mov (.t 5), none⟩,
    ⟨(some 14), .iadd (.t 12) (.t 13) 7, none⟩,
    ⟨(some 15), .ld (.t 14) 7 true, none⟩,
    ⟨(some 16), .callv (.t 11) [(.t 15)], none⟩]) <|
  .cond (.t 16) (.seq (.reg [⟨(some 17), .mov (.t 5), none⟩,
    ⟨(some 4), .mov (.t 17), none⟩]) <|
  .ret) (.skip))) <|
  .reg [⟨(some 18), .bin .add (.t 8) (.c (.int .i64 1)), none⟩,
    ⟨(some 8), .mov (.t 18), none⟩]))) <|
  .seq (.reg [⟨(some 4), .mov (.c (.int .i64 (-1))), none⟩]) <|
  .ret,
  [.t 4]⟩
theorem F_slices_IndexFunc_sapi_Form_api_Form_ok : cFn PP true n_slices_IndexFunc_sapi_Form_api_Form loops_slices_IndexFunc_sapi_Form_api_Form (cDr PP 19 tbl_slices_IndexFunc_sapi_Form_api_Form) = some F_slices_IndexFunc_sapi_Form_api_Form := by kernel_rfl

def V_slices_IndexFunc_sapi_Form_api_Form_L0 (h0 : Heap) (a6 : D) (a0 : D) (a1 : D) (J3 : List D → Heap → Prop) (K : D → Heap → Prop) : Prop :=
  ∃ (I7 : Nat → List D → Heap → Prop) (n₀ : Nat), I7 n₀ [(.int .i64 0)] h0 ∧ ∀ (n8 : Nat) (f9 : Nat → D) (h10 : Heap), I7 n8 [f9 8] h10 →
  vbin .lss (f9 8) a6 fun a11 =>
  vcond a11 (vhOp PP (.iadd (.c a0) (.c (f9 8)) 7) h10 fun a12 h13 =>
  vhOp PP (.ld (.c a12) 7 true) h13 fun a14 h15 =>
  vhOp PP (.callv (.c a1) [(.c a14)]) h15 fun a16 h17 =>
  vcond a16 (K (f9 8) h17) (
  vbin .add (f9 8) (.int .i64 1) fun a18 =>
  keq [a0, a1, a6] [a0, a1, a6] ∧ ∃ m, m < n8 ∧ I7 m [a18] h17)) (
  keq [] [] ∧ J3 [] h10)
def V_slices_IndexFunc_sapi_Form_api_Form (a0 : D) (a1 : D) (h0 : Heap) (K : D → Heap → Prop) : Prop :=
  ∃ (J3 : List D → Heap → Prop), (∀ (f4 : Nat → D) (h5 : Heap), J3 [] h5 →
  K (.int .i64 (-1)) h5) ∧
  vlen a0 h0 fun a6 =>
  V_slices_IndexFunc_sapi_Form_api_Form_L0 h0 a6 a0 a1 J3 K
theorem V_slices_IndexFunc_sapi_Form_api_Form_ok (a0 : D) (a1 : D) (h0 : Heap) (K : D → Heap → Prop) : V_slices_IndexFunc_sapi_Form_api_Form a0 a1 h0 K = vcC PP F_slices_IndexFunc_sapi_Form_api_Form.code (fun x e h' => match x with | .exit _ => False | _ => vcRet PP F_slices_IndexFunc_sapi_Form_api_Form.res K e h') (params [a0, a1] 0) h0 := by kernel_rfl

/-- warpwright/affine.small -/
def loops_affine_small : Nat → Option (List Nat × List Nat)
  | _ => none
def tbl_affine_small : Nat → Option (List Nat × List Nat × List Nat)
  | _ => none
def F_affine_small : AFunc := ⟨21,
  .seq (.reg [⟨(some 1), .box (.t 0), none⟩,
    ⟨(some 2), .mov (.c (.bool false)), none⟩]) <|
  .seq (.reg [⟨(some 3), .fadd (.t 1) 1, none⟩,
    ⟨(some 4), .ld (.t 3) 1 false, none⟩,
    ⟨(some 5), .fadd (.t 1) 2, none⟩,
    ⟨(some 6), .ld (.t 5) 1 false, none⟩,
    ⟨(some 7), .fadd (.t 1) 3, none⟩,
    ⟨(some 8), .ld (.t 7) 1 false, none⟩,
    ⟨(some 9), .mn3 (.t 4) (.t 6) (.t 8), none⟩,
    ⟨(some 10), .bin .geq (.t 9) (.c (.int .i64 (-2147483648))), none⟩,
    ⟨(some 11), .mov (.t 10), none⟩,
    ⟨(some 12), .fadd (.t 1) 1, some (11, true)⟩,
    ⟨(some 13), .ld (.t 12) 1 false, some (11, true)⟩,
    ⟨(some 14), .fadd (.t 1) 2, some (11, true)⟩,
    ⟨(some 15), .ld (.t 14) 1 false, some (11, true)⟩,
    ⟨(some 16), .fadd (.t 1) 3, some (11, true)⟩,
    ⟨(some 17), .ld (.t 16) 1 false, some (11, true)⟩,
    ⟨(some 18), .mx3 (.t 13) (.t 15) (.t 17), some (11, true)⟩,
    ⟨(some 19), .bin .leq (.t 18) (.c (.int .i64 2147483648)), some (11, true)⟩,
    ⟨(some 20), .pick (.t 11) (.t 19) (.c (.bool false)), none⟩,
    ⟨(some 2), .mov (.t 20), none⟩]) <|
  .ret,
  [.t 2]⟩
theorem F_affine_small_ok : cFn PP true n_affine_small loops_affine_small (cDr PP 21 tbl_affine_small) = some F_affine_small := by kernel_rfl


def V_affine_small (a0 : D) (h0 : Heap) (K : D → Heap → Prop) : Prop :=
  vhOp PP (.box (.c a0)) h0 fun a2 h3 =>
  vhOp PP (.fadd (.c a2) 1) h3 fun a4 h5 =>
  vhOp PP (.ld (.c a4) 1 false) h5 fun a6 h7 =>
  vhOp PP (.fadd (.c a2) 2) h7 fun a8 h9 =>
  vhOp PP (.ld (.c a8) 1 false) h9 fun a10 h11 =>
  vhOp PP (.fadd (.c a2) 3) h11 fun a12 h13 =>
  vhOp PP (.ld (.c a12) 1 false) h13 fun a14 h15 =>
  vhOp PP (.mn3 (.c a6) (.c a10) (.c a14)) h15 fun a16 h17 =>
  vbin .geq a16 (.int .i64 (-2147483648)) fun a18 =>
  vguard a18 true (fun G19 =>
  vhOp PP (.fadd (.c a2) 1) h17 fun a22 h23 =>
  G19 a22 h23) h17 fun a20 h21 =>
  vguard a18 true (fun G24 =>
  vhOp PP (.ld (.c a20) 1 false) h21 fun a27 h28 =>
  G24 a27 h28) h21 fun a25 h26 =>
  vguard a18 true (fun G29 =>
  vhOp PP (.fadd (.c a2) 2) h26 fun a32 h33 =>
  G29 a32 h33) h26 fun a30 h31 =>
  vguard a18 true (fun G34 =>
  vhOp PP (.ld (.c a30) 1 false) h31 fun a37 h38 =>
  G34 a37 h38) h31 fun a35 h36 =>
  vguard a18 true (fun G39 =>
  vhOp PP (.fadd (.c a2) 3) h36 fun a42 h43 =>
  G39 a42 h43) h36 fun a40 h41 =>
  vguard a18 true (fun G44 =>
  vhOp PP (.ld (.c a40) 1 false) h41 fun a47 h48 =>
  G44 a47 h48) h41 fun a45 h46 =>
  vguard a18 true (fun G49 =>
  vhOp PP (.mx3 (.c a25) (.c a35) (.c a45)) h46 fun a52 h53 =>
  G49 a52 h53) h46 fun a50 h51 =>
  vguard a18 true (fun G54 =>
  vbin .leq a50 (.int .i64 2147483648) fun a57 =>
  G54 a57 h51) h51 fun a55 h56 =>
  vhOp PP (.pick (.c a18) (.c a55) (.c (.bool false))) h56 fun a58 h59 =>
  K a58 h59
theorem V_affine_small_ok (a0 : D) (h0 : Heap) (K : D → Heap → Prop) : V_affine_small a0 h0 K = vcC PP F_affine_small.code (fun x e h' => match x with | .exit _ => False | _ => vcRet PP F_affine_small.res K e h') (params [a0] 0) h0 := by kernel_rfl

/-- (warpwright/affine.space).canonical -/
def loops_affine_space_canonical : Nat → Option (List Nat × List Nat)
  | 1000006 => some ([3, 4, 5], []) | 1000008 => some ([3, 4, 5], []) | 1000010 => some ([3, 4], []) | _ => none
def tbl_affine_space_canonical : Nat → Option (List Nat × List Nat × List Nat)
  | _ => none
def F_affine_space_canonical : AFunc := ⟨49,
  .seq (.reg [⟨(some 2), .box (.t 0), none⟩,
    ⟨(some 3), .box (.t 1), none⟩,
    ⟨(some 4), .alloc (.agg [(.bool false), (.int .i64 0), (.int .i64 0), (.int .i64 0), (.int .i64 0), (.int .i64 0), (.int .i64 0)]), none⟩]) <|
  .seq (.reg [⟨(some 6), .fadd (.t 2) 0, none⟩,
    ⟨(some 7), .fadd (.t 6) 0, none⟩,
    ⟨(some 8), .ld (.t 7) 1 false, none⟩,
    ⟨(some 5), .mov (.t 8), none⟩]) <|
  .seq (.reg [⟨(some 9), .fadd (.t 3) 2, none⟩,
    ⟨(some 10), .ld (.t 9) 1 false, none⟩,
    ⟨(some 11), .fadd (.t 3) 1, none⟩,
    ⟨(some 12), .ld (.t 11) 1 false, none⟩,
    ⟨(some 13), .bin .add (.t 10) (.t 12), none⟩,
    ⟨(some 14), .fadd (.t 3) 3, none⟩,
    ⟨(some 15), .ld (.t 14) 1 false, none⟩,
    ⟨(some 16), .fadd (.t 3) 1, none⟩,
    ⟨(some 17), .ld (.t 16) 1 false, none⟩,
    ⟨(some 18), .mov (.t 5), none⟩,
    ⟨(some 19), .bin .mul (.t 17) (.t 18), none⟩,
    ⟨(some 20), .bin .add (.t 15) (.t 19), none⟩,
    ⟨(some 21), .fadd (.t 3) 2, none⟩,
    ⟨none, .st (.t 21) (.t 13) 1, none⟩,
    ⟨(some 22), .fadd (.t 3) 3, none⟩,
    ⟨none, .st (.t 22) (.t 20) 1, none⟩,
    ⟨(some 23), .fadd (.t 3) 1, none⟩,
    ⟨none, .st (.t 23) (.c (.int .i64 0)) 1, none⟩]) <|
  .seqj [3, 4, 5] [] (.seq (.reg [⟨(some 24), .fadd (.t 2) 8, none⟩,
    ⟨(some 25), .ld (.t 24) 1 false, none⟩,
    ⟨(some 26), .bin .eql (.t 25) (.c (.int .i64 1)), none⟩]) <|
  .cond (.t 26) (.reg [⟨(some 27), .fadd (.t 3) 3, none⟩,
    ⟨none, .st (.t 27) (.c (.int .i64 0)) 1, none⟩]) (.skip)) <|
  .seqj [3, 4, 5] [] (.seq (.reg [⟨(some 28), .mov (.t 5), none⟩,
    ⟨(some 29), .bin .eql (.t 28) (.c (.int .i64 1)), none⟩]) <|
  .cond (.t 29) (.reg [⟨(some 30), .fadd (.t 3) 2, none⟩,
    ⟨none, .st (.t 30) (.c (.int .i64 0)) 1, none⟩]) (.skip)) <|
  .seqj [3, 4] [] (.seq (.reg [⟨(some 31), .fadd (.t 3) 2, none⟩,
    ⟨(some 32), .ld (.t 31) 1 false, none⟩,
    ⟨(some 33), .bin .neq (.t 32) (.c (.int .i64 0)), none⟩,
    ⟨(some 34), .mov (.t 33), none⟩,
    ⟨(some 35), .fadd (.t 3) 3, some (34, true)⟩,
    ⟨(some 36), .ld (.t 35) 1 false, some (34, true)⟩,
    ⟨(some 37), .fadd (.t 3) 2, some (34, true)⟩,
    ⟨(some 38), .ld (.t 37) 1 false, some (34, true)⟩,
    ⟨(some 39), .mov (.t 5), some (34, true)⟩,
    ⟨(some 40), .bin .mul (.t 38) (.t 39), some (34, true)⟩,
    ⟨(some 41), .bin .eql (.t 36) (.t 40), some (34, true)⟩,
    ⟨(some 42), .pick (.t 34) (.t 41) (.c (.bool false)), none⟩]) <|
  .cond (.t 42) (.reg [⟨(some 43), .fadd (.t 3) 2, none⟩,
    ⟨(some 44), .ld (.t 43) 1 false, none⟩,
    ⟨(some 45), .fadd (.t 3) 1, none⟩,
    ⟨none, .st (.t 45) (.t 44) 1, none⟩,
    ⟨(some 46), .fadd (.t 3) 2, none⟩,
    ⟨none, .st (.t 46) (.c (.int .i64 0)) 1, none⟩,
    ⟨(some 47), .fadd (.t 3) 3, none⟩,
    ⟨none, .st (.t 47) (.c (.int .i64 0)) 1, none⟩]) (.skip)) <|
  .seq (.reg [⟨(some 48), .ld (.t 3) 7 true, none⟩,
    ⟨none, .st (.t 4) (.t 48) 7, none⟩]) <|
  .ret,
  [.cell 4 7 true]⟩
theorem F_affine_space_canonical_ok : cFn PP true n_affine_space_canonical loops_affine_space_canonical (cDr PP 49 tbl_affine_space_canonical) = some F_affine_space_canonical := by kernel_rfl


def V_affine_space_canonical (a0 : D) (a1 : D) (h0 : Heap) (K : D → Heap → Prop) : Prop :=
  vhOp PP (.box (.c a0)) h0 fun a3 h4 =>
  vhOp PP (.box (.c a1)) h4 fun a5 h6 =>
  vhOp PP (.alloc (.agg [(.bool false), (.int .i64 0), (.int .i64 0), (.int .i64 0), (.int .i64 0), (.int .i64 0), (.int .i64 0)])) h6 fun a7 h8 =>
  vhOp PP (.fadd (.c a3) 0) h8 fun a9 h10 =>
  vhOp PP (.fadd (.c a9) 0) h10 fun a11 h12 =>
  vhOp PP (.ld (.c a11) 1 false) h12 fun a13 h14 =>
  vhOp PP (.fadd (.c a5) 2) h14 fun a15 h16 =>
  vhOp PP (.ld (.c a15) 1 false) h16 fun a17 h18 =>
  vhOp PP (.fadd (.c a5) 1) h18 fun a19 h20 =>
  vhOp PP (.ld (.c a19) 1 false) h20 fun a21 h22 =>
  vbin .add a17 a21 fun a23 =>
  vhOp PP (.fadd (.c a5) 3) h22 fun a24 h25 =>
  vhOp PP (.ld (.c a24) 1 false) h25 fun a26 h27 =>
  vhOp PP (.fadd (.c a5) 1) h27 fun a28 h29 =>
  vhOp PP (.ld (.c a28) 1 false) h29 fun a30 h31 =>
  vbin .mul a30 a13 fun a32 =>
  vbin .add a26 a32 fun a33 =>
  vhOp PP (.fadd (.c a5) 2) h31 fun a34 h35 =>
  vhOp PP (.st (.c a34) (.c a23) 1) h35 fun a36 h37 =>
  vhOp PP (.fadd (.c a5) 3) h37 fun a38 h39 =>
  vhOp PP (.st (.c a38) (.c a33) 1) h39 fun a40 h41 =>
  vhOp PP (.fadd (.c a5) 1) h41 fun a42 h43 =>
  vhOp PP (.st (.c a42) (.c (.int .i64 0)) 1) h43 fun a44 h45 =>
  ∃ (J46 : List D → Heap → Prop), (∀ (f47 : Nat → D) (h48 : Heap), J46 [] h48 →
  ∃ (J49 : List D → Heap → Prop), (∀ (f50 : Nat → D) (h51 : Heap), J49 [] h51 →
  ∃ (J52 : List D → Heap → Prop), (∀ (f53 : Nat → D) (h54 : Heap), J52 [] h54 →
  vhOp PP (.ld (.c a5) 7 true) h54 fun a55 h56 =>
  vhOp PP (.st (.c a7) (.c a55) 7) h56 fun a57 h58 =>
  vhOp PP (.ld (.c a7) 7 true) h58 fun a59 _ =>
  K a59 h58) ∧
  vhOp PP (.fadd (.c a5) 2) h51 fun a60 h61 =>
  vhOp PP (.ld (.c a60) 1 false) h61 fun a62 h63 =>
  vbin .neq a62 (.int .i64 0) fun a64 =>
  vguard a64 true (fun G65 =>
  vhOp PP (.fadd (.c a5) 3) h63 fun a68 h69 =>
  G65 a68 h69) h63 fun a66 h67 =>
  vguard a64 true (fun G70 =>
  vhOp PP (.ld (.c a66) 1 false) h67 fun a73 h74 =>
  G70 a73 h74) h67 fun a71 h72 =>
  vguard a64 true (fun G75 =>
  vhOp PP (.fadd (.c a5) 2) h72 fun a78 h79 =>
  G75 a78 h79) h72 fun a76 h77 =>
  vguard a64 true (fun G80 =>
  vhOp PP (.ld (.c a76) 1 false) h77 fun a83 h84 =>
  G80 a83 h84) h77 fun a81 h82 =>
  vguard a64 true (fun G85 =>
  G85 a13 h82) h82 fun a86 h87 =>
  vguard a64 true (fun G88 =>
  vbin .mul a81 a86 fun a91 =>
  G88 a91 h87) h87 fun a89 h90 =>
  vguard a64 true (fun G92 =>
  vbin .eql a71 a89 fun a95 =>
  G92 a95 h90) h90 fun a93 h94 =>
  vhOp PP (.pick (.c a64) (.c a93) (.c (.bool false))) h94 fun a96 h97 =>
  vcond a96 (vhOp PP (.fadd (.c a5) 2) h97 fun a98 h99 =>
  vhOp PP (.ld (.c a98) 1 false) h99 fun a100 h101 =>
  vhOp PP (.fadd (.c a5) 1) h101 fun a102 h103 =>
  vhOp PP (.st (.c a102) (.c a100) 1) h103 fun a104 h105 =>
  vhOp PP (.fadd (.c a5) 2) h105 fun a106 h107 =>
  vhOp PP (.st (.c a106) (.c (.int .i64 0)) 1) h107 fun a108 h109 =>
  vhOp PP (.fadd (.c a5) 3) h109 fun a110 h111 =>
  vhOp PP (.st (.c a110) (.c (.int .i64 0)) 1) h111 fun a112 h113 =>
  keq [a5, a7] [a5, a7] ∧ J52 [] h113) (
  keq [a5, a7] [a5, a7] ∧ J52 [] h97)) ∧
  vbin .eql a13 (.int .i64 1) fun a114 =>
  vcond a114 (vhOp PP (.fadd (.c a5) 2) h48 fun a115 h116 =>
  vhOp PP (.st (.c a115) (.c (.int .i64 0)) 1) h116 fun a117 h118 =>
  keq [a5, a7, a13] [a5, a7, a13] ∧ J49 [] h118) (
  keq [a5, a7, a13] [a5, a7, a13] ∧ J49 [] h48)) ∧
  vhOp PP (.fadd (.c a3) 8) h45 fun a119 h120 =>
  vhOp PP (.ld (.c a119) 1 false) h120 fun a121 h122 =>
  vbin .eql a121 (.int .i64 1) fun a123 =>
  vcond a123 (vhOp PP (.fadd (.c a5) 3) h122 fun a124 h125 =>
  vhOp PP (.st (.c a124) (.c (.int .i64 0)) 1) h125 fun a126 h127 =>
  keq [a5, a7, a13] [a5, a7, a13] ∧ J46 [] h127) (
  keq [a5, a7, a13] [a5, a7, a13] ∧ J46 [] h122)
theorem V_affine_space_canonical_ok (a0 : D) (a1 : D) (h0 : Heap) (K : D → Heap → Prop) : V_affine_space_canonical a0 a1 h0 K = vcC PP F_affine_space_canonical.code (fun x e h' => match x with | .exit _ => False | _ => vcRet PP F_affine_space_canonical.res K e h') (params [a0, a1] 0) h0 := by kernel_rfl


end Go.Am
/- The functions of this seat's program in the short form, as a program of ours printed them (part 4); each line of it is checked. No condition. -/
set_option linter.unusedVariables false
namespace Go.Am
open Go Go.Proofs
/-- slices.EqualFunc[[]warpwright/api.Form,[]warpwright/api.Form,warpwright/api.Form,warpwright/api.Form] -/
def loops_slices_EqualFunc_sapi_Form_sapi_Form_api_Form_api_Form : Nat → Option (List Nat × List Nat)
  | 1000011 => some ([], []) | 4 => some ([1, 2, 15, 16], [17]) | _ => none
def tbl_slices_EqualFunc_sapi_Form_sapi_Form_api_Form_api_Form : Nat → Option (List Nat × List Nat × List Nat)
  | _ => none
def F_slices_EqualFunc_sapi_Form_sapi_Form_api_Form_api_Form : AFunc := ⟨32,
  .seq (.reg [⟨(some 6), .mov (.c (.bool false)), none⟩]) <|
  .seq (.seq (.reg [⟨(some 10), .mov (.t 0), none⟩,
    ⟨(some 11), .len (.t 10), none⟩,
    ⟨(some 12), .mov (.t 1), none⟩,
    ⟨(some 13), .len (.t 12), none⟩,
    ⟨(some 14), .bin .neq (.t 11) (.t 13), none⟩]) <|
  .cond (.t 14) (.seq (.reg [⟨(some 6), .mov (.c (.bool false)), none⟩]) <|
  .ret) (.skip)) <|
  .seqj [] [] (.seq (.reg [⟨(some 15), .mov (.t 0), none⟩,
    ⟨(some 16), .len (.t 15), none⟩,
    ⟨(some 17), .mov (.c (.int .i64 0)), none⟩]) <|
  .block 0 (.loop [1, 2, 15, 16] [17] (.seq (.reg [⟨(some 18), .bin .lss (.t 17) (.t 16), none⟩]) <|
  .seq (.cond (.t 18) (.skip) (.exit 0)) <|
  .seq (.block 1 (.seq (.reg [⟨(some 19), .mov (.t 17), none⟩,
    ⟨(some 20), .iadd (.t 15) (.t 17) 7, none⟩,
    ⟨(some 21), .ld (.t 20) 7 true, none⟩,
    ⟨(some 8), .alloc (.agg [(.bool false), (.int .i64 0), (.int .i64 0), (.int .i64 0), (.int .i64 0), (.int .i64 0), (.int .i64 0)]), none⟩,
    ⟨(some 7), .mov (.t 19), none⟩,
    ⟨none, .st (.t 8) (.t 21) 7, none⟩]) <|
  .seq (.reg [⟨(some 22), .mov (.t 1), none⟩,
    ⟨(some 23), .mov (.t 7), none⟩,
    ⟨(some 24), .iadd (.t 22) (.t 23) 7, none⟩,
    ⟨(some 25), .ld (.t 24) 7 true, none⟩,
    ⟨(some 9), .alloc (.agg [(.bool false), (.int .i64 0), (.int .i64 0), (.int .i64 0), (.int .i64 0), (.int .i64 0), (.int .i64 0)]), none⟩,
    ⟨none, .st (.t 9) (.t 25) 7, none⟩]) <|
  .seq (.reg [⟨(some 26), .mov (.t 2), none⟩,
    ⟨(some 27), .ld (.t 8) 7 true, none⟩,
    ⟨(some 28), .ld (.t 9) 7 true, none⟩,
    ⟨(some 29), .callv (.t 26) [(.t 27), (.t 28)], none⟩,
    ⟨(some 30), .un .not (.t 29), none⟩]) <|
  .cond (.t 30) (.seq (.reg [⟨(some 6), .mov (.c (.bool false)), none⟩]) <|
  .ret) (.skip))) <|
  .reg [⟨(some 31), .bin .add (.t 17) (.c (.int .i64 1)), none⟩,
    ⟨(some 17), .mov (.t 31), none⟩]))) <|
  .seq (.reg [⟨(some 6), .mov (.c (.bool true)), none⟩]) <|
  .ret,
  [.t 6]⟩
theorem F_slices_EqualFunc_sapi_Form_sapi_Form_api_Form_api_Form_ok : cFn PP true n_slices_EqualFunc_sapi_Form_sapi_Form_api_Form_api_Form loops_slices_EqualFunc_sapi_Form_sapi_Form_api_Form_api_Form (cDr PP 32 tbl_slices_EqualFunc_sapi_Form_sapi_Form_api_Form_api_Form) = some F_slices_EqualFunc_sapi_Form_sapi_Form_api_Form_api_Form := by kernel_rfl

def V_slices_EqualFunc_sapi_Form_sapi_Form_api_Form_api_Form_L0 (h0 : Heap) (a10 : D) (a0 : D) (a1 : D) (a2 : D) (J7 : List D → Heap → Prop) (K : D → Heap → Prop) : Prop :=
  ∃ (I11 : Nat → List D → Heap → Prop) (n₀ : Nat), I11 n₀ [(.int .i64 0)] h0 ∧ ∀ (n12 : Nat) (f13 : Nat → D) (h14 : Heap), I11 n12 [f13 17] h14 →
  vbin .lss (f13 17) a10 fun a15 =>
  vcond a15 (vhOp PP (.iadd (.c a0) (.c (f13 17)) 7) h14 fun a16 h17 =>
  vhOp PP (.ld (.c a16) 7 true) h17 fun a18 h19 =>
  vhOp PP (.alloc (.agg [(.bool false), (.int .i64 0), (.int .i64 0), (.int .i64 0), (.int .i64 0), (.int .i64 0), (.int .i64 0)])) h19 fun a20 h21 =>
  vhOp PP (.st (.c a20) (.c a18) 7) h21 fun a22 h23 =>
  vhOp PP (.iadd (.c a1) (.c (f13 17)) 7) h23 fun a24 h25 =>
  vhOp PP (.ld (.c a24) 7 true) h25 fun a26 h27 =>
  vhOp PP (.alloc (.agg [(.bool false), (.int .i64 0), (.int .i64 0), (.int .i64 0), (.int .i64 0), (.int .i64 0), (.int .i64 0)])) h27 fun a28 h29 =>
  vhOp PP (.st (.c a28) (.c a26) 7) h29 fun a30 h31 =>
  vhOp PP (.ld (.c a20) 7 true) h31 fun a32 h33 =>
  vhOp PP (.ld (.c a28) 7 true) h33 fun a34 h35 =>
  vhOp PP (.callv (.c a2) [(.c a32), (.c a34)]) h35 fun a36 h37 =>
  vun .not a36 fun a38 =>
  vcond a38 (K (.bool false) h37) (
  vbin .add (f13 17) (.int .i64 1) fun a39 =>
  keq [a1, a2, a0, a10] [a1, a2, a0, a10] ∧ ∃ m, m < n12 ∧ I11 m [a39] h37)) (
  keq [] [] ∧ J7 [] h14)
def V_slices_EqualFunc_sapi_Form_sapi_Form_api_Form_api_Form (a0 : D) (a1 : D) (a2 : D) (h0 : Heap) (K : D → Heap → Prop) : Prop :=
  vlen a0 h0 fun a4 =>
  vlen a1 h0 fun a5 =>
  vbin .neq a4 a5 fun a6 =>
  vcond a6 (K (.bool false) h0) (
  ∃ (J7 : List D → Heap → Prop), (∀ (f8 : Nat → D) (h9 : Heap), J7 [] h9 →
  K (.bool true) h9) ∧
  vlen a0 h0 fun a10 =>
  V_slices_EqualFunc_sapi_Form_sapi_Form_api_Form_api_Form_L0 h0 a10 a0 a1 a2 J7 K)
theorem V_slices_EqualFunc_sapi_Form_sapi_Form_api_Form_api_Form_ok (a0 : D) (a1 : D) (a2 : D) (h0 : Heap) (K : D → Heap → Prop) : V_slices_EqualFunc_sapi_Form_sapi_Form_api_Form_api_Form a0 a1 a2 h0 K = vcC PP F_slices_EqualFunc_sapi_Form_sapi_Form_api_Form_api_Form.code (fun x e h' => match x with | .exit _ => False | _ => vcRet PP F_slices_EqualFunc_sapi_Form_sapi_Form_api_Form_api_Form.res K e h') (params [a0, a1, a2] 0) h0 := by kernel_rfl

/-- warpwright/warpwrightref25.Edge -/
def loops_ref25_Edge : Nat → Option (List Nat × List Nat)
  | _ => none
def tbl_ref25_Edge : Nat → Option (List Nat × List Nat × List Nat)
  | _ => none
def F_ref25_Edge : AFunc := ⟨1,
  .seq (.reg [⟨(some 0), .mov (.c (.int .i64 0)), none⟩]) <|
  .seq (.reg [⟨(some 0), .mov (.c (.int .i64 1099511627776)), none⟩]) <|
  .ret,
  [.t 0]⟩
theorem F_ref25_Edge_ok : cFn PP true n_ref25_Edge loops_ref25_Edge (cDr PP 1 tbl_ref25_Edge) = some F_ref25_Edge := by kernel_rfl


def V_ref25_Edge (h0 : Heap) (K : D → Heap → Prop) : Prop :=
  K (.int .i64 1099511627776) h0
theorem V_ref25_Edge_ok (h0 : Heap) (K : D → Heap → Prop) : V_ref25_Edge h0 K = vcC PP F_ref25_Edge.code (fun x e h' => match x with | .exit _ => False | _ => vcRet PP F_ref25_Edge.res K e h') (params [] 0) h0 := by kernel_rfl

/-- warpwright/warpwrightref25.AddIn -/
def loops_ref25_AddIn : Nat → Option (List Nat × List Nat)
  | _ => none
def tbl_ref25_AddIn : Nat → Option (List Nat × List Nat × List Nat)
  | 1 => some ([0, 1, 0, 4, 15, 0, 32, 0, 128, 480, 0, 1024, 0, 4096, 15360, 32767, 65535], [16], []) | _ => none
def F_ref25_AddIn : AFunc := ⟨21,
  .seq (.reg [⟨(some 2), .box (.t 0), none⟩,
    ⟨(some 3), .box (.t 1), none⟩,
    ⟨(some 4), .alloc (.agg [(.int .i64 0), (.int .i64 0), (.int .i64 0), (.int .i64 0)]), none⟩]) <|
  .seq (.dreg [⟨(some 5), .fadd (.t 2) 0, none⟩,
    ⟨(some 6), .ld (.t 5) 1 false, none⟩,
    ⟨(some 7), .fadd (.t 3) 0, none⟩,
    ⟨(some 8), .ld (.t 7) 1 false, none⟩,
    ⟨(some 9), .bin .add (.t 6) (.t 8), none⟩,
    ⟨(some 10), .fadd (.t 2) 1, none⟩,
    ⟨(some 11), .ld (.t 10) 1 false, none⟩,
    ⟨(some 12), .fadd (.t 3) 1, none⟩,
    ⟨(some 13), .ld (.t 12) 1 false, none⟩,
    ⟨(some 14), .bin .add (.t 11) (.t 13), none⟩,
    ⟨(some 15), .fadd (.t 2) 2, none⟩,
    ⟨(some 16), .ld (.t 15) 1 false, none⟩,
    ⟨(some 17), .fadd (.t 3) 2, none⟩,
    ⟨(some 18), .ld (.t 17) 1 false, none⟩,
    ⟨(some 19), .call n_ref25_Gcd [(.t 16), (.t 18)], none⟩,
    ⟨(some 20), .call n_ref25_bounded [(.t 9), (.t 14), (.t 19)], none⟩] [⟨none, .st (.t 4) (.t 20) 4, none⟩] []) <|
  .ret,
  [.cell 4 4 true]⟩
theorem F_ref25_AddIn_ok : cFn PP true n_ref25_AddIn loops_ref25_AddIn (cDr PP 21 tbl_ref25_AddIn) = some F_ref25_AddIn := by kernel_rfl


def V_ref25_AddIn (a0 : D) (a1 : D) (h0 : Heap) (K : D → Heap → Prop) : Prop :=
  vhOp PP (.box (.c a0)) h0 fun a3 h4 =>
  vhOp PP (.box (.c a1)) h4 fun a5 h6 =>
  vhOp PP (.alloc (.agg [(.int .i64 0), (.int .i64 0), (.int .i64 0), (.int .i64 0)])) h6 fun a7 h8 =>
  vdOp PP (.fadd (.c a3) 0) h8 fun a9 =>
  vdOp PP (.ld (.c a9) 1 false) h8 fun a10 =>
  vdOp PP (.fadd (.c a5) 0) h8 fun a11 =>
  vdOp PP (.ld (.c a11) 1 false) h8 fun a12 =>
  vbin .add a10 a12 fun a13 =>
  vdOp PP (.fadd (.c a3) 1) h8 fun a14 =>
  vdOp PP (.ld (.c a14) 1 false) h8 fun a15 =>
  vdOp PP (.fadd (.c a5) 1) h8 fun a16 =>
  vdOp PP (.ld (.c a16) 1 false) h8 fun a17 =>
  vbin .add a15 a17 fun a18 =>
  vdOp PP (.fadd (.c a3) 2) h8 fun a19 =>
  vdOp PP (.ld (.c a19) 1 false) h8 fun a20 =>
  vdOp PP (.fadd (.c a5) 2) h8 fun a21 =>
  vdOp PP (.ld (.c a21) 1 false) h8 fun a22 =>
  vdOp PP (.call n_ref25_Gcd [(.c a20), (.c a22)]) h8 fun a23 =>
  vdOp PP (.call n_ref25_bounded [(.c a13), (.c a18), (.c a23)]) h8 fun a24 =>
  vhOp PP (.st (.c a7) (.c a24) 4) h8 fun a25 h26 =>
  vhOp PP (.ld (.c a7) 4 true) h26 fun a27 _ =>
  K a27 h26
theorem V_ref25_AddIn_ok (a0 : D) (a1 : D) (h0 : Heap) (K : D → Heap → Prop) : V_ref25_AddIn a0 a1 h0 K = vcC PP F_ref25_AddIn.code (fun x e h' => match x with | .exit _ => False | _ => vcRet PP F_ref25_AddIn.res K e h') (params [a0, a1] 0) h0 := by kernel_rfl

/-- warpwright/span.near -/
def loops_span_near : Nat → Option (List Nat × List Nat)
  | _ => none
def tbl_span_near : Nat → Option (List Nat × List Nat × List Nat)
  | _ => none
def F_span_near : AFunc := ⟨9,
  .seq (.reg [⟨(some 2), .mov (.c (.bool false)), none⟩]) <|
  .seq (.reg [⟨(some 3), .mov (.t 0), none⟩,
    ⟨(some 4), .bin .leq (.c (.int .i64 (-1099511627776))) (.t 3), none⟩,
    ⟨(some 5), .mov (.t 4), none⟩,
    ⟨(some 6), .mov (.t 0), some (5, true)⟩,
    ⟨(some 7), .bin .leq (.t 6) (.c (.int .i64 1099511627776)), some (5, true)⟩,
    ⟨(some 8), .pick (.t 5) (.t 7) (.c (.bool false)), none⟩,
    ⟨(some 2), .mov (.t 8), none⟩]) <|
  .ret,
  [.t 2]⟩
theorem F_span_near_ok : cFn PP true n_span_near loops_span_near (cDr PP 9 tbl_span_near) = some F_span_near := by kernel_rfl


def V_span_near (a0 : D) (h0 : Heap) (K : D → Heap → Prop) : Prop :=
  vbin .leq (.int .i64 (-1099511627776)) a0 fun a2 =>
  vguard a2 true (fun G3 =>
  G3 a0 h0) h0 fun a4 h5 =>
  vguard a2 true (fun G6 =>
  vbin .leq a4 (.int .i64 1099511627776) fun a9 =>
  G6 a9 h5) h5 fun a7 h8 =>
  vhOp PP (.pick (.c a2) (.c a7) (.c (.bool false))) h8 fun a10 h11 =>
  K a10 h11
theorem V_span_near_ok (a0 : D) (h0 : Heap) (K : D → Heap → Prop) : V_span_near a0 h0 K = vcC PP F_span_near.code (fun x e h' => match x with | .exit _ => False | _ => vcRet PP F_span_near.res K e h') (params [a0] 0) h0 := by kernel_rfl

/-- warpwright/span.Scale -/
def loops_span_Scale : Nat → Option (List Nat × List Nat)
  | _ => none
def tbl_span_Scale : Nat → Option (List Nat × List Nat × List Nat)
  | _ => none
def F_span_Scale : AFunc := ⟨30,
  .seq (.reg [⟨(some 2), .box (.t 0), none⟩,
    ⟨(some 4), .alloc (.agg [(.int .i64 0), (.int .i64 0), (.int .i64 0)]), none⟩,
    ⟨(some 5), .mov (.c (.int .i64 0)), none⟩]) <|
  .seq (.reg [⟨(some 10), .ld (.t 2) 3 true, none⟩,
    ⟨(some 11), .mov (.t 1), none⟩,
    ⟨(some 12), .mov (.t 1), none⟩,
    ⟨(some 13), .bld [(.int .i64 0), (.int .i64 0), (.int .i64 0)] [(0, 1, (.t 11)), (1, 1, (.t 12))], none⟩,
    ⟨(some 14), .call n_span_products [(.t 10), (.t 13)], none⟩,
    ⟨(some 9), .mov (.t 14), none⟩,
    ⟨(some 15), .ext (.t 9) 0, none⟩,
    ⟨(some 16), .ext (.t 9) 1, none⟩,
    ⟨(some 17), .ext (.t 9) 2, none⟩,
    ⟨(some 6), .mov (.t 15), none⟩,
    ⟨(some 7), .mov (.t 16), none⟩,
    ⟨(some 8), .mov (.t 17), none⟩]) <|
  .seq (.seq (.reg [⟨(some 18), .mov (.t 8), none⟩,
    ⟨(some 19), .un .not (.t 18), none⟩]) <|
  .cond (.t 19) (.seq (.reg [⟨(some 20), .bld [(.int .i64 0), (.int .i64 0), (.int .i64 0)] [], none⟩,
    ⟨none, .st (.t 4) (.t 20) 3, none⟩,
    ⟨(some 5), .mov (.c (.int .i64 2)), none⟩]) <|
  .ret) (.skip)) <|
  .seq (.reg [⟨(some 21), .mov (.t 6), none⟩,
    ⟨(some 22), .mov (.t 7), none⟩,
    ⟨(some 23), .fadd (.t 2) 2, none⟩,
    ⟨(some 24), .ld (.t 23) 1 false, none⟩,
    ⟨(some 25), .mov (.t 1), none⟩,
    ⟨(some 26), .bin .mul (.t 24) (.t 25), none⟩,
    ⟨(some 27), .bldS true 1 1 (.int .i64 0) [(0, (.t 26))], none⟩,
    ⟨(some 28), .call n_span_gcd [(.t 27)], none⟩,
    ⟨(some 29), .call n_span_made [(.t 21), (.t 22), (.t 28)], none⟩,
    ⟨none, .st (.t 4) (.t 29) 3, none⟩,
    ⟨(some 5), .mov (.c (.int .i64 0)), none⟩]) <|
  .ret,
  [.cell 4 3 true, .t 5]⟩
theorem F_span_Scale_ok : cFn PP true n_span_Scale loops_span_Scale (cDr PP 30 tbl_span_Scale) = some F_span_Scale := by kernel_rfl


def V_span_Scale (a0 : D) (a1 : D) (h0 : Heap) (K : D → Heap → Prop) : Prop :=
  vhOp PP (.box (.c a0)) h0 fun a3 h4 =>
  vhOp PP (.alloc (.agg [(.int .i64 0), (.int .i64 0), (.int .i64 0)])) h4 fun a5 h6 =>
  vhOp PP (.ld (.c a3) 3 true) h6 fun a7 h8 =>
  vhOp PP (.bld [(.int .i64 0), (.int .i64 0), (.int .i64 0)] [(0, 1, (.c a1)), (1, 1, (.c a1))]) h8 fun a9 h10 =>
  ACall PP n_span_products [a7, a9] h10 fun a11 h12 =>
  vhOp PP (.ext (.c a11) 0) h12 fun a13 h14 =>
  vhOp PP (.ext (.c a11) 1) h14 fun a15 h16 =>
  vhOp PP (.ext (.c a11) 2) h16 fun a17 h18 =>
  vun .not a17 fun a19 =>
  vcond a19 (vhOp PP (.bld [(.int .i64 0), (.int .i64 0), (.int .i64 0)] []) h18 fun a20 h21 =>
  vhOp PP (.st (.c a5) (.c a20) 3) h21 fun a22 h23 =>
  vhOp PP (.ld (.c a5) 3 true) h23 fun a24 _ =>
  K (.tup [a24, (.int .i64 2)]) h23) (
  vhOp PP (.fadd (.c a3) 2) h18 fun a25 h26 =>
  vhOp PP (.ld (.c a25) 1 false) h26 fun a27 h28 =>
  vbin .mul a27 a1 fun a29 =>
  vhOp PP (.bldS true 1 1 (.int .i64 0) [(0, (.c a29))]) h28 fun a30 h31 =>
  ACall PP n_span_gcd [a30] h31 fun a32 h33 =>
  ACall PP n_span_made [a13, a15, a32] h33 fun a34 h35 =>
  vhOp PP (.st (.c a5) (.c a34) 3) h35 fun a36 h37 =>
  vhOp PP (.ld (.c a5) 3 true) h37 fun a38 _ =>
  K (.tup [a38, (.int .i64 0)]) h37)
theorem V_span_Scale_ok (a0 : D) (a1 : D) (h0 : Heap) (K : D → Heap → Prop) : V_span_Scale a0 a1 h0 K = vcC PP F_span_Scale.code (fun x e h' => match x with | .exit _ => False | _ => vcRet PP F_span_Scale.res K e h') (params [a0, a1] 0) h0 := by kernel_rfl

/-- warpwright/span.bounded -/
def loops_span_bounded : Nat → Option (List Nat × List Nat)
  | _ => none
def tbl_span_bounded : Nat → Option (List Nat × List Nat × List Nat)
  | _ => none
def F_span_bounded : AFunc := ⟨21,
  .seq (.reg [⟨(some 6), .alloc (.agg [(.int .i64 0), (.int .i64 0), (.int .i64 0)]), none⟩,
    ⟨(some 7), .mov (.c (.int .i64 0)), none⟩]) <|
  .seq (.seq (.reg [⟨(some 8), .mov (.t 0), none⟩,
    ⟨(some 9), .call n_span_near [(.t 8)], none⟩,
    ⟨(some 10), .un .not (.t 9), none⟩,
    ⟨(some 11), .mov (.t 10), none⟩,
    ⟨(some 12), .mov (.t 1), some (11, false)⟩,
    ⟨(some 13), .call n_span_near [(.t 12)], some (11, false)⟩,
    ⟨(some 14), .un .not (.t 13), some (11, false)⟩,
    ⟨(some 15), .pick (.t 11) (.c (.bool true)) (.t 14), none⟩]) <|
  .cond (.t 15) (.seq (.reg [⟨(some 16), .bld [(.int .i64 0), (.int .i64 0), (.int .i64 0)] [], none⟩,
    ⟨none, .st (.t 6) (.t 16) 3, none⟩,
    ⟨(some 7), .mov (.c (.int .i64 2)), none⟩]) <|
  .ret) (.skip)) <|
  .seq (.reg [⟨(some 17), .mov (.t 0), none⟩,
    ⟨(some 18), .mov (.t 1), none⟩,
    ⟨(some 19), .mov (.t 2), none⟩,
    ⟨(some 20), .call n_span_made [(.t 17), (.t 18), (.t 19)], none⟩,
    ⟨none, .st (.t 6) (.t 20) 3, none⟩,
    ⟨(some 7), .mov (.c (.int .i64 0)), none⟩]) <|
  .ret,
  [.cell 6 3 true, .t 7]⟩
theorem F_span_bounded_ok : cFn PP true n_span_bounded loops_span_bounded (cDr PP 21 tbl_span_bounded) = some F_span_bounded := by kernel_rfl


def V_span_bounded (a0 : D) (a1 : D) (a2 : D) (h0 : Heap) (K : D → Heap → Prop) : Prop :=
  vhOp PP (.alloc (.agg [(.int .i64 0), (.int .i64 0), (.int .i64 0)])) h0 fun a4 h5 =>
  ACall PP n_span_near [a0] h5 fun a6 h7 =>
  vun .not a6 fun a8 =>
  vguard a8 false (fun G9 =>
  G9 a1 h7) h7 fun a10 h11 =>
  vguard a8 false (fun G12 =>
  ACall PP n_span_near [a10] h11 fun a15 h16 =>
  G12 a15 h16) h11 fun a13 h14 =>
  vguard a8 false (fun G17 =>
  vun .not a13 fun a20 =>
  G17 a20 h14) h14 fun a18 h19 =>
  vhOp PP (.pick (.c a8) (.c (.bool true)) (.c a18)) h19 fun a21 h22 =>
  vcond a21 (vhOp PP (.bld [(.int .i64 0), (.int .i64 0), (.int .i64 0)] []) h22 fun a23 h24 =>
  vhOp PP (.st (.c a4) (.c a23) 3) h24 fun a25 h26 =>
  vhOp PP (.ld (.c a4) 3 true) h26 fun a27 _ =>
  K (.tup [a27, (.int .i64 2)]) h26) (
  ACall PP n_span_made [a0, a1, a2] h22 fun a28 h29 =>
  vhOp PP (.st (.c a4) (.c a28) 3) h29 fun a30 h31 =>
  vhOp PP (.ld (.c a4) 3 true) h31 fun a32 _ =>
  K (.tup [a32, (.int .i64 0)]) h31)
theorem V_span_bounded_ok (a0 : D) (a1 : D) (a2 : D) (h0 : Heap) (K : D → Heap → Prop) : V_span_bounded a0 a1 a2 h0 K = vcC PP F_span_bounded.code (fun x e h' => match x with | .exit _ => False | _ => vcRet PP F_span_bounded.res K e h') (params [a0, a1, a2] 0) h0 := by kernel_rfl

/-- warpwright/span.gcd -/
def loops_span_gcd : Nat → Option (List Nat × List Nat)
  | 1000009 => some ([], [3]) | 3 => some ([6, 7], [3, 8]) | 1000008 => some ([6, 7, 8], [3]) | 5 => some ([6, 7, 8], [3, 5]) | _ => none
def tbl_span_gcd : Nat → Option (List Nat × List Nat × List Nat)
  | 6 => some ([0, 0, 0, 6, 3, 31], [4, 5], []) | _ => none
def F_span_gcd : AFunc := ⟨23,
  .seq (.reg [⟨(some 2), .mov (.c (.int .i64 0)), none⟩]) <|
  .seq (.reg [⟨(some 3), .mov (.c (.int .i64 0)), none⟩]) <|
  .seqj [] [3] (.seq (.reg [⟨(some 6), .mov (.t 0), none⟩,
    ⟨(some 7), .len (.t 6), none⟩,
    ⟨(some 8), .mov (.c (.int .i64 0)), none⟩]) <|
  .block 0 (.loop [6, 7] [3, 8] (.seq (.reg [⟨(some 9), .bin .lss (.t 8) (.t 7), none⟩]) <|
  .seq (.cond (.t 9) (.skip) (.exit 0)) <|
  .seqj [6, 7, 8] [3] (.block 1 (.seq (.reg [⟨(some 10), .iadd (.t 6) (.t 8) 1, none⟩,
    ⟨(some 11), .ld (.t 10) 1 false, none⟩,
    ⟨(some 5), .mov (.t 11), none⟩]) <|
  .block 2 (.loop [6, 7, 8] [3, 5] (.seq (.seq (.reg [⟨(some 12), .mov (.t 5), none⟩,
    ⟨(some 13), .bin .neq (.t 12) (.c (.int .i64 0)), none⟩]) <|
  .cond (.t 13) (.skip) (.exit 2)) <|
  .block 3 (.dreg [⟨(some 14), .mov (.t 5), none⟩,
    ⟨(some 15), .mov (.t 3), none⟩,
    ⟨(some 16), .mov (.t 5), none⟩,
    ⟨(some 17), .bin .rem (.t 15) (.t 16), none⟩] [⟨(some 3), .mov (.t 14), none⟩,
    ⟨(some 5), .mov (.t 17), none⟩] []))))) <|
  .reg [⟨(some 18), .bin .add (.t 8) (.c (.int .i64 1)), none⟩,
    ⟨(some 8), .mov (.t 18), none⟩]))) <|
  .seq (.reg [⟨(some 19), .mov (.t 3), none⟩,
    ⟨(some 20), .mov (.t 3), none⟩,
    ⟨(some 21), .un .neg (.t 20), none⟩,
    ⟨(some 22), .mx (.t 19) (.t 21), none⟩,
    ⟨(some 2), .mov (.t 22), none⟩]) <|
  .ret,
  [.t 2]⟩
theorem F_span_gcd_ok : cFn PP true n_span_gcd loops_span_gcd (cDr PP 23 tbl_span_gcd) = some F_span_gcd := by kernel_rfl

def V_span_gcd_L0 (f11 : Nat → D) (a20 : D) (h21 : Heap) (a0 : D) (a8 : D) (J14 : List D → Heap → Prop) : Prop :=
  ∃ (I22 : Nat → List D → Heap → Prop) (n₀ : Nat), I22 n₀ [(f11 3), a20] h21 ∧ ∀ (n23 : Nat) (f24 : Nat → D) (h25 : Heap), I22 n23 [f24 3, f24 5] h25 →
  vbin .neq (f24 5) (.int .i64 0) fun a26 =>
  vcond a26 (vbin .rem (f24 3) (f24 5) fun a27 =>
  keq [a0, a8, (f11 8)] [a0, a8, (f11 8)] ∧ ∃ m, m < n23 ∧ I22 m [(f24 5), a27] h25) (
  keq [a0, a8, (f11 8)] [a0, a8, (f11 8)] ∧ J14 [(f24 3)] h25)
def V_span_gcd_L1 (h0 : Heap) (a8 : D) (a0 : D) (J2 : List D → Heap → Prop) : Prop :=
  ∃ (I9 : Nat → List D → Heap → Prop) (n₀ : Nat), I9 n₀ [(.int .i64 0), (.int .i64 0)] h0 ∧ ∀ (n10 : Nat) (f11 : Nat → D) (h12 : Heap), I9 n10 [f11 3, f11 8] h12 →
  vbin .lss (f11 8) a8 fun a13 =>
  vcond a13 (∃ (J14 : List D → Heap → Prop), (∀ (f15 : Nat → D) (h16 : Heap), J14 [f15 3] h16 →
  vbin .add (f11 8) (.int .i64 1) fun a17 =>
  keq [a0, a8] [a0, a8] ∧ ∃ m, m < n10 ∧ I9 m [(f15 3), a17] h16) ∧
  vhOp PP (.iadd (.c a0) (.c (f11 8)) 1) h12 fun a18 h19 =>
  vhOp PP (.ld (.c a18) 1 false) h19 fun a20 h21 =>
  V_span_gcd_L0 f11 a20 h21 a0 a8 J14) (
  keq [] [] ∧ J2 [(f11 3)] h12)
def V_span_gcd (a0 : D) (h0 : Heap) (K : D → Heap → Prop) : Prop :=
  ∃ (J2 : List D → Heap → Prop), (∀ (f3 : Nat → D) (h4 : Heap), J2 [f3 3] h4 →
  vun .neg (f3 3) fun a5 =>
  vhOp PP (.mx (.c (f3 3)) (.c a5)) h4 fun a6 h7 =>
  K a6 h7) ∧
  vlen a0 h0 fun a8 =>
  V_span_gcd_L1 h0 a8 a0 J2
theorem V_span_gcd_ok (a0 : D) (h0 : Heap) (K : D → Heap → Prop) : V_span_gcd a0 h0 K = vcC PP F_span_gcd.code (fun x e h' => match x with | .exit _ => False | _ => vcRet PP F_span_gcd.res K e h') (params [a0] 0) h0 := by kernel_rfl

/-- warpwright/affine.alike -/
def loops_affine_alike : Nat → Option (List Nat × List Nat)
  | _ => none
def tbl_affine_alike : Nat → Option (List Nat × List Nat × List Nat)
  | _ => none
def F_affine_alike : AFunc := ⟨12,
  .seq (.reg [⟨(some 2), .box (.t 0), none⟩,
    ⟨(some 3), .box (.t 1), none⟩,
    ⟨(some 4), .mov (.c (.bool false)), none⟩]) <|
  .seq (.reg [⟨(some 5), .bld [(.int .i64 0), (.int .i64 0), (.int .i64 0)] [], none⟩,
    ⟨(some 6), .bld [(.int .i64 0), (.int .i64 0), (.int .i64 0)] [], none⟩,
    ⟨(some 7), .fadd (.t 2) 4, none⟩,
    ⟨none, .st (.t 7) (.t 5) 3, none⟩,
    ⟨(some 8), .fadd (.t 3) 4, none⟩,
    ⟨none, .st (.t 8) (.t 6) 3, none⟩]) <|
  .seq (.reg [⟨(some 9), .ld (.t 2) 7 true, none⟩,
    ⟨(some 10), .ld (.t 3) 7 true, none⟩,
    ⟨(some 11), .eqv false true [.b, .i, .i, .i, .i, .i, .i] (.t 9) (.t 10), none⟩,
    ⟨(some 4), .mov (.t 11), none⟩]) <|
  .ret,
  [.t 4]⟩
theorem F_affine_alike_ok : cFn PP true n_affine_alike loops_affine_alike (cDr PP 12 tbl_affine_alike) = some F_affine_alike := by kernel_rfl


def V_affine_alike (a0 : D) (a1 : D) (h0 : Heap) (K : D → Heap → Prop) : Prop :=
  vhOp PP (.box (.c a0)) h0 fun a3 h4 =>
  vhOp PP (.box (.c a1)) h4 fun a5 h6 =>
  vhOp PP (.bld [(.int .i64 0), (.int .i64 0), (.int .i64 0)] []) h6 fun a7 h8 =>
  vhOp PP (.bld [(.int .i64 0), (.int .i64 0), (.int .i64 0)] []) h8 fun a9 h10 =>
  vhOp PP (.fadd (.c a3) 4) h10 fun a11 h12 =>
  vhOp PP (.st (.c a11) (.c a7) 3) h12 fun a13 h14 =>
  vhOp PP (.fadd (.c a5) 4) h14 fun a15 h16 =>
  vhOp PP (.st (.c a15) (.c a9) 3) h16 fun a17 h18 =>
  vhOp PP (.ld (.c a3) 7 true) h18 fun a19 h20 =>
  vhOp PP (.ld (.c a5) 7 true) h20 fun a21 h22 =>
  vhOp PP (.eqv false true [.b, .i, .i, .i, .i, .i, .i] (.c a19) (.c a21)) h22 fun a23 h24 =>
  K a23 h24
theorem V_affine_alike_ok (a0 : D) (a1 : D) (h0 : Heap) (K : D → Heap → Prop) : V_affine_alike a0 a1 h0 K = vcC PP F_affine_alike.code (fun x e h' => match x with | .exit _ => False | _ => vcRet PP F_affine_alike.res K e h') (params [a0, a1] 0) h0 := by kernel_rfl

/-- warpwright/span.Join -/
def loops_span_Join : Nat → Option (List Nat × List Nat)
  | _ => none
def tbl_span_Join : Nat → Option (List Nat × List Nat × List Nat)
  | 1 => some ([0, 1, 0, 4, 15, 0, 32, 0, 128, 480, 0, 1024, 0, 4096, 0, 16384, 0, 65536, 245760, 523264, 1047552, 2097151, 4194303], [22], []) | _ => none
def F_span_Join : AFunc := ⟨27,
  .seq (.reg [⟨(some 2), .box (.t 0), none⟩,
    ⟨(some 3), .box (.t 1), none⟩,
    ⟨(some 4), .alloc (.agg [(.int .i64 0), (.int .i64 0), (.int .i64 0)]), none⟩]) <|
  .seq (.dreg [⟨(some 5), .fadd (.t 2) 0, none⟩,
    ⟨(some 6), .ld (.t 5) 1 false, none⟩,
    ⟨(some 7), .fadd (.t 3) 0, none⟩,
    ⟨(some 8), .ld (.t 7) 1 false, none⟩,
    ⟨(some 9), .mn (.t 6) (.t 8), none⟩,
    ⟨(some 10), .fadd (.t 2) 1, none⟩,
    ⟨(some 11), .ld (.t 10) 1 false, none⟩,
    ⟨(some 12), .fadd (.t 3) 1, none⟩,
    ⟨(some 13), .ld (.t 12) 1 false, none⟩,
    ⟨(some 14), .mx (.t 11) (.t 13), none⟩,
    ⟨(some 15), .fadd (.t 2) 2, none⟩,
    ⟨(some 16), .ld (.t 15) 1 false, none⟩,
    ⟨(some 17), .fadd (.t 3) 2, none⟩,
    ⟨(some 18), .ld (.t 17) 1 false, none⟩,
    ⟨(some 19), .fadd (.t 2) 0, none⟩,
    ⟨(some 20), .ld (.t 19) 1 false, none⟩,
    ⟨(some 21), .fadd (.t 3) 0, none⟩,
    ⟨(some 22), .ld (.t 21) 1 false, none⟩,
    ⟨(some 23), .bin .sub (.t 20) (.t 22), none⟩,
    ⟨(some 24), .bldS false 1 3 (.int .i64 0) [(0, (.t 16)), (1, (.t 18)), (2, (.t 23))], none⟩,
    ⟨(some 25), .call n_span_gcd [(.t 24)], none⟩,
    ⟨(some 26), .call n_span_made [(.t 9), (.t 14), (.t 25)], none⟩] [⟨none, .st (.t 4) (.t 26) 3, none⟩] []) <|
  .ret,
  [.cell 4 3 true]⟩
theorem F_span_Join_ok : cFn PP true n_span_Join loops_span_Join (cDr PP 27 tbl_span_Join) = some F_span_Join := by kernel_rfl


def V_span_Join (a0 : D) (a1 : D) (h0 : Heap) (K : D → Heap → Prop) : Prop :=
  vhOp PP (.box (.c a0)) h0 fun a3 h4 =>
  vhOp PP (.box (.c a1)) h4 fun a5 h6 =>
  vhOp PP (.alloc (.agg [(.int .i64 0), (.int .i64 0), (.int .i64 0)])) h6 fun a7 h8 =>
  vdOp PP (.fadd (.c a3) 0) h8 fun a9 =>
  vdOp PP (.ld (.c a9) 1 false) h8 fun a10 =>
  vdOp PP (.fadd (.c a5) 0) h8 fun a11 =>
  vdOp PP (.ld (.c a11) 1 false) h8 fun a12 =>
  vdOp PP (.mn (.c a10) (.c a12)) h8 fun a13 =>
  vdOp PP (.fadd (.c a3) 1) h8 fun a14 =>
  vdOp PP (.ld (.c a14) 1 false) h8 fun a15 =>
  vdOp PP (.fadd (.c a5) 1) h8 fun a16 =>
  vdOp PP (.ld (.c a16) 1 false) h8 fun a17 =>
  vdOp PP (.mx (.c a15) (.c a17)) h8 fun a18 =>
  vdOp PP (.fadd (.c a3) 2) h8 fun a19 =>
  vdOp PP (.ld (.c a19) 1 false) h8 fun a20 =>
  vdOp PP (.fadd (.c a5) 2) h8 fun a21 =>
  vdOp PP (.ld (.c a21) 1 false) h8 fun a22 =>
  vdOp PP (.fadd (.c a3) 0) h8 fun a23 =>
  vdOp PP (.ld (.c a23) 1 false) h8 fun a24 =>
  vdOp PP (.fadd (.c a5) 0) h8 fun a25 =>
  vdOp PP (.ld (.c a25) 1 false) h8 fun a26 =>
  vbin .sub a24 a26 fun a27 =>
  vdOp PP (.bldS false 1 3 (.int .i64 0) [(0, (.c a20)), (1, (.c a22)), (2, (.c a27))]) h8 fun a28 =>
  vdOp PP (.call n_span_gcd [(.c a28)]) h8 fun a29 =>
  vdOp PP (.call n_span_made [(.c a13), (.c a18), (.c a29)]) h8 fun a30 =>
  vhOp PP (.st (.c a7) (.c a30) 3) h8 fun a31 h32 =>
  vhOp PP (.ld (.c a7) 3 true) h32 fun a33 _ =>
  K a33 h32
theorem V_span_Join_ok (a0 : D) (a1 : D) (h0 : Heap) (K : D → Heap → Prop) : V_span_Join a0 a1 h0 K = vcC PP F_span_Join.code (fun x e h' => match x with | .exit _ => False | _ => vcRet PP F_span_Join.res K e h') (params [a0, a1] 0) h0 := by kernel_rfl

/-- (warpwright/affine.space).made -/
def loops_affine_space_made : Nat → Option (List Nat × List Nat)
  | _ => none
def tbl_affine_space_made : Nat → Option (List Nat × List Nat × List Nat)
  | _ => none
def F_affine_space_made : AFunc := ⟨28,
  .seq (.reg [⟨(some 3), .box (.t 0), none⟩,
    ⟨(some 4), .box (.t 1), none⟩,
    ⟨(some 6), .alloc (.agg [(.bool false), (.int .i64 0), (.int .i64 0), (.int .i64 0), (.int .i64 0), (.int .i64 0), (.int .i64 0)]), none⟩]) <|
  .seq (.seq (.reg [⟨(some 7), .mov (.t 2), none⟩,
    ⟨(some 8), .bin .neq (.t 7) (.c (.int .i64 0)), none⟩,
    ⟨(some 9), .mov (.t 8), none⟩,
    ⟨(some 10), .fadd (.t 4) 0, some (9, false)⟩,
    ⟨(some 11), .ld (.t 10) 1 false, some (9, false)⟩,
    ⟨(some 12), .pick (.t 9) (.c (.bool true)) (.t 11), none⟩,
    ⟨(some 13), .mov (.t 12), none⟩,
    ⟨(some 14), .ld (.t 4) 7 true, some (13, false)⟩,
    ⟨(some 15), .call n_affine_small [(.t 14)], some (13, false)⟩,
    ⟨(some 16), .un .not (.t 15), some (13, false)⟩,
    ⟨(some 17), .pick (.t 13) (.c (.bool true)) (.t 16), none⟩]) <|
  .cond (.t 17) (.seq (.reg [⟨(some 18), .call n_affine_unknown [], none⟩,
    ⟨none, .st (.t 6) (.t 18) 7, none⟩]) <|
  .ret) (.skip)) <|
  .seq (.seq (.reg [⟨(some 19), .ld (.t 3) 9 true, none⟩,
    ⟨(some 20), .ld (.t 4) 7 true, none⟩,
    ⟨(some 21), .call n_affine_space_canonical [(.t 19), (.t 20)], none⟩,
    ⟨none, .st (.t 4) (.t 21) 7, none⟩]) <|
  .seq (.reg [⟨(some 22), .ld (.t 3) 9 true, none⟩,
    ⟨(some 23), .ld (.t 4) 7 true, none⟩,
    ⟨(some 24), .call n_affine_space_valid [(.t 22), (.t 23)], none⟩,
    ⟨(some 25), .un .not (.t 24), none⟩]) <|
  .cond (.t 25) (.seq (.reg [⟨(some 26), .call n_affine_unknown [], none⟩,
    ⟨none, .st (.t 6) (.t 26) 7, none⟩]) <|
  .ret) (.skip)) <|
  .seq (.reg [⟨(some 27), .ld (.t 4) 7 true, none⟩,
    ⟨none, .st (.t 6) (.t 27) 7, none⟩]) <|
  .ret,
  [.cell 6 7 true]⟩
theorem F_affine_space_made_ok : cFn PP true n_affine_space_made loops_affine_space_made (cDr PP 28 tbl_affine_space_made) = some F_affine_space_made := by kernel_rfl


def V_affine_space_made (a0 : D) (a1 : D) (a2 : D) (h0 : Heap) (K : D → Heap → Prop) : Prop :=
  vhOp PP (.box (.c a0)) h0 fun a4 h5 =>
  vhOp PP (.box (.c a1)) h5 fun a6 h7 =>
  vhOp PP (.alloc (.agg [(.bool false), (.int .i64 0), (.int .i64 0), (.int .i64 0), (.int .i64 0), (.int .i64 0), (.int .i64 0)])) h7 fun a8 h9 =>
  vbin .neq a2 (.int .i64 0) fun a10 =>
  vguard a10 false (fun G11 =>
  vhOp PP (.fadd (.c a6) 0) h9 fun a14 h15 =>
  G11 a14 h15) h9 fun a12 h13 =>
  vguard a10 false (fun G16 =>
  vhOp PP (.ld (.c a12) 1 false) h13 fun a19 h20 =>
  G16 a19 h20) h13 fun a17 h18 =>
  vhOp PP (.pick (.c a10) (.c (.bool true)) (.c a17)) h18 fun a21 h22 =>
  vguard a21 false (fun G23 =>
  vhOp PP (.ld (.c a6) 7 true) h22 fun a26 h27 =>
  G23 a26 h27) h22 fun a24 h25 =>
  vguard a21 false (fun G28 =>
  ACall PP n_affine_small [a24] h25 fun a31 h32 =>
  G28 a31 h32) h25 fun a29 h30 =>
  vguard a21 false (fun G33 =>
  vun .not a29 fun a36 =>
  G33 a36 h30) h30 fun a34 h35 =>
  vhOp PP (.pick (.c a21) (.c (.bool true)) (.c a34)) h35 fun a37 h38 =>
  vcond a37 (ACall PP n_affine_unknown [] h38 fun a39 h40 =>
  vhOp PP (.st (.c a8) (.c a39) 7) h40 fun a41 h42 =>
  vhOp PP (.ld (.c a8) 7 true) h42 fun a43 _ =>
  K a43 h42) (
  vhOp PP (.ld (.c a4) 9 true) h38 fun a44 h45 =>
  vhOp PP (.ld (.c a6) 7 true) h45 fun a46 h47 =>
  ACall PP n_affine_space_canonical [a44, a46] h47 fun a48 h49 =>
  vhOp PP (.st (.c a6) (.c a48) 7) h49 fun a50 h51 =>
  vhOp PP (.ld (.c a4) 9 true) h51 fun a52 h53 =>
  vhOp PP (.ld (.c a6) 7 true) h53 fun a54 h55 =>
  ACall PP n_affine_space_valid [a52, a54] h55 fun a56 h57 =>
  vun .not a56 fun a58 =>
  vcond a58 (ACall PP n_affine_unknown [] h57 fun a59 h60 =>
  vhOp PP (.st (.c a8) (.c a59) 7) h60 fun a61 h62 =>
  vhOp PP (.ld (.c a8) 7 true) h62 fun a63 _ =>
  K a63 h62) (
  vhOp PP (.ld (.c a6) 7 true) h57 fun a64 h65 =>
  vhOp PP (.st (.c a8) (.c a64) 7) h65 fun a66 h67 =>
  vhOp PP (.ld (.c a8) 7 true) h67 fun a68 _ =>
  K a68 h67))
theorem V_affine_space_made_ok (a0 : D) (a1 : D) (a2 : D) (h0 : Heap) (K : D → Heap → Prop) : V_affine_space_made a0 a1 a2 h0 K = vcC PP F_affine_space_made.code (fun x e h' => match x with | .exit _ => False | _ => vcRet PP F_affine_space_made.res K e h') (params [a0, a1, a2] 0) h0 := by kernel_rfl

/-- warpwright/code.def -/
def loops_code_def : Nat → Option (List Nat × List Nat)
  | _ => none
def tbl_code_def : Nat → Option (List Nat × List Nat × List Nat)
  | _ => none
def F_code_def : AFunc := ⟨8,
  .seq (.reg [⟨(some 1), .box (.t 0), none⟩,
    ⟨(some 2), .mov (.c (.int .i64 0)), none⟩]) <|
  .seq (.seq (.reg [⟨(some 3), .fadd (.t 1) 0, none⟩,
    ⟨(some 4), .ld (.t 3) 1 false, none⟩,
    ⟨(some 5), .bin .neq (.t 4) (.c (.int .i64 2)), none⟩]) <|
  .cond (.t 5) (.seq (.reg [⟨(some 2), .mov (.c (.int .i64 (-1))), none⟩]) <|
  .ret) (.skip)) <|
  .seq (.reg [⟨(some 6), .fadd (.t 1) 1, none⟩,
    ⟨(some 7), .ld (.t 6) 1 false, none⟩,
    ⟨(some 2), .mov (.t 7), none⟩]) <|
  .ret,
  [.t 2]⟩
theorem F_code_def_ok : cFn PP true n_code_def loops_code_def (cDr PP 8 tbl_code_def) = some F_code_def := by kernel_rfl


def V_code_def (a0 : D) (h0 : Heap) (K : D → Heap → Prop) : Prop :=
  vhOp PP (.box (.c a0)) h0 fun a2 h3 =>
  vhOp PP (.fadd (.c a2) 0) h3 fun a4 h5 =>
  vhOp PP (.ld (.c a4) 1 false) h5 fun a6 h7 =>
  vbin .neq a6 (.int .i64 2) fun a8 =>
  vcond a8 (K (.int .i64 (-1)) h7) (
  vhOp PP (.fadd (.c a2) 1) h7 fun a9 h10 =>
  vhOp PP (.ld (.c a9) 1 false) h10 fun a11 h12 =>
  K a11 h12)
theorem V_code_def_ok (a0 : D) (h0 : Heap) (K : D → Heap → Prop) : V_code_def a0 h0 K = vcC PP F_code_def.code (fun x e h' => match x with | .exit _ => False | _ => vcRet PP F_code_def.res K e h') (params [a0] 0) h0 := by kernel_rfl

/-- (warpwright/affine.space).id -/
def loops_affine_space_id : Nat → Option (List Nat × List Nat)
  | _ => none
def tbl_affine_space_id : Nat → Option (List Nat × List Nat × List Nat)
  | _ => none
def F_affine_space_id : AFunc := ⟨52,
  .seq (.reg [⟨(some 2), .box (.t 0), none⟩,
    ⟨(some 4), .alloc (.agg [(.bool false), (.int .i64 0), (.int .i64 0), (.int .i64 0), (.int .i64 0), (.int .i64 0), (.int .i64 0)]), none⟩]) <|
  .seq (.seq (.reg [⟨(some 5), .mov (.t 1), none⟩]) <|
  .block 0 (.seq (.reg [⟨(some 7), .bin .eql (.t 5) (.c (.int .i64 1)), none⟩,
    ⟨(some 6), .mov (.t 7), none⟩]) <|
  .cond (.t 6) (.seq (.reg [⟨(some 8), .ld (.t 2) 9 true, none⟩,
    ⟨(some 9), .bld [(.bool false), (.int .i64 0), (.int .i64 0), (.int .i64 0), (.int .i64 0), (.int .i64 0), (.int .i64 0)] [(1, 1, (.c (.int .i64 1)))], none⟩,
    ⟨(some 10), .call n_affine_space_made [(.t 8), (.t 9), (.c (.int .i64 0))], none⟩,
    ⟨none, .st (.t 4) (.t 10) 7, none⟩]) <|
  .ret) (.seq (.reg [⟨(some 12), .bin .eql (.t 5) (.c (.int .i64 2)), none⟩,
    ⟨(some 11), .mov (.t 12), none⟩]) <|
  .cond (.t 11) (.seq (.reg [⟨(some 13), .ld (.t 2) 9 true, none⟩,
    ⟨(some 14), .bld [(.bool false), (.int .i64 0), (.int .i64 0), (.int .i64 0), (.int .i64 0), (.int .i64 0), (.int .i64 0)] [(2, 1, (.c (.int .i64 1)))], none⟩,
    ⟨(some 15), .call n_affine_space_made [(.t 13), (.t 14), (.c (.int .i64 0))], none⟩,
    ⟨none, .st (.t 4) (.t 15) 7, none⟩]) <|
  .ret) (.seq (.reg [⟨(some 17), .bin .eql (.t 5) (.c (.int .i64 3)), none⟩,
    ⟨(some 16), .mov (.t 17), none⟩]) <|
  .cond (.t 16) (.seq (.reg [⟨(some 18), .ld (.t 2) 9 true, none⟩,
    ⟨(some 19), .bld [(.bool false), (.int .i64 0), (.int .i64 0), (.int .i64 0), (.int .i64 0), (.int .i64 0), (.int .i64 0)] [(3, 1, (.c (.int .i64 1)))], none⟩,
    ⟨(some 20), .call n_affine_space_made [(.t 18), (.t 19), (.c (.int .i64 0))], none⟩,
    ⟨none, .st (.t 4) (.t 20) 7, none⟩]) <|
  .ret) (.seq (.reg [⟨(some 22), .bin .eql (.t 5) (.c (.int .i64 4)), none⟩,
    ⟨(some 21), .mov (.t 22), none⟩]) <|
  .cond (.t 21) (.seq (.reg [⟨(some 23), .fadd (.t 2) 8, none⟩,
    ⟨(some 24), .ld (.t 23) 1 false, none⟩,
    ⟨(some 25), .fadd (.t 2) 0, none⟩,
    ⟨(some 26), .fadd (.t 25) 0, none⟩,
    ⟨(some 27), .ld (.t 26) 1 false, none⟩,
    ⟨(some 28), .bin .mul (.t 24) (.t 27), none⟩,
    ⟨(some 29), .call n_affine_number [(.t 28)], none⟩,
    ⟨none, .st (.t 4) (.t 29) 7, none⟩]) <|
  .ret) (.seq (.reg [⟨(some 31), .bin .eql (.t 5) (.c (.int .i64 5)), none⟩,
    ⟨(some 30), .mov (.t 31), none⟩]) <|
  .cond (.t 30) (.seq (.reg [⟨(some 32), .fadd (.t 2) 0, none⟩,
    ⟨(some 33), .fadd (.t 32) 0, none⟩,
    ⟨(some 34), .ld (.t 33) 1 false, none⟩,
    ⟨(some 35), .call n_affine_number [(.t 34)], none⟩,
    ⟨none, .st (.t 4) (.t 35) 7, none⟩]) <|
  .ret) (.seq (.reg [⟨(some 37), .bin .eql (.t 5) (.c (.int .i64 6)), none⟩,
    ⟨(some 36), .mov (.t 37), none⟩]) <|
  .cond (.t 36) (.seq (.reg [⟨(some 38), .fadd (.t 2) 0, none⟩,
    ⟨(some 39), .fadd (.t 38) 1, none⟩,
    ⟨(some 40), .ld (.t 39) 1 false, none⟩,
    ⟨(some 41), .bin .sub (.t 40) (.c (.int .i64 1)), none⟩,
    ⟨(some 42), .call n_affine_between [(.c (.int .i64 0)), (.t 41)], none⟩,
    ⟨none, .st (.t 4) (.t 42) 7, none⟩]) <|
  .ret) (.skip)))))))) <|
  .seq (.reg [⟨(some 43), .fadd (.t 2) 0, none⟩,
    ⟨(some 44), .fadd (.t 43) 0, none⟩,
    ⟨(some 45), .ld (.t 44) 1 false, none⟩,
    ⟨(some 46), .fadd (.t 2) 0, none⟩,
    ⟨(some 47), .fadd (.t 46) 1, none⟩,
    ⟨(some 48), .ld (.t 47) 1 false, none⟩,
    ⟨(some 49), .bin .quo (.t 45) (.t 48), none⟩,
    ⟨(some 50), .bin .sub (.t 49) (.c (.int .i64 1)), none⟩,
    ⟨(some 51), .call n_affine_between [(.c (.int .i64 0)), (.t 50)], none⟩,
    ⟨none, .st (.t 4) (.t 51) 7, none⟩]) <|
  .ret,
  [.cell 4 7 true]⟩
theorem F_affine_space_id_ok : cFn PP true n_affine_space_id loops_affine_space_id (cDr PP 52 tbl_affine_space_id) = some F_affine_space_id := by kernel_rfl


def V_affine_space_id (a0 : D) (a1 : D) (h0 : Heap) (K : D → Heap → Prop) : Prop :=
  vhOp PP (.box (.c a0)) h0 fun a3 h4 =>
  vhOp PP (.alloc (.agg [(.bool false), (.int .i64 0), (.int .i64 0), (.int .i64 0), (.int .i64 0), (.int .i64 0), (.int .i64 0)])) h4 fun a5 h6 =>
  vbin .eql a1 (.int .i64 1) fun a7 =>
  vcond a7 (vhOp PP (.ld (.c a3) 9 true) h6 fun a8 h9 =>
  vhOp PP (.bld [(.bool false), (.int .i64 0), (.int .i64 0), (.int .i64 0), (.int .i64 0), (.int .i64 0), (.int .i64 0)] [(1, 1, (.c (.int .i64 1)))]) h9 fun a10 h11 =>
  ACall PP n_affine_space_made [a8, a10, (.int .i64 0)] h11 fun a12 h13 =>
  vhOp PP (.st (.c a5) (.c a12) 7) h13 fun a14 h15 =>
  vhOp PP (.ld (.c a5) 7 true) h15 fun a16 _ =>
  K a16 h15) (
  vbin .eql a1 (.int .i64 2) fun a17 =>
  vcond a17 (vhOp PP (.ld (.c a3) 9 true) h6 fun a18 h19 =>
  vhOp PP (.bld [(.bool false), (.int .i64 0), (.int .i64 0), (.int .i64 0), (.int .i64 0), (.int .i64 0), (.int .i64 0)] [(2, 1, (.c (.int .i64 1)))]) h19 fun a20 h21 =>
  ACall PP n_affine_space_made [a18, a20, (.int .i64 0)] h21 fun a22 h23 =>
  vhOp PP (.st (.c a5) (.c a22) 7) h23 fun a24 h25 =>
  vhOp PP (.ld (.c a5) 7 true) h25 fun a26 _ =>
  K a26 h25) (
  vbin .eql a1 (.int .i64 3) fun a27 =>
  vcond a27 (vhOp PP (.ld (.c a3) 9 true) h6 fun a28 h29 =>
  vhOp PP (.bld [(.bool false), (.int .i64 0), (.int .i64 0), (.int .i64 0), (.int .i64 0), (.int .i64 0), (.int .i64 0)] [(3, 1, (.c (.int .i64 1)))]) h29 fun a30 h31 =>
  ACall PP n_affine_space_made [a28, a30, (.int .i64 0)] h31 fun a32 h33 =>
  vhOp PP (.st (.c a5) (.c a32) 7) h33 fun a34 h35 =>
  vhOp PP (.ld (.c a5) 7 true) h35 fun a36 _ =>
  K a36 h35) (
  vbin .eql a1 (.int .i64 4) fun a37 =>
  vcond a37 (vhOp PP (.fadd (.c a3) 8) h6 fun a38 h39 =>
  vhOp PP (.ld (.c a38) 1 false) h39 fun a40 h41 =>
  vhOp PP (.fadd (.c a3) 0) h41 fun a42 h43 =>
  vhOp PP (.fadd (.c a42) 0) h43 fun a44 h45 =>
  vhOp PP (.ld (.c a44) 1 false) h45 fun a46 h47 =>
  vbin .mul a40 a46 fun a48 =>
  ACall PP n_affine_number [a48] h47 fun a49 h50 =>
  vhOp PP (.st (.c a5) (.c a49) 7) h50 fun a51 h52 =>
  vhOp PP (.ld (.c a5) 7 true) h52 fun a53 _ =>
  K a53 h52) (
  vbin .eql a1 (.int .i64 5) fun a54 =>
  vcond a54 (vhOp PP (.fadd (.c a3) 0) h6 fun a55 h56 =>
  vhOp PP (.fadd (.c a55) 0) h56 fun a57 h58 =>
  vhOp PP (.ld (.c a57) 1 false) h58 fun a59 h60 =>
  ACall PP n_affine_number [a59] h60 fun a61 h62 =>
  vhOp PP (.st (.c a5) (.c a61) 7) h62 fun a63 h64 =>
  vhOp PP (.ld (.c a5) 7 true) h64 fun a65 _ =>
  K a65 h64) (
  vbin .eql a1 (.int .i64 6) fun a66 =>
  vcond a66 (vhOp PP (.fadd (.c a3) 0) h6 fun a67 h68 =>
  vhOp PP (.fadd (.c a67) 1) h68 fun a69 h70 =>
  vhOp PP (.ld (.c a69) 1 false) h70 fun a71 h72 =>
  vbin .sub a71 (.int .i64 1) fun a73 =>
  ACall PP n_affine_between [(.int .i64 0), a73] h72 fun a74 h75 =>
  vhOp PP (.st (.c a5) (.c a74) 7) h75 fun a76 h77 =>
  vhOp PP (.ld (.c a5) 7 true) h77 fun a78 _ =>
  K a78 h77) (
  vhOp PP (.fadd (.c a3) 0) h6 fun a79 h80 =>
  vhOp PP (.fadd (.c a79) 0) h80 fun a81 h82 =>
  vhOp PP (.ld (.c a81) 1 false) h82 fun a83 h84 =>
  vhOp PP (.fadd (.c a3) 0) h84 fun a85 h86 =>
  vhOp PP (.fadd (.c a85) 1) h86 fun a87 h88 =>
  vhOp PP (.ld (.c a87) 1 false) h88 fun a89 h90 =>
  vbin .quo a83 a89 fun a91 =>
  vbin .sub a91 (.int .i64 1) fun a92 =>
  ACall PP n_affine_between [(.int .i64 0), a92] h90 fun a93 h94 =>
  vhOp PP (.st (.c a5) (.c a93) 7) h94 fun a95 h96 =>
  vhOp PP (.ld (.c a5) 7 true) h96 fun a97 _ =>
  K a97 h96))))))
theorem V_affine_space_id_ok (a0 : D) (a1 : D) (h0 : Heap) (K : D → Heap → Prop) : V_affine_space_id a0 a1 h0 K = vcC PP F_affine_space_id.code (fun x e h' => match x with | .exit _ => False | _ => vcRet PP F_affine_space_id.res K e h') (params [a0, a1] 0) h0 := by kernel_rfl

/-- (warpwright/affine.space).unary -/
def loops_affine_space_unary : Nat → Option (List Nat × List Nat)
  | 1000014 => some ([6], []) | _ => none
def tbl_affine_space_unary : Nat → Option (List Nat × List Nat × List Nat)
  | 6 => some ([0, 0, 0, 6, 14, 31, 63], [6], []) | 12 => some ([0, 1, 3, 0, 8, 31, 63, 127], [7], []) | _ => none
def F_affine_space_unary : AFunc := ⟨59,
  .seq (.reg [⟨(some 3), .box (.t 0), none⟩,
    ⟨(some 5), .box (.t 2), none⟩,
    ⟨(some 6), .alloc (.agg [(.bool false), (.int .i64 0), (.int .i64 0), (.int .i64 0), (.int .i64 0), (.int .i64 0), (.int .i64 0)]), none⟩]) <|
  .seq (.reg [⟨(some 10), .ld (.t 3) 9 true, none⟩,
    ⟨(some 11), .ld (.t 5) 7 true, none⟩,
    ⟨(some 12), .call n_affine_space_span [(.t 10), (.t 11)], none⟩,
    ⟨(some 9), .mov (.t 12), none⟩,
    ⟨(some 13), .ext (.t 9) 0, none⟩,
    ⟨(some 14), .ext (.t 9) 1, none⟩,
    ⟨(some 7), .alloc (.agg [(.int .i64 0), (.int .i64 0), (.int .i64 0)]), none⟩,
    ⟨none, .st (.t 7) (.t 13) 3, none⟩,
    ⟨(some 8), .mov (.t 14), none⟩]) <|
  .seqj [6] [] (.block 0 (.seq (.reg [⟨(some 16), .mov (.t 8), none⟩,
    ⟨(some 17), .un .not (.t 16), none⟩,
    ⟨(some 15), .mov (.t 17), none⟩]) <|
  .cond (.t 15) (.skip) (.seq (.reg [⟨(some 19), .mov (.t 1), none⟩,
    ⟨(some 20), .bin .eql (.t 19) (.c (.int .i64 1)), none⟩,
    ⟨(some 18), .mov (.t 20), none⟩]) <|
  .cond (.t 18) (.seq (.reg [⟨(some 21), .ld (.t 3) 9 true, none⟩,
    ⟨(some 22), .ld (.t 5) 7 true, none⟩,
    ⟨(some 23), .call n_affine_space_scale [(.t 21), (.t 22), (.c (.int .i64 (-1)))], none⟩,
    ⟨none, .st (.t 6) (.t 23) 7, none⟩]) <|
  .ret) (.seq (.reg [⟨(some 25), .mov (.t 1), none⟩,
    ⟨(some 26), .bin .eql (.t 25) (.c (.int .i64 2)), none⟩,
    ⟨(some 24), .mov (.t 26), none⟩]) <|
  .cond (.t 24) (.seq (.dreg [⟨(some 27), .ld (.t 3) 9 true, none⟩,
    ⟨(some 28), .ld (.t 3) 9 true, none⟩,
    ⟨(some 29), .ld (.t 5) 7 true, none⟩,
    ⟨(some 30), .call n_affine_space_scale [(.t 28), (.t 29), (.c (.int .i64 (-1)))], none⟩,
    ⟨(some 31), .call n_affine_number [(.c (.int .i64 1))], none⟩,
    ⟨(some 32), .call n_affine_space_subtract [(.t 27), (.t 30), (.t 31)], none⟩] [⟨none, .st (.t 6) (.t 32) 7, none⟩] []) <|
  .ret) (.seq (.reg [⟨(some 34), .mov (.t 1), none⟩,
    ⟨(some 35), .bin .eql (.t 34) (.c (.int .i64 3)), none⟩,
    ⟨(some 36), .mov (.t 35), none⟩,
    ⟨(some 37), .fadd (.t 7) 0, some (36, true)⟩,
    ⟨(some 38), .ld (.t 37) 1 false, some (36, true)⟩,
    ⟨(some 39), .bin .geq (.t 38) (.c (.int .i64 0)), some (36, true)⟩,
    ⟨(some 40), .pick (.t 36) (.t 39) (.c (.bool false)), none⟩,
    ⟨(some 33), .mov (.t 40), none⟩]) <|
  .cond (.t 33) (.seq (.reg [⟨(some 41), .ld (.t 5) 7 true, none⟩,
    ⟨none, .st (.t 6) (.t 41) 7, none⟩]) <|
  .ret) (.seq (.reg [⟨(some 43), .mov (.t 1), none⟩,
    ⟨(some 44), .bin .eql (.t 43) (.c (.int .i64 4)), none⟩,
    ⟨(some 42), .mov (.t 44), none⟩]) <|
  .cond (.t 42) (.seq (.reg [⟨(some 45), .ld (.t 3) 9 true, none⟩,
    ⟨(some 46), .ld (.t 5) 7 true, none⟩,
    ⟨(some 47), .call n_affine_space_scale [(.t 45), (.t 46), (.c (.int .i64 65536))], none⟩,
    ⟨none, .st (.t 6) (.t 47) 7, none⟩]) <|
  .ret) (.seq (.reg [⟨(some 49), .mov (.t 1), none⟩,
    ⟨(some 50), .bin .eql (.t 49) (.c (.int .i64 5)), none⟩,
    ⟨(some 48), .mov (.t 50), none⟩]) <|
  .cond (.t 48) (.seq (.dreg [⟨(some 51), .fadd (.t 7) 0, none⟩,
    ⟨(some 52), .ld (.t 51) 1 false, none⟩,
    ⟨(some 53), .call n_affine_floor [(.t 52), (.c (.int .u64 16))], none⟩,
    ⟨(some 54), .fadd (.t 7) 1, none⟩,
    ⟨(some 55), .ld (.t 54) 1 false, none⟩,
    ⟨(some 56), .call n_affine_floor [(.t 55), (.c (.int .u64 16))], none⟩,
    ⟨(some 57), .call n_affine_between [(.t 53), (.t 56)], none⟩] [⟨none, .st (.t 6) (.t 57) 7, none⟩] []) <|
  .ret) (.skip)))))))) <|
  .seq (.reg [⟨(some 58), .call n_affine_unknown [], none⟩,
    ⟨none, .st (.t 6) (.t 58) 7, none⟩]) <|
  .ret,
  [.cell 6 7 true]⟩
theorem F_affine_space_unary_ok : cFn PP true n_affine_space_unary loops_affine_space_unary (cDr PP 59 tbl_affine_space_unary) = some F_affine_space_unary := by kernel_rfl


def V_affine_space_unary (a0 : D) (a1 : D) (a2 : D) (h0 : Heap) (K : D → Heap → Prop) : Prop :=
  vhOp PP (.box (.c a0)) h0 fun a4 h5 =>
  vhOp PP (.box (.c a2)) h5 fun a6 h7 =>
  vhOp PP (.alloc (.agg [(.bool false), (.int .i64 0), (.int .i64 0), (.int .i64 0), (.int .i64 0), (.int .i64 0), (.int .i64 0)])) h7 fun a8 h9 =>
  vhOp PP (.ld (.c a4) 9 true) h9 fun a10 h11 =>
  vhOp PP (.ld (.c a6) 7 true) h11 fun a12 h13 =>
  ACall PP n_affine_space_span [a10, a12] h13 fun a14 h15 =>
  vhOp PP (.ext (.c a14) 0) h15 fun a16 h17 =>
  vhOp PP (.ext (.c a14) 1) h17 fun a18 h19 =>
  vhOp PP (.alloc (.agg [(.int .i64 0), (.int .i64 0), (.int .i64 0)])) h19 fun a20 h21 =>
  vhOp PP (.st (.c a20) (.c a16) 3) h21 fun a22 h23 =>
  ∃ (J24 : List D → Heap → Prop), (∀ (f25 : Nat → D) (h26 : Heap), J24 [] h26 →
  ACall PP n_affine_unknown [] h26 fun a27 h28 =>
  vhOp PP (.st (.c a8) (.c a27) 7) h28 fun a29 h30 =>
  vhOp PP (.ld (.c a8) 7 true) h30 fun a31 _ =>
  K a31 h30) ∧
  vun .not a18 fun a32 =>
  vcond a32 (keq [a8] [a8] ∧ J24 [] h23) (
  vbin .eql a1 (.int .i64 1) fun a33 =>
  vcond a33 (vhOp PP (.ld (.c a4) 9 true) h23 fun a34 h35 =>
  vhOp PP (.ld (.c a6) 7 true) h35 fun a36 h37 =>
  ACall PP n_affine_space_scale [a34, a36, (.int .i64 (-1))] h37 fun a38 h39 =>
  vhOp PP (.st (.c a8) (.c a38) 7) h39 fun a40 h41 =>
  vhOp PP (.ld (.c a8) 7 true) h41 fun a42 _ =>
  K a42 h41) (
  vbin .eql a1 (.int .i64 2) fun a43 =>
  vcond a43 (vdOp PP (.ld (.c a4) 9 true) h23 fun a44 =>
  vdOp PP (.ld (.c a4) 9 true) h23 fun a45 =>
  vdOp PP (.ld (.c a6) 7 true) h23 fun a46 =>
  vdOp PP (.call n_affine_space_scale [(.c a45), (.c a46), (.c (.int .i64 (-1)))]) h23 fun a47 =>
  vdOp PP (.call n_affine_number [(.c (.int .i64 1))]) h23 fun a48 =>
  vdOp PP (.call n_affine_space_subtract [(.c a44), (.c a47), (.c a48)]) h23 fun a49 =>
  vhOp PP (.st (.c a8) (.c a49) 7) h23 fun a50 h51 =>
  vhOp PP (.ld (.c a8) 7 true) h51 fun a52 _ =>
  K a52 h51) (
  vbin .eql a1 (.int .i64 3) fun a53 =>
  vguard a53 true (fun G54 =>
  vhOp PP (.fadd (.c a20) 0) h23 fun a57 h58 =>
  G54 a57 h58) h23 fun a55 h56 =>
  vguard a53 true (fun G59 =>
  vhOp PP (.ld (.c a55) 1 false) h56 fun a62 h63 =>
  G59 a62 h63) h56 fun a60 h61 =>
  vguard a53 true (fun G64 =>
  vbin .geq a60 (.int .i64 0) fun a67 =>
  G64 a67 h61) h61 fun a65 h66 =>
  vhOp PP (.pick (.c a53) (.c a65) (.c (.bool false))) h66 fun a68 h69 =>
  vcond a68 (vhOp PP (.ld (.c a6) 7 true) h69 fun a70 h71 =>
  vhOp PP (.st (.c a8) (.c a70) 7) h71 fun a72 h73 =>
  vhOp PP (.ld (.c a8) 7 true) h73 fun a74 _ =>
  K a74 h73) (
  vbin .eql a1 (.int .i64 4) fun a75 =>
  vcond a75 (vhOp PP (.ld (.c a4) 9 true) h69 fun a76 h77 =>
  vhOp PP (.ld (.c a6) 7 true) h77 fun a78 h79 =>
  ACall PP n_affine_space_scale [a76, a78, (.int .i64 65536)] h79 fun a80 h81 =>
  vhOp PP (.st (.c a8) (.c a80) 7) h81 fun a82 h83 =>
  vhOp PP (.ld (.c a8) 7 true) h83 fun a84 _ =>
  K a84 h83) (
  vbin .eql a1 (.int .i64 5) fun a85 =>
  vcond a85 (vdOp PP (.fadd (.c a20) 0) h69 fun a86 =>
  vdOp PP (.ld (.c a86) 1 false) h69 fun a87 =>
  vdOp PP (.call n_affine_floor [(.c a87), (.c (.int .u64 16))]) h69 fun a88 =>
  vdOp PP (.fadd (.c a20) 1) h69 fun a89 =>
  vdOp PP (.ld (.c a89) 1 false) h69 fun a90 =>
  vdOp PP (.call n_affine_floor [(.c a90), (.c (.int .u64 16))]) h69 fun a91 =>
  vdOp PP (.call n_affine_between [(.c a88), (.c a91)]) h69 fun a92 =>
  vhOp PP (.st (.c a8) (.c a92) 7) h69 fun a93 h94 =>
  vhOp PP (.ld (.c a8) 7 true) h94 fun a95 _ =>
  K a95 h94) (
  keq [a8] [a8] ∧ J24 [] h69))))))
theorem V_affine_space_unary_ok (a0 : D) (a1 : D) (a2 : D) (h0 : Heap) (K : D → Heap → Prop) : V_affine_space_unary a0 a1 a2 h0 K = vcC PP F_affine_space_unary.code (fun x e h' => match x with | .exit _ => False | _ => vcRet PP F_affine_space_unary.res K e h') (params [a0, a1, a2] 0) h0 := by kernel_rfl

/-- warpwright/affine.operators -/
def loops_affine_operators : Nat → Option (List Nat × List Nat)
  | _ => none
def tbl_affine_operators : Nat → Option (List Nat × List Nat × List Nat)
  | _ => none
def F_affine_operators : AFunc := ⟨22,
  .seq (.reg [⟨(some 0), .mov (.c .nil), none⟩]) <|
  .seq (.reg [⟨(some 1), .bld [(.int .i64 0), .nilfn] [(0, 1, (.c (.int .i64 10))), (1, 1, (.c (.fn n_affine_space_add [] [])))], none⟩,
    ⟨(some 2), .bld [(.int .i64 0), .nilfn] [(0, 1, (.c (.int .i64 11))), (1, 1, (.c (.fn n_affine_space_subtract [] [])))], none⟩,
    ⟨(some 3), .bld [(.int .i64 0), .nilfn] [(0, 1, (.c (.int .i64 12))), (1, 1, (.c (.fn n_affine_space_multiply [] [])))], none⟩,
    ⟨(some 4), .bld [(.int .i64 0), .nilfn] [(0, 1, (.c (.int .i64 17))), (1, 1, (.c (.fn n_affine_operators_F1 [] [])))], none⟩,
    ⟨(some 5), .call n_affine_by [(.c (.fn n_affine_operators_F2 [] []))], none⟩,
    ⟨(some 6), .bld [(.int .i64 0), .nilfn] [(0, 1, (.c (.int .i64 20))), (1, 1, (.t 5))], none⟩,
    ⟨(some 7), .call n_affine_by [(.c (.fn n_affine_operators_F3 [] []))], none⟩,
    ⟨(some 8), .bld [(.int .i64 0), .nilfn] [(0, 1, (.c (.int .i64 21))), (1, 1, (.t 7))], none⟩,
    ⟨(some 9), .call n_affine_by [(.c (.fn n_affine_operators_F4 [] []))], none⟩,
    ⟨(some 10), .bld [(.int .i64 0), .nilfn] [(0, 1, (.c (.int .i64 13))), (1, 1, (.t 9))], none⟩,
    ⟨(some 11), .call n_affine_by [(.c (.fn n_affine_space_remainder [] []))], none⟩,
    ⟨(some 12), .bld [(.int .i64 0), .nilfn] [(0, 1, (.c (.int .i64 14))), (1, 1, (.t 11))], none⟩,
    ⟨(some 13), .call n_affine_ranged [(.c (.fn n_affine_operators_F5 [] []))], none⟩,
    ⟨(some 14), .bld [(.int .i64 0), .nilfn] [(0, 1, (.c (.int .i64 22))), (1, 1, (.t 13))], none⟩,
    ⟨(some 15), .call n_affine_ranged [(.c (.fn n_affine_operators_F6 [] []))], none⟩,
    ⟨(some 16), .bld [(.int .i64 0), .nilfn] [(0, 1, (.c (.int .i64 23))), (1, 1, (.t 15))], none⟩,
    ⟨(some 17), .call n_affine_ranged [(.c (.fn n_affine_bits [] []))], none⟩,
    ⟨(some 18), .bld [(.int .i64 0), .nilfn] [(0, 1, (.c (.int .i64 18))), (1, 1, (.t 17))], none⟩,
    ⟨(some 19), .call n_affine_ranged [(.c (.fn n_affine_bits [] []))], none⟩,
    ⟨(some 20), .bld [(.int .i64 0), .nilfn] [(0, 1, (.c (.int .i64 19))), (1, 1, (.t 19))], none⟩,
    ⟨(some 21), .bldS true 2 12 (.agg [(.int .i64 0), .nilfn]) [(0, (.t 1)), (1, (.t 2)), (2, (.t 3)), (3, (.t 4)), (4, (.t 6)), (5, (.t 8)), (6, (.t 10)), (7, (.t 12)), (8, (.t 14)), (9, (.t 16)), (10, (.t 18)), (11, (.t 20))], none⟩,
    ⟨(some 0), .mov (.t 21), none⟩]) <|
  .ret,
  [.t 0]⟩
theorem F_affine_operators_ok : cFn PP true n_affine_operators loops_affine_operators (cDr PP 22 tbl_affine_operators) = some F_affine_operators := by kernel_rfl


def V_affine_operators (h0 : Heap) (K : D → Heap → Prop) : Prop :=
  vhOp PP (.bld [(.int .i64 0), .nilfn] [(0, 1, (.c (.int .i64 10))), (1, 1, (.c (.fn n_affine_space_add [] [])))]) h0 fun a1 h2 =>
  vhOp PP (.bld [(.int .i64 0), .nilfn] [(0, 1, (.c (.int .i64 11))), (1, 1, (.c (.fn n_affine_space_subtract [] [])))]) h2 fun a3 h4 =>
  vhOp PP (.bld [(.int .i64 0), .nilfn] [(0, 1, (.c (.int .i64 12))), (1, 1, (.c (.fn n_affine_space_multiply [] [])))]) h4 fun a5 h6 =>
  vhOp PP (.bld [(.int .i64 0), .nilfn] [(0, 1, (.c (.int .i64 17))), (1, 1, (.c (.fn n_affine_operators_F1 [] [])))]) h6 fun a7 h8 =>
  ACall PP n_affine_by [(.fn n_affine_operators_F2 [] [])] h8 fun a9 h10 =>
  vhOp PP (.bld [(.int .i64 0), .nilfn] [(0, 1, (.c (.int .i64 20))), (1, 1, (.c a9))]) h10 fun a11 h12 =>
  ACall PP n_affine_by [(.fn n_affine_operators_F3 [] [])] h12 fun a13 h14 =>
  vhOp PP (.bld [(.int .i64 0), .nilfn] [(0, 1, (.c (.int .i64 21))), (1, 1, (.c a13))]) h14 fun a15 h16 =>
  ACall PP n_affine_by [(.fn n_affine_operators_F4 [] [])] h16 fun a17 h18 =>
  vhOp PP (.bld [(.int .i64 0), .nilfn] [(0, 1, (.c (.int .i64 13))), (1, 1, (.c a17))]) h18 fun a19 h20 =>
  ACall PP n_affine_by [(.fn n_affine_space_remainder [] [])] h20 fun a21 h22 =>
  vhOp PP (.bld [(.int .i64 0), .nilfn] [(0, 1, (.c (.int .i64 14))), (1, 1, (.c a21))]) h22 fun a23 h24 =>
  ACall PP n_affine_ranged [(.fn n_affine_operators_F5 [] [])] h24 fun a25 h26 =>
  vhOp PP (.bld [(.int .i64 0), .nilfn] [(0, 1, (.c (.int .i64 22))), (1, 1, (.c a25))]) h26 fun a27 h28 =>
  ACall PP n_affine_ranged [(.fn n_affine_operators_F6 [] [])] h28 fun a29 h30 =>
  vhOp PP (.bld [(.int .i64 0), .nilfn] [(0, 1, (.c (.int .i64 23))), (1, 1, (.c a29))]) h30 fun a31 h32 =>
  ACall PP n_affine_ranged [(.fn n_affine_bits [] [])] h32 fun a33 h34 =>
  vhOp PP (.bld [(.int .i64 0), .nilfn] [(0, 1, (.c (.int .i64 18))), (1, 1, (.c a33))]) h34 fun a35 h36 =>
  ACall PP n_affine_ranged [(.fn n_affine_bits [] [])] h36 fun a37 h38 =>
  vhOp PP (.bld [(.int .i64 0), .nilfn] [(0, 1, (.c (.int .i64 19))), (1, 1, (.c a37))]) h38 fun a39 h40 =>
  vhOp PP (.bldS true 2 12 (.agg [(.int .i64 0), .nilfn]) [(0, (.c a1)), (1, (.c a3)), (2, (.c a5)), (3, (.c a7)), (4, (.c a11)), (5, (.c a15)), (6, (.c a19)), (7, (.c a23)), (8, (.c a27)), (9, (.c a31)), (10, (.c a35)), (11, (.c a39))]) h40 fun a41 h42 =>
  K a41 h42
theorem V_affine_operators_ok (h0 : Heap) (K : D → Heap → Prop) : V_affine_operators h0 K = vcC PP F_affine_operators.code (fun x e h' => match x with | .exit _ => False | _ => vcRet PP F_affine_operators.res K e h') (params [] 0) h0 := by kernel_rfl

/-- slices.Backward[[]warpwright/api.Inst,warpwright/api.Inst] -/
def loops_slices_Backward_sapi_Inst_api_Inst : Nat → Option (List Nat × List Nat)
  | _ => none
def tbl_slices_Backward_sapi_Inst_api_Inst : Nat → Option (List Nat × List Nat × List Nat)
  | _ => none
def F_slices_Backward_sapi_Inst_api_Inst : AFunc := ⟨4,
  .seq (.reg [⟨(some 1), .box (.t 0), none⟩,
    ⟨(some 2), .mov (.c .nilfn), none⟩]) <|
  .seq (.reg [⟨(some 3), .mkf n_slices_Backward_sapi_Inst_api_Inst_F1 [] [(.t 1)], none⟩,
    ⟨(some 2), .mov (.t 3), none⟩]) <|
  .ret,
  [.t 2]⟩
theorem F_slices_Backward_sapi_Inst_api_Inst_ok : cFn PP true n_slices_Backward_sapi_Inst_api_Inst loops_slices_Backward_sapi_Inst_api_Inst (cDr PP 4 tbl_slices_Backward_sapi_Inst_api_Inst) = some F_slices_Backward_sapi_Inst_api_Inst := by kernel_rfl


def V_slices_Backward_sapi_Inst_api_Inst (a0 : D) (h0 : Heap) (K : D → Heap → Prop) : Prop :=
  vhOp PP (.box (.c a0)) h0 fun a2 h3 =>
  vhOp PP (.mkf n_slices_Backward_sapi_Inst_api_Inst_F1 [] [(.c a2)]) h3 fun a4 h5 =>
  K a4 h5
theorem V_slices_Backward_sapi_Inst_api_Inst_ok (a0 : D) (h0 : Heap) (K : D → Heap → Prop) : V_slices_Backward_sapi_Inst_api_Inst a0 h0 K = vcC PP F_slices_Backward_sapi_Inst_api_Inst.code (fun x e h' => match x with | .exit _ => False | _ => vcRet PP F_slices_Backward_sapi_Inst_api_Inst.res K e h') (params [a0] 0) h0 := by kernel_rfl

/-- warpwright/span.made -/
def loops_span_made : Nat → Option (List Nat × List Nat)
  | 1000004 => some ([0, 1, 6], [2]) | _ => none
def tbl_span_made : Nat → Option (List Nat × List Nat × List Nat)
  | _ => none
def F_span_made : AFunc := ⟨14,
  .seq (.reg [⟨(some 6), .alloc (.agg [(.int .i64 0), (.int .i64 0), (.int .i64 0)]), none⟩]) <|
  .seqj [0, 1, 6] [2] (.seq (.reg [⟨(some 7), .mov (.t 0), none⟩,
    ⟨(some 8), .mov (.t 1), none⟩,
    ⟨(some 9), .bin .eql (.t 7) (.t 8), none⟩]) <|
  .cond (.t 9) (.reg [⟨(some 2), .mov (.c (.int .i64 0)), none⟩]) (.skip)) <|
  .seq (.reg [⟨(some 10), .mov (.t 0), none⟩,
    ⟨(some 11), .mov (.t 1), none⟩,
    ⟨(some 12), .mov (.t 2), none⟩,
    ⟨(some 13), .bld [(.int .i64 0), (.int .i64 0), (.int .i64 0)] [(0, 1, (.t 10)), (1, 1, (.t 11)), (2, 1, (.t 12))], none⟩,
    ⟨none, .st (.t 6) (.t 13) 3, none⟩]) <|
  .ret,
  [.cell 6 3 true]⟩
theorem F_span_made_ok : cFn PP true n_span_made loops_span_made (cDr PP 14 tbl_span_made) = some F_span_made := by kernel_rfl


def V_span_made (a0 : D) (a1 : D) (a2 : D) (h0 : Heap) (K : D → Heap → Prop) : Prop :=
  vhOp PP (.alloc (.agg [(.int .i64 0), (.int .i64 0), (.int .i64 0)])) h0 fun a4 h5 =>
  ∃ (J6 : List D → Heap → Prop), (∀ (f7 : Nat → D) (h8 : Heap), J6 [f7 2] h8 →
  vhOp PP (.bld [(.int .i64 0), (.int .i64 0), (.int .i64 0)] [(0, 1, (.c a0)), (1, 1, (.c a1)), (2, 1, (.c (f7 2)))]) h8 fun a9 h10 =>
  vhOp PP (.st (.c a4) (.c a9) 3) h10 fun a11 h12 =>
  vhOp PP (.ld (.c a4) 3 true) h12 fun a13 _ =>
  K a13 h12) ∧
  vbin .eql a0 a1 fun a14 =>
  vcond a14 (keq [a0, a1, a4] [a0, a1, a4] ∧ J6 [(.int .i64 0)] h5) (
  keq [a0, a1, a4] [a0, a1, a4] ∧ J6 [a2] h5)
theorem V_span_made_ok (a0 : D) (a1 : D) (a2 : D) (h0 : Heap) (K : D → Heap → Prop) : V_span_made a0 a1 a2 h0 K = vcC PP F_span_made.code (fun x e h' => match x with | .exit _ => False | _ => vcRet PP F_span_made.res K e h') (params [a0, a1, a2] 0) h0 := by kernel_rfl

/-- warpwright/span.euclid -/
def loops_span_euclid : Nat → Option (List Nat × List Nat)
  | _ => none
def tbl_span_euclid : Nat → Option (List Nat × List Nat × List Nat)
  | 4 => some ([0, 1, 0, 4, 0, 16, 0, 0, 192, 0, 512, 1984, 4080, 8191, 16383], [14], []) | _ => none
def F_span_euclid : AFunc := ⟨29,
  .seq (.reg [⟨(some 4), .alloc (.agg [(.int .i64 0), (.int .i64 0), (.int .i64 0)]), none⟩]) <|
  .seq (.seq (.reg [⟨(some 6), .mov (.t 1), none⟩,
    ⟨(some 7), .bin .eql (.t 6) (.c (.int .i64 0)), none⟩]) <|
  .cond (.t 7) (.seq (.reg [⟨(some 8), .mov (.t 0), none⟩,
    ⟨(some 9), .bld [(.int .i64 0), (.int .i64 0), (.int .i64 0)] [(0, 1, (.t 8)), (1, 1, (.c (.int .i64 1))), (2, 1, (.c (.int .i64 0)))], none⟩,
    ⟨none, .st (.t 4) (.t 9) 3, none⟩]) <|
  .ret) (.skip)) <|
  .seq (.reg [⟨(some 10), .mov (.t 1), none⟩,
    ⟨(some 11), .mov (.t 0), none⟩,
    ⟨(some 12), .mov (.t 1), none⟩,
    ⟨(some 13), .bin .rem (.t 11) (.t 12), none⟩,
    ⟨(some 14), .call n_span_euclid [(.t 10), (.t 13)], none⟩,
    ⟨(some 5), .alloc (.agg [(.int .i64 0), (.int .i64 0), (.int .i64 0)]), none⟩,
    ⟨none, .st (.t 5) (.t 14) 3, none⟩]) <|
  .seq (.dreg [⟨(some 15), .iadda (.t 5) (.c (.int .i64 0)) 3 1, none⟩,
    ⟨(some 16), .ld (.t 15) 1 false, none⟩,
    ⟨(some 17), .iadda (.t 5) (.c (.int .i64 2)) 3 1, none⟩,
    ⟨(some 18), .ld (.t 17) 1 false, none⟩,
    ⟨(some 19), .iadda (.t 5) (.c (.int .i64 1)) 3 1, none⟩,
    ⟨(some 20), .ld (.t 19) 1 false, none⟩,
    ⟨(some 21), .mov (.t 0), none⟩,
    ⟨(some 22), .mov (.t 1), none⟩,
    ⟨(some 23), .bin .quo (.t 21) (.t 22), none⟩,
    ⟨(some 24), .iadda (.t 5) (.c (.int .i64 2)) 3 1, none⟩,
    ⟨(some 25), .ld (.t 24) 1 false, none⟩,
    ⟨(some 26), .bin .mul (.t 23) (.t 25), none⟩,
    ⟨(some 27), .bin .sub (.t 20) (.t 26), none⟩,
    ⟨(some 28), .bld [(.int .i64 0), (.int .i64 0), (.int .i64 0)] [(0, 1, (.t 16)), (1, 1, (.t 18)), (2, 1, (.t 27))], none⟩] [⟨none, .st (.t 4) (.t 28) 3, none⟩] []) <|
  .ret,
  [.cell 4 3 true]⟩
theorem F_span_euclid_ok : cFn PP true n_span_euclid loops_span_euclid (cDr PP 29 tbl_span_euclid) = some F_span_euclid := by kernel_rfl


def V_span_euclid (a0 : D) (a1 : D) (h0 : Heap) (K : D → Heap → Prop) : Prop :=
  vhOp PP (.alloc (.agg [(.int .i64 0), (.int .i64 0), (.int .i64 0)])) h0 fun a3 h4 =>
  vbin .eql a1 (.int .i64 0) fun a5 =>
  vcond a5 (vhOp PP (.bld [(.int .i64 0), (.int .i64 0), (.int .i64 0)] [(0, 1, (.c a0)), (1, 1, (.c (.int .i64 1))), (2, 1, (.c (.int .i64 0)))]) h4 fun a6 h7 =>
  vhOp PP (.st (.c a3) (.c a6) 3) h7 fun a8 h9 =>
  vhOp PP (.ld (.c a3) 3 true) h9 fun a10 _ =>
  K a10 h9) (
  vbin .rem a0 a1 fun a11 =>
  ACall PP n_span_euclid [a1, a11] h4 fun a12 h13 =>
  vhOp PP (.alloc (.agg [(.int .i64 0), (.int .i64 0), (.int .i64 0)])) h13 fun a14 h15 =>
  vhOp PP (.st (.c a14) (.c a12) 3) h15 fun a16 h17 =>
  vdOp PP (.iadda (.c a14) (.c (.int .i64 0)) 3 1) h17 fun a18 =>
  vdOp PP (.ld (.c a18) 1 false) h17 fun a19 =>
  vdOp PP (.iadda (.c a14) (.c (.int .i64 2)) 3 1) h17 fun a20 =>
  vdOp PP (.ld (.c a20) 1 false) h17 fun a21 =>
  vdOp PP (.iadda (.c a14) (.c (.int .i64 1)) 3 1) h17 fun a22 =>
  vdOp PP (.ld (.c a22) 1 false) h17 fun a23 =>
  vbin .quo a0 a1 fun a24 =>
  vdOp PP (.iadda (.c a14) (.c (.int .i64 2)) 3 1) h17 fun a25 =>
  vdOp PP (.ld (.c a25) 1 false) h17 fun a26 =>
  vbin .mul a24 a26 fun a27 =>
  vbin .sub a23 a27 fun a28 =>
  vdOp PP (.bld [(.int .i64 0), (.int .i64 0), (.int .i64 0)] [(0, 1, (.c a19)), (1, 1, (.c a21)), (2, 1, (.c a28))]) h17 fun a29 =>
  vhOp PP (.st (.c a3) (.c a29) 3) h17 fun a30 h31 =>
  vhOp PP (.ld (.c a3) 3 true) h31 fun a32 _ =>
  K a32 h31)
theorem V_span_euclid_ok (a0 : D) (a1 : D) (h0 : Heap) (K : D → Heap → Prop) : V_span_euclid a0 a1 h0 K = vcC PP F_span_euclid.code (fun x e h' => match x with | .exit _ => False | _ => vcRet PP F_span_euclid.res K e h') (params [a0, a1] 0) h0 := by kernel_rfl

/-- warpwright/span.mulmod -/
def loops_span_mulmod : Nat → Option (List Nat × List Nat)
  | _ => none
def tbl_span_mulmod : Nat → Option (List Nat × List Nat × List Nat)
  | _ => none
def F_span_mulmod : AFunc := ⟨27,
  .seq (.reg [⟨(some 6), .mov (.c (.int .i64 0)), none⟩]) <|
  .seq (.reg [⟨(some 10), .mov (.t 0), none⟩,
    ⟨(some 11), .mov (.t 2), none⟩,
    ⟨(some 12), .call n_span_rest [(.t 10), (.t 11)], none⟩,
    ⟨(some 13), .conv .u64 (.t 12), none⟩,
    ⟨(some 14), .mov (.t 1), none⟩,
    ⟨(some 15), .mov (.t 2), none⟩,
    ⟨(some 16), .call n_span_rest [(.t 14), (.t 15)], none⟩,
    ⟨(some 17), .conv .u64 (.t 16), none⟩,
    ⟨(some 18), .call n_math_bits_Mul64 [(.t 13), (.t 17)], none⟩,
    ⟨(some 9), .mov (.t 18), none⟩,
    ⟨(some 19), .ext (.t 9) 0, none⟩,
    ⟨(some 20), .ext (.t 9) 1, none⟩,
    ⟨(some 7), .mov (.t 19), none⟩,
    ⟨(some 8), .mov (.t 20), none⟩]) <|
  .seq (.reg [⟨(some 21), .mov (.t 7), none⟩,
    ⟨(some 22), .mov (.t 8), none⟩,
    ⟨(some 23), .mov (.t 2), none⟩,
    ⟨(some 24), .conv .u64 (.t 23), none⟩,
    ⟨(some 25), .call n_math_bits_Rem64 [(.t 21), (.t 22), (.t 24)], none⟩,
    ⟨(some 26), .conv .i64 (.t 25), none⟩,
    ⟨(some 6), .mov (.t 26), none⟩]) <|
  .ret,
  [.t 6]⟩
theorem F_span_mulmod_ok : cFn PP true n_span_mulmod loops_span_mulmod (cDr PP 27 tbl_span_mulmod) = some F_span_mulmod := by kernel_rfl


def V_span_mulmod (a0 : D) (a1 : D) (a2 : D) (h0 : Heap) (K : D → Heap → Prop) : Prop :=
  ACall PP n_span_rest [a0, a2] h0 fun a4 h5 =>
  vhOp PP (.conv .u64 (.c a4)) h5 fun a6 h7 =>
  ACall PP n_span_rest [a1, a2] h7 fun a8 h9 =>
  vhOp PP (.conv .u64 (.c a8)) h9 fun a10 h11 =>
  ACall PP n_math_bits_Mul64 [a6, a10] h11 fun a12 h13 =>
  vhOp PP (.ext (.c a12) 0) h13 fun a14 h15 =>
  vhOp PP (.ext (.c a12) 1) h15 fun a16 h17 =>
  vhOp PP (.conv .u64 (.c a2)) h17 fun a18 h19 =>
  ACall PP n_math_bits_Rem64 [a14, a16, a18] h19 fun a20 h21 =>
  vhOp PP (.conv .i64 (.c a20)) h21 fun a22 h23 =>
  K a22 h23
theorem V_span_mulmod_ok (a0 : D) (a1 : D) (a2 : D) (h0 : Heap) (K : D → Heap → Prop) : V_span_mulmod a0 a1 a2 h0 K = vcC PP F_span_mulmod.code (fun x e h' => match x with | .exit _ => False | _ => vcRet PP F_span_mulmod.res K e h') (params [a0, a1, a2] 0) h0 := by kernel_rfl

/-- warpwright/span.floor -/
def loops_span_floor : Nat → Option (List Nat × List Nat)
  | 1000005 => some ([], [5]) | _ => none
def tbl_span_floor : Nat → Option (List Nat × List Nat × List Nat)
  | _ => none
def F_span_floor : AFunc := ⟨16,
  .seq (.reg [⟨(some 4), .mov (.c (.int .i64 0)), none⟩]) <|
  .seq (.reg [⟨(some 6), .mov (.t 0), none⟩,
    ⟨(some 7), .mov (.t 1), none⟩,
    ⟨(some 8), .bin .quo (.t 6) (.t 7), none⟩,
    ⟨(some 5), .mov (.t 8), none⟩]) <|
  .seqj [] [5] (.seq (.reg [⟨(some 9), .mov (.t 0), none⟩,
    ⟨(some 10), .mov (.t 1), none⟩,
    ⟨(some 11), .bin .rem (.t 9) (.t 10), none⟩,
    ⟨(some 12), .bin .lss (.t 11) (.c (.int .i64 0)), none⟩]) <|
  .cond (.t 12) (.reg [⟨(some 13), .mov (.t 5), none⟩,
    ⟨(some 14), .bin .sub (.t 13) (.c (.int .i64 1)), none⟩,
    ⟨(some 5), .mov (.t 14), none⟩]) (.skip)) <|
  .seq (.reg [⟨(some 15), .mov (.t 5), none⟩,
    ⟨(some 4), .mov (.t 15), none⟩]) <|
  .ret,
  [.t 4]⟩
theorem F_span_floor_ok : cFn PP true n_span_floor loops_span_floor (cDr PP 16 tbl_span_floor) = some F_span_floor := by kernel_rfl


def V_span_floor (a0 : D) (a1 : D) (h0 : Heap) (K : D → Heap → Prop) : Prop :=
  vbin .quo a0 a1 fun a3 =>
  ∃ (J4 : List D → Heap → Prop), (∀ (f5 : Nat → D) (h6 : Heap), J4 [f5 5] h6 →
  K (f5 5) h6) ∧
  vbin .rem a0 a1 fun a7 =>
  vbin .lss a7 (.int .i64 0) fun a8 =>
  vcond a8 (vbin .sub a3 (.int .i64 1) fun a9 =>
  keq [] [] ∧ J4 [a9] h0) (
  keq [] [] ∧ J4 [a3] h0)
theorem V_span_floor_ok (a0 : D) (a1 : D) (h0 : Heap) (K : D → Heap → Prop) : V_span_floor a0 a1 h0 K = vcC PP F_span_floor.code (fun x e h' => match x with | .exit _ => False | _ => vcRet PP F_span_floor.res K e h') (params [a0, a1] 0) h0 := by kernel_rfl

/-- warpwright/warpwrightref25.bounded -/
def loops_ref25_bounded : Nat → Option (List Nat × List Nat)
  | _ => none
def tbl_ref25_bounded : Nat → Option (List Nat × List Nat × List Nat)
  | _ => none
def F_ref25_bounded : AFunc := ⟨21,
  .seq (.reg [⟨(some 6), .alloc (.agg [(.int .i64 0), (.int .i64 0), (.int .i64 0), (.int .i64 0)]), none⟩]) <|
  .seq (.seq (.reg [⟨(some 7), .mov (.t 0), none⟩,
    ⟨(some 8), .call n_ref25_near [(.t 7)], none⟩,
    ⟨(some 9), .un .not (.t 8), none⟩,
    ⟨(some 10), .mov (.t 9), none⟩,
    ⟨(some 11), .mov (.t 1), some (10, false)⟩,
    ⟨(some 12), .call n_ref25_near [(.t 11)], some (10, false)⟩,
    ⟨(some 13), .un .not (.t 12), some (10, false)⟩,
    ⟨(some 14), .pick (.t 10) (.c (.bool true)) (.t 13), none⟩]) <|
  .cond (.t 14) (.seq (.reg [⟨(some 15), .bld [(.int .i64 0), (.int .i64 0), (.int .i64 0), (.int .i64 0)] [(3, 1, (.c (.int .i64 2)))], none⟩,
    ⟨none, .st (.t 6) (.t 15) 4, none⟩]) <|
  .ret) (.skip)) <|
  .seq (.reg [⟨(some 16), .mov (.t 0), none⟩,
    ⟨(some 17), .mov (.t 1), none⟩,
    ⟨(some 18), .mov (.t 2), none⟩,
    ⟨(some 19), .call n_ref25_Made [(.t 16), (.t 17), (.t 18)], none⟩,
    ⟨(some 20), .bld [(.int .i64 0), (.int .i64 0), (.int .i64 0), (.int .i64 0)] [(0, 3, (.t 19))], none⟩,
    ⟨none, .st (.t 6) (.t 20) 4, none⟩]) <|
  .ret,
  [.cell 6 4 true]⟩
theorem F_ref25_bounded_ok : cFn PP true n_ref25_bounded loops_ref25_bounded (cDr PP 21 tbl_ref25_bounded) = some F_ref25_bounded := by kernel_rfl


def V_ref25_bounded (a0 : D) (a1 : D) (a2 : D) (h0 : Heap) (K : D → Heap → Prop) : Prop :=
  vhOp PP (.alloc (.agg [(.int .i64 0), (.int .i64 0), (.int .i64 0), (.int .i64 0)])) h0 fun a4 h5 =>
  ACall PP n_ref25_near [a0] h5 fun a6 h7 =>
  vun .not a6 fun a8 =>
  vguard a8 false (fun G9 =>
  G9 a1 h7) h7 fun a10 h11 =>
  vguard a8 false (fun G12 =>
  ACall PP n_ref25_near [a10] h11 fun a15 h16 =>
  G12 a15 h16) h11 fun a13 h14 =>
  vguard a8 false (fun G17 =>
  vun .not a13 fun a20 =>
  G17 a20 h14) h14 fun a18 h19 =>
  vhOp PP (.pick (.c a8) (.c (.bool true)) (.c a18)) h19 fun a21 h22 =>
  vcond a21 (vhOp PP (.bld [(.int .i64 0), (.int .i64 0), (.int .i64 0), (.int .i64 0)] [(3, 1, (.c (.int .i64 2)))]) h22 fun a23 h24 =>
  vhOp PP (.st (.c a4) (.c a23) 4) h24 fun a25 h26 =>
  vhOp PP (.ld (.c a4) 4 true) h26 fun a27 _ =>
  K a27 h26) (
  ACall PP n_ref25_Made [a0, a1, a2] h22 fun a28 h29 =>
  vhOp PP (.bld [(.int .i64 0), (.int .i64 0), (.int .i64 0), (.int .i64 0)] [(0, 3, (.c a28))]) h29 fun a30 h31 =>
  vhOp PP (.st (.c a4) (.c a30) 4) h31 fun a32 h33 =>
  vhOp PP (.ld (.c a4) 4 true) h33 fun a34 _ =>
  K a34 h33)
theorem V_ref25_bounded_ok (a0 : D) (a1 : D) (a2 : D) (h0 : Heap) (K : D → Heap → Prop) : V_ref25_bounded a0 a1 a2 h0 K = vcC PP F_ref25_bounded.code (fun x e h' => match x with | .exit _ => False | _ => vcRet PP F_ref25_bounded.res K e h') (params [a0, a1, a2] 0) h0 := by kernel_rfl

/-- warpwright/warpwrightref25.Gcd -/
def loops_ref25_Gcd : Nat → Option (List Nat × List Nat)
  | 1000004 => some ([1], [0]) | 1000006 => some ([0], [1]) | 1000008 => some ([], [0]) | 5 => some ([], [0, 1]) | _ => none
def tbl_ref25_Gcd : Nat → Option (List Nat × List Nat × List Nat)
  | 6 => some ([0, 0, 0, 6, 3, 31], [4, 5], []) | _ => none
def F_ref25_Gcd : AFunc := ⟨20,
  .seq (.reg [⟨(some 4), .mov (.c (.int .i64 0)), none⟩]) <|
  .seqj [1] [0] (.seq (.reg [⟨(some 5), .mov (.t 0), none⟩,
    ⟨(some 6), .bin .lss (.t 5) (.c (.int .i64 0)), none⟩]) <|
  .cond (.t 6) (.reg [⟨(some 7), .mov (.t 0), none⟩,
    ⟨(some 8), .un .neg (.t 7), none⟩,
    ⟨(some 0), .mov (.t 8), none⟩]) (.skip)) <|
  .seqj [0] [1] (.seq (.reg [⟨(some 9), .mov (.t 1), none⟩,
    ⟨(some 10), .bin .lss (.t 9) (.c (.int .i64 0)), none⟩]) <|
  .cond (.t 10) (.reg [⟨(some 11), .mov (.t 1), none⟩,
    ⟨(some 12), .un .neg (.t 11), none⟩,
    ⟨(some 1), .mov (.t 12), none⟩]) (.skip)) <|
  .seqj [] [0] (.block 0 (.loop [] [0, 1] (.seq (.seq (.reg [⟨(some 13), .mov (.t 1), none⟩,
    ⟨(some 14), .bin .neq (.t 13) (.c (.int .i64 0)), none⟩]) <|
  .cond (.t 14) (.skip) (.exit 0)) <|
  .block 1 (.dreg [⟨(some 15), .mov (.t 1), none⟩,
    ⟨(some 16), .mov (.t 0), none⟩,
    ⟨(some 17), .mov (.t 1), none⟩,
    ⟨(some 18), .bin .rem (.t 16) (.t 17), none⟩] [⟨(some 0), .mov (.t 15), none⟩,
    ⟨(some 1), .mov (.t 18), none⟩] [])))) <|
  .seq (.reg [⟨(some 19), .mov (.t 0), none⟩,
    ⟨(some 4), .mov (.t 19), none⟩]) <|
  .ret,
  [.t 4]⟩
theorem F_ref25_Gcd_ok : cFn PP true n_ref25_Gcd loops_ref25_Gcd (cDr PP 20 tbl_ref25_Gcd) = some F_ref25_Gcd := by kernel_rfl

def V_ref25_Gcd_L0 (f4 : Nat → D) (f7 : Nat → D) (h8 : Heap) (J9 : List D → Heap → Prop) : Prop :=
  ∃ (I12 : Nat → List D → Heap → Prop) (n₀ : Nat), I12 n₀ [(f4 0), (f7 1)] h8 ∧ ∀ (n13 : Nat) (f14 : Nat → D) (h15 : Heap), I12 n13 [f14 0, f14 1] h15 →
  vbin .neq (f14 1) (.int .i64 0) fun a16 =>
  vcond a16 (vbin .rem (f14 0) (f14 1) fun a17 =>
  keq [] [] ∧ ∃ m, m < n13 ∧ I12 m [(f14 1), a17] h15) (
  keq [] [] ∧ J9 [(f14 0)] h15)
def V_ref25_Gcd (a0 : D) (a1 : D) (h0 : Heap) (K : D → Heap → Prop) : Prop :=
  ∃ (J3 : List D → Heap → Prop), (∀ (f4 : Nat → D) (h5 : Heap), J3 [f4 0] h5 →
  ∃ (J6 : List D → Heap → Prop), (∀ (f7 : Nat → D) (h8 : Heap), J6 [f7 1] h8 →
  ∃ (J9 : List D → Heap → Prop), (∀ (f10 : Nat → D) (h11 : Heap), J9 [f10 0] h11 →
  K (f10 0) h11) ∧
  V_ref25_Gcd_L0 f4 f7 h8 J9) ∧
  vbin .lss a1 (.int .i64 0) fun a18 =>
  vcond a18 (vun .neg a1 fun a19 =>
  keq [(f4 0)] [(f4 0)] ∧ J6 [a19] h5) (
  keq [(f4 0)] [(f4 0)] ∧ J6 [a1] h5)) ∧
  vbin .lss a0 (.int .i64 0) fun a20 =>
  vcond a20 (vun .neg a0 fun a21 =>
  keq [a1] [a1] ∧ J3 [a21] h0) (
  keq [a1] [a1] ∧ J3 [a0] h0)
theorem V_ref25_Gcd_ok (a0 : D) (a1 : D) (h0 : Heap) (K : D → Heap → Prop) : V_ref25_Gcd a0 a1 h0 K = vcC PP F_ref25_Gcd.code (fun x e h' => match x with | .exit _ => False | _ => vcRet PP F_ref25_Gcd.res K e h') (params [a0, a1] 0) h0 := by kernel_rfl

/-- warpwright/span.products -/
def loops_span_products : Nat → Option (List Nat × List Nat)
  | 1000013 => some ([], [7, 8, 9]) | 3 => some ([3, 20], [7, 8, 9, 21]) | 1000012 => some ([3, 20, 21], [7, 8, 9]) | 6 => some ([3, 11, 20, 21, 28], [7, 8, 9, 29]) | _ => none
def tbl_span_products : Nat → Option (List Nat × List Nat × List Nat)
  | _ => none
def F_span_products : AFunc := ⟨53,
  .seq (.reg [⟨(some 2), .box (.t 0), none⟩,
    ⟨(some 3), .box (.t 1), none⟩,
    ⟨(some 4), .mov (.c (.int .i64 0)), none⟩,
    ⟨(some 5), .mov (.c (.int .i64 0)), none⟩,
    ⟨(some 6), .mov (.c (.bool false)), none⟩]) <|
  .seq (.reg [⟨(some 7), .mov (.c (.int .i64 1099511627776)), none⟩,
    ⟨(some 8), .mov (.c (.int .i64 (-1099511627776))), none⟩,
    ⟨(some 9), .mov (.c (.bool true)), none⟩]) <|
  .seqj [] [7, 8, 9] (.seq (.reg [⟨(some 16), .fadd (.t 2) 0, none⟩,
    ⟨(some 17), .ld (.t 16) 1 false, none⟩,
    ⟨(some 18), .fadd (.t 2) 1, none⟩,
    ⟨(some 19), .ld (.t 18) 1 false, none⟩,
    ⟨(some 20), .bld [(.int .i64 0), (.int .i64 0)] [(0, 1, (.t 17)), (1, 1, (.t 19))], none⟩,
    ⟨(some 21), .mov (.c (.int .i64 0)), none⟩]) <|
  .block 0 (.loop [3, 20] [7, 8, 9, 21] (.seq (.reg [⟨(some 22), .bin .lss (.t 21) (.c (.int .i64 2)), none⟩]) <|
  .seq (.cond (.t 22) (.skip) (.exit 0)) <|
  .seqj [3, 20, 21] [7, 8, 9] (.block 1 (.seq (.reg [⟨(some 23), .sidx (.t 20) (.t 21) 2 1 false, none⟩,
    ⟨(some 11), .mov (.t 23), none⟩]) <|
  .seq (.reg [⟨(some 24), .fadd (.t 3) 0, none⟩,
    ⟨(some 25), .ld (.t 24) 1 false, none⟩,
    ⟨(some 26), .fadd (.t 3) 1, none⟩,
    ⟨(some 27), .ld (.t 26) 1 false, none⟩,
    ⟨(some 28), .bld [(.int .i64 0), (.int .i64 0)] [(0, 1, (.t 25)), (1, 1, (.t 27))], none⟩,
    ⟨(some 29), .mov (.c (.int .i64 0)), none⟩]) <|
  .block 2 (.loop [3, 11, 20, 21, 28] [7, 8, 9, 29] (.seq (.reg [⟨(some 30), .bin .lss (.t 29) (.c (.int .i64 2)), none⟩]) <|
  .seq (.cond (.t 30) (.skip) (.exit 2)) <|
  .seq (.block 3 (.seq (.reg [⟨(some 31), .sidx (.t 28) (.t 29) 2 1 false, none⟩,
    ⟨(some 13), .mov (.t 31), none⟩]) <|
  .seq (.reg [⟨(some 33), .mov (.t 11), none⟩,
    ⟨(some 34), .mov (.t 13), none⟩,
    ⟨(some 35), .call n_span_product [(.t 33), (.t 34)], none⟩,
    ⟨(some 32), .mov (.t 35), none⟩,
    ⟨(some 36), .ext (.t 32) 0, none⟩,
    ⟨(some 37), .ext (.t 32) 1, none⟩,
    ⟨(some 14), .mov (.t 36), none⟩,
    ⟨(some 15), .mov (.t 37), none⟩]) <|
  .reg [⟨(some 38), .mov (.t 7), none⟩,
    ⟨(some 39), .mov (.t 14), none⟩,
    ⟨(some 40), .mn (.t 38) (.t 39), none⟩,
    ⟨(some 41), .mov (.t 8), none⟩,
    ⟨(some 42), .mov (.t 14), none⟩,
    ⟨(some 43), .mx (.t 41) (.t 42), none⟩,
    ⟨(some 44), .mov (.t 9), none⟩,
    ⟨(some 45), .mov (.t 44), none⟩,
    ⟨(some 46), .mov (.t 15), some (45, true)⟩,
    ⟨(some 47), .pick (.t 45) (.t 46) (.c (.bool false)), none⟩,
    ⟨(some 7), .mov (.t 40), none⟩,
    ⟨(some 8), .mov (.t 43), none⟩,
    ⟨(some 9), .mov (.t 47), none⟩])) <|
  .reg [⟨(some 48), .bin .add (.t 29) (.c (.int .i64 1)), none⟩,
    ⟨(some 29), .mov (.t 48), none⟩])))) <|
  .reg [⟨(some 49), .bin .add (.t 21) (.c (.int .i64 1)), none⟩,
    ⟨(some 21), .mov (.t 49), none⟩]))) <|
  .seq (.reg [⟨(some 50), .mov (.t 7), none⟩,
    ⟨(some 51), .mov (.t 8), none⟩,
    ⟨(some 52), .mov (.t 9), none⟩,
    ⟨(some 4), .mov (.t 50), none⟩,
    ⟨(some 5), .mov (.t 51), none⟩,
    ⟨(some 6), .mov (.t 52), none⟩]) <|
  .ret,
  [.t 4, .t 5, .t 6]⟩
theorem F_span_products_ok : cFn PP true n_span_products loops_span_products (cDr PP 53 tbl_span_products) = some F_span_products := by kernel_rfl

def V_span_products_L0 (f22 : Nat → D) (h40 : Heap) (a39 : D) (a29 : D) (a5 : D) (a18 : D) (J25 : List D → Heap → Prop) : Prop :=
  ∃ (I41 : Nat → List D → Heap → Prop) (n₀ : Nat), I41 n₀ [(f22 7), (f22 8), (f22 9), (.int .i64 0)] h40 ∧ ∀ (n42 : Nat) (f43 : Nat → D) (h44 : Heap), I41 n42 [f43 7, f43 8, f43 9, f43 29] h44 →
  vbin .lss (f43 29) (.int .i64 2) fun a45 =>
  vcond a45 (vhOp PP (.sidx (.c a39) (.c (f43 29)) 2 1 false) h44 fun a46 h47 =>
  ACall PP n_span_product [a29, a46] h47 fun a48 h49 =>
  vhOp PP (.ext (.c a48) 0) h49 fun a50 h51 =>
  vhOp PP (.ext (.c a48) 1) h51 fun a52 h53 =>
  vhOp PP (.mn (.c (f43 7)) (.c a50)) h53 fun a54 h55 =>
  vhOp PP (.mx (.c (f43 8)) (.c a50)) h55 fun a56 h57 =>
  vguard (f43 9) true (fun G58 =>
  G58 a52 h57) h57 fun a59 h60 =>
  vhOp PP (.pick (.c (f43 9)) (.c a59) (.c (.bool false))) h60 fun a61 h62 =>
  vbin .add (f43 29) (.int .i64 1) fun a63 =>
  keq [a5, a29, a18, (f22 21), a39] [a5, a29, a18, (f22 21), a39] ∧ ∃ m, m < n42 ∧ I41 m [a54, a56, a61, a63] h62) (
  keq [a5, a18, (f22 21)] [a5, a18, (f22 21)] ∧ J25 [(f43 7), (f43 8), (f43 9)] h44)
def V_span_products_L1 (h19 : Heap) (a5 : D) (a18 : D) (J7 : List D → Heap → Prop) : Prop :=
  ∃ (I20 : Nat → List D → Heap → Prop) (n₀ : Nat), I20 n₀ [(.int .i64 1099511627776), (.int .i64 (-1099511627776)), (.bool true), (.int .i64 0)] h19 ∧ ∀ (n21 : Nat) (f22 : Nat → D) (h23 : Heap), I20 n21 [f22 7, f22 8, f22 9, f22 21] h23 →
  vbin .lss (f22 21) (.int .i64 2) fun a24 =>
  vcond a24 (∃ (J25 : List D → Heap → Prop), (∀ (f26 : Nat → D) (h27 : Heap), J25 [f26 7, f26 8, f26 9] h27 →
  vbin .add (f22 21) (.int .i64 1) fun a28 =>
  keq [a5, a18] [a5, a18] ∧ ∃ m, m < n21 ∧ I20 m [(f26 7), (f26 8), (f26 9), a28] h27) ∧
  vhOp PP (.sidx (.c a18) (.c (f22 21)) 2 1 false) h23 fun a29 h30 =>
  vhOp PP (.fadd (.c a5) 0) h30 fun a31 h32 =>
  vhOp PP (.ld (.c a31) 1 false) h32 fun a33 h34 =>
  vhOp PP (.fadd (.c a5) 1) h34 fun a35 h36 =>
  vhOp PP (.ld (.c a35) 1 false) h36 fun a37 h38 =>
  vhOp PP (.bld [(.int .i64 0), (.int .i64 0)] [(0, 1, (.c a33)), (1, 1, (.c a37))]) h38 fun a39 h40 =>
  V_span_products_L0 f22 h40 a39 a29 a5 a18 J25) (
  keq [] [] ∧ J7 [(f22 7), (f22 8), (f22 9)] h23)
def V_span_products (a0 : D) (a1 : D) (h0 : Heap) (K : D → Heap → Prop) : Prop :=
  vhOp PP (.box (.c a0)) h0 fun a3 h4 =>
  vhOp PP (.box (.c a1)) h4 fun a5 h6 =>
  ∃ (J7 : List D → Heap → Prop), (∀ (f8 : Nat → D) (h9 : Heap), J7 [f8 7, f8 8, f8 9] h9 →
  K (.tup [(f8 7), (f8 8), (f8 9)]) h9) ∧
  vhOp PP (.fadd (.c a3) 0) h6 fun a10 h11 =>
  vhOp PP (.ld (.c a10) 1 false) h11 fun a12 h13 =>
  vhOp PP (.fadd (.c a3) 1) h13 fun a14 h15 =>
  vhOp PP (.ld (.c a14) 1 false) h15 fun a16 h17 =>
  vhOp PP (.bld [(.int .i64 0), (.int .i64 0)] [(0, 1, (.c a12)), (1, 1, (.c a16))]) h17 fun a18 h19 =>
  V_span_products_L1 h19 a5 a18 J7
theorem V_span_products_ok (a0 : D) (a1 : D) (h0 : Heap) (K : D → Heap → Prop) : V_span_products a0 a1 h0 K = vcC PP F_span_products.code (fun x e h' => match x with | .exit _ => False | _ => vcRet PP F_span_products.res K e h') (params [a0, a1] 0) h0 := by kernel_rfl

/-- (warpwright/affine.space).scale -/
def loops_affine_space_scale : Nat → Option (List Nat × List Nat)
  | _ => none
def tbl_affine_space_scale : Nat → Option (List Nat × List Nat × List Nat)
  | _ => none
def F_affine_space_scale : AFunc := ⟨44,
  .seq (.reg [⟨(some 3), .box (.t 0), none⟩,
    ⟨(some 4), .box (.t 1), none⟩,
    ⟨(some 6), .alloc (.agg [(.bool false), (.int .i64 0), (.int .i64 0), (.int .i64 0), (.int .i64 0), (.int .i64 0), (.int .i64 0)]), none⟩]) <|
  .seq (.seq (.reg [⟨(some 9), .fadd (.t 4) 0, none⟩,
    ⟨(some 10), .ld (.t 9) 1 false, none⟩,
    ⟨(some 11), .mov (.t 10), none⟩,
    ⟨(some 12), .mov (.t 2), some (11, false)⟩,
    ⟨(some 13), .bin .lss (.t 12) (.c (.int .i64 (-2147483648))), some (11, false)⟩,
    ⟨(some 14), .pick (.t 11) (.c (.bool true)) (.t 13), none⟩,
    ⟨(some 15), .mov (.t 14), none⟩,
    ⟨(some 16), .mov (.t 2), some (15, false)⟩,
    ⟨(some 17), .bin .gtr (.t 16) (.c (.int .i64 2147483648)), some (15, false)⟩,
    ⟨(some 18), .pick (.t 15) (.c (.bool true)) (.t 17), none⟩]) <|
  .cond (.t 18) (.seq (.reg [⟨(some 19), .call n_affine_unknown [], none⟩,
    ⟨none, .st (.t 6) (.t 19) 7, none⟩]) <|
  .ret) (.skip)) <|
  .seq (.reg [⟨(some 21), .fadd (.t 4) 4, none⟩,
    ⟨(some 22), .ld (.t 21) 3 true, none⟩,
    ⟨(some 23), .mov (.t 2), none⟩,
    ⟨(some 24), .call n_span_Scale [(.t 22), (.t 23)], none⟩,
    ⟨(some 20), .mov (.t 24), none⟩,
    ⟨(some 25), .ext (.t 20) 0, none⟩,
    ⟨(some 26), .ext (.t 20) 1, none⟩,
    ⟨(some 7), .alloc (.agg [(.int .i64 0), (.int .i64 0), (.int .i64 0)]), none⟩,
    ⟨none, .st (.t 7) (.t 25) 3, none⟩,
    ⟨(some 8), .mov (.t 26), none⟩]) <|
  .seq (.reg [⟨(some 27), .ld (.t 3) 9 true, none⟩,
    ⟨(some 28), .fadd (.t 4) 1, none⟩,
    ⟨(some 29), .ld (.t 28) 1 false, none⟩,
    ⟨(some 30), .mov (.t 2), none⟩,
    ⟨(some 31), .bin .mul (.t 29) (.t 30), none⟩,
    ⟨(some 32), .fadd (.t 4) 2, none⟩,
    ⟨(some 33), .ld (.t 32) 1 false, none⟩,
    ⟨(some 34), .mov (.t 2), none⟩,
    ⟨(some 35), .bin .mul (.t 33) (.t 34), none⟩,
    ⟨(some 36), .fadd (.t 4) 3, none⟩,
    ⟨(some 37), .ld (.t 36) 1 false, none⟩,
    ⟨(some 38), .mov (.t 2), none⟩,
    ⟨(some 39), .bin .mul (.t 37) (.t 38), none⟩,
    ⟨(some 40), .ld (.t 7) 3 true, none⟩,
    ⟨(some 41), .bld [(.bool false), (.int .i64 0), (.int .i64 0), (.int .i64 0), (.int .i64 0), (.int .i64 0), (.int .i64 0)] [(1, 1, (.t 31)), (2, 1, (.t 35)), (3, 1, (.t 39)), (4, 3, (.t 40))], none⟩,
    ⟨(some 42), .mov (.t 8), none⟩,
    ⟨(some 43), .call n_affine_space_made [(.t 27), (.t 41), (.t 42)], none⟩,
    ⟨none, .st (.t 6) (.t 43) 7, none⟩]) <|
  .ret,
  [.cell 6 7 true]⟩
theorem F_affine_space_scale_ok : cFn PP true n_affine_space_scale loops_affine_space_scale (cDr PP 44 tbl_affine_space_scale) = some F_affine_space_scale := by kernel_rfl


def V_affine_space_scale (a0 : D) (a1 : D) (a2 : D) (h0 : Heap) (K : D → Heap → Prop) : Prop :=
  vhOp PP (.box (.c a0)) h0 fun a4 h5 =>
  vhOp PP (.box (.c a1)) h5 fun a6 h7 =>
  vhOp PP (.alloc (.agg [(.bool false), (.int .i64 0), (.int .i64 0), (.int .i64 0), (.int .i64 0), (.int .i64 0), (.int .i64 0)])) h7 fun a8 h9 =>
  vhOp PP (.fadd (.c a6) 0) h9 fun a10 h11 =>
  vhOp PP (.ld (.c a10) 1 false) h11 fun a12 h13 =>
  vguard a12 false (fun G14 =>
  G14 a2 h13) h13 fun a15 h16 =>
  vguard a12 false (fun G17 =>
  vbin .lss a15 (.int .i64 (-2147483648)) fun a20 =>
  G17 a20 h16) h16 fun a18 h19 =>
  vhOp PP (.pick (.c a12) (.c (.bool true)) (.c a18)) h19 fun a21 h22 =>
  vguard a21 false (fun G23 =>
  G23 a2 h22) h22 fun a24 h25 =>
  vguard a21 false (fun G26 =>
  vbin .gtr a24 (.int .i64 2147483648) fun a29 =>
  G26 a29 h25) h25 fun a27 h28 =>
  vhOp PP (.pick (.c a21) (.c (.bool true)) (.c a27)) h28 fun a30 h31 =>
  vcond a30 (ACall PP n_affine_unknown [] h31 fun a32 h33 =>
  vhOp PP (.st (.c a8) (.c a32) 7) h33 fun a34 h35 =>
  vhOp PP (.ld (.c a8) 7 true) h35 fun a36 _ =>
  K a36 h35) (
  vhOp PP (.fadd (.c a6) 4) h31 fun a37 h38 =>
  vhOp PP (.ld (.c a37) 3 true) h38 fun a39 h40 =>
  ACall PP n_span_Scale [a39, a2] h40 fun a41 h42 =>
  vhOp PP (.ext (.c a41) 0) h42 fun a43 h44 =>
  vhOp PP (.ext (.c a41) 1) h44 fun a45 h46 =>
  vhOp PP (.alloc (.agg [(.int .i64 0), (.int .i64 0), (.int .i64 0)])) h46 fun a47 h48 =>
  vhOp PP (.st (.c a47) (.c a43) 3) h48 fun a49 h50 =>
  vhOp PP (.ld (.c a4) 9 true) h50 fun a51 h52 =>
  vhOp PP (.fadd (.c a6) 1) h52 fun a53 h54 =>
  vhOp PP (.ld (.c a53) 1 false) h54 fun a55 h56 =>
  vbin .mul a55 a2 fun a57 =>
  vhOp PP (.fadd (.c a6) 2) h56 fun a58 h59 =>
  vhOp PP (.ld (.c a58) 1 false) h59 fun a60 h61 =>
  vbin .mul a60 a2 fun a62 =>
  vhOp PP (.fadd (.c a6) 3) h61 fun a63 h64 =>
  vhOp PP (.ld (.c a63) 1 false) h64 fun a65 h66 =>
  vbin .mul a65 a2 fun a67 =>
  vhOp PP (.ld (.c a47) 3 true) h66 fun a68 h69 =>
  vhOp PP (.bld [(.bool false), (.int .i64 0), (.int .i64 0), (.int .i64 0), (.int .i64 0), (.int .i64 0), (.int .i64 0)] [(1, 1, (.c a57)), (2, 1, (.c a62)), (3, 1, (.c a67)), (4, 3, (.c a68))]) h69 fun a70 h71 =>
  ACall PP n_affine_space_made [a51, a70, a45] h71 fun a72 h73 =>
  vhOp PP (.st (.c a8) (.c a72) 7) h73 fun a74 h75 =>
  vhOp PP (.ld (.c a8) 7 true) h75 fun a76 _ =>
  K a76 h75)
theorem V_affine_space_scale_ok (a0 : D) (a1 : D) (a2 : D) (h0 : Heap) (K : D → Heap → Prop) : V_affine_space_scale a0 a1 a2 h0 K = vcC PP F_affine_space_scale.code (fun x e h' => match x with | .exit _ => False | _ => vcRet PP F_affine_space_scale.res K e h') (params [a0, a1, a2] 0) h0 := by kernel_rfl

/-- (warpwright/affine.space).subtract -/
def loops_affine_space_subtract : Nat → Option (List Nat × List Nat)
  | _ => none
def tbl_affine_space_subtract : Nat → Option (List Nat × List Nat × List Nat)
  | _ => none
def F_affine_space_subtract : AFunc := ⟨44,
  .seq (.reg [⟨(some 3), .box (.t 0), none⟩,
    ⟨(some 4), .box (.t 1), none⟩,
    ⟨(some 5), .box (.t 2), none⟩,
    ⟨(some 6), .alloc (.agg [(.bool false), (.int .i64 0), (.int .i64 0), (.int .i64 0), (.int .i64 0), (.int .i64 0), (.int .i64 0)]), none⟩]) <|
  .seq (.seq (.reg [⟨(some 9), .fadd (.t 4) 0, none⟩,
    ⟨(some 10), .ld (.t 9) 1 false, none⟩,
    ⟨(some 11), .mov (.t 10), none⟩,
    ⟨(some 12), .fadd (.t 5) 0, some (11, false)⟩,
    ⟨(some 13), .ld (.t 12) 1 false, some (11, false)⟩,
    ⟨(some 14), .pick (.t 11) (.c (.bool true)) (.t 13), none⟩]) <|
  .cond (.t 14) (.seq (.reg [⟨(some 15), .call n_affine_unknown [], none⟩,
    ⟨none, .st (.t 6) (.t 15) 7, none⟩]) <|
  .ret) (.skip)) <|
  .seq (.reg [⟨(some 17), .fadd (.t 4) 4, none⟩,
    ⟨(some 18), .ld (.t 17) 3 true, none⟩,
    ⟨(some 19), .fadd (.t 5) 4, none⟩,
    ⟨(some 20), .ld (.t 19) 3 true, none⟩,
    ⟨(some 21), .call n_span_Sub [(.t 18), (.t 20)], none⟩,
    ⟨(some 16), .mov (.t 21), none⟩,
    ⟨(some 22), .ext (.t 16) 0, none⟩,
    ⟨(some 23), .ext (.t 16) 1, none⟩,
    ⟨(some 7), .alloc (.agg [(.int .i64 0), (.int .i64 0), (.int .i64 0)]), none⟩,
    ⟨none, .st (.t 7) (.t 22) 3, none⟩,
    ⟨(some 8), .mov (.t 23), none⟩]) <|
  .seq (.reg [⟨(some 24), .ld (.t 3) 9 true, none⟩,
    ⟨(some 25), .fadd (.t 4) 1, none⟩,
    ⟨(some 26), .ld (.t 25) 1 false, none⟩,
    ⟨(some 27), .fadd (.t 5) 1, none⟩,
    ⟨(some 28), .ld (.t 27) 1 false, none⟩,
    ⟨(some 29), .bin .sub (.t 26) (.t 28), none⟩,
    ⟨(some 30), .fadd (.t 4) 2, none⟩,
    ⟨(some 31), .ld (.t 30) 1 false, none⟩,
    ⟨(some 32), .fadd (.t 5) 2, none⟩,
    ⟨(some 33), .ld (.t 32) 1 false, none⟩,
    ⟨(some 34), .bin .sub (.t 31) (.t 33), none⟩,
    ⟨(some 35), .fadd (.t 4) 3, none⟩,
    ⟨(some 36), .ld (.t 35) 1 false, none⟩,
    ⟨(some 37), .fadd (.t 5) 3, none⟩,
    ⟨(some 38), .ld (.t 37) 1 false, none⟩,
    ⟨(some 39), .bin .sub (.t 36) (.t 38), none⟩,
    ⟨(some 40), .ld (.t 7) 3 true, none⟩,
    ⟨(some 41), .bld [(.bool false), (.int .i64 0), (.int .i64 0), (.int .i64 0), (.int .i64 0), (.int .i64 0), (.int .i64 0)] [(1, 1, (.t 29)), (2, 1, (.t 34)), (3, 1, (.t 39)), (4, 3, (.t 40))], none⟩,
    ⟨(some 42), .mov (.t 8), none⟩,
    ⟨(some 43), .call n_affine_space_made [(.t 24), (.t 41), (.t 42)], none⟩,
    ⟨none, .st (.t 6) (.t 43) 7, none⟩]) <|
  .ret,
  [.cell 6 7 true]⟩
theorem F_affine_space_subtract_ok : cFn PP true n_affine_space_subtract loops_affine_space_subtract (cDr PP 44 tbl_affine_space_subtract) = some F_affine_space_subtract := by kernel_rfl


def V_affine_space_subtract (a0 : D) (a1 : D) (a2 : D) (h0 : Heap) (K : D → Heap → Prop) : Prop :=
  vhOp PP (.box (.c a0)) h0 fun a4 h5 =>
  vhOp PP (.box (.c a1)) h5 fun a6 h7 =>
  vhOp PP (.box (.c a2)) h7 fun a8 h9 =>
  vhOp PP (.alloc (.agg [(.bool false), (.int .i64 0), (.int .i64 0), (.int .i64 0), (.int .i64 0), (.int .i64 0), (.int .i64 0)])) h9 fun a10 h11 =>
  vhOp PP (.fadd (.c a6) 0) h11 fun a12 h13 =>
  vhOp PP (.ld (.c a12) 1 false) h13 fun a14 h15 =>
  vguard a14 false (fun G16 =>
  vhOp PP (.fadd (.c a8) 0) h15 fun a19 h20 =>
  G16 a19 h20) h15 fun a17 h18 =>
  vguard a14 false (fun G21 =>
  vhOp PP (.ld (.c a17) 1 false) h18 fun a24 h25 =>
  G21 a24 h25) h18 fun a22 h23 =>
  vhOp PP (.pick (.c a14) (.c (.bool true)) (.c a22)) h23 fun a26 h27 =>
  vcond a26 (ACall PP n_affine_unknown [] h27 fun a28 h29 =>
  vhOp PP (.st (.c a10) (.c a28) 7) h29 fun a30 h31 =>
  vhOp PP (.ld (.c a10) 7 true) h31 fun a32 _ =>
  K a32 h31) (
  vhOp PP (.fadd (.c a6) 4) h27 fun a33 h34 =>
  vhOp PP (.ld (.c a33) 3 true) h34 fun a35 h36 =>
  vhOp PP (.fadd (.c a8) 4) h36 fun a37 h38 =>
  vhOp PP (.ld (.c a37) 3 true) h38 fun a39 h40 =>
  ACall PP n_span_Sub [a35, a39] h40 fun a41 h42 =>
  vhOp PP (.ext (.c a41) 0) h42 fun a43 h44 =>
  vhOp PP (.ext (.c a41) 1) h44 fun a45 h46 =>
  vhOp PP (.alloc (.agg [(.int .i64 0), (.int .i64 0), (.int .i64 0)])) h46 fun a47 h48 =>
  vhOp PP (.st (.c a47) (.c a43) 3) h48 fun a49 h50 =>
  vhOp PP (.ld (.c a4) 9 true) h50 fun a51 h52 =>
  vhOp PP (.fadd (.c a6) 1) h52 fun a53 h54 =>
  vhOp PP (.ld (.c a53) 1 false) h54 fun a55 h56 =>
  vhOp PP (.fadd (.c a8) 1) h56 fun a57 h58 =>
  vhOp PP (.ld (.c a57) 1 false) h58 fun a59 h60 =>
  vbin .sub a55 a59 fun a61 =>
  vhOp PP (.fadd (.c a6) 2) h60 fun a62 h63 =>
  vhOp PP (.ld (.c a62) 1 false) h63 fun a64 h65 =>
  vhOp PP (.fadd (.c a8) 2) h65 fun a66 h67 =>
  vhOp PP (.ld (.c a66) 1 false) h67 fun a68 h69 =>
  vbin .sub a64 a68 fun a70 =>
  vhOp PP (.fadd (.c a6) 3) h69 fun a71 h72 =>
  vhOp PP (.ld (.c a71) 1 false) h72 fun a73 h74 =>
  vhOp PP (.fadd (.c a8) 3) h74 fun a75 h76 =>
  vhOp PP (.ld (.c a75) 1 false) h76 fun a77 h78 =>
  vbin .sub a73 a77 fun a79 =>
  vhOp PP (.ld (.c a47) 3 true) h78 fun a80 h81 =>
  vhOp PP (.bld [(.bool false), (.int .i64 0), (.int .i64 0), (.int .i64 0), (.int .i64 0), (.int .i64 0), (.int .i64 0)] [(1, 1, (.c a61)), (2, 1, (.c a70)), (3, 1, (.c a79)), (4, 3, (.c a80))]) h81 fun a82 h83 =>
  ACall PP n_affine_space_made [a51, a82, a45] h83 fun a84 h85 =>
  vhOp PP (.st (.c a10) (.c a84) 7) h85 fun a86 h87 =>
  vhOp PP (.ld (.c a10) 7 true) h87 fun a88 _ =>
  K a88 h87)
theorem V_affine_space_subtract_ok (a0 : D) (a1 : D) (a2 : D) (h0 : Heap) (K : D → Heap → Prop) : V_affine_space_subtract a0 a1 a2 h0 K = vcC PP F_affine_space_subtract.code (fun x e h' => match x with | .exit _ => False | _ => vcRet PP F_affine_space_subtract.res K e h') (params [a0, a1, a2] 0) h0 := by kernel_rfl

/-- warpwright/affine.floor -/
def loops_affine_floor : Nat → Option (List Nat × List Nat)
  | _ => none
def tbl_affine_floor : Nat → Option (List Nat × List Nat × List Nat)
  | _ => none
def F_affine_floor : AFunc := ⟨8,
  .seq (.reg [⟨(some 4), .mov (.c (.int .i64 0)), none⟩]) <|
  .seq (.reg [⟨(some 5), .mov (.t 0), none⟩,
    ⟨(some 6), .mov (.t 1), none⟩,
    ⟨(some 7), .bin .shr (.t 5) (.t 6), none⟩,
    ⟨(some 4), .mov (.t 7), none⟩]) <|
  .ret,
  [.t 4]⟩
theorem F_affine_floor_ok : cFn PP true n_affine_floor loops_affine_floor (cDr PP 8 tbl_affine_floor) = some F_affine_floor := by kernel_rfl


def V_affine_floor (a0 : D) (a1 : D) (h0 : Heap) (K : D → Heap → Prop) : Prop :=
  vbin .shr a0 a1 fun a3 =>
  K a3 h0
theorem V_affine_floor_ok (a0 : D) (a1 : D) (h0 : Heap) (K : D → Heap → Prop) : V_affine_floor a0 a1 h0 K = vcC PP F_affine_floor.code (fun x e h' => match x with | .exit _ => False | _ => vcRet PP F_affine_floor.res K e h') (params [a0, a1] 0) h0 := by kernel_rfl

/-- (warpwright/affine.space).add -/
def loops_affine_space_add : Nat → Option (List Nat × List Nat)
  | _ => none
def tbl_affine_space_add : Nat → Option (List Nat × List Nat × List Nat)
  | _ => none
def F_affine_space_add : AFunc := ⟨44,
  .seq (.reg [⟨(some 3), .box (.t 0), none⟩,
    ⟨(some 4), .box (.t 1), none⟩,
    ⟨(some 5), .box (.t 2), none⟩,
    ⟨(some 6), .alloc (.agg [(.bool false), (.int .i64 0), (.int .i64 0), (.int .i64 0), (.int .i64 0), (.int .i64 0), (.int .i64 0)]), none⟩]) <|
  .seq (.seq (.reg [⟨(some 9), .fadd (.t 4) 0, none⟩,
    ⟨(some 10), .ld (.t 9) 1 false, none⟩,
    ⟨(some 11), .mov (.t 10), none⟩,
    ⟨(some 12), .fadd (.t 5) 0, some (11, false)⟩,
    ⟨(some 13), .ld (.t 12) 1 false, some (11, false)⟩,
    ⟨(some 14), .pick (.t 11) (.c (.bool true)) (.t 13), none⟩]) <|
  .cond (.t 14) (.seq (.reg [⟨(some 15), .call n_affine_unknown [], none⟩,
    ⟨none, .st (.t 6) (.t 15) 7, none⟩]) <|
  .ret) (.skip)) <|
  .seq (.reg [⟨(some 17), .fadd (.t 4) 4, none⟩,
    ⟨(some 18), .ld (.t 17) 3 true, none⟩,
    ⟨(some 19), .fadd (.t 5) 4, none⟩,
    ⟨(some 20), .ld (.t 19) 3 true, none⟩,
    ⟨(some 21), .call n_span_Add [(.t 18), (.t 20)], none⟩,
    ⟨(some 16), .mov (.t 21), none⟩,
    ⟨(some 22), .ext (.t 16) 0, none⟩,
    ⟨(some 23), .ext (.t 16) 1, none⟩,
    ⟨(some 7), .alloc (.agg [(.int .i64 0), (.int .i64 0), (.int .i64 0)]), none⟩,
    ⟨none, .st (.t 7) (.t 22) 3, none⟩,
    ⟨(some 8), .mov (.t 23), none⟩]) <|
  .seq (.reg [⟨(some 24), .ld (.t 3) 9 true, none⟩,
    ⟨(some 25), .fadd (.t 4) 1, none⟩,
    ⟨(some 26), .ld (.t 25) 1 false, none⟩,
    ⟨(some 27), .fadd (.t 5) 1, none⟩,
    ⟨(some 28), .ld (.t 27) 1 false, none⟩,
    ⟨(some 29), .bin .add (.t 26) (.t 28), none⟩,
    ⟨(some 30), .fadd (.t 4) 2, none⟩,
    ⟨(some 31), .ld (.t 30) 1 false, none⟩,
    ⟨(some 32), .fadd (.t 5) 2, none⟩,
    ⟨(some 33), .ld (.t 32) 1 false, none⟩,
    ⟨(some 34), .bin .add (.t 31) (.t 33), none⟩,
    ⟨(some 35), .fadd (.t 4) 3, none⟩,
    ⟨(some 36), .ld (.t 35) 1 false, none⟩,
    ⟨(some 37), .fadd (.t 5) 3, none⟩,
    ⟨(some 38), .ld (.t 37) 1 false, none⟩,
    ⟨(some 39), .bin .add (.t 36) (.t 38), none⟩,
    ⟨(some 40), .ld (.t 7) 3 true, none⟩,
    ⟨(some 41), .bld [(.bool false), (.int .i64 0), (.int .i64 0), (.int .i64 0), (.int .i64 0), (.int .i64 0), (.int .i64 0)] [(1, 1, (.t 29)), (2, 1, (.t 34)), (3, 1, (.t 39)), (4, 3, (.t 40))], none⟩,
    ⟨(some 42), .mov (.t 8), none⟩,
    ⟨(some 43), .call n_affine_space_made [(.t 24), (.t 41), (.t 42)], none⟩,
    ⟨none, .st (.t 6) (.t 43) 7, none⟩]) <|
  .ret,
  [.cell 6 7 true]⟩
theorem F_affine_space_add_ok : cFn PP true n_affine_space_add loops_affine_space_add (cDr PP 44 tbl_affine_space_add) = some F_affine_space_add := by kernel_rfl


def V_affine_space_add (a0 : D) (a1 : D) (a2 : D) (h0 : Heap) (K : D → Heap → Prop) : Prop :=
  vhOp PP (.box (.c a0)) h0 fun a4 h5 =>
  vhOp PP (.box (.c a1)) h5 fun a6 h7 =>
  vhOp PP (.box (.c a2)) h7 fun a8 h9 =>
  vhOp PP (.alloc (.agg [(.bool false), (.int .i64 0), (.int .i64 0), (.int .i64 0), (.int .i64 0), (.int .i64 0), (.int .i64 0)])) h9 fun a10 h11 =>
  vhOp PP (.fadd (.c a6) 0) h11 fun a12 h13 =>
  vhOp PP (.ld (.c a12) 1 false) h13 fun a14 h15 =>
  vguard a14 false (fun G16 =>
  vhOp PP (.fadd (.c a8) 0) h15 fun a19 h20 =>
  G16 a19 h20) h15 fun a17 h18 =>
  vguard a14 false (fun G21 =>
  vhOp PP (.ld (.c a17) 1 false) h18 fun a24 h25 =>
  G21 a24 h25) h18 fun a22 h23 =>
  vhOp PP (.pick (.c a14) (.c (.bool true)) (.c a22)) h23 fun a26 h27 =>
  vcond a26 (ACall PP n_affine_unknown [] h27 fun a28 h29 =>
  vhOp PP (.st (.c a10) (.c a28) 7) h29 fun a30 h31 =>
  vhOp PP (.ld (.c a10) 7 true) h31 fun a32 _ =>
  K a32 h31) (
  vhOp PP (.fadd (.c a6) 4) h27 fun a33 h34 =>
  vhOp PP (.ld (.c a33) 3 true) h34 fun a35 h36 =>
  vhOp PP (.fadd (.c a8) 4) h36 fun a37 h38 =>
  vhOp PP (.ld (.c a37) 3 true) h38 fun a39 h40 =>
  ACall PP n_span_Add [a35, a39] h40 fun a41 h42 =>
  vhOp PP (.ext (.c a41) 0) h42 fun a43 h44 =>
  vhOp PP (.ext (.c a41) 1) h44 fun a45 h46 =>
  vhOp PP (.alloc (.agg [(.int .i64 0), (.int .i64 0), (.int .i64 0)])) h46 fun a47 h48 =>
  vhOp PP (.st (.c a47) (.c a43) 3) h48 fun a49 h50 =>
  vhOp PP (.ld (.c a4) 9 true) h50 fun a51 h52 =>
  vhOp PP (.fadd (.c a6) 1) h52 fun a53 h54 =>
  vhOp PP (.ld (.c a53) 1 false) h54 fun a55 h56 =>
  vhOp PP (.fadd (.c a8) 1) h56 fun a57 h58 =>
  vhOp PP (.ld (.c a57) 1 false) h58 fun a59 h60 =>
  vbin .add a55 a59 fun a61 =>
  vhOp PP (.fadd (.c a6) 2) h60 fun a62 h63 =>
  vhOp PP (.ld (.c a62) 1 false) h63 fun a64 h65 =>
  vhOp PP (.fadd (.c a8) 2) h65 fun a66 h67 =>
  vhOp PP (.ld (.c a66) 1 false) h67 fun a68 h69 =>
  vbin .add a64 a68 fun a70 =>
  vhOp PP (.fadd (.c a6) 3) h69 fun a71 h72 =>
  vhOp PP (.ld (.c a71) 1 false) h72 fun a73 h74 =>
  vhOp PP (.fadd (.c a8) 3) h74 fun a75 h76 =>
  vhOp PP (.ld (.c a75) 1 false) h76 fun a77 h78 =>
  vbin .add a73 a77 fun a79 =>
  vhOp PP (.ld (.c a47) 3 true) h78 fun a80 h81 =>
  vhOp PP (.bld [(.bool false), (.int .i64 0), (.int .i64 0), (.int .i64 0), (.int .i64 0), (.int .i64 0), (.int .i64 0)] [(1, 1, (.c a61)), (2, 1, (.c a70)), (3, 1, (.c a79)), (4, 3, (.c a80))]) h81 fun a82 h83 =>
  ACall PP n_affine_space_made [a51, a82, a45] h83 fun a84 h85 =>
  vhOp PP (.st (.c a10) (.c a84) 7) h85 fun a86 h87 =>
  vhOp PP (.ld (.c a10) 7 true) h87 fun a88 _ =>
  K a88 h87)
theorem V_affine_space_add_ok (a0 : D) (a1 : D) (a2 : D) (h0 : Heap) (K : D → Heap → Prop) : V_affine_space_add a0 a1 a2 h0 K = vcC PP F_affine_space_add.code (fun x e h' => match x with | .exit _ => False | _ => vcRet PP F_affine_space_add.res K e h') (params [a0, a1, a2] 0) h0 := by kernel_rfl

/-- (warpwright/affine.space).multiply -/
def loops_affine_space_multiply : Nat → Option (List Nat × List Nat)
  | _ => none
def tbl_affine_space_multiply : Nat → Option (List Nat × List Nat × List Nat)
  | _ => none
def F_affine_space_multiply : AFunc := ⟨55,
  .seq (.reg [⟨(some 3), .box (.t 0), none⟩,
    ⟨(some 4), .box (.t 1), none⟩,
    ⟨(some 5), .box (.t 2), none⟩,
    ⟨(some 6), .alloc (.agg [(.bool false), (.int .i64 0), (.int .i64 0), (.int .i64 0), (.int .i64 0), (.int .i64 0), (.int .i64 0)]), none⟩]) <|
  .seq (.seq (.reg [⟨(some 14), .ld (.t 5) 7 true, none⟩,
    ⟨(some 15), .call n_affine_constant [(.t 14)], none⟩,
    ⟨(some 13), .mov (.t 15), none⟩,
    ⟨(some 16), .ext (.t 13) 0, none⟩,
    ⟨(some 17), .ext (.t 13) 1, none⟩,
    ⟨(some 7), .mov (.t 16), none⟩,
    ⟨(some 8), .mov (.t 17), none⟩]) <|
  .seq (.reg [⟨(some 18), .mov (.t 8), none⟩]) <|
  .cond (.t 18) (.seq (.reg [⟨(some 19), .ld (.t 3) 9 true, none⟩,
    ⟨(some 20), .ld (.t 4) 7 true, none⟩,
    ⟨(some 21), .mov (.t 7), none⟩,
    ⟨(some 22), .call n_affine_space_scale [(.t 19), (.t 20), (.t 21)], none⟩,
    ⟨none, .st (.t 6) (.t 22) 7, none⟩]) <|
  .ret) (.skip)) <|
  .seq (.seq (.reg [⟨(some 24), .ld (.t 4) 7 true, none⟩,
    ⟨(some 25), .call n_affine_constant [(.t 24)], none⟩,
    ⟨(some 23), .mov (.t 25), none⟩,
    ⟨(some 26), .ext (.t 23) 0, none⟩,
    ⟨(some 27), .ext (.t 23) 1, none⟩,
    ⟨(some 9), .mov (.t 26), none⟩,
    ⟨(some 10), .mov (.t 27), none⟩]) <|
  .seq (.reg [⟨(some 28), .mov (.t 10), none⟩]) <|
  .cond (.t 28) (.seq (.reg [⟨(some 29), .ld (.t 3) 9 true, none⟩,
    ⟨(some 30), .ld (.t 5) 7 true, none⟩,
    ⟨(some 31), .mov (.t 9), none⟩,
    ⟨(some 32), .call n_affine_space_scale [(.t 29), (.t 30), (.t 31)], none⟩,
    ⟨none, .st (.t 6) (.t 32) 7, none⟩]) <|
  .ret) (.skip)) <|
  .seq (.seq (.reg [⟨(some 33), .ld (.t 4) 7 true, none⟩,
    ⟨(some 34), .call n_affine_plain [(.t 33)], none⟩,
    ⟨(some 35), .un .not (.t 34), none⟩,
    ⟨(some 36), .mov (.t 35), none⟩,
    ⟨(some 37), .ld (.t 5) 7 true, some (36, false)⟩,
    ⟨(some 38), .call n_affine_plain [(.t 37)], some (36, false)⟩,
    ⟨(some 39), .un .not (.t 38), some (36, false)⟩,
    ⟨(some 40), .pick (.t 36) (.c (.bool true)) (.t 39), none⟩]) <|
  .cond (.t 40) (.seq (.reg [⟨(some 41), .call n_affine_unknown [], none⟩,
    ⟨none, .st (.t 6) (.t 41) 7, none⟩]) <|
  .ret) (.skip)) <|
  .seq (.reg [⟨(some 43), .fadd (.t 4) 4, none⟩,
    ⟨(some 44), .ld (.t 43) 3 true, none⟩,
    ⟨(some 45), .fadd (.t 5) 4, none⟩,
    ⟨(some 46), .ld (.t 45) 3 true, none⟩,
    ⟨(some 47), .call n_span_Mul [(.t 44), (.t 46)], none⟩,
    ⟨(some 42), .mov (.t 47), none⟩,
    ⟨(some 48), .ext (.t 42) 0, none⟩,
    ⟨(some 49), .ext (.t 42) 1, none⟩,
    ⟨(some 11), .alloc (.agg [(.int .i64 0), (.int .i64 0), (.int .i64 0)]), none⟩,
    ⟨none, .st (.t 11) (.t 48) 3, none⟩,
    ⟨(some 12), .mov (.t 49), none⟩]) <|
  .seq (.reg [⟨(some 50), .ld (.t 3) 9 true, none⟩,
    ⟨(some 51), .ld (.t 11) 3 true, none⟩,
    ⟨(some 52), .bld [(.bool false), (.int .i64 0), (.int .i64 0), (.int .i64 0), (.int .i64 0), (.int .i64 0), (.int .i64 0)] [(4, 3, (.t 51))], none⟩,
    ⟨(some 53), .mov (.t 12), none⟩,
    ⟨(some 54), .call n_affine_space_made [(.t 50), (.t 52), (.t 53)], none⟩,
    ⟨none, .st (.t 6) (.t 54) 7, none⟩]) <|
  .ret,
  [.cell 6 7 true]⟩
theorem F_affine_space_multiply_ok : cFn PP true n_affine_space_multiply loops_affine_space_multiply (cDr PP 55 tbl_affine_space_multiply) = some F_affine_space_multiply := by kernel_rfl


def V_affine_space_multiply (a0 : D) (a1 : D) (a2 : D) (h0 : Heap) (K : D → Heap → Prop) : Prop :=
  vhOp PP (.box (.c a0)) h0 fun a4 h5 =>
  vhOp PP (.box (.c a1)) h5 fun a6 h7 =>
  vhOp PP (.box (.c a2)) h7 fun a8 h9 =>
  vhOp PP (.alloc (.agg [(.bool false), (.int .i64 0), (.int .i64 0), (.int .i64 0), (.int .i64 0), (.int .i64 0), (.int .i64 0)])) h9 fun a10 h11 =>
  vhOp PP (.ld (.c a8) 7 true) h11 fun a12 h13 =>
  ACall PP n_affine_constant [a12] h13 fun a14 h15 =>
  vhOp PP (.ext (.c a14) 0) h15 fun a16 h17 =>
  vhOp PP (.ext (.c a14) 1) h17 fun a18 h19 =>
  vcond a18 (vhOp PP (.ld (.c a4) 9 true) h19 fun a20 h21 =>
  vhOp PP (.ld (.c a6) 7 true) h21 fun a22 h23 =>
  ACall PP n_affine_space_scale [a20, a22, a16] h23 fun a24 h25 =>
  vhOp PP (.st (.c a10) (.c a24) 7) h25 fun a26 h27 =>
  vhOp PP (.ld (.c a10) 7 true) h27 fun a28 _ =>
  K a28 h27) (
  vhOp PP (.ld (.c a6) 7 true) h19 fun a29 h30 =>
  ACall PP n_affine_constant [a29] h30 fun a31 h32 =>
  vhOp PP (.ext (.c a31) 0) h32 fun a33 h34 =>
  vhOp PP (.ext (.c a31) 1) h34 fun a35 h36 =>
  vcond a35 (vhOp PP (.ld (.c a4) 9 true) h36 fun a37 h38 =>
  vhOp PP (.ld (.c a8) 7 true) h38 fun a39 h40 =>
  ACall PP n_affine_space_scale [a37, a39, a33] h40 fun a41 h42 =>
  vhOp PP (.st (.c a10) (.c a41) 7) h42 fun a43 h44 =>
  vhOp PP (.ld (.c a10) 7 true) h44 fun a45 _ =>
  K a45 h44) (
  vhOp PP (.ld (.c a6) 7 true) h36 fun a46 h47 =>
  ACall PP n_affine_plain [a46] h47 fun a48 h49 =>
  vun .not a48 fun a50 =>
  vguard a50 false (fun G51 =>
  vhOp PP (.ld (.c a8) 7 true) h49 fun a54 h55 =>
  G51 a54 h55) h49 fun a52 h53 =>
  vguard a50 false (fun G56 =>
  ACall PP n_affine_plain [a52] h53 fun a59 h60 =>
  G56 a59 h60) h53 fun a57 h58 =>
  vguard a50 false (fun G61 =>
  vun .not a57 fun a64 =>
  G61 a64 h58) h58 fun a62 h63 =>
  vhOp PP (.pick (.c a50) (.c (.bool true)) (.c a62)) h63 fun a65 h66 =>
  vcond a65 (ACall PP n_affine_unknown [] h66 fun a67 h68 =>
  vhOp PP (.st (.c a10) (.c a67) 7) h68 fun a69 h70 =>
  vhOp PP (.ld (.c a10) 7 true) h70 fun a71 _ =>
  K a71 h70) (
  vhOp PP (.fadd (.c a6) 4) h66 fun a72 h73 =>
  vhOp PP (.ld (.c a72) 3 true) h73 fun a74 h75 =>
  vhOp PP (.fadd (.c a8) 4) h75 fun a76 h77 =>
  vhOp PP (.ld (.c a76) 3 true) h77 fun a78 h79 =>
  ACall PP n_span_Mul [a74, a78] h79 fun a80 h81 =>
  vhOp PP (.ext (.c a80) 0) h81 fun a82 h83 =>
  vhOp PP (.ext (.c a80) 1) h83 fun a84 h85 =>
  vhOp PP (.alloc (.agg [(.int .i64 0), (.int .i64 0), (.int .i64 0)])) h85 fun a86 h87 =>
  vhOp PP (.st (.c a86) (.c a82) 3) h87 fun a88 h89 =>
  vhOp PP (.ld (.c a4) 9 true) h89 fun a90 h91 =>
  vhOp PP (.ld (.c a86) 3 true) h91 fun a92 h93 =>
  vhOp PP (.bld [(.bool false), (.int .i64 0), (.int .i64 0), (.int .i64 0), (.int .i64 0), (.int .i64 0), (.int .i64 0)] [(4, 3, (.c a92))]) h93 fun a94 h95 =>
  ACall PP n_affine_space_made [a90, a94, a84] h95 fun a96 h97 =>
  vhOp PP (.st (.c a10) (.c a96) 7) h97 fun a98 h99 =>
  vhOp PP (.ld (.c a10) 7 true) h99 fun a100 _ =>
  K a100 h99)))
theorem V_affine_space_multiply_ok (a0 : D) (a1 : D) (a2 : D) (h0 : Heap) (K : D → Heap → Prop) : V_affine_space_multiply a0 a1 a2 h0 K = vcC PP F_affine_space_multiply.code (fun x e h' => match x with | .exit _ => False | _ => vcRet PP F_affine_space_multiply.res K e h') (params [a0, a1, a2] 0) h0 := by kernel_rfl

/-- warpwright/affine.operators$1 -/
def loops_affine_operators_F1 : Nat → Option (List Nat × List Nat)
  | 1000009 => some ([6], []) | 2 => some ([3, 6, 17, 18], [19]) | _ => none
def tbl_affine_operators_F1 : Nat → Option (List Nat × List Nat × List Nat)
  | _ => none
def F_affine_operators_F1 : AFunc := ⟨41,
  .seq (.reg [⟨(some 3), .box (.t 0), none⟩,
    ⟨(some 4), .box (.t 1), none⟩,
    ⟨(some 5), .box (.t 2), none⟩,
    ⟨(some 6), .alloc (.agg [(.bool false), (.int .i64 0), (.int .i64 0), (.int .i64 0), (.int .i64 0), (.int .i64 0), (.int .i64 0)]), none⟩]) <|
  .seqj [6] [] (.seq (.reg [⟨(some 11), .ld (.t 4) 7 true, none⟩,
    ⟨(some 12), .ld (.t 5) 7 true, none⟩,
    ⟨(some 13), .bld [(.bool false), (.int .i64 0), (.int .i64 0), (.int .i64 0), (.int .i64 0), (.int .i64 0), (.int .i64 0), (.bool false), (.int .i64 0), (.int .i64 0), (.int .i64 0), (.int .i64 0), (.int .i64 0), (.int .i64 0)] [(0, 7, (.t 11)), (7, 7, (.t 12))], none⟩,
    ⟨(some 14), .ld (.t 5) 7 true, none⟩,
    ⟨(some 15), .ld (.t 4) 7 true, none⟩,
    ⟨(some 16), .bld [(.bool false), (.int .i64 0), (.int .i64 0), (.int .i64 0), (.int .i64 0), (.int .i64 0), (.int .i64 0), (.bool false), (.int .i64 0), (.int .i64 0), (.int .i64 0), (.int .i64 0), (.int .i64 0), (.int .i64 0)] [(0, 7, (.t 14)), (7, 7, (.t 15))], none⟩,
    ⟨(some 17), .bldS true 14 2 (.agg [(.bool false), (.int .i64 0), (.int .i64 0), (.int .i64 0), (.int .i64 0), (.int .i64 0), (.int .i64 0), (.bool false), (.int .i64 0), (.int .i64 0), (.int .i64 0), (.int .i64 0), (.int .i64 0), (.int .i64 0)]) [(0, (.t 13)), (1, (.t 16))], none⟩,
    ⟨(some 18), .len (.t 17), none⟩,
    ⟨(some 19), .mov (.c (.int .i64 0)), none⟩]) <|
  .block 0 (.loop [3, 6, 17, 18] [19] (.seq (.reg [⟨(some 20), .bin .lss (.t 19) (.t 18), none⟩]) <|
  .seq (.cond (.t 20) (.skip) (.exit 0)) <|
  .seq (.block 1 (.seq (.reg [⟨(some 21), .iadd (.t 17) (.t 19) 14, none⟩,
    ⟨(some 22), .ld (.t 21) 14 true, none⟩,
    ⟨(some 8), .alloc (.agg [(.bool false), (.int .i64 0), (.int .i64 0), (.int .i64 0), (.int .i64 0), (.int .i64 0), (.int .i64 0), (.bool false), (.int .i64 0), (.int .i64 0), (.int .i64 0), (.int .i64 0), (.int .i64 0), (.int .i64 0)]), none⟩,
    ⟨none, .st (.t 8) (.t 22) 14, none⟩]) <|
  .seq (.reg [⟨(some 24), .iadda (.t 8) (.c (.int .i64 1)) 2 7, none⟩,
    ⟨(some 25), .ld (.t 24) 7 true, none⟩,
    ⟨(some 26), .call n_affine_constant [(.t 25)], none⟩,
    ⟨(some 23), .mov (.t 26), none⟩,
    ⟨(some 27), .ext (.t 23) 0, none⟩,
    ⟨(some 28), .ext (.t 23) 1, none⟩,
    ⟨(some 9), .mov (.t 27), none⟩,
    ⟨(some 10), .mov (.t 28), none⟩]) <|
  .seq (.reg [⟨(some 29), .mov (.t 10), none⟩,
    ⟨(some 30), .mov (.t 29), none⟩,
    ⟨(some 31), .mov (.t 9), some (30, true)⟩,
    ⟨(some 32), .bin .geq (.t 31) (.c (.int .i64 0)), some (30, true)⟩,
    ⟨(some 33), .pick (.t 30) (.t 32) (.c (.bool false)), none⟩]) <|
  .cond (.t 33) (.seq (.reg [⟨(some 34), .ld (.t 3) 9 true, none⟩,
    ⟨(some 35), .iadda (.t 8) (.c (.int .i64 0)) 2 7, none⟩,
    ⟨(some 36), .ld (.t 35) 7 true, none⟩,
    ⟨(some 37), .mov (.t 9), none⟩,
    ⟨(some 38), .call n_affine_space_mask [(.t 34), (.t 36), (.t 37)], none⟩,
    ⟨none, .st (.t 6) (.t 38) 7, none⟩]) <|
  .ret) (.skip))) <|
  .reg [⟨(some 39), .bin .add (.t 19) (.c (.int .i64 1)), none⟩,
    ⟨(some 19), .mov (.t 39), none⟩]))) <|
  .seq (.reg [⟨(some 40), .call n_affine_unknown [], none⟩,
    ⟨none, .st (.t 6) (.t 40) 7, none⟩]) <|
  .ret,
  [.cell 6 7 true]⟩
theorem F_affine_operators_F1_ok : cFn PP true n_affine_operators_F1 loops_affine_operators_F1 (cDr PP 41 tbl_affine_operators_F1) = some F_affine_operators_F1 := by kernel_rfl

def V_affine_operators_F1_L0 (h33 : Heap) (a34 : D) (a32 : D) (a4 : D) (a10 : D) (J12 : List D → Heap → Prop) (K : D → Heap → Prop) : Prop :=
  ∃ (I35 : Nat → List D → Heap → Prop) (n₀ : Nat), I35 n₀ [(.int .i64 0)] h33 ∧ ∀ (n36 : Nat) (f37 : Nat → D) (h38 : Heap), I35 n36 [f37 19] h38 →
  vbin .lss (f37 19) a34 fun a39 =>
  vcond a39 (vhOp PP (.iadd (.c a32) (.c (f37 19)) 14) h38 fun a40 h41 =>
  vhOp PP (.ld (.c a40) 14 true) h41 fun a42 h43 =>
  vhOp PP (.alloc (.agg [(.bool false), (.int .i64 0), (.int .i64 0), (.int .i64 0), (.int .i64 0), (.int .i64 0), (.int .i64 0), (.bool false), (.int .i64 0), (.int .i64 0), (.int .i64 0), (.int .i64 0), (.int .i64 0), (.int .i64 0)])) h43 fun a44 h45 =>
  vhOp PP (.st (.c a44) (.c a42) 14) h45 fun a46 h47 =>
  vhOp PP (.iadda (.c a44) (.c (.int .i64 1)) 2 7) h47 fun a48 h49 =>
  vhOp PP (.ld (.c a48) 7 true) h49 fun a50 h51 =>
  ACall PP n_affine_constant [a50] h51 fun a52 h53 =>
  vhOp PP (.ext (.c a52) 0) h53 fun a54 h55 =>
  vhOp PP (.ext (.c a52) 1) h55 fun a56 h57 =>
  vguard a56 true (fun G58 =>
  G58 a54 h57) h57 fun a59 h60 =>
  vguard a56 true (fun G61 =>
  vbin .geq a59 (.int .i64 0) fun a64 =>
  G61 a64 h60) h60 fun a62 h63 =>
  vhOp PP (.pick (.c a56) (.c a62) (.c (.bool false))) h63 fun a65 h66 =>
  vcond a65 (vhOp PP (.ld (.c a4) 9 true) h66 fun a67 h68 =>
  vhOp PP (.iadda (.c a44) (.c (.int .i64 0)) 2 7) h68 fun a69 h70 =>
  vhOp PP (.ld (.c a69) 7 true) h70 fun a71 h72 =>
  ACall PP n_affine_space_mask [a67, a71, a54] h72 fun a73 h74 =>
  vhOp PP (.st (.c a10) (.c a73) 7) h74 fun a75 h76 =>
  vhOp PP (.ld (.c a10) 7 true) h76 fun a77 _ =>
  K a77 h76) (
  vbin .add (f37 19) (.int .i64 1) fun a78 =>
  keq [a4, a10, a32, a34] [a4, a10, a32, a34] ∧ ∃ m, m < n36 ∧ I35 m [a78] h66)) (
  keq [a10] [a10] ∧ J12 [] h38)
def V_affine_operators_F1 (a0 : D) (a1 : D) (a2 : D) (h0 : Heap) (K : D → Heap → Prop) : Prop :=
  vhOp PP (.box (.c a0)) h0 fun a4 h5 =>
  vhOp PP (.box (.c a1)) h5 fun a6 h7 =>
  vhOp PP (.box (.c a2)) h7 fun a8 h9 =>
  vhOp PP (.alloc (.agg [(.bool false), (.int .i64 0), (.int .i64 0), (.int .i64 0), (.int .i64 0), (.int .i64 0), (.int .i64 0)])) h9 fun a10 h11 =>
  ∃ (J12 : List D → Heap → Prop), (∀ (f13 : Nat → D) (h14 : Heap), J12 [] h14 →
  ACall PP n_affine_unknown [] h14 fun a15 h16 =>
  vhOp PP (.st (.c a10) (.c a15) 7) h16 fun a17 h18 =>
  vhOp PP (.ld (.c a10) 7 true) h18 fun a19 _ =>
  K a19 h18) ∧
  vhOp PP (.ld (.c a6) 7 true) h11 fun a20 h21 =>
  vhOp PP (.ld (.c a8) 7 true) h21 fun a22 h23 =>
  vhOp PP (.bld [(.bool false), (.int .i64 0), (.int .i64 0), (.int .i64 0), (.int .i64 0), (.int .i64 0), (.int .i64 0), (.bool false), (.int .i64 0), (.int .i64 0), (.int .i64 0), (.int .i64 0), (.int .i64 0), (.int .i64 0)] [(0, 7, (.c a20)), (7, 7, (.c a22))]) h23 fun a24 h25 =>
  vhOp PP (.ld (.c a8) 7 true) h25 fun a26 h27 =>
  vhOp PP (.ld (.c a6) 7 true) h27 fun a28 h29 =>
  vhOp PP (.bld [(.bool false), (.int .i64 0), (.int .i64 0), (.int .i64 0), (.int .i64 0), (.int .i64 0), (.int .i64 0), (.bool false), (.int .i64 0), (.int .i64 0), (.int .i64 0), (.int .i64 0), (.int .i64 0), (.int .i64 0)] [(0, 7, (.c a26)), (7, 7, (.c a28))]) h29 fun a30 h31 =>
  vhOp PP (.bldS true 14 2 (.agg [(.bool false), (.int .i64 0), (.int .i64 0), (.int .i64 0), (.int .i64 0), (.int .i64 0), (.int .i64 0), (.bool false), (.int .i64 0), (.int .i64 0), (.int .i64 0), (.int .i64 0), (.int .i64 0), (.int .i64 0)]) [(0, (.c a24)), (1, (.c a30))]) h31 fun a32 h33 =>
  vlen a32 h33 fun a34 =>
  V_affine_operators_F1_L0 h33 a34 a32 a4 a10 J12 K
theorem V_affine_operators_F1_ok (a0 : D) (a1 : D) (a2 : D) (h0 : Heap) (K : D → Heap → Prop) : V_affine_operators_F1 a0 a1 a2 h0 K = vcC PP F_affine_operators_F1.code (fun x e h' => match x with | .exit _ => False | _ => vcRet PP F_affine_operators_F1.res K e h') (params [a0, a1, a2] 0) h0 := by kernel_rfl

/-- (warpwright/affine.space).mask -/
def loops_affine_space_mask : Nat → Option (List Nat × List Nat)
  | _ => none
def tbl_affine_space_mask : Nat → Option (List Nat × List Nat × List Nat)
  | _ => none
def F_affine_space_mask : AFunc := ⟨37,
  .seq (.reg [⟨(some 3), .box (.t 0), none⟩,
    ⟨(some 4), .box (.t 1), none⟩,
    ⟨(some 6), .alloc (.agg [(.bool false), (.int .i64 0), (.int .i64 0), (.int .i64 0), (.int .i64 0), (.int .i64 0), (.int .i64 0)]), none⟩]) <|
  .seq (.seq (.reg [⟨(some 10), .ld (.t 3) 9 true, none⟩,
    ⟨(some 11), .ld (.t 4) 7 true, none⟩,
    ⟨(some 12), .call n_affine_space_span [(.t 10), (.t 11)], none⟩,
    ⟨(some 9), .mov (.t 12), none⟩,
    ⟨(some 13), .ext (.t 9) 0, none⟩,
    ⟨(some 14), .ext (.t 9) 1, none⟩,
    ⟨(some 7), .alloc (.agg [(.int .i64 0), (.int .i64 0), (.int .i64 0)]), none⟩,
    ⟨none, .st (.t 7) (.t 13) 3, none⟩,
    ⟨(some 8), .mov (.t 14), none⟩]) <|
  .seq (.reg [⟨(some 15), .mov (.t 8), none⟩,
    ⟨(some 16), .mov (.t 15), none⟩,
    ⟨(some 17), .fadd (.t 7) 0, some (16, true)⟩,
    ⟨(some 18), .ld (.t 17) 1 false, some (16, true)⟩,
    ⟨(some 19), .bin .geq (.t 18) (.c (.int .i64 0)), some (16, true)⟩,
    ⟨(some 20), .pick (.t 16) (.t 19) (.c (.bool false)), none⟩,
    ⟨(some 21), .mov (.t 20), none⟩,
    ⟨(some 22), .fadd (.t 7) 1, some (21, true)⟩,
    ⟨(some 23), .ld (.t 22) 1 false, some (21, true)⟩,
    ⟨(some 24), .mov (.t 2), some (21, true)⟩,
    ⟨(some 25), .bin .leq (.t 23) (.t 24), some (21, true)⟩,
    ⟨(some 26), .pick (.t 21) (.t 25) (.c (.bool false)), none⟩,
    ⟨(some 27), .mov (.t 26), none⟩,
    ⟨(some 28), .mov (.t 2), some (27, true)⟩,
    ⟨(some 29), .mov (.t 2), some (27, true)⟩,
    ⟨(some 30), .bin .add (.t 29) (.c (.int .i64 1)), some (27, true)⟩,
    ⟨(some 31), .bin .and (.t 28) (.t 30), some (27, true)⟩,
    ⟨(some 32), .bin .eql (.t 31) (.c (.int .i64 0)), some (27, true)⟩,
    ⟨(some 33), .pick (.t 27) (.t 32) (.c (.bool false)), none⟩]) <|
  .cond (.t 33) (.seq (.reg [⟨(some 34), .ld (.t 4) 7 true, none⟩,
    ⟨none, .st (.t 6) (.t 34) 7, none⟩]) <|
  .ret) (.skip)) <|
  .seq (.reg [⟨(some 35), .mov (.t 2), none⟩,
    ⟨(some 36), .call n_affine_between [(.c (.int .i64 0)), (.t 35)], none⟩,
    ⟨none, .st (.t 6) (.t 36) 7, none⟩]) <|
  .ret,
  [.cell 6 7 true]⟩
theorem F_affine_space_mask_ok : cFn PP true n_affine_space_mask loops_affine_space_mask (cDr PP 37 tbl_affine_space_mask) = some F_affine_space_mask := by kernel_rfl


def V_affine_space_mask (a0 : D) (a1 : D) (a2 : D) (h0 : Heap) (K : D → Heap → Prop) : Prop :=
  vhOp PP (.box (.c a0)) h0 fun a4 h5 =>
  vhOp PP (.box (.c a1)) h5 fun a6 h7 =>
  vhOp PP (.alloc (.agg [(.bool false), (.int .i64 0), (.int .i64 0), (.int .i64 0), (.int .i64 0), (.int .i64 0), (.int .i64 0)])) h7 fun a8 h9 =>
  vhOp PP (.ld (.c a4) 9 true) h9 fun a10 h11 =>
  vhOp PP (.ld (.c a6) 7 true) h11 fun a12 h13 =>
  ACall PP n_affine_space_span [a10, a12] h13 fun a14 h15 =>
  vhOp PP (.ext (.c a14) 0) h15 fun a16 h17 =>
  vhOp PP (.ext (.c a14) 1) h17 fun a18 h19 =>
  vhOp PP (.alloc (.agg [(.int .i64 0), (.int .i64 0), (.int .i64 0)])) h19 fun a20 h21 =>
  vhOp PP (.st (.c a20) (.c a16) 3) h21 fun a22 h23 =>
  vguard a18 true (fun G24 =>
  vhOp PP (.fadd (.c a20) 0) h23 fun a27 h28 =>
  G24 a27 h28) h23 fun a25 h26 =>
  vguard a18 true (fun G29 =>
  vhOp PP (.ld (.c a25) 1 false) h26 fun a32 h33 =>
  G29 a32 h33) h26 fun a30 h31 =>
  vguard a18 true (fun G34 =>
  vbin .geq a30 (.int .i64 0) fun a37 =>
  G34 a37 h31) h31 fun a35 h36 =>
  vhOp PP (.pick (.c a18) (.c a35) (.c (.bool false))) h36 fun a38 h39 =>
  vguard a38 true (fun G40 =>
  vhOp PP (.fadd (.c a20) 1) h39 fun a43 h44 =>
  G40 a43 h44) h39 fun a41 h42 =>
  vguard a38 true (fun G45 =>
  vhOp PP (.ld (.c a41) 1 false) h42 fun a48 h49 =>
  G45 a48 h49) h42 fun a46 h47 =>
  vguard a38 true (fun G50 =>
  G50 a2 h47) h47 fun a51 h52 =>
  vguard a38 true (fun G53 =>
  vbin .leq a46 a51 fun a56 =>
  G53 a56 h52) h52 fun a54 h55 =>
  vhOp PP (.pick (.c a38) (.c a54) (.c (.bool false))) h55 fun a57 h58 =>
  vguard a57 true (fun G59 =>
  G59 a2 h58) h58 fun a60 h61 =>
  vguard a57 true (fun G62 =>
  G62 a2 h61) h61 fun a63 h64 =>
  vguard a57 true (fun G65 =>
  vbin .add a63 (.int .i64 1) fun a68 =>
  G65 a68 h64) h64 fun a66 h67 =>
  vguard a57 true (fun G69 =>
  vbin .and a60 a66 fun a72 =>
  G69 a72 h67) h67 fun a70 h71 =>
  vguard a57 true (fun G73 =>
  vbin .eql a70 (.int .i64 0) fun a76 =>
  G73 a76 h71) h71 fun a74 h75 =>
  vhOp PP (.pick (.c a57) (.c a74) (.c (.bool false))) h75 fun a77 h78 =>
  vcond a77 (vhOp PP (.ld (.c a6) 7 true) h78 fun a79 h80 =>
  vhOp PP (.st (.c a8) (.c a79) 7) h80 fun a81 h82 =>
  vhOp PP (.ld (.c a8) 7 true) h82 fun a83 _ =>
  K a83 h82) (
  ACall PP n_affine_between [(.int .i64 0), a2] h78 fun a84 h85 =>
  vhOp PP (.st (.c a8) (.c a84) 7) h85 fun a86 h87 =>
  vhOp PP (.ld (.c a8) 7 true) h87 fun a88 _ =>
  K a88 h87)
theorem V_affine_space_mask_ok (a0 : D) (a1 : D) (a2 : D) (h0 : Heap) (K : D → Heap → Prop) : V_affine_space_mask a0 a1 a2 h0 K = vcC PP F_affine_space_mask.code (fun x e h' => match x with | .exit _ => False | _ => vcRet PP F_affine_space_mask.res K e h') (params [a0, a1, a2] 0) h0 := by kernel_rfl

/-- warpwright/affine.by -/
def loops_affine_by : Nat → Option (List Nat × List Nat)
  | _ => none
def tbl_affine_by : Nat → Option (List Nat × List Nat × List Nat)
  | _ => none
def F_affine_by : AFunc := ⟨4,
  .seq (.reg [⟨(some 1), .box (.t 0), none⟩,
    ⟨(some 2), .mov (.c .nilfn), none⟩]) <|
  .seq (.reg [⟨(some 3), .mkf n_affine_by_F1 [] [(.t 1)], none⟩,
    ⟨(some 2), .mov (.t 3), none⟩]) <|
  .ret,
  [.t 2]⟩
theorem F_affine_by_ok : cFn PP true n_affine_by loops_affine_by (cDr PP 4 tbl_affine_by) = some F_affine_by := by kernel_rfl


def V_affine_by (a0 : D) (h0 : Heap) (K : D → Heap → Prop) : Prop :=
  vhOp PP (.box (.c a0)) h0 fun a2 h3 =>
  vhOp PP (.mkf n_affine_by_F1 [] [(.c a2)]) h3 fun a4 h5 =>
  K a4 h5
theorem V_affine_by_ok (a0 : D) (h0 : Heap) (K : D → Heap → Prop) : V_affine_by a0 h0 K = vcC PP F_affine_by.code (fun x e h' => match x with | .exit _ => False | _ => vcRet PP F_affine_by.res K e h') (params [a0] 0) h0 := by kernel_rfl


end Go.Am
/- The functions of this seat's program in the short form, as a program of ours printed them (part 5); each line of it is checked. No condition. -/
set_option linter.unusedVariables false
namespace Go.Am
open Go Go.Proofs
/-- warpwright/affine.operators$2 -/
def loops_affine_operators_F2 : Nat → Option (List Nat × List Nat)
  | _ => none
def tbl_affine_operators_F2 : Nat → Option (List Nat × List Nat × List Nat)
  | _ => none
def F_affine_operators_F2 : AFunc := ⟨14,
  .seq (.reg [⟨(some 3), .box (.t 0), none⟩,
    ⟨(some 4), .box (.t 1), none⟩,
    ⟨(some 6), .alloc (.agg [(.bool false), (.int .i64 0), (.int .i64 0), (.int .i64 0), (.int .i64 0), (.int .i64 0), (.int .i64 0)]), none⟩]) <|
  .seq (.reg [⟨(some 7), .ld (.t 3) 9 true, none⟩,
    ⟨(some 8), .ld (.t 4) 7 true, none⟩,
    ⟨(some 9), .mov (.t 2), none⟩,
    ⟨(some 10), .bin .and (.t 9) (.c (.int .i64 31)), none⟩,
    ⟨(some 11), .conv .u64 (.t 10), none⟩,
    ⟨(some 12), .bin .shl (.c (.int .i64 1)) (.t 11), none⟩,
    ⟨(some 13), .call n_affine_space_scale [(.t 7), (.t 8), (.t 12)], none⟩,
    ⟨none, .st (.t 6) (.t 13) 7, none⟩]) <|
  .ret,
  [.cell 6 7 true]⟩
theorem F_affine_operators_F2_ok : cFn PP true n_affine_operators_F2 loops_affine_operators_F2 (cDr PP 14 tbl_affine_operators_F2) = some F_affine_operators_F2 := by kernel_rfl


def V_affine_operators_F2 (a0 : D) (a1 : D) (a2 : D) (h0 : Heap) (K : D → Heap → Prop) : Prop :=
  vhOp PP (.box (.c a0)) h0 fun a4 h5 =>
  vhOp PP (.box (.c a1)) h5 fun a6 h7 =>
  vhOp PP (.alloc (.agg [(.bool false), (.int .i64 0), (.int .i64 0), (.int .i64 0), (.int .i64 0), (.int .i64 0), (.int .i64 0)])) h7 fun a8 h9 =>
  vhOp PP (.ld (.c a4) 9 true) h9 fun a10 h11 =>
  vhOp PP (.ld (.c a6) 7 true) h11 fun a12 h13 =>
  vbin .and a2 (.int .i64 31) fun a14 =>
  vhOp PP (.conv .u64 (.c a14)) h13 fun a15 h16 =>
  vbin .shl (.int .i64 1) a15 fun a17 =>
  ACall PP n_affine_space_scale [a10, a12, a17] h16 fun a18 h19 =>
  vhOp PP (.st (.c a8) (.c a18) 7) h19 fun a20 h21 =>
  vhOp PP (.ld (.c a8) 7 true) h21 fun a22 _ =>
  K a22 h21
theorem V_affine_operators_F2_ok (a0 : D) (a1 : D) (a2 : D) (h0 : Heap) (K : D → Heap → Prop) : V_affine_operators_F2 a0 a1 a2 h0 K = vcC PP F_affine_operators_F2.code (fun x e h' => match x with | .exit _ => False | _ => vcRet PP F_affine_operators_F2.res K e h') (params [a0, a1, a2] 0) h0 := by kernel_rfl

/-- warpwright/affine.operators$3 -/
def loops_affine_operators_F3 : Nat → Option (List Nat × List Nat)
  | _ => none
def tbl_affine_operators_F3 : Nat → Option (List Nat × List Nat × List Nat)
  | 4 => some ([0, 1, 0, 4, 12, 31, 0, 64, 0, 256, 768, 2047, 4095, 8191], [13], []) | _ => none
def F_affine_operators_F3 : AFunc := ⟨31,
  .seq (.reg [⟨(some 3), .box (.t 0), none⟩,
    ⟨(some 4), .box (.t 1), none⟩,
    ⟨(some 6), .alloc (.agg [(.bool false), (.int .i64 0), (.int .i64 0), (.int .i64 0), (.int .i64 0), (.int .i64 0), (.int .i64 0)]), none⟩]) <|
  .seq (.reg [⟨(some 10), .ld (.t 3) 9 true, none⟩,
    ⟨(some 11), .ld (.t 4) 7 true, none⟩,
    ⟨(some 12), .call n_affine_space_span [(.t 10), (.t 11)], none⟩,
    ⟨(some 9), .mov (.t 12), none⟩,
    ⟨(some 13), .ext (.t 9) 0, none⟩,
    ⟨(some 14), .ext (.t 9) 1, none⟩,
    ⟨(some 7), .alloc (.agg [(.int .i64 0), (.int .i64 0), (.int .i64 0)]), none⟩,
    ⟨none, .st (.t 7) (.t 13) 3, none⟩,
    ⟨(some 8), .mov (.t 14), none⟩]) <|
  .seq (.seq (.reg [⟨(some 15), .mov (.t 8), none⟩,
    ⟨(some 16), .un .not (.t 15), none⟩]) <|
  .cond (.t 16) (.seq (.reg [⟨(some 17), .call n_affine_unknown [], none⟩,
    ⟨none, .st (.t 6) (.t 17) 7, none⟩]) <|
  .ret) (.skip)) <|
  .seq (.dreg [⟨(some 18), .fadd (.t 7) 0, none⟩,
    ⟨(some 19), .ld (.t 18) 1 false, none⟩,
    ⟨(some 20), .mov (.t 2), none⟩,
    ⟨(some 21), .bin .and (.t 20) (.c (.int .i64 31)), none⟩,
    ⟨(some 22), .conv .u64 (.t 21), none⟩,
    ⟨(some 23), .call n_affine_floor [(.t 19), (.t 22)], none⟩,
    ⟨(some 24), .fadd (.t 7) 1, none⟩,
    ⟨(some 25), .ld (.t 24) 1 false, none⟩,
    ⟨(some 26), .mov (.t 2), none⟩,
    ⟨(some 27), .bin .and (.t 26) (.c (.int .i64 31)), none⟩,
    ⟨(some 28), .conv .u64 (.t 27), none⟩,
    ⟨(some 29), .call n_affine_floor [(.t 25), (.t 28)], none⟩,
    ⟨(some 30), .call n_affine_between [(.t 23), (.t 29)], none⟩] [⟨none, .st (.t 6) (.t 30) 7, none⟩] []) <|
  .ret,
  [.cell 6 7 true]⟩
theorem F_affine_operators_F3_ok : cFn PP true n_affine_operators_F3 loops_affine_operators_F3 (cDr PP 31 tbl_affine_operators_F3) = some F_affine_operators_F3 := by kernel_rfl


def V_affine_operators_F3 (a0 : D) (a1 : D) (a2 : D) (h0 : Heap) (K : D → Heap → Prop) : Prop :=
  vhOp PP (.box (.c a0)) h0 fun a4 h5 =>
  vhOp PP (.box (.c a1)) h5 fun a6 h7 =>
  vhOp PP (.alloc (.agg [(.bool false), (.int .i64 0), (.int .i64 0), (.int .i64 0), (.int .i64 0), (.int .i64 0), (.int .i64 0)])) h7 fun a8 h9 =>
  vhOp PP (.ld (.c a4) 9 true) h9 fun a10 h11 =>
  vhOp PP (.ld (.c a6) 7 true) h11 fun a12 h13 =>
  ACall PP n_affine_space_span [a10, a12] h13 fun a14 h15 =>
  vhOp PP (.ext (.c a14) 0) h15 fun a16 h17 =>
  vhOp PP (.ext (.c a14) 1) h17 fun a18 h19 =>
  vhOp PP (.alloc (.agg [(.int .i64 0), (.int .i64 0), (.int .i64 0)])) h19 fun a20 h21 =>
  vhOp PP (.st (.c a20) (.c a16) 3) h21 fun a22 h23 =>
  vun .not a18 fun a24 =>
  vcond a24 (ACall PP n_affine_unknown [] h23 fun a25 h26 =>
  vhOp PP (.st (.c a8) (.c a25) 7) h26 fun a27 h28 =>
  vhOp PP (.ld (.c a8) 7 true) h28 fun a29 _ =>
  K a29 h28) (
  vdOp PP (.fadd (.c a20) 0) h23 fun a30 =>
  vdOp PP (.ld (.c a30) 1 false) h23 fun a31 =>
  vbin .and a2 (.int .i64 31) fun a32 =>
  vdOp PP (.conv .u64 (.c a32)) h23 fun a33 =>
  vdOp PP (.call n_affine_floor [(.c a31), (.c a33)]) h23 fun a34 =>
  vdOp PP (.fadd (.c a20) 1) h23 fun a35 =>
  vdOp PP (.ld (.c a35) 1 false) h23 fun a36 =>
  vbin .and a2 (.int .i64 31) fun a37 =>
  vdOp PP (.conv .u64 (.c a37)) h23 fun a38 =>
  vdOp PP (.call n_affine_floor [(.c a36), (.c a38)]) h23 fun a39 =>
  vdOp PP (.call n_affine_between [(.c a34), (.c a39)]) h23 fun a40 =>
  vhOp PP (.st (.c a8) (.c a40) 7) h23 fun a41 h42 =>
  vhOp PP (.ld (.c a8) 7 true) h42 fun a43 _ =>
  K a43 h42)
theorem V_affine_operators_F3_ok (a0 : D) (a1 : D) (a2 : D) (h0 : Heap) (K : D → Heap → Prop) : V_affine_operators_F3 a0 a1 a2 h0 K = vcC PP F_affine_operators_F3.code (fun x e h' => match x with | .exit _ => False | _ => vcRet PP F_affine_operators_F3.res K e h') (params [a0, a1, a2] 0) h0 := by kernel_rfl

/-- warpwright/affine.operators$4 -/
def loops_affine_operators_F4 : Nat → Option (List Nat × List Nat)
  | _ => none
def tbl_affine_operators_F4 : Nat → Option (List Nat × List Nat × List Nat)
  | 4 => some ([0, 1, 0, 7, 0, 16, 0, 112, 255, 511], [9], []) | _ => none
def F_affine_operators_F4 : AFunc := ⟨36,
  .seq (.reg [⟨(some 3), .box (.t 0), none⟩,
    ⟨(some 4), .box (.t 1), none⟩,
    ⟨(some 6), .alloc (.agg [(.bool false), (.int .i64 0), (.int .i64 0), (.int .i64 0), (.int .i64 0), (.int .i64 0), (.int .i64 0)]), none⟩]) <|
  .seq (.reg [⟨(some 10), .ld (.t 3) 9 true, none⟩,
    ⟨(some 11), .ld (.t 4) 7 true, none⟩,
    ⟨(some 12), .call n_affine_space_span [(.t 10), (.t 11)], none⟩,
    ⟨(some 9), .mov (.t 12), none⟩,
    ⟨(some 13), .ext (.t 9) 0, none⟩,
    ⟨(some 14), .ext (.t 9) 1, none⟩,
    ⟨(some 7), .alloc (.agg [(.int .i64 0), (.int .i64 0), (.int .i64 0)]), none⟩,
    ⟨none, .st (.t 7) (.t 13) 3, none⟩,
    ⟨(some 8), .mov (.t 14), none⟩]) <|
  .seq (.seq (.reg [⟨(some 15), .mov (.t 8), none⟩,
    ⟨(some 16), .un .not (.t 15), none⟩,
    ⟨(some 17), .mov (.t 16), none⟩,
    ⟨(some 18), .mov (.t 2), some (17, false)⟩,
    ⟨(some 19), .bin .leq (.t 18) (.c (.int .i64 0)), some (17, false)⟩,
    ⟨(some 20), .pick (.t 17) (.c (.bool true)) (.t 19), none⟩,
    ⟨(some 21), .mov (.t 20), none⟩,
    ⟨(some 22), .fadd (.t 7) 0, some (21, false)⟩,
    ⟨(some 23), .ld (.t 22) 1 false, some (21, false)⟩,
    ⟨(some 24), .bin .lss (.t 23) (.c (.int .i64 0)), some (21, false)⟩,
    ⟨(some 25), .pick (.t 21) (.c (.bool true)) (.t 24), none⟩]) <|
  .cond (.t 25) (.seq (.reg [⟨(some 26), .call n_affine_unknown [], none⟩,
    ⟨none, .st (.t 6) (.t 26) 7, none⟩]) <|
  .ret) (.skip)) <|
  .seq (.dreg [⟨(some 27), .fadd (.t 7) 0, none⟩,
    ⟨(some 28), .ld (.t 27) 1 false, none⟩,
    ⟨(some 29), .mov (.t 2), none⟩,
    ⟨(some 30), .bin .quo (.t 28) (.t 29), none⟩,
    ⟨(some 31), .fadd (.t 7) 1, none⟩,
    ⟨(some 32), .ld (.t 31) 1 false, none⟩,
    ⟨(some 33), .mov (.t 2), none⟩,
    ⟨(some 34), .bin .quo (.t 32) (.t 33), none⟩,
    ⟨(some 35), .call n_affine_between [(.t 30), (.t 34)], none⟩] [⟨none, .st (.t 6) (.t 35) 7, none⟩] []) <|
  .ret,
  [.cell 6 7 true]⟩
theorem F_affine_operators_F4_ok : cFn PP true n_affine_operators_F4 loops_affine_operators_F4 (cDr PP 36 tbl_affine_operators_F4) = some F_affine_operators_F4 := by kernel_rfl


def V_affine_operators_F4 (a0 : D) (a1 : D) (a2 : D) (h0 : Heap) (K : D → Heap → Prop) : Prop :=
  vhOp PP (.box (.c a0)) h0 fun a4 h5 =>
  vhOp PP (.box (.c a1)) h5 fun a6 h7 =>
  vhOp PP (.alloc (.agg [(.bool false), (.int .i64 0), (.int .i64 0), (.int .i64 0), (.int .i64 0), (.int .i64 0), (.int .i64 0)])) h7 fun a8 h9 =>
  vhOp PP (.ld (.c a4) 9 true) h9 fun a10 h11 =>
  vhOp PP (.ld (.c a6) 7 true) h11 fun a12 h13 =>
  ACall PP n_affine_space_span [a10, a12] h13 fun a14 h15 =>
  vhOp PP (.ext (.c a14) 0) h15 fun a16 h17 =>
  vhOp PP (.ext (.c a14) 1) h17 fun a18 h19 =>
  vhOp PP (.alloc (.agg [(.int .i64 0), (.int .i64 0), (.int .i64 0)])) h19 fun a20 h21 =>
  vhOp PP (.st (.c a20) (.c a16) 3) h21 fun a22 h23 =>
  vun .not a18 fun a24 =>
  vguard a24 false (fun G25 =>
  G25 a2 h23) h23 fun a26 h27 =>
  vguard a24 false (fun G28 =>
  vbin .leq a26 (.int .i64 0) fun a31 =>
  G28 a31 h27) h27 fun a29 h30 =>
  vhOp PP (.pick (.c a24) (.c (.bool true)) (.c a29)) h30 fun a32 h33 =>
  vguard a32 false (fun G34 =>
  vhOp PP (.fadd (.c a20) 0) h33 fun a37 h38 =>
  G34 a37 h38) h33 fun a35 h36 =>
  vguard a32 false (fun G39 =>
  vhOp PP (.ld (.c a35) 1 false) h36 fun a42 h43 =>
  G39 a42 h43) h36 fun a40 h41 =>
  vguard a32 false (fun G44 =>
  vbin .lss a40 (.int .i64 0) fun a47 =>
  G44 a47 h41) h41 fun a45 h46 =>
  vhOp PP (.pick (.c a32) (.c (.bool true)) (.c a45)) h46 fun a48 h49 =>
  vcond a48 (ACall PP n_affine_unknown [] h49 fun a50 h51 =>
  vhOp PP (.st (.c a8) (.c a50) 7) h51 fun a52 h53 =>
  vhOp PP (.ld (.c a8) 7 true) h53 fun a54 _ =>
  K a54 h53) (
  vdOp PP (.fadd (.c a20) 0) h49 fun a55 =>
  vdOp PP (.ld (.c a55) 1 false) h49 fun a56 =>
  vbin .quo a56 a2 fun a57 =>
  vdOp PP (.fadd (.c a20) 1) h49 fun a58 =>
  vdOp PP (.ld (.c a58) 1 false) h49 fun a59 =>
  vbin .quo a59 a2 fun a60 =>
  vdOp PP (.call n_affine_between [(.c a57), (.c a60)]) h49 fun a61 =>
  vhOp PP (.st (.c a8) (.c a61) 7) h49 fun a62 h63 =>
  vhOp PP (.ld (.c a8) 7 true) h63 fun a64 _ =>
  K a64 h63)
theorem V_affine_operators_F4_ok (a0 : D) (a1 : D) (a2 : D) (h0 : Heap) (K : D → Heap → Prop) : V_affine_operators_F4 a0 a1 a2 h0 K = vcC PP F_affine_operators_F4.code (fun x e h' => match x with | .exit _ => False | _ => vcRet PP F_affine_operators_F4.res K e h') (params [a0, a1, a2] 0) h0 := by kernel_rfl

/-- (warpwright/affine.space).remainder -/
def loops_affine_space_remainder : Nat → Option (List Nat × List Nat)
  | _ => none
def tbl_affine_space_remainder : Nat → Option (List Nat × List Nat × List Nat)
  | _ => none
def F_affine_space_remainder : AFunc := ⟨54,
  .seq (.reg [⟨(some 3), .box (.t 0), none⟩,
    ⟨(some 4), .box (.t 1), none⟩,
    ⟨(some 6), .alloc (.agg [(.bool false), (.int .i64 0), (.int .i64 0), (.int .i64 0), (.int .i64 0), (.int .i64 0), (.int .i64 0)]), none⟩]) <|
  .seq (.reg [⟨(some 12), .ld (.t 3) 9 true, none⟩,
    ⟨(some 13), .ld (.t 4) 7 true, none⟩,
    ⟨(some 14), .call n_affine_space_span [(.t 12), (.t 13)], none⟩,
    ⟨(some 11), .mov (.t 14), none⟩,
    ⟨(some 15), .ext (.t 11) 0, none⟩,
    ⟨(some 16), .ext (.t 11) 1, none⟩,
    ⟨(some 7), .alloc (.agg [(.int .i64 0), (.int .i64 0), (.int .i64 0)]), none⟩,
    ⟨none, .st (.t 7) (.t 15) 3, none⟩,
    ⟨(some 8), .mov (.t 16), none⟩]) <|
  .seq (.block 0 (.seq (.reg [⟨(some 18), .mov (.t 8), none⟩,
    ⟨(some 19), .un .not (.t 18), none⟩,
    ⟨(some 20), .mov (.t 19), none⟩,
    ⟨(some 21), .mov (.t 2), some (20, false)⟩,
    ⟨(some 22), .bin .leq (.t 21) (.c (.int .i64 0)), some (20, false)⟩,
    ⟨(some 23), .pick (.t 20) (.c (.bool true)) (.t 22), none⟩,
    ⟨(some 24), .mov (.t 23), none⟩,
    ⟨(some 25), .fadd (.t 7) 0, some (24, false)⟩,
    ⟨(some 26), .ld (.t 25) 1 false, some (24, false)⟩,
    ⟨(some 27), .bin .lss (.t 26) (.c (.int .i64 0)), some (24, false)⟩,
    ⟨(some 28), .pick (.t 24) (.c (.bool true)) (.t 27), none⟩,
    ⟨(some 17), .mov (.t 28), none⟩]) <|
  .cond (.t 17) (.seq (.reg [⟨(some 29), .call n_affine_unknown [], none⟩,
    ⟨none, .st (.t 6) (.t 29) 7, none⟩]) <|
  .ret) (.seq (.reg [⟨(some 31), .fadd (.t 7) 1, none⟩,
    ⟨(some 32), .ld (.t 31) 1 false, none⟩,
    ⟨(some 33), .mov (.t 2), none⟩,
    ⟨(some 34), .bin .lss (.t 32) (.t 33), none⟩,
    ⟨(some 30), .mov (.t 34), none⟩]) <|
  .cond (.t 30) (.seq (.reg [⟨(some 35), .ld (.t 4) 7 true, none⟩,
    ⟨none, .st (.t 6) (.t 35) 7, none⟩]) <|
  .ret) (.seq (.reg [⟨(some 37), .ld (.t 4) 7 true, none⟩,
    ⟨(some 38), .call n_affine_plain [(.t 37)], none⟩,
    ⟨(some 36), .mov (.t 38), none⟩]) <|
  .cond (.t 36) (.seq (.reg [⟨(some 40), .fadd (.t 4) 4, none⟩,
    ⟨(some 41), .ld (.t 40) 3 true, none⟩,
    ⟨(some 42), .mov (.t 2), none⟩,
    ⟨(some 43), .call n_span_Mod [(.t 41), (.t 42)], none⟩,
    ⟨(some 39), .mov (.t 43), none⟩,
    ⟨(some 44), .ext (.t 39) 0, none⟩,
    ⟨(some 45), .ext (.t 39) 1, none⟩,
    ⟨(some 9), .alloc (.agg [(.int .i64 0), (.int .i64 0), (.int .i64 0)]), none⟩,
    ⟨none, .st (.t 9) (.t 44) 3, none⟩,
    ⟨(some 10), .mov (.t 45), none⟩]) <|
  .seq (.reg [⟨(some 46), .ld (.t 3) 9 true, none⟩,
    ⟨(some 47), .ld (.t 9) 3 true, none⟩,
    ⟨(some 48), .bld [(.bool false), (.int .i64 0), (.int .i64 0), (.int .i64 0), (.int .i64 0), (.int .i64 0), (.int .i64 0)] [(4, 3, (.t 47))], none⟩,
    ⟨(some 49), .mov (.t 10), none⟩,
    ⟨(some 50), .call n_affine_space_made [(.t 46), (.t 48), (.t 49)], none⟩,
    ⟨none, .st (.t 6) (.t 50) 7, none⟩]) <|
  .ret) (.skip))))) <|
  .seq (.reg [⟨(some 51), .mov (.t 2), none⟩,
    ⟨(some 52), .bin .sub (.t 51) (.c (.int .i64 1)), none⟩,
    ⟨(some 53), .call n_affine_between [(.c (.int .i64 0)), (.t 52)], none⟩,
    ⟨none, .st (.t 6) (.t 53) 7, none⟩]) <|
  .ret,
  [.cell 6 7 true]⟩
theorem F_affine_space_remainder_ok : cFn PP true n_affine_space_remainder loops_affine_space_remainder (cDr PP 54 tbl_affine_space_remainder) = some F_affine_space_remainder := by kernel_rfl


def V_affine_space_remainder (a0 : D) (a1 : D) (a2 : D) (h0 : Heap) (K : D → Heap → Prop) : Prop :=
  vhOp PP (.box (.c a0)) h0 fun a4 h5 =>
  vhOp PP (.box (.c a1)) h5 fun a6 h7 =>
  vhOp PP (.alloc (.agg [(.bool false), (.int .i64 0), (.int .i64 0), (.int .i64 0), (.int .i64 0), (.int .i64 0), (.int .i64 0)])) h7 fun a8 h9 =>
  vhOp PP (.ld (.c a4) 9 true) h9 fun a10 h11 =>
  vhOp PP (.ld (.c a6) 7 true) h11 fun a12 h13 =>
  ACall PP n_affine_space_span [a10, a12] h13 fun a14 h15 =>
  vhOp PP (.ext (.c a14) 0) h15 fun a16 h17 =>
  vhOp PP (.ext (.c a14) 1) h17 fun a18 h19 =>
  vhOp PP (.alloc (.agg [(.int .i64 0), (.int .i64 0), (.int .i64 0)])) h19 fun a20 h21 =>
  vhOp PP (.st (.c a20) (.c a16) 3) h21 fun a22 h23 =>
  vun .not a18 fun a24 =>
  vguard a24 false (fun G25 =>
  G25 a2 h23) h23 fun a26 h27 =>
  vguard a24 false (fun G28 =>
  vbin .leq a26 (.int .i64 0) fun a31 =>
  G28 a31 h27) h27 fun a29 h30 =>
  vhOp PP (.pick (.c a24) (.c (.bool true)) (.c a29)) h30 fun a32 h33 =>
  vguard a32 false (fun G34 =>
  vhOp PP (.fadd (.c a20) 0) h33 fun a37 h38 =>
  G34 a37 h38) h33 fun a35 h36 =>
  vguard a32 false (fun G39 =>
  vhOp PP (.ld (.c a35) 1 false) h36 fun a42 h43 =>
  G39 a42 h43) h36 fun a40 h41 =>
  vguard a32 false (fun G44 =>
  vbin .lss a40 (.int .i64 0) fun a47 =>
  G44 a47 h41) h41 fun a45 h46 =>
  vhOp PP (.pick (.c a32) (.c (.bool true)) (.c a45)) h46 fun a48 h49 =>
  vcond a48 (ACall PP n_affine_unknown [] h49 fun a50 h51 =>
  vhOp PP (.st (.c a8) (.c a50) 7) h51 fun a52 h53 =>
  vhOp PP (.ld (.c a8) 7 true) h53 fun a54 _ =>
  K a54 h53) (
  vhOp PP (.fadd (.c a20) 1) h49 fun a55 h56 =>
  vhOp PP (.ld (.c a55) 1 false) h56 fun a57 h58 =>
  vbin .lss a57 a2 fun a59 =>
  vcond a59 (vhOp PP (.ld (.c a6) 7 true) h58 fun a60 h61 =>
  vhOp PP (.st (.c a8) (.c a60) 7) h61 fun a62 h63 =>
  vhOp PP (.ld (.c a8) 7 true) h63 fun a64 _ =>
  K a64 h63) (
  vhOp PP (.ld (.c a6) 7 true) h58 fun a65 h66 =>
  ACall PP n_affine_plain [a65] h66 fun a67 h68 =>
  vcond a67 (vhOp PP (.fadd (.c a6) 4) h68 fun a69 h70 =>
  vhOp PP (.ld (.c a69) 3 true) h70 fun a71 h72 =>
  ACall PP n_span_Mod [a71, a2] h72 fun a73 h74 =>
  vhOp PP (.ext (.c a73) 0) h74 fun a75 h76 =>
  vhOp PP (.ext (.c a73) 1) h76 fun a77 h78 =>
  vhOp PP (.alloc (.agg [(.int .i64 0), (.int .i64 0), (.int .i64 0)])) h78 fun a79 h80 =>
  vhOp PP (.st (.c a79) (.c a75) 3) h80 fun a81 h82 =>
  vhOp PP (.ld (.c a4) 9 true) h82 fun a83 h84 =>
  vhOp PP (.ld (.c a79) 3 true) h84 fun a85 h86 =>
  vhOp PP (.bld [(.bool false), (.int .i64 0), (.int .i64 0), (.int .i64 0), (.int .i64 0), (.int .i64 0), (.int .i64 0)] [(4, 3, (.c a85))]) h86 fun a87 h88 =>
  ACall PP n_affine_space_made [a83, a87, a77] h88 fun a89 h90 =>
  vhOp PP (.st (.c a8) (.c a89) 7) h90 fun a91 h92 =>
  vhOp PP (.ld (.c a8) 7 true) h92 fun a93 _ =>
  K a93 h92) (
  vbin .sub a2 (.int .i64 1) fun a94 =>
  ACall PP n_affine_between [(.int .i64 0), a94] h68 fun a95 h96 =>
  vhOp PP (.st (.c a8) (.c a95) 7) h96 fun a97 h98 =>
  vhOp PP (.ld (.c a8) 7 true) h98 fun a99 _ =>
  K a99 h98)))
theorem V_affine_space_remainder_ok (a0 : D) (a1 : D) (a2 : D) (h0 : Heap) (K : D → Heap → Prop) : V_affine_space_remainder a0 a1 a2 h0 K = vcC PP F_affine_space_remainder.code (fun x e h' => match x with | .exit _ => False | _ => vcRet PP F_affine_space_remainder.res K e h') (params [a0, a1, a2] 0) h0 := by kernel_rfl

/-- warpwright/affine.ranged -/
def loops_affine_ranged : Nat → Option (List Nat × List Nat)
  | _ => none
def tbl_affine_ranged : Nat → Option (List Nat × List Nat × List Nat)
  | _ => none
def F_affine_ranged : AFunc := ⟨4,
  .seq (.reg [⟨(some 1), .box (.t 0), none⟩,
    ⟨(some 2), .mov (.c .nilfn), none⟩]) <|
  .seq (.reg [⟨(some 3), .mkf n_affine_ranged_F1 [] [(.t 1)], none⟩,
    ⟨(some 2), .mov (.t 3), none⟩]) <|
  .ret,
  [.t 2]⟩
theorem F_affine_ranged_ok : cFn PP true n_affine_ranged loops_affine_ranged (cDr PP 4 tbl_affine_ranged) = some F_affine_ranged := by kernel_rfl


def V_affine_ranged (a0 : D) (h0 : Heap) (K : D → Heap → Prop) : Prop :=
  vhOp PP (.box (.c a0)) h0 fun a2 h3 =>
  vhOp PP (.mkf n_affine_ranged_F1 [] [(.c a2)]) h3 fun a4 h5 =>
  K a4 h5
theorem V_affine_ranged_ok (a0 : D) (h0 : Heap) (K : D → Heap → Prop) : V_affine_ranged a0 h0 K = vcC PP F_affine_ranged.code (fun x e h' => match x with | .exit _ => False | _ => vcRet PP F_affine_ranged.res K e h') (params [a0] 0) h0 := by kernel_rfl

/-- warpwright/affine.operators$5 -/
def loops_affine_operators_F5 : Nat → Option (List Nat × List Nat)
  | _ => none
def tbl_affine_operators_F5 : Nat → Option (List Nat × List Nat × List Nat)
  | _ => none
def F_affine_operators_F5 : AFunc := ⟨16,
  .seq (.reg [⟨(some 2), .box (.t 0), none⟩,
    ⟨(some 3), .box (.t 1), none⟩,
    ⟨(some 4), .alloc (.agg [(.bool false), (.int .i64 0), (.int .i64 0), (.int .i64 0), (.int .i64 0), (.int .i64 0), (.int .i64 0)]), none⟩]) <|
  .seq (.reg [⟨(some 5), .fadd (.t 2) 0, none⟩,
    ⟨(some 6), .ld (.t 5) 1 false, none⟩,
    ⟨(some 7), .fadd (.t 3) 0, none⟩,
    ⟨(some 8), .ld (.t 7) 1 false, none⟩,
    ⟨(some 9), .mn (.t 6) (.t 8), none⟩,
    ⟨(some 10), .fadd (.t 2) 1, none⟩,
    ⟨(some 11), .ld (.t 10) 1 false, none⟩,
    ⟨(some 12), .fadd (.t 3) 1, none⟩,
    ⟨(some 13), .ld (.t 12) 1 false, none⟩,
    ⟨(some 14), .mn (.t 11) (.t 13), none⟩,
    ⟨(some 15), .call n_affine_between [(.t 9), (.t 14)], none⟩,
    ⟨none, .st (.t 4) (.t 15) 7, none⟩]) <|
  .ret,
  [.cell 4 7 true]⟩
theorem F_affine_operators_F5_ok : cFn PP true n_affine_operators_F5 loops_affine_operators_F5 (cDr PP 16 tbl_affine_operators_F5) = some F_affine_operators_F5 := by kernel_rfl


def V_affine_operators_F5 (a0 : D) (a1 : D) (h0 : Heap) (K : D → Heap → Prop) : Prop :=
  vhOp PP (.box (.c a0)) h0 fun a3 h4 =>
  vhOp PP (.box (.c a1)) h4 fun a5 h6 =>
  vhOp PP (.alloc (.agg [(.bool false), (.int .i64 0), (.int .i64 0), (.int .i64 0), (.int .i64 0), (.int .i64 0), (.int .i64 0)])) h6 fun a7 h8 =>
  vhOp PP (.fadd (.c a3) 0) h8 fun a9 h10 =>
  vhOp PP (.ld (.c a9) 1 false) h10 fun a11 h12 =>
  vhOp PP (.fadd (.c a5) 0) h12 fun a13 h14 =>
  vhOp PP (.ld (.c a13) 1 false) h14 fun a15 h16 =>
  vhOp PP (.mn (.c a11) (.c a15)) h16 fun a17 h18 =>
  vhOp PP (.fadd (.c a3) 1) h18 fun a19 h20 =>
  vhOp PP (.ld (.c a19) 1 false) h20 fun a21 h22 =>
  vhOp PP (.fadd (.c a5) 1) h22 fun a23 h24 =>
  vhOp PP (.ld (.c a23) 1 false) h24 fun a25 h26 =>
  vhOp PP (.mn (.c a21) (.c a25)) h26 fun a27 h28 =>
  ACall PP n_affine_between [a17, a27] h28 fun a29 h30 =>
  vhOp PP (.st (.c a7) (.c a29) 7) h30 fun a31 h32 =>
  vhOp PP (.ld (.c a7) 7 true) h32 fun a33 _ =>
  K a33 h32
theorem V_affine_operators_F5_ok (a0 : D) (a1 : D) (h0 : Heap) (K : D → Heap → Prop) : V_affine_operators_F5 a0 a1 h0 K = vcC PP F_affine_operators_F5.code (fun x e h' => match x with | .exit _ => False | _ => vcRet PP F_affine_operators_F5.res K e h') (params [a0, a1] 0) h0 := by kernel_rfl

/-- warpwright/affine.operators$6 -/
def loops_affine_operators_F6 : Nat → Option (List Nat × List Nat)
  | _ => none
def tbl_affine_operators_F6 : Nat → Option (List Nat × List Nat × List Nat)
  | _ => none
def F_affine_operators_F6 : AFunc := ⟨16,
  .seq (.reg [⟨(some 2), .box (.t 0), none⟩,
    ⟨(some 3), .box (.t 1), none⟩,
    ⟨(some 4), .alloc (.agg [(.bool false), (.int .i64 0), (.int .i64 0), (.int .i64 0), (.int .i64 0), (.int .i64 0), (.int .i64 0)]), none⟩]) <|
  .seq (.reg [⟨(some 5), .fadd (.t 2) 0, none⟩,
    ⟨(some 6), .ld (.t 5) 1 false, none⟩,
    ⟨(some 7), .fadd (.t 3) 0, none⟩,
    ⟨(some 8), .ld (.t 7) 1 false, none⟩,
    ⟨(some 9), .mx (.t 6) (.t 8), none⟩,
    ⟨(some 10), .fadd (.t 2) 1, none⟩,
    ⟨(some 11), .ld (.t 10) 1 false, none⟩,
    ⟨(some 12), .fadd (.t 3) 1, none⟩,
    ⟨(some 13), .ld (.t 12) 1 false, none⟩,
    ⟨(some 14), .mx (.t 11) (.t 13), none⟩,
    ⟨(some 15), .call n_affine_between [(.t 9), (.t 14)], none⟩,
    ⟨none, .st (.t 4) (.t 15) 7, none⟩]) <|
  .ret,
  [.cell 4 7 true]⟩
theorem F_affine_operators_F6_ok : cFn PP true n_affine_operators_F6 loops_affine_operators_F6 (cDr PP 16 tbl_affine_operators_F6) = some F_affine_operators_F6 := by kernel_rfl


def V_affine_operators_F6 (a0 : D) (a1 : D) (h0 : Heap) (K : D → Heap → Prop) : Prop :=
  vhOp PP (.box (.c a0)) h0 fun a3 h4 =>
  vhOp PP (.box (.c a1)) h4 fun a5 h6 =>
  vhOp PP (.alloc (.agg [(.bool false), (.int .i64 0), (.int .i64 0), (.int .i64 0), (.int .i64 0), (.int .i64 0), (.int .i64 0)])) h6 fun a7 h8 =>
  vhOp PP (.fadd (.c a3) 0) h8 fun a9 h10 =>
  vhOp PP (.ld (.c a9) 1 false) h10 fun a11 h12 =>
  vhOp PP (.fadd (.c a5) 0) h12 fun a13 h14 =>
  vhOp PP (.ld (.c a13) 1 false) h14 fun a15 h16 =>
  vhOp PP (.mx (.c a11) (.c a15)) h16 fun a17 h18 =>
  vhOp PP (.fadd (.c a3) 1) h18 fun a19 h20 =>
  vhOp PP (.ld (.c a19) 1 false) h20 fun a21 h22 =>
  vhOp PP (.fadd (.c a5) 1) h22 fun a23 h24 =>
  vhOp PP (.ld (.c a23) 1 false) h24 fun a25 h26 =>
  vhOp PP (.mx (.c a21) (.c a25)) h26 fun a27 h28 =>
  ACall PP n_affine_between [a17, a27] h28 fun a29 h30 =>
  vhOp PP (.st (.c a7) (.c a29) 7) h30 fun a31 h32 =>
  vhOp PP (.ld (.c a7) 7 true) h32 fun a33 _ =>
  K a33 h32
theorem V_affine_operators_F6_ok (a0 : D) (a1 : D) (h0 : Heap) (K : D → Heap → Prop) : V_affine_operators_F6 a0 a1 h0 K = vcC PP F_affine_operators_F6.code (fun x e h' => match x with | .exit _ => False | _ => vcRet PP F_affine_operators_F6.res K e h') (params [a0, a1] 0) h0 := by kernel_rfl

/-- warpwright/affine.bits -/
def loops_affine_bits : Nat → Option (List Nat × List Nat)
  | 1000007 => some ([4], [5]) | 4 => some ([2, 3, 4], [5]) | _ => none
def tbl_affine_bits : Nat → Option (List Nat × List Nat × List Nat)
  | _ => none
def F_affine_bits : AFunc := ⟨25,
  .seq (.reg [⟨(some 2), .box (.t 0), none⟩,
    ⟨(some 3), .box (.t 1), none⟩,
    ⟨(some 4), .alloc (.agg [(.bool false), (.int .i64 0), (.int .i64 0), (.int .i64 0), (.int .i64 0), (.int .i64 0), (.int .i64 0)]), none⟩]) <|
  .seq (.seq (.reg [⟨(some 6), .fadd (.t 2) 0, none⟩,
    ⟨(some 7), .ld (.t 6) 1 false, none⟩,
    ⟨(some 8), .fadd (.t 3) 0, none⟩,
    ⟨(some 9), .ld (.t 8) 1 false, none⟩,
    ⟨(some 10), .mn (.t 7) (.t 9), none⟩,
    ⟨(some 11), .bin .lss (.t 10) (.c (.int .i64 0)), none⟩]) <|
  .cond (.t 11) (.seq (.reg [⟨(some 12), .call n_affine_unknown [], none⟩,
    ⟨none, .st (.t 4) (.t 12) 7, none⟩]) <|
  .ret) (.skip)) <|
  .seq (.reg [⟨(some 5), .mov (.c (.int .i64 0)), none⟩]) <|
  .seqj [4] [5] (.block 0 (.loop [2, 3, 4] [5] (.seq (.seq (.reg [⟨(some 13), .mov (.t 5), none⟩,
    ⟨(some 14), .fadd (.t 2) 1, none⟩,
    ⟨(some 15), .ld (.t 14) 1 false, none⟩,
    ⟨(some 16), .fadd (.t 3) 1, none⟩,
    ⟨(some 17), .ld (.t 16) 1 false, none⟩,
    ⟨(some 18), .mx (.t 15) (.t 17), none⟩,
    ⟨(some 19), .bin .lss (.t 13) (.t 18), none⟩]) <|
  .cond (.t 19) (.skip) (.exit 0)) <|
  .block 1 (.reg [⟨(some 20), .mov (.t 5), none⟩,
    ⟨(some 21), .bin .mul (.c (.int .i64 2)) (.t 20), none⟩,
    ⟨(some 22), .bin .add (.t 21) (.c (.int .i64 1)), none⟩,
    ⟨(some 5), .mov (.t 22), none⟩])))) <|
  .seq (.reg [⟨(some 23), .mov (.t 5), none⟩,
    ⟨(some 24), .call n_affine_between [(.c (.int .i64 0)), (.t 23)], none⟩,
    ⟨none, .st (.t 4) (.t 24) 7, none⟩]) <|
  .ret,
  [.cell 4 7 true]⟩
theorem F_affine_bits_ok : cFn PP true n_affine_bits loops_affine_bits (cDr PP 25 tbl_affine_bits) = some F_affine_bits := by kernel_rfl

def V_affine_bits_L0 (h18 : Heap) (a3 : D) (a5 : D) (a7 : D) (J25 : List D → Heap → Prop) : Prop :=
  ∃ (I33 : Nat → List D → Heap → Prop) (n₀ : Nat), I33 n₀ [(.int .i64 0)] h18 ∧ ∀ (n34 : Nat) (f35 : Nat → D) (h36 : Heap), I33 n34 [f35 5] h36 →
  vhOp PP (.fadd (.c a3) 1) h36 fun a37 h38 =>
  vhOp PP (.ld (.c a37) 1 false) h38 fun a39 h40 =>
  vhOp PP (.fadd (.c a5) 1) h40 fun a41 h42 =>
  vhOp PP (.ld (.c a41) 1 false) h42 fun a43 h44 =>
  vhOp PP (.mx (.c a39) (.c a43)) h44 fun a45 h46 =>
  vbin .lss (f35 5) a45 fun a47 =>
  vcond a47 (vbin .mul (.int .i64 2) (f35 5) fun a48 =>
  vbin .add a48 (.int .i64 1) fun a49 =>
  keq [a3, a5, a7] [a3, a5, a7] ∧ ∃ m, m < n34 ∧ I33 m [a49] h46) (
  keq [a7] [a7] ∧ J25 [(f35 5)] h46)
def V_affine_bits (a0 : D) (a1 : D) (h0 : Heap) (K : D → Heap → Prop) : Prop :=
  vhOp PP (.box (.c a0)) h0 fun a3 h4 =>
  vhOp PP (.box (.c a1)) h4 fun a5 h6 =>
  vhOp PP (.alloc (.agg [(.bool false), (.int .i64 0), (.int .i64 0), (.int .i64 0), (.int .i64 0), (.int .i64 0), (.int .i64 0)])) h6 fun a7 h8 =>
  vhOp PP (.fadd (.c a3) 0) h8 fun a9 h10 =>
  vhOp PP (.ld (.c a9) 1 false) h10 fun a11 h12 =>
  vhOp PP (.fadd (.c a5) 0) h12 fun a13 h14 =>
  vhOp PP (.ld (.c a13) 1 false) h14 fun a15 h16 =>
  vhOp PP (.mn (.c a11) (.c a15)) h16 fun a17 h18 =>
  vbin .lss a17 (.int .i64 0) fun a19 =>
  vcond a19 (ACall PP n_affine_unknown [] h18 fun a20 h21 =>
  vhOp PP (.st (.c a7) (.c a20) 7) h21 fun a22 h23 =>
  vhOp PP (.ld (.c a7) 7 true) h23 fun a24 _ =>
  K a24 h23) (
  ∃ (J25 : List D → Heap → Prop), (∀ (f26 : Nat → D) (h27 : Heap), J25 [f26 5] h27 →
  ACall PP n_affine_between [(.int .i64 0), (f26 5)] h27 fun a28 h29 =>
  vhOp PP (.st (.c a7) (.c a28) 7) h29 fun a30 h31 =>
  vhOp PP (.ld (.c a7) 7 true) h31 fun a32 _ =>
  K a32 h31) ∧
  V_affine_bits_L0 h18 a3 a5 a7 J25)
theorem V_affine_bits_ok (a0 : D) (a1 : D) (h0 : Heap) (K : D → Heap → Prop) : V_affine_bits a0 a1 h0 K = vcC PP F_affine_bits.code (fun x e h' => match x with | .exit _ => False | _ => vcRet PP F_affine_bits.res K e h') (params [a0, a1] 0) h0 := by kernel_rfl

/-- slices.Backward[[]warpwright/api.Inst,warpwright/api.Inst]$1 -/
def loops_slices_Backward_sapi_Inst_api_Inst_F1 : Nat → Option (List Nat × List Nat)
  | 1 => some ([0, 1], [3]) | _ => none
def tbl_slices_Backward_sapi_Inst_api_Inst_F1 : Nat → Option (List Nat × List Nat × List Nat)
  | _ => none
def F_slices_Backward_sapi_Inst_api_Inst_F1 : AFunc := ⟨19,
  .seq (.reg [⟨(some 4), .ld (.t 1) 1 false, none⟩,
    ⟨(some 5), .len (.t 4), none⟩,
    ⟨(some 6), .bin .sub (.t 5) (.c (.int .i64 1)), none⟩,
    ⟨(some 3), .mov (.t 6), none⟩]) <|
  .block 0 (.loop [0, 1] [3] (.seq (.seq (.reg [⟨(some 7), .mov (.t 3), none⟩,
    ⟨(some 8), .bin .geq (.t 7) (.c (.int .i64 0)), none⟩]) <|
  .cond (.t 8) (.skip) (.exit 0)) <|
  .seq (.block 1 (.seq (.reg [⟨(some 11), .mov (.t 0), none⟩,
    ⟨(some 12), .mov (.t 3), none⟩,
    ⟨(some 13), .ld (.t 1) 1 false, none⟩,
    ⟨(some 14), .mov (.t 3), none⟩,
    ⟨(some 15), .iadd (.t 13) (.t 14) 15, none⟩,
    ⟨(some 16), .ld (.t 15) 15 true, none⟩,
    ⟨(some 17), .callv (.t 11) [(.t 12), (.t 16)], none⟩,
    ⟨(some 18), .un .not (.t 17), none⟩]) <|
  .cond (.t 18) (.ret) (.skip))) <|
  .reg [⟨(some 9), .mov (.t 3), none⟩,
    ⟨(some 10), .bin .sub (.t 9) (.c (.int .i64 1)), none⟩,
    ⟨(some 3), .mov (.t 10), none⟩])),
  []⟩
theorem F_slices_Backward_sapi_Inst_api_Inst_F1_ok : cFn PP true n_slices_Backward_sapi_Inst_api_Inst_F1 loops_slices_Backward_sapi_Inst_api_Inst_F1 (cDr PP 19 tbl_slices_Backward_sapi_Inst_api_Inst_F1) = some F_slices_Backward_sapi_Inst_api_Inst_F1 := by kernel_rfl

def V_slices_Backward_sapi_Inst_api_Inst_F1_L0 (a6 : D) (h4 : Heap) (a1 : D) (a0 : D) (K : D → Heap → Prop) : Prop :=
  ∃ (I7 : Nat → List D → Heap → Prop) (n₀ : Nat), I7 n₀ [a6] h4 ∧ ∀ (n8 : Nat) (f9 : Nat → D) (h10 : Heap), I7 n8 [f9 3] h10 →
  vbin .geq (f9 3) (.int .i64 0) fun a11 =>
  vcond a11 (vhOp PP (.ld (.c a1) 1 false) h10 fun a12 h13 =>
  vhOp PP (.iadd (.c a12) (.c (f9 3)) 15) h13 fun a14 h15 =>
  vhOp PP (.ld (.c a14) 15 true) h15 fun a16 h17 =>
  vhOp PP (.callv (.c a0) [(.c (f9 3)), (.c a16)]) h17 fun a18 h19 =>
  vun .not a18 fun a20 =>
  vcond a20 (K (.tup []) h19) (
  vbin .sub (f9 3) (.int .i64 1) fun a21 =>
  keq [a0, a1] [a0, a1] ∧ ∃ m, m < n8 ∧ I7 m [a21] h19)) (
  K (.tup []) h10)
def V_slices_Backward_sapi_Inst_api_Inst_F1 (a0 : D) (a1 : D) (h0 : Heap) (K : D → Heap → Prop) : Prop :=
  vhOp PP (.ld (.c a1) 1 false) h0 fun a3 h4 =>
  vlen a3 h4 fun a5 =>
  vbin .sub a5 (.int .i64 1) fun a6 =>
  V_slices_Backward_sapi_Inst_api_Inst_F1_L0 a6 h4 a1 a0 K
theorem V_slices_Backward_sapi_Inst_api_Inst_F1_ok (a0 : D) (a1 : D) (h0 : Heap) (K : D → Heap → Prop) : V_slices_Backward_sapi_Inst_api_Inst_F1 a0 a1 h0 K = vcC PP F_slices_Backward_sapi_Inst_api_Inst_F1.code (fun x e h' => match x with | .exit _ => False | _ => vcRet PP F_slices_Backward_sapi_Inst_api_Inst_F1.res K e h') (params [a0, a1] 0) h0 := by kernel_rfl

/-- math/bits.Mul64 -/
def loops_math_bits_Mul64 : Nat → Option (List Nat × List Nat)
  | _ => none
def tbl_math_bits_Mul64 : Nat → Option (List Nat × List Nat × List Nat)
  | _ => none
def F_math_bits_Mul64 : AFunc := ⟨51,
  .seq (.reg [⟨(some 4), .mov (.c (.int .u64 0)), none⟩,
    ⟨(some 5), .mov (.c (.int .u64 0)), none⟩]) <|
  .seq (.reg [⟨(some 14), .mov (.t 0), none⟩,
    ⟨(some 15), .bin .and (.t 14) (.c (.int .u64 4294967295)), none⟩,
    ⟨(some 6), .mov (.t 15), none⟩]) <|
  .seq (.reg [⟨(some 16), .mov (.t 0), none⟩,
    ⟨(some 17), .bin .shr (.t 16) (.c (.int .u64 32)), none⟩,
    ⟨(some 7), .mov (.t 17), none⟩]) <|
  .seq (.reg [⟨(some 18), .mov (.t 1), none⟩,
    ⟨(some 19), .bin .and (.t 18) (.c (.int .u64 4294967295)), none⟩,
    ⟨(some 8), .mov (.t 19), none⟩]) <|
  .seq (.reg [⟨(some 20), .mov (.t 1), none⟩,
    ⟨(some 21), .bin .shr (.t 20) (.c (.int .u64 32)), none⟩,
    ⟨(some 9), .mov (.t 21), none⟩]) <|
  .seq (.reg [⟨(some 22), .mov (.t 6), none⟩,
    ⟨(some 23), .mov (.t 8), none⟩,
    ⟨(some 24), .bin .mul (.t 22) (.t 23), none⟩,
    ⟨(some 10), .mov (.t 24), none⟩]) <|
  .seq (.reg [⟨(some 25), .mov (.t 7), none⟩,
    ⟨(some 26), .mov (.t 8), none⟩,
    ⟨(some 27), .bin .mul (.t 25) (.t 26), none⟩,
    ⟨(some 28), .mov (.t 10), none⟩,
    ⟨(some 29), .bin .shr (.t 28) (.c (.int .u64 32)), none⟩,
    ⟨(some 30), .bin .add (.t 27) (.t 29), none⟩,
    ⟨(some 11), .mov (.t 30), none⟩]) <|
  .seq (.reg [⟨(some 31), .mov (.t 11), none⟩,
    ⟨(some 32), .bin .and (.t 31) (.c (.int .u64 4294967295)), none⟩,
    ⟨(some 12), .mov (.t 32), none⟩]) <|
  .seq (.reg [⟨(some 33), .mov (.t 11), none⟩,
    ⟨(some 34), .bin .shr (.t 33) (.c (.int .u64 32)), none⟩,
    ⟨(some 13), .mov (.t 34), none⟩]) <|
  .seq (.reg [⟨(some 35), .mov (.t 12), none⟩,
    ⟨(some 36), .mov (.t 6), none⟩,
    ⟨(some 37), .mov (.t 9), none⟩,
    ⟨(some 38), .bin .mul (.t 36) (.t 37), none⟩,
    ⟨(some 39), .bin .add (.t 35) (.t 38), none⟩,
    ⟨(some 12), .mov (.t 39), none⟩]) <|
  .seq (.reg [⟨(some 40), .mov (.t 7), none⟩,
    ⟨(some 41), .mov (.t 9), none⟩,
    ⟨(some 42), .bin .mul (.t 40) (.t 41), none⟩,
    ⟨(some 43), .mov (.t 13), none⟩,
    ⟨(some 44), .bin .add (.t 42) (.t 43), none⟩,
    ⟨(some 45), .mov (.t 12), none⟩,
    ⟨(some 46), .bin .shr (.t 45) (.c (.int .u64 32)), none⟩,
    ⟨(some 47), .bin .add (.t 44) (.t 46), none⟩,
    ⟨(some 4), .mov (.t 47), none⟩]) <|
  .seq (.reg [⟨(some 48), .mov (.t 0), none⟩,
    ⟨(some 49), .mov (.t 1), none⟩,
    ⟨(some 50), .bin .mul (.t 48) (.t 49), none⟩,
    ⟨(some 5), .mov (.t 50), none⟩]) <|
  .ret,
  [.t 4, .t 5]⟩
theorem F_math_bits_Mul64_ok : cFn PP true n_math_bits_Mul64 loops_math_bits_Mul64 (cDr PP 51 tbl_math_bits_Mul64) = some F_math_bits_Mul64 := by kernel_rfl


def V_math_bits_Mul64 (a0 : D) (a1 : D) (h0 : Heap) (K : D → Heap → Prop) : Prop :=
  vbin .and a0 (.int .u64 4294967295) fun a3 =>
  vbin .shr a0 (.int .u64 32) fun a4 =>
  vbin .and a1 (.int .u64 4294967295) fun a5 =>
  vbin .shr a1 (.int .u64 32) fun a6 =>
  vbin .mul a3 a5 fun a7 =>
  vbin .mul a4 a5 fun a8 =>
  vbin .shr a7 (.int .u64 32) fun a9 =>
  vbin .add a8 a9 fun a10 =>
  vbin .and a10 (.int .u64 4294967295) fun a11 =>
  vbin .shr a10 (.int .u64 32) fun a12 =>
  vbin .mul a3 a6 fun a13 =>
  vbin .add a11 a13 fun a14 =>
  vbin .mul a4 a6 fun a15 =>
  vbin .add a15 a12 fun a16 =>
  vbin .shr a14 (.int .u64 32) fun a17 =>
  vbin .add a16 a17 fun a18 =>
  vbin .mul a0 a1 fun a19 =>
  K (.tup [a18, a19]) h0
theorem V_math_bits_Mul64_ok (a0 : D) (a1 : D) (h0 : Heap) (K : D → Heap → Prop) : V_math_bits_Mul64 a0 a1 h0 K = vcC PP F_math_bits_Mul64.code (fun x e h' => match x with | .exit _ => False | _ => vcRet PP F_math_bits_Mul64.res K e h') (params [a0, a1] 0) h0 := by kernel_rfl

/-- warpwright/span.rest -/
def loops_span_rest : Nat → Option (List Nat × List Nat)
  | _ => none
def tbl_span_rest : Nat → Option (List Nat × List Nat × List Nat)
  | _ => none
def F_span_rest : AFunc := ⟨12,
  .seq (.reg [⟨(some 4), .mov (.c (.int .i64 0)), none⟩]) <|
  .seq (.reg [⟨(some 5), .mov (.t 0), none⟩,
    ⟨(some 6), .mov (.t 0), none⟩,
    ⟨(some 7), .mov (.t 1), none⟩,
    ⟨(some 8), .call n_span_floor [(.t 6), (.t 7)], none⟩,
    ⟨(some 9), .mov (.t 1), none⟩,
    ⟨(some 10), .bin .mul (.t 8) (.t 9), none⟩,
    ⟨(some 11), .bin .sub (.t 5) (.t 10), none⟩,
    ⟨(some 4), .mov (.t 11), none⟩]) <|
  .ret,
  [.t 4]⟩
theorem F_span_rest_ok : cFn PP true n_span_rest loops_span_rest (cDr PP 12 tbl_span_rest) = some F_span_rest := by kernel_rfl


def V_span_rest (a0 : D) (a1 : D) (h0 : Heap) (K : D → Heap → Prop) : Prop :=
  ACall PP n_span_floor [a0, a1] h0 fun a3 h4 =>
  vbin .mul a3 a1 fun a5 =>
  vbin .sub a0 a5 fun a6 =>
  K a6 h4
theorem V_span_rest_ok (a0 : D) (a1 : D) (h0 : Heap) (K : D → Heap → Prop) : V_span_rest a0 a1 h0 K = vcC PP F_span_rest.code (fun x e h' => match x with | .exit _ => False | _ => vcRet PP F_span_rest.res K e h') (params [a0, a1] 0) h0 := by kernel_rfl

/-- math/bits.Rem64 -/
def loops_math_bits_Rem64 : Nat → Option (List Nat × List Nat)
  | _ => none
def tbl_math_bits_Rem64 : Nat → Option (List Nat × List Nat × List Nat)
  | _ => none
def F_math_bits_Rem64 : AFunc := ⟨19,
  .seq (.reg [⟨(some 6), .mov (.c (.int .u64 0)), none⟩]) <|
  .seq (.reg [⟨(some 10), .mov (.t 0), none⟩,
    ⟨(some 11), .mov (.t 2), none⟩,
    ⟨(some 12), .bin .rem (.t 10) (.t 11), none⟩,
    ⟨(some 13), .mov (.t 1), none⟩,
    ⟨(some 14), .mov (.t 2), none⟩,
    ⟨(some 15), .call n_math_bits_Div64 [(.t 12), (.t 13), (.t 14)], none⟩,
    ⟨(some 9), .mov (.t 15), none⟩,
    ⟨(some 16), .ext (.t 9) 0, none⟩,
    ⟨(some 17), .ext (.t 9) 1, none⟩,
    ⟨(some 7), .mov (.t 16), none⟩,
    ⟨(some 8), .mov (.t 17), none⟩]) <|
  .seq (.reg [⟨(some 18), .mov (.t 8), none⟩,
    ⟨(some 6), .mov (.t 18), none⟩]) <|
  .ret,
  [.t 6]⟩
theorem F_math_bits_Rem64_ok : cFn PP true n_math_bits_Rem64 loops_math_bits_Rem64 (cDr PP 19 tbl_math_bits_Rem64) = some F_math_bits_Rem64 := by kernel_rfl


def V_math_bits_Rem64 (a0 : D) (a1 : D) (a2 : D) (h0 : Heap) (K : D → Heap → Prop) : Prop :=
  vbin .rem a0 a2 fun a4 =>
  ACall PP n_math_bits_Div64 [a4, a1, a2] h0 fun a5 h6 =>
  vhOp PP (.ext (.c a5) 0) h6 fun a7 h8 =>
  vhOp PP (.ext (.c a5) 1) h8 fun a9 h10 =>
  K a9 h10
theorem V_math_bits_Rem64_ok (a0 : D) (a1 : D) (a2 : D) (h0 : Heap) (K : D → Heap → Prop) : V_math_bits_Rem64 a0 a1 a2 h0 K = vcC PP F_math_bits_Rem64.code (fun x e h' => match x with | .exit _ => False | _ => vcRet PP F_math_bits_Rem64.res K e h') (params [a0, a1, a2] 0) h0 := by kernel_rfl

/-- warpwright/span.product -/
def loops_span_product : Nat → Option (List Nat × List Nat)
  | _ => none
def tbl_span_product : Nat → Option (List Nat × List Nat × List Nat)
  | _ => none
def F_span_product : AFunc := ⟨28,
  .seq (.reg [⟨(some 4), .mov (.c (.int .i64 0)), none⟩,
    ⟨(some 5), .mov (.c (.bool false)), none⟩]) <|
  .seq (.reg [⟨(some 6), .mov (.c (.fn n_span_product_F1 [] [])), none⟩]) <|
  .seq (.reg [⟨(some 10), .mov (.t 6), none⟩,
    ⟨(some 11), .mov (.t 0), none⟩,
    ⟨(some 12), .callv (.t 10) [(.t 11)], none⟩,
    ⟨(some 13), .mov (.t 6), none⟩,
    ⟨(some 14), .mov (.t 1), none⟩,
    ⟨(some 15), .callv (.t 13) [(.t 14)], none⟩,
    ⟨(some 16), .call n_math_bits_Mul64 [(.t 12), (.t 15)], none⟩,
    ⟨(some 9), .mov (.t 16), none⟩,
    ⟨(some 17), .ext (.t 9) 0, none⟩,
    ⟨(some 18), .ext (.t 9) 1, none⟩,
    ⟨(some 7), .mov (.t 17), none⟩,
    ⟨(some 8), .mov (.t 18), none⟩]) <|
  .seq (.reg [⟨(some 19), .mov (.t 0), none⟩,
    ⟨(some 20), .mov (.t 1), none⟩,
    ⟨(some 21), .bin .mul (.t 19) (.t 20), none⟩,
    ⟨(some 22), .mov (.t 7), none⟩,
    ⟨(some 23), .bin .eql (.t 22) (.c (.int .u64 0)), none⟩,
    ⟨(some 24), .mov (.t 23), none⟩,
    ⟨(some 25), .mov (.t 8), some (24, true)⟩,
    ⟨(some 26), .bin .leq (.t 25) (.c (.int .u64 1099511627776)), some (24, true)⟩,
    ⟨(some 27), .pick (.t 24) (.t 26) (.c (.bool false)), none⟩,
    ⟨(some 4), .mov (.t 21), none⟩,
    ⟨(some 5), .mov (.t 27), none⟩]) <|
  .ret,
  [.t 4, .t 5]⟩
theorem F_span_product_ok : cFn PP true n_span_product loops_span_product (cDr PP 28 tbl_span_product) = some F_span_product := by kernel_rfl


def V_span_product (a0 : D) (a1 : D) (h0 : Heap) (K : D → Heap → Prop) : Prop :=
  vhOp PP (.callv (.c (.fn n_span_product_F1 [] [])) [(.c a0)]) h0 fun a3 h4 =>
  vhOp PP (.callv (.c (.fn n_span_product_F1 [] [])) [(.c a1)]) h4 fun a5 h6 =>
  ACall PP n_math_bits_Mul64 [a3, a5] h6 fun a7 h8 =>
  vhOp PP (.ext (.c a7) 0) h8 fun a9 h10 =>
  vhOp PP (.ext (.c a7) 1) h10 fun a11 h12 =>
  vbin .mul a0 a1 fun a13 =>
  vbin .eql a9 (.int .u64 0) fun a14 =>
  vguard a14 true (fun G15 =>
  G15 a11 h12) h12 fun a16 h17 =>
  vguard a14 true (fun G18 =>
  vbin .leq a16 (.int .u64 1099511627776) fun a21 =>
  G18 a21 h17) h17 fun a19 h20 =>
  vhOp PP (.pick (.c a14) (.c a19) (.c (.bool false))) h20 fun a22 h23 =>
  K (.tup [a13, a22]) h23
theorem V_span_product_ok (a0 : D) (a1 : D) (h0 : Heap) (K : D → Heap → Prop) : V_span_product a0 a1 h0 K = vcC PP F_span_product.code (fun x e h' => match x with | .exit _ => False | _ => vcRet PP F_span_product.res K e h') (params [a0, a1] 0) h0 := by kernel_rfl

/-- warpwright/span.Sub -/
def loops_span_Sub : Nat → Option (List Nat × List Nat)
  | _ => none
def tbl_span_Sub : Nat → Option (List Nat × List Nat × List Nat)
  | 1 => some ([0, 1, 0, 4, 15, 0, 32, 0, 128, 480, 0, 1024, 0, 4096, 15360, 31744, 65535, 131071, 131071, 524287, 1048575], [19], []) | _ => none
def F_span_Sub : AFunc := ⟨25,
  .seq (.reg [⟨(some 2), .box (.t 0), none⟩,
    ⟨(some 3), .box (.t 1), none⟩,
    ⟨(some 4), .alloc (.agg [(.int .i64 0), (.int .i64 0), (.int .i64 0)]), none⟩,
    ⟨(some 5), .mov (.c (.int .i64 0)), none⟩]) <|
  .seq (.dreg [⟨(some 6), .fadd (.t 2) 0, none⟩,
    ⟨(some 7), .ld (.t 6) 1 false, none⟩,
    ⟨(some 8), .fadd (.t 3) 1, none⟩,
    ⟨(some 9), .ld (.t 8) 1 false, none⟩,
    ⟨(some 10), .bin .sub (.t 7) (.t 9), none⟩,
    ⟨(some 11), .fadd (.t 2) 1, none⟩,
    ⟨(some 12), .ld (.t 11) 1 false, none⟩,
    ⟨(some 13), .fadd (.t 3) 0, none⟩,
    ⟨(some 14), .ld (.t 13) 1 false, none⟩,
    ⟨(some 15), .bin .sub (.t 12) (.t 14), none⟩,
    ⟨(some 16), .fadd (.t 2) 2, none⟩,
    ⟨(some 17), .ld (.t 16) 1 false, none⟩,
    ⟨(some 18), .fadd (.t 3) 2, none⟩,
    ⟨(some 19), .ld (.t 18) 1 false, none⟩,
    ⟨(some 20), .bldS false 1 2 (.int .i64 0) [(0, (.t 17)), (1, (.t 19))], none⟩,
    ⟨(some 21), .call n_span_gcd [(.t 20)], none⟩,
    ⟨(some 22), .call n_span_bounded [(.t 10), (.t 15), (.t 21)], none⟩,
    ⟨(some 23), .ext (.t 22) 0, none⟩,
    ⟨(some 24), .ext (.t 22) 1, none⟩,
    ⟨(some 5), .mov (.t 24), none⟩] [⟨none, .st (.t 4) (.t 23) 3, none⟩] []) <|
  .ret,
  [.cell 4 3 true, .t 5]⟩
theorem F_span_Sub_ok : cFn PP true n_span_Sub loops_span_Sub (cDr PP 25 tbl_span_Sub) = some F_span_Sub := by kernel_rfl


def V_span_Sub (a0 : D) (a1 : D) (h0 : Heap) (K : D → Heap → Prop) : Prop :=
  vhOp PP (.box (.c a0)) h0 fun a3 h4 =>
  vhOp PP (.box (.c a1)) h4 fun a5 h6 =>
  vhOp PP (.alloc (.agg [(.int .i64 0), (.int .i64 0), (.int .i64 0)])) h6 fun a7 h8 =>
  vdOp PP (.fadd (.c a3) 0) h8 fun a9 =>
  vdOp PP (.ld (.c a9) 1 false) h8 fun a10 =>
  vdOp PP (.fadd (.c a5) 1) h8 fun a11 =>
  vdOp PP (.ld (.c a11) 1 false) h8 fun a12 =>
  vbin .sub a10 a12 fun a13 =>
  vdOp PP (.fadd (.c a3) 1) h8 fun a14 =>
  vdOp PP (.ld (.c a14) 1 false) h8 fun a15 =>
  vdOp PP (.fadd (.c a5) 0) h8 fun a16 =>
  vdOp PP (.ld (.c a16) 1 false) h8 fun a17 =>
  vbin .sub a15 a17 fun a18 =>
  vdOp PP (.fadd (.c a3) 2) h8 fun a19 =>
  vdOp PP (.ld (.c a19) 1 false) h8 fun a20 =>
  vdOp PP (.fadd (.c a5) 2) h8 fun a21 =>
  vdOp PP (.ld (.c a21) 1 false) h8 fun a22 =>
  vdOp PP (.bldS false 1 2 (.int .i64 0) [(0, (.c a20)), (1, (.c a22))]) h8 fun a23 =>
  vdOp PP (.call n_span_gcd [(.c a23)]) h8 fun a24 =>
  vdOp PP (.call n_span_bounded [(.c a13), (.c a18), (.c a24)]) h8 fun a25 =>
  vdOp PP (.ext (.c a25) 0) h8 fun a26 =>
  vdOp PP (.ext (.c a25) 1) h8 fun a27 =>
  vhOp PP (.st (.c a7) (.c a26) 3) h8 fun a28 h29 =>
  vhOp PP (.ld (.c a7) 3 true) h29 fun a30 _ =>
  K (.tup [a30, a27]) h29
theorem V_span_Sub_ok (a0 : D) (a1 : D) (h0 : Heap) (K : D → Heap → Prop) : V_span_Sub a0 a1 h0 K = vcC PP F_span_Sub.code (fun x e h' => match x with | .exit _ => False | _ => vcRet PP F_span_Sub.res K e h') (params [a0, a1] 0) h0 := by kernel_rfl

/-- warpwright/span.Mul -/
def loops_span_Mul : Nat → Option (List Nat × List Nat)
  | _ => none
def tbl_span_Mul : Nat → Option (List Nat × List Nat × List Nat)
  | _ => none
def F_span_Mul : AFunc := ⟨39,
  .seq (.reg [⟨(some 2), .box (.t 0), none⟩,
    ⟨(some 3), .box (.t 1), none⟩,
    ⟨(some 4), .alloc (.agg [(.int .i64 0), (.int .i64 0), (.int .i64 0)]), none⟩,
    ⟨(some 5), .mov (.c (.int .i64 0)), none⟩]) <|
  .seq (.reg [⟨(some 10), .ld (.t 2) 3 true, none⟩,
    ⟨(some 11), .ld (.t 3) 3 true, none⟩,
    ⟨(some 12), .call n_span_products [(.t 10), (.t 11)], none⟩,
    ⟨(some 9), .mov (.t 12), none⟩,
    ⟨(some 13), .ext (.t 9) 0, none⟩,
    ⟨(some 14), .ext (.t 9) 1, none⟩,
    ⟨(some 15), .ext (.t 9) 2, none⟩,
    ⟨(some 6), .mov (.t 13), none⟩,
    ⟨(some 7), .mov (.t 14), none⟩,
    ⟨(some 8), .mov (.t 15), none⟩]) <|
  .seq (.seq (.reg [⟨(some 16), .mov (.t 8), none⟩,
    ⟨(some 17), .un .not (.t 16), none⟩]) <|
  .cond (.t 17) (.seq (.reg [⟨(some 18), .bld [(.int .i64 0), (.int .i64 0), (.int .i64 0)] [], none⟩,
    ⟨none, .st (.t 4) (.t 18) 3, none⟩,
    ⟨(some 5), .mov (.c (.int .i64 2)), none⟩]) <|
  .ret) (.skip)) <|
  .seq (.reg [⟨(some 19), .mov (.t 6), none⟩,
    ⟨(some 20), .mov (.t 7), none⟩,
    ⟨(some 21), .fadd (.t 2) 0, none⟩,
    ⟨(some 22), .ld (.t 21) 1 false, none⟩,
    ⟨(some 23), .fadd (.t 3) 2, none⟩,
    ⟨(some 24), .ld (.t 23) 1 false, none⟩,
    ⟨(some 25), .bin .mul (.t 22) (.t 24), none⟩,
    ⟨(some 26), .fadd (.t 3) 0, none⟩,
    ⟨(some 27), .ld (.t 26) 1 false, none⟩,
    ⟨(some 28), .fadd (.t 2) 2, none⟩,
    ⟨(some 29), .ld (.t 28) 1 false, none⟩,
    ⟨(some 30), .bin .mul (.t 27) (.t 29), none⟩,
    ⟨(some 31), .fadd (.t 2) 2, none⟩,
    ⟨(some 32), .ld (.t 31) 1 false, none⟩,
    ⟨(some 33), .fadd (.t 3) 2, none⟩,
    ⟨(some 34), .ld (.t 33) 1 false, none⟩,
    ⟨(some 35), .bin .mul (.t 32) (.t 34), none⟩,
    ⟨(some 36), .bldS true 1 3 (.int .i64 0) [(0, (.t 25)), (1, (.t 30)), (2, (.t 35))], none⟩,
    ⟨(some 37), .call n_span_gcd [(.t 36)], none⟩,
    ⟨(some 38), .call n_span_made [(.t 19), (.t 20), (.t 37)], none⟩,
    ⟨none, .st (.t 4) (.t 38) 3, none⟩,
    ⟨(some 5), .mov (.c (.int .i64 0)), none⟩]) <|
  .ret,
  [.cell 4 3 true, .t 5]⟩
theorem F_span_Mul_ok : cFn PP true n_span_Mul loops_span_Mul (cDr PP 39 tbl_span_Mul) = some F_span_Mul := by kernel_rfl


def V_span_Mul (a0 : D) (a1 : D) (h0 : Heap) (K : D → Heap → Prop) : Prop :=
  vhOp PP (.box (.c a0)) h0 fun a3 h4 =>
  vhOp PP (.box (.c a1)) h4 fun a5 h6 =>
  vhOp PP (.alloc (.agg [(.int .i64 0), (.int .i64 0), (.int .i64 0)])) h6 fun a7 h8 =>
  vhOp PP (.ld (.c a3) 3 true) h8 fun a9 h10 =>
  vhOp PP (.ld (.c a5) 3 true) h10 fun a11 h12 =>
  ACall PP n_span_products [a9, a11] h12 fun a13 h14 =>
  vhOp PP (.ext (.c a13) 0) h14 fun a15 h16 =>
  vhOp PP (.ext (.c a13) 1) h16 fun a17 h18 =>
  vhOp PP (.ext (.c a13) 2) h18 fun a19 h20 =>
  vun .not a19 fun a21 =>
  vcond a21 (vhOp PP (.bld [(.int .i64 0), (.int .i64 0), (.int .i64 0)] []) h20 fun a22 h23 =>
  vhOp PP (.st (.c a7) (.c a22) 3) h23 fun a24 h25 =>
  vhOp PP (.ld (.c a7) 3 true) h25 fun a26 _ =>
  K (.tup [a26, (.int .i64 2)]) h25) (
  vhOp PP (.fadd (.c a3) 0) h20 fun a27 h28 =>
  vhOp PP (.ld (.c a27) 1 false) h28 fun a29 h30 =>
  vhOp PP (.fadd (.c a5) 2) h30 fun a31 h32 =>
  vhOp PP (.ld (.c a31) 1 false) h32 fun a33 h34 =>
  vbin .mul a29 a33 fun a35 =>
  vhOp PP (.fadd (.c a5) 0) h34 fun a36 h37 =>
  vhOp PP (.ld (.c a36) 1 false) h37 fun a38 h39 =>
  vhOp PP (.fadd (.c a3) 2) h39 fun a40 h41 =>
  vhOp PP (.ld (.c a40) 1 false) h41 fun a42 h43 =>
  vbin .mul a38 a42 fun a44 =>
  vhOp PP (.fadd (.c a3) 2) h43 fun a45 h46 =>
  vhOp PP (.ld (.c a45) 1 false) h46 fun a47 h48 =>
  vhOp PP (.fadd (.c a5) 2) h48 fun a49 h50 =>
  vhOp PP (.ld (.c a49) 1 false) h50 fun a51 h52 =>
  vbin .mul a47 a51 fun a53 =>
  vhOp PP (.bldS true 1 3 (.int .i64 0) [(0, (.c a35)), (1, (.c a44)), (2, (.c a53))]) h52 fun a54 h55 =>
  ACall PP n_span_gcd [a54] h55 fun a56 h57 =>
  ACall PP n_span_made [a15, a17, a56] h57 fun a58 h59 =>
  vhOp PP (.st (.c a7) (.c a58) 3) h59 fun a60 h61 =>
  vhOp PP (.ld (.c a7) 3 true) h61 fun a62 _ =>
  K (.tup [a62, (.int .i64 0)]) h61)
theorem V_span_Mul_ok (a0 : D) (a1 : D) (h0 : Heap) (K : D → Heap → Prop) : V_span_Mul a0 a1 h0 K = vcC PP F_span_Mul.code (fun x e h' => match x with | .exit _ => False | _ => vcRet PP F_span_Mul.res K e h') (params [a0, a1] 0) h0 := by kernel_rfl

/-- warpwright/affine.by$1 -/
def loops_affine_by_F1 : Nat → Option (List Nat × List Nat)
  | _ => none
def tbl_affine_by_F1 : Nat → Option (List Nat × List Nat × List Nat)
  | _ => none
def F_affine_by_F1 : AFunc := ⟨22,
  .seq (.reg [⟨(some 4), .box (.t 0), none⟩,
    ⟨(some 5), .box (.t 1), none⟩,
    ⟨(some 6), .box (.t 2), none⟩,
    ⟨(some 7), .alloc (.agg [(.bool false), (.int .i64 0), (.int .i64 0), (.int .i64 0), (.int .i64 0), (.int .i64 0), (.int .i64 0)]), none⟩]) <|
  .seq (.seq (.reg [⟨(some 11), .ld (.t 6) 7 true, none⟩,
    ⟨(some 12), .call n_affine_constant [(.t 11)], none⟩,
    ⟨(some 10), .mov (.t 12), none⟩,
    ⟨(some 13), .ext (.t 10) 0, none⟩,
    ⟨(some 14), .ext (.t 10) 1, none⟩,
    ⟨(some 8), .mov (.t 13), none⟩,
    ⟨(some 9), .mov (.t 14), none⟩]) <|
  .seq (.reg [⟨(some 15), .mov (.t 9), none⟩]) <|
  .cond (.t 15) (.seq (.reg [⟨(some 16), .ld (.t 3) 1 false, none⟩,
    ⟨(some 17), .ld (.t 4) 9 true, none⟩,
    ⟨(some 18), .ld (.t 5) 7 true, none⟩,
    ⟨(some 19), .mov (.t 8), none⟩,
    ⟨(some 20), .callv (.t 16) [(.t 17), (.t 18), (.t 19)], none⟩,
    ⟨none, .st (.t 7) (.t 20) 7, none⟩]) <|
  .ret) (.skip)) <|
  .seq (.reg [⟨(some 21), .call n_affine_unknown [], none⟩,
    ⟨none, .st (.t 7) (.t 21) 7, none⟩]) <|
  .ret,
  [.cell 7 7 true]⟩
theorem F_affine_by_F1_ok : cFn PP true n_affine_by_F1 loops_affine_by_F1 (cDr PP 22 tbl_affine_by_F1) = some F_affine_by_F1 := by kernel_rfl


def V_affine_by_F1 (a0 : D) (a1 : D) (a2 : D) (a3 : D) (h0 : Heap) (K : D → Heap → Prop) : Prop :=
  vhOp PP (.box (.c a0)) h0 fun a5 h6 =>
  vhOp PP (.box (.c a1)) h6 fun a7 h8 =>
  vhOp PP (.box (.c a2)) h8 fun a9 h10 =>
  vhOp PP (.alloc (.agg [(.bool false), (.int .i64 0), (.int .i64 0), (.int .i64 0), (.int .i64 0), (.int .i64 0), (.int .i64 0)])) h10 fun a11 h12 =>
  vhOp PP (.ld (.c a9) 7 true) h12 fun a13 h14 =>
  ACall PP n_affine_constant [a13] h14 fun a15 h16 =>
  vhOp PP (.ext (.c a15) 0) h16 fun a17 h18 =>
  vhOp PP (.ext (.c a15) 1) h18 fun a19 h20 =>
  vcond a19 (vhOp PP (.ld (.c a3) 1 false) h20 fun a21 h22 =>
  vhOp PP (.ld (.c a5) 9 true) h22 fun a23 h24 =>
  vhOp PP (.ld (.c a7) 7 true) h24 fun a25 h26 =>
  vhOp PP (.callv (.c a21) [(.c a23), (.c a25), (.c a17)]) h26 fun a27 h28 =>
  vhOp PP (.st (.c a11) (.c a27) 7) h28 fun a29 h30 =>
  vhOp PP (.ld (.c a11) 7 true) h30 fun a31 _ =>
  K a31 h30) (
  ACall PP n_affine_unknown [] h20 fun a32 h33 =>
  vhOp PP (.st (.c a11) (.c a32) 7) h33 fun a34 h35 =>
  vhOp PP (.ld (.c a11) 7 true) h35 fun a36 _ =>
  K a36 h35)
theorem V_affine_by_F1_ok (a0 : D) (a1 : D) (a2 : D) (a3 : D) (h0 : Heap) (K : D → Heap → Prop) : V_affine_by_F1 a0 a1 a2 a3 h0 K = vcC PP F_affine_by_F1.code (fun x e h' => match x with | .exit _ => False | _ => vcRet PP F_affine_by_F1.res K e h') (params [a0, a1, a2, a3] 0) h0 := by kernel_rfl

/-- warpwright/span.Mod -/
def loops_span_Mod : Nat → Option (List Nat × List Nat)
  | _ => none
def tbl_span_Mod : Nat → Option (List Nat × List Nat × List Nat)
  | _ => none
def F_span_Mod : AFunc := ⟨36,
  .seq (.reg [⟨(some 2), .box (.t 0), none⟩,
    ⟨(some 4), .alloc (.agg [(.int .i64 0), (.int .i64 0), (.int .i64 0)]), none⟩,
    ⟨(some 5), .mov (.c (.int .i64 0)), none⟩]) <|
  .seq (.seq (.reg [⟨(some 8), .mov (.t 1), none⟩,
    ⟨(some 9), .bin .lss (.t 8) (.c (.int .i64 1)), none⟩,
    ⟨(some 10), .mov (.t 9), none⟩,
    ⟨(some 11), .mov (.t 1), some (10, false)⟩,
    ⟨(some 12), .bin .gtr (.t 11) (.c (.int .i64 1099511627776)), some (10, false)⟩,
    ⟨(some 13), .pick (.t 10) (.c (.bool true)) (.t 12), none⟩]) <|
  .cond (.t 13) (.seq (.reg [⟨(some 14), .bld [(.int .i64 0), (.int .i64 0), (.int .i64 0)] [], none⟩,
    ⟨none, .st (.t 4) (.t 14) 3, none⟩,
    ⟨(some 5), .mov (.c (.int .i64 1)), none⟩]) <|
  .ret) (.skip)) <|
  .seq (.reg [⟨(some 15), .fadd (.t 2) 2, none⟩,
    ⟨(some 16), .ld (.t 15) 1 false, none⟩,
    ⟨(some 17), .mov (.t 1), none⟩,
    ⟨(some 18), .bldS true 1 2 (.int .i64 0) [(0, (.t 16)), (1, (.t 17))], none⟩,
    ⟨(some 19), .call n_span_gcd [(.t 18)], none⟩,
    ⟨(some 6), .mov (.t 19), none⟩]) <|
  .seq (.reg [⟨(some 20), .fadd (.t 2) 0, none⟩,
    ⟨(some 21), .ld (.t 20) 1 false, none⟩,
    ⟨(some 22), .mov (.t 6), none⟩,
    ⟨(some 23), .call n_span_rest [(.t 21), (.t 22)], none⟩,
    ⟨(some 7), .mov (.t 23), none⟩]) <|
  .seq (.reg [⟨(some 24), .mov (.t 7), none⟩,
    ⟨(some 25), .mov (.t 1), none⟩,
    ⟨(some 26), .bin .sub (.t 25) (.c (.int .i64 1)), none⟩,
    ⟨(some 27), .mov (.t 1), none⟩,
    ⟨(some 28), .bin .sub (.t 27) (.c (.int .i64 1)), none⟩,
    ⟨(some 29), .mov (.t 7), none⟩,
    ⟨(some 30), .bin .sub (.t 28) (.t 29), none⟩,
    ⟨(some 31), .mov (.t 6), none⟩,
    ⟨(some 32), .call n_span_rest [(.t 30), (.t 31)], none⟩,
    ⟨(some 33), .bin .sub (.t 26) (.t 32), none⟩,
    ⟨(some 34), .mov (.t 6), none⟩,
    ⟨(some 35), .call n_span_made [(.t 24), (.t 33), (.t 34)], none⟩,
    ⟨none, .st (.t 4) (.t 35) 3, none⟩,
    ⟨(some 5), .mov (.c (.int .i64 0)), none⟩]) <|
  .ret,
  [.cell 4 3 true, .t 5]⟩
theorem F_span_Mod_ok : cFn PP true n_span_Mod loops_span_Mod (cDr PP 36 tbl_span_Mod) = some F_span_Mod := by kernel_rfl


def V_span_Mod (a0 : D) (a1 : D) (h0 : Heap) (K : D → Heap → Prop) : Prop :=
  vhOp PP (.box (.c a0)) h0 fun a3 h4 =>
  vhOp PP (.alloc (.agg [(.int .i64 0), (.int .i64 0), (.int .i64 0)])) h4 fun a5 h6 =>
  vbin .lss a1 (.int .i64 1) fun a7 =>
  vguard a7 false (fun G8 =>
  G8 a1 h6) h6 fun a9 h10 =>
  vguard a7 false (fun G11 =>
  vbin .gtr a9 (.int .i64 1099511627776) fun a14 =>
  G11 a14 h10) h10 fun a12 h13 =>
  vhOp PP (.pick (.c a7) (.c (.bool true)) (.c a12)) h13 fun a15 h16 =>
  vcond a15 (vhOp PP (.bld [(.int .i64 0), (.int .i64 0), (.int .i64 0)] []) h16 fun a17 h18 =>
  vhOp PP (.st (.c a5) (.c a17) 3) h18 fun a19 h20 =>
  vhOp PP (.ld (.c a5) 3 true) h20 fun a21 _ =>
  K (.tup [a21, (.int .i64 1)]) h20) (
  vhOp PP (.fadd (.c a3) 2) h16 fun a22 h23 =>
  vhOp PP (.ld (.c a22) 1 false) h23 fun a24 h25 =>
  vhOp PP (.bldS true 1 2 (.int .i64 0) [(0, (.c a24)), (1, (.c a1))]) h25 fun a26 h27 =>
  ACall PP n_span_gcd [a26] h27 fun a28 h29 =>
  vhOp PP (.fadd (.c a3) 0) h29 fun a30 h31 =>
  vhOp PP (.ld (.c a30) 1 false) h31 fun a32 h33 =>
  ACall PP n_span_rest [a32, a28] h33 fun a34 h35 =>
  vbin .sub a1 (.int .i64 1) fun a36 =>
  vbin .sub a1 (.int .i64 1) fun a37 =>
  vbin .sub a37 a34 fun a38 =>
  ACall PP n_span_rest [a38, a28] h35 fun a39 h40 =>
  vbin .sub a36 a39 fun a41 =>
  ACall PP n_span_made [a34, a41, a28] h40 fun a42 h43 =>
  vhOp PP (.st (.c a5) (.c a42) 3) h43 fun a44 h45 =>
  vhOp PP (.ld (.c a5) 3 true) h45 fun a46 _ =>
  K (.tup [a46, (.int .i64 0)]) h45)
theorem V_span_Mod_ok (a0 : D) (a1 : D) (h0 : Heap) (K : D → Heap → Prop) : V_span_Mod a0 a1 h0 K = vcC PP F_span_Mod.code (fun x e h' => match x with | .exit _ => False | _ => vcRet PP F_span_Mod.res K e h') (params [a0, a1] 0) h0 := by kernel_rfl

/-- warpwright/affine.ranged$1 -/
def loops_affine_ranged_F1 : Nat → Option (List Nat × List Nat)
  | _ => none
def tbl_affine_ranged_F1 : Nat → Option (List Nat × List Nat × List Nat)
  | _ => none
def F_affine_ranged_F1 : AFunc := ⟨35,
  .seq (.reg [⟨(some 4), .box (.t 0), none⟩,
    ⟨(some 5), .box (.t 1), none⟩,
    ⟨(some 6), .box (.t 2), none⟩,
    ⟨(some 7), .alloc (.agg [(.bool false), (.int .i64 0), (.int .i64 0), (.int .i64 0), (.int .i64 0), (.int .i64 0), (.int .i64 0)]), none⟩]) <|
  .seq (.reg [⟨(some 13), .ld (.t 4) 9 true, none⟩,
    ⟨(some 14), .ld (.t 5) 7 true, none⟩,
    ⟨(some 15), .call n_affine_space_span [(.t 13), (.t 14)], none⟩,
    ⟨(some 12), .mov (.t 15), none⟩,
    ⟨(some 16), .ext (.t 12) 0, none⟩,
    ⟨(some 17), .ext (.t 12) 1, none⟩,
    ⟨(some 8), .alloc (.agg [(.int .i64 0), (.int .i64 0), (.int .i64 0)]), none⟩,
    ⟨none, .st (.t 8) (.t 16) 3, none⟩,
    ⟨(some 9), .mov (.t 17), none⟩]) <|
  .seq (.reg [⟨(some 19), .ld (.t 4) 9 true, none⟩,
    ⟨(some 20), .ld (.t 6) 7 true, none⟩,
    ⟨(some 21), .call n_affine_space_span [(.t 19), (.t 20)], none⟩,
    ⟨(some 18), .mov (.t 21), none⟩,
    ⟨(some 22), .ext (.t 18) 0, none⟩,
    ⟨(some 23), .ext (.t 18) 1, none⟩,
    ⟨(some 10), .alloc (.agg [(.int .i64 0), (.int .i64 0), (.int .i64 0)]), none⟩,
    ⟨none, .st (.t 10) (.t 22) 3, none⟩,
    ⟨(some 11), .mov (.t 23), none⟩]) <|
  .seq (.seq (.reg [⟨(some 24), .mov (.t 9), none⟩,
    ⟨(some 25), .un .not (.t 24), none⟩,
    ⟨(some 26), .mov (.t 25), none⟩,
    ⟨(some 27), .mov (.t 11), some (26, false)⟩,
    ⟨(some 28), .un .not (.t 27), some (26, false)⟩,
    ⟨(some 29), .pick (.t 26) (.c (.bool true)) (.t 28), none⟩]) <|
  .cond (.t 29) (.seq (.reg [⟨(some 30), .call n_affine_unknown [], none⟩,
    ⟨none, .st (.t 7) (.t 30) 7, none⟩]) <|
  .ret) (.skip)) <|
  .seq (.reg [⟨(some 31), .ld (.t 3) 1 false, none⟩,
    ⟨(some 32), .ld (.t 8) 3 true, none⟩,
    ⟨(some 33), .ld (.t 10) 3 true, none⟩,
    ⟨(some 34), .callv (.t 31) [(.t 32), (.t 33)], none⟩,
    ⟨none, .st (.t 7) (.t 34) 7, none⟩]) <|
  .ret,
  [.cell 7 7 true]⟩
theorem F_affine_ranged_F1_ok : cFn PP true n_affine_ranged_F1 loops_affine_ranged_F1 (cDr PP 35 tbl_affine_ranged_F1) = some F_affine_ranged_F1 := by kernel_rfl


def V_affine_ranged_F1 (a0 : D) (a1 : D) (a2 : D) (a3 : D) (h0 : Heap) (K : D → Heap → Prop) : Prop :=
  vhOp PP (.box (.c a0)) h0 fun a5 h6 =>
  vhOp PP (.box (.c a1)) h6 fun a7 h8 =>
  vhOp PP (.box (.c a2)) h8 fun a9 h10 =>
  vhOp PP (.alloc (.agg [(.bool false), (.int .i64 0), (.int .i64 0), (.int .i64 0), (.int .i64 0), (.int .i64 0), (.int .i64 0)])) h10 fun a11 h12 =>
  vhOp PP (.ld (.c a5) 9 true) h12 fun a13 h14 =>
  vhOp PP (.ld (.c a7) 7 true) h14 fun a15 h16 =>
  ACall PP n_affine_space_span [a13, a15] h16 fun a17 h18 =>
  vhOp PP (.ext (.c a17) 0) h18 fun a19 h20 =>
  vhOp PP (.ext (.c a17) 1) h20 fun a21 h22 =>
  vhOp PP (.alloc (.agg [(.int .i64 0), (.int .i64 0), (.int .i64 0)])) h22 fun a23 h24 =>
  vhOp PP (.st (.c a23) (.c a19) 3) h24 fun a25 h26 =>
  vhOp PP (.ld (.c a5) 9 true) h26 fun a27 h28 =>
  vhOp PP (.ld (.c a9) 7 true) h28 fun a29 h30 =>
  ACall PP n_affine_space_span [a27, a29] h30 fun a31 h32 =>
  vhOp PP (.ext (.c a31) 0) h32 fun a33 h34 =>
  vhOp PP (.ext (.c a31) 1) h34 fun a35 h36 =>
  vhOp PP (.alloc (.agg [(.int .i64 0), (.int .i64 0), (.int .i64 0)])) h36 fun a37 h38 =>
  vhOp PP (.st (.c a37) (.c a33) 3) h38 fun a39 h40 =>
  vun .not a21 fun a41 =>
  vguard a41 false (fun G42 =>
  G42 a35 h40) h40 fun a43 h44 =>
  vguard a41 false (fun G45 =>
  vun .not a43 fun a48 =>
  G45 a48 h44) h44 fun a46 h47 =>
  vhOp PP (.pick (.c a41) (.c (.bool true)) (.c a46)) h47 fun a49 h50 =>
  vcond a49 (ACall PP n_affine_unknown [] h50 fun a51 h52 =>
  vhOp PP (.st (.c a11) (.c a51) 7) h52 fun a53 h54 =>
  vhOp PP (.ld (.c a11) 7 true) h54 fun a55 _ =>
  K a55 h54) (
  vhOp PP (.ld (.c a3) 1 false) h50 fun a56 h57 =>
  vhOp PP (.ld (.c a23) 3 true) h57 fun a58 h59 =>
  vhOp PP (.ld (.c a37) 3 true) h59 fun a60 h61 =>
  vhOp PP (.callv (.c a56) [(.c a58), (.c a60)]) h61 fun a62 h63 =>
  vhOp PP (.st (.c a11) (.c a62) 7) h63 fun a64 h65 =>
  vhOp PP (.ld (.c a11) 7 true) h65 fun a66 _ =>
  K a66 h65)
theorem V_affine_ranged_F1_ok (a0 : D) (a1 : D) (a2 : D) (a3 : D) (h0 : Heap) (K : D → Heap → Prop) : V_affine_ranged_F1 a0 a1 a2 a3 h0 K = vcC PP F_affine_ranged_F1.code (fun x e h' => match x with | .exit _ => False | _ => vcRet PP F_affine_ranged_F1.res K e h') (params [a0, a1, a2, a3] 0) h0 := by kernel_rfl

/-- warpwright/span.product$1 -/
def loops_span_product_F1 : Nat → Option (List Nat × List Nat)
  | _ => none
def tbl_span_product_F1 : Nat → Option (List Nat × List Nat × List Nat)
  | _ => none
def F_span_product_F1 : AFunc := ⟨10,
  .seq (.reg [⟨(some 2), .mov (.c (.int .u64 0)), none⟩]) <|
  .seq (.seq (.reg [⟨(some 3), .mov (.t 0), none⟩,
    ⟨(some 4), .bin .lss (.t 3) (.c (.int .i64 0)), none⟩]) <|
  .cond (.t 4) (.seq (.reg [⟨(some 5), .mov (.t 0), none⟩,
    ⟨(some 6), .conv .u64 (.t 5), none⟩,
    ⟨(some 7), .un .neg (.t 6), none⟩,
    ⟨(some 2), .mov (.t 7), none⟩]) <|
  .ret) (.skip)) <|
  .seq (.reg [⟨(some 8), .mov (.t 0), none⟩,
    ⟨(some 9), .conv .u64 (.t 8), none⟩,
    ⟨(some 2), .mov (.t 9), none⟩]) <|
  .ret,
  [.t 2]⟩
theorem F_span_product_F1_ok : cFn PP true n_span_product_F1 loops_span_product_F1 (cDr PP 10 tbl_span_product_F1) = some F_span_product_F1 := by kernel_rfl


def V_span_product_F1 (a0 : D) (h0 : Heap) (K : D → Heap → Prop) : Prop :=
  vbin .lss a0 (.int .i64 0) fun a2 =>
  vcond a2 (vhOp PP (.conv .u64 (.c a0)) h0 fun a3 h4 =>
  vun .neg a3 fun a5 =>
  K a5 h4) (
  vhOp PP (.conv .u64 (.c a0)) h0 fun a6 h7 =>
  K a6 h7)
theorem V_span_product_F1_ok (a0 : D) (h0 : Heap) (K : D → Heap → Prop) : V_span_product_F1 a0 h0 K = vcC PP F_span_product_F1.code (fun x e h' => match x with | .exit _ => False | _ => vcRet PP F_span_product_F1.res K e h') (params [a0] 0) h0 := by kernel_rfl

/-- math/bits.LeadingZeros64 -/
def loops_math_bits_LeadingZeros64 : Nat → Option (List Nat × List Nat)
  | _ => none
def tbl_math_bits_LeadingZeros64 : Nat → Option (List Nat × List Nat × List Nat)
  | _ => none
def F_math_bits_LeadingZeros64 : AFunc := ⟨6,
  .seq (.reg [⟨(some 2), .mov (.c (.int .i64 0)), none⟩]) <|
  .seq (.reg [⟨(some 3), .mov (.t 0), none⟩,
    ⟨(some 4), .call n_math_bits_Len64 [(.t 3)], none⟩,
    ⟨(some 5), .bin .sub (.c (.int .i64 64)) (.t 4), none⟩,
    ⟨(some 2), .mov (.t 5), none⟩]) <|
  .ret,
  [.t 2]⟩
theorem F_math_bits_LeadingZeros64_ok : cFn PP true n_math_bits_LeadingZeros64 loops_math_bits_LeadingZeros64 (cDr PP 6 tbl_math_bits_LeadingZeros64) = some F_math_bits_LeadingZeros64 := by kernel_rfl


def V_math_bits_LeadingZeros64 (a0 : D) (h0 : Heap) (K : D → Heap → Prop) : Prop :=
  ACall PP n_math_bits_Len64 [a0] h0 fun a2 h3 =>
  vbin .sub (.int .i64 64) a2 fun a4 =>
  K a4 h3
theorem V_math_bits_LeadingZeros64_ok (a0 : D) (h0 : Heap) (K : D → Heap → Prop) : V_math_bits_LeadingZeros64 a0 h0 K = vcC PP F_math_bits_LeadingZeros64.code (fun x e h' => match x with | .exit _ => False | _ => vcRet PP F_math_bits_LeadingZeros64.res K e h') (params [a0] 0) h0 := by kernel_rfl

/-- math/bits.Len64 -/
def loops_math_bits_Len64 : Nat → Option (List Nat × List Nat)
  | 1000005 => some ([], [0, 2]) | 1000008 => some ([], [0, 2]) | 1000011 => some ([], [0, 2]) | _ => none
def tbl_math_bits_Len64 : Nat → Option (List Nat × List Nat × List Nat)
  | _ => none
def F_math_bits_Len64 : AFunc := ⟨25,
  .seq (.reg [⟨(some 2), .mov (.c (.int .i64 0)), none⟩]) <|
  .seqj [] [0, 2] (.seq (.reg [⟨(some 3), .mov (.t 0), none⟩,
    ⟨(some 4), .bin .geq (.t 3) (.c (.int .u64 4294967296)), none⟩]) <|
  .cond (.t 4) (.seq (.reg [⟨(some 5), .mov (.t 0), none⟩,
    ⟨(some 6), .bin .shr (.t 5) (.c (.int .u64 32)), none⟩,
    ⟨(some 0), .mov (.t 6), none⟩]) <|
  .reg [⟨(some 2), .mov (.c (.int .i64 32)), none⟩]) (.skip)) <|
  .seqj [] [0, 2] (.seq (.reg [⟨(some 7), .mov (.t 0), none⟩,
    ⟨(some 8), .bin .geq (.t 7) (.c (.int .u64 65536)), none⟩]) <|
  .cond (.t 8) (.seq (.reg [⟨(some 9), .mov (.t 0), none⟩,
    ⟨(some 10), .bin .shr (.t 9) (.c (.int .u64 16)), none⟩,
    ⟨(some 0), .mov (.t 10), none⟩]) <|
  .reg [⟨(some 11), .mov (.t 2), none⟩,
    ⟨(some 12), .bin .add (.t 11) (.c (.int .i64 16)), none⟩,
    ⟨(some 2), .mov (.t 12), none⟩]) (.skip)) <|
  .seqj [] [0, 2] (.seq (.reg [⟨(some 13), .mov (.t 0), none⟩,
    ⟨(some 14), .bin .geq (.t 13) (.c (.int .u64 256)), none⟩]) <|
  .cond (.t 14) (.seq (.reg [⟨(some 15), .mov (.t 0), none⟩,
    ⟨(some 16), .bin .shr (.t 15) (.c (.int .u64 8)), none⟩,
    ⟨(some 0), .mov (.t 16), none⟩]) <|
  .reg [⟨(some 17), .mov (.t 2), none⟩,
    ⟨(some 18), .bin .add (.t 17) (.c (.int .i64 8)), none⟩,
    ⟨(some 2), .mov (.t 18), none⟩]) (.skip)) <|
  .seq (.reg [⟨(some 19), .mov (.t 2), none⟩,
    ⟨(some 20), .mov (.t 0), none⟩,
    ⟨(some 21), .conv .u8 (.t 20), none⟩,
    ⟨(some 22), .sidx (.c (.str ⟨#[0, 1, 2, 2, 3, 3, 3, 3, 4, 4, 4, 4, 4, 4, 4, 4, 5, 5, 5, 5, 5, 5, 5, 5, 5, 5, 5, 5, 5, 5, 5, 5, 6, 6, 6, 6, 6, 6, 6, 6, 6, 6, 6, 6, 6, 6, 6, 6, 6, 6, 6, 6, 6, 6, 6, 6, 6, 6, 6, 6, 6, 6, 6, 6, 7, 7, 7, 7, 7, 7, 7, 7, 7, 7, 7, 7, 7, 7, 7, 7, 7, 7, 7, 7, 7, 7, 7, 7, 7, 7, 7, 7, 7, 7, 7, 7, 7, 7, 7, 7, 7, 7, 7, 7, 7, 7, 7, 7, 7, 7, 7, 7, 7, 7, 7, 7, 7, 7, 7, 7, 7, 7, 7, 7, 7, 7, 7, 7, 8, 8, 8, 8, 8, 8, 8, 8, 8, 8, 8, 8, 8, 8, 8, 8, 8, 8, 8, 8, 8, 8, 8, 8, 8, 8, 8, 8, 8, 8, 8, 8, 8, 8, 8, 8, 8, 8, 8, 8, 8, 8, 8, 8, 8, 8, 8, 8, 8, 8, 8, 8, 8, 8, 8, 8, 8, 8, 8, 8, 8, 8, 8, 8, 8, 8, 8, 8, 8, 8, 8, 8, 8, 8, 8, 8, 8, 8, 8, 8, 8, 8, 8, 8, 8, 8, 8, 8, 8, 8, 8, 8, 8, 8, 8, 8, 8, 8, 8, 8, 8, 8, 8, 8, 8, 8, 8, 8, 8, 8, 8, 8, 8, 8, 8, 8, 8, 8, 8, 8, 8, 8, 8, 8, 8, 8, 8, 8]⟩)) (.t 21) 0 0 false, none⟩,
    ⟨(some 23), .conv .i64 (.t 22), none⟩,
    ⟨(some 24), .bin .add (.t 19) (.t 23), none⟩,
    ⟨(some 2), .mov (.t 24), none⟩]) <|
  .ret,
  [.t 2]⟩
theorem F_math_bits_Len64_ok : cFn PP true n_math_bits_Len64 loops_math_bits_Len64 (cDr PP 25 tbl_math_bits_Len64) = some F_math_bits_Len64 := by kernel_rfl


def V_math_bits_Len64 (a0 : D) (h0 : Heap) (K : D → Heap → Prop) : Prop :=
  ∃ (J2 : List D → Heap → Prop), (∀ (f3 : Nat → D) (h4 : Heap), J2 [f3 0, f3 2] h4 →
  ∃ (J5 : List D → Heap → Prop), (∀ (f6 : Nat → D) (h7 : Heap), J5 [f6 0, f6 2] h7 →
  ∃ (J8 : List D → Heap → Prop), (∀ (f9 : Nat → D) (h10 : Heap), J8 [f9 0, f9 2] h10 →
  vhOp PP (.conv .u8 (.c (f9 0))) h10 fun a11 h12 =>
  vhOp PP (.sidx (.c (.str ⟨#[0, 1, 2, 2, 3, 3, 3, 3, 4, 4, 4, 4, 4, 4, 4, 4, 5, 5, 5, 5, 5, 5, 5, 5, 5, 5, 5, 5, 5, 5, 5, 5, 6, 6, 6, 6, 6, 6, 6, 6, 6, 6, 6, 6, 6, 6, 6, 6, 6, 6, 6, 6, 6, 6, 6, 6, 6, 6, 6, 6, 6, 6, 6, 6, 7, 7, 7, 7, 7, 7, 7, 7, 7, 7, 7, 7, 7, 7, 7, 7, 7, 7, 7, 7, 7, 7, 7, 7, 7, 7, 7, 7, 7, 7, 7, 7, 7, 7, 7, 7, 7, 7, 7, 7, 7, 7, 7, 7, 7, 7, 7, 7, 7, 7, 7, 7, 7, 7, 7, 7, 7, 7, 7, 7, 7, 7, 7, 7, 8, 8, 8, 8, 8, 8, 8, 8, 8, 8, 8, 8, 8, 8, 8, 8, 8, 8, 8, 8, 8, 8, 8, 8, 8, 8, 8, 8, 8, 8, 8, 8, 8, 8, 8, 8, 8, 8, 8, 8, 8, 8, 8, 8, 8, 8, 8, 8, 8, 8, 8, 8, 8, 8, 8, 8, 8, 8, 8, 8, 8, 8, 8, 8, 8, 8, 8, 8, 8, 8, 8, 8, 8, 8, 8, 8, 8, 8, 8, 8, 8, 8, 8, 8, 8, 8, 8, 8, 8, 8, 8, 8, 8, 8, 8, 8, 8, 8, 8, 8, 8, 8, 8, 8, 8, 8, 8, 8, 8, 8, 8, 8, 8, 8, 8, 8, 8, 8, 8, 8, 8, 8, 8, 8, 8, 8, 8, 8]⟩)) (.c a11) 0 0 false) h12 fun a13 h14 =>
  vhOp PP (.conv .i64 (.c a13)) h14 fun a15 h16 =>
  vbin .add (f9 2) a15 fun a17 =>
  K a17 h16) ∧
  vbin .geq (f6 0) (.int .u64 256) fun a18 =>
  vcond a18 (vbin .shr (f6 0) (.int .u64 8) fun a19 =>
  vbin .add (f6 2) (.int .i64 8) fun a20 =>
  keq [] [] ∧ J8 [a19, a20] h7) (
  keq [] [] ∧ J8 [(f6 0), (f6 2)] h7)) ∧
  vbin .geq (f3 0) (.int .u64 65536) fun a21 =>
  vcond a21 (vbin .shr (f3 0) (.int .u64 16) fun a22 =>
  vbin .add (f3 2) (.int .i64 16) fun a23 =>
  keq [] [] ∧ J5 [a22, a23] h4) (
  keq [] [] ∧ J5 [(f3 0), (f3 2)] h4)) ∧
  vbin .geq a0 (.int .u64 4294967296) fun a24 =>
  vcond a24 (vbin .shr a0 (.int .u64 32) fun a25 =>
  keq [] [] ∧ J2 [a25, (.int .i64 32)] h0) (
  keq [] [] ∧ J2 [a0, (.int .i64 0)] h0)
theorem V_math_bits_Len64_ok (a0 : D) (h0 : Heap) (K : D → Heap → Prop) : V_math_bits_Len64 a0 h0 K = vcC PP F_math_bits_Len64.code (fun x e h' => match x with | .exit _ => False | _ => vcRet PP F_math_bits_Len64.res K e h') (params [a0] 0) h0 := by kernel_rfl


end Go.Am
