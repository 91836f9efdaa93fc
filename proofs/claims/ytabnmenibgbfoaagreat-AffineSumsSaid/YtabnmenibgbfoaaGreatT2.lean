/- The texts of the functions of this chapter, as the abstract machine has them. No condition. -/
import Derived.KernelRfl
import Derived.Test.YtabnmenibgbfoaaGreatT1
set_option linter.unnecessarySimpa false
set_option linter.defProp false
set_option linter.unusedSectionVars false
set_option linter.unusedSimpArgs false
set_option linter.unusedVariables false
/- The functions of this seat's program in the short form, as a program of ours printed them (part 4); each line of it is checked. No condition. -/
set_option linter.unusedVariables false
namespace Go.Am
open Go Go.Proofs
/-- slices.EqualFunc[[]warpwright/api.Form,[]warpwright/api.Form,warpwright/api.Form,warpwright/api.Form] -/
def loops_slices_EqualFunc_sapi_Form_sapi_Form_api_Form_api_Form : Nat → Option (List Nat × List Nat)
  | 1000011 => some ([], []) | 4 => some ([1, 2, 15, 16], [17]) | _ => none
def tbl_slices_EqualFunc_sapi_Form_sapi_Form_api_Form_api_Form : Nat → Option (List Nat × List Nat × List Nat)
  | _ => none
def F_slices_EqualFunc_sapi_Form_sapi_Form_api_Form_api_Form : AFunc := ⟨32,
  .seq (.reg [⟨(some 6), .mov (.c (.bool false)), none⟩]) <|
  .seq (.seq (.reg [⟨(some 10), .mov (.t 0), none⟩,
    ⟨(some 11), .len (.t 10), none⟩,
    ⟨(some 12), .mov (.t 1), none⟩,
    ⟨(some 13), .len (.t 12), none⟩,
    ⟨(some 14), .bin .neq (.t 11) (.t 13), none⟩]) <|
  .cond (.t 14) (.seq (.reg [⟨(some 6), .mov (.c (.bool false)), none⟩]) <|
  .ret) (.skip)) <|
  .seqj [] [] (.seq (.reg [⟨(some 15), .mov (.t 0), none⟩,
    ⟨(some 16), .len (.t 15), none⟩,
    ⟨(some 17), .mov (.c (.int .i64 0)), none⟩]) <|
  .block 0 (.loop [1, 2, 15, 16] [17] (.seq (.reg [⟨(some 18), .bin .lss (.t 17) (.t 16), none⟩]) <|
  .seq (.cond (.t 18) (.skip) (.exit 0)) <|
  .seq (.block 1 (.seq (.reg [⟨(some 19), .mov (.t 17), none⟩,
    ⟨(some 20), .iadd (.t 15) (.t 17) 7, none⟩,
    ⟨(some 21), .ld (.t 20) 7 true, none⟩,
    ⟨(some 8), .alloc (.agg [(.bool false), (.int .i64 0), (.int .i64 0), (.int .i64 0), (.int .i64 0), (.int .i64 0), (.int .i64 0)]), none⟩,
    ⟨(some 7), .mov (.t 19), none⟩,
    ⟨none, .st (.t 8) (.t 21) 7, none⟩]) <|
  .seq (.reg [⟨(some 22), .mov (.t 1), none⟩,
    ⟨(some 23), .mov (.t 7), none⟩,
    ⟨(some 24), .iadd (.t 22) (.t 23) 7, none⟩,
    ⟨(some 25), .ld (.t 24) 7 true, none⟩,
    ⟨(some 9), .alloc (.agg [(.bool false), (.int .i64 0), (.int .i64 0), (.int .i64 0), (.int .i64 0), (.int .i64 0), (.int .i64 0)]), none⟩,
    ⟨none, .st (.t 9) (.t 25) 7, none⟩]) <|
  .seq (.reg [⟨(some 26), .mov (.t 2), none⟩,
    ⟨(some 27), .ld (.t 8) 7 true, none⟩,
    ⟨(some 28), .ld (.t 9) 7 true, none⟩,
    ⟨(some 29), .callv (.t 26) [(.t 27), (.t 28)], none⟩,
    ⟨(some 30), .un .not (.t 29), none⟩]) <|
  .cond (.t 30) (.seq (.reg [⟨(some 6), .mov (.c (.bool false)), none⟩]) <|
  .ret) (.skip))) <|
  .reg [⟨(some 31), .bin .add (.t 17) (.c (.int .i64 1)), none⟩,
    ⟨(some 17), .mov (.t 31), none⟩]))) <|
  .seq (.reg [⟨(some 6), .mov (.c (.bool true)), none⟩]) <|
  .ret,
  [.t 6]⟩
theorem F_slices_EqualFunc_sapi_Form_sapi_Form_api_Form_api_Form_ok : cFn PP true n_slices_EqualFunc_sapi_Form_sapi_Form_api_Form_api_Form loops_slices_EqualFunc_sapi_Form_sapi_Form_api_Form_api_Form (cDr PP 32 tbl_slices_EqualFunc_sapi_Form_sapi_Form_api_Form_api_Form) = some F_slices_EqualFunc_sapi_Form_sapi_Form_api_Form_api_Form := by kernel_rfl

def V_slices_EqualFunc_sapi_Form_sapi_Form_api_Form_api_Form_L0 (h0 : Heap) (a10 : D) (a0 : D) (a1 : D) (a2 : D) (J7 : List D → Heap → Prop) (K : D → Heap → Prop) : Prop :=
  ∃ (I11 : Nat → List D → Heap → Prop) (n₀ : Nat), I11 n₀ [(.int .i64 0)] h0 ∧ ∀ (n12 : Nat) (f13 : Nat → D) (h14 : Heap), I11 n12 [f13 17] h14 →
  vbin .lss (f13 17) a10 fun a15 =>
  vcond a15 (vhOp PP (.iadd (.c a0) (.c (f13 17)) 7) h14 fun a16 h17 =>
  vhOp PP (.ld (.c a16) 7 true) h17 fun a18 h19 =>
  vhOp PP (.alloc (.agg [(.bool false), (.int .i64 0), (.int .i64 0), (.int .i64 0), (.int .i64 0), (.int .i64 0), (.int .i64 0)])) h19 fun a20 h21 =>
  vhOp PP (.st (.c a20) (.c a18) 7) h21 fun a22 h23 =>
  vhOp PP (.iadd (.c a1) (.c (f13 17)) 7) h23 fun a24 h25 =>
  vhOp PP (.ld (.c a24) 7 true) h25 fun a26 h27 =>
  vhOp PP (.alloc (.agg [(.bool false), (.int .i64 0), (.int .i64 0), (.int .i64 0), (.int .i64 0), (.int .i64 0), (.int .i64 0)])) h27 fun a28 h29 =>
  vhOp PP (.st (.c a28) (.c a26) 7) h29 fun a30 h31 =>
  vhOp PP (.ld (.c a20) 7 true) h31 fun a32 h33 =>
  vhOp PP (.ld (.c a28) 7 true) h33 fun a34 h35 =>
  vhOp PP (.callv (.c a2) [(.c a32), (.c a34)]) h35 fun a36 h37 =>
  vun .not a36 fun a38 =>
  vcond a38 (K (.bool false) h37) (
  vbin .add (f13 17) (.int .i64 1) fun a39 =>
  keq [a1, a2, a0, a10] [a1, a2, a0, a10] ∧ ∃ m, m < n12 ∧ I11 m [a39] h37)) (
  keq [] [] ∧ J7 [] h14)
def V_slices_EqualFunc_sapi_Form_sapi_Form_api_Form_api_Form (a0 : D) (a1 : D) (a2 : D) (h0 : Heap) (K : D → Heap → Prop) : Prop :=
  vlen a0 h0 fun a4 =>
  vlen a1 h0 fun a5 =>
  vbin .neq a4 a5 fun a6 =>
  vcond a6 (K (.bool false) h0) (
  ∃ (J7 : List D → Heap → Prop), (∀ (f8 : Nat → D) (h9 : Heap), J7 [] h9 →
  K (.bool true) h9) ∧
  vlen a0 h0 fun a10 =>
  V_slices_EqualFunc_sapi_Form_sapi_Form_api_Form_api_Form_L0 h0 a10 a0 a1 a2 J7 K)
theorem V_slices_EqualFunc_sapi_Form_sapi_Form_api_Form_api_Form_ok (a0 : D) (a1 : D) (a2 : D) (h0 : Heap) (K : D → Heap → Prop) : V_slices_EqualFunc_sapi_Form_sapi_Form_api_Form_api_Form a0 a1 a2 h0 K = vcC PP F_slices_EqualFunc_sapi_Form_sapi_Form_api_Form_api_Form.code (fun x e h' => match x with | .exit _ => False | _ => vcRet PP F_slices_EqualFunc_sapi_Form_sapi_Form_api_Form_api_Form.res K e h') (params [a0, a1, a2] 0) h0 := by kernel_rfl

/-- warpwright/warpwrightref25.Edge -/
def loops_ref25_Edge : Nat → Option (List Nat × List Nat)
  | _ => none
def tbl_ref25_Edge : Nat → Option (List Nat × List Nat × List Nat)
  | _ => none
def F_ref25_Edge : AFunc := ⟨1,
  .seq (.reg [⟨(some 0), .mov (.c (.int .i64 0)), none⟩]) <|
  .seq (.reg [⟨(some 0), .mov (.c (.int .i64 1099511627776)), none⟩]) <|
  .ret,
  [.t 0]⟩
theorem F_ref25_Edge_ok : cFn PP true n_ref25_Edge loops_ref25_Edge (cDr PP 1 tbl_ref25_Edge) = some F_ref25_Edge := by kernel_rfl


def V_ref25_Edge (h0 : Heap) (K : D → Heap → Prop) : Prop :=
  K (.int .i64 1099511627776) h0
theorem V_ref25_Edge_ok (h0 : Heap) (K : D → Heap → Prop) : V_ref25_Edge h0 K = vcC PP F_ref25_Edge.code (fun x e h' => match x with | .exit _ => False | _ => vcRet PP F_ref25_Edge.res K e h') (params [] 0) h0 := by kernel_rfl

/-- warpwright/warpwrightref25.AddIn -/
def loops_ref25_AddIn : Nat → Option (List Nat × List Nat)
  | _ => none
def tbl_ref25_AddIn : Nat → Option (List Nat × List Nat × List Nat)
  | 1 => some ([0, 1, 0, 4, 15, 0, 32, 0, 128, 480, 0, 1024, 0, 4096, 15360, 32767, 65535], [16], []) | _ => none
def F_ref25_AddIn : AFunc := ⟨21,
  .seq (.reg [⟨(some 2), .box (.t 0), none⟩,
    ⟨(some 3), .box (.t 1), none⟩,
    ⟨(some 4), .alloc (.agg [(.int .i64 0), (.int .i64 0), (.int .i64 0), (.int .i64 0)]), none⟩]) <|
  .seq (.dreg [⟨(some 5), .fadd (.t 2) 0, none⟩,
    ⟨(some 6), .ld (.t 5) 1 false, none⟩,
    ⟨(some 7), .fadd (.t 3) 0, none⟩,
    ⟨(some 8), .ld (.t 7) 1 false, none⟩,
    ⟨(some 9), .bin .add (.t 6) (.t 8), none⟩,
    ⟨(some 10), .fadd (.t 2) 1, none⟩,
    ⟨(some 11), .ld (.t 10) 1 false, none⟩,
    ⟨(some 12), .fadd (.t 3) 1, none⟩,
    ⟨(some 13), .ld (.t 12) 1 false, none⟩,
    ⟨(some 14), .bin .add (.t 11) (.t 13), none⟩,
    ⟨(some 15), .fadd (.t 2) 2, none⟩,
    ⟨(some 16), .ld (.t 15) 1 false, none⟩,
    ⟨(some 17), .fadd (.t 3) 2, none⟩,
    ⟨(some 18), .ld (.t 17) 1 false, none⟩,
    ⟨(some 19), .call n_ref25_Gcd [(.t 16), (.t 18)], none⟩,
    ⟨(some 20), .call n_ref25_bounded [(.t 9), (.t 14), (.t 19)], none⟩] [⟨none, .st (.t 4) (.t 20) 4, none⟩] []) <|
  .ret,
  [.cell 4 4 true]⟩
theorem F_ref25_AddIn_ok : cFn PP true n_ref25_AddIn loops_ref25_AddIn (cDr PP 21 tbl_ref25_AddIn) = some F_ref25_AddIn := by kernel_rfl


def V_ref25_AddIn (a0 : D) (a1 : D) (h0 : Heap) (K : D → Heap → Prop) : Prop :=
  vhOp PP (.box (.c a0)) h0 fun a3 h4 =>
  vhOp PP (.box (.c a1)) h4 fun a5 h6 =>
  vhOp PP (.alloc (.agg [(.int .i64 0), (.int .i64 0), (.int .i64 0), (.int .i64 0)])) h6 fun a7 h8 =>
  vdOp PP (.fadd (.c a3) 0) h8 fun a9 =>
  vdOp PP (.ld (.c a9) 1 false) h8 fun a10 =>
  vdOp PP (.fadd (.c a5) 0) h8 fun a11 =>
  vdOp PP (.ld (.c a11) 1 false) h8 fun a12 =>
  vbin .add a10 a12 fun a13 =>
  vdOp PP (.fadd (.c a3) 1) h8 fun a14 =>
  vdOp PP (.ld (.c a14) 1 false) h8 fun a15 =>
  vdOp PP (.fadd (.c a5) 1) h8 fun a16 =>
  vdOp PP (.ld (.c a16) 1 false) h8 fun a17 =>
  vbin .add a15 a17 fun a18 =>
  vdOp PP (.fadd (.c a3) 2) h8 fun a19 =>
  vdOp PP (.ld (.c a19) 1 false) h8 fun a20 =>
  vdOp PP (.fadd (.c a5) 2) h8 fun a21 =>
  vdOp PP (.ld (.c a21) 1 false) h8 fun a22 =>
  vdOp PP (.call n_ref25_Gcd [(.c a20), (.c a22)]) h8 fun a23 =>
  vdOp PP (.call n_ref25_bounded [(.c a13), (.c a18), (.c a23)]) h8 fun a24 =>
  vhOp PP (.st (.c a7) (.c a24) 4) h8 fun a25 h26 =>
  vhOp PP (.ld (.c a7) 4 true) h26 fun a27 _ =>
  K a27 h26
theorem V_ref25_AddIn_ok (a0 : D) (a1 : D) (h0 : Heap) (K : D → Heap → Prop) : V_ref25_AddIn a0 a1 h0 K = vcC PP F_ref25_AddIn.code (fun x e h' => match x with | .exit _ => False | _ => vcRet PP F_ref25_AddIn.res K e h') (params [a0, a1] 0) h0 := by kernel_rfl

/-- warpwright/span.near -/
def loops_span_near : Nat → Option (List Nat × List Nat)
  | _ => none
def tbl_span_near : Nat → Option (List Nat × List Nat × List Nat)
  | _ => none
def F_span_near : AFunc := ⟨9,
  .seq (.reg [⟨(some 2), .mov (.c (.bool false)), none⟩]) <|
  .seq (.reg [⟨(some 3), .mov (.t 0), none⟩,
    ⟨(some 4), .bin .leq (.c (.int .i64 (-1099511627776))) (.t 3), none⟩,
    ⟨(some 5), .mov (.t 4), none⟩,
    ⟨(some 6), .mov (.t 0), some (5, true)⟩,
    ⟨(some 7), .bin .leq (.t 6) (.c (.int .i64 1099511627776)), some (5, true)⟩,
    ⟨(some 8), .pick (.t 5) (.t 7) (.c (.bool false)), none⟩,
    ⟨(some 2), .mov (.t 8), none⟩]) <|
  .ret,
  [.t 2]⟩
theorem F_span_near_ok : cFn PP true n_span_near loops_span_near (cDr PP 9 tbl_span_near) = some F_span_near := by kernel_rfl


def V_span_near (a0 : D) (h0 : Heap) (K : D → Heap → Prop) : Prop :=
  vbin .leq (.int .i64 (-1099511627776)) a0 fun a2 =>
  vguard a2 true (fun G3 =>
  G3 a0 h0) h0 fun a4 h5 =>
  vguard a2 true (fun G6 =>
  vbin .leq a4 (.int .i64 1099511627776) fun a9 =>
  G6 a9 h5) h5 fun a7 h8 =>
  vhOp PP (.pick (.c a2) (.c a7) (.c (.bool false))) h8 fun a10 h11 =>
  K a10 h11
theorem V_span_near_ok (a0 : D) (h0 : Heap) (K : D → Heap → Prop) : V_span_near a0 h0 K = vcC PP F_span_near.code (fun x e h' => match x with | .exit _ => False | _ => vcRet PP F_span_near.res K e h') (params [a0] 0) h0 := by kernel_rfl

/-- warpwright/span.Scale -/
def loops_span_Scale : Nat → Option (List Nat × List Nat)
  | _ => none
def tbl_span_Scale : Nat → Option (List Nat × List Nat × List Nat)
  | _ => none
def F_span_Scale : AFunc := ⟨30,
  .seq (.reg [⟨(some 2), .box (.t 0), none⟩,
    ⟨(some 4), .alloc (.agg [(.int .i64 0), (.int .i64 0), (.int .i64 0)]), none⟩,
    ⟨(some 5), .mov (.c (.int .i64 0)), none⟩]) <|
  .seq (.reg [⟨(some 10), .ld (.t 2) 3 true, none⟩,
    ⟨(some 11), .mov (.t 1), none⟩,
    ⟨(some 12), .mov (.t 1), none⟩,
    ⟨(some 13), .bld [(.int .i64 0), (.int .i64 0), (.int .i64 0)] [(0, 1, (.t 11)), (1, 1, (.t 12))], none⟩,
    ⟨(some 14), .call n_span_products [(.t 10), (.t 13)], none⟩,
    ⟨(some 9), .mov (.t 14), none⟩,
    ⟨(some 15), .ext (.t 9) 0, none⟩,
    ⟨(some 16), .ext (.t 9) 1, none⟩,
    ⟨(some 17), .ext (.t 9) 2, none⟩,
    ⟨(some 6), .mov (.t 15), none⟩,
    ⟨(some 7), .mov (.t 16), none⟩,
    ⟨(some 8), .mov (.t 17), none⟩]) <|
  .seq (.seq (.reg [⟨(some 18), .mov (.t 8), none⟩,
    ⟨(some 19), .un .not (.t 18), none⟩]) <|
  .cond (.t 19) (.seq (.reg [⟨(some 20), .bld [(.int .i64 0), (.int .i64 0), (.int .i64 0)] [], none⟩,
    ⟨none, .st (.t 4) (.t 20) 3, none⟩,
    ⟨(some 5), .mov (.c (.int .i64 2)), none⟩]) <|
  .ret) (.skip)) <|
  .seq (.reg [⟨(some 21), .mov (.t 6), none⟩,
    ⟨(some 22), .mov (.t 7), none⟩,
    ⟨(some 23), .fadd (.t 2) 2, none⟩,
    ⟨(some 24), .ld (.t 23) 1 false, none⟩,
    ⟨(some 25), .mov (.t 1), none⟩,
    ⟨(some 26), .bin .mul (.t 24) (.t 25), none⟩,
    ⟨(some 27), .bldS true 1 1 (.int .i64 0) [(0, (.t 26))], none⟩,
    ⟨(some 28), .call n_span_gcd [(.t 27)], none⟩,
    ⟨(some 29), .call n_span_made [(.t 21), (.t 22), (.t 28)], none⟩,
    ⟨none, .st (.t 4) (.t 29) 3, none⟩,
    ⟨(some 5), .mov (.c (.int .i64 0)), none⟩]) <|
  .ret,
  [.cell 4 3 true, .t 5]⟩
theorem F_span_Scale_ok : cFn PP true n_span_Scale loops_span_Scale (cDr PP 30 tbl_span_Scale) = some F_span_Scale := by kernel_rfl


def V_span_Scale (a0 : D) (a1 : D) (h0 : Heap) (K : D → Heap → Prop) : Prop :=
  vhOp PP (.box (.c a0)) h0 fun a3 h4 =>
  vhOp PP (.alloc (.agg [(.int .i64 0), (.int .i64 0), (.int .i64 0)])) h4 fun a5 h6 =>
  vhOp PP (.ld (.c a3) 3 true) h6 fun a7 h8 =>
  vhOp PP (.bld [(.int .i64 0), (.int .i64 0), (.int .i64 0)] [(0, 1, (.c a1)), (1, 1, (.c a1))]) h8 fun a9 h10 =>
  ACall PP n_span_products [a7, a9] h10 fun a11 h12 =>
  vhOp PP (.ext (.c a11) 0) h12 fun a13 h14 =>
  vhOp PP (.ext (.c a11) 1) h14 fun a15 h16 =>
  vhOp PP (.ext (.c a11) 2) h16 fun a17 h18 =>
  vun .not a17 fun a19 =>
  vcond a19 (vhOp PP (.bld [(.int .i64 0), (.int .i64 0), (.int .i64 0)] []) h18 fun a20 h21 =>
  vhOp PP (.st (.c a5) (.c a20) 3) h21 fun a22 h23 =>
  vhOp PP (.ld (.c a5) 3 true) h23 fun a24 _ =>
  K (.tup [a24, (.int .i64 2)]) h23) (
  vhOp PP (.fadd (.c a3) 2) h18 fun a25 h26 =>
  vhOp PP (.ld (.c a25) 1 false) h26 fun a27 h28 =>
  vbin .mul a27 a1 fun a29 =>
  vhOp PP (.bldS true 1 1 (.int .i64 0) [(0, (.c a29))]) h28 fun a30 h31 =>
  ACall PP n_span_gcd [a30] h31 fun a32 h33 =>
  ACall PP n_span_made [a13, a15, a32] h33 fun a34 h35 =>
  vhOp PP (.st (.c a5) (.c a34) 3) h35 fun a36 h37 =>
  vhOp PP (.ld (.c a5) 3 true) h37 fun a38 _ =>
  K (.tup [a38, (.int .i64 0)]) h37)
theorem V_span_Scale_ok (a0 : D) (a1 : D) (h0 : Heap) (K : D → Heap → Prop) : V_span_Scale a0 a1 h0 K = vcC PP F_span_Scale.code (fun x e h' => match x with | .exit _ => False | _ => vcRet PP F_span_Scale.res K e h') (params [a0, a1] 0) h0 := by kernel_rfl

/-- warpwright/span.bounded -/
def loops_span_bounded : Nat → Option (List Nat × List Nat)
  | _ => none
def tbl_span_bounded : Nat → Option (List Nat × List Nat × List Nat)
  | _ => none
def F_span_bounded : AFunc := ⟨21,
  .seq (.reg [⟨(some 6), .alloc (.agg [(.int .i64 0), (.int .i64 0), (.int .i64 0)]), none⟩,
    ⟨(some 7), .mov (.c (.int .i64 0)), none⟩]) <|
  .seq (.seq (.reg [⟨(some 8), .mov (.t 0), none⟩,
    ⟨(some 9), .call n_span_near [(.t 8)], none⟩,
    ⟨(some 10), .un .not (.t 9), none⟩,
    ⟨(some 11), .mov (.t 10), none⟩,
    ⟨(some 12), .mov (.t 1), some (11, false)⟩,
    ⟨(some 13), .call n_span_near [(.t 12)], some (11, false)⟩,
    ⟨(some 14), .un .not (.t 13), some (11, false)⟩,
    ⟨(some 15), .pick (.t 11) (.c (.bool true)) (.t 14), none⟩]) <|
  .cond (.t 15) (.seq (.reg [⟨(some 16), .bld [(.int .i64 0), (.int .i64 0), (.int .i64 0)] [], none⟩,
    ⟨none, .st (.t 6) (.t 16) 3, none⟩,
    ⟨(some 7), .mov (.c (.int .i64 2)), none⟩]) <|
  .ret) (.skip)) <|
  .seq (.reg [⟨(some 17), .mov (.t 0), none⟩,
    ⟨(some 18), .mov (.t 1), none⟩,
    ⟨(some 19), .mov (.t 2), none⟩,
    ⟨(some 20), .call n_span_made [(.t 17), (.t 18), (.t 19)], none⟩,
    ⟨none, .st (.t 6) (.t 20) 3, none⟩,
    ⟨(some 7), .mov (.c (.int .i64 0)), none⟩]) <|
  .ret,
  [.cell 6 3 true, .t 7]⟩
theorem F_span_bounded_ok : cFn PP true n_span_bounded loops_span_bounded (cDr PP 21 tbl_span_bounded) = some F_span_bounded := by kernel_rfl


def V_span_bounded (a0 : D) (a1 : D) (a2 : D) (h0 : Heap) (K : D → Heap → Prop) : Prop :=
  vhOp PP (.alloc (.agg [(.int .i64 0), (.int .i64 0), (.int .i64 0)])) h0 fun a4 h5 =>
  ACall PP n_span_near [a0] h5 fun a6 h7 =>
  vun .not a6 fun a8 =>
  vguard a8 false (fun G9 =>
  G9 a1 h7) h7 fun a10 h11 =>
  vguard a8 false (fun G12 =>
  ACall PP n_span_near [a10] h11 fun a15 h16 =>
  G12 a15 h16) h11 fun a13 h14 =>
  vguard a8 false (fun G17 =>
  vun .not a13 fun a20 =>
  G17 a20 h14) h14 fun a18 h19 =>
  vhOp PP (.pick (.c a8) (.c (.bool true)) (.c a18)) h19 fun a21 h22 =>
  vcond a21 (vhOp PP (.bld [(.int .i64 0), (.int .i64 0), (.int .i64 0)] []) h22 fun a23 h24 =>
  vhOp PP (.st (.c a4) (.c a23) 3) h24 fun a25 h26 =>
  vhOp PP (.ld (.c a4) 3 true) h26 fun a27 _ =>
  K (.tup [a27, (.int .i64 2)]) h26) (
  ACall PP n_span_made [a0, a1, a2] h22 fun a28 h29 =>
  vhOp PP (.st (.c a4) (.c a28) 3) h29 fun a30 h31 =>
  vhOp PP (.ld (.c a4) 3 true) h31 fun a32 _ =>
  K (.tup [a32, (.int .i64 0)]) h31)
theorem V_span_bounded_ok (a0 : D) (a1 : D) (a2 : D) (h0 : Heap) (K : D → Heap → Prop) : V_span_bounded a0 a1 a2 h0 K = vcC PP F_span_bounded.code (fun x e h' => match x with | .exit _ => False | _ => vcRet PP F_span_bounded.res K e h') (params [a0, a1, a2] 0) h0 := by kernel_rfl

/-- warpwright/span.gcd -/
def loops_span_gcd : Nat → Option (List Nat × List Nat)
  | 1000009 => some ([], [3]) | 3 => some ([6, 7], [3, 8]) | 1000008 => some ([6, 7, 8], [3]) | 5 => some ([6, 7, 8], [3, 5]) | _ => none
def tbl_span_gcd : Nat → Option (List Nat × List Nat × List Nat)
  | 6 => some ([0, 0, 0, 6, 3, 31], [4, 5], []) | _ => none
def F_span_gcd : AFunc := ⟨23,
  .seq (.reg [⟨(some 2), .mov (.c (.int .i64 0)), none⟩]) <|
  .seq (.reg [⟨(some 3), .mov (.c (.int .i64 0)), none⟩]) <|
  .seqj [] [3] (.seq (.reg [⟨(some 6), .mov (.t 0), none⟩,
    ⟨(some 7), .len (.t 6), none⟩,
    ⟨(some 8), .mov (.c (.int .i64 0)), none⟩]) <|
  .block 0 (.loop [6, 7] [3, 8] (.seq (.reg [⟨(some 9), .bin .lss (.t 8) (.t 7), none⟩]) <|
  .seq (.cond (.t 9) (.skip) (.exit 0)) <|
  .seqj [6, 7, 8] [3] (.block 1 (.seq (.reg [⟨(some 10), .iadd (.t 6) (.t 8) 1, none⟩,
    ⟨(some 11), .ld (.t 10) 1 false, none⟩,
    ⟨(some 5), .mov (.t 11), none⟩]) <|
  .block 2 (.loop [6, 7, 8] [3, 5] (.seq (.seq (.reg [⟨(some 12), .mov (.t 5), none⟩,
    ⟨(some 13), .bin .neq (.t 12) (.c (.int .i64 0)), none⟩]) <|
  .cond (.t 13) (.skip) (.exit 2)) <|
  .block 3 (.dreg [⟨(some 14), .mov (.t 5), none⟩,
    ⟨(some 15), .mov (.t 3), none⟩,
    ⟨(some 16), .mov (.t 5), none⟩,
    ⟨(some 17), .bin .rem (.t 15) (.t 16), none⟩] [⟨(some 3), .mov (.t 14), none⟩,
    ⟨(some 5), .mov (.t 17), none⟩] []))))) <|
  .reg [⟨(some 18), .bin .add (.t 8) (.c (.int .i64 1)), none⟩,
    ⟨(some 8), .mov (.t 18), none⟩]))) <|
  .seq (.reg [⟨(some 19), .mov (.t 3), none⟩,
    ⟨(some 20), .mov (.t 3), none⟩,
    ⟨(some 21), .un .neg (.t 20), none⟩,
    ⟨(some 22), .mx (.t 19) (.t 21), none⟩,
    ⟨(some 2), .mov (.t 22), none⟩]) <|
  .ret,
  [.t 2]⟩
theorem F_span_gcd_ok : cFn PP true n_span_gcd loops_span_gcd (cDr PP 23 tbl_span_gcd) = some F_span_gcd := by kernel_rfl

def V_span_gcd_L0 (f11 : Nat → D) (a20 : D) (h21 : Heap) (a0 : D) (a8 : D) (J14 : List D → Heap → Prop) : Prop :=
  ∃ (I22 : Nat → List D → Heap → Prop) (n₀ : Nat), I22 n₀ [(f11 3), a20] h21 ∧ ∀ (n23 : Nat) (f24 : Nat → D) (h25 : Heap), I22 n23 [f24 3, f24 5] h25 →
  vbin .neq (f24 5) (.int .i64 0) fun a26 =>
  vcond a26 (vbin .rem (f24 3) (f24 5) fun a27 =>
  keq [a0, a8, (f11 8)] [a0, a8, (f11 8)] ∧ ∃ m, m < n23 ∧ I22 m [(f24 5), a27] h25) (
  keq [a0, a8, (f11 8)] [a0, a8, (f11 8)] ∧ J14 [(f24 3)] h25)
def V_span_gcd_L1 (h0 : Heap) (a8 : D) (a0 : D) (J2 : List D → Heap → Prop) : Prop :=
  ∃ (I9 : Nat → List D → Heap → Prop) (n₀ : Nat), I9 n₀ [(.int .i64 0), (.int .i64 0)] h0 ∧ ∀ (n10 : Nat) (f11 : Nat → D) (h12 : Heap), I9 n10 [f11 3, f11 8] h12 →
  vbin .lss (f11 8) a8 fun a13 =>
  vcond a13 (∃ (J14 : List D → Heap → Prop), (∀ (f15 : Nat → D) (h16 : Heap), J14 [f15 3] h16 →
  vbin .add (f11 8) (.int .i64 1) fun a17 =>
  keq [a0, a8] [a0, a8] ∧ ∃ m, m < n10 ∧ I9 m [(f15 3), a17] h16) ∧
  vhOp PP (.iadd (.c a0) (.c (f11 8)) 1) h12 fun a18 h19 =>
  vhOp PP (.ld (.c a18) 1 false) h19 fun a20 h21 =>
  V_span_gcd_L0 f11 a20 h21 a0 a8 J14) (
  keq [] [] ∧ J2 [(f11 3)] h12)
def V_span_gcd (a0 : D) (h0 : Heap) (K : D → Heap → Prop) : Prop :=
  ∃ (J2 : List D → Heap → Prop), (∀ (f3 : Nat → D) (h4 : Heap), J2 [f3 3] h4 →
  vun .neg (f3 3) fun a5 =>
  vhOp PP (.mx (.c (f3 3)) (.c a5)) h4 fun a6 h7 =>
  K a6 h7) ∧
  vlen a0 h0 fun a8 =>
  V_span_gcd_L1 h0 a8 a0 J2
theorem V_span_gcd_ok (a0 : D) (h0 : Heap) (K : D → Heap → Prop) : V_span_gcd a0 h0 K = vcC PP F_span_gcd.code (fun x e h' => match x with | .exit _ => False | _ => vcRet PP F_span_gcd.res K e h') (params [a0] 0) h0 := by kernel_rfl

/-- warpwright/affine.alike -/
def loops_affine_alike : Nat → Option (List Nat × List Nat)
  | _ => none
def tbl_affine_alike : Nat → Option (List Nat × List Nat × List Nat)
  | _ => none
def F_affine_alike : AFunc := ⟨12,
  .seq (.reg [⟨(some 2), .box (.t 0), none⟩,
    ⟨(some 3), .box (.t 1), none⟩,
    ⟨(some 4), .mov (.c (.bool false)), none⟩]) <|
  .seq (.reg [⟨(some 5), .bld [(.int .i64 0), (.int .i64 0), (.int .i64 0)] [], none⟩,
    ⟨(some 6), .bld [(.int .i64 0), (.int .i64 0), (.int .i64 0)] [], none⟩,
    ⟨(some 7), .fadd (.t 2) 4, none⟩,
    ⟨none, .st (.t 7) (.t 5) 3, none⟩,
    ⟨(some 8), .fadd (.t 3) 4, none⟩,
    ⟨none, .st (.t 8) (.t 6) 3, none⟩]) <|
  .seq (.reg [⟨(some 9), .ld (.t 2) 7 true, none⟩,
    ⟨(some 10), .ld (.t 3) 7 true, none⟩,
    ⟨(some 11), .eqv false true [.b, .i, .i, .i, .i, .i, .i] (.t 9) (.t 10), none⟩,
    ⟨(some 4), .mov (.t 11), none⟩]) <|
  .ret,
  [.t 4]⟩
theorem F_affine_alike_ok : cFn PP true n_affine_alike loops_affine_alike (cDr PP 12 tbl_affine_alike) = some F_affine_alike := by kernel_rfl


def V_affine_alike (a0 : D) (a1 : D) (h0 : Heap) (K : D → Heap → Prop) : Prop :=
  vhOp PP (.box (.c a0)) h0 fun a3 h4 =>
  vhOp PP (.box (.c a1)) h4 fun a5 h6 =>
  vhOp PP (.bld [(.int .i64 0), (.int .i64 0), (.int .i64 0)] []) h6 fun a7 h8 =>
  vhOp PP (.bld [(.int .i64 0), (.int .i64 0), (.int .i64 0)] []) h8 fun a9 h10 =>
  vhOp PP (.fadd (.c a3) 4) h10 fun a11 h12 =>
  vhOp PP (.st (.c a11) (.c a7) 3) h12 fun a13 h14 =>
  vhOp PP (.fadd (.c a5) 4) h14 fun a15 h16 =>
  vhOp PP (.st (.c a15) (.c a9) 3) h16 fun a17 h18 =>
  vhOp PP (.ld (.c a3) 7 true) h18 fun a19 h20 =>
  vhOp PP (.ld (.c a5) 7 true) h20 fun a21 h22 =>
  vhOp PP (.eqv false true [.b, .i, .i, .i, .i, .i, .i] (.c a19) (.c a21)) h22 fun a23 h24 =>
  K a23 h24
theorem V_affine_alike_ok (a0 : D) (a1 : D) (h0 : Heap) (K : D → Heap → Prop) : V_affine_alike a0 a1 h0 K = vcC PP F_affine_alike.code (fun x e h' => match x with | .exit _ => False | _ => vcRet PP F_affine_alike.res K e h') (params [a0, a1] 0) h0 := by kernel_rfl

/-- warpwright/span.Join -/
def loops_span_Join : Nat → Option (List Nat × List Nat)
  | _ => none
def tbl_span_Join : Nat → Option (List Nat × List Nat × List Nat)
  | 1 => some ([0, 1, 0, 4, 15, 0, 32, 0, 128, 480, 0, 1024, 0, 4096, 0, 16384, 0, 65536, 245760, 523264, 1047552, 2097151, 4194303], [22], []) | _ => none
def F_span_Join : AFunc := ⟨27,
  .seq (.reg [⟨(some 2), .box (.t 0), none⟩,
    ⟨(some 3), .box (.t 1), none⟩,
    ⟨(some 4), .alloc (.agg [(.int .i64 0), (.int .i64 0), (.int .i64 0)]), none⟩]) <|
  .seq (.dreg [⟨(some 5), .fadd (.t 2) 0, none⟩,
    ⟨(some 6), .ld (.t 5) 1 false, none⟩,
    ⟨(some 7), .fadd (.t 3) 0, none⟩,
    ⟨(some 8), .ld (.t 7) 1 false, none⟩,
    ⟨(some 9), .mn (.t 6) (.t 8), none⟩,
    ⟨(some 10), .fadd (.t 2) 1, none⟩,
    ⟨(some 11), .ld (.t 10) 1 false, none⟩,
    ⟨(some 12), .fadd (.t 3) 1, none⟩,
    ⟨(some 13), .ld (.t 12) 1 false, none⟩,
    ⟨(some 14), .mx (.t 11) (.t 13), none⟩,
    ⟨(some 15), .fadd (.t 2) 2, none⟩,
    ⟨(some 16), .ld (.t 15) 1 false, none⟩,
    ⟨(some 17), .fadd (.t 3) 2, none⟩,
    ⟨(some 18), .ld (.t 17) 1 false, none⟩,
    ⟨(some 19), .fadd (.t 2) 0, none⟩,
    ⟨(some 20), .ld (.t 19) 1 false, none⟩,
    ⟨(some 21), .fadd (.t 3) 0, none⟩,
    ⟨(some 22), .ld (.t 21) 1 false, none⟩,
    ⟨(some 23), .bin .sub (.t 20) (.t 22), none⟩,
    ⟨(some 24), .bldS false 1 3 (.int .i64 0) [(0, (.t 16)), (1, (.t 18)), (2, (.t 23))], none⟩,
    ⟨(some 25), .call n_span_gcd [(.t 24)], none⟩,
    ⟨(some 26), .call n_span_made [(.t 9), (.t 14), (.t 25)], none⟩] [⟨none, .st (.t 4) (.t 26) 3, none⟩] []) <|
  .ret,
  [.cell 4 3 true]⟩
theorem F_span_Join_ok : cFn PP true n_span_Join loops_span_Join (cDr PP 27 tbl_span_Join) = some F_span_Join := by kernel_rfl


def V_span_Join (a0 : D) (a1 : D) (h0 : Heap) (K : D → Heap → Prop) : Prop :=
  vhOp PP (.box (.c a0)) h0 fun a3 h4 =>
  vhOp PP (.box (.c a1)) h4 fun a5 h6 =>
  vhOp PP (.alloc (.agg [(.int .i64 0), (.int .i64 0), (.int .i64 0)])) h6 fun a7 h8 =>
  vdOp PP (.fadd (.c a3) 0) h8 fun a9 =>
  vdOp PP (.ld (.c a9) 1 false) h8 fun a10 =>
  vdOp PP (.fadd (.c a5) 0) h8 fun a11 =>
  vdOp PP (.ld (.c a11) 1 false) h8 fun a12 =>
  vdOp PP (.mn (.c a10) (.c a12)) h8 fun a13 =>
  vdOp PP (.fadd (.c a3) 1) h8 fun a14 =>
  vdOp PP (.ld (.c a14) 1 false) h8 fun a15 =>
  vdOp PP (.fadd (.c a5) 1) h8 fun a16 =>
  vdOp PP (.ld (.c a16) 1 false) h8 fun a17 =>
  vdOp PP (.mx (.c a15) (.c a17)) h8 fun a18 =>
  vdOp PP (.fadd (.c a3) 2) h8 fun a19 =>
  vdOp PP (.ld (.c a19) 1 false) h8 fun a20 =>
  vdOp PP (.fadd (.c a5) 2) h8 fun a21 =>
  vdOp PP (.ld (.c a21) 1 false) h8 fun a22 =>
  vdOp PP (.fadd (.c a3) 0) h8 fun a23 =>
  vdOp PP (.ld (.c a23) 1 false) h8 fun a24 =>
  vdOp PP (.fadd (.c a5) 0) h8 fun a25 =>
  vdOp PP (.ld (.c a25) 1 false) h8 fun a26 =>
  vbin .sub a24 a26 fun a27 =>
  vdOp PP (.bldS false 1 3 (.int .i64 0) [(0, (.c a20)), (1, (.c a22)), (2, (.c a27))]) h8 fun a28 =>
  vdOp PP (.call n_span_gcd [(.c a28)]) h8 fun a29 =>
  vdOp PP (.call n_span_made [(.c a13), (.c a18), (.c a29)]) h8 fun a30 =>
  vhOp PP (.st (.c a7) (.c a30) 3) h8 fun a31 h32 =>
  vhOp PP (.ld (.c a7) 3 true) h32 fun a33 _ =>
  K a33 h32
theorem V_span_Join_ok (a0 : D) (a1 : D) (h0 : Heap) (K : D → Heap → Prop) : V_span_Join a0 a1 h0 K = vcC PP F_span_Join.code (fun x e h' => match x with | .exit _ => False | _ => vcRet PP F_span_Join.res K e h') (params [a0, a1] 0) h0 := by kernel_rfl

/-- (warpwright/affine.space).made -/
def loops_affine_space_made : Nat → Option (List Nat × List Nat)
  | _ => none
def tbl_affine_space_made : Nat → Option (List Nat × List Nat × List Nat)
  | _ => none
def F_affine_space_made : AFunc := ⟨28,
  .seq (.reg [⟨(some 3), .box (.t 0), none⟩,
    ⟨(some 4), .box (.t 1), none⟩,
    ⟨(some 6), .alloc (.agg [(.bool false), (.int .i64 0), (.int .i64 0), (.int .i64 0), (.int .i64 0), (.int .i64 0), (.int .i64 0)]), none⟩]) <|
  .seq (.seq (.reg [⟨(some 7), .mov (.t 2), none⟩,
    ⟨(some 8), .bin .neq (.t 7) (.c (.int .i64 0)), none⟩,
    ⟨(some 9), .mov (.t 8), none⟩,
    ⟨(some 10), .fadd (.t 4) 0, some (9, false)⟩,
    ⟨(some 11), .ld (.t 10) 1 false, some (9, false)⟩,
    ⟨(some 12), .pick (.t 9) (.c (.bool true)) (.t 11), none⟩,
    ⟨(some 13), .mov (.t 12), none⟩,
    ⟨(some 14), .ld (.t 4) 7 true, some (13, false)⟩,
    ⟨(some 15), .call n_affine_small [(.t 14)], some (13, false)⟩,
    ⟨(some 16), .un .not (.t 15), some (13, false)⟩,
    ⟨(some 17), .pick (.t 13) (.c (.bool true)) (.t 16), none⟩]) <|
  .cond (.t 17) (.seq (.reg [⟨(some 18), .call n_affine_unknown [], none⟩,
    ⟨none, .st (.t 6) (.t 18) 7, none⟩]) <|
  .ret) (.skip)) <|
  .seq (.seq (.reg [⟨(some 19), .ld (.t 3) 9 true, none⟩,
    ⟨(some 20), .ld (.t 4) 7 true, none⟩,
    ⟨(some 21), .call n_affine_space_canonical [(.t 19), (.t 20)], none⟩,
    ⟨none, .st (.t 4) (.t 21) 7, none⟩]) <|
  .seq (.reg [⟨(some 22), .ld (.t 3) 9 true, none⟩,
    ⟨(some 23), .ld (.t 4) 7 true, none⟩,
    ⟨(some 24), .call n_affine_space_valid [(.t 22), (.t 23)], none⟩,
    ⟨(some 25), .un .not (.t 24), none⟩]) <|
  .cond (.t 25) (.seq (.reg [⟨(some 26), .call n_affine_unknown [], none⟩,
    ⟨none, .st (.t 6) (.t 26) 7, none⟩]) <|
  .ret) (.skip)) <|
  .seq (.reg [⟨(some 27), .ld (.t 4) 7 true, none⟩,
    ⟨none, .st (.t 6) (.t 27) 7, none⟩]) <|
  .ret,
  [.cell 6 7 true]⟩
theorem F_affine_space_made_ok : cFn PP true n_affine_space_made loops_affine_space_made (cDr PP 28 tbl_affine_space_made) = some F_affine_space_made := by kernel_rfl


def V_affine_space_made (a0 : D) (a1 : D) (a2 : D) (h0 : Heap) (K : D → Heap → Prop) : Prop :=
  vhOp PP (.box (.c a0)) h0 fun a4 h5 =>
  vhOp PP (.box (.c a1)) h5 fun a6 h7 =>
  vhOp PP (.alloc (.agg [(.bool false), (.int .i64 0), (.int .i64 0), (.int .i64 0), (.int .i64 0), (.int .i64 0), (.int .i64 0)])) h7 fun a8 h9 =>
  vbin .neq a2 (.int .i64 0) fun a10 =>
  vguard a10 false (fun G11 =>
  vhOp PP (.fadd (.c a6) 0) h9 fun a14 h15 =>
  G11 a14 h15) h9 fun a12 h13 =>
  vguard a10 false (fun G16 =>
  vhOp PP (.ld (.c a12) 1 false) h13 fun a19 h20 =>
  G16 a19 h20) h13 fun a17 h18 =>
  vhOp PP (.pick (.c a10) (.c (.bool true)) (.c a17)) h18 fun a21 h22 =>
  vguard a21 false (fun G23 =>
  vhOp PP (.ld (.c a6) 7 true) h22 fun a26 h27 =>
  G23 a26 h27) h22 fun a24 h25 =>
  vguard a21 false (fun G28 =>
  ACall PP n_affine_small [a24] h25 fun a31 h32 =>
  G28 a31 h32) h25 fun a29 h30 =>
  vguard a21 false (fun G33 =>
  vun .not a29 fun a36 =>
  G33 a36 h30) h30 fun a34 h35 =>
  vhOp PP (.pick (.c a21) (.c (.bool true)) (.c a34)) h35 fun a37 h38 =>
  vcond a37 (ACall PP n_affine_unknown [] h38 fun a39 h40 =>
  vhOp PP (.st (.c a8) (.c a39) 7) h40 fun a41 h42 =>
  vhOp PP (.ld (.c a8) 7 true) h42 fun a43 _ =>
  K a43 h42) (
  vhOp PP (.ld (.c a4) 9 true) h38 fun a44 h45 =>
  vhOp PP (.ld (.c a6) 7 true) h45 fun a46 h47 =>
  ACall PP n_affine_space_canonical [a44, a46] h47 fun a48 h49 =>
  vhOp PP (.st (.c a6) (.c a48) 7) h49 fun a50 h51 =>
  vhOp PP (.ld (.c a4) 9 true) h51 fun a52 h53 =>
  vhOp PP (.ld (.c a6) 7 true) h53 fun a54 h55 =>
  ACall PP n_affine_space_valid [a52, a54] h55 fun a56 h57 =>
  vun .not a56 fun a58 =>
  vcond a58 (ACall PP n_affine_unknown [] h57 fun a59 h60 =>
  vhOp PP (.st (.c a8) (.c a59) 7) h60 fun a61 h62 =>
  vhOp PP (.ld (.c a8) 7 true) h62 fun a63 _ =>
  K a63 h62) (
  vhOp PP (.ld (.c a6) 7 true) h57 fun a64 h65 =>
  vhOp PP (.st (.c a8) (.c a64) 7) h65 fun a66 h67 =>
  vhOp PP (.ld (.c a8) 7 true) h67 fun a68 _ =>
  K a68 h67))
theorem V_affine_space_made_ok (a0 : D) (a1 : D) (a2 : D) (h0 : Heap) (K : D → Heap → Prop) : V_affine_space_made a0 a1 a2 h0 K = vcC PP F_affine_space_made.code (fun x e h' => match x with | .exit _ => False | _ => vcRet PP F_affine_space_made.res K e h') (params [a0, a1, a2] 0) h0 := by kernel_rfl

/-- warpwright/code.def -/
def loops_code_def : Nat → Option (List Nat × List Nat)
  | _ => none
def tbl_code_def : Nat → Option (List Nat × List Nat × List Nat)
  | _ => none
def F_code_def : AFunc := ⟨8,
  .seq (.reg [⟨(some 1), .box (.t 0), none⟩,
    ⟨(some 2), .mov (.c (.int .i64 0)), none⟩]) <|
  .seq (.seq (.reg [⟨(some 3), .fadd (.t 1) 0, none⟩,
    ⟨(some 4), .ld (.t 3) 1 false, none⟩,
    ⟨(some 5), .bin .neq (.t 4) (.c (.int .i64 2)), none⟩]) <|
  .cond (.t 5) (.seq (.reg [⟨(some 2), .mov (.c (.int .i64 (-1))), none⟩]) <|
  .ret) (.skip)) <|
  .seq (.reg [⟨(some 6), .fadd (.t 1) 1, none⟩,
    ⟨(some 7), .ld (.t 6) 1 false, none⟩,
    ⟨(some 2), .mov (.t 7), none⟩]) <|
  .ret,
  [.t 2]⟩
theorem F_code_def_ok : cFn PP true n_code_def loops_code_def (cDr PP 8 tbl_code_def) = some F_code_def := by kernel_rfl


def V_code_def (a0 : D) (h0 : Heap) (K : D → Heap → Prop) : Prop :=
  vhOp PP (.box (.c a0)) h0 fun a2 h3 =>
  vhOp PP (.fadd (.c a2) 0) h3 fun a4 h5 =>
  vhOp PP (.ld (.c a4) 1 false) h5 fun a6 h7 =>
  vbin .neq a6 (.int .i64 2) fun a8 =>
  vcond a8 (K (.int .i64 (-1)) h7) (
  vhOp PP (.fadd (.c a2) 1) h7 fun a9 h10 =>
  vhOp PP (.ld (.c a9) 1 false) h10 fun a11 h12 =>
  K a11 h12)
theorem V_code_def_ok (a0 : D) (h0 : Heap) (K : D → Heap → Prop) : V_code_def a0 h0 K = vcC PP F_code_def.code (fun x e h' => match x with | .exit _ => False | _ => vcRet PP F_code_def.res K e h') (params [a0] 0) h0 := by kernel_rfl

/-- (warpwright/affine.space).id -/
def loops_affine_space_id : Nat → Option (List Nat × List Nat)
  | _ => none
def tbl_affine_space_id : Nat → Option (List Nat × List Nat × List Nat)
  | _ => none
def F_affine_space_id : AFunc := ⟨52,
  .seq (.reg [⟨(some 2), .box (.t 0), none⟩,
    ⟨(some 4), .alloc (.agg [(.bool false), (.int .i64 0), (.int .i64 0), (.int .i64 0), (.int .i64 0), (.int .i64 0), (.int .i64 0)]), none⟩]) <|
  .seq (.seq (.reg [⟨(some 5), .mov (.t 1), none⟩]) <|
  .block 0 (.seq (.reg [⟨(some 7), .bin .eql (.t 5) (.c (.int .i64 1)), none⟩,
    ⟨(some 6), .mov (.t 7), none⟩]) <|
  .cond (.t 6) (.seq (.reg [⟨(some 8), .ld (.t 2) 9 true, none⟩,
    ⟨(some 9), .bld [(.bool false), (.int .i64 0), (.int .i64 0), (.int .i64 0), (.int .i64 0), (.int .i64 0), (.int .i64 0)] [(1, 1, (.c (.int .i64 1)))], none⟩,
    ⟨(some 10), .call n_affine_space_made [(.t 8), (.t 9), (.c (.int .i64 0))], none⟩,
    ⟨none, .st (.t 4) (.t 10) 7, none⟩]) <|
  .ret) (.seq (.reg [⟨(some 12), .bin .eql (.t 5) (.c (.int .i64 2)), none⟩,
    ⟨(some 11), .mov (.t 12), none⟩]) <|
  .cond (.t 11) (.seq (.reg [⟨(some 13), .ld (.t 2) 9 true, none⟩,
    ⟨(some 14), .bld [(.bool false), (.int .i64 0), (.int .i64 0), (.int .i64 0), (.int .i64 0), (.int .i64 0), (.int .i64 0)] [(2, 1, (.c (.int .i64 1)))], none⟩,
    ⟨(some 15), .call n_affine_space_made [(.t 13), (.t 14), (.c (.int .i64 0))], none⟩,
    ⟨none, .st (.t 4) (.t 15) 7, none⟩]) <|
  .ret) (.seq (.reg [⟨(some 17), .bin .eql (.t 5) (.c (.int .i64 3)), none⟩,
    ⟨(some 16), .mov (.t 17), none⟩]) <|
  .cond (.t 16) (.seq (.reg [⟨(some 18), .ld (.t 2) 9 true, none⟩,
    ⟨(some 19), .bld [(.bool false), (.int .i64 0), (.int .i64 0), (.int .i64 0), (.int .i64 0), (.int .i64 0), (.int .i64 0)] [(3, 1, (.c (.int .i64 1)))], none⟩,
    ⟨(some 20), .call n_affine_space_made [(.t 18), (.t 19), (.c (.int .i64 0))], none⟩,
    ⟨none, .st (.t 4) (.t 20) 7, none⟩]) <|
  .ret) (.seq (.reg [⟨(some 22), .bin .eql (.t 5) (.c (.int .i64 4)), none⟩,
    ⟨(some 21), .mov (.t 22), none⟩]) <|
  .cond (.t 21) (.seq (.reg [⟨(some 23), .fadd (.t 2) 8, none⟩,
    ⟨(some 24), .ld (.t 23) 1 false, none⟩,
    ⟨(some 25), .fadd (.t 2) 0, none⟩,
    ⟨(some 26), .fadd (.t 25) 0, none⟩,
    ⟨(some 27), .ld (.t 26) 1 false, none⟩,
    ⟨(some 28), .bin .mul (.t 24) (.t 27), none⟩,
    ⟨(some 29), .call n_affine_number [(.t 28)], none⟩,
    ⟨none, .st (.t 4) (.t 29) 7, none⟩]) <|
  .ret) (.seq (.reg [⟨(some 31), .bin .eql (.t 5) (.c (.int .i64 5)), none⟩,
    ⟨(some 30), .mov (.t 31), none⟩]) <|
  .cond (.t 30) (.seq (.reg [⟨(some 32), .fadd (.t 2) 0, none⟩,
    ⟨(some 33), .fadd (.t 32) 0, none⟩,
    ⟨(some 34), .ld (.t 33) 1 false, none⟩,
    ⟨(some 35), .call n_affine_number [(.t 34)], none⟩,
    ⟨none, .st (.t 4) (.t 35) 7, none⟩]) <|
  .ret) (.seq (.reg [⟨(some 37), .bin .eql (.t 5) (.c (.int .i64 6)), none⟩,
    ⟨(some 36), .mov (.t 37), none⟩]) <|
  .cond (.t 36) (.seq (.reg [⟨(some 38), .fadd (.t 2) 0, none⟩,
    ⟨(some 39), .fadd (.t 38) 1, none⟩,
    ⟨(some 40), .ld (.t 39) 1 false, none⟩,
    ⟨(some 41), .bin .sub (.t 40) (.c (.int .i64 1)), none⟩,
    ⟨(some 42), .call n_affine_between [(.c (.int .i64 0)), (.t 41)], none⟩,
    ⟨none, .st (.t 4) (.t 42) 7, none⟩]) <|
  .ret) (.skip)))))))) <|
  .seq (.reg [⟨(some 43), .fadd (.t 2) 0, none⟩,
    ⟨(some 44), .fadd (.t 43) 0, none⟩,
    ⟨(some 45), .ld (.t 44) 1 false, none⟩,
    ⟨(some 46), .fadd (.t 2) 0, none⟩,
    ⟨(some 47), .fadd (.t 46) 1, none⟩,
    ⟨(some 48), .ld (.t 47) 1 false, none⟩,
    ⟨(some 49), .bin .quo (.t 45) (.t 48), none⟩,
    ⟨(some 50), .bin .sub (.t 49) (.c (.int .i64 1)), none⟩,
    ⟨(some 51), .call n_affine_between [(.c (.int .i64 0)), (.t 50)], none⟩,
    ⟨none, .st (.t 4) (.t 51) 7, none⟩]) <|
  .ret,
  [.cell 4 7 true]⟩
theorem F_affine_space_id_ok : cFn PP true n_affine_space_id loops_affine_space_id (cDr PP 52 tbl_affine_space_id) = some F_affine_space_id := by kernel_rfl


def V_affine_space_id (a0 : D) (a1 : D) (h0 : Heap) (K : D → Heap → Prop) : Prop :=
  vhOp PP (.box (.c a0)) h0 fun a3 h4 =>
  vhOp PP (.alloc (.agg [(.bool false), (.int .i64 0), (.int .i64 0), (.int .i64 0), (.int .i64 0), (.int .i64 0), (.int .i64 0)])) h4 fun a5 h6 =>
  vbin .eql a1 (.int .i64 1) fun a7 =>
  vcond a7 (vhOp PP (.ld (.c a3) 9 true) h6 fun a8 h9 =>
  vhOp PP (.bld [(.bool false), (.int .i64 0), (.int .i64 0), (.int .i64 0), (.int .i64 0), (.int .i64 0), (.int .i64 0)] [(1, 1, (.c (.int .i64 1)))]) h9 fun a10 h11 =>
  ACall PP n_affine_space_made [a8, a10, (.int .i64 0)] h11 fun a12 h13 =>
  vhOp PP (.st (.c a5) (.c a12) 7) h13 fun a14 h15 =>
  vhOp PP (.ld (.c a5) 7 true) h15 fun a16 _ =>
  K a16 h15) (
  vbin .eql a1 (.int .i64 2) fun a17 =>
  vcond a17 (vhOp PP (.ld (.c a3) 9 true) h6 fun a18 h19 =>
  vhOp PP (.bld [(.bool false), (.int .i64 0), (.int .i64 0), (.int .i64 0), (.int .i64 0), (.int .i64 0), (.int .i64 0)] [(2, 1, (.c (.int .i64 1)))]) h19 fun a20 h21 =>
  ACall PP n_affine_space_made [a18, a20, (.int .i64 0)] h21 fun a22 h23 =>
  vhOp PP (.st (.c a5) (.c a22) 7) h23 fun a24 h25 =>
  vhOp PP (.ld (.c a5) 7 true) h25 fun a26 _ =>
  K a26 h25) (
  vbin .eql a1 (.int .i64 3) fun a27 =>
  vcond a27 (vhOp PP (.ld (.c a3) 9 true) h6 fun a28 h29 =>
  vhOp PP (.bld [(.bool false), (.int .i64 0), (.int .i64 0), (.int .i64 0), (.int .i64 0), (.int .i64 0), (.int .i64 0)] [(3, 1, (.c (.int .i64 1)))]) h29 fun a30 h31 =>
  ACall PP n_affine_space_made [a28, a30, (.int .i64 0)] h31 fun a32 h33 =>
  vhOp PP (.st (.c a5) (.c a32) 7) h33 fun a34 h35 =>
  vhOp PP (.ld (.c a5) 7 true) h35 fun a36 _ =>
  K a36 h35) (
  vbin .eql a1 (.int .i64 4) fun a37 =>
  vcond a37 (vhOp PP (.fadd (.c a3) 8) h6 fun a38 h39 =>
  vhOp PP (.ld (.c a38) 1 false) h39 fun a40 h41 =>
  vhOp PP (.fadd (.c a3) 0) h41 fun a42 h43 =>
  vhOp PP (.fadd (.c a42) 0) h43 fun a44 h45 =>
  vhOp PP (.ld (.c a44) 1 false) h45 fun a46 h47 =>
  vbin .mul a40 a46 fun a48 =>
  ACall PP n_affine_number [a48] h47 fun a49 h50 =>
  vhOp PP (.st (.c a5) (.c a49) 7) h50 fun a51 h52 =>
  vhOp PP (.ld (.c a5) 7 true) h52 fun a53 _ =>
  K a53 h52) (
  vbin .eql a1 (.int .i64 5) fun a54 =>
  vcond a54 (vhOp PP (.fadd (.c a3) 0) h6 fun a55 h56 =>
  vhOp PP (.fadd (.c a55) 0) h56 fun a57 h58 =>
  vhOp PP (.ld (.c a57) 1 false) h58 fun a59 h60 =>
  ACall PP n_affine_number [a59] h60 fun a61 h62 =>
  vhOp PP (.st (.c a5) (.c a61) 7) h62 fun a63 h64 =>
  vhOp PP (.ld (.c a5) 7 true) h64 fun a65 _ =>
  K a65 h64) (
  vbin .eql a1 (.int .i64 6) fun a66 =>
  vcond a66 (vhOp PP (.fadd (.c a3) 0) h6 fun a67 h68 =>
  vhOp PP (.fadd (.c a67) 1) h68 fun a69 h70 =>
  vhOp PP (.ld (.c a69) 1 false) h70 fun a71 h72 =>
  vbin .sub a71 (.int .i64 1) fun a73 =>
  ACall PP n_affine_between [(.int .i64 0), a73] h72 fun a74 h75 =>
  vhOp PP (.st (.c a5) (.c a74) 7) h75 fun a76 h77 =>
  vhOp PP (.ld (.c a5) 7 true) h77 fun a78 _ =>
  K a78 h77) (
  vhOp PP (.fadd (.c a3) 0) h6 fun a79 h80 =>
  vhOp PP (.fadd (.c a79) 0) h80 fun a81 h82 =>
  vhOp PP (.ld (.c a81) 1 false) h82 fun a83 h84 =>
  vhOp PP (.fadd (.c a3) 0) h84 fun a85 h86 =>
  vhOp PP (.fadd (.c a85) 1) h86 fun a87 h88 =>
  vhOp PP (.ld (.c a87) 1 false) h88 fun a89 h90 =>
  vbin .quo a83 a89 fun a91 =>
  vbin .sub a91 (.int .i64 1) fun a92 =>
  ACall PP n_affine_between [(.int .i64 0), a92] h90 fun a93 h94 =>
  vhOp PP (.st (.c a5) (.c a93) 7) h94 fun a95 h96 =>
  vhOp PP (.ld (.c a5) 7 true) h96 fun a97 _ =>
  K a97 h96))))))
theorem V_affine_space_id_ok (a0 : D) (a1 : D) (h0 : Heap) (K : D → Heap → Prop) : V_affine_space_id a0 a1 h0 K = vcC PP F_affine_space_id.code (fun x e h' => match x with | .exit _ => False | _ => vcRet PP F_affine_space_id.res K e h') (params [a0, a1] 0) h0 := by kernel_rfl

/-- (warpwright/affine.space).unary -/
def loops_affine_space_unary : Nat → Option (List Nat × List Nat)
  | 1000014 => some ([6], []) | _ => none
def tbl_affine_space_unary : Nat → Option (List Nat × List Nat × List Nat)
  | 6 => some ([0, 0, 0, 6, 14, 31, 63], [6], []) | 12 => some ([0, 1, 3, 0, 8, 31, 63, 127], [7], []) | _ => none
def F_affine_space_unary : AFunc := ⟨59,
  .seq (.reg [⟨(some 3), .box (.t 0), none⟩,
    ⟨(some 5), .box (.t 2), none⟩,
    ⟨(some 6), .alloc (.agg [(.bool false), (.int .i64 0), (.int .i64 0), (.int .i64 0), (.int .i64 0), (.int .i64 0), (.int .i64 0)]), none⟩]) <|
  .seq (.reg [⟨(some 10), .ld (.t 3) 9 true, none⟩,
    ⟨(some 11), .ld (.t 5) 7 true, none⟩,
    ⟨(some 12), .call n_affine_space_span [(.t 10), (.t 11)], none⟩,
    ⟨(some 9), .mov (.t 12), none⟩,
    ⟨(some 13), .ext (.t 9) 0, none⟩,
    ⟨(some 14), .ext (.t 9) 1, none⟩,
    ⟨(some 7), .alloc (.agg [(.int .i64 0), (.int .i64 0), (.int .i64 0)]), none⟩,
    ⟨none, .st (.t 7) (.t 13) 3, none⟩,
    ⟨(some 8), .mov (.t 14), none⟩]) <|
  .seqj [6] [] (.block 0 (.seq (.reg [⟨(some 16), .mov (.t 8), none⟩,
    ⟨(some 17), .un .not (.t 16), none⟩,
    ⟨(some 15), .mov (.t 17), none⟩]) <|
  .cond (.t 15) (.skip) (.seq (.reg [⟨(some 19), .mov (.t 1), none⟩,
    ⟨(some 20), .bin .eql (.t 19) (.c (.int .i64 1)), none⟩,
    ⟨(some 18), .mov (.t 20), none⟩]) <|
  .cond (.t 18) (.seq (.reg [⟨(some 21), .ld (.t 3) 9 true, none⟩,
    ⟨(some 22), .ld (.t 5) 7 true, none⟩,
    ⟨(some 23), .call n_affine_space_scale [(.t 21), (.t 22), (.c (.int .i64 (-1)))], none⟩,
    ⟨none, .st (.t 6) (.t 23) 7, none⟩]) <|
  .ret) (.seq (.reg [⟨(some 25), .mov (.t 1), none⟩,
    ⟨(some 26), .bin .eql (.t 25) (.c (.int .i64 2)), none⟩,
    ⟨(some 24), .mov (.t 26), none⟩]) <|
  .cond (.t 24) (.seq (.dreg [⟨(some 27), .ld (.t 3) 9 true, none⟩,
    ⟨(some 28), .ld (.t 3) 9 true, none⟩,
    ⟨(some 29), .ld (.t 5) 7 true, none⟩,
    ⟨(some 30), .call n_affine_space_scale [(.t 28), (.t 29), (.c (.int .i64 (-1)))], none⟩,
    ⟨(some 31), .call n_affine_number [(.c (.int .i64 1))], none⟩,
    ⟨(some 32), .call n_affine_space_subtract [(.t 27), (.t 30), (.t 31)], none⟩] [⟨none, .st (.t 6) (.t 32) 7, none⟩] []) <|
  .ret) (.seq (.reg [⟨(some 34), .mov (.t 1), none⟩,
    ⟨(some 35), .bin .eql (.t 34) (.c (.int .i64 3)), none⟩,
    ⟨(some 36), .mov (.t 35), none⟩,
    ⟨(some 37), .fadd (.t 7) 0, some (36, true)⟩,
    ⟨(some 38), .ld (.t 37) 1 false, some (36, true)⟩,
    ⟨(some 39), .bin .geq (.t 38) (.c (.int .i64 0)), some (36, true)⟩,
    ⟨(some 40), .pick (.t 36) (.t 39) (.c (.bool false)), none⟩,
    ⟨(some 33), .mov (.t 40), none⟩]) <|
  .cond (.t 33) (.seq (.reg [⟨(some 41), .ld (.t 5) 7 true, none⟩,
    ⟨none, .st (.t 6) (.t 41) 7, none⟩]) <|
  .ret) (.seq (.reg [⟨(some 43), .mov (.t 1), none⟩,
    ⟨(some 44), .bin .eql (.t 43) (.c (.int .i64 4)), none⟩,
    ⟨(some 42), .mov (.t 44), none⟩]) <|
  .cond (.t 42) (.seq (.reg [⟨(some 45), .ld (.t 3) 9 true, none⟩,
    ⟨(some 46), .ld (.t 5) 7 true, none⟩,
    ⟨(some 47), .call n_affine_space_scale [(.t 45), (.t 46), (.c (.int .i64 65536))], none⟩,
    ⟨none, .st (.t 6) (.t 47) 7, none⟩]) <|
  .ret) (.seq (.reg [⟨(some 49), .mov (.t 1), none⟩,
    ⟨(some 50), .bin .eql (.t 49) (.c (.int .i64 5)), none⟩,
    ⟨(some 48), .mov (.t 50), none⟩]) <|
  .cond (.t 48) (.seq (.dreg [⟨(some 51), .fadd (.t 7) 0, none⟩,
    ⟨(some 52), .ld (.t 51) 1 false, none⟩,
    ⟨(some 53), .call n_affine_floor [(.t 52), (.c (.int .u64 16))], none⟩,
    ⟨(some 54), .fadd (.t 7) 1, none⟩,
    ⟨(some 55), .ld (.t 54) 1 false, none⟩,
    ⟨(some 56), .call n_affine_floor [(.t 55), (.c (.int .u64 16))], none⟩,
    ⟨(some 57), .call n_affine_between [(.t 53), (.t 56)], none⟩] [⟨none, .st (.t 6) (.t 57) 7, none⟩] []) <|
  .ret) (.skip)))))))) <|
  .seq (.reg [⟨(some 58), .call n_affine_unknown [], none⟩,
    ⟨none, .st (.t 6) (.t 58) 7, none⟩]) <|
  .ret,
  [.cell 6 7 true]⟩
theorem F_affine_space_unary_ok : cFn PP true n_affine_space_unary loops_affine_space_unary (cDr PP 59 tbl_affine_space_unary) = some F_affine_space_unary := by kernel_rfl
/-- warpwright/affine.operators -/
def loops_affine_operators : Nat → Option (List Nat × List Nat)
  | _ => none
def tbl_affine_operators : Nat → Option (List Nat × List Nat × List Nat)
  | _ => none
def F_affine_operators : AFunc := ⟨22,
  .seq (.reg [⟨(some 0), .mov (.c .nil), none⟩]) <|
  .seq (.reg [⟨(some 1), .bld [(.int .i64 0), .nilfn] [(0, 1, (.c (.int .i64 10))), (1, 1, (.c (.fn n_affine_space_add [] [])))], none⟩,
    ⟨(some 2), .bld [(.int .i64 0), .nilfn] [(0, 1, (.c (.int .i64 11))), (1, 1, (.c (.fn n_affine_space_subtract [] [])))], none⟩,
    ⟨(some 3), .bld [(.int .i64 0), .nilfn] [(0, 1, (.c (.int .i64 12))), (1, 1, (.c (.fn n_affine_space_multiply [] [])))], none⟩,
    ⟨(some 4), .bld [(.int .i64 0), .nilfn] [(0, 1, (.c (.int .i64 17))), (1, 1, (.c (.fn n_affine_operators_F1 [] [])))], none⟩,
    ⟨(some 5), .call n_affine_by [(.c (.fn n_affine_operators_F2 [] []))], none⟩,
    ⟨(some 6), .bld [(.int .i64 0), .nilfn] [(0, 1, (.c (.int .i64 20))), (1, 1, (.t 5))], none⟩,
    ⟨(some 7), .call n_affine_by [(.c (.fn n_affine_operators_F3 [] []))], none⟩,
    ⟨(some 8), .bld [(.int .i64 0), .nilfn] [(0, 1, (.c (.int .i64 21))), (1, 1, (.t 7))], none⟩,
    ⟨(some 9), .call n_affine_by [(.c (.fn n_affine_operators_F4 [] []))], none⟩,
    ⟨(some 10), .bld [(.int .i64 0), .nilfn] [(0, 1, (.c (.int .i64 13))), (1, 1, (.t 9))], none⟩,
    ⟨(some 11), .call n_affine_by [(.c (.fn n_affine_space_remainder [] []))], none⟩,
    ⟨(some 12), .bld [(.int .i64 0), .nilfn] [(0, 1, (.c (.int .i64 14))), (1, 1, (.t 11))], none⟩,
    ⟨(some 13), .call n_affine_ranged [(.c (.fn n_affine_operators_F5 [] []))], none⟩,
    ⟨(some 14), .bld [(.int .i64 0), .nilfn] [(0, 1, (.c (.int .i64 22))), (1, 1, (.t 13))], none⟩,
    ⟨(some 15), .call n_affine_ranged [(.c (.fn n_affine_operators_F6 [] []))], none⟩,
    ⟨(some 16), .bld [(.int .i64 0), .nilfn] [(0, 1, (.c (.int .i64 23))), (1, 1, (.t 15))], none⟩,
    ⟨(some 17), .call n_affine_ranged [(.c (.fn n_affine_bits [] []))], none⟩,
    ⟨(some 18), .bld [(.int .i64 0), .nilfn] [(0, 1, (.c (.int .i64 18))), (1, 1, (.t 17))], none⟩,
    ⟨(some 19), .call n_affine_ranged [(.c (.fn n_affine_bits [] []))], none⟩,
    ⟨(some 20), .bld [(.int .i64 0), .nilfn] [(0, 1, (.c (.int .i64 19))), (1, 1, (.t 19))], none⟩,
    ⟨(some 21), .bldS true 2 12 (.agg [(.int .i64 0), .nilfn]) [(0, (.t 1)), (1, (.t 2)), (2, (.t 3)), (3, (.t 4)), (4, (.t 6)), (5, (.t 8)), (6, (.t 10)), (7, (.t 12)), (8, (.t 14)), (9, (.t 16)), (10, (.t 18)), (11, (.t 20))], none⟩,
    ⟨(some 0), .mov (.t 21), none⟩]) <|
  .ret,
  [.t 0]⟩
theorem F_affine_operators_ok : cFn PP true n_affine_operators loops_affine_operators (cDr PP 22 tbl_affine_operators) = some F_affine_operators := by kernel_rfl


def V_affine_operators (h0 : Heap) (K : D → Heap → Prop) : Prop :=
  vhOp PP (.bld [(.int .i64 0), .nilfn] [(0, 1, (.c (.int .i64 10))), (1, 1, (.c (.fn n_affine_space_add [] [])))]) h0 fun a1 h2 =>
  vhOp PP (.bld [(.int .i64 0), .nilfn] [(0, 1, (.c (.int .i64 11))), (1, 1, (.c (.fn n_affine_space_subtract [] [])))]) h2 fun a3 h4 =>
  vhOp PP (.bld [(.int .i64 0), .nilfn] [(0, 1, (.c (.int .i64 12))), (1, 1, (.c (.fn n_affine_space_multiply [] [])))]) h4 fun a5 h6 =>
  vhOp PP (.bld [(.int .i64 0), .nilfn] [(0, 1, (.c (.int .i64 17))), (1, 1, (.c (.fn n_affine_operators_F1 [] [])))]) h6 fun a7 h8 =>
  ACall PP n_affine_by [(.fn n_affine_operators_F2 [] [])] h8 fun a9 h10 =>
  vhOp PP (.bld [(.int .i64 0), .nilfn] [(0, 1, (.c (.int .i64 20))), (1, 1, (.c a9))]) h10 fun a11 h12 =>
  ACall PP n_affine_by [(.fn n_affine_operators_F3 [] [])] h12 fun a13 h14 =>
  vhOp PP (.bld [(.int .i64 0), .nilfn] [(0, 1, (.c (.int .i64 21))), (1, 1, (.c a13))]) h14 fun a15 h16 =>
  ACall PP n_affine_by [(.fn n_affine_operators_F4 [] [])] h16 fun a17 h18 =>
  vhOp PP (.bld [(.int .i64 0), .nilfn] [(0, 1, (.c (.int .i64 13))), (1, 1, (.c a17))]) h18 fun a19 h20 =>
  ACall PP n_affine_by [(.fn n_affine_space_remainder [] [])] h20 fun a21 h22 =>
  vhOp PP (.bld [(.int .i64 0), .nilfn] [(0, 1, (.c (.int .i64 14))), (1, 1, (.c a21))]) h22 fun a23 h24 =>
  ACall PP n_affine_ranged [(.fn n_affine_operators_F5 [] [])] h24 fun a25 h26 =>
  vhOp PP (.bld [(.int .i64 0), .nilfn] [(0, 1, (.c (.int .i64 22))), (1, 1, (.c a25))]) h26 fun a27 h28 =>
  ACall PP n_affine_ranged [(.fn n_affine_operators_F6 [] [])] h28 fun a29 h30 =>
  vhOp PP (.bld [(.int .i64 0), .nilfn] [(0, 1, (.c (.int .i64 23))), (1, 1, (.c a29))]) h30 fun a31 h32 =>
  ACall PP n_affine_ranged [(.fn n_affine_bits [] [])] h32 fun a33 h34 =>
  vhOp PP (.bld [(.int .i64 0), .nilfn] [(0, 1, (.c (.int .i64 18))), (1, 1, (.c a33))]) h34 fun a35 h36 =>
  ACall PP n_affine_ranged [(.fn n_affine_bits [] [])] h36 fun a37 h38 =>
  vhOp PP (.bld [(.int .i64 0), .nilfn] [(0, 1, (.c (.int .i64 19))), (1, 1, (.c a37))]) h38 fun a39 h40 =>
  vhOp PP (.bldS true 2 12 (.agg [(.int .i64 0), .nilfn]) [(0, (.c a1)), (1, (.c a3)), (2, (.c a5)), (3, (.c a7)), (4, (.c a11)), (5, (.c a15)), (6, (.c a19)), (7, (.c a23)), (8, (.c a27)), (9, (.c a31)), (10, (.c a35)), (11, (.c a39))]) h40 fun a41 h42 =>
  K a41 h42
theorem V_affine_operators_ok (h0 : Heap) (K : D → Heap → Prop) : V_affine_operators h0 K = vcC PP F_affine_operators.code (fun x e h' => match x with | .exit _ => False | _ => vcRet PP F_affine_operators.res K e h') (params [] 0) h0 := by kernel_rfl

/-- slices.Backward[[]warpwright/api.Inst,warpwright/api.Inst] -/
def loops_slices_Backward_sapi_Inst_api_Inst : Nat → Option (List Nat × List Nat)
  | _ => none
def tbl_slices_Backward_sapi_Inst_api_Inst : Nat → Option (List Nat × List Nat × List Nat)
  | _ => none
def F_slices_Backward_sapi_Inst_api_Inst : AFunc := ⟨4,
  .seq (.reg [⟨(some 1), .box (.t 0), none⟩,
    ⟨(some 2), .mov (.c .nilfn), none⟩]) <|
  .seq (.reg [⟨(some 3), .mkf n_slices_Backward_sapi_Inst_api_Inst_F1 [] [(.t 1)], none⟩,
    ⟨(some 2), .mov (.t 3), none⟩]) <|
  .ret,
  [.t 2]⟩
theorem F_slices_Backward_sapi_Inst_api_Inst_ok : cFn PP true n_slices_Backward_sapi_Inst_api_Inst loops_slices_Backward_sapi_Inst_api_Inst (cDr PP 4 tbl_slices_Backward_sapi_Inst_api_Inst) = some F_slices_Backward_sapi_Inst_api_Inst := by kernel_rfl
/-- warpwright/span.made -/
def loops_span_made : Nat → Option (List Nat × List Nat)
  | 1000004 => some ([0, 1, 6], [2]) | _ => none
def tbl_span_made : Nat → Option (List Nat × List Nat × List Nat)
  | _ => none
def F_span_made : AFunc := ⟨14,
  .seq (.reg [⟨(some 6), .alloc (.agg [(.int .i64 0), (.int .i64 0), (.int .i64 0)]), none⟩]) <|
  .seqj [0, 1, 6] [2] (.seq (.reg [⟨(some 7), .mov (.t 0), none⟩,
    ⟨(some 8), .mov (.t 1), none⟩,
    ⟨(some 9), .bin .eql (.t 7) (.t 8), none⟩]) <|
  .cond (.t 9) (.reg [⟨(some 2), .mov (.c (.int .i64 0)), none⟩]) (.skip)) <|
  .seq (.reg [⟨(some 10), .mov (.t 0), none⟩,
    ⟨(some 11), .mov (.t 1), none⟩,
    ⟨(some 12), .mov (.t 2), none⟩,
    ⟨(some 13), .bld [(.int .i64 0), (.int .i64 0), (.int .i64 0)] [(0, 1, (.t 10)), (1, 1, (.t 11)), (2, 1, (.t 12))], none⟩,
    ⟨none, .st (.t 6) (.t 13) 3, none⟩]) <|
  .ret,
  [.cell 6 3 true]⟩
theorem F_span_made_ok : cFn PP true n_span_made loops_span_made (cDr PP 14 tbl_span_made) = some F_span_made := by kernel_rfl


def V_span_made (a0 : D) (a1 : D) (a2 : D) (h0 : Heap) (K : D → Heap → Prop) : Prop :=
  vhOp PP (.alloc (.agg [(.int .i64 0), (.int .i64 0), (.int .i64 0)])) h0 fun a4 h5 =>
  ∃ (J6 : List D → Heap → Prop), (∀ (f7 : Nat → D) (h8 : Heap), J6 [f7 2] h8 →
  vhOp PP (.bld [(.int .i64 0), (.int .i64 0), (.int .i64 0)] [(0, 1, (.c a0)), (1, 1, (.c a1)), (2, 1, (.c (f7 2)))]) h8 fun a9 h10 =>
  vhOp PP (.st (.c a4) (.c a9) 3) h10 fun a11 h12 =>
  vhOp PP (.ld (.c a4) 3 true) h12 fun a13 _ =>
  K a13 h12) ∧
  vbin .eql a0 a1 fun a14 =>
  vcond a14 (keq [a0, a1, a4] [a0, a1, a4] ∧ J6 [(.int .i64 0)] h5) (
  keq [a0, a1, a4] [a0, a1, a4] ∧ J6 [a2] h5)
theorem V_span_made_ok (a0 : D) (a1 : D) (a2 : D) (h0 : Heap) (K : D → Heap → Prop) : V_span_made a0 a1 a2 h0 K = vcC PP F_span_made.code (fun x e h' => match x with | .exit _ => False | _ => vcRet PP F_span_made.res K e h') (params [a0, a1, a2] 0) h0 := by kernel_rfl

/-- warpwright/span.euclid -/
def loops_span_euclid : Nat → Option (List Nat × List Nat)
  | _ => none
def tbl_span_euclid : Nat → Option (List Nat × List Nat × List Nat)
  | 4 => some ([0, 1, 0, 4, 0, 16, 0, 0, 192, 0, 512, 1984, 4080, 8191, 16383], [14], []) | _ => none
def F_span_euclid : AFunc := ⟨29,
  .seq (.reg [⟨(some 4), .alloc (.agg [(.int .i64 0), (.int .i64 0), (.int .i64 0)]), none⟩]) <|
  .seq (.seq (.reg [⟨(some 6), .mov (.t 1), none⟩,
    ⟨(some 7), .bin .eql (.t 6) (.c (.int .i64 0)), none⟩]) <|
  .cond (.t 7) (.seq (.reg [⟨(some 8), .mov (.t 0), none⟩,
    ⟨(some 9), .bld [(.int .i64 0), (.int .i64 0), (.int .i64 0)] [(0, 1, (.t 8)), (1, 1, (.c (.int .i64 1))), (2, 1, (.c (.int .i64 0)))], none⟩,
    ⟨none, .st (.t 4) (.t 9) 3, none⟩]) <|
  .ret) (.skip)) <|
  .seq (.reg [⟨(some 10), .mov (.t 1), none⟩,
    ⟨(some 11), .mov (.t 0), none⟩,
    ⟨(some 12), .mov (.t 1), none⟩,
    ⟨(some 13), .bin .rem (.t 11) (.t 12), none⟩,
    ⟨(some 14), .call n_span_euclid [(.t 10), (.t 13)], none⟩,
    ⟨(some 5), .alloc (.agg [(.int .i64 0), (.int .i64 0), (.int .i64 0)]), none⟩,
    ⟨none, .st (.t 5) (.t 14) 3, none⟩]) <|
  .seq (.dreg [⟨(some 15), .iadda (.t 5) (.c (.int .i64 0)) 3 1, none⟩,
    ⟨(some 16), .ld (.t 15) 1 false, none⟩,
    ⟨(some 17), .iadda (.t 5) (.c (.int .i64 2)) 3 1, none⟩,
    ⟨(some 18), .ld (.t 17) 1 false, none⟩,
    ⟨(some 19), .iadda (.t 5) (.c (.int .i64 1)) 3 1, none⟩,
    ⟨(some 20), .ld (.t 19) 1 false, none⟩,
    ⟨(some 21), .mov (.t 0), none⟩,
    ⟨(some 22), .mov (.t 1), none⟩,
    ⟨(some 23), .bin .quo (.t 21) (.t 22), none⟩,
    ⟨(some 24), .iadda (.t 5) (.c (.int .i64 2)) 3 1, none⟩,
    ⟨(some 25), .ld (.t 24) 1 false, none⟩,
    ⟨(some 26), .bin .mul (.t 23) (.t 25), none⟩,
    ⟨(some 27), .bin .sub (.t 20) (.t 26), none⟩,
    ⟨(some 28), .bld [(.int .i64 0), (.int .i64 0), (.int .i64 0)] [(0, 1, (.t 16)), (1, 1, (.t 18)), (2, 1, (.t 27))], none⟩] [⟨none, .st (.t 4) (.t 28) 3, none⟩] []) <|
  .ret,
  [.cell 4 3 true]⟩
theorem F_span_euclid_ok : cFn PP true n_span_euclid loops_span_euclid (cDr PP 29 tbl_span_euclid) = some F_span_euclid := by kernel_rfl
/-- warpwright/span.mulmod -/
def loops_span_mulmod : Nat → Option (List Nat × List Nat)
  | _ => none
def tbl_span_mulmod : Nat → Option (List Nat × List Nat × List Nat)
  | _ => none
def F_span_mulmod : AFunc := ⟨27,
  .seq (.reg [⟨(some 6), .mov (.c (.int .i64 0)), none⟩]) <|
  .seq (.reg [⟨(some 10), .mov (.t 0), none⟩,
    ⟨(some 11), .mov (.t 2), none⟩,
    ⟨(some 12), .call n_span_rest [(.t 10), (.t 11)], none⟩,
    ⟨(some 13), .conv .u64 (.t 12), none⟩,
    ⟨(some 14), .mov (.t 1), none⟩,
    ⟨(some 15), .mov (.t 2), none⟩,
    ⟨(some 16), .call n_span_rest [(.t 14), (.t 15)], none⟩,
    ⟨(some 17), .conv .u64 (.t 16), none⟩,
    ⟨(some 18), .call n_math_bits_Mul64 [(.t 13), (.t 17)], none⟩,
    ⟨(some 9), .mov (.t 18), none⟩,
    ⟨(some 19), .ext (.t 9) 0, none⟩,
    ⟨(some 20), .ext (.t 9) 1, none⟩,
    ⟨(some 7), .mov (.t 19), none⟩,
    ⟨(some 8), .mov (.t 20), none⟩]) <|
  .seq (.reg [⟨(some 21), .mov (.t 7), none⟩,
    ⟨(some 22), .mov (.t 8), none⟩,
    ⟨(some 23), .mov (.t 2), none⟩,
    ⟨(some 24), .conv .u64 (.t 23), none⟩,
    ⟨(some 25), .call n_math_bits_Rem64 [(.t 21), (.t 22), (.t 24)], none⟩,
    ⟨(some 26), .conv .i64 (.t 25), none⟩,
    ⟨(some 6), .mov (.t 26), none⟩]) <|
  .ret,
  [.t 6]⟩
theorem F_span_mulmod_ok : cFn PP true n_span_mulmod loops_span_mulmod (cDr PP 27 tbl_span_mulmod) = some F_span_mulmod := by kernel_rfl
/-- warpwright/span.floor -/
def loops_span_floor : Nat → Option (List Nat × List Nat)
  | 1000005 => some ([], [5]) | _ => none
def tbl_span_floor : Nat → Option (List Nat × List Nat × List Nat)
  | _ => none
def F_span_floor : AFunc := ⟨16,
  .seq (.reg [⟨(some 4), .mov (.c (.int .i64 0)), none⟩]) <|
  .seq (.reg [⟨(some 6), .mov (.t 0), none⟩,
    ⟨(some 7), .mov (.t 1), none⟩,
    ⟨(some 8), .bin .quo (.t 6) (.t 7), none⟩,
    ⟨(some 5), .mov (.t 8), none⟩]) <|
  .seqj [] [5] (.seq (.reg [⟨(some 9), .mov (.t 0), none⟩,
    ⟨(some 10), .mov (.t 1), none⟩,
    ⟨(some 11), .bin .rem (.t 9) (.t 10), none⟩,
    ⟨(some 12), .bin .lss (.t 11) (.c (.int .i64 0)), none⟩]) <|
  .cond (.t 12) (.reg [⟨(some 13), .mov (.t 5), none⟩,
    ⟨(some 14), .bin .sub (.t 13) (.c (.int .i64 1)), none⟩,
    ⟨(some 5), .mov (.t 14), none⟩]) (.skip)) <|
  .seq (.reg [⟨(some 15), .mov (.t 5), none⟩,
    ⟨(some 4), .mov (.t 15), none⟩]) <|
  .ret,
  [.t 4]⟩
theorem F_span_floor_ok : cFn PP true n_span_floor loops_span_floor (cDr PP 16 tbl_span_floor) = some F_span_floor := by kernel_rfl
/-- warpwright/warpwrightref25.bounded -/
def loops_ref25_bounded : Nat → Option (List Nat × List Nat)
  | _ => none
def tbl_ref25_bounded : Nat → Option (List Nat × List Nat × List Nat)
  | _ => none
def F_ref25_bounded : AFunc := ⟨21,
  .seq (.reg [⟨(some 6), .alloc (.agg [(.int .i64 0), (.int .i64 0), (.int .i64 0), (.int .i64 0)]), none⟩]) <|
  .seq (.seq (.reg [⟨(some 7), .mov (.t 0), none⟩,
    ⟨(some 8), .call n_ref25_near [(.t 7)], none⟩,
    ⟨(some 9), .un .not (.t 8), none⟩,
    ⟨(some 10), .mov (.t 9), none⟩,
    ⟨(some 11), .mov (.t 1), some (10, false)⟩,
    ⟨(some 12), .call n_ref25_near [(.t 11)], some (10, false)⟩,
    ⟨(some 13), .un .not (.t 12), some (10, false)⟩,
    ⟨(some 14), .pick (.t 10) (.c (.bool true)) (.t 13), none⟩]) <|
  .cond (.t 14) (.seq (.reg [⟨(some 15), .bld [(.int .i64 0), (.int .i64 0), (.int .i64 0), (.int .i64 0)] [(3, 1, (.c (.int .i64 2)))], none⟩,
    ⟨none, .st (.t 6) (.t 15) 4, none⟩]) <|
  .ret) (.skip)) <|
  .seq (.reg [⟨(some 16), .mov (.t 0), none⟩,
    ⟨(some 17), .mov (.t 1), none⟩,
    ⟨(some 18), .mov (.t 2), none⟩,
    ⟨(some 19), .call n_ref25_Made [(.t 16), (.t 17), (.t 18)], none⟩,
    ⟨(some 20), .bld [(.int .i64 0), (.int .i64 0), (.int .i64 0), (.int .i64 0)] [(0, 3, (.t 19))], none⟩,
    ⟨none, .st (.t 6) (.t 20) 4, none⟩]) <|
  .ret,
  [.cell 6 4 true]⟩
theorem F_ref25_bounded_ok : cFn PP true n_ref25_bounded loops_ref25_bounded (cDr PP 21 tbl_ref25_bounded) = some F_ref25_bounded := by kernel_rfl


def V_ref25_bounded (a0 : D) (a1 : D) (a2 : D) (h0 : Heap) (K : D → Heap → Prop) : Prop :=
  vhOp PP (.alloc (.agg [(.int .i64 0), (.int .i64 0), (.int .i64 0), (.int .i64 0)])) h0 fun a4 h5 =>
  ACall PP n_ref25_near [a0] h5 fun a6 h7 =>
  vun .not a6 fun a8 =>
  vguard a8 false (fun G9 =>
  G9 a1 h7) h7 fun a10 h11 =>
  vguard a8 false (fun G12 =>
  ACall PP n_ref25_near [a10] h11 fun a15 h16 =>
  G12 a15 h16) h11 fun a13 h14 =>
  vguard a8 false (fun G17 =>
  vun .not a13 fun a20 =>
  G17 a20 h14) h14 fun a18 h19 =>
  vhOp PP (.pick (.c a8) (.c (.bool true)) (.c a18)) h19 fun a21 h22 =>
  vcond a21 (vhOp PP (.bld [(.int .i64 0), (.int .i64 0), (.int .i64 0), (.int .i64 0)] [(3, 1, (.c (.int .i64 2)))]) h22 fun a23 h24 =>
  vhOp PP (.st (.c a4) (.c a23) 4) h24 fun a25 h26 =>
  vhOp PP (.ld (.c a4) 4 true) h26 fun a27 _ =>
  K a27 h26) (
  ACall PP n_ref25_Made [a0, a1, a2] h22 fun a28 h29 =>
  vhOp PP (.bld [(.int .i64 0), (.int .i64 0), (.int .i64 0), (.int .i64 0)] [(0, 3, (.c a28))]) h29 fun a30 h31 =>
  vhOp PP (.st (.c a4) (.c a30) 4) h31 fun a32 h33 =>
  vhOp PP (.ld (.c a4) 4 true) h33 fun a34 _ =>
  K a34 h33)
theorem V_ref25_bounded_ok (a0 : D) (a1 : D) (a2 : D) (h0 : Heap) (K : D → Heap → Prop) : V_ref25_bounded a0 a1 a2 h0 K = vcC PP F_ref25_bounded.code (fun x e h' => match x with | .exit _ => False | _ => vcRet PP F_ref25_bounded.res K e h') (params [a0, a1, a2] 0) h0 := by kernel_rfl

/-- warpwright/warpwrightref25.Gcd -/
def loops_ref25_Gcd : Nat → Option (List Nat × List Nat)
  | 1000004 => some ([1], [0]) | 1000006 => some ([0], [1]) | 1000008 => some ([], [0]) | 5 => some ([], [0, 1]) | _ => none
def tbl_ref25_Gcd : Nat → Option (List Nat × List Nat × List Nat)
  | 6 => some ([0, 0, 0, 6, 3, 31], [4, 5], []) | _ => none
def F_ref25_Gcd : AFunc := ⟨20,
  .seq (.reg [⟨(some 4), .mov (.c (.int .i64 0)), none⟩]) <|
  .seqj [1] [0] (.seq (.reg [⟨(some 5), .mov (.t 0), none⟩,
    ⟨(some 6), .bin .lss (.t 5) (.c (.int .i64 0)), none⟩]) <|
  .cond (.t 6) (.reg [⟨(some 7), .mov (.t 0), none⟩,
    ⟨(some 8), .un .neg (.t 7), none⟩,
    ⟨(some 0), .mov (.t 8), none⟩]) (.skip)) <|
  .seqj [0] [1] (.seq (.reg [⟨(some 9), .mov (.t 1), none⟩,
    ⟨(some 10), .bin .lss (.t 9) (.c (.int .i64 0)), none⟩]) <|
  .cond (.t 10) (.reg [⟨(some 11), .mov (.t 1), none⟩,
    ⟨(some 12), .un .neg (.t 11), none⟩,
    ⟨(some 1), .mov (.t 12), none⟩]) (.skip)) <|
  .seqj [] [0] (.block 0 (.loop [] [0, 1] (.seq (.seq (.reg [⟨(some 13), .mov (.t 1), none⟩,
    ⟨(some 14), .bin .neq (.t 13) (.c (.int .i64 0)), none⟩]) <|
  .cond (.t 14) (.skip) (.exit 0)) <|
  .block 1 (.dreg [⟨(some 15), .mov (.t 1), none⟩,
    ⟨(some 16), .mov (.t 0), none⟩,
    ⟨(some 17), .mov (.t 1), none⟩,
    ⟨(some 18), .bin .rem (.t 16) (.t 17), none⟩] [⟨(some 0), .mov (.t 15), none⟩,
    ⟨(some 1), .mov (.t 18), none⟩] [])))) <|
  .seq (.reg [⟨(some 19), .mov (.t 0), none⟩,
    ⟨(some 4), .mov (.t 19), none⟩]) <|
  .ret,
  [.t 4]⟩
theorem F_ref25_Gcd_ok : cFn PP true n_ref25_Gcd loops_ref25_Gcd (cDr PP 20 tbl_ref25_Gcd) = some F_ref25_Gcd := by kernel_rfl

def V_ref25_Gcd_L0 (f4 : Nat → D) (f7 : Nat → D) (h8 : Heap) (J9 : List D → Heap → Prop) : Prop :=
  ∃ (I12 : Nat → List D → Heap → Prop) (n₀ : Nat), I12 n₀ [(f4 0), (f7 1)] h8 ∧ ∀ (n13 : Nat) (f14 : Nat → D) (h15 : Heap), I12 n13 [f14 0, f14 1] h15 →
  vbin .neq (f14 1) (.int .i64 0) fun a16 =>
  vcond a16 (vbin .rem (f14 0) (f14 1) fun a17 =>
  keq [] [] ∧ ∃ m, m < n13 ∧ I12 m [(f14 1), a17] h15) (
  keq [] [] ∧ J9 [(f14 0)] h15)
def V_ref25_Gcd (a0 : D) (a1 : D) (h0 : Heap) (K : D → Heap → Prop) : Prop :=
  ∃ (J3 : List D → Heap → Prop), (∀ (f4 : Nat → D) (h5 : Heap), J3 [f4 0] h5 →
  ∃ (J6 : List D → Heap → Prop), (∀ (f7 : Nat → D) (h8 : Heap), J6 [f7 1] h8 →
  ∃ (J9 : List D → Heap → Prop), (∀ (f10 : Nat → D) (h11 : Heap), J9 [f10 0] h11 →
  K (f10 0) h11) ∧
  V_ref25_Gcd_L0 f4 f7 h8 J9) ∧
  vbin .lss a1 (.int .i64 0) fun a18 =>
  vcond a18 (vun .neg a1 fun a19 =>
  keq [(f4 0)] [(f4 0)] ∧ J6 [a19] h5) (
  keq [(f4 0)] [(f4 0)] ∧ J6 [a1] h5)) ∧
  vbin .lss a0 (.int .i64 0) fun a20 =>
  vcond a20 (vun .neg a0 fun a21 =>
  keq [a1] [a1] ∧ J3 [a21] h0) (
  keq [a1] [a1] ∧ J3 [a0] h0)
theorem V_ref25_Gcd_ok (a0 : D) (a1 : D) (h0 : Heap) (K : D → Heap → Prop) : V_ref25_Gcd a0 a1 h0 K = vcC PP F_ref25_Gcd.code (fun x e h' => match x with | .exit _ => False | _ => vcRet PP F_ref25_Gcd.res K e h') (params [a0, a1] 0) h0 := by kernel_rfl

/-- warpwright/span.products -/
def loops_span_products : Nat → Option (List Nat × List Nat)
  | 1000013 => some ([], [7, 8, 9]) | 3 => some ([3, 20], [7, 8, 9, 21]) | 1000012 => some ([3, 20, 21], [7, 8, 9]) | 6 => some ([3, 11, 20, 21, 28], [7, 8, 9, 29]) | _ => none
def tbl_span_products : Nat → Option (List Nat × List Nat × List Nat)
  | _ => none
def F_span_products : AFunc := ⟨53,
  .seq (.reg [⟨(some 2), .box (.t 0), none⟩,
    ⟨(some 3), .box (.t 1), none⟩,
    ⟨(some 4), .mov (.c (.int .i64 0)), none⟩,
    ⟨(some 5), .mov (.c (.int .i64 0)), none⟩,
    ⟨(some 6), .mov (.c (.bool false)), none⟩]) <|
  .seq (.reg [⟨(some 7), .mov (.c (.int .i64 1099511627776)), none⟩,
    ⟨(some 8), .mov (.c (.int .i64 (-1099511627776))), none⟩,
    ⟨(some 9), .mov (.c (.bool true)), none⟩]) <|
  .seqj [] [7, 8, 9] (.seq (.reg [⟨(some 16), .fadd (.t 2) 0, none⟩,
    ⟨(some 17), .ld (.t 16) 1 false, none⟩,
    ⟨(some 18), .fadd (.t 2) 1, none⟩,
    ⟨(some 19), .ld (.t 18) 1 false, none⟩,
    ⟨(some 20), .bld [(.int .i64 0), (.int .i64 0)] [(0, 1, (.t 17)), (1, 1, (.t 19))], none⟩,
    ⟨(some 21), .mov (.c (.int .i64 0)), none⟩]) <|
  .block 0 (.loop [3, 20] [7, 8, 9, 21] (.seq (.reg [⟨(some 22), .bin .lss (.t 21) (.c (.int .i64 2)), none⟩]) <|
  .seq (.cond (.t 22) (.skip) (.exit 0)) <|
  .seqj [3, 20, 21] [7, 8, 9] (.block 1 (.seq (.reg [⟨(some 23), .sidx (.t 20) (.t 21) 2 1 false, none⟩,
    ⟨(some 11), .mov (.t 23), none⟩]) <|
  .seq (.reg [⟨(some 24), .fadd (.t 3) 0, none⟩,
    ⟨(some 25), .ld (.t 24) 1 false, none⟩,
    ⟨(some 26), .fadd (.t 3) 1, none⟩,
    ⟨(some 27), .ld (.t 26) 1 false, none⟩,
    ⟨(some 28), .bld [(.int .i64 0), (.int .i64 0)] [(0, 1, (.t 25)), (1, 1, (.t 27))], none⟩,
    ⟨(some 29), .mov (.c (.int .i64 0)), none⟩]) <|
  .block 2 (.loop [3, 11, 20, 21, 28] [7, 8, 9, 29] (.seq (.reg [⟨(some 30), .bin .lss (.t 29) (.c (.int .i64 2)), none⟩]) <|
  .seq (.cond (.t 30) (.skip) (.exit 2)) <|
  .seq (.block 3 (.seq (.reg [⟨(some 31), .sidx (.t 28) (.t 29) 2 1 false, none⟩,
    ⟨(some 13), .mov (.t 31), none⟩]) <|
  .seq (.reg [⟨(some 33), .mov (.t 11), none⟩,
    ⟨(some 34), .mov (.t 13), none⟩,
    ⟨(some 35), .call n_span_product [(.t 33), (.t 34)], none⟩,
    ⟨(some 32), .mov (.t 35), none⟩,
    ⟨(some 36), .ext (.t 32) 0, none⟩,
    ⟨(some 37), .ext (.t 32) 1, none⟩,
    ⟨(some 14), .mov (.t 36), none⟩,
    ⟨(some 15), .mov (.t 37), none⟩]) <|
  .reg [⟨(some 38), .mov (.t 7), none⟩,
    ⟨(some 39), .mov (.t 14), none⟩,
    ⟨(some 40), .mn (.t 38) (.t 39), none⟩,
    ⟨(some 41), .mov (.t 8), none⟩,
    ⟨(some 42), .mov (.t 14), none⟩,
    ⟨(some 43), .mx (.t 41) (.t 42), none⟩,
    ⟨(some 44), .mov (.t 9), none⟩,
    ⟨(some 45), .mov (.t 44), none⟩,
    ⟨(some 46), .mov (.t 15), some (45, true)⟩,
    ⟨(some 47), .pick (.t 45) (.t 46) (.c (.bool false)), none⟩,
    ⟨(some 7), .mov (.t 40), none⟩,
    ⟨(some 8), .mov (.t 43), none⟩,
    ⟨(some 9), .mov (.t 47), none⟩])) <|
  .reg [⟨(some 48), .bin .add (.t 29) (.c (.int .i64 1)), none⟩,
    ⟨(some 29), .mov (.t 48), none⟩])))) <|
  .reg [⟨(some 49), .bin .add (.t 21) (.c (.int .i64 1)), none⟩,
    ⟨(some 21), .mov (.t 49), none⟩]))) <|
  .seq (.reg [⟨(some 50), .mov (.t 7), none⟩,
    ⟨(some 51), .mov (.t 8), none⟩,
    ⟨(some 52), .mov (.t 9), none⟩,
    ⟨(some 4), .mov (.t 50), none⟩,
    ⟨(some 5), .mov (.t 51), none⟩,
    ⟨(some 6), .mov (.t 52), none⟩]) <|
  .ret,
  [.t 4, .t 5, .t 6]⟩
theorem F_span_products_ok : cFn PP true n_span_products loops_span_products (cDr PP 53 tbl_span_products) = some F_span_products := by kernel_rfl

def V_span_products_L0 (f22 : Nat → D) (h40 : Heap) (a39 : D) (a29 : D) (a5 : D) (a18 : D) (J25 : List D → Heap → Prop) : Prop :=
  ∃ (I41 : Nat → List D → Heap → Prop) (n₀ : Nat), I41 n₀ [(f22 7), (f22 8), (f22 9), (.int .i64 0)] h40 ∧ ∀ (n42 : Nat) (f43 : Nat → D) (h44 : Heap), I41 n42 [f43 7, f43 8, f43 9, f43 29] h44 →
  vbin .lss (f43 29) (.int .i64 2) fun a45 =>
  vcond a45 (vhOp PP (.sidx (.c a39) (.c (f43 29)) 2 1 false) h44 fun a46 h47 =>
  ACall PP n_span_product [a29, a46] h47 fun a48 h49 =>
  vhOp PP (.ext (.c a48) 0) h49 fun a50 h51 =>
  vhOp PP (.ext (.c a48) 1) h51 fun a52 h53 =>
  vhOp PP (.mn (.c (f43 7)) (.c a50)) h53 fun a54 h55 =>
  vhOp PP (.mx (.c (f43 8)) (.c a50)) h55 fun a56 h57 =>
  vguard (f43 9) true (fun G58 =>
  G58 a52 h57) h57 fun a59 h60 =>
  vhOp PP (.pick (.c (f43 9)) (.c a59) (.c (.bool false))) h60 fun a61 h62 =>
  vbin .add (f43 29) (.int .i64 1) fun a63 =>
  keq [a5, a29, a18, (f22 21), a39] [a5, a29, a18, (f22 21), a39] ∧ ∃ m, m < n42 ∧ I41 m [a54, a56, a61, a63] h62) (
  keq [a5, a18, (f22 21)] [a5, a18, (f22 21)] ∧ J25 [(f43 7), (f43 8), (f43 9)] h44)
def V_span_products_L1 (h19 : Heap) (a5 : D) (a18 : D) (J7 : List D → Heap → Prop) : Prop :=
  ∃ (I20 : Nat → List D → Heap → Prop) (n₀ : Nat), I20 n₀ [(.int .i64 1099511627776), (.int .i64 (-1099511627776)), (.bool true), (.int .i64 0)] h19 ∧ ∀ (n21 : Nat) (f22 : Nat → D) (h23 : Heap), I20 n21 [f22 7, f22 8, f22 9, f22 21] h23 →
  vbin .lss (f22 21) (.int .i64 2) fun a24 =>
  vcond a24 (∃ (J25 : List D → Heap → Prop), (∀ (f26 : Nat → D) (h27 : Heap), J25 [f26 7, f26 8, f26 9] h27 →
  vbin .add (f22 21) (.int .i64 1) fun a28 =>
  keq [a5, a18] [a5, a18] ∧ ∃ m, m < n21 ∧ I20 m [(f26 7), (f26 8), (f26 9), a28] h27) ∧
  vhOp PP (.sidx (.c a18) (.c (f22 21)) 2 1 false) h23 fun a29 h30 =>
  vhOp PP (.fadd (.c a5) 0) h30 fun a31 h32 =>
  vhOp PP (.ld (.c a31) 1 false) h32 fun a33 h34 =>
  vhOp PP (.fadd (.c a5) 1) h34 fun a35 h36 =>
  vhOp PP (.ld (.c a35) 1 false) h36 fun a37 h38 =>
  vhOp PP (.bld [(.int .i64 0), (.int .i64 0)] [(0, 1, (.c a33)), (1, 1, (.c a37))]) h38 fun a39 h40 =>
  V_span_products_L0 f22 h40 a39 a29 a5 a18 J25) (
  keq [] [] ∧ J7 [(f22 7), (f22 8), (f22 9)] h23)
def V_span_products (a0 : D) (a1 : D) (h0 : Heap) (K : D → Heap → Prop) : Prop :=
  vhOp PP (.box (.c a0)) h0 fun a3 h4 =>
  vhOp PP (.box (.c a1)) h4 fun a5 h6 =>
  ∃ (J7 : List D → Heap → Prop), (∀ (f8 : Nat → D) (h9 : Heap), J7 [f8 7, f8 8, f8 9] h9 →
  K (.tup [(f8 7), (f8 8), (f8 9)]) h9) ∧
  vhOp PP (.fadd (.c a3) 0) h6 fun a10 h11 =>
  vhOp PP (.ld (.c a10) 1 false) h11 fun a12 h13 =>
  vhOp PP (.fadd (.c a3) 1) h13 fun a14 h15 =>
  vhOp PP (.ld (.c a14) 1 false) h15 fun a16 h17 =>
  vhOp PP (.bld [(.int .i64 0), (.int .i64 0)] [(0, 1, (.c a12)), (1, 1, (.c a16))]) h17 fun a18 h19 =>
  V_span_products_L1 h19 a5 a18 J7
theorem V_span_products_ok (a0 : D) (a1 : D) (h0 : Heap) (K : D → Heap → Prop) : V_span_products a0 a1 h0 K = vcC PP F_span_products.code (fun x e h' => match x with | .exit _ => False | _ => vcRet PP F_span_products.res K e h') (params [a0, a1] 0) h0 := by kernel_rfl

/-- (warpwright/affine.space).scale -/
def loops_affine_space_scale : Nat → Option (List Nat × List Nat)
  | _ => none
def tbl_affine_space_scale : Nat → Option (List Nat × List Nat × List Nat)
  | _ => none
def F_affine_space_scale : AFunc := ⟨44,
  .seq (.reg [⟨(some 3), .box (.t 0), none⟩,
    ⟨(some 4), .box (.t 1), none⟩,
    ⟨(some 6), .alloc (.agg [(.bool false), (.int .i64 0), (.int .i64 0), (.int .i64 0), (.int .i64 0), (.int .i64 0), (.int .i64 0)]), none⟩]) <|
  .seq (.seq (.reg [⟨(some 9), .fadd (.t 4) 0, none⟩,
    ⟨(some 10), .ld (.t 9) 1 false, none⟩,
    ⟨(some 11), .mov (.t 10), none⟩,
    ⟨(some 12), .mov (.t 2), some (11, false)⟩,
    ⟨(some 13), .bin .lss (.t 12) (.c (.int .i64 (-2147483648))), some (11, false)⟩,
    ⟨(some 14), .pick (.t 11) (.c (.bool true)) (.t 13), none⟩,
    ⟨(some 15), .mov (.t 14), none⟩,
    ⟨(some 16), .mov (.t 2), some (15, false)⟩,
    ⟨(some 17), .bin .gtr (.t 16) (.c (.int .i64 2147483648)), some (15, false)⟩,
    ⟨(some 18), .pick (.t 15) (.c (.bool true)) (.t 17), none⟩]) <|
  .cond (.t 18) (.seq (.reg [⟨(some 19), .call n_affine_unknown [], none⟩,
    ⟨none, .st (.t 6) (.t 19) 7, none⟩]) <|
  .ret) (.skip)) <|
  .seq (.reg [⟨(some 21), .fadd (.t 4) 4, none⟩,
    ⟨(some 22), .ld (.t 21) 3 true, none⟩,
    ⟨(some 23), .mov (.t 2), none⟩,
    ⟨(some 24), .call n_span_Scale [(.t 22), (.t 23)], none⟩,
    ⟨(some 20), .mov (.t 24), none⟩,
    ⟨(some 25), .ext (.t 20) 0, none⟩,
    ⟨(some 26), .ext (.t 20) 1, none⟩,
    ⟨(some 7), .alloc (.agg [(.int .i64 0), (.int .i64 0), (.int .i64 0)]), none⟩,
    ⟨none, .st (.t 7) (.t 25) 3, none⟩,
    ⟨(some 8), .mov (.t 26), none⟩]) <|
  .seq (.reg [⟨(some 27), .ld (.t 3) 9 true, none⟩,
    ⟨(some 28), .fadd (.t 4) 1, none⟩,
    ⟨(some 29), .ld (.t 28) 1 false, none⟩,
    ⟨(some 30), .mov (.t 2), none⟩,
    ⟨(some 31), .bin .mul (.t 29) (.t 30), none⟩,
    ⟨(some 32), .fadd (.t 4) 2, none⟩,
    ⟨(some 33), .ld (.t 32) 1 false, none⟩,
    ⟨(some 34), .mov (.t 2), none⟩,
    ⟨(some 35), .bin .mul (.t 33) (.t 34), none⟩,
    ⟨(some 36), .fadd (.t 4) 3, none⟩,
    ⟨(some 37), .ld (.t 36) 1 false, none⟩,
    ⟨(some 38), .mov (.t 2), none⟩,
    ⟨(some 39), .bin .mul (.t 37) (.t 38), none⟩,
    ⟨(some 40), .ld (.t 7) 3 true, none⟩,
    ⟨(some 41), .bld [(.bool false), (.int .i64 0), (.int .i64 0), (.int .i64 0), (.int .i64 0), (.int .i64 0), (.int .i64 0)] [(1, 1, (.t 31)), (2, 1, (.t 35)), (3, 1, (.t 39)), (4, 3, (.t 40))], none⟩,
    ⟨(some 42), .mov (.t 8), none⟩,
    ⟨(some 43), .call n_affine_space_made [(.t 27), (.t 41), (.t 42)], none⟩,
    ⟨none, .st (.t 6) (.t 43) 7, none⟩]) <|
  .ret,
  [.cell 6 7 true]⟩
theorem F_affine_space_scale_ok : cFn PP true n_affine_space_scale loops_affine_space_scale (cDr PP 44 tbl_affine_space_scale) = some F_affine_space_scale := by kernel_rfl


def V_affine_space_scale (a0 : D) (a1 : D) (a2 : D) (h0 : Heap) (K : D → Heap → Prop) : Prop :=
  vhOp PP (.box (.c a0)) h0 fun a4 h5 =>
  vhOp PP (.box (.c a1)) h5 fun a6 h7 =>
  vhOp PP (.alloc (.agg [(.bool false), (.int .i64 0), (.int .i64 0), (.int .i64 0), (.int .i64 0), (.int .i64 0), (.int .i64 0)])) h7 fun a8 h9 =>
  vhOp PP (.fadd (.c a6) 0) h9 fun a10 h11 =>
  vhOp PP (.ld (.c a10) 1 false) h11 fun a12 h13 =>
  vguard a12 false (fun G14 =>
  G14 a2 h13) h13 fun a15 h16 =>
  vguard a12 false (fun G17 =>
  vbin .lss a15 (.int .i64 (-2147483648)) fun a20 =>
  G17 a20 h16) h16 fun a18 h19 =>
  vhOp PP (.pick (.c a12) (.c (.bool true)) (.c a18)) h19 fun a21 h22 =>
  vguard a21 false (fun G23 =>
  G23 a2 h22) h22 fun a24 h25 =>
  vguard a21 false (fun G26 =>
  vbin .gtr a24 (.int .i64 2147483648) fun a29 =>
  G26 a29 h25) h25 fun a27 h28 =>
  vhOp PP (.pick (.c a21) (.c (.bool true)) (.c a27)) h28 fun a30 h31 =>
  vcond a30 (ACall PP n_affine_unknown [] h31 fun a32 h33 =>
  vhOp PP (.st (.c a8) (.c a32) 7) h33 fun a34 h35 =>
  vhOp PP (.ld (.c a8) 7 true) h35 fun a36 _ =>
  K a36 h35) (
  vhOp PP (.fadd (.c a6) 4) h31 fun a37 h38 =>
  vhOp PP (.ld (.c a37) 3 true) h38 fun a39 h40 =>
  ACall PP n_span_Scale [a39, a2] h40 fun a41 h42 =>
  vhOp PP (.ext (.c a41) 0) h42 fun a43 h44 =>
  vhOp PP (.ext (.c a41) 1) h44 fun a45 h46 =>
  vhOp PP (.alloc (.agg [(.int .i64 0), (.int .i64 0), (.int .i64 0)])) h46 fun a47 h48 =>
  vhOp PP (.st (.c a47) (.c a43) 3) h48 fun a49 h50 =>
  vhOp PP (.ld (.c a4) 9 true) h50 fun a51 h52 =>
  vhOp PP (.fadd (.c a6) 1) h52 fun a53 h54 =>
  vhOp PP (.ld (.c a53) 1 false) h54 fun a55 h56 =>
  vbin .mul a55 a2 fun a57 =>
  vhOp PP (.fadd (.c a6) 2) h56 fun a58 h59 =>
  vhOp PP (.ld (.c a58) 1 false) h59 fun a60 h61 =>
  vbin .mul a60 a2 fun a62 =>
  vhOp PP (.fadd (.c a6) 3) h61 fun a63 h64 =>
  vhOp PP (.ld (.c a63) 1 false) h64 fun a65 h66 =>
  vbin .mul a65 a2 fun a67 =>
  vhOp PP (.ld (.c a47) 3 true) h66 fun a68 h69 =>
  vhOp PP (.bld [(.bool false), (.int .i64 0), (.int .i64 0), (.int .i64 0), (.int .i64 0), (.int .i64 0), (.int .i64 0)] [(1, 1, (.c a57)), (2, 1, (.c a62)), (3, 1, (.c a67)), (4, 3, (.c a68))]) h69 fun a70 h71 =>
  ACall PP n_affine_space_made [a51, a70, a45] h71 fun a72 h73 =>
  vhOp PP (.st (.c a8) (.c a72) 7) h73 fun a74 h75 =>
  vhOp PP (.ld (.c a8) 7 true) h75 fun a76 _ =>
  K a76 h75)
theorem V_affine_space_scale_ok (a0 : D) (a1 : D) (a2 : D) (h0 : Heap) (K : D → Heap → Prop) : V_affine_space_scale a0 a1 a2 h0 K = vcC PP F_affine_space_scale.code (fun x e h' => match x with | .exit _ => False | _ => vcRet PP F_affine_space_scale.res K e h') (params [a0, a1, a2] 0) h0 := by kernel_rfl

/-- (warpwright/affine.space).subtract -/
def loops_affine_space_subtract : Nat → Option (List Nat × List Nat)
  | _ => none
def tbl_affine_space_subtract : Nat → Option (List Nat × List Nat × List Nat)
  | _ => none
def F_affine_space_subtract : AFunc := ⟨44,
  .seq (.reg [⟨(some 3), .box (.t 0), none⟩,
    ⟨(some 4), .box (.t 1), none⟩,
    ⟨(some 5), .box (.t 2), none⟩,
    ⟨(some 6), .alloc (.agg [(.bool false), (.int .i64 0), (.int .i64 0), (.int .i64 0), (.int .i64 0), (.int .i64 0), (.int .i64 0)]), none⟩]) <|
  .seq (.seq (.reg [⟨(some 9), .fadd (.t 4) 0, none⟩,
    ⟨(some 10), .ld (.t 9) 1 false, none⟩,
    ⟨(some 11), .mov (.t 10), none⟩,
    ⟨(some 12), .fadd (.t 5) 0, some (11, false)⟩,
    ⟨(some 13), .ld (.t 12) 1 false, some (11, false)⟩,
    ⟨(some 14), .pick (.t 11) (.c (.bool true)) (.t 13), none⟩]) <|
  .cond (.t 14) (.seq (.reg [⟨(some 15), .call n_affine_unknown [], none⟩,
    ⟨none, .st (.t 6) (.t 15) 7, none⟩]) <|
  .ret) (.skip)) <|
  .seq (.reg [⟨(some 17), .fadd (.t 4) 4, none⟩,
    ⟨(some 18), .ld (.t 17) 3 true, none⟩,
    ⟨(some 19), .fadd (.t 5) 4, none⟩,
    ⟨(some 20), .ld (.t 19) 3 true, none⟩,
    ⟨(some 21), .call n_span_Sub [(.t 18), (.t 20)], none⟩,
    ⟨(some 16), .mov (.t 21), none⟩,
    ⟨(some 22), .ext (.t 16) 0, none⟩,
    ⟨(some 23), .ext (.t 16) 1, none⟩,
    ⟨(some 7), .alloc (.agg [(.int .i64 0), (.int .i64 0), (.int .i64 0)]), none⟩,
    ⟨none, .st (.t 7) (.t 22) 3, none⟩,
    ⟨(some 8), .mov (.t 23), none⟩]) <|
  .seq (.reg [⟨(some 24), .ld (.t 3) 9 true, none⟩,
    ⟨(some 25), .fadd (.t 4) 1, none⟩,
    ⟨(some 26), .ld (.t 25) 1 false, none⟩,
    ⟨(some 27), .fadd (.t 5) 1, none⟩,
    ⟨(some 28), .ld (.t 27) 1 false, none⟩,
    ⟨(some 29), .bin .sub (.t 26) (.t 28), none⟩,
    ⟨(some 30), .fadd (.t 4) 2, none⟩,
    ⟨(some 31), .ld (.t 30) 1 false, none⟩,
    ⟨(some 32), .fadd (.t 5) 2, none⟩,
    ⟨(some 33), .ld (.t 32) 1 false, none⟩,
    ⟨(some 34), .bin .sub (.t 31) (.t 33), none⟩,
    ⟨(some 35), .fadd (.t 4) 3, none⟩,
    ⟨(some 36), .ld (.t 35) 1 false, none⟩,
    ⟨(some 37), .fadd (.t 5) 3, none⟩,
    ⟨(some 38), .ld (.t 37) 1 false, none⟩,
    ⟨(some 39), .bin .sub (.t 36) (.t 38), none⟩,
    ⟨(some 40), .ld (.t 7) 3 true, none⟩,
    ⟨(some 41), .bld [(.bool false), (.int .i64 0), (.int .i64 0), (.int .i64 0), (.int .i64 0), (.int .i64 0), (.int .i64 0)] [(1, 1, (.t 29)), (2, 1, (.t 34)), (3, 1, (.t 39)), (4, 3, (.t 40))], none⟩,
    ⟨(some 42), .mov (.t 8), none⟩,
    ⟨(some 43), .call n_affine_space_made [(.t 24), (.t 41), (.t 42)], none⟩,
    ⟨none, .st (.t 6) (.t 43) 7, none⟩]) <|
  .ret,
  [.cell 6 7 true]⟩
theorem F_affine_space_subtract_ok : cFn PP true n_affine_space_subtract loops_affine_space_subtract (cDr PP 44 tbl_affine_space_subtract) = some F_affine_space_subtract := by kernel_rfl


def V_affine_space_subtract (a0 : D) (a1 : D) (a2 : D) (h0 : Heap) (K : D → Heap → Prop) : Prop :=
  vhOp PP (.box (.c a0)) h0 fun a4 h5 =>
  vhOp PP (.box (.c a1)) h5 fun a6 h7 =>
  vhOp PP (.box (.c a2)) h7 fun a8 h9 =>
  vhOp PP (.alloc (.agg [(.bool false), (.int .i64 0), (.int .i64 0), (.int .i64 0), (.int .i64 0), (.int .i64 0), (.int .i64 0)])) h9 fun a10 h11 =>
  vhOp PP (.fadd (.c a6) 0) h11 fun a12 h13 =>
  vhOp PP (.ld (.c a12) 1 false) h13 fun a14 h15 =>
  vguard a14 false (fun G16 =>
  vhOp PP (.fadd (.c a8) 0) h15 fun a19 h20 =>
  G16 a19 h20) h15 fun a17 h18 =>
  vguard a14 false (fun G21 =>
  vhOp PP (.ld (.c a17) 1 false) h18 fun a24 h25 =>
  G21 a24 h25) h18 fun a22 h23 =>
  vhOp PP (.pick (.c a14) (.c (.bool true)) (.c a22)) h23 fun a26 h27 =>
  vcond a26 (ACall PP n_affine_unknown [] h27 fun a28 h29 =>
  vhOp PP (.st (.c a10) (.c a28) 7) h29 fun a30 h31 =>
  vhOp PP (.ld (.c a10) 7 true) h31 fun a32 _ =>
  K a32 h31) (
  vhOp PP (.fadd (.c a6) 4) h27 fun a33 h34 =>
  vhOp PP (.ld (.c a33) 3 true) h34 fun a35 h36 =>
  vhOp PP (.fadd (.c a8) 4) h36 fun a37 h38 =>
  vhOp PP (.ld (.c a37) 3 true) h38 fun a39 h40 =>
  ACall PP n_span_Sub [a35, a39] h40 fun a41 h42 =>
  vhOp PP (.ext (.c a41) 0) h42 fun a43 h44 =>
  vhOp PP (.ext (.c a41) 1) h44 fun a45 h46 =>
  vhOp PP (.alloc (.agg [(.int .i64 0), (.int .i64 0), (.int .i64 0)])) h46 fun a47 h48 =>
  vhOp PP (.st (.c a47) (.c a43) 3) h48 fun a49 h50 =>
  vhOp PP (.ld (.c a4) 9 true) h50 fun a51 h52 =>
  vhOp PP (.fadd (.c a6) 1) h52 fun a53 h54 =>
  vhOp PP (.ld (.c a53) 1 false) h54 fun a55 h56 =>
  vhOp PP (.fadd (.c a8) 1) h56 fun a57 h58 =>
  vhOp PP (.ld (.c a57) 1 false) h58 fun a59 h60 =>
  vbin .sub a55 a59 fun a61 =>
  vhOp PP (.fadd (.c a6) 2) h60 fun a62 h63 =>
  vhOp PP (.ld (.c a62) 1 false) h63 fun a64 h65 =>
  vhOp PP (.fadd (.c a8) 2) h65 fun a66 h67 =>
  vhOp PP (.ld (.c a66) 1 false) h67 fun a68 h69 =>
  vbin .sub a64 a68 fun a70 =>
  vhOp PP (.fadd (.c a6) 3) h69 fun a71 h72 =>
  vhOp PP (.ld (.c a71) 1 false) h72 fun a73 h74 =>
  vhOp PP (.fadd (.c a8) 3) h74 fun a75 h76 =>
  vhOp PP (.ld (.c a75) 1 false) h76 fun a77 h78 =>
  vbin .sub a73 a77 fun a79 =>
  vhOp PP (.ld (.c a47) 3 true) h78 fun a80 h81 =>
  vhOp PP (.bld [(.bool false), (.int .i64 0), (.int .i64 0), (.int .i64 0), (.int .i64 0), (.int .i64 0), (.int .i64 0)] [(1, 1, (.c a61)), (2, 1, (.c a70)), (3, 1, (.c a79)), (4, 3, (.c a80))]) h81 fun a82 h83 =>
  ACall PP n_affine_space_made [a51, a82, a45] h83 fun a84 h85 =>
  vhOp PP (.st (.c a10) (.c a84) 7) h85 fun a86 h87 =>
  vhOp PP (.ld (.c a10) 7 true) h87 fun a88 _ =>
  K a88 h87)
theorem V_affine_space_subtract_ok (a0 : D) (a1 : D) (a2 : D) (h0 : Heap) (K : D → Heap → Prop) : V_affine_space_subtract a0 a1 a2 h0 K = vcC PP F_affine_space_subtract.code (fun x e h' => match x with | .exit _ => False | _ => vcRet PP F_affine_space_subtract.res K e h') (params [a0, a1, a2] 0) h0 := by kernel_rfl

/-- warpwright/affine.floor -/
def loops_affine_floor : Nat → Option (List Nat × List Nat)
  | _ => none
def tbl_affine_floor : Nat → Option (List Nat × List Nat × List Nat)
  | _ => none
def F_affine_floor : AFunc := ⟨8,
  .seq (.reg [⟨(some 4), .mov (.c (.int .i64 0)), none⟩]) <|
  .seq (.reg [⟨(some 5), .mov (.t 0), none⟩,
    ⟨(some 6), .mov (.t 1), none⟩,
    ⟨(some 7), .bin .shr (.t 5) (.t 6), none⟩,
    ⟨(some 4), .mov (.t 7), none⟩]) <|
  .ret,
  [.t 4]⟩
theorem F_affine_floor_ok : cFn PP true n_affine_floor loops_affine_floor (cDr PP 8 tbl_affine_floor) = some F_affine_floor := by kernel_rfl
/-- (warpwright/affine.space).add -/
def loops_affine_space_add : Nat → Option (List Nat × List Nat)
  | _ => none
def tbl_affine_space_add : Nat → Option (List Nat × List Nat × List Nat)
  | _ => none
def F_affine_space_add : AFunc := ⟨44,
  .seq (.reg [⟨(some 3), .box (.t 0), none⟩,
    ⟨(some 4), .box (.t 1), none⟩,
    ⟨(some 5), .box (.t 2), none⟩,
    ⟨(some 6), .alloc (.agg [(.bool false), (.int .i64 0), (.int .i64 0), (.int .i64 0), (.int .i64 0), (.int .i64 0), (.int .i64 0)]), none⟩]) <|
  .seq (.seq (.reg [⟨(some 9), .fadd (.t 4) 0, none⟩,
    ⟨(some 10), .ld (.t 9) 1 false, none⟩,
    ⟨(some 11), .mov (.t 10), none⟩,
    ⟨(some 12), .fadd (.t 5) 0, some (11, false)⟩,
    ⟨(some 13), .ld (.t 12) 1 false, some (11, false)⟩,
    ⟨(some 14), .pick (.t 11) (.c (.bool true)) (.t 13), none⟩]) <|
  .cond (.t 14) (.seq (.reg [⟨(some 15), .call n_affine_unknown [], none⟩,
    ⟨none, .st (.t 6) (.t 15) 7, none⟩]) <|
  .ret) (.skip)) <|
  .seq (.reg [⟨(some 17), .fadd (.t 4) 4, none⟩,
    ⟨(some 18), .ld (.t 17) 3 true, none⟩,
    ⟨(some 19), .fadd (.t 5) 4, none⟩,
    ⟨(some 20), .ld (.t 19) 3 true, none⟩,
    ⟨(some 21), .call n_span_Add [(.t 18), (.t 20)], none⟩,
    ⟨(some 16), .mov (.t 21), none⟩,
    ⟨(some 22), .ext (.t 16) 0, none⟩,
    ⟨(some 23), .ext (.t 16) 1, none⟩,
    ⟨(some 7), .alloc (.agg [(.int .i64 0), (.int .i64 0), (.int .i64 0)]), none⟩,
    ⟨none, .st (.t 7) (.t 22) 3, none⟩,
    ⟨(some 8), .mov (.t 23), none⟩]) <|
  .seq (.reg [⟨(some 24), .ld (.t 3) 9 true, none⟩,
    ⟨(some 25), .fadd (.t 4) 1, none⟩,
    ⟨(some 26), .ld (.t 25) 1 false, none⟩,
    ⟨(some 27), .fadd (.t 5) 1, none⟩,
    ⟨(some 28), .ld (.t 27) 1 false, none⟩,
    ⟨(some 29), .bin .add (.t 26) (.t 28), none⟩,
    ⟨(some 30), .fadd (.t 4) 2, none⟩,
    ⟨(some 31), .ld (.t 30) 1 false, none⟩,
    ⟨(some 32), .fadd (.t 5) 2, none⟩,
    ⟨(some 33), .ld (.t 32) 1 false, none⟩,
    ⟨(some 34), .bin .add (.t 31) (.t 33), none⟩,
    ⟨(some 35), .fadd (.t 4) 3, none⟩,
    ⟨(some 36), .ld (.t 35) 1 false, none⟩,
    ⟨(some 37), .fadd (.t 5) 3, none⟩,
    ⟨(some 38), .ld (.t 37) 1 false, none⟩,
    ⟨(some 39), .bin .add (.t 36) (.t 38), none⟩,
    ⟨(some 40), .ld (.t 7) 3 true, none⟩,
    ⟨(some 41), .bld [(.bool false), (.int .i64 0), (.int .i64 0), (.int .i64 0), (.int .i64 0), (.int .i64 0), (.int .i64 0)] [(1, 1, (.t 29)), (2, 1, (.t 34)), (3, 1, (.t 39)), (4, 3, (.t 40))], none⟩,
    ⟨(some 42), .mov (.t 8), none⟩,
    ⟨(some 43), .call n_affine_space_made [(.t 24), (.t 41), (.t 42)], none⟩,
    ⟨none, .st (.t 6) (.t 43) 7, none⟩]) <|
  .ret,
  [.cell 6 7 true]⟩
theorem F_affine_space_add_ok : cFn PP true n_affine_space_add loops_affine_space_add (cDr PP 44 tbl_affine_space_add) = some F_affine_space_add := by kernel_rfl


def V_affine_space_add (a0 : D) (a1 : D) (a2 : D) (h0 : Heap) (K : D → Heap → Prop) : Prop :=
  vhOp PP (.box (.c a0)) h0 fun a4 h5 =>
  vhOp PP (.box (.c a1)) h5 fun a6 h7 =>
  vhOp PP (.box (.c a2)) h7 fun a8 h9 =>
  vhOp PP (.alloc (.agg [(.bool false), (.int .i64 0), (.int .i64 0), (.int .i64 0), (.int .i64 0), (.int .i64 0), (.int .i64 0)])) h9 fun a10 h11 =>
  vhOp PP (.fadd (.c a6) 0) h11 fun a12 h13 =>
  vhOp PP (.ld (.c a12) 1 false) h13 fun a14 h15 =>
  vguard a14 false (fun G16 =>
  vhOp PP (.fadd (.c a8) 0) h15 fun a19 h20 =>
  G16 a19 h20) h15 fun a17 h18 =>
  vguard a14 false (fun G21 =>
  vhOp PP (.ld (.c a17) 1 false) h18 fun a24 h25 =>
  G21 a24 h25) h18 fun a22 h23 =>
  vhOp PP (.pick (.c a14) (.c (.bool true)) (.c a22)) h23 fun a26 h27 =>
  vcond a26 (ACall PP n_affine_unknown [] h27 fun a28 h29 =>
  vhOp PP (.st (.c a10) (.c a28) 7) h29 fun a30 h31 =>
  vhOp PP (.ld (.c a10) 7 true) h31 fun a32 _ =>
  K a32 h31) (
  vhOp PP (.fadd (.c a6) 4) h27 fun a33 h34 =>
  vhOp PP (.ld (.c a33) 3 true) h34 fun a35 h36 =>
  vhOp PP (.fadd (.c a8) 4) h36 fun a37 h38 =>
  vhOp PP (.ld (.c a37) 3 true) h38 fun a39 h40 =>
  ACall PP n_span_Add [a35, a39] h40 fun a41 h42 =>
  vhOp PP (.ext (.c a41) 0) h42 fun a43 h44 =>
  vhOp PP (.ext (.c a41) 1) h44 fun a45 h46 =>
  vhOp PP (.alloc (.agg [(.int .i64 0), (.int .i64 0), (.int .i64 0)])) h46 fun a47 h48 =>
  vhOp PP (.st (.c a47) (.c a43) 3) h48 fun a49 h50 =>
  vhOp PP (.ld (.c a4) 9 true) h50 fun a51 h52 =>
  vhOp PP (.fadd (.c a6) 1) h52 fun a53 h54 =>
  vhOp PP (.ld (.c a53) 1 false) h54 fun a55 h56 =>
  vhOp PP (.fadd (.c a8) 1) h56 fun a57 h58 =>
  vhOp PP (.ld (.c a57) 1 false) h58 fun a59 h60 =>
  vbin .add a55 a59 fun a61 =>
  vhOp PP (.fadd (.c a6) 2) h60 fun a62 h63 =>
  vhOp PP (.ld (.c a62) 1 false) h63 fun a64 h65 =>
  vhOp PP (.fadd (.c a8) 2) h65 fun a66 h67 =>
  vhOp PP (.ld (.c a66) 1 false) h67 fun a68 h69 =>
  vbin .add a64 a68 fun a70 =>
  vhOp PP (.fadd (.c a6) 3) h69 fun a71 h72 =>
  vhOp PP (.ld (.c a71) 1 false) h72 fun a73 h74 =>
  vhOp PP (.fadd (.c a8) 3) h74 fun a75 h76 =>
  vhOp PP (.ld (.c a75) 1 false) h76 fun a77 h78 =>
  vbin .add a73 a77 fun a79 =>
  vhOp PP (.ld (.c a47) 3 true) h78 fun a80 h81 =>
  vhOp PP (.bld [(.bool false), (.int .i64 0), (.int .i64 0), (.int .i64 0), (.int .i64 0), (.int .i64 0), (.int .i64 0)] [(1, 1, (.c a61)), (2, 1, (.c a70)), (3, 1, (.c a79)), (4, 3, (.c a80))]) h81 fun a82 h83 =>
  ACall PP n_affine_space_made [a51, a82, a45] h83 fun a84 h85 =>
  vhOp PP (.st (.c a10) (.c a84) 7) h85 fun a86 h87 =>
  vhOp PP (.ld (.c a10) 7 true) h87 fun a88 _ =>
  K a88 h87)
theorem V_affine_space_add_ok (a0 : D) (a1 : D) (a2 : D) (h0 : Heap) (K : D → Heap → Prop) : V_affine_space_add a0 a1 a2 h0 K = vcC PP F_affine_space_add.code (fun x e h' => match x with | .exit _ => False | _ => vcRet PP F_affine_space_add.res K e h') (params [a0, a1, a2] 0) h0 := by kernel_rfl

/-- (warpwright/affine.space).multiply -/
def loops_affine_space_multiply : Nat → Option (List Nat × List Nat)
  | _ => none
def tbl_affine_space_multiply : Nat → Option (List Nat × List Nat × List Nat)
  | _ => none
def F_affine_space_multiply : AFunc := ⟨55,
  .seq (.reg [⟨(some 3), .box (.t 0), none⟩,
    ⟨(some 4), .box (.t 1), none⟩,
    ⟨(some 5), .box (.t 2), none⟩,
    ⟨(some 6), .alloc (.agg [(.bool false), (.int .i64 0), (.int .i64 0), (.int .i64 0), (.int .i64 0), (.int .i64 0), (.int .i64 0)]), none⟩]) <|
  .seq (.seq (.reg [⟨(some 14), .ld (.t 5) 7 true, none⟩,
    ⟨(some 15), .call n_affine_constant [(.t 14)], none⟩,
    ⟨(some 13), .mov (.t 15), none⟩,
    ⟨(some 16), .ext (.t 13) 0, none⟩,
    ⟨(some 17), .ext (.t 13) 1, none⟩,
    ⟨(some 7), .mov (.t 16), none⟩,
    ⟨(some 8), .mov (.t 17), none⟩]) <|
  .seq (.reg [⟨(some 18), .mov (.t 8), none⟩]) <|
  .cond (.t 18) (.seq (.reg [⟨(some 19), .ld (.t 3) 9 true, none⟩,
    ⟨(some 20), .ld (.t 4) 7 true, none⟩,
    ⟨(some 21), .mov (.t 7), none⟩,
    ⟨(some 22), .call n_affine_space_scale [(.t 19), (.t 20), (.t 21)], none⟩,
    ⟨none, .st (.t 6) (.t 22) 7, none⟩]) <|
  .ret) (.skip)) <|
  .seq (.seq (.reg [⟨(some 24), .ld (.t 4) 7 true, none⟩,
    ⟨(some 25), .call n_affine_constant [(.t 24)], none⟩,
    ⟨(some 23), .mov (.t 25), none⟩,
    ⟨(some 26), .ext (.t 23) 0, none⟩,
    ⟨(some 27), .ext (.t 23) 1, none⟩,
    ⟨(some 9), .mov (.t 26), none⟩,
    ⟨(some 10), .mov (.t 27), none⟩]) <|
  .seq (.reg [⟨(some 28), .mov (.t 10), none⟩]) <|
  .cond (.t 28) (.seq (.reg [⟨(some 29), .ld (.t 3) 9 true, none⟩,
    ⟨(some 30), .ld (.t 5) 7 true, none⟩,
    ⟨(some 31), .mov (.t 9), none⟩,
    ⟨(some 32), .call n_affine_space_scale [(.t 29), (.t 30), (.t 31)], none⟩,
    ⟨none, .st (.t 6) (.t 32) 7, none⟩]) <|
  .ret) (.skip)) <|
  .seq (.seq (.reg [⟨(some 33), .ld (.t 4) 7 true, none⟩,
    ⟨(some 34), .call n_affine_plain [(.t 33)], none⟩,
    ⟨(some 35), .un .not (.t 34), none⟩,
    ⟨(some 36), .mov (.t 35), none⟩,
    ⟨(some 37), .ld (.t 5) 7 true, some (36, false)⟩,
    ⟨(some 38), .call n_affine_plain [(.t 37)], some (36, false)⟩,
    ⟨(some 39), .un .not (.t 38), some (36, false)⟩,
    ⟨(some 40), .pick (.t 36) (.c (.bool true)) (.t 39), none⟩]) <|
  .cond (.t 40) (.seq (.reg [⟨(some 41), .call n_affine_unknown [], none⟩,
    ⟨none, .st (.t 6) (.t 41) 7, none⟩]) <|
  .ret) (.skip)) <|
  .seq (.reg [⟨(some 43), .fadd (.t 4) 4, none⟩,
    ⟨(some 44), .ld (.t 43) 3 true, none⟩,
    ⟨(some 45), .fadd (.t 5) 4, none⟩,
    ⟨(some 46), .ld (.t 45) 3 true, none⟩,
    ⟨(some 47), .call n_span_Mul [(.t 44), (.t 46)], none⟩,
    ⟨(some 42), .mov (.t 47), none⟩,
    ⟨(some 48), .ext (.t 42) 0, none⟩,
    ⟨(some 49), .ext (.t 42) 1, none⟩,
    ⟨(some 11), .alloc (.agg [(.int .i64 0), (.int .i64 0), (.int .i64 0)]), none⟩,
    ⟨none, .st (.t 11) (.t 48) 3, none⟩,
    ⟨(some 12), .mov (.t 49), none⟩]) <|
  .seq (.reg [⟨(some 50), .ld (.t 3) 9 true, none⟩,
    ⟨(some 51), .ld (.t 11) 3 true, none⟩,
    ⟨(some 52), .bld [(.bool false), (.int .i64 0), (.int .i64 0), (.int .i64 0), (.int .i64 0), (.int .i64 0), (.int .i64 0)] [(4, 3, (.t 51))], none⟩,
    ⟨(some 53), .mov (.t 12), none⟩,
    ⟨(some 54), .call n_affine_space_made [(.t 50), (.t 52), (.t 53)], none⟩,
    ⟨none, .st (.t 6) (.t 54) 7, none⟩]) <|
  .ret,
  [.cell 6 7 true]⟩
theorem F_affine_space_multiply_ok : cFn PP true n_affine_space_multiply loops_affine_space_multiply (cDr PP 55 tbl_affine_space_multiply) = some F_affine_space_multiply := by kernel_rfl


def V_affine_space_multiply (a0 : D) (a1 : D) (a2 : D) (h0 : Heap) (K : D → Heap → Prop) : Prop :=
  vhOp PP (.box (.c a0)) h0 fun a4 h5 =>
  vhOp PP (.box (.c a1)) h5 fun a6 h7 =>
  vhOp PP (.box (.c a2)) h7 fun a8 h9 =>
  vhOp PP (.alloc (.agg [(.bool false), (.int .i64 0), (.int .i64 0), (.int .i64 0), (.int .i64 0), (.int .i64 0), (.int .i64 0)])) h9 fun a10 h11 =>
  vhOp PP (.ld (.c a8) 7 true) h11 fun a12 h13 =>
  ACall PP n_affine_constant [a12] h13 fun a14 h15 =>
  vhOp PP (.ext (.c a14) 0) h15 fun a16 h17 =>
  vhOp PP (.ext (.c a14) 1) h17 fun a18 h19 =>
  vcond a18 (vhOp PP (.ld (.c a4) 9 true) h19 fun a20 h21 =>
  vhOp PP (.ld (.c a6) 7 true) h21 fun a22 h23 =>
  ACall PP n_affine_space_scale [a20, a22, a16] h23 fun a24 h25 =>
  vhOp PP (.st (.c a10) (.c a24) 7) h25 fun a26 h27 =>
  vhOp PP (.ld (.c a10) 7 true) h27 fun a28 _ =>
  K a28 h27) (
  vhOp PP (.ld (.c a6) 7 true) h19 fun a29 h30 =>
  ACall PP n_affine_constant [a29] h30 fun a31 h32 =>
  vhOp PP (.ext (.c a31) 0) h32 fun a33 h34 =>
  vhOp PP (.ext (.c a31) 1) h34 fun a35 h36 =>
  vcond a35 (vhOp PP (.ld (.c a4) 9 true) h36 fun a37 h38 =>
  vhOp PP (.ld (.c a8) 7 true) h38 fun a39 h40 =>
  ACall PP n_affine_space_scale [a37, a39, a33] h40 fun a41 h42 =>
  vhOp PP (.st (.c a10) (.c a41) 7) h42 fun a43 h44 =>
  vhOp PP (.ld (.c a10) 7 true) h44 fun a45 _ =>
  K a45 h44) (
  vhOp PP (.ld (.c a6) 7 true) h36 fun a46 h47 =>
  ACall PP n_affine_plain [a46] h47 fun a48 h49 =>
  vun .not a48 fun a50 =>
  vguard a50 false (fun G51 =>
  vhOp PP (.ld (.c a8) 7 true) h49 fun a54 h55 =>
  G51 a54 h55) h49 fun a52 h53 =>
  vguard a50 false (fun G56 =>
  ACall PP n_affine_plain [a52] h53 fun a59 h60 =>
  G56 a59 h60) h53 fun a57 h58 =>
  vguard a50 false (fun G61 =>
  vun .not a57 fun a64 =>
  G61 a64 h58) h58 fun a62 h63 =>
  vhOp PP (.pick (.c a50) (.c (.bool true)) (.c a62)) h63 fun a65 h66 =>
  vcond a65 (ACall PP n_affine_unknown [] h66 fun a67 h68 =>
  vhOp PP (.st (.c a10) (.c a67) 7) h68 fun a69 h70 =>
  vhOp PP (.ld (.c a10) 7 true) h70 fun a71 _ =>
  K a71 h70) (
  vhOp PP (.fadd (.c a6) 4) h66 fun a72 h73 =>
  vhOp PP (.ld (.c a72) 3 true) h73 fun a74 h75 =>
  vhOp PP (.fadd (.c a8) 4) h75 fun a76 h77 =>
  vhOp PP (.ld (.c a76) 3 true) h77 fun a78 h79 =>
  ACall PP n_span_Mul [a74, a78] h79 fun a80 h81 =>
  vhOp PP (.ext (.c a80) 0) h81 fun a82 h83 =>
  vhOp PP (.ext (.c a80) 1) h83 fun a84 h85 =>
  vhOp PP (.alloc (.agg [(.int .i64 0), (.int .i64 0), (.int .i64 0)])) h85 fun a86 h87 =>
  vhOp PP (.st (.c a86) (.c a82) 3) h87 fun a88 h89 =>
  vhOp PP (.ld (.c a4) 9 true) h89 fun a90 h91 =>
  vhOp PP (.ld (.c a86) 3 true) h91 fun a92 h93 =>
  vhOp PP (.bld [(.bool false), (.int .i64 0), (.int .i64 0), (.int .i64 0), (.int .i64 0), (.int .i64 0), (.int .i64 0)] [(4, 3, (.c a92))]) h93 fun a94 h95 =>
  ACall PP n_affine_space_made [a90, a94, a84] h95 fun a96 h97 =>
  vhOp PP (.st (.c a10) (.c a96) 7) h97 fun a98 h99 =>
  vhOp PP (.ld (.c a10) 7 true) h99 fun a100 _ =>
  K a100 h99)))
theorem V_affine_space_multiply_ok (a0 : D) (a1 : D) (a2 : D) (h0 : Heap) (K : D → Heap → Prop) : V_affine_space_multiply a0 a1 a2 h0 K = vcC PP F_affine_space_multiply.code (fun x e h' => match x with | .exit _ => False | _ => vcRet PP F_affine_space_multiply.res K e h') (params [a0, a1, a2] 0) h0 := by kernel_rfl

/-- warpwright/affine.operators$1 -/
def loops_affine_operators_F1 : Nat → Option (List Nat × List Nat)
  | 1000009 => some ([6], []) | 2 => some ([3, 6, 17, 18], [19]) | _ => none
def tbl_affine_operators_F1 : Nat → Option (List Nat × List Nat × List Nat)
  | _ => none
def F_affine_operators_F1 : AFunc := ⟨41,
  .seq (.reg [⟨(some 3), .box (.t 0), none⟩,
    ⟨(some 4), .box (.t 1), none⟩,
    ⟨(some 5), .box (.t 2), none⟩,
    ⟨(some 6), .alloc (.agg [(.bool false), (.int .i64 0), (.int .i64 0), (.int .i64 0), (.int .i64 0), (.int .i64 0), (.int .i64 0)]), none⟩]) <|
  .seqj [6] [] (.seq (.reg [⟨(some 11), .ld (.t 4) 7 true, none⟩,
    ⟨(some 12), .ld (.t 5) 7 true, none⟩,
    ⟨(some 13), .bld [(.bool false), (.int .i64 0), (.int .i64 0), (.int .i64 0), (.int .i64 0), (.int .i64 0), (.int .i64 0), (.bool false), (.int .i64 0), (.int .i64 0), (.int .i64 0), (.int .i64 0), (.int .i64 0), (.int .i64 0)] [(0, 7, (.t 11)), (7, 7, (.t 12))], none⟩,
    ⟨(some 14), .ld (.t 5) 7 true, none⟩,
    ⟨(some 15), .ld (.t 4) 7 true, none⟩,
    ⟨(some 16), .bld [(.bool false), (.int .i64 0), (.int .i64 0), (.int .i64 0), (.int .i64 0), (.int .i64 0), (.int .i64 0), (.bool false), (.int .i64 0), (.int .i64 0), (.int .i64 0), (.int .i64 0), (.int .i64 0), (.int .i64 0)] [(0, 7, (.t 14)), (7, 7, (.t 15))], none⟩,
    ⟨(some 17), .bldS true 14 2 (.agg [(.bool false), (.int .i64 0), (.int .i64 0), (.int .i64 0), (.int .i64 0), (.int .i64 0), (.int .i64 0), (.bool false), (.int .i64 0), (.int .i64 0), (.int .i64 0), (.int .i64 0), (.int .i64 0), (.int .i64 0)]) [(0, (.t 13)), (1, (.t 16))], none⟩,
    ⟨(some 18), .len (.t 17), none⟩,
    ⟨(some 19), .mov (.c (.int .i64 0)), none⟩]) <|
  .block 0 (.loop [3, 6, 17, 18] [19] (.seq (.reg [⟨(some 20), .bin .lss (.t 19) (.t 18), none⟩]) <|
  .seq (.cond (.t 20) (.skip) (.exit 0)) <|
  .seq (.block 1 (.seq (.reg [⟨(some 21), .iadd (.t 17) (.t 19) 14, none⟩,
    ⟨(some 22), .ld (.t 21) 14 true, none⟩,
    ⟨(some 8), .alloc (.agg [(.bool false), (.int .i64 0), (.int .i64 0), (.int .i64 0), (.int .i64 0), (.int .i64 0), (.int .i64 0), (.bool false), (.int .i64 0), (.int .i64 0), (.int .i64 0), (.int .i64 0), (.int .i64 0), (.int .i64 0)]), none⟩,
    ⟨none, .st (.t 8) (.t 22) 14, none⟩]) <|
  .seq (.reg [⟨(some 24), .iadda (.t 8) (.c (.int .i64 1)) 2 7, none⟩,
    ⟨(some 25), .ld (.t 24) 7 true, none⟩,
    ⟨(some 26), .call n_affine_constant [(.t 25)], none⟩,
    ⟨(some 23), .mov (.t 26), none⟩,
    ⟨(some 27), .ext (.t 23) 0, none⟩,
    ⟨(some 28), .ext (.t 23) 1, none⟩,
    ⟨(some 9), .mov (.t 27), none⟩,
    ⟨(some 10), .mov (.t 28), none⟩]) <|
  .seq (.reg [⟨(some 29), .mov (.t 10), none⟩,
    ⟨(some 30), .mov (.t 29), none⟩,
    ⟨(some 31), .mov (.t 9), some (30, true)⟩,
    ⟨(some 32), .bin .geq (.t 31) (.c (.int .i64 0)), some (30, true)⟩,
    ⟨(some 33), .pick (.t 30) (.t 32) (.c (.bool false)), none⟩]) <|
  .cond (.t 33) (.seq (.reg [⟨(some 34), .ld (.t 3) 9 true, none⟩,
    ⟨(some 35), .iadda (.t 8) (.c (.int .i64 0)) 2 7, none⟩,
    ⟨(some 36), .ld (.t 35) 7 true, none⟩,
    ⟨(some 37), .mov (.t 9), none⟩,
    ⟨(some 38), .call n_affine_space_mask [(.t 34), (.t 36), (.t 37)], none⟩,
    ⟨none, .st (.t 6) (.t 38) 7, none⟩]) <|
  .ret) (.skip))) <|
  .reg [⟨(some 39), .bin .add (.t 19) (.c (.int .i64 1)), none⟩,
    ⟨(some 19), .mov (.t 39), none⟩]))) <|
  .seq (.reg [⟨(some 40), .call n_affine_unknown [], none⟩,
    ⟨none, .st (.t 6) (.t 40) 7, none⟩]) <|
  .ret,
  [.cell 6 7 true]⟩
theorem F_affine_operators_F1_ok : cFn PP true n_affine_operators_F1 loops_affine_operators_F1 (cDr PP 41 tbl_affine_operators_F1) = some F_affine_operators_F1 := by kernel_rfl
/-- (warpwright/affine.space).mask -/
def loops_affine_space_mask : Nat → Option (List Nat × List Nat)
  | _ => none
def tbl_affine_space_mask : Nat → Option (List Nat × List Nat × List Nat)
  | _ => none
def F_affine_space_mask : AFunc := ⟨37,
  .seq (.reg [⟨(some 3), .box (.t 0), none⟩,
    ⟨(some 4), .box (.t 1), none⟩,
    ⟨(some 6), .alloc (.agg [(.bool false), (.int .i64 0), (.int .i64 0), (.int .i64 0), (.int .i64 0), (.int .i64 0), (.int .i64 0)]), none⟩]) <|
  .seq (.seq (.reg [⟨(some 10), .ld (.t 3) 9 true, none⟩,
    ⟨(some 11), .ld (.t 4) 7 true, none⟩,
    ⟨(some 12), .call n_affine_space_span [(.t 10), (.t 11)], none⟩,
    ⟨(some 9), .mov (.t 12), none⟩,
    ⟨(some 13), .ext (.t 9) 0, none⟩,
    ⟨(some 14), .ext (.t 9) 1, none⟩,
    ⟨(some 7), .alloc (.agg [(.int .i64 0), (.int .i64 0), (.int .i64 0)]), none⟩,
    ⟨none, .st (.t 7) (.t 13) 3, none⟩,
    ⟨(some 8), .mov (.t 14), none⟩]) <|
  .seq (.reg [⟨(some 15), .mov (.t 8), none⟩,
    ⟨(some 16), .mov (.t 15), none⟩,
    ⟨(some 17), .fadd (.t 7) 0, some (16, true)⟩,
    ⟨(some 18), .ld (.t 17) 1 false, some (16, true)⟩,
    ⟨(some 19), .bin .geq (.t 18) (.c (.int .i64 0)), some (16, true)⟩,
    ⟨(some 20), .pick (.t 16) (.t 19) (.c (.bool false)), none⟩,
    ⟨(some 21), .mov (.t 20), none⟩,
    ⟨(some 22), .fadd (.t 7) 1, some (21, true)⟩,
    ⟨(some 23), .ld (.t 22) 1 false, some (21, true)⟩,
    ⟨(some 24), .mov (.t 2), some (21, true)⟩,
    ⟨(some 25), .bin .leq (.t 23) (.t 24), some (21, true)⟩,
    ⟨(some 26), .pick (.t 21) (.t 25) (.c (.bool false)), none⟩,
    ⟨(some 27), .mov (.t 26), none⟩,
    ⟨(some 28), .mov (.t 2), some (27, true)⟩,
    ⟨(some 29), .mov (.t 2), some (27, true)⟩,
    ⟨(some 30), .bin .add (.t 29) (.c (.int .i64 1)), some (27, true)⟩,
    ⟨(some 31), .bin .and (.t 28) (.t 30), some (27, true)⟩,
    ⟨(some 32), .bin .eql (.t 31) (.c (.int .i64 0)), some (27, true)⟩,
    ⟨(some 33), .pick (.t 27) (.t 32) (.c (.bool false)), none⟩]) <|
  .cond (.t 33) (.seq (.reg [⟨(some 34), .ld (.t 4) 7 true, none⟩,
    ⟨none, .st (.t 6) (.t 34) 7, none⟩]) <|
  .ret) (.skip)) <|
  .seq (.reg [⟨(some 35), .mov (.t 2), none⟩,
    ⟨(some 36), .call n_affine_between [(.c (.int .i64 0)), (.t 35)], none⟩,
    ⟨none, .st (.t 6) (.t 36) 7, none⟩]) <|
  .ret,
  [.cell 6 7 true]⟩
theorem F_affine_space_mask_ok : cFn PP true n_affine_space_mask loops_affine_space_mask (cDr PP 37 tbl_affine_space_mask) = some F_affine_space_mask := by kernel_rfl
/-- warpwright/affine.by -/
def loops_affine_by : Nat → Option (List Nat × List Nat)
  | _ => none
def tbl_affine_by : Nat → Option (List Nat × List Nat × List Nat)
  | _ => none
def F_affine_by : AFunc := ⟨4,
  .seq (.reg [⟨(some 1), .box (.t 0), none⟩,
    ⟨(some 2), .mov (.c .nilfn), none⟩]) <|
  .seq (.reg [⟨(some 3), .mkf n_affine_by_F1 [] [(.t 1)], none⟩,
    ⟨(some 2), .mov (.t 3), none⟩]) <|
  .ret,
  [.t 2]⟩
theorem F_affine_by_ok : cFn PP true n_affine_by loops_affine_by (cDr PP 4 tbl_affine_by) = some F_affine_by := by kernel_rfl


def V_affine_by (a0 : D) (h0 : Heap) (K : D → Heap → Prop) : Prop :=
  vhOp PP (.box (.c a0)) h0 fun a2 h3 =>
  vhOp PP (.mkf n_affine_by_F1 [] [(.c a2)]) h3 fun a4 h5 =>
  K a4 h5
theorem V_affine_by_ok (a0 : D) (h0 : Heap) (K : D → Heap → Prop) : V_affine_by a0 h0 K = vcC PP F_affine_by.code (fun x e h' => match x with | .exit _ => False | _ => vcRet PP F_affine_by.res K e h') (params [a0] 0) h0 := by kernel_rfl


end Go.Am
/- The functions of this seat's program in the short form, as a program of ours printed them (part 5); each line of it is checked. No condition. -/
set_option linter.unusedVariables false
namespace Go.Am
open Go Go.Proofs
/-- warpwright/affine.operators$2 -/
def loops_affine_operators_F2 : Nat → Option (List Nat × List Nat)
  | _ => none
def tbl_affine_operators_F2 : Nat → Option (List Nat × List Nat × List Nat)
  | _ => none
def F_affine_operators_F2 : AFunc := ⟨14,
  .seq (.reg [⟨(some 3), .box (.t 0), none⟩,
    ⟨(some 4), .box (.t 1), none⟩,
    ⟨(some 6), .alloc (.agg [(.bool false), (.int .i64 0), (.int .i64 0), (.int .i64 0), (.int .i64 0), (.int .i64 0), (.int .i64 0)]), none⟩]) <|
  .seq (.reg [⟨(some 7), .ld (.t 3) 9 true, none⟩,
    ⟨(some 8), .ld (.t 4) 7 true, none⟩,
    ⟨(some 9), .mov (.t 2), none⟩,
    ⟨(some 10), .bin .and (.t 9) (.c (.int .i64 31)), none⟩,
    ⟨(some 11), .conv .u64 (.t 10), none⟩,
    ⟨(some 12), .bin .shl (.c (.int .i64 1)) (.t 11), none⟩,
    ⟨(some 13), .call n_affine_space_scale [(.t 7), (.t 8), (.t 12)], none⟩,
    ⟨none, .st (.t 6) (.t 13) 7, none⟩]) <|
  .ret,
  [.cell 6 7 true]⟩
theorem F_affine_operators_F2_ok : cFn PP true n_affine_operators_F2 loops_affine_operators_F2 (cDr PP 14 tbl_affine_operators_F2) = some F_affine_operators_F2 := by kernel_rfl
/-- warpwright/affine.operators$3 -/
def loops_affine_operators_F3 : Nat → Option (List Nat × List Nat)
  | _ => none
def tbl_affine_operators_F3 : Nat → Option (List Nat × List Nat × List Nat)
  | 4 => some ([0, 1, 0, 4, 12, 31, 0, 64, 0, 256, 768, 2047, 4095, 8191], [13], []) | _ => none
def F_affine_operators_F3 : AFunc := ⟨31,
  .seq (.reg [⟨(some 3), .box (.t 0), none⟩,
    ⟨(some 4), .box (.t 1), none⟩,
    ⟨(some 6), .alloc (.agg [(.bool false), (.int .i64 0), (.int .i64 0), (.int .i64 0), (.int .i64 0), (.int .i64 0), (.int .i64 0)]), none⟩]) <|
  .seq (.reg [⟨(some 10), .ld (.t 3) 9 true, none⟩,
    ⟨(some 11), .ld (.t 4) 7 true, none⟩,
    ⟨(some 12), .call n_affine_space_span [(.t 10), (.t 11)], none⟩,
    ⟨(some 9), .mov (.t 12), none⟩,
    ⟨(some 13), .ext (.t 9) 0, none⟩,
    ⟨(some 14), .ext (.t 9) 1, none⟩,
    ⟨(some 7), .alloc (.agg [(.int .i64 0), (.int .i64 0), (.int .i64 0)]), none⟩,
    ⟨none, .st (.t 7) (.t 13) 3, none⟩,
    ⟨(some 8), .mov (.t 14), none⟩]) <|
  .seq (.seq (.reg [⟨(some 15), .mov (.t 8), none⟩,
    ⟨(some 16), .un .not (.t 15), none⟩]) <|
  .cond (.t 16) (.seq (.reg [⟨(some 17), .call n_affine_unknown [], none⟩,
    ⟨none, .st (.t 6) (.t 17) 7, none⟩]) <|
  .ret) (.skip)) <|
  .seq (.dreg [⟨(some 18), .fadd (.t 7) 0, none⟩,
    ⟨(some 19), .ld (.t 18) 1 false, none⟩,
    ⟨(some 20), .mov (.t 2), none⟩,
    ⟨(some 21), .bin .and (.t 20) (.c (.int .i64 31)), none⟩,
    ⟨(some 22), .conv .u64 (.t 21), none⟩,
    ⟨(some 23), .call n_affine_floor [(.t 19), (.t 22)], none⟩,
    ⟨(some 24), .fadd (.t 7) 1, none⟩,
    ⟨(some 25), .ld (.t 24) 1 false, none⟩,
    ⟨(some 26), .mov (.t 2), none⟩,
    ⟨(some 27), .bin .and (.t 26) (.c (.int .i64 31)), none⟩,
    ⟨(some 28), .conv .u64 (.t 27), none⟩,
    ⟨(some 29), .call n_affine_floor [(.t 25), (.t 28)], none⟩,
    ⟨(some 30), .call n_affine_between [(.t 23), (.t 29)], none⟩] [⟨none, .st (.t 6) (.t 30) 7, none⟩] []) <|
  .ret,
  [.cell 6 7 true]⟩
theorem F_affine_operators_F3_ok : cFn PP true n_affine_operators_F3 loops_affine_operators_F3 (cDr PP 31 tbl_affine_operators_F3) = some F_affine_operators_F3 := by kernel_rfl
/-- warpwright/affine.operators$4 -/
def loops_affine_operators_F4 : Nat → Option (List Nat × List Nat)
  | _ => none
def tbl_affine_operators_F4 : Nat → Option (List Nat × List Nat × List Nat)
  | 4 => some ([0, 1, 0, 7, 0, 16, 0, 112, 255, 511], [9], []) | _ => none
def F_affine_operators_F4 : AFunc := ⟨36,
  .seq (.reg [⟨(some 3), .box (.t 0), none⟩,
    ⟨(some 4), .box (.t 1), none⟩,
    ⟨(some 6), .alloc (.agg [(.bool false), (.int .i64 0), (.int .i64 0), (.int .i64 0), (.int .i64 0), (.int .i64 0), (.int .i64 0)]), none⟩]) <|
  .seq (.reg [⟨(some 10), .ld (.t 3) 9 true, none⟩,
    ⟨(some 11), .ld (.t 4) 7 true, none⟩,
    ⟨(some 12), .call n_affine_space_span [(.t 10), (.t 11)], none⟩,
    ⟨(some 9), .mov (.t 12), none⟩,
    ⟨(some 13), .ext (.t 9) 0, none⟩,
    ⟨(some 14), .ext (.t 9) 1, none⟩,
    ⟨(some 7), .alloc (.agg [(.int .i64 0), (.int .i64 0), (.int .i64 0)]), none⟩,
    ⟨none, .st (.t 7) (.t 13) 3, none⟩,
    ⟨(some 8), .mov (.t 14), none⟩]) <|
  .seq (.seq (.reg [⟨(some 15), .mov (.t 8), none⟩,
    ⟨(some 16), .un .not (.t 15), none⟩,
    ⟨(some 17), .mov (.t 16), none⟩,
    ⟨(some 18), .mov (.t 2), some (17, false)⟩,
    ⟨(some 19), .bin .leq (.t 18) (.c (.int .i64 0)), some (17, false)⟩,
    ⟨(some 20), .pick (.t 17) (.c (.bool true)) (.t 19), none⟩,
    ⟨(some 21), .mov (.t 20), none⟩,
    ⟨(some 22), .fadd (.t 7) 0, some (21, false)⟩,
    ⟨(some 23), .ld (.t 22) 1 false, some (21, false)⟩,
    ⟨(some 24), .bin .lss (.t 23) (.c (.int .i64 0)), some (21, false)⟩,
    ⟨(some 25), .pick (.t 21) (.c (.bool true)) (.t 24), none⟩]) <|
  .cond (.t 25) (.seq (.reg [⟨(some 26), .call n_affine_unknown [], none⟩,
    ⟨none, .st (.t 6) (.t 26) 7, none⟩]) <|
  .ret) (.skip)) <|
  .seq (.dreg [⟨(some 27), .fadd (.t 7) 0, none⟩,
    ⟨(some 28), .ld (.t 27) 1 false, none⟩,
    ⟨(some 29), .mov (.t 2), none⟩,
    ⟨(some 30), .bin .quo (.t 28) (.t 29), none⟩,
    ⟨(some 31), .fadd (.t 7) 1, none⟩,
    ⟨(some 32), .ld (.t 31) 1 false, none⟩,
    ⟨(some 33), .mov (.t 2), none⟩,
    ⟨(some 34), .bin .quo (.t 32) (.t 33), none⟩,
    ⟨(some 35), .call n_affine_between [(.t 30), (.t 34)], none⟩] [⟨none, .st (.t 6) (.t 35) 7, none⟩] []) <|
  .ret,
  [.cell 6 7 true]⟩
theorem F_affine_operators_F4_ok : cFn PP true n_affine_operators_F4 loops_affine_operators_F4 (cDr PP 36 tbl_affine_operators_F4) = some F_affine_operators_F4 := by kernel_rfl
/-- (warpwright/affine.space).remainder -/
def loops_affine_space_remainder : Nat → Option (List Nat × List Nat)
  | _ => none
def tbl_affine_space_remainder : Nat → Option (List Nat × List Nat × List Nat)
  | _ => none
def F_affine_space_remainder : AFunc := ⟨54,
  .seq (.reg [⟨(some 3), .box (.t 0), none⟩,
    ⟨(some 4), .box (.t 1), none⟩,
    ⟨(some 6), .alloc (.agg [(.bool false), (.int .i64 0), (.int .i64 0), (.int .i64 0), (.int .i64 0), (.int .i64 0), (.int .i64 0)]), none⟩]) <|
  .seq (.reg [⟨(some 12), .ld (.t 3) 9 true, none⟩,
    ⟨(some 13), .ld (.t 4) 7 true, none⟩,
    ⟨(some 14), .call n_affine_space_span [(.t 12), (.t 13)], none⟩,
    ⟨(some 11), .mov (.t 14), none⟩,
    ⟨(some 15), .ext (.t 11) 0, none⟩,
    ⟨(some 16), .ext (.t 11) 1, none⟩,
    ⟨(some 7), .alloc (.agg [(.int .i64 0), (.int .i64 0), (.int .i64 0)]), none⟩,
    ⟨none, .st (.t 7) (.t 15) 3, none⟩,
    ⟨(some 8), .mov (.t 16), none⟩]) <|
  .seq (.block 0 (.seq (.reg [⟨(some 18), .mov (.t 8), none⟩,
    ⟨(some 19), .un .not (.t 18), none⟩,
    ⟨(some 20), .mov (.t 19), none⟩,
    ⟨(some 21), .mov (.t 2), some (20, false)⟩,
    ⟨(some 22), .bin .leq (.t 21) (.c (.int .i64 0)), some (20, false)⟩,
    ⟨(some 23), .pick (.t 20) (.c (.bool true)) (.t 22), none⟩,
    ⟨(some 24), .mov (.t 23), none⟩,
    ⟨(some 25), .fadd (.t 7) 0, some (24, false)⟩,
    ⟨(some 26), .ld (.t 25) 1 false, some (24, false)⟩,
    ⟨(some 27), .bin .lss (.t 26) (.c (.int .i64 0)), some (24, false)⟩,
    ⟨(some 28), .pick (.t 24) (.c (.bool true)) (.t 27), none⟩,
    ⟨(some 17), .mov (.t 28), none⟩]) <|
  .cond (.t 17) (.seq (.reg [⟨(some 29), .call n_affine_unknown [], none⟩,
    ⟨none, .st (.t 6) (.t 29) 7, none⟩]) <|
  .ret) (.seq (.reg [⟨(some 31), .fadd (.t 7) 1, none⟩,
    ⟨(some 32), .ld (.t 31) 1 false, none⟩,
    ⟨(some 33), .mov (.t 2), none⟩,
    ⟨(some 34), .bin .lss (.t 32) (.t 33), none⟩,
    ⟨(some 30), .mov (.t 34), none⟩]) <|
  .cond (.t 30) (.seq (.reg [⟨(some 35), .ld (.t 4) 7 true, none⟩,
    ⟨none, .st (.t 6) (.t 35) 7, none⟩]) <|
  .ret) (.seq (.reg [⟨(some 37), .ld (.t 4) 7 true, none⟩,
    ⟨(some 38), .call n_affine_plain [(.t 37)], none⟩,
    ⟨(some 36), .mov (.t 38), none⟩]) <|
  .cond (.t 36) (.seq (.reg [⟨(some 40), .fadd (.t 4) 4, none⟩,
    ⟨(some 41), .ld (.t 40) 3 true, none⟩,
    ⟨(some 42), .mov (.t 2), none⟩,
    ⟨(some 43), .call n_span_Mod [(.t 41), (.t 42)], none⟩,
    ⟨(some 39), .mov (.t 43), none⟩,
    ⟨(some 44), .ext (.t 39) 0, none⟩,
    ⟨(some 45), .ext (.t 39) 1, none⟩,
    ⟨(some 9), .alloc (.agg [(.int .i64 0), (.int .i64 0), (.int .i64 0)]), none⟩,
    ⟨none, .st (.t 9) (.t 44) 3, none⟩,
    ⟨(some 10), .mov (.t 45), none⟩]) <|
  .seq (.reg [⟨(some 46), .ld (.t 3) 9 true, none⟩,
    ⟨(some 47), .ld (.t 9) 3 true, none⟩,
    ⟨(some 48), .bld [(.bool false), (.int .i64 0), (.int .i64 0), (.int .i64 0), (.int .i64 0), (.int .i64 0), (.int .i64 0)] [(4, 3, (.t 47))], none⟩,
    ⟨(some 49), .mov (.t 10), none⟩,
    ⟨(some 50), .call n_affine_space_made [(.t 46), (.t 48), (.t 49)], none⟩,
    ⟨none, .st (.t 6) (.t 50) 7, none⟩]) <|
  .ret) (.skip))))) <|
  .seq (.reg [⟨(some 51), .mov (.t 2), none⟩,
    ⟨(some 52), .bin .sub (.t 51) (.c (.int .i64 1)), none⟩,
    ⟨(some 53), .call n_affine_between [(.c (.int .i64 0)), (.t 52)], none⟩,
    ⟨none, .st (.t 6) (.t 53) 7, none⟩]) <|
  .ret,
  [.cell 6 7 true]⟩
theorem F_affine_space_remainder_ok : cFn PP true n_affine_space_remainder loops_affine_space_remainder (cDr PP 54 tbl_affine_space_remainder) = some F_affine_space_remainder := by kernel_rfl
/-- warpwright/affine.ranged -/
def loops_affine_ranged : Nat → Option (List Nat × List Nat)
  | _ => none
def tbl_affine_ranged : Nat → Option (List Nat × List Nat × List Nat)
  | _ => none
def F_affine_ranged : AFunc := ⟨4,
  .seq (.reg [⟨(some 1), .box (.t 0), none⟩,
    ⟨(some 2), .mov (.c .nilfn), none⟩]) <|
  .seq (.reg [⟨(some 3), .mkf n_affine_ranged_F1 [] [(.t 1)], none⟩,
    ⟨(some 2), .mov (.t 3), none⟩]) <|
  .ret,
  [.t 2]⟩
theorem F_affine_ranged_ok : cFn PP true n_affine_ranged loops_affine_ranged (cDr PP 4 tbl_affine_ranged) = some F_affine_ranged := by kernel_rfl


def V_affine_ranged (a0 : D) (h0 : Heap) (K : D → Heap → Prop) : Prop :=
  vhOp PP (.box (.c a0)) h0 fun a2 h3 =>
  vhOp PP (.mkf n_affine_ranged_F1 [] [(.c a2)]) h3 fun a4 h5 =>
  K a4 h5
theorem V_affine_ranged_ok (a0 : D) (h0 : Heap) (K : D → Heap → Prop) : V_affine_ranged a0 h0 K = vcC PP F_affine_ranged.code (fun x e h' => match x with | .exit _ => False | _ => vcRet PP F_affine_ranged.res K e h') (params [a0] 0) h0 := by kernel_rfl

/-- warpwright/affine.operators$5 -/
def loops_affine_operators_F5 : Nat → Option (List Nat × List Nat)
  | _ => none
def tbl_affine_operators_F5 : Nat → Option (List Nat × List Nat × List Nat)
  | _ => none
def F_affine_operators_F5 : AFunc := ⟨16,
  .seq (.reg [⟨(some 2), .box (.t 0), none⟩,
    ⟨(some 3), .box (.t 1), none⟩,
    ⟨(some 4), .alloc (.agg [(.bool false), (.int .i64 0), (.int .i64 0), (.int .i64 0), (.int .i64 0), (.int .i64 0), (.int .i64 0)]), none⟩]) <|
  .seq (.reg [⟨(some 5), .fadd (.t 2) 0, none⟩,
    ⟨(some 6), .ld (.t 5) 1 false, none⟩,
    ⟨(some 7), .fadd (.t 3) 0, none⟩,
    ⟨(some 8), .ld (.t 7) 1 false, none⟩,
    ⟨(some 9), .mn (.t 6) (.t 8), none⟩,
    ⟨(some 10), .fadd (.t 2) 1, none⟩,
    ⟨(some 11), .ld (.t 10) 1 false, none⟩,
    ⟨(some 12), .fadd (.t 3) 1, none⟩,
    ⟨(some 13), .ld (.t 12) 1 false, none⟩,
    ⟨(some 14), .mn (.t 11) (.t 13), none⟩,
    ⟨(some 15), .call n_affine_between [(.t 9), (.t 14)], none⟩,
    ⟨none, .st (.t 4) (.t 15) 7, none⟩]) <|
  .ret,
  [.cell 4 7 true]⟩
theorem F_affine_operators_F5_ok : cFn PP true n_affine_operators_F5 loops_affine_operators_F5 (cDr PP 16 tbl_affine_operators_F5) = some F_affine_operators_F5 := by kernel_rfl
/-- warpwright/affine.operators$6 -/
def loops_affine_operators_F6 : Nat → Option (List Nat × List Nat)
  | _ => none
def tbl_affine_operators_F6 : Nat → Option (List Nat × List Nat × List Nat)
  | _ => none
def F_affine_operators_F6 : AFunc := ⟨16,
  .seq (.reg [⟨(some 2), .box (.t 0), none⟩,
    ⟨(some 3), .box (.t 1), none⟩,
    ⟨(some 4), .alloc (.agg [(.bool false), (.int .i64 0), (.int .i64 0), (.int .i64 0), (.int .i64 0), (.int .i64 0), (.int .i64 0)]), none⟩]) <|
  .seq (.reg [⟨(some 5), .fadd (.t 2) 0, none⟩,
    ⟨(some 6), .ld (.t 5) 1 false, none⟩,
    ⟨(some 7), .fadd (.t 3) 0, none⟩,
    ⟨(some 8), .ld (.t 7) 1 false, none⟩,
    ⟨(some 9), .mx (.t 6) (.t 8), none⟩,
    ⟨(some 10), .fadd (.t 2) 1, none⟩,
    ⟨(some 11), .ld (.t 10) 1 false, none⟩,
    ⟨(some 12), .fadd (.t 3) 1, none⟩,
    ⟨(some 13), .ld (.t 12) 1 false, none⟩,
    ⟨(some 14), .mx (.t 11) (.t 13), none⟩,
    ⟨(some 15), .call n_affine_between [(.t 9), (.t 14)], none⟩,
    ⟨none, .st (.t 4) (.t 15) 7, none⟩]) <|
  .ret,
  [.cell 4 7 true]⟩
theorem F_affine_operators_F6_ok : cFn PP true n_affine_operators_F6 loops_affine_operators_F6 (cDr PP 16 tbl_affine_operators_F6) = some F_affine_operators_F6 := by kernel_rfl
/-- warpwright/affine.bits -/
def loops_affine_bits : Nat → Option (List Nat × List Nat)
  | 1000007 => some ([4], [5]) | 4 => some ([2, 3, 4], [5]) | _ => none
def tbl_affine_bits : Nat → Option (List Nat × List Nat × List Nat)
  | _ => none
def F_affine_bits : AFunc := ⟨25,
  .seq (.reg [⟨(some 2), .box (.t 0), none⟩,
    ⟨(some 3), .box (.t 1), none⟩,
    ⟨(some 4), .alloc (.agg [(.bool false), (.int .i64 0), (.int .i64 0), (.int .i64 0), (.int .i64 0), (.int .i64 0), (.int .i64 0)]), none⟩]) <|
  .seq (.seq (.reg [⟨(some 6), .fadd (.t 2) 0, none⟩,
    ⟨(some 7), .ld (.t 6) 1 false, none⟩,
    ⟨(some 8), .fadd (.t 3) 0, none⟩,
    ⟨(some 9), .ld (.t 8) 1 false, none⟩,
    ⟨(some 10), .mn (.t 7) (.t 9), none⟩,
    ⟨(some 11), .bin .lss (.t 10) (.c (.int .i64 0)), none⟩]) <|
  .cond (.t 11) (.seq (.reg [⟨(some 12), .call n_affine_unknown [], none⟩,
    ⟨none, .st (.t 4) (.t 12) 7, none⟩]) <|
  .ret) (.skip)) <|
  .seq (.reg [⟨(some 5), .mov (.c (.int .i64 0)), none⟩]) <|
  .seqj [4] [5] (.block 0 (.loop [2, 3, 4] [5] (.seq (.seq (.reg [⟨(some 13), .mov (.t 5), none⟩,
    ⟨(some 14), .fadd (.t 2) 1, none⟩,
    ⟨(some 15), .ld (.t 14) 1 false, none⟩,
    ⟨(some 16), .fadd (.t 3) 1, none⟩,
    ⟨(some 17), .ld (.t 16) 1 false, none⟩,
    ⟨(some 18), .mx (.t 15) (.t 17), none⟩,
    ⟨(some 19), .bin .lss (.t 13) (.t 18), none⟩]) <|
  .cond (.t 19) (.skip) (.exit 0)) <|
  .block 1 (.reg [⟨(some 20), .mov (.t 5), none⟩,
    ⟨(some 21), .bin .mul (.c (.int .i64 2)) (.t 20), none⟩,
    ⟨(some 22), .bin .add (.t 21) (.c (.int .i64 1)), none⟩,
    ⟨(some 5), .mov (.t 22), none⟩])))) <|
  .seq (.reg [⟨(some 23), .mov (.t 5), none⟩,
    ⟨(some 24), .call n_affine_between [(.c (.int .i64 0)), (.t 23)], none⟩,
    ⟨none, .st (.t 4) (.t 24) 7, none⟩]) <|
  .ret,
  [.cell 4 7 true]⟩
theorem F_affine_bits_ok : cFn PP true n_affine_bits loops_affine_bits (cDr PP 25 tbl_affine_bits) = some F_affine_bits := by kernel_rfl
/-- slices.Backward[[]warpwright/api.Inst,warpwright/api.Inst]$1 -/
def loops_slices_Backward_sapi_Inst_api_Inst_F1 : Nat → Option (List Nat × List Nat)
  | 1 => some ([0, 1], [3]) | _ => none
def tbl_slices_Backward_sapi_Inst_api_Inst_F1 : Nat → Option (List Nat × List Nat × List Nat)
  | _ => none
def F_slices_Backward_sapi_Inst_api_Inst_F1 : AFunc := ⟨19,
  .seq (.reg [⟨(some 4), .ld (.t 1) 1 false, none⟩,
    ⟨(some 5), .len (.t 4), none⟩,
    ⟨(some 6), .bin .sub (.t 5) (.c (.int .i64 1)), none⟩,
    ⟨(some 3), .mov (.t 6), none⟩]) <|
  .block 0 (.loop [0, 1] [3] (.seq (.seq (.reg [⟨(some 7), .mov (.t 3), none⟩,
    ⟨(some 8), .bin .geq (.t 7) (.c (.int .i64 0)), none⟩]) <|
  .cond (.t 8) (.skip) (.exit 0)) <|
  .seq (.block 1 (.seq (.reg [⟨(some 11), .mov (.t 0), none⟩,
    ⟨(some 12), .mov (.t 3), none⟩,
    ⟨(some 13), .ld (.t 1) 1 false, none⟩,
    ⟨(some 14), .mov (.t 3), none⟩,
    ⟨(some 15), .iadd (.t 13) (.t 14) 15, none⟩,
    ⟨(some 16), .ld (.t 15) 15 true, none⟩,
    ⟨(some 17), .callv (.t 11) [(.t 12), (.t 16)], none⟩,
    ⟨(some 18), .un .not (.t 17), none⟩]) <|
  .cond (.t 18) (.ret) (.skip))) <|
  .reg [⟨(some 9), .mov (.t 3), none⟩,
    ⟨(some 10), .bin .sub (.t 9) (.c (.int .i64 1)), none⟩,
    ⟨(some 3), .mov (.t 10), none⟩])),
  []⟩
theorem F_slices_Backward_sapi_Inst_api_Inst_F1_ok : cFn PP true n_slices_Backward_sapi_Inst_api_Inst_F1 loops_slices_Backward_sapi_Inst_api_Inst_F1 (cDr PP 19 tbl_slices_Backward_sapi_Inst_api_Inst_F1) = some F_slices_Backward_sapi_Inst_api_Inst_F1 := by kernel_rfl
/-- math/bits.Mul64 -/
def loops_math_bits_Mul64 : Nat → Option (List Nat × List Nat)
  | _ => none
def tbl_math_bits_Mul64 : Nat → Option (List Nat × List Nat × List Nat)
  | _ => none
def F_math_bits_Mul64 : AFunc := ⟨51,
  .seq (.reg [⟨(some 4), .mov (.c (.int .u64 0)), none⟩,
    ⟨(some 5), .mov (.c (.int .u64 0)), none⟩]) <|
  .seq (.reg [⟨(some 14), .mov (.t 0), none⟩,
    ⟨(some 15), .bin .and (.t 14) (.c (.int .u64 4294967295)), none⟩,
    ⟨(some 6), .mov (.t 15), none⟩]) <|
  .seq (.reg [⟨(some 16), .mov (.t 0), none⟩,
    ⟨(some 17), .bin .shr (.t 16) (.c (.int .u64 32)), none⟩,
    ⟨(some 7), .mov (.t 17), none⟩]) <|
  .seq (.reg [⟨(some 18), .mov (.t 1), none⟩,
    ⟨(some 19), .bin .and (.t 18) (.c (.int .u64 4294967295)), none⟩,
    ⟨(some 8), .mov (.t 19), none⟩]) <|
  .seq (.reg [⟨(some 20), .mov (.t 1), none⟩,
    ⟨(some 21), .bin .shr (.t 20) (.c (.int .u64 32)), none⟩,
    ⟨(some 9), .mov (.t 21), none⟩]) <|
  .seq (.reg [⟨(some 22), .mov (.t 6), none⟩,
    ⟨(some 23), .mov (.t 8), none⟩,
    ⟨(some 24), .bin .mul (.t 22) (.t 23), none⟩,
    ⟨(some 10), .mov (.t 24), none⟩]) <|
  .seq (.reg [⟨(some 25), .mov (.t 7), none⟩,
    ⟨(some 26), .mov (.t 8), none⟩,
    ⟨(some 27), .bin .mul (.t 25) (.t 26), none⟩,
    ⟨(some 28), .mov (.t 10), none⟩,
    ⟨(some 29), .bin .shr (.t 28) (.c (.int .u64 32)), none⟩,
    ⟨(some 30), .bin .add (.t 27) (.t 29), none⟩,
    ⟨(some 11), .mov (.t 30), none⟩]) <|
  .seq (.reg [⟨(some 31), .mov (.t 11), none⟩,
    ⟨(some 32), .bin .and (.t 31) (.c (.int .u64 4294967295)), none⟩,
    ⟨(some 12), .mov (.t 32), none⟩]) <|
  .seq (.reg [⟨(some 33), .mov (.t 11), none⟩,
    ⟨(some 34), .bin .shr (.t 33) (.c (.int .u64 32)), none⟩,
    ⟨(some 13), .mov (.t 34), none⟩]) <|
  .seq (.reg [⟨(some 35), .mov (.t 12), none⟩,
    ⟨(some 36), .mov (.t 6), none⟩,
    ⟨(some 37), .mov (.t 9), none⟩,
    ⟨(some 38), .bin .mul (.t 36) (.t 37), none⟩,
    ⟨(some 39), .bin .add (.t 35) (.t 38), none⟩,
    ⟨(some 12), .mov (.t 39), none⟩]) <|
  .seq (.reg [⟨(some 40), .mov (.t 7), none⟩,
    ⟨(some 41), .mov (.t 9), none⟩,
    ⟨(some 42), .bin .mul (.t 40) (.t 41), none⟩,
    ⟨(some 43), .mov (.t 13), none⟩,
    ⟨(some 44), .bin .add (.t 42) (.t 43), none⟩,
    ⟨(some 45), .mov (.t 12), none⟩,
    ⟨(some 46), .bin .shr (.t 45) (.c (.int .u64 32)), none⟩,
    ⟨(some 47), .bin .add (.t 44) (.t 46), none⟩,
    ⟨(some 4), .mov (.t 47), none⟩]) <|
  .seq (.reg [⟨(some 48), .mov (.t 0), none⟩,
    ⟨(some 49), .mov (.t 1), none⟩,
    ⟨(some 50), .bin .mul (.t 48) (.t 49), none⟩,
    ⟨(some 5), .mov (.t 50), none⟩]) <|
  .ret,
  [.t 4, .t 5]⟩
theorem F_math_bits_Mul64_ok : cFn PP true n_math_bits_Mul64 loops_math_bits_Mul64 (cDr PP 51 tbl_math_bits_Mul64) = some F_math_bits_Mul64 := by kernel_rfl


def V_math_bits_Mul64 (a0 : D) (a1 : D) (h0 : Heap) (K : D → Heap → Prop) : Prop :=
  vbin .and a0 (.int .u64 4294967295) fun a3 =>
  vbin .shr a0 (.int .u64 32) fun a4 =>
  vbin .and a1 (.int .u64 4294967295) fun a5 =>
  vbin .shr a1 (.int .u64 32) fun a6 =>
  vbin .mul a3 a5 fun a7 =>
  vbin .mul a4 a5 fun a8 =>
  vbin .shr a7 (.int .u64 32) fun a9 =>
  vbin .add a8 a9 fun a10 =>
  vbin .and a10 (.int .u64 4294967295) fun a11 =>
  vbin .shr a10 (.int .u64 32) fun a12 =>
  vbin .mul a3 a6 fun a13 =>
  vbin .add a11 a13 fun a14 =>
  vbin .mul a4 a6 fun a15 =>
  vbin .add a15 a12 fun a16 =>
  vbin .shr a14 (.int .u64 32) fun a17 =>
  vbin .add a16 a17 fun a18 =>
  vbin .mul a0 a1 fun a19 =>
  K (.tup [a18, a19]) h0
theorem V_math_bits_Mul64_ok (a0 : D) (a1 : D) (h0 : Heap) (K : D → Heap → Prop) : V_math_bits_Mul64 a0 a1 h0 K = vcC PP F_math_bits_Mul64.code (fun x e h' => match x with | .exit _ => False | _ => vcRet PP F_math_bits_Mul64.res K e h') (params [a0, a1] 0) h0 := by kernel_rfl

/-- warpwright/span.rest -/
def loops_span_rest : Nat → Option (List Nat × List Nat)
  | _ => none
def tbl_span_rest : Nat → Option (List Nat × List Nat × List Nat)
  | _ => none
def F_span_rest : AFunc := ⟨12,
  .seq (.reg [⟨(some 4), .mov (.c (.int .i64 0)), none⟩]) <|
  .seq (.reg [⟨(some 5), .mov (.t 0), none⟩,
    ⟨(some 6), .mov (.t 0), none⟩,
    ⟨(some 7), .mov (.t 1), none⟩,
    ⟨(some 8), .call n_span_floor [(.t 6), (.t 7)], none⟩,
    ⟨(some 9), .mov (.t 1), none⟩,
    ⟨(some 10), .bin .mul (.t 8) (.t 9), none⟩,
    ⟨(some 11), .bin .sub (.t 5) (.t 10), none⟩,
    ⟨(some 4), .mov (.t 11), none⟩]) <|
  .ret,
  [.t 4]⟩
theorem F_span_rest_ok : cFn PP true n_span_rest loops_span_rest (cDr PP 12 tbl_span_rest) = some F_span_rest := by kernel_rfl
/-- math/bits.Rem64 -/
def loops_math_bits_Rem64 : Nat → Option (List Nat × List Nat)
  | _ => none
def tbl_math_bits_Rem64 : Nat → Option (List Nat × List Nat × List Nat)
  | _ => none
def F_math_bits_Rem64 : AFunc := ⟨19,
  .seq (.reg [⟨(some 6), .mov (.c (.int .u64 0)), none⟩]) <|
  .seq (.reg [⟨(some 10), .mov (.t 0), none⟩,
    ⟨(some 11), .mov (.t 2), none⟩,
    ⟨(some 12), .bin .rem (.t 10) (.t 11), none⟩,
    ⟨(some 13), .mov (.t 1), none⟩,
    ⟨(some 14), .mov (.t 2), none⟩,
    ⟨(some 15), .call n_math_bits_Div64 [(.t 12), (.t 13), (.t 14)], none⟩,
    ⟨(some 9), .mov (.t 15), none⟩,
    ⟨(some 16), .ext (.t 9) 0, none⟩,
    ⟨(some 17), .ext (.t 9) 1, none⟩,
    ⟨(some 7), .mov (.t 16), none⟩,
    ⟨(some 8), .mov (.t 17), none⟩]) <|
  .seq (.reg [⟨(some 18), .mov (.t 8), none⟩,
    ⟨(some 6), .mov (.t 18), none⟩]) <|
  .ret,
  [.t 6]⟩
theorem F_math_bits_Rem64_ok : cFn PP true n_math_bits_Rem64 loops_math_bits_Rem64 (cDr PP 19 tbl_math_bits_Rem64) = some F_math_bits_Rem64 := by kernel_rfl
/-- warpwright/span.product -/
def loops_span_product : Nat → Option (List Nat × List Nat)
  | _ => none
def tbl_span_product : Nat → Option (List Nat × List Nat × List Nat)
  | _ => none
def F_span_product : AFunc := ⟨28,
  .seq (.reg [⟨(some 4), .mov (.c (.int .i64 0)), none⟩,
    ⟨(some 5), .mov (.c (.bool false)), none⟩]) <|
  .seq (.reg [⟨(some 6), .mov (.c (.fn n_span_product_F1 [] [])), none⟩]) <|
  .seq (.reg [⟨(some 10), .mov (.t 6), none⟩,
    ⟨(some 11), .mov (.t 0), none⟩,
    ⟨(some 12), .callv (.t 10) [(.t 11)], none⟩,
    ⟨(some 13), .mov (.t 6), none⟩,
    ⟨(some 14), .mov (.t 1), none⟩,
    ⟨(some 15), .callv (.t 13) [(.t 14)], none⟩,
    ⟨(some 16), .call n_math_bits_Mul64 [(.t 12), (.t 15)], none⟩,
    ⟨(some 9), .mov (.t 16), none⟩,
    ⟨(some 17), .ext (.t 9) 0, none⟩,
    ⟨(some 18), .ext (.t 9) 1, none⟩,
    ⟨(some 7), .mov (.t 17), none⟩,
    ⟨(some 8), .mov (.t 18), none⟩]) <|
  .seq (.reg [⟨(some 19), .mov (.t 0), none⟩,
    ⟨(some 20), .mov (.t 1), none⟩,
    ⟨(some 21), .bin .mul (.t 19) (.t 20), none⟩,
    ⟨(some 22), .mov (.t 7), none⟩,
    ⟨(some 23), .bin .eql (.t 22) (.c (.int .u64 0)), none⟩,
    ⟨(some 24), .mov (.t 23), none⟩,
    ⟨(some 25), .mov (.t 8), some (24, true)⟩,
    ⟨(some 26), .bin .leq (.t 25) (.c (.int .u64 1099511627776)), some (24, true)⟩,
    ⟨(some 27), .pick (.t 24) (.t 26) (.c (.bool false)), none⟩,
    ⟨(some 4), .mov (.t 21), none⟩,
    ⟨(some 5), .mov (.t 27), none⟩]) <|
  .ret,
  [.t 4, .t 5]⟩
theorem F_span_product_ok : cFn PP true n_span_product loops_span_product (cDr PP 28 tbl_span_product) = some F_span_product := by kernel_rfl


def V_span_product (a0 : D) (a1 : D) (h0 : Heap) (K : D → Heap → Prop) : Prop :=
  vhOp PP (.callv (.c (.fn n_span_product_F1 [] [])) [(.c a0)]) h0 fun a3 h4 =>
  vhOp PP (.callv (.c (.fn n_span_product_F1 [] [])) [(.c a1)]) h4 fun a5 h6 =>
  ACall PP n_math_bits_Mul64 [a3, a5] h6 fun a7 h8 =>
  vhOp PP (.ext (.c a7) 0) h8 fun a9 h10 =>
  vhOp PP (.ext (.c a7) 1) h10 fun a11 h12 =>
  vbin .mul a0 a1 fun a13 =>
  vbin .eql a9 (.int .u64 0) fun a14 =>
  vguard a14 true (fun G15 =>
  G15 a11 h12) h12 fun a16 h17 =>
  vguard a14 true (fun G18 =>
  vbin .leq a16 (.int .u64 1099511627776) fun a21 =>
  G18 a21 h17) h17 fun a19 h20 =>
  vhOp PP (.pick (.c a14) (.c a19) (.c (.bool false))) h20 fun a22 h23 =>
  K (.tup [a13, a22]) h23
theorem V_span_product_ok (a0 : D) (a1 : D) (h0 : Heap) (K : D → Heap → Prop) : V_span_product a0 a1 h0 K = vcC PP F_span_product.code (fun x e h' => match x with | .exit _ => False | _ => vcRet PP F_span_product.res K e h') (params [a0, a1] 0) h0 := by kernel_rfl

/-- warpwright/span.Sub -/
def loops_span_Sub : Nat → Option (List Nat × List Nat)
  | _ => none
def tbl_span_Sub : Nat → Option (List Nat × List Nat × List Nat)
  | 1 => some ([0, 1, 0, 4, 15, 0, 32, 0, 128, 480, 0, 1024, 0, 4096, 15360, 31744, 65535, 131071, 131071, 524287, 1048575], [19], []) | _ => none
def F_span_Sub : AFunc := ⟨25,
  .seq (.reg [⟨(some 2), .box (.t 0), none⟩,
    ⟨(some 3), .box (.t 1), none⟩,
    ⟨(some 4), .alloc (.agg [(.int .i64 0), (.int .i64 0), (.int .i64 0)]), none⟩,
    ⟨(some 5), .mov (.c (.int .i64 0)), none⟩]) <|
  .seq (.dreg [⟨(some 6), .fadd (.t 2) 0, none⟩,
    ⟨(some 7), .ld (.t 6) 1 false, none⟩,
    ⟨(some 8), .fadd (.t 3) 1, none⟩,
    ⟨(some 9), .ld (.t 8) 1 false, none⟩,
    ⟨(some 10), .bin .sub (.t 7) (.t 9), none⟩,
    ⟨(some 11), .fadd (.t 2) 1, none⟩,
    ⟨(some 12), .ld (.t 11) 1 false, none⟩,
    ⟨(some 13), .fadd (.t 3) 0, none⟩,
    ⟨(some 14), .ld (.t 13) 1 false, none⟩,
    ⟨(some 15), .bin .sub (.t 12) (.t 14), none⟩,
    ⟨(some 16), .fadd (.t 2) 2, none⟩,
    ⟨(some 17), .ld (.t 16) 1 false, none⟩,
    ⟨(some 18), .fadd (.t 3) 2, none⟩,
    ⟨(some 19), .ld (.t 18) 1 false, none⟩,
    ⟨(some 20), .bldS false 1 2 (.int .i64 0) [(0, (.t 17)), (1, (.t 19))], none⟩,
    ⟨(some 21), .call n_span_gcd [(.t 20)], none⟩,
    ⟨(some 22), .call n_span_bounded [(.t 10), (.t 15), (.t 21)], none⟩,
    ⟨(some 23), .ext (.t 22) 0, none⟩,
    ⟨(some 24), .ext (.t 22) 1, none⟩,
    ⟨(some 5), .mov (.t 24), none⟩] [⟨none, .st (.t 4) (.t 23) 3, none⟩] []) <|
  .ret,
  [.cell 4 3 true, .t 5]⟩
theorem F_span_Sub_ok : cFn PP true n_span_Sub loops_span_Sub (cDr PP 25 tbl_span_Sub) = some F_span_Sub := by kernel_rfl


def V_span_Sub (a0 : D) (a1 : D) (h0 : Heap) (K : D → Heap → Prop) : Prop :=
  vhOp PP (.box (.c a0)) h0 fun a3 h4 =>
  vhOp PP (.box (.c a1)) h4 fun a5 h6 =>
  vhOp PP (.alloc (.agg [(.int .i64 0), (.int .i64 0), (.int .i64 0)])) h6 fun a7 h8 =>
  vdOp PP (.fadd (.c a3) 0) h8 fun a9 =>
  vdOp PP (.ld (.c a9) 1 false) h8 fun a10 =>
  vdOp PP (.fadd (.c a5) 1) h8 fun a11 =>
  vdOp PP (.ld (.c a11) 1 false) h8 fun a12 =>
  vbin .sub a10 a12 fun a13 =>
  vdOp PP (.fadd (.c a3) 1) h8 fun a14 =>
  vdOp PP (.ld (.c a14) 1 false) h8 fun a15 =>
  vdOp PP (.fadd (.c a5) 0) h8 fun a16 =>
  vdOp PP (.ld (.c a16) 1 false) h8 fun a17 =>
  vbin .sub a15 a17 fun a18 =>
  vdOp PP (.fadd (.c a3) 2) h8 fun a19 =>
  vdOp PP (.ld (.c a19) 1 false) h8 fun a20 =>
  vdOp PP (.fadd (.c a5) 2) h8 fun a21 =>
  vdOp PP (.ld (.c a21) 1 false) h8 fun a22 =>
  vdOp PP (.bldS false 1 2 (.int .i64 0) [(0, (.c a20)), (1, (.c a22))]) h8 fun a23 =>
  vdOp PP (.call n_span_gcd [(.c a23)]) h8 fun a24 =>
  vdOp PP (.call n_span_bounded [(.c a13), (.c a18), (.c a24)]) h8 fun a25 =>
  vdOp PP (.ext (.c a25) 0) h8 fun a26 =>
  vdOp PP (.ext (.c a25) 1) h8 fun a27 =>
  vhOp PP (.st (.c a7) (.c a26) 3) h8 fun a28 h29 =>
  vhOp PP (.ld (.c a7) 3 true) h29 fun a30 _ =>
  K (.tup [a30, a27]) h29
theorem V_span_Sub_ok (a0 : D) (a1 : D) (h0 : Heap) (K : D → Heap → Prop) : V_span_Sub a0 a1 h0 K = vcC PP F_span_Sub.code (fun x e h' => match x with | .exit _ => False | _ => vcRet PP F_span_Sub.res K e h') (params [a0, a1] 0) h0 := by kernel_rfl

/-- warpwright/span.Mul -/
def loops_span_Mul : Nat → Option (List Nat × List Nat)
  | _ => none
def tbl_span_Mul : Nat → Option (List Nat × List Nat × List Nat)
  | _ => none
def F_span_Mul : AFunc := ⟨39,
  .seq (.reg [⟨(some 2), .box (.t 0), none⟩,
    ⟨(some 3), .box (.t 1), none⟩,
    ⟨(some 4), .alloc (.agg [(.int .i64 0), (.int .i64 0), (.int .i64 0)]), none⟩,
    ⟨(some 5), .mov (.c (.int .i64 0)), none⟩]) <|
  .seq (.reg [⟨(some 10), .ld (.t 2) 3 true, none⟩,
    ⟨(some 11), .ld (.t 3) 3 true, none⟩,
    ⟨(some 12), .call n_span_products [(.t 10), (.t 11)], none⟩,
    ⟨(some 9), .mov (.t 12), none⟩,
    ⟨(some 13), .ext (.t 9) 0, none⟩,
    ⟨(some 14), .ext (.t 9) 1, none⟩,
    ⟨(some 15), .ext (.t 9) 2, none⟩,
    ⟨(some 6), .mov (.t 13), none⟩,
    ⟨(some 7), .mov (.t 14), none⟩,
    ⟨(some 8), .mov (.t 15), none⟩]) <|
  .seq (.seq (.reg [⟨(some 16), .mov (.t 8), none⟩,
    ⟨(some 17), .un .not (.t 16), none⟩]) <|
  .cond (.t 17) (.seq (.reg [⟨(some 18), .bld [(.int .i64 0), (.int .i64 0), (.int .i64 0)] [], none⟩,
    ⟨none, .st (.t 4) (.t 18) 3, none⟩,
    ⟨(some 5), .mov (.c (.int .i64 2)), none⟩]) <|
  .ret) (.skip)) <|
  .seq (.reg [⟨(some 19), .mov (.t 6), none⟩,
    ⟨(some 20), .mov (.t 7), none⟩,
    ⟨(some 21), .fadd (.t 2) 0, none⟩,
    ⟨(some 22), .ld (.t 21) 1 false, none⟩,
    ⟨(some 23), .fadd (.t 3) 2, none⟩,
    ⟨(some 24), .ld (.t 23) 1 false, none⟩,
    ⟨(some 25), .bin .mul (.t 22) (.t 24), none⟩,
    ⟨(some 26), .fadd (.t 3) 0, none⟩,
    ⟨(some 27), .ld (.t 26) 1 false, none⟩,
    ⟨(some 28), .fadd (.t 2) 2, none⟩,
    ⟨(some 29), .ld (.t 28) 1 false, none⟩,
    ⟨(some 30), .bin .mul (.t 27) (.t 29), none⟩,
    ⟨(some 31), .fadd (.t 2) 2, none⟩,
    ⟨(some 32), .ld (.t 31) 1 false, none⟩,
    ⟨(some 33), .fadd (.t 3) 2, none⟩,
    ⟨(some 34), .ld (.t 33) 1 false, none⟩,
    ⟨(some 35), .bin .mul (.t 32) (.t 34), none⟩,
    ⟨(some 36), .bldS true 1 3 (.int .i64 0) [(0, (.t 25)), (1, (.t 30)), (2, (.t 35))], none⟩,
    ⟨(some 37), .call n_span_gcd [(.t 36)], none⟩,
    ⟨(some 38), .call n_span_made [(.t 19), (.t 20), (.t 37)], none⟩,
    ⟨none, .st (.t 4) (.t 38) 3, none⟩,
    ⟨(some 5), .mov (.c (.int .i64 0)), none⟩]) <|
  .ret,
  [.cell 4 3 true, .t 5]⟩
theorem F_span_Mul_ok : cFn PP true n_span_Mul loops_span_Mul (cDr PP 39 tbl_span_Mul) = some F_span_Mul := by kernel_rfl
/-- warpwright/affine.by$1 -/
def loops_affine_by_F1 : Nat → Option (List Nat × List Nat)
  | _ => none
def tbl_affine_by_F1 : Nat → Option (List Nat × List Nat × List Nat)
  | _ => none
def F_affine_by_F1 : AFunc := ⟨22,
  .seq (.reg [⟨(some 4), .box (.t 0), none⟩,
    ⟨(some 5), .box (.t 1), none⟩,
    ⟨(some 6), .box (.t 2), none⟩,
    ⟨(some 7), .alloc (.agg [(.bool false), (.int .i64 0), (.int .i64 0), (.int .i64 0), (.int .i64 0), (.int .i64 0), (.int .i64 0)]), none⟩]) <|
  .seq (.seq (.reg [⟨(some 11), .ld (.t 6) 7 true, none⟩,
    ⟨(some 12), .call n_affine_constant [(.t 11)], none⟩,
    ⟨(some 10), .mov (.t 12), none⟩,
    ⟨(some 13), .ext (.t 10) 0, none⟩,
    ⟨(some 14), .ext (.t 10) 1, none⟩,
    ⟨(some 8), .mov (.t 13), none⟩,
    ⟨(some 9), .mov (.t 14), none⟩]) <|
  .seq (.reg [⟨(some 15), .mov (.t 9), none⟩]) <|
  .cond (.t 15) (.seq (.reg [⟨(some 16), .ld (.t 3) 1 false, none⟩,
    ⟨(some 17), .ld (.t 4) 9 true, none⟩,
    ⟨(some 18), .ld (.t 5) 7 true, none⟩,
    ⟨(some 19), .mov (.t 8), none⟩,
    ⟨(some 20), .callv (.t 16) [(.t 17), (.t 18), (.t 19)], none⟩,
    ⟨none, .st (.t 7) (.t 20) 7, none⟩]) <|
  .ret) (.skip)) <|
  .seq (.reg [⟨(some 21), .call n_affine_unknown [], none⟩,
    ⟨none, .st (.t 7) (.t 21) 7, none⟩]) <|
  .ret,
  [.cell 7 7 true]⟩
theorem F_affine_by_F1_ok : cFn PP true n_affine_by_F1 loops_affine_by_F1 (cDr PP 22 tbl_affine_by_F1) = some F_affine_by_F1 := by kernel_rfl
/-- warpwright/span.Mod -/
def loops_span_Mod : Nat → Option (List Nat × List Nat)
  | _ => none
def tbl_span_Mod : Nat → Option (List Nat × List Nat × List Nat)
  | _ => none
def F_span_Mod : AFunc := ⟨36,
  .seq (.reg [⟨(some 2), .box (.t 0), none⟩,
    ⟨(some 4), .alloc (.agg [(.int .i64 0), (.int .i64 0), (.int .i64 0)]), none⟩,
    ⟨(some 5), .mov (.c (.int .i64 0)), none⟩]) <|
  .seq (.seq (.reg [⟨(some 8), .mov (.t 1), none⟩,
    ⟨(some 9), .bin .lss (.t 8) (.c (.int .i64 1)), none⟩,
    ⟨(some 10), .mov (.t 9), none⟩,
    ⟨(some 11), .mov (.t 1), some (10, false)⟩,
    ⟨(some 12), .bin .gtr (.t 11) (.c (.int .i64 1099511627776)), some (10, false)⟩,
    ⟨(some 13), .pick (.t 10) (.c (.bool true)) (.t 12), none⟩]) <|
  .cond (.t 13) (.seq (.reg [⟨(some 14), .bld [(.int .i64 0), (.int .i64 0), (.int .i64 0)] [], none⟩,
    ⟨none, .st (.t 4) (.t 14) 3, none⟩,
    ⟨(some 5), .mov (.c (.int .i64 1)), none⟩]) <|
  .ret) (.skip)) <|
  .seq (.reg [⟨(some 15), .fadd (.t 2) 2, none⟩,
    ⟨(some 16), .ld (.t 15) 1 false, none⟩,
    ⟨(some 17), .mov (.t 1), none⟩,
    ⟨(some 18), .bldS true 1 2 (.int .i64 0) [(0, (.t 16)), (1, (.t 17))], none⟩,
    ⟨(some 19), .call n_span_gcd [(.t 18)], none⟩,
    ⟨(some 6), .mov (.t 19), none⟩]) <|
  .seq (.reg [⟨(some 20), .fadd (.t 2) 0, none⟩,
    ⟨(some 21), .ld (.t 20) 1 false, none⟩,
    ⟨(some 22), .mov (.t 6), none⟩,
    ⟨(some 23), .call n_span_rest [(.t 21), (.t 22)], none⟩,
    ⟨(some 7), .mov (.t 23), none⟩]) <|
  .seq (.reg [⟨(some 24), .mov (.t 7), none⟩,
    ⟨(some 25), .mov (.t 1), none⟩,
    ⟨(some 26), .bin .sub (.t 25) (.c (.int .i64 1)), none⟩,
    ⟨(some 27), .mov (.t 1), none⟩,
    ⟨(some 28), .bin .sub (.t 27) (.c (.int .i64 1)), none⟩,
    ⟨(some 29), .mov (.t 7), none⟩,
    ⟨(some 30), .bin .sub (.t 28) (.t 29), none⟩,
    ⟨(some 31), .mov (.t 6), none⟩,
    ⟨(some 32), .call n_span_rest [(.t 30), (.t 31)], none⟩,
    ⟨(some 33), .bin .sub (.t 26) (.t 32), none⟩,
    ⟨(some 34), .mov (.t 6), none⟩,
    ⟨(some 35), .call n_span_made [(.t 24), (.t 33), (.t 34)], none⟩,
    ⟨none, .st (.t 4) (.t 35) 3, none⟩,
    ⟨(some 5), .mov (.c (.int .i64 0)), none⟩]) <|
  .ret,
  [.cell 4 3 true, .t 5]⟩
theorem F_span_Mod_ok : cFn PP true n_span_Mod loops_span_Mod (cDr PP 36 tbl_span_Mod) = some F_span_Mod := by kernel_rfl
/-- warpwright/affine.ranged$1 -/
def loops_affine_ranged_F1 : Nat → Option (List Nat × List Nat)
  | _ => none
def tbl_affine_ranged_F1 : Nat → Option (List Nat × List Nat × List Nat)
  | _ => none
def F_affine_ranged_F1 : AFunc := ⟨35,
  .seq (.reg [⟨(some 4), .box (.t 0), none⟩,
    ⟨(some 5), .box (.t 1), none⟩,
    ⟨(some 6), .box (.t 2), none⟩,
    ⟨(some 7), .alloc (.agg [(.bool false), (.int .i64 0), (.int .i64 0), (.int .i64 0), (.int .i64 0), (.int .i64 0), (.int .i64 0)]), none⟩]) <|
  .seq (.reg [⟨(some 13), .ld (.t 4) 9 true, none⟩,
    ⟨(some 14), .ld (.t 5) 7 true, none⟩,
    ⟨(some 15), .call n_affine_space_span [(.t 13), (.t 14)], none⟩,
    ⟨(some 12), .mov (.t 15), none⟩,
    ⟨(some 16), .ext (.t 12) 0, none⟩,
    ⟨(some 17), .ext (.t 12) 1, none⟩,
    ⟨(some 8), .alloc (.agg [(.int .i64 0), (.int .i64 0), (.int .i64 0)]), none⟩,
    ⟨none, .st (.t 8) (.t 16) 3, none⟩,
    ⟨(some 9), .mov (.t 17), none⟩]) <|
  .seq (.reg [⟨(some 19), .ld (.t 4) 9 true, none⟩,
    ⟨(some 20), .ld (.t 6) 7 true, none⟩,
    ⟨(some 21), .call n_affine_space_span [(.t 19), (.t 20)], none⟩,
    ⟨(some 18), .mov (.t 21), none⟩,
    ⟨(some 22), .ext (.t 18) 0, none⟩,
    ⟨(some 23), .ext (.t 18) 1, none⟩,
    ⟨(some 10), .alloc (.agg [(.int .i64 0), (.int .i64 0), (.int .i64 0)]), none⟩,
    ⟨none, .st (.t 10) (.t 22) 3, none⟩,
    ⟨(some 11), .mov (.t 23), none⟩]) <|
  .seq (.seq (.reg [⟨(some 24), .mov (.t 9), none⟩,
    ⟨(some 25), .un .not (.t 24), none⟩,
    ⟨(some 26), .mov (.t 25), none⟩,
    ⟨(some 27), .mov (.t 11), some (26, false)⟩,
    ⟨(some 28), .un .not (.t 27), some (26, false)⟩,
    ⟨(some 29), .pick (.t 26) (.c (.bool true)) (.t 28), none⟩]) <|
  .cond (.t 29) (.seq (.reg [⟨(some 30), .call n_affine_unknown [], none⟩,
    ⟨none, .st (.t 7) (.t 30) 7, none⟩]) <|
  .ret) (.skip)) <|
  .seq (.reg [⟨(some 31), .ld (.t 3) 1 false, none⟩,
    ⟨(some 32), .ld (.t 8) 3 true, none⟩,
    ⟨(some 33), .ld (.t 10) 3 true, none⟩,
    ⟨(some 34), .callv (.t 31) [(.t 32), (.t 33)], none⟩,
    ⟨none, .st (.t 7) (.t 34) 7, none⟩]) <|
  .ret,
  [.cell 7 7 true]⟩
theorem F_affine_ranged_F1_ok : cFn PP true n_affine_ranged_F1 loops_affine_ranged_F1 (cDr PP 35 tbl_affine_ranged_F1) = some F_affine_ranged_F1 := by kernel_rfl
/-- warpwright/span.product$1 -/
def loops_span_product_F1 : Nat → Option (List Nat × List Nat)
  | _ => none
def tbl_span_product_F1 : Nat → Option (List Nat × List Nat × List Nat)
  | _ => none
def F_span_product_F1 : AFunc := ⟨10,
  .seq (.reg [⟨(some 2), .mov (.c (.int .u64 0)), none⟩]) <|
  .seq (.seq (.reg [⟨(some 3), .mov (.t 0), none⟩,
    ⟨(some 4), .bin .lss (.t 3) (.c (.int .i64 0)), none⟩]) <|
  .cond (.t 4) (.seq (.reg [⟨(some 5), .mov (.t 0), none⟩,
    ⟨(some 6), .conv .u64 (.t 5), none⟩,
    ⟨(some 7), .un .neg (.t 6), none⟩,
    ⟨(some 2), .mov (.t 7), none⟩]) <|
  .ret) (.skip)) <|
  .seq (.reg [⟨(some 8), .mov (.t 0), none⟩,
    ⟨(some 9), .conv .u64 (.t 8), none⟩,
    ⟨(some 2), .mov (.t 9), none⟩]) <|
  .ret,
  [.t 2]⟩
theorem F_span_product_F1_ok : cFn PP true n_span_product_F1 loops_span_product_F1 (cDr PP 10 tbl_span_product_F1) = some F_span_product_F1 := by kernel_rfl


def V_span_product_F1 (a0 : D) (h0 : Heap) (K : D → Heap → Prop) : Prop :=
  vbin .lss a0 (.int .i64 0) fun a2 =>
  vcond a2 (vhOp PP (.conv .u64 (.c a0)) h0 fun a3 h4 =>
  vun .neg a3 fun a5 =>
  K a5 h4) (
  vhOp PP (.conv .u64 (.c a0)) h0 fun a6 h7 =>
  K a6 h7)
theorem V_span_product_F1_ok (a0 : D) (h0 : Heap) (K : D → Heap → Prop) : V_span_product_F1 a0 h0 K = vcC PP F_span_product_F1.code (fun x e h' => match x with | .exit _ => False | _ => vcRet PP F_span_product_F1.res K e h') (params [a0] 0) h0 := by kernel_rfl

end Go.Am
/- The text of law26_AffineSums, as a program of ours printed it; checked. No condition. -/
set_option linter.unusedVariables false
namespace Go.Am
open Go Go.Proofs


def V_law26_AffineSums_L0 (h106 : Heap) (a51 : D) (a12 : D) (a4 : D) (a75 : D) (a6 : D) (J107 : List D → Heap → Prop) (K : D → Heap → Prop) : Prop :=
  ∃ (I162 : Nat → List D → Heap → Prop) (n₀ : Nat), I162 n₀ [(.int .i64 0)] h106 ∧ ∀ (n163 : Nat) (f164 : Nat → D) (h165 : Heap), I162 n163 [f164 14] h165 →
  vhOp PP (.fadd (.c a51) 0) h165 fun a166 h167 =>
  vhOp PP (.ld (.c a166) 1 false) h167 fun a168 h169 =>
  vbin .mul a12 a168 fun a170 =>
  vbin .lss (f164 14) a170 fun a171 =>
  vcond a171 (vhOp PP (.fadd (.c a51) 0) h169 fun a172 h173 =>
  vhOp PP (.ld (.c a172) 1 false) h173 fun a174 h175 =>
  vbin .rem (f164 14) a174 fun a176 =>
  vhOp PP (.fadd (.c a51) 0) h175 fun a177 h178 =>
  vhOp PP (.ld (.c a177) 1 false) h178 fun a179 h180 =>
  vbin .quo (f164 14) a179 fun a181 =>
  vhOp PP (.iadda (.c a4) (.c (.int .i64 0)) 4 1) h180 fun a182 h183 =>
  vhOp PP (.ld (.c a182) 1 false) h183 fun a184 h185 =>
  vhOp PP (.conv .i32 (.c a184)) h185 fun a186 h187 =>
  vhOp PP (.conv .i32 (.c (f164 14))) h187 fun a188 h189 =>
  vbin .mul a186 a188 fun a190 =>
  vhOp PP (.iadda (.c a4) (.c (.int .i64 1)) 4 1) h189 fun a191 h192 =>
  vhOp PP (.ld (.c a191) 1 false) h192 fun a193 h194 =>
  vhOp PP (.conv .i32 (.c a193)) h194 fun a195 h196 =>
  vhOp PP (.conv .i32 (.c a176)) h196 fun a197 h198 =>
  vbin .mul a195 a197 fun a199 =>
  vbin .add a190 a199 fun a200 =>
  vhOp PP (.iadda (.c a4) (.c (.int .i64 2)) 4 1) h198 fun a201 h202 =>
  vhOp PP (.ld (.c a201) 1 false) h202 fun a203 h204 =>
  vhOp PP (.conv .i32 (.c a203)) h204 fun a205 h206 =>
  vhOp PP (.conv .i32 (.c a181)) h206 fun a207 h208 =>
  vbin .mul a205 a207 fun a209 =>
  vbin .sub a200 a209 fun a210 =>
  vhOp PP (.iadda (.c a4) (.c (.int .i64 3)) 4 1) h208 fun a211 h212 =>
  vhOp PP (.ld (.c a211) 1 false) h212 fun a213 h214 =>
  vhOp PP (.conv .i32 (.c a213)) h214 fun a215 h216 =>
  vbin .add a210 a215 fun a217 =>
  vhOp PP (.ld (.c a75) 7 true) h216 fun a218 h219 =>
  ACall PP n_affine_Has [a218, (f164 14), a176, a181, a217] h219 fun a220 h221 =>
  vun .not a220 fun a222 =>
  vguard a222 false (fun G223 =>
  vhOp PP (.ld (.c a75) 7 true) h221 fun a226 h227 =>
  G223 a226 h227) h221 fun a224 h225 =>
  vguard a222 false (fun G228 =>
  G228 (f164 14) h225) h225 fun a229 h230 =>
  vguard a222 false (fun G231 =>
  G231 a176 h230) h230 fun a232 h233 =>
  vguard a222 false (fun G234 =>
  G234 a181 h233) h233 fun a235 h236 =>
  vguard a222 false (fun G237 =>
  G237 a217 h236) h236 fun a238 h239 =>
  vguard a222 false (fun G240 =>
  vbin .add a238 (.int .i32 1) fun a243 =>
  G240 a243 h239) h239 fun a241 h242 =>
  vguard a222 false (fun G244 =>
  ACall PP n_affine_Has [a224, a229, a232, a235, a241] h242 fun a247 h248 =>
  G244 a247 h248) h242 fun a245 h246 =>
  vhOp PP (.pick (.c a222) (.c (.bool true)) (.c a245)) h246 fun a249 h250 =>
  vcond a249 (K (.bool false) h250) (
  vbin .add (f164 14) (.int .i64 1) fun a251 =>
  keq [a4, a6, a12, a51, a75] [a4, a6, a12, a51, a75] ∧ ∃ m, m < n163 ∧ I162 m [a251] h250)) (
  keq [a4, a6, a75] [a4, a6, a75] ∧ J107 [] h169)
def V_law26_AffineSums_L1 (a19 : D) (h20 : Heap) (a4 : D) (a1 : D) (a6 : D) (a12 : D) (J21 : List D → Heap → Prop) : Prop :=
  ∃ (I252 : Nat → List D → Heap → Prop) (n₀ : Nat), I252 n₀ [a19, (.int .i64 0)] h20 ∧ ∀ (n253 : Nat) (f254 : Nat → D) (h255 : Heap), I252 n253 [f254 9, f254 10] h255 →
  vbin .lss (f254 10) (.int .i64 3) fun a256 =>
  vcond a256 (vbin .add (.int .i64 3) (f254 10) fun a257 =>
  vhOp PP (.iadda (.c a4) (.c (f254 10)) 4 1) h255 fun a258 h259 =>
  vhOp PP (.ld (.c a258) 1 false) h259 fun a260 h261 =>
  vhOp PP (.conv .i32 (.c a260)) h261 fun a262 h263 =>
  ACall PP n_ref05_Const [a262] h263 fun a264 h265 =>
  ACall PP n_ref05_Reg [(f254 10)] h265 fun a266 h267 =>
  ACall PP n_law26_bin [(.int .i64 12), a257, a264, a266] h267 fun a268 h269 =>
  vhOp PP (.bldS true 15 1 (.agg [(.int .i64 0), (.int .i64 0), (.int .i64 0), (.int .i64 0), (.int .i64 0), (.int .i32 0), (.int .i64 0), (.int .i64 0), (.int .i32 0), (.int .i64 0), (.int .i64 0), (.int .i32 0), (.int .i64 0), (.int .i64 0), (.int .i32 0)]) [(0, (.c a268))]) h269 fun a270 h271 =>
  vhOp PP (.app (.c (f254 9)) (.c a270) 15 120 (.agg [(.int .i64 0), (.int .i64 0), (.int .i64 0), (.int .i64 0), (.int .i64 0), (.int .i32 0), (.int .i64 0), (.int .i64 0), (.int .i32 0), (.int .i64 0), (.int .i64 0), (.int .i32 0), (.int .i64 0), (.int .i64 0), (.int .i32 0)])) h271 fun a272 h273 =>
  vbin .add (f254 10) (.int .i64 1) fun a274 =>
  keq [a1, a4, a6, a12] [a1, a4, a6, a12] ∧ ∃ m, m < n253 ∧ I252 m [a272, a274] h273) (
  keq [a1, a4, a6, a12] [a1, a4, a6, a12] ∧ J21 [(f254 9)] h255)
def V_law26_AffineSums (a0 : D) (a1 : D) (a2 : D) (h0 : Heap) (K : D → Heap → Prop) : Prop :=
  vhOp PP (.box (.c a0)) h0 fun a4 h5 =>
  ACall PP n_law26_examples [] h5 fun a6 h7 =>
  vun .not a6 fun a8 =>
  vcond a8 (K (.bool false) h7) (
  vbin .rem a2 (.int .u8 8) fun a9 =>
  vhOp PP (.conv .i64 (.c a9)) h7 fun a10 h11 =>
  vbin .add (.int .i64 1) a10 fun a12 =>
  ACall PP n_law26_id [(.int .i64 0), (.int .i64 1)] h11 fun a13 h14 =>
  ACall PP n_law26_id [(.int .i64 1), (.int .i64 2)] h14 fun a15 h16 =>
  ACall PP n_law26_id [(.int .i64 2), (.int .i64 3)] h16 fun a17 h18 =>
  vhOp PP (.bldS true 15 3 (.agg [(.int .i64 0), (.int .i64 0), (.int .i64 0), (.int .i64 0), (.int .i64 0), (.int .i32 0), (.int .i64 0), (.int .i64 0), (.int .i32 0), (.int .i64 0), (.int .i64 0), (.int .i32 0), (.int .i64 0), (.int .i64 0), (.int .i32 0)]) [(0, (.c a13)), (1, (.c a15)), (2, (.c a17))]) h18 fun a19 h20 =>
  ∃ (J21 : List D → Heap → Prop), (∀ (f22 : Nat → D) (h23 : Heap), J21 [f22 9] h23 →
  vdOp PP (.call n_ref05_Reg [(.c (.int .i64 3))]) h23 fun a24 =>
  vdOp PP (.iadda (.c a4) (.c (.int .i64 3)) 4 1) h23 fun a25 =>
  vdOp PP (.ld (.c a25) 1 false) h23 fun a26 =>
  vdOp PP (.conv .i32 (.c a26)) h23 fun a27 =>
  vdOp PP (.call n_ref05_Const [(.c a27)]) h23 fun a28 =>
  vdOp PP (.call n_law26_bin [(.c (.int .i64 10)), (.c (.int .i64 6)), (.c a24), (.c a28)]) h23 fun a29 =>
  vdOp PP (.call n_ref05_Reg [(.c (.int .i64 6))]) h23 fun a30 =>
  vdOp PP (.call n_ref05_Reg [(.c (.int .i64 4))]) h23 fun a31 =>
  vdOp PP (.call n_law26_bin [(.c (.int .i64 10)), (.c (.int .i64 6)), (.c a30), (.c a31)]) h23 fun a32 =>
  vdOp PP (.call n_ref05_Reg [(.c (.int .i64 6))]) h23 fun a33 =>
  vdOp PP (.call n_ref05_Reg [(.c (.int .i64 5))]) h23 fun a34 =>
  vdOp PP (.call n_law26_bin [(.c (.int .i64 11)), (.c (.int .i64 6)), (.c a33), (.c a34)]) h23 fun a35 =>
  vdOp PP (.bldS false 15 3 (.agg [(.int .i64 0), (.int .i64 0), (.int .i64 0), (.int .i64 0), (.int .i64 0), (.int .i32 0), (.int .i64 0), (.int .i64 0), (.int .i32 0), (.int .i64 0), (.int .i64 0), (.int .i32 0), (.int .i64 0), (.int .i64 0), (.int .i32 0)]) [(0, (.c a29)), (1, (.c a32)), (2, (.c a35))]) h23 fun a36 =>
  vhOp PP (.app (.c (f22 9)) (.c a36) 15 120 (.agg [(.int .i64 0), (.int .i64 0), (.int .i64 0), (.int .i64 0), (.int .i64 0), (.int .i32 0), (.int .i64 0), (.int .i64 0), (.int .i32 0), (.int .i64 0), (.int .i64 0), (.int .i32 0), (.int .i64 0), (.int .i64 0), (.int .i32 0)])) h23 fun a37 h38 =>
  vbin .rem a1 (.int .u8 16) fun a39 =>
  vhOp PP (.conv .i64 (.c a39)) h38 fun a40 h41 =>
  vbin .add (.int .i64 1) a40 fun a42 =>
  vhOp PP (.bld [(.int .i64 0), (.int .i64 0), (.int .i64 0), (.int .i64 0), (.int .i32 0), (.int .i64 0), (.int .i64 0), (.int .i32 0), (.int .i64 0), (.int .i64 0), (.int .i32 0), (.int .i64 0), (.int .i64 0)] [(0, 1, (.c (.int .i64 5)))]) h41 fun a43 h44 =>
  vhOp PP (.bld [.nil, (.int .i64 0), (.int .i64 0), (.int .i64 0), (.int .i64 0), (.int .i32 0), (.int .i64 0), (.int .i64 0), (.int .i32 0), (.int .i64 0), (.int .i64 0), (.int .i32 0), (.int .i64 0), (.int .i64 0)] [(0, 1, (.c a37)), (1, 13, (.c a43))]) h44 fun a45 h46 =>
  vhOp PP (.bldS true 14 1 (.agg [.nil, (.int .i64 0), (.int .i64 0), (.int .i64 0), (.int .i64 0), (.int .i32 0), (.int .i64 0), (.int .i64 0), (.int .i32 0), (.int .i64 0), (.int .i64 0), (.int .i32 0), (.int .i64 0), (.int .i64 0)]) [(0, (.c a45))]) h46 fun a47 h48 =>
  vhOp PP (.bld [(.int .i64 0), (.int .i64 0), (.int .i64 0), (.int .i64 0), (.int .i64 0), .nil, .nil, .nil] [(0, 1, (.c a42)), (1, 1, (.c (.int .i64 1))), (2, 1, (.c (.int .i64 7))), (7, 1, (.c a47))]) h48 fun a49 h50 =>
  vhOp PP (.alloc (.agg [(.int .i64 0), (.int .i64 0), (.int .i64 0), (.int .i64 0), (.int .i64 0), .nil, .nil, .nil])) h50 fun a51 h52 =>
  vhOp PP (.st (.c a51) (.c a49) 8) h52 fun a53 h54 =>
  vhOp PP (.ld (.c a51) 8 true) h54 fun a55 h56 =>
  ACall PP n_affine_Find [a55, a12] h56 fun a57 h58 =>
  vhOp PP (.alloc (.agg [.nil])) h58 fun a59 h60 =>
  vhOp PP (.st (.c a59) (.c a57) 1) h60 fun a61 h62 =>
  vhOp PP (.ld (.c a51) 8 true) h62 fun a63 h64 =>
  vhOp PP (.ld (.c a59) 1 true) h64 fun a65 h66 =>
  ACall PP n_affine_Check [a63, a12, a65] h66 fun a67 h68 =>
  vbin .neq a67 (.int .i64 0) fun a69 =>
  vcond a69 (K (.bool false) h68) (
  vdOp PP (.ld (.c a51) 8 true) h68 fun a70 =>
  vdOp PP (.ld (.c a59) 1 true) h68 fun a71 =>
  vlen a37 h68 fun a72 =>
  vdOp PP (.call n_ref05_Reg [(.c (.int .i64 6))]) h68 fun a73 =>
  vdOp PP (.call n_affine_At [(.c a70), (.c a12), (.c a71), (.c (.int .i64 0)), (.c a72), (.c a73)]) h68 fun a74 =>
  vhOp PP (.alloc (.agg [(.bool false), (.int .i64 0), (.int .i64 0), (.int .i64 0), (.int .i64 0), (.int .i64 0), (.int .i64 0)])) h68 fun a75 h76 =>
  vhOp PP (.st (.c a75) (.c a74) 7) h76 fun a77 h78 =>
  vhOp PP (.fadd (.c a75) 0) h78 fun a79 h80 =>
  vhOp PP (.ld (.c a79) 1 false) h80 fun a81 h82 =>
  vguard a81 false (fun G83 =>
  vhOp PP (.ld (.c a51) 8 true) h82 fun a86 h87 =>
  G83 a86 h87) h82 fun a84 h85 =>
  vguard a81 false (fun G88 =>
  G88 a12 h85) h85 fun a89 h90 =>
  vguard a81 false (fun G91 =>
  vhOp PP (.ld (.c a75) 7 true) h90 fun a94 h95 =>
  G91 a94 h95) h90 fun a92 h93 =>
  vguard a81 false (fun G96 =>
  ACall PP n_ref26_Valid [a84, a89, a92] h93 fun a99 h100 =>
  G96 a99 h100) h93 fun a97 h98 =>
  vguard a81 false (fun G101 =>
  vun .not a97 fun a104 =>
  G101 a104 h98) h98 fun a102 h103 =>
  vhOp PP (.pick (.c a81) (.c (.bool true)) (.c a102)) h103 fun a105 h106 =>
  vcond a105 (K (.bool false) h106) (
  ∃ (J107 : List D → Heap → Prop), (∀ (f108 : Nat → D) (h109 : Heap), J107 [] h109 →
  vguard a6 true (fun G110 =>
  vhOp PP (.fadd (.c a75) 4) h109 fun a113 h114 =>
  G110 a113 h114) h109 fun a111 h112 =>
  vguard a6 true (fun G115 =>
  vhOp PP (.ld (.c a111) 3 true) h112 fun a118 h119 =>
  G115 a118 h119) h112 fun a116 h117 =>
  vguard a6 true (fun G120 =>
  vhOp PP (.iadda (.c a4) (.c (.int .i64 3)) 4 1) h117 fun a123 h124 =>
  G120 a123 h124) h117 fun a121 h122 =>
  vguard a6 true (fun G125 =>
  vhOp PP (.ld (.c a121) 1 false) h122 fun a128 h129 =>
  G125 a128 h129) h122 fun a126 h127 =>
  vguard a6 true (fun G130 =>
  vhOp PP (.conv .i64 (.c a126)) h127 fun a133 h134 =>
  G130 a133 h134) h127 fun a131 h132 =>
  vguard a6 true (fun G135 =>
  vhOp PP (.iadda (.c a4) (.c (.int .i64 3)) 4 1) h132 fun a138 h139 =>
  G135 a138 h139) h132 fun a136 h137 =>
  vguard a6 true (fun G140 =>
  vhOp PP (.ld (.c a136) 1 false) h137 fun a143 h144 =>
  G140 a143 h144) h137 fun a141 h142 =>
  vguard a6 true (fun G145 =>
  vhOp PP (.conv .i64 (.c a141)) h142 fun a148 h149 =>
  G145 a148 h149) h142 fun a146 h147 =>
  vguard a6 true (fun G150 =>
  vhOp PP (.bld [(.int .i64 0), (.int .i64 0), (.int .i64 0)] [(0, 1, (.c a131)), (1, 1, (.c a146))]) h147 fun a153 h154 =>
  G150 a153 h154) h147 fun a151 h152 =>
  vguard a6 true (fun G155 =>
  vhOp PP (.eqv false true [.i, .i, .i] (.c a116) (.c a151)) h152 fun a158 h159 =>
  G155 a158 h159) h152 fun a156 h157 =>
  vhOp PP (.pick (.c a6) (.c a156) (.c (.bool false))) h157 fun a160 h161 =>
  K a160 h161) ∧
  V_law26_AffineSums_L0 h106 a51 a12 a4 a75 a6 J107 K))) ∧
  V_law26_AffineSums_L1 a19 h20 a4 a1 a6 a12 J21)
theorem V_law26_AffineSums_ok (a0 : D) (a1 : D) (a2 : D) (h0 : Heap) (K : D → Heap → Prop) : V_law26_AffineSums a0 a1 a2 h0 K = vcC PP F_law26_AffineSums.code (fun x e h' => match x with | .exit _ => False | _ => vcRet PP F_law26_AffineSums.res K e h') (params [a0, a1, a2] 0) h0 := by kernel_rfl


end Go.Am
/- The text of affine_Check, as a program of ours printed it; checked. No condition. -/
set_option linter.unusedVariables false
namespace Go.Am
open Go Go.Proofs


def V_affine_Check_L0 (h93 : Heap) (a94 : D) (a92 : D) (a12 : D) (a87 : D) (f54 : Nat → D) (a6 : D) (a49 : D) (a51 : D) (J57 : List D → Heap → Prop) (K : D → Heap → Prop) : Prop :=
  ∃ (I95 : Nat → List D → Heap → Prop) (n₀ : Nat), I95 n₀ [(.int .i64 0)] h93 ∧ ∀ (n96 : Nat) (f97 : Nat → D) (h98 : Heap), I95 n96 [f97 92] h98 →
  vbin .lss (f97 92) a94 fun a99 =>
  vcond a99 (vhOp PP (.iadd (.c a92) (.c (f97 92)) 1) h98 fun a100 h101 =>
  vhOp PP (.ld (.c a100) 1 false) h101 fun a102 h103 =>
  vhOp PP (.ld (.c a12) 9 true) h103 fun a104 h105 =>
  ACall PP n_affine_space_along [a104, a87, (f54 65), (f97 92)] h105 fun a106 h107 =>
  vhOp PP (.ext (.c a106) 0) h107 fun a108 h109 =>
  vhOp PP (.ext (.c a106) 1) h109 fun a110 h111 =>
  vguard1 a110 true (fun G112 =>
  vdOp PP (.ld (.c a12) 9 true) h111 fun a154 =>
  G112 a154) fun a113 =>
  vguard1 a110 true (fun G116 =>
  vdOp PP (.fadd (.c a6) 0) h111 fun a153 =>
  G116 a153) fun a117 =>
  vguard1 a110 true (fun G120 =>
  vdOp PP (.ld (.c a117) 1 false) h111 fun a152 =>
  G120 a152) fun a121 =>
  vguard1 a110 true (fun G124 =>
  G124 a102) fun a125 =>
  vguard1 a110 true (fun G127 =>
  vdOp PP (.iadd (.c a121) (.c a125) 1) h111 fun a151 =>
  G127 a151) fun a128 =>
  vguard1 a110 true (fun G131 =>
  vdOp PP (.ld (.c a128) 1 false) h111 fun a150 =>
  G131 a150) fun a132 =>
  vguard1 a110 true (fun G135 =>
  G135 a108) fun a136 =>
  vguard1 a110 true (fun G138 =>
  vdOp PP (.call n_affine_space_contains [(.c a113), (.c a132), (.c a136)]) h111 fun a149 =>
  G138 a149) fun a139 =>
  vguard1 a110 true (fun G142 =>
  vun .not a139 fun a148 =>
  G142 a148) fun a143 =>
  vdOp PP (.pick (.c a110) (.c a143) (.c (.bool false))) h111 fun a146 =>
  vcond a146 (K (.int .i64 100) h111) (
  vbin .add (f97 92) (.int .i64 1) fun a147 =>
  keq [a6, a12, (f54 65), a87, a49, a51, (f54 65), a92, a94] [a6, a12, (f54 65), a87, a49, a51, (f54 65), a92, a94] ∧ ∃ m, m < n96 ∧ I95 m [a147] h111)) (
  keq [a6, a12, a49, a51, (f54 65)] [a6, a12, a49, a51, (f54 65)] ∧ J57 [] h98)
def V_affine_Check_L1 (h50 : Heap) (a51 : D) (a6 : D) (a12 : D) (a49 : D) (J44 : List D → Heap → Prop) (K : D → Heap → Prop) : Prop :=
  ∃ (I52 : Nat → List D → Heap → Prop) (n₀ : Nat), I52 n₀ [(.int .i64 0)] h50 ∧ ∀ (n53 : Nat) (f54 : Nat → D) (h55 : Heap), I52 n53 [f54 65] h55 →
  vbin .lss (f54 65) a51 fun a56 =>
  vcond a56 (∃ (J57 : List D → Heap → Prop), (∀ (f58 : Nat → D) (h59 : Heap), J57 [] h59 →
  vbin .add (f54 65) (.int .i64 1) fun a60 =>
  keq [a6, a12, a49, a51] [a6, a12, a49, a51] ∧ ∃ m, m < n53 ∧ I52 m [a60] h59) ∧
  vhOp PP (.iadd (.c a49) (.c (f54 65)) 14) h55 fun a61 h62 =>
  vhOp PP (.ld (.c a61) 14 true) h62 fun a63 h64 =>
  vhOp PP (.alloc (.agg [.nil, (.int .i64 0), (.int .i64 0), (.int .i64 0), (.int .i64 0), (.int .i32 0), (.int .i64 0), (.int .i64 0), (.int .i32 0), (.int .i64 0), (.int .i64 0), (.int .i32 0), (.int .i64 0), (.int .i64 0)])) h64 fun a65 h66 =>
  vhOp PP (.st (.c a65) (.c a63) 14) h66 fun a67 h68 =>
  vhOp PP (.fadd (.c a6) 0) h68 fun a69 h70 =>
  vhOp PP (.ld (.c a69) 1 false) h70 fun a71 h72 =>
  vhOp PP (.iadd (.c a71) (.c (f54 65)) 1) h72 fun a73 h74 =>
  vhOp PP (.ld (.c a73) 1 false) h74 fun a75 h76 =>
  vlen a75 h76 fun a77 =>
  vbin .eql a77 (.int .i64 0) fun a78 =>
  vcond a78 (keq [a6, a12, a49, a51, (f54 65)] [a6, a12, a49, a51, (f54 65)] ∧ J57 [] h76) (
  vdOp PP (.ld (.c a12) 9 true) h76 fun a79 =>
  vdOp PP (.fadd (.c a6) 0) h76 fun a80 =>
  vdOp PP (.ld (.c a80) 1 false) h76 fun a81 =>
  vdOp PP (.iadd (.c a81) (.c (f54 65)) 1) h76 fun a82 =>
  vdOp PP (.ld (.c a82) 1 false) h76 fun a83 =>
  vdOp PP (.fadd (.c a65) 0) h76 fun a84 =>
  vdOp PP (.ld (.c a84) 1 false) h76 fun a85 =>
  vlen a85 h76 fun a86 =>
  vdOp PP (.call n_affine_space_after [(.c a79), (.c a83), (.c (f54 65)), (.c a86)]) h76 fun a87 =>
  vhOp PP (.fadd (.c a65) 1) h76 fun a88 h89 =>
  vhOp PP (.ld (.c a88) 13 true) h89 fun a90 h91 =>
  ACall PP n_code_Succ [a90] h91 fun a92 h93 =>
  vlen a92 h93 fun a94 =>
  V_affine_Check_L0 h93 a94 a92 a12 a87 f54 a6 a49 a51 J57 K)) (
  keq [] [] ∧ J44 [] h55)
def V_affine_Check_L2 (h158 : Heap) (a159 : D) (a157 : D) (a4 : D) (a12 : D) (a6 : D) (J27 : List D → Heap → Prop) (K : D → Heap → Prop) : Prop :=
  ∃ (I160 : Nat → List D → Heap → Prop) (n₀ : Nat), I160 n₀ [(.int .i64 0)] h158 ∧ ∀ (n161 : Nat) (f162 : Nat → D) (h163 : Heap), I160 n161 [f162 30] h163 →
  vbin .lss (f162 30) a159 fun a164 =>
  vcond a164 (vhOp PP (.iadd (.c a157) (.c (f162 30)) 1) h163 fun a165 h166 =>
  vhOp PP (.ld (.c a165) 1 false) h166 fun a167 h168 =>
  vlen a167 h168 fun a169 =>
  vbin .neq a169 (.int .i64 0) fun a170 =>
  vguard a170 true (fun G171 =>
  G171 a167 h168) h168 fun a172 h173 =>
  vguard a170 true (fun G174 =>
  vlen a172 h173 fun a177 =>
  G174 a177 h173) h173 fun a175 h176 =>
  vguard a170 true (fun G178 =>
  vhOp PP (.fadd (.c a4) 2) h176 fun a181 h182 =>
  G178 a181 h182) h176 fun a179 h180 =>
  vguard a170 true (fun G183 =>
  vhOp PP (.ld (.c a179) 1 false) h180 fun a186 h187 =>
  G183 a186 h187) h180 fun a184 h185 =>
  vguard a170 true (fun G188 =>
  vbin .neq a175 a184 fun a191 =>
  G188 a191 h185) h185 fun a189 h190 =>
  vhOp PP (.pick (.c a170) (.c a189) (.c (.bool false))) h190 fun a192 h193 =>
  vguard a192 false (fun G194 =>
  G194 a167 h193) h193 fun a195 h196 =>
  vguard a192 false (fun G197 =>
  vhOp PP (.mkf n_affine_Check_F1 [] [(.c a12)]) h196 fun a200 h201 =>
  G197 a200 h201) h196 fun a198 h199 =>
  vguard a192 false (fun G202 =>
  ACall PP n_slices_ContainsFunc_sapi_Form_api_Form [a195, a198] h199 fun a205 h206 =>
  G202 a205 h206) h199 fun a203 h204 =>
  vhOp PP (.pick (.c a192) (.c (.bool true)) (.c a203)) h204 fun a207 h208 =>
  vcond a207 (K (.int .i64 100) h208) (
  vbin .add (f162 30) (.int .i64 1) fun a209 =>
  keq [a4, a6, a12, a157, a159] [a4, a6, a12, a157, a159] ∧ ∃ m, m < n161 ∧ I160 m [a209] h208)) (
  keq [a4, a6, a12] [a4, a6, a12] ∧ J27 [] h163)
def V_affine_Check (a0 : D) (a1 : D) (a2 : D) (h0 : Heap) (K : D → Heap → Prop) : Prop :=
  vhOp PP (.box (.c a0)) h0 fun a4 h5 =>
  vhOp PP (.box (.c a2)) h5 fun a6 h7 =>
  vhOp PP (.ld (.c a4) 8 true) h7 fun a8 h9 =>
  vhOp PP (.bld [(.int .i64 0), (.int .i64 0), (.int .i64 0), (.int .i64 0), (.int .i64 0), .nil, .nil, .nil, (.int .i64 0)] [(0, 8, (.c a8)), (8, 1, (.c a1))]) h9 fun a10 h11 =>
  vhOp PP (.alloc (.agg [(.int .i64 0), (.int .i64 0), (.int .i64 0), (.int .i64 0), (.int .i64 0), .nil, .nil, .nil, (.int .i64 0)])) h11 fun a12 h13 =>
  vhOp PP (.st (.c a12) (.c a10) 9) h13 fun a14 h15 =>
  vhOp PP (.fadd (.c a6) 0) h15 fun a16 h17 =>
  vhOp PP (.ld (.c a16) 1 false) h17 fun a18 h19 =>
  vlen a18 h19 fun a20 =>
  vhOp PP (.fadd (.c a4) 7) h19 fun a21 h22 =>
  vhOp PP (.ld (.c a21) 1 false) h22 fun a23 h24 =>
  vlen a23 h24 fun a25 =>
  vbin .neq a20 a25 fun a26 =>
  vcond a26 (K (.int .i64 100) h24) (
  ∃ (J27 : List D → Heap → Prop), (∀ (f28 : Nat → D) (h29 : Heap), J27 [] h29 →
  vhOp PP (.fadd (.c a4) 2) h29 fun a30 h31 =>
  vhOp PP (.ld (.c a30) 1 false) h31 fun a32 h33 =>
  vbin .eql a32 (.int .i64 0) fun a34 =>
  vcond a34 (K (.int .i64 0) h33) (
  vdOp PP (.ld (.c a12) 9 true) h33 fun a35 =>
  vdOp PP (.fadd (.c a6) 0) h33 fun a36 =>
  vdOp PP (.ld (.c a36) 1 false) h33 fun a37 =>
  vdOp PP (.iadd (.c a37) (.c (.int .i64 0)) 1) h33 fun a38 =>
  vdOp PP (.ld (.c a38) 1 false) h33 fun a39 =>
  vdOp PP (.ld (.c a12) 9 true) h33 fun a40 =>
  vdOp PP (.call n_affine_space_zeros [(.c a40)]) h33 fun a41 =>
  vdOp PP (.call n_affine_space_contains [(.c a35), (.c a39), (.c a41)]) h33 fun a42 =>
  vun .not a42 fun a43 =>
  vcond a43 (K (.int .i64 100) h33) (
  ∃ (J44 : List D → Heap → Prop), (∀ (f45 : Nat → D) (h46 : Heap), J44 [] h46 →
  K (.int .i64 0) h46) ∧
  vhOp PP (.fadd (.c a4) 7) h33 fun a47 h48 =>
  vhOp PP (.ld (.c a47) 1 false) h48 fun a49 h50 =>
  vlen a49 h50 fun a51 =>
  V_affine_Check_L1 h50 a51 a6 a12 a49 J44 K))) ∧
  vhOp PP (.fadd (.c a6) 0) h24 fun a155 h156 =>
  vhOp PP (.ld (.c a155) 1 false) h156 fun a157 h158 =>
  vlen a157 h158 fun a159 =>
  V_affine_Check_L2 h158 a159 a157 a4 a12 a6 J27 K)
theorem V_affine_Check_ok (a0 : D) (a1 : D) (a2 : D) (h0 : Heap) (K : D → Heap → Prop) : V_affine_Check a0 a1 a2 h0 K = vcC PP F_affine_Check.code (fun x e h' => match x with | .exit _ => False | _ => vcRet PP F_affine_Check.res K e h') (params [a0, a1, a2] 0) h0 := by kernel_rfl




end Go.Am
/- The text of affine_Find, as a program of ours printed it; checked. No condition. -/
set_option linter.unusedVariables false
namespace Go.Am
open Go Go.Proofs


def V_affine_Find_L0 (f72 : Nat → D) (h106 : Heap) (a107 : D) (a3 : D) (a5 : D) (a11 : D) (a24 : D) (a33 : D) (f59 : Nat → D) (a100 : D) (a67 : D) (a69 : D) (a105 : D) (J75 : List D → Heap → Prop) : Prop :=
  ∃ (I108 : Nat → List D → Heap → Prop) (n₀ : Nat), I108 n₀ [(f72 9), (.int .i64 0)] h106 ∧ ∀ (n109 : Nat) (f110 : Nat → D) (h111 : Heap), I108 n109 [f110 9, f110 69] h111 →
  vbin .lss (f110 69) a107 fun a112 =>
  vcond a112 (∃ (J113 : List D → Heap → Prop), (∀ (f114 : Nat → D) (h115 : Heap), J113 [f114 9] h115 →
  vbin .add (f110 69) (.int .i64 1) fun a116 =>
  keq [a3, a5, a11, a24, a33, (f59 8), (f72 44), a100, a67, a69, (f72 44), a105, a107] [a3, a5, a11, a24, a33, (f59 8), (f72 44), a100, a67, a69, (f72 44), a105, a107] ∧ ∃ m, m < n109 ∧ I108 m [(f114 9), a116] h115) ∧
  vhOp PP (.iadd (.c a105) (.c (f110 69)) 1) h111 fun a117 h118 =>
  vhOp PP (.ld (.c a117) 1 false) h118 fun a119 h120 =>
  vhOp PP (.ld (.c a11) 9 true) h120 fun a121 h122 =>
  ACall PP n_affine_space_along [a121, a100, (f72 44), (f110 69)] h122 fun a123 h124 =>
  vhOp PP (.ext (.c a123) 0) h124 fun a125 h126 =>
  vhOp PP (.ext (.c a123) 1) h126 fun a127 h128 =>
  vun .not a127 fun a129 =>
  vcond a129 (keq [a3, a5, a11, a24, a33, (f59 8), (f72 44), a100, a67, a69, (f72 44), a105, a107, (f110 69)] [a3, a5, a11, a24, a33, (f59 8), (f72 44), a100, a67, a69, (f72 44), a105, a107, (f110 69)] ∧ J113 [(f110 9)] h128) (
  vhOp PP (.iadd (.c a33) (.c a119) 1) h128 fun a130 h131 =>
  vhOp PP (.ld (.c a130) 1 false) h131 fun a132 h133 =>
  vun .not a132 fun a134 =>
  vcond a134 (vdOp PP (.fadd (.c a24) 0) h133 fun a135 =>
  vdOp PP (.ld (.c a135) 1 false) h133 fun a136 =>
  vdOp PP (.ld (.c a11) 9 true) h133 fun a137 =>
  vdOp PP (.call n_affine_space_begin [(.c a137), (.c a125), (.c a119)]) h133 fun a138 =>
  vdOp PP (.iadd (.c a136) (.c a119) 1) h133 fun a139 =>
  vdOp PP (.iadd (.c a33) (.c a119) 1) h133 fun a140 =>
  vhOp PP (.st (.c a139) (.c a138) 1) h133 fun a141 h142 =>
  ((vdOp PP (.iadd (.c a33) (.c a119) 1) h142 fun a143 => keq [a143] [a140]) ∧ True) ∧
  vhOp PP (.st (.c a140) (.c (.bool true)) 1) h142 fun a144 h145 =>
  ((vdOp PP (.iadd (.c a33) (.c a119) 1) h145 fun a146 => keq [a146] [a140]) ∧ True) ∧
  keq [a3, a5, a11, a24, a33, (f59 8), (f72 44), a100, a67, a69, (f72 44), a105, a107, (f110 69)] [a3, a5, a11, a24, a33, (f59 8), (f72 44), a100, a67, a69, (f72 44), a105, a107, (f110 69)] ∧ J113 [(.bool true)] h145) (
  vdOp PP (.ld (.c a11) 9 true) h133 fun a147 =>
  vdOp PP (.fadd (.c a24) 0) h133 fun a148 =>
  vdOp PP (.ld (.c a148) 1 false) h133 fun a149 =>
  vdOp PP (.iadd (.c a149) (.c a119) 1) h133 fun a150 =>
  vdOp PP (.ld (.c a150) 1 false) h133 fun a151 =>
  vdOp PP (.call n_affine_space_pass [(.c a147), (.c a125), (.c a151), (.c (f59 8))]) h133 fun a152 =>
  vcond a152 (keq [a3, a5, a11, a24, a33, (f59 8), (f72 44), a100, a67, a69, (f72 44), a105, a107, (f110 69)] [a3, a5, a11, a24, a33, (f59 8), (f72 44), a100, a67, a69, (f72 44), a105, a107, (f110 69)] ∧ J113 [(.bool true)] h133) (
  keq [a3, a5, a11, a24, a33, (f59 8), (f72 44), a100, a67, a69, (f72 44), a105, a107, (f110 69)] [a3, a5, a11, a24, a33, (f59 8), (f72 44), a100, a67, a69, (f72 44), a105, a107, (f110 69)] ∧ J113 [(f110 9)] h133)))) (
  keq [a3, a5, a11, a24, a33, (f59 8), a67, a69, (f72 44)] [a3, a5, a11, a24, a33, (f59 8), a67, a69, (f72 44)] ∧ J75 [(f110 9)] h111)
def V_affine_Find_L1 (h68 : Heap) (a69 : D) (a3 : D) (a5 : D) (a11 : D) (a24 : D) (a33 : D) (f59 : Nat → D) (a67 : D) (J61 : List D → Heap → Prop) : Prop :=
  ∃ (I70 : Nat → List D → Heap → Prop) (n₀ : Nat), I70 n₀ [(.bool false), (.int .i64 0)] h68 ∧ ∀ (n71 : Nat) (f72 : Nat → D) (h73 : Heap), I70 n71 [f72 9, f72 44] h73 →
  vbin .lss (f72 44) a69 fun a74 =>
  vcond a74 (∃ (J75 : List D → Heap → Prop), (∀ (f76 : Nat → D) (h77 : Heap), J75 [f76 9] h77 →
  vbin .add (f72 44) (.int .i64 1) fun a78 =>
  keq [a3, a5, a11, a24, a33, (f59 8), a67, a69] [a3, a5, a11, a24, a33, (f59 8), a67, a69] ∧ ∃ m, m < n71 ∧ I70 m [(f76 9), a78] h77) ∧
  vhOp PP (.iadd (.c a67) (.c (f72 44)) 14) h73 fun a79 h80 =>
  vhOp PP (.ld (.c a79) 14 true) h80 fun a81 h82 =>
  vhOp PP (.alloc (.agg [.nil, (.int .i64 0), (.int .i64 0), (.int .i64 0), (.int .i64 0), (.int .i32 0), (.int .i64 0), (.int .i64 0), (.int .i32 0), (.int .i64 0), (.int .i64 0), (.int .i32 0), (.int .i64 0), (.int .i64 0)])) h82 fun a83 h84 =>
  vhOp PP (.st (.c a83) (.c a81) 14) h84 fun a85 h86 =>
  vhOp PP (.iadd (.c a33) (.c (f72 44)) 1) h86 fun a87 h88 =>
  vhOp PP (.ld (.c a87) 1 false) h88 fun a89 h90 =>
  vun .not a89 fun a91 =>
  vcond a91 (keq [a3, a5, a11, a24, a33, (f59 8), a67, a69, (f72 44)] [a3, a5, a11, a24, a33, (f59 8), a67, a69, (f72 44)] ∧ J75 [(f72 9)] h90) (
  vdOp PP (.ld (.c a11) 9 true) h90 fun a92 =>
  vdOp PP (.fadd (.c a24) 0) h90 fun a93 =>
  vdOp PP (.ld (.c a93) 1 false) h90 fun a94 =>
  vdOp PP (.iadd (.c a94) (.c (f72 44)) 1) h90 fun a95 =>
  vdOp PP (.ld (.c a95) 1 false) h90 fun a96 =>
  vdOp PP (.fadd (.c a83) 0) h90 fun a97 =>
  vdOp PP (.ld (.c a97) 1 false) h90 fun a98 =>
  vlen a98 h90 fun a99 =>
  vdOp PP (.call n_affine_space_after [(.c a92), (.c a96), (.c (f72 44)), (.c a99)]) h90 fun a100 =>
  vhOp PP (.fadd (.c a83) 1) h90 fun a101 h102 =>
  vhOp PP (.ld (.c a101) 13 true) h102 fun a103 h104 =>
  ACall PP n_code_Succ [a103] h104 fun a105 h106 =>
  vlen a105 h106 fun a107 =>
  V_affine_Find_L0 f72 h106 a107 a3 a5 a11 a24 a33 f59 a100 a67 a69 a105 J75)) (
  keq [a3, a5, a11, a24, a33, (f59 8)] [a3, a5, a11, a24, a33, (f59 8)] ∧ J61 [(f72 9)] h73)
def V_affine_Find_L2 (h47 : Heap) (a3 : D) (a5 : D) (a11 : D) (a24 : D) (a33 : D) (J49 : List D → Heap → Prop) : Prop :=
  ∃ (I57 : Nat → List D → Heap → Prop) (n₀ : Nat), I57 n₀ [(.int .i64 1), (.bool true)] h47 ∧ ∀ (n58 : Nat) (f59 : Nat → D) (h60 : Heap), I57 n58 [f59 8, f59 9] h60 →
  vcond (f59 9) (∃ (J61 : List D → Heap → Prop), (∀ (f62 : Nat → D) (h63 : Heap), J61 [f62 9] h63 →
  vbin .add (f59 8) (.int .i64 1) fun a64 =>
  keq [a3, a5, a11, a24, a33] [a3, a5, a11, a24, a33] ∧ ∃ m, m < n58 ∧ I57 m [a64, (f62 9)] h63) ∧
  vhOp PP (.fadd (.c a3) 7) h60 fun a65 h66 =>
  vhOp PP (.ld (.c a65) 1 false) h66 fun a67 h68 =>
  vlen a67 h68 fun a69 =>
  V_affine_Find_L1 h68 a69 a3 a5 a11 a24 a33 f59 a67 J61) (
  keq [a5, a24] [a5, a24] ∧ J49 [] h60)
def V_affine_Find (a0 : D) (a1 : D) (h0 : Heap) (K : D → Heap → Prop) : Prop :=
  vhOp PP (.box (.c a0)) h0 fun a3 h4 =>
  vhOp PP (.alloc (.agg [.nil])) h4 fun a5 h6 =>
  vhOp PP (.ld (.c a3) 8 true) h6 fun a7 h8 =>
  vhOp PP (.bld [(.int .i64 0), (.int .i64 0), (.int .i64 0), (.int .i64 0), (.int .i64 0), .nil, .nil, .nil, (.int .i64 0)] [(0, 8, (.c a7)), (8, 1, (.c a1))]) h8 fun a9 h10 =>
  vhOp PP (.alloc (.agg [(.int .i64 0), (.int .i64 0), (.int .i64 0), (.int .i64 0), (.int .i64 0), .nil, .nil, .nil, (.int .i64 0)])) h10 fun a11 h12 =>
  vhOp PP (.st (.c a11) (.c a9) 9) h12 fun a13 h14 =>
  vhOp PP (.fadd (.c a3) 7) h14 fun a15 h16 =>
  vhOp PP (.ld (.c a15) 1 false) h16 fun a17 h18 =>
  vlen a17 h18 fun a19 =>
  vhOp PP (.mk 1 24 .nil (.c a19) (.c a19)) h18 fun a20 h21 =>
  vhOp PP (.bld [.nil] [(0, 1, (.c a20))]) h21 fun a22 h23 =>
  vhOp PP (.alloc (.agg [.nil])) h23 fun a24 h25 =>
  vhOp PP (.st (.c a24) (.c a22) 1) h25 fun a26 h27 =>
  vhOp PP (.fadd (.c a3) 7) h27 fun a28 h29 =>
  vhOp PP (.ld (.c a28) 1 false) h29 fun a30 h31 =>
  vlen a30 h31 fun a32 =>
  vhOp PP (.mk 1 1 (.bool false) (.c a32) (.c a32)) h31 fun a33 h34 =>
  vdOp PP (.fadd (.c a24) 0) h34 fun a35 =>
  vdOp PP (.ld (.c a35) 1 false) h34 fun a36 =>
  vdOp PP (.ld (.c a11) 9 true) h34 fun a37 =>
  vdOp PP (.ld (.c a11) 9 true) h34 fun a38 =>
  vdOp PP (.call n_affine_space_zeros [(.c a38)]) h34 fun a39 =>
  vdOp PP (.call n_affine_space_begin [(.c a37), (.c a39), (.c (.int .i64 0))]) h34 fun a40 =>
  vdOp PP (.iadd (.c a36) (.c (.int .i64 0)) 1) h34 fun a41 =>
  vdOp PP (.iadd (.c a33) (.c (.int .i64 0)) 1) h34 fun a42 =>
  vhOp PP (.st (.c a41) (.c a40) 1) h34 fun a43 h44 =>
  ((vdOp PP (.iadd (.c a33) (.c (.int .i64 0)) 1) h44 fun a45 => keq [a45] [a42]) ∧ True) ∧
  vhOp PP (.st (.c a42) (.c (.bool true)) 1) h44 fun a46 h47 =>
  ((vdOp PP (.iadd (.c a33) (.c (.int .i64 0)) 1) h47 fun a48 => keq [a48] [a42]) ∧ True) ∧
  ∃ (J49 : List D → Heap → Prop), (∀ (f50 : Nat → D) (h51 : Heap), J49 [] h51 →
  vhOp PP (.ld (.c a24) 1 true) h51 fun a52 h53 =>
  vhOp PP (.st (.c a5) (.c a52) 1) h53 fun a54 h55 =>
  vhOp PP (.ld (.c a5) 1 true) h55 fun a56 _ =>
  K a56 h55) ∧
  V_affine_Find_L2 h47 a3 a5 a11 a24 a33 J49
theorem V_affine_Find_ok (a0 : D) (a1 : D) (h0 : Heap) (K : D → Heap → Prop) : V_affine_Find a0 a1 h0 K = vcC PP F_affine_Find.code (fun x e h' => match x with | .exit _ => False | _ => vcRet PP F_affine_Find.res K e h') (params [a0, a1] 0) h0 := by kernel_rfl


end Go.Am
/- The text of affine_space_result, as a program of ours printed it; checked. No condition. -/
set_option linter.unusedVariables false
namespace Go.Am
open Go Go.Proofs


def V_affine_space_result_L0 (h90 : Heap) (a91 : D) (a89 : D) (a6 : D) (a4 : D) (a16 : D) (a18 : D) (a8 : D) (J24 : List D → Heap → Prop) (K : D → Heap → Prop) : Prop :=
  ∃ (I92 : Nat → List D → Heap → Prop) (n₀ : Nat), I92 n₀ [(.int .i64 0)] h90 ∧ ∀ (n93 : Nat) (f94 : Nat → D) (h95 : Heap), I92 n93 [f94 54] h95 →
  vbin .lss (f94 54) a91 fun a96 =>
  vcond a96 (vhOp PP (.iadd (.c a89) (.c (f94 54)) 2) h95 fun a97 h98 =>
  vhOp PP (.ld (.c a97) 2 true) h98 fun a99 h100 =>
  vhOp PP (.alloc (.agg [(.int .i64 0), .nilfn])) h100 fun a101 h102 =>
  vhOp PP (.st (.c a101) (.c a99) 2) h102 fun a103 h104 =>
  vhOp PP (.fadd (.c a101) 0) h104 fun a105 h106 =>
  vhOp PP (.ld (.c a105) 1 false) h106 fun a107 h108 =>
  vhOp PP (.fadd (.c a6) 1) h108 fun a109 h110 =>
  vhOp PP (.ld (.c a109) 1 false) h110 fun a111 h112 =>
  vbin .eql a107 a111 fun a113 =>
  vcond a113 (vhOp PP (.fadd (.c a101) 1) h112 fun a114 h115 =>
  vhOp PP (.ld (.c a114) 1 false) h115 fun a116 h117 =>
  vhOp PP (.ld (.c a4) 9 true) h117 fun a118 h119 =>
  vhOp PP (.ld (.c a16) 7 true) h119 fun a120 h121 =>
  vhOp PP (.ld (.c a18) 7 true) h121 fun a122 h123 =>
  vhOp PP (.callv (.c a116) [(.c a118), (.c a120), (.c a122)]) h123 fun a124 h125 =>
  vhOp PP (.st (.c a8) (.c a124) 7) h125 fun a126 h127 =>
  vhOp PP (.ld (.c a8) 7 true) h127 fun a128 _ =>
  K a128 h127) (
  vbin .add (f94 54) (.int .i64 1) fun a129 =>
  keq [a4, a6, a8, a16, a18, a89, a91] [a4, a6, a8, a16, a18, a89, a91] ∧ ∃ m, m < n93 ∧ I92 m [a129] h112)) (
  keq [a8] [a8] ∧ J24 [] h95)
def V_affine_space_result (a0 : D) (a1 : D) (a2 : D) (h0 : Heap) (K : D → Heap → Prop) : Prop :=
  vhOp PP (.box (.c a0)) h0 fun a4 h5 =>
  vhOp PP (.box (.c a2)) h5 fun a6 h7 =>
  vhOp PP (.alloc (.agg [(.bool false), (.int .i64 0), (.int .i64 0), (.int .i64 0), (.int .i64 0), (.int .i64 0), (.int .i64 0)])) h7 fun a8 h9 =>
  vdOp PP (.fadd (.c a6) 6) h9 fun a10 =>
  vdOp PP (.ld (.c a10) 3 true) h9 fun a11 =>
  vdOp PP (.call n_affine_operand [(.c a1), (.c a11)]) h9 fun a12 =>
  vdOp PP (.fadd (.c a6) 9) h9 fun a13 =>
  vdOp PP (.ld (.c a13) 3 true) h9 fun a14 =>
  vdOp PP (.call n_affine_operand [(.c a1), (.c a14)]) h9 fun a15 =>
  vhOp PP (.alloc (.agg [(.bool false), (.int .i64 0), (.int .i64 0), (.int .i64 0), (.int .i64 0), (.int .i64 0), (.int .i64 0)])) h9 fun a16 h17 =>
  vhOp PP (.alloc (.agg [(.bool false), (.int .i64 0), (.int .i64 0), (.int .i64 0), (.int .i64 0), (.int .i64 0), (.int .i64 0)])) h17 fun a18 h19 =>
  vhOp PP (.st (.c a16) (.c a12) 7) h19 fun a20 h21 =>
  vhOp PP (.st (.c a18) (.c a15) 7) h21 fun a22 h23 =>
  ∃ (J24 : List D → Heap → Prop), (∀ (f25 : Nat → D) (h26 : Heap), J24 [] h26 →
  ACall PP n_affine_unknown [] h26 fun a27 h28 =>
  vhOp PP (.st (.c a8) (.c a27) 7) h28 fun a29 h30 =>
  vhOp PP (.ld (.c a8) 7 true) h30 fun a31 _ =>
  K a31 h30) ∧
  vhOp PP (.fadd (.c a6) 0) h23 fun a32 h33 =>
  vhOp PP (.ld (.c a32) 1 false) h33 fun a34 h35 =>
  vbin .eql a34 (.int .i64 1) fun a36 =>
  vcond a36 (vhOp PP (.ld (.c a16) 7 true) h35 fun a37 h38 =>
  vhOp PP (.st (.c a8) (.c a37) 7) h38 fun a39 h40 =>
  vhOp PP (.ld (.c a8) 7 true) h40 fun a41 _ =>
  K a41 h40) (
  vbin .eql a34 (.int .i64 4) fun a42 =>
  vcond a42 (vdOp PP (.ld (.c a4) 9 true) h35 fun a43 =>
  vdOp PP (.ld (.c a18) 7 true) h35 fun a44 =>
  vdOp PP (.fadd (.c a6) 12) h35 fun a45 =>
  vdOp PP (.ld (.c a45) 3 true) h35 fun a46 =>
  vdOp PP (.call n_affine_operand [(.c a1), (.c a46)]) h35 fun a47 =>
  vdOp PP (.call n_affine_space_join [(.c a43), (.c a44), (.c a47)]) h35 fun a48 =>
  vhOp PP (.st (.c a8) (.c a48) 7) h35 fun a49 h50 =>
  vhOp PP (.ld (.c a8) 7 true) h50 fun a51 _ =>
  K a51 h50) (
  vbin .eql a34 (.int .i64 5) fun a52 =>
  vcond a52 (vhOp PP (.ld (.c a4) 9 true) h35 fun a53 h54 =>
  vhOp PP (.fadd (.c a6) 1) h54 fun a55 h56 =>
  vhOp PP (.ld (.c a55) 1 false) h56 fun a57 h58 =>
  ACall PP n_affine_space_id [a53, a57] h58 fun a59 h60 =>
  vhOp PP (.st (.c a8) (.c a59) 7) h60 fun a61 h62 =>
  vhOp PP (.ld (.c a8) 7 true) h62 fun a63 _ =>
  K a63 h62) (
  vbin .eql a34 (.int .i64 2) fun a64 =>
  vcond a64 (vhOp PP (.ld (.c a4) 9 true) h35 fun a65 h66 =>
  vhOp PP (.fadd (.c a6) 1) h66 fun a67 h68 =>
  vhOp PP (.ld (.c a67) 1 false) h68 fun a69 h70 =>
  vhOp PP (.ld (.c a16) 7 true) h70 fun a71 h72 =>
  ACall PP n_affine_space_unary [a65, a69, a71] h72 fun a73 h74 =>
  vhOp PP (.st (.c a8) (.c a73) 7) h74 fun a75 h76 =>
  vhOp PP (.ld (.c a8) 7 true) h76 fun a77 _ =>
  K a77 h76) (
  vbin .eql a34 (.int .i64 3) fun a78 =>
  vcond a78 (vhOp PP (.fadd (.c a6) 1) h35 fun a79 h80 =>
  vhOp PP (.ld (.c a79) 1 false) h80 fun a81 h82 =>
  vbin .geq a81 (.int .i64 24) fun a83 =>
  vcond a83 (ACall PP n_affine_between [(.int .i64 0), (.int .i64 1)] h82 fun a84 h85 =>
  vhOp PP (.st (.c a8) (.c a84) 7) h85 fun a86 h87 =>
  vhOp PP (.ld (.c a8) 7 true) h87 fun a88 _ =>
  K a88 h87) (
  ACall PP n_affine_operators [] h82 fun a89 h90 =>
  vlen a89 h90 fun a91 =>
  V_affine_space_result_L0 h90 a91 a89 a6 a4 a16 a18 a8 J24 K)) (
  keq [a8] [a8] ∧ J24 [] h35)))))
theorem V_affine_space_result_ok (a0 : D) (a1 : D) (a2 : D) (h0 : Heap) (K : D → Heap → Prop) : V_affine_space_result a0 a1 a2 h0 K = vcC PP F_affine_space_result.code (fun x e h' => match x with | .exit _ => False | _ => vcRet PP F_affine_space_result.res K e h') (params [a0, a1, a2] 0) h0 := by kernel_rfl


end Go.Am
/- The text of affine_space_inside, as a program of ours printed it; checked. No condition. -/
set_option linter.unusedVariables false
namespace Go.Am
open Go Go.Proofs



def V_affine_space_inside (a0 : D) (a1 : D) (a2 : D) (h0 : Heap) (K : D → Heap → Prop) : Prop :=
  vhOp PP (.box (.c a0)) h0 fun a4 h5 =>
  vhOp PP (.box (.c a1)) h5 fun a6 h7 =>
  vhOp PP (.box (.c a2)) h7 fun a8 h9 =>
  vhOp PP (.fadd (.c a6) 0) h9 fun a10 h11 =>
  vhOp PP (.ld (.c a10) 1 false) h11 fun a12 h13 =>
  vguard a12 false (fun G14 =>
  vhOp PP (.fadd (.c a8) 0) h13 fun a17 h18 =>
  G14 a17 h18) h13 fun a15 h16 =>
  vguard a12 false (fun G19 =>
  vhOp PP (.ld (.c a15) 1 false) h16 fun a22 h23 =>
  G19 a22 h23) h16 fun a20 h21 =>
  vhOp PP (.pick (.c a12) (.c (.bool true)) (.c a20)) h21 fun a24 h25 =>
  vcond a24 (vhOp PP (.fadd (.c a8) 0) h25 fun a26 h27 =>
  vhOp PP (.ld (.c a26) 1 false) h27 fun a28 h29 =>
  K a28 h29) (
  vdOp PP (.ld (.c a6) 7 true) h25 fun a30 =>
  vdOp PP (.ld (.c a8) 7 true) h25 fun a31 =>
  vdOp PP (.call n_affine_alike [(.c a30), (.c a31)]) h25 fun a32 =>
  vguard1 a32 true (fun G33 =>
  vdOp PP (.fadd (.c a6) 4) h25 fun a125 =>
  G33 a125) fun a34 =>
  vguard1 a32 true (fun G37 =>
  vdOp PP (.ld (.c a34) 3 true) h25 fun a124 =>
  G37 a124) fun a38 =>
  vguard1 a32 true (fun G41 =>
  vdOp PP (.fadd (.c a8) 4) h25 fun a123 =>
  G41 a123) fun a42 =>
  vguard1 a32 true (fun G45 =>
  vdOp PP (.ld (.c a42) 3 true) h25 fun a122 =>
  G45 a122) fun a46 =>
  vguard1 a32 true (fun G49 =>
  vdOp PP (.call n_span_Join [(.c a38), (.c a46)]) h25 fun a121 =>
  G49 a121) fun a50 =>
  vguard1 a32 true (fun G53 =>
  vdOp PP (.fadd (.c a8) 4) h25 fun a120 =>
  G53 a120) fun a54 =>
  vguard1 a32 true (fun G57 =>
  vdOp PP (.ld (.c a54) 3 true) h25 fun a119 =>
  G57 a119) fun a58 =>
  vguard1 a32 true (fun G61 =>
  vdOp PP (.eqv false true [.i, .i, .i] (.c a50) (.c a58)) h25 fun a118 =>
  G61 a118) fun a62 =>
  vdOp PP (.pick (.c a32) (.c a62) (.c (.bool false))) h25 fun a65 =>
  vcond a65 (K (.bool true) h25) (
  vhOp PP (.ld (.c a4) 9 true) h25 fun a66 h67 =>
  vhOp PP (.ld (.c a6) 7 true) h67 fun a68 h69 =>
  ACall PP n_affine_space_span [a66, a68] h69 fun a70 h71 =>
  vhOp PP (.ext (.c a70) 0) h71 fun a72 h73 =>
  vhOp PP (.ext (.c a70) 1) h73 fun a74 h75 =>
  vhOp PP (.alloc (.agg [(.int .i64 0), (.int .i64 0), (.int .i64 0)])) h75 fun a76 h77 =>
  vhOp PP (.st (.c a76) (.c a72) 3) h77 fun a78 h79 =>
  vdOp PP (.ld (.c a8) 7 true) h79 fun a80 =>
  vdOp PP (.call n_affine_plain [(.c a80)]) h79 fun a81 =>
  vguard1 a81 true (fun G82 =>
  vdOp PP (.ld (.c a76) 3 true) h79 fun a117 =>
  G82 a117) fun a83 =>
  vguard1 a81 true (fun G86 =>
  vdOp PP (.fadd (.c a8) 4) h79 fun a116 =>
  G86 a116) fun a87 =>
  vguard1 a81 true (fun G90 =>
  vdOp PP (.ld (.c a87) 3 true) h79 fun a115 =>
  G90 a115) fun a91 =>
  vguard1 a81 true (fun G94 =>
  vdOp PP (.call n_span_Join [(.c a83), (.c a91)]) h79 fun a114 =>
  G94 a114) fun a95 =>
  vguard1 a81 true (fun G98 =>
  vdOp PP (.fadd (.c a8) 4) h79 fun a113 =>
  G98 a113) fun a99 =>
  vguard1 a81 true (fun G102 =>
  vdOp PP (.ld (.c a99) 3 true) h79 fun a112 =>
  G102 a112) fun a103 =>
  vguard1 a81 true (fun G106 =>
  vdOp PP (.eqv false true [.i, .i, .i] (.c a95) (.c a103)) h79 fun a111 =>
  G106 a111) fun a107 =>
  vdOp PP (.pick (.c a81) (.c a107) (.c (.bool false))) h79 fun a110 =>
  K a110 h79))
theorem V_affine_space_inside_ok (a0 : D) (a1 : D) (a2 : D) (h0 : Heap) (K : D → Heap → Prop) : V_affine_space_inside a0 a1 a2 h0 K = vcC PP F_affine_space_inside.code (fun x e h' => match x with | .exit _ => False | _ => vcRet PP F_affine_space_inside.res K e h') (params [a0, a1, a2] 0) h0 := by kernel_rfl


end Go.Am
