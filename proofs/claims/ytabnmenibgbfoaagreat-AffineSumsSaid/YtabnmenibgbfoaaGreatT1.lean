/- The texts of the functions of this chapter, as the abstract machine has them. No condition. -/
import Derived.Test.YtabnmenibgbfoaaGreatProg
import Derived.KernelRfl
import Derived.Test.YtabnmenibgbfoaaGreatA3
set_option linter.unnecessarySimpa false
set_option linter.defProp false
set_option linter.unusedSectionVars false
set_option linter.unusedSimpArgs false
set_option linter.unusedVariables false
/- The numbers of this seat's functions, by name. No condition. -/
set_option linter.unusedVariables false
namespace Go.Am
open Go Go.Proofs
noncomputable abbrev PP : Program := Tryz.prog
abbrev n_main_main : FuncId := 0
abbrev n_gosem_cut : FuncId := 1
abbrev n_gosem_cut_init : FuncId := 2
abbrev n_law26_AffineRanges : FuncId := 3
abbrev n_law26_AffineSums : FuncId := 4
abbrev n_law26_examples : FuncId := 5
abbrev n_ref25_Small : FuncId := 6
abbrev n_ref26_Valid : FuncId := 7
abbrev n_affine_Range : FuncId := 8
abbrev n_affine_Has : FuncId := 9
abbrev n_ref25_Has : FuncId := 10
abbrev n_law26_id : FuncId := 11
abbrev n_law26_bin : FuncId := 12
abbrev n_ref05_Const : FuncId := 13
abbrev n_ref05_Reg : FuncId := 14
abbrev n_affine_Find : FuncId := 15
abbrev n_affine_Check : FuncId := 16
abbrev n_affine_At : FuncId := 17
abbrev n_law26_example : FuncId := 18
abbrev n_ref26_From : FuncId := 19
abbrev n_ref26_Number : FuncId := 20
abbrev n_ref25_Made : FuncId := 21
abbrev n_ref26_anything : FuncId := 22
abbrev n_ref25_Valid : FuncId := 23
abbrev n_ref26_small : FuncId := 24
abbrev n_ref26_canonical : FuncId := 25
abbrev n_ref26_word : FuncId := 26
abbrev n_ref26_RangeIn : FuncId := 27
abbrev n_affine_space_span : FuncId := 28
abbrev n_span_Has : FuncId := 29
abbrev n_affine_space_begin : FuncId := 30
abbrev n_affine_space_zeros : FuncId := 31
abbrev n_affine_space_after : FuncId := 32
abbrev n_code_Succ : FuncId := 33
abbrev n_affine_space_along : FuncId := 34
abbrev n_affine_space_pass : FuncId := 35
abbrev n_slices_ContainsFunc_sapi_Form_api_Form : FuncId := 36
abbrev n_affine_Check_F1 : FuncId := 37
abbrev n_affine_space_valid : FuncId := 38
abbrev n_affine_space_contains : FuncId := 39
abbrev n_affine_number : FuncId := 40
abbrev n_affine_unknown : FuncId := 41
abbrev n_affine_operand : FuncId := 42
abbrev n_ref26_one : FuncId := 43
abbrev n_ref25_near : FuncId := 44
abbrev n_ref26_plus : FuncId := 45
abbrev n_ref26_part : FuncId := 46
abbrev n_span_Valid : FuncId := 47
abbrev n_affine_multiples : FuncId := 48
abbrev n_span_Add : FuncId := 49
abbrev n_slices_Clone_sapi_Form_api_Form : FuncId := 50
abbrev n_affine_space_join : FuncId := 51
abbrev n_affine_between : FuncId := 52
abbrev n_code_Def : FuncId := 53
abbrev n_affine_space_result : FuncId := 54
abbrev n_affine_plain : FuncId := 55
abbrev n_affine_constant : FuncId := 56
abbrev n_affine_decides : FuncId := 57
abbrev n_affine_where : FuncId := 58
abbrev n_span_Of : FuncId := 59
abbrev n_span_Meet : FuncId := 60
abbrev n_affine_space_inside : FuncId := 61
abbrev n_slices_IndexFunc_sapi_Form_api_Form : FuncId := 62
abbrev n_affine_small : FuncId := 63
abbrev n_affine_space_canonical : FuncId := 64
abbrev n_slices_EqualFunc_sapi_Form_sapi_Form_api_Form_api_Form : FuncId := 65
abbrev n_ref25_Edge : FuncId := 66
abbrev n_ref25_AddIn : FuncId := 67
abbrev n_span_near : FuncId := 68
abbrev n_span_Scale : FuncId := 69
abbrev n_span_bounded : FuncId := 70
abbrev n_span_gcd : FuncId := 71
abbrev n_affine_alike : FuncId := 72
abbrev n_span_Join : FuncId := 73
abbrev n_affine_space_made : FuncId := 74
abbrev n_code_def : FuncId := 75
abbrev n_affine_space_id : FuncId := 76
abbrev n_affine_space_unary : FuncId := 77
abbrev n_affine_operators : FuncId := 78
abbrev n_slices_Backward_sapi_Inst_api_Inst : FuncId := 79
abbrev n_span_made : FuncId := 80
abbrev n_span_euclid : FuncId := 81
abbrev n_span_mulmod : FuncId := 82
abbrev n_span_floor : FuncId := 83
abbrev n_ref25_bounded : FuncId := 84
abbrev n_ref25_Gcd : FuncId := 85
abbrev n_span_products : FuncId := 86
abbrev n_affine_space_scale : FuncId := 87
abbrev n_affine_space_subtract : FuncId := 88
abbrev n_affine_floor : FuncId := 89
abbrev n_affine_space_add : FuncId := 90
abbrev n_affine_space_multiply : FuncId := 91
abbrev n_affine_operators_F1 : FuncId := 92
abbrev n_affine_space_mask : FuncId := 93
abbrev n_affine_by : FuncId := 94
abbrev n_affine_operators_F2 : FuncId := 95
abbrev n_affine_operators_F3 : FuncId := 96
abbrev n_affine_operators_F4 : FuncId := 97
abbrev n_affine_space_remainder : FuncId := 98
abbrev n_affine_ranged : FuncId := 99
abbrev n_affine_operators_F5 : FuncId := 100
abbrev n_affine_operators_F6 : FuncId := 101
abbrev n_affine_bits : FuncId := 102
abbrev n_slices_Backward_sapi_Inst_api_Inst_F1 : FuncId := 103
abbrev n_math_bits_Mul64 : FuncId := 104
abbrev n_span_rest : FuncId := 105
abbrev n_math_bits_Rem64 : FuncId := 106
abbrev n_span_product : FuncId := 107
abbrev n_span_Sub : FuncId := 108
abbrev n_span_Mul : FuncId := 109
abbrev n_affine_by_F1 : FuncId := 110
abbrev n_span_Mod : FuncId := 111
abbrev n_affine_ranged_F1 : FuncId := 112
abbrev n_math_bits_Div64 : FuncId := 113
abbrev n_span_product_F1 : FuncId := 114
abbrev n_math_bits_LeadingZeros64 : FuncId := 115
abbrev n_math_bits_Len64 : FuncId := 116
abbrev n_runtime_boundsError_Error : FuncId := 117
abbrev n_runtime_boundsError_RuntimeError : FuncId := 118
abbrev n_runtime_errorString_Error : FuncId := 119
abbrev n_runtime_errorString_RuntimeError : FuncId := 120
abbrev n_runtime_plainError_Error : FuncId := 121
abbrev n_runtime_plainError_RuntimeError : FuncId := 122
abbrev n_runtime_errorAddressString_Error : FuncId := 123
abbrev n_runtime_errorAddressString_RuntimeError : FuncId := 124
abbrev n_runtime_TypeAssertionError_Error : FuncId := 125
abbrev n_runtime_TypeAssertionError_RuntimeError : FuncId := 126
abbrev n_runtime_PanicNilError_Error : FuncId := 127
abbrev n_runtime_PanicNilError_RuntimeError : FuncId := 128
abbrev n_internal_abi_Type_Align : FuncId := 129
abbrev n_internal_runtime_maps_unhashableTypeError_Error : FuncId := 130
abbrev n_internal_runtime_maps_unhashableTypeError_RuntimeError : FuncId := 131
abbrev n_errors_errorString_Error : FuncId := 132
abbrev n_internal_abi_Kind_String : FuncId := 133
end Go.Am
/- The functions of this seat's program in the short form, as a program of ours printed them (part 1); each line of it is checked. No condition. -/
set_option linter.unusedVariables false
namespace Go.Am
open Go Go.Proofs
/-- warpwright/warpwrightlaw26.AffineSums -/
def loops_law26_AffineSums : Nat → Option (List Nat × List Nat)
  | 1000011 => some ([1, 3, 7, 8], [9]) | 7 => some ([1, 3, 7, 8], [9, 10]) | 1000027 => some ([3, 7, 13], []) | 19 => some ([3, 7, 8, 11, 13], [14]) | _ => none
def tbl_law26_AffineSums : Nat → Option (List Nat × List Nat × List Nat)
  | 10 => some ([0, 0, 0, 4, 12, 30, 62, 126, 254, 510, 1022, 2046, 4094, 8190, 16383, 32767], [14, 15], []) | 15 => some ([0, 0, 0, 0, 8, 0, 63, 0, 255], [7, 8], []) | _ => none
def F_law26_AffineSums : AFunc := ⟨163,
  .seq (.reg [⟨(some 3), .box (.t 0), none⟩,
    ⟨(some 6), .mov (.c (.bool false)), none⟩]) <|
  .seq (.reg [⟨(some 18), .call n_law26_examples [], none⟩,
    ⟨(some 7), .mov (.t 18), none⟩]) <|
  .seq (.seq (.reg [⟨(some 19), .mov (.t 7), none⟩,
    ⟨(some 20), .un .not (.t 19), none⟩]) <|
  .cond (.t 20) (.seq (.reg [⟨(some 6), .mov (.c (.bool false)), none⟩]) <|
  .ret) (.skip)) <|
  .seq (.reg [⟨(some 21), .mov (.t 2), none⟩,
    ⟨(some 22), .bin .rem (.t 21) (.c (.int .u8 8)), none⟩,
    ⟨(some 23), .conv .i64 (.t 22), none⟩,
    ⟨(some 24), .bin .add (.c (.int .i64 1)) (.t 23), none⟩,
    ⟨(some 8), .mov (.t 24), none⟩]) <|
  .seq (.reg [⟨(some 25), .call n_law26_id [(.c (.int .i64 0)), (.c (.int .i64 1))], none⟩,
    ⟨(some 26), .call n_law26_id [(.c (.int .i64 1)), (.c (.int .i64 2))], none⟩,
    ⟨(some 27), .call n_law26_id [(.c (.int .i64 2)), (.c (.int .i64 3))], none⟩,
    ⟨(some 28), .bldS true 15 3 (.agg [(.int .i64 0), (.int .i64 0), (.int .i64 0), (.int .i64 0), (.int .i64 0), (.int .i32 0), (.int .i64 0), (.int .i64 0), (.int .i32 0), (.int .i64 0), (.int .i64 0), (.int .i32 0), (.int .i64 0), (.int .i64 0), (.int .i32 0)]) [(0, (.t 25)), (1, (.t 26)), (2, (.t 27))], none⟩,
    ⟨(some 9), .mov (.t 28), none⟩]) <|
  .seqj [1, 3, 7, 8] [9] (.seq (.reg [⟨(some 10), .mov (.c (.int .i64 0)), none⟩]) <|
  .block 0 (.loop [1, 3, 7, 8] [9, 10] (.seq (.seq (.reg [⟨(some 29), .mov (.t 10), none⟩,
    ⟨(some 30), .bin .lss (.t 29) (.c (.int .i64 3)), none⟩]) <|
  .cond (.t 30) (.skip) (.exit 0)) <|
  .seq (.block 1 (.reg [⟨(some 33), .mov (.t 9), none⟩,
    ⟨(some 34), .mov (.t 10), none⟩,
    ⟨(some 35), .bin .add (.c (.int .i64 3)) (.t 34), none⟩,
    ⟨(some 36), .mov (.t 10), none⟩,
    ⟨(some 37), .iadda (.t 3) (.t 36) 4 1, none⟩,
    ⟨(some 38), .ld (.t 37) 1 false, none⟩,
    ⟨(some 39), .conv .i32 (.t 38), none⟩,
    ⟨(some 40), .call n_ref05_Const [(.t 39)], none⟩,
    ⟨(some 41), .mov (.t 10), none⟩,
    ⟨(some 42), .call n_ref05_Reg [(.t 41)], none⟩,
    ⟨(some 43), .call n_law26_bin [(.c (.int .i64 12)), (.t 35), (.t 40), (.t 42)], none⟩,
    ⟨(some 44), .bldS true 15 1 (.agg [(.int .i64 0), (.int .i64 0), (.int .i64 0), (.int .i64 0), (.int .i64 0), (.int .i32 0), (.int .i64 0), (.int .i64 0), (.int .i32 0), (.int .i64 0), (.int .i64 0), (.int .i32 0), (.int .i64 0), (.int .i64 0), (.int .i32 0)]) [(0, (.t 43))], none⟩,
    ⟨(some 45), .app (.t 33) (.t 44) 15 120 (.agg [(.int .i64 0), (.int .i64 0), (.int .i64 0), (.int .i64 0), (.int .i64 0), (.int .i32 0), (.int .i64 0), (.int .i64 0), (.int .i32 0), (.int .i64 0), (.int .i64 0), (.int .i32 0), (.int .i64 0), (.int .i64 0), (.int .i32 0)]), none⟩,
    ⟨(some 9), .mov (.t 45), none⟩])) <|
  .reg [⟨(some 31), .mov (.t 10), none⟩,
    ⟨(some 32), .bin .add (.t 31) (.c (.int .i64 1)), none⟩,
    ⟨(some 10), .mov (.t 32), none⟩]))) <|
  .seq (.dreg [⟨(some 46), .mov (.t 9), none⟩,
    ⟨(some 47), .call n_ref05_Reg [(.c (.int .i64 3))], none⟩,
    ⟨(some 48), .iadda (.t 3) (.c (.int .i64 3)) 4 1, none⟩,
    ⟨(some 49), .ld (.t 48) 1 false, none⟩,
    ⟨(some 50), .conv .i32 (.t 49), none⟩,
    ⟨(some 51), .call n_ref05_Const [(.t 50)], none⟩,
    ⟨(some 52), .call n_law26_bin [(.c (.int .i64 10)), (.c (.int .i64 6)), (.t 47), (.t 51)], none⟩,
    ⟨(some 53), .call n_ref05_Reg [(.c (.int .i64 6))], none⟩,
    ⟨(some 54), .call n_ref05_Reg [(.c (.int .i64 4))], none⟩,
    ⟨(some 55), .call n_law26_bin [(.c (.int .i64 10)), (.c (.int .i64 6)), (.t 53), (.t 54)], none⟩,
    ⟨(some 56), .call n_ref05_Reg [(.c (.int .i64 6))], none⟩,
    ⟨(some 57), .call n_ref05_Reg [(.c (.int .i64 5))], none⟩,
    ⟨(some 58), .call n_law26_bin [(.c (.int .i64 11)), (.c (.int .i64 6)), (.t 56), (.t 57)], none⟩,
    ⟨(some 59), .bldS false 15 3 (.agg [(.int .i64 0), (.int .i64 0), (.int .i64 0), (.int .i64 0), (.int .i64 0), (.int .i32 0), (.int .i64 0), (.int .i64 0), (.int .i32 0), (.int .i64 0), (.int .i64 0), (.int .i32 0), (.int .i64 0), (.int .i64 0), (.int .i32 0)]) [(0, (.t 52)), (1, (.t 55)), (2, (.t 58))], none⟩] [⟨(some 60), .app (.t 46) (.t 59) 15 120 (.agg [(.int .i64 0), (.int .i64 0), (.int .i64 0), (.int .i64 0), (.int .i64 0), (.int .i32 0), (.int .i64 0), (.int .i64 0), (.int .i32 0), (.int .i64 0), (.int .i64 0), (.int .i32 0), (.int .i64 0), (.int .i64 0), (.int .i32 0)]), none⟩,
    ⟨(some 9), .mov (.t 60), none⟩] []) <|
  .seq (.reg [⟨(some 61), .mov (.t 1), none⟩,
    ⟨(some 62), .bin .rem (.t 61) (.c (.int .u8 16)), none⟩,
    ⟨(some 63), .conv .i64 (.t 62), none⟩,
    ⟨(some 64), .bin .add (.c (.int .i64 1)) (.t 63), none⟩,
    ⟨(some 65), .mov (.t 9), none⟩,
    ⟨(some 66), .bld [(.int .i64 0), (.int .i64 0), (.int .i64 0), (.int .i64 0), (.int .i32 0), (.int .i64 0), (.int .i64 0), (.int .i32 0), (.int .i64 0), (.int .i64 0), (.int .i32 0), (.int .i64 0), (.int .i64 0)] [(0, 1, (.c (.int .i64 5)))], none⟩,
    ⟨(some 67), .bld [.nil, (.int .i64 0), (.int .i64 0), (.int .i64 0), (.int .i64 0), (.int .i32 0), (.int .i64 0), (.int .i64 0), (.int .i32 0), (.int .i64 0), (.int .i64 0), (.int .i32 0), (.int .i64 0), (.int .i64 0)] [(0, 1, (.t 65)), (1, 13, (.t 66))], none⟩,
    ⟨(some 68), .bldS true 14 1 (.agg [.nil, (.int .i64 0), (.int .i64 0), (.int .i64 0), (.int .i64 0), (.int .i32 0), (.int .i64 0), (.int .i64 0), (.int .i32 0), (.int .i64 0), (.int .i64 0), (.int .i32 0), (.int .i64 0), (.int .i64 0)]) [(0, (.t 67))], none⟩,
    ⟨(some 69), .bld [(.int .i64 0), (.int .i64 0), (.int .i64 0), (.int .i64 0), (.int .i64 0), .nil, .nil, .nil] [(0, 1, (.t 64)), (1, 1, (.c (.int .i64 1))), (2, 1, (.c (.int .i64 7))), (7, 1, (.t 68))], none⟩,
    ⟨(some 11), .alloc (.agg [(.int .i64 0), (.int .i64 0), (.int .i64 0), (.int .i64 0), (.int .i64 0), .nil, .nil, .nil]), none⟩,
    ⟨none, .st (.t 11) (.t 69) 8, none⟩]) <|
  .seq (.reg [⟨(some 70), .ld (.t 11) 8 true, none⟩,
    ⟨(some 71), .mov (.t 8), none⟩,
    ⟨(some 72), .call n_affine_Find [(.t 70), (.t 71)], none⟩,
    ⟨(some 12), .alloc (.agg [.nil]), none⟩,
    ⟨none, .st (.t 12) (.t 72) 1, none⟩]) <|
  .seq (.seq (.reg [⟨(some 73), .ld (.t 11) 8 true, none⟩,
    ⟨(some 74), .mov (.t 8), none⟩,
    ⟨(some 75), .ld (.t 12) 1 true, none⟩,
    ⟨(some 76), .call n_affine_Check [(.t 73), (.t 74), (.t 75)], none⟩,
    ⟨(some 77), .bin .neq (.t 76) (.c (.int .i64 0)), none⟩]) <|
  .cond (.t 77) (.seq (.reg [⟨(some 6), .mov (.c (.bool false)), none⟩]) <|
  .ret) (.skip)) <|
  .seq (.dreg [⟨(some 78), .ld (.t 11) 8 true, none⟩,
    ⟨(some 79), .mov (.t 8), none⟩,
    ⟨(some 80), .ld (.t 12) 1 true, none⟩,
    ⟨(some 81), .mov (.t 9), none⟩,
    ⟨(some 82), .len (.t 81), none⟩,
    ⟨(some 83), .call n_ref05_Reg [(.c (.int .i64 6))], none⟩,
    ⟨(some 84), .call n_affine_At [(.t 78), (.t 79), (.t 80), (.c (.int .i64 0)), (.t 82), (.t 83)], none⟩] [⟨(some 13), .alloc (.agg [(.bool false), (.int .i64 0), (.int .i64 0), (.int .i64 0), (.int .i64 0), (.int .i64 0), (.int .i64 0)]), none⟩,
    ⟨none, .st (.t 13) (.t 84) 7, none⟩] []) <|
  .seq (.seq (.reg [⟨(some 85), .fadd (.t 13) 0, none⟩,
    ⟨(some 86), .ld (.t 85) 1 false, none⟩,
    ⟨(some 87), .mov (.t 86), none⟩,
    ⟨(some 88), .ld (.t 11) 8 true, some (87, false)⟩,
    ⟨(some 89), .mov (.t 8), some (87, false)⟩,
    ⟨(some 90), .ld (.t 13) 7 true, some (87, false)⟩,
    ⟨(some 91), .call n_ref26_Valid [(.t 88), (.t 89), (.t 90)], some (87, false)⟩,
    ⟨(some 92), .un .not (.t 91), some (87, false)⟩,
    ⟨(some 93), .pick (.t 87) (.c (.bool true)) (.t 92), none⟩]) <|
  .cond (.t 93) (.seq (.reg [⟨(some 6), .mov (.c (.bool false)), none⟩]) <|
  .ret) (.skip)) <|
  .seqj [3, 7, 13] [] (.seq (.reg [⟨(some 14), .mov (.c (.int .i64 0)), none⟩]) <|
  .block 2 (.loop [3, 7, 8, 11, 13] [14] (.seq (.seq (.reg [⟨(some 94), .mov (.t 14), none⟩,
    ⟨(some 95), .mov (.t 8), none⟩,
    ⟨(some 96), .fadd (.t 11) 0, none⟩,
    ⟨(some 97), .ld (.t 96) 1 false, none⟩,
    ⟨(some 98), .bin .mul (.t 95) (.t 97), none⟩,
    ⟨(some 99), .bin .lss (.t 94) (.t 98), none⟩]) <|
  .cond (.t 99) (.skip) (.exit 2)) <|
  .seq (.block 3 (.seq (.reg [⟨(some 102), .mov (.t 14), none⟩,
    ⟨(some 103), .fadd (.t 11) 0, none⟩,
    ⟨(some 104), .ld (.t 103) 1 false, none⟩,
    ⟨(some 105), .bin .rem (.t 102) (.t 104), none⟩,
    ⟨(some 15), .mov (.t 105), none⟩]) <|
  .seq (.reg [⟨(some 106), .mov (.t 14), none⟩,
    ⟨(some 107), .fadd (.t 11) 0, none⟩,
    ⟨(some 108), .ld (.t 107) 1 false, none⟩,
    ⟨(some 109), .bin .quo (.t 106) (.t 108), none⟩,
    ⟨(some 16), .mov (.t 109), none⟩]) <|
  .seq (.reg [⟨(some 110), .iadda (.t 3) (.c (.int .i64 0)) 4 1, none⟩,
    ⟨(some 111), .ld (.t 110) 1 false, none⟩,
    ⟨(some 112), .conv .i32 (.t 111), none⟩,
    ⟨(some 113), .mov (.t 14), none⟩,
    ⟨(some 114), .conv .i32 (.t 113), none⟩,
    ⟨(some 115), .bin .mul (.t 112) (.t 114), none⟩,
    ⟨(some 116), .iadda (.t 3) (.c (.int .i64 1)) 4 1, none⟩,
    ⟨(some 117), .ld (.t 116) 1 false, none⟩,
    ⟨(some 118), .conv .i32 (.t 117), none⟩,
    ⟨(some 119), .mov (.t 15), none⟩,
    ⟨(some 120), .conv .i32 (.t 119), none⟩,
    ⟨(some 121), .bin .mul (.t 118) (.t 120), none⟩,
    ⟨(some 122), .bin .add (.t 115) (.t 121), none⟩,
    ⟨(some 123), .iadda (.t 3) (.c (.int .i64 2)) 4 1, none⟩,
    ⟨(some 124), .ld (.t 123) 1 false, none⟩,
    ⟨(some 125), .conv .i32 (.t 124), none⟩,
    ⟨(some 126), .mov (.t 16), none⟩,
    ⟨(some 127), .conv .i32 (.t 126), none⟩,
    ⟨(some 128), .bin .mul (.t 125) (.t 127), none⟩,
    ⟨(some 129), .bin .sub (.t 122) (.t 128), none⟩,
    ⟨(some 130), .iadda (.t 3) (.c (.int .i64 3)) 4 1, none⟩,
    ⟨(some 131), .ld (.t 130) 1 false, none⟩,
    ⟨(some 132), .conv .i32 (.t 131), none⟩,
    ⟨(some 133), .bin .add (.t 129) (.t 132), none⟩,
    ⟨(some 17), .mov (.t 133), none⟩]) <|
  .seq (.reg [⟨(some 134), .ld (.t 13) 7 true, none⟩,
    ⟨(some 135), .mov (.t 14), none⟩,
    ⟨(some 136), .mov (.t 15), none⟩,
    ⟨(some 137), .mov (.t 16), none⟩,
    ⟨(some 138), .mov (.t 17), none⟩,
    ⟨(some 139), .call n_affine_Has [(.t 134), (.t 135), (.t 136), (.t 137), (.t 138)], none⟩,
    ⟨(some 140), .un .not (.t 139), none⟩,
    ⟨(some 141), .mov (.t 140), none⟩,
    ⟨(some 142), .ld (.t 13) 7 true, some (141, false)⟩,
    ⟨(some 143), .mov (.t 14), some (141, false)⟩,
    ⟨(some 144), .mov (.t 15), some (141, false)⟩,
    ⟨(some 145), .mov (.t 16), some (141, false)⟩,
    ⟨(some 146), .mov (.t 17), some (141, false)⟩,
    ⟨(some 147), .bin .add (.t 146) (.c (.int .i32 1)), some (141, false)⟩,
    ⟨(some 148), .call n_affine_Has [(.t 142), (.t 143), (.t 144), (.t 145), (.t 147)], some (141, false)⟩,
    ⟨(some 149), .pick (.t 141) (.c (.bool true)) (.t 148), none⟩]) <|
  .cond (.t 149) (.seq (.reg [⟨(some 6), .mov (.c (.bool false)), none⟩]) <|
  .ret) (.skip))) <|
  .reg [⟨(some 100), .mov (.t 14), none⟩,
    ⟨(some 101), .bin .add (.t 100) (.c (.int .i64 1)), none⟩,
    ⟨(some 14), .mov (.t 101), none⟩]))) <|
  .seq (.reg [⟨(some 150), .mov (.t 7), none⟩,
    ⟨(some 151), .mov (.t 150), none⟩,
    ⟨(some 152), .fadd (.t 13) 4, some (151, true)⟩,
    ⟨(some 153), .ld (.t 152) 3 true, some (151, true)⟩,
    ⟨(some 154), .iadda (.t 3) (.c (.int .i64 3)) 4 1, some (151, true)⟩,
    ⟨(some 155), .ld (.t 154) 1 false, some (151, true)⟩,
    ⟨(some 156), .conv .i64 (.t 155), some (151, true)⟩,
    ⟨(some 157), .iadda (.t 3) (.c (.int .i64 3)) 4 1, some (151, true)⟩,
    ⟨(some 158), .ld (.t 157) 1 false, some (151, true)⟩,
    ⟨(some 159), .conv .i64 (.t 158), some (151, true)⟩,
    ⟨(some 160), .bld [(.int .i64 0), (.int .i64 0), (.int .i64 0)] [(0, 1, (.t 156)), (1, 1, (.t 159))], some (151, true)⟩,
    ⟨(some 161), .eqv false true [.i, .i, .i] (.t 153) (.t 160), some (151, true)⟩,
    ⟨(some 162), .pick (.t 151) (.t 161) (.c (.bool false)), none⟩,
    ⟨(some 6), .mov (.t 162), none⟩]) <|
  .ret,
  [.t 6]⟩
theorem F_law26_AffineSums_ok : cFn PP true n_law26_AffineSums loops_law26_AffineSums (cDr PP 163 tbl_law26_AffineSums) = some F_law26_AffineSums := by kernel_rfl

/-- warpwright/warpwrightlaw26.examples -/
def loops_law26_examples : Nat → Option (List Nat × List Nat)
  | 1000012 => some ([1, 2, 3], []) | 7 => some ([1, 2, 3], [4]) | 6000010 => some ([], []) | 6000012 => some ([], []) | 6000013 => some ([], []) | _ => none
def tbl_law26_examples : Nat → Option (List Nat × List Nat × List Nat)
  | 9 => some ([0, 1, 3, 7, 0, 31, 63, 0, 0, 384, 896, 2047, 4095, 8191, 16383, 32767, 65535, 8191, 262143, 524287, 8191, 2097151, 4194303], [], []) | 11 => some ([0, 0, 2, 6, 15, 31, 63, 63, 0, 383, 1023], [8, 9], []) | 12 => some ([0, 1, 3, 3, 15, 31, 63, 127, 255, 511, 1023, 2047, 4095, 8191, 16383, 32767, 65535, 131071, 262143, 524287, 1048575, 1048575, 1048575, 8388607, 1048575, 17825791, 51380223, 134217727, 268435455, 536870911, 1073741823, 1073741823, 1073741823, 8589934591, 17179869183, 34359738367, 68719476735, 137438953471], [], []) | _ => none
def F_law26_examples : AFunc := ⟨121,
  .seq (.reg [⟨(some 0), .mov (.c (.bool false)), none⟩]) <|
  .seq (.reg [⟨(some 7), .call n_law26_example [], none⟩,
    ⟨(some 1), .alloc (.agg [(.int .i64 0), (.int .i64 0), (.int .i64 0), (.int .i64 0), (.int .i64 0), .nil, .nil, .nil]), none⟩,
    ⟨none, .st (.t 1) (.t 7) 8, none⟩]) <|
  .seq (.reg [⟨(some 8), .ld (.t 1) 8 true, none⟩,
    ⟨(some 9), .call n_affine_Find [(.t 8), (.c (.int .i64 4))], none⟩,
    ⟨(some 2), .alloc (.agg [.nil]), none⟩,
    ⟨none, .st (.t 2) (.t 9) 1, none⟩]) <|
  .seq (.seq (.reg [⟨(some 10), .fadd (.t 2) 0, none⟩,
    ⟨(some 11), .ld (.t 10) 1 false, none⟩,
    ⟨(some 12), .len (.t 11), none⟩,
    ⟨(some 13), .bin .neq (.t 12) (.c (.int .i64 2)), none⟩,
    ⟨(some 14), .mov (.t 13), none⟩,
    ⟨(some 15), .fadd (.t 2) 0, some (14, false)⟩,
    ⟨(some 16), .ld (.t 15) 1 false, some (14, false)⟩,
    ⟨(some 17), .iadd (.t 16) (.c (.int .i64 0)) 1, some (14, false)⟩,
    ⟨(some 18), .ld (.t 17) 1 false, some (14, false)⟩,
    ⟨(some 19), .len (.t 18), some (14, false)⟩,
    ⟨(some 20), .bin .neq (.t 19) (.c (.int .i64 6)), some (14, false)⟩,
    ⟨(some 21), .pick (.t 14) (.c (.bool true)) (.t 20), none⟩,
    ⟨(some 22), .mov (.t 21), none⟩,
    ⟨(some 23), .fadd (.t 2) 0, some (22, false)⟩,
    ⟨(some 24), .ld (.t 23) 1 false, some (22, false)⟩,
    ⟨(some 25), .iadd (.t 24) (.c (.int .i64 1)) 1, some (22, false)⟩,
    ⟨(some 26), .ld (.t 25) 1 false, some (22, false)⟩,
    ⟨(some 27), .len (.t 26), some (22, false)⟩,
    ⟨(some 28), .bin .neq (.t 27) (.c (.int .i64 6)), some (22, false)⟩,
    ⟨(some 29), .pick (.t 22) (.c (.bool true)) (.t 28), none⟩,
    ⟨(some 30), .mov (.t 29), none⟩,
    ⟨(some 31), .ld (.t 1) 8 true, some (30, false)⟩,
    ⟨(some 32), .ld (.t 2) 1 true, some (30, false)⟩,
    ⟨(some 33), .call n_affine_Check [(.t 31), (.c (.int .i64 4)), (.t 32)], some (30, false)⟩,
    ⟨(some 34), .bin .neq (.t 33) (.c (.int .i64 0)), some (30, false)⟩,
    ⟨(some 35), .pick (.t 30) (.c (.bool true)) (.t 34), none⟩,
    ⟨(some 36), .mov (.t 35), none⟩,
    ⟨(some 37), .ld (.t 1) 8 true, some (36, false)⟩,
    ⟨(some 38), .bld [.nil] [], some (36, false)⟩,
    ⟨(some 39), .call n_affine_Check [(.t 37), (.c (.int .i64 4)), (.t 38)], some (36, false)⟩,
    ⟨(some 40), .bin .neq (.t 39) (.c (.int .i64 100)), some (36, false)⟩,
    ⟨(some 41), .pick (.t 36) (.c (.bool true)) (.t 40), none⟩]) <|
  .cond (.t 41) (.seq (.reg [⟨(some 0), .mov (.c (.bool false)), none⟩]) <|
  .ret) (.skip)) <|
  .seq (.reg [⟨(some 42), .bld [(.bool false), (.int .i64 0), (.int .i64 0), (.int .i64 0), (.int .i64 0), (.int .i64 0), (.int .i64 0)] [(3, 1, (.c (.int .i64 1)))], none⟩,
    ⟨(some 43), .bld [(.bool false), (.int .i64 0), (.int .i64 0), (.int .i64 0), (.int .i64 0), (.int .i64 0), (.int .i64 0)] [(3, 1, (.c (.int .i64 8)))], none⟩,
    ⟨(some 44), .bld [(.bool false), (.int .i64 0), (.int .i64 0), (.int .i64 0), (.int .i64 0), (.int .i64 0), (.int .i64 0)] [(2, 1, (.c (.int .i64 1)))], none⟩,
    ⟨(some 45), .bld [(.bool false), (.int .i64 0), (.int .i64 0), (.int .i64 0), (.int .i64 0), (.int .i64 0), (.int .i64 0)] [(1, 1, (.c (.int .i64 1)))], none⟩,
    ⟨(some 46), .bld [(.bool false), (.int .i64 0), (.int .i64 0), (.int .i64 0), (.int .i64 0), (.int .i64 0), (.int .i64 0)] [(1, 1, (.c (.int .i64 4)))], none⟩,
    ⟨(some 47), .call n_ref26_From [(.c (.int .i64 0)), (.c (.int .i64 7))], none⟩,
    ⟨(some 48), .bldS true 7 6 (.agg [(.bool false), (.int .i64 0), (.int .i64 0), (.int .i64 0), (.int .i64 0), (.int .i64 0), (.int .i64 0)]) [(0, (.t 42)), (1, (.t 43)), (2, (.t 44)), (3, (.t 45)), (4, (.t 46)), (5, (.t 47))], none⟩,
    ⟨(some 3), .mov (.t 48), none⟩]) <|
  .seqj [1, 2, 3] [] (.seq (.reg [⟨(some 4), .mov (.c (.int .i64 0)), none⟩]) <|
  .block 0 (.loop [1, 2, 3] [4] (.seq (.seq (.reg [⟨(some 49), .mov (.t 4), none⟩,
    ⟨(some 50), .bin .lss (.t 49) (.c (.int .i64 6)), none⟩]) <|
  .cond (.t 50) (.skip) (.exit 0)) <|
  .seq (.block 1 (.seq (.frz (.dreg [⟨(some 53), .fadd (.t 2) 0, none⟩,
    ⟨(some 54), .ld (.t 53) 1 false, none⟩,
    ⟨(some 55), .iadd (.t 54) (.c (.int .i64 1)) 1, none⟩,
    ⟨(some 56), .ld (.t 55) 1 false, none⟩,
    ⟨(some 57), .mov (.t 4), none⟩,
    ⟨(some 58), .iadd (.t 56) (.t 57) 7, none⟩,
    ⟨(some 59), .ld (.t 58) 7 true, none⟩,
    ⟨(some 60), .mov (.t 3), none⟩,
    ⟨(some 61), .mov (.t 4), none⟩,
    ⟨(some 62), .iadd (.t 60) (.t 61) 7, none⟩,
    ⟨(some 63), .ld (.t 62) 7 true, none⟩,
    ⟨(some 64), .eqv true true [.b, .i, .i, .i, .i, .i, .i] (.t 59) (.t 63), none⟩,
    ⟨(some 65), .mov (.t 64), none⟩,
    ⟨(some 66), .fadd (.t 2) 0, some (65, false)⟩,
    ⟨(some 67), .ld (.t 66) 1 false, some (65, false)⟩,
    ⟨(some 68), .iadd (.t 67) (.c (.int .i64 0)) 1, some (65, false)⟩,
    ⟨(some 69), .ld (.t 68) 1 false, some (65, false)⟩,
    ⟨(some 70), .mov (.t 4), some (65, false)⟩,
    ⟨(some 71), .iadd (.t 69) (.t 70) 7, some (65, false)⟩,
    ⟨(some 72), .ld (.t 71) 7 true, some (65, false)⟩,
    ⟨(some 73), .call n_ref26_Number [(.c (.int .i64 0))], some (65, false)⟩,
    ⟨(some 74), .eqv true true [.b, .i, .i, .i, .i, .i, .i] (.t 72) (.t 73), some (65, false)⟩,
    ⟨(some 75), .pick (.t 65) (.c (.bool true)) (.t 74), none⟩] [] [])) <|
  .cond (.t 75) (.seq (.reg [⟨(some 0), .mov (.c (.bool false)), none⟩]) <|
  .ret) (.skip))) <|
  .reg [⟨(some 51), .mov (.t 4), none⟩,
    ⟨(some 52), .bin .add (.t 51) (.c (.int .i64 1)), none⟩,
    ⟨(some 4), .mov (.t 52), none⟩]))) <|
  .seq (.frz (.dreg [⟨(some 77), .ld (.t 1) 8 true, none⟩,
    ⟨(some 78), .mov (.t 3), none⟩,
    ⟨(some 79), .iadd (.t 78) (.c (.int .i64 4)) 7, none⟩,
    ⟨(some 80), .ld (.t 79) 7 true, none⟩,
    ⟨(some 81), .call n_affine_Range [(.t 77), (.c (.int .i64 4)), (.t 80)], none⟩,
    ⟨(some 76), .mov (.t 81), none⟩,
    ⟨(some 82), .ext (.t 76) 0, none⟩,
    ⟨(some 83), .ext (.t 76) 1, none⟩,
    ⟨(some 6), .mov (.t 83), none⟩] [⟨(some 5), .alloc (.agg [(.int .i64 0), (.int .i64 0), (.int .i64 0)]), none⟩,
    ⟨none, .st (.t 5) (.t 82) 3, none⟩] [])) <|
  .seq (.frz (.dreg [⟨(some 84), .mov (.t 6), none⟩,
    ⟨(some 85), .mov (.t 84), none⟩,
    ⟨(some 86), .ld (.t 5) 3 true, some (85, true)⟩,
    ⟨(some 87), .bld [(.int .i64 0), (.int .i64 0), (.int .i64 0)] [(0, 1, (.c (.int .i64 0))), (1, 1, (.c (.int .i64 124))), (2, 1, (.c (.int .i64 4)))], some (85, true)⟩,
    ⟨(some 88), .eqv false true [.i, .i, .i] (.t 86) (.t 87), some (85, true)⟩,
    ⟨(some 89), .pick (.t 85) (.t 88) (.c (.bool false)), none⟩,
    ⟨(some 90), .mov (.t 89), none⟩,
    ⟨(some 91), .mov (.t 3), some (90, true)⟩,
    ⟨(some 92), .iadd (.t 91) (.c (.int .i64 4)) 7, some (90, true)⟩,
    ⟨(some 93), .ld (.t 92) 7 true, some (90, true)⟩,
    ⟨(some 94), .call n_affine_Has [(.t 93), (.c (.int .i64 5)), (.c (.int .i64 5)), (.c (.int .i64 0)), (.c (.int .i32 20))], some (90, true)⟩,
    ⟨(some 95), .pick (.t 90) (.t 94) (.c (.bool false)), none⟩,
    ⟨(some 96), .mov (.t 95), none⟩,
    ⟨(some 97), .mov (.t 3), some (96, true)⟩,
    ⟨(some 98), .iadd (.t 97) (.c (.int .i64 4)) 7, some (96, true)⟩,
    ⟨(some 99), .ld (.t 98) 7 true, some (96, true)⟩,
    ⟨(some 100), .call n_affine_Has [(.t 99), (.c (.int .i64 5)), (.c (.int .i64 5)), (.c (.int .i64 0)), (.c (.int .i32 21))], some (96, true)⟩,
    ⟨(some 101), .un .not (.t 100), some (96, true)⟩,
    ⟨(some 102), .pick (.t 96) (.t 101) (.c (.bool false)), none⟩,
    ⟨(some 103), .mov (.t 102), none⟩,
    ⟨(some 104), .ld (.t 1) 8 true, some (103, true)⟩,
    ⟨(some 105), .ld (.t 2) 1 true, some (103, true)⟩,
    ⟨(some 106), .call n_ref05_Reg [(.c (.int .i64 3))], some (103, true)⟩,
    ⟨(some 107), .call n_affine_At [(.t 104), (.c (.int .i64 4)), (.t 105), (.c (.int .i64 0)), (.c (.int .i64 4)), (.t 106)], some (103, true)⟩,
    ⟨(some 108), .mov (.t 3), some (103, true)⟩,
    ⟨(some 109), .iadd (.t 108) (.c (.int .i64 3)) 7, some (103, true)⟩,
    ⟨(some 110), .ld (.t 109) 7 true, some (103, true)⟩,
    ⟨(some 111), .eqv false true [.b, .i, .i, .i, .i, .i, .i] (.t 107) (.t 110), some (103, true)⟩,
    ⟨(some 112), .pick (.t 103) (.t 111) (.c (.bool false)), none⟩,
    ⟨(some 113), .mov (.t 112), none⟩,
    ⟨(some 114), .ld (.t 1) 8 true, some (113, true)⟩,
    ⟨(some 115), .ld (.t 2) 1 true, some (113, true)⟩,
    ⟨(some 116), .call n_ref05_Reg [(.c (.int .i64 3))], some (113, true)⟩,
    ⟨(some 117), .call n_affine_At [(.t 114), (.c (.int .i64 4)), (.t 115), (.c (.int .i64 0)), (.c (.int .i64 0)), (.t 116)], some (113, true)⟩,
    ⟨(some 118), .call n_ref26_Number [(.c (.int .i64 0))], some (113, true)⟩,
    ⟨(some 119), .eqv false true [.b, .i, .i, .i, .i, .i, .i] (.t 117) (.t 118), some (113, true)⟩,
    ⟨(some 120), .pick (.t 113) (.t 119) (.c (.bool false)), none⟩,
    ⟨(some 0), .mov (.t 120), none⟩] [] [])) <|
  .ret,
  [.t 0]⟩
theorem F_law26_examples_ok : cFn PP true n_law26_examples loops_law26_examples (cDr PP 121 tbl_law26_examples) = some F_law26_examples := by kernel_rfl
/-- warpwright/warpwrightref25.Small -/
def loops_ref25_Small : Nat → Option (List Nat × List Nat)
  | _ => none
def tbl_ref25_Small : Nat → Option (List Nat × List Nat × List Nat)
  | 1 => some ([0, 1, 3, 0, 8, 24, 56, 120, 7, 511], [], []) | _ => none
def F_ref25_Small : AFunc := ⟨24,
  .seq (.reg [⟨(some 1), .box (.t 0), none⟩,
    ⟨(some 2), .alloc (.agg [(.int .i64 0), (.int .i64 0), (.int .i64 0)]), none⟩]) <|
  .seq (.dreg [⟨(some 5), .fadd (.t 1) 0, none⟩,
    ⟨(some 6), .ld (.t 5) 1 false, none⟩,
    ⟨(some 7), .bin .rem (.t 6) (.c (.int .i64 41)), none⟩,
    ⟨(some 8), .fadd (.t 1) 1, none⟩,
    ⟨(some 9), .ld (.t 8) 1 false, none⟩,
    ⟨(some 10), .bin .rem (.t 9) (.c (.int .u32 9)), none⟩,
    ⟨(some 11), .conv .i64 (.t 10), none⟩,
    ⟨(some 12), .bin .add (.t 11) (.c (.int .i64 1)), none⟩,
    ⟨(some 3), .mov (.t 7), none⟩,
    ⟨(some 4), .mov (.t 12), none⟩] [] []) <|
  .seq (.reg [⟨(some 13), .mov (.t 3), none⟩,
    ⟨(some 14), .mov (.t 3), none⟩,
    ⟨(some 15), .mov (.t 4), none⟩,
    ⟨(some 16), .fadd (.t 1) 2, none⟩,
    ⟨(some 17), .ld (.t 16) 1 false, none⟩,
    ⟨(some 18), .bin .rem (.t 17) (.c (.int .u16 15)), none⟩,
    ⟨(some 19), .conv .i64 (.t 18), none⟩,
    ⟨(some 20), .bin .mul (.t 15) (.t 19), none⟩,
    ⟨(some 21), .bin .add (.t 14) (.t 20), none⟩,
    ⟨(some 22), .mov (.t 4), none⟩,
    ⟨(some 23), .call n_ref25_Made [(.t 13), (.t 21), (.t 22)], none⟩,
    ⟨none, .st (.t 2) (.t 23) 3, none⟩]) <|
  .ret,
  [.cell 2 3 true]⟩
theorem F_ref25_Small_ok : cFn PP true n_ref25_Small loops_ref25_Small (cDr PP 24 tbl_ref25_Small) = some F_ref25_Small := by kernel_rfl


def V_ref25_Small (a0 : D) (h0 : Heap) (K : D → Heap → Prop) : Prop :=
  vhOp PP (.box (.c a0)) h0 fun a2 h3 =>
  vhOp PP (.alloc (.agg [(.int .i64 0), (.int .i64 0), (.int .i64 0)])) h3 fun a4 h5 =>
  vdOp PP (.fadd (.c a2) 0) h5 fun a6 =>
  vdOp PP (.ld (.c a6) 1 false) h5 fun a7 =>
  vbin .rem a7 (.int .i64 41) fun a8 =>
  vdOp PP (.fadd (.c a2) 1) h5 fun a9 =>
  vdOp PP (.ld (.c a9) 1 false) h5 fun a10 =>
  vbin .rem a10 (.int .u32 9) fun a11 =>
  vdOp PP (.conv .i64 (.c a11)) h5 fun a12 =>
  vbin .add a12 (.int .i64 1) fun a13 =>
  vhOp PP (.fadd (.c a2) 2) h5 fun a14 h15 =>
  vhOp PP (.ld (.c a14) 1 false) h15 fun a16 h17 =>
  vbin .rem a16 (.int .u16 15) fun a18 =>
  vhOp PP (.conv .i64 (.c a18)) h17 fun a19 h20 =>
  vbin .mul a13 a19 fun a21 =>
  vbin .add a8 a21 fun a22 =>
  ACall PP n_ref25_Made [a8, a22, a13] h20 fun a23 h24 =>
  vhOp PP (.st (.c a4) (.c a23) 3) h24 fun a25 h26 =>
  vhOp PP (.ld (.c a4) 3 true) h26 fun a27 _ =>
  K a27 h26
theorem V_ref25_Small_ok (a0 : D) (h0 : Heap) (K : D → Heap → Prop) : V_ref25_Small a0 h0 K = vcC PP F_ref25_Small.code (fun x e h' => match x with | .exit _ => False | _ => vcRet PP F_ref25_Small.res K e h') (params [a0] 0) h0 := by kernel_rfl

/-- warpwright/warpwrightref26.Valid -/
def loops_ref26_Valid : Nat → Option (List Nat × List Nat)
  | _ => none
def tbl_ref26_Valid : Nat → Option (List Nat × List Nat × List Nat)
  | 2 => some ([0, 0, 3, 7], [], []) | 3 => some ([0, 1, 3, 7, 15, 31, 63, 127, 255, 511, 1023, 2047, 4095, 8191, 16383, 32767, 65535, 131071, 262143, 524287, 524287, 524287, 4194303, 524287, 16777215, 33554431, 67108863, 134217727, 134217727, 134217727, 1073741823, 2147483647, 4294967295, 8589934591], [], []) | _ => none
def F_ref26_Valid : AFunc := ⟨45,
  .seq (.reg [⟨(some 3), .box (.t 0), none⟩,
    ⟨(some 5), .box (.t 2), none⟩,
    ⟨(some 6), .mov (.c (.bool false)), none⟩]) <|
  .seq (.seq (.reg [⟨(some 7), .fadd (.t 5) 0, none⟩,
    ⟨(some 8), .ld (.t 7) 1 false, none⟩]) <|
  .cond (.t 8) (.seq (.dreg [⟨(some 9), .ld (.t 5) 7 true, none⟩,
    ⟨(some 10), .call n_ref26_anything [], none⟩,
    ⟨(some 11), .eqv false true [.b, .i, .i, .i, .i, .i, .i] (.t 9) (.t 10), none⟩,
    ⟨(some 6), .mov (.t 11), none⟩] [] []) <|
  .ret) (.skip)) <|
  .seq (.dreg [⟨(some 12), .fadd (.t 5) 4, none⟩,
    ⟨(some 13), .ld (.t 12) 3 true, none⟩,
    ⟨(some 14), .call n_ref25_Valid [(.t 13)], none⟩,
    ⟨(some 15), .mov (.t 14), none⟩,
    ⟨(some 16), .fadd (.t 5) 1, some (15, true)⟩,
    ⟨(some 17), .ld (.t 16) 1 false, some (15, true)⟩,
    ⟨(some 18), .call n_ref26_small [(.t 17)], some (15, true)⟩,
    ⟨(some 19), .pick (.t 15) (.t 18) (.c (.bool false)), none⟩,
    ⟨(some 20), .mov (.t 19), none⟩,
    ⟨(some 21), .fadd (.t 5) 2, some (20, true)⟩,
    ⟨(some 22), .ld (.t 21) 1 false, some (20, true)⟩,
    ⟨(some 23), .call n_ref26_small [(.t 22)], some (20, true)⟩,
    ⟨(some 24), .pick (.t 20) (.t 23) (.c (.bool false)), none⟩,
    ⟨(some 25), .mov (.t 24), none⟩,
    ⟨(some 26), .fadd (.t 5) 3, some (25, true)⟩,
    ⟨(some 27), .ld (.t 26) 1 false, some (25, true)⟩,
    ⟨(some 28), .call n_ref26_small [(.t 27)], some (25, true)⟩,
    ⟨(some 29), .pick (.t 25) (.t 28) (.c (.bool false)), none⟩,
    ⟨(some 30), .mov (.t 29), none⟩,
    ⟨(some 31), .ld (.t 3) 8 true, some (30, true)⟩,
    ⟨(some 32), .mov (.t 1), some (30, true)⟩,
    ⟨(some 33), .ld (.t 5) 7 true, some (30, true)⟩,
    ⟨(some 34), .call n_ref26_canonical [(.t 31), (.t 32), (.t 33)], some (30, true)⟩,
    ⟨(some 35), .ld (.t 5) 7 true, some (30, true)⟩,
    ⟨(some 36), .eqv false true [.b, .i, .i, .i, .i, .i, .i] (.t 34) (.t 35), some (30, true)⟩,
    ⟨(some 37), .pick (.t 30) (.t 36) (.c (.bool false)), none⟩,
    ⟨(some 38), .mov (.t 37), none⟩,
    ⟨(some 39), .ld (.t 3) 8 true, some (38, true)⟩,
    ⟨(some 40), .mov (.t 1), some (38, true)⟩,
    ⟨(some 41), .ld (.t 5) 7 true, some (38, true)⟩,
    ⟨(some 42), .call n_ref26_RangeIn [(.t 39), (.t 40), (.t 41)], some (38, true)⟩,
    ⟨(some 43), .call n_ref26_word [(.t 42)], some (38, true)⟩,
    ⟨(some 44), .pick (.t 38) (.t 43) (.c (.bool false)), none⟩,
    ⟨(some 6), .mov (.t 44), none⟩] [] []) <|
  .ret,
  [.t 6]⟩
theorem F_ref26_Valid_ok : cFn PP true n_ref26_Valid loops_ref26_Valid (cDr PP 45 tbl_ref26_Valid) = some F_ref26_Valid := by kernel_rfl


def V_ref26_Valid (a0 : D) (a1 : D) (a2 : D) (h0 : Heap) (K : D → Heap → Prop) : Prop :=
  vhOp PP (.box (.c a0)) h0 fun a4 h5 =>
  vhOp PP (.box (.c a2)) h5 fun a6 h7 =>
  vhOp PP (.fadd (.c a6) 0) h7 fun a8 h9 =>
  vhOp PP (.ld (.c a8) 1 false) h9 fun a10 h11 =>
  vcond a10 (vdOp PP (.ld (.c a6) 7 true) h11 fun a12 =>
  vdOp PP (.call n_ref26_anything []) h11 fun a13 =>
  vdOp PP (.eqv false true [.b, .i, .i, .i, .i, .i, .i] (.c a12) (.c a13)) h11 fun a14 =>
  K a14 h11) (
  vdOp PP (.fadd (.c a6) 4) h11 fun a15 =>
  vdOp PP (.ld (.c a15) 3 true) h11 fun a16 =>
  vdOp PP (.call n_ref25_Valid [(.c a16)]) h11 fun a17 =>
  vguard1 a17 true (fun G18 =>
  vdOp PP (.fadd (.c a6) 1) h11 fun a118 =>
  G18 a118) fun a19 =>
  vguard1 a17 true (fun G22 =>
  vdOp PP (.ld (.c a19) 1 false) h11 fun a117 =>
  G22 a117) fun a23 =>
  vguard1 a17 true (fun G26 =>
  vdOp PP (.call n_ref26_small [(.c a23)]) h11 fun a116 =>
  G26 a116) fun a27 =>
  vdOp PP (.pick (.c a17) (.c a27) (.c (.bool false))) h11 fun a30 =>
  vguard1 a30 true (fun G31 =>
  vdOp PP (.fadd (.c a6) 2) h11 fun a115 =>
  G31 a115) fun a32 =>
  vguard1 a30 true (fun G35 =>
  vdOp PP (.ld (.c a32) 1 false) h11 fun a114 =>
  G35 a114) fun a36 =>
  vguard1 a30 true (fun G39 =>
  vdOp PP (.call n_ref26_small [(.c a36)]) h11 fun a113 =>
  G39 a113) fun a40 =>
  vdOp PP (.pick (.c a30) (.c a40) (.c (.bool false))) h11 fun a43 =>
  vguard1 a43 true (fun G44 =>
  vdOp PP (.fadd (.c a6) 3) h11 fun a112 =>
  G44 a112) fun a45 =>
  vguard1 a43 true (fun G48 =>
  vdOp PP (.ld (.c a45) 1 false) h11 fun a111 =>
  G48 a111) fun a49 =>
  vguard1 a43 true (fun G52 =>
  vdOp PP (.call n_ref26_small [(.c a49)]) h11 fun a110 =>
  G52 a110) fun a53 =>
  vdOp PP (.pick (.c a43) (.c a53) (.c (.bool false))) h11 fun a56 =>
  vguard1 a56 true (fun G57 =>
  vdOp PP (.ld (.c a4) 8 true) h11 fun a109 =>
  G57 a109) fun a58 =>
  vguard1 a56 true (fun G61 =>
  G61 a1) fun a62 =>
  vguard1 a56 true (fun G64 =>
  vdOp PP (.ld (.c a6) 7 true) h11 fun a108 =>
  G64 a108) fun a65 =>
  vguard1 a56 true (fun G68 =>
  vdOp PP (.call n_ref26_canonical [(.c a58), (.c a62), (.c a65)]) h11 fun a107 =>
  G68 a107) fun a69 =>
  vguard1 a56 true (fun G72 =>
  vdOp PP (.ld (.c a6) 7 true) h11 fun a106 =>
  G72 a106) fun a73 =>
  vguard1 a56 true (fun G76 =>
  vdOp PP (.eqv false true [.b, .i, .i, .i, .i, .i, .i] (.c a69) (.c a73)) h11 fun a105 =>
  G76 a105) fun a77 =>
  vdOp PP (.pick (.c a56) (.c a77) (.c (.bool false))) h11 fun a80 =>
  vguard1 a80 true (fun G81 =>
  vdOp PP (.ld (.c a4) 8 true) h11 fun a104 =>
  G81 a104) fun a82 =>
  vguard1 a80 true (fun G85 =>
  G85 a1) fun a86 =>
  vguard1 a80 true (fun G88 =>
  vdOp PP (.ld (.c a6) 7 true) h11 fun a103 =>
  G88 a103) fun a89 =>
  vguard1 a80 true (fun G92 =>
  vdOp PP (.call n_ref26_RangeIn [(.c a82), (.c a86), (.c a89)]) h11 fun a102 =>
  G92 a102) fun a93 =>
  vguard1 a80 true (fun G96 =>
  vdOp PP (.call n_ref26_word [(.c a93)]) h11 fun a101 =>
  G96 a101) fun a97 =>
  vdOp PP (.pick (.c a80) (.c a97) (.c (.bool false))) h11 fun a100 =>
  K a100 h11)
theorem V_ref26_Valid_ok (a0 : D) (a1 : D) (a2 : D) (h0 : Heap) (K : D → Heap → Prop) : V_ref26_Valid a0 a1 a2 h0 K = vcC PP F_ref26_Valid.code (fun x e h' => match x with | .exit _ => False | _ => vcRet PP F_ref26_Valid.res K e h') (params [a0, a1, a2] 0) h0 := by kernel_rfl

/-- warpwright/affine.Range -/
def loops_affine_Range : Nat → Option (List Nat × List Nat)
  | _ => none
def tbl_affine_Range : Nat → Option (List Nat × List Nat × List Nat)
  | _ => none
def F_affine_Range : AFunc := ⟨15,
  .seq (.reg [⟨(some 3), .box (.t 0), none⟩,
    ⟨(some 5), .box (.t 2), none⟩,
    ⟨(some 6), .alloc (.agg [(.int .i64 0), (.int .i64 0), (.int .i64 0)]), none⟩,
    ⟨(some 7), .mov (.c (.bool false)), none⟩]) <|
  .seq (.reg [⟨(some 8), .ld (.t 3) 8 true, none⟩,
    ⟨(some 9), .mov (.t 1), none⟩,
    ⟨(some 10), .bld [(.int .i64 0), (.int .i64 0), (.int .i64 0), (.int .i64 0), (.int .i64 0), .nil, .nil, .nil, (.int .i64 0)] [(0, 8, (.t 8)), (8, 1, (.t 9))], none⟩,
    ⟨(some 11), .ld (.t 5) 7 true, none⟩,
    ⟨(some 12), .call n_affine_space_span [(.t 10), (.t 11)], none⟩,
    ⟨(some 13), .ext (.t 12) 0, none⟩,
    ⟨(some 14), .ext (.t 12) 1, none⟩,
    ⟨none, .st (.t 6) (.t 13) 3, none⟩,
    ⟨(some 7), .mov (.t 14), none⟩]) <|
  .ret,
  [.cell 6 3 true, .t 7]⟩
theorem F_affine_Range_ok : cFn PP true n_affine_Range loops_affine_Range (cDr PP 15 tbl_affine_Range) = some F_affine_Range := by kernel_rfl


def V_affine_Range (a0 : D) (a1 : D) (a2 : D) (h0 : Heap) (K : D → Heap → Prop) : Prop :=
  vhOp PP (.box (.c a0)) h0 fun a4 h5 =>
  vhOp PP (.box (.c a2)) h5 fun a6 h7 =>
  vhOp PP (.alloc (.agg [(.int .i64 0), (.int .i64 0), (.int .i64 0)])) h7 fun a8 h9 =>
  vhOp PP (.ld (.c a4) 8 true) h9 fun a10 h11 =>
  vhOp PP (.bld [(.int .i64 0), (.int .i64 0), (.int .i64 0), (.int .i64 0), (.int .i64 0), .nil, .nil, .nil, (.int .i64 0)] [(0, 8, (.c a10)), (8, 1, (.c a1))]) h11 fun a12 h13 =>
  vhOp PP (.ld (.c a6) 7 true) h13 fun a14 h15 =>
  ACall PP n_affine_space_span [a12, a14] h15 fun a16 h17 =>
  vhOp PP (.ext (.c a16) 0) h17 fun a18 h19 =>
  vhOp PP (.ext (.c a16) 1) h19 fun a20 h21 =>
  vhOp PP (.st (.c a8) (.c a18) 3) h21 fun a22 h23 =>
  vhOp PP (.ld (.c a8) 3 true) h23 fun a24 _ =>
  K (.tup [a24, a20]) h23
theorem V_affine_Range_ok (a0 : D) (a1 : D) (a2 : D) (h0 : Heap) (K : D → Heap → Prop) : V_affine_Range a0 a1 a2 h0 K = vcC PP F_affine_Range.code (fun x e h' => match x with | .exit _ => False | _ => vcRet PP F_affine_Range.res K e h') (params [a0, a1, a2] 0) h0 := by kernel_rfl

/-- warpwright/affine.Has -/
def loops_affine_Has : Nat → Option (List Nat × List Nat)
  | _ => none
def tbl_affine_Has : Nat → Option (List Nat × List Nat × List Nat)
  | _ => none
def F_affine_Has : AFunc := ⟨35,
  .seq (.reg [⟨(some 5), .box (.t 0), none⟩,
    ⟨(some 10), .mov (.c (.bool false)), none⟩]) <|
  .seq (.reg [⟨(some 11), .fadd (.t 5) 0, none⟩,
    ⟨(some 12), .ld (.t 11) 1 false, none⟩,
    ⟨(some 13), .mov (.t 12), none⟩,
    ⟨(some 14), .fadd (.t 5) 4, some (13, false)⟩,
    ⟨(some 15), .ld (.t 14) 3 true, some (13, false)⟩,
    ⟨(some 16), .mov (.t 4), some (13, false)⟩,
    ⟨(some 17), .conv .i64 (.t 16), some (13, false)⟩,
    ⟨(some 18), .fadd (.t 5) 1, some (13, false)⟩,
    ⟨(some 19), .ld (.t 18) 1 false, some (13, false)⟩,
    ⟨(some 20), .mov (.t 1), some (13, false)⟩,
    ⟨(some 21), .bin .mul (.t 19) (.t 20), some (13, false)⟩,
    ⟨(some 22), .bin .sub (.t 17) (.t 21), some (13, false)⟩,
    ⟨(some 23), .fadd (.t 5) 2, some (13, false)⟩,
    ⟨(some 24), .ld (.t 23) 1 false, some (13, false)⟩,
    ⟨(some 25), .mov (.t 2), some (13, false)⟩,
    ⟨(some 26), .bin .mul (.t 24) (.t 25), some (13, false)⟩,
    ⟨(some 27), .bin .sub (.t 22) (.t 26), some (13, false)⟩,
    ⟨(some 28), .fadd (.t 5) 3, some (13, false)⟩,
    ⟨(some 29), .ld (.t 28) 1 false, some (13, false)⟩,
    ⟨(some 30), .mov (.t 3), some (13, false)⟩,
    ⟨(some 31), .bin .mul (.t 29) (.t 30), some (13, false)⟩,
    ⟨(some 32), .bin .sub (.t 27) (.t 31), some (13, false)⟩,
    ⟨(some 33), .call n_span_Has [(.t 15), (.t 32)], some (13, false)⟩,
    ⟨(some 34), .pick (.t 13) (.c (.bool true)) (.t 33), none⟩,
    ⟨(some 10), .mov (.t 34), none⟩]) <|
  .ret,
  [.t 10]⟩
theorem F_affine_Has_ok : cFn PP true n_affine_Has loops_affine_Has (cDr PP 35 tbl_affine_Has) = some F_affine_Has := by kernel_rfl


def V_affine_Has (a0 : D) (a1 : D) (a2 : D) (a3 : D) (a4 : D) (h0 : Heap) (K : D → Heap → Prop) : Prop :=
  vhOp PP (.box (.c a0)) h0 fun a6 h7 =>
  vhOp PP (.fadd (.c a6) 0) h7 fun a8 h9 =>
  vhOp PP (.ld (.c a8) 1 false) h9 fun a10 h11 =>
  vguard a10 false (fun G12 =>
  vhOp PP (.fadd (.c a6) 4) h11 fun a15 h16 =>
  G12 a15 h16) h11 fun a13 h14 =>
  vguard a10 false (fun G17 =>
  vhOp PP (.ld (.c a13) 3 true) h14 fun a20 h21 =>
  G17 a20 h21) h14 fun a18 h19 =>
  vguard a10 false (fun G22 =>
  G22 a4 h19) h19 fun a23 h24 =>
  vguard a10 false (fun G25 =>
  vhOp PP (.conv .i64 (.c a23)) h24 fun a28 h29 =>
  G25 a28 h29) h24 fun a26 h27 =>
  vguard a10 false (fun G30 =>
  vhOp PP (.fadd (.c a6) 1) h27 fun a33 h34 =>
  G30 a33 h34) h27 fun a31 h32 =>
  vguard a10 false (fun G35 =>
  vhOp PP (.ld (.c a31) 1 false) h32 fun a38 h39 =>
  G35 a38 h39) h32 fun a36 h37 =>
  vguard a10 false (fun G40 =>
  G40 a1 h37) h37 fun a41 h42 =>
  vguard a10 false (fun G43 =>
  vbin .mul a36 a41 fun a46 =>
  G43 a46 h42) h42 fun a44 h45 =>
  vguard a10 false (fun G47 =>
  vbin .sub a26 a44 fun a50 =>
  G47 a50 h45) h45 fun a48 h49 =>
  vguard a10 false (fun G51 =>
  vhOp PP (.fadd (.c a6) 2) h49 fun a54 h55 =>
  G51 a54 h55) h49 fun a52 h53 =>
  vguard a10 false (fun G56 =>
  vhOp PP (.ld (.c a52) 1 false) h53 fun a59 h60 =>
  G56 a59 h60) h53 fun a57 h58 =>
  vguard a10 false (fun G61 =>
  G61 a2 h58) h58 fun a62 h63 =>
  vguard a10 false (fun G64 =>
  vbin .mul a57 a62 fun a67 =>
  G64 a67 h63) h63 fun a65 h66 =>
  vguard a10 false (fun G68 =>
  vbin .sub a48 a65 fun a71 =>
  G68 a71 h66) h66 fun a69 h70 =>
  vguard a10 false (fun G72 =>
  vhOp PP (.fadd (.c a6) 3) h70 fun a75 h76 =>
  G72 a75 h76) h70 fun a73 h74 =>
  vguard a10 false (fun G77 =>
  vhOp PP (.ld (.c a73) 1 false) h74 fun a80 h81 =>
  G77 a80 h81) h74 fun a78 h79 =>
  vguard a10 false (fun G82 =>
  G82 a3 h79) h79 fun a83 h84 =>
  vguard a10 false (fun G85 =>
  vbin .mul a78 a83 fun a88 =>
  G85 a88 h84) h84 fun a86 h87 =>
  vguard a10 false (fun G89 =>
  vbin .sub a69 a86 fun a92 =>
  G89 a92 h87) h87 fun a90 h91 =>
  vguard a10 false (fun G93 =>
  ACall PP n_span_Has [a18, a90] h91 fun a96 h97 =>
  G93 a96 h97) h91 fun a94 h95 =>
  vhOp PP (.pick (.c a10) (.c (.bool true)) (.c a94)) h95 fun a98 h99 =>
  K a98 h99
theorem V_affine_Has_ok (a0 : D) (a1 : D) (a2 : D) (a3 : D) (a4 : D) (h0 : Heap) (K : D → Heap → Prop) : V_affine_Has a0 a1 a2 a3 a4 h0 K = vcC PP F_affine_Has.code (fun x e h' => match x with | .exit _ => False | _ => vcRet PP F_affine_Has.res K e h') (params [a0, a1, a2, a3, a4] 0) h0 := by kernel_rfl

/-- warpwright/warpwrightref25.Has -/
def loops_ref25_Has : Nat → Option (List Nat × List Nat)
  | _ => none
def tbl_ref25_Has : Nat → Option (List Nat × List Nat × List Nat)
  | _ => none
def F_ref25_Has : AFunc := ⟨28,
  .seq (.reg [⟨(some 2), .box (.t 0), none⟩,
    ⟨(some 4), .mov (.c (.bool false)), none⟩]) <|
  .seq (.seq (.reg [⟨(some 5), .mov (.t 1), none⟩,
    ⟨(some 6), .fadd (.t 2) 0, none⟩,
    ⟨(some 7), .ld (.t 6) 1 false, none⟩,
    ⟨(some 8), .bin .lss (.t 5) (.t 7), none⟩,
    ⟨(some 9), .mov (.t 8), none⟩,
    ⟨(some 10), .mov (.t 1), some (9, false)⟩,
    ⟨(some 11), .fadd (.t 2) 1, some (9, false)⟩,
    ⟨(some 12), .ld (.t 11) 1 false, some (9, false)⟩,
    ⟨(some 13), .bin .gtr (.t 10) (.t 12), some (9, false)⟩,
    ⟨(some 14), .pick (.t 9) (.c (.bool true)) (.t 13), none⟩]) <|
  .cond (.t 14) (.seq (.reg [⟨(some 4), .mov (.c (.bool false)), none⟩]) <|
  .ret) (.skip)) <|
  .seq (.reg [⟨(some 15), .fadd (.t 2) 2, none⟩,
    ⟨(some 16), .ld (.t 15) 1 false, none⟩,
    ⟨(some 17), .bin .eql (.t 16) (.c (.int .i64 0)), none⟩,
    ⟨(some 18), .mov (.t 17), none⟩,
    ⟨(some 19), .mov (.t 1), some (18, false)⟩,
    ⟨(some 20), .fadd (.t 2) 0, some (18, false)⟩,
    ⟨(some 21), .ld (.t 20) 1 false, some (18, false)⟩,
    ⟨(some 22), .bin .sub (.t 19) (.t 21), some (18, false)⟩,
    ⟨(some 23), .fadd (.t 2) 2, some (18, false)⟩,
    ⟨(some 24), .ld (.t 23) 1 false, some (18, false)⟩,
    ⟨(some 25), .bin .rem (.t 22) (.t 24), some (18, false)⟩,
    ⟨(some 26), .bin .eql (.t 25) (.c (.int .i64 0)), some (18, false)⟩,
    ⟨(some 27), .pick (.t 18) (.c (.bool true)) (.t 26), none⟩,
    ⟨(some 4), .mov (.t 27), none⟩]) <|
  .ret,
  [.t 4]⟩
theorem F_ref25_Has_ok : cFn PP true n_ref25_Has loops_ref25_Has (cDr PP 28 tbl_ref25_Has) = some F_ref25_Has := by kernel_rfl


def V_ref25_Has (a0 : D) (a1 : D) (h0 : Heap) (K : D → Heap → Prop) : Prop :=
  vhOp PP (.box (.c a0)) h0 fun a3 h4 =>
  vhOp PP (.fadd (.c a3) 0) h4 fun a5 h6 =>
  vhOp PP (.ld (.c a5) 1 false) h6 fun a7 h8 =>
  vbin .lss a1 a7 fun a9 =>
  vguard a9 false (fun G10 =>
  G10 a1 h8) h8 fun a11 h12 =>
  vguard a9 false (fun G13 =>
  vhOp PP (.fadd (.c a3) 1) h12 fun a16 h17 =>
  G13 a16 h17) h12 fun a14 h15 =>
  vguard a9 false (fun G18 =>
  vhOp PP (.ld (.c a14) 1 false) h15 fun a21 h22 =>
  G18 a21 h22) h15 fun a19 h20 =>
  vguard a9 false (fun G23 =>
  vbin .gtr a11 a19 fun a26 =>
  G23 a26 h20) h20 fun a24 h25 =>
  vhOp PP (.pick (.c a9) (.c (.bool true)) (.c a24)) h25 fun a27 h28 =>
  vcond a27 (K (.bool false) h28) (
  vhOp PP (.fadd (.c a3) 2) h28 fun a29 h30 =>
  vhOp PP (.ld (.c a29) 1 false) h30 fun a31 h32 =>
  vbin .eql a31 (.int .i64 0) fun a33 =>
  vguard a33 false (fun G34 =>
  G34 a1 h32) h32 fun a35 h36 =>
  vguard a33 false (fun G37 =>
  vhOp PP (.fadd (.c a3) 0) h36 fun a40 h41 =>
  G37 a40 h41) h36 fun a38 h39 =>
  vguard a33 false (fun G42 =>
  vhOp PP (.ld (.c a38) 1 false) h39 fun a45 h46 =>
  G42 a45 h46) h39 fun a43 h44 =>
  vguard a33 false (fun G47 =>
  vbin .sub a35 a43 fun a50 =>
  G47 a50 h44) h44 fun a48 h49 =>
  vguard a33 false (fun G51 =>
  vhOp PP (.fadd (.c a3) 2) h49 fun a54 h55 =>
  G51 a54 h55) h49 fun a52 h53 =>
  vguard a33 false (fun G56 =>
  vhOp PP (.ld (.c a52) 1 false) h53 fun a59 h60 =>
  G56 a59 h60) h53 fun a57 h58 =>
  vguard a33 false (fun G61 =>
  vbin .rem a48 a57 fun a64 =>
  G61 a64 h58) h58 fun a62 h63 =>
  vguard a33 false (fun G65 =>
  vbin .eql a62 (.int .i64 0) fun a68 =>
  G65 a68 h63) h63 fun a66 h67 =>
  vhOp PP (.pick (.c a33) (.c (.bool true)) (.c a66)) h67 fun a69 h70 =>
  K a69 h70)
theorem V_ref25_Has_ok (a0 : D) (a1 : D) (h0 : Heap) (K : D → Heap → Prop) : V_ref25_Has a0 a1 h0 K = vcC PP F_ref25_Has.code (fun x e h' => match x with | .exit _ => False | _ => vcRet PP F_ref25_Has.res K e h') (params [a0, a1] 0) h0 := by kernel_rfl

/-- warpwright/warpwrightlaw26.id -/
def loops_law26_id : Nat → Option (List Nat × List Nat)
  | _ => none
def tbl_law26_id : Nat → Option (List Nat × List Nat × List Nat)
  | _ => none
def F_law26_id : AFunc := ⟨9,
  .seq (.reg [⟨(some 4), .alloc (.agg [(.int .i64 0), (.int .i64 0), (.int .i64 0), (.int .i64 0), (.int .i64 0), (.int .i32 0), (.int .i64 0), (.int .i64 0), (.int .i32 0), (.int .i64 0), (.int .i64 0), (.int .i32 0), (.int .i64 0), (.int .i64 0), (.int .i32 0)]), none⟩]) <|
  .seq (.reg [⟨(some 5), .mov (.t 1), none⟩,
    ⟨(some 6), .mov (.t 0), none⟩,
    ⟨(some 7), .call n_ref05_Reg [(.t 6)], none⟩,
    ⟨(some 8), .bld [(.int .i64 0), (.int .i64 0), (.int .i64 0), (.int .i64 0), (.int .i64 0), (.int .i32 0), (.int .i64 0), (.int .i64 0), (.int .i32 0), (.int .i64 0), (.int .i64 0), (.int .i32 0), (.int .i64 0), (.int .i64 0), (.int .i32 0)] [(0, 1, (.c (.int .i64 5))), (1, 1, (.t 5)), (3, 3, (.t 7))], none⟩,
    ⟨none, .st (.t 4) (.t 8) 15, none⟩]) <|
  .ret,
  [.cell 4 15 true]⟩
theorem F_law26_id_ok : cFn PP true n_law26_id loops_law26_id (cDr PP 9 tbl_law26_id) = some F_law26_id := by kernel_rfl


def V_law26_id (a0 : D) (a1 : D) (h0 : Heap) (K : D → Heap → Prop) : Prop :=
  vhOp PP (.alloc (.agg [(.int .i64 0), (.int .i64 0), (.int .i64 0), (.int .i64 0), (.int .i64 0), (.int .i32 0), (.int .i64 0), (.int .i64 0), (.int .i32 0), (.int .i64 0), (.int .i64 0), (.int .i32 0), (.int .i64 0), (.int .i64 0), (.int .i32 0)])) h0 fun a3 h4 =>
  ACall PP n_ref05_Reg [a0] h4 fun a5 h6 =>
  vhOp PP (.bld [(.int .i64 0), (.int .i64 0), (.int .i64 0), (.int .i64 0), (.int .i64 0), (.int .i32 0), (.int .i64 0), (.int .i64 0), (.int .i32 0), (.int .i64 0), (.int .i64 0), (.int .i32 0), (.int .i64 0), (.int .i64 0), (.int .i32 0)] [(0, 1, (.c (.int .i64 5))), (1, 1, (.c a1)), (3, 3, (.c a5))]) h6 fun a7 h8 =>
  vhOp PP (.st (.c a3) (.c a7) 15) h8 fun a9 h10 =>
  vhOp PP (.ld (.c a3) 15 true) h10 fun a11 _ =>
  K a11 h10
theorem V_law26_id_ok (a0 : D) (a1 : D) (h0 : Heap) (K : D → Heap → Prop) : V_law26_id a0 a1 h0 K = vcC PP F_law26_id.code (fun x e h' => match x with | .exit _ => False | _ => vcRet PP F_law26_id.res K e h') (params [a0, a1] 0) h0 := by kernel_rfl

/-- warpwright/warpwrightlaw26.bin -/
def loops_law26_bin : Nat → Option (List Nat × List Nat)
  | _ => none
def tbl_law26_bin : Nat → Option (List Nat × List Nat × List Nat)
  | 1 => some ([0, 0, 2, 0, 0, 31, 63], [6], []) | _ => none
def F_law26_bin : AFunc := ⟨15,
  .seq (.reg [⟨(some 6), .box (.t 2), none⟩,
    ⟨(some 7), .box (.t 3), none⟩,
    ⟨(some 8), .alloc (.agg [(.int .i64 0), (.int .i64 0), (.int .i64 0), (.int .i64 0), (.int .i64 0), (.int .i32 0), (.int .i64 0), (.int .i64 0), (.int .i32 0), (.int .i64 0), (.int .i64 0), (.int .i32 0), (.int .i64 0), (.int .i64 0), (.int .i32 0)]), none⟩]) <|
  .seq (.dreg [⟨(some 9), .mov (.t 0), none⟩,
    ⟨(some 10), .mov (.t 1), none⟩,
    ⟨(some 11), .call n_ref05_Reg [(.t 10)], none⟩,
    ⟨(some 12), .ld (.t 6) 3 true, none⟩,
    ⟨(some 13), .ld (.t 7) 3 true, none⟩,
    ⟨(some 14), .bld [(.int .i64 0), (.int .i64 0), (.int .i64 0), (.int .i64 0), (.int .i64 0), (.int .i32 0), (.int .i64 0), (.int .i64 0), (.int .i32 0), (.int .i64 0), (.int .i64 0), (.int .i32 0), (.int .i64 0), (.int .i64 0), (.int .i32 0)] [(0, 1, (.c (.int .i64 3))), (1, 1, (.t 9)), (3, 3, (.t 11)), (6, 3, (.t 12)), (9, 3, (.t 13))], none⟩] [⟨none, .st (.t 8) (.t 14) 15, none⟩] []) <|
  .ret,
  [.cell 8 15 true]⟩
theorem F_law26_bin_ok : cFn PP true n_law26_bin loops_law26_bin (cDr PP 15 tbl_law26_bin) = some F_law26_bin := by kernel_rfl


def V_law26_bin (a0 : D) (a1 : D) (a2 : D) (a3 : D) (h0 : Heap) (K : D → Heap → Prop) : Prop :=
  vhOp PP (.box (.c a2)) h0 fun a5 h6 =>
  vhOp PP (.box (.c a3)) h6 fun a7 h8 =>
  vhOp PP (.alloc (.agg [(.int .i64 0), (.int .i64 0), (.int .i64 0), (.int .i64 0), (.int .i64 0), (.int .i32 0), (.int .i64 0), (.int .i64 0), (.int .i32 0), (.int .i64 0), (.int .i64 0), (.int .i32 0), (.int .i64 0), (.int .i64 0), (.int .i32 0)])) h8 fun a9 h10 =>
  vdOp PP (.call n_ref05_Reg [(.c a1)]) h10 fun a11 =>
  vdOp PP (.ld (.c a5) 3 true) h10 fun a12 =>
  vdOp PP (.ld (.c a7) 3 true) h10 fun a13 =>
  vdOp PP (.bld [(.int .i64 0), (.int .i64 0), (.int .i64 0), (.int .i64 0), (.int .i64 0), (.int .i32 0), (.int .i64 0), (.int .i64 0), (.int .i32 0), (.int .i64 0), (.int .i64 0), (.int .i32 0), (.int .i64 0), (.int .i64 0), (.int .i32 0)] [(0, 1, (.c (.int .i64 3))), (1, 1, (.c a0)), (3, 3, (.c a11)), (6, 3, (.c a12)), (9, 3, (.c a13))]) h10 fun a14 =>
  vhOp PP (.st (.c a9) (.c a14) 15) h10 fun a15 h16 =>
  vhOp PP (.ld (.c a9) 15 true) h16 fun a17 _ =>
  K a17 h16
theorem V_law26_bin_ok (a0 : D) (a1 : D) (a2 : D) (a3 : D) (h0 : Heap) (K : D → Heap → Prop) : V_law26_bin a0 a1 a2 a3 h0 K = vcC PP F_law26_bin.code (fun x e h' => match x with | .exit _ => False | _ => vcRet PP F_law26_bin.res K e h') (params [a0, a1, a2, a3] 0) h0 := by kernel_rfl

/-- warpwright/warpwrightref05.Const -/
def loops_ref05_Const : Nat → Option (List Nat × List Nat)
  | _ => none
def tbl_ref05_Const : Nat → Option (List Nat × List Nat × List Nat)
  | _ => none
def F_ref05_Const : AFunc := ⟨5,
  .seq (.reg [⟨(some 2), .alloc (.agg [(.int .i64 0), (.int .i64 0), (.int .i32 0)]), none⟩]) <|
  .seq (.reg [⟨(some 3), .mov (.t 0), none⟩,
    ⟨(some 4), .bld [(.int .i64 0), (.int .i64 0), (.int .i32 0)] [(0, 1, (.c (.int .i64 1))), (2, 1, (.t 3))], none⟩,
    ⟨none, .st (.t 2) (.t 4) 3, none⟩]) <|
  .ret,
  [.cell 2 3 true]⟩
theorem F_ref05_Const_ok : cFn PP true n_ref05_Const loops_ref05_Const (cDr PP 5 tbl_ref05_Const) = some F_ref05_Const := by kernel_rfl


def V_ref05_Const (a0 : D) (h0 : Heap) (K : D → Heap → Prop) : Prop :=
  vhOp PP (.alloc (.agg [(.int .i64 0), (.int .i64 0), (.int .i32 0)])) h0 fun a2 h3 =>
  vhOp PP (.bld [(.int .i64 0), (.int .i64 0), (.int .i32 0)] [(0, 1, (.c (.int .i64 1))), (2, 1, (.c a0))]) h3 fun a4 h5 =>
  vhOp PP (.st (.c a2) (.c a4) 3) h5 fun a6 h7 =>
  vhOp PP (.ld (.c a2) 3 true) h7 fun a8 _ =>
  K a8 h7
theorem V_ref05_Const_ok (a0 : D) (h0 : Heap) (K : D → Heap → Prop) : V_ref05_Const a0 h0 K = vcC PP F_ref05_Const.code (fun x e h' => match x with | .exit _ => False | _ => vcRet PP F_ref05_Const.res K e h') (params [a0] 0) h0 := by kernel_rfl

/-- warpwright/warpwrightref05.Reg -/
def loops_ref05_Reg : Nat → Option (List Nat × List Nat)
  | _ => none
def tbl_ref05_Reg : Nat → Option (List Nat × List Nat × List Nat)
  | _ => none
def F_ref05_Reg : AFunc := ⟨5,
  .seq (.reg [⟨(some 2), .alloc (.agg [(.int .i64 0), (.int .i64 0), (.int .i32 0)]), none⟩]) <|
  .seq (.reg [⟨(some 3), .mov (.t 0), none⟩,
    ⟨(some 4), .bld [(.int .i64 0), (.int .i64 0), (.int .i32 0)] [(0, 1, (.c (.int .i64 2))), (1, 1, (.t 3))], none⟩,
    ⟨none, .st (.t 2) (.t 4) 3, none⟩]) <|
  .ret,
  [.cell 2 3 true]⟩
theorem F_ref05_Reg_ok : cFn PP true n_ref05_Reg loops_ref05_Reg (cDr PP 5 tbl_ref05_Reg) = some F_ref05_Reg := by kernel_rfl


def V_ref05_Reg (a0 : D) (h0 : Heap) (K : D → Heap → Prop) : Prop :=
  vhOp PP (.alloc (.agg [(.int .i64 0), (.int .i64 0), (.int .i32 0)])) h0 fun a2 h3 =>
  vhOp PP (.bld [(.int .i64 0), (.int .i64 0), (.int .i32 0)] [(0, 1, (.c (.int .i64 2))), (1, 1, (.c a0))]) h3 fun a4 h5 =>
  vhOp PP (.st (.c a2) (.c a4) 3) h5 fun a6 h7 =>
  vhOp PP (.ld (.c a2) 3 true) h7 fun a8 _ =>
  K a8 h7
theorem V_ref05_Reg_ok (a0 : D) (h0 : Heap) (K : D → Heap → Prop) : V_ref05_Reg a0 h0 K = vcC PP F_ref05_Reg.code (fun x e h' => match x with | .exit _ => False | _ => vcRet PP F_ref05_Reg.res K e h') (params [a0] 0) h0 := by kernel_rfl

/-- warpwright/affine.Find -/
def loops_affine_Find : Nat → Option (List Nat × List Nat)
  | 1000026 => some ([4, 6], []) | 6 => some ([2, 4, 5, 6, 7], [8, 9]) | 1000008 => some ([2, 4, 5, 6, 7, 8], [9]) | 10 => some ([2, 4, 5, 6, 7, 8, 42, 43], [9, 44]) | 1000025 => some ([2, 4, 5, 6, 7, 8, 42, 43, 44], [9]) | 15 => some ([2, 4, 5, 6, 7, 8, 10, 12, 42, 43, 44, 67, 68], [9, 69]) | 1000024 => some ([2, 4, 5, 6, 7, 8, 10, 12, 42, 43, 44, 67, 68, 69], [9]) | _ => none
def tbl_affine_Find : Nat → Option (List Nat × List Nat × List Nat)
  | 4 => some ([0, 1, 0, 0, 0, 16, 56, 123, 251, 511, 1023], [8, 10], [9]) | 13 => some ([0, 0, 2, 0, 14, 30, 0, 0, 128, 384, 1023, 2047], [], []) | 20 => some ([0, 1, 0, 0, 0, 0, 0, 0, 224, 487, 999, 2047, 4095, 8191], [10, 12], [11]) | 21 => some ([0, 0, 0, 4, 0, 28, 60, 0, 255, 511], [], []) | _ => none
def F_affine_Find : AFunc := ⟨115,
  .seq (.reg [⟨(some 2), .box (.t 0), none⟩,
    ⟨(some 4), .alloc (.agg [.nil]), none⟩]) <|
  .seq (.reg [⟨(some 17), .ld (.t 2) 8 true, none⟩,
    ⟨(some 18), .mov (.t 1), none⟩,
    ⟨(some 19), .bld [(.int .i64 0), (.int .i64 0), (.int .i64 0), (.int .i64 0), (.int .i64 0), .nil, .nil, .nil, (.int .i64 0)] [(0, 8, (.t 17)), (8, 1, (.t 18))], none⟩,
    ⟨(some 5), .alloc (.agg [(.int .i64 0), (.int .i64 0), (.int .i64 0), (.int .i64 0), (.int .i64 0), .nil, .nil, .nil, (.int .i64 0)]), none⟩,
    ⟨none, .st (.t 5) (.t 19) 9, none⟩]) <|
  .seq (.reg [⟨(some 20), .fadd (.t 2) 7, none⟩,
    ⟨(some 21), .ld (.t 20) 1 false, none⟩,
    ⟨(some 22), .len (.t 21), none⟩,
    ⟨(some 23), .mk 1 24 .nil (.t 22) (.t 22), none⟩,
    ⟨(some 24), .bld [.nil] [(0, 1, (.t 23))], none⟩,
    ⟨(some 6), .alloc (.agg [.nil]), none⟩,
    ⟨none, .st (.t 6) (.t 24) 1, none⟩]) <|
  .seq (.reg [⟨(some 25), .fadd (.t 2) 7, none⟩,
    ⟨(some 26), .ld (.t 25) 1 false, none⟩,
    ⟨(some 27), .len (.t 26), none⟩,
    ⟨(some 28), .mk 1 1 (.bool false) (.t 27) (.t 27), none⟩,
    ⟨(some 7), .mov (.t 28), none⟩]) <|
  .seq (.dreg [⟨(some 29), .fadd (.t 6) 0, none⟩,
    ⟨(some 30), .ld (.t 29) 1 false, none⟩,
    ⟨(some 31), .mov (.t 7), none⟩,
    ⟨(some 32), .ld (.t 5) 9 true, none⟩,
    ⟨(some 33), .ld (.t 5) 9 true, none⟩,
    ⟨(some 34), .call n_affine_space_zeros [(.t 33)], none⟩,
    ⟨(some 35), .call n_affine_space_begin [(.t 32), (.t 34), (.c (.int .i64 0))], none⟩,
    ⟨(some 36), .iadd (.t 30) (.c (.int .i64 0)) 1, none⟩,
    ⟨(some 37), .iadd (.t 31) (.c (.int .i64 0)) 1, none⟩] [⟨none, .st (.t 36) (.t 35) 1, none⟩,
    ⟨none, .st (.t 37) (.c (.bool true)) 1, none⟩] [⟨(some 37), .iadd (.t 31) (.c (.int .i64 0)) 1, none⟩]) <|
  .seqj [4, 6] [] (.seq (.reg [⟨(some 8), .mov (.c (.int .i64 1)), none⟩,
    ⟨(some 9), .mov (.c (.bool true)), none⟩]) <|
  .block 0 (.loop [2, 4, 5, 6, 7] [8, 9] (.seq (.seq (.reg [⟨(some 38), .mov (.t 9), none⟩]) <|
  .cond (.t 38) (.skip) (.exit 0)) <|
  .seqj [2, 4, 5, 6, 7, 8] [9] (.block 1 (.seq (.reg [⟨(some 9), .mov (.c (.bool false)), none⟩]) <|
  .seq (.reg [⟨(some 41), .fadd (.t 2) 7, none⟩,
    ⟨(some 42), .ld (.t 41) 1 false, none⟩,
    ⟨(some 43), .len (.t 42), none⟩,
    ⟨(some 44), .mov (.c (.int .i64 0)), none⟩]) <|
  .block 2 (.loop [2, 4, 5, 6, 7, 8, 42, 43] [9, 44] (.seq (.reg [⟨(some 45), .bin .lss (.t 44) (.t 43), none⟩]) <|
  .seq (.cond (.t 45) (.skip) (.exit 2)) <|
  .seqj [2, 4, 5, 6, 7, 8, 42, 43, 44] [9] (.block 3 (.seq (.reg [⟨(some 46), .mov (.t 44), none⟩,
    ⟨(some 47), .iadd (.t 42) (.t 44) 14, none⟩,
    ⟨(some 48), .ld (.t 47) 14 true, none⟩,
    ⟨(some 11), .alloc (.agg [.nil, (.int .i64 0), (.int .i64 0), (.int .i64 0), (.int .i64 0), (.int .i32 0), (.int .i64 0), (.int .i64 0), (.int .i32 0), (.int .i64 0), (.int .i64 0), (.int .i32 0), (.int .i64 0), (.int .i64 0)]), none⟩,
    ⟨(some 10), .mov (.t 46), none⟩,
    ⟨none, .st (.t 11) (.t 48) 14, none⟩]) <|
  .seq (.seq (.reg [⟨(some 49), .mov (.t 7), none⟩,
    ⟨(some 50), .mov (.t 10), none⟩,
    ⟨(some 51), .iadd (.t 49) (.t 50) 1, none⟩,
    ⟨(some 52), .ld (.t 51) 1 false, none⟩,
    ⟨(some 53), .un .not (.t 52), none⟩]) <|
  .cond (.t 53) (.exit 3) (.skip)) <|
  .seq (.dreg [⟨(some 54), .ld (.t 5) 9 true, none⟩,
    ⟨(some 55), .fadd (.t 6) 0, none⟩,
    ⟨(some 56), .ld (.t 55) 1 false, none⟩,
    ⟨(some 57), .mov (.t 10), none⟩,
    ⟨(some 58), .iadd (.t 56) (.t 57) 1, none⟩,
    ⟨(some 59), .ld (.t 58) 1 false, none⟩,
    ⟨(some 60), .mov (.t 10), none⟩,
    ⟨(some 61), .fadd (.t 11) 0, none⟩,
    ⟨(some 62), .ld (.t 61) 1 false, none⟩,
    ⟨(some 63), .len (.t 62), none⟩,
    ⟨(some 64), .call n_affine_space_after [(.t 54), (.t 59), (.t 60), (.t 63)], none⟩,
    ⟨(some 12), .mov (.t 64), none⟩] [] []) <|
  .seq (.reg [⟨(some 65), .fadd (.t 11) 1, none⟩,
    ⟨(some 66), .ld (.t 65) 13 true, none⟩,
    ⟨(some 67), .call n_code_Succ [(.t 66)], none⟩,
    ⟨(some 68), .len (.t 67), none⟩,
    ⟨(some 69), .mov (.c (.int .i64 0)), none⟩]) <|
  .block 4 (.loop [2, 4, 5, 6, 7, 8, 10, 12, 42, 43, 44, 67, 68] [9, 69] (.seq (.reg [⟨(some 70), .bin .lss (.t 69) (.t 68), none⟩]) <|
  .seq (.cond (.t 70) (.skip) (.exit 4)) <|
  .seqj [2, 4, 5, 6, 7, 8, 10, 12, 42, 43, 44, 67, 68, 69] [9] (.block 5 (.seq (.reg [⟨(some 71), .mov (.t 69), none⟩,
    ⟨(some 72), .iadd (.t 67) (.t 69) 1, none⟩,
    ⟨(some 73), .ld (.t 72) 1 false, none⟩,
    ⟨(some 13), .mov (.t 71), none⟩,
    ⟨(some 14), .mov (.t 73), none⟩]) <|
  .seq (.reg [⟨(some 75), .ld (.t 5) 9 true, none⟩,
    ⟨(some 76), .mov (.t 12), none⟩,
    ⟨(some 77), .mov (.t 10), none⟩,
    ⟨(some 78), .mov (.t 13), none⟩,
    ⟨(some 79), .call n_affine_space_along [(.t 75), (.t 76), (.t 77), (.t 78)], none⟩,
    ⟨(some 74), .mov (.t 79), none⟩,
    ⟨(some 80), .ext (.t 74) 0, none⟩,
    ⟨(some 81), .ext (.t 74) 1, none⟩,
    ⟨(some 15), .mov (.t 80), none⟩,
    ⟨(some 16), .mov (.t 81), none⟩]) <|
  .block 6 (.seq (.reg [⟨(some 83), .mov (.t 16), none⟩,
    ⟨(some 84), .un .not (.t 83), none⟩,
    ⟨(some 82), .mov (.t 84), none⟩]) <|
  .cond (.t 82) (.skip) (.seq (.reg [⟨(some 86), .mov (.t 7), none⟩,
    ⟨(some 87), .mov (.t 14), none⟩,
    ⟨(some 88), .iadd (.t 86) (.t 87) 1, none⟩,
    ⟨(some 89), .ld (.t 88) 1 false, none⟩,
    ⟨(some 90), .un .not (.t 89), none⟩,
    ⟨(some 85), .mov (.t 90), none⟩]) <|
  .cond (.t 85) (.dreg [⟨(some 91), .fadd (.t 6) 0, none⟩,
    ⟨(some 92), .ld (.t 91) 1 false, none⟩,
    ⟨(some 93), .mov (.t 14), none⟩,
    ⟨(some 94), .mov (.t 7), none⟩,
    ⟨(some 95), .mov (.t 14), none⟩,
    ⟨(some 96), .ld (.t 5) 9 true, none⟩,
    ⟨(some 97), .mov (.t 15), none⟩,
    ⟨(some 98), .mov (.t 14), none⟩,
    ⟨(some 99), .call n_affine_space_begin [(.t 96), (.t 97), (.t 98)], none⟩,
    ⟨(some 100), .iadd (.t 92) (.t 93) 1, none⟩,
    ⟨(some 101), .iadd (.t 94) (.t 95) 1, none⟩,
    ⟨(some 9), .mov (.c (.bool true)), none⟩] [⟨none, .st (.t 100) (.t 99) 1, none⟩,
    ⟨none, .st (.t 101) (.c (.bool true)) 1, none⟩] [⟨(some 101), .iadd (.t 94) (.t 95) 1, none⟩]) (.seq (.dreg [⟨(some 103), .ld (.t 5) 9 true, none⟩,
    ⟨(some 104), .mov (.t 15), none⟩,
    ⟨(some 105), .fadd (.t 6) 0, none⟩,
    ⟨(some 106), .ld (.t 105) 1 false, none⟩,
    ⟨(some 107), .mov (.t 14), none⟩,
    ⟨(some 108), .iadd (.t 106) (.t 107) 1, none⟩,
    ⟨(some 109), .ld (.t 108) 1 false, none⟩,
    ⟨(some 110), .mov (.t 8), none⟩,
    ⟨(some 111), .call n_affine_space_pass [(.t 103), (.t 104), (.t 109), (.t 110)], none⟩,
    ⟨(some 102), .mov (.t 111), none⟩] [] []) <|
  .cond (.t 102) (.reg [⟨(some 9), .mov (.c (.bool true)), none⟩]) (.skip)))))) <|
  .reg [⟨(some 112), .bin .add (.t 69) (.c (.int .i64 1)), none⟩,
    ⟨(some 69), .mov (.t 112), none⟩])))) <|
  .reg [⟨(some 113), .bin .add (.t 44) (.c (.int .i64 1)), none⟩,
    ⟨(some 44), .mov (.t 113), none⟩])))) <|
  .reg [⟨(some 39), .mov (.t 8), none⟩,
    ⟨(some 40), .bin .add (.t 39) (.c (.int .i64 1)), none⟩,
    ⟨(some 8), .mov (.t 40), none⟩]))) <|
  .seq (.reg [⟨(some 114), .ld (.t 6) 1 true, none⟩,
    ⟨none, .st (.t 4) (.t 114) 1, none⟩]) <|
  .ret,
  [.cell 4 1 true]⟩
theorem F_affine_Find_ok : cFn PP true n_affine_Find loops_affine_Find (cDr PP 115 tbl_affine_Find) = some F_affine_Find := by kernel_rfl

/-- warpwright/affine.Check -/
def loops_affine_Check : Nat → Option (List Nat × List Nat)
  | 1000011 => some ([3, 5, 7], []) | 5 => some ([3, 5, 7, 28, 29], [30]) | 1000028 => some ([], []) | 15 => some ([5, 7, 63, 64], [65]) | 1000027 => some ([5, 7, 63, 64, 65], []) | 20 => some ([5, 7, 10, 12, 63, 64, 65, 90, 91], [92]) | _ => none
def tbl_affine_Check : Nat → Option (List Nat × List Nat × List Nat)
  | 12 => some ([0, 0, 2, 6, 14, 0, 32, 127, 255], [], []) | 18 => some ([0, 0, 2, 0, 14, 30, 0, 0, 128, 384, 1023, 2047], [], []) | 23 => some ([0, 1, 3, 3, 11, 3, 59, 123, 3, 511, 1023, 2047], [], []) | _ => none
def F_affine_Check : AFunc := ⟨119,
  .seq (.reg [⟨(some 3), .box (.t 0), none⟩,
    ⟨(some 5), .box (.t 2), none⟩,
    ⟨(some 6), .mov (.c (.int .i64 0)), none⟩]) <|
  .seq (.reg [⟨(some 17), .ld (.t 3) 8 true, none⟩,
    ⟨(some 18), .mov (.t 1), none⟩,
    ⟨(some 19), .bld [(.int .i64 0), (.int .i64 0), (.int .i64 0), (.int .i64 0), (.int .i64 0), .nil, .nil, .nil, (.int .i64 0)] [(0, 8, (.t 17)), (8, 1, (.t 18))], none⟩,
    ⟨(some 7), .alloc (.agg [(.int .i64 0), (.int .i64 0), (.int .i64 0), (.int .i64 0), (.int .i64 0), .nil, .nil, .nil, (.int .i64 0)]), none⟩,
    ⟨none, .st (.t 7) (.t 19) 9, none⟩]) <|
  .seq (.seq (.reg [⟨(some 20), .fadd (.t 5) 0, none⟩,
    ⟨(some 21), .ld (.t 20) 1 false, none⟩,
    ⟨(some 22), .len (.t 21), none⟩,
    ⟨(some 23), .fadd (.t 3) 7, none⟩,
    ⟨(some 24), .ld (.t 23) 1 false, none⟩,
    ⟨(some 25), .len (.t 24), none⟩,
    ⟨(some 26), .bin .neq (.t 22) (.t 25), none⟩]) <|
  .cond (.t 26) (.seq (.reg [⟨(some 6), .mov (.c (.int .i64 100)), none⟩]) <|
  .ret) (.skip)) <|
  .seqj [3, 5, 7] [] (.seq (.reg [⟨(some 27), .fadd (.t 5) 0, none⟩,
    ⟨(some 28), .ld (.t 27) 1 false, none⟩,
    ⟨(some 29), .len (.t 28), none⟩,
    ⟨(some 30), .mov (.c (.int .i64 0)), none⟩]) <|
  .block 0 (.loop [3, 5, 7, 28, 29] [30] (.seq (.reg [⟨(some 31), .bin .lss (.t 30) (.t 29), none⟩]) <|
  .seq (.cond (.t 31) (.skip) (.exit 0)) <|
  .seq (.block 1 (.seq (.reg [⟨(some 32), .iadd (.t 28) (.t 30) 1, none⟩,
    ⟨(some 33), .ld (.t 32) 1 false, none⟩,
    ⟨(some 9), .mov (.t 33), none⟩]) <|
  .seq (.reg [⟨(some 34), .mov (.t 9), none⟩,
    ⟨(some 35), .len (.t 34), none⟩,
    ⟨(some 36), .bin .neq (.t 35) (.c (.int .i64 0)), none⟩,
    ⟨(some 37), .mov (.t 36), none⟩,
    ⟨(some 38), .mov (.t 9), some (37, true)⟩,
    ⟨(some 39), .len (.t 38), some (37, true)⟩,
    ⟨(some 40), .fadd (.t 3) 2, some (37, true)⟩,
    ⟨(some 41), .ld (.t 40) 1 false, some (37, true)⟩,
    ⟨(some 42), .bin .neq (.t 39) (.t 41), some (37, true)⟩,
    ⟨(some 43), .pick (.t 37) (.t 42) (.c (.bool false)), none⟩,
    ⟨(some 44), .mov (.t 43), none⟩,
    ⟨(some 45), .mov (.t 9), some (44, false)⟩,
    ⟨(some 46), .mkf n_affine_Check_F1 [] [(.t 7)], some (44, false)⟩,
    ⟨(some 47), .call n_slices_ContainsFunc_sapi_Form_api_Form [(.t 45), (.t 46)], some (44, false)⟩,
    ⟨(some 48), .pick (.t 44) (.c (.bool true)) (.t 47), none⟩]) <|
  .cond (.t 48) (.seq (.reg [⟨(some 6), .mov (.c (.int .i64 100)), none⟩]) <|
  .ret) (.skip))) <|
  .reg [⟨(some 49), .bin .add (.t 30) (.c (.int .i64 1)), none⟩,
    ⟨(some 30), .mov (.t 49), none⟩]))) <|
  .seq (.seq (.reg [⟨(some 50), .fadd (.t 3) 2, none⟩,
    ⟨(some 51), .ld (.t 50) 1 false, none⟩,
    ⟨(some 52), .bin .eql (.t 51) (.c (.int .i64 0)), none⟩]) <|
  .cond (.t 52) (.seq (.reg [⟨(some 6), .mov (.c (.int .i64 0)), none⟩]) <|
  .ret) (.skip)) <|
  .seq (.seq (.dreg [⟨(some 53), .ld (.t 7) 9 true, none⟩,
    ⟨(some 54), .fadd (.t 5) 0, none⟩,
    ⟨(some 55), .ld (.t 54) 1 false, none⟩,
    ⟨(some 56), .iadd (.t 55) (.c (.int .i64 0)) 1, none⟩,
    ⟨(some 57), .ld (.t 56) 1 false, none⟩,
    ⟨(some 58), .ld (.t 7) 9 true, none⟩,
    ⟨(some 59), .call n_affine_space_zeros [(.t 58)], none⟩,
    ⟨(some 60), .call n_affine_space_contains [(.t 53), (.t 57), (.t 59)], none⟩,
    ⟨(some 61), .un .not (.t 60), none⟩] [] []) <|
  .cond (.t 61) (.seq (.reg [⟨(some 6), .mov (.c (.int .i64 100)), none⟩]) <|
  .ret) (.skip)) <|
  .seqj [] [] (.seq (.reg [⟨(some 62), .fadd (.t 3) 7, none⟩,
    ⟨(some 63), .ld (.t 62) 1 false, none⟩,
    ⟨(some 64), .len (.t 63), none⟩,
    ⟨(some 65), .mov (.c (.int .i64 0)), none⟩]) <|
  .block 2 (.loop [5, 7, 63, 64] [65] (.seq (.reg [⟨(some 66), .bin .lss (.t 65) (.t 64), none⟩]) <|
  .seq (.cond (.t 66) (.skip) (.exit 2)) <|
  .seqj [5, 7, 63, 64, 65] [] (.block 3 (.seq (.reg [⟨(some 67), .mov (.t 65), none⟩,
    ⟨(some 68), .iadd (.t 63) (.t 65) 14, none⟩,
    ⟨(some 69), .ld (.t 68) 14 true, none⟩,
    ⟨(some 11), .alloc (.agg [.nil, (.int .i64 0), (.int .i64 0), (.int .i64 0), (.int .i64 0), (.int .i32 0), (.int .i64 0), (.int .i64 0), (.int .i32 0), (.int .i64 0), (.int .i64 0), (.int .i32 0), (.int .i64 0), (.int .i64 0)]), none⟩,
    ⟨(some 10), .mov (.t 67), none⟩,
    ⟨none, .st (.t 11) (.t 69) 14, none⟩]) <|
  .seq (.seq (.reg [⟨(some 70), .fadd (.t 5) 0, none⟩,
    ⟨(some 71), .ld (.t 70) 1 false, none⟩,
    ⟨(some 72), .mov (.t 10), none⟩,
    ⟨(some 73), .iadd (.t 71) (.t 72) 1, none⟩,
    ⟨(some 74), .ld (.t 73) 1 false, none⟩,
    ⟨(some 75), .len (.t 74), none⟩,
    ⟨(some 76), .bin .eql (.t 75) (.c (.int .i64 0)), none⟩]) <|
  .cond (.t 76) (.exit 3) (.skip)) <|
  .seq (.dreg [⟨(some 77), .ld (.t 7) 9 true, none⟩,
    ⟨(some 78), .fadd (.t 5) 0, none⟩,
    ⟨(some 79), .ld (.t 78) 1 false, none⟩,
    ⟨(some 80), .mov (.t 10), none⟩,
    ⟨(some 81), .iadd (.t 79) (.t 80) 1, none⟩,
    ⟨(some 82), .ld (.t 81) 1 false, none⟩,
    ⟨(some 83), .mov (.t 10), none⟩,
    ⟨(some 84), .fadd (.t 11) 0, none⟩,
    ⟨(some 85), .ld (.t 84) 1 false, none⟩,
    ⟨(some 86), .len (.t 85), none⟩,
    ⟨(some 87), .call n_affine_space_after [(.t 77), (.t 82), (.t 83), (.t 86)], none⟩,
    ⟨(some 12), .mov (.t 87), none⟩] [] []) <|
  .seq (.reg [⟨(some 88), .fadd (.t 11) 1, none⟩,
    ⟨(some 89), .ld (.t 88) 13 true, none⟩,
    ⟨(some 90), .call n_code_Succ [(.t 89)], none⟩,
    ⟨(some 91), .len (.t 90), none⟩,
    ⟨(some 92), .mov (.c (.int .i64 0)), none⟩]) <|
  .block 4 (.loop [5, 7, 10, 12, 63, 64, 65, 90, 91] [92] (.seq (.reg [⟨(some 93), .bin .lss (.t 92) (.t 91), none⟩]) <|
  .seq (.cond (.t 93) (.skip) (.exit 4)) <|
  .seq (.block 5 (.seq (.reg [⟨(some 94), .mov (.t 92), none⟩,
    ⟨(some 95), .iadd (.t 90) (.t 92) 1, none⟩,
    ⟨(some 96), .ld (.t 95) 1 false, none⟩,
    ⟨(some 13), .mov (.t 94), none⟩,
    ⟨(some 14), .mov (.t 96), none⟩]) <|
  .seq (.reg [⟨(some 98), .ld (.t 7) 9 true, none⟩,
    ⟨(some 99), .mov (.t 12), none⟩,
    ⟨(some 100), .mov (.t 10), none⟩,
    ⟨(some 101), .mov (.t 13), none⟩,
    ⟨(some 102), .call n_affine_space_along [(.t 98), (.t 99), (.t 100), (.t 101)], none⟩,
    ⟨(some 97), .mov (.t 102), none⟩,
    ⟨(some 103), .ext (.t 97) 0, none⟩,
    ⟨(some 104), .ext (.t 97) 1, none⟩,
    ⟨(some 15), .mov (.t 103), none⟩,
    ⟨(some 16), .mov (.t 104), none⟩]) <|
  .seq (.dreg [⟨(some 105), .mov (.t 16), none⟩,
    ⟨(some 106), .mov (.t 105), none⟩,
    ⟨(some 107), .ld (.t 7) 9 true, some (106, true)⟩,
    ⟨(some 108), .fadd (.t 5) 0, some (106, true)⟩,
    ⟨(some 109), .ld (.t 108) 1 false, some (106, true)⟩,
    ⟨(some 110), .mov (.t 14), some (106, true)⟩,
    ⟨(some 111), .iadd (.t 109) (.t 110) 1, some (106, true)⟩,
    ⟨(some 112), .ld (.t 111) 1 false, some (106, true)⟩,
    ⟨(some 113), .mov (.t 15), some (106, true)⟩,
    ⟨(some 114), .call n_affine_space_contains [(.t 107), (.t 112), (.t 113)], some (106, true)⟩,
    ⟨(some 115), .un .not (.t 114), some (106, true)⟩,
    ⟨(some 116), .pick (.t 106) (.t 115) (.c (.bool false)), none⟩] [] []) <|
  .cond (.t 116) (.seq (.reg [⟨(some 6), .mov (.c (.int .i64 100)), none⟩]) <|
  .ret) (.skip))) <|
  .reg [⟨(some 117), .bin .add (.t 92) (.c (.int .i64 1)), none⟩,
    ⟨(some 92), .mov (.t 117), none⟩])))) <|
  .reg [⟨(some 118), .bin .add (.t 65) (.c (.int .i64 1)), none⟩,
    ⟨(some 65), .mov (.t 118), none⟩]))) <|
  .seq (.reg [⟨(some 6), .mov (.c (.int .i64 0)), none⟩]) <|
  .ret,
  [.t 6]⟩
theorem F_affine_Check_ok : cFn PP true n_affine_Check loops_affine_Check (cDr PP 119 tbl_affine_Check) = some F_affine_Check := by kernel_rfl

end Go.Am
/- The functions of this seat's program in the short form, as a program of ours printed them (part 2); each line of it is checked. No condition. -/
set_option linter.unusedVariables false
namespace Go.Am
open Go Go.Proofs
/-- warpwright/affine.At -/
def loops_affine_At : Nat → Option (List Nat × List Nat)
  | _ => none
def tbl_affine_At : Nat → Option (List Nat × List Nat × List Nat)
  | 5 => some ([0, 0, 3, 0, 8, 0, 56, 120, 0, 0, 1023, 0, 4095, 8191], [13], []) | _ => none
def F_affine_At : AFunc := ⟨41,
  .seq (.reg [⟨(some 6), .box (.t 0), none⟩,
    ⟨(some 8), .box (.t 2), none⟩,
    ⟨(some 11), .box (.t 5), none⟩,
    ⟨(some 12), .alloc (.agg [(.bool false), (.int .i64 0), (.int .i64 0), (.int .i64 0), (.int .i64 0), (.int .i64 0), (.int .i64 0)]), none⟩]) <|
  .seq (.seq (.reg [⟨(some 13), .fadd (.t 11) 0, none⟩,
    ⟨(some 14), .ld (.t 13) 1 false, none⟩,
    ⟨(some 15), .bin .neq (.t 14) (.c (.int .i64 2)), none⟩]) <|
  .cond (.t 15) (.seq (.reg [⟨(some 16), .fadd (.t 11) 2, none⟩,
    ⟨(some 17), .ld (.t 16) 1 false, none⟩,
    ⟨(some 18), .conv .i64 (.t 17), none⟩,
    ⟨(some 19), .call n_affine_number [(.t 18)], none⟩,
    ⟨none, .st (.t 12) (.t 19) 7, none⟩]) <|
  .ret) (.skip)) <|
  .seq (.seq (.reg [⟨(some 20), .fadd (.t 8) 0, none⟩,
    ⟨(some 21), .ld (.t 20) 1 false, none⟩,
    ⟨(some 22), .mov (.t 3), none⟩,
    ⟨(some 23), .iadd (.t 21) (.t 22) 1, none⟩,
    ⟨(some 24), .ld (.t 23) 1 false, none⟩,
    ⟨(some 25), .len (.t 24), none⟩,
    ⟨(some 26), .bin .eql (.t 25) (.c (.int .i64 0)), none⟩]) <|
  .cond (.t 26) (.seq (.reg [⟨(some 27), .call n_affine_unknown [], none⟩,
    ⟨none, .st (.t 12) (.t 27) 7, none⟩]) <|
  .ret) (.skip)) <|
  .seq (.dreg [⟨(some 28), .ld (.t 6) 8 true, none⟩,
    ⟨(some 29), .mov (.t 1), none⟩,
    ⟨(some 30), .bld [(.int .i64 0), (.int .i64 0), (.int .i64 0), (.int .i64 0), (.int .i64 0), .nil, .nil, .nil, (.int .i64 0)] [(0, 8, (.t 28)), (8, 1, (.t 29))], none⟩,
    ⟨(some 31), .fadd (.t 8) 0, none⟩,
    ⟨(some 32), .ld (.t 31) 1 false, none⟩,
    ⟨(some 33), .mov (.t 3), none⟩,
    ⟨(some 34), .iadd (.t 32) (.t 33) 1, none⟩,
    ⟨(some 35), .ld (.t 34) 1 false, none⟩,
    ⟨(some 36), .mov (.t 3), none⟩,
    ⟨(some 37), .mov (.t 4), none⟩,
    ⟨(some 38), .call n_affine_space_after [(.t 30), (.t 35), (.t 36), (.t 37)], none⟩,
    ⟨(some 39), .ld (.t 11) 3 true, none⟩,
    ⟨(some 40), .call n_affine_operand [(.t 38), (.t 39)], none⟩] [⟨none, .st (.t 12) (.t 40) 7, none⟩] []) <|
  .ret,
  [.cell 12 7 true]⟩
theorem F_affine_At_ok : cFn PP true n_affine_At loops_affine_At (cDr PP 41 tbl_affine_At) = some F_affine_At := by kernel_rfl


def V_affine_At (a0 : D) (a1 : D) (a2 : D) (a3 : D) (a4 : D) (a5 : D) (h0 : Heap) (K : D → Heap → Prop) : Prop :=
  vhOp PP (.box (.c a0)) h0 fun a7 h8 =>
  vhOp PP (.box (.c a2)) h8 fun a9 h10 =>
  vhOp PP (.box (.c a5)) h10 fun a11 h12 =>
  vhOp PP (.alloc (.agg [(.bool false), (.int .i64 0), (.int .i64 0), (.int .i64 0), (.int .i64 0), (.int .i64 0), (.int .i64 0)])) h12 fun a13 h14 =>
  vhOp PP (.fadd (.c a11) 0) h14 fun a15 h16 =>
  vhOp PP (.ld (.c a15) 1 false) h16 fun a17 h18 =>
  vbin .neq a17 (.int .i64 2) fun a19 =>
  vcond a19 (vhOp PP (.fadd (.c a11) 2) h18 fun a20 h21 =>
  vhOp PP (.ld (.c a20) 1 false) h21 fun a22 h23 =>
  vhOp PP (.conv .i64 (.c a22)) h23 fun a24 h25 =>
  ACall PP n_affine_number [a24] h25 fun a26 h27 =>
  vhOp PP (.st (.c a13) (.c a26) 7) h27 fun a28 h29 =>
  vhOp PP (.ld (.c a13) 7 true) h29 fun a30 _ =>
  K a30 h29) (
  vhOp PP (.fadd (.c a9) 0) h18 fun a31 h32 =>
  vhOp PP (.ld (.c a31) 1 false) h32 fun a33 h34 =>
  vhOp PP (.iadd (.c a33) (.c a3) 1) h34 fun a35 h36 =>
  vhOp PP (.ld (.c a35) 1 false) h36 fun a37 h38 =>
  vlen a37 h38 fun a39 =>
  vbin .eql a39 (.int .i64 0) fun a40 =>
  vcond a40 (ACall PP n_affine_unknown [] h38 fun a41 h42 =>
  vhOp PP (.st (.c a13) (.c a41) 7) h42 fun a43 h44 =>
  vhOp PP (.ld (.c a13) 7 true) h44 fun a45 _ =>
  K a45 h44) (
  vdOp PP (.ld (.c a7) 8 true) h38 fun a46 =>
  vdOp PP (.bld [(.int .i64 0), (.int .i64 0), (.int .i64 0), (.int .i64 0), (.int .i64 0), .nil, .nil, .nil, (.int .i64 0)] [(0, 8, (.c a46)), (8, 1, (.c a1))]) h38 fun a47 =>
  vdOp PP (.fadd (.c a9) 0) h38 fun a48 =>
  vdOp PP (.ld (.c a48) 1 false) h38 fun a49 =>
  vdOp PP (.iadd (.c a49) (.c a3) 1) h38 fun a50 =>
  vdOp PP (.ld (.c a50) 1 false) h38 fun a51 =>
  vdOp PP (.call n_affine_space_after [(.c a47), (.c a51), (.c a3), (.c a4)]) h38 fun a52 =>
  vdOp PP (.ld (.c a11) 3 true) h38 fun a53 =>
  vdOp PP (.call n_affine_operand [(.c a52), (.c a53)]) h38 fun a54 =>
  vhOp PP (.st (.c a13) (.c a54) 7) h38 fun a55 h56 =>
  vhOp PP (.ld (.c a13) 7 true) h56 fun a57 _ =>
  K a57 h56))
theorem V_affine_At_ok (a0 : D) (a1 : D) (a2 : D) (a3 : D) (a4 : D) (a5 : D) (h0 : Heap) (K : D → Heap → Prop) : V_affine_At a0 a1 a2 a3 a4 a5 h0 K = vcC PP F_affine_At.code (fun x e h' => match x with | .exit _ => False | _ => vcRet PP F_affine_At.res K e h') (params [a0, a1, a2, a3, a4, a5] 0) h0 := by kernel_rfl

/-- warpwright/warpwrightlaw26.example -/
def loops_law26_example : Nat → Option (List Nat × List Nat)
  | _ => none
def tbl_law26_example : Nat → Option (List Nat × List Nat × List Nat)
  | _ => none
def F_law26_example : AFunc := ⟨25,
  .seq (.reg [⟨(some 0), .alloc (.agg [(.int .i64 0), (.int .i64 0), (.int .i64 0), (.int .i64 0), (.int .i64 0), .nil, .nil, .nil]), none⟩]) <|
  .seq (.reg [⟨(some 2), .call n_law26_id [(.c (.int .i64 0)), (.c (.int .i64 3))], none⟩,
    ⟨(some 3), .call n_ref05_Reg [(.c (.int .i64 0))], none⟩,
    ⟨(some 4), .call n_ref05_Const [(.c (.int .i32 8))], none⟩,
    ⟨(some 5), .call n_law26_bin [(.c (.int .i64 12)), (.c (.int .i64 1)), (.t 3), (.t 4)], none⟩,
    ⟨(some 6), .call n_law26_id [(.c (.int .i64 2)), (.c (.int .i64 2))], none⟩,
    ⟨(some 7), .call n_ref05_Reg [(.c (.int .i64 1))], none⟩,
    ⟨(some 8), .call n_ref05_Reg [(.c (.int .i64 2))], none⟩,
    ⟨(some 9), .call n_law26_bin [(.c (.int .i64 10)), (.c (.int .i64 3)), (.t 7), (.t 8)], none⟩,
    ⟨(some 10), .call n_ref05_Reg [(.c (.int .i64 3))], none⟩,
    ⟨(some 11), .call n_ref05_Const [(.c (.int .i32 4))], none⟩,
    ⟨(some 12), .call n_law26_bin [(.c (.int .i64 12)), (.c (.int .i64 4)), (.t 10), (.t 11)], none⟩,
    ⟨(some 13), .call n_ref05_Reg [(.c (.int .i64 4))], none⟩,
    ⟨(some 14), .call n_ref05_Const [(.c (.int .i32 7))], none⟩,
    ⟨(some 15), .call n_law26_bin [(.c (.int .i64 17)), (.c (.int .i64 5)), (.t 13), (.t 14)], none⟩,
    ⟨(some 16), .bldS true 15 6 (.agg [(.int .i64 0), (.int .i64 0), (.int .i64 0), (.int .i64 0), (.int .i64 0), (.int .i32 0), (.int .i64 0), (.int .i64 0), (.int .i32 0), (.int .i64 0), (.int .i64 0), (.int .i32 0), (.int .i64 0), (.int .i64 0), (.int .i32 0)]) [(0, (.t 2)), (1, (.t 5)), (2, (.t 6)), (3, (.t 9)), (4, (.t 12)), (5, (.t 15))], none⟩,
    ⟨(some 1), .mov (.t 16), none⟩]) <|
  .seq (.reg [⟨(some 17), .mov (.t 1), none⟩,
    ⟨(some 18), .bld [(.int .i64 0), (.int .i64 0)] [(0, 1, (.c (.int .i64 1))), (1, 1, (.c (.int .i64 0)))], none⟩,
    ⟨(some 19), .bld [(.int .i64 0), (.int .i64 0), (.int .i64 0), (.int .i64 0), (.int .i32 0), (.int .i64 0), (.int .i64 0), (.int .i32 0), (.int .i64 0), (.int .i64 0), (.int .i32 0), (.int .i64 0), (.int .i64 0)] [(0, 1, (.c (.int .i64 1))), (11, 2, (.t 18))], none⟩,
    ⟨(some 20), .bld [.nil, (.int .i64 0), (.int .i64 0), (.int .i64 0), (.int .i64 0), (.int .i32 0), (.int .i64 0), (.int .i64 0), (.int .i32 0), (.int .i64 0), (.int .i64 0), (.int .i32 0), (.int .i64 0), (.int .i64 0)] [(0, 1, (.t 17)), (1, 13, (.t 19))], none⟩,
    ⟨(some 21), .bld [(.int .i64 0), (.int .i64 0), (.int .i64 0), (.int .i64 0), (.int .i32 0), (.int .i64 0), (.int .i64 0), (.int .i32 0), (.int .i64 0), (.int .i64 0), (.int .i32 0), (.int .i64 0), (.int .i64 0)] [(0, 1, (.c (.int .i64 5)))], none⟩,
    ⟨(some 22), .bld [.nil, (.int .i64 0), (.int .i64 0), (.int .i64 0), (.int .i64 0), (.int .i32 0), (.int .i64 0), (.int .i64 0), (.int .i32 0), (.int .i64 0), (.int .i64 0), (.int .i32 0), (.int .i64 0), (.int .i64 0)] [(1, 13, (.t 21))], none⟩,
    ⟨(some 23), .bldS true 14 2 (.agg [.nil, (.int .i64 0), (.int .i64 0), (.int .i64 0), (.int .i64 0), (.int .i32 0), (.int .i64 0), (.int .i64 0), (.int .i32 0), (.int .i64 0), (.int .i64 0), (.int .i32 0), (.int .i64 0), (.int .i64 0)]) [(0, (.t 20)), (1, (.t 22))], none⟩,
    ⟨(some 24), .bld [(.int .i64 0), (.int .i64 0), (.int .i64 0), (.int .i64 0), (.int .i64 0), .nil, .nil, .nil] [(0, 1, (.c (.int .i64 8))), (1, 1, (.c (.int .i64 1))), (2, 1, (.c (.int .i64 6))), (7, 1, (.t 23))], none⟩,
    ⟨none, .st (.t 0) (.t 24) 8, none⟩]) <|
  .ret,
  [.cell 0 8 true]⟩
theorem F_law26_example_ok : cFn PP true n_law26_example loops_law26_example (cDr PP 25 tbl_law26_example) = some F_law26_example := by kernel_rfl
/-- warpwright/warpwrightref26.From -/
def loops_ref26_From : Nat → Option (List Nat × List Nat)
  | _ => none
def tbl_ref26_From : Nat → Option (List Nat × List Nat × List Nat)
  | _ => none
def F_ref26_From : AFunc := ⟨9,
  .seq (.reg [⟨(some 4), .alloc (.agg [(.bool false), (.int .i64 0), (.int .i64 0), (.int .i64 0), (.int .i64 0), (.int .i64 0), (.int .i64 0)]), none⟩]) <|
  .seq (.reg [⟨(some 5), .mov (.t 0), none⟩,
    ⟨(some 6), .mov (.t 1), none⟩,
    ⟨(some 7), .call n_ref25_Made [(.t 5), (.t 6), (.c (.int .i64 1))], none⟩,
    ⟨(some 8), .bld [(.bool false), (.int .i64 0), (.int .i64 0), (.int .i64 0), (.int .i64 0), (.int .i64 0), (.int .i64 0)] [(4, 3, (.t 7))], none⟩,
    ⟨none, .st (.t 4) (.t 8) 7, none⟩]) <|
  .ret,
  [.cell 4 7 true]⟩
theorem F_ref26_From_ok : cFn PP true n_ref26_From loops_ref26_From (cDr PP 9 tbl_ref26_From) = some F_ref26_From := by kernel_rfl
/-- warpwright/warpwrightref26.Number -/
def loops_ref26_Number : Nat → Option (List Nat × List Nat)
  | _ => none
def tbl_ref26_Number : Nat → Option (List Nat × List Nat × List Nat)
  | _ => none
def F_ref26_Number : AFunc := ⟨6,
  .seq (.reg [⟨(some 2), .alloc (.agg [(.bool false), (.int .i64 0), (.int .i64 0), (.int .i64 0), (.int .i64 0), (.int .i64 0), (.int .i64 0)]), none⟩]) <|
  .seq (.reg [⟨(some 3), .mov (.t 0), none⟩,
    ⟨(some 4), .call n_ref26_one [(.t 3)], none⟩,
    ⟨(some 5), .bld [(.bool false), (.int .i64 0), (.int .i64 0), (.int .i64 0), (.int .i64 0), (.int .i64 0), (.int .i64 0)] [(4, 3, (.t 4))], none⟩,
    ⟨none, .st (.t 2) (.t 5) 7, none⟩]) <|
  .ret,
  [.cell 2 7 true]⟩
theorem F_ref26_Number_ok : cFn PP true n_ref26_Number loops_ref26_Number (cDr PP 6 tbl_ref26_Number) = some F_ref26_Number := by kernel_rfl
/-- warpwright/warpwrightref25.Made -/
def loops_ref25_Made : Nat → Option (List Nat × List Nat)
  | _ => none
def tbl_ref25_Made : Nat → Option (List Nat × List Nat × List Nat)
  | _ => none
def F_ref25_Made : AFunc := ⟨17,
  .seq (.reg [⟨(some 6), .alloc (.agg [(.int .i64 0), (.int .i64 0), (.int .i64 0)]), none⟩]) <|
  .seq (.seq (.reg [⟨(some 7), .mov (.t 0), none⟩,
    ⟨(some 8), .mov (.t 1), none⟩,
    ⟨(some 9), .bin .eql (.t 7) (.t 8), none⟩]) <|
  .cond (.t 9) (.seq (.reg [⟨(some 10), .mov (.t 0), none⟩,
    ⟨(some 11), .mov (.t 0), none⟩,
    ⟨(some 12), .bld [(.int .i64 0), (.int .i64 0), (.int .i64 0)] [(0, 1, (.t 10)), (1, 1, (.t 11))], none⟩,
    ⟨none, .st (.t 6) (.t 12) 3, none⟩]) <|
  .ret) (.skip)) <|
  .seq (.reg [⟨(some 13), .mov (.t 0), none⟩,
    ⟨(some 14), .mov (.t 1), none⟩,
    ⟨(some 15), .mov (.t 2), none⟩,
    ⟨(some 16), .bld [(.int .i64 0), (.int .i64 0), (.int .i64 0)] [(0, 1, (.t 13)), (1, 1, (.t 14)), (2, 1, (.t 15))], none⟩,
    ⟨none, .st (.t 6) (.t 16) 3, none⟩]) <|
  .ret,
  [.cell 6 3 true]⟩
theorem F_ref25_Made_ok : cFn PP true n_ref25_Made loops_ref25_Made (cDr PP 17 tbl_ref25_Made) = some F_ref25_Made := by kernel_rfl


def V_ref25_Made (a0 : D) (a1 : D) (a2 : D) (h0 : Heap) (K : D → Heap → Prop) : Prop :=
  vhOp PP (.alloc (.agg [(.int .i64 0), (.int .i64 0), (.int .i64 0)])) h0 fun a4 h5 =>
  vbin .eql a0 a1 fun a6 =>
  vcond a6 (vhOp PP (.bld [(.int .i64 0), (.int .i64 0), (.int .i64 0)] [(0, 1, (.c a0)), (1, 1, (.c a0))]) h5 fun a7 h8 =>
  vhOp PP (.st (.c a4) (.c a7) 3) h8 fun a9 h10 =>
  vhOp PP (.ld (.c a4) 3 true) h10 fun a11 _ =>
  K a11 h10) (
  vhOp PP (.bld [(.int .i64 0), (.int .i64 0), (.int .i64 0)] [(0, 1, (.c a0)), (1, 1, (.c a1)), (2, 1, (.c a2))]) h5 fun a12 h13 =>
  vhOp PP (.st (.c a4) (.c a12) 3) h13 fun a14 h15 =>
  vhOp PP (.ld (.c a4) 3 true) h15 fun a16 _ =>
  K a16 h15)
theorem V_ref25_Made_ok (a0 : D) (a1 : D) (a2 : D) (h0 : Heap) (K : D → Heap → Prop) : V_ref25_Made a0 a1 a2 h0 K = vcC PP F_ref25_Made.code (fun x e h' => match x with | .exit _ => False | _ => vcRet PP F_ref25_Made.res K e h') (params [a0, a1, a2] 0) h0 := by kernel_rfl

/-- warpwright/warpwrightref26.anything -/
def loops_ref26_anything : Nat → Option (List Nat × List Nat)
  | _ => none
def tbl_ref26_anything : Nat → Option (List Nat × List Nat × List Nat)
  | _ => none
def F_ref26_anything : AFunc := ⟨2,
  .seq (.reg [⟨(some 0), .alloc (.agg [(.bool false), (.int .i64 0), (.int .i64 0), (.int .i64 0), (.int .i64 0), (.int .i64 0), (.int .i64 0)]), none⟩]) <|
  .seq (.reg [⟨(some 1), .bld [(.bool false), (.int .i64 0), (.int .i64 0), (.int .i64 0), (.int .i64 0), (.int .i64 0), (.int .i64 0)] [(0, 1, (.c (.bool true)))], none⟩,
    ⟨none, .st (.t 0) (.t 1) 7, none⟩]) <|
  .ret,
  [.cell 0 7 true]⟩
theorem F_ref26_anything_ok : cFn PP true n_ref26_anything loops_ref26_anything (cDr PP 2 tbl_ref26_anything) = some F_ref26_anything := by kernel_rfl
/-- warpwright/warpwrightref25.Valid -/
def loops_ref25_Valid : Nat → Option (List Nat × List Nat)
  | _ => none
def tbl_ref25_Valid : Nat → Option (List Nat × List Nat × List Nat)
  | _ => none
def F_ref25_Valid : AFunc := ⟨42,
  .seq (.reg [⟨(some 1), .box (.t 0), none⟩,
    ⟨(some 2), .mov (.c (.bool false)), none⟩]) <|
  .seq (.seq (.reg [⟨(some 3), .fadd (.t 1) 0, none⟩,
    ⟨(some 4), .ld (.t 3) 1 false, none⟩,
    ⟨(some 5), .call n_ref25_near [(.t 4)], none⟩,
    ⟨(some 6), .un .not (.t 5), none⟩,
    ⟨(some 7), .mov (.t 6), none⟩,
    ⟨(some 8), .fadd (.t 1) 1, some (7, false)⟩,
    ⟨(some 9), .ld (.t 8) 1 false, some (7, false)⟩,
    ⟨(some 10), .call n_ref25_near [(.t 9)], some (7, false)⟩,
    ⟨(some 11), .un .not (.t 10), some (7, false)⟩,
    ⟨(some 12), .pick (.t 7) (.c (.bool true)) (.t 11), none⟩,
    ⟨(some 13), .mov (.t 12), none⟩,
    ⟨(some 14), .fadd (.t 1) 0, some (13, false)⟩,
    ⟨(some 15), .ld (.t 14) 1 false, some (13, false)⟩,
    ⟨(some 16), .fadd (.t 1) 1, some (13, false)⟩,
    ⟨(some 17), .ld (.t 16) 1 false, some (13, false)⟩,
    ⟨(some 18), .bin .gtr (.t 15) (.t 17), some (13, false)⟩,
    ⟨(some 19), .pick (.t 13) (.c (.bool true)) (.t 18), none⟩]) <|
  .cond (.t 19) (.seq (.reg [⟨(some 2), .mov (.c (.bool false)), none⟩]) <|
  .ret) (.skip)) <|
  .seq (.seq (.reg [⟨(some 20), .fadd (.t 1) 0, none⟩,
    ⟨(some 21), .ld (.t 20) 1 false, none⟩,
    ⟨(some 22), .fadd (.t 1) 1, none⟩,
    ⟨(some 23), .ld (.t 22) 1 false, none⟩,
    ⟨(some 24), .bin .eql (.t 21) (.t 23), none⟩]) <|
  .cond (.t 24) (.seq (.reg [⟨(some 25), .fadd (.t 1) 2, none⟩,
    ⟨(some 26), .ld (.t 25) 1 false, none⟩,
    ⟨(some 27), .bin .eql (.t 26) (.c (.int .i64 0)), none⟩,
    ⟨(some 2), .mov (.t 27), none⟩]) <|
  .ret) (.skip)) <|
  .seq (.reg [⟨(some 28), .fadd (.t 1) 2, none⟩,
    ⟨(some 29), .ld (.t 28) 1 false, none⟩,
    ⟨(some 30), .bin .geq (.t 29) (.c (.int .i64 1)), none⟩,
    ⟨(some 31), .mov (.t 30), none⟩,
    ⟨(some 32), .fadd (.t 1) 1, some (31, true)⟩,
    ⟨(some 33), .ld (.t 32) 1 false, some (31, true)⟩,
    ⟨(some 34), .fadd (.t 1) 0, some (31, true)⟩,
    ⟨(some 35), .ld (.t 34) 1 false, some (31, true)⟩,
    ⟨(some 36), .bin .sub (.t 33) (.t 35), some (31, true)⟩,
    ⟨(some 37), .fadd (.t 1) 2, some (31, true)⟩,
    ⟨(some 38), .ld (.t 37) 1 false, some (31, true)⟩,
    ⟨(some 39), .bin .rem (.t 36) (.t 38), some (31, true)⟩,
    ⟨(some 40), .bin .eql (.t 39) (.c (.int .i64 0)), some (31, true)⟩,
    ⟨(some 41), .pick (.t 31) (.t 40) (.c (.bool false)), none⟩,
    ⟨(some 2), .mov (.t 41), none⟩]) <|
  .ret,
  [.t 2]⟩
theorem F_ref25_Valid_ok : cFn PP true n_ref25_Valid loops_ref25_Valid (cDr PP 42 tbl_ref25_Valid) = some F_ref25_Valid := by kernel_rfl


def V_ref25_Valid (a0 : D) (h0 : Heap) (K : D → Heap → Prop) : Prop :=
  vhOp PP (.box (.c a0)) h0 fun a2 h3 =>
  vhOp PP (.fadd (.c a2) 0) h3 fun a4 h5 =>
  vhOp PP (.ld (.c a4) 1 false) h5 fun a6 h7 =>
  ACall PP n_ref25_near [a6] h7 fun a8 h9 =>
  vun .not a8 fun a10 =>
  vguard a10 false (fun G11 =>
  vhOp PP (.fadd (.c a2) 1) h9 fun a14 h15 =>
  G11 a14 h15) h9 fun a12 h13 =>
  vguard a10 false (fun G16 =>
  vhOp PP (.ld (.c a12) 1 false) h13 fun a19 h20 =>
  G16 a19 h20) h13 fun a17 h18 =>
  vguard a10 false (fun G21 =>
  ACall PP n_ref25_near [a17] h18 fun a24 h25 =>
  G21 a24 h25) h18 fun a22 h23 =>
  vguard a10 false (fun G26 =>
  vun .not a22 fun a29 =>
  G26 a29 h23) h23 fun a27 h28 =>
  vhOp PP (.pick (.c a10) (.c (.bool true)) (.c a27)) h28 fun a30 h31 =>
  vguard a30 false (fun G32 =>
  vhOp PP (.fadd (.c a2) 0) h31 fun a35 h36 =>
  G32 a35 h36) h31 fun a33 h34 =>
  vguard a30 false (fun G37 =>
  vhOp PP (.ld (.c a33) 1 false) h34 fun a40 h41 =>
  G37 a40 h41) h34 fun a38 h39 =>
  vguard a30 false (fun G42 =>
  vhOp PP (.fadd (.c a2) 1) h39 fun a45 h46 =>
  G42 a45 h46) h39 fun a43 h44 =>
  vguard a30 false (fun G47 =>
  vhOp PP (.ld (.c a43) 1 false) h44 fun a50 h51 =>
  G47 a50 h51) h44 fun a48 h49 =>
  vguard a30 false (fun G52 =>
  vbin .gtr a38 a48 fun a55 =>
  G52 a55 h49) h49 fun a53 h54 =>
  vhOp PP (.pick (.c a30) (.c (.bool true)) (.c a53)) h54 fun a56 h57 =>
  vcond a56 (K (.bool false) h57) (
  vhOp PP (.fadd (.c a2) 0) h57 fun a58 h59 =>
  vhOp PP (.ld (.c a58) 1 false) h59 fun a60 h61 =>
  vhOp PP (.fadd (.c a2) 1) h61 fun a62 h63 =>
  vhOp PP (.ld (.c a62) 1 false) h63 fun a64 h65 =>
  vbin .eql a60 a64 fun a66 =>
  vcond a66 (vhOp PP (.fadd (.c a2) 2) h65 fun a67 h68 =>
  vhOp PP (.ld (.c a67) 1 false) h68 fun a69 h70 =>
  vbin .eql a69 (.int .i64 0) fun a71 =>
  K a71 h70) (
  vhOp PP (.fadd (.c a2) 2) h65 fun a72 h73 =>
  vhOp PP (.ld (.c a72) 1 false) h73 fun a74 h75 =>
  vbin .geq a74 (.int .i64 1) fun a76 =>
  vguard a76 true (fun G77 =>
  vhOp PP (.fadd (.c a2) 1) h75 fun a80 h81 =>
  G77 a80 h81) h75 fun a78 h79 =>
  vguard a76 true (fun G82 =>
  vhOp PP (.ld (.c a78) 1 false) h79 fun a85 h86 =>
  G82 a85 h86) h79 fun a83 h84 =>
  vguard a76 true (fun G87 =>
  vhOp PP (.fadd (.c a2) 0) h84 fun a90 h91 =>
  G87 a90 h91) h84 fun a88 h89 =>
  vguard a76 true (fun G92 =>
  vhOp PP (.ld (.c a88) 1 false) h89 fun a95 h96 =>
  G92 a95 h96) h89 fun a93 h94 =>
  vguard a76 true (fun G97 =>
  vbin .sub a83 a93 fun a100 =>
  G97 a100 h94) h94 fun a98 h99 =>
  vguard a76 true (fun G101 =>
  vhOp PP (.fadd (.c a2) 2) h99 fun a104 h105 =>
  G101 a104 h105) h99 fun a102 h103 =>
  vguard a76 true (fun G106 =>
  vhOp PP (.ld (.c a102) 1 false) h103 fun a109 h110 =>
  G106 a109 h110) h103 fun a107 h108 =>
  vguard a76 true (fun G111 =>
  vbin .rem a98 a107 fun a114 =>
  G111 a114 h108) h108 fun a112 h113 =>
  vguard a76 true (fun G115 =>
  vbin .eql a112 (.int .i64 0) fun a118 =>
  G115 a118 h113) h113 fun a116 h117 =>
  vhOp PP (.pick (.c a76) (.c a116) (.c (.bool false))) h117 fun a119 h120 =>
  K a119 h120))
theorem V_ref25_Valid_ok (a0 : D) (h0 : Heap) (K : D → Heap → Prop) : V_ref25_Valid a0 h0 K = vcC PP F_ref25_Valid.code (fun x e h' => match x with | .exit _ => False | _ => vcRet PP F_ref25_Valid.res K e h') (params [a0] 0) h0 := by kernel_rfl

/-- warpwright/warpwrightref26.small -/
def loops_ref26_small : Nat → Option (List Nat × List Nat)
  | _ => none
def tbl_ref26_small : Nat → Option (List Nat × List Nat × List Nat)
  | _ => none
def F_ref26_small : AFunc := ⟨9,
  .seq (.reg [⟨(some 2), .mov (.c (.bool false)), none⟩]) <|
  .seq (.reg [⟨(some 3), .mov (.t 0), none⟩,
    ⟨(some 4), .bin .geq (.t 3) (.c (.int .i64 (-2147483648))), none⟩,
    ⟨(some 5), .mov (.t 4), none⟩,
    ⟨(some 6), .mov (.t 0), some (5, true)⟩,
    ⟨(some 7), .bin .leq (.t 6) (.c (.int .i64 2147483648)), some (5, true)⟩,
    ⟨(some 8), .pick (.t 5) (.t 7) (.c (.bool false)), none⟩,
    ⟨(some 2), .mov (.t 8), none⟩]) <|
  .ret,
  [.t 2]⟩
theorem F_ref26_small_ok : cFn PP true n_ref26_small loops_ref26_small (cDr PP 9 tbl_ref26_small) = some F_ref26_small := by kernel_rfl


def V_ref26_small (a0 : D) (h0 : Heap) (K : D → Heap → Prop) : Prop :=
  vbin .geq a0 (.int .i64 (-2147483648)) fun a2 =>
  vguard a2 true (fun G3 =>
  G3 a0 h0) h0 fun a4 h5 =>
  vguard a2 true (fun G6 =>
  vbin .leq a4 (.int .i64 2147483648) fun a9 =>
  G6 a9 h5) h5 fun a7 h8 =>
  vhOp PP (.pick (.c a2) (.c a7) (.c (.bool false))) h8 fun a10 h11 =>
  K a10 h11
theorem V_ref26_small_ok (a0 : D) (h0 : Heap) (K : D → Heap → Prop) : V_ref26_small a0 h0 K = vcC PP F_ref26_small.code (fun x e h' => match x with | .exit _ => False | _ => vcRet PP F_ref26_small.res K e h') (params [a0] 0) h0 := by kernel_rfl

/-- warpwright/warpwrightref26.canonical -/
def loops_ref26_canonical : Nat → Option (List Nat × List Nat)
  | 1000008 => some ([3, 5, 6, 7], []) | 1000010 => some ([5, 6, 7], []) | 1000014 => some ([5, 6], []) | _ => none
def tbl_ref26_canonical : Nat → Option (List Nat × List Nat × List Nat)
  | _ => none
def F_ref26_canonical : AFunc := ⟨50,
  .seq (.reg [⟨(some 3), .box (.t 0), none⟩,
    ⟨(some 5), .box (.t 2), none⟩,
    ⟨(some 6), .alloc (.agg [(.bool false), (.int .i64 0), (.int .i64 0), (.int .i64 0), (.int .i64 0), (.int .i64 0), (.int .i64 0)]), none⟩]) <|
  .seq (.reg [⟨(some 8), .fadd (.t 3) 0, none⟩,
    ⟨(some 9), .ld (.t 8) 1 false, none⟩,
    ⟨(some 7), .mov (.t 9), none⟩]) <|
  .seq (.reg [⟨(some 10), .fadd (.t 5) 2, none⟩,
    ⟨(some 11), .ld (.t 10) 1 false, none⟩,
    ⟨(some 12), .fadd (.t 5) 1, none⟩,
    ⟨(some 13), .ld (.t 12) 1 false, none⟩,
    ⟨(some 14), .bin .add (.t 11) (.t 13), none⟩,
    ⟨(some 15), .fadd (.t 5) 2, none⟩,
    ⟨none, .st (.t 15) (.t 14) 1, none⟩]) <|
  .seq (.reg [⟨(some 16), .fadd (.t 5) 3, none⟩,
    ⟨(some 17), .ld (.t 16) 1 false, none⟩,
    ⟨(some 18), .fadd (.t 5) 1, none⟩,
    ⟨(some 19), .ld (.t 18) 1 false, none⟩,
    ⟨(some 20), .mov (.t 7), none⟩,
    ⟨(some 21), .bin .mul (.t 19) (.t 20), none⟩,
    ⟨(some 22), .bin .add (.t 17) (.t 21), none⟩,
    ⟨(some 23), .fadd (.t 5) 3, none⟩,
    ⟨none, .st (.t 23) (.t 22) 1, none⟩]) <|
  .seq (.reg [⟨(some 24), .fadd (.t 5) 1, none⟩,
    ⟨none, .st (.t 24) (.c (.int .i64 0)) 1, none⟩]) <|
  .seqj [3, 5, 6, 7] [] (.seq (.reg [⟨(some 25), .mov (.t 1), none⟩,
    ⟨(some 26), .bin .eql (.t 25) (.c (.int .i64 1)), none⟩]) <|
  .cond (.t 26) (.reg [⟨(some 27), .fadd (.t 5) 3, none⟩,
    ⟨none, .st (.t 27) (.c (.int .i64 0)) 1, none⟩]) (.skip)) <|
  .seqj [5, 6, 7] [] (.seq (.reg [⟨(some 28), .fadd (.t 3) 0, none⟩,
    ⟨(some 29), .ld (.t 28) 1 false, none⟩,
    ⟨(some 30), .bin .eql (.t 29) (.c (.int .i64 1)), none⟩]) <|
  .cond (.t 30) (.reg [⟨(some 31), .fadd (.t 5) 2, none⟩,
    ⟨none, .st (.t 31) (.c (.int .i64 0)) 1, none⟩]) (.skip)) <|
  .seqj [5, 6] [] (.seq (.reg [⟨(some 32), .fadd (.t 5) 2, none⟩,
    ⟨(some 33), .ld (.t 32) 1 false, none⟩,
    ⟨(some 34), .bin .neq (.t 33) (.c (.int .i64 0)), none⟩,
    ⟨(some 35), .mov (.t 34), none⟩,
    ⟨(some 36), .fadd (.t 5) 3, some (35, true)⟩,
    ⟨(some 37), .ld (.t 36) 1 false, some (35, true)⟩,
    ⟨(some 38), .fadd (.t 5) 2, some (35, true)⟩,
    ⟨(some 39), .ld (.t 38) 1 false, some (35, true)⟩,
    ⟨(some 40), .mov (.t 7), some (35, true)⟩,
    ⟨(some 41), .bin .mul (.t 39) (.t 40), some (35, true)⟩,
    ⟨(some 42), .bin .eql (.t 37) (.t 41), some (35, true)⟩,
    ⟨(some 43), .pick (.t 35) (.t 42) (.c (.bool false)), none⟩]) <|
  .cond (.t 43) (.seq (.reg [⟨(some 44), .fadd (.t 5) 2, none⟩,
    ⟨(some 45), .ld (.t 44) 1 false, none⟩,
    ⟨(some 46), .fadd (.t 5) 1, none⟩,
    ⟨none, .st (.t 46) (.t 45) 1, none⟩]) <|
  .seq (.reg [⟨(some 47), .fadd (.t 5) 2, none⟩,
    ⟨none, .st (.t 47) (.c (.int .i64 0)) 1, none⟩]) <|
  .reg [⟨(some 48), .fadd (.t 5) 3, none⟩,
    ⟨none, .st (.t 48) (.c (.int .i64 0)) 1, none⟩]) (.skip)) <|
  .seq (.reg [⟨(some 49), .ld (.t 5) 7 true, none⟩,
    ⟨none, .st (.t 6) (.t 49) 7, none⟩]) <|
  .ret,
  [.cell 6 7 true]⟩
theorem F_ref26_canonical_ok : cFn PP true n_ref26_canonical loops_ref26_canonical (cDr PP 50 tbl_ref26_canonical) = some F_ref26_canonical := by kernel_rfl


def V_ref26_canonical (a0 : D) (a1 : D) (a2 : D) (h0 : Heap) (K : D → Heap → Prop) : Prop :=
  vhOp PP (.box (.c a0)) h0 fun a4 h5 =>
  vhOp PP (.box (.c a2)) h5 fun a6 h7 =>
  vhOp PP (.alloc (.agg [(.bool false), (.int .i64 0), (.int .i64 0), (.int .i64 0), (.int .i64 0), (.int .i64 0), (.int .i64 0)])) h7 fun a8 h9 =>
  vhOp PP (.fadd (.c a4) 0) h9 fun a10 h11 =>
  vhOp PP (.ld (.c a10) 1 false) h11 fun a12 h13 =>
  vhOp PP (.fadd (.c a6) 2) h13 fun a14 h15 =>
  vhOp PP (.ld (.c a14) 1 false) h15 fun a16 h17 =>
  vhOp PP (.fadd (.c a6) 1) h17 fun a18 h19 =>
  vhOp PP (.ld (.c a18) 1 false) h19 fun a20 h21 =>
  vbin .add a16 a20 fun a22 =>
  vhOp PP (.fadd (.c a6) 2) h21 fun a23 h24 =>
  vhOp PP (.st (.c a23) (.c a22) 1) h24 fun a25 h26 =>
  vhOp PP (.fadd (.c a6) 3) h26 fun a27 h28 =>
  vhOp PP (.ld (.c a27) 1 false) h28 fun a29 h30 =>
  vhOp PP (.fadd (.c a6) 1) h30 fun a31 h32 =>
  vhOp PP (.ld (.c a31) 1 false) h32 fun a33 h34 =>
  vbin .mul a33 a12 fun a35 =>
  vbin .add a29 a35 fun a36 =>
  vhOp PP (.fadd (.c a6) 3) h34 fun a37 h38 =>
  vhOp PP (.st (.c a37) (.c a36) 1) h38 fun a39 h40 =>
  vhOp PP (.fadd (.c a6) 1) h40 fun a41 h42 =>
  vhOp PP (.st (.c a41) (.c (.int .i64 0)) 1) h42 fun a43 h44 =>
  ∃ (J45 : List D → Heap → Prop), (∀ (f46 : Nat → D) (h47 : Heap), J45 [] h47 →
  ∃ (J48 : List D → Heap → Prop), (∀ (f49 : Nat → D) (h50 : Heap), J48 [] h50 →
  ∃ (J51 : List D → Heap → Prop), (∀ (f52 : Nat → D) (h53 : Heap), J51 [] h53 →
  vhOp PP (.ld (.c a6) 7 true) h53 fun a54 h55 =>
  vhOp PP (.st (.c a8) (.c a54) 7) h55 fun a56 h57 =>
  vhOp PP (.ld (.c a8) 7 true) h57 fun a58 _ =>
  K a58 h57) ∧
  vhOp PP (.fadd (.c a6) 2) h50 fun a59 h60 =>
  vhOp PP (.ld (.c a59) 1 false) h60 fun a61 h62 =>
  vbin .neq a61 (.int .i64 0) fun a63 =>
  vguard a63 true (fun G64 =>
  vhOp PP (.fadd (.c a6) 3) h62 fun a67 h68 =>
  G64 a67 h68) h62 fun a65 h66 =>
  vguard a63 true (fun G69 =>
  vhOp PP (.ld (.c a65) 1 false) h66 fun a72 h73 =>
  G69 a72 h73) h66 fun a70 h71 =>
  vguard a63 true (fun G74 =>
  vhOp PP (.fadd (.c a6) 2) h71 fun a77 h78 =>
  G74 a77 h78) h71 fun a75 h76 =>
  vguard a63 true (fun G79 =>
  vhOp PP (.ld (.c a75) 1 false) h76 fun a82 h83 =>
  G79 a82 h83) h76 fun a80 h81 =>
  vguard a63 true (fun G84 =>
  G84 a12 h81) h81 fun a85 h86 =>
  vguard a63 true (fun G87 =>
  vbin .mul a80 a85 fun a90 =>
  G87 a90 h86) h86 fun a88 h89 =>
  vguard a63 true (fun G91 =>
  vbin .eql a70 a88 fun a94 =>
  G91 a94 h89) h89 fun a92 h93 =>
  vhOp PP (.pick (.c a63) (.c a92) (.c (.bool false))) h93 fun a95 h96 =>
  vcond a95 (vhOp PP (.fadd (.c a6) 2) h96 fun a97 h98 =>
  vhOp PP (.ld (.c a97) 1 false) h98 fun a99 h100 =>
  vhOp PP (.fadd (.c a6) 1) h100 fun a101 h102 =>
  vhOp PP (.st (.c a101) (.c a99) 1) h102 fun a103 h104 =>
  vhOp PP (.fadd (.c a6) 2) h104 fun a105 h106 =>
  vhOp PP (.st (.c a105) (.c (.int .i64 0)) 1) h106 fun a107 h108 =>
  vhOp PP (.fadd (.c a6) 3) h108 fun a109 h110 =>
  vhOp PP (.st (.c a109) (.c (.int .i64 0)) 1) h110 fun a111 h112 =>
  keq [a6, a8] [a6, a8] ∧ J51 [] h112) (
  keq [a6, a8] [a6, a8] ∧ J51 [] h96)) ∧
  vhOp PP (.fadd (.c a4) 0) h47 fun a113 h114 =>
  vhOp PP (.ld (.c a113) 1 false) h114 fun a115 h116 =>
  vbin .eql a115 (.int .i64 1) fun a117 =>
  vcond a117 (vhOp PP (.fadd (.c a6) 2) h116 fun a118 h119 =>
  vhOp PP (.st (.c a118) (.c (.int .i64 0)) 1) h119 fun a120 h121 =>
  keq [a6, a8, a12] [a6, a8, a12] ∧ J48 [] h121) (
  keq [a6, a8, a12] [a6, a8, a12] ∧ J48 [] h116)) ∧
  vbin .eql a1 (.int .i64 1) fun a122 =>
  vcond a122 (vhOp PP (.fadd (.c a6) 3) h44 fun a123 h124 =>
  vhOp PP (.st (.c a123) (.c (.int .i64 0)) 1) h124 fun a125 h126 =>
  keq [a4, a6, a8, a12] [a4, a6, a8, a12] ∧ J45 [] h126) (
  keq [a4, a6, a8, a12] [a4, a6, a8, a12] ∧ J45 [] h44)
theorem V_ref26_canonical_ok (a0 : D) (a1 : D) (a2 : D) (h0 : Heap) (K : D → Heap → Prop) : V_ref26_canonical a0 a1 a2 h0 K = vcC PP F_ref26_canonical.code (fun x e h' => match x with | .exit _ => False | _ => vcRet PP F_ref26_canonical.res K e h') (params [a0, a1, a2] 0) h0 := by kernel_rfl

/-- warpwright/warpwrightref26.word -/
def loops_ref26_word : Nat → Option (List Nat × List Nat)
  | _ => none
def tbl_ref26_word : Nat → Option (List Nat × List Nat × List Nat)
  | _ => none
def F_ref26_word : AFunc := ⟨17,
  .seq (.reg [⟨(some 1), .box (.t 0), none⟩,
    ⟨(some 2), .mov (.c (.bool false)), none⟩]) <|
  .seq (.reg [⟨(some 3), .fadd (.t 1) 3, none⟩,
    ⟨(some 4), .ld (.t 3) 1 false, none⟩,
    ⟨(some 5), .mov (.t 4), none⟩,
    ⟨(some 6), .fadd (.t 1) 0, some (5, true)⟩,
    ⟨(some 7), .fadd (.t 6) 0, some (5, true)⟩,
    ⟨(some 8), .ld (.t 7) 1 false, some (5, true)⟩,
    ⟨(some 9), .bin .geq (.t 8) (.c (.int .i64 (-2147483648))), some (5, true)⟩,
    ⟨(some 10), .pick (.t 5) (.t 9) (.c (.bool false)), none⟩,
    ⟨(some 11), .mov (.t 10), none⟩,
    ⟨(some 12), .fadd (.t 1) 0, some (11, true)⟩,
    ⟨(some 13), .fadd (.t 12) 1, some (11, true)⟩,
    ⟨(some 14), .ld (.t 13) 1 false, some (11, true)⟩,
    ⟨(some 15), .bin .lss (.t 14) (.c (.int .i64 2147483648)), some (11, true)⟩,
    ⟨(some 16), .pick (.t 11) (.t 15) (.c (.bool false)), none⟩,
    ⟨(some 2), .mov (.t 16), none⟩]) <|
  .ret,
  [.t 2]⟩
theorem F_ref26_word_ok : cFn PP true n_ref26_word loops_ref26_word (cDr PP 17 tbl_ref26_word) = some F_ref26_word := by kernel_rfl


def V_ref26_word (a0 : D) (h0 : Heap) (K : D → Heap → Prop) : Prop :=
  vhOp PP (.box (.c a0)) h0 fun a2 h3 =>
  vhOp PP (.fadd (.c a2) 3) h3 fun a4 h5 =>
  vhOp PP (.ld (.c a4) 1 false) h5 fun a6 h7 =>
  vguard a6 true (fun G8 =>
  vhOp PP (.fadd (.c a2) 0) h7 fun a11 h12 =>
  G8 a11 h12) h7 fun a9 h10 =>
  vguard a6 true (fun G13 =>
  vhOp PP (.fadd (.c a9) 0) h10 fun a16 h17 =>
  G13 a16 h17) h10 fun a14 h15 =>
  vguard a6 true (fun G18 =>
  vhOp PP (.ld (.c a14) 1 false) h15 fun a21 h22 =>
  G18 a21 h22) h15 fun a19 h20 =>
  vguard a6 true (fun G23 =>
  vbin .geq a19 (.int .i64 (-2147483648)) fun a26 =>
  G23 a26 h20) h20 fun a24 h25 =>
  vhOp PP (.pick (.c a6) (.c a24) (.c (.bool false))) h25 fun a27 h28 =>
  vguard a27 true (fun G29 =>
  vhOp PP (.fadd (.c a2) 0) h28 fun a32 h33 =>
  G29 a32 h33) h28 fun a30 h31 =>
  vguard a27 true (fun G34 =>
  vhOp PP (.fadd (.c a30) 1) h31 fun a37 h38 =>
  G34 a37 h38) h31 fun a35 h36 =>
  vguard a27 true (fun G39 =>
  vhOp PP (.ld (.c a35) 1 false) h36 fun a42 h43 =>
  G39 a42 h43) h36 fun a40 h41 =>
  vguard a27 true (fun G44 =>
  vbin .lss a40 (.int .i64 2147483648) fun a47 =>
  G44 a47 h41) h41 fun a45 h46 =>
  vhOp PP (.pick (.c a27) (.c a45) (.c (.bool false))) h46 fun a48 h49 =>
  K a48 h49
theorem V_ref26_word_ok (a0 : D) (h0 : Heap) (K : D → Heap → Prop) : V_ref26_word a0 h0 K = vcC PP F_ref26_word.code (fun x e h' => match x with | .exit _ => False | _ => vcRet PP F_ref26_word.res K e h') (params [a0] 0) h0 := by kernel_rfl

/-- warpwright/warpwrightref26.RangeIn -/
def loops_ref26_RangeIn : Nat → Option (List Nat × List Nat)
  | _ => none
def tbl_ref26_RangeIn : Nat → Option (List Nat × List Nat × List Nat)
  | 4 => some ([0, 0, 2, 0, 0, 16, 56, 126, 255, 511], [9], []) | 5 => some ([0, 0, 2, 0, 8, 30, 63, 127], [7], []) | 6 => some ([0, 0, 2, 0, 14, 31, 63], [6], []) | _ => none
def F_ref26_RangeIn : AFunc := ⟨42,
  .seq (.reg [⟨(some 3), .box (.t 0), none⟩,
    ⟨(some 5), .box (.t 2), none⟩,
    ⟨(some 6), .alloc (.agg [(.int .i64 0), (.int .i64 0), (.int .i64 0), (.bool false)]), none⟩]) <|
  .seq (.seq (.reg [⟨(some 8), .fadd (.t 5) 0, none⟩,
    ⟨(some 9), .ld (.t 8) 1 false, none⟩,
    ⟨(some 10), .mov (.t 9), none⟩,
    ⟨(some 11), .fadd (.t 5) 4, some (10, false)⟩,
    ⟨(some 12), .ld (.t 11) 3 true, some (10, false)⟩,
    ⟨(some 13), .call n_ref25_Valid [(.t 12)], some (10, false)⟩,
    ⟨(some 14), .un .not (.t 13), some (10, false)⟩,
    ⟨(some 15), .pick (.t 10) (.c (.bool true)) (.t 14), none⟩]) <|
  .cond (.t 15) (.seq (.reg [⟨(some 16), .bld [(.int .i64 0), (.int .i64 0), (.int .i64 0), (.bool false)] [], none⟩,
    ⟨none, .st (.t 6) (.t 16) 4, none⟩]) <|
  .ret) (.skip)) <|
  .seq (.reg [⟨(some 17), .fadd (.t 5) 4, none⟩,
    ⟨(some 18), .ld (.t 17) 3 true, none⟩,
    ⟨(some 19), .bld [(.int .i64 0), (.int .i64 0), (.int .i64 0), (.bool false)] [(0, 3, (.t 18)), (3, 1, (.c (.bool true)))], none⟩,
    ⟨(some 7), .alloc (.agg [(.int .i64 0), (.int .i64 0), (.int .i64 0), (.bool false)]), none⟩,
    ⟨none, .st (.t 7) (.t 19) 4, none⟩]) <|
  .seq (.dreg [⟨(some 20), .ld (.t 7) 4 true, none⟩,
    ⟨(some 21), .fadd (.t 5) 1, none⟩,
    ⟨(some 22), .ld (.t 21) 1 false, none⟩,
    ⟨(some 23), .mov (.t 1), none⟩,
    ⟨(some 24), .fadd (.t 3) 0, none⟩,
    ⟨(some 25), .ld (.t 24) 1 false, none⟩,
    ⟨(some 26), .bin .mul (.t 23) (.t 25), none⟩,
    ⟨(some 27), .call n_ref26_part [(.t 22), (.t 26)], none⟩,
    ⟨(some 28), .call n_ref26_plus [(.t 20), (.t 27)], none⟩] [⟨none, .st (.t 7) (.t 28) 4, none⟩] []) <|
  .seq (.dreg [⟨(some 29), .ld (.t 7) 4 true, none⟩,
    ⟨(some 30), .fadd (.t 5) 2, none⟩,
    ⟨(some 31), .ld (.t 30) 1 false, none⟩,
    ⟨(some 32), .fadd (.t 3) 0, none⟩,
    ⟨(some 33), .ld (.t 32) 1 false, none⟩,
    ⟨(some 34), .call n_ref26_part [(.t 31), (.t 33)], none⟩,
    ⟨(some 35), .call n_ref26_plus [(.t 29), (.t 34)], none⟩] [⟨none, .st (.t 7) (.t 35) 4, none⟩] []) <|
  .seq (.dreg [⟨(some 36), .ld (.t 7) 4 true, none⟩,
    ⟨(some 37), .fadd (.t 5) 3, none⟩,
    ⟨(some 38), .ld (.t 37) 1 false, none⟩,
    ⟨(some 39), .mov (.t 1), none⟩,
    ⟨(some 40), .call n_ref26_part [(.t 38), (.t 39)], none⟩,
    ⟨(some 41), .call n_ref26_plus [(.t 36), (.t 40)], none⟩] [⟨none, .st (.t 6) (.t 41) 4, none⟩] []) <|
  .ret,
  [.cell 6 4 true]⟩
theorem F_ref26_RangeIn_ok : cFn PP true n_ref26_RangeIn loops_ref26_RangeIn (cDr PP 42 tbl_ref26_RangeIn) = some F_ref26_RangeIn := by kernel_rfl


def V_ref26_RangeIn (a0 : D) (a1 : D) (a2 : D) (h0 : Heap) (K : D → Heap → Prop) : Prop :=
  vhOp PP (.box (.c a0)) h0 fun a4 h5 =>
  vhOp PP (.box (.c a2)) h5 fun a6 h7 =>
  vhOp PP (.alloc (.agg [(.int .i64 0), (.int .i64 0), (.int .i64 0), (.bool false)])) h7 fun a8 h9 =>
  vhOp PP (.fadd (.c a6) 0) h9 fun a10 h11 =>
  vhOp PP (.ld (.c a10) 1 false) h11 fun a12 h13 =>
  vguard a12 false (fun G14 =>
  vhOp PP (.fadd (.c a6) 4) h13 fun a17 h18 =>
  G14 a17 h18) h13 fun a15 h16 =>
  vguard a12 false (fun G19 =>
  vhOp PP (.ld (.c a15) 3 true) h16 fun a22 h23 =>
  G19 a22 h23) h16 fun a20 h21 =>
  vguard a12 false (fun G24 =>
  ACall PP n_ref25_Valid [a20] h21 fun a27 h28 =>
  G24 a27 h28) h21 fun a25 h26 =>
  vguard a12 false (fun G29 =>
  vun .not a25 fun a32 =>
  G29 a32 h26) h26 fun a30 h31 =>
  vhOp PP (.pick (.c a12) (.c (.bool true)) (.c a30)) h31 fun a33 h34 =>
  vcond a33 (vhOp PP (.bld [(.int .i64 0), (.int .i64 0), (.int .i64 0), (.bool false)] []) h34 fun a35 h36 =>
  vhOp PP (.st (.c a8) (.c a35) 4) h36 fun a37 h38 =>
  vhOp PP (.ld (.c a8) 4 true) h38 fun a39 _ =>
  K a39 h38) (
  vhOp PP (.fadd (.c a6) 4) h34 fun a40 h41 =>
  vhOp PP (.ld (.c a40) 3 true) h41 fun a42 h43 =>
  vhOp PP (.bld [(.int .i64 0), (.int .i64 0), (.int .i64 0), (.bool false)] [(0, 3, (.c a42)), (3, 1, (.c (.bool true)))]) h43 fun a44 h45 =>
  vhOp PP (.alloc (.agg [(.int .i64 0), (.int .i64 0), (.int .i64 0), (.bool false)])) h45 fun a46 h47 =>
  vhOp PP (.st (.c a46) (.c a44) 4) h47 fun a48 h49 =>
  vdOp PP (.ld (.c a46) 4 true) h49 fun a50 =>
  vdOp PP (.fadd (.c a6) 1) h49 fun a51 =>
  vdOp PP (.ld (.c a51) 1 false) h49 fun a52 =>
  vdOp PP (.fadd (.c a4) 0) h49 fun a53 =>
  vdOp PP (.ld (.c a53) 1 false) h49 fun a54 =>
  vbin .mul a1 a54 fun a55 =>
  vdOp PP (.call n_ref26_part [(.c a52), (.c a55)]) h49 fun a56 =>
  vdOp PP (.call n_ref26_plus [(.c a50), (.c a56)]) h49 fun a57 =>
  vhOp PP (.st (.c a46) (.c a57) 4) h49 fun a58 h59 =>
  vdOp PP (.ld (.c a46) 4 true) h59 fun a60 =>
  vdOp PP (.fadd (.c a6) 2) h59 fun a61 =>
  vdOp PP (.ld (.c a61) 1 false) h59 fun a62 =>
  vdOp PP (.fadd (.c a4) 0) h59 fun a63 =>
  vdOp PP (.ld (.c a63) 1 false) h59 fun a64 =>
  vdOp PP (.call n_ref26_part [(.c a62), (.c a64)]) h59 fun a65 =>
  vdOp PP (.call n_ref26_plus [(.c a60), (.c a65)]) h59 fun a66 =>
  vhOp PP (.st (.c a46) (.c a66) 4) h59 fun a67 h68 =>
  vdOp PP (.ld (.c a46) 4 true) h68 fun a69 =>
  vdOp PP (.fadd (.c a6) 3) h68 fun a70 =>
  vdOp PP (.ld (.c a70) 1 false) h68 fun a71 =>
  vdOp PP (.call n_ref26_part [(.c a71), (.c a1)]) h68 fun a72 =>
  vdOp PP (.call n_ref26_plus [(.c a69), (.c a72)]) h68 fun a73 =>
  vhOp PP (.st (.c a8) (.c a73) 4) h68 fun a74 h75 =>
  vhOp PP (.ld (.c a8) 4 true) h75 fun a76 _ =>
  K a76 h75)
theorem V_ref26_RangeIn_ok (a0 : D) (a1 : D) (a2 : D) (h0 : Heap) (K : D → Heap → Prop) : V_ref26_RangeIn a0 a1 a2 h0 K = vcC PP F_ref26_RangeIn.code (fun x e h' => match x with | .exit _ => False | _ => vcRet PP F_ref26_RangeIn.res K e h') (params [a0, a1, a2] 0) h0 := by kernel_rfl

/-- (warpwright/affine.space).span -/
def loops_affine_space_span : Nat → Option (List Nat × List Nat)
  | 1000016 => some ([4, 6], []) | 5 => some ([4, 6, 43, 44], [45]) | _ => none
def tbl_affine_space_span : Nat → Option (List Nat × List Nat × List Nat)
  | _ => none
def F_affine_space_span : AFunc := ⟨71,
  .seq (.reg [⟨(some 2), .box (.t 0), none⟩,
    ⟨(some 3), .box (.t 1), none⟩,
    ⟨(some 4), .alloc (.agg [(.int .i64 0), (.int .i64 0), (.int .i64 0)]), none⟩,
    ⟨(some 5), .mov (.c (.bool false)), none⟩]) <|
  .seq (.seq (.reg [⟨(some 12), .fadd (.t 3) 0, none⟩,
    ⟨(some 13), .ld (.t 12) 1 false, none⟩,
    ⟨(some 14), .mov (.t 13), none⟩,
    ⟨(some 15), .fadd (.t 3) 4, some (14, false)⟩,
    ⟨(some 16), .ld (.t 15) 3 true, some (14, false)⟩,
    ⟨(some 17), .call n_span_Valid [(.t 16)], some (14, false)⟩,
    ⟨(some 18), .un .not (.t 17), some (14, false)⟩,
    ⟨(some 19), .pick (.t 14) (.c (.bool true)) (.t 18), none⟩]) <|
  .cond (.t 19) (.seq (.reg [⟨(some 20), .bld [(.int .i64 0), (.int .i64 0), (.int .i64 0)] [], none⟩,
    ⟨none, .st (.t 4) (.t 20) 3, none⟩,
    ⟨(some 5), .mov (.c (.bool false)), none⟩]) <|
  .ret) (.skip)) <|
  .seq (.reg [⟨(some 21), .fadd (.t 3) 4, none⟩,
    ⟨(some 22), .ld (.t 21) 3 true, none⟩,
    ⟨(some 6), .alloc (.agg [(.int .i64 0), (.int .i64 0), (.int .i64 0)]), none⟩,
    ⟨none, .st (.t 6) (.t 22) 3, none⟩]) <|
  .seqj [4, 6] [] (.seq (.reg [⟨(some 23), .fadd (.t 3) 1, none⟩,
    ⟨(some 24), .ld (.t 23) 1 false, none⟩,
    ⟨(some 25), .fadd (.t 2) 8, none⟩,
    ⟨(some 26), .ld (.t 25) 1 false, none⟩,
    ⟨(some 27), .fadd (.t 2) 0, none⟩,
    ⟨(some 28), .fadd (.t 27) 0, none⟩,
    ⟨(some 29), .ld (.t 28) 1 false, none⟩,
    ⟨(some 30), .bin .mul (.t 26) (.t 29), none⟩,
    ⟨(some 31), .bld [(.int .i64 0), (.int .i64 0)] [(0, 1, (.t 24)), (1, 1, (.t 30))], none⟩,
    ⟨(some 32), .fadd (.t 3) 2, none⟩,
    ⟨(some 33), .ld (.t 32) 1 false, none⟩,
    ⟨(some 34), .fadd (.t 2) 0, none⟩,
    ⟨(some 35), .fadd (.t 34) 0, none⟩,
    ⟨(some 36), .ld (.t 35) 1 false, none⟩,
    ⟨(some 37), .bld [(.int .i64 0), (.int .i64 0)] [(0, 1, (.t 33)), (1, 1, (.t 36))], none⟩,
    ⟨(some 38), .fadd (.t 3) 3, none⟩,
    ⟨(some 39), .ld (.t 38) 1 false, none⟩,
    ⟨(some 40), .fadd (.t 2) 8, none⟩,
    ⟨(some 41), .ld (.t 40) 1 false, none⟩,
    ⟨(some 42), .bld [(.int .i64 0), (.int .i64 0)] [(0, 1, (.t 39)), (1, 1, (.t 41))], none⟩,
    ⟨(some 43), .bldS true 2 3 (.agg [(.int .i64 0), (.int .i64 0)]) [(0, (.t 31)), (1, (.t 37)), (2, (.t 42))], none⟩,
    ⟨(some 44), .len (.t 43), none⟩,
    ⟨(some 45), .mov (.c (.int .i64 0)), none⟩]) <|
  .block 0 (.loop [4, 6, 43, 44] [45] (.seq (.reg [⟨(some 46), .bin .lss (.t 45) (.t 44), none⟩]) <|
  .seq (.cond (.t 46) (.skip) (.exit 0)) <|
  .seq (.block 1 (.seq (.reg [⟨(some 47), .iadd (.t 43) (.t 45) 2, none⟩,
    ⟨(some 48), .ld (.t 47) 2 true, none⟩,
    ⟨(some 8), .alloc (.agg [(.int .i64 0), (.int .i64 0)]), none⟩,
    ⟨none, .st (.t 8) (.t 48) 2, none⟩]) <|
  .seq (.reg [⟨(some 50), .fadd (.t 8) 0, none⟩,
    ⟨(some 51), .ld (.t 50) 1 false, none⟩,
    ⟨(some 52), .fadd (.t 8) 1, none⟩,
    ⟨(some 53), .ld (.t 52) 1 false, none⟩,
    ⟨(some 54), .call n_affine_multiples [(.t 51), (.t 53)], none⟩,
    ⟨(some 49), .mov (.t 54), none⟩,
    ⟨(some 55), .ext (.t 49) 0, none⟩,
    ⟨(some 56), .ext (.t 49) 1, none⟩,
    ⟨(some 9), .alloc (.agg [(.int .i64 0), (.int .i64 0), (.int .i64 0)]), none⟩,
    ⟨none, .st (.t 9) (.t 55) 3, none⟩,
    ⟨(some 10), .mov (.t 56), none⟩]) <|
  .seq (.seq (.reg [⟨(some 57), .mov (.t 10), none⟩,
    ⟨(some 58), .un .not (.t 57), none⟩]) <|
  .cond (.t 58) (.seq (.reg [⟨(some 59), .bld [(.int .i64 0), (.int .i64 0), (.int .i64 0)] [], none⟩,
    ⟨none, .st (.t 4) (.t 59) 3, none⟩,
    ⟨(some 5), .mov (.c (.bool false)), none⟩]) <|
  .ret) (.skip)) <|
  .seq (.reg [⟨(some 11), .mov (.c (.int .i64 0)), none⟩]) <|
  .seq (.reg [⟨(some 61), .ld (.t 6) 3 true, none⟩,
    ⟨(some 62), .ld (.t 9) 3 true, none⟩,
    ⟨(some 63), .call n_span_Add [(.t 61), (.t 62)], none⟩,
    ⟨(some 60), .mov (.t 63), none⟩,
    ⟨(some 64), .ext (.t 60) 0, none⟩,
    ⟨(some 65), .ext (.t 60) 1, none⟩,
    ⟨none, .st (.t 6) (.t 64) 3, none⟩,
    ⟨(some 11), .mov (.t 65), none⟩]) <|
  .seq (.reg [⟨(some 66), .mov (.t 11), none⟩,
    ⟨(some 67), .bin .neq (.t 66) (.c (.int .i64 0)), none⟩]) <|
  .cond (.t 67) (.seq (.reg [⟨(some 68), .bld [(.int .i64 0), (.int .i64 0), (.int .i64 0)] [], none⟩,
    ⟨none, .st (.t 4) (.t 68) 3, none⟩,
    ⟨(some 5), .mov (.c (.bool false)), none⟩]) <|
  .ret) (.skip))) <|
  .reg [⟨(some 69), .bin .add (.t 45) (.c (.int .i64 1)), none⟩,
    ⟨(some 45), .mov (.t 69), none⟩]))) <|
  .seq (.reg [⟨(some 70), .ld (.t 6) 3 true, none⟩,
    ⟨none, .st (.t 4) (.t 70) 3, none⟩,
    ⟨(some 5), .mov (.c (.bool true)), none⟩]) <|
  .ret,
  [.cell 4 3 true, .t 5]⟩
theorem F_affine_space_span_ok : cFn PP true n_affine_space_span loops_affine_space_span (cDr PP 71 tbl_affine_space_span) = some F_affine_space_span := by kernel_rfl

def V_affine_space_span_L0 (h95 : Heap) (a96 : D) (a94 : D) (a7 : D) (a43 : D) (J47 : List D → Heap → Prop) (K : D → Heap → Prop) : Prop :=
  ∃ (I97 : Nat → List D → Heap → Prop) (n₀ : Nat), I97 n₀ [(.int .i64 0)] h95 ∧ ∀ (n98 : Nat) (f99 : Nat → D) (h100 : Heap), I97 n98 [f99 45] h100 →
  vbin .lss (f99 45) a96 fun a101 =>
  vcond a101 (vhOp PP (.iadd (.c a94) (.c (f99 45)) 2) h100 fun a102 h103 =>
  vhOp PP (.ld (.c a102) 2 true) h103 fun a104 h105 =>
  vhOp PP (.alloc (.agg [(.int .i64 0), (.int .i64 0)])) h105 fun a106 h107 =>
  vhOp PP (.st (.c a106) (.c a104) 2) h107 fun a108 h109 =>
  vhOp PP (.fadd (.c a106) 0) h109 fun a110 h111 =>
  vhOp PP (.ld (.c a110) 1 false) h111 fun a112 h113 =>
  vhOp PP (.fadd (.c a106) 1) h113 fun a114 h115 =>
  vhOp PP (.ld (.c a114) 1 false) h115 fun a116 h117 =>
  ACall PP n_affine_multiples [a112, a116] h117 fun a118 h119 =>
  vhOp PP (.ext (.c a118) 0) h119 fun a120 h121 =>
  vhOp PP (.ext (.c a118) 1) h121 fun a122 h123 =>
  vhOp PP (.alloc (.agg [(.int .i64 0), (.int .i64 0), (.int .i64 0)])) h123 fun a124 h125 =>
  vhOp PP (.st (.c a124) (.c a120) 3) h125 fun a126 h127 =>
  vun .not a122 fun a128 =>
  vcond a128 (vhOp PP (.bld [(.int .i64 0), (.int .i64 0), (.int .i64 0)] []) h127 fun a129 h130 =>
  vhOp PP (.st (.c a7) (.c a129) 3) h130 fun a131 h132 =>
  vhOp PP (.ld (.c a7) 3 true) h132 fun a133 _ =>
  K (.tup [a133, (.bool false)]) h132) (
  vhOp PP (.ld (.c a43) 3 true) h127 fun a134 h135 =>
  vhOp PP (.ld (.c a124) 3 true) h135 fun a136 h137 =>
  ACall PP n_span_Add [a134, a136] h137 fun a138 h139 =>
  vhOp PP (.ext (.c a138) 0) h139 fun a140 h141 =>
  vhOp PP (.ext (.c a138) 1) h141 fun a142 h143 =>
  vhOp PP (.st (.c a43) (.c a140) 3) h143 fun a144 h145 =>
  vbin .neq a142 (.int .i64 0) fun a146 =>
  vcond a146 (vhOp PP (.bld [(.int .i64 0), (.int .i64 0), (.int .i64 0)] []) h145 fun a147 h148 =>
  vhOp PP (.st (.c a7) (.c a147) 3) h148 fun a149 h150 =>
  vhOp PP (.ld (.c a7) 3 true) h150 fun a151 _ =>
  K (.tup [a151, (.bool false)]) h150) (
  vbin .add (f99 45) (.int .i64 1) fun a152 =>
  keq [a7, a43, a94, a96] [a7, a43, a94, a96] ∧ ∃ m, m < n98 ∧ I97 m [a152] h145))) (
  keq [a7, a43] [a7, a43] ∧ J47 [] h100)
def V_affine_space_span (a0 : D) (a1 : D) (h0 : Heap) (K : D → Heap → Prop) : Prop :=
  vhOp PP (.box (.c a0)) h0 fun a3 h4 =>
  vhOp PP (.box (.c a1)) h4 fun a5 h6 =>
  vhOp PP (.alloc (.agg [(.int .i64 0), (.int .i64 0), (.int .i64 0)])) h6 fun a7 h8 =>
  vhOp PP (.fadd (.c a5) 0) h8 fun a9 h10 =>
  vhOp PP (.ld (.c a9) 1 false) h10 fun a11 h12 =>
  vguard a11 false (fun G13 =>
  vhOp PP (.fadd (.c a5) 4) h12 fun a16 h17 =>
  G13 a16 h17) h12 fun a14 h15 =>
  vguard a11 false (fun G18 =>
  vhOp PP (.ld (.c a14) 3 true) h15 fun a21 h22 =>
  G18 a21 h22) h15 fun a19 h20 =>
  vguard a11 false (fun G23 =>
  ACall PP n_span_Valid [a19] h20 fun a26 h27 =>
  G23 a26 h27) h20 fun a24 h25 =>
  vguard a11 false (fun G28 =>
  vun .not a24 fun a31 =>
  G28 a31 h25) h25 fun a29 h30 =>
  vhOp PP (.pick (.c a11) (.c (.bool true)) (.c a29)) h30 fun a32 h33 =>
  vcond a32 (vhOp PP (.bld [(.int .i64 0), (.int .i64 0), (.int .i64 0)] []) h33 fun a34 h35 =>
  vhOp PP (.st (.c a7) (.c a34) 3) h35 fun a36 h37 =>
  vhOp PP (.ld (.c a7) 3 true) h37 fun a38 _ =>
  K (.tup [a38, (.bool false)]) h37) (
  vhOp PP (.fadd (.c a5) 4) h33 fun a39 h40 =>
  vhOp PP (.ld (.c a39) 3 true) h40 fun a41 h42 =>
  vhOp PP (.alloc (.agg [(.int .i64 0), (.int .i64 0), (.int .i64 0)])) h42 fun a43 h44 =>
  vhOp PP (.st (.c a43) (.c a41) 3) h44 fun a45 h46 =>
  ∃ (J47 : List D → Heap → Prop), (∀ (f48 : Nat → D) (h49 : Heap), J47 [] h49 →
  vhOp PP (.ld (.c a43) 3 true) h49 fun a50 h51 =>
  vhOp PP (.st (.c a7) (.c a50) 3) h51 fun a52 h53 =>
  vhOp PP (.ld (.c a7) 3 true) h53 fun a54 _ =>
  K (.tup [a54, (.bool true)]) h53) ∧
  vhOp PP (.fadd (.c a5) 1) h46 fun a55 h56 =>
  vhOp PP (.ld (.c a55) 1 false) h56 fun a57 h58 =>
  vhOp PP (.fadd (.c a3) 8) h58 fun a59 h60 =>
  vhOp PP (.ld (.c a59) 1 false) h60 fun a61 h62 =>
  vhOp PP (.fadd (.c a3) 0) h62 fun a63 h64 =>
  vhOp PP (.fadd (.c a63) 0) h64 fun a65 h66 =>
  vhOp PP (.ld (.c a65) 1 false) h66 fun a67 h68 =>
  vbin .mul a61 a67 fun a69 =>
  vhOp PP (.bld [(.int .i64 0), (.int .i64 0)] [(0, 1, (.c a57)), (1, 1, (.c a69))]) h68 fun a70 h71 =>
  vhOp PP (.fadd (.c a5) 2) h71 fun a72 h73 =>
  vhOp PP (.ld (.c a72) 1 false) h73 fun a74 h75 =>
  vhOp PP (.fadd (.c a3) 0) h75 fun a76 h77 =>
  vhOp PP (.fadd (.c a76) 0) h77 fun a78 h79 =>
  vhOp PP (.ld (.c a78) 1 false) h79 fun a80 h81 =>
  vhOp PP (.bld [(.int .i64 0), (.int .i64 0)] [(0, 1, (.c a74)), (1, 1, (.c a80))]) h81 fun a82 h83 =>
  vhOp PP (.fadd (.c a5) 3) h83 fun a84 h85 =>
  vhOp PP (.ld (.c a84) 1 false) h85 fun a86 h87 =>
  vhOp PP (.fadd (.c a3) 8) h87 fun a88 h89 =>
  vhOp PP (.ld (.c a88) 1 false) h89 fun a90 h91 =>
  vhOp PP (.bld [(.int .i64 0), (.int .i64 0)] [(0, 1, (.c a86)), (1, 1, (.c a90))]) h91 fun a92 h93 =>
  vhOp PP (.bldS true 2 3 (.agg [(.int .i64 0), (.int .i64 0)]) [(0, (.c a70)), (1, (.c a82)), (2, (.c a92))]) h93 fun a94 h95 =>
  vlen a94 h95 fun a96 =>
  V_affine_space_span_L0 h95 a96 a94 a7 a43 J47 K)
theorem V_affine_space_span_ok (a0 : D) (a1 : D) (h0 : Heap) (K : D → Heap → Prop) : V_affine_space_span a0 a1 h0 K = vcC PP F_affine_space_span.code (fun x e h' => match x with | .exit _ => False | _ => vcRet PP F_affine_space_span.res K e h') (params [a0, a1] 0) h0 := by kernel_rfl

/-- warpwright/span.Has -/
def loops_span_Has : Nat → Option (List Nat × List Nat)
  | _ => none
def tbl_span_Has : Nat → Option (List Nat × List Nat × List Nat)
  | _ => none
def F_span_Has : AFunc := ⟨31,
  .seq (.reg [⟨(some 2), .box (.t 0), none⟩,
    ⟨(some 4), .mov (.c (.bool false)), none⟩]) <|
  .seq (.reg [⟨(some 5), .fadd (.t 2) 0, none⟩,
    ⟨(some 6), .ld (.t 5) 1 false, none⟩,
    ⟨(some 7), .mov (.t 1), none⟩,
    ⟨(some 8), .bin .leq (.t 6) (.t 7), none⟩,
    ⟨(some 9), .mov (.t 8), none⟩,
    ⟨(some 10), .mov (.t 1), some (9, true)⟩,
    ⟨(some 11), .fadd (.t 2) 1, some (9, true)⟩,
    ⟨(some 12), .ld (.t 11) 1 false, some (9, true)⟩,
    ⟨(some 13), .bin .leq (.t 10) (.t 12), some (9, true)⟩,
    ⟨(some 14), .pick (.t 9) (.t 13) (.c (.bool false)), none⟩,
    ⟨(some 15), .mov (.t 14), none⟩,
    ⟨(some 16), .mov (.t 1), some (15, true)⟩,
    ⟨(some 17), .fadd (.t 2) 0, some (15, true)⟩,
    ⟨(some 18), .ld (.t 17) 1 false, some (15, true)⟩,
    ⟨(some 19), .bin .eql (.t 16) (.t 18), some (15, true)⟩,
    ⟨(some 20), .mov (.t 19), some (15, true)⟩,
    ⟨(some 21), .mov (.t 1), some (20, false)⟩,
    ⟨(some 22), .fadd (.t 2) 0, some (20, false)⟩,
    ⟨(some 23), .ld (.t 22) 1 false, some (20, false)⟩,
    ⟨(some 24), .bin .sub (.t 21) (.t 23), some (20, false)⟩,
    ⟨(some 25), .fadd (.t 2) 2, some (20, false)⟩,
    ⟨(some 26), .ld (.t 25) 1 false, some (20, false)⟩,
    ⟨(some 27), .bin .rem (.t 24) (.t 26), some (20, false)⟩,
    ⟨(some 28), .bin .eql (.t 27) (.c (.int .i64 0)), some (20, false)⟩,
    ⟨(some 29), .pick (.t 20) (.c (.bool true)) (.t 28), some (15, true)⟩,
    ⟨(some 30), .pick (.t 15) (.t 29) (.c (.bool false)), none⟩,
    ⟨(some 4), .mov (.t 30), none⟩]) <|
  .ret,
  [.t 4]⟩
theorem F_span_Has_ok : cFn PP true n_span_Has loops_span_Has (cDr PP 31 tbl_span_Has) = some F_span_Has := by kernel_rfl


def V_span_Has (a0 : D) (a1 : D) (h0 : Heap) (K : D → Heap → Prop) : Prop :=
  vhOp PP (.box (.c a0)) h0 fun a3 h4 =>
  vhOp PP (.fadd (.c a3) 0) h4 fun a5 h6 =>
  vhOp PP (.ld (.c a5) 1 false) h6 fun a7 h8 =>
  vbin .leq a7 a1 fun a9 =>
  vguard a9 true (fun G10 =>
  G10 a1 h8) h8 fun a11 h12 =>
  vguard a9 true (fun G13 =>
  vhOp PP (.fadd (.c a3) 1) h12 fun a16 h17 =>
  G13 a16 h17) h12 fun a14 h15 =>
  vguard a9 true (fun G18 =>
  vhOp PP (.ld (.c a14) 1 false) h15 fun a21 h22 =>
  G18 a21 h22) h15 fun a19 h20 =>
  vguard a9 true (fun G23 =>
  vbin .leq a11 a19 fun a26 =>
  G23 a26 h20) h20 fun a24 h25 =>
  vhOp PP (.pick (.c a9) (.c a24) (.c (.bool false))) h25 fun a27 h28 =>
  vguard a27 true (fun G29 =>
  G29 a1 h28) h28 fun a30 h31 =>
  vguard a27 true (fun G32 =>
  vhOp PP (.fadd (.c a3) 0) h31 fun a35 h36 =>
  G32 a35 h36) h31 fun a33 h34 =>
  vguard a27 true (fun G37 =>
  vhOp PP (.ld (.c a33) 1 false) h34 fun a40 h41 =>
  G37 a40 h41) h34 fun a38 h39 =>
  vguard a27 true (fun G42 =>
  vbin .eql a30 a38 fun a45 =>
  G42 a45 h39) h39 fun a43 h44 =>
  vguard a27 true (fun G46 =>
  G46 a43 h44) h44 fun a47 h48 =>
  vguard a47 false (fun G49 =>
  G49 a1 h48) h48 fun a50 h51 =>
  vguard a47 false (fun G52 =>
  vhOp PP (.fadd (.c a3) 0) h51 fun a55 h56 =>
  G52 a55 h56) h51 fun a53 h54 =>
  vguard a47 false (fun G57 =>
  vhOp PP (.ld (.c a53) 1 false) h54 fun a60 h61 =>
  G57 a60 h61) h54 fun a58 h59 =>
  vguard a47 false (fun G62 =>
  vbin .sub a50 a58 fun a65 =>
  G62 a65 h59) h59 fun a63 h64 =>
  vguard a47 false (fun G66 =>
  vhOp PP (.fadd (.c a3) 2) h64 fun a69 h70 =>
  G66 a69 h70) h64 fun a67 h68 =>
  vguard a47 false (fun G71 =>
  vhOp PP (.ld (.c a67) 1 false) h68 fun a74 h75 =>
  G71 a74 h75) h68 fun a72 h73 =>
  vguard a47 false (fun G76 =>
  vbin .rem a63 a72 fun a79 =>
  G76 a79 h73) h73 fun a77 h78 =>
  vguard a47 false (fun G80 =>
  vbin .eql a77 (.int .i64 0) fun a83 =>
  G80 a83 h78) h78 fun a81 h82 =>
  vguard a27 true (fun G84 =>
  vhOp PP (.pick (.c a47) (.c (.bool true)) (.c a81)) h82 fun a87 h88 =>
  G84 a87 h88) h82 fun a85 h86 =>
  vhOp PP (.pick (.c a27) (.c a85) (.c (.bool false))) h86 fun a89 h90 =>
  K a89 h90
theorem V_span_Has_ok (a0 : D) (a1 : D) (h0 : Heap) (K : D → Heap → Prop) : V_span_Has a0 a1 h0 K = vcC PP F_span_Has.code (fun x e h' => match x with | .exit _ => False | _ => vcRet PP F_span_Has.res K e h') (params [a0, a1] 0) h0 := by kernel_rfl

/-- (warpwright/affine.space).begin -/
def loops_affine_space_begin : Nat → Option (List Nat × List Nat)
  | 1000009 => some ([1], []) | 3 => some ([1, 2, 3, 13, 14], [15]) | 1000008 => some ([1, 2, 3, 13, 14, 15], []) | _ => none
def tbl_affine_space_begin : Nat → Option (List Nat × List Nat × List Nat)
  | 6 => some ([0, 0, 2, 0, 0, 0, 32, 112, 240, 0, 512, 1536, 4088, 8191, 16383], [14], []) | _ => none
def F_affine_space_begin : AFunc := ⟨39,
  .seq (.reg [⟨(some 3), .box (.t 0), none⟩,
    ⟨(some 6), .mov (.c .nil), none⟩]) <|
  .seq (.reg [⟨(some 9), .mov (.t 1), none⟩,
    ⟨(some 10), .call n_slices_Clone_sapi_Form_api_Form [(.t 9)], none⟩,
    ⟨(some 1), .mov (.t 10), none⟩]) <|
  .seqj [1] [] (.seq (.reg [⟨(some 11), .fadd (.t 3) 0, none⟩,
    ⟨(some 12), .fadd (.t 11) 6, none⟩,
    ⟨(some 13), .ld (.t 12) 1 false, none⟩,
    ⟨(some 14), .len (.t 13), none⟩,
    ⟨(some 15), .mov (.c (.int .i64 0)), none⟩]) <|
  .block 0 (.loop [1, 2, 3, 13, 14] [15] (.seq (.reg [⟨(some 16), .bin .lss (.t 15) (.t 14), none⟩]) <|
  .seq (.cond (.t 16) (.skip) (.exit 0)) <|
  .seqj [1, 2, 3, 13, 14, 15] [] (.block 1 (.seq (.reg [⟨(some 17), .iadd (.t 13) (.t 15) 3, none⟩,
    ⟨(some 18), .ld (.t 17) 3 true, none⟩,
    ⟨(some 8), .alloc (.agg [(.int .i64 0), (.int .i64 0), (.int .i64 0)]), none⟩,
    ⟨none, .st (.t 8) (.t 18) 3, none⟩]) <|
  .seq (.reg [⟨(some 19), .fadd (.t 8) 0, none⟩,
    ⟨(some 20), .ld (.t 19) 1 false, none⟩,
    ⟨(some 21), .mov (.t 2), none⟩,
    ⟨(some 22), .bin .eql (.t 20) (.t 21), none⟩]) <|
  .cond (.t 22) (.dreg [⟨(some 23), .mov (.t 1), none⟩,
    ⟨(some 24), .fadd (.t 8) 1, none⟩,
    ⟨(some 25), .ld (.t 24) 1 false, none⟩,
    ⟨(some 26), .ld (.t 3) 9 true, none⟩,
    ⟨(some 27), .mov (.t 1), none⟩,
    ⟨(some 28), .fadd (.t 8) 1, none⟩,
    ⟨(some 29), .ld (.t 28) 1 false, none⟩,
    ⟨(some 30), .iadd (.t 27) (.t 29) 7, none⟩,
    ⟨(some 31), .ld (.t 30) 7 true, none⟩,
    ⟨(some 32), .fadd (.t 8) 2, none⟩,
    ⟨(some 33), .ld (.t 32) 1 false, none⟩,
    ⟨(some 34), .call n_affine_between [(.c (.int .i64 0)), (.t 33)], none⟩,
    ⟨(some 35), .call n_affine_space_join [(.t 26), (.t 31), (.t 34)], none⟩,
    ⟨(some 36), .iadd (.t 23) (.t 25) 7, none⟩] [⟨none, .st (.t 36) (.t 35) 7, none⟩] []) (.skip))) <|
  .reg [⟨(some 37), .bin .add (.t 15) (.c (.int .i64 1)), none⟩,
    ⟨(some 15), .mov (.t 37), none⟩]))) <|
  .seq (.reg [⟨(some 38), .mov (.t 1), none⟩,
    ⟨(some 6), .mov (.t 38), none⟩]) <|
  .ret,
  [.t 6]⟩
theorem F_affine_space_begin_ok : cFn PP true n_affine_space_begin loops_affine_space_begin (cDr PP 39 tbl_affine_space_begin) = some F_affine_space_begin := by kernel_rfl

def V_affine_space_begin_L0 (h16 : Heap) (a17 : D) (a6 : D) (a2 : D) (a4 : D) (a15 : D) (J8 : List D → Heap → Prop) : Prop :=
  ∃ (I18 : Nat → List D → Heap → Prop) (n₀ : Nat), I18 n₀ [(.int .i64 0)] h16 ∧ ∀ (n19 : Nat) (f20 : Nat → D) (h21 : Heap), I18 n19 [f20 15] h21 →
  vbin .lss (f20 15) a17 fun a22 =>
  vcond a22 (∃ (J23 : List D → Heap → Prop), (∀ (f24 : Nat → D) (h25 : Heap), J23 [] h25 →
  vbin .add (f20 15) (.int .i64 1) fun a26 =>
  keq [a6, a2, a4, a15, a17] [a6, a2, a4, a15, a17] ∧ ∃ m, m < n19 ∧ I18 m [a26] h25) ∧
  vhOp PP (.iadd (.c a15) (.c (f20 15)) 3) h21 fun a27 h28 =>
  vhOp PP (.ld (.c a27) 3 true) h28 fun a29 h30 =>
  vhOp PP (.alloc (.agg [(.int .i64 0), (.int .i64 0), (.int .i64 0)])) h30 fun a31 h32 =>
  vhOp PP (.st (.c a31) (.c a29) 3) h32 fun a33 h34 =>
  vhOp PP (.fadd (.c a31) 0) h34 fun a35 h36 =>
  vhOp PP (.ld (.c a35) 1 false) h36 fun a37 h38 =>
  vbin .eql a37 a2 fun a39 =>
  vcond a39 (vdOp PP (.fadd (.c a31) 1) h38 fun a40 =>
  vdOp PP (.ld (.c a40) 1 false) h38 fun a41 =>
  vdOp PP (.ld (.c a4) 9 true) h38 fun a42 =>
  vdOp PP (.fadd (.c a31) 1) h38 fun a43 =>
  vdOp PP (.ld (.c a43) 1 false) h38 fun a44 =>
  vdOp PP (.iadd (.c a6) (.c a44) 7) h38 fun a45 =>
  vdOp PP (.ld (.c a45) 7 true) h38 fun a46 =>
  vdOp PP (.fadd (.c a31) 2) h38 fun a47 =>
  vdOp PP (.ld (.c a47) 1 false) h38 fun a48 =>
  vdOp PP (.call n_affine_between [(.c (.int .i64 0)), (.c a48)]) h38 fun a49 =>
  vdOp PP (.call n_affine_space_join [(.c a42), (.c a46), (.c a49)]) h38 fun a50 =>
  vdOp PP (.iadd (.c a6) (.c a41) 7) h38 fun a51 =>
  vhOp PP (.st (.c a51) (.c a50) 7) h38 fun a52 h53 =>
  keq [a6, a2, a4, a15, a17, (f20 15)] [a6, a2, a4, a15, a17, (f20 15)] ∧ J23 [] h53) (
  keq [a6, a2, a4, a15, a17, (f20 15)] [a6, a2, a4, a15, a17, (f20 15)] ∧ J23 [] h38)) (
  keq [a6] [a6] ∧ J8 [] h21)
def V_affine_space_begin (a0 : D) (a1 : D) (a2 : D) (h0 : Heap) (K : D → Heap → Prop) : Prop :=
  vhOp PP (.box (.c a0)) h0 fun a4 h5 =>
  ACall PP n_slices_Clone_sapi_Form_api_Form [a1] h5 fun a6 h7 =>
  ∃ (J8 : List D → Heap → Prop), (∀ (f9 : Nat → D) (h10 : Heap), J8 [] h10 →
  K a6 h10) ∧
  vhOp PP (.fadd (.c a4) 0) h7 fun a11 h12 =>
  vhOp PP (.fadd (.c a11) 6) h12 fun a13 h14 =>
  vhOp PP (.ld (.c a13) 1 false) h14 fun a15 h16 =>
  vlen a15 h16 fun a17 =>
  V_affine_space_begin_L0 h16 a17 a6 a2 a4 a15 J8
theorem V_affine_space_begin_ok (a0 : D) (a1 : D) (a2 : D) (h0 : Heap) (K : D → Heap → Prop) : V_affine_space_begin a0 a1 a2 h0 K = vcC PP F_affine_space_begin.code (fun x e h' => match x with | .exit _ => False | _ => vcRet PP F_affine_space_begin.res K e h') (params [a0, a1, a2] 0) h0 := by kernel_rfl

/-- (warpwright/affine.space).zeros -/
def loops_affine_space_zeros : Nat → Option (List Nat × List Nat)
  | _ => none
def tbl_affine_space_zeros : Nat → Option (List Nat × List Nat × List Nat)
  | _ => none
def F_affine_space_zeros : AFunc := ⟨7,
  .seq (.reg [⟨(some 1), .box (.t 0), none⟩,
    ⟨(some 2), .mov (.c .nil), none⟩]) <|
  .seq (.reg [⟨(some 3), .fadd (.t 1) 0, none⟩,
    ⟨(some 4), .fadd (.t 3) 2, none⟩,
    ⟨(some 5), .ld (.t 4) 1 false, none⟩,
    ⟨(some 6), .mk 7 56 (.agg [(.bool false), (.int .i64 0), (.int .i64 0), (.int .i64 0), (.int .i64 0), (.int .i64 0), (.int .i64 0)]) (.t 5) (.t 5), none⟩,
    ⟨(some 2), .mov (.t 6), none⟩]) <|
  .ret,
  [.t 2]⟩
theorem F_affine_space_zeros_ok : cFn PP true n_affine_space_zeros loops_affine_space_zeros (cDr PP 7 tbl_affine_space_zeros) = some F_affine_space_zeros := by kernel_rfl


def V_affine_space_zeros (a0 : D) (h0 : Heap) (K : D → Heap → Prop) : Prop :=
  vhOp PP (.box (.c a0)) h0 fun a2 h3 =>
  vhOp PP (.fadd (.c a2) 0) h3 fun a4 h5 =>
  vhOp PP (.fadd (.c a4) 2) h5 fun a6 h7 =>
  vhOp PP (.ld (.c a6) 1 false) h7 fun a8 h9 =>
  vhOp PP (.mk 7 56 (.agg [(.bool false), (.int .i64 0), (.int .i64 0), (.int .i64 0), (.int .i64 0), (.int .i64 0), (.int .i64 0)]) (.c a8) (.c a8)) h9 fun a10 h11 =>
  K a10 h11
theorem V_affine_space_zeros_ok (a0 : D) (h0 : Heap) (K : D → Heap → Prop) : V_affine_space_zeros a0 h0 K = vcC PP F_affine_space_zeros.code (fun x e h' => match x with | .exit _ => False | _ => vcRet PP F_affine_space_zeros.res K e h') (params [a0] 0) h0 := by kernel_rfl

/-- (warpwright/affine.space).after -/
def loops_affine_space_after : Nat → Option (List Nat × List Nat)
  | 1000010 => some ([1], []) | 3 => some ([1, 4, 22, 23], [24]) | 1000009 => some ([1, 4, 22, 23, 24], []) | _ => none
def tbl_affine_space_after : Nat → Option (List Nat × List Nat × List Nat)
  | _ => none
def F_affine_space_after : AFunc := ⟨41,
  .seq (.reg [⟨(some 4), .box (.t 0), none⟩,
    ⟨(some 8), .mov (.c .nil), none⟩]) <|
  .seq (.reg [⟨(some 12), .mov (.t 1), none⟩,
    ⟨(some 13), .call n_slices_Clone_sapi_Form_api_Form [(.t 12)], none⟩,
    ⟨(some 1), .mov (.t 13), none⟩]) <|
  .seqj [1] [] (.seq (.reg [⟨(some 14), .fadd (.t 4) 0, none⟩,
    ⟨(some 15), .fadd (.t 14) 7, none⟩,
    ⟨(some 16), .ld (.t 15) 1 false, none⟩,
    ⟨(some 17), .mov (.t 2), none⟩,
    ⟨(some 18), .iadd (.t 16) (.t 17) 14, none⟩,
    ⟨(some 19), .fadd (.t 18) 0, none⟩,
    ⟨(some 20), .ld (.t 19) 1 false, none⟩,
    ⟨(some 21), .mov (.t 3), none⟩,
    ⟨(some 22), .slc (.t 20) none (some (.t 21)) none 15, none⟩,
    ⟨(some 23), .len (.t 22), none⟩,
    ⟨(some 24), .mov (.c (.int .i64 0)), none⟩]) <|
  .block 0 (.loop [1, 4, 22, 23] [24] (.seq (.reg [⟨(some 25), .bin .lss (.t 24) (.t 23), none⟩]) <|
  .seq (.cond (.t 25) (.skip) (.exit 0)) <|
  .seqj [1, 4, 22, 23, 24] [] (.block 1 (.seq (.reg [⟨(some 26), .iadd (.t 22) (.t 24) 15, none⟩,
    ⟨(some 27), .ld (.t 26) 15 true, none⟩,
    ⟨(some 10), .alloc (.agg [(.int .i64 0), (.int .i64 0), (.int .i64 0), (.int .i64 0), (.int .i64 0), (.int .i32 0), (.int .i64 0), (.int .i64 0), (.int .i32 0), (.int .i64 0), (.int .i64 0), (.int .i32 0), (.int .i64 0), (.int .i64 0), (.int .i32 0)]), none⟩,
    ⟨none, .st (.t 10) (.t 27) 15, none⟩]) <|
  .seq (.reg [⟨(some 28), .ld (.t 10) 15 true, none⟩,
    ⟨(some 29), .call n_code_Def [(.t 28)], none⟩,
    ⟨(some 11), .mov (.t 29), none⟩]) <|
  .seq (.reg [⟨(some 30), .mov (.t 11), none⟩,
    ⟨(some 31), .bin .geq (.t 30) (.c (.int .i64 0)), none⟩]) <|
  .cond (.t 31) (.reg [⟨(some 32), .mov (.t 1), none⟩,
    ⟨(some 33), .mov (.t 11), none⟩,
    ⟨(some 34), .ld (.t 4) 9 true, none⟩,
    ⟨(some 35), .mov (.t 1), none⟩,
    ⟨(some 36), .ld (.t 10) 15 true, none⟩,
    ⟨(some 37), .call n_affine_space_result [(.t 34), (.t 35), (.t 36)], none⟩,
    ⟨(some 38), .iadd (.t 32) (.t 33) 7, none⟩,
    ⟨none, .st (.t 38) (.t 37) 7, none⟩]) (.skip))) <|
  .reg [⟨(some 39), .bin .add (.t 24) (.c (.int .i64 1)), none⟩,
    ⟨(some 24), .mov (.t 39), none⟩]))) <|
  .seq (.reg [⟨(some 40), .mov (.t 1), none⟩,
    ⟨(some 8), .mov (.t 40), none⟩]) <|
  .ret,
  [.t 8]⟩
theorem F_affine_space_after_ok : cFn PP true n_affine_space_after loops_affine_space_after (cDr PP 41 tbl_affine_space_after) = some F_affine_space_after := by kernel_rfl

def V_affine_space_after_L0 (h25 : Heap) (a26 : D) (a7 : D) (a5 : D) (a24 : D) (J9 : List D → Heap → Prop) : Prop :=
  ∃ (I27 : Nat → List D → Heap → Prop) (n₀ : Nat), I27 n₀ [(.int .i64 0)] h25 ∧ ∀ (n28 : Nat) (f29 : Nat → D) (h30 : Heap), I27 n28 [f29 24] h30 →
  vbin .lss (f29 24) a26 fun a31 =>
  vcond a31 (∃ (J32 : List D → Heap → Prop), (∀ (f33 : Nat → D) (h34 : Heap), J32 [] h34 →
  vbin .add (f29 24) (.int .i64 1) fun a35 =>
  keq [a7, a5, a24, a26] [a7, a5, a24, a26] ∧ ∃ m, m < n28 ∧ I27 m [a35] h34) ∧
  vhOp PP (.iadd (.c a24) (.c (f29 24)) 15) h30 fun a36 h37 =>
  vhOp PP (.ld (.c a36) 15 true) h37 fun a38 h39 =>
  vhOp PP (.alloc (.agg [(.int .i64 0), (.int .i64 0), (.int .i64 0), (.int .i64 0), (.int .i64 0), (.int .i32 0), (.int .i64 0), (.int .i64 0), (.int .i32 0), (.int .i64 0), (.int .i64 0), (.int .i32 0), (.int .i64 0), (.int .i64 0), (.int .i32 0)])) h39 fun a40 h41 =>
  vhOp PP (.st (.c a40) (.c a38) 15) h41 fun a42 h43 =>
  vhOp PP (.ld (.c a40) 15 true) h43 fun a44 h45 =>
  ACall PP n_code_Def [a44] h45 fun a46 h47 =>
  vbin .geq a46 (.int .i64 0) fun a48 =>
  vcond a48 (vhOp PP (.ld (.c a5) 9 true) h47 fun a49 h50 =>
  vhOp PP (.ld (.c a40) 15 true) h50 fun a51 h52 =>
  ACall PP n_affine_space_result [a49, a7, a51] h52 fun a53 h54 =>
  vhOp PP (.iadd (.c a7) (.c a46) 7) h54 fun a55 h56 =>
  vhOp PP (.st (.c a55) (.c a53) 7) h56 fun a57 h58 =>
  keq [a7, a5, a24, a26, (f29 24)] [a7, a5, a24, a26, (f29 24)] ∧ J32 [] h58) (
  keq [a7, a5, a24, a26, (f29 24)] [a7, a5, a24, a26, (f29 24)] ∧ J32 [] h47)) (
  keq [a7] [a7] ∧ J9 [] h30)
def V_affine_space_after (a0 : D) (a1 : D) (a2 : D) (a3 : D) (h0 : Heap) (K : D → Heap → Prop) : Prop :=
  vhOp PP (.box (.c a0)) h0 fun a5 h6 =>
  ACall PP n_slices_Clone_sapi_Form_api_Form [a1] h6 fun a7 h8 =>
  ∃ (J9 : List D → Heap → Prop), (∀ (f10 : Nat → D) (h11 : Heap), J9 [] h11 →
  K a7 h11) ∧
  vhOp PP (.fadd (.c a5) 0) h8 fun a12 h13 =>
  vhOp PP (.fadd (.c a12) 7) h13 fun a14 h15 =>
  vhOp PP (.ld (.c a14) 1 false) h15 fun a16 h17 =>
  vhOp PP (.iadd (.c a16) (.c a2) 14) h17 fun a18 h19 =>
  vhOp PP (.fadd (.c a18) 0) h19 fun a20 h21 =>
  vhOp PP (.ld (.c a20) 1 false) h21 fun a22 h23 =>
  vhOp PP (.slc (.c a22) none (some (.c a3)) none 15) h23 fun a24 h25 =>
  vlen a24 h25 fun a26 =>
  V_affine_space_after_L0 h25 a26 a7 a5 a24 J9
theorem V_affine_space_after_ok (a0 : D) (a1 : D) (a2 : D) (a3 : D) (h0 : Heap) (K : D → Heap → Prop) : V_affine_space_after a0 a1 a2 a3 h0 K = vcC PP F_affine_space_after.code (fun x e h' => match x with | .exit _ => False | _ => vcRet PP F_affine_space_after.res K e h') (params [a0, a1, a2, a3] 0) h0 := by kernel_rfl

/-- warpwright/code.Succ -/
def loops_code_Succ : Nat → Option (List Nat × List Nat)
  | _ => none
def tbl_code_Succ : Nat → Option (List Nat × List Nat × List Nat)
  | _ => none
def F_code_Succ : AFunc := ⟨26,
  .seq (.reg [⟨(some 1), .box (.t 0), none⟩,
    ⟨(some 2), .mov (.c .nil), none⟩]) <|
  .seq (.block 0 (.seq (.reg [⟨(some 4), .fadd (.t 1) 0, none⟩,
    ⟨(some 5), .ld (.t 4) 1 false, none⟩,
    ⟨(some 6), .bin .eql (.t 5) (.c (.int .i64 5)), none⟩,
    ⟨(some 3), .mov (.t 6), none⟩]) <|
  .cond (.t 3) (.seq (.reg [⟨(some 2), .mov (.c .nil), none⟩]) <|
  .ret) (.seq (.reg [⟨(some 8), .fadd (.t 1) 0, none⟩,
    ⟨(some 9), .ld (.t 8) 1 false, none⟩,
    ⟨(some 10), .bin .eql (.t 9) (.c (.int .i64 2)), none⟩,
    ⟨(some 11), .mov (.t 10), none⟩,
    ⟨(some 12), .fadd (.t 1) 11, some (11, true)⟩,
    ⟨(some 13), .iadda (.t 12) (.c (.int .i64 0)) 2 1, some (11, true)⟩,
    ⟨(some 14), .ld (.t 13) 1 false, some (11, true)⟩,
    ⟨(some 15), .fadd (.t 1) 11, some (11, true)⟩,
    ⟨(some 16), .iadda (.t 15) (.c (.int .i64 1)) 2 1, some (11, true)⟩,
    ⟨(some 17), .ld (.t 16) 1 false, some (11, true)⟩,
    ⟨(some 18), .bin .neq (.t 14) (.t 17), some (11, true)⟩,
    ⟨(some 19), .pick (.t 11) (.t 18) (.c (.bool false)), none⟩,
    ⟨(some 7), .mov (.t 19), none⟩]) <|
  .cond (.t 7) (.seq (.reg [⟨(some 20), .fadd (.t 1) 11, none⟩,
    ⟨(some 21), .dead, none⟩,
    ⟨(some 2), .mov (.t 21), none⟩]) <|
  .ret) (.skip)))) <|
  .seq (.reg [⟨(some 22), .fadd (.t 1) 11, none⟩,
    ⟨(some 23), .iadda (.t 22) (.c (.int .i64 0)) 2 1, none⟩,
    ⟨(some 24), .ld (.t 23) 1 false, none⟩,
    ⟨(some 25), .bldS true 1 1 (.int .i64 0) [(0, (.t 24))], none⟩,
    ⟨(some 2), .mov (.t 25), none⟩]) <|
  .ret,
  [.t 2]⟩
theorem F_code_Succ_ok : cFn PP true n_code_Succ loops_code_Succ (cDr PP 26 tbl_code_Succ) = some F_code_Succ := by kernel_rfl


def V_code_Succ (a0 : D) (h0 : Heap) (K : D → Heap → Prop) : Prop :=
  vhOp PP (.box (.c a0)) h0 fun a2 h3 =>
  vhOp PP (.fadd (.c a2) 0) h3 fun a4 h5 =>
  vhOp PP (.ld (.c a4) 1 false) h5 fun a6 h7 =>
  vbin .eql a6 (.int .i64 5) fun a8 =>
  vcond a8 (K .nil h7) (
  vhOp PP (.fadd (.c a2) 0) h7 fun a9 h10 =>
  vhOp PP (.ld (.c a9) 1 false) h10 fun a11 h12 =>
  vbin .eql a11 (.int .i64 2) fun a13 =>
  vguard a13 true (fun G14 =>
  vhOp PP (.fadd (.c a2) 11) h12 fun a17 h18 =>
  G14 a17 h18) h12 fun a15 h16 =>
  vguard a13 true (fun G19 =>
  vhOp PP (.iadda (.c a15) (.c (.int .i64 0)) 2 1) h16 fun a22 h23 =>
  G19 a22 h23) h16 fun a20 h21 =>
  vguard a13 true (fun G24 =>
  vhOp PP (.ld (.c a20) 1 false) h21 fun a27 h28 =>
  G24 a27 h28) h21 fun a25 h26 =>
  vguard a13 true (fun G29 =>
  vhOp PP (.fadd (.c a2) 11) h26 fun a32 h33 =>
  G29 a32 h33) h26 fun a30 h31 =>
  vguard a13 true (fun G34 =>
  vhOp PP (.iadda (.c a30) (.c (.int .i64 1)) 2 1) h31 fun a37 h38 =>
  G34 a37 h38) h31 fun a35 h36 =>
  vguard a13 true (fun G39 =>
  vhOp PP (.ld (.c a35) 1 false) h36 fun a42 h43 =>
  G39 a42 h43) h36 fun a40 h41 =>
  vguard a13 true (fun G44 =>
  vbin .neq a25 a40 fun a47 =>
  G44 a47 h41) h41 fun a45 h46 =>
  vhOp PP (.pick (.c a13) (.c a45) (.c (.bool false))) h46 fun a48 h49 =>
  vcond a48 (vhOp PP (.fadd (.c a2) 11) h49 fun a50 h51 =>
  vhOp PP (.dead) h51 fun a52 h53 =>
  K a52 h53) (
  vhOp PP (.fadd (.c a2) 11) h49 fun a54 h55 =>
  vhOp PP (.iadda (.c a54) (.c (.int .i64 0)) 2 1) h55 fun a56 h57 =>
  vhOp PP (.ld (.c a56) 1 false) h57 fun a58 h59 =>
  vhOp PP (.bldS true 1 1 (.int .i64 0) [(0, (.c a58))]) h59 fun a60 h61 =>
  K a60 h61))
theorem V_code_Succ_ok (a0 : D) (h0 : Heap) (K : D → Heap → Prop) : V_code_Succ a0 h0 K = vcC PP F_code_Succ.code (fun x e h' => match x with | .exit _ => False | _ => vcRet PP F_code_Succ.res K e h') (params [a0] 0) h0 := by kernel_rfl

/-- (warpwright/affine.space).along -/
def loops_affine_space_along : Nat → Option (List Nat × List Nat)
  | 1000008 => some ([1], []) | 1000016 => some ([1, 2, 3, 4], []) | _ => none
def tbl_affine_space_along : Nat → Option (List Nat × List Nat × List Nat)
  | 4 => some ([0, 0, 2, 6, 0, 31, 63], [6], []) | 6 => some ([0, 0, 2, 6, 0, 31, 63], [6], []) | 24 => some ([0, 0, 2, 6, 15, 31, 63, 0, 255, 511, 1023, 1023, 0, 6143, 16383], [12, 13], []) | _ => none
def F_affine_space_along : AFunc := ⟨162,
  .seq (.reg [⟨(some 4), .box (.t 0), none⟩,
    ⟨(some 8), .mov (.c .nil), none⟩,
    ⟨(some 9), .mov (.c (.bool false)), none⟩]) <|
  .seq (.reg [⟨(some 23), .fadd (.t 4) 0, none⟩,
    ⟨(some 24), .fadd (.t 23) 7, none⟩,
    ⟨(some 25), .ld (.t 24) 1 false, none⟩,
    ⟨(some 26), .mov (.t 2), none⟩,
    ⟨(some 27), .iadd (.t 25) (.t 26) 14, none⟩,
    ⟨(some 28), .fadd (.t 27) 1, none⟩,
    ⟨(some 29), .ld (.t 28) 13 true, none⟩,
    ⟨(some 10), .alloc (.agg [(.int .i64 0), (.int .i64 0), (.int .i64 0), (.int .i64 0), (.int .i32 0), (.int .i64 0), (.int .i64 0), (.int .i32 0), (.int .i64 0), (.int .i64 0), (.int .i32 0), (.int .i64 0), (.int .i64 0)]), none⟩,
    ⟨none, .st (.t 10) (.t 29) 13, none⟩]) <|
  .seq (.seq (.reg [⟨(some 30), .fadd (.t 10) 0, none⟩,
    ⟨(some 31), .ld (.t 30) 1 false, none⟩,
    ⟨(some 32), .bin .eql (.t 31) (.c (.int .i64 4)), none⟩]) <|
  .cond (.t 32) (.seq (.reg [⟨(some 33), .mov (.t 1), none⟩,
    ⟨(some 34), .call n_slices_Clone_sapi_Form_api_Form [(.t 33)], none⟩,
    ⟨(some 1), .mov (.t 34), none⟩]) <|
  .seq (.dreg [⟨(some 35), .mov (.t 1), none⟩,
    ⟨(some 36), .fadd (.t 10) 2, none⟩,
    ⟨(some 37), .fadd (.t 36) 1, none⟩,
    ⟨(some 38), .ld (.t 37) 1 false, none⟩,
    ⟨(some 39), .call n_affine_unknown [], none⟩,
    ⟨(some 40), .iadd (.t 35) (.t 38) 7, none⟩] [⟨none, .st (.t 40) (.t 39) 7, none⟩] []) <|
  .seqj [1] [] (.seq (.reg [⟨(some 41), .fadd (.t 10) 1, none⟩,
    ⟨(some 42), .ld (.t 41) 1 false, none⟩,
    ⟨(some 43), .bin .eql (.t 42) (.c (.int .i64 2)), none⟩,
    ⟨(some 44), .mov (.t 43), none⟩,
    ⟨(some 45), .fadd (.t 10) 1, some (44, false)⟩,
    ⟨(some 46), .ld (.t 45) 1 false, some (44, false)⟩,
    ⟨(some 47), .bin .eql (.t 46) (.c (.int .i64 3)), some (44, false)⟩,
    ⟨(some 48), .pick (.t 44) (.c (.bool true)) (.t 47), none⟩]) <|
  .cond (.t 48) (.dreg [⟨(some 49), .mov (.t 1), none⟩,
    ⟨(some 50), .fadd (.t 10) 2, none⟩,
    ⟨(some 51), .fadd (.t 50) 1, none⟩,
    ⟨(some 52), .ld (.t 51) 1 false, none⟩,
    ⟨(some 53), .call n_affine_between [(.c (.int .i64 0)), (.c (.int .i64 1))], none⟩,
    ⟨(some 54), .iadd (.t 49) (.t 52) 7, none⟩] [⟨none, .st (.t 54) (.t 53) 7, none⟩] []) (.skip)) <|
  .seq (.reg [⟨(some 55), .mov (.t 1), none⟩,
    ⟨(some 8), .mov (.t 55), none⟩,
    ⟨(some 9), .mov (.c (.bool true)), none⟩]) <|
  .ret) (.skip)) <|
  .seq (.seq (.reg [⟨(some 56), .ld (.t 10) 13 true, none⟩,
    ⟨(some 57), .call n_code_Succ [(.t 56)], none⟩,
    ⟨(some 58), .len (.t 57), none⟩,
    ⟨(some 59), .bin .lss (.t 58) (.c (.int .i64 2)), none⟩]) <|
  .cond (.t 59) (.seq (.reg [⟨(some 60), .mov (.t 1), none⟩,
    ⟨(some 8), .mov (.t 60), none⟩,
    ⟨(some 9), .mov (.c (.bool true)), none⟩]) <|
  .ret) (.skip)) <|
  .seqj [1, 2, 3, 4] [] (.seq (.reg [⟨(some 61), .mov (.t 1), none⟩,
    ⟨(some 62), .fadd (.t 10) 5, none⟩,
    ⟨(some 63), .ld (.t 62) 3 true, none⟩,
    ⟨(some 64), .call n_affine_operand [(.t 61), (.t 63)], none⟩,
    ⟨(some 11), .alloc (.agg [(.bool false), (.int .i64 0), (.int .i64 0), (.int .i64 0), (.int .i64 0), (.int .i64 0), (.int .i64 0)]), none⟩,
    ⟨none, .st (.t 11) (.t 64) 7, none⟩]) <|
  .seq (.reg [⟨(some 65), .ld (.t 11) 7 true, none⟩,
    ⟨(some 66), .call n_affine_plain [(.t 65)], none⟩]) <|
  .cond (.t 66) (.seq (.reg [⟨(some 68), .ld (.t 11) 7 true, none⟩,
    ⟨(some 69), .call n_affine_constant [(.t 68)], none⟩,
    ⟨(some 67), .mov (.t 69), none⟩,
    ⟨(some 70), .ext (.t 67) 0, none⟩,
    ⟨(some 71), .ext (.t 67) 1, none⟩,
    ⟨(some 12), .mov (.t 70), none⟩,
    ⟨(some 13), .mov (.t 71), none⟩]) <|
  .seq (.reg [⟨(some 72), .mov (.t 3), none⟩,
    ⟨(some 73), .bin .eql (.t 72) (.c (.int .i64 0)), none⟩,
    ⟨(some 74), .mov (.t 73), none⟩,
    ⟨(some 75), .mov (.t 13), some (74, true)⟩,
    ⟨(some 76), .pick (.t 74) (.t 75) (.c (.bool false)), none⟩,
    ⟨(some 77), .mov (.t 76), none⟩,
    ⟨(some 78), .mov (.t 12), some (77, true)⟩,
    ⟨(some 79), .bin .eql (.t 78) (.c (.int .i64 0)), some (77, true)⟩,
    ⟨(some 80), .pick (.t 77) (.t 79) (.c (.bool false)), none⟩,
    ⟨(some 81), .mov (.t 80), none⟩,
    ⟨(some 82), .mov (.t 3), some (81, false)⟩,
    ⟨(some 83), .bin .eql (.t 82) (.c (.int .i64 1)), some (81, false)⟩,
    ⟨(some 84), .mov (.t 83), some (81, false)⟩,
    ⟨(some 85), .fadd (.t 11) 4, some (84, true)⟩,
    ⟨(some 86), .ld (.t 85) 3 true, some (84, true)⟩,
    ⟨(some 87), .call n_span_Has [(.t 86), (.c (.int .i64 0))], some (84, true)⟩,
    ⟨(some 88), .un .not (.t 87), some (84, true)⟩,
    ⟨(some 89), .pick (.t 84) (.t 88) (.c (.bool false)), some (81, false)⟩,
    ⟨(some 90), .pick (.t 81) (.c (.bool true)) (.t 89), none⟩]) <|
  .cond (.t 90) (.seq (.reg [⟨(some 8), .mov (.c .nil), none⟩,
    ⟨(some 9), .mov (.c (.bool false)), none⟩]) <|
  .ret) (.skip)) (.skip)) <|
  .seq (.reg [⟨(some 92), .fadd (.t 4) 0, none⟩,
    ⟨(some 93), .fadd (.t 92) 7, none⟩,
    ⟨(some 94), .ld (.t 93) 1 false, none⟩,
    ⟨(some 95), .mov (.t 2), none⟩,
    ⟨(some 96), .iadd (.t 94) (.t 95) 14, none⟩,
    ⟨(some 97), .ld (.t 96) 14 true, none⟩,
    ⟨(some 98), .call n_affine_decides [(.t 97)], none⟩,
    ⟨(some 91), .mov (.t 98), none⟩,
    ⟨(some 99), .ext (.t 91) 0, none⟩,
    ⟨(some 100), .ext (.t 91) 1, none⟩,
    ⟨(some 14), .alloc (.agg [(.int .i64 0), (.int .i64 0), (.int .i64 0), (.int .i64 0), (.int .i64 0), (.int .i32 0), (.int .i64 0), (.int .i64 0), (.int .i32 0), (.int .i64 0), (.int .i64 0), (.int .i32 0), (.int .i64 0), (.int .i64 0), (.int .i32 0)]), none⟩,
    ⟨none, .st (.t 14) (.t 99) 15, none⟩,
    ⟨(some 15), .mov (.t 100), none⟩]) <|
  .seq (.seq (.reg [⟨(some 101), .mov (.t 15), none⟩,
    ⟨(some 102), .un .not (.t 101), none⟩,
    ⟨(some 103), .mov (.t 102), none⟩,
    ⟨(some 104), .mov (.t 1), some (103, false)⟩,
    ⟨(some 105), .fadd (.t 14) 6, some (103, false)⟩,
    ⟨(some 106), .fadd (.t 105) 1, some (103, false)⟩,
    ⟨(some 107), .ld (.t 106) 1 false, some (103, false)⟩,
    ⟨(some 108), .iadd (.t 104) (.t 107) 7, some (103, false)⟩,
    ⟨(some 109), .ld (.t 108) 7 true, some (103, false)⟩,
    ⟨(some 110), .call n_affine_plain [(.t 109)], some (103, false)⟩,
    ⟨(some 111), .un .not (.t 110), some (103, false)⟩,
    ⟨(some 112), .pick (.t 103) (.c (.bool true)) (.t 111), none⟩]) <|
  .cond (.t 112) (.seq (.reg [⟨(some 113), .mov (.t 1), none⟩,
    ⟨(some 8), .mov (.t 113), none⟩,
    ⟨(some 9), .mov (.c (.bool true)), none⟩]) <|
  .ret) (.skip)) <|
  .seq (.reg [⟨(some 115), .fadd (.t 14) 1, none⟩,
    ⟨(some 116), .ld (.t 115) 1 false, none⟩,
    ⟨(some 117), .fadd (.t 14) 9, none⟩,
    ⟨(some 118), .fadd (.t 117) 2, none⟩,
    ⟨(some 119), .ld (.t 118) 1 false, none⟩,
    ⟨(some 120), .conv .i64 (.t 119), none⟩,
    ⟨(some 121), .mov (.t 3), none⟩,
    ⟨(some 122), .bin .eql (.t 121) (.c (.int .i64 0)), none⟩,
    ⟨(some 123), .call n_affine_where [(.t 116), (.t 120), (.t 122)], none⟩,
    ⟨(some 114), .mov (.t 123), none⟩,
    ⟨(some 124), .ext (.t 114) 0, none⟩,
    ⟨(some 125), .ext (.t 114) 1, none⟩,
    ⟨(some 126), .ext (.t 114) 2, none⟩,
    ⟨(some 16), .mov (.t 124), none⟩,
    ⟨(some 17), .mov (.t 125), none⟩,
    ⟨(some 18), .mov (.t 126), none⟩]) <|
  .seq (.seq (.reg [⟨(some 127), .mov (.t 18), none⟩,
    ⟨(some 128), .un .not (.t 127), none⟩]) <|
  .cond (.t 128) (.seq (.reg [⟨(some 129), .mov (.t 1), none⟩,
    ⟨(some 8), .mov (.t 129), none⟩,
    ⟨(some 9), .mov (.c (.bool true)), none⟩]) <|
  .ret) (.skip)) <|
  .seq (.reg [⟨(some 131), .mov (.t 16), none⟩,
    ⟨(some 132), .mov (.t 17), none⟩,
    ⟨(some 133), .call n_span_Of [(.t 131), (.t 132), (.c (.int .i64 1))], none⟩,
    ⟨(some 130), .mov (.t 133), none⟩,
    ⟨(some 134), .ext (.t 130) 0, none⟩,
    ⟨(some 135), .ext (.t 130) 1, none⟩,
    ⟨(some 19), .alloc (.agg [(.int .i64 0), (.int .i64 0), (.int .i64 0)]), none⟩,
    ⟨none, .st (.t 19) (.t 134) 3, none⟩,
    ⟨(some 20), .mov (.t 135), none⟩]) <|
  .seq (.seq (.reg [⟨(some 136), .mov (.t 20), none⟩,
    ⟨(some 137), .bin .neq (.t 136) (.c (.int .i64 0)), none⟩]) <|
  .cond (.t 137) (.seq (.reg [⟨(some 8), .mov (.c .nil), none⟩,
    ⟨(some 9), .mov (.c (.bool false)), none⟩]) <|
  .ret) (.skip)) <|
  .seq (.dreg [⟨(some 139), .mov (.t 1), none⟩,
    ⟨(some 140), .fadd (.t 14) 6, none⟩,
    ⟨(some 141), .fadd (.t 140) 1, none⟩,
    ⟨(some 142), .ld (.t 141) 1 false, none⟩,
    ⟨(some 143), .iadd (.t 139) (.t 142) 7, none⟩,
    ⟨(some 144), .fadd (.t 143) 4, none⟩,
    ⟨(some 145), .ld (.t 144) 3 true, none⟩,
    ⟨(some 146), .ld (.t 19) 3 true, none⟩,
    ⟨(some 147), .call n_span_Meet [(.t 145), (.t 146)], none⟩,
    ⟨(some 138), .mov (.t 147), none⟩,
    ⟨(some 148), .ext (.t 138) 0, none⟩,
    ⟨(some 149), .ext (.t 138) 1, none⟩,
    ⟨(some 22), .mov (.t 149), none⟩] [⟨(some 21), .alloc (.agg [(.int .i64 0), (.int .i64 0), (.int .i64 0)]), none⟩,
    ⟨none, .st (.t 21) (.t 148) 3, none⟩] []) <|
  .seq (.seq (.reg [⟨(some 150), .mov (.t 22), none⟩,
    ⟨(some 151), .un .not (.t 150), none⟩]) <|
  .cond (.t 151) (.seq (.reg [⟨(some 8), .mov (.c .nil), none⟩,
    ⟨(some 9), .mov (.c (.bool false)), none⟩]) <|
  .ret) (.skip)) <|
  .seq (.reg [⟨(some 152), .mov (.t 1), none⟩,
    ⟨(some 153), .call n_slices_Clone_sapi_Form_api_Form [(.t 152)], none⟩,
    ⟨(some 1), .mov (.t 153), none⟩]) <|
  .seq (.reg [⟨(some 154), .mov (.t 1), none⟩,
    ⟨(some 155), .fadd (.t 14) 6, none⟩,
    ⟨(some 156), .fadd (.t 155) 1, none⟩,
    ⟨(some 157), .ld (.t 156) 1 false, none⟩,
    ⟨(some 158), .ld (.t 21) 3 true, none⟩,
    ⟨(some 159), .bld [(.bool false), (.int .i64 0), (.int .i64 0), (.int .i64 0), (.int .i64 0), (.int .i64 0), (.int .i64 0)] [(4, 3, (.t 158))], none⟩,
    ⟨(some 160), .iadd (.t 154) (.t 157) 7, none⟩,
    ⟨none, .st (.t 160) (.t 159) 7, none⟩]) <|
  .seq (.reg [⟨(some 161), .mov (.t 1), none⟩,
    ⟨(some 8), .mov (.t 161), none⟩,
    ⟨(some 9), .mov (.c (.bool true)), none⟩]) <|
  .ret,
  [.t 8, .t 9]⟩
theorem F_affine_space_along_ok : cFn PP true n_affine_space_along loops_affine_space_along (cDr PP 162 tbl_affine_space_along) = some F_affine_space_along := by kernel_rfl
/-- (warpwright/affine.space).pass -/
def loops_affine_space_pass : Nat → Option (List Nat × List Nat)
  | 1000011 => some ([], [9]) | 3 => some ([2, 3, 4, 12, 13], [9, 14]) | 1000010 => some ([2, 3, 4, 12, 13, 14], [9]) | _ => none
def tbl_affine_space_pass : Nat → Option (List Nat × List Nat × List Nat)
  | 5 => some ([0, 0, 0, 0, 12, 28, 63], [], []) | 6 => some ([0, 0, 0, 0, 0, 24, 56, 0, 252, 511, 1023, 2047], [10], []) | _ => none
def F_affine_space_pass : AFunc := ⟨44,
  .seq (.reg [⟨(some 4), .box (.t 0), none⟩,
    ⟨(some 8), .mov (.c (.bool false)), none⟩]) <|
  .seq (.reg [⟨(some 9), .mov (.c (.bool false)), none⟩]) <|
  .seqj [] [9] (.seq (.reg [⟨(some 12), .mov (.t 1), none⟩,
    ⟨(some 13), .len (.t 12), none⟩,
    ⟨(some 14), .mov (.c (.int .i64 0)), none⟩]) <|
  .block 0 (.loop [2, 3, 4, 12, 13] [9, 14] (.seq (.reg [⟨(some 15), .bin .lss (.t 14) (.t 13), none⟩]) <|
  .seq (.cond (.t 15) (.skip) (.exit 0)) <|
  .seqj [2, 3, 4, 12, 13, 14] [9] (.block 1 (.seq (.reg [⟨(some 16), .mov (.t 14), none⟩,
    ⟨(some 17), .iadd (.t 12) (.t 14) 7, none⟩,
    ⟨(some 18), .ld (.t 17) 7 true, none⟩,
    ⟨(some 11), .alloc (.agg [(.bool false), (.int .i64 0), (.int .i64 0), (.int .i64 0), (.int .i64 0), (.int .i64 0), (.int .i64 0)]), none⟩,
    ⟨(some 10), .mov (.t 16), none⟩,
    ⟨none, .st (.t 11) (.t 18) 7, none⟩]) <|
  .seq (.seq (.dreg [⟨(some 19), .ld (.t 4) 9 true, none⟩,
    ⟨(some 20), .ld (.t 11) 7 true, none⟩,
    ⟨(some 21), .mov (.t 2), none⟩,
    ⟨(some 22), .mov (.t 10), none⟩,
    ⟨(some 23), .iadd (.t 21) (.t 22) 7, none⟩,
    ⟨(some 24), .ld (.t 23) 7 true, none⟩,
    ⟨(some 25), .call n_affine_space_inside [(.t 19), (.t 20), (.t 24)], none⟩] [] []) <|
  .cond (.t 25) (.exit 1) (.skip)) <|
  .seq (.dreg [⟨(some 26), .mov (.t 2), none⟩,
    ⟨(some 27), .mov (.t 10), none⟩,
    ⟨(some 28), .ld (.t 4) 9 true, none⟩,
    ⟨(some 29), .mov (.t 2), none⟩,
    ⟨(some 30), .mov (.t 10), none⟩,
    ⟨(some 31), .iadd (.t 29) (.t 30) 7, none⟩,
    ⟨(some 32), .ld (.t 31) 7 true, none⟩,
    ⟨(some 33), .ld (.t 11) 7 true, none⟩,
    ⟨(some 34), .call n_affine_space_join [(.t 28), (.t 32), (.t 33)], none⟩,
    ⟨(some 35), .iadd (.t 26) (.t 27) 7, none⟩,
    ⟨(some 9), .mov (.c (.bool true)), none⟩] [⟨none, .st (.t 35) (.t 34) 7, none⟩] []) <|
  .seq (.reg [⟨(some 36), .mov (.t 3), none⟩,
    ⟨(some 37), .bin .gtr (.t 36) (.c (.int .i64 8)), none⟩]) <|
  .cond (.t 37) (.reg [⟨(some 38), .mov (.t 2), none⟩,
    ⟨(some 39), .mov (.t 10), none⟩,
    ⟨(some 40), .call n_affine_unknown [], none⟩,
    ⟨(some 41), .iadd (.t 38) (.t 39) 7, none⟩,
    ⟨none, .st (.t 41) (.t 40) 7, none⟩]) (.skip))) <|
  .reg [⟨(some 42), .bin .add (.t 14) (.c (.int .i64 1)), none⟩,
    ⟨(some 14), .mov (.t 42), none⟩]))) <|
  .seq (.reg [⟨(some 43), .mov (.t 9), none⟩,
    ⟨(some 8), .mov (.t 43), none⟩]) <|
  .ret,
  [.t 8]⟩
theorem F_affine_space_pass_ok : cFn PP true n_affine_space_pass loops_affine_space_pass (cDr PP 44 tbl_affine_space_pass) = some F_affine_space_pass := by kernel_rfl
/-- slices.ContainsFunc[[]warpwright/api.Form,warpwright/api.Form] -/
def loops_slices_ContainsFunc_sapi_Form_api_Form : Nat → Option (List Nat × List Nat)
  | _ => none
def tbl_slices_ContainsFunc_sapi_Form_api_Form : Nat → Option (List Nat × List Nat × List Nat)
  | _ => none
def F_slices_ContainsFunc_sapi_Form_api_Form : AFunc := ⟨9,
  .seq (.reg [⟨(some 4), .mov (.c (.bool false)), none⟩]) <|
  .seq (.reg [⟨(some 5), .mov (.t 0), none⟩,
    ⟨(some 6), .mov (.t 1), none⟩,
    ⟨(some 7), .call n_slices_IndexFunc_sapi_Form_api_Form [(.t 5), (.t 6)], none⟩,
    ⟨(some 8), .bin .geq (.t 7) (.c (.int .i64 0)), none⟩,
    ⟨(some 4), .mov (.t 8), none⟩]) <|
  .ret,
  [.t 4]⟩
theorem F_slices_ContainsFunc_sapi_Form_api_Form_ok : cFn PP true n_slices_ContainsFunc_sapi_Form_api_Form loops_slices_ContainsFunc_sapi_Form_api_Form (cDr PP 9 tbl_slices_ContainsFunc_sapi_Form_api_Form) = some F_slices_ContainsFunc_sapi_Form_api_Form := by kernel_rfl


def V_slices_ContainsFunc_sapi_Form_api_Form (a0 : D) (a1 : D) (h0 : Heap) (K : D → Heap → Prop) : Prop :=
  ACall PP n_slices_IndexFunc_sapi_Form_api_Form [a0, a1] h0 fun a3 h4 =>
  vbin .geq a3 (.int .i64 0) fun a5 =>
  K a5 h4
theorem V_slices_ContainsFunc_sapi_Form_api_Form_ok (a0 : D) (a1 : D) (h0 : Heap) (K : D → Heap → Prop) : V_slices_ContainsFunc_sapi_Form_api_Form a0 a1 h0 K = vcC PP F_slices_ContainsFunc_sapi_Form_api_Form.code (fun x e h' => match x with | .exit _ => False | _ => vcRet PP F_slices_ContainsFunc_sapi_Form_api_Form.res K e h') (params [a0, a1] 0) h0 := by kernel_rfl

/-- warpwright/affine.Check$1 -/
def loops_affine_Check_F1 : Nat → Option (List Nat × List Nat)
  | _ => none
def tbl_affine_Check_F1 : Nat → Option (List Nat × List Nat × List Nat)
  | _ => none
def F_affine_Check_F1 : AFunc := ⟨8,
  .seq (.reg [⟨(some 2), .box (.t 0), none⟩,
    ⟨(some 3), .mov (.c (.bool false)), none⟩]) <|
  .seq (.reg [⟨(some 4), .ld (.t 1) 9 true, none⟩,
    ⟨(some 5), .ld (.t 2) 7 true, none⟩,
    ⟨(some 6), .call n_affine_space_valid [(.t 4), (.t 5)], none⟩,
    ⟨(some 7), .un .not (.t 6), none⟩,
    ⟨(some 3), .mov (.t 7), none⟩]) <|
  .ret,
  [.t 3]⟩
theorem F_affine_Check_F1_ok : cFn PP true n_affine_Check_F1 loops_affine_Check_F1 (cDr PP 8 tbl_affine_Check_F1) = some F_affine_Check_F1 := by kernel_rfl


def V_affine_Check_F1 (a0 : D) (a1 : D) (h0 : Heap) (K : D → Heap → Prop) : Prop :=
  vhOp PP (.box (.c a0)) h0 fun a3 h4 =>
  vhOp PP (.ld (.c a1) 9 true) h4 fun a5 h6 =>
  vhOp PP (.ld (.c a3) 7 true) h6 fun a7 h8 =>
  ACall PP n_affine_space_valid [a5, a7] h8 fun a9 h10 =>
  vun .not a9 fun a11 =>
  K a11 h10
theorem V_affine_Check_F1_ok (a0 : D) (a1 : D) (h0 : Heap) (K : D → Heap → Prop) : V_affine_Check_F1 a0 a1 h0 K = vcC PP F_affine_Check_F1.code (fun x e h' => match x with | .exit _ => False | _ => vcRet PP F_affine_Check_F1.res K e h') (params [a0, a1] 0) h0 := by kernel_rfl

/-- (warpwright/affine.space).valid -/
def loops_affine_space_valid : Nat → Option (List Nat × List Nat)
  | _ => none
def tbl_affine_space_valid : Nat → Option (List Nat × List Nat × List Nat)
  | 2 => some ([0, 0, 3, 7], [], []) | 3 => some ([0, 1, 3, 7, 15, 15, 63, 15, 255, 511], [], []) | _ => none
def F_affine_space_valid : AFunc := ⟨39,
  .seq (.reg [⟨(some 2), .box (.t 0), none⟩,
    ⟨(some 3), .box (.t 1), none⟩,
    ⟨(some 4), .mov (.c (.bool false)), none⟩]) <|
  .seq (.seq (.reg [⟨(some 7), .fadd (.t 3) 0, none⟩,
    ⟨(some 8), .ld (.t 7) 1 false, none⟩]) <|
  .cond (.t 8) (.seq (.dreg [⟨(some 9), .ld (.t 3) 7 true, none⟩,
    ⟨(some 10), .call n_affine_unknown [], none⟩,
    ⟨(some 11), .eqv false true [.b, .i, .i, .i, .i, .i, .i] (.t 9) (.t 10), none⟩,
    ⟨(some 4), .mov (.t 11), none⟩] [] []) <|
  .ret) (.skip)) <|
  .seq (.seq (.dreg [⟨(some 12), .ld (.t 3) 7 true, none⟩,
    ⟨(some 13), .call n_affine_small [(.t 12)], none⟩,
    ⟨(some 14), .un .not (.t 13), none⟩,
    ⟨(some 15), .mov (.t 14), none⟩,
    ⟨(some 16), .ld (.t 2) 9 true, some (15, false)⟩,
    ⟨(some 17), .ld (.t 3) 7 true, some (15, false)⟩,
    ⟨(some 18), .call n_affine_space_canonical [(.t 16), (.t 17)], some (15, false)⟩,
    ⟨(some 19), .ld (.t 3) 7 true, some (15, false)⟩,
    ⟨(some 20), .eqv true true [.b, .i, .i, .i, .i, .i, .i] (.t 18) (.t 19), some (15, false)⟩,
    ⟨(some 21), .pick (.t 15) (.c (.bool true)) (.t 20), none⟩] [] []) <|
  .cond (.t 21) (.seq (.reg [⟨(some 4), .mov (.c (.bool false)), none⟩]) <|
  .ret) (.skip)) <|
  .seq (.reg [⟨(some 23), .ld (.t 2) 9 true, none⟩,
    ⟨(some 24), .ld (.t 3) 7 true, none⟩,
    ⟨(some 25), .call n_affine_space_span [(.t 23), (.t 24)], none⟩,
    ⟨(some 22), .mov (.t 25), none⟩,
    ⟨(some 26), .ext (.t 22) 0, none⟩,
    ⟨(some 27), .ext (.t 22) 1, none⟩,
    ⟨(some 5), .alloc (.agg [(.int .i64 0), (.int .i64 0), (.int .i64 0)]), none⟩,
    ⟨none, .st (.t 5) (.t 26) 3, none⟩,
    ⟨(some 6), .mov (.t 27), none⟩]) <|
  .seq (.reg [⟨(some 28), .mov (.t 6), none⟩,
    ⟨(some 29), .mov (.t 28), none⟩,
    ⟨(some 30), .fadd (.t 5) 0, some (29, true)⟩,
    ⟨(some 31), .ld (.t 30) 1 false, some (29, true)⟩,
    ⟨(some 32), .bin .geq (.t 31) (.c (.int .i64 (-2147483648))), some (29, true)⟩,
    ⟨(some 33), .pick (.t 29) (.t 32) (.c (.bool false)), none⟩,
    ⟨(some 34), .mov (.t 33), none⟩,
    ⟨(some 35), .fadd (.t 5) 1, some (34, true)⟩,
    ⟨(some 36), .ld (.t 35) 1 false, some (34, true)⟩,
    ⟨(some 37), .bin .leq (.t 36) (.c (.int .i64 2147483647)), some (34, true)⟩,
    ⟨(some 38), .pick (.t 34) (.t 37) (.c (.bool false)), none⟩,
    ⟨(some 4), .mov (.t 38), none⟩]) <|
  .ret,
  [.t 4]⟩
theorem F_affine_space_valid_ok : cFn PP true n_affine_space_valid loops_affine_space_valid (cDr PP 39 tbl_affine_space_valid) = some F_affine_space_valid := by kernel_rfl


def V_affine_space_valid (a0 : D) (a1 : D) (h0 : Heap) (K : D → Heap → Prop) : Prop :=
  vhOp PP (.box (.c a0)) h0 fun a3 h4 =>
  vhOp PP (.box (.c a1)) h4 fun a5 h6 =>
  vhOp PP (.fadd (.c a5) 0) h6 fun a7 h8 =>
  vhOp PP (.ld (.c a7) 1 false) h8 fun a9 h10 =>
  vcond a9 (vdOp PP (.ld (.c a5) 7 true) h10 fun a11 =>
  vdOp PP (.call n_affine_unknown []) h10 fun a12 =>
  vdOp PP (.eqv false true [.b, .i, .i, .i, .i, .i, .i] (.c a11) (.c a12)) h10 fun a13 =>
  K a13 h10) (
  vdOp PP (.ld (.c a5) 7 true) h10 fun a14 =>
  vdOp PP (.call n_affine_small [(.c a14)]) h10 fun a15 =>
  vun .not a15 fun a16 =>
  vguard1 a16 false (fun G17 =>
  vdOp PP (.ld (.c a3) 9 true) h10 fun a88 =>
  G17 a88) fun a18 =>
  vguard1 a16 false (fun G21 =>
  vdOp PP (.ld (.c a5) 7 true) h10 fun a87 =>
  G21 a87) fun a22 =>
  vguard1 a16 false (fun G25 =>
  vdOp PP (.call n_affine_space_canonical [(.c a18), (.c a22)]) h10 fun a86 =>
  G25 a86) fun a26 =>
  vguard1 a16 false (fun G29 =>
  vdOp PP (.ld (.c a5) 7 true) h10 fun a85 =>
  G29 a85) fun a30 =>
  vguard1 a16 false (fun G33 =>
  vdOp PP (.eqv true true [.b, .i, .i, .i, .i, .i, .i] (.c a26) (.c a30)) h10 fun a84 =>
  G33 a84) fun a34 =>
  vdOp PP (.pick (.c a16) (.c (.bool true)) (.c a34)) h10 fun a37 =>
  vcond a37 (K (.bool false) h10) (
  vhOp PP (.ld (.c a3) 9 true) h10 fun a38 h39 =>
  vhOp PP (.ld (.c a5) 7 true) h39 fun a40 h41 =>
  ACall PP n_affine_space_span [a38, a40] h41 fun a42 h43 =>
  vhOp PP (.ext (.c a42) 0) h43 fun a44 h45 =>
  vhOp PP (.ext (.c a42) 1) h45 fun a46 h47 =>
  vhOp PP (.alloc (.agg [(.int .i64 0), (.int .i64 0), (.int .i64 0)])) h47 fun a48 h49 =>
  vhOp PP (.st (.c a48) (.c a44) 3) h49 fun a50 h51 =>
  vguard a46 true (fun G52 =>
  vhOp PP (.fadd (.c a48) 0) h51 fun a55 h56 =>
  G52 a55 h56) h51 fun a53 h54 =>
  vguard a46 true (fun G57 =>
  vhOp PP (.ld (.c a53) 1 false) h54 fun a60 h61 =>
  G57 a60 h61) h54 fun a58 h59 =>
  vguard a46 true (fun G62 =>
  vbin .geq a58 (.int .i64 (-2147483648)) fun a65 =>
  G62 a65 h59) h59 fun a63 h64 =>
  vhOp PP (.pick (.c a46) (.c a63) (.c (.bool false))) h64 fun a66 h67 =>
  vguard a66 true (fun G68 =>
  vhOp PP (.fadd (.c a48) 1) h67 fun a71 h72 =>
  G68 a71 h72) h67 fun a69 h70 =>
  vguard a66 true (fun G73 =>
  vhOp PP (.ld (.c a69) 1 false) h70 fun a76 h77 =>
  G73 a76 h77) h70 fun a74 h75 =>
  vguard a66 true (fun G78 =>
  vbin .leq a74 (.int .i64 2147483647) fun a81 =>
  G78 a81 h75) h75 fun a79 h80 =>
  vhOp PP (.pick (.c a66) (.c a79) (.c (.bool false))) h80 fun a82 h83 =>
  K a82 h83))
theorem V_affine_space_valid_ok (a0 : D) (a1 : D) (h0 : Heap) (K : D → Heap → Prop) : V_affine_space_valid a0 a1 h0 K = vcC PP F_affine_space_valid.code (fun x e h' => match x with | .exit _ => False | _ => vcRet PP F_affine_space_valid.res K e h') (params [a0, a1] 0) h0 := by kernel_rfl

/-- (warpwright/affine.space).contains -/
def loops_affine_space_contains : Nat → Option (List Nat × List Nat)
  | _ => none
def tbl_affine_space_contains : Nat → Option (List Nat × List Nat × List Nat)
  | _ => none
def F_affine_space_contains : AFunc := ⟨12,
  .seq (.reg [⟨(some 3), .box (.t 0), none⟩,
    ⟨(some 6), .mov (.c (.bool false)), none⟩]) <|
  .seq (.reg [⟨(some 7), .mov (.t 2), none⟩,
    ⟨(some 8), .mov (.t 1), none⟩,
    ⟨(some 9), .ld (.t 3) 9 true, none⟩,
    ⟨(some 10), .mkf n_affine_space_inside [(.t 9)] [], none⟩,
    ⟨(some 11), .call n_slices_EqualFunc_sapi_Form_sapi_Form_api_Form_api_Form [(.t 7), (.t 8), (.t 10)], none⟩,
    ⟨(some 6), .mov (.t 11), none⟩]) <|
  .ret,
  [.t 6]⟩
theorem F_affine_space_contains_ok : cFn PP true n_affine_space_contains loops_affine_space_contains (cDr PP 12 tbl_affine_space_contains) = some F_affine_space_contains := by kernel_rfl


def V_affine_space_contains (a0 : D) (a1 : D) (a2 : D) (h0 : Heap) (K : D → Heap → Prop) : Prop :=
  vhOp PP (.box (.c a0)) h0 fun a4 h5 =>
  vhOp PP (.ld (.c a4) 9 true) h5 fun a6 h7 =>
  vhOp PP (.mkf n_affine_space_inside [(.c a6)] []) h7 fun a8 h9 =>
  ACall PP n_slices_EqualFunc_sapi_Form_sapi_Form_api_Form_api_Form [a2, a1, a8] h9 fun a10 h11 =>
  K a10 h11
theorem V_affine_space_contains_ok (a0 : D) (a1 : D) (a2 : D) (h0 : Heap) (K : D → Heap → Prop) : V_affine_space_contains a0 a1 a2 h0 K = vcC PP F_affine_space_contains.code (fun x e h' => match x with | .exit _ => False | _ => vcRet PP F_affine_space_contains.res K e h') (params [a0, a1, a2] 0) h0 := by kernel_rfl

/-- warpwright/affine.number -/
def loops_affine_number : Nat → Option (List Nat × List Nat)
  | _ => none
def tbl_affine_number : Nat → Option (List Nat × List Nat × List Nat)
  | _ => none
def F_affine_number : AFunc := ⟨7,
  .seq (.reg [⟨(some 2), .alloc (.agg [(.bool false), (.int .i64 0), (.int .i64 0), (.int .i64 0), (.int .i64 0), (.int .i64 0), (.int .i64 0)]), none⟩]) <|
  .seq (.reg [⟨(some 3), .mov (.t 0), none⟩,
    ⟨(some 4), .mov (.t 0), none⟩,
    ⟨(some 5), .bld [(.int .i64 0), (.int .i64 0), (.int .i64 0)] [(0, 1, (.t 3)), (1, 1, (.t 4))], none⟩,
    ⟨(some 6), .bld [(.bool false), (.int .i64 0), (.int .i64 0), (.int .i64 0), (.int .i64 0), (.int .i64 0), (.int .i64 0)] [(4, 3, (.t 5))], none⟩,
    ⟨none, .st (.t 2) (.t 6) 7, none⟩]) <|
  .ret,
  [.cell 2 7 true]⟩
theorem F_affine_number_ok : cFn PP true n_affine_number loops_affine_number (cDr PP 7 tbl_affine_number) = some F_affine_number := by kernel_rfl


def V_affine_number (a0 : D) (h0 : Heap) (K : D → Heap → Prop) : Prop :=
  vhOp PP (.alloc (.agg [(.bool false), (.int .i64 0), (.int .i64 0), (.int .i64 0), (.int .i64 0), (.int .i64 0), (.int .i64 0)])) h0 fun a2 h3 =>
  vhOp PP (.bld [(.int .i64 0), (.int .i64 0), (.int .i64 0)] [(0, 1, (.c a0)), (1, 1, (.c a0))]) h3 fun a4 h5 =>
  vhOp PP (.bld [(.bool false), (.int .i64 0), (.int .i64 0), (.int .i64 0), (.int .i64 0), (.int .i64 0), (.int .i64 0)] [(4, 3, (.c a4))]) h5 fun a6 h7 =>
  vhOp PP (.st (.c a2) (.c a6) 7) h7 fun a8 h9 =>
  vhOp PP (.ld (.c a2) 7 true) h9 fun a10 _ =>
  K a10 h9
theorem V_affine_number_ok (a0 : D) (h0 : Heap) (K : D → Heap → Prop) : V_affine_number a0 h0 K = vcC PP F_affine_number.code (fun x e h' => match x with | .exit _ => False | _ => vcRet PP F_affine_number.res K e h') (params [a0] 0) h0 := by kernel_rfl

/-- warpwright/affine.unknown -/
def loops_affine_unknown : Nat → Option (List Nat × List Nat)
  | _ => none
def tbl_affine_unknown : Nat → Option (List Nat × List Nat × List Nat)
  | _ => none
def F_affine_unknown : AFunc := ⟨2,
  .seq (.reg [⟨(some 0), .alloc (.agg [(.bool false), (.int .i64 0), (.int .i64 0), (.int .i64 0), (.int .i64 0), (.int .i64 0), (.int .i64 0)]), none⟩]) <|
  .seq (.reg [⟨(some 1), .bld [(.bool false), (.int .i64 0), (.int .i64 0), (.int .i64 0), (.int .i64 0), (.int .i64 0), (.int .i64 0)] [(0, 1, (.c (.bool true)))], none⟩,
    ⟨none, .st (.t 0) (.t 1) 7, none⟩]) <|
  .ret,
  [.cell 0 7 true]⟩
theorem F_affine_unknown_ok : cFn PP true n_affine_unknown loops_affine_unknown (cDr PP 2 tbl_affine_unknown) = some F_affine_unknown := by kernel_rfl
/-- warpwright/affine.operand -/
def loops_affine_operand : Nat → Option (List Nat × List Nat)
  | _ => none
def tbl_affine_operand : Nat → Option (List Nat × List Nat × List Nat)
  | _ => none
def F_affine_operand : AFunc := ⟨17,
  .seq (.reg [⟨(some 3), .box (.t 1), none⟩,
    ⟨(some 4), .alloc (.agg [(.bool false), (.int .i64 0), (.int .i64 0), (.int .i64 0), (.int .i64 0), (.int .i64 0), (.int .i64 0)]), none⟩]) <|
  .seq (.seq (.reg [⟨(some 5), .fadd (.t 3) 0, none⟩,
    ⟨(some 6), .ld (.t 5) 1 false, none⟩,
    ⟨(some 7), .bin .eql (.t 6) (.c (.int .i64 2)), none⟩]) <|
  .cond (.t 7) (.seq (.reg [⟨(some 8), .mov (.t 0), none⟩,
    ⟨(some 9), .fadd (.t 3) 1, none⟩,
    ⟨(some 10), .ld (.t 9) 1 false, none⟩,
    ⟨(some 11), .iadd (.t 8) (.t 10) 7, none⟩,
    ⟨(some 12), .ld (.t 11) 7 true, none⟩,
    ⟨none, .st (.t 4) (.t 12) 7, none⟩]) <|
  .ret) (.skip)) <|
  .seq (.reg [⟨(some 13), .fadd (.t 3) 2, none⟩,
    ⟨(some 14), .ld (.t 13) 1 false, none⟩,
    ⟨(some 15), .conv .i64 (.t 14), none⟩,
    ⟨(some 16), .call n_affine_number [(.t 15)], none⟩,
    ⟨none, .st (.t 4) (.t 16) 7, none⟩]) <|
  .ret,
  [.cell 4 7 true]⟩
theorem F_affine_operand_ok : cFn PP true n_affine_operand loops_affine_operand (cDr PP 17 tbl_affine_operand) = some F_affine_operand := by kernel_rfl


def V_affine_operand (a0 : D) (a1 : D) (h0 : Heap) (K : D → Heap → Prop) : Prop :=
  vhOp PP (.box (.c a1)) h0 fun a3 h4 =>
  vhOp PP (.alloc (.agg [(.bool false), (.int .i64 0), (.int .i64 0), (.int .i64 0), (.int .i64 0), (.int .i64 0), (.int .i64 0)])) h4 fun a5 h6 =>
  vhOp PP (.fadd (.c a3) 0) h6 fun a7 h8 =>
  vhOp PP (.ld (.c a7) 1 false) h8 fun a9 h10 =>
  vbin .eql a9 (.int .i64 2) fun a11 =>
  vcond a11 (vhOp PP (.fadd (.c a3) 1) h10 fun a12 h13 =>
  vhOp PP (.ld (.c a12) 1 false) h13 fun a14 h15 =>
  vhOp PP (.iadd (.c a0) (.c a14) 7) h15 fun a16 h17 =>
  vhOp PP (.ld (.c a16) 7 true) h17 fun a18 h19 =>
  vhOp PP (.st (.c a5) (.c a18) 7) h19 fun a20 h21 =>
  vhOp PP (.ld (.c a5) 7 true) h21 fun a22 _ =>
  K a22 h21) (
  vhOp PP (.fadd (.c a3) 2) h10 fun a23 h24 =>
  vhOp PP (.ld (.c a23) 1 false) h24 fun a25 h26 =>
  vhOp PP (.conv .i64 (.c a25)) h26 fun a27 h28 =>
  ACall PP n_affine_number [a27] h28 fun a29 h30 =>
  vhOp PP (.st (.c a5) (.c a29) 7) h30 fun a31 h32 =>
  vhOp PP (.ld (.c a5) 7 true) h32 fun a33 _ =>
  K a33 h32)
theorem V_affine_operand_ok (a0 : D) (a1 : D) (h0 : Heap) (K : D → Heap → Prop) : V_affine_operand a0 a1 h0 K = vcC PP F_affine_operand.code (fun x e h' => match x with | .exit _ => False | _ => vcRet PP F_affine_operand.res K e h') (params [a0, a1] 0) h0 := by kernel_rfl


end Go.Am
/- The functions of this seat's program in the short form, as a program of ours printed them (part 3); each line of it is checked. No condition. -/
set_option linter.unusedVariables false
namespace Go.Am
open Go Go.Proofs
/-- warpwright/warpwrightref26.one -/
def loops_ref26_one : Nat → Option (List Nat × List Nat)
  | _ => none
def tbl_ref26_one : Nat → Option (List Nat × List Nat × List Nat)
  | _ => none
def F_ref26_one : AFunc := ⟨6,
  .seq (.reg [⟨(some 2), .alloc (.agg [(.int .i64 0), (.int .i64 0), (.int .i64 0)]), none⟩]) <|
  .seq (.reg [⟨(some 3), .mov (.t 0), none⟩,
    ⟨(some 4), .mov (.t 0), none⟩,
    ⟨(some 5), .bld [(.int .i64 0), (.int .i64 0), (.int .i64 0)] [(0, 1, (.t 3)), (1, 1, (.t 4))], none⟩,
    ⟨none, .st (.t 2) (.t 5) 3, none⟩]) <|
  .ret,
  [.cell 2 3 true]⟩
theorem F_ref26_one_ok : cFn PP true n_ref26_one loops_ref26_one (cDr PP 6 tbl_ref26_one) = some F_ref26_one := by kernel_rfl


def V_ref26_one (a0 : D) (h0 : Heap) (K : D → Heap → Prop) : Prop :=
  vhOp PP (.alloc (.agg [(.int .i64 0), (.int .i64 0), (.int .i64 0)])) h0 fun a2 h3 =>
  vhOp PP (.bld [(.int .i64 0), (.int .i64 0), (.int .i64 0)] [(0, 1, (.c a0)), (1, 1, (.c a0))]) h3 fun a4 h5 =>
  vhOp PP (.st (.c a2) (.c a4) 3) h5 fun a6 h7 =>
  vhOp PP (.ld (.c a2) 3 true) h7 fun a8 _ =>
  K a8 h7
theorem V_ref26_one_ok (a0 : D) (h0 : Heap) (K : D → Heap → Prop) : V_ref26_one a0 h0 K = vcC PP F_ref26_one.code (fun x e h' => match x with | .exit _ => False | _ => vcRet PP F_ref26_one.res K e h') (params [a0] 0) h0 := by kernel_rfl

/-- warpwright/warpwrightref25.near -/
def loops_ref25_near : Nat → Option (List Nat × List Nat)
  | _ => none
def tbl_ref25_near : Nat → Option (List Nat × List Nat × List Nat)
  | _ => none
def F_ref25_near : AFunc := ⟨12,
  .seq (.reg [⟨(some 2), .mov (.c (.bool false)), none⟩]) <|
  .seq (.reg [⟨(some 3), .mov (.t 0), none⟩,
    ⟨(some 4), .call n_ref25_Edge [], none⟩,
    ⟨(some 5), .un .neg (.t 4), none⟩,
    ⟨(some 6), .bin .geq (.t 3) (.t 5), none⟩,
    ⟨(some 7), .mov (.t 6), none⟩,
    ⟨(some 8), .mov (.t 0), some (7, true)⟩,
    ⟨(some 9), .call n_ref25_Edge [], some (7, true)⟩,
    ⟨(some 10), .bin .leq (.t 8) (.t 9), some (7, true)⟩,
    ⟨(some 11), .pick (.t 7) (.t 10) (.c (.bool false)), none⟩,
    ⟨(some 2), .mov (.t 11), none⟩]) <|
  .ret,
  [.t 2]⟩
theorem F_ref25_near_ok : cFn PP true n_ref25_near loops_ref25_near (cDr PP 12 tbl_ref25_near) = some F_ref25_near := by kernel_rfl


def V_ref25_near (a0 : D) (h0 : Heap) (K : D → Heap → Prop) : Prop :=
  ACall PP n_ref25_Edge [] h0 fun a2 h3 =>
  vun .neg a2 fun a4 =>
  vbin .geq a0 a4 fun a5 =>
  vguard a5 true (fun G6 =>
  G6 a0 h3) h3 fun a7 h8 =>
  vguard a5 true (fun G9 =>
  ACall PP n_ref25_Edge [] h8 fun a12 h13 =>
  G9 a12 h13) h8 fun a10 h11 =>
  vguard a5 true (fun G14 =>
  vbin .leq a7 a10 fun a17 =>
  G14 a17 h11) h11 fun a15 h16 =>
  vhOp PP (.pick (.c a5) (.c a15) (.c (.bool false))) h16 fun a18 h19 =>
  K a18 h19
theorem V_ref25_near_ok (a0 : D) (h0 : Heap) (K : D → Heap → Prop) : V_ref25_near a0 h0 K = vcC PP F_ref25_near.code (fun x e h' => match x with | .exit _ => False | _ => vcRet PP F_ref25_near.res K e h') (params [a0] 0) h0 := by kernel_rfl

/-- warpwright/warpwrightref26.plus -/
def loops_ref26_plus : Nat → Option (List Nat × List Nat)
  | _ => none
def tbl_ref26_plus : Nat → Option (List Nat × List Nat × List Nat)
  | _ => none
def F_ref26_plus : AFunc := ⟨25,
  .seq (.reg [⟨(some 2), .box (.t 0), none⟩,
    ⟨(some 3), .box (.t 1), none⟩,
    ⟨(some 4), .alloc (.agg [(.int .i64 0), (.int .i64 0), (.int .i64 0), (.bool false)]), none⟩]) <|
  .seq (.seq (.reg [⟨(some 6), .fadd (.t 2) 3, none⟩,
    ⟨(some 7), .ld (.t 6) 1 false, none⟩,
    ⟨(some 8), .un .not (.t 7), none⟩,
    ⟨(some 9), .mov (.t 8), none⟩,
    ⟨(some 10), .ld (.t 3) 3 true, some (9, false)⟩,
    ⟨(some 11), .call n_ref25_Valid [(.t 10)], some (9, false)⟩,
    ⟨(some 12), .un .not (.t 11), some (9, false)⟩,
    ⟨(some 13), .pick (.t 9) (.c (.bool true)) (.t 12), none⟩]) <|
  .cond (.t 13) (.seq (.reg [⟨(some 14), .bld [(.int .i64 0), (.int .i64 0), (.int .i64 0), (.bool false)] [], none⟩,
    ⟨none, .st (.t 4) (.t 14) 4, none⟩]) <|
  .ret) (.skip)) <|
  .seq (.reg [⟨(some 15), .fadd (.t 2) 0, none⟩,
    ⟨(some 16), .ld (.t 15) 3 true, none⟩,
    ⟨(some 17), .ld (.t 3) 3 true, none⟩,
    ⟨(some 18), .call n_ref25_AddIn [(.t 16), (.t 17)], none⟩,
    ⟨(some 5), .alloc (.agg [(.int .i64 0), (.int .i64 0), (.int .i64 0), (.int .i64 0)]), none⟩,
    ⟨none, .st (.t 5) (.t 18) 4, none⟩]) <|
  .seq (.reg [⟨(some 19), .fadd (.t 5) 0, none⟩,
    ⟨(some 20), .ld (.t 19) 3 true, none⟩,
    ⟨(some 21), .fadd (.t 5) 3, none⟩,
    ⟨(some 22), .ld (.t 21) 1 false, none⟩,
    ⟨(some 23), .bin .eql (.t 22) (.c (.int .i64 0)), none⟩,
    ⟨(some 24), .bld [(.int .i64 0), (.int .i64 0), (.int .i64 0), (.bool false)] [(0, 3, (.t 20)), (3, 1, (.t 23))], none⟩,
    ⟨none, .st (.t 4) (.t 24) 4, none⟩]) <|
  .ret,
  [.cell 4 4 true]⟩
theorem F_ref26_plus_ok : cFn PP true n_ref26_plus loops_ref26_plus (cDr PP 25 tbl_ref26_plus) = some F_ref26_plus := by kernel_rfl


def V_ref26_plus (a0 : D) (a1 : D) (h0 : Heap) (K : D → Heap → Prop) : Prop :=
  vhOp PP (.box (.c a0)) h0 fun a3 h4 =>
  vhOp PP (.box (.c a1)) h4 fun a5 h6 =>
  vhOp PP (.alloc (.agg [(.int .i64 0), (.int .i64 0), (.int .i64 0), (.bool false)])) h6 fun a7 h8 =>
  vhOp PP (.fadd (.c a3) 3) h8 fun a9 h10 =>
  vhOp PP (.ld (.c a9) 1 false) h10 fun a11 h12 =>
  vun .not a11 fun a13 =>
  vguard a13 false (fun G14 =>
  vhOp PP (.ld (.c a5) 3 true) h12 fun a17 h18 =>
  G14 a17 h18) h12 fun a15 h16 =>
  vguard a13 false (fun G19 =>
  ACall PP n_ref25_Valid [a15] h16 fun a22 h23 =>
  G19 a22 h23) h16 fun a20 h21 =>
  vguard a13 false (fun G24 =>
  vun .not a20 fun a27 =>
  G24 a27 h21) h21 fun a25 h26 =>
  vhOp PP (.pick (.c a13) (.c (.bool true)) (.c a25)) h26 fun a28 h29 =>
  vcond a28 (vhOp PP (.bld [(.int .i64 0), (.int .i64 0), (.int .i64 0), (.bool false)] []) h29 fun a30 h31 =>
  vhOp PP (.st (.c a7) (.c a30) 4) h31 fun a32 h33 =>
  vhOp PP (.ld (.c a7) 4 true) h33 fun a34 _ =>
  K a34 h33) (
  vhOp PP (.fadd (.c a3) 0) h29 fun a35 h36 =>
  vhOp PP (.ld (.c a35) 3 true) h36 fun a37 h38 =>
  vhOp PP (.ld (.c a5) 3 true) h38 fun a39 h40 =>
  ACall PP n_ref25_AddIn [a37, a39] h40 fun a41 h42 =>
  vhOp PP (.alloc (.agg [(.int .i64 0), (.int .i64 0), (.int .i64 0), (.int .i64 0)])) h42 fun a43 h44 =>
  vhOp PP (.st (.c a43) (.c a41) 4) h44 fun a45 h46 =>
  vhOp PP (.fadd (.c a43) 0) h46 fun a47 h48 =>
  vhOp PP (.ld (.c a47) 3 true) h48 fun a49 h50 =>
  vhOp PP (.fadd (.c a43) 3) h50 fun a51 h52 =>
  vhOp PP (.ld (.c a51) 1 false) h52 fun a53 h54 =>
  vbin .eql a53 (.int .i64 0) fun a55 =>
  vhOp PP (.bld [(.int .i64 0), (.int .i64 0), (.int .i64 0), (.bool false)] [(0, 3, (.c a49)), (3, 1, (.c a55))]) h54 fun a56 h57 =>
  vhOp PP (.st (.c a7) (.c a56) 4) h57 fun a58 h59 =>
  vhOp PP (.ld (.c a7) 4 true) h59 fun a60 _ =>
  K a60 h59)
theorem V_ref26_plus_ok (a0 : D) (a1 : D) (h0 : Heap) (K : D → Heap → Prop) : V_ref26_plus a0 a1 h0 K = vcC PP F_ref26_plus.code (fun x e h' => match x with | .exit _ => False | _ => vcRet PP F_ref26_plus.res K e h') (params [a0, a1] 0) h0 := by kernel_rfl

/-- warpwright/warpwrightref26.part -/
def loops_ref26_part : Nat → Option (List Nat × List Nat)
  | _ => none
def tbl_ref26_part : Nat → Option (List Nat × List Nat × List Nat)
  | _ => none
def F_ref26_part : AFunc := ⟨26,
  .seq (.reg [⟨(some 4), .alloc (.agg [(.int .i64 0), (.int .i64 0), (.int .i64 0)]), none⟩]) <|
  .seq (.seq (.reg [⟨(some 6), .mov (.t 0), none⟩,
    ⟨(some 7), .bin .eql (.t 6) (.c (.int .i64 0)), none⟩,
    ⟨(some 8), .mov (.t 7), none⟩,
    ⟨(some 9), .mov (.t 1), some (8, false)⟩,
    ⟨(some 10), .bin .lss (.t 9) (.c (.int .i64 2)), some (8, false)⟩,
    ⟨(some 11), .pick (.t 8) (.c (.bool true)) (.t 10), none⟩]) <|
  .cond (.t 11) (.seq (.reg [⟨(some 12), .call n_ref26_one [(.c (.int .i64 0))], none⟩,
    ⟨none, .st (.t 4) (.t 12) 3, none⟩]) <|
  .ret) (.skip)) <|
  .seq (.reg [⟨(some 13), .mov (.t 0), none⟩,
    ⟨(some 14), .mov (.t 1), none⟩,
    ⟨(some 15), .bin .sub (.t 14) (.c (.int .i64 1)), none⟩,
    ⟨(some 16), .bin .mul (.t 13) (.t 15), none⟩,
    ⟨(some 5), .mov (.t 16), none⟩]) <|
  .seq (.seq (.reg [⟨(some 17), .mov (.t 0), none⟩,
    ⟨(some 18), .bin .lss (.t 17) (.c (.int .i64 0)), none⟩]) <|
  .cond (.t 18) (.seq (.reg [⟨(some 19), .mov (.t 5), none⟩,
    ⟨(some 20), .mov (.t 0), none⟩,
    ⟨(some 21), .un .neg (.t 20), none⟩,
    ⟨(some 22), .bld [(.int .i64 0), (.int .i64 0), (.int .i64 0)] [(0, 1, (.t 19)), (1, 1, (.c (.int .i64 0))), (2, 1, (.t 21))], none⟩,
    ⟨none, .st (.t 4) (.t 22) 3, none⟩]) <|
  .ret) (.skip)) <|
  .seq (.reg [⟨(some 23), .mov (.t 5), none⟩,
    ⟨(some 24), .mov (.t 0), none⟩,
    ⟨(some 25), .bld [(.int .i64 0), (.int .i64 0), (.int .i64 0)] [(0, 1, (.c (.int .i64 0))), (1, 1, (.t 23)), (2, 1, (.t 24))], none⟩,
    ⟨none, .st (.t 4) (.t 25) 3, none⟩]) <|
  .ret,
  [.cell 4 3 true]⟩
theorem F_ref26_part_ok : cFn PP true n_ref26_part loops_ref26_part (cDr PP 26 tbl_ref26_part) = some F_ref26_part := by kernel_rfl


def V_ref26_part (a0 : D) (a1 : D) (h0 : Heap) (K : D → Heap → Prop) : Prop :=
  vhOp PP (.alloc (.agg [(.int .i64 0), (.int .i64 0), (.int .i64 0)])) h0 fun a3 h4 =>
  vbin .eql a0 (.int .i64 0) fun a5 =>
  vguard a5 false (fun G6 =>
  G6 a1 h4) h4 fun a7 h8 =>
  vguard a5 false (fun G9 =>
  vbin .lss a7 (.int .i64 2) fun a12 =>
  G9 a12 h8) h8 fun a10 h11 =>
  vhOp PP (.pick (.c a5) (.c (.bool true)) (.c a10)) h11 fun a13 h14 =>
  vcond a13 (ACall PP n_ref26_one [(.int .i64 0)] h14 fun a15 h16 =>
  vhOp PP (.st (.c a3) (.c a15) 3) h16 fun a17 h18 =>
  vhOp PP (.ld (.c a3) 3 true) h18 fun a19 _ =>
  K a19 h18) (
  vbin .sub a1 (.int .i64 1) fun a20 =>
  vbin .mul a0 a20 fun a21 =>
  vbin .lss a0 (.int .i64 0) fun a22 =>
  vcond a22 (vun .neg a0 fun a23 =>
  vhOp PP (.bld [(.int .i64 0), (.int .i64 0), (.int .i64 0)] [(0, 1, (.c a21)), (1, 1, (.c (.int .i64 0))), (2, 1, (.c a23))]) h14 fun a24 h25 =>
  vhOp PP (.st (.c a3) (.c a24) 3) h25 fun a26 h27 =>
  vhOp PP (.ld (.c a3) 3 true) h27 fun a28 _ =>
  K a28 h27) (
  vhOp PP (.bld [(.int .i64 0), (.int .i64 0), (.int .i64 0)] [(0, 1, (.c (.int .i64 0))), (1, 1, (.c a21)), (2, 1, (.c a0))]) h14 fun a29 h30 =>
  vhOp PP (.st (.c a3) (.c a29) 3) h30 fun a31 h32 =>
  vhOp PP (.ld (.c a3) 3 true) h32 fun a33 _ =>
  K a33 h32))
theorem V_ref26_part_ok (a0 : D) (a1 : D) (h0 : Heap) (K : D → Heap → Prop) : V_ref26_part a0 a1 h0 K = vcC PP F_ref26_part.code (fun x e h' => match x with | .exit _ => False | _ => vcRet PP F_ref26_part.res K e h') (params [a0, a1] 0) h0 := by kernel_rfl

/-- warpwright/span.Valid -/
def loops_span_Valid : Nat → Option (List Nat × List Nat)
  | _ => none
def tbl_span_Valid : Nat → Option (List Nat × List Nat × List Nat)
  | _ => none
def F_span_Valid : AFunc := ⟨44,
  .seq (.reg [⟨(some 1), .box (.t 0), none⟩,
    ⟨(some 2), .mov (.c (.bool false)), none⟩]) <|
  .seq (.block 0 (.seq (.reg [⟨(some 4), .fadd (.t 1) 0, none⟩,
    ⟨(some 5), .ld (.t 4) 1 false, none⟩,
    ⟨(some 6), .call n_span_near [(.t 5)], none⟩,
    ⟨(some 7), .un .not (.t 6), none⟩,
    ⟨(some 8), .mov (.t 7), none⟩,
    ⟨(some 9), .fadd (.t 1) 1, some (8, false)⟩,
    ⟨(some 10), .ld (.t 9) 1 false, some (8, false)⟩,
    ⟨(some 11), .call n_span_near [(.t 10)], some (8, false)⟩,
    ⟨(some 12), .un .not (.t 11), some (8, false)⟩,
    ⟨(some 13), .pick (.t 8) (.c (.bool true)) (.t 12), none⟩,
    ⟨(some 14), .mov (.t 13), none⟩,
    ⟨(some 15), .fadd (.t 1) 0, some (14, false)⟩,
    ⟨(some 16), .ld (.t 15) 1 false, some (14, false)⟩,
    ⟨(some 17), .fadd (.t 1) 1, some (14, false)⟩,
    ⟨(some 18), .ld (.t 17) 1 false, some (14, false)⟩,
    ⟨(some 19), .bin .gtr (.t 16) (.t 18), some (14, false)⟩,
    ⟨(some 20), .pick (.t 14) (.c (.bool true)) (.t 19), none⟩,
    ⟨(some 3), .mov (.t 20), none⟩]) <|
  .cond (.t 3) (.seq (.reg [⟨(some 2), .mov (.c (.bool false)), none⟩]) <|
  .ret) (.seq (.reg [⟨(some 22), .fadd (.t 1) 0, none⟩,
    ⟨(some 23), .ld (.t 22) 1 false, none⟩,
    ⟨(some 24), .fadd (.t 1) 1, none⟩,
    ⟨(some 25), .ld (.t 24) 1 false, none⟩,
    ⟨(some 26), .bin .eql (.t 23) (.t 25), none⟩,
    ⟨(some 21), .mov (.t 26), none⟩]) <|
  .cond (.t 21) (.seq (.reg [⟨(some 27), .fadd (.t 1) 2, none⟩,
    ⟨(some 28), .ld (.t 27) 1 false, none⟩,
    ⟨(some 29), .bin .eql (.t 28) (.c (.int .i64 0)), none⟩,
    ⟨(some 2), .mov (.t 29), none⟩]) <|
  .ret) (.skip)))) <|
  .seq (.reg [⟨(some 30), .fadd (.t 1) 2, none⟩,
    ⟨(some 31), .ld (.t 30) 1 false, none⟩,
    ⟨(some 32), .bin .gtr (.t 31) (.c (.int .i64 0)), none⟩,
    ⟨(some 33), .mov (.t 32), none⟩,
    ⟨(some 34), .fadd (.t 1) 1, some (33, true)⟩,
    ⟨(some 35), .ld (.t 34) 1 false, some (33, true)⟩,
    ⟨(some 36), .fadd (.t 1) 0, some (33, true)⟩,
    ⟨(some 37), .ld (.t 36) 1 false, some (33, true)⟩,
    ⟨(some 38), .bin .sub (.t 35) (.t 37), some (33, true)⟩,
    ⟨(some 39), .fadd (.t 1) 2, some (33, true)⟩,
    ⟨(some 40), .ld (.t 39) 1 false, some (33, true)⟩,
    ⟨(some 41), .bin .rem (.t 38) (.t 40), some (33, true)⟩,
    ⟨(some 42), .bin .eql (.t 41) (.c (.int .i64 0)), some (33, true)⟩,
    ⟨(some 43), .pick (.t 33) (.t 42) (.c (.bool false)), none⟩,
    ⟨(some 2), .mov (.t 43), none⟩]) <|
  .ret,
  [.t 2]⟩
theorem F_span_Valid_ok : cFn PP true n_span_Valid loops_span_Valid (cDr PP 44 tbl_span_Valid) = some F_span_Valid := by kernel_rfl


def V_span_Valid (a0 : D) (h0 : Heap) (K : D → Heap → Prop) : Prop :=
  vhOp PP (.box (.c a0)) h0 fun a2 h3 =>
  vhOp PP (.fadd (.c a2) 0) h3 fun a4 h5 =>
  vhOp PP (.ld (.c a4) 1 false) h5 fun a6 h7 =>
  ACall PP n_span_near [a6] h7 fun a8 h9 =>
  vun .not a8 fun a10 =>
  vguard a10 false (fun G11 =>
  vhOp PP (.fadd (.c a2) 1) h9 fun a14 h15 =>
  G11 a14 h15) h9 fun a12 h13 =>
  vguard a10 false (fun G16 =>
  vhOp PP (.ld (.c a12) 1 false) h13 fun a19 h20 =>
  G16 a19 h20) h13 fun a17 h18 =>
  vguard a10 false (fun G21 =>
  ACall PP n_span_near [a17] h18 fun a24 h25 =>
  G21 a24 h25) h18 fun a22 h23 =>
  vguard a10 false (fun G26 =>
  vun .not a22 fun a29 =>
  G26 a29 h23) h23 fun a27 h28 =>
  vhOp PP (.pick (.c a10) (.c (.bool true)) (.c a27)) h28 fun a30 h31 =>
  vguard a30 false (fun G32 =>
  vhOp PP (.fadd (.c a2) 0) h31 fun a35 h36 =>
  G32 a35 h36) h31 fun a33 h34 =>
  vguard a30 false (fun G37 =>
  vhOp PP (.ld (.c a33) 1 false) h34 fun a40 h41 =>
  G37 a40 h41) h34 fun a38 h39 =>
  vguard a30 false (fun G42 =>
  vhOp PP (.fadd (.c a2) 1) h39 fun a45 h46 =>
  G42 a45 h46) h39 fun a43 h44 =>
  vguard a30 false (fun G47 =>
  vhOp PP (.ld (.c a43) 1 false) h44 fun a50 h51 =>
  G47 a50 h51) h44 fun a48 h49 =>
  vguard a30 false (fun G52 =>
  vbin .gtr a38 a48 fun a55 =>
  G52 a55 h49) h49 fun a53 h54 =>
  vhOp PP (.pick (.c a30) (.c (.bool true)) (.c a53)) h54 fun a56 h57 =>
  vcond a56 (K (.bool false) h57) (
  vhOp PP (.fadd (.c a2) 0) h57 fun a58 h59 =>
  vhOp PP (.ld (.c a58) 1 false) h59 fun a60 h61 =>
  vhOp PP (.fadd (.c a2) 1) h61 fun a62 h63 =>
  vhOp PP (.ld (.c a62) 1 false) h63 fun a64 h65 =>
  vbin .eql a60 a64 fun a66 =>
  vcond a66 (vhOp PP (.fadd (.c a2) 2) h65 fun a67 h68 =>
  vhOp PP (.ld (.c a67) 1 false) h68 fun a69 h70 =>
  vbin .eql a69 (.int .i64 0) fun a71 =>
  K a71 h70) (
  vhOp PP (.fadd (.c a2) 2) h65 fun a72 h73 =>
  vhOp PP (.ld (.c a72) 1 false) h73 fun a74 h75 =>
  vbin .gtr a74 (.int .i64 0) fun a76 =>
  vguard a76 true (fun G77 =>
  vhOp PP (.fadd (.c a2) 1) h75 fun a80 h81 =>
  G77 a80 h81) h75 fun a78 h79 =>
  vguard a76 true (fun G82 =>
  vhOp PP (.ld (.c a78) 1 false) h79 fun a85 h86 =>
  G82 a85 h86) h79 fun a83 h84 =>
  vguard a76 true (fun G87 =>
  vhOp PP (.fadd (.c a2) 0) h84 fun a90 h91 =>
  G87 a90 h91) h84 fun a88 h89 =>
  vguard a76 true (fun G92 =>
  vhOp PP (.ld (.c a88) 1 false) h89 fun a95 h96 =>
  G92 a95 h96) h89 fun a93 h94 =>
  vguard a76 true (fun G97 =>
  vbin .sub a83 a93 fun a100 =>
  G97 a100 h94) h94 fun a98 h99 =>
  vguard a76 true (fun G101 =>
  vhOp PP (.fadd (.c a2) 2) h99 fun a104 h105 =>
  G101 a104 h105) h99 fun a102 h103 =>
  vguard a76 true (fun G106 =>
  vhOp PP (.ld (.c a102) 1 false) h103 fun a109 h110 =>
  G106 a109 h110) h103 fun a107 h108 =>
  vguard a76 true (fun G111 =>
  vbin .rem a98 a107 fun a114 =>
  G111 a114 h108) h108 fun a112 h113 =>
  vguard a76 true (fun G115 =>
  vbin .eql a112 (.int .i64 0) fun a118 =>
  G115 a118 h113) h113 fun a116 h117 =>
  vhOp PP (.pick (.c a76) (.c a116) (.c (.bool false))) h117 fun a119 h120 =>
  K a119 h120))
theorem V_span_Valid_ok (a0 : D) (h0 : Heap) (K : D → Heap → Prop) : V_span_Valid a0 h0 K = vcC PP F_span_Valid.code (fun x e h' => match x with | .exit _ => False | _ => vcRet PP F_span_Valid.res K e h') (params [a0] 0) h0 := by kernel_rfl

/-- warpwright/affine.multiples -/
def loops_affine_multiples : Nat → Option (List Nat × List Nat)
  | 1000007 => some ([4, 6], [7]) | _ => none
def tbl_affine_multiples : Nat → Option (List Nat × List Nat × List Nat)
  | _ => none
def F_affine_multiples : AFunc := ⟨32,
  .seq (.reg [⟨(some 4), .alloc (.agg [(.int .i64 0), (.int .i64 0), (.int .i64 0)]), none⟩,
    ⟨(some 5), .mov (.c (.bool false)), none⟩]) <|
  .seq (.seq (.reg [⟨(some 8), .mov (.t 1), none⟩,
    ⟨(some 9), .bin .lss (.t 8) (.c (.int .i64 2)), none⟩,
    ⟨(some 10), .mov (.t 9), none⟩,
    ⟨(some 11), .mov (.t 0), some (10, false)⟩,
    ⟨(some 12), .bin .eql (.t 11) (.c (.int .i64 0)), some (10, false)⟩,
    ⟨(some 13), .pick (.t 10) (.c (.bool true)) (.t 12), none⟩]) <|
  .cond (.t 13) (.seq (.reg [⟨(some 14), .bld [(.int .i64 0), (.int .i64 0), (.int .i64 0)] [], none⟩,
    ⟨none, .st (.t 4) (.t 14) 3, none⟩,
    ⟨(some 5), .mov (.c (.bool true)), none⟩]) <|
  .ret) (.skip)) <|
  .seq (.reg [⟨(some 16), .mov (.t 1), none⟩,
    ⟨(some 17), .bin .sub (.t 16) (.c (.int .i64 1)), none⟩,
    ⟨(some 18), .call n_span_Of [(.c (.int .i64 0)), (.t 17), (.c (.int .i64 1))], none⟩,
    ⟨(some 15), .mov (.t 18), none⟩,
    ⟨(some 19), .ext (.t 15) 0, none⟩,
    ⟨(some 20), .ext (.t 15) 1, none⟩,
    ⟨(some 6), .alloc (.agg [(.int .i64 0), (.int .i64 0), (.int .i64 0)]), none⟩,
    ⟨none, .st (.t 6) (.t 19) 3, none⟩,
    ⟨(some 7), .mov (.t 20), none⟩]) <|
  .seqj [4, 6] [7] (.seq (.reg [⟨(some 21), .mov (.t 7), none⟩,
    ⟨(some 22), .bin .eql (.t 21) (.c (.int .i64 0)), none⟩]) <|
  .cond (.t 22) (.reg [⟨(some 24), .ld (.t 6) 3 true, none⟩,
    ⟨(some 25), .mov (.t 0), none⟩,
    ⟨(some 26), .call n_span_Scale [(.t 24), (.t 25)], none⟩,
    ⟨(some 23), .mov (.t 26), none⟩,
    ⟨(some 27), .ext (.t 23) 0, none⟩,
    ⟨(some 28), .ext (.t 23) 1, none⟩,
    ⟨none, .st (.t 6) (.t 27) 3, none⟩,
    ⟨(some 7), .mov (.t 28), none⟩]) (.skip)) <|
  .seq (.reg [⟨(some 29), .ld (.t 6) 3 true, none⟩,
    ⟨(some 30), .mov (.t 7), none⟩,
    ⟨(some 31), .bin .eql (.t 30) (.c (.int .i64 0)), none⟩,
    ⟨none, .st (.t 4) (.t 29) 3, none⟩,
    ⟨(some 5), .mov (.t 31), none⟩]) <|
  .ret,
  [.cell 4 3 true, .t 5]⟩
theorem F_affine_multiples_ok : cFn PP true n_affine_multiples loops_affine_multiples (cDr PP 32 tbl_affine_multiples) = some F_affine_multiples := by kernel_rfl


def V_affine_multiples (a0 : D) (a1 : D) (h0 : Heap) (K : D → Heap → Prop) : Prop :=
  vhOp PP (.alloc (.agg [(.int .i64 0), (.int .i64 0), (.int .i64 0)])) h0 fun a3 h4 =>
  vbin .lss a1 (.int .i64 2) fun a5 =>
  vguard a5 false (fun G6 =>
  G6 a0 h4) h4 fun a7 h8 =>
  vguard a5 false (fun G9 =>
  vbin .eql a7 (.int .i64 0) fun a12 =>
  G9 a12 h8) h8 fun a10 h11 =>
  vhOp PP (.pick (.c a5) (.c (.bool true)) (.c a10)) h11 fun a13 h14 =>
  vcond a13 (vhOp PP (.bld [(.int .i64 0), (.int .i64 0), (.int .i64 0)] []) h14 fun a15 h16 =>
  vhOp PP (.st (.c a3) (.c a15) 3) h16 fun a17 h18 =>
  vhOp PP (.ld (.c a3) 3 true) h18 fun a19 _ =>
  K (.tup [a19, (.bool true)]) h18) (
  vbin .sub a1 (.int .i64 1) fun a20 =>
  ACall PP n_span_Of [(.int .i64 0), a20, (.int .i64 1)] h14 fun a21 h22 =>
  vhOp PP (.ext (.c a21) 0) h22 fun a23 h24 =>
  vhOp PP (.ext (.c a21) 1) h24 fun a25 h26 =>
  vhOp PP (.alloc (.agg [(.int .i64 0), (.int .i64 0), (.int .i64 0)])) h26 fun a27 h28 =>
  vhOp PP (.st (.c a27) (.c a23) 3) h28 fun a29 h30 =>
  ∃ (J31 : List D → Heap → Prop), (∀ (f32 : Nat → D) (h33 : Heap), J31 [f32 7] h33 →
  vhOp PP (.ld (.c a27) 3 true) h33 fun a34 h35 =>
  vbin .eql (f32 7) (.int .i64 0) fun a36 =>
  vhOp PP (.st (.c a3) (.c a34) 3) h35 fun a37 h38 =>
  vhOp PP (.ld (.c a3) 3 true) h38 fun a39 _ =>
  K (.tup [a39, a36]) h38) ∧
  vbin .eql a25 (.int .i64 0) fun a40 =>
  vcond a40 (vhOp PP (.ld (.c a27) 3 true) h30 fun a41 h42 =>
  ACall PP n_span_Scale [a41, a0] h42 fun a43 h44 =>
  vhOp PP (.ext (.c a43) 0) h44 fun a45 h46 =>
  vhOp PP (.ext (.c a43) 1) h46 fun a47 h48 =>
  vhOp PP (.st (.c a27) (.c a45) 3) h48 fun a49 h50 =>
  keq [a3, a27] [a3, a27] ∧ J31 [a47] h50) (
  keq [a3, a27] [a3, a27] ∧ J31 [a25] h30))
theorem V_affine_multiples_ok (a0 : D) (a1 : D) (h0 : Heap) (K : D → Heap → Prop) : V_affine_multiples a0 a1 h0 K = vcC PP F_affine_multiples.code (fun x e h' => match x with | .exit _ => False | _ => vcRet PP F_affine_multiples.res K e h') (params [a0, a1] 0) h0 := by kernel_rfl

/-- warpwright/span.Add -/
def loops_span_Add : Nat → Option (List Nat × List Nat)
  | _ => none
def tbl_span_Add : Nat → Option (List Nat × List Nat × List Nat)
  | 1 => some ([0, 1, 0, 4, 15, 0, 32, 0, 128, 480, 0, 1024, 0, 4096, 15360, 31744, 65535, 131071, 131071, 524287, 1048575], [19], []) | _ => none
def F_span_Add : AFunc := ⟨25,
  .seq (.reg [⟨(some 2), .box (.t 0), none⟩,
    ⟨(some 3), .box (.t 1), none⟩,
    ⟨(some 4), .alloc (.agg [(.int .i64 0), (.int .i64 0), (.int .i64 0)]), none⟩,
    ⟨(some 5), .mov (.c (.int .i64 0)), none⟩]) <|
  .seq (.dreg [⟨(some 6), .fadd (.t 2) 0, none⟩,
    ⟨(some 7), .ld (.t 6) 1 false, none⟩,
    ⟨(some 8), .fadd (.t 3) 0, none⟩,
    ⟨(some 9), .ld (.t 8) 1 false, none⟩,
    ⟨(some 10), .bin .add (.t 7) (.t 9), none⟩,
    ⟨(some 11), .fadd (.t 2) 1, none⟩,
    ⟨(some 12), .ld (.t 11) 1 false, none⟩,
    ⟨(some 13), .fadd (.t 3) 1, none⟩,
    ⟨(some 14), .ld (.t 13) 1 false, none⟩,
    ⟨(some 15), .bin .add (.t 12) (.t 14), none⟩,
    ⟨(some 16), .fadd (.t 2) 2, none⟩,
    ⟨(some 17), .ld (.t 16) 1 false, none⟩,
    ⟨(some 18), .fadd (.t 3) 2, none⟩,
    ⟨(some 19), .ld (.t 18) 1 false, none⟩,
    ⟨(some 20), .bldS false 1 2 (.int .i64 0) [(0, (.t 17)), (1, (.t 19))], none⟩,
    ⟨(some 21), .call n_span_gcd [(.t 20)], none⟩,
    ⟨(some 22), .call n_span_bounded [(.t 10), (.t 15), (.t 21)], none⟩,
    ⟨(some 23), .ext (.t 22) 0, none⟩,
    ⟨(some 24), .ext (.t 22) 1, none⟩,
    ⟨(some 5), .mov (.t 24), none⟩] [⟨none, .st (.t 4) (.t 23) 3, none⟩] []) <|
  .ret,
  [.cell 4 3 true, .t 5]⟩
theorem F_span_Add_ok : cFn PP true n_span_Add loops_span_Add (cDr PP 25 tbl_span_Add) = some F_span_Add := by kernel_rfl


def V_span_Add (a0 : D) (a1 : D) (h0 : Heap) (K : D → Heap → Prop) : Prop :=
  vhOp PP (.box (.c a0)) h0 fun a3 h4 =>
  vhOp PP (.box (.c a1)) h4 fun a5 h6 =>
  vhOp PP (.alloc (.agg [(.int .i64 0), (.int .i64 0), (.int .i64 0)])) h6 fun a7 h8 =>
  vdOp PP (.fadd (.c a3) 0) h8 fun a9 =>
  vdOp PP (.ld (.c a9) 1 false) h8 fun a10 =>
  vdOp PP (.fadd (.c a5) 0) h8 fun a11 =>
  vdOp PP (.ld (.c a11) 1 false) h8 fun a12 =>
  vbin .add a10 a12 fun a13 =>
  vdOp PP (.fadd (.c a3) 1) h8 fun a14 =>
  vdOp PP (.ld (.c a14) 1 false) h8 fun a15 =>
  vdOp PP (.fadd (.c a5) 1) h8 fun a16 =>
  vdOp PP (.ld (.c a16) 1 false) h8 fun a17 =>
  vbin .add a15 a17 fun a18 =>
  vdOp PP (.fadd (.c a3) 2) h8 fun a19 =>
  vdOp PP (.ld (.c a19) 1 false) h8 fun a20 =>
  vdOp PP (.fadd (.c a5) 2) h8 fun a21 =>
  vdOp PP (.ld (.c a21) 1 false) h8 fun a22 =>
  vdOp PP (.bldS false 1 2 (.int .i64 0) [(0, (.c a20)), (1, (.c a22))]) h8 fun a23 =>
  vdOp PP (.call n_span_gcd [(.c a23)]) h8 fun a24 =>
  vdOp PP (.call n_span_bounded [(.c a13), (.c a18), (.c a24)]) h8 fun a25 =>
  vdOp PP (.ext (.c a25) 0) h8 fun a26 =>
  vdOp PP (.ext (.c a25) 1) h8 fun a27 =>
  vhOp PP (.st (.c a7) (.c a26) 3) h8 fun a28 h29 =>
  vhOp PP (.ld (.c a7) 3 true) h29 fun a30 _ =>
  K (.tup [a30, a27]) h29
theorem V_span_Add_ok (a0 : D) (a1 : D) (h0 : Heap) (K : D → Heap → Prop) : V_span_Add a0 a1 h0 K = vcC PP F_span_Add.code (fun x e h' => match x with | .exit _ => False | _ => vcRet PP F_span_Add.res K e h') (params [a0, a1] 0) h0 := by kernel_rfl

/-- slices.Clone[[]warpwright/api.Form,warpwright/api.Form] -/
def loops_slices_Clone_sapi_Form_api_Form : Nat → Option (List Nat × List Nat)
  | _ => none
def tbl_slices_Clone_sapi_Form_api_Form : Nat → Option (List Nat × List Nat × List Nat)
  | _ => none
def F_slices_Clone_sapi_Form_api_Form : AFunc := ⟨8,
  .seq (.reg [⟨(some 2), .mov (.c .nil), none⟩]) <|
  .seq (.seq (.reg [⟨(some 3), .mov (.t 0), none⟩,
    ⟨(some 4), .nilq false (.t 3), none⟩]) <|
  .cond (.t 4) (.seq (.reg [⟨(some 2), .mov (.c .nil), none⟩]) <|
  .ret) (.skip)) <|
  .seq (.reg [⟨(some 5), .bldS true 7 0 (.agg [(.bool false), (.int .i64 0), (.int .i64 0), (.int .i64 0), (.int .i64 0), (.int .i64 0), (.int .i64 0)]) [], none⟩,
    ⟨(some 6), .mov (.t 0), none⟩,
    ⟨(some 7), .app (.t 5) (.t 6) 7 56 (.agg [(.bool false), (.int .i64 0), (.int .i64 0), (.int .i64 0), (.int .i64 0), (.int .i64 0), (.int .i64 0)]), none⟩,
    ⟨(some 2), .mov (.t 7), none⟩]) <|
  .ret,
  [.t 2]⟩
theorem F_slices_Clone_sapi_Form_api_Form_ok : cFn PP true n_slices_Clone_sapi_Form_api_Form loops_slices_Clone_sapi_Form_api_Form (cDr PP 8 tbl_slices_Clone_sapi_Form_api_Form) = some F_slices_Clone_sapi_Form_api_Form := by kernel_rfl


def V_slices_Clone_sapi_Form_api_Form (a0 : D) (h0 : Heap) (K : D → Heap → Prop) : Prop :=
  vhOp PP (.nilq false (.c a0)) h0 fun a2 h3 =>
  vcond a2 (K .nil h3) (
  vhOp PP (.bldS true 7 0 (.agg [(.bool false), (.int .i64 0), (.int .i64 0), (.int .i64 0), (.int .i64 0), (.int .i64 0), (.int .i64 0)]) []) h3 fun a4 h5 =>
  vhOp PP (.app (.c a4) (.c a0) 7 56 (.agg [(.bool false), (.int .i64 0), (.int .i64 0), (.int .i64 0), (.int .i64 0), (.int .i64 0), (.int .i64 0)])) h5 fun a6 h7 =>
  K a6 h7)
theorem V_slices_Clone_sapi_Form_api_Form_ok (a0 : D) (h0 : Heap) (K : D → Heap → Prop) : V_slices_Clone_sapi_Form_api_Form a0 h0 K = vcC PP F_slices_Clone_sapi_Form_api_Form.code (fun x e h' => match x with | .exit _ => False | _ => vcRet PP F_slices_Clone_sapi_Form_api_Form.res K e h') (params [a0] 0) h0 := by kernel_rfl

/-- (warpwright/affine.space).join -/
def loops_affine_space_join : Nat → Option (List Nat × List Nat)
  | _ => none
def tbl_affine_space_join : Nat → Option (List Nat × List Nat × List Nat)
  | 8 => some ([0, 0, 0, 6, 14, 31, 63], [6], []) | _ => none
def F_affine_space_join : AFunc := ⟨50,
  .seq (.reg [⟨(some 3), .box (.t 0), none⟩,
    ⟨(some 4), .box (.t 1), none⟩,
    ⟨(some 5), .box (.t 2), none⟩,
    ⟨(some 6), .alloc (.agg [(.bool false), (.int .i64 0), (.int .i64 0), (.int .i64 0), (.int .i64 0), (.int .i64 0), (.int .i64 0)]), none⟩]) <|
  .seq (.block 0 (.seq (.reg [⟨(some 12), .fadd (.t 4) 0, none⟩,
    ⟨(some 13), .ld (.t 12) 1 false, none⟩,
    ⟨(some 14), .mov (.t 13), none⟩,
    ⟨(some 15), .fadd (.t 5) 0, some (14, false)⟩,
    ⟨(some 16), .ld (.t 15) 1 false, some (14, false)⟩,
    ⟨(some 17), .pick (.t 14) (.c (.bool true)) (.t 16), none⟩,
    ⟨(some 11), .mov (.t 17), none⟩]) <|
  .cond (.t 11) (.seq (.reg [⟨(some 18), .call n_affine_unknown [], none⟩,
    ⟨none, .st (.t 6) (.t 18) 7, none⟩]) <|
  .ret) (.seq (.reg [⟨(some 20), .ld (.t 4) 7 true, none⟩,
    ⟨(some 21), .ld (.t 5) 7 true, none⟩,
    ⟨(some 22), .call n_affine_alike [(.t 20), (.t 21)], none⟩,
    ⟨(some 19), .mov (.t 22), none⟩]) <|
  .cond (.t 19) (.seq (.reg [⟨(some 23), .fadd (.t 4) 4, none⟩,
    ⟨(some 24), .ld (.t 23) 3 true, none⟩,
    ⟨(some 25), .fadd (.t 5) 4, none⟩,
    ⟨(some 26), .ld (.t 25) 3 true, none⟩,
    ⟨(some 27), .call n_span_Join [(.t 24), (.t 26)], none⟩,
    ⟨(some 28), .fadd (.t 4) 4, none⟩,
    ⟨none, .st (.t 28) (.t 27) 3, none⟩]) <|
  .seq (.reg [⟨(some 29), .ld (.t 3) 9 true, none⟩,
    ⟨(some 30), .ld (.t 4) 7 true, none⟩,
    ⟨(some 31), .call n_affine_space_made [(.t 29), (.t 30), (.c (.int .i64 0))], none⟩,
    ⟨none, .st (.t 6) (.t 31) 7, none⟩]) <|
  .ret) (.skip)))) <|
  .seq (.reg [⟨(some 33), .ld (.t 3) 9 true, none⟩,
    ⟨(some 34), .ld (.t 4) 7 true, none⟩,
    ⟨(some 35), .call n_affine_space_span [(.t 33), (.t 34)], none⟩,
    ⟨(some 32), .mov (.t 35), none⟩,
    ⟨(some 36), .ext (.t 32) 0, none⟩,
    ⟨(some 37), .ext (.t 32) 1, none⟩,
    ⟨(some 7), .alloc (.agg [(.int .i64 0), (.int .i64 0), (.int .i64 0)]), none⟩,
    ⟨none, .st (.t 7) (.t 36) 3, none⟩,
    ⟨(some 8), .mov (.t 37), none⟩]) <|
  .seq (.reg [⟨(some 39), .ld (.t 3) 9 true, none⟩,
    ⟨(some 40), .ld (.t 5) 7 true, none⟩,
    ⟨(some 41), .call n_affine_space_span [(.t 39), (.t 40)], none⟩,
    ⟨(some 38), .mov (.t 41), none⟩,
    ⟨(some 42), .ext (.t 38) 0, none⟩,
    ⟨(some 43), .ext (.t 38) 1, none⟩,
    ⟨(some 9), .alloc (.agg [(.int .i64 0), (.int .i64 0), (.int .i64 0)]), none⟩,
    ⟨none, .st (.t 9) (.t 42) 3, none⟩,
    ⟨(some 10), .mov (.t 43), none⟩]) <|
  .seq (.dreg [⟨(some 44), .ld (.t 3) 9 true, none⟩,
    ⟨(some 45), .ld (.t 7) 3 true, none⟩,
    ⟨(some 46), .ld (.t 9) 3 true, none⟩,
    ⟨(some 47), .call n_span_Join [(.t 45), (.t 46)], none⟩,
    ⟨(some 48), .bld [(.bool false), (.int .i64 0), (.int .i64 0), (.int .i64 0), (.int .i64 0), (.int .i64 0), (.int .i64 0)] [(4, 3, (.t 47))], none⟩,
    ⟨(some 49), .call n_affine_space_made [(.t 44), (.t 48), (.c (.int .i64 0))], none⟩] [⟨none, .st (.t 6) (.t 49) 7, none⟩] []) <|
  .ret,
  [.cell 6 7 true]⟩
theorem F_affine_space_join_ok : cFn PP true n_affine_space_join loops_affine_space_join (cDr PP 50 tbl_affine_space_join) = some F_affine_space_join := by kernel_rfl
/-- warpwright/affine.between -/
def loops_affine_between : Nat → Option (List Nat × List Nat)
  | _ => none
def tbl_affine_between : Nat → Option (List Nat × List Nat × List Nat)
  | _ => none
def F_affine_between : AFunc := ⟨18,
  .seq (.reg [⟨(some 4), .alloc (.agg [(.bool false), (.int .i64 0), (.int .i64 0), (.int .i64 0), (.int .i64 0), (.int .i64 0), (.int .i64 0)]), none⟩]) <|
  .seq (.reg [⟨(some 8), .mov (.t 0), none⟩,
    ⟨(some 9), .mov (.t 1), none⟩,
    ⟨(some 10), .call n_span_Of [(.t 8), (.t 9), (.c (.int .i64 1))], none⟩,
    ⟨(some 7), .mov (.t 10), none⟩,
    ⟨(some 11), .ext (.t 7) 0, none⟩,
    ⟨(some 12), .ext (.t 7) 1, none⟩,
    ⟨(some 5), .alloc (.agg [(.int .i64 0), (.int .i64 0), (.int .i64 0)]), none⟩,
    ⟨none, .st (.t 5) (.t 11) 3, none⟩,
    ⟨(some 6), .mov (.t 12), none⟩]) <|
  .seq (.seq (.reg [⟨(some 13), .mov (.t 6), none⟩,
    ⟨(some 14), .bin .neq (.t 13) (.c (.int .i64 0)), none⟩]) <|
  .cond (.t 14) (.seq (.reg [⟨(some 15), .call n_affine_unknown [], none⟩,
    ⟨none, .st (.t 4) (.t 15) 7, none⟩]) <|
  .ret) (.skip)) <|
  .seq (.reg [⟨(some 16), .ld (.t 5) 3 true, none⟩,
    ⟨(some 17), .bld [(.bool false), (.int .i64 0), (.int .i64 0), (.int .i64 0), (.int .i64 0), (.int .i64 0), (.int .i64 0)] [(4, 3, (.t 16))], none⟩,
    ⟨none, .st (.t 4) (.t 17) 7, none⟩]) <|
  .ret,
  [.cell 4 7 true]⟩
theorem F_affine_between_ok : cFn PP true n_affine_between loops_affine_between (cDr PP 18 tbl_affine_between) = some F_affine_between := by kernel_rfl
/-- warpwright/code.Def -/
def loops_code_Def : Nat → Option (List Nat × List Nat)
  | _ => none
def tbl_code_Def : Nat → Option (List Nat × List Nat × List Nat)
  | _ => none
def F_code_Def : AFunc := ⟨6,
  .seq (.reg [⟨(some 1), .box (.t 0), none⟩,
    ⟨(some 2), .mov (.c (.int .i64 0)), none⟩]) <|
  .seq (.reg [⟨(some 3), .fadd (.t 1) 3, none⟩,
    ⟨(some 4), .ld (.t 3) 3 true, none⟩,
    ⟨(some 5), .call n_code_def [(.t 4)], none⟩,
    ⟨(some 2), .mov (.t 5), none⟩]) <|
  .ret,
  [.t 2]⟩
theorem F_code_Def_ok : cFn PP true n_code_Def loops_code_Def (cDr PP 6 tbl_code_Def) = some F_code_Def := by kernel_rfl


def V_code_Def (a0 : D) (h0 : Heap) (K : D → Heap → Prop) : Prop :=
  vhOp PP (.box (.c a0)) h0 fun a2 h3 =>
  vhOp PP (.fadd (.c a2) 3) h3 fun a4 h5 =>
  vhOp PP (.ld (.c a4) 3 true) h5 fun a6 h7 =>
  ACall PP n_code_def [a6] h7 fun a8 h9 =>
  K a8 h9
theorem V_code_Def_ok (a0 : D) (h0 : Heap) (K : D → Heap → Prop) : V_code_Def a0 h0 K = vcC PP F_code_Def.code (fun x e h' => match x with | .exit _ => False | _ => vcRet PP F_code_Def.res K e h') (params [a0] 0) h0 := by kernel_rfl

/-- (warpwright/affine.space).result -/
def loops_affine_space_result : Nat → Option (List Nat × List Nat)
  | 1000021 => some ([6], []) | 15 => some ([3, 5, 6, 7, 8, 52, 53], [54]) | _ => none
def tbl_affine_space_result : Nat → Option (List Nat × List Nat × List Nat)
  | 1 => some ([0, 0, 2, 7, 0, 0, 32, 127, 0, 0, 1023, 2047], [8, 9, 10, 11], []) | 6 => some ([0, 0, 0, 0, 8, 28, 63, 127], [7], []) | _ => none
def F_affine_space_result : AFunc := ⟨71,
  .seq (.reg [⟨(some 3), .box (.t 0), none⟩,
    ⟨(some 5), .box (.t 2), none⟩,
    ⟨(some 6), .alloc (.agg [(.bool false), (.int .i64 0), (.int .i64 0), (.int .i64 0), (.int .i64 0), (.int .i64 0), (.int .i64 0)]), none⟩]) <|
  .seq (.dreg [⟨(some 11), .mov (.t 1), none⟩,
    ⟨(some 12), .fadd (.t 5) 6, none⟩,
    ⟨(some 13), .ld (.t 12) 3 true, none⟩,
    ⟨(some 14), .call n_affine_operand [(.t 11), (.t 13)], none⟩,
    ⟨(some 15), .mov (.t 1), none⟩,
    ⟨(some 16), .fadd (.t 5) 9, none⟩,
    ⟨(some 17), .ld (.t 16) 3 true, none⟩,
    ⟨(some 18), .call n_affine_operand [(.t 15), (.t 17)], none⟩] [⟨(some 7), .alloc (.agg [(.bool false), (.int .i64 0), (.int .i64 0), (.int .i64 0), (.int .i64 0), (.int .i64 0), (.int .i64 0)]), none⟩,
    ⟨(some 8), .alloc (.agg [(.bool false), (.int .i64 0), (.int .i64 0), (.int .i64 0), (.int .i64 0), (.int .i64 0), (.int .i64 0)]), none⟩,
    ⟨none, .st (.t 7) (.t 14) 7, none⟩,
    ⟨none, .st (.t 8) (.t 18) 7, none⟩] []) <|
  .seqj [6] [] (.seq (.reg [⟨(some 19), .fadd (.t 5) 0, none⟩,
    ⟨(some 20), .ld (.t 19) 1 false, none⟩]) <|
  .block 0 (.seq (.reg [⟨(some 22), .bin .eql (.t 20) (.c (.int .i64 1)), none⟩,
    ⟨(some 21), .mov (.t 22), none⟩]) <|
  .cond (.t 21) (.seq (.reg [⟨(some 23), .ld (.t 7) 7 true, none⟩,
    ⟨none, .st (.t 6) (.t 23) 7, none⟩]) <|
  .ret) (.seq (.reg [⟨(some 25), .bin .eql (.t 20) (.c (.int .i64 4)), none⟩,
    ⟨(some 24), .mov (.t 25), none⟩]) <|
  .cond (.t 24) (.seq (.dreg [⟨(some 26), .ld (.t 3) 9 true, none⟩,
    ⟨(some 27), .ld (.t 8) 7 true, none⟩,
    ⟨(some 28), .mov (.t 1), none⟩,
    ⟨(some 29), .fadd (.t 5) 12, none⟩,
    ⟨(some 30), .ld (.t 29) 3 true, none⟩,
    ⟨(some 31), .call n_affine_operand [(.t 28), (.t 30)], none⟩,
    ⟨(some 32), .call n_affine_space_join [(.t 26), (.t 27), (.t 31)], none⟩] [⟨none, .st (.t 6) (.t 32) 7, none⟩] []) <|
  .ret) (.seq (.reg [⟨(some 34), .bin .eql (.t 20) (.c (.int .i64 5)), none⟩,
    ⟨(some 33), .mov (.t 34), none⟩]) <|
  .cond (.t 33) (.seq (.reg [⟨(some 35), .ld (.t 3) 9 true, none⟩,
    ⟨(some 36), .fadd (.t 5) 1, none⟩,
    ⟨(some 37), .ld (.t 36) 1 false, none⟩,
    ⟨(some 38), .call n_affine_space_id [(.t 35), (.t 37)], none⟩,
    ⟨none, .st (.t 6) (.t 38) 7, none⟩]) <|
  .ret) (.seq (.reg [⟨(some 40), .bin .eql (.t 20) (.c (.int .i64 2)), none⟩,
    ⟨(some 39), .mov (.t 40), none⟩]) <|
  .cond (.t 39) (.seq (.reg [⟨(some 41), .ld (.t 3) 9 true, none⟩,
    ⟨(some 42), .fadd (.t 5) 1, none⟩,
    ⟨(some 43), .ld (.t 42) 1 false, none⟩,
    ⟨(some 44), .ld (.t 7) 7 true, none⟩,
    ⟨(some 45), .call n_affine_space_unary [(.t 41), (.t 43), (.t 44)], none⟩,
    ⟨none, .st (.t 6) (.t 45) 7, none⟩]) <|
  .ret) (.seq (.reg [⟨(some 47), .bin .eql (.t 20) (.c (.int .i64 3)), none⟩,
    ⟨(some 46), .mov (.t 47), none⟩]) <|
  .cond (.t 46) (.seq (.seq (.reg [⟨(some 48), .fadd (.t 5) 1, none⟩,
    ⟨(some 49), .ld (.t 48) 1 false, none⟩,
    ⟨(some 50), .bin .geq (.t 49) (.c (.int .i64 24)), none⟩]) <|
  .cond (.t 50) (.seq (.reg [⟨(some 51), .call n_affine_between [(.c (.int .i64 0)), (.c (.int .i64 1))], none⟩,
    ⟨none, .st (.t 6) (.t 51) 7, none⟩]) <|
  .ret) (.skip)) <|
  .seq (.reg [⟨(some 52), .call n_affine_operators [], none⟩,
    ⟨(some 53), .len (.t 52), none⟩,
    ⟨(some 54), .mov (.c (.int .i64 0)), none⟩]) <|
  .block 1 (.loop [3, 5, 6, 7, 8, 52, 53] [54] (.seq (.reg [⟨(some 55), .bin .lss (.t 54) (.t 53), none⟩]) <|
  .seq (.cond (.t 55) (.skip) (.exit 1)) <|
  .seq (.block 2 (.seq (.reg [⟨(some 56), .iadd (.t 52) (.t 54) 2, none⟩,
    ⟨(some 57), .ld (.t 56) 2 true, none⟩,
    ⟨(some 10), .alloc (.agg [(.int .i64 0), .nilfn]), none⟩,
    ⟨none, .st (.t 10) (.t 57) 2, none⟩]) <|
  .seq (.reg [⟨(some 58), .fadd (.t 10) 0, none⟩,
    ⟨(some 59), .ld (.t 58) 1 false, none⟩,
    ⟨(some 60), .fadd (.t 5) 1, none⟩,
    ⟨(some 61), .ld (.t 60) 1 false, none⟩,
    ⟨(some 62), .bin .eql (.t 59) (.t 61), none⟩]) <|
  .cond (.t 62) (.seq (.reg [⟨(some 63), .fadd (.t 10) 1, none⟩,
    ⟨(some 64), .ld (.t 63) 1 false, none⟩,
    ⟨(some 65), .ld (.t 3) 9 true, none⟩,
    ⟨(some 66), .ld (.t 7) 7 true, none⟩,
    ⟨(some 67), .ld (.t 8) 7 true, none⟩,
    ⟨(some 68), .callv (.t 64) [(.t 65), (.t 66), (.t 67)], none⟩,
    ⟨none, .st (.t 6) (.t 68) 7, none⟩]) <|
  .ret) (.skip))) <|
  .reg [⟨(some 69), .bin .add (.t 54) (.c (.int .i64 1)), none⟩,
    ⟨(some 54), .mov (.t 69), none⟩]))) (.skip))))))) <|
  .seq (.reg [⟨(some 70), .call n_affine_unknown [], none⟩,
    ⟨none, .st (.t 6) (.t 70) 7, none⟩]) <|
  .ret,
  [.cell 6 7 true]⟩
theorem F_affine_space_result_ok : cFn PP true n_affine_space_result loops_affine_space_result (cDr PP 71 tbl_affine_space_result) = some F_affine_space_result := by kernel_rfl

/-- warpwright/affine.plain -/
def loops_affine_plain : Nat → Option (List Nat × List Nat)
  | _ => none
def tbl_affine_plain : Nat → Option (List Nat × List Nat × List Nat)
  | _ => none
def F_affine_plain : AFunc := ⟨6,
  .seq (.reg [⟨(some 1), .box (.t 0), none⟩,
    ⟨(some 2), .mov (.c (.bool false)), none⟩]) <|
  .seq (.reg [⟨(some 3), .ld (.t 1) 7 true, none⟩,
    ⟨(some 4), .bld [(.bool false), (.int .i64 0), (.int .i64 0), (.int .i64 0), (.int .i64 0), (.int .i64 0), (.int .i64 0)] [], none⟩,
    ⟨(some 5), .call n_affine_alike [(.t 3), (.t 4)], none⟩,
    ⟨(some 2), .mov (.t 5), none⟩]) <|
  .ret,
  [.t 2]⟩
theorem F_affine_plain_ok : cFn PP true n_affine_plain loops_affine_plain (cDr PP 6 tbl_affine_plain) = some F_affine_plain := by kernel_rfl


def V_affine_plain (a0 : D) (h0 : Heap) (K : D → Heap → Prop) : Prop :=
  vhOp PP (.box (.c a0)) h0 fun a2 h3 =>
  vhOp PP (.ld (.c a2) 7 true) h3 fun a4 h5 =>
  vhOp PP (.bld [(.bool false), (.int .i64 0), (.int .i64 0), (.int .i64 0), (.int .i64 0), (.int .i64 0), (.int .i64 0)] []) h5 fun a6 h7 =>
  ACall PP n_affine_alike [a4, a6] h7 fun a8 h9 =>
  K a8 h9
theorem V_affine_plain_ok (a0 : D) (h0 : Heap) (K : D → Heap → Prop) : V_affine_plain a0 h0 K = vcC PP F_affine_plain.code (fun x e h' => match x with | .exit _ => False | _ => vcRet PP F_affine_plain.res K e h') (params [a0] 0) h0 := by kernel_rfl

/-- warpwright/affine.constant -/
def loops_affine_constant : Nat → Option (List Nat × List Nat)
  | _ => none
def tbl_affine_constant : Nat → Option (List Nat × List Nat × List Nat)
  | 1 => some ([0, 1, 3, 0, 8, 24, 56, 120, 248, 56, 568, 1592, 4088, 8184, 63, 32767], [], []) | _ => none
def F_affine_constant : AFunc := ⟨18,
  .seq (.reg [⟨(some 1), .box (.t 0), none⟩,
    ⟨(some 2), .mov (.c (.int .i64 0)), none⟩,
    ⟨(some 3), .mov (.c (.bool false)), none⟩]) <|
  .seq (.dreg [⟨(some 4), .fadd (.t 1) 4, none⟩,
    ⟨(some 5), .fadd (.t 4) 0, none⟩,
    ⟨(some 6), .ld (.t 5) 1 false, none⟩,
    ⟨(some 7), .ld (.t 1) 7 true, none⟩,
    ⟨(some 8), .call n_affine_plain [(.t 7)], none⟩,
    ⟨(some 9), .mov (.t 8), none⟩,
    ⟨(some 10), .fadd (.t 1) 4, some (9, true)⟩,
    ⟨(some 11), .fadd (.t 10) 0, some (9, true)⟩,
    ⟨(some 12), .ld (.t 11) 1 false, some (9, true)⟩,
    ⟨(some 13), .fadd (.t 1) 4, some (9, true)⟩,
    ⟨(some 14), .fadd (.t 13) 1, some (9, true)⟩,
    ⟨(some 15), .ld (.t 14) 1 false, some (9, true)⟩,
    ⟨(some 16), .bin .eql (.t 12) (.t 15), some (9, true)⟩,
    ⟨(some 17), .pick (.t 9) (.t 16) (.c (.bool false)), none⟩,
    ⟨(some 2), .mov (.t 6), none⟩,
    ⟨(some 3), .mov (.t 17), none⟩] [] []) <|
  .ret,
  [.t 2, .t 3]⟩
theorem F_affine_constant_ok : cFn PP true n_affine_constant loops_affine_constant (cDr PP 18 tbl_affine_constant) = some F_affine_constant := by kernel_rfl


def V_affine_constant (a0 : D) (h0 : Heap) (K : D → Heap → Prop) : Prop :=
  vhOp PP (.box (.c a0)) h0 fun a2 h3 =>
  vdOp PP (.fadd (.c a2) 4) h3 fun a4 =>
  vdOp PP (.fadd (.c a4) 0) h3 fun a5 =>
  vdOp PP (.ld (.c a5) 1 false) h3 fun a6 =>
  vdOp PP (.ld (.c a2) 7 true) h3 fun a7 =>
  vdOp PP (.call n_affine_plain [(.c a7)]) h3 fun a8 =>
  vguard1 a8 true (fun G9 =>
  vdOp PP (.fadd (.c a2) 4) h3 fun a44 =>
  G9 a44) fun a10 =>
  vguard1 a8 true (fun G13 =>
  vdOp PP (.fadd (.c a10) 0) h3 fun a43 =>
  G13 a43) fun a14 =>
  vguard1 a8 true (fun G17 =>
  vdOp PP (.ld (.c a14) 1 false) h3 fun a42 =>
  G17 a42) fun a18 =>
  vguard1 a8 true (fun G21 =>
  vdOp PP (.fadd (.c a2) 4) h3 fun a41 =>
  G21 a41) fun a22 =>
  vguard1 a8 true (fun G25 =>
  vdOp PP (.fadd (.c a22) 1) h3 fun a40 =>
  G25 a40) fun a26 =>
  vguard1 a8 true (fun G29 =>
  vdOp PP (.ld (.c a26) 1 false) h3 fun a39 =>
  G29 a39) fun a30 =>
  vguard1 a8 true (fun G33 =>
  vbin .eql a18 a30 fun a38 =>
  G33 a38) fun a34 =>
  vdOp PP (.pick (.c a8) (.c a34) (.c (.bool false))) h3 fun a37 =>
  K (.tup [a6, a37]) h3
theorem V_affine_constant_ok (a0 : D) (h0 : Heap) (K : D → Heap → Prop) : V_affine_constant a0 h0 K = vcC PP F_affine_constant.code (fun x e h' => match x with | .exit _ => False | _ => vcRet PP F_affine_constant.res K e h') (params [a0] 0) h0 := by kernel_rfl

/-- warpwright/affine.decides -/
def loops_affine_decides : Nat → Option (List Nat × List Nat)
  | 1000012 => some ([2, 3], []) | 4000007 => some ([1, 2, 3, 4], [1000000]) | _ => none
def tbl_affine_decides : Nat → Option (List Nat × List Nat × List Nat)
  | _ => none
def F_affine_decides : AFunc := ⟨69,
  .seq (.reg [⟨(some 1), .box (.t 0), none⟩,
    ⟨(some 2), .alloc (.agg [(.int .i64 0), (.int .i64 0), (.int .i64 0), (.int .i64 0), (.int .i64 0), (.int .i32 0), (.int .i64 0), (.int .i64 0), (.int .i32 0), (.int .i64 0), (.int .i64 0), (.int .i32 0), (.int .i64 0), (.int .i64 0), (.int .i32 0)]), none⟩,
    ⟨(some 3), .alloc (.bool false), none⟩]) <|
  .seq (.seq (.reg [⟨(some 9), .fadd (.t 1) 1, none⟩,
    ⟨(some 10), .fadd (.t 9) 5, none⟩,
    ⟨(some 11), .fadd (.t 10) 0, none⟩,
    ⟨(some 12), .ld (.t 11) 1 false, none⟩,
    ⟨(some 13), .bin .neq (.t 12) (.c (.int .i64 2)), none⟩]) <|
  .cond (.t 13) (.seq (.reg [⟨(some 14), .bld [(.int .i64 0), (.int .i64 0), (.int .i64 0), (.int .i64 0), (.int .i64 0), (.int .i32 0), (.int .i64 0), (.int .i64 0), (.int .i32 0), (.int .i64 0), (.int .i64 0), (.int .i32 0), (.int .i64 0), (.int .i64 0), (.int .i32 0)] [], none⟩,
    ⟨none, .st (.t 2) (.t 14) 15, none⟩,
    ⟨none, .st (.t 3) (.c (.bool false)) 1, none⟩]) <|
  .ret) (.skip)) <|
  .seq (.reg [⟨(some 15), .dead, none⟩,
    ⟨(some 4), .dead, none⟩,
    ⟨none, .st (.t 4) (.t 15) 1, none⟩]) <|
  .seqj [2, 3] [] (.seq (.reg [⟨(some 16), .fadd (.t 1) 0, none⟩,
    ⟨(some 17), .ld (.t 16) 1 false, none⟩,
    ⟨(some 18), .call n_slices_Backward_sapi_Inst_api_Inst [(.t 17)], none⟩]) <|
  .block 0 (.range (.t 18) [19, 20] [1, 2, 3, 4] [1000000] (.reg [⟨(some 6), .alloc (.agg [(.int .i64 0), (.int .i64 0), (.int .i64 0), (.int .i64 0), (.int .i64 0), (.int .i32 0), (.int .i64 0), (.int .i64 0), (.int .i32 0), (.int .i64 0), (.int .i64 0), (.int .i32 0), (.int .i64 0), (.int .i64 0), (.int .i32 0)]), none⟩,
    ⟨none, .st (.t 6) (.t 20) 15, none⟩]) (.block 1 (.seq (.reg [⟨(some 21), .ld (.t 6) 15 true, none⟩,
    ⟨(some 22), .call n_code_Def [(.t 21)], none⟩,
    ⟨(some 7), .mov (.t 22), none⟩]) <|
  .seq (.seq (.reg [⟨(some 23), .mov (.t 7), none⟩,
    ⟨(some 24), .fadd (.t 1) 1, none⟩,
    ⟨(some 25), .fadd (.t 24) 5, none⟩,
    ⟨(some 26), .fadd (.t 25) 1, none⟩,
    ⟨(some 27), .ld (.t 26) 1 false, none⟩,
    ⟨(some 28), .bin .neq (.t 23) (.t 27), none⟩]) <|
  .cond (.t 28) (.seq (.reg [⟨(some 29), .ld (.t 4) 1 false, none⟩,
    ⟨(some 30), .mov (.t 7), none⟩,
    ⟨none, .dead, none⟩]) <|
  .exit 1) (.skip)) <|
  .seq (.reg [⟨(some 31), .fadd (.t 6) 0, none⟩,
    ⟨(some 32), .ld (.t 31) 1 false, none⟩,
    ⟨(some 33), .bin .eql (.t 32) (.c (.int .i64 3)), none⟩,
    ⟨(some 34), .mov (.t 33), none⟩,
    ⟨(some 35), .fadd (.t 6) 1, some (34, true)⟩,
    ⟨(some 36), .ld (.t 35) 1 false, some (34, true)⟩,
    ⟨(some 37), .bin .geq (.t 36) (.c (.int .i64 24)), some (34, true)⟩,
    ⟨(some 38), .pick (.t 34) (.t 37) (.c (.bool false)), none⟩,
    ⟨(some 39), .mov (.t 38), none⟩,
    ⟨(some 40), .fadd (.t 6) 6, some (39, true)⟩,
    ⟨(some 41), .fadd (.t 40) 0, some (39, true)⟩,
    ⟨(some 42), .ld (.t 41) 1 false, some (39, true)⟩,
    ⟨(some 43), .bin .eql (.t 42) (.c (.int .i64 2)), some (39, true)⟩,
    ⟨(some 44), .pick (.t 39) (.t 43) (.c (.bool false)), none⟩,
    ⟨(some 45), .mov (.t 44), none⟩,
    ⟨(some 46), .fadd (.t 6) 9, some (45, true)⟩,
    ⟨(some 47), .fadd (.t 46) 0, some (45, true)⟩,
    ⟨(some 48), .ld (.t 47) 1 false, some (45, true)⟩,
    ⟨(some 49), .bin .eql (.t 48) (.c (.int .i64 1)), some (45, true)⟩,
    ⟨(some 50), .pick (.t 45) (.t 49) (.c (.bool false)), none⟩,
    ⟨(some 51), .mov (.t 50), none⟩,
    ⟨(some 52), .fadd (.t 6) 6, some (51, true)⟩,
    ⟨(some 53), .fadd (.t 52) 1, some (51, true)⟩,
    ⟨(some 54), .ld (.t 53) 1 false, some (51, true)⟩,
    ⟨(some 55), .mov (.t 7), some (51, true)⟩,
    ⟨(some 56), .bin .neq (.t 54) (.t 55), some (51, true)⟩,
    ⟨(some 57), .pick (.t 51) (.t 56) (.c (.bool false)), none⟩,
    ⟨(some 58), .mov (.t 57), none⟩,
    ⟨(some 59), .ld (.t 4) 1 false, some (58, true)⟩,
    ⟨(some 60), .fadd (.t 6) 6, some (58, true)⟩,
    ⟨(some 61), .fadd (.t 60) 1, some (58, true)⟩,
    ⟨(some 62), .ld (.t 61) 1 false, some (58, true)⟩,
    ⟨(some 63), .dead, some (58, true)⟩,
    ⟨(some 64), .un .not (.t 63), some (58, true)⟩,
    ⟨(some 65), .pick (.t 58) (.t 64) (.c (.bool false)), none⟩,
    ⟨(some 8), .mov (.t 65), none⟩]) <|
  .seq (.reg [⟨(some 66), .ld (.t 6) 15 true, none⟩,
    ⟨(some 67), .mov (.t 8), none⟩,
    ⟨none, .st (.t 2) (.t 66) 15, none⟩,
    ⟨none, .st (.t 3) (.t 67) 1, none⟩]) <|
  .ret)))) <|
  .seq (.reg [⟨(some 68), .bld [(.int .i64 0), (.int .i64 0), (.int .i64 0), (.int .i64 0), (.int .i64 0), (.int .i32 0), (.int .i64 0), (.int .i64 0), (.int .i32 0), (.int .i64 0), (.int .i64 0), (.int .i32 0), (.int .i64 0), (.int .i64 0), (.int .i32 0)] [], none⟩,
    ⟨none, .st (.t 2) (.t 68) 15, none⟩,
    ⟨none, .st (.t 3) (.c (.bool false)) 1, none⟩]) <|
  .ret,
  [.cell 2 15 true, .cell 3 1 false]⟩
theorem F_affine_decides_ok : cFn PP true n_affine_decides loops_affine_decides (cDr PP 69 tbl_affine_decides) = some F_affine_decides := by kernel_rfl
/-- warpwright/affine.where -/
def loops_affine_where : Nat → Option (List Nat × List Nat)
  | 1000005 => some ([1], [0]) | _ => none
def tbl_affine_where : Nat → Option (List Nat × List Nat × List Nat)
  | _ => none
def F_affine_where : AFunc := ⟨36,
  .seq (.reg [⟨(some 6), .mov (.c (.int .i64 0)), none⟩,
    ⟨(some 7), .mov (.c (.int .i64 0)), none⟩,
    ⟨(some 8), .mov (.c (.bool false)), none⟩]) <|
  .seq (.reg [⟨(some 10), .dead, none⟩,
    ⟨none, .dead, none⟩,
    ⟨none, .dead, none⟩,
    ⟨none, .dead, none⟩,
    ⟨none, .dead, none⟩,
    ⟨none, .dead, none⟩,
    ⟨none, .dead, none⟩,
    ⟨(some 11), .mov (.t 10), none⟩,
    ⟨(some 9), .mov (.t 11), none⟩]) <|
  .seqj [1] [0] (.seq (.reg [⟨(some 12), .mov (.t 2), none⟩,
    ⟨(some 13), .un .not (.t 12), none⟩]) <|
  .cond (.t 13) (.reg [⟨(some 14), .mov (.t 9), none⟩,
    ⟨(some 15), .mov (.t 0), none⟩,
    ⟨(some 16), .dead, none⟩,
    ⟨(some 0), .mov (.t 16), none⟩]) (.skip)) <|
  .seq (.seq (.reg [⟨(some 17), .mov (.t 0), none⟩]) <|
  .block 0 (.seq (.reg [⟨(some 19), .bin .eql (.t 17) (.c (.int .i64 26)), none⟩,
    ⟨(some 18), .mov (.t 19), none⟩]) <|
  .cond (.t 18) (.seq (.reg [⟨(some 20), .mov (.t 1), none⟩,
    ⟨(some 21), .bin .sub (.t 20) (.c (.int .i64 1)), none⟩,
    ⟨(some 6), .mov (.c (.int .i64 (-2147483648))), none⟩,
    ⟨(some 7), .mov (.t 21), none⟩,
    ⟨(some 8), .mov (.c (.bool true)), none⟩]) <|
  .ret) (.seq (.reg [⟨(some 23), .bin .eql (.t 17) (.c (.int .i64 27)), none⟩,
    ⟨(some 22), .mov (.t 23), none⟩]) <|
  .cond (.t 22) (.seq (.reg [⟨(some 24), .mov (.t 1), none⟩,
    ⟨(some 6), .mov (.c (.int .i64 (-2147483648))), none⟩,
    ⟨(some 7), .mov (.t 24), none⟩,
    ⟨(some 8), .mov (.c (.bool true)), none⟩]) <|
  .ret) (.seq (.reg [⟨(some 26), .bin .eql (.t 17) (.c (.int .i64 28)), none⟩,
    ⟨(some 25), .mov (.t 26), none⟩]) <|
  .cond (.t 25) (.seq (.reg [⟨(some 27), .mov (.t 1), none⟩,
    ⟨(some 28), .bin .add (.t 27) (.c (.int .i64 1)), none⟩,
    ⟨(some 6), .mov (.t 28), none⟩,
    ⟨(some 7), .mov (.c (.int .i64 2147483647)), none⟩,
    ⟨(some 8), .mov (.c (.bool true)), none⟩]) <|
  .ret) (.seq (.reg [⟨(some 30), .bin .eql (.t 17) (.c (.int .i64 29)), none⟩,
    ⟨(some 29), .mov (.t 30), none⟩]) <|
  .cond (.t 29) (.seq (.reg [⟨(some 31), .mov (.t 1), none⟩,
    ⟨(some 6), .mov (.t 31), none⟩,
    ⟨(some 7), .mov (.c (.int .i64 2147483647)), none⟩,
    ⟨(some 8), .mov (.c (.bool true)), none⟩]) <|
  .ret) (.seq (.reg [⟨(some 33), .bin .eql (.t 17) (.c (.int .i64 24)), none⟩,
    ⟨(some 32), .mov (.t 33), none⟩]) <|
  .cond (.t 32) (.seq (.reg [⟨(some 34), .mov (.t 1), none⟩,
    ⟨(some 35), .mov (.t 1), none⟩,
    ⟨(some 6), .mov (.t 34), none⟩,
    ⟨(some 7), .mov (.t 35), none⟩,
    ⟨(some 8), .mov (.c (.bool true)), none⟩]) <|
  .ret) (.skip))))))) <|
  .seq (.reg [⟨(some 6), .mov (.c (.int .i64 0)), none⟩,
    ⟨(some 7), .mov (.c (.int .i64 0)), none⟩,
    ⟨(some 8), .mov (.c (.bool false)), none⟩]) <|
  .ret,
  [.t 6, .t 7, .t 8]⟩
theorem F_affine_where_ok : cFn PP true n_affine_where loops_affine_where (cDr PP 36 tbl_affine_where) = some F_affine_where := by kernel_rfl
/-- warpwright/span.Of -/
def loops_span_Of : Nat → Option (List Nat × List Nat)
  | _ => none
def tbl_span_Of : Nat → Option (List Nat × List Nat × List Nat)
  | _ => none
def F_span_Of : AFunc := ⟨36,
  .seq (.reg [⟨(some 6), .alloc (.agg [(.int .i64 0), (.int .i64 0), (.int .i64 0)]), none⟩,
    ⟨(some 7), .mov (.c (.int .i64 0)), none⟩]) <|
  .seq (.seq (.reg [⟨(some 8), .mov (.t 0), none⟩,
    ⟨(some 9), .call n_span_near [(.t 8)], none⟩,
    ⟨(some 10), .un .not (.t 9), none⟩,
    ⟨(some 11), .mov (.t 10), none⟩,
    ⟨(some 12), .mov (.t 1), some (11, false)⟩,
    ⟨(some 13), .call n_span_near [(.t 12)], some (11, false)⟩,
    ⟨(some 14), .un .not (.t 13), some (11, false)⟩,
    ⟨(some 15), .pick (.t 11) (.c (.bool true)) (.t 14), none⟩,
    ⟨(some 16), .mov (.t 15), none⟩,
    ⟨(some 17), .mov (.t 0), some (16, false)⟩,
    ⟨(some 18), .mov (.t 1), some (16, false)⟩,
    ⟨(some 19), .bin .gtr (.t 17) (.t 18), some (16, false)⟩,
    ⟨(some 20), .pick (.t 16) (.c (.bool true)) (.t 19), none⟩,
    ⟨(some 21), .mov (.t 20), none⟩,
    ⟨(some 22), .mov (.t 2), some (21, false)⟩,
    ⟨(some 23), .bin .lss (.t 22) (.c (.int .i64 1)), some (21, false)⟩,
    ⟨(some 24), .pick (.t 21) (.c (.bool true)) (.t 23), none⟩]) <|
  .cond (.t 24) (.seq (.reg [⟨(some 25), .bld [(.int .i64 0), (.int .i64 0), (.int .i64 0)] [], none⟩,
    ⟨none, .st (.t 6) (.t 25) 3, none⟩,
    ⟨(some 7), .mov (.c (.int .i64 1)), none⟩]) <|
  .ret) (.skip)) <|
  .seq (.reg [⟨(some 26), .mov (.t 0), none⟩,
    ⟨(some 27), .mov (.t 1), none⟩,
    ⟨(some 28), .mov (.t 1), none⟩,
    ⟨(some 29), .mov (.t 0), none⟩,
    ⟨(some 30), .bin .sub (.t 28) (.t 29), none⟩,
    ⟨(some 31), .mov (.t 2), none⟩,
    ⟨(some 32), .bin .rem (.t 30) (.t 31), none⟩,
    ⟨(some 33), .bin .sub (.t 27) (.t 32), none⟩,
    ⟨(some 34), .mov (.t 2), none⟩,
    ⟨(some 35), .call n_span_made [(.t 26), (.t 33), (.t 34)], none⟩,
    ⟨none, .st (.t 6) (.t 35) 3, none⟩,
    ⟨(some 7), .mov (.c (.int .i64 0)), none⟩]) <|
  .ret,
  [.cell 6 3 true, .t 7]⟩
theorem F_span_Of_ok : cFn PP true n_span_Of loops_span_Of (cDr PP 36 tbl_span_Of) = some F_span_Of := by kernel_rfl


def V_span_Of (a0 : D) (a1 : D) (a2 : D) (h0 : Heap) (K : D → Heap → Prop) : Prop :=
  vhOp PP (.alloc (.agg [(.int .i64 0), (.int .i64 0), (.int .i64 0)])) h0 fun a4 h5 =>
  ACall PP n_span_near [a0] h5 fun a6 h7 =>
  vun .not a6 fun a8 =>
  vguard a8 false (fun G9 =>
  G9 a1 h7) h7 fun a10 h11 =>
  vguard a8 false (fun G12 =>
  ACall PP n_span_near [a10] h11 fun a15 h16 =>
  G12 a15 h16) h11 fun a13 h14 =>
  vguard a8 false (fun G17 =>
  vun .not a13 fun a20 =>
  G17 a20 h14) h14 fun a18 h19 =>
  vhOp PP (.pick (.c a8) (.c (.bool true)) (.c a18)) h19 fun a21 h22 =>
  vguard a21 false (fun G23 =>
  G23 a0 h22) h22 fun a24 h25 =>
  vguard a21 false (fun G26 =>
  G26 a1 h25) h25 fun a27 h28 =>
  vguard a21 false (fun G29 =>
  vbin .gtr a24 a27 fun a32 =>
  G29 a32 h28) h28 fun a30 h31 =>
  vhOp PP (.pick (.c a21) (.c (.bool true)) (.c a30)) h31 fun a33 h34 =>
  vguard a33 false (fun G35 =>
  G35 a2 h34) h34 fun a36 h37 =>
  vguard a33 false (fun G38 =>
  vbin .lss a36 (.int .i64 1) fun a41 =>
  G38 a41 h37) h37 fun a39 h40 =>
  vhOp PP (.pick (.c a33) (.c (.bool true)) (.c a39)) h40 fun a42 h43 =>
  vcond a42 (vhOp PP (.bld [(.int .i64 0), (.int .i64 0), (.int .i64 0)] []) h43 fun a44 h45 =>
  vhOp PP (.st (.c a4) (.c a44) 3) h45 fun a46 h47 =>
  vhOp PP (.ld (.c a4) 3 true) h47 fun a48 _ =>
  K (.tup [a48, (.int .i64 1)]) h47) (
  vbin .sub a1 a0 fun a49 =>
  vbin .rem a49 a2 fun a50 =>
  vbin .sub a1 a50 fun a51 =>
  ACall PP n_span_made [a0, a51, a2] h43 fun a52 h53 =>
  vhOp PP (.st (.c a4) (.c a52) 3) h53 fun a54 h55 =>
  vhOp PP (.ld (.c a4) 3 true) h55 fun a56 _ =>
  K (.tup [a56, (.int .i64 0)]) h55)
theorem V_span_Of_ok (a0 : D) (a1 : D) (a2 : D) (h0 : Heap) (K : D → Heap → Prop) : V_span_Of a0 a1 a2 h0 K = vcC PP F_span_Of.code (fun x e h' => match x with | .exit _ => False | _ => vcRet PP F_span_Of.res K e h') (params [a0, a1, a2] 0) h0 := by kernel_rfl

/-- warpwright/span.Meet -/
def loops_span_Meet : Nat → Option (List Nat × List Nat)
  | 1000004 => some ([2, 3, 4], []) | 1000025 => some ([4, 14], []) | _ => none
def tbl_span_Meet : Nat → Option (List Nat × List Nat × List Nat)
  | 3 => some ([0, 1, 0, 4, 15, 0, 32, 0, 128, 480, 31, 2047], [], []) | 15 => some ([0, 1, 0, 4, 15, 0, 63, 0, 128, 0, 1023, 2047], [], []) | 16 => some ([0, 1, 0, 7, 0, 16, 63, 127, 0, 0, 512, 1792, 0, 4096, 16255, 32767, 65535], [], []) | _ => none
def F_span_Meet : AFunc := ⟨143,
  .seq (.reg [⟨(some 2), .box (.t 0), none⟩,
    ⟨(some 3), .box (.t 1), none⟩,
    ⟨(some 4), .alloc (.agg [(.int .i64 0), (.int .i64 0), (.int .i64 0)]), none⟩,
    ⟨(some 5), .mov (.c (.bool false)), none⟩]) <|
  .seqj [2, 3, 4] [] (.seq (.reg [⟨(some 15), .fadd (.t 2) 2, none⟩,
    ⟨(some 16), .ld (.t 15) 1 false, none⟩,
    ⟨(some 17), .fadd (.t 3) 2, none⟩,
    ⟨(some 18), .ld (.t 17) 1 false, none⟩,
    ⟨(some 19), .bin .lss (.t 16) (.t 18), none⟩]) <|
  .cond (.t 19) (.reg [⟨(some 20), .ld (.t 3) 3 true, none⟩,
    ⟨(some 21), .ld (.t 2) 3 true, none⟩,
    ⟨none, .st (.t 2) (.t 20) 3, none⟩,
    ⟨none, .st (.t 3) (.t 21) 3, none⟩]) (.skip)) <|
  .seq (.dreg [⟨(some 22), .fadd (.t 2) 0, none⟩,
    ⟨(some 23), .ld (.t 22) 1 false, none⟩,
    ⟨(some 24), .fadd (.t 3) 0, none⟩,
    ⟨(some 25), .ld (.t 24) 1 false, none⟩,
    ⟨(some 26), .mx (.t 23) (.t 25), none⟩,
    ⟨(some 27), .fadd (.t 2) 1, none⟩,
    ⟨(some 28), .ld (.t 27) 1 false, none⟩,
    ⟨(some 29), .fadd (.t 3) 1, none⟩,
    ⟨(some 30), .ld (.t 29) 1 false, none⟩,
    ⟨(some 31), .mn (.t 28) (.t 30), none⟩,
    ⟨(some 6), .mov (.t 26), none⟩,
    ⟨(some 7), .mov (.t 31), none⟩] [] []) <|
  .seq (.seq (.reg [⟨(some 32), .mov (.t 6), none⟩,
    ⟨(some 33), .mov (.t 7), none⟩,
    ⟨(some 34), .bin .gtr (.t 32) (.t 33), none⟩]) <|
  .cond (.t 34) (.seq (.reg [⟨(some 35), .bld [(.int .i64 0), (.int .i64 0), (.int .i64 0)] [], none⟩,
    ⟨none, .st (.t 4) (.t 35) 3, none⟩,
    ⟨(some 5), .mov (.c (.bool false)), none⟩]) <|
  .ret) (.skip)) <|
  .seq (.seq (.reg [⟨(some 36), .fadd (.t 3) 2, none⟩,
    ⟨(some 37), .ld (.t 36) 1 false, none⟩,
    ⟨(some 38), .bin .eql (.t 37) (.c (.int .i64 0)), none⟩,
    ⟨(some 39), .mov (.t 38), none⟩,
    ⟨(some 40), .ld (.t 2) 3 true, some (39, true)⟩,
    ⟨(some 41), .fadd (.t 3) 0, some (39, true)⟩,
    ⟨(some 42), .ld (.t 41) 1 false, some (39, true)⟩,
    ⟨(some 43), .call n_span_Has [(.t 40), (.t 42)], some (39, true)⟩,
    ⟨(some 44), .un .not (.t 43), some (39, true)⟩,
    ⟨(some 45), .pick (.t 39) (.t 44) (.c (.bool false)), none⟩]) <|
  .cond (.t 45) (.seq (.reg [⟨(some 46), .bld [(.int .i64 0), (.int .i64 0), (.int .i64 0)] [], none⟩,
    ⟨none, .st (.t 4) (.t 46) 3, none⟩,
    ⟨(some 5), .mov (.c (.bool false)), none⟩]) <|
  .ret) (.skip)) <|
  .seq (.seq (.reg [⟨(some 47), .fadd (.t 3) 2, none⟩,
    ⟨(some 48), .ld (.t 47) 1 false, none⟩,
    ⟨(some 49), .bin .eql (.t 48) (.c (.int .i64 0)), none⟩]) <|
  .cond (.t 49) (.seq (.reg [⟨(some 50), .ld (.t 3) 3 true, none⟩,
    ⟨none, .st (.t 4) (.t 50) 3, none⟩,
    ⟨(some 5), .mov (.c (.bool true)), none⟩]) <|
  .ret) (.skip)) <|
  .seq (.reg [⟨(some 51), .fadd (.t 2) 2, none⟩,
    ⟨(some 52), .ld (.t 51) 1 false, none⟩,
    ⟨(some 53), .fadd (.t 3) 2, none⟩,
    ⟨(some 54), .ld (.t 53) 1 false, none⟩,
    ⟨(some 55), .call n_span_euclid [(.t 52), (.t 54)], none⟩,
    ⟨(some 8), .alloc (.agg [(.int .i64 0), (.int .i64 0), (.int .i64 0)]), none⟩,
    ⟨none, .st (.t 8) (.t 55) 3, none⟩]) <|
  .seq (.reg [⟨(some 56), .iadda (.t 8) (.c (.int .i64 0)) 3 1, none⟩,
    ⟨(some 57), .ld (.t 56) 1 false, none⟩,
    ⟨(some 9), .mov (.t 57), none⟩]) <|
  .seq (.seq (.reg [⟨(some 58), .fadd (.t 3) 0, none⟩,
    ⟨(some 59), .ld (.t 58) 1 false, none⟩,
    ⟨(some 60), .fadd (.t 2) 0, none⟩,
    ⟨(some 61), .ld (.t 60) 1 false, none⟩,
    ⟨(some 62), .bin .sub (.t 59) (.t 61), none⟩,
    ⟨(some 63), .mov (.t 9), none⟩,
    ⟨(some 64), .bin .rem (.t 62) (.t 63), none⟩,
    ⟨(some 65), .bin .neq (.t 64) (.c (.int .i64 0)), none⟩]) <|
  .cond (.t 65) (.seq (.reg [⟨(some 66), .bld [(.int .i64 0), (.int .i64 0), (.int .i64 0)] [], none⟩,
    ⟨none, .st (.t 4) (.t 66) 3, none⟩,
    ⟨(some 5), .mov (.c (.bool false)), none⟩]) <|
  .ret) (.skip)) <|
  .seq (.reg [⟨(some 67), .fadd (.t 3) 2, none⟩,
    ⟨(some 68), .ld (.t 67) 1 false, none⟩,
    ⟨(some 69), .mov (.t 9), none⟩,
    ⟨(some 70), .bin .quo (.t 68) (.t 69), none⟩,
    ⟨(some 10), .mov (.t 70), none⟩]) <|
  .seq (.dreg [⟨(some 71), .fadd (.t 3) 0, none⟩,
    ⟨(some 72), .ld (.t 71) 1 false, none⟩,
    ⟨(some 73), .fadd (.t 2) 0, none⟩,
    ⟨(some 74), .ld (.t 73) 1 false, none⟩,
    ⟨(some 75), .bin .sub (.t 72) (.t 74), none⟩,
    ⟨(some 76), .mov (.t 9), none⟩,
    ⟨(some 77), .bin .quo (.t 75) (.t 76), none⟩,
    ⟨(some 78), .iadda (.t 8) (.c (.int .i64 1)) 3 1, none⟩,
    ⟨(some 79), .ld (.t 78) 1 false, none⟩,
    ⟨(some 80), .mov (.t 10), none⟩,
    ⟨(some 81), .call n_span_mulmod [(.t 77), (.t 79), (.t 80)], none⟩,
    ⟨(some 11), .mov (.t 81), none⟩] [] []) <|
  .seq (.dreg [⟨(some 82), .fadd (.t 2) 0, none⟩,
    ⟨(some 83), .ld (.t 82) 1 false, none⟩,
    ⟨(some 84), .mov (.t 6), none⟩,
    ⟨(some 85), .bin .sub (.t 83) (.t 84), none⟩,
    ⟨(some 86), .fadd (.t 2) 2, none⟩,
    ⟨(some 87), .ld (.t 86) 1 false, none⟩,
    ⟨(some 88), .call n_span_floor [(.t 85), (.t 87)], none⟩,
    ⟨(some 89), .un .neg (.t 88), none⟩,
    ⟨(some 90), .mov (.t 7), none⟩,
    ⟨(some 91), .fadd (.t 2) 0, none⟩,
    ⟨(some 92), .ld (.t 91) 1 false, none⟩,
    ⟨(some 93), .bin .sub (.t 90) (.t 92), none⟩,
    ⟨(some 94), .fadd (.t 2) 2, none⟩,
    ⟨(some 95), .ld (.t 94) 1 false, none⟩,
    ⟨(some 96), .call n_span_floor [(.t 93), (.t 95)], none⟩,
    ⟨(some 12), .mov (.t 89), none⟩,
    ⟨(some 13), .mov (.t 96), none⟩] [] []) <|
  .seq (.reg [⟨(some 97), .mov (.t 11), none⟩,
    ⟨(some 98), .mov (.t 11), none⟩,
    ⟨(some 99), .mov (.t 12), none⟩,
    ⟨(some 100), .bin .sub (.t 98) (.t 99), none⟩,
    ⟨(some 101), .mov (.t 10), none⟩,
    ⟨(some 102), .call n_span_floor [(.t 100), (.t 101)], none⟩,
    ⟨(some 103), .un .neg (.t 102), none⟩,
    ⟨(some 104), .mx (.c (.int .i64 0)) (.t 103), none⟩,
    ⟨(some 105), .mov (.t 10), none⟩,
    ⟨(some 106), .bin .mul (.t 104) (.t 105), none⟩,
    ⟨(some 107), .bin .add (.t 97) (.t 106), none⟩,
    ⟨(some 11), .mov (.t 107), none⟩]) <|
  .seq (.seq (.reg [⟨(some 108), .mov (.t 11), none⟩,
    ⟨(some 109), .mov (.t 13), none⟩,
    ⟨(some 110), .bin .gtr (.t 108) (.t 109), none⟩]) <|
  .cond (.t 110) (.seq (.reg [⟨(some 111), .bld [(.int .i64 0), (.int .i64 0), (.int .i64 0)] [], none⟩,
    ⟨none, .st (.t 4) (.t 111) 3, none⟩,
    ⟨(some 5), .mov (.c (.bool false)), none⟩]) <|
  .ret) (.skip)) <|
  .seq (.reg [⟨(some 112), .mov (.t 13), none⟩,
    ⟨(some 113), .mov (.t 13), none⟩,
    ⟨(some 114), .mov (.t 11), none⟩,
    ⟨(some 115), .bin .sub (.t 113) (.t 114), none⟩,
    ⟨(some 116), .mov (.t 10), none⟩,
    ⟨(some 117), .bin .rem (.t 115) (.t 116), none⟩,
    ⟨(some 118), .bin .sub (.t 112) (.t 117), none⟩,
    ⟨(some 13), .mov (.t 118), none⟩]) <|
  .seq (.reg [⟨(some 119), .fadd (.t 2) 0, none⟩,
    ⟨(some 120), .ld (.t 119) 1 false, none⟩,
    ⟨(some 121), .fadd (.t 2) 2, none⟩,
    ⟨(some 122), .ld (.t 121) 1 false, none⟩,
    ⟨(some 123), .mov (.t 11), none⟩,
    ⟨(some 124), .bin .mul (.t 122) (.t 123), none⟩,
    ⟨(some 125), .bin .add (.t 120) (.t 124), none⟩,
    ⟨(some 126), .fadd (.t 2) 0, none⟩,
    ⟨(some 127), .ld (.t 126) 1 false, none⟩,
    ⟨(some 128), .fadd (.t 2) 2, none⟩,
    ⟨(some 129), .ld (.t 128) 1 false, none⟩,
    ⟨(some 130), .mov (.t 13), none⟩,
    ⟨(some 131), .bin .mul (.t 129) (.t 130), none⟩,
    ⟨(some 132), .bin .add (.t 127) (.t 131), none⟩,
    ⟨(some 133), .call n_span_made [(.t 125), (.t 132), (.c (.int .i64 0))], none⟩,
    ⟨(some 14), .alloc (.agg [(.int .i64 0), (.int .i64 0), (.int .i64 0)]), none⟩,
    ⟨none, .st (.t 14) (.t 133) 3, none⟩]) <|
  .seqj [4, 14] [] (.seq (.reg [⟨(some 134), .mov (.t 11), none⟩,
    ⟨(some 135), .mov (.t 13), none⟩,
    ⟨(some 136), .bin .lss (.t 134) (.t 135), none⟩]) <|
  .cond (.t 136) (.reg [⟨(some 137), .fadd (.t 2) 2, none⟩,
    ⟨(some 138), .ld (.t 137) 1 false, none⟩,
    ⟨(some 139), .mov (.t 10), none⟩,
    ⟨(some 140), .bin .mul (.t 138) (.t 139), none⟩,
    ⟨(some 141), .fadd (.t 14) 2, none⟩,
    ⟨none, .st (.t 141) (.t 140) 1, none⟩]) (.skip)) <|
  .seq (.reg [⟨(some 142), .ld (.t 14) 3 true, none⟩,
    ⟨none, .st (.t 4) (.t 142) 3, none⟩,
    ⟨(some 5), .mov (.c (.bool true)), none⟩]) <|
  .ret,
  [.cell 4 3 true, .t 5]⟩
theorem F_span_Meet_ok : cFn PP true n_span_Meet loops_span_Meet (cDr PP 143 tbl_span_Meet) = some F_span_Meet := by kernel_rfl
/-- (warpwright/affine.space).inside -/
def loops_affine_space_inside : Nat → Option (List Nat × List Nat)
  | _ => none
def tbl_affine_space_inside : Nat → Option (List Nat × List Nat × List Nat)
  | 3 => some ([0, 0, 3, 7, 15, 31, 15, 79, 255, 15, 527, 2047, 4095], [], []) | 6 => some ([0, 1, 3, 7, 7, 23, 63, 7, 135, 511, 1023, 2047], [], []) | _ => none
def F_affine_space_inside : AFunc := ⟨47,
  .seq (.reg [⟨(some 3), .box (.t 0), none⟩,
    ⟨(some 4), .box (.t 1), none⟩,
    ⟨(some 5), .box (.t 2), none⟩,
    ⟨(some 6), .mov (.c (.bool false)), none⟩]) <|
  .seq (.seq (.reg [⟨(some 9), .fadd (.t 4) 0, none⟩,
    ⟨(some 10), .ld (.t 9) 1 false, none⟩,
    ⟨(some 11), .mov (.t 10), none⟩,
    ⟨(some 12), .fadd (.t 5) 0, some (11, false)⟩,
    ⟨(some 13), .ld (.t 12) 1 false, some (11, false)⟩,
    ⟨(some 14), .pick (.t 11) (.c (.bool true)) (.t 13), none⟩]) <|
  .cond (.t 14) (.seq (.reg [⟨(some 15), .fadd (.t 5) 0, none⟩,
    ⟨(some 16), .ld (.t 15) 1 false, none⟩,
    ⟨(some 6), .mov (.t 16), none⟩]) <|
  .ret) (.skip)) <|
  .seq (.seq (.dreg [⟨(some 17), .ld (.t 4) 7 true, none⟩,
    ⟨(some 18), .ld (.t 5) 7 true, none⟩,
    ⟨(some 19), .call n_affine_alike [(.t 17), (.t 18)], none⟩,
    ⟨(some 20), .mov (.t 19), none⟩,
    ⟨(some 21), .fadd (.t 4) 4, some (20, true)⟩,
    ⟨(some 22), .ld (.t 21) 3 true, some (20, true)⟩,
    ⟨(some 23), .fadd (.t 5) 4, some (20, true)⟩,
    ⟨(some 24), .ld (.t 23) 3 true, some (20, true)⟩,
    ⟨(some 25), .call n_span_Join [(.t 22), (.t 24)], some (20, true)⟩,
    ⟨(some 26), .fadd (.t 5) 4, some (20, true)⟩,
    ⟨(some 27), .ld (.t 26) 3 true, some (20, true)⟩,
    ⟨(some 28), .eqv false true [.i, .i, .i] (.t 25) (.t 27), some (20, true)⟩,
    ⟨(some 29), .pick (.t 20) (.t 28) (.c (.bool false)), none⟩] [] []) <|
  .cond (.t 29) (.seq (.reg [⟨(some 6), .mov (.c (.bool true)), none⟩]) <|
  .ret) (.skip)) <|
  .seq (.reg [⟨(some 31), .ld (.t 3) 9 true, none⟩,
    ⟨(some 32), .ld (.t 4) 7 true, none⟩,
    ⟨(some 33), .call n_affine_space_span [(.t 31), (.t 32)], none⟩,
    ⟨(some 30), .mov (.t 33), none⟩,
    ⟨(some 34), .ext (.t 30) 0, none⟩,
    ⟨(some 35), .ext (.t 30) 1, none⟩,
    ⟨(some 7), .alloc (.agg [(.int .i64 0), (.int .i64 0), (.int .i64 0)]), none⟩,
    ⟨none, .st (.t 7) (.t 34) 3, none⟩,
    ⟨(some 8), .mov (.t 35), none⟩]) <|
  .seq (.dreg [⟨(some 36), .ld (.t 5) 7 true, none⟩,
    ⟨(some 37), .call n_affine_plain [(.t 36)], none⟩,
    ⟨(some 38), .mov (.t 37), none⟩,
    ⟨(some 39), .ld (.t 7) 3 true, some (38, true)⟩,
    ⟨(some 40), .fadd (.t 5) 4, some (38, true)⟩,
    ⟨(some 41), .ld (.t 40) 3 true, some (38, true)⟩,
    ⟨(some 42), .call n_span_Join [(.t 39), (.t 41)], some (38, true)⟩,
    ⟨(some 43), .fadd (.t 5) 4, some (38, true)⟩,
    ⟨(some 44), .ld (.t 43) 3 true, some (38, true)⟩,
    ⟨(some 45), .eqv false true [.i, .i, .i] (.t 42) (.t 44), some (38, true)⟩,
    ⟨(some 46), .pick (.t 38) (.t 45) (.c (.bool false)), none⟩,
    ⟨(some 6), .mov (.t 46), none⟩] [] []) <|
  .ret,
  [.t 6]⟩
theorem F_affine_space_inside_ok : cFn PP true n_affine_space_inside loops_affine_space_inside (cDr PP 47 tbl_affine_space_inside) = some F_affine_space_inside := by kernel_rfl

/-- slices.IndexFunc[[]warpwright/api.Form,warpwright/api.Form] -/
def loops_slices_IndexFunc_sapi_Form_api_Form : Nat → Option (List Nat × List Nat)
  | 1000008 => some ([], []) | 2 => some ([0, 1, 7], [8]) | _ => none
def tbl_slices_IndexFunc_sapi_Form_api_Form : Nat → Option (List Nat × List Nat × List Nat)
  | _ => none
def F_slices_IndexFunc_sapi_Form_api_Form : AFunc := ⟨19,
  .seq (.reg [⟨(some 4), .mov (.c (.int .i64 0)), none⟩]) <|
  .seqj [] [] (.seq (.reg [⟨(some 6), .mov (.t 0), none⟩,
    ⟨(some 7), .len (.t 6), none⟩,
    ⟨(some 8), .mov (.c (.int .i64 0)), none⟩]) <|
  .block 0 (.loop [0, 1, 7] [8] (.seq (.reg [⟨(some 9), .bin .lss (.t 8) (.t 7), none⟩]) <|
  .seq (.cond (.t 9) (.skip) (.exit 0)) <|
  .seq (.block 1 (.seq (.reg [⟨(some 10), .mov (.t 8), none⟩,
    ⟨(some 5), .mov (.t 10), none⟩]) <|
  .seq (.reg [⟨(some 11), .mov (.t 1), none⟩,
    ⟨(some 12), .mov (.t 0), none⟩,
    ⟨(some 13), .mov (.t 5), none⟩,
    ⟨(some 14), .iadd (.t 12) (.t 13) 7, none⟩,
    ⟨(some 15), .ld (.t 14) 7 true, none⟩,
    ⟨(some 16), .callv (.t 11) [(.t 15)], none⟩]) <|
  .cond (.t 16) (.seq (.reg [⟨(some 17), .mov (.t 5), none⟩,
    ⟨(some 4), .mov (.t 17), none⟩]) <|
  .ret) (.skip))) <|
  .reg [⟨(some 18), .bin .add (.t 8) (.c (.int .i64 1)), none⟩,
    ⟨(some 8), .mov (.t 18), none⟩]))) <|
  .seq (.reg [⟨(some 4), .mov (.c (.int .i64 (-1))), none⟩]) <|
  .ret,
  [.t 4]⟩
theorem F_slices_IndexFunc_sapi_Form_api_Form_ok : cFn PP true n_slices_IndexFunc_sapi_Form_api_Form loops_slices_IndexFunc_sapi_Form_api_Form (cDr PP 19 tbl_slices_IndexFunc_sapi_Form_api_Form) = some F_slices_IndexFunc_sapi_Form_api_Form := by kernel_rfl

def V_slices_IndexFunc_sapi_Form_api_Form_L0 (h0 : Heap) (a6 : D) (a0 : D) (a1 : D) (J3 : List D → Heap → Prop) (K : D → Heap → Prop) : Prop :=
  ∃ (I7 : Nat → List D → Heap → Prop) (n₀ : Nat), I7 n₀ [(.int .i64 0)] h0 ∧ ∀ (n8 : Nat) (f9 : Nat → D) (h10 : Heap), I7 n8 [f9 8] h10 →
  vbin .lss (f9 8) a6 fun a11 =>
  vcond a11 (vhOp PP (.iadd (.c a0) (.c (f9 8)) 7) h10 fun a12 h13 =>
  vhOp PP (.ld (.c a12) 7 true) h13 fun a14 h15 =>
  vhOp PP (.callv (.c a1) [(.c a14)]) h15 fun a16 h17 =>
  vcond a16 (K (f9 8) h17) (
  vbin .add (f9 8) (.int .i64 1) fun a18 =>
  keq [a0, a1, a6] [a0, a1, a6] ∧ ∃ m, m < n8 ∧ I7 m [a18] h17)) (
  keq [] [] ∧ J3 [] h10)
def V_slices_IndexFunc_sapi_Form_api_Form (a0 : D) (a1 : D) (h0 : Heap) (K : D → Heap → Prop) : Prop :=
  ∃ (J3 : List D → Heap → Prop), (∀ (f4 : Nat → D) (h5 : Heap), J3 [] h5 →
  K (.int .i64 (-1)) h5) ∧
  vlen a0 h0 fun a6 =>
  V_slices_IndexFunc_sapi_Form_api_Form_L0 h0 a6 a0 a1 J3 K
theorem V_slices_IndexFunc_sapi_Form_api_Form_ok (a0 : D) (a1 : D) (h0 : Heap) (K : D → Heap → Prop) : V_slices_IndexFunc_sapi_Form_api_Form a0 a1 h0 K = vcC PP F_slices_IndexFunc_sapi_Form_api_Form.code (fun x e h' => match x with | .exit _ => False | _ => vcRet PP F_slices_IndexFunc_sapi_Form_api_Form.res K e h') (params [a0, a1] 0) h0 := by kernel_rfl

/-- warpwright/affine.small -/
def loops_affine_small : Nat → Option (List Nat × List Nat)
  | _ => none
def tbl_affine_small : Nat → Option (List Nat × List Nat × List Nat)
  | _ => none
def F_affine_small : AFunc := ⟨21,
  .seq (.reg [⟨(some 1), .box (.t 0), none⟩,
    ⟨(some 2), .mov (.c (.bool false)), none⟩]) <|
  .seq (.reg [⟨(some 3), .fadd (.t 1) 1, none⟩,
    ⟨(some 4), .ld (.t 3) 1 false, none⟩,
    ⟨(some 5), .fadd (.t 1) 2, none⟩,
    ⟨(some 6), .ld (.t 5) 1 false, none⟩,
    ⟨(some 7), .fadd (.t 1) 3, none⟩,
    ⟨(some 8), .ld (.t 7) 1 false, none⟩,
    ⟨(some 9), .mn3 (.t 4) (.t 6) (.t 8), none⟩,
    ⟨(some 10), .bin .geq (.t 9) (.c (.int .i64 (-2147483648))), none⟩,
    ⟨(some 11), .mov (.t 10), none⟩,
    ⟨(some 12), .fadd (.t 1) 1, some (11, true)⟩,
    ⟨(some 13), .ld (.t 12) 1 false, some (11, true)⟩,
    ⟨(some 14), .fadd (.t 1) 2, some (11, true)⟩,
    ⟨(some 15), .ld (.t 14) 1 false, some (11, true)⟩,
    ⟨(some 16), .fadd (.t 1) 3, some (11, true)⟩,
    ⟨(some 17), .ld (.t 16) 1 false, some (11, true)⟩,
    ⟨(some 18), .mx3 (.t 13) (.t 15) (.t 17), some (11, true)⟩,
    ⟨(some 19), .bin .leq (.t 18) (.c (.int .i64 2147483648)), some (11, true)⟩,
    ⟨(some 20), .pick (.t 11) (.t 19) (.c (.bool false)), none⟩,
    ⟨(some 2), .mov (.t 20), none⟩]) <|
  .ret,
  [.t 2]⟩
theorem F_affine_small_ok : cFn PP true n_affine_small loops_affine_small (cDr PP 21 tbl_affine_small) = some F_affine_small := by kernel_rfl


def V_affine_small (a0 : D) (h0 : Heap) (K : D → Heap → Prop) : Prop :=
  vhOp PP (.box (.c a0)) h0 fun a2 h3 =>
  vhOp PP (.fadd (.c a2) 1) h3 fun a4 h5 =>
  vhOp PP (.ld (.c a4) 1 false) h5 fun a6 h7 =>
  vhOp PP (.fadd (.c a2) 2) h7 fun a8 h9 =>
  vhOp PP (.ld (.c a8) 1 false) h9 fun a10 h11 =>
  vhOp PP (.fadd (.c a2) 3) h11 fun a12 h13 =>
  vhOp PP (.ld (.c a12) 1 false) h13 fun a14 h15 =>
  vhOp PP (.mn3 (.c a6) (.c a10) (.c a14)) h15 fun a16 h17 =>
  vbin .geq a16 (.int .i64 (-2147483648)) fun a18 =>
  vguard a18 true (fun G19 =>
  vhOp PP (.fadd (.c a2) 1) h17 fun a22 h23 =>
  G19 a22 h23) h17 fun a20 h21 =>
  vguard a18 true (fun G24 =>
  vhOp PP (.ld (.c a20) 1 false) h21 fun a27 h28 =>
  G24 a27 h28) h21 fun a25 h26 =>
  vguard a18 true (fun G29 =>
  vhOp PP (.fadd (.c a2) 2) h26 fun a32 h33 =>
  G29 a32 h33) h26 fun a30 h31 =>
  vguard a18 true (fun G34 =>
  vhOp PP (.ld (.c a30) 1 false) h31 fun a37 h38 =>
  G34 a37 h38) h31 fun a35 h36 =>
  vguard a18 true (fun G39 =>
  vhOp PP (.fadd (.c a2) 3) h36 fun a42 h43 =>
  G39 a42 h43) h36 fun a40 h41 =>
  vguard a18 true (fun G44 =>
  vhOp PP (.ld (.c a40) 1 false) h41 fun a47 h48 =>
  G44 a47 h48) h41 fun a45 h46 =>
  vguard a18 true (fun G49 =>
  vhOp PP (.mx3 (.c a25) (.c a35) (.c a45)) h46 fun a52 h53 =>
  G49 a52 h53) h46 fun a50 h51 =>
  vguard a18 true (fun G54 =>
  vbin .leq a50 (.int .i64 2147483648) fun a57 =>
  G54 a57 h51) h51 fun a55 h56 =>
  vhOp PP (.pick (.c a18) (.c a55) (.c (.bool false))) h56 fun a58 h59 =>
  K a58 h59
theorem V_affine_small_ok (a0 : D) (h0 : Heap) (K : D → Heap → Prop) : V_affine_small a0 h0 K = vcC PP F_affine_small.code (fun x e h' => match x with | .exit _ => False | _ => vcRet PP F_affine_small.res K e h') (params [a0] 0) h0 := by kernel_rfl

/-- (warpwright/affine.space).canonical -/
def loops_affine_space_canonical : Nat → Option (List Nat × List Nat)
  | 1000006 => some ([3, 4, 5], []) | 1000008 => some ([3, 4, 5], []) | 1000010 => some ([3, 4], []) | _ => none
def tbl_affine_space_canonical : Nat → Option (List Nat × List Nat × List Nat)
  | _ => none
def F_affine_space_canonical : AFunc := ⟨49,
  .seq (.reg [⟨(some 2), .box (.t 0), none⟩,
    ⟨(some 3), .box (.t 1), none⟩,
    ⟨(some 4), .alloc (.agg [(.bool false), (.int .i64 0), (.int .i64 0), (.int .i64 0), (.int .i64 0), (.int .i64 0), (.int .i64 0)]), none⟩]) <|
  .seq (.reg [⟨(some 6), .fadd (.t 2) 0, none⟩,
    ⟨(some 7), .fadd (.t 6) 0, none⟩,
    ⟨(some 8), .ld (.t 7) 1 false, none⟩,
    ⟨(some 5), .mov (.t 8), none⟩]) <|
  .seq (.reg [⟨(some 9), .fadd (.t 3) 2, none⟩,
    ⟨(some 10), .ld (.t 9) 1 false, none⟩,
    ⟨(some 11), .fadd (.t 3) 1, none⟩,
    ⟨(some 12), .ld (.t 11) 1 false, none⟩,
    ⟨(some 13), .bin .add (.t 10) (.t 12), none⟩,
    ⟨(some 14), .fadd (.t 3) 3, none⟩,
    ⟨(some 15), .ld (.t 14) 1 false, none⟩,
    ⟨(some 16), .fadd (.t 3) 1, none⟩,
    ⟨(some 17), .ld (.t 16) 1 false, none⟩,
    ⟨(some 18), .mov (.t 5), none⟩,
    ⟨(some 19), .bin .mul (.t 17) (.t 18), none⟩,
    ⟨(some 20), .bin .add (.t 15) (.t 19), none⟩,
    ⟨(some 21), .fadd (.t 3) 2, none⟩,
    ⟨none, .st (.t 21) (.t 13) 1, none⟩,
    ⟨(some 22), .fadd (.t 3) 3, none⟩,
    ⟨none, .st (.t 22) (.t 20) 1, none⟩,
    ⟨(some 23), .fadd (.t 3) 1, none⟩,
    ⟨none, .st (.t 23) (.c (.int .i64 0)) 1, none⟩]) <|
  .seqj [3, 4, 5] [] (.seq (.reg [⟨(some 24), .fadd (.t 2) 8, none⟩,
    ⟨(some 25), .ld (.t 24) 1 false, none⟩,
    ⟨(some 26), .bin .eql (.t 25) (.c (.int .i64 1)), none⟩]) <|
  .cond (.t 26) (.reg [⟨(some 27), .fadd (.t 3) 3, none⟩,
    ⟨none, .st (.t 27) (.c (.int .i64 0)) 1, none⟩]) (.skip)) <|
  .seqj [3, 4, 5] [] (.seq (.reg [⟨(some 28), .mov (.t 5), none⟩,
    ⟨(some 29), .bin .eql (.t 28) (.c (.int .i64 1)), none⟩]) <|
  .cond (.t 29) (.reg [⟨(some 30), .fadd (.t 3) 2, none⟩,
    ⟨none, .st (.t 30) (.c (.int .i64 0)) 1, none⟩]) (.skip)) <|
  .seqj [3, 4] [] (.seq (.reg [⟨(some 31), .fadd (.t 3) 2, none⟩,
    ⟨(some 32), .ld (.t 31) 1 false, none⟩,
    ⟨(some 33), .bin .neq (.t 32) (.c (.int .i64 0)), none⟩,
    ⟨(some 34), .mov (.t 33), none⟩,
    ⟨(some 35), .fadd (.t 3) 3, some (34, true)⟩,
    ⟨(some 36), .ld (.t 35) 1 false, some (34, true)⟩,
    ⟨(some 37), .fadd (.t 3) 2, some (34, true)⟩,
    ⟨(some 38), .ld (.t 37) 1 false, some (34, true)⟩,
    ⟨(some 39), .mov (.t 5), some (34, true)⟩,
    ⟨(some 40), .bin .mul (.t 38) (.t 39), some (34, true)⟩,
    ⟨(some 41), .bin .eql (.t 36) (.t 40), some (34, true)⟩,
    ⟨(some 42), .pick (.t 34) (.t 41) (.c (.bool false)), none⟩]) <|
  .cond (.t 42) (.reg [⟨(some 43), .fadd (.t 3) 2, none⟩,
    ⟨(some 44), .ld (.t 43) 1 false, none⟩,
    ⟨(some 45), .fadd (.t 3) 1, none⟩,
    ⟨none, .st (.t 45) (.t 44) 1, none⟩,
    ⟨(some 46), .fadd (.t 3) 2, none⟩,
    ⟨none, .st (.t 46) (.c (.int .i64 0)) 1, none⟩,
    ⟨(some 47), .fadd (.t 3) 3, none⟩,
    ⟨none, .st (.t 47) (.c (.int .i64 0)) 1, none⟩]) (.skip)) <|
  .seq (.reg [⟨(some 48), .ld (.t 3) 7 true, none⟩,
    ⟨none, .st (.t 4) (.t 48) 7, none⟩]) <|
  .ret,
  [.cell 4 7 true]⟩
theorem F_affine_space_canonical_ok : cFn PP true n_affine_space_canonical loops_affine_space_canonical (cDr PP 49 tbl_affine_space_canonical) = some F_affine_space_canonical := by kernel_rfl


def V_affine_space_canonical (a0 : D) (a1 : D) (h0 : Heap) (K : D → Heap → Prop) : Prop :=
  vhOp PP (.box (.c a0)) h0 fun a3 h4 =>
  vhOp PP (.box (.c a1)) h4 fun a5 h6 =>
  vhOp PP (.alloc (.agg [(.bool false), (.int .i64 0), (.int .i64 0), (.int .i64 0), (.int .i64 0), (.int .i64 0), (.int .i64 0)])) h6 fun a7 h8 =>
  vhOp PP (.fadd (.c a3) 0) h8 fun a9 h10 =>
  vhOp PP (.fadd (.c a9) 0) h10 fun a11 h12 =>
  vhOp PP (.ld (.c a11) 1 false) h12 fun a13 h14 =>
  vhOp PP (.fadd (.c a5) 2) h14 fun a15 h16 =>
  vhOp PP (.ld (.c a15) 1 false) h16 fun a17 h18 =>
  vhOp PP (.fadd (.c a5) 1) h18 fun a19 h20 =>
  vhOp PP (.ld (.c a19) 1 false) h20 fun a21 h22 =>
  vbin .add a17 a21 fun a23 =>
  vhOp PP (.fadd (.c a5) 3) h22 fun a24 h25 =>
  vhOp PP (.ld (.c a24) 1 false) h25 fun a26 h27 =>
  vhOp PP (.fadd (.c a5) 1) h27 fun a28 h29 =>
  vhOp PP (.ld (.c a28) 1 false) h29 fun a30 h31 =>
  vbin .mul a30 a13 fun a32 =>
  vbin .add a26 a32 fun a33 =>
  vhOp PP (.fadd (.c a5) 2) h31 fun a34 h35 =>
  vhOp PP (.st (.c a34) (.c a23) 1) h35 fun a36 h37 =>
  vhOp PP (.fadd (.c a5) 3) h37 fun a38 h39 =>
  vhOp PP (.st (.c a38) (.c a33) 1) h39 fun a40 h41 =>
  vhOp PP (.fadd (.c a5) 1) h41 fun a42 h43 =>
  vhOp PP (.st (.c a42) (.c (.int .i64 0)) 1) h43 fun a44 h45 =>
  ∃ (J46 : List D → Heap → Prop), (∀ (f47 : Nat → D) (h48 : Heap), J46 [] h48 →
  ∃ (J49 : List D → Heap → Prop), (∀ (f50 : Nat → D) (h51 : Heap), J49 [] h51 →
  ∃ (J52 : List D → Heap → Prop), (∀ (f53 : Nat → D) (h54 : Heap), J52 [] h54 →
  vhOp PP (.ld (.c a5) 7 true) h54 fun a55 h56 =>
  vhOp PP (.st (.c a7) (.c a55) 7) h56 fun a57 h58 =>
  vhOp PP (.ld (.c a7) 7 true) h58 fun a59 _ =>
  K a59 h58) ∧
  vhOp PP (.fadd (.c a5) 2) h51 fun a60 h61 =>
  vhOp PP (.ld (.c a60) 1 false) h61 fun a62 h63 =>
  vbin .neq a62 (.int .i64 0) fun a64 =>
  vguard a64 true (fun G65 =>
  vhOp PP (.fadd (.c a5) 3) h63 fun a68 h69 =>
  G65 a68 h69) h63 fun a66 h67 =>
  vguard a64 true (fun G70 =>
  vhOp PP (.ld (.c a66) 1 false) h67 fun a73 h74 =>
  G70 a73 h74) h67 fun a71 h72 =>
  vguard a64 true (fun G75 =>
  vhOp PP (.fadd (.c a5) 2) h72 fun a78 h79 =>
  G75 a78 h79) h72 fun a76 h77 =>
  vguard a64 true (fun G80 =>
  vhOp PP (.ld (.c a76) 1 false) h77 fun a83 h84 =>
  G80 a83 h84) h77 fun a81 h82 =>
  vguard a64 true (fun G85 =>
  G85 a13 h82) h82 fun a86 h87 =>
  vguard a64 true (fun G88 =>
  vbin .mul a81 a86 fun a91 =>
  G88 a91 h87) h87 fun a89 h90 =>
  vguard a64 true (fun G92 =>
  vbin .eql a71 a89 fun a95 =>
  G92 a95 h90) h90 fun a93 h94 =>
  vhOp PP (.pick (.c a64) (.c a93) (.c (.bool false))) h94 fun a96 h97 =>
  vcond a96 (vhOp PP (.fadd (.c a5) 2) h97 fun a98 h99 =>
  vhOp PP (.ld (.c a98) 1 false) h99 fun a100 h101 =>
  vhOp PP (.fadd (.c a5) 1) h101 fun a102 h103 =>
  vhOp PP (.st (.c a102) (.c a100) 1) h103 fun a104 h105 =>
  vhOp PP (.fadd (.c a5) 2) h105 fun a106 h107 =>
  vhOp PP (.st (.c a106) (.c (.int .i64 0)) 1) h107 fun a108 h109 =>
  vhOp PP (.fadd (.c a5) 3) h109 fun a110 h111 =>
  vhOp PP (.st (.c a110) (.c (.int .i64 0)) 1) h111 fun a112 h113 =>
  keq [a5, a7] [a5, a7] ∧ J52 [] h113) (
  keq [a5, a7] [a5, a7] ∧ J52 [] h97)) ∧
  vbin .eql a13 (.int .i64 1) fun a114 =>
  vcond a114 (vhOp PP (.fadd (.c a5) 2) h48 fun a115 h116 =>
  vhOp PP (.st (.c a115) (.c (.int .i64 0)) 1) h116 fun a117 h118 =>
  keq [a5, a7, a13] [a5, a7, a13] ∧ J49 [] h118) (
  keq [a5, a7, a13] [a5, a7, a13] ∧ J49 [] h48)) ∧
  vhOp PP (.fadd (.c a3) 8) h45 fun a119 h120 =>
  vhOp PP (.ld (.c a119) 1 false) h120 fun a121 h122 =>
  vbin .eql a121 (.int .i64 1) fun a123 =>
  vcond a123 (vhOp PP (.fadd (.c a5) 3) h122 fun a124 h125 =>
  vhOp PP (.st (.c a124) (.c (.int .i64 0)) 1) h125 fun a126 h127 =>
  keq [a5, a7, a13] [a5, a7, a13] ∧ J46 [] h127) (
  keq [a5, a7, a13] [a5, a7, a13] ∧ J46 [] h122)
theorem V_affine_space_canonical_ok (a0 : D) (a1 : D) (h0 : Heap) (K : D → Heap → Prop) : V_affine_space_canonical a0 a1 h0 K = vcC PP F_affine_space_canonical.code (fun x e h' => match x with | .exit _ => False | _ => vcRet PP F_affine_space_canonical.res K e h') (params [a0, a1] 0) h0 := by kernel_rfl


end Go.Am
