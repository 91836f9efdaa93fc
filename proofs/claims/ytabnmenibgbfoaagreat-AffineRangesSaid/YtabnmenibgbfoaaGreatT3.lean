/- The texts of the functions of this chapter, as the abstract machine has them. No condition. -/
import Derived.Test.YtabnmenibgbfoaaGreatT2
set_option linter.unnecessarySimpa false
set_option linter.defProp false
set_option linter.unusedSectionVars false
set_option linter.unusedSimpArgs false
set_option linter.unusedVariables false
/- The text of law26_AffineRanges, as a program of ours printed it; checked. No condition. -/
set_option linter.unusedVariables false
namespace Go.Am
open Go Go.Proofs


def V_law26_AffineRanges_L0 (f143 : Nat → D) (h148 : Heap) (a4 : D) (a39 : D) (a46 : D) (a55 : D) (a79 : D) (J151 : List D → Heap → Prop) (K : D → Heap → Prop) : Prop :=
  ∃ (I155 : Nat → List D → Heap → Prop) (n₀ : Nat), I155 n₀ [(f143 13), (f143 14), (.int .i64 (-2100))] h148 ∧ ∀ (n156 : Nat) (f157 : Nat → D) (h158 : Heap), I155 n156 [f157 13, f157 14, f157 16] h158 →
  vbin .leq (f157 16) (.int .i64 2200) fun a159 =>
  vcond a159 (∃ (J160 : List D → Heap → Prop), (∀ (f161 : Nat → D) (h162 : Heap), J160 [f161 13, f161 14] h162 →
  vbin .add (f157 16) (.int .i64 1) fun a163 =>
  keq [a4, a39, a46, a55, a79, (f143 15)] [a4, a39, a46, a55, a79, (f143 15)] ∧ ∃ m, m < n156 ∧ I155 m [(f161 13), (f161 14), a163] h162) ∧
  vdOp PP (.ld (.c a55) 7 true) h158 fun a164 =>
  vdOp PP (.fadd (.c a39) 0) h158 fun a165 =>
  vdOp PP (.ld (.c a165) 1 false) h158 fun a166 =>
  vbin .rem (f143 15) a166 fun a167 =>
  vdOp PP (.fadd (.c a39) 0) h158 fun a168 =>
  vdOp PP (.ld (.c a168) 1 false) h158 fun a169 =>
  vbin .quo (f143 15) a169 fun a170 =>
  vdOp PP (.conv .i32 (.c (f157 16))) h158 fun a171 =>
  vdOp PP (.call n_affine_Has [(.c a164), (.c (f143 15)), (.c a167), (.c a170), (.c a171)]) h158 fun a172 =>
  vcond a172 (vhOp PP (.ld (.c a79) 3 true) h158 fun a173 h174 =>
  ACall PP n_ref25_Has [a173, (f157 16)] h174 fun a175 h176 =>
  vun .not a175 fun a177 =>
  vcond a177 (K (.bool false) h176) (
  vguard (f157 13) false (fun G178 =>
  G178 (f157 16) h176) h176 fun a179 h180 =>
  vguard (f157 13) false (fun G181 =>
  vhOp PP (.fadd (.c a79) 0) h180 fun a184 h185 =>
  G181 a184 h185) h180 fun a182 h183 =>
  vguard (f157 13) false (fun G186 =>
  vhOp PP (.ld (.c a182) 1 false) h183 fun a189 h190 =>
  G186 a189 h190) h183 fun a187 h188 =>
  vguard (f157 13) false (fun G191 =>
  vbin .eql a179 a187 fun a194 =>
  G191 a194 h188) h188 fun a192 h193 =>
  vhOp PP (.pick (.c (f157 13)) (.c (.bool true)) (.c a192)) h193 fun a195 h196 =>
  vguard (f157 14) false (fun G197 =>
  G197 (f157 16) h196) h196 fun a198 h199 =>
  vguard (f157 14) false (fun G200 =>
  vhOp PP (.fadd (.c a79) 1) h199 fun a203 h204 =>
  G200 a203 h204) h199 fun a201 h202 =>
  vguard (f157 14) false (fun G205 =>
  vhOp PP (.ld (.c a201) 1 false) h202 fun a208 h209 =>
  G205 a208 h209) h202 fun a206 h207 =>
  vguard (f157 14) false (fun G210 =>
  vbin .eql a198 a206 fun a213 =>
  G210 a213 h207) h207 fun a211 h212 =>
  vhOp PP (.pick (.c (f157 14)) (.c (.bool true)) (.c a211)) h212 fun a214 h215 =>
  keq [a4, a39, a46, a55, a79, (f143 15), (f157 16)] [a4, a39, a46, a55, a79, (f143 15), (f157 16)] ∧ J160 [a195, a214] h215)) (
  keq [a4, a39, a46, a55, a79, (f143 15), (f157 16)] [a4, a39, a46, a55, a79, (f143 15), (f157 16)] ∧ J160 [(f157 13), (f157 14)] h158)) (
  keq [a4, a39, a46, a55, a79, (f143 15)] [a4, a39, a46, a55, a79, (f143 15)] ∧ J151 [(f157 13), (f157 14)] h158)
def V_law26_AffineRanges_L1 (h82 : Heap) (a39 : D) (a46 : D) (a4 : D) (a55 : D) (a79 : D) (J84 : List D → Heap → Prop) (K : D → Heap → Prop) : Prop :=
  ∃ (I141 : Nat → List D → Heap → Prop) (n₀ : Nat), I141 n₀ [(.bool false), (.bool false), (.int .i64 0)] h82 ∧ ∀ (n142 : Nat) (f143 : Nat → D) (h144 : Heap), I141 n142 [f143 13, f143 14, f143 15] h144 →
  vhOp PP (.fadd (.c a39) 0) h144 fun a145 h146 =>
  vhOp PP (.ld (.c a145) 1 false) h146 fun a147 h148 =>
  vbin .mul a46 a147 fun a149 =>
  vbin .lss (f143 15) a149 fun a150 =>
  vcond a150 (∃ (J151 : List D → Heap → Prop), (∀ (f152 : Nat → D) (h153 : Heap), J151 [f152 13, f152 14] h153 →
  vbin .add (f143 15) (.int .i64 1) fun a154 =>
  keq [a4, a39, a46, a55, a79] [a4, a39, a46, a55, a79] ∧ ∃ m, m < n142 ∧ I141 m [(f152 13), (f152 14), a154] h153) ∧
  V_law26_AffineRanges_L0 f143 h148 a4 a39 a46 a55 a79 J151 K) (
  keq [a4, a79] [a4, a79] ∧ J84 [(f143 13), (f143 14)] h148)
def V_law26_AffineRanges (a0 : D) (h0 : Heap) (K : D → Heap → Prop) : Prop :=
  vhOp PP (.box (.c a0)) h0 fun a2 h3 =>
  ACall PP n_law26_examples [] h3 fun a4 h5 =>
  vun .not a4 fun a6 =>
  vcond a6 (K (.bool false) h5) (
  vhOp PP (.fadd (.c a2) 0) h5 fun a7 h8 =>
  vhOp PP (.ld (.c a7) 1 false) h8 fun a9 h10 =>
  vhOp PP (.fadd (.c a2) 1) h10 fun a11 h12 =>
  vhOp PP (.ld (.c a11) 1 false) h12 fun a13 h14 =>
  vhOp PP (.fadd (.c a2) 2) h14 fun a15 h16 =>
  vhOp PP (.ld (.c a15) 1 false) h16 fun a17 h18 =>
  vhOp PP (.fadd (.c a2) 3) h18 fun a19 h20 =>
  vhOp PP (.ld (.c a19) 3 true) h20 fun a21 h22 =>
  vhOp PP (.alloc (.agg [(.int .i64 0), (.int .u32 0), (.int .u16 0)])) h22 fun a23 h24 =>
  vhOp PP (.st (.c a23) (.c a21) 3) h24 fun a25 h26 =>
  vbin .and a9 (.int .i8 7) fun a27 =>
  vhOp PP (.conv .i64 (.c a27)) h26 fun a28 h29 =>
  vbin .add (.int .i64 1) a28 fun a30 =>
  vhOp PP (.bld [(.int .i64 0), (.int .i64 0), (.int .i64 0), (.int .i64 0), (.int .i32 0), (.int .i64 0), (.int .i64 0), (.int .i32 0), (.int .i64 0), (.int .i64 0), (.int .i32 0), (.int .i64 0), (.int .i64 0)] [(0, 1, (.c (.int .i64 5)))]) h29 fun a31 h32 =>
  vhOp PP (.bld [.nil, (.int .i64 0), (.int .i64 0), (.int .i64 0), (.int .i64 0), (.int .i32 0), (.int .i64 0), (.int .i64 0), (.int .i32 0), (.int .i64 0), (.int .i64 0), (.int .i32 0), (.int .i64 0), (.int .i64 0)] [(1, 13, (.c a31))]) h32 fun a33 h34 =>
  vhOp PP (.bldS true 14 1 (.agg [.nil, (.int .i64 0), (.int .i64 0), (.int .i64 0), (.int .i64 0), (.int .i32 0), (.int .i64 0), (.int .i64 0), (.int .i32 0), (.int .i64 0), (.int .i64 0), (.int .i32 0), (.int .i64 0), (.int .i64 0)]) [(0, (.c a33))]) h34 fun a35 h36 =>
  vhOp PP (.bld [(.int .i64 0), (.int .i64 0), (.int .i64 0), (.int .i64 0), (.int .i64 0), .nil, .nil, .nil] [(0, 1, (.c a30)), (1, 1, (.c (.int .i64 1))), (7, 1, (.c a35))]) h36 fun a37 h38 =>
  vhOp PP (.alloc (.agg [(.int .i64 0), (.int .i64 0), (.int .i64 0), (.int .i64 0), (.int .i64 0), .nil, .nil, .nil])) h38 fun a39 h40 =>
  vhOp PP (.st (.c a39) (.c a37) 8) h40 fun a41 h42 =>
  vbin .and a13 (.int .i8 3) fun a43 =>
  vhOp PP (.conv .i64 (.c a43)) h42 fun a44 h45 =>
  vbin .add (.int .i64 1) a44 fun a46 =>
  vhOp PP (.conv .i64 (.c a9)) h45 fun a47 h48 =>
  vhOp PP (.ld (.c a23) 3 true) h48 fun a49 h50 =>
  ACall PP n_ref25_Small [a49] h50 fun a51 h52 =>
  vhOp PP (.bld [(.bool false), (.int .i64 0), (.int .i64 0), (.int .i64 0), (.int .i64 0), (.int .i64 0), (.int .i64 0)] [(1, 1, (.c a47)), (4, 3, (.c a51))]) h52 fun a53 h54 =>
  vhOp PP (.alloc (.agg [(.bool false), (.int .i64 0), (.int .i64 0), (.int .i64 0), (.int .i64 0), (.int .i64 0), (.int .i64 0)])) h54 fun a55 h56 =>
  vhOp PP (.st (.c a55) (.c a53) 7) h56 fun a57 h58 =>
  ∃ (J59 : List D → Heap → Prop), (∀ (f60 : Nat → D) (h61 : Heap), J59 [] h61 →
  vhOp PP (.ld (.c a39) 8 true) h61 fun a62 h63 =>
  vhOp PP (.ld (.c a55) 7 true) h63 fun a64 h65 =>
  ACall PP n_ref26_Valid [a62, a46, a64] h65 fun a66 h67 =>
  vun .not a66 fun a68 =>
  vcond a68 (K a4 h67) (
  vhOp PP (.ld (.c a39) 8 true) h67 fun a69 h70 =>
  vhOp PP (.ld (.c a55) 7 true) h70 fun a71 h72 =>
  ACall PP n_affine_Range [a69, a46, a71] h72 fun a73 h74 =>
  vhOp PP (.ext (.c a73) 0) h74 fun a75 h76 =>
  vhOp PP (.ext (.c a73) 1) h76 fun a77 h78 =>
  vhOp PP (.alloc (.agg [(.int .i64 0), (.int .i64 0), (.int .i64 0)])) h78 fun a79 h80 =>
  vhOp PP (.st (.c a79) (.c a75) 3) h80 fun a81 h82 =>
  vun .not a77 fun a83 =>
  vcond a83 (K (.bool false) h82) (
  ∃ (J84 : List D → Heap → Prop), (∀ (f85 : Nat → D) (h86 : Heap), J84 [f85 13, f85 14] h86 →
  vguard a4 true (fun G87 =>
  G87 (f85 13) h86) h86 fun a88 h89 =>
  vguard a4 true (fun G90 =>
  G90 a88 h89) h89 fun a91 h92 =>
  vguard a91 false (fun G93 =>
  vhOp PP (.fadd (.c a79) 0) h92 fun a96 h97 =>
  G93 a96 h97) h92 fun a94 h95 =>
  vguard a91 false (fun G98 =>
  vhOp PP (.ld (.c a94) 1 false) h95 fun a101 h102 =>
  G98 a101 h102) h95 fun a99 h100 =>
  vguard a91 false (fun G103 =>
  vbin .lss a99 (.int .i64 (-2100)) fun a106 =>
  G103 a106 h100) h100 fun a104 h105 =>
  vguard a4 true (fun G107 =>
  vhOp PP (.pick (.c a91) (.c (.bool true)) (.c a104)) h105 fun a110 h111 =>
  G107 a110 h111) h105 fun a108 h109 =>
  vhOp PP (.pick (.c a4) (.c a108) (.c (.bool false))) h109 fun a112 h113 =>
  vguard a112 true (fun G114 =>
  G114 (f85 14) h113) h113 fun a115 h116 =>
  vguard a112 true (fun G117 =>
  G117 a115 h116) h116 fun a118 h119 =>
  vguard a118 false (fun G120 =>
  vhOp PP (.fadd (.c a79) 1) h119 fun a123 h124 =>
  G120 a123 h124) h119 fun a121 h122 =>
  vguard a118 false (fun G125 =>
  vhOp PP (.ld (.c a121) 1 false) h122 fun a128 h129 =>
  G125 a128 h129) h122 fun a126 h127 =>
  vguard a118 false (fun G130 =>
  vbin .gtr a126 (.int .i64 2200) fun a133 =>
  G130 a133 h127) h127 fun a131 h132 =>
  vguard a112 true (fun G134 =>
  vhOp PP (.pick (.c a118) (.c (.bool true)) (.c a131)) h132 fun a137 h138 =>
  G134 a137 h138) h132 fun a135 h136 =>
  vhOp PP (.pick (.c a112) (.c a135) (.c (.bool false))) h136 fun a139 h140 =>
  K a139 h140) ∧
  V_law26_AffineRanges_L1 h82 a39 a46 a4 a55 a79 J84 K))) ∧
  vbin .rem a17 (.int .i8 2) fun a216 =>
  vbin .eql a216 (.int .i8 0) fun a217 =>
  vcond a217 (vhOp PP (.conv .i64 (.c a13)) h58 fun a218 h219 =>
  vhOp PP (.conv .i64 (.c a17)) h219 fun a220 h221 =>
  vhOp PP (.fadd (.c a55) 4) h221 fun a222 h223 =>
  vhOp PP (.ld (.c a222) 3 true) h223 fun a224 h225 =>
  vhOp PP (.bld [(.bool false), (.int .i64 0), (.int .i64 0), (.int .i64 0), (.int .i64 0), (.int .i64 0), (.int .i64 0)] [(2, 1, (.c a218)), (3, 1, (.c a220)), (4, 3, (.c a224))]) h225 fun a226 h227 =>
  vhOp PP (.st (.c a55) (.c a226) 7) h227 fun a228 h229 =>
  keq [a4, a39, a46, a55] [a4, a39, a46, a55] ∧ J59 [] h229) (
  keq [a4, a39, a46, a55] [a4, a39, a46, a55] ∧ J59 [] h58))
theorem V_law26_AffineRanges_ok (a0 : D) (h0 : Heap) (K : D → Heap → Prop) : V_law26_AffineRanges a0 h0 K = vcC PP F_law26_AffineRanges.code (fun x e h' => match x with | .exit _ => False | _ => vcRet PP F_law26_AffineRanges.res K e h') (params [a0] 0) h0 := by kernel_rfl


end Go.Am
