/- The texts of the functions of this chapter, as the abstract machine has them. No condition. -/
import Derived.Test.YtllpdgfanfffnaaGreatProg
import Derived.KernelRfl
import Derived.Test.YtllpdgfanfffnaaGreatA4
set_option linter.unnecessarySimpa false
set_option linter.defProp false
set_option linter.unusedSectionVars false
set_option linter.unusedSimpArgs false
set_option linter.unusedVariables false
namespace Go.Am
open Go Go.Proofs
noncomputable abbrev PP:Program:=Tryz.prog
abbrev eE:FuncId:=7
abbrev eT:FuncId:=8
abbrev gF:FuncId:=9
abbrev jP:FuncId:=10
abbrev bS:FuncId:=12
abbrev mV:FuncId:=15
abbrev mU:FuncId:=17
abbrev bf:FuncId:=18
abbrev iI:FuncId:=20
abbrev vR:FuncId:=22
abbrev iy:FuncId:=23
abbrev mW:FuncId:=27
abbrev dH:FuncId:=28
abbrev dL:FuncId:=29
abbrev jm:FuncId:=30
abbrev jQ:FuncId:=31
abbrev ah:FuncId:=32
abbrev gG:FuncId:=33
abbrev bV:FuncId:=34
abbrev bR:FuncId:=35
abbrev aP:FuncId:=36
abbrev aK:FuncId:=37
abbrev aI:FuncId:=38
abbrev bp:FuncId:=39
abbrev eS:FuncId:=40
abbrev aR:FuncId:=41
abbrev aB:FuncId:=42
abbrev aM:FuncId:=43
abbrev qZ:FuncId:=44
abbrev cL:FuncId:=47
abbrev qW:FuncId:=48
abbrev ma:FuncId:=49
abbrev ix:FuncId:=50
abbrev dn:FuncId:=51
abbrev bj:FuncId:=52
abbrev nN:FuncId:=55
abbrev aN:FuncId:=56
abbrev cQ:FuncId:=58
abbrev jz:FuncId:=59
abbrev bO:FuncId:=60
abbrev aw:FuncId:=61
abbrev cu:FuncId:=62
abbrev dM:FuncId:=63
abbrev gE:FuncId:=65
abbrev fp:FuncId:=66
abbrev fo:FuncId:=67
abbrev tu:FuncId:=68
abbrev cR:FuncId:=70
abbrev lJ:FuncId:=71
abbrev qY:FuncId:=72
abbrev jO:FuncId:=73
abbrev iH:FuncId:=74
abbrev dm:FuncId:=75
abbrev tv:FuncId:=76
abbrev vS:FuncId:=77
abbrev pd:FuncId:=78
abbrev dp:FuncId:=79
abbrev bD:FuncId:=80
abbrev nM:FuncId:=81
abbrev pc:FuncId:=82
abbrev bZ:FuncId:=83
abbrev dG:FuncId:=84
abbrev cj:FuncId:=85
abbrev bF:FuncId:=87
abbrev nP:FuncId:=88
abbrev qX:FuncId:=89
abbrev cM:FuncId:=90
abbrev dY:FuncId:=91
abbrev kh:FuncId:=92
abbrev fj:FuncId:=93
abbrev x7:FuncId:=94
abbrev l9:FuncId:=95
abbrev vV:FuncId:=96
abbrev mT:FuncId:=97
abbrev bn:FuncId:=98
abbrev kU:FuncId:=99
abbrev cD:FuncId:=100
abbrev jl:FuncId:=101
abbrev gl:FuncId:=102
abbrev hZ:FuncId:=103
abbrev gD:FuncId:=104
abbrev ea:FuncId:=105
abbrev fO:FuncId:=106
abbrev iU:FuncId:=107
abbrev tA:FuncId:=108
abbrev kW:FuncId:=109
abbrev lI:FuncId:=110
abbrev x6:FuncId:=111
abbrev nQ:FuncId:=112
abbrev vU:FuncId:=113
abbrev fe:FuncId:=114
abbrev sj:FuncId:=115
abbrev bA:FuncId:=116
abbrev ki:FuncId:=122
abbrev vT:FuncId:=123
abbrev fP:FuncId:=124
abbrev cX:FuncId:=125
abbrev iA:FuncId:=126
abbrev pe:FuncId:=127
abbrev kX:FuncId:=129
abbrev fc:FuncId:=130
abbrev nO:FuncId:=131
abbrev tx:FuncId:=132
abbrev kV:FuncId:=133
def eG:Option av->ACode
  | some F=>F.code
  | none=>.skip
end Go.Am
namespace Go.Am
open Go Go.Proofs
def fH:Nat->Option (List Nat×List Nat)
  | _=>none
def gy:Nat->Option (List Nat×List Nat×List Nat)
  | 11=>some ([0,1,0,0,15,0,32,0,128,480,1023,2047,4095],[10,12],[])|12=>some ([0,1,0,0,15,0,32,0,128,480,1023,2047,4095],[10,12],[])|17=>some ([0,1,0,0,8,0,56,120,0,0,1016,0,2048,0,14336,30720,0,65536,260096,524280,1048575,2097151],[19,21],[1,20])|19=>some ([0,1,0,0,8,0,56,120,0,256,0,1792,3840,0,8192,32512,65280,130816,262136,524287,1048575],[18,20],[1,19])|21=>some ([0,1,0,0,8,0,56,120,0,256,768,1792,4088,8191,16383],[12,14],[1,13])|_=>none
noncomputable def eO:av:=⟨171,eG (cFn PP true eE fH (cDr PP 171 gy)),
  [.t 6]⟩
theorem mJ:cFn PP true eE fH (cDr PP 171 gy)=some eO:=by kernel_rfl
def je (a0:D) (a1:D) (a2:D) (h0:Heap) (K:D->Heap->Prop):Prop :=
  aa PP (.box (.c a0)) h0 fun a4 h5 =>
  aa PP (.box (.c a2)) h5 fun a6 h7 =>
  af PP eT [] h7 fun a8 h9 =>
  vun .not a8 fun a10 =>
  vcond a10 (K (.bool false) h9) (
  aa PP (.ld (.c a4) 1 true) h9 fun a11 h12 =>
  af PP jP [a11] h12 fun a13 h14 =>
  af PP gF [a13,a1] h14 fun a15 h16 =>
  aa PP (.alloc (.agg [(.int .i64 0),(.int .i64 0),(.int .i64 0),(.int .i64 0),(.int .i64 0),.nil,.nil,.nil])) h16 fun a17 h18 =>
  aa PP (.st (.c a17) (.c a15) 8) h18 fun a19 h20 =>
  aa PP (.ld (.c a17) 8 true) h20 fun a21 h22 =>
  af PP bS [a21] h22 fun a23 h24 =>
  aa PP (.alloc (.agg [.nil,.nil])) h24 fun a25 h26 =>
  aa PP (.st (.c a25) (.c a23) 2) h26 fun a27 h28 =>
  aa PP (.fadd (.c a25) 0) h28 fun a29 h30 =>
  aa PP (.ld (.c a29) 1 false) h30 fun a31 h32 =>
  bQ a31 h32 fun a33 =>
  vbin .eql a33 (.int .i64 0) fun a34 =>
  vguard a34 false (fun G35 =>
  aa PP (.fadd (.c a25) 1) h32 fun a38 h39 =>
  G35 a38 h39) h32 fun a36 h37 =>
  vguard a34 false (fun G40 =>
  aa PP (.ld (.c a36) 1 false) h37 fun a43 h44 =>
  G40 a43 h44) h37 fun a41 h42 =>
  vguard a34 false (fun G45 =>
  bQ a41 h42 fun a48 =>
  G45 a48 h42) h42 fun a46 h47 =>
  vguard a34 false (fun G49 =>
  aa PP (.fadd (.c a25) 0) h47 fun a52 h53 =>
  G49 a52 h53) h47 fun a50 h51 =>
  vguard a34 false (fun G54 =>
  aa PP (.ld (.c a50) 1 false) h51 fun a57 h58 =>
  G54 a57 h58) h51 fun a55 h56 =>
  vguard a34 false (fun G59 =>
  bQ a55 h56 fun a62 =>
  G59 a62 h56) h56 fun a60 h61 =>
  vguard a34 false (fun G63 =>
  vbin .neq a46 a60 fun a66 =>
  G63 a66 h61) h61 fun a64 h65 =>
  aa PP (.pick (.c a34) (.c (.bool true)) (.c a64)) h65 fun a67 h68 =>
  vcond a67 (K (.bool false) h68) (
  aa PP (.iadda (.c a6) (.c (.int .i64 0)) 2 1) h68 fun a69 h70 =>
  aa PP (.ld (.c a69) 1 false) h70 fun a71 h72 =>
  aa PP (.conv .i64 (.c a71)) h72 fun a73 h74 =>
  aa PP (.fadd (.c a25) 0) h74 fun a75 h76 =>
  aa PP (.ld (.c a75) 1 false) h76 fun a77 h78 =>
  bQ a77 h78 fun a79 =>
  vbin .rem a73 a79 fun a80 =>
  aa PP (.fadd (.c a25) 1) h78 fun a81 h82 =>
  aa PP (.ld (.c a81) 1 false) h82 fun a83 h84 =>
  aa PP (.iadd (.c a83) (.c a80) 1) h84 fun a85 h86 =>
  aa PP (.ld (.c a85) 1 false) h86 fun a87 h88 =>
  bQ a87 h88 fun a89 =>
  aa PP (.ld (.c a25) 2 true) h88 fun a90 h91 =>
  af PP dL [a90] h91 fun a92 h93 =>
  aa PP (.alloc (.agg [.nil,.nil])) h93 fun a94 h95 =>
  aa PP (.st (.c a94) (.c a92) 2) h95 fun a96 h97 =>
  ae PP (.fadd (.c a94) 0) h97 fun a98 =>
  ae PP (.ld (.c a98) 1 false) h97 fun a99 =>
  ae PP (.kN (.c a99) none (some (.c a80)) (some (.c a80)) 1) h97 fun a100 =>
  ae PP (.fadd (.c a94) 0) h97 fun a101 =>
  ae PP (.ld (.c a101) 1 false) h97 fun a102 =>
  vbin .add a80 (.int .i64 1) fun a103 =>
  ae PP (.kN (.c a102) (some (.c a103)) none none 1) h97 fun a104 =>
  ae PP (.fadd (.c a94) 0) h97 fun a105 =>
  aa PP (.app (.c a100) (.c a104) 1 8 (.int .i64 0)) h97 fun a106 h107 =>
  aa PP (.st (.c a105) (.c a106) 1) h107 fun a108 h109 =>
  ae PP (.fadd (.c a94) 1) h109 fun a110 =>
  ae PP (.ld (.c a110) 1 false) h109 fun a111 =>
  ae PP (.kN (.c a111) none (some (.c a80)) (some (.c a80)) 1) h109 fun a112 =>
  ae PP (.fadd (.c a94) 1) h109 fun a113 =>
  ae PP (.ld (.c a113) 1 false) h109 fun a114 =>
  vbin .add a80 (.int .i64 1) fun a115 =>
  ae PP (.kN (.c a114) (some (.c a115)) none none 1) h109 fun a116 =>
  ae PP (.fadd (.c a94) 1) h109 fun a117 =>
  aa PP (.app (.c a112) (.c a116) 1 24 .nil) h109 fun a118 h119 =>
  aa PP (.st (.c a117) (.c a118) 1) h119 fun a120 h121 =>
  vbin .eql a89 (.int .i64 0) fun a122 =>
  vguard a122 false (fun G123 =>
  aa PP (.ld (.c a17) 8 true) h121 fun a126 h127 =>
  G123 a126 h127) h121 fun a124 h125 =>
  vguard a122 false (fun G128 =>
  aa PP (.ld (.c a94) 2 true) h125 fun a131 h132 =>
  G128 a131 h132) h125 fun a129 h130 =>
  vguard a122 false (fun G133 =>
  af PP bf [a124,a129] h130 fun a136 h137 =>
  G133 a136 h137) h130 fun a134 h135 =>
  vguard a122 false (fun G138 =>
  vbin .neq a134 (.int .i64 100) fun a141 =>
  G138 a141 h135) h135 fun a139 h140 =>
  aa PP (.pick (.c a122) (.c (.bool true)) (.c a139)) h140 fun a142 h143 =>
  vcond a142 (K (.bool false) h143) (
  aa PP (.iadda (.c a6) (.c (.int .i64 1)) 2 1) h143 fun a144 h145 =>
  aa PP (.ld (.c a144) 1 false) h145 fun a146 h147 =>
  aa PP (.conv .i64 (.c a146)) h147 fun a148 h149 =>
  vbin .rem a148 a89 fun a150 =>
  aa PP (.ld (.c a25) 2 true) h149 fun a151 h152 =>
  af PP dL [a151] h152 fun a153 h154 =>
  aa PP (.alloc (.agg [.nil,.nil])) h154 fun a155 h156 =>
  aa PP (.st (.c a155) (.c a153) 2) h156 fun a157 h158 =>
  ae PP (.fadd (.c a155) 1) h158 fun a159 =>
  ae PP (.ld (.c a159) 1 false) h158 fun a160 =>
  ae PP (.fadd (.c a155) 1) h158 fun a161 =>
  ae PP (.ld (.c a161) 1 false) h158 fun a162 =>
  ae PP (.iadd (.c a162) (.c a80) 1) h158 fun a163 =>
  ae PP (.ld (.c a163) 1 false) h158 fun a164 =>
  ae PP (.kN (.c a164) none (some (.c a150)) (some (.c a150)) 1) h158 fun a165 =>
  ae PP (.fadd (.c a155) 1) h158 fun a166 =>
  ae PP (.ld (.c a166) 1 false) h158 fun a167 =>
  ae PP (.iadd (.c a167) (.c a80) 1) h158 fun a168 =>
  ae PP (.ld (.c a168) 1 false) h158 fun a169 =>
  vbin .add a150 (.int .i64 1) fun a170 =>
  ae PP (.kN (.c a169) (some (.c a170)) none none 1) h158 fun a171 =>
  ae PP (.iadd (.c a160) (.c a80) 1) h158 fun a172 =>
  aa PP (.app (.c a165) (.c a171) 1 8 (.int .i64 0)) h158 fun a173 h174 =>
  ((ae PP (.ld (.c a159) 1 false) h174 fun a175=>aX [a175] [a160])/\(ae PP (.iadd (.c a160) (.c a80) 1) h174 fun a176=>aX [a176] [a172])/\True) /\
  aa PP (.st (.c a172) (.c a173) 1) h174 fun a177 h178 =>
  ((ae PP (.ld (.c a159) 1 false) h178 fun a179=>aX [a179] [a160])/\(ae PP (.iadd (.c a160) (.c a80) 1) h178 fun a180=>aX [a180] [a172])/\True) /\
  aa PP (.ld (.c a25) 2 true) h178 fun a181 h182 =>
  af PP dL [a181] h182 fun a183 h184 =>
  aa PP (.alloc (.agg [.nil,.nil])) h184 fun a185 h186 =>
  aa PP (.st (.c a185) (.c a183) 2) h186 fun a187 h188 =>
  ae PP (.fadd (.c a185) 1) h188 fun a189 =>
  ae PP (.ld (.c a189) 1 false) h188 fun a190 =>
  ae PP (.fadd (.c a185) 1) h188 fun a191 =>
  ae PP (.ld (.c a191) 1 false) h188 fun a192 =>
  ae PP (.iadd (.c a192) (.c a80) 1) h188 fun a193 =>
  ae PP (.ld (.c a193) 1 false) h188 fun a194 =>
  ae PP (.fadd (.c a185) 1) h188 fun a195 =>
  ae PP (.ld (.c a195) 1 false) h188 fun a196 =>
  ae PP (.iadd (.c a196) (.c a80) 1) h188 fun a197 =>
  ae PP (.ld (.c a197) 1 false) h188 fun a198 =>
  vbin .sub a89 (.int .i64 1) fun a199 =>
  ae PP (.iadd (.c a198) (.c a199) 1) h188 fun a200 =>
  ae PP (.ld (.c a200) 1 false) h188 fun a201 =>
  ae PP (.bldS false 1 1 (.int .i64 0) [(0,(.c a201))]) h188 fun a202 =>
  ae PP (.iadd (.c a190) (.c a80) 1) h188 fun a203 =>
  aa PP (.app (.c a194) (.c a202) 1 8 (.int .i64 0)) h188 fun a204 h205 =>
  ((ae PP (.ld (.c a189) 1 false) h205 fun a206=>aX [a206] [a190])/\(ae PP (.iadd (.c a190) (.c a80) 1) h205 fun a207=>aX [a207] [a203])/\True) /\
  aa PP (.st (.c a203) (.c a204) 1) h205 fun a208 h209 =>
  ((ae PP (.ld (.c a189) 1 false) h209 fun a210=>aX [a210] [a190])/\(ae PP (.iadd (.c a190) (.c a80) 1) h209 fun a211=>aX [a211] [a203])/\True) /\
  aa PP (.ld (.c a25) 2 true) h209 fun a212 h213 =>
  af PP dL [a212] h213 fun a214 h215 =>
  aa PP (.alloc (.agg [.nil,.nil])) h215 fun a216 h217 =>
  aa PP (.st (.c a216) (.c a214) 2) h217 fun a218 h219 =>
  ae PP (.fadd (.c a216) 1) h219 fun a220 =>
  ae PP (.ld (.c a220) 1 false) h219 fun a221 =>
  ae PP (.fadd (.c a216) 1) h219 fun a222 =>
  ae PP (.ld (.c a222) 1 false) h219 fun a223 =>
  ae PP (.iadd (.c a223) (.c a80) 1) h219 fun a224 =>
  ae PP (.ld (.c a224) 1 false) h219 fun a225 =>
  ae PP (.fadd (.c a17) 7) h219 fun a226 =>
  ae PP (.ld (.c a226) 1 false) h219 fun a227 =>
  bQ a227 h219 fun a228 =>
  ae PP (.bldS false 1 1 (.int .i64 0) [(0,(.c a228))]) h219 fun a229 =>
  ae PP (.iadd (.c a221) (.c a80) 1) h219 fun a230 =>
  aa PP (.app (.c a225) (.c a229) 1 8 (.int .i64 0)) h219 fun a231 h232 =>
  ((ae PP (.ld (.c a220) 1 false) h232 fun a233=>aX [a233] [a221])/\(ae PP (.iadd (.c a221) (.c a80) 1) h232 fun a234=>aX [a234] [a230])/\True) /\
  aa PP (.st (.c a230) (.c a231) 1) h232 fun a235 h236 =>
  ((ae PP (.ld (.c a220) 1 false) h236 fun a237=>aX [a237] [a221])/\(ae PP (.iadd (.c a221) (.c a80) 1) h236 fun a238=>aX [a238] [a230])/\True) /\
  vguard a8 true (fun G239 =>
  aa PP (.ld (.c a17) 8 true) h236 fun a242 h243 =>
  G239 a242 h243) h236 fun a240 h241 =>
  vguard a8 true (fun G244 =>
  aa PP (.ld (.c a155) 2 true) h241 fun a247 h248 =>
  G244 a247 h248) h241 fun a245 h246 =>
  vguard a8 true (fun G249 =>
  af PP bf [a240,a245] h246 fun a252 h253 =>
  G249 a252 h253) h246 fun a250 h251 =>
  vguard a8 true (fun G254 =>
  vbin .eql a250 (.int .i64 100) fun a257 =>
  G254 a257 h251) h251 fun a255 h256 =>
  aa PP (.pick (.c a8) (.c a255) (.c (.bool false))) h256 fun a258 h259 =>
  vguard a258 true (fun G260 =>
  aa PP (.ld (.c a17) 8 true) h259 fun a263 h264 =>
  G260 a263 h264) h259 fun a261 h262 =>
  vguard a258 true (fun G265 =>
  aa PP (.ld (.c a185) 2 true) h262 fun a268 h269 =>
  G265 a268 h269) h262 fun a266 h267 =>
  vguard a258 true (fun G270 =>
  af PP bf [a261,a266] h267 fun a273 h274 =>
  G270 a273 h274) h267 fun a271 h272 =>
  vguard a258 true (fun G275 =>
  vbin .eql a271 (.int .i64 100) fun a278 =>
  G275 a278 h272) h272 fun a276 h277 =>
  aa PP (.pick (.c a258) (.c a276) (.c (.bool false))) h277 fun a279 h280 =>
  vguard a279 true (fun G281 =>
  aa PP (.ld (.c a17) 8 true) h280 fun a284 h285 =>
  G281 a284 h285) h280 fun a282 h283 =>
  vguard a279 true (fun G286 =>
  aa PP (.ld (.c a216) 2 true) h283 fun a289 h290 =>
  G286 a289 h290) h283 fun a287 h288 =>
  vguard a279 true (fun G291 =>
  af PP bf [a282,a287] h288 fun a294 h295 =>
  G291 a294 h295) h288 fun a292 h293 =>
  vguard a279 true (fun G296 =>
  vbin .eql a292 (.int .i64 100) fun a299 =>
  G296 a299 h293) h293 fun a297 h298 =>
  aa PP (.pick (.c a279) (.c a297) (.c (.bool false))) h298 fun a300 h301 =>
  K a300 h301)))
theorem mA (a0:D) (a1:D) (a2:D) (h0:Heap) (K:D->Heap->Prop):je a0 a1 a2 h0 K=vcC PP eO.code (fun x e h'=>match x with|.exit _=>False|.pan=>False|.jump _=>False|_=>bN PP eO.res K e h') (params [a0,a1,a2] 0) h0:=by kernel_rfl
def pt:Nat->Option (List Nat×List Nat)
  | 6000008=>some ([],[])|_=>none
def rZ:Nat->Option (List Nat×List Nat×List Nat)
  | 7=>some ([0,0,2,7,15,31,63,63,191,511,1023,2047,4095,8191,8191,32767,65535,131071],[],[])|_=>none
def mI:av:=⟨76,
  .seq (.reg [⟨(some 0),.mov (.c (.bool false)),none⟩]) <|
  .seq (.reg [⟨(some 5),.call jm [(.c (.int .i64 3)),(.c (.bool false))],none⟩,
    ⟨(some 1),.alloc (.agg [(.int .i64 0),(.int .i64 0),(.int .i64 0),(.int .i64 0),(.int .i64 0),.nil,.nil,.nil]),none⟩,
    ⟨none,.st (.t 1) (.t 5) 8,none⟩]) <|
  .seq (.reg [⟨(some 6),.call jm [(.c (.int .i64 2)),(.c (.bool true))],none⟩,
    ⟨(some 2),.alloc (.agg [(.int .i64 0),(.int .i64 0),(.int .i64 0),(.int .i64 0),(.int .i64 0),.nil,.nil,.nil]),none⟩,
    ⟨none,.st (.t 2) (.t 6) 8,none⟩]) <|
  .seq (.reg [⟨(some 7),.ld (.t 1) 8 true,none⟩,
    ⟨(some 8),.call bS [(.t 7)],none⟩,
    ⟨(some 3),.alloc (.agg [.nil,.nil]),none⟩,
    ⟨none,.st (.t 3) (.t 8) 2,none⟩]) <|
  .seq (.reg [⟨(some 9),.ld (.t 2) 8 true,none⟩,
    ⟨(some 10),.call bS [(.t 9)],none⟩,
    ⟨(some 4),.alloc (.agg [.nil,.nil]),none⟩,
    ⟨none,.st (.t 4) (.t 10) 2,none⟩]) <|
  .seq (.seq (.reg [⟨(some 11),.ld (.t 1) 8 true,none⟩,
    ⟨(some 12),.ld (.t 3) 2 true,none⟩,
    ⟨(some 13),.call bf [(.t 11),(.t 12)],none⟩,
    ⟨(some 14),.bin .neq (.t 13) (.c (.int .i64 0)),none⟩,
    ⟨(some 15),.mov (.t 14),none⟩,
    ⟨(some 16),.ld (.t 2) 8 true,some (15,false)⟩,
    ⟨(some 17),.ld (.t 3) 2 true,some (15,false)⟩,
    ⟨(some 18),.call bf [(.t 16),(.t 17)],some (15,false)⟩,
    ⟨(some 19),.bin .neq (.t 18) (.c (.int .i64 0)),some (15,false)⟩,
    ⟨(some 20),.pick (.t 15) (.c (.bool true)) (.t 19),none⟩,
    ⟨(some 21),.mov (.t 20),none⟩,
    ⟨(some 22),.ld (.t 1) 8 true,some (21,false)⟩,
    ⟨(some 23),.ld (.t 4) 2 true,some (21,false)⟩,
    ⟨(some 24),.call bf [(.t 22),(.t 23)],some (21,false)⟩,
    ⟨(some 25),.bin .neq (.t 24) (.c (.int .i64 100)),some (21,false)⟩,
    ⟨(some 26),.pick (.t 21) (.c (.bool true)) (.t 25),none⟩,
    ⟨(some 27),.mov (.t 26),none⟩,
    ⟨(some 28),.ld (.t 1) 8 true,some (27,false)⟩,
    ⟨(some 29),.bld [.nil,.nil] [],some (27,false)⟩,
    ⟨(some 30),.call bf [(.t 28),(.t 29)],some (27,false)⟩,
    ⟨(some 31),.bin .neq (.t 30) (.c (.int .i64 100)),some (27,false)⟩,
    ⟨(some 32),.pick (.t 27) (.c (.bool true)) (.t 31),none⟩]) <|
  .cond (.t 32) (.seq (.reg [⟨(some 0),.mov (.c (.bool false)),none⟩]) <|
  .ret) (.skip)) <|
  .seq (.seq (.frz (.dreg [⟨(some 33),.ld (.t 1) 8 true,none⟩,
    ⟨(some 34),.ld (.t 1) 8 true,none⟩,
    ⟨(some 35),.call mV [(.t 34)],none⟩,
    ⟨(some 36),.call iI [(.t 33),(.t 35)],none⟩,
    ⟨(some 37),.bin .neq (.t 36) (.c (.int .i64 0)),none⟩,
    ⟨(some 38),.mov (.t 37),none⟩,
    ⟨(some 39),.ld (.t 2) 8 true,some (38,false)⟩,
    ⟨(some 40),.ld (.t 2) 8 true,some (38,false)⟩,
    ⟨(some 41),.call mV [(.t 40)],some (38,false)⟩,
    ⟨(some 42),.call iI [(.t 39),(.t 41)],some (38,false)⟩,
    ⟨(some 43),.bin .neq (.t 42) (.c (.int .i64 90)),some (38,false)⟩,
    ⟨(some 44),.pick (.t 38) (.c (.bool true)) (.t 43),none⟩,
    ⟨(some 45),.mov (.t 44),none⟩,
    ⟨(some 46),.ld (.t 1) 8 true,some (45,false)⟩,
    ⟨(some 47),.bld [.nil,.nil] [],some (45,false)⟩,
    ⟨(some 48),.call iI [(.t 46),(.t 47)],some (45,false)⟩,
    ⟨(some 49),.bin .neq (.t 48) (.c (.int .i64 100)),some (45,false)⟩,
    ⟨(some 50),.pick (.t 45) (.c (.bool true)) (.t 49),none⟩] [] [])) <|
  .cond (.t 50) (.seq (.reg [⟨(some 0),.mov (.c (.bool false)),none⟩]) <|
  .ret) (.skip)) <|
  .seq (.reg [⟨(some 51),.ld (.t 3) 2 true,none⟩,
    ⟨(some 52),.bldS true 1 2 (.int .i64 0) [(0,(.c (.int .i64 0))),(1,(.c (.int .i64 1)))],none⟩,
    ⟨(some 53),.bldS true 1 4 (.int .i64 0) [(0,(.c (.int .i64 0))),(1,(.c (.int .i64 1))),(2,(.c (.int .i64 2))),(3,(.c (.int .i64 3)))],none⟩,
    ⟨(some 54),.bldS true 1 3 (.int .i64 0) [(0,(.c (.int .i64 1))),(1,(.c (.int .i64 2))),(2,(.c (.int .i64 3)))],none⟩,
    ⟨(some 55),.bldS true 1 2 .nil [(0,(.t 53)),(1,(.t 54))],none⟩,
    ⟨(some 56),.bld [.nil,.nil] [(0,1,(.t 52)),(1,1,(.t 55))],none⟩,
    ⟨(some 57),.call mU [(.t 51),(.t 56)],none⟩,
    ⟨(some 58),.mov (.t 57),none⟩,
    ⟨(some 59),.ld (.t 4) 2 true,some (58,true)⟩,
    ⟨(some 60),.bldS true 1 2 (.int .i64 0) [(0,(.c (.int .i64 0))),(1,(.c (.int .i64 1)))],some (58,true)⟩,
    ⟨(some 61),.bldS true 1 1 (.int .i64 0) [(0,(.c (.int .i64 0)))],some (58,true)⟩,
    ⟨(some 62),.bldS true 1 3 (.int .i64 0) [(0,(.c (.int .i64 1))),(1,(.c (.int .i64 2))),(2,(.c (.int .i64 3)))],some (58,true)⟩,
    ⟨(some 63),.bldS true 1 2 .nil [(0,(.t 61)),(1,(.t 62))],some (58,true)⟩,
    ⟨(some 64),.bld [.nil,.nil] [(0,1,(.t 60)),(1,1,(.t 63))],some (58,true)⟩,
    ⟨(some 65),.call mU [(.t 59),(.t 64)],some (58,true)⟩,
    ⟨(some 66),.pick (.t 58) (.t 65) (.c (.bool false)),none⟩,
    ⟨(some 67),.mov (.t 66),none⟩,
    ⟨(some 68),.ld (.t 3) 2 true,some (67,true)⟩,
    ⟨(some 69),.call iy [(.t 68),(.c (.int .i64 0)),(.c (.int .i64 3))],some (67,true)⟩,
    ⟨(some 70),.pick (.t 67) (.t 69) (.c (.bool false)),none⟩,
    ⟨(some 71),.mov (.t 70),none⟩,
    ⟨(some 72),.ld (.t 4) 2 true,some (71,true)⟩,
    ⟨(some 73),.call iy [(.t 72),(.c (.int .i64 0)),(.c (.int .i64 3))],some (71,true)⟩,
    ⟨(some 74),.un .not (.t 73),some (71,true)⟩,
    ⟨(some 75),.pick (.t 71) (.t 74) (.c (.bool false)),none⟩,
    ⟨(some 0),.mov (.t 75),none⟩]) <|
  .ret,
  [.t 0]⟩
theorem qO:cFn PP true eT pt (cDr PP 76 rZ)=some mI:=by kernel_rfl
def km:Nat->Option (List Nat×List Nat)
  | 1000008=>some ([4,5],[])|3=>some ([1,4,5],[6])|1000005=>some ([1,4,5,6],[])|_=>none
def lW:Nat->Option (List Nat×List Nat×List Nat)
  | _=>none
noncomputable def kH:av:=⟨40,eG (cFn PP true gF km (cDr PP 40 lW)),
  [.cell 4 8 true]⟩
theorem ur:cFn PP true gF km (cDr PP 40 lW)=some kH:=by kernel_rfl
def lj (h14:Heap) (a11:D) (a1:D) (a5:D) (J15:List D->Heap->Prop):Prop :=
  ∃(I23:Nat->List D->Heap->Prop) (n₀:Nat),I23 n₀ [(.int .i64 0)] h14/\∀(n24:Nat) (f25:Nat->D) (h26:Heap),I23 n24 [f25 6] h26 ->
  aa PP (.fadd (.c a11) 7) h26 fun a27 h28 =>
  aa PP (.ld (.c a27) 1 false) h28 fun a29 h30 =>
  bQ a29 h30 fun a31 =>
  vbin .lss (f25 6) a31 fun a32 =>
  vcond a32 (∃(J33:List D->Heap->Prop),(∀(f34:Nat->D) (h35:Heap),J33 [] h35 ->
  vbin .add (f25 6) (.int .i64 1) fun a36 =>
  aX [a1,a5,a11] [a1,a5,a11]/\∃m,m<n24/\I23 m [a36] h35) /\
  vbin .rem (f25 6) (.int .i64 32) fun a37 =>
  aa PP (.conv .u64 (.c a37)) h30 fun a38 h39 =>
  vbin .shr a1 a38 fun a40 =>
  vbin .and a40 (.int .u32 1) fun a41 =>
  vbin .eql a41 (.int .u32 1) fun a42 =>
  vguard a42 true (fun G43 =>
  aa PP (.fadd (.c a11) 7) h39 fun a46 h47 =>
  G43 a46 h47) h39 fun a44 h45 =>
  vguard a42 true (fun G48 =>
  aa PP (.ld (.c a44) 1 false) h45 fun a51 h52 =>
  G48 a51 h52) h45 fun a49 h50 =>
  vguard a42 true (fun G53 =>
  G53 (f25 6) h50) h50 fun a54 h55 =>
  vguard a42 true (fun G56 =>
  aa PP (.iadd (.c a49) (.c a54) 14) h55 fun a59 h60 =>
  G56 a59 h60) h55 fun a57 h58 =>
  vguard a42 true (fun G61 =>
  aa PP (.fadd (.c a57) 1) h58 fun a64 h65 =>
  G61 a64 h65) h58 fun a62 h63 =>
  vguard a42 true (fun G66 =>
  aa PP (.fadd (.c a62) 0) h63 fun a69 h70 =>
  G66 a69 h70) h63 fun a67 h68 =>
  vguard a42 true (fun G71 =>
  aa PP (.ld (.c a67) 1 false) h68 fun a74 h75 =>
  G71 a74 h75) h68 fun a72 h73 =>
  vguard a42 true (fun G76 =>
  vbin .eql a72 (.int .i64 1) fun a79 =>
  G76 a79 h73) h73 fun a77 h78 =>
  aa PP (.pick (.c a42) (.c a77) (.c (.bool false))) h78 fun a80 h81 =>
  vcond a80 (aa PP (.fadd (.c a11) 7) h81 fun a82 h83 =>
  aa PP (.ld (.c a82) 1 false) h83 fun a84 h85 =>
  aa PP (.iadd (.c a84) (.c (f25 6)) 14) h85 fun a86 h87 =>
  aa PP (.fadd (.c a86) 1) h87 fun a88 h89 =>
  aa PP (.fadd (.c a88) 0) h89 fun a90 h91 =>
  aa PP (.st (.c a90) (.c (.int .i64 3)) 1) h91 fun a92 h93 =>
  aX [a1,a5,a11,(f25 6)] [a1,a5,a11,(f25 6)]/\J33 [] h93) (
  aX [a1,a5,a11,(f25 6)] [a1,a5,a11,(f25 6)]/\J33 [] h81)) (
  aX [a5,a11] [a5,a11]/\J15 [] h30)
def pN (a0:D) (a1:D) (h0:Heap) (K:D->Heap->Prop):Prop :=
  aa PP (.box (.c a0)) h0 fun a3 h4 =>
  aa PP (.alloc (.agg [(.int .i64 0),(.int .i64 0),(.int .i64 0),(.int .i64 0),(.int .i64 0),.nil,.nil,.nil])) h4 fun a5 h6 =>
  aa PP (.ld (.c a3) 8 true) h6 fun a7 h8 =>
  af PP jQ [a7] h8 fun a9 h10 =>
  aa PP (.alloc (.agg [(.int .i64 0),(.int .i64 0),(.int .i64 0),(.int .i64 0),(.int .i64 0),.nil,.nil,.nil])) h10 fun a11 h12 =>
  aa PP (.st (.c a11) (.c a9) 8) h12 fun a13 h14 =>
  ∃(J15:List D->Heap->Prop),(∀(f16:Nat->D) (h17:Heap),J15 [] h17 ->
  aa PP (.ld (.c a11) 8 true) h17 fun a18 h19 =>
  aa PP (.st (.c a5) (.c a18) 8) h19 fun a20 h21 =>
  aa PP (.ld (.c a5) 8 true) h21 fun a22 _ =>
  K a22 h21) /\
  lj h14 a11 a1 a5 J15
theorem ub (a0:D) (a1:D) (h0:Heap) (K:D->Heap->Prop):pN a0 a1 h0 K=vcC PP kH.code (fun x e h'=>match x with|.exit _=>False|.pan=>False|.jump _=>False|_=>bN PP kH.res K e h') (params [a0,a1] 0) h0:=by kernel_rfl
def mf:Nat->Option (List Nat×List Nat)
  | 1000008=>some ([2,3],[])|4=>some ([2,3],[4])|1000019=>some ([2,3],[])|8=>some ([2,3],[5])|1000010=>some ([2,3,5],[])|1000015=>some ([2,3,5],[])|1000024=>some ([2,3],[])|_=>none
def oY:Nat->Option (List Nat×List Nat×List Nat)
  | 2=>some ([0,0,0,4,12,30,62,12,254,511,1023,2047],[3,11],[999999])|4=>some ([0,1,3,7,15,31,63,127,7,263,775,1799,3847,7943,16383,32767,65535],[],[])|17=>some ([0,1,3,7,15,0,0,64,192,448,0,1216,0,7360,0,31936,0,65536,196608,524224,1048575,2097151,4194303],[7,11,13,15,22],[999999])|23=>some ([0,1,3,7,15,0,32,96,224,480,992,2016,0,8191,16383,32767],[15],[])|_=>none
noncomputable def nC:av:=⟨153,eG (cFn PP true jP mf (cDr PP 153 oY)),
  [.cell 2 8 true]⟩
theorem xd:cFn PP true jP mf (cDr PP 153 oY)=some nC:=by kernel_rfl
def jt (a76:D) (h75:Heap) (a4:D) (a12:D) (J29:List D->Heap->Prop):Prop :=
  ∃(I77:Nat->List D->Heap->Prop) (n₀:Nat),I77 n₀ [a76] h75/\∀(n78:Nat) (f79:Nat->D) (h80:Heap),I77 n78 [f79 5] h80 ->
  vbin .gtr (f79 5) (.int .i64 0) fun a81 =>
  vcond a81 (∃(J82:List D->Heap->Prop),(∀(f83:Nat->D) (h84:Heap),J82 [] h84 ->
  vbin .sub (f79 5) (.int .i64 1) fun a85 =>
  aX [a4,a12] [a4,a12]/\∃m,m<n78/\I77 m [a85] h84) /\
  af PP ah [a12] h80 fun a86 h87 =>
  vbin .rem a86 (.int .i64 3) fun a88 =>
  af PP bV [a12,a88] h87 fun a89 h90 =>
  ∃(J91:List D->Heap->Prop),(∀(f92:Nat->D) (h93:Heap),J91 [] h93 ->
  aa PP (.fadd (.c a12) 0) h93 fun a94 h95 =>
  aa PP (.fadd (.c a94) 2) h95 fun a96 h97 =>
  aa PP (.fadd (.c a96) 7) h97 fun a98 h99 =>
  aa PP (.ld (.c a98) 1 false) h99 fun a100 h101 =>
  bQ a100 h101 fun a102 =>
  vbin .sub a102 (.int .i64 1) fun a103 =>
  aa PP (.fadd (.c a12) 0) h101 fun a104 h105 =>
  aa PP (.fadd (.c a104) 2) h105 fun a106 h107 =>
  aa PP (.fadd (.c a106) 7) h107 fun a108 h109 =>
  aa PP (.ld (.c a108) 1 false) h109 fun a110 h111 =>
  vbin .add a103 (.int .i64 1) fun a112 =>
  aa PP (.bld [(.int .i64 0),(.int .i64 0)] [(0,1,(.c a112)),(1,1,(.c (.int .i64 0)))]) h111 fun a113 h114 =>
  aa PP (.bld [(.int .i64 0),(.int .i64 0),(.int .i64 0),(.int .i64 0),(.int .i32 0),(.int .i64 0),(.int .i64 0),(.int .i32 0),(.int .i64 0),(.int .i64 0),(.int .i32 0),(.int .i64 0),(.int .i64 0)] [(0,1,(.c (.int .i64 3))),(11,2,(.c a113))]) h114 fun a115 h116 =>
  aa PP (.iadd (.c a110) (.c a103) 14) h116 fun a117 h118 =>
  aa PP (.fadd (.c a117) 1) h118 fun a119 h120 =>
  aa PP (.st (.c a119) (.c a115) 13) h120 fun a121 h122 =>
  af PP ah [a12] h122 fun a123 h124 =>
  vbin .rem a123 (.int .i64 3) fun a125 =>
  vbin .eql a125 (.int .i64 0) fun a126 =>
  vcond a126 (ae PP (.fadd (.c a12) 0) h124 fun a127 =>
  ae PP (.fadd (.c a127) 2) h124 fun a128 =>
  ae PP (.fadd (.c a128) 7) h124 fun a129 =>
  ae PP (.ld (.c a129) 1 false) h124 fun a130 =>
  vbin .add a103 (.int .i64 1) fun a131 =>
  ae PP (.bld [(.int .i64 0),(.int .i64 0)] [(0,1,(.c a131)),(1,1,(.c (.int .i64 0)))]) h124 fun a132 =>
  af PP ah [a12] h124 fun a133 h134 =>
  ((ae PP (.fadd (.c a12) 0) h134 fun a135=>aX [a135] [a127])/\(ae PP (.fadd (.c a127) 2) h134 fun a136=>aX [a136] [a128])/\(ae PP (.fadd (.c a128) 7) h134 fun a137=>aX [a137] [a129])/\(ae PP (.ld (.c a129) 1 false) h134 fun a138=>aX [a138] [a130])/\True) /\
  vbin .rem a133 (.int .i64 6) fun a139 =>
  vbin .add (.int .i64 1) a139 fun a140 =>
  af PP aK [a12] h134 fun a141 h142 =>
  ((ae PP (.fadd (.c a12) 0) h142 fun a143=>aX [a143] [a127])/\(ae PP (.fadd (.c a127) 2) h142 fun a144=>aX [a144] [a128])/\(ae PP (.fadd (.c a128) 7) h142 fun a145=>aX [a145] [a129])/\(ae PP (.ld (.c a129) 1 false) h142 fun a146=>aX [a146] [a130])/\True) /\
  af PP aI [a12] h142 fun a147 h148 =>
  ((ae PP (.fadd (.c a12) 0) h148 fun a149=>aX [a149] [a127])/\(ae PP (.fadd (.c a127) 2) h148 fun a150=>aX [a150] [a128])/\(ae PP (.fadd (.c a128) 7) h148 fun a151=>aX [a151] [a129])/\(ae PP (.ld (.c a129) 1 false) h148 fun a152=>aX [a152] [a130])/\True) /\
  af PP aI [a12] h148 fun a153 h154 =>
  ((ae PP (.fadd (.c a12) 0) h154 fun a155=>aX [a155] [a127])/\(ae PP (.fadd (.c a127) 2) h154 fun a156=>aX [a156] [a128])/\(ae PP (.fadd (.c a128) 7) h154 fun a157=>aX [a157] [a129])/\(ae PP (.ld (.c a129) 1 false) h154 fun a158=>aX [a158] [a130])/\True) /\
  ae PP (.bld [(.int .i64 0),(.int .i64 0),(.int .i64 0),(.int .i64 0),(.int .i32 0),(.int .i64 0),(.int .i64 0),(.int .i32 0),(.int .i64 0),(.int .i64 0),(.int .i32 0),(.int .i64 0),(.int .i64 0)] [(0,1,(.c (.int .i64 4))),(1,1,(.c a140)),(2,3,(.c a141)),(5,3,(.c a147)),(8,3,(.c a153)),(11,2,(.c a132))]) h154 fun a159 =>
  ae PP (.iadd (.c a130) (.c a103) 14) h154 fun a160 =>
  ae PP (.fadd (.c a160) 1) h154 fun a161 =>
  aa PP (.st (.c a161) (.c a159) 13) h154 fun a162 h163 =>
  aX [a4,a12,(f79 5)] [a4,a12,(f79 5)]/\J82 [] h163) (
  aX [a4,a12,(f79 5)] [a4,a12,(f79 5)]/\J82 [] h124)) /\
  af PP ah [a12] h90 fun a164 h165 =>
  vbin .rem a164 (.int .i64 3) fun a166 =>
  vbin .eql a166 (.int .i64 0) fun a167 =>
  vcond a167 (af PP bR [a12] h165 fun a168 h169 =>
  af PP aP [a12] h169 fun a170 h171 =>
  aX [a4,a12,(f79 5)] [a4,a12,(f79 5)]/\J91 [] h171) (
  aX [a4,a12,(f79 5)] [a4,a12,(f79 5)]/\J91 [] h165)) (
  aX [a4,a12] [a4,a12]/\J29 [] h80)
def js (a174:D) (h173:Heap) (a12:D) (a4:D) (J26:List D->Heap->Prop):Prop :=
  ∃(I175:Nat->List D->Heap->Prop) (n₀:Nat),I175 n₀ [a174] h173/\∀(n176:Nat) (f177:Nat->D) (h178:Heap),I175 n176 [f177 4] h178 ->
  vbin .gtr (f177 4) (.int .i64 0) fun a179 =>
  ba a179 true (fun G180 =>
  G180 a12) fun a181 =>
  ba a179 true (fun G183 =>
  ae PP (.fadd (.c a181) 0) h178 fun a259 =>
  G183 a259) fun a184 =>
  ba a179 true (fun G187 =>
  ae PP (.fadd (.c a184) 2) h178 fun a258 =>
  G187 a258) fun a188 =>
  ba a179 true (fun G191 =>
  ae PP (.fadd (.c a188) 0) h178 fun a257 =>
  G191 a257) fun a192 =>
  ba a179 true (fun G195 =>
  ae PP (.ld (.c a192) 1 false) h178 fun a256 =>
  G195 a256) fun a196 =>
  ba a179 true (fun G199 =>
  G199 a12) fun a200 =>
  ba a179 true (fun G202 =>
  ae PP (.fadd (.c a200) 0) h178 fun a255 =>
  G202 a255) fun a203 =>
  ba a179 true (fun G206 =>
  ae PP (.fadd (.c a203) 2) h178 fun a254 =>
  G206 a254) fun a207 =>
  ba a179 true (fun G210 =>
  ae PP (.fadd (.c a207) 1) h178 fun a253 =>
  G210 a253) fun a211 =>
  ba a179 true (fun G214 =>
  ae PP (.ld (.c a211) 1 false) h178 fun a252 =>
  G214 a252) fun a215 =>
  ba a179 true (fun G218 =>
  vbin .mul (.int .i64 2) a215 fun a251 =>
  G218 a251) fun a219 =>
  ba a179 true (fun G222 =>
  vbin .rem a196 a219 fun a250 =>
  G222 a250) fun a223 =>
  ba a179 true (fun G226 =>
  vbin .eql a223 (.int .i64 0) fun a249 =>
  G226 a249) fun a227 =>
  ae PP (.pick (.c a179) (.c a227) (.c (.bool false))) h178 fun a230 =>
  vcond a230 (aa PP (.fadd (.c a12) 0) h178 fun a231 h232 =>
  aa PP (.fadd (.c a231) 2) h232 fun a233 h234 =>
  aa PP (.fadd (.c a233) 1) h234 fun a235 h236 =>
  aa PP (.ld (.c a235) 1 false) h236 fun a237 h238 =>
  vbin .mul (.int .i64 2) a237 fun a239 =>
  aa PP (.fadd (.c a12) 0) h238 fun a240 h241 =>
  aa PP (.fadd (.c a240) 2) h241 fun a242 h243 =>
  aa PP (.fadd (.c a242) 1) h243 fun a244 h245 =>
  aa PP (.st (.c a244) (.c a239) 1) h245 fun a246 h247 =>
  vbin .sub (f177 4) (.int .i64 1) fun a248 =>
  aX [a4,a12] [a4,a12]/\∃m,m<n176/\I175 m [a248] h247) (
  aX [a4,a12] [a4,a12]/\J26 [] h178)
def ud (a0:D) (h0:Heap) (K:D->Heap->Prop):Prop :=
  aa PP (.box (.c a0)) h0 fun a2 h3 =>
  aa PP (.alloc (.agg [(.int .i64 0),(.int .i64 0),(.int .i64 0),(.int .i64 0),(.int .i64 0),.nil,.nil,.nil])) h3 fun a4 h5 =>
  aa PP (.fadd (.c a2) 0) h5 fun a6 h7 =>
  aa PP (.ld (.c a6) 1 false) h7 fun a8 h9 =>
  aa PP (.bld [.nil,(.int .i64 0),(.int .i64 0),(.int .i64 0),(.int .i64 0),(.int .i64 0),(.int .i64 0),.nil,.nil,.nil] [(0,1,(.c a8))]) h9 fun a10 h11 =>
  aa PP (.box (.c a10)) h11 fun a12 h13 =>
  ae PP (.bldS false 1 5 (.int .i64 0) [(0,(.c (.int .i64 4))),(1,(.c (.int .i64 1))),(2,(.c (.int .i64 2))),(3,(.c (.int .i64 8))),(4,(.c (.int .i64 6)))]) h13 fun a14 =>
  af PP ah [a12] h13 fun a15 h16 =>
  vbin .rem a15 (.int .i64 5) fun a17 =>
  ae PP (.iadd (.c a14) (.c a17) 1) h16 fun a18 =>
  ae PP (.ld (.c a18) 1 false) h16 fun a19 =>
  ae PP (.call gG []) h16 fun a20 =>
  ae PP (.bld [(.int .i64 0),(.int .i64 0),(.int .i64 0),(.int .i64 0),(.int .i64 0),.nil,.nil,.nil] [(0,1,(.c a19)),(1,1,(.c (.int .i64 1))),(2,1,(.c (.int .i64 6))),(4,1,(.c (.int .i64 3))),(5,1,(.c a20))]) h16 fun a21 =>
  ae PP (.fadd (.c a12) 0) h16 fun a22 =>
  ae PP (.fadd (.c a22) 2) h16 fun a23 =>
  aa PP (.st (.c a23) (.c a21) 8) h16 fun a24 h25 =>
  ∃(J26:List D->Heap->Prop),(∀(f27:Nat->D) (h28:Heap),J26 [] h28 ->
  ∃(J29:List D->Heap->Prop),(∀(f30:Nat->D) (h31:Heap),J29 [] h31 ->
  af PP ah [a12] h31 fun a32 h33 =>
  vbin .rem a32 (.int .i64 3) fun a34 =>
  af PP bV [a12,a34] h33 fun a35 h36 =>
  ∃(J37:List D->Heap->Prop),(∀(f38:Nat->D) (h39:Heap),J37 [] h39 ->
  ae PP (.fadd (.c a12) 0) h39 fun a40 =>
  ae PP (.fadd (.c a40) 2) h39 fun a41 =>
  ae PP (.fadd (.c a41) 7) h39 fun a42 =>
  ae PP (.ld (.c a42) 1 false) h39 fun a43 =>
  ae PP (.fadd (.c a12) 0) h39 fun a44 =>
  ae PP (.fadd (.c a44) 2) h39 fun a45 =>
  ae PP (.fadd (.c a45) 7) h39 fun a46 =>
  ae PP (.ld (.c a46) 1 false) h39 fun a47 =>
  bQ a47 h39 fun a48 =>
  vbin .sub a48 (.int .i64 1) fun a49 =>
  ae PP (.bld [(.int .i64 0),(.int .i64 0),(.int .i64 0),(.int .i64 0),(.int .i32 0),(.int .i64 0),(.int .i64 0),(.int .i32 0),(.int .i64 0),(.int .i64 0),(.int .i32 0),(.int .i64 0),(.int .i64 0)] [(0,1,(.c (.int .i64 5)))]) h39 fun a50 =>
  ae PP (.iadd (.c a43) (.c a49) 14) h39 fun a51 =>
  ae PP (.fadd (.c a51) 1) h39 fun a52 =>
  aa PP (.st (.c a52) (.c a50) 13) h39 fun a53 h54 =>
  aa PP (.fadd (.c a12) 0) h54 fun a55 h56 =>
  aa PP (.fadd (.c a55) 2) h56 fun a57 h58 =>
  aa PP (.ld (.c a57) 8 true) h58 fun a59 h60 =>
  aa PP (.st (.c a4) (.c a59) 8) h60 fun a61 h62 =>
  aa PP (.ld (.c a4) 8 true) h62 fun a63 _ =>
  K a63 h62) /\
  af PP ah [a12] h36 fun a64 h65 =>
  vbin .rem a64 (.int .i64 3) fun a66 =>
  vbin .eql a66 (.int .i64 0) fun a67 =>
  vcond a67 (af PP bR [a12] h65 fun a68 h69 =>
  af PP aP [a12] h69 fun a70 h71 =>
  af PP bp [a12] h71 fun a72 h73 =>
  aX [a4,a12] [a4,a12]/\J37 [] h73) (
  aX [a4,a12] [a4,a12]/\J37 [] h65)) /\
  af PP ah [a12] h28 fun a74 h75 =>
  vbin .rem a74 (.int .i64 3) fun a76 =>
  jt a76 h75 a4 a12 J29) /\
  af PP ah [a12] h25 fun a172 h173 =>
  vbin .rem a172 (.int .i64 3) fun a174 =>
  js a174 h173 a12 a4 J26
theorem wW (a0:D) (h0:Heap) (K:D->Heap->Prop):ud a0 h0 K=vcC PP nC.code (fun x e h'=>match x with|.exit _=>False|.pan=>False|.jump _=>False|_=>bN PP nC.res K e h') (params [a0] 0) h0:=by kernel_rfl
end Go.Am
namespace Go.Am
open Go Go.Proofs
def mj:Nat->Option (List Nat×List Nat)
  | 9000002=>some ([1,2],[3,4,5])|1000009=>some ([1,2,3],[5])|1000017=>some ([2,8],[])|12=>some ([2,3,8,45,46],[47])|_=>none
def o4:Nat->Option (List Nat×List Nat×List Nat)
  | 9=>some ([0,1,3,0,8,7,63],[6],[])|_=>none
noncomputable def nH:av:=⟨61,eG (cFn PP true bS mj (cDr PP 61 o4)),
  [.cell 2 2 true]⟩
theorem xh:cFn PP true bS mj (cDr PP 61 o4)=some nH:=by kernel_rfl
def dV (h41:Heap) (a42:D) (a40:D) (a26:D) (a10:D) (a4:D) (J30:List D->Heap->Prop):Prop :=
  ∃(I43:Nat->List D->Heap->Prop) (n₀:Nat),I43 n₀ [(.int .i64 0)] h41/\∀(n44:Nat) (f45:Nat->D) (h46:Heap),I43 n44 [f45 47] h46 ->
  vbin .lss (f45 47) a42 fun a47 =>
  vcond a47 (aa PP (.iadd (.c a40) (.c (f45 47)) 1) h46 fun a48 h49 =>
  aa PP (.ld (.c a48) 1 false) h49 fun a50 h51 =>
  aa PP (.fadd (.c a26) 1) h51 fun a52 h53 =>
  aa PP (.ld (.c a52) 1 false) h53 fun a54 h55 =>
  aa PP (.look (.int .i64) (.c a10) (.c a50) .nil false) h55 fun a56 h57 =>
  aa PP (.bldS true 1 1 .nil [(0,(.c a56))]) h57 fun a58 h59 =>
  aa PP (.app (.c a54) (.c a58) 1 24 .nil) h59 fun a60 h61 =>
  aa PP (.fadd (.c a26) 1) h61 fun a62 h63 =>
  aa PP (.st (.c a62) (.c a60) 1) h63 fun a64 h65 =>
  vbin .add (f45 47) (.int .i64 1) fun a66 =>
  aX [a4,a10,a26,a40,a42] [a4,a10,a26,a40,a42]/\∃m,m<n44/\I43 m [a66] h65) (
  aX [a4,a26] [a4,a26]/\J30 [] h46)
def oc (h120:Heap) (a121:D) (a119:D) (a105:D) (f8:Nat->D) (a4:D) (J109:List D->Heap->Prop):Prop :=
  ∃(I122:Nat->List D->Heap->Prop) (n₀:Nat),I122 n₀ [(.int .i64 0)] h120/\∀(n123:Nat) (f124:Nat->D) (h125:Heap),I122 n123 [f124 47] h125 ->
  vbin .lss (f124 47) a121 fun a126 =>
  vcond a126 (aa PP (.iadd (.c a119) (.c (f124 47)) 1) h125 fun a127 h128 =>
  aa PP (.ld (.c a127) 1 false) h128 fun a129 h130 =>
  aa PP (.fadd (.c a105) 1) h130 fun a131 h132 =>
  aa PP (.ld (.c a131) 1 false) h132 fun a133 h134 =>
  aa PP (.look (.int .i64) (.c (f8 3)) (.c a129) .nil false) h134 fun a135 h136 =>
  aa PP (.bldS true 1 1 .nil [(0,(.c a135))]) h136 fun a137 h138 =>
  aa PP (.app (.c a133) (.c a137) 1 24 .nil) h138 fun a139 h140 =>
  aa PP (.fadd (.c a105) 1) h140 fun a141 h142 =>
  aa PP (.st (.c a141) (.c a139) 1) h142 fun a143 h144 =>
  vbin .add (f124 47) (.int .i64 1) fun a145 =>
  aX [a4,(f8 3),a105,a119,a121] [a4,(f8 3),a105,a119,a121]/\∃m,m<n123/\I122 m [a145] h144) (
  aX [a4,a105] [a4,a105]/\J109 [] h125)
def ui (a0:D) (h0:Heap) (K:D->Heap->Prop):Prop :=
  aa PP (.box (.c a0)) h0 fun a2 h3 =>
  aa PP (.alloc (.agg [.nil,.nil])) h3 fun a4 h5 =>
  ∃(I6:Nat->List D->Heap->Prop),(aa PP (.xt (.int .i64)) h5 fun a10 h11 =>
  ∃(J12:List D->Heap->Prop),(∀(f13:Nat->D) (h14:Heap),J12 [f13 5] h14 ->
  bQ (f13 5) h14 fun a15 =>
  vbin .gtr a15 (.int .i64 0) fun a16 =>
  vcond a16 (ae PP (.iadd (.c (f13 5)) (.c (.int .i64 0)) 1) h14 fun a17 =>
  ae PP (.ld (.c a17) 1 false) h14 fun a18 =>
  ae PP (.kN (.c (f13 5)) (some (.c (.int .i64 1))) none none 1) h14 fun a19 =>
  0=0/\aX [a2,a4] [a2,a4]/\∃m,I6 m [a10,a18,a19] h14) (
  af PP aM [a10] h14 fun a20 h21 =>
  af PP aR [a20] h21 fun a22 h23 =>
  aa PP (.bld [.nil,.nil] [(0,1,(.c a22))]) h23 fun a24 h25 =>
  aa PP (.alloc (.agg [.nil,.nil])) h25 fun a26 h27 =>
  aa PP (.st (.c a26) (.c a24) 2) h27 fun a28 h29 =>
  ∃(J30:List D->Heap->Prop),(∀(f31:Nat->D) (h32:Heap),J30 [] h32 ->
  aa PP (.ld (.c a26) 2 true) h32 fun a33 h34 =>
  aa PP (.st (.c a4) (.c a33) 2) h34 fun a35 h36 =>
  aa PP (.ld (.c a4) 2 true) h36 fun a37 _ =>
  K a37 h36) /\
  aa PP (.fadd (.c a26) 0) h29 fun a38 h39 =>
  aa PP (.ld (.c a38) 1 false) h39 fun a40 h41 =>
  bQ a40 h41 fun a42 =>
  dV h41 a42 a40 a26 a10 a4 J30)) /\
  aa PP (.look (.int .i64) (.c a10) (.c (.int .i64 0)) .nil false) h11 fun a67 h68 =>
  aa PP (.nilq false (.c a67)) h68 fun a69 h70 =>
  vcond a69 (aa PP (.ld (.c a2) 8 true) h70 fun a71 h72 =>
  af PP eS [a71,(.int .i64 0)] h72 fun a73 h74 =>
  aa PP (.ext (.c a73) 0) h74 fun a75 h76 =>
  aa PP (.ext (.c a73) 1) h76 fun a77 h78 =>
  af PP aB [a75] h78 fun a79 h80 =>
  af PP aR [a79] h80 fun a81 h82 =>
  aa PP (.mupd (.int .i64) (.c a10) (.c (.int .i64 0)) (.c a81)) h82 fun a83 h84 =>
  af PP aB [a77] h84 fun a85 h86 =>
  af PP aR [a85] h86 fun a87 h88 =>
  aa PP (.app (.c .nil) (.c a87) 1 8 (.int .i64 0)) h88 fun a89 h90 =>
  aX [a2,a4,a10] [a2,a4,a10]/\J12 [a89] h90) (
  aX [a2,a4,a10] [a2,a4,a10]/\J12 [.nil] h70))/\∀(n7:Nat) (f8:Nat->D) (h9:Heap),I6 n7 [f8 3,f8 4,f8 5] h9 ->
  ∃(J91:List D->Heap->Prop),(∀(f92:Nat->D) (h93:Heap),J91 [f92 5] h93 ->
  bQ (f92 5) h93 fun a94 =>
  vbin .gtr a94 (.int .i64 0) fun a95 =>
  vcond a95 (ae PP (.iadd (.c (f92 5)) (.c (.int .i64 0)) 1) h93 fun a96 =>
  ae PP (.ld (.c a96) 1 false) h93 fun a97 =>
  ae PP (.kN (.c (f92 5)) (some (.c (.int .i64 1))) none none 1) h93 fun a98 =>
  0=0/\aX [a2,a4] [a2,a4]/\∃m,m<n7/\I6 m [(f8 3),a97,a98] h93) (
  af PP aM [(f8 3)] h93 fun a99 h100 =>
  af PP aR [a99] h100 fun a101 h102 =>
  aa PP (.bld [.nil,.nil] [(0,1,(.c a101))]) h102 fun a103 h104 =>
  aa PP (.alloc (.agg [.nil,.nil])) h104 fun a105 h106 =>
  aa PP (.st (.c a105) (.c a103) 2) h106 fun a107 h108 =>
  ∃(J109:List D->Heap->Prop),(∀(f110:Nat->D) (h111:Heap),J109 [] h111 ->
  aa PP (.ld (.c a105) 2 true) h111 fun a112 h113 =>
  aa PP (.st (.c a4) (.c a112) 2) h113 fun a114 h115 =>
  aa PP (.ld (.c a4) 2 true) h115 fun a116 _ =>
  K a116 h115) /\
  aa PP (.fadd (.c a105) 0) h108 fun a117 h118 =>
  aa PP (.ld (.c a117) 1 false) h118 fun a119 h120 =>
  bQ a119 h120 fun a121 =>
  oc h120 a121 a119 a105 f8 a4 J109)) /\
  aa PP (.look (.int .i64) (.c (f8 3)) (.c (f8 4)) .nil false) h9 fun a146 h147 =>
  aa PP (.nilq false (.c a146)) h147 fun a148 h149 =>
  vcond a148 (aa PP (.ld (.c a2) 8 true) h149 fun a150 h151 =>
  af PP eS [a150,(f8 4)] h151 fun a152 h153 =>
  aa PP (.ext (.c a152) 0) h153 fun a154 h155 =>
  aa PP (.ext (.c a152) 1) h155 fun a156 h157 =>
  af PP aB [a154] h157 fun a158 h159 =>
  af PP aR [a158] h159 fun a160 h161 =>
  aa PP (.mupd (.int .i64) (.c (f8 3)) (.c (f8 4)) (.c a160)) h161 fun a162 h163 =>
  af PP aB [a156] h163 fun a164 h165 =>
  af PP aR [a164] h165 fun a166 h167 =>
  aa PP (.app (.c (f8 5)) (.c a166) 1 8 (.int .i64 0)) h167 fun a168 h169 =>
  aX [a2,a4,(f8 3)] [a2,a4,(f8 3)]/\J91 [a168] h169) (
  aX [a2,a4,(f8 3)] [a2,a4,(f8 3)]/\J91 [(f8 5)] h149)
theorem wZ (a0:D) (h0:Heap) (K:D->Heap->Prop):ui a0 h0 K=vcC PP nH.code (fun x e h'=>match x with|.exit _=>False|.pan=>False|.jump _=>False|_=>bN PP nH.res K e h') (params [a0] 0) h0:=by kernel_rfl
def uU:Nat->Option (List Nat×List Nat)
  | 1000020=>some ([2,3],[])|5=>some ([1,2,3,4,5],[6])|1000014=>some ([1,2,3,4,5],[6])|8=>some ([1,2,3,4,5],[6,7])|1000010=>some ([1,2,3,4,5,7],[6])|14=>some ([1,2,3,4,5],[6,8])|1000016=>some ([1,2,3,4,5,8],[6])|_=>none
def xG:Nat->Option (List Nat×List Nat×List Nat)
  | _=>none
def uv:av:=⟨66,
  .seq (.reg [⟨(some 1),.box (.t 0),none⟩,
    ⟨(some 2),.alloc (.agg [.nil,.nil]),none⟩]) <|
  .seq (.reg [⟨(some 9),.ld (.t 1) 8 true,none⟩,
    ⟨(some 10),.call vR [(.t 9),(.c (.bool true))],none⟩,
    ⟨(some 3),.alloc (.agg [.nil,.nil]),none⟩,
    ⟨none,.st (.t 3) (.t 10) 2,none⟩]) <|
  .seq (.reg [⟨(some 11),.ld (.t 1) 8 true,none⟩,
    ⟨(some 12),.call qZ [(.t 11)],none⟩,
    ⟨(some 4),.mov (.t 12),none⟩]) <|
  .seq (.reg [⟨(some 13),.ld (.t 1) 8 true,none⟩,
    ⟨(some 14),.call cL [(.t 13)],none⟩,
    ⟨(some 5),.mov (.t 14),none⟩]) <|
  .seq (.reg [⟨(some 6),.mov (.c (.bool true)),none⟩]) <|
  .seqj [2,3] [] (.block 0 (.loop [1,2,3,4,5] [6] (.seq (.seq (.reg [⟨(some 15),.mov (.t 6),none⟩]) <|
  .cond (.t 15) (.skip) (.exit 0)) <|
  .block 1 (.seq (.reg [⟨(some 6),.mov (.c (.bool false)),none⟩]) <|
  .seqj [1,2,3,4,5] [6] (.seq (.reg [⟨(some 7),.mov (.c (.int .i64 0)),none⟩]) <|
  .block 2 (.loop [1,2,3,4,5] [6,7] (.seq (.seq (.reg [⟨(some 16),.mov (.t 7),none⟩,
    ⟨(some 17),.fadd (.t 3) 0,none⟩,
    ⟨(some 18),.ld (.t 17) 1 false,none⟩,
    ⟨(some 19),.len (.t 18),none⟩,
    ⟨(some 20),.bin .lss (.t 16) (.t 19),none⟩]) <|
  .cond (.t 20) (.skip) (.exit 2)) <|
  .seqj [1,2,3,4,5,7] [6] (.block 3 (.seq (.reg [⟨(some 23),.fadd (.t 3) 0,none⟩,
    ⟨(some 24),.ld (.t 23) 1 false,none⟩,
    ⟨(some 25),.mov (.t 7),none⟩,
    ⟨(some 26),.iadd (.t 24) (.t 25) 1,none⟩,
    ⟨(some 27),.ld (.t 26) 1 false,none⟩,
    ⟨(some 28),.mov (.t 27),none⟩,
    ⟨(some 29),.ld (.t 1) 8 true,some (28,true)⟩,
    ⟨(some 30),.mov (.t 4),some (28,true)⟩,
    ⟨(some 31),.mov (.t 5),some (28,true)⟩,
    ⟨(some 32),.ld (.t 3) 2 true,some (28,true)⟩,
    ⟨(some 33),.mov (.t 7),some (28,true)⟩,
    ⟨(some 34),.call qW [(.t 29),(.t 30),(.t 31),(.t 32),(.t 33)],some (28,true)⟩,
    ⟨(some 35),.un .not (.t 34),some (28,true)⟩,
    ⟨(some 36),.pick (.t 28) (.t 35) (.c (.bool false)),none⟩]) <|
  .cond (.t 36) (.seq (.reg [⟨(some 37),.fadd (.t 3) 0,none⟩,
    ⟨(some 38),.ld (.t 37) 1 false,none⟩,
    ⟨(some 39),.mov (.t 7),none⟩,
    ⟨(some 40),.iadd (.t 38) (.t 39) 1,none⟩,
    ⟨none,.st (.t 40) (.c (.bool false)) 1,none⟩]) <|
  .reg [⟨(some 6),.mov (.c (.bool true)),none⟩]) (.skip))) <|
  .reg [⟨(some 21),.mov (.t 7),none⟩,
    ⟨(some 22),.bin .add (.t 21) (.c (.int .i64 1)),none⟩,
    ⟨(some 7),.mov (.t 22),none⟩]))) <|
  .seq (.reg [⟨(some 8),.mov (.c (.int .i64 0)),none⟩]) <|
  .block 4 (.loop [1,2,3,4,5] [6,8] (.seq (.seq (.reg [⟨(some 41),.mov (.t 8),none⟩,
    ⟨(some 42),.fadd (.t 3) 1,none⟩,
    ⟨(some 43),.ld (.t 42) 1 false,none⟩,
    ⟨(some 44),.len (.t 43),none⟩,
    ⟨(some 45),.bin .lss (.t 41) (.t 44),none⟩]) <|
  .cond (.t 45) (.skip) (.exit 4)) <|
  .seqj [1,2,3,4,5,8] [6] (.block 5 (.seq (.reg [⟨(some 48),.fadd (.t 3) 1,none⟩,
    ⟨(some 49),.ld (.t 48) 1 false,none⟩,
    ⟨(some 50),.mov (.t 8),none⟩,
    ⟨(some 51),.iadd (.t 49) (.t 50) 1,none⟩,
    ⟨(some 52),.ld (.t 51) 1 false,none⟩,
    ⟨(some 53),.mov (.t 52),none⟩,
    ⟨(some 54),.ld (.t 1) 8 true,some (53,true)⟩,
    ⟨(some 55),.mov (.t 4),some (53,true)⟩,
    ⟨(some 56),.ld (.t 3) 2 true,some (53,true)⟩,
    ⟨(some 57),.mov (.t 8),some (53,true)⟩,
    ⟨(some 58),.call ma [(.t 54),(.t 55),(.t 56),(.t 57)],some (53,true)⟩,
    ⟨(some 59),.un .not (.t 58),some (53,true)⟩,
    ⟨(some 60),.pick (.t 53) (.t 59) (.c (.bool false)),none⟩]) <|
  .cond (.t 60) (.seq (.reg [⟨(some 61),.fadd (.t 3) 1,none⟩,
    ⟨(some 62),.ld (.t 61) 1 false,none⟩,
    ⟨(some 63),.mov (.t 8),none⟩,
    ⟨(some 64),.iadd (.t 62) (.t 63) 1,none⟩,
    ⟨none,.st (.t 64) (.c (.bool false)) 1,none⟩]) <|
  .reg [⟨(some 6),.mov (.c (.bool true)),none⟩]) (.skip))) <|
  .reg [⟨(some 46),.mov (.t 8),none⟩,
    ⟨(some 47),.bin .add (.t 46) (.c (.int .i64 1)),none⟩,
    ⟨(some 8),.mov (.t 47),none⟩])))))) <|
  .seq (.reg [⟨(some 65),.ld (.t 3) 2 true,none⟩,
    ⟨none,.st (.t 2) (.t 65) 2,none⟩]) <|
  .ret,
  [.cell 2 2 true]⟩
theorem w7:cFn PP true mV uU (cDr PP 66 xG)=some uv:=by kernel_rfl
def uT:Nat->Option (List Nat×List Nat)
  | 1000009=>some ([],[])|4=>some ([2,3],[5])|_=>none
def xF:Nat->Option (List Nat×List Nat×List Nat)
  | 6=>some ([0,1,0,7,15,0,32,0,224,480,1023,2047],[],[])|_=>none
def uq:av:=⟨40,
  .seq (.reg [⟨(some 2),.box (.t 0),none⟩,
    ⟨(some 3),.box (.t 1),none⟩,
    ⟨(some 4),.mov (.c (.bool false)),none⟩]) <|
  .seq (.seq (.reg [⟨(some 6),.fadd (.t 2) 0,none⟩,
    ⟨(some 7),.ld (.t 6) 1 false,none⟩,
    ⟨(some 8),.fadd (.t 3) 0,none⟩,
    ⟨(some 9),.ld (.t 8) 1 false,none⟩,
    ⟨(some 10),.call ix [(.t 7),(.t 9)],none⟩,
    ⟨(some 11),.un .not (.t 10),none⟩,
    ⟨(some 12),.mov (.t 11),none⟩,
    ⟨(some 13),.fadd (.t 2) 1,some (12,false)⟩,
    ⟨(some 14),.ld (.t 13) 1 false,some (12,false)⟩,
    ⟨(some 15),.len (.t 14),some (12,false)⟩,
    ⟨(some 16),.fadd (.t 3) 1,some (12,false)⟩,
    ⟨(some 17),.ld (.t 16) 1 false,some (12,false)⟩,
    ⟨(some 18),.len (.t 17),some (12,false)⟩,
    ⟨(some 19),.bin .neq (.t 15) (.t 18),some (12,false)⟩,
    ⟨(some 20),.pick (.t 12) (.c (.bool true)) (.t 19),none⟩]) <|
  .cond (.t 20) (.seq (.reg [⟨(some 4),.mov (.c (.bool false)),none⟩]) <|
  .ret) (.skip)) <|
  .seqj [] [] (.seq (.reg [⟨(some 5),.mov (.c (.int .i64 0)),none⟩]) <|
  .block 0 (.loop [2,3] [5] (.seq (.seq (.reg [⟨(some 21),.mov (.t 5),none⟩,
    ⟨(some 22),.fadd (.t 2) 1,none⟩,
    ⟨(some 23),.ld (.t 22) 1 false,none⟩,
    ⟨(some 24),.len (.t 23),none⟩,
    ⟨(some 25),.bin .lss (.t 21) (.t 24),none⟩]) <|
  .cond (.t 25) (.skip) (.exit 0)) <|
  .seq (.block 1 (.seq (.dreg [⟨(some 28),.fadd (.t 2) 1,none⟩,
    ⟨(some 29),.ld (.t 28) 1 false,none⟩,
    ⟨(some 30),.mov (.t 5),none⟩,
    ⟨(some 31),.iadd (.t 29) (.t 30) 1,none⟩,
    ⟨(some 32),.ld (.t 31) 1 false,none⟩,
    ⟨(some 33),.fadd (.t 3) 1,none⟩,
    ⟨(some 34),.ld (.t 33) 1 false,none⟩,
    ⟨(some 35),.mov (.t 5),none⟩,
    ⟨(some 36),.iadd (.t 34) (.t 35) 1,none⟩,
    ⟨(some 37),.ld (.t 36) 1 false,none⟩,
    ⟨(some 38),.call ix [(.t 32),(.t 37)],none⟩,
    ⟨(some 39),.un .not (.t 38),none⟩] [] []) <|
  .cond (.t 39) (.seq (.reg [⟨(some 4),.mov (.c (.bool false)),none⟩]) <|
  .ret) (.skip))) <|
  .reg [⟨(some 26),.mov (.t 5),none⟩,
    ⟨(some 27),.bin .add (.t 26) (.c (.int .i64 1)),none⟩,
    ⟨(some 5),.mov (.t 27),none⟩]))) <|
  .seq (.reg [⟨(some 4),.mov (.c (.bool true)),none⟩]) <|
  .ret,
  [.t 4]⟩
theorem w5:cFn PP true mU uT (cDr PP 40 xF)=some uq:=by kernel_rfl
def tM:Nat->Option (List Nat×List Nat)
  | 1000024=>some ([],[])|4=>some ([2,3,29,30],[31])|1000023=>some ([2,3,29,30,31],[])|9=>some ([2,3,6,29,30,31,45,46],[47])|1000022=>some ([2,3,6,29,30,31,45,46,47],[])|1000015=>some ([2,3,6,8,29,30,31,45,46,47],[9])|15=>some ([2,3,6,9,29,30,31,45,46,47,68,69],[70])|_=>none
def wH:Nat->Option (List Nat×List Nat×List Nat)
  | 6=>some ([0,0,0,4,0,28,60,127,255],[],[])|_=>none
def iK:av:=⟨85,
  .seq (.reg [⟨(some 2),.box (.t 0),none⟩,
    ⟨(some 3),.box (.t 1),none⟩,
    ⟨(some 4),.mov (.c (.int .i64 0)),none⟩]) <|
  .seq (.seq (.reg [⟨(some 14),.ld (.t 2) 8 true,none⟩,
    ⟨(some 15),.fadd (.t 3) 0,none⟩,
    ⟨(some 16),.ld (.t 15) 1 false,none⟩,
    ⟨(some 17),.call dn [(.t 14),(.t 16),(.c (.int .i64 0))],none⟩,
    ⟨(some 18),.un .not (.t 17),none⟩,
    ⟨(some 19),.mov (.t 18),none⟩,
    ⟨(some 20),.fadd (.t 3) 1,some (19,false)⟩,
    ⟨(some 21),.ld (.t 20) 1 false,some (19,false)⟩,
    ⟨(some 22),.len (.t 21),some (19,false)⟩,
    ⟨(some 23),.fadd (.t 3) 0,some (19,false)⟩,
    ⟨(some 24),.ld (.t 23) 1 false,some (19,false)⟩,
    ⟨(some 25),.len (.t 24),some (19,false)⟩,
    ⟨(some 26),.bin .neq (.t 22) (.t 25),some (19,false)⟩,
    ⟨(some 27),.pick (.t 19) (.c (.bool true)) (.t 26),none⟩]) <|
  .cond (.t 27) (.seq (.reg [⟨(some 4),.mov (.c (.int .i64 100)),none⟩]) <|
  .ret) (.skip)) <|
  .seqj [] [] (.seq (.reg [⟨(some 28),.fadd (.t 3) 1,none⟩,
    ⟨(some 29),.ld (.t 28) 1 false,none⟩,
    ⟨(some 30),.len (.t 29),none⟩,
    ⟨(some 31),.mov (.c (.int .i64 0)),none⟩]) <|
  .block 0 (.loop [2,3,29,30] [31] (.seq (.reg [⟨(some 32),.bin .lss (.t 31) (.t 30),none⟩]) <|
  .seq (.cond (.t 32) (.skip) (.exit 0)) <|
  .seqj [2,3,29,30,31] [] (.block 1 (.seq (.reg [⟨(some 33),.mov (.t 31),none⟩,
    ⟨(some 34),.iadd (.t 29) (.t 31) 1,none⟩,
    ⟨(some 35),.ld (.t 34) 1 false,none⟩,
    ⟨(some 5),.mov (.t 33),none⟩,
    ⟨(some 6),.mov (.t 35),none⟩]) <|
  .seq (.seq (.dreg [⟨(some 36),.ld (.t 2) 8 true,none⟩,
    ⟨(some 37),.mov (.t 6),none⟩,
    ⟨(some 38),.fadd (.t 3) 0,none⟩,
    ⟨(some 39),.ld (.t 38) 1 false,none⟩,
    ⟨(some 40),.mov (.t 5),none⟩,
    ⟨(some 41),.iadd (.t 39) (.t 40) 1,none⟩,
    ⟨(some 42),.ld (.t 41) 1 false,none⟩,
    ⟨(some 43),.call dn [(.t 36),(.t 37),(.t 42)],none⟩,
    ⟨(some 44),.un .not (.t 43),none⟩] [] []) <|
  .cond (.t 44) (.seq (.reg [⟨(some 4),.mov (.c (.int .i64 100)),none⟩]) <|
  .ret) (.skip)) <|
  .seq (.reg [⟨(some 45),.mov (.t 6),none⟩,
    ⟨(some 46),.len (.t 45),none⟩,
    ⟨(some 47),.mov (.c (.int .i64 0)),none⟩]) <|
  .block 2 (.loop [2,3,6,29,30,31,45,46] [47] (.seq (.reg [⟨(some 48),.bin .lss (.t 47) (.t 46),none⟩]) <|
  .seq (.cond (.t 48) (.skip) (.exit 2)) <|
  .seqj [2,3,6,29,30,31,45,46,47] [] (.block 3 (.seq (.reg [⟨(some 49),.iadd (.t 45) (.t 47) 1,none⟩,
    ⟨(some 50),.ld (.t 49) 1 false,none⟩,
    ⟨(some 8),.mov (.t 50),none⟩]) <|
  .seq (.reg [⟨(some 51),.mov (.t 6),none⟩,
    ⟨(some 9),.mov (.t 51),none⟩]) <|
  .seqj [2,3,6,8,29,30,31,45,46,47] [9] (.seq (.reg [⟨(some 52),.fadd (.t 2) 7,none⟩,
    ⟨(some 53),.ld (.t 52) 1 false,none⟩,
    ⟨(some 54),.mov (.t 8),none⟩,
    ⟨(some 55),.iadd (.t 53) (.t 54) 14,none⟩,
    ⟨(some 56),.fadd (.t 55) 1,none⟩,
    ⟨(some 57),.fadd (.t 56) 0,none⟩,
    ⟨(some 58),.ld (.t 57) 1 false,none⟩,
    ⟨(some 59),.bin .eql (.t 58) (.c (.int .i64 3)),none⟩]) <|
  .cond (.t 59) (.reg [⟨(some 60),.fadd (.t 3) 0,none⟩,
    ⟨(some 61),.ld (.t 60) 1 false,none⟩,
    ⟨(some 9),.mov (.t 61),none⟩]) (.skip)) <|
  .seq (.reg [⟨(some 62),.fadd (.t 2) 7,none⟩,
    ⟨(some 63),.ld (.t 62) 1 false,none⟩,
    ⟨(some 64),.mov (.t 8),none⟩,
    ⟨(some 65),.iadd (.t 63) (.t 64) 14,none⟩,
    ⟨(some 66),.fadd (.t 65) 1,none⟩,
    ⟨(some 67),.ld (.t 66) 13 true,none⟩,
    ⟨(some 68),.call dH [(.t 67)],none⟩,
    ⟨(some 69),.len (.t 68),none⟩,
    ⟨(some 70),.mov (.c (.int .i64 0)),none⟩]) <|
  .block 4 (.loop [2,3,6,9,29,30,31,45,46,47,68,69] [70] (.seq (.reg [⟨(some 71),.bin .lss (.t 70) (.t 69),none⟩]) <|
  .seq (.cond (.t 71) (.skip) (.exit 4)) <|
  .seq (.block 5 (.seq (.reg [⟨(some 72),.iadd (.t 68) (.t 70) 1,none⟩,
    ⟨(some 73),.ld (.t 72) 1 false,none⟩,
    ⟨(some 11),.mov (.t 73),none⟩]) <|
  .seq (.reg [⟨(some 75),.mov (.t 9),none⟩,
    ⟨(some 76),.mov (.t 11),none⟩,
    ⟨(some 77),.call bj [(.t 75),(.t 76)],none⟩,
    ⟨(some 74),.mov (.t 77),none⟩,
    ⟨(some 78),.ext (.t 74) 0,none⟩,
    ⟨(some 79),.ext (.t 74) 1,none⟩,
    ⟨(some 12),.mov (.t 78),none⟩,
    ⟨(some 13),.mov (.t 79),none⟩]) <|
  .seq (.reg [⟨(some 80),.mov (.t 13),none⟩,
    ⟨(some 81),.un .not (.t 80),none⟩]) <|
  .cond (.t 81) (.seq (.reg [⟨(some 4),.mov (.c (.int .i64 100)),none⟩]) <|
  .ret) (.skip))) <|
  .reg [⟨(some 82),.bin .add (.t 70) (.c (.int .i64 1)),none⟩,
    ⟨(some 70),.mov (.t 82),none⟩])))) <|
  .reg [⟨(some 83),.bin .add (.t 47) (.c (.int .i64 1)),none⟩,
    ⟨(some 47),.mov (.t 83),none⟩])))) <|
  .reg [⟨(some 84),.bin .add (.t 31) (.c (.int .i64 1)),none⟩,
    ⟨(some 31),.mov (.t 84),none⟩]))) <|
  .seq (.reg [⟨(some 4),.mov (.c (.int .i64 0)),none⟩]) <|
  .ret,
  [.t 4]⟩
theorem mH:cFn PP true bf tM (cDr PP 85 wH)=some iK:=by kernel_rfl
def mz (h106:Heap) (a107:D) (a105:D) (f93:Nat->D) (a3:D) (a5:D) (a69:D) (a55:D) (a57:D) (f60:Nat->D) (a78:D) (f81:Nat->D) (J84:List D->Heap->Prop) (K:D->Heap->Prop):Prop :=
  ∃(I108:Nat->List D->Heap->Prop) (n₀:Nat),I108 n₀ [(.int .i64 0)] h106/\∀(n109:Nat) (f110:Nat->D) (h111:Heap),I108 n109 [f110 70] h111 ->
  vbin .lss (f110 70) a107 fun a112 =>
  vcond a112 (aa PP (.iadd (.c a105) (.c (f110 70)) 1) h111 fun a113 h114 =>
  aa PP (.ld (.c a113) 1 false) h114 fun a115 h116 =>
  af PP bj [(f93 9),a115] h116 fun a117 h118 =>
  aa PP (.ext (.c a117) 0) h118 fun a119 h120 =>
  aa PP (.ext (.c a117) 1) h120 fun a121 h122 =>
  vun .not a121 fun a123 =>
  vcond a123 (K (.int .i64 100) h122) (
  vbin .add (f110 70) (.int .i64 1) fun a124 =>
  aX [a3,a5,a69,(f93 9),a55,a57,(f60 31),a69,a78,(f81 47),a105,a107] [a3,a5,a69,(f93 9),a55,a57,(f60 31),a69,a78,(f81 47),a105,a107]/\∃m,m<n109/\I108 m [a124] h122)) (
  aX [a3,a5,a69,a55,a57,(f60 31),a69,a78,(f81 47)] [a3,a5,a69,a55,a57,(f60 31),a69,a78,(f81 47)]/\J84 [] h111)
def my (h70:Heap) (a78:D) (a3:D) (a5:D) (a69:D) (a55:D) (a57:D) (f60:Nat->D) (J63:List D->Heap->Prop) (K:D->Heap->Prop):Prop :=
  ∃(I79:Nat->List D->Heap->Prop) (n₀:Nat),I79 n₀ [(.int .i64 0)] h70/\∀(n80:Nat) (f81:Nat->D) (h82:Heap),I79 n80 [f81 47] h82 ->
  vbin .lss (f81 47) a78 fun a83 =>
  vcond a83 (∃(J84:List D->Heap->Prop),(∀(f85:Nat->D) (h86:Heap),J84 [] h86 ->
  vbin .add (f81 47) (.int .i64 1) fun a87 =>
  aX [a3,a5,a69,a55,a57,(f60 31),a69,a78] [a3,a5,a69,a55,a57,(f60 31),a69,a78]/\∃m,m<n80/\I79 m [a87] h86) /\
  aa PP (.iadd (.c a69) (.c (f81 47)) 1) h82 fun a88 h89 =>
  aa PP (.ld (.c a88) 1 false) h89 fun a90 h91 =>
  ∃(J92:List D->Heap->Prop),(∀(f93:Nat->D) (h94:Heap),J92 [f93 9] h94 ->
  aa PP (.fadd (.c a3) 7) h94 fun a95 h96 =>
  aa PP (.ld (.c a95) 1 false) h96 fun a97 h98 =>
  aa PP (.iadd (.c a97) (.c a90) 14) h98 fun a99 h100 =>
  aa PP (.fadd (.c a99) 1) h100 fun a101 h102 =>
  aa PP (.ld (.c a101) 13 true) h102 fun a103 h104 =>
  af PP dH [a103] h104 fun a105 h106 =>
  bQ a105 h106 fun a107 =>
  mz h106 a107 a105 f93 a3 a5 a69 a55 a57 f60 a78 f81 J84 K) /\
  aa PP (.fadd (.c a3) 7) h91 fun a125 h126 =>
  aa PP (.ld (.c a125) 1 false) h126 fun a127 h128 =>
  aa PP (.iadd (.c a127) (.c a90) 14) h128 fun a129 h130 =>
  aa PP (.fadd (.c a129) 1) h130 fun a131 h132 =>
  aa PP (.fadd (.c a131) 0) h132 fun a133 h134 =>
  aa PP (.ld (.c a133) 1 false) h134 fun a135 h136 =>
  vbin .eql a135 (.int .i64 3) fun a137 =>
  vcond a137 (aa PP (.fadd (.c a5) 0) h136 fun a138 h139 =>
  aa PP (.ld (.c a138) 1 false) h139 fun a140 h141 =>
  aX [a3,a5,a69,a90,a55,a57,(f60 31),a69,a78,(f81 47)] [a3,a5,a69,a90,a55,a57,(f60 31),a69,a78,(f81 47)]/\J92 [a140] h141) (
  aX [a3,a5,a69,a90,a55,a57,(f60 31),a69,a78,(f81 47)] [a3,a5,a69,a90,a55,a57,(f60 31),a69,a78,(f81 47)]/\J92 [a69] h136)) (
  aX [a3,a5,a55,a57,(f60 31)] [a3,a5,a55,a57,(f60 31)]/\J63 [] h82)
def mw (h56:Heap) (a57:D) (a3:D) (a5:D) (a55:D) (J50:List D->Heap->Prop) (K:D->Heap->Prop):Prop :=
  ∃(I58:Nat->List D->Heap->Prop) (n₀:Nat),I58 n₀ [(.int .i64 0)] h56/\∀(n59:Nat) (f60:Nat->D) (h61:Heap),I58 n59 [f60 31] h61 ->
  vbin .lss (f60 31) a57 fun a62 =>
  vcond a62 (∃(J63:List D->Heap->Prop),(∀(f64:Nat->D) (h65:Heap),J63 [] h65 ->
  vbin .add (f60 31) (.int .i64 1) fun a66 =>
  aX [a3,a5,a55,a57] [a3,a5,a55,a57]/\∃m,m<n59/\I58 m [a66] h65) /\
  aa PP (.iadd (.c a55) (.c (f60 31)) 1) h61 fun a67 h68 =>
  aa PP (.ld (.c a67) 1 false) h68 fun a69 h70 =>
  ae PP (.ld (.c a3) 8 true) h70 fun a71 =>
  ae PP (.fadd (.c a5) 0) h70 fun a72 =>
  ae PP (.ld (.c a72) 1 false) h70 fun a73 =>
  ae PP (.iadd (.c a73) (.c (f60 31)) 1) h70 fun a74 =>
  ae PP (.ld (.c a74) 1 false) h70 fun a75 =>
  ae PP (.call dn [(.c a71),(.c a69),(.c a75)]) h70 fun a76 =>
  vun .not a76 fun a77 =>
  vcond a77 (K (.int .i64 100) h70) (
  bQ a69 h70 fun a78 =>
  my h70 a78 a3 a5 a69 a55 a57 f60 J63 K)) (
  aX [] []/\J50 [] h61)
def rE (a0:D) (a1:D) (h0:Heap) (K:D->Heap->Prop):Prop :=
  aa PP (.box (.c a0)) h0 fun a3 h4 =>
  aa PP (.box (.c a1)) h4 fun a5 h6 =>
  aa PP (.ld (.c a3) 8 true) h6 fun a7 h8 =>
  aa PP (.fadd (.c a5) 0) h8 fun a9 h10 =>
  aa PP (.ld (.c a9) 1 false) h10 fun a11 h12 =>
  af PP dn [a7,a11,(.int .i64 0)] h12 fun a13 h14 =>
  vun .not a13 fun a15 =>
  vguard a15 false (fun G16 =>
  aa PP (.fadd (.c a5) 1) h14 fun a19 h20 =>
  G16 a19 h20) h14 fun a17 h18 =>
  vguard a15 false (fun G21 =>
  aa PP (.ld (.c a17) 1 false) h18 fun a24 h25 =>
  G21 a24 h25) h18 fun a22 h23 =>
  vguard a15 false (fun G26 =>
  bQ a22 h23 fun a29 =>
  G26 a29 h23) h23 fun a27 h28 =>
  vguard a15 false (fun G30 =>
  aa PP (.fadd (.c a5) 0) h28 fun a33 h34 =>
  G30 a33 h34) h28 fun a31 h32 =>
  vguard a15 false (fun G35 =>
  aa PP (.ld (.c a31) 1 false) h32 fun a38 h39 =>
  G35 a38 h39) h32 fun a36 h37 =>
  vguard a15 false (fun G40 =>
  bQ a36 h37 fun a43 =>
  G40 a43 h37) h37 fun a41 h42 =>
  vguard a15 false (fun G44 =>
  vbin .neq a27 a41 fun a47 =>
  G44 a47 h42) h42 fun a45 h46 =>
  aa PP (.pick (.c a15) (.c (.bool true)) (.c a45)) h46 fun a48 h49 =>
  vcond a48 (K (.int .i64 100) h49) (
  ∃(J50:List D->Heap->Prop),(∀(f51:Nat->D) (h52:Heap),J50 [] h52 ->
  K (.int .i64 0) h52) /\
  aa PP (.fadd (.c a5) 1) h49 fun a53 h54 =>
  aa PP (.ld (.c a53) 1 false) h54 fun a55 h56 =>
  bQ a55 h56 fun a57 =>
  mw h56 a57 a3 a5 a55 J50 K)
theorem vk (a0:D) (a1:D) (h0:Heap) (K:D->Heap->Prop):rE a0 a1 h0 K=vcC PP iK.code (fun x e h'=>match x with|.exit _=>False|.pan=>False|.jump _=>False|_=>bN PP iK.res K e h') (params [a0,a1] 0) h0:=by kernel_rfl
def tL:Nat->Option (List Nat×List Nat)
  | 1000012=>some ([],[])|5=>some ([2,3,16,17],[18])|_=>none
def wG:Nat->Option (List Nat×List Nat×List Nat)
  | _=>none
def rO:av:=⟨45,
  .seq (.reg [⟨(some 2),.box (.t 0),none⟩,
    ⟨(some 3),.box (.t 1),none⟩,
    ⟨(some 4),.mov (.c (.int .i64 0)),none⟩]) <|
  .seq (.seq (.reg [⟨(some 9),.ld (.t 2) 8 true,none⟩,
    ⟨(some 10),.ld (.t 3) 2 true,none⟩,
    ⟨(some 11),.call nN [(.t 9),(.t 10)],none⟩,
    ⟨(some 5),.mov (.t 11),none⟩]) <|
  .seq (.reg [⟨(some 12),.mov (.t 5),none⟩,
    ⟨(some 13),.bin .neq (.t 12) (.c (.int .i64 0)),none⟩]) <|
  .cond (.t 13) (.seq (.reg [⟨(some 14),.mov (.t 5),none⟩,
    ⟨(some 4),.mov (.t 14),none⟩]) <|
  .ret) (.skip)) <|
  .seqj [] [] (.seq (.reg [⟨(some 15),.ld (.t 2) 8 true,none⟩,
    ⟨(some 16),.call mW [(.t 15)],none⟩,
    ⟨(some 17),.len (.t 16),none⟩,
    ⟨(some 18),.mov (.c (.int .i64 0)),none⟩]) <|
  .block 0 (.loop [2,3,16,17] [18] (.seq (.reg [⟨(some 19),.bin .lss (.t 18) (.t 17),none⟩]) <|
  .seq (.cond (.t 19) (.skip) (.exit 0)) <|
  .seq (.block 1 (.seq (.reg [⟨(some 20),.mov (.t 18),none⟩,
    ⟨(some 21),.iadd (.t 16) (.t 18) 1,none⟩,
    ⟨(some 22),.ld (.t 21) 1 false,none⟩,
    ⟨(some 6),.mov (.t 20),none⟩,
    ⟨(some 7),.mov (.t 22),none⟩]) <|
  .seq (.reg [⟨(some 23),.bldS true 1 2 (.int .i64 0) [(0,(.c (.int .i64 3))),(1,(.c (.int .i64 4)))],none⟩,
    ⟨(some 24),.fadd (.t 2) 7,none⟩,
    ⟨(some 25),.ld (.t 24) 1 false,none⟩,
    ⟨(some 26),.mov (.t 6),none⟩,
    ⟨(some 27),.iadd (.t 25) (.t 26) 14,none⟩,
    ⟨(some 28),.fadd (.t 27) 1,none⟩,
    ⟨(some 29),.fadd (.t 28) 0,none⟩,
    ⟨(some 30),.ld (.t 29) 1 false,none⟩,
    ⟨(some 31),.call aN [(.t 23),(.t 30)],none⟩,
    ⟨(some 8),.mov (.t 31),none⟩]) <|
  .seq (.reg [⟨(some 32),.mov (.t 7),none⟩,
    ⟨(some 33),.mov (.t 32),none⟩,
    ⟨(some 34),.mov (.t 8),some (33,true)⟩,
    ⟨(some 35),.pick (.t 33) (.t 34) (.c (.bool false)),none⟩,
    ⟨(some 36),.mov (.t 35),none⟩,
    ⟨(some 37),.fadd (.t 3) 0,some (36,true)⟩,
    ⟨(some 38),.ld (.t 37) 1 false,some (36,true)⟩,
    ⟨(some 39),.mov (.t 6),some (36,true)⟩,
    ⟨(some 40),.iadd (.t 38) (.t 39) 1,some (36,true)⟩,
    ⟨(some 41),.ld (.t 40) 1 false,some (36,true)⟩,
    ⟨(some 42),.un .not (.t 41),some (36,true)⟩,
    ⟨(some 43),.pick (.t 36) (.t 42) (.c (.bool false)),none⟩]) <|
  .cond (.t 43) (.seq (.reg [⟨(some 4),.mov (.c (.int .i64 90)),none⟩]) <|
  .ret) (.skip))) <|
  .reg [⟨(some 44),.bin .add (.t 18) (.c (.int .i64 1)),none⟩,
    ⟨(some 18),.mov (.t 44),none⟩]))) <|
  .seq (.reg [⟨(some 4),.mov (.c (.int .i64 0)),none⟩]) <|
  .ret,
  [.t 4]⟩
theorem vD:cFn PP true iI tL (cDr PP 45 wG)=some rO:=by kernel_rfl
def wL:Nat->Option (List Nat×List Nat)
  | 1000007=>some ([1,4,5],[])|3=>some ([1,4,5],[6])|1000011=>some ([4,5],[])|7=>some ([1,4,5],[7])|_=>none
def yU:Nat->Option (List Nat×List Nat×List Nat)
  | 1=>some ([0,1,3,7,0,16,48,127,0,511],[3,6,8,9],[999996,0,1,2])|_=>none
def wo:av:=⟨41,
  .seq (.reg [⟨(some 2),.box (.t 0),none⟩,
    ⟨(some 4),.alloc (.agg [.nil,.nil]),none⟩]) <|
  .seq (.seq (.dreg [⟨(some 11),.mov (.c .undef),none⟩,
    ⟨(some 14),.mov (.c .undef),none⟩,
    ⟨(some 5),.mov (.c .undef),none⟩] [] []) <|
  .seq (.dreg [⟨(some 8),.fadd (.t 2) 7,none⟩,
    ⟨(some 9),.ld (.t 8) 1 false,none⟩,
    ⟨(some 10),.len (.t 9),none⟩,
    ⟨(some 12),.fadd (.t 2) 2,none⟩,
    ⟨(some 13),.ld (.t 12) 1 false,none⟩] [] []) <|
  .seq (.dreg [] [⟨none,.mkc 1 (.t 10) (.t 10),none⟩] []) <|
  .seq (.dreg [] [⟨none,.mkc 1 (.t 13) (.t 13),none⟩] []) <|
  .seq (.dreg [] [⟨(some 11),.mk 1 1 (.bool false) (.t 10) (.t 10),none⟩] [⟨(some 12),.fadd (.t 2) 2,none⟩,
    ⟨(some 13),.ld (.t 12) 1 false,none⟩]) <|
  .seq (.dreg [] [⟨(some 14),.mk 1 1 (.bool false) (.t 13) (.t 13),none⟩] [⟨(some 8),.fadd (.t 2) 7,none⟩,
    ⟨(some 9),.ld (.t 8) 1 false,none⟩,
    ⟨(some 10),.len (.t 9),none⟩]) <|
  .seq (.dreg [⟨(some 15),.bld [.nil,.nil] [(0,1,(.t 11)),(1,1,(.t 14))],none⟩] [⟨(some 5),.alloc (.agg [.nil,.nil]),none⟩] [⟨(some 8),.fadd (.t 2) 7,none⟩,
    ⟨(some 9),.ld (.t 8) 1 false,none⟩,
    ⟨(some 10),.len (.t 9),none⟩,
    ⟨(some 12),.fadd (.t 2) 2,none⟩,
    ⟨(some 13),.ld (.t 12) 1 false,none⟩]) <|
  .seq (.dreg [] [⟨none,.st (.t 5) (.t 15) 2,none⟩] []) <|
  .dreg [] [] []) <|
  .seqj [1,4,5] [] (.seq (.reg [⟨(some 6),.mov (.c (.int .i64 0)),none⟩]) <|
  .block 0 (.loop [1,4,5] [6] (.seq (.seq (.reg [⟨(some 16),.mov (.t 6),none⟩,
    ⟨(some 17),.fadd (.t 5) 0,none⟩,
    ⟨(some 18),.ld (.t 17) 1 false,none⟩,
    ⟨(some 19),.len (.t 18),none⟩,
    ⟨(some 20),.bin .lss (.t 16) (.t 19),none⟩]) <|
  .cond (.t 20) (.skip) (.exit 0)) <|
  .seq (.block 1 (.reg [⟨(some 23),.fadd (.t 5) 0,none⟩,
    ⟨(some 24),.ld (.t 23) 1 false,none⟩,
    ⟨(some 25),.mov (.t 6),none⟩,
    ⟨(some 26),.mov (.t 1),none⟩,
    ⟨(some 27),.iadd (.t 24) (.t 25) 1,none⟩,
    ⟨none,.st (.t 27) (.t 26) 1,none⟩])) <|
  .reg [⟨(some 21),.mov (.t 6),none⟩,
    ⟨(some 22),.bin .add (.t 21) (.c (.int .i64 1)),none⟩,
    ⟨(some 6),.mov (.t 22),none⟩]))) <|
  .seqj [4,5] [] (.seq (.reg [⟨(some 7),.mov (.c (.int .i64 0)),none⟩]) <|
  .block 2 (.loop [1,4,5] [7] (.seq (.seq (.reg [⟨(some 28),.mov (.t 7),none⟩,
    ⟨(some 29),.fadd (.t 5) 1,none⟩,
    ⟨(some 30),.ld (.t 29) 1 false,none⟩,
    ⟨(some 31),.len (.t 30),none⟩,
    ⟨(some 32),.bin .lss (.t 28) (.t 31),none⟩]) <|
  .cond (.t 32) (.skip) (.exit 2)) <|
  .seq (.block 3 (.reg [⟨(some 35),.fadd (.t 5) 1,none⟩,
    ⟨(some 36),.ld (.t 35) 1 false,none⟩,
    ⟨(some 37),.mov (.t 7),none⟩,
    ⟨(some 38),.mov (.t 1),none⟩,
    ⟨(some 39),.iadd (.t 36) (.t 37) 1,none⟩,
    ⟨none,.st (.t 39) (.t 38) 1,none⟩])) <|
  .reg [⟨(some 33),.mov (.t 7),none⟩,
    ⟨(some 34),.bin .add (.t 33) (.c (.int .i64 1)),none⟩,
    ⟨(some 7),.mov (.t 34),none⟩]))) <|
  .seq (.reg [⟨(some 40),.ld (.t 5) 2 true,none⟩,
    ⟨none,.st (.t 4) (.t 40) 2,none⟩]) <|
  .ret,
  [.cell 4 2 true]⟩
theorem yM:cFn PP true vR wL (cDr PP 41 yU)=some wo:=by kernel_rfl
def pr:Nat->Option (List Nat×List Nat)
  | _=>none
def rY:Nat->Option (List Nat×List Nat×List Nat)
  | _=>none
def mG:av:=⟨11,
  .seq (.reg [⟨(some 3),.box (.t 0),none⟩,
    ⟨(some 4),.box (.t 1),none⟩,
    ⟨(some 5),.box (.t 2),none⟩,
    ⟨(some 6),.mov (.c (.bool false)),none⟩]) <|
  .seq (.reg [⟨(some 7),.fadd (.t 3) 1,none⟩,
    ⟨(some 8),.ld (.t 7) 1 false,none⟩,
    ⟨(some 9),.mkf jz [] [(.t 4),(.t 5)],none⟩,
    ⟨(some 10),.call cQ [(.t 8),(.t 9)],none⟩,
    ⟨(some 6),.mov (.t 10),none⟩]) <|
  .ret,
  [.t 6]⟩
theorem qN:cFn PP true iy pr (cDr PP 11 rY)=some mG:=by kernel_rfl
def uY:Nat->Option (List Nat×List Nat)
  | 1000015=>some ([3],[])|4=>some ([1,3],[4])|8=>some ([1,3,35,36],[4,37])|1000014=>some ([1,3,35,36,37],[4])|_=>none
def xK:Nat->Option (List Nat×List Nat×List Nat)
  | _=>none
def uC:av:=⟨55,
  .seq (.reg [⟨(some 1),.box (.t 0),none⟩,
    ⟨(some 2),.mov (.c .nil),none⟩]) <|
  .seq (.reg [⟨(some 8),.fadd (.t 1) 7,none⟩,
    ⟨(some 9),.ld (.t 8) 1 false,none⟩,
    ⟨(some 10),.len (.t 9),none⟩,
    ⟨(some 11),.mk 1 1 (.bool false) (.t 10) (.t 10),none⟩,
    ⟨(some 3),.mov (.t 11),none⟩]) <|
  .seq (.reg [⟨(some 12),.mov (.t 3),none⟩,
    ⟨(some 13),.iadd (.t 12) (.c (.int .i64 0)) 1,none⟩,
    ⟨none,.st (.t 13) (.c (.bool true)) 1,none⟩]) <|
  .seqj [3] [] (.seq (.reg [⟨(some 14),.bldS true 1 1 (.int .i64 0) [(0,(.c (.int .i64 0)))],none⟩,
    ⟨(some 4),.mov (.t 14),none⟩]) <|
  .block 0 (.loop [1,3] [4] (.seq (.seq (.reg [⟨(some 15),.mov (.t 4),none⟩,
    ⟨(some 16),.len (.t 15),none⟩,
    ⟨(some 17),.bin .gtr (.t 16) (.c (.int .i64 0)),none⟩]) <|
  .cond (.t 17) (.skip) (.exit 0)) <|
  .block 1 (.seq (.reg [⟨(some 18),.mov (.t 4),none⟩,
    ⟨(some 19),.mov (.t 4),none⟩,
    ⟨(some 20),.len (.t 19),none⟩,
    ⟨(some 21),.bin .sub (.t 20) (.c (.int .i64 1)),none⟩,
    ⟨(some 22),.iadd (.t 18) (.t 21) 1,none⟩,
    ⟨(some 23),.ld (.t 22) 1 false,none⟩,
    ⟨(some 5),.mov (.t 23),none⟩]) <|
  .seq (.reg [⟨(some 24),.mov (.t 4),none⟩,
    ⟨(some 25),.mov (.t 4),none⟩,
    ⟨(some 26),.len (.t 25),none⟩,
    ⟨(some 27),.bin .sub (.t 26) (.c (.int .i64 1)),none⟩,
    ⟨(some 28),.kN (.t 24) none (some (.t 27)) none 1,none⟩,
    ⟨(some 4),.mov (.t 28),none⟩]) <|
  .seq (.reg [⟨(some 29),.fadd (.t 1) 7,none⟩,
    ⟨(some 30),.ld (.t 29) 1 false,none⟩,
    ⟨(some 31),.mov (.t 5),none⟩,
    ⟨(some 32),.iadd (.t 30) (.t 31) 14,none⟩,
    ⟨(some 33),.fadd (.t 32) 1,none⟩,
    ⟨(some 34),.ld (.t 33) 13 true,none⟩,
    ⟨(some 35),.call dH [(.t 34)],none⟩,
    ⟨(some 36),.len (.t 35),none⟩,
    ⟨(some 37),.mov (.c (.int .i64 0)),none⟩]) <|
  .block 2 (.loop [1,3,35,36] [4,37] (.seq (.reg [⟨(some 38),.bin .lss (.t 37) (.t 36),none⟩]) <|
  .seq (.cond (.t 38) (.skip) (.exit 2)) <|
  .seqj [1,3,35,36,37] [4] (.block 3 (.seq (.reg [⟨(some 39),.iadd (.t 35) (.t 37) 1,none⟩,
    ⟨(some 40),.ld (.t 39) 1 false,none⟩,
    ⟨(some 7),.mov (.t 40),none⟩]) <|
  .seq (.reg [⟨(some 41),.mov (.t 3),none⟩,
    ⟨(some 42),.mov (.t 7),none⟩,
    ⟨(some 43),.iadd (.t 41) (.t 42) 1,none⟩,
    ⟨(some 44),.ld (.t 43) 1 false,none⟩,
    ⟨(some 45),.un .not (.t 44),none⟩]) <|
  .cond (.t 45) (.seq (.reg [⟨(some 46),.mov (.t 3),none⟩,
    ⟨(some 47),.mov (.t 7),none⟩,
    ⟨(some 48),.iadd (.t 46) (.t 47) 1,none⟩,
    ⟨none,.st (.t 48) (.c (.bool true)) 1,none⟩]) <|
  .reg [⟨(some 49),.mov (.t 4),none⟩,
    ⟨(some 50),.mov (.t 7),none⟩,
    ⟨(some 51),.bldS true 1 1 (.int .i64 0) [(0,(.t 50))],none⟩,
    ⟨(some 52),.app (.t 49) (.t 51) 1 8 (.int .i64 0),none⟩,
    ⟨(some 4),.mov (.t 52),none⟩]) (.skip))) <|
  .reg [⟨(some 53),.bin .add (.t 37) (.c (.int .i64 1)),none⟩,
    ⟨(some 37),.mov (.t 53),none⟩])))))) <|
  .seq (.reg [⟨(some 54),.mov (.t 3),none⟩,
    ⟨(some 2),.mov (.t 54),none⟩]) <|
  .ret,
  [.t 2]⟩
theorem xi:cFn PP true mW uY (cDr PP 55 xK)=some uC:=by kernel_rfl
def wQ:Nat->Option (List Nat×List Nat)
  | _=>none
def yZ:Nat->Option (List Nat×List Nat×List Nat)
  | _=>none
def lF:av:=⟨26,
  .seq (.reg [⟨(some 1),.box (.t 0),none⟩,
    ⟨(some 2),.mov (.c .nil),none⟩]) <|
  .seq (.block 0 (.seq (.reg [⟨(some 4),.fadd (.t 1) 0,none⟩,
    ⟨(some 5),.ld (.t 4) 1 false,none⟩,
    ⟨(some 6),.bin .eql (.t 5) (.c (.int .i64 5)),none⟩,
    ⟨(some 3),.mov (.t 6),none⟩]) <|
  .cond (.t 3) (.seq (.reg [⟨(some 2),.mov (.c .nil),none⟩]) <|
  .ret) (.seq (.reg [⟨(some 8),.fadd (.t 1) 0,none⟩,
    ⟨(some 9),.ld (.t 8) 1 false,none⟩,
    ⟨(some 10),.bin .eql (.t 9) (.c (.int .i64 2)),none⟩,
    ⟨(some 11),.mov (.t 10),none⟩,
    ⟨(some 12),.fadd (.t 1) 11,some (11,true)⟩,
    ⟨(some 13),.iadda (.t 12) (.c (.int .i64 0)) 2 1,some (11,true)⟩,
    ⟨(some 14),.ld (.t 13) 1 false,some (11,true)⟩,
    ⟨(some 15),.fadd (.t 1) 11,some (11,true)⟩,
    ⟨(some 16),.iadda (.t 15) (.c (.int .i64 1)) 2 1,some (11,true)⟩,
    ⟨(some 17),.ld (.t 16) 1 false,some (11,true)⟩,
    ⟨(some 18),.bin .neq (.t 14) (.t 17),some (11,true)⟩,
    ⟨(some 19),.pick (.t 11) (.t 18) (.c (.bool false)),none⟩,
    ⟨(some 7),.mov (.t 19),none⟩]) <|
  .cond (.t 7) (.seq (.reg [⟨(some 20),.fadd (.t 1) 11,none⟩,
    ⟨(some 21),.Cu (.t 20) 2,none⟩,
    ⟨(some 2),.mov (.t 21),none⟩]) <|
  .ret) (.skip)))) <|
  .seq (.reg [⟨(some 22),.fadd (.t 1) 11,none⟩,
    ⟨(some 23),.iadda (.t 22) (.c (.int .i64 0)) 2 1,none⟩,
    ⟨(some 24),.ld (.t 23) 1 false,none⟩,
    ⟨(some 25),.bldS true 1 1 (.int .i64 0) [(0,(.t 24))],none⟩,
    ⟨(some 2),.mov (.t 25),none⟩]) <|
  .ret,
  [.t 2]⟩
theorem p8:cFn PP true dH wQ (cDr PP 26 yZ)=some lF:=by kernel_rfl
def wh (a0:D) (h0:Heap) (K:D->Heap->Prop):Prop :=
  aa PP (.box (.c a0)) h0 fun a2 h3 =>
  aa PP (.fadd (.c a2) 0) h3 fun a4 h5 =>
  aa PP (.ld (.c a4) 1 false) h5 fun a6 h7 =>
  vbin .eql a6 (.int .i64 5) fun a8 =>
  vcond a8 (K .nil h7) (
  aa PP (.fadd (.c a2) 0) h7 fun a9 h10 =>
  aa PP (.ld (.c a9) 1 false) h10 fun a11 h12 =>
  vbin .eql a11 (.int .i64 2) fun a13 =>
  vguard a13 true (fun G14 =>
  aa PP (.fadd (.c a2) 11) h12 fun a17 h18 =>
  G14 a17 h18) h12 fun a15 h16 =>
  vguard a13 true (fun G19 =>
  aa PP (.iadda (.c a15) (.c (.int .i64 0)) 2 1) h16 fun a22 h23 =>
  G19 a22 h23) h16 fun a20 h21 =>
  vguard a13 true (fun G24 =>
  aa PP (.ld (.c a20) 1 false) h21 fun a27 h28 =>
  G24 a27 h28) h21 fun a25 h26 =>
  vguard a13 true (fun G29 =>
  aa PP (.fadd (.c a2) 11) h26 fun a32 h33 =>
  G29 a32 h33) h26 fun a30 h31 =>
  vguard a13 true (fun G34 =>
  aa PP (.iadda (.c a30) (.c (.int .i64 1)) 2 1) h31 fun a37 h38 =>
  G34 a37 h38) h31 fun a35 h36 =>
  vguard a13 true (fun G39 =>
  aa PP (.ld (.c a35) 1 false) h36 fun a42 h43 =>
  G39 a42 h43) h36 fun a40 h41 =>
  vguard a13 true (fun G44 =>
  vbin .neq a25 a40 fun a47 =>
  G44 a47 h41) h41 fun a45 h46 =>
  aa PP (.pick (.c a13) (.c a45) (.c (.bool false))) h46 fun a48 h49 =>
  vcond a48 (aa PP (.fadd (.c a2) 11) h49 fun a50 h51 =>
  aa PP (.Cu (.c a50) 2) h51 fun a52 h53 =>
  K a52 h53) (
  aa PP (.fadd (.c a2) 11) h49 fun a54 h55 =>
  aa PP (.iadda (.c a54) (.c (.int .i64 0)) 2 1) h55 fun a56 h57 =>
  aa PP (.ld (.c a56) 1 false) h57 fun a58 h59 =>
  aa PP (.bldS true 1 1 (.int .i64 0) [(0,(.c a58))]) h59 fun a60 h61 =>
  K a60 h61))
theorem yH (a0:D) (h0:Heap) (K:D->Heap->Prop):wh a0 h0 K=vcC PP lF.code (fun x e h'=>match x with|.exit _=>False|.pan=>False|.jump _=>False|_=>bN PP lF.res K e h') (params [a0] 0) h0:=by kernel_rfl
def mc:Nat->Option (List Nat×List Nat)
  | 1000007=>some ([2,3],[])|3=>some ([1,2,3],[4])|_=>none
def oW:Nat->Option (List Nat×List Nat×List Nat)
  | 5=>some ([0,1,0,0,8,0,56,120,252,508,1023,2047,4095],[2,8,9,10,12],[999995])|_=>none
noncomputable def nr:av:=⟨30,eG (cFn PP false dL mc (cDr PP 30 oW)),
  [.cell 2 2 true]⟩
theorem w6:cFn PP false dL mc (cDr PP 30 oW)=some nr:=by kernel_rfl
def nU (h19:Heap) (a2:D) (a16:D) (a4:D) (J20:List D->Heap->Prop):Prop :=
  ∃(I28:Nat->List D->Heap->Prop) (n₀:Nat),I28 n₀ [(.int .i64 0)] h19/\∀(n29:Nat) (f30:Nat->D) (h31:Heap),I28 n29 [f30 4] h31 ->
  aa PP (.fadd (.c a2) 1) h31 fun a32 h33 =>
  aa PP (.ld (.c a32) 1 false) h33 fun a34 h35 =>
  bQ a34 h35 fun a36 =>
  vbin .lss (f30 4) a36 fun a37 =>
  vcond a37 (ae PP (.fadd (.c a16) 1) h35 fun a38 =>
  ae PP (.ld (.c a38) 1 false) h35 fun a39 =>
  ae PP (.fadd (.c a2) 1) h35 fun a40 =>
  ae PP (.ld (.c a40) 1 false) h35 fun a41 =>
  ae PP (.iadd (.c a41) (.c (f30 4)) 1) h35 fun a42 =>
  ae PP (.ld (.c a42) 1 false) h35 fun a43 =>
  aa PP (.bldS false 1 0 (.int .i64 0) []) h35 fun a44 h45 =>
  ((ae PP (.fadd (.c a16) 1) h45 fun a46=>aX [a46] [a38])/\(ae PP (.ld (.c a38) 1 false) h45 fun a47=>aX [a47] [a39])/\(ae PP (.fadd (.c a2) 1) h45 fun a48=>aX [a48] [a40])/\(ae PP (.ld (.c a40) 1 false) h45 fun a49=>aX [a49] [a41])/\(ae PP (.iadd (.c a41) (.c (f30 4)) 1) h45 fun a50=>aX [a50] [a42])/\(ae PP (.ld (.c a42) 1 false) h45 fun a51=>aX [a51] [a43])/\True) /\
  aa PP (.app (.c a44) (.c a43) 1 8 (.int .i64 0)) h45 fun a52 h53 =>
  ((ae PP (.fadd (.c a16) 1) h53 fun a54=>aX [a54] [a38])/\(ae PP (.ld (.c a38) 1 false) h53 fun a55=>aX [a55] [a39])/\True) /\
  aa PP (.bldS false 1 1 .nil [(0,(.c a52))]) h53 fun a56 h57 =>
  ((ae PP (.fadd (.c a16) 1) h57 fun a58=>aX [a58] [a38])/\(ae PP (.ld (.c a38) 1 false) h57 fun a59=>aX [a59] [a39])/\True) /\
  aa PP (.app (.c a39) (.c a56) 1 24 .nil) h57 fun a60 h61 =>
  ae PP (.fadd (.c a16) 1) h61 fun a62 =>
  aa PP (.st (.c a62) (.c a60) 1) h61 fun a63 h64 =>
  vbin .add (f30 4) (.int .i64 1) fun a65 =>
  aX [a2,a4,a16] [a2,a4,a16]/\∃m,m<n29/\I28 m [a65] h64) (
  aX [a4,a16] [a4,a16]/\J20 [] h35)
def ua (a0:D) (h0:Heap) (K:D->Heap->Prop):Prop :=
  aa PP (.box (.c a0)) h0 fun a2 h3 =>
  aa PP (.alloc (.agg [.nil,.nil])) h3 fun a4 h5 =>
  aa PP (.bldS false 1 0 (.int .i64 0) []) h5 fun a6 h7 =>
  aa PP (.fadd (.c a2) 0) h7 fun a8 h9 =>
  aa PP (.ld (.c a8) 1 false) h9 fun a10 h11 =>
  aa PP (.app (.c a6) (.c a10) 1 8 (.int .i64 0)) h11 fun a12 h13 =>
  aa PP (.bld [.nil,.nil] [(0,1,(.c a12))]) h13 fun a14 h15 =>
  aa PP (.alloc (.agg [.nil,.nil])) h15 fun a16 h17 =>
  aa PP (.st (.c a16) (.c a14) 2) h17 fun a18 h19 =>
  ∃(J20:List D->Heap->Prop),(∀(f21:Nat->D) (h22:Heap),J20 [] h22 ->
  aa PP (.ld (.c a16) 2 true) h22 fun a23 h24 =>
  aa PP (.st (.c a4) (.c a23) 2) h24 fun a25 h26 =>
  aa PP (.ld (.c a4) 2 true) h26 fun a27 _ =>
  K a27 h26) /\
  nU h19 a2 a16 a4 J20
theorem wU (a0:D) (h0:Heap) (K:D->Heap->Prop):ua a0 h0 K=vcC PP nr.code (fun x e h'=>match x with|.exit _=>False|.pan=>False|.jump _=>False|_=>bN PP nr.res K e h') (params [a0] 0) h0:=by kernel_rfl
end Go.Am
namespace Go.Am
open Go Go.Proofs
def qE:Nat->Option (List Nat×List Nat)
  | 1000005=>some ([4,5],[])|_=>none
def s7:Nat->Option (List Nat×List Nat×List Nat)
  | _=>none
def oo:av:=⟨31,
  .seq (.reg [⟨(some 4),.alloc (.agg [(.int .i64 0),(.int .i64 0),(.int .i64 0),(.int .i64 0),(.int .i64 0),.nil,.nil,.nil]),none⟩]) <|
  .seq (.reg [⟨(some 6),.bld [(.int .i64 0),(.int .i64 0)] [(0,1,(.c (.int .i64 1))),(1,1,(.c (.int .i64 0)))],none⟩,
    ⟨(some 7),.bld [(.int .i64 0),(.int .i64 0),(.int .i64 0),(.int .i64 0),(.int .i32 0),(.int .i64 0),(.int .i64 0),(.int .i32 0),(.int .i64 0),(.int .i64 0),(.int .i32 0),(.int .i64 0),(.int .i64 0)] [(0,1,(.c (.int .i64 1))),(11,2,(.t 6))],none⟩,
    ⟨(some 8),.bld [.nil,(.int .i64 0),(.int .i64 0),(.int .i64 0),(.int .i64 0),(.int .i32 0),(.int .i64 0),(.int .i64 0),(.int .i32 0),(.int .i64 0),(.int .i64 0),(.int .i32 0),(.int .i64 0),(.int .i64 0)] [(1,13,(.t 7))],none⟩,
    ⟨(some 9),.mov (.t 0),none⟩,
    ⟨(some 10),.call bO [(.c (.int .i64 0))],none⟩,
    ⟨(some 11),.bld [(.int .i64 0),(.int .i64 0),(.int .i64 0),(.int .i64 0),(.int .i64 0),(.int .i32 0),(.int .i64 0),(.int .i64 0),(.int .i32 0),(.int .i64 0),(.int .i64 0),(.int .i32 0),(.int .i64 0),(.int .i64 0),(.int .i32 0)] [(0,1,(.c (.int .i64 5))),(1,1,(.t 9)),(3,3,(.t 10))],none⟩,
    ⟨(some 12),.bldS true 15 1 (.agg [(.int .i64 0),(.int .i64 0),(.int .i64 0),(.int .i64 0),(.int .i64 0),(.int .i32 0),(.int .i64 0),(.int .i64 0),(.int .i32 0),(.int .i64 0),(.int .i64 0),(.int .i32 0),(.int .i64 0),(.int .i64 0),(.int .i32 0)]) [(0,(.t 11))],none⟩,
    ⟨(some 13),.call bO [(.c (.int .i64 0))],none⟩,
    ⟨(some 14),.bld [(.int .i64 0),(.int .i64 0)] [(0,1,(.c (.int .i64 2))),(1,1,(.c (.int .i64 3)))],none⟩,
    ⟨(some 15),.bld [(.int .i64 0),(.int .i64 0),(.int .i64 0),(.int .i64 0),(.int .i32 0),(.int .i64 0),(.int .i64 0),(.int .i32 0),(.int .i64 0),(.int .i64 0),(.int .i32 0),(.int .i64 0),(.int .i64 0)] [(0,1,(.c (.int .i64 2))),(5,3,(.t 13)),(11,2,(.t 14))],none⟩,
    ⟨(some 16),.bld [.nil,(.int .i64 0),(.int .i64 0),(.int .i64 0),(.int .i64 0),(.int .i32 0),(.int .i64 0),(.int .i64 0),(.int .i32 0),(.int .i64 0),(.int .i64 0),(.int .i32 0),(.int .i64 0),(.int .i64 0)] [(0,1,(.t 12)),(1,13,(.t 15))],none⟩,
    ⟨(some 17),.bld [(.int .i64 0),(.int .i64 0)] [(0,1,(.c (.int .i64 1))),(1,1,(.c (.int .i64 0)))],none⟩,
    ⟨(some 18),.bld [(.int .i64 0),(.int .i64 0),(.int .i64 0),(.int .i64 0),(.int .i32 0),(.int .i64 0),(.int .i64 0),(.int .i32 0),(.int .i64 0),(.int .i64 0),(.int .i32 0),(.int .i64 0),(.int .i64 0)] [(0,1,(.c (.int .i64 3))),(11,2,(.t 17))],none⟩,
    ⟨(some 19),.bld [.nil,(.int .i64 0),(.int .i64 0),(.int .i64 0),(.int .i64 0),(.int .i32 0),(.int .i64 0),(.int .i64 0),(.int .i32 0),(.int .i64 0),(.int .i64 0),(.int .i32 0),(.int .i64 0),(.int .i64 0)] [(1,13,(.t 18))],none⟩,
    ⟨(some 20),.bld [(.int .i64 0),(.int .i64 0),(.int .i64 0),(.int .i64 0),(.int .i32 0),(.int .i64 0),(.int .i64 0),(.int .i32 0),(.int .i64 0),(.int .i64 0),(.int .i32 0),(.int .i64 0),(.int .i64 0)] [(0,1,(.c (.int .i64 5)))],none⟩,
    ⟨(some 21),.bld [.nil,(.int .i64 0),(.int .i64 0),(.int .i64 0),(.int .i64 0),(.int .i32 0),(.int .i64 0),(.int .i64 0),(.int .i32 0),(.int .i64 0),(.int .i64 0),(.int .i32 0),(.int .i64 0),(.int .i64 0)] [(1,13,(.t 20))],none⟩,
    ⟨(some 22),.bldS true 14 4 (.agg [.nil,(.int .i64 0),(.int .i64 0),(.int .i64 0),(.int .i64 0),(.int .i32 0),(.int .i64 0),(.int .i64 0),(.int .i32 0),(.int .i64 0),(.int .i64 0),(.int .i32 0),(.int .i64 0),(.int .i64 0)]) [(0,(.t 8)),(1,(.t 16)),(2,(.t 19)),(3,(.t 21))],none⟩,
    ⟨(some 23),.bld [(.int .i64 0),(.int .i64 0),(.int .i64 0),(.int .i64 0),(.int .i64 0),.nil,.nil,.nil] [(0,1,(.c (.int .i64 4))),(1,1,(.c (.int .i64 1))),(2,1,(.c (.int .i64 1))),(7,1,(.t 22))],none⟩,
    ⟨(some 5),.alloc (.agg [(.int .i64 0),(.int .i64 0),(.int .i64 0),(.int .i64 0),(.int .i64 0),.nil,.nil,.nil]),none⟩,
    ⟨none,.st (.t 5) (.t 23) 8,none⟩]) <|
  .seqj [4,5] [] (.seq (.reg [⟨(some 24),.mov (.t 1),none⟩]) <|
  .cond (.t 24) (.reg [⟨(some 25),.fadd (.t 5) 7,none⟩,
    ⟨(some 26),.ld (.t 25) 1 false,none⟩,
    ⟨(some 27),.iadd (.t 26) (.c (.int .i64 0)) 14,none⟩,
    ⟨(some 28),.fadd (.t 27) 1,none⟩,
    ⟨(some 29),.fadd (.t 28) 0,none⟩,
    ⟨none,.st (.t 29) (.c (.int .i64 3)) 1,none⟩]) (.skip)) <|
  .seq (.reg [⟨(some 30),.ld (.t 5) 8 true,none⟩,
    ⟨none,.st (.t 4) (.t 30) 8,none⟩]) <|
  .ret,
  [.cell 4 8 true]⟩
theorem sK:cFn PP true jm qE (cDr PP 31 s7)=some oo:=by kernel_rfl
def mg:Nat->Option (List Nat×List Nat)
  | 1000009=>some ([1,2],[3])|5=>some ([1,2],[3,4])|_=>none
def oZ:Nat->Option (List Nat×List Nat×List Nat)
  | 7=>some ([0,0,0,4,0,28,60,124,254,0,512,0,3584,7680,15872,32766,65534,131071,262143],[1,8,16,17,18],[999999])|_=>none
noncomputable def nE:av:=⟨44,eG (cFn PP true jQ mg (cDr PP 44 oZ)),
  [.cell 2 8 true]⟩
theorem xf:cFn PP true jQ mg (cDr PP 44 oZ)=some nE:=by kernel_rfl
def nX (a30:D) (h31:Heap) (a2:D) (a4:D) (J32:List D->Heap->Prop):Prop :=
  ∃(I44:Nat->List D->Heap->Prop) (n₀:Nat),I44 n₀ [a30,(.int .i64 0)] h31/\∀(n45:Nat) (f46:Nat->D) (h47:Heap),I44 n45 [f46 3,f46 4] h47 ->
  aa PP (.fadd (.c a2) 7) h47 fun a48 h49 =>
  aa PP (.ld (.c a48) 1 false) h49 fun a50 h51 =>
  bQ a50 h51 fun a52 =>
  vbin .lss (f46 4) a52 fun a53 =>
  vcond a53 (ae PP (.fadd (.c a2) 7) h51 fun a54 =>
  ae PP (.ld (.c a54) 1 false) h51 fun a55 =>
  ae PP (.iadd (.c a55) (.c (f46 4)) 14) h51 fun a56 =>
  ae PP (.fadd (.c a56) 0) h51 fun a57 =>
  ae PP (.ld (.c a57) 1 false) h51 fun a58 =>
  ae PP (.fadd (.c a2) 7) h51 fun a59 =>
  ae PP (.ld (.c a59) 1 false) h51 fun a60 =>
  ae PP (.iadd (.c a60) (.c (f46 4)) 14) h51 fun a61 =>
  ae PP (.fadd (.c a61) 1) h51 fun a62 =>
  ae PP (.ld (.c a62) 13 true) h51 fun a63 =>
  aa PP (.bldS true 15 0 (.agg [(.int .i64 0),(.int .i64 0),(.int .i64 0),(.int .i64 0),(.int .i64 0),(.int .i32 0),(.int .i64 0),(.int .i64 0),(.int .i32 0),(.int .i64 0),(.int .i64 0),(.int .i32 0),(.int .i64 0),(.int .i64 0),(.int .i32 0)]) []) h51 fun a64 h65 =>
  ((ae PP (.fadd (.c a2) 7) h65 fun a66=>aX [a66] [a54])/\(ae PP (.ld (.c a54) 1 false) h65 fun a67=>aX [a67] [a55])/\(ae PP (.iadd (.c a55) (.c (f46 4)) 14) h65 fun a68=>aX [a68] [a56])/\(ae PP (.fadd (.c a56) 0) h65 fun a69=>aX [a69] [a57])/\(ae PP (.ld (.c a57) 1 false) h65 fun a70=>aX [a70] [a58])/\(ae PP (.fadd (.c a2) 7) h65 fun a71=>aX [a71] [a59])/\(ae PP (.ld (.c a59) 1 false) h65 fun a72=>aX [a72] [a60])/\(ae PP (.iadd (.c a60) (.c (f46 4)) 14) h65 fun a73=>aX [a73] [a61])/\(ae PP (.fadd (.c a61) 1) h65 fun a74=>aX [a74] [a62])/\(ae PP (.ld (.c a62) 13 true) h65 fun a75=>aX [a75] [a63])/\True) /\
  aa PP (.app (.c a64) (.c a58) 15 120 (.agg [(.int .i64 0),(.int .i64 0),(.int .i64 0),(.int .i64 0),(.int .i64 0),(.int .i32 0),(.int .i64 0),(.int .i64 0),(.int .i32 0),(.int .i64 0),(.int .i64 0),(.int .i32 0),(.int .i64 0),(.int .i64 0),(.int .i32 0)])) h65 fun a76 h77 =>
  ((ae PP (.fadd (.c a2) 7) h77 fun a78=>aX [a78] [a59])/\(ae PP (.ld (.c a59) 1 false) h77 fun a79=>aX [a79] [a60])/\(ae PP (.iadd (.c a60) (.c (f46 4)) 14) h77 fun a80=>aX [a80] [a61])/\(ae PP (.fadd (.c a61) 1) h77 fun a81=>aX [a81] [a62])/\(ae PP (.ld (.c a62) 13 true) h77 fun a82=>aX [a82] [a63])/\True) /\
  ae PP (.bld [.nil,(.int .i64 0),(.int .i64 0),(.int .i64 0),(.int .i64 0),(.int .i32 0),(.int .i64 0),(.int .i64 0),(.int .i32 0),(.int .i64 0),(.int .i64 0),(.int .i32 0),(.int .i64 0),(.int .i64 0)] [(0,1,(.c a76)),(1,13,(.c a63))]) h77 fun a83 =>
  aa PP (.bldS true 14 1 (.agg [.nil,(.int .i64 0),(.int .i64 0),(.int .i64 0),(.int .i64 0),(.int .i32 0),(.int .i64 0),(.int .i64 0),(.int .i32 0),(.int .i64 0),(.int .i64 0),(.int .i32 0),(.int .i64 0),(.int .i64 0)]) [(0,(.c a83))]) h77 fun a84 h85 =>
  aa PP (.app (.c (f46 3)) (.c a84) 14 128 (.agg [.nil,(.int .i64 0),(.int .i64 0),(.int .i64 0),(.int .i64 0),(.int .i32 0),(.int .i64 0),(.int .i64 0),(.int .i32 0),(.int .i64 0),(.int .i64 0),(.int .i32 0),(.int .i64 0),(.int .i64 0)])) h85 fun a86 h87 =>
  vbin .add (f46 4) (.int .i64 1) fun a88 =>
  aX [a2,a4] [a2,a4]/\∃m,m<n45/\I44 m [a86,a88] h87) (
  aX [a2,a4] [a2,a4]/\J32 [(f46 3)] h51)
def ue (a0:D) (h0:Heap) (K:D->Heap->Prop):Prop :=
  aa PP (.box (.c a0)) h0 fun a2 h3 =>
  aa PP (.alloc (.agg [(.int .i64 0),(.int .i64 0),(.int .i64 0),(.int .i64 0),(.int .i64 0),.nil,.nil,.nil])) h3 fun a4 h5 =>
  aa PP (.bldS true 4 0 (.agg [(.str ⟨#[]⟩),(.int .i64 0),(.int .i64 0),(.int .i64 0)]) []) h5 fun a6 h7 =>
  aa PP (.fadd (.c a2) 5) h7 fun a8 h9 =>
  aa PP (.ld (.c a8) 1 false) h9 fun a10 h11 =>
  aa PP (.app (.c a6) (.c a10) 4 40 (.agg [(.str ⟨#[]⟩),(.int .i64 0),(.int .i64 0),(.int .i64 0)])) h11 fun a12 h13 =>
  aa PP (.fadd (.c a2) 5) h13 fun a14 h15 =>
  aa PP (.st (.c a14) (.c a12) 1) h15 fun a16 h17 =>
  aa PP (.bldS true 3 0 (.agg [(.int .i64 0),(.int .i64 0),(.int .i64 0)]) []) h17 fun a18 h19 =>
  aa PP (.fadd (.c a2) 6) h19 fun a20 h21 =>
  aa PP (.ld (.c a20) 1 false) h21 fun a22 h23 =>
  aa PP (.app (.c a18) (.c a22) 3 24 (.agg [(.int .i64 0),(.int .i64 0),(.int .i64 0)])) h23 fun a24 h25 =>
  aa PP (.fadd (.c a2) 6) h25 fun a26 h27 =>
  aa PP (.st (.c a26) (.c a24) 1) h27 fun a28 h29 =>
  aa PP (.bldS true 14 0 (.agg [.nil,(.int .i64 0),(.int .i64 0),(.int .i64 0),(.int .i64 0),(.int .i32 0),(.int .i64 0),(.int .i64 0),(.int .i32 0),(.int .i64 0),(.int .i64 0),(.int .i32 0),(.int .i64 0),(.int .i64 0)]) []) h29 fun a30 h31 =>
  ∃(J32:List D->Heap->Prop),(∀(f33:Nat->D) (h34:Heap),J32 [f33 3] h34 ->
  aa PP (.fadd (.c a2) 7) h34 fun a35 h36 =>
  aa PP (.st (.c a35) (.c (f33 3)) 1) h36 fun a37 h38 =>
  aa PP (.ld (.c a2) 8 true) h38 fun a39 h40 =>
  aa PP (.st (.c a4) (.c a39) 8) h40 fun a41 h42 =>
  aa PP (.ld (.c a4) 8 true) h42 fun a43 _ =>
  K a43 h42) /\
  nX a30 h31 a2 a4 J32
theorem wX (a0:D) (h0:Heap) (K:D->Heap->Prop):ue a0 h0 K=vcC PP nE.code (fun x e h'=>match x with|.exit _=>False|.pan=>False|.jump _=>False|_=>bN PP nE.res K e h') (params [a0] 0) h0:=by kernel_rfl
def gI:Nat->Option (List Nat×List Nat)
  | _=>none
def iP:Nat->Option (List Nat×List Nat×List Nat)
  | 2=>some ([0,1,3,7,0,16,48,112,240,511],[],[])|4=>some ([0,1,3,7,0,16,48,112,240,511,1023,2047,4095],[],[])|_=>none
noncomputable def fU:av:=⟨32,eG (cFn PP true ah gI (cDr PP 32 iP)),
  [.t 2]⟩
theorem oN:cFn PP true ah gI (cDr PP 32 iP)=some fU:=by kernel_rfl
def kA (a0:D) (h0:Heap) (K:D->Heap->Prop):Prop :=
  aa PP (.fadd (.c a0) 0) h0 fun a2 h3 =>
  aa PP (.fadd (.c a2) 1) h3 fun a4 h5 =>
  aa PP (.ld (.c a4) 1 false) h5 fun a6 h7 =>
  vbin .add a6 (.int .i64 1) fun a8 =>
  aa PP (.fadd (.c a0) 0) h7 fun a9 h10 =>
  aa PP (.fadd (.c a9) 1) h10 fun a11 h12 =>
  aa PP (.st (.c a11) (.c a8) 1) h12 fun a13 h14 =>
  ae PP (.fadd (.c a0) 0) h14 fun a15 =>
  ae PP (.fadd (.c a15) 1) h14 fun a16 =>
  ae PP (.ld (.c a16) 1 false) h14 fun a17 =>
  ae PP (.fadd (.c a0) 0) h14 fun a18 =>
  ae PP (.fadd (.c a18) 0) h14 fun a19 =>
  ae PP (.ld (.c a19) 1 false) h14 fun a20 =>
  bQ a20 h14 fun a21 =>
  vbin .gtr a17 a21 fun a22 =>
  vcond a22 (K (.int .i64 0) h14) (
  ae PP (.fadd (.c a0) 0) h14 fun a23 =>
  ae PP (.fadd (.c a23) 0) h14 fun a24 =>
  ae PP (.ld (.c a24) 1 false) h14 fun a25 =>
  ae PP (.fadd (.c a0) 0) h14 fun a26 =>
  ae PP (.fadd (.c a26) 1) h14 fun a27 =>
  ae PP (.ld (.c a27) 1 false) h14 fun a28 =>
  vbin .sub a28 (.int .i64 1) fun a29 =>
  ae PP (.iadd (.c a25) (.c a29) 1) h14 fun a30 =>
  ae PP (.ld (.c a30) 1 false) h14 fun a31 =>
  ae PP (.conv .i64 (.c a31)) h14 fun a32 =>
  K a32 h14)
theorem oF (a0:D) (h0:Heap) (K:D->Heap->Prop):kA a0 h0 K=vcC PP fU.code (fun x e h'=>match x with|.exit _=>False|.pan=>False|.jump _=>False|_=>bN PP fU.res K e h') (params [a0] 0) h0:=by kernel_rfl
def ko:Nat->Option (List Nat×List Nat)
  | _=>none
def lX:Nat->Option (List Nat×List Nat×List Nat)
  | _=>none
noncomputable def kI:av:=⟨7,eG (cFn PP true gG ko (cDr PP 7 lX)),
  [.t 0]⟩
theorem uz:cFn PP true gG ko (cDr PP 7 lX)=some kI:=by kernel_rfl
def pP (h0:Heap) (K:D->Heap->Prop):Prop :=
  aa PP (.bld [(.str ⟨#[]⟩),(.int .i64 0),(.int .i64 0),(.int .i64 0)] [(0,1,(.c (.str ⟨#[97]⟩))),(1,1,(.c (.int .i64 1))),(2,1,(.c (.int .i64 1))),(3,1,(.c (.int .i64 8)))]) h0 fun a1 h2 =>
  aa PP (.bld [(.str ⟨#[]⟩),(.int .i64 0),(.int .i64 0),(.int .i64 0)] [(0,1,(.c (.str ⟨#[102]⟩))),(1,1,(.c (.int .i64 1))),(2,1,(.c (.int .i64 2))),(3,1,(.c (.int .i64 4)))]) h2 fun a3 h4 =>
  aa PP (.bld [(.str ⟨#[]⟩),(.int .i64 0),(.int .i64 0),(.int .i64 0)] [(0,1,(.c (.str ⟨#[115]⟩))),(1,1,(.c (.int .i64 2))),(2,1,(.c (.int .i64 1))),(3,1,(.c (.int .i64 8)))]) h4 fun a5 h6 =>
  aa PP (.bld [(.str ⟨#[]⟩),(.int .i64 0),(.int .i64 0),(.int .i64 0)] [(0,1,(.c (.str ⟨#[112]⟩))),(1,1,(.c (.int .i64 3))),(2,1,(.c (.int .i64 1))),(3,1,(.c (.int .i64 4)))]) h6 fun a7 h8 =>
  aa PP (.bld [(.str ⟨#[]⟩),(.int .i64 0),(.int .i64 0),(.int .i64 0)] [(0,1,(.c (.str ⟨#[98]⟩))),(1,1,(.c (.int .i64 2))),(2,1,(.c (.int .i64 3))),(3,1,(.c (.int .i64 4)))]) h8 fun a9 h10 =>
  aa PP (.bldS true 4 5 (.agg [(.str ⟨#[]⟩),(.int .i64 0),(.int .i64 0),(.int .i64 0)]) [(0,(.c a1)),(1,(.c a3)),(2,(.c a5)),(3,(.c a7)),(4,(.c a9))]) h10 fun a11 h12 =>
  K a11 h12
theorem uf (h0:Heap) (K:D->Heap->Prop):pP h0 K=vcC PP kI.code (fun x e h'=>match x with|.exit _=>False|.pan=>False|.jump _=>False|_=>bN PP kI.res K e h') (params [] 0) h0:=by kernel_rfl
def fG:Nat->Option (List Nat×List Nat)
  | 1000012=>some ([0],[])|4=>some ([0,5],[6])|1000011=>some ([0,5,6],[])|_=>none
def gx:Nat->Option (List Nat×List Nat×List Nat)
  | 9=>some ([0,1,3,7,15,0,0,64,0,256,0,1216,0,0,12288,31936,65472,0,131072,0,527552,0,0,6291456,16256192,33426624,67108800,134217664,268435455,536870911,1073741823],[7,11,20,30],[999999])|_=>none
noncomputable def eN:av:=⟨77,eG (cFn PP true bV fG (cDr PP 77 gx)),
  []⟩
theorem mE:cFn PP true bV fG (cDr PP 77 gx)=some eN:=by kernel_rfl
def gi (a14:D) (h12:Heap) (a15:D) (a0:D) (J16:List D->Heap->Prop):Prop :=
  ∃(I21:Nat->List D->Heap->Prop) (n₀:Nat),I21 n₀ [a14] h12/\∀(n22:Nat) (f23:Nat->D) (h24:Heap),I21 n22 [f23 6] h24 ->
  vbin .lss (f23 6) a15 fun a25 =>
  vcond a25 (af PP bp [a0] h24 fun a26 h27 =>
  aa PP (.fadd (.c a0) 0) h27 fun a28 h29 =>
  aa PP (.fadd (.c a28) 2) h29 fun a30 h31 =>
  aa PP (.fadd (.c a30) 7) h31 fun a32 h33 =>
  aa PP (.ld (.c a32) 1 false) h33 fun a34 h35 =>
  vbin .add (f23 6) (.int .i64 1) fun a36 =>
  aa PP (.bld [(.int .i64 0),(.int .i64 0)] [(0,1,(.c a36)),(1,1,(.c (.int .i64 0)))]) h35 fun a37 h38 =>
  aa PP (.bld [(.int .i64 0),(.int .i64 0),(.int .i64 0),(.int .i64 0),(.int .i32 0),(.int .i64 0),(.int .i64 0),(.int .i32 0),(.int .i64 0),(.int .i64 0),(.int .i32 0),(.int .i64 0),(.int .i64 0)] [(0,1,(.c (.int .i64 1))),(11,2,(.c a37))]) h38 fun a39 h40 =>
  aa PP (.iadd (.c a34) (.c (f23 6)) 14) h40 fun a41 h42 =>
  aa PP (.fadd (.c a41) 1) h42 fun a43 h44 =>
  aa PP (.st (.c a43) (.c a39) 13) h44 fun a45 h46 =>
  ∃(J47:List D->Heap->Prop),(∀(f48:Nat->D) (h49:Heap),J47 [] h49 ->
  af PP aP [a0] h49 fun a50 h51 =>
  vbin .add (f23 6) (.int .i64 1) fun a52 =>
  aX [a0,a15] [a0,a15]/\∃m,m<n22/\I21 m [a52] h51) /\
  af PP ah [a0] h46 fun a53 h54 =>
  vbin .rem a53 (.int .i64 2) fun a55 =>
  vbin .eql a55 (.int .i64 0) fun a56 =>
  vcond a56 (ae PP (.fadd (.c a0) 0) h54 fun a57 =>
  ae PP (.fadd (.c a57) 2) h54 fun a58 =>
  ae PP (.fadd (.c a58) 7) h54 fun a59 =>
  ae PP (.ld (.c a59) 1 false) h54 fun a60 =>
  vbin .add (f23 6) (.int .i64 1) fun a61 =>
  vbin .sub a15 (f23 6) fun a62 =>
  vbin .add (f23 6) (.int .i64 1) fun a63 =>
  vbin .sub a15 (f23 6) fun a64 =>
  af PP aK [a0] h54 fun a65 h66 =>
  ((ae PP (.fadd (.c a0) 0) h66 fun a67=>aX [a67] [a57])/\(ae PP (.fadd (.c a57) 2) h66 fun a68=>aX [a68] [a58])/\(ae PP (.fadd (.c a58) 7) h66 fun a69=>aX [a69] [a59])/\(ae PP (.ld (.c a59) 1 false) h66 fun a70=>aX [a70] [a60])/\True) /\
  af PP ah [a0] h66 fun a71 h72 =>
  ((ae PP (.fadd (.c a0) 0) h72 fun a73=>aX [a73] [a57])/\(ae PP (.fadd (.c a57) 2) h72 fun a74=>aX [a74] [a58])/\(ae PP (.fadd (.c a58) 7) h72 fun a75=>aX [a75] [a59])/\(ae PP (.ld (.c a59) 1 false) h72 fun a76=>aX [a76] [a60])/\True) /\
  vbin .rem a71 a62 fun a77 =>
  vbin .add a61 a77 fun a78 =>
  af PP ah [a0] h72 fun a79 h80 =>
  ((ae PP (.fadd (.c a0) 0) h80 fun a81=>aX [a81] [a57])/\(ae PP (.fadd (.c a57) 2) h80 fun a82=>aX [a82] [a58])/\(ae PP (.fadd (.c a58) 7) h80 fun a83=>aX [a83] [a59])/\(ae PP (.ld (.c a59) 1 false) h80 fun a84=>aX [a84] [a60])/\True) /\
  vbin .rem a79 a64 fun a85 =>
  vbin .add a63 a85 fun a86 =>
  ae PP (.bld [(.int .i64 0),(.int .i64 0)] [(0,1,(.c a78)),(1,1,(.c a86))]) h80 fun a87 =>
  ae PP (.bld [(.int .i64 0),(.int .i64 0),(.int .i64 0),(.int .i64 0),(.int .i32 0),(.int .i64 0),(.int .i64 0),(.int .i32 0),(.int .i64 0),(.int .i64 0),(.int .i32 0),(.int .i64 0),(.int .i64 0)] [(0,1,(.c (.int .i64 2))),(5,3,(.c a65)),(11,2,(.c a87))]) h80 fun a88 =>
  ae PP (.iadd (.c a60) (.c (f23 6)) 14) h80 fun a89 =>
  ae PP (.fadd (.c a89) 1) h80 fun a90 =>
  aa PP (.st (.c a90) (.c a88) 13) h80 fun a91 h92 =>
  aX [a0,a15,(f23 6)] [a0,a15,(f23 6)]/\J47 [] h92) (
  aX [a0,a15,(f23 6)] [a0,a15,(f23 6)]/\J47 [] h54)) (
  aX [a0] [a0]/\J16 [] h24)
def jc (a0:D) (a1:D) (h0:Heap) (K:D->Heap->Prop):Prop :=
  af PP aP [a0] h0 fun a3 h4 =>
  aa PP (.fadd (.c a0) 0) h4 fun a5 h6 =>
  aa PP (.fadd (.c a5) 2) h6 fun a7 h8 =>
  aa PP (.fadd (.c a7) 7) h8 fun a9 h10 =>
  aa PP (.ld (.c a9) 1 false) h10 fun a11 h12 =>
  bQ a11 h12 fun a13 =>
  vbin .sub a13 (.int .i64 1) fun a14 =>
  vbin .add a14 a1 fun a15 =>
  ∃(J16:List D->Heap->Prop),(∀(f17:Nat->D) (h18:Heap),J16 [] h18 ->
  af PP bp [a0] h18 fun a19 h20 =>
  K (.tup []) h20) /\
  gi a14 h12 a15 a0 J16
theorem mv (a0:D) (a1:D) (h0:Heap) (K:D->Heap->Prop):jc a0 a1 h0 K=vcC PP eN.code (fun x e h'=>match x with|.exit _=>False|.pan=>False|.jump _=>False|_=>bN PP eN.res K e h') (params [a0,a1] 0) h0:=by kernel_rfl
def gJ:Nat->Option (List Nat×List Nat)
  | 1000008=>some ([],[0,2,3,4])|1000016=>some ([],[0,4,119])|_=>none
def iQ:Nat->Option (List Nat×List Nat×List Nat)
  | 9=>some ([0,1,3,7,15,0,0,64,192,0,512,0,2048,7680,16320,32767,65535,131071],[17],[])|15=>some ([0,1,3,7,15,0,32,0,128,0,0,1024,3584,8064,16383,32767,65535],[8,16],[999999])|_=>none
noncomputable def fV:av:=⟨136,eG (cFn PP true bR gJ (cDr PP 136 iQ)),
  []⟩
theorem oO:cFn PP true bR gJ (cDr PP 136 iQ)=some fV:=by kernel_rfl
def kB (a0:D) (h0:Heap) (K:D->Heap->Prop):Prop :=
  aa PP (.fadd (.c a0) 0) h0 fun a2 h3 =>
  aa PP (.fadd (.c a2) 2) h3 fun a4 h5 =>
  aa PP (.fadd (.c a4) 6) h5 fun a6 h7 =>
  aa PP (.ld (.c a6) 1 false) h7 fun a8 h9 =>
  bQ a8 h9 fun a10 =>
  vbin .mul (.int .i64 2) a10 fun a11 =>
  vbin .add (.int .i64 6) a11 fun a12 =>
  af PP ah [a0] h9 fun a13 h14 =>
  vbin .rem a13 (.int .i64 3) fun a15 =>
  vbin .add (.int .i64 1) a15 fun a16 =>
  vbin .add a12 (.int .i64 2) fun a17 =>
  aa PP (.fadd (.c a0) 0) h14 fun a18 h19 =>
  aa PP (.fadd (.c a18) 2) h19 fun a20 h21 =>
  aa PP (.fadd (.c a20) 2) h21 fun a22 h23 =>
  aa PP (.st (.c a22) (.c a17) 1) h23 fun a24 h25 =>
  aa PP (.fadd (.c a0) 0) h25 fun a26 h27 =>
  aa PP (.fadd (.c a26) 2) h27 fun a28 h29 =>
  aa PP (.fadd (.c a28) 7) h29 fun a30 h31 =>
  aa PP (.ld (.c a30) 1 false) h31 fun a32 h33 =>
  bQ a32 h33 fun a34 =>
  af PP bO [a12] h33 fun a35 h36 =>
  af PP cu [(.int .i32 0)] h36 fun a37 h38 =>
  aa PP (.bld [(.int .i64 0),(.int .i64 0),(.int .i64 0),(.int .i64 0),(.int .i64 0),(.int .i32 0),(.int .i64 0),(.int .i64 0),(.int .i32 0),(.int .i64 0),(.int .i64 0),(.int .i32 0),(.int .i64 0),(.int .i64 0),(.int .i32 0)] [(0,1,(.c (.int .i64 1))),(3,3,(.c a35)),(6,3,(.c a37))]) h38 fun a39 h40 =>
  af PP aw [a0,a39] h40 fun a41 h42 =>
  aa PP (.fadd (.c a0) 0) h42 fun a43 h44 =>
  aa PP (.fadd (.c a43) 2) h44 fun a45 h46 =>
  aa PP (.fadd (.c a45) 7) h46 fun a47 h48 =>
  aa PP (.ld (.c a47) 1 false) h48 fun a49 h50 =>
  vbin .sub a34 (.int .i64 1) fun a51 =>
  aa PP (.bld [(.int .i64 0),(.int .i64 0)] [(0,1,(.c a34)),(1,1,(.c (.int .i64 0)))]) h50 fun a52 h53 =>
  aa PP (.bld [(.int .i64 0),(.int .i64 0),(.int .i64 0),(.int .i64 0),(.int .i32 0),(.int .i64 0),(.int .i64 0),(.int .i32 0),(.int .i64 0),(.int .i64 0),(.int .i32 0),(.int .i64 0),(.int .i64 0)] [(0,1,(.c (.int .i64 1))),(11,2,(.c a52))]) h53 fun a54 h55 =>
  aa PP (.iadd (.c a49) (.c a51) 14) h55 fun a56 h57 =>
  aa PP (.fadd (.c a56) 1) h57 fun a58 h59 =>
  aa PP (.st (.c a58) (.c a54) 13) h59 fun a60 h61 =>
  ∃(J62:List D->Heap->Prop),(∀(f63:Nat->D) (h64:Heap),J62 [f63 0,f63 2,f63 3,f63 4] h64 ->
  af PP aP [(f63 0)] h64 fun a65 h66 =>
  vbin .add (f63 2) (.int .i64 1) fun a67 =>
  af PP bO [a67] h66 fun a68 h69 =>
  af PP bO [(f63 2)] h69 fun a70 h71 =>
  aa PP (.conv .i32 (.c (f63 3))) h71 fun a72 h73 =>
  af PP cu [a72] h73 fun a74 h75 =>
  aa PP (.bld [(.int .i64 0),(.int .i64 0),(.int .i64 0),(.int .i64 0),(.int .i64 0),(.int .i32 0),(.int .i64 0),(.int .i64 0),(.int .i32 0),(.int .i64 0),(.int .i64 0),(.int .i32 0),(.int .i64 0),(.int .i64 0),(.int .i32 0)] [(0,1,(.c (.int .i64 3))),(1,1,(.c (.int .i64 26))),(3,3,(.c a68)),(6,3,(.c a70)),(9,3,(.c a74))]) h75 fun a76 h77 =>
  af PP aw [(f63 0),a76] h77 fun a78 h79 =>
  ae PP (.fadd (.c (f63 0)) 0) h79 fun a80 =>
  ae PP (.fadd (.c a80) 2) h79 fun a81 =>
  ae PP (.fadd (.c a81) 7) h79 fun a82 =>
  ae PP (.ld (.c a82) 1 false) h79 fun a83 =>
  vbin .add (f63 2) (.int .i64 1) fun a84 =>
  ae PP (.call bO [(.c a84)]) h79 fun a85 =>
  vbin .add (f63 4) (.int .i64 1) fun a86 =>
  vbin .add (f63 4) (.int .i64 2) fun a87 =>
  ae PP (.bld [(.int .i64 0),(.int .i64 0)] [(0,1,(.c a86)),(1,1,(.c a87))]) h79 fun a88 =>
  ae PP (.bld [(.int .i64 0),(.int .i64 0),(.int .i64 0),(.int .i64 0),(.int .i32 0),(.int .i64 0),(.int .i64 0),(.int .i32 0),(.int .i64 0),(.int .i64 0),(.int .i32 0),(.int .i64 0),(.int .i64 0)] [(0,1,(.c (.int .i64 2))),(5,3,(.c a85)),(11,2,(.c a88))]) h79 fun a89 =>
  ae PP (.iadd (.c a83) (.c (f63 4)) 14) h79 fun a90 =>
  ae PP (.fadd (.c a90) 1) h79 fun a91 =>
  aa PP (.st (.c a91) (.c a89) 13) h79 fun a92 h93 =>
  af PP aP [(f63 0)] h93 fun a94 h95 =>
  af PP bO [(f63 2)] h95 fun a96 h97 =>
  af PP bO [(f63 2)] h97 fun a98 h99 =>
  af PP cu [(.int .i32 1)] h99 fun a100 h101 =>
  aa PP (.bld [(.int .i64 0),(.int .i64 0),(.int .i64 0),(.int .i64 0),(.int .i64 0),(.int .i32 0),(.int .i64 0),(.int .i64 0),(.int .i32 0),(.int .i64 0),(.int .i64 0),(.int .i32 0),(.int .i64 0),(.int .i64 0),(.int .i32 0)] [(0,1,(.c (.int .i64 3))),(1,1,(.c (.int .i64 10))),(3,3,(.c a96)),(6,3,(.c a98)),(9,3,(.c a100))]) h101 fun a102 h103 =>
  af PP aw [(f63 0),a102] h103 fun a104 h105 =>
  af PP bp [(f63 0)] h105 fun a106 h107 =>
  aa PP (.fadd (.c (f63 0)) 0) h107 fun a108 h109 =>
  aa PP (.fadd (.c a108) 2) h109 fun a110 h111 =>
  aa PP (.fadd (.c a110) 7) h111 fun a112 h113 =>
  aa PP (.ld (.c a112) 1 false) h113 fun a114 h115 =>
  vbin .add (f63 4) (.int .i64 1) fun a116 =>
  aa PP (.bld [(.int .i64 0),(.int .i64 0)] [(0,1,(.c (f63 4))),(1,1,(.c (.int .i64 0)))]) h115 fun a117 h118 =>
  aa PP (.bld [(.int .i64 0),(.int .i64 0),(.int .i64 0),(.int .i64 0),(.int .i32 0),(.int .i64 0),(.int .i64 0),(.int .i32 0),(.int .i64 0),(.int .i64 0),(.int .i32 0),(.int .i64 0),(.int .i64 0)] [(0,1,(.c (.int .i64 1))),(11,2,(.c a117))]) h118 fun a119 h120 =>
  aa PP (.iadd (.c a114) (.c a116) 14) h120 fun a121 h122 =>
  aa PP (.fadd (.c a121) 1) h122 fun a123 h124 =>
  aa PP (.st (.c a123) (.c a119) 13) h124 fun a125 h126 =>
  ∃(J127:List D->Heap->Prop),(∀(f128:Nat->D) (h129:Heap),J127 [f128 0,f128 4,f128 119] h129 ->
  vcond (f128 119) (ae PP (.fadd (.c (f128 0)) 0) h129 fun a130 =>
  ae PP (.fadd (.c a130) 2) h129 fun a131 =>
  ae PP (.fadd (.c a131) 7) h129 fun a132 =>
  ae PP (.ld (.c a132) 1 false) h129 fun a133 =>
  vbin .add (f128 4) (.int .i64 1) fun a134 =>
  vbin .add (f128 4) (.int .i64 2) fun a135 =>
  ae PP (.bld [(.int .i64 0),(.int .i64 0)] [(0,1,(.c (f128 4))),(1,1,(.c a135))]) h129 fun a136 =>
  af PP aK [(f128 0)] h129 fun a137 h138 =>
  ((ae PP (.fadd (.c (f128 0)) 0) h138 fun a139=>aX [a139] [a130])/\(ae PP (.fadd (.c a130) 2) h138 fun a140=>aX [a140] [a131])/\(ae PP (.fadd (.c a131) 7) h138 fun a141=>aX [a141] [a132])/\(ae PP (.ld (.c a132) 1 false) h138 fun a142=>aX [a142] [a133])/\True) /\
  ae PP (.bld [(.int .i64 0),(.int .i64 0),(.int .i64 0),(.int .i64 0),(.int .i32 0),(.int .i64 0),(.int .i64 0),(.int .i32 0),(.int .i64 0),(.int .i64 0),(.int .i32 0),(.int .i64 0),(.int .i64 0)] [(0,1,(.c (.int .i64 2))),(5,3,(.c a137)),(11,2,(.c a136))]) h138 fun a143 =>
  ae PP (.iadd (.c a133) (.c a134) 14) h138 fun a144 =>
  ae PP (.fadd (.c a144) 1) h138 fun a145 =>
  aa PP (.st (.c a145) (.c a143) 13) h138 fun a146 h147 =>
  K (.tup []) h147) (
  K (.tup []) h129)) /\
  af PP ah [(f63 0)] h126 fun a148 h149 =>
  vbin .rem a148 (.int .i64 3) fun a150 =>
  vbin .eql a150 (.int .i64 0) fun a151 =>
  aX [] []/\J127 [(f63 0),(f63 4),a151] h149) /\
  aa PP (.fadd (.c a0) 0) h61 fun a152 h153 =>
  aa PP (.fadd (.c a152) 2) h153 fun a154 h155 =>
  aa PP (.fadd (.c a154) 6) h155 fun a156 h157 =>
  aa PP (.ld (.c a156) 1 false) h157 fun a158 h159 =>
  aa PP (.bld [(.int .i64 0),(.int .i64 0),(.int .i64 0)] [(0,1,(.c a34)),(1,1,(.c a12)),(2,1,(.c a16))]) h159 fun a160 h161 =>
  aa PP (.bldS true 3 1 (.agg [(.int .i64 0),(.int .i64 0),(.int .i64 0)]) [(0,(.c a160))]) h161 fun a162 h163 =>
  aa PP (.app (.c a158) (.c a162) 3 24 (.agg [(.int .i64 0),(.int .i64 0),(.int .i64 0)])) h163 fun a164 h165 =>
  aa PP (.fadd (.c a0) 0) h165 fun a166 h167 =>
  aa PP (.fadd (.c a166) 2) h167 fun a168 h169 =>
  aa PP (.fadd (.c a168) 6) h169 fun a170 h171 =>
  aa PP (.st (.c a170) (.c a164) 1) h171 fun a172 h173 =>
  aX [] []/\J62 [a0,a12,a16,a34] h173
theorem oG (a0:D) (h0:Heap) (K:D->Heap->Prop):kB a0 h0 K=vcC PP fV.code (fun x e h'=>match x with|.exit _=>False|.pan=>False|.jump _=>False|_=>bN PP fV.res K e h') (params [a0] 0) h0:=by kernel_rfl
def gd:Nat->Option (List Nat×List Nat)
  | _=>none
def ik:Nat->Option (List Nat×List Nat×List Nat)
  | _=>none
noncomputable def fA:av:=⟨14,eG (cFn PP true aP gd (cDr PP 14 ik)),
  []⟩
theorem ny:cFn PP true aP gd (cDr PP 14 ik)=some fA:=by kernel_rfl
def jD (a0:D) (h0:Heap) (K:D->Heap->Prop):Prop :=
  aa PP (.fadd (.c a0) 0) h0 fun a2 h3 =>
  aa PP (.fadd (.c a2) 2) h3 fun a4 h5 =>
  aa PP (.fadd (.c a4) 7) h5 fun a6 h7 =>
  aa PP (.ld (.c a6) 1 false) h7 fun a8 h9 =>
  aa PP (.bld [.nil,(.int .i64 0),(.int .i64 0),(.int .i64 0),(.int .i64 0),(.int .i32 0),(.int .i64 0),(.int .i64 0),(.int .i32 0),(.int .i64 0),(.int .i64 0),(.int .i32 0),(.int .i64 0),(.int .i64 0)] []) h9 fun a10 h11 =>
  aa PP (.bldS true 14 1 (.agg [.nil,(.int .i64 0),(.int .i64 0),(.int .i64 0),(.int .i64 0),(.int .i32 0),(.int .i64 0),(.int .i64 0),(.int .i32 0),(.int .i64 0),(.int .i64 0),(.int .i32 0),(.int .i64 0),(.int .i64 0)]) [(0,(.c a10))]) h11 fun a12 h13 =>
  aa PP (.app (.c a8) (.c a12) 14 128 (.agg [.nil,(.int .i64 0),(.int .i64 0),(.int .i64 0),(.int .i64 0),(.int .i32 0),(.int .i64 0),(.int .i64 0),(.int .i32 0),(.int .i64 0),(.int .i64 0),(.int .i32 0),(.int .i64 0),(.int .i64 0)])) h13 fun a14 h15 =>
  aa PP (.fadd (.c a0) 0) h15 fun a16 h17 =>
  aa PP (.fadd (.c a16) 2) h17 fun a18 h19 =>
  aa PP (.fadd (.c a18) 7) h19 fun a20 h21 =>
  aa PP (.st (.c a20) (.c a14) 1) h21 fun a22 h23 =>
  K (.tup []) h23
theorem np (a0:D) (h0:Heap) (K:D->Heap->Prop):jD a0 h0 K=vcC PP fA.code (fun x e h'=>match x with|.exit _=>False|.pan=>False|.jump _=>False|_=>bN PP fA.res K e h') (params [a0] 0) h0:=by kernel_rfl
def im:Nat->Option (List Nat×List Nat)
  | _=>none
def jx:Nat->Option (List Nat×List Nat×List Nat)
  | _=>none
noncomputable def gZ:av:=⟨7,eG (cFn PP true aK im (cDr PP 7 jx)),
  [.cell 2 3 true]⟩
theorem jg:cFn PP true aK im (cDr PP 7 jx)=some gZ:=by kernel_rfl
def gT (a0:D) (h0:Heap) (K:D->Heap->Prop):Prop :=
  aa PP (.alloc (.agg [(.int .i64 0),(.int .i64 0),(.int .i32 0)])) h0 fun a2 h3 =>
  af PP ah [a0] h3 fun a4 h5 =>
  vbin .rem a4 (.int .i64 6) fun a6 =>
  af PP bO [a6] h5 fun a7 h8 =>
  aa PP (.st (.c a2) (.c a7) 3) h8 fun a9 h10 =>
  aa PP (.ld (.c a2) 3 true) h10 fun a11 _ =>
  K a11 h10
theorem jd (a0:D) (h0:Heap) (K:D->Heap->Prop):gT a0 h0 K=vcC PP gZ.code (fun x e h'=>match x with|.exit _=>False|.pan=>False|.jump _=>False|_=>bN PP gZ.res K e h') (params [a0] 0) h0:=by kernel_rfl
def il:Nat->Option (List Nat×List Nat)
  | _=>none
def jw:Nat->Option (List Nat×List Nat×List Nat)
  | _=>none
noncomputable def gY:av:=⟨18,eG (cFn PP true aI il (cDr PP 18 jw)),
  [.cell 2 3 true]⟩
theorem jf:cFn PP true aI il (cDr PP 18 jw)=some gY:=by kernel_rfl
def gR (a0:D) (h0:Heap) (K:D->Heap->Prop):Prop :=
  aa PP (.alloc (.agg [(.int .i64 0),(.int .i64 0),(.int .i32 0)])) h0 fun a2 h3 =>
  af PP ah [a0] h3 fun a4 h5 =>
  vbin .rem a4 (.int .i64 3) fun a6 =>
  vbin .eql a6 (.int .i64 0) fun a7 =>
  vcond a7 (vbin .quo a4 (.int .i64 3) fun a8 =>
  aa PP (.conv .i32 (.c a8)) h5 fun a9 h10 =>
  vbin .sub a9 (.int .i32 20) fun a11 =>
  af PP cu [a11] h10 fun a12 h13 =>
  aa PP (.st (.c a2) (.c a12) 3) h13 fun a14 h15 =>
  aa PP (.ld (.c a2) 3 true) h15 fun a16 _ =>
  K a16 h15) (
  vbin .quo a4 (.int .i64 3) fun a17 =>
  vbin .rem a17 (.int .i64 6) fun a18 =>
  af PP bO [a18] h5 fun a19 h20 =>
  aa PP (.st (.c a2) (.c a19) 3) h20 fun a21 h22 =>
  aa PP (.ld (.c a2) 3 true) h22 fun a23 _ =>
  K a23 h22)
theorem jb (a0:D) (h0:Heap) (K:D->Heap->Prop):gR a0 h0 K=vcC PP gY.code (fun x e h'=>match x with|.exit _=>False|.pan=>False|.jump _=>False|_=>bN PP gY.res K e h') (params [a0] 0) h0:=by kernel_rfl
def gb:Nat->Option (List Nat×List Nat)
  | 1=>some ([0],[2])|_=>none
def ij:Nat->Option (List Nat×List Nat×List Nat)
  | _=>none
noncomputable def fy:av:=⟨12,eG (cFn PP true bp gb (cDr PP 12 ij)),
  []⟩
theorem nw:cFn PP true bp gb (cDr PP 12 ij)=some fy:=by kernel_rfl
def gV (a4:D) (h3:Heap) (a0:D) (K:D->Heap->Prop):Prop :=
  ∃(I5:Nat->List D->Heap->Prop) (n₀:Nat),I5 n₀ [a4] h3/\∀(n6:Nat) (f7:Nat->D) (h8:Heap),I5 n6 [f7 2] h8 ->
  vbin .gtr (f7 2) (.int .i64 0) fun a9 =>
  vcond a9 (af PP dM [a0] h8 fun a10 h11 =>
  vbin .sub (f7 2) (.int .i64 1) fun a12 =>
  aX [a0] [a0]/\∃m,m<n6/\I5 m [a12] h11) (
  K (.tup []) h8)
def jC (a0:D) (h0:Heap) (K:D->Heap->Prop):Prop :=
  af PP ah [a0] h0 fun a2 h3 =>
  vbin .rem a2 (.int .i64 5) fun a4 =>
  gV a4 h3 a0 K
theorem nj (a0:D) (h0:Heap) (K:D->Heap->Prop):jC a0 h0 K=vcC PP fy.code (fun x e h'=>match x with|.exit _=>False|.pan=>False|.jump _=>False|_=>bN PP fy.res K e h') (params [a0] 0) h0:=by kernel_rfl
def mh:Nat->Option (List Nat×List Nat)
  | 1000016=>some ([4,5],[])|3=>some ([2,4,5],[6])|7=>some ([2,4,5,7,30,31],[6,32])|1000015=>some ([2,4,5,7,30,31,32],[6])|_=>none
def o0:Nat->Option (List Nat×List Nat×List Nat)
  | 4=>some ([0,1,0,4,12,31,63,127,0,511],[8,9],[])|_=>none
noncomputable def nF:av:=⟨56,eG (cFn PP true eS mh (cDr PP 56 o0)),
  [.t 4,.t 5]⟩
theorem xg:cFn PP true eS mh (cDr PP 56 o0)=some nF:=by kernel_rfl
def nZ (a33:D) (h38:Heap) (a39:D) (a3:D) (a5:D) (a9:D) (a29:D) (a37:D) (n17:Nat) (I16:Nat->List D->Heap->Prop):Prop :=
  ∃(I40:Nat->List D->Heap->Prop) (n₀:Nat),I40 n₀ [a33,(.int .i64 0)] h38/\∀(n41:Nat) (f42:Nat->D) (h43:Heap),I40 n41 [f42 6,f42 32] h43 ->
  vbin .lss (f42 32) a39 fun a44 =>
  vcond a44 (∃(J45:List D->Heap->Prop),(∀(f46:Nat->D) (h47:Heap),J45 [f46 6] h47 ->
  vbin .add (f42 32) (.int .i64 1) fun a48 =>
  aX [a3,a5,a9,a29,a37,a39] [a3,a5,a9,a29,a37,a39]/\∃m,m<n41/\I40 m [(f46 6),a48] h47) /\
  aa PP (.iadd (.c a37) (.c (f42 32)) 1) h43 fun a49 h50 =>
  aa PP (.ld (.c a49) 1 false) h50 fun a51 h52 =>
  aa PP (.fadd (.c a29) 0) h52 fun a53 h54 =>
  aa PP (.ld (.c a53) 1 false) h54 fun a55 h56 =>
  vbin .eql a55 (.int .i64 3) fun a57 =>
  vcond a57 (aa PP (.mupd (.int .i64) (.c a9) (.c a51) (.c (.bool true))) h56 fun a58 h59 =>
  aX [a3,a5,a9,a29,a37,a39,(f42 32)] [a3,a5,a9,a29,a37,a39,(f42 32)]/\J45 [(f42 6)] h59) (
  aa PP (.look (.int .i64) (.c a5) (.c a51) (.bool false) false) h56 fun a60 h61 =>
  vun .not a60 fun a62 =>
  vcond a62 (aa PP (.mupd (.int .i64) (.c a5) (.c a51) (.c (.bool true))) h61 fun a63 h64 =>
  aa PP (.bldS true 1 1 (.int .i64 0) [(0,(.c a51))]) h64 fun a65 h66 =>
  aa PP (.app (.c (f42 6)) (.c a65) 1 8 (.int .i64 0)) h66 fun a67 h68 =>
  aX [a3,a5,a9,a29,a37,a39,(f42 32)] [a3,a5,a9,a29,a37,a39,(f42 32)]/\J45 [a67] h68) (
  aX [a3,a5,a9,a29,a37,a39,(f42 32)] [a3,a5,a9,a29,a37,a39,(f42 32)]/\J45 [(f42 6)] h61))) (
  aX [a3,a5,a9] [a3,a5,a9]/\∃m,m<n17/\I16 m [(f42 6)] h43)
def nY (a11:D) (h12:Heap) (a3:D) (a5:D) (a9:D) (J13:List D->Heap->Prop):Prop :=
  ∃(I16:Nat->List D->Heap->Prop) (n₀:Nat),I16 n₀ [a11] h12/\∀(n17:Nat) (f18:Nat->D) (h19:Heap),I16 n17 [f18 6] h19 ->
  bQ (f18 6) h19 fun a20 =>
  vbin .gtr a20 (.int .i64 0) fun a21 =>
  vcond a21 (ae PP (.fadd (.c a3) 7) h19 fun a22 =>
  ae PP (.ld (.c a22) 1 false) h19 fun a23 =>
  ae PP (.iadd (.c (f18 6)) (.c (.int .i64 0)) 1) h19 fun a24 =>
  ae PP (.ld (.c a24) 1 false) h19 fun a25 =>
  ae PP (.iadd (.c a23) (.c a25) 14) h19 fun a26 =>
  ae PP (.fadd (.c a26) 1) h19 fun a27 =>
  ae PP (.ld (.c a27) 13 true) h19 fun a28 =>
  aa PP (.alloc (.agg [(.int .i64 0),(.int .i64 0),(.int .i64 0),(.int .i64 0),(.int .i32 0),(.int .i64 0),(.int .i64 0),(.int .i32 0),(.int .i64 0),(.int .i64 0),(.int .i32 0),(.int .i64 0),(.int .i64 0)])) h19 fun a29 h30 =>
  aa PP (.st (.c a29) (.c a28) 13) h30 fun a31 h32 =>
  aa PP (.kN (.c (f18 6)) (some (.c (.int .i64 1))) none none 1) h32 fun a33 h34 =>
  aa PP (.ld (.c a29) 13 true) h34 fun a35 h36 =>
  af PP dH [a35] h36 fun a37 h38 =>
  bQ a37 h38 fun a39 =>
  nZ a33 h38 a39 a3 a5 a9 a29 a37 n17 I16) (
  aX [a5,a9] [a5,a9]/\J13 [] h19)
def uh (a0:D) (a1:D) (h0:Heap) (K:D->Heap->Prop):Prop :=
  aa PP (.box (.c a0)) h0 fun a3 h4 =>
  aa PP (.xt (.int .i64)) h4 fun a5 h6 =>
  aa PP (.mupd (.int .i64) (.c a5) (.c a1) (.c (.bool true))) h6 fun a7 h8 =>
  aa PP (.xt (.int .i64)) h8 fun a9 h10 =>
  aa PP (.bldS true 1 1 (.int .i64 0) [(0,(.c a1))]) h10 fun a11 h12 =>
  ∃(J13:List D->Heap->Prop),(∀(f14:Nat->D) (h15:Heap),J13 [] h15 ->
  K (.tup [a5,a9]) h15) /\
  nY a11 h12 a3 a5 a9 J13
theorem wY (a0:D) (a1:D) (h0:Heap) (K:D->Heap->Prop):uh a0 a1 h0 K=vcC PP nF.code (fun x e h'=>match x with|.exit _=>False|.pan=>False|.jump _=>False|_=>bN PP nF.res K e h') (params [a0,a1] 0) h0:=by kernel_rfl
def b9:Nat->Option (List Nat×List Nat)
  | _=>none
def ct:Nat->Option (List Nat×List Nat×List Nat)
  | _=>none
noncomputable def bH:av:=⟨4,eG (cFn PP true aB b9 (cDr PP 4 ct)),
  [.t 2]⟩
theorem fC:cFn PP true aB b9 (cDr PP 4 ct)=some bH:=by kernel_rfl
def cG (a0:D) (h0:Heap) (K:D->Heap->Prop):Prop :=
  aa PP (.box (.c a0)) h0 fun a2 h3 =>
  aa PP (.mkf fp [] [(.c a2)]) h3 fun a4 h5 =>
  K a4 h5
theorem fu (a0:D) (h0:Heap) (K:D->Heap->Prop):cG a0 h0 K=vcC PP bH.code (fun x e h'=>match x with|.exit _=>False|.pan=>False|.jump _=>False|_=>bN PP bH.res K e h') (params [a0] 0) h0:=by kernel_rfl
def b8:Nat->Option (List Nat×List Nat)
  | _=>none
def cr:Nat->Option (List Nat×List Nat×List Nat)
  | _=>none
noncomputable def bG:av:=⟨4,eG (cFn PP true aM b8 (cDr PP 4 cr)),
  [.t 2]⟩
theorem fB:cFn PP true aM b8 (cDr PP 4 cr)=some bG:=by kernel_rfl
def cF (a0:D) (h0:Heap) (K:D->Heap->Prop):Prop :=
  aa PP (.box (.c a0)) h0 fun a2 h3 =>
  aa PP (.mkf fo [] [(.c a2)]) h3 fun a4 h5 =>
  K a4 h5
theorem ft (a0:D) (h0:Heap) (K:D->Heap->Prop):cF a0 h0 K=vcC PP bG.code (fun x e h'=>match x with|.exit _=>False|.pan=>False|.jump _=>False|_=>bN PP bG.res K e h') (params [a0] 0) h0:=by kernel_rfl
def tK:Nat->Option (List Nat×List Nat)
  | 1000015=>some ([3],[])|4=>some ([1,3],[4])|1000006=>some ([1,3,4],[])|7=>some ([1,3,4],[5])|1000009=>some ([1,3,4,5],[])|11=>some ([1,3,4,5,6],[7])|_=>none
def wF:Nat->Option (List Nat×List Nat×List Nat)
  | _=>none
def rN:av:=⟨54,
  .seq (.reg [⟨(some 1),.box (.t 0),none⟩,
    ⟨(some 2),.mov (.c .nil),none⟩]) <|
  .seq (.reg [⟨(some 8),.fadd (.t 1) 7,none⟩,
    ⟨(some 9),.ld (.t 8) 1 false,none⟩,
    ⟨(some 10),.len (.t 9),none⟩,
    ⟨(some 11),.mk 1 1 (.bool false) (.t 10) (.t 10),none⟩,
    ⟨(some 3),.mov (.t 11),none⟩]) <|
  .seq (.reg [⟨(some 12),.mov (.t 3),none⟩,
    ⟨(some 13),.iadd (.t 12) (.c (.int .i64 0)) 1,none⟩,
    ⟨none,.st (.t 13) (.c (.bool true)) 1,none⟩]) <|
  .seqj [3] [] (.seq (.reg [⟨(some 4),.mov (.c (.int .i64 0)),none⟩]) <|
  .block 0 (.loop [1,3] [4] (.seq (.seq (.reg [⟨(some 14),.mov (.t 4),none⟩,
    ⟨(some 15),.fadd (.t 1) 7,none⟩,
    ⟨(some 16),.ld (.t 15) 1 false,none⟩,
    ⟨(some 17),.len (.t 16),none⟩,
    ⟨(some 18),.bin .lss (.t 14) (.t 17),none⟩]) <|
  .cond (.t 18) (.skip) (.exit 0)) <|
  .seqj [1,3,4] [] (.block 1 (.seq (.reg [⟨(some 5),.mov (.c (.int .i64 0)),none⟩]) <|
  .block 2 (.loop [1,3,4] [5] (.seq (.seq (.reg [⟨(some 21),.mov (.t 5),none⟩,
    ⟨(some 22),.fadd (.t 1) 7,none⟩,
    ⟨(some 23),.ld (.t 22) 1 false,none⟩,
    ⟨(some 24),.len (.t 23),none⟩,
    ⟨(some 25),.bin .lss (.t 21) (.t 24),none⟩]) <|
  .cond (.t 25) (.skip) (.exit 2)) <|
  .seqj [1,3,4,5] [] (.block 3 (.seq (.reg [⟨(some 28),.fadd (.t 1) 7,none⟩,
    ⟨(some 29),.ld (.t 28) 1 false,none⟩,
    ⟨(some 30),.mov (.t 5),none⟩,
    ⟨(some 31),.iadd (.t 29) (.t 30) 14,none⟩,
    ⟨(some 32),.fadd (.t 31) 1,none⟩,
    ⟨(some 33),.ld (.t 32) 13 true,none⟩,
    ⟨(some 34),.call tu [(.t 33)],none⟩,
    ⟨(some 6),.mov (.t 34),none⟩]) <|
  .seq (.reg [⟨(some 7),.mov (.c (.int .i64 0)),none⟩]) <|
  .block 4 (.loop [1,3,4,5,6] [7] (.seq (.seq (.reg [⟨(some 35),.mov (.t 7),none⟩,
    ⟨(some 36),.mov (.t 6),none⟩,
    ⟨(some 37),.len (.t 36),none⟩,
    ⟨(some 38),.bin .lss (.t 35) (.t 37),none⟩,
    ⟨(some 39),.mov (.t 38),none⟩,
    ⟨(some 40),.mov (.t 3),some (39,true)⟩,
    ⟨(some 41),.mov (.t 5),some (39,true)⟩,
    ⟨(some 42),.iadd (.t 40) (.t 41) 1,some (39,true)⟩,
    ⟨(some 43),.ld (.t 42) 1 false,some (39,true)⟩,
    ⟨(some 44),.pick (.t 39) (.t 43) (.c (.bool false)),none⟩]) <|
  .cond (.t 44) (.skip) (.exit 4)) <|
  .seq (.block 5 (.reg [⟨(some 47),.mov (.t 3),none⟩,
    ⟨(some 48),.mov (.t 6),none⟩,
    ⟨(some 49),.mov (.t 7),none⟩,
    ⟨(some 50),.iadd (.t 48) (.t 49) 1,none⟩,
    ⟨(some 51),.ld (.t 50) 1 false,none⟩,
    ⟨(some 52),.iadd (.t 47) (.t 51) 1,none⟩,
    ⟨none,.st (.t 52) (.c (.bool true)) 1,none⟩])) <|
  .reg [⟨(some 45),.mov (.t 7),none⟩,
    ⟨(some 46),.bin .add (.t 45) (.c (.int .i64 1)),none⟩,
    ⟨(some 7),.mov (.t 46),none⟩])))) <|
  .reg [⟨(some 26),.mov (.t 5),none⟩,
    ⟨(some 27),.bin .add (.t 26) (.c (.int .i64 1)),none⟩,
    ⟨(some 5),.mov (.t 27),none⟩])))) <|
  .reg [⟨(some 19),.mov (.t 4),none⟩,
    ⟨(some 20),.bin .add (.t 19) (.c (.int .i64 1)),none⟩,
    ⟨(some 4),.mov (.t 20),none⟩]))) <|
  .seq (.reg [⟨(some 53),.mov (.t 3),none⟩,
    ⟨(some 2),.mov (.t 53),none⟩]) <|
  .ret,
  [.t 2]⟩
theorem vz:cFn PP true qZ tK (cDr PP 54 wF)=some rN:=by kernel_rfl
def qB:Nat->Option (List Nat×List Nat)
  | 1000014=>some ([5],[])|4=>some ([1,3,4,5],[6])|1000006=>some ([1,3,4,5,6],[])|7=>some ([1,3,4,5,6],[7])|1000009=>some ([1,3,4,5,6,7],[])|_=>none
def sX:Nat->Option (List Nat×List Nat×List Nat)
  | 1=>some ([0,1,3,0,15,31,63],[1,2,4],[999999])|_=>none
def oi:av:=⟨92,
  .seq (.reg [⟨(some 1),.box (.t 0),none⟩,
    ⟨(some 2),.mov (.c .nil),none⟩]) <|
  .seq (.seq (.dreg [⟨(some 9),.ld (.t 1) 8 true,none⟩,
    ⟨(some 12),.ld (.t 1) 8 true,none⟩] [⟨(some 10),.call lJ [(.t 9)],none⟩] [⟨(some 12),.ld (.t 1) 8 true,none⟩]) <|
  .seq (.dreg [] [⟨(some 11),.call cR [(.t 10),(.c (.int .i64 0)),(.c (.int .i64 (-1)))],none⟩] [⟨(some 12),.ld (.t 1) 8 true,none⟩]) <|
  .seq (.dreg [] [⟨(some 13),.call qY [(.t 12)],none⟩] []) <|
  .dreg [⟨(some 3),.mov (.t 11),none⟩,
    ⟨(some 4),.mov (.t 13),none⟩] [] []) <|
  .seq (.reg [⟨(some 14),.fadd (.t 1) 7,none⟩,
    ⟨(some 15),.ld (.t 14) 1 false,none⟩,
    ⟨(some 16),.len (.t 15),none⟩,
    ⟨(some 17),.mk 1 24 .nil (.t 16) (.t 16),none⟩,
    ⟨(some 5),.mov (.t 17),none⟩]) <|
  .seqj [5] [] (.seq (.reg [⟨(some 6),.mov (.c (.int .i64 0)),none⟩]) <|
  .block 0 (.loop [1,3,4,5] [6] (.seq (.seq (.reg [⟨(some 18),.mov (.t 6),none⟩,
    ⟨(some 19),.fadd (.t 1) 7,none⟩,
    ⟨(some 20),.ld (.t 19) 1 false,none⟩,
    ⟨(some 21),.len (.t 20),none⟩,
    ⟨(some 22),.bin .lss (.t 18) (.t 21),none⟩]) <|
  .cond (.t 22) (.skip) (.exit 0)) <|
  .seqj [1,3,4,5,6] [] (.block 1 (.seq (.reg [⟨(some 7),.mov (.c (.int .i64 0)),none⟩]) <|
  .block 2 (.loop [1,3,4,5,6] [7] (.seq (.seq (.reg [⟨(some 25),.mov (.t 7),none⟩,
    ⟨(some 26),.fadd (.t 1) 7,none⟩,
    ⟨(some 27),.ld (.t 26) 1 false,none⟩,
    ⟨(some 28),.len (.t 27),none⟩,
    ⟨(some 29),.bin .lss (.t 25) (.t 28),none⟩]) <|
  .cond (.t 29) (.skip) (.exit 2)) <|
  .seqj [1,3,4,5,6,7] [] (.block 3 (.seq (.reg [⟨(some 32),.fadd (.t 1) 7,none⟩,
    ⟨(some 33),.ld (.t 32) 1 false,none⟩,
    ⟨(some 34),.mov (.t 7),none⟩,
    ⟨(some 35),.iadd (.t 33) (.t 34) 14,none⟩,
    ⟨(some 36),.fadd (.t 35) 1,none⟩,
    ⟨(some 37),.ld (.t 36) 13 true,none⟩,
    ⟨(some 38),.call jO [(.t 37)],none⟩,
    ⟨(some 8),.mov (.t 38),none⟩]) <|
  .seq (.seq (.reg [⟨(some 39),.mov (.t 3),none⟩,
    ⟨(some 40),.mov (.t 7),none⟩,
    ⟨(some 41),.iadd (.t 39) (.t 40) 1,none⟩,
    ⟨(some 42),.ld (.t 41) 1 false,none⟩,
    ⟨(some 43),.un .not (.t 42),none⟩,
    ⟨(some 44),.mov (.t 43),none⟩,
    ⟨(some 45),.mov (.t 3),some (44,false)⟩,
    ⟨(some 46),.mov (.t 6),some (44,false)⟩,
    ⟨(some 47),.iadd (.t 45) (.t 46) 1,some (44,false)⟩,
    ⟨(some 48),.ld (.t 47) 1 false,some (44,false)⟩,
    ⟨(some 49),.un .not (.t 48),some (44,false)⟩,
    ⟨(some 50),.pick (.t 44) (.c (.bool true)) (.t 49),none⟩,
    ⟨(some 51),.mov (.t 50),none⟩,
    ⟨(some 52),.mov (.t 8),some (51,false)⟩,
    ⟨(some 53),.len (.t 52),some (51,false)⟩,
    ⟨(some 54),.bin .neq (.t 53) (.c (.int .i64 2)),some (51,false)⟩,
    ⟨(some 55),.pick (.t 51) (.c (.bool true)) (.t 54),none⟩,
    ⟨(some 56),.mov (.t 55),none⟩,
    ⟨(some 57),.mov (.t 7),some (56,false)⟩,
    ⟨(some 58),.mov (.t 6),some (56,false)⟩,
    ⟨(some 59),.bin .neq (.t 57) (.t 58),some (56,false)⟩,
    ⟨(some 60),.mov (.t 59),some (56,false)⟩,
    ⟨(some 61),.mov (.t 4),some (60,true)⟩,
    ⟨(some 62),.mov (.t 7),some (60,true)⟩,
    ⟨(some 63),.mov (.t 6),some (60,true)⟩,
    ⟨(some 64),.call iH [(.t 61),(.t 62),(.t 63)],some (60,true)⟩,
    ⟨(some 65),.pick (.t 60) (.t 64) (.c (.bool false)),some (56,false)⟩,
    ⟨(some 66),.pick (.t 56) (.c (.bool true)) (.t 65),none⟩]) <|
  .cond (.t 66) (.exit 3) (.skip)) <|
  .seq (.reg [⟨(some 67),.mov (.t 4),none⟩,
    ⟨(some 68),.mov (.t 8),none⟩,
    ⟨(some 69),.iadd (.t 68) (.c (.int .i64 0)) 1,none⟩,
    ⟨(some 70),.ld (.t 69) 1 false,none⟩,
    ⟨(some 71),.mov (.t 6),none⟩,
    ⟨(some 72),.call iH [(.t 67),(.t 70),(.t 71)],none⟩,
    ⟨(some 73),.mov (.t 72),none⟩,
    ⟨(some 74),.mov (.t 4),some (73,false)⟩,
    ⟨(some 75),.mov (.t 8),some (73,false)⟩,
    ⟨(some 76),.iadd (.t 75) (.c (.int .i64 1)) 1,some (73,false)⟩,
    ⟨(some 77),.ld (.t 76) 1 false,some (73,false)⟩,
    ⟨(some 78),.mov (.t 6),some (73,false)⟩,
    ⟨(some 79),.call iH [(.t 74),(.t 77),(.t 78)],some (73,false)⟩,
    ⟨(some 80),.pick (.t 73) (.c (.bool true)) (.t 79),none⟩]) <|
  .cond (.t 80) (.reg [⟨(some 81),.mov (.t 5),none⟩,
    ⟨(some 82),.mov (.t 6),none⟩,
    ⟨(some 83),.mov (.t 5),none⟩,
    ⟨(some 84),.mov (.t 6),none⟩,
    ⟨(some 85),.iadd (.t 83) (.t 84) 1,none⟩,
    ⟨(some 86),.ld (.t 85) 1 false,none⟩,
    ⟨(some 87),.mov (.t 7),none⟩,
    ⟨(some 88),.bldS true 1 1 (.int .i64 0) [(0,(.t 87))],none⟩,
    ⟨(some 89),.app (.t 86) (.t 88) 1 8 (.int .i64 0),none⟩,
    ⟨(some 90),.iadd (.t 81) (.t 82) 1,none⟩,
    ⟨none,.st (.t 90) (.t 89) 1,none⟩]) (.skip))) <|
  .reg [⟨(some 30),.mov (.t 7),none⟩,
    ⟨(some 31),.bin .add (.t 30) (.c (.int .i64 1)),none⟩,
    ⟨(some 7),.mov (.t 31),none⟩])))) <|
  .reg [⟨(some 23),.mov (.t 6),none⟩,
    ⟨(some 24),.bin .add (.t 23) (.c (.int .i64 1)),none⟩,
    ⟨(some 6),.mov (.t 24),none⟩]))) <|
  .seq (.reg [⟨(some 91),.mov (.t 5),none⟩,
    ⟨(some 2),.mov (.t 91),none⟩]) <|
  .ret,
  [.t 2]⟩
theorem sH:cFn PP true cL qB (cDr PP 92 sX)=some oi:=by kernel_rfl
def tE:Nat->Option (List Nat×List Nat)
  | 1000010=>some ([],[])|4=>some ([2,4,5,8],[11])|_=>none
def wz:Nat->Option (List Nat×List Nat×List Nat)
  | 7=>some ([0,1,0,7,15,31,63,127,127,383,127,1919,3967,8063,16255,32767,65535,131071],[],[])|_=>none
def rG:av:=⟨52,
  .seq (.reg [⟨(some 5),.box (.t 0),none⟩,
    ⟨(some 8),.box (.t 3),none⟩,
    ⟨(some 10),.mov (.c (.bool false)),none⟩]) <|
  .seq (.seq (.reg [⟨(some 13),.mov (.t 1),none⟩,
    ⟨(some 14),.mov (.t 4),none⟩,
    ⟨(some 15),.iadd (.t 13) (.t 14) 1,none⟩,
    ⟨(some 16),.ld (.t 15) 1 false,none⟩,
    ⟨(some 17),.un .not (.t 16),none⟩]) <|
  .cond (.t 17) (.seq (.reg [⟨(some 10),.mov (.c (.bool false)),none⟩]) <|
  .ret) (.skip)) <|
  .seqj [] [] (.seq (.reg [⟨(some 11),.mov (.c (.int .i64 0)),none⟩]) <|
  .block 0 (.loop [2,4,5,8] [11] (.seq (.seq (.reg [⟨(some 18),.mov (.t 11),none⟩,
    ⟨(some 19),.mov (.t 2),none⟩,
    ⟨(some 20),.mov (.t 4),none⟩,
    ⟨(some 21),.iadd (.t 19) (.t 20) 1,none⟩,
    ⟨(some 22),.ld (.t 21) 1 false,none⟩,
    ⟨(some 23),.len (.t 22),none⟩,
    ⟨(some 24),.bin .lss (.t 18) (.t 23),none⟩]) <|
  .cond (.t 24) (.skip) (.exit 0)) <|
  .seq (.block 1 (.seq (.reg [⟨(some 27),.mov (.t 2),none⟩,
    ⟨(some 28),.mov (.t 4),none⟩,
    ⟨(some 29),.iadd (.t 27) (.t 28) 1,none⟩,
    ⟨(some 30),.ld (.t 29) 1 false,none⟩,
    ⟨(some 31),.mov (.t 11),none⟩,
    ⟨(some 32),.iadd (.t 30) (.t 31) 1,none⟩,
    ⟨(some 33),.ld (.t 32) 1 false,none⟩,
    ⟨(some 12),.mov (.t 33),none⟩]) <|
  .seq (.dreg [⟨(some 34),.fadd (.t 8) 0,none⟩,
    ⟨(some 35),.ld (.t 34) 1 false,none⟩,
    ⟨(some 36),.mov (.t 12),none⟩,
    ⟨(some 37),.iadd (.t 35) (.t 36) 1,none⟩,
    ⟨(some 38),.ld (.t 37) 1 false,none⟩,
    ⟨(some 39),.un .not (.t 38),none⟩,
    ⟨(some 40),.mov (.t 39),none⟩,
    ⟨(some 41),.ld (.t 8) 2 true,some (40,false)⟩,
    ⟨(some 42),.fadd (.t 5) 7,some (40,false)⟩,
    ⟨(some 43),.ld (.t 42) 1 false,some (40,false)⟩,
    ⟨(some 44),.mov (.t 12),some (40,false)⟩,
    ⟨(some 45),.iadd (.t 43) (.t 44) 14,some (40,false)⟩,
    ⟨(some 46),.fadd (.t 45) 1,some (40,false)⟩,
    ⟨(some 47),.fadd (.t 46) 5,some (40,false)⟩,
    ⟨(some 48),.ld (.t 47) 3 true,some (40,false)⟩,
    ⟨(some 49),.call dm [(.t 41),(.t 48)],some (40,false)⟩,
    ⟨(some 50),.un .not (.t 49),some (40,false)⟩,
    ⟨(some 51),.pick (.t 40) (.c (.bool true)) (.t 50),none⟩] [] []) <|
  .cond (.t 51) (.seq (.reg [⟨(some 10),.mov (.c (.bool false)),none⟩]) <|
  .ret) (.skip))) <|
  .reg [⟨(some 25),.mov (.t 11),none⟩,
    ⟨(some 26),.bin .add (.t 25) (.c (.int .i64 1)),none⟩,
    ⟨(some 11),.mov (.t 26),none⟩]))) <|
  .seq (.reg [⟨(some 10),.mov (.c (.bool true)),none⟩]) <|
  .ret,
  [.t 10]⟩
theorem vq:cFn PP true qW tE (cDr PP 52 wz)=some rG:=by kernel_rfl
def pn:Nat->Option (List Nat×List Nat)
  | 1000014=>some ([],[])|2=>some ([1,3,4,6],[9])|1000004=>some ([1,3,4,6,9],[])|8=>some ([1,3,4,6,9],[10])|_=>none
def rV:Nat->Option (List Nat×List Nat×List Nat)
  | _=>none
def mC:av:=⟨91,
  .seq (.reg [⟨(some 4),.box (.t 0),none⟩,
    ⟨(some 6),.box (.t 2),none⟩,
    ⟨(some 8),.mov (.c (.bool false)),none⟩]) <|
  .seqj [] [] (.seq (.reg [⟨(some 9),.mov (.c (.int .i64 0)),none⟩]) <|
  .block 0 (.loop [1,3,4,6] [9] (.seq (.seq (.reg [⟨(some 12),.mov (.t 9),none⟩,
    ⟨(some 13),.fadd (.t 4) 7,none⟩,
    ⟨(some 14),.ld (.t 13) 1 false,none⟩,
    ⟨(some 15),.len (.t 14),none⟩,
    ⟨(some 16),.bin .lss (.t 12) (.t 15),none⟩]) <|
  .cond (.t 16) (.skip) (.exit 0)) <|
  .seqj [1,3,4,6,9] [] (.block 1 (.seq (.seq (.reg [⟨(some 19),.mov (.t 1),none⟩,
    ⟨(some 20),.mov (.t 9),none⟩,
    ⟨(some 21),.iadd (.t 19) (.t 20) 1,none⟩,
    ⟨(some 22),.ld (.t 21) 1 false,none⟩,
    ⟨(some 23),.un .not (.t 22),none⟩]) <|
  .cond (.t 23) (.exit 1) (.skip)) <|
  .seq (.seq (.reg [⟨(some 24),.fadd (.t 4) 7,none⟩,
    ⟨(some 25),.ld (.t 24) 1 false,none⟩,
    ⟨(some 26),.mov (.t 9),none⟩,
    ⟨(some 27),.iadd (.t 25) (.t 26) 14,none⟩,
    ⟨(some 28),.fadd (.t 27) 1,none⟩,
    ⟨(some 29),.ld (.t 28) 13 true,none⟩,
    ⟨(some 30),.call tv [(.t 29)],none⟩,
    ⟨(some 31),.mov (.t 3),none⟩,
    ⟨(some 32),.bin .eql (.t 30) (.t 31),none⟩]) <|
  .cond (.t 32) (.seq (.reg [⟨(some 8),.mov (.c (.bool false)),none⟩]) <|
  .ret) (.skip)) <|
  .seq (.reg [⟨(some 10),.mov (.c (.int .i64 0)),none⟩]) <|
  .block 2 (.loop [1,3,4,6,9] [10] (.seq (.seq (.reg [⟨(some 33),.mov (.t 10),none⟩,
    ⟨(some 34),.fadd (.t 4) 7,none⟩,
    ⟨(some 35),.ld (.t 34) 1 false,none⟩,
    ⟨(some 36),.mov (.t 9),none⟩,
    ⟨(some 37),.iadd (.t 35) (.t 36) 14,none⟩,
    ⟨(some 38),.fadd (.t 37) 0,none⟩,
    ⟨(some 39),.ld (.t 38) 1 false,none⟩,
    ⟨(some 40),.len (.t 39),none⟩,
    ⟨(some 41),.bin .lss (.t 33) (.t 40),none⟩]) <|
  .cond (.t 41) (.skip) (.exit 2)) <|
  .seq (.block 3 (.seq (.reg [⟨(some 44),.fadd (.t 4) 7,none⟩,
    ⟨(some 45),.ld (.t 44) 1 false,none⟩,
    ⟨(some 46),.mov (.t 9),none⟩,
    ⟨(some 47),.iadd (.t 45) (.t 46) 14,none⟩,
    ⟨(some 48),.fadd (.t 47) 0,none⟩,
    ⟨(some 49),.ld (.t 48) 1 false,none⟩,
    ⟨(some 50),.mov (.t 10),none⟩,
    ⟨(some 51),.iadd (.t 49) (.t 50) 15,none⟩,
    ⟨(some 52),.ld (.t 51) 15 true,none⟩,
    ⟨(some 11),.alloc (.agg [(.int .i64 0),(.int .i64 0),(.int .i64 0),(.int .i64 0),(.int .i64 0),(.int .i32 0),(.int .i64 0),(.int .i64 0),(.int .i32 0),(.int .i64 0),(.int .i64 0),(.int .i32 0),(.int .i64 0),(.int .i64 0),(.int .i32 0)]),none⟩,
    ⟨none,.st (.t 11) (.t 52) 15,none⟩]) <|
  .seq (.reg [⟨(some 53),.ld (.t 11) 15 true,none⟩,
    ⟨(some 54),.call vS [(.t 53)],none⟩,
    ⟨(some 55),.mov (.t 3),none⟩,
    ⟨(some 56),.bin .eql (.t 54) (.t 55),none⟩,
    ⟨(some 57),.mov (.t 56),none⟩,
    ⟨(some 58),.fadd (.t 6) 0,some (57,true)⟩,
    ⟨(some 59),.ld (.t 58) 1 false,some (57,true)⟩,
    ⟨(some 60),.mov (.t 9),some (57,true)⟩,
    ⟨(some 61),.iadd (.t 59) (.t 60) 1,some (57,true)⟩,
    ⟨(some 62),.ld (.t 61) 1 false,some (57,true)⟩,
    ⟨(some 63),.un .not (.t 62),some (57,true)⟩,
    ⟨(some 64),.mov (.t 63),some (57,true)⟩,
    ⟨(some 65),.ld (.t 11) 15 true,some (64,false)⟩,
    ⟨(some 66),.call pd [(.t 65)],some (64,false)⟩,
    ⟨(some 67),.un .not (.t 66),some (64,false)⟩,
    ⟨(some 68),.pick (.t 64) (.c (.bool true)) (.t 67),some (57,true)⟩,
    ⟨(some 69),.mov (.t 68),some (57,true)⟩,
    ⟨(some 70),.ld (.t 6) 2 true,some (69,false)⟩,
    ⟨(some 71),.fadd (.t 11) 6,some (69,false)⟩,
    ⟨(some 72),.ld (.t 71) 3 true,some (69,false)⟩,
    ⟨(some 73),.call dm [(.t 70),(.t 72)],some (69,false)⟩,
    ⟨(some 74),.un .not (.t 73),some (69,false)⟩,
    ⟨(some 75),.pick (.t 69) (.c (.bool true)) (.t 74),some (57,true)⟩,
    ⟨(some 76),.mov (.t 75),some (57,true)⟩,
    ⟨(some 77),.ld (.t 6) 2 true,some (76,false)⟩,
    ⟨(some 78),.fadd (.t 11) 9,some (76,false)⟩,
    ⟨(some 79),.ld (.t 78) 3 true,some (76,false)⟩,
    ⟨(some 80),.call dm [(.t 77),(.t 79)],some (76,false)⟩,
    ⟨(some 81),.un .not (.t 80),some (76,false)⟩,
    ⟨(some 82),.pick (.t 76) (.c (.bool true)) (.t 81),some (57,true)⟩,
    ⟨(some 83),.mov (.t 82),some (57,true)⟩,
    ⟨(some 84),.ld (.t 6) 2 true,some (83,false)⟩,
    ⟨(some 85),.fadd (.t 11) 12,some (83,false)⟩,
    ⟨(some 86),.ld (.t 85) 3 true,some (83,false)⟩,
    ⟨(some 87),.call dm [(.t 84),(.t 86)],some (83,false)⟩,
    ⟨(some 88),.un .not (.t 87),some (83,false)⟩,
    ⟨(some 89),.pick (.t 83) (.c (.bool true)) (.t 88),some (57,true)⟩,
    ⟨(some 90),.pick (.t 57) (.t 89) (.c (.bool false)),none⟩]) <|
  .cond (.t 90) (.seq (.reg [⟨(some 8),.mov (.c (.bool false)),none⟩]) <|
  .ret) (.skip))) <|
  .reg [⟨(some 42),.mov (.t 10),none⟩,
    ⟨(some 43),.bin .add (.t 42) (.c (.int .i64 1)),none⟩,
    ⟨(some 10),.mov (.t 43),none⟩])))) <|
  .reg [⟨(some 17),.mov (.t 9),none⟩,
    ⟨(some 18),.bin .add (.t 17) (.c (.int .i64 1)),none⟩,
    ⟨(some 9),.mov (.t 18),none⟩]))) <|
  .seq (.reg [⟨(some 8),.mov (.c (.bool true)),none⟩]) <|
  .ret,
  [.t 8]⟩
theorem qK:cFn PP true ma pn (cDr PP 91 rV)=some mC:=by kernel_rfl
def pq:Nat->Option (List Nat×List Nat)
  | 1000009=>some ([],[])|4=>some ([0,1],[5])|_=>none
def rX:Nat->Option (List Nat×List Nat×List Nat)
  | 6=>some ([0,0,3,7,0,0,48,112,255],[],[])|_=>none
def mF:av:=⟨26,
  .seq (.reg [⟨(some 4),.mov (.c (.bool false)),none⟩]) <|
  .seq (.seq (.reg [⟨(some 6),.mov (.t 0),none⟩,
    ⟨(some 7),.len (.t 6),none⟩,
    ⟨(some 8),.mov (.t 1),none⟩,
    ⟨(some 9),.len (.t 8),none⟩,
    ⟨(some 10),.bin .neq (.t 7) (.t 9),none⟩]) <|
  .cond (.t 10) (.seq (.reg [⟨(some 4),.mov (.c (.bool false)),none⟩]) <|
  .ret) (.skip)) <|
  .seqj [] [] (.seq (.reg [⟨(some 5),.mov (.c (.int .i64 0)),none⟩]) <|
  .block 0 (.loop [0,1] [5] (.seq (.seq (.reg [⟨(some 11),.mov (.t 5),none⟩,
    ⟨(some 12),.mov (.t 0),none⟩,
    ⟨(some 13),.len (.t 12),none⟩,
    ⟨(some 14),.bin .lss (.t 11) (.t 13),none⟩]) <|
  .cond (.t 14) (.skip) (.exit 0)) <|
  .seq (.block 1 (.seq (.dreg [⟨(some 17),.mov (.t 0),none⟩,
    ⟨(some 18),.mov (.t 5),none⟩,
    ⟨(some 19),.iadd (.t 17) (.t 18) 1,none⟩,
    ⟨(some 20),.ld (.t 19) 1 false,none⟩,
    ⟨(some 21),.mov (.t 1),none⟩,
    ⟨(some 22),.mov (.t 5),none⟩,
    ⟨(some 23),.iadd (.t 21) (.t 22) 1,none⟩,
    ⟨(some 24),.ld (.t 23) 1 false,none⟩,
    ⟨(some 25),.bin .neq (.t 20) (.t 24),none⟩] [] []) <|
  .cond (.t 25) (.seq (.reg [⟨(some 4),.mov (.c (.bool false)),none⟩]) <|
  .ret) (.skip))) <|
  .reg [⟨(some 15),.mov (.t 5),none⟩,
    ⟨(some 16),.bin .add (.t 15) (.c (.int .i64 1)),none⟩,
    ⟨(some 5),.mov (.t 16),none⟩]))) <|
  .seq (.reg [⟨(some 4),.mov (.c (.bool true)),none⟩]) <|
  .ret,
  [.t 4]⟩
theorem qM:cFn PP true ix pq (cDr PP 26 rX)=some mF:=by kernel_rfl
def sq:Nat->Option (List Nat×List Nat)
  | 1000008=>some ([1,2],[])|2=>some ([1,2,3,9,10],[11])|_=>none
def uI:Nat->Option (List Nat×List Nat×List Nat)
  | _=>none
def hO:av:=⟨42,
  .seq (.reg [⟨(some 3),.box (.t 0),none⟩,
    ⟨(some 6),.mov (.c (.bool false)),none⟩]) <|
  .seqj [1,2] [] (.seq (.reg [⟨(some 9),.mov (.t 1),none⟩,
    ⟨(some 10),.len (.t 9),none⟩,
    ⟨(some 11),.mov (.c (.int .i64 0)),none⟩]) <|
  .block 0 (.loop [1,2,3,9,10] [11] (.seq (.reg [⟨(some 12),.bin .lss (.t 11) (.t 10),none⟩]) <|
  .seq (.cond (.t 12) (.skip) (.exit 0)) <|
  .seq (.block 1 (.seq (.reg [⟨(some 13),.mov (.t 11),none⟩,
    ⟨(some 14),.iadd (.t 9) (.t 11) 1,none⟩,
    ⟨(some 15),.ld (.t 14) 1 false,none⟩,
    ⟨(some 7),.mov (.t 13),none⟩,
    ⟨(some 8),.mov (.t 15),none⟩]) <|
  .seq (.reg [⟨(some 16),.mov (.t 8),none⟩,
    ⟨(some 17),.bin .lss (.t 16) (.c (.int .i64 0)),none⟩,
    ⟨(some 18),.mov (.t 17),none⟩,
    ⟨(some 19),.mov (.t 8),some (18,false)⟩,
    ⟨(some 20),.fadd (.t 3) 7,some (18,false)⟩,
    ⟨(some 21),.ld (.t 20) 1 false,some (18,false)⟩,
    ⟨(some 22),.len (.t 21),some (18,false)⟩,
    ⟨(some 23),.bin .geq (.t 19) (.t 22),some (18,false)⟩,
    ⟨(some 24),.pick (.t 18) (.c (.bool true)) (.t 23),none⟩,
    ⟨(some 25),.mov (.t 24),none⟩,
    ⟨(some 26),.mov (.t 7),some (25,false)⟩,
    ⟨(some 27),.bin .gtr (.t 26) (.c (.int .i64 0)),some (25,false)⟩,
    ⟨(some 28),.mov (.t 27),some (25,false)⟩,
    ⟨(some 29),.mov (.t 1),some (28,true)⟩,
    ⟨(some 30),.mov (.t 7),some (28,true)⟩,
    ⟨(some 31),.bin .sub (.t 30) (.c (.int .i64 1)),some (28,true)⟩,
    ⟨(some 32),.iadd (.t 29) (.t 31) 1,some (28,true)⟩,
    ⟨(some 33),.ld (.t 32) 1 false,some (28,true)⟩,
    ⟨(some 34),.mov (.t 8),some (28,true)⟩,
    ⟨(some 35),.bin .geq (.t 33) (.t 34),some (28,true)⟩,
    ⟨(some 36),.pick (.t 28) (.t 35) (.c (.bool false)),some (25,false)⟩,
    ⟨(some 37),.pick (.t 25) (.c (.bool true)) (.t 36),none⟩]) <|
  .cond (.t 37) (.seq (.reg [⟨(some 6),.mov (.c (.bool false)),none⟩]) <|
  .ret) (.skip))) <|
  .reg [⟨(some 38),.bin .add (.t 11) (.c (.int .i64 1)),none⟩,
    ⟨(some 11),.mov (.t 38),none⟩]))) <|
  .seq (.reg [⟨(some 39),.mov (.t 1),none⟩,
    ⟨(some 40),.mov (.t 2),none⟩,
    ⟨(some 41),.call aN [(.t 39),(.t 40)],none⟩,
    ⟨(some 6),.mov (.t 41),none⟩]) <|
  .ret,
  [.t 6]⟩
theorem lB:cFn PP true dn sq (cDr PP 42 uI)=some hO:=by kernel_rfl
def ln (h5:Heap) (a11:D) (a1:D) (a4:D) (a2:D) (J6:List D->Heap->Prop) (K:D->Heap->Prop):Prop :=
  ∃(I12:Nat->List D->Heap->Prop) (n₀:Nat),I12 n₀ [(.int .i64 0)] h5/\∀(n13:Nat) (f14:Nat->D) (h15:Heap),I12 n13 [f14 11] h15 ->
  vbin .lss (f14 11) a11 fun a16 =>
  vcond a16 (aa PP (.iadd (.c a1) (.c (f14 11)) 1) h15 fun a17 h18 =>
  aa PP (.ld (.c a17) 1 false) h18 fun a19 h20 =>
  vbin .lss a19 (.int .i64 0) fun a21 =>
  vguard a21 false (fun G22 =>
  G22 a19 h20) h20 fun a23 h24 =>
  vguard a21 false (fun G25 =>
  aa PP (.fadd (.c a4) 7) h24 fun a28 h29 =>
  G25 a28 h29) h24 fun a26 h27 =>
  vguard a21 false (fun G30 =>
  aa PP (.ld (.c a26) 1 false) h27 fun a33 h34 =>
  G30 a33 h34) h27 fun a31 h32 =>
  vguard a21 false (fun G35 =>
  bQ a31 h32 fun a38 =>
  G35 a38 h32) h32 fun a36 h37 =>
  vguard a21 false (fun G39 =>
  vbin .geq a23 a36 fun a42 =>
  G39 a42 h37) h37 fun a40 h41 =>
  aa PP (.pick (.c a21) (.c (.bool true)) (.c a40)) h41 fun a43 h44 =>
  vguard a43 false (fun G45 =>
  G45 (f14 11) h44) h44 fun a46 h47 =>
  vguard a43 false (fun G48 =>
  vbin .gtr a46 (.int .i64 0) fun a51 =>
  G48 a51 h47) h47 fun a49 h50 =>
  vguard a43 false (fun G52 =>
  G52 a49 h50) h50 fun a53 h54 =>
  vguard a53 true (fun G55 =>
  G55 a1 h54) h54 fun a56 h57 =>
  vguard a53 true (fun G58 =>
  G58 (f14 11) h57) h57 fun a59 h60 =>
  vguard a53 true (fun G61 =>
  vbin .sub a59 (.int .i64 1) fun a64 =>
  G61 a64 h60) h60 fun a62 h63 =>
  vguard a53 true (fun G65 =>
  aa PP (.iadd (.c a56) (.c a62) 1) h63 fun a68 h69 =>
  G65 a68 h69) h63 fun a66 h67 =>
  vguard a53 true (fun G70 =>
  aa PP (.ld (.c a66) 1 false) h67 fun a73 h74 =>
  G70 a73 h74) h67 fun a71 h72 =>
  vguard a53 true (fun G75 =>
  G75 a19 h72) h72 fun a76 h77 =>
  vguard a53 true (fun G78 =>
  vbin .geq a71 a76 fun a81 =>
  G78 a81 h77) h77 fun a79 h80 =>
  vguard a43 false (fun G82 =>
  aa PP (.pick (.c a53) (.c a79) (.c (.bool false))) h80 fun a85 h86 =>
  G82 a85 h86) h80 fun a83 h84 =>
  aa PP (.pick (.c a43) (.c (.bool true)) (.c a83)) h84 fun a87 h88 =>
  vcond a87 (K (.bool false) h88) (
  vbin .add (f14 11) (.int .i64 1) fun a89 =>
  aX [a1,a2,a4,a1,a11] [a1,a2,a4,a1,a11]/\∃m,m<n13/\I12 m [a89] h88)) (
  aX [a1,a2] [a1,a2]/\J6 [] h15)
def pQ (a0:D) (a1:D) (a2:D) (h0:Heap) (K:D->Heap->Prop):Prop :=
  aa PP (.box (.c a0)) h0 fun a4 h5 =>
  ∃(J6:List D->Heap->Prop),(∀(f7:Nat->D) (h8:Heap),J6 [] h8 ->
  af PP aN [a1,a2] h8 fun a9 h10 =>
  K a9 h10) /\
  bQ a1 h5 fun a11 =>
  ln h5 a11 a1 a4 a2 J6 K
theorem ug (a0:D) (a1:D) (a2:D) (h0:Heap) (K:D->Heap->Prop):pQ a0 a1 a2 h0 K=vcC PP hO.code (fun x e h'=>match x with|.exit _=>False|.pan=>False|.jump _=>False|_=>bN PP hO.res K e h') (params [a0,a1,a2] 0) h0:=by kernel_rfl
end Go.Am
namespace Go.Am
open Go Go.Proofs
def fQ:Nat->Option (List Nat×List Nat)
  | 1000009=>some ([0,1,6],[7])|3=>some ([0,1,6],[7,8])|_=>none
def gw:Nat->Option (List Nat×List Nat×List Nat)
  | _=>none
def bm:av:=⟨54,
  .seq (.reg [⟨(some 4),.mov (.c (.int .i64 0)),none⟩,
    ⟨(some 5),.mov (.c (.bool false)),none⟩]) <|
  .seq (.reg [⟨(some 10),.mov (.t 0),none⟩,
    ⟨(some 11),.len (.t 10),none⟩,
    ⟨(some 6),.mov (.t 11),none⟩]) <|
  .seq (.reg [⟨(some 12),.mov (.t 6),none⟩,
    ⟨(some 7),.mov (.c (.int .i64 0)),none⟩,
    ⟨(some 8),.mov (.t 12),none⟩]) <|
  .seqj [0,1,6] [7] (.block 0 (.loop [0,1,6] [7,8] (.seq (.seq (.reg [⟨(some 13),.mov (.t 7),none⟩,
    ⟨(some 14),.mov (.t 8),none⟩,
    ⟨(some 15),.bin .lss (.t 13) (.t 14),none⟩]) <|
  .cond (.t 15) (.skip) (.exit 0)) <|
  .block 1 (.seq (.reg [⟨(some 16),.mov (.t 7),none⟩,
    ⟨(some 17),.mov (.t 8),none⟩,
    ⟨(some 18),.bin .add (.t 16) (.t 17),none⟩,
    ⟨(some 19),.conv .u64 (.t 18),none⟩,
    ⟨(some 20),.bin .shr (.t 19) (.c (.int .u64 1)),none⟩,
    ⟨(some 21),.conv .i64 (.t 20),none⟩,
    ⟨(some 9),.mov (.t 21),none⟩]) <|
  .seq (.reg [⟨(some 22),.mov (.t 0),none⟩,
    ⟨(some 23),.mov (.t 9),none⟩,
    ⟨(some 24),.iadd (.t 22) (.t 23) 1,none⟩,
    ⟨(some 25),.ld (.t 24) 1 false,none⟩,
    ⟨(some 26),.mov (.t 1),none⟩,
    ⟨(some 27),.call dp [(.t 25),(.t 26)],none⟩]) <|
  .cond (.t 27) (.reg [⟨(some 28),.mov (.t 9),none⟩,
    ⟨(some 29),.bin .add (.t 28) (.c (.int .i64 1)),none⟩,
    ⟨(some 7),.mov (.t 29),none⟩]) (.reg [⟨(some 30),.mov (.t 9),none⟩,
    ⟨(some 8),.mov (.t 30),none⟩]))))) <|
  .seq (.reg [⟨(some 31),.mov (.t 7),none⟩,
    ⟨(some 32),.mov (.t 7),none⟩,
    ⟨(some 33),.mov (.t 6),none⟩,
    ⟨(some 34),.bin .lss (.t 32) (.t 33),none⟩,
    ⟨(some 35),.mov (.t 34),none⟩,
    ⟨(some 36),.mov (.t 0),some (35,true)⟩,
    ⟨(some 37),.mov (.t 7),some (35,true)⟩,
    ⟨(some 38),.iadd (.t 36) (.t 37) 1,some (35,true)⟩,
    ⟨(some 39),.ld (.t 38) 1 false,some (35,true)⟩,
    ⟨(some 40),.mov (.t 1),some (35,true)⟩,
    ⟨(some 41),.bin .eql (.t 39) (.t 40),some (35,true)⟩,
    ⟨(some 42),.mov (.t 41),some (35,true)⟩,
    ⟨(some 43),.mov (.t 0),some (42,false)⟩,
    ⟨(some 44),.mov (.t 7),some (42,false)⟩,
    ⟨(some 45),.iadd (.t 43) (.t 44) 1,some (42,false)⟩,
    ⟨(some 46),.ld (.t 45) 1 false,some (42,false)⟩,
    ⟨(some 47),.call bD [(.t 46)],some (42,false)⟩,
    ⟨(some 48),.mov (.t 47),some (42,false)⟩,
    ⟨(some 49),.mov (.t 1),some (48,true)⟩,
    ⟨(some 50),.call bD [(.t 49)],some (48,true)⟩,
    ⟨(some 51),.pick (.t 48) (.t 50) (.c (.bool false)),some (42,false)⟩,
    ⟨(some 52),.pick (.t 42) (.c (.bool true)) (.t 51),some (35,true)⟩,
    ⟨(some 53),.pick (.t 35) (.t 52) (.c (.bool false)),none⟩,
    ⟨(some 4),.mov (.t 31),none⟩,
    ⟨(some 5),.mov (.t 53),none⟩]) <|
  .ret,
  [.t 4,.t 5]⟩
theorem cI:cFn PP true bj fQ (cDr PP 54 gw)=some bm:=by kernel_rfl
def cE (a3:D) (h0:Heap) (a0:D) (a1:D) (J4:List D->Heap->Prop):Prop :=
  ∃(I78:Nat->List D->Heap->Prop) (n₀:Nat),I78 n₀ [(.int .i64 0),a3] h0/\∀(n79:Nat) (f80:Nat->D) (h81:Heap),I78 n79 [f80 7,f80 8] h81 ->
  vbin .lss (f80 7) (f80 8) fun a82 =>
  vcond a82 (vbin .add (f80 7) (f80 8) fun a83 =>
  aa PP (.conv .u64 (.c a83)) h81 fun a84 h85 =>
  vbin .shr a84 (.int .u64 1) fun a86 =>
  aa PP (.conv .i64 (.c a86)) h85 fun a87 h88 =>
  aa PP (.iadd (.c a0) (.c a87) 1) h88 fun a89 h90 =>
  aa PP (.ld (.c a89) 1 false) h90 fun a91 h92 =>
  af PP dp [a91,a1] h92 fun a93 h94 =>
  vcond a93 (vbin .add a87 (.int .i64 1) fun a95 =>
  aX [a0,a1,a3] [a0,a1,a3]/\∃m,m<n79/\I78 m [a95,(f80 8)] h94) (
  aX [a0,a1,a3] [a0,a1,a3]/\∃m,m<n79/\I78 m [(f80 7),a87] h94)) (
  aX [a0,a1,a3] [a0,a1,a3]/\J4 [(f80 7)] h81)
def dC (a0:D) (a1:D) (h0:Heap) (K:D->Heap->Prop):Prop :=
  bQ a0 h0 fun a3 =>
  ∃(J4:List D->Heap->Prop),(∀(f5:Nat->D) (h6:Heap),J4 [f5 7] h6 ->
  vbin .lss (f5 7) a3 fun a7 =>
  vguard a7 true (fun G8 =>
  G8 a0 h6) h6 fun a9 h10 =>
  vguard a7 true (fun G11 =>
  G11 (f5 7) h10) h10 fun a12 h13 =>
  vguard a7 true (fun G14 =>
  aa PP (.iadd (.c a9) (.c a12) 1) h13 fun a17 h18 =>
  G14 a17 h18) h13 fun a15 h16 =>
  vguard a7 true (fun G19 =>
  aa PP (.ld (.c a15) 1 false) h16 fun a22 h23 =>
  G19 a22 h23) h16 fun a20 h21 =>
  vguard a7 true (fun G24 =>
  G24 a1 h21) h21 fun a25 h26 =>
  vguard a7 true (fun G27 =>
  vbin .eql a20 a25 fun a30 =>
  G27 a30 h26) h26 fun a28 h29 =>
  vguard a7 true (fun G31 =>
  G31 a28 h29) h29 fun a32 h33 =>
  vguard a32 false (fun G34 =>
  G34 a0 h33) h33 fun a35 h36 =>
  vguard a32 false (fun G37 =>
  G37 (f5 7) h36) h36 fun a38 h39 =>
  vguard a32 false (fun G40 =>
  aa PP (.iadd (.c a35) (.c a38) 1) h39 fun a43 h44 =>
  G40 a43 h44) h39 fun a41 h42 =>
  vguard a32 false (fun G45 =>
  aa PP (.ld (.c a41) 1 false) h42 fun a48 h49 =>
  G45 a48 h49) h42 fun a46 h47 =>
  vguard a32 false (fun G50 =>
  af PP bD [a46] h47 fun a53 h54 =>
  G50 a53 h54) h47 fun a51 h52 =>
  vguard a32 false (fun G55 =>
  G55 a51 h52) h52 fun a56 h57 =>
  vguard a56 true (fun G58 =>
  G58 a1 h57) h57 fun a59 h60 =>
  vguard a56 true (fun G61 =>
  af PP bD [a59] h60 fun a64 h65 =>
  G61 a64 h65) h60 fun a62 h63 =>
  vguard a32 false (fun G66 =>
  aa PP (.pick (.c a56) (.c a62) (.c (.bool false))) h63 fun a69 h70 =>
  G66 a69 h70) h63 fun a67 h68 =>
  vguard a7 true (fun G71 =>
  aa PP (.pick (.c a32) (.c (.bool true)) (.c a67)) h68 fun a74 h75 =>
  G71 a74 h75) h68 fun a72 h73 =>
  aa PP (.pick (.c a7) (.c a72) (.c (.bool false))) h73 fun a76 h77 =>
  K (.tup [(f5 7),a76]) h77) /\
  cE a3 h0 a0 a1 J4
theorem gq (a0:D) (a1:D) (h0:Heap) (K:D->Heap->Prop):dC a0 a1 h0 K=vcC PP bm.code (fun x e h'=>match x with|.exit _=>False|.pan=>False|.jump _=>False|_=>bN PP bm.res K e h') (params [a0,a1] 0) h0:=by kernel_rfl
def qA:Nat->Option (List Nat×List Nat)
  | 1000008=>some ([4],[])|4000006=>some ([3,4],[1000000])|_=>none
def sW:Nat->Option (List Nat×List Nat×List Nat)
  | _=>none
def oh:av:=⟨28,
  .seq (.reg [⟨(some 2),.box (.t 0),none⟩,
    ⟨(some 3),.box (.t 1),none⟩,
    ⟨(some 4),.alloc (.int .i64 0),none⟩]) <|
  .seq (.seq (.reg [⟨(some 6),.fadd (.t 3) 0,none⟩,
    ⟨(some 7),.ld (.t 6) 1 false,none⟩,
    ⟨(some 8),.len (.t 7),none⟩,
    ⟨(some 9),.fadd (.t 2) 7,none⟩,
    ⟨(some 10),.ld (.t 9) 1 false,none⟩,
    ⟨(some 11),.len (.t 10),none⟩,
    ⟨(some 12),.bin .neq (.t 8) (.t 11),none⟩,
    ⟨(some 13),.mov (.t 12),none⟩,
    ⟨(some 14),.fadd (.t 3) 1,some (13,false)⟩,
    ⟨(some 15),.ld (.t 14) 1 false,some (13,false)⟩,
    ⟨(some 16),.len (.t 15),some (13,false)⟩,
    ⟨(some 17),.fadd (.t 2) 2,some (13,false)⟩,
    ⟨(some 18),.ld (.t 17) 1 false,some (13,false)⟩,
    ⟨(some 19),.bin .neq (.t 16) (.t 18),some (13,false)⟩,
    ⟨(some 20),.pick (.t 13) (.c (.bool true)) (.t 19),none⟩]) <|
  .cond (.t 20) (.seq (.reg [⟨none,.st (.t 4) (.c (.int .i64 100)) 1,none⟩]) <|
  .ret) (.skip)) <|
  .seqj [4] [] (.seq (.reg [⟨(some 21),.ld (.t 2) 8 true,none⟩,
    ⟨(some 22),.call nM [(.t 21)],none⟩]) <|
  .block 0 (.range (.t 22) [23] [3,4] [1000000] (.reg [⟨(some 5),.alloc (.agg [(.bool false),(.int .i64 0),.nil,(.bool false)]),none⟩,
    ⟨none,.st (.t 5) (.t 23) 4,none⟩]) (.block 1 (.seq (.reg [⟨(some 24),.ld (.t 3) 2 true,none⟩,
    ⟨(some 25),.ld (.t 5) 4 true,none⟩,
    ⟨(some 26),.call pc [(.t 24),(.t 25)],none⟩,
    ⟨(some 27),.un .not (.t 26),none⟩]) <|
  .cond (.t 27) (.seq (.reg [⟨none,.st (.t 4) (.c (.int .i64 100)) 1,none⟩]) <|
  .ret) (.skip))))) <|
  .seq (.reg [⟨none,.st (.t 4) (.c (.int .i64 0)) 1,none⟩]) <|
  .ret,
  [.cell 4 1 false]⟩
theorem sG:cFn PP true nN qA (cDr PP 28 sW)=some oh:=by kernel_rfl
def iC:Nat->Option (List Nat×List Nat)
  | _=>none
def jj:Nat->Option (List Nat×List Nat×List Nat)
  | _=>none
def bK:av:=⟨9,
  .seq (.reg [⟨(some 4),.mov (.c (.bool false)),none⟩]) <|
  .seq (.reg [⟨(some 5),.mov (.t 0),none⟩,
    ⟨(some 6),.mov (.t 1),none⟩,
    ⟨(some 7),.call bZ [(.t 5),(.t 6)],none⟩,
    ⟨(some 8),.bin .geq (.t 7) (.c (.int .i64 0)),none⟩,
    ⟨(some 4),.mov (.t 8),none⟩]) <|
  .ret,
  [.t 4]⟩
theorem dJ:cFn PP true aN iC (cDr PP 9 jj)=some bK:=by kernel_rfl
def eK (a0:D) (a1:D) (h0:Heap) (K:D->Heap->Prop):Prop :=
  af PP bZ [a0,a1] h0 fun a3 h4 =>
  vbin .geq a3 (.int .i64 0) fun a5 =>
  K a5 h4
theorem ja (a0:D) (a1:D) (h0:Heap) (K:D->Heap->Prop):eK a0 a1 h0 K=vcC PP bK.code (fun x e h'=>match x with|.exit _=>False|.pan=>False|.jump _=>False|_=>bN PP bK.res K e h') (params [a0,a1] 0) h0:=by kernel_rfl
def fq:Nat->Option (List Nat×List Nat)
  | _=>none
def fN:Nat->Option (List Nat×List Nat×List Nat)
  | _=>none
def cV:av:=⟨9,
  .seq (.reg [⟨(some 4),.mov (.c (.bool false)),none⟩]) <|
  .seq (.reg [⟨(some 5),.mov (.t 0),none⟩,
    ⟨(some 6),.mov (.t 1),none⟩,
    ⟨(some 7),.call dG [(.t 5),(.t 6)],none⟩,
    ⟨(some 8),.bin .geq (.t 7) (.c (.int .i64 0)),none⟩,
    ⟨(some 4),.mov (.t 8),none⟩]) <|
  .ret,
  [.t 4]⟩
theorem fJ:cFn PP true cQ fq (cDr PP 9 fN)=some cV:=by kernel_rfl
def mi:Nat->Option (List Nat×List Nat)
  | _=>none
def ov:Nat->Option (List Nat×List Nat×List Nat)
  | _=>none
def jF:av:=⟨13,
  .seq (.reg [⟨(some 4),.mov (.c (.bool false)),none⟩]) <|
  .seq (.reg [⟨(some 5),.mov (.t 0),none⟩,
    ⟨(some 6),.ld (.t 1) 1 false,none⟩,
    ⟨(some 7),.call aN [(.t 5),(.t 6)],none⟩,
    ⟨(some 8),.mov (.t 7),none⟩,
    ⟨(some 9),.mov (.t 0),some (8,true)⟩,
    ⟨(some 10),.ld (.t 2) 1 false,some (8,true)⟩,
    ⟨(some 11),.call aN [(.t 9),(.t 10)],some (8,true)⟩,
    ⟨(some 12),.pick (.t 8) (.t 11) (.c (.bool false)),none⟩,
    ⟨(some 4),.mov (.t 12),none⟩]) <|
  .ret,
  [.t 4]⟩
theorem nG:cFn PP true jz mi (cDr PP 13 ov)=some jF:=by kernel_rfl
def wM:Nat->Option (List Nat×List Nat)
  | _=>none
def yV:Nat->Option (List Nat×List Nat×List Nat)
  | _=>none
def ly:av:=⟨5,
  .seq (.reg [⟨(some 2),.alloc (.agg [(.int .i64 0),(.int .i64 0),(.int .i32 0)]),none⟩]) <|
  .seq (.reg [⟨(some 3),.mov (.t 0),none⟩,
    ⟨(some 4),.bld [(.int .i64 0),(.int .i64 0),(.int .i32 0)] [(0,1,(.c (.int .i64 2))),(1,1,(.t 3))],none⟩,
    ⟨none,.st (.t 2) (.t 4) 3,none⟩]) <|
  .ret,
  [.cell 2 3 true]⟩
theorem pY:cFn PP true bO wM (cDr PP 5 yV)=some ly:=by kernel_rfl
def wg (a0:D) (h0:Heap) (K:D->Heap->Prop):Prop :=
  aa PP (.alloc (.agg [(.int .i64 0),(.int .i64 0),(.int .i32 0)])) h0 fun a2 h3 =>
  aa PP (.bld [(.int .i64 0),(.int .i64 0),(.int .i32 0)] [(0,1,(.c (.int .i64 2))),(1,1,(.c a0))]) h3 fun a4 h5 =>
  aa PP (.st (.c a2) (.c a4) 3) h5 fun a6 h7 =>
  aa PP (.ld (.c a2) 3 true) h7 fun a8 _ =>
  K a8 h7
theorem yG (a0:D) (h0:Heap) (K:D->Heap->Prop):wg a0 h0 K=vcC PP ly.code (fun x e h'=>match x with|.exit _=>False|.pan=>False|.jump _=>False|_=>bN PP ly.res K e h') (params [a0] 0) h0:=by kernel_rfl
def iq:Nat->Option (List Nat×List Nat)
  | _=>none
def jy:Nat->Option (List Nat×List Nat×List Nat)
  | 2=>some ([0,1,3,7,15,0,0,64,192,448,960,0,4032,8128,16320,0,32768,131008,262143,524287,1048575],[17,20],[4,18])|_=>none
noncomputable def g9:av:=⟨32,eG (cFn PP true aw iq (cDr PP 32 jy)),
  []⟩
theorem pX:cFn PP true aw iq (cDr PP 32 jy)=some g9:=by kernel_rfl
def ll (a0:D) (a1:D) (h0:Heap) (K:D->Heap->Prop):Prop :=
  aa PP (.box (.c a1)) h0 fun a3 h4 =>
  aa PP (.fadd (.c a0) 0) h4 fun a5 h6 =>
  aa PP (.fadd (.c a5) 2) h6 fun a7 h8 =>
  aa PP (.fadd (.c a7) 7) h8 fun a9 h10 =>
  aa PP (.ld (.c a9) 1 false) h10 fun a11 h12 =>
  bQ a11 h12 fun a13 =>
  vbin .sub a13 (.int .i64 1) fun a14 =>
  ae PP (.fadd (.c a0) 0) h12 fun a15 =>
  ae PP (.fadd (.c a15) 2) h12 fun a16 =>
  ae PP (.fadd (.c a16) 7) h12 fun a17 =>
  ae PP (.ld (.c a17) 1 false) h12 fun a18 =>
  ae PP (.fadd (.c a0) 0) h12 fun a19 =>
  ae PP (.fadd (.c a19) 2) h12 fun a20 =>
  ae PP (.fadd (.c a20) 7) h12 fun a21 =>
  ae PP (.ld (.c a21) 1 false) h12 fun a22 =>
  ae PP (.iadd (.c a22) (.c a14) 14) h12 fun a23 =>
  ae PP (.fadd (.c a23) 0) h12 fun a24 =>
  ae PP (.ld (.c a24) 1 false) h12 fun a25 =>
  ae PP (.ld (.c a3) 15 true) h12 fun a26 =>
  ae PP (.bldS false 15 1 (.agg [(.int .i64 0),(.int .i64 0),(.int .i64 0),(.int .i64 0),(.int .i64 0),(.int .i32 0),(.int .i64 0),(.int .i64 0),(.int .i32 0),(.int .i64 0),(.int .i64 0),(.int .i32 0),(.int .i64 0),(.int .i64 0),(.int .i32 0)]) [(0,(.c a26))]) h12 fun a27 =>
  ae PP (.iadd (.c a18) (.c a14) 14) h12 fun a28 =>
  ae PP (.fadd (.c a28) 0) h12 fun a29 =>
  aa PP (.app (.c a25) (.c a27) 15 120 (.agg [(.int .i64 0),(.int .i64 0),(.int .i64 0),(.int .i64 0),(.int .i64 0),(.int .i32 0),(.int .i64 0),(.int .i64 0),(.int .i32 0),(.int .i64 0),(.int .i64 0),(.int .i32 0),(.int .i64 0),(.int .i64 0),(.int .i32 0)])) h12 fun a30 h31 =>
  ((ae PP (.ld (.c a17) 1 false) h31 fun a32=>aX [a32] [a18])/\(ae PP (.iadd (.c a18) (.c a14) 14) h31 fun a33=>aX [a33] [a28])/\True) /\
  aa PP (.st (.c a29) (.c a30) 1) h31 fun a34 h35 =>
  ((ae PP (.ld (.c a17) 1 false) h35 fun a36=>aX [a36] [a18])/\(ae PP (.iadd (.c a18) (.c a14) 14) h35 fun a37=>aX [a37] [a28])/\True) /\
  K (.tup []) h35
theorem pO (a0:D) (a1:D) (h0:Heap) (K:D->Heap->Prop):ll a0 a1 h0 K=vcC PP g9.code (fun x e h'=>match x with|.exit _=>False|.pan=>False|.jump _=>False|_=>bN PP g9.res K e h') (params [a0,a1] 0) h0:=by kernel_rfl
def kY:Nat->Option (List Nat×List Nat)
  | _=>none
def nJ:Nat->Option (List Nat×List Nat×List Nat)
  | _=>none
noncomputable def lO:av:=⟨5,eG (cFn PP true cu kY (cDr PP 5 nJ)),
  [.cell 2 3 true]⟩
theorem vC:cFn PP true cu kY (cDr PP 5 nJ)=some lO:=by kernel_rfl
def rD (a0:D) (h0:Heap) (K:D->Heap->Prop):Prop :=
  aa PP (.alloc (.agg [(.int .i64 0),(.int .i64 0),(.int .i32 0)])) h0 fun a2 h3 =>
  aa PP (.bld [(.int .i64 0),(.int .i64 0),(.int .i32 0)] [(0,1,(.c (.int .i64 1))),(2,1,(.c a0))]) h3 fun a4 h5 =>
  aa PP (.st (.c a2) (.c a4) 3) h5 fun a6 h7 =>
  aa PP (.ld (.c a2) 3 true) h7 fun a8 _ =>
  K a8 h7
theorem vj (a0:D) (h0:Heap) (K:D->Heap->Prop):rD a0 h0 K=vcC PP lO.code (fun x e h'=>match x with|.exit _=>False|.pan=>False|.jump _=>False|_=>bN PP lO.res K e h') (params [a0] 0) h0:=by kernel_rfl
def gK:Nat->Option (List Nat×List Nat)
  | _=>none
def iS:Nat->Option (List Nat×List Nat×List Nat)
  | 18=>some ([0,0,0,4,12,30,62,0,0,0,524,2046,4095],[3,10,12],[999999])|21=>some ([0,0,0,4,0,30,63],[3,6],[999999])|22=>some ([0,0,0,0,8,30,63],[4,6],[999999])|_=>none
noncomputable def fW:av:=⟨133,eG (cFn PP true dM gK (cDr PP 133 iS)),
  []⟩
theorem oP:cFn PP true dM gK (cDr PP 133 iS)=some fW:=by kernel_rfl
def kC (a0:D) (h0:Heap) (K:D->Heap->Prop):Prop :=
  af PP ah [a0] h0 fun a2 h3 =>
  vbin .rem a2 (.int .i64 16) fun a4 =>
  vbin .lss a4 (.int .i64 3) fun a5 =>
  vcond a5 (af PP ah [a0] h3 fun a6 h7 =>
  vbin .rem a6 (.int .i64 7) fun a8 =>
  vbin .add (.int .i64 1) a8 fun a9 =>
  af PP aK [a0] h7 fun a10 h11 =>
  aa PP (.bld [(.int .i64 0),(.int .i64 0),(.int .i64 0),(.int .i64 0),(.int .i64 0),(.int .i32 0),(.int .i64 0),(.int .i64 0),(.int .i32 0),(.int .i64 0),(.int .i64 0),(.int .i32 0),(.int .i64 0),(.int .i64 0),(.int .i32 0)] [(0,1,(.c (.int .i64 5))),(1,1,(.c a9)),(3,3,(.c a10))]) h11 fun a12 h13 =>
  af PP aw [a0,a12] h13 fun a14 h15 =>
  K (.tup []) h15) (
  vbin .lss a4 (.int .i64 7) fun a16 =>
  vcond a16 (af PP ah [a0] h3 fun a17 h18 =>
  vbin .rem a17 (.int .i64 20) fun a19 =>
  vbin .add (.int .i64 10) a19 fun a20 =>
  af PP aK [a0] h18 fun a21 h22 =>
  af PP aI [a0] h22 fun a23 h24 =>
  af PP aI [a0] h24 fun a25 h26 =>
  aa PP (.bld [(.int .i64 0),(.int .i64 0),(.int .i64 0),(.int .i64 0),(.int .i64 0),(.int .i32 0),(.int .i64 0),(.int .i64 0),(.int .i32 0),(.int .i64 0),(.int .i64 0),(.int .i32 0),(.int .i64 0),(.int .i64 0),(.int .i32 0)] [(0,1,(.c (.int .i64 3))),(1,1,(.c a20)),(3,3,(.c a21)),(6,3,(.c a23)),(9,3,(.c a25))]) h26 fun a27 h28 =>
  af PP aw [a0,a27] h28 fun a29 h30 =>
  K (.tup []) h30) (
  vbin .eql a4 (.int .i64 7) fun a31 =>
  vcond a31 (af PP ah [a0] h3 fun a32 h33 =>
  vbin .rem a32 (.int .i64 5) fun a34 =>
  vbin .add (.int .i64 1) a34 fun a35 =>
  af PP aK [a0] h33 fun a36 h37 =>
  af PP aI [a0] h37 fun a38 h39 =>
  aa PP (.bld [(.int .i64 0),(.int .i64 0),(.int .i64 0),(.int .i64 0),(.int .i64 0),(.int .i32 0),(.int .i64 0),(.int .i64 0),(.int .i32 0),(.int .i64 0),(.int .i64 0),(.int .i32 0),(.int .i64 0),(.int .i64 0),(.int .i32 0)] [(0,1,(.c (.int .i64 2))),(1,1,(.c a35)),(3,3,(.c a36)),(6,3,(.c a38))]) h39 fun a40 h41 =>
  af PP aw [a0,a40] h41 fun a42 h43 =>
  K (.tup []) h43) (
  vbin .eql a4 (.int .i64 8) fun a44 =>
  vcond a44 (af PP aK [a0] h3 fun a45 h46 =>
  af PP aI [a0] h46 fun a47 h48 =>
  af PP aI [a0] h48 fun a49 h50 =>
  af PP aI [a0] h50 fun a51 h52 =>
  aa PP (.bld [(.int .i64 0),(.int .i64 0),(.int .i64 0),(.int .i64 0),(.int .i64 0),(.int .i32 0),(.int .i64 0),(.int .i64 0),(.int .i32 0),(.int .i64 0),(.int .i64 0),(.int .i32 0),(.int .i64 0),(.int .i64 0),(.int .i32 0)] [(0,1,(.c (.int .i64 4))),(3,3,(.c a45)),(6,3,(.c a47)),(9,3,(.c a49)),(12,3,(.c a51))]) h52 fun a53 h54 =>
  af PP aw [a0,a53] h54 fun a55 h56 =>
  K (.tup []) h56) (
  vbin .eql a4 (.int .i64 9) fun a57 =>
  vcond a57 (af PP aK [a0] h3 fun a58 h59 =>
  af PP aI [a0] h59 fun a60 h61 =>
  aa PP (.bld [(.int .i64 0),(.int .i64 0),(.int .i64 0),(.int .i64 0),(.int .i64 0),(.int .i32 0),(.int .i64 0),(.int .i64 0),(.int .i32 0),(.int .i64 0),(.int .i64 0),(.int .i32 0),(.int .i64 0),(.int .i64 0),(.int .i32 0)] [(0,1,(.c (.int .i64 1))),(3,3,(.c a58)),(6,3,(.c a60))]) h61 fun a62 h63 =>
  af PP aw [a0,a62] h63 fun a64 h65 =>
  K (.tup []) h65) (
  vbin .eql a4 (.int .i64 10) fun a66 =>
  vcond a66 (af PP ah [a0] h3 fun a67 h68 =>
  vbin .rem a67 (.int .i64 3) fun a69 =>
  af PP aK [a0] h68 fun a70 h71 =>
  aa PP (.bld [(.int .i64 0),(.int .i64 0),(.int .i64 0),(.int .i64 0),(.int .i64 0),(.int .i32 0),(.int .i64 0),(.int .i64 0),(.int .i32 0),(.int .i64 0),(.int .i64 0),(.int .i32 0),(.int .i64 0),(.int .i64 0),(.int .i32 0)] [(0,1,(.c (.int .i64 6))),(2,1,(.c a69)),(3,3,(.c a70))]) h71 fun a72 h73 =>
  af PP aw [a0,a72] h73 fun a74 h75 =>
  K (.tup []) h75) (
  vbin .eql a4 (.int .i64 11) fun a76 =>
  vcond a76 (af PP ah [a0] h3 fun a77 h78 =>
  vbin .rem a77 (.int .i64 2) fun a79 =>
  vbin .add (.int .i64 1) a79 fun a80 =>
  aa PP (.bld [(.int .i64 0),(.int .i64 0),(.int .i64 0),(.int .i64 0),(.int .i64 0),(.int .i32 0),(.int .i64 0),(.int .i64 0),(.int .i32 0),(.int .i64 0),(.int .i64 0),(.int .i32 0),(.int .i64 0),(.int .i64 0),(.int .i32 0)] [(0,1,(.c (.int .i64 10))),(1,1,(.c a80))]) h78 fun a81 h82 =>
  af PP aw [a0,a81] h82 fun a83 h84 =>
  K (.tup []) h84) (
  vbin .eql a4 (.int .i64 12) fun a85 =>
  vcond a85 (af PP cj [a0,(.bool false)] h3 fun a86 h87 =>
  aa PP (.ext (.c a86) 0) h87 fun a88 h89 =>
  aa PP (.ext (.c a86) 1) h89 fun a90 h91 =>
  aa PP (.alloc (.agg [(.int .i64 0),(.int .i64 0),(.int .i32 0)])) h91 fun a92 h93 =>
  aa PP (.st (.c a92) (.c a90) 3) h93 fun a94 h95 =>
  ae PP (.bldS false 1 6 (.int .i64 0) [(0,(.c (.int .i64 10))),(1,(.c (.int .i64 22))),(2,(.c (.int .i64 23))),(3,(.c (.int .i64 17))),(4,(.c (.int .i64 18))),(5,(.c (.int .i64 19)))]) h95 fun a96 =>
  ae PP (.ld (.c a92) 3 true) h95 fun a97 =>
  af PP ah [a0] h95 fun a98 h99 =>
  ((ae PP (.ld (.c a92) 3 true) h99 fun a100=>aX [a100] [a97])/\True) /\
  vbin .rem a98 (.int .i64 6) fun a101 =>
  ae PP (.iadd (.c a96) (.c a101) 1) h99 fun a102 =>
  ae PP (.ld (.c a102) 1 false) h99 fun a103 =>
  af PP aI [a0] h99 fun a104 h105 =>
  ((ae PP (.iadd (.c a96) (.c a101) 1) h105 fun a106=>aX [a106] [a102])/\(ae PP (.ld (.c a102) 1 false) h105 fun a107=>aX [a107] [a103])/\(ae PP (.ld (.c a92) 3 true) h105 fun a108=>aX [a108] [a97])/\True) /\
  ae PP (.bld [(.int .i64 0),(.int .i64 0),(.int .i64 0),(.int .i64 0),(.int .i64 0),(.int .i32 0),(.int .i64 0),(.int .i64 0),(.int .i32 0),(.int .i64 0),(.int .i64 0),(.int .i32 0),(.int .i64 0),(.int .i64 0),(.int .i32 0)] [(0,1,(.c (.int .i64 9))),(1,1,(.c a103)),(2,1,(.c a88)),(6,3,(.c a97)),(9,3,(.c a104))]) h105 fun a109 =>
  af PP aw [a0,a109] h105 fun a110 h111 =>
  K (.tup []) h111) (
  af PP cj [a0,(.bool true)] h3 fun a112 h113 =>
  aa PP (.ext (.c a112) 0) h113 fun a114 h115 =>
  aa PP (.ext (.c a112) 1) h115 fun a116 h117 =>
  aa PP (.alloc (.agg [(.int .i64 0),(.int .i64 0),(.int .i32 0)])) h117 fun a118 h119 =>
  aa PP (.st (.c a118) (.c a116) 3) h119 fun a120 h121 =>
  vbin .eql a4 (.int .i64 13) fun a122 =>
  vcond a122 (ae PP (.ld (.c a118) 3 true) h121 fun a123 =>
  af PP aK [a0] h121 fun a124 h125 =>
  ((ae PP (.ld (.c a118) 3 true) h125 fun a126=>aX [a126] [a123])/\True) /\
  ae PP (.bld [(.int .i64 0),(.int .i64 0),(.int .i64 0),(.int .i64 0),(.int .i64 0),(.int .i32 0),(.int .i64 0),(.int .i64 0),(.int .i32 0),(.int .i64 0),(.int .i64 0),(.int .i32 0),(.int .i64 0),(.int .i64 0),(.int .i32 0)] [(0,1,(.c (.int .i64 7))),(2,1,(.c a114)),(3,3,(.c a124)),(6,3,(.c a123))]) h125 fun a127 =>
  af PP aw [a0,a127] h125 fun a128 h129 =>
  K (.tup []) h129) (
  ae PP (.ld (.c a118) 3 true) h121 fun a130 =>
  af PP aI [a0] h121 fun a131 h132 =>
  ((ae PP (.ld (.c a118) 3 true) h132 fun a133=>aX [a133] [a130])/\True) /\
  ae PP (.bld [(.int .i64 0),(.int .i64 0),(.int .i64 0),(.int .i64 0),(.int .i64 0),(.int .i32 0),(.int .i64 0),(.int .i64 0),(.int .i32 0),(.int .i64 0),(.int .i64 0),(.int .i32 0),(.int .i64 0),(.int .i64 0),(.int .i32 0)] [(0,1,(.c (.int .i64 8))),(2,1,(.c a114)),(6,3,(.c a130)),(9,3,(.c a131))]) h132 fun a134 =>
  af PP aw [a0,a134] h132 fun a135 h136 =>
  K (.tup []) h136)))))))))
theorem oH (a0:D) (h0:Heap) (K:D->Heap->Prop):kC a0 h0 K=vcC PP fW.code (fun x e h'=>match x with|.exit _=>False|.pan=>False|.jump _=>False|_=>bN PP fW.res K e h') (params [a0] 0) h0:=by kernel_rfl
def kj:Nat->Option (List Nat×List Nat)
  | _=>none
def lH:Nat->Option (List Nat×List Nat×List Nat)
  | _=>none
def gW:av:=⟨11,
  .seq (.reg [⟨(some 3),.mov (.t 0),none⟩,
    ⟨(some 4),.len (.t 3),none⟩,
    ⟨(some 2),.mov (.t 4),none⟩]) <|
  .reg [⟨(some 5),.mov (.t 0),none⟩,
    ⟨(some 6),.mov (.t 2),none⟩,
    ⟨(some 7),.mov (.t 2),none⟩,
    ⟨(some 8),.conv .u64 (.t 7),none⟩,
    ⟨(some 9),.call nP [(.t 8)],none⟩,
    ⟨(some 10),.call bF [(.t 5),(.c (.int .i64 0)),(.t 6),(.t 9)],none⟩],
  []⟩
theorem kR:cFn PP true gE kj (cDr PP 11 lH)=some gW:=by kernel_rfl
def uW:Nat->Option (List Nat×List Nat)
  | _=>none
def xI:Nat->Option (List Nat×List Nat×List Nat)
  | _=>none
def ux:av:=⟨30,
  .seq (.reg [⟨(some 1),.box (.t 0),none⟩,
    ⟨(some 2),.mov (.c .nil),none⟩]) <|
  .seq (.seq (.reg [⟨(some 3),.fadd (.t 1) 0,none⟩,
    ⟨(some 4),.ld (.t 3) 1 false,none⟩,
    ⟨(some 5),.bin .eql (.t 4) (.c (.int .i64 5)),none⟩]) <|
  .cond (.t 5) (.seq (.reg [⟨(some 6),.bldS true 1 0 (.int .i64 0) [],none⟩,
    ⟨(some 2),.mov (.t 6),none⟩]) <|
  .ret) (.skip)) <|
  .seq (.seq (.reg [⟨(some 7),.fadd (.t 1) 0,none⟩,
    ⟨(some 8),.ld (.t 7) 1 false,none⟩,
    ⟨(some 9),.bin .eql (.t 8) (.c (.int .i64 2)),none⟩,
    ⟨(some 10),.mov (.t 9),none⟩,
    ⟨(some 11),.fadd (.t 1) 11,some (10,true)⟩,
    ⟨(some 12),.iadda (.t 11) (.c (.int .i64 0)) 2 1,some (10,true)⟩,
    ⟨(some 13),.ld (.t 12) 1 false,some (10,true)⟩,
    ⟨(some 14),.fadd (.t 1) 11,some (10,true)⟩,
    ⟨(some 15),.iadda (.t 14) (.c (.int .i64 1)) 2 1,some (10,true)⟩,
    ⟨(some 16),.ld (.t 15) 1 false,some (10,true)⟩,
    ⟨(some 17),.bin .neq (.t 13) (.t 16),some (10,true)⟩,
    ⟨(some 18),.pick (.t 10) (.t 17) (.c (.bool false)),none⟩]) <|
  .cond (.t 18) (.seq (.reg [⟨(some 19),.fadd (.t 1) 11,none⟩,
    ⟨(some 20),.iadda (.t 19) (.c (.int .i64 0)) 2 1,none⟩,
    ⟨(some 21),.ld (.t 20) 1 false,none⟩,
    ⟨(some 22),.fadd (.t 1) 11,none⟩,
    ⟨(some 23),.iadda (.t 22) (.c (.int .i64 1)) 2 1,none⟩,
    ⟨(some 24),.ld (.t 23) 1 false,none⟩,
    ⟨(some 25),.bldS true 1 2 (.int .i64 0) [(0,(.t 21)),(1,(.t 24))],none⟩,
    ⟨(some 2),.mov (.t 25),none⟩]) <|
  .ret) (.skip)) <|
  .seq (.reg [⟨(some 26),.fadd (.t 1) 11,none⟩,
    ⟨(some 27),.iadda (.t 26) (.c (.int .i64 0)) 2 1,none⟩,
    ⟨(some 28),.ld (.t 27) 1 false,none⟩,
    ⟨(some 29),.bldS true 1 1 (.int .i64 0) [(0,(.t 28))],none⟩,
    ⟨(some 2),.mov (.t 29),none⟩]) <|
  .ret,
  [.t 2]⟩
theorem xc:cFn PP true tu uW (cDr PP 30 xI)=some ux:=by kernel_rfl
def me:Nat->Option (List Nat×List Nat)
  | 1000017=>some ([7],[])|6=>some ([0,2,7],[8])|10=>some ([0,2,7,9],[8,10])|1000012=>some ([0,2,7,9,10],[8])|_=>none
def oX:Nat->Option (List Nat×List Nat×List Nat)
  | _=>none
noncomputable def nu:av:=⟨66,eG (cFn PP true cR me (cDr PP 66 oX)),
  [.t 6]⟩
theorem w9:cFn PP true cR me (cDr PP 66 oX)=some nu:=by kernel_rfl
def nW (a27:D) (h28:Heap) (a0:D) (a25:D) (a2:D) (a5:D) (n18:Nat) (I17:Nat->List D->Heap->Prop):Prop :=
  ∃(I29:Nat->List D->Heap->Prop) (n₀:Nat),I29 n₀ [a27,(.int .i64 0)] h28/\∀(n30:Nat) (f31:Nat->D) (h32:Heap),I29 n30 [f31 8,f31 10] h32 ->
  aa PP (.iadd (.c a0) (.c a25) 1) h32 fun a33 h34 =>
  aa PP (.ld (.c a33) 1 false) h34 fun a35 h36 =>
  bQ a35 h36 fun a37 =>
  vbin .lss (f31 10) a37 fun a38 =>
  vcond a38 (∃(J39:List D->Heap->Prop),(∀(f40:Nat->D) (h41:Heap),J39 [f40 8] h41 ->
  vbin .add (f31 10) (.int .i64 1) fun a42 =>
  aX [a0,a2,a5,a25] [a0,a2,a5,a25]/\∃m,m<n30/\I29 m [(f40 8),a42] h41) /\
  aa PP (.iadd (.c a0) (.c a25) 1) h36 fun a43 h44 =>
  aa PP (.ld (.c a43) 1 false) h44 fun a45 h46 =>
  aa PP (.iadd (.c a45) (.c (f31 10)) 1) h46 fun a47 h48 =>
  aa PP (.ld (.c a47) 1 false) h48 fun a49 h50 =>
  aa PP (.iadd (.c a5) (.c a49) 1) h50 fun a51 h52 =>
  aa PP (.ld (.c a51) 1 false) h52 fun a53 h54 =>
  vun .not a53 fun a55 =>
  vguard a55 true (fun G56 =>
  G56 a49 h54) h54 fun a57 h58 =>
  vguard a55 true (fun G59 =>
  G59 a2 h58) h58 fun a60 h61 =>
  vguard a55 true (fun G62 =>
  vbin .neq a57 a60 fun a65 =>
  G62 a65 h61) h61 fun a63 h64 =>
  aa PP (.pick (.c a55) (.c a63) (.c (.bool false))) h64 fun a66 h67 =>
  vcond a66 (aa PP (.iadd (.c a5) (.c a49) 1) h67 fun a68 h69 =>
  aa PP (.st (.c a68) (.c (.bool true)) 1) h69 fun a70 h71 =>
  aa PP (.bldS true 1 1 (.int .i64 0) [(0,(.c a49))]) h71 fun a72 h73 =>
  aa PP (.app (.c (f31 8)) (.c a72) 1 8 (.int .i64 0)) h73 fun a74 h75 =>
  aX [a0,a2,a5,a25,(f31 10)] [a0,a2,a5,a25,(f31 10)]/\J39 [a74] h75) (
  aX [a0,a2,a5,a25,(f31 10)] [a0,a2,a5,a25,(f31 10)]/\J39 [(f31 8)] h67)) (
  aX [a0,a2,a5] [a0,a2,a5]/\∃m,m<n18/\I17 m [(f31 8)] h36)
def nV (a12:D) (h13:Heap) (a0:D) (a2:D) (a5:D) (J14:List D->Heap->Prop):Prop :=
  ∃(I17:Nat->List D->Heap->Prop) (n₀:Nat),I17 n₀ [a12] h13/\∀(n18:Nat) (f19:Nat->D) (h20:Heap),I17 n18 [f19 8] h20 ->
  bQ (f19 8) h20 fun a21 =>
  vbin .gtr a21 (.int .i64 0) fun a22 =>
  vcond a22 (aa PP (.iadd (.c (f19 8)) (.c (.int .i64 0)) 1) h20 fun a23 h24 =>
  aa PP (.ld (.c a23) 1 false) h24 fun a25 h26 =>
  aa PP (.kN (.c (f19 8)) (some (.c (.int .i64 1))) none none 1) h26 fun a27 h28 =>
  nW a27 h28 a0 a25 a2 a5 n18 I17) (
  aX [a5] [a5]/\J14 [] h20)
def uc (a0:D) (a1:D) (a2:D) (h0:Heap) (K:D->Heap->Prop):Prop :=
  bQ a0 h0 fun a4 =>
  aa PP (.mk 1 1 (.bool false) (.c a4) (.c a4)) h0 fun a5 h6 =>
  vbin .eql a1 a2 fun a7 =>
  vcond a7 (K a5 h6) (
  aa PP (.iadd (.c a5) (.c a1) 1) h6 fun a8 h9 =>
  aa PP (.st (.c a8) (.c (.bool true)) 1) h9 fun a10 h11 =>
  aa PP (.bldS true 1 1 (.int .i64 0) [(0,(.c a1))]) h11 fun a12 h13 =>
  ∃(J14:List D->Heap->Prop),(∀(f15:Nat->D) (h16:Heap),J14 [] h16 ->
  K a5 h16) /\
  nV a12 h13 a0 a2 a5 J14)
theorem wV (a0:D) (a1:D) (a2:D) (h0:Heap) (K:D->Heap->Prop):uc a0 a1 a2 h0 K=vcC PP nu.code (fun x e h'=>match x with|.exit _=>False|.pan=>False|.jump _=>False|_=>bN PP nu.res K e h') (params [a0,a1,a2] 0) h0:=by kernel_rfl
def tI:Nat->Option (List Nat×List Nat)
  | 1000007=>some ([],[3])|3=>some ([1],[3,4])|_=>none
def wD:Nat->Option (List Nat×List Nat×List Nat)
  | _=>none
def rK:av:=⟨24,
  .seq (.reg [⟨(some 1),.box (.t 0),none⟩,
    ⟨(some 2),.mov (.c .nil),none⟩]) <|
  .seq (.reg [⟨(some 5),.bldS true 1 0 .nil [],none⟩,
    ⟨(some 3),.mov (.t 5),none⟩]) <|
  .seqj [] [3] (.seq (.reg [⟨(some 4),.mov (.c (.int .i64 0)),none⟩]) <|
  .block 0 (.loop [1] [3,4] (.seq (.seq (.reg [⟨(some 6),.mov (.t 4),none⟩,
    ⟨(some 7),.fadd (.t 1) 7,none⟩,
    ⟨(some 8),.ld (.t 7) 1 false,none⟩,
    ⟨(some 9),.len (.t 8),none⟩,
    ⟨(some 10),.bin .lss (.t 6) (.t 9),none⟩]) <|
  .cond (.t 10) (.skip) (.exit 0)) <|
  .seq (.block 1 (.reg [⟨(some 13),.mov (.t 3),none⟩,
    ⟨(some 14),.fadd (.t 1) 7,none⟩,
    ⟨(some 15),.ld (.t 14) 1 false,none⟩,
    ⟨(some 16),.mov (.t 4),none⟩,
    ⟨(some 17),.iadd (.t 15) (.t 16) 14,none⟩,
    ⟨(some 18),.fadd (.t 17) 1,none⟩,
    ⟨(some 19),.ld (.t 18) 13 true,none⟩,
    ⟨(some 20),.call jO [(.t 19)],none⟩,
    ⟨(some 21),.bldS true 1 1 .nil [(0,(.t 20))],none⟩,
    ⟨(some 22),.app (.t 13) (.t 21) 1 24 .nil,none⟩,
    ⟨(some 3),.mov (.t 22),none⟩])) <|
  .reg [⟨(some 11),.mov (.t 4),none⟩,
    ⟨(some 12),.bin .add (.t 11) (.c (.int .i64 1)),none⟩,
    ⟨(some 4),.mov (.t 12),none⟩]))) <|
  .seq (.reg [⟨(some 23),.mov (.t 3),none⟩,
    ⟨(some 2),.mov (.t 23),none⟩]) <|
  .ret,
  [.t 2]⟩
theorem vv:cFn PP true lJ tI (cDr PP 24 wD)=some rK:=by kernel_rfl
def tH:Nat->Option (List Nat×List Nat)
  | 1000010=>some ([3,4,5],[])|5=>some ([1,3,4,5],[6])|1000007=>some ([1,3,4,5,6],[])|1000015=>some ([3],[])|10=>some ([3,4,5],[7])|1000012=>some ([3,4,5,7],[])|_=>none
def wC:Nat->Option (List Nat×List Nat×List Nat)
  | 13=>some ([0,0,0,6,14,0,0,0,0,384,896,1984,4032,8160,0,16384,65504,131071,262143],[13,16,18],[3,4,17])|_=>none
def rJ:av:=⟨72,
  .seq (.reg [⟨(some 1),.box (.t 0),none⟩,
    ⟨(some 2),.mov (.c .nil),none⟩]) <|
  .seq (.reg [⟨(some 8),.ld (.t 1) 8 true,none⟩,
    ⟨(some 9),.call lJ [(.t 8)],none⟩,
    ⟨(some 10),.bldS true 1 0 (.int .i64 0) [],none⟩,
    ⟨(some 11),.bldS true 1 1 .nil [(0,(.t 10))],none⟩,
    ⟨(some 12),.app (.t 9) (.t 11) 1 24 .nil,none⟩,
    ⟨(some 3),.mov (.t 12),none⟩]) <|
  .seq (.reg [⟨(some 13),.fadd (.t 1) 7,none⟩,
    ⟨(some 14),.ld (.t 13) 1 false,none⟩,
    ⟨(some 15),.len (.t 14),none⟩,
    ⟨(some 4),.mov (.t 15),none⟩]) <|
  .seq (.reg [⟨(some 16),.ld (.t 1) 8 true,none⟩,
    ⟨(some 17),.call qX [(.t 16)],none⟩,
    ⟨(some 5),.mov (.t 17),none⟩]) <|
  .seqj [3,4,5] [] (.seq (.reg [⟨(some 6),.mov (.c (.int .i64 0)),none⟩]) <|
  .block 0 (.loop [1,3,4,5] [6] (.seq (.seq (.reg [⟨(some 18),.mov (.t 6),none⟩,
    ⟨(some 19),.mov (.t 4),none⟩,
    ⟨(some 20),.bin .lss (.t 18) (.t 19),none⟩]) <|
  .cond (.t 20) (.skip) (.exit 0)) <|
  .seqj [1,3,4,5,6] [] (.block 1 (.seq (.reg [⟨(some 23),.fadd (.t 1) 7,none⟩,
    ⟨(some 24),.ld (.t 23) 1 false,none⟩,
    ⟨(some 25),.mov (.t 6),none⟩,
    ⟨(some 26),.iadd (.t 24) (.t 25) 14,none⟩,
    ⟨(some 27),.fadd (.t 26) 1,none⟩,
    ⟨(some 28),.fadd (.t 27) 0,none⟩,
    ⟨(some 29),.ld (.t 28) 1 false,none⟩,
    ⟨(some 30),.bin .eql (.t 29) (.c (.int .i64 5)),none⟩]) <|
  .cond (.t 30) (.reg [⟨(some 31),.mov (.t 3),none⟩,
    ⟨(some 32),.mov (.t 6),none⟩,
    ⟨(some 33),.mov (.t 4),none⟩,
    ⟨(some 34),.bldS true 1 1 (.int .i64 0) [(0,(.t 33))],none⟩,
    ⟨(some 35),.iadd (.t 31) (.t 32) 1,none⟩,
    ⟨none,.st (.t 35) (.t 34) 1,none⟩]) (.skip))) <|
  .reg [⟨(some 21),.mov (.t 6),none⟩,
    ⟨(some 22),.bin .add (.t 21) (.c (.int .i64 1)),none⟩,
    ⟨(some 6),.mov (.t 22),none⟩]))) <|
  .seqj [3] [] (.seq (.reg [⟨(some 36),.mov (.t 5),none⟩,
    ⟨(some 37),.len (.t 36),none⟩,
    ⟨(some 38),.bin .sub (.t 37) (.c (.int .i64 1)),none⟩,
    ⟨(some 7),.mov (.t 38),none⟩]) <|
  .block 2 (.loop [3,4,5] [7] (.seq (.seq (.reg [⟨(some 39),.mov (.t 7),none⟩,
    ⟨(some 40),.bin .geq (.t 39) (.c (.int .i64 0)),none⟩]) <|
  .cond (.t 40) (.skip) (.exit 2)) <|
  .seqj [3,4,5,7] [] (.block 3 (.seq (.reg [⟨(some 43),.mov (.t 3),none⟩,
    ⟨(some 44),.mov (.t 5),none⟩,
    ⟨(some 45),.mov (.t 7),none⟩,
    ⟨(some 46),.iadd (.t 44) (.t 45) 1,none⟩,
    ⟨(some 47),.ld (.t 46) 1 false,none⟩,
    ⟨(some 48),.call cR [(.t 43),(.t 47),(.c (.int .i64 (-1)))],none⟩,
    ⟨(some 49),.mov (.t 4),none⟩,
    ⟨(some 50),.iadd (.t 48) (.t 49) 1,none⟩,
    ⟨(some 51),.ld (.t 50) 1 false,none⟩,
    ⟨(some 52),.un .not (.t 51),none⟩]) <|
  .cond (.t 52) (.dreg [⟨(some 53),.mov (.t 3),none⟩,
    ⟨(some 54),.mov (.t 5),none⟩,
    ⟨(some 55),.mov (.t 7),none⟩,
    ⟨(some 56),.iadd (.t 54) (.t 55) 1,none⟩,
    ⟨(some 57),.ld (.t 56) 1 false,none⟩,
    ⟨(some 58),.bldS false 1 0 (.int .i64 0) [],none⟩,
    ⟨(some 59),.mov (.t 3),none⟩,
    ⟨(some 60),.mov (.t 5),none⟩,
    ⟨(some 61),.mov (.t 7),none⟩,
    ⟨(some 62),.iadd (.t 60) (.t 61) 1,none⟩,
    ⟨(some 63),.ld (.t 62) 1 false,none⟩,
    ⟨(some 64),.iadd (.t 59) (.t 63) 1,none⟩,
    ⟨(some 65),.ld (.t 64) 1 false,none⟩,
    ⟨(some 67),.mov (.t 4),none⟩,
    ⟨(some 68),.bldS false 1 1 (.int .i64 0) [(0,(.t 67))],none⟩,
    ⟨(some 70),.iadd (.t 53) (.t 57) 1,none⟩] [⟨(some 66),.app (.t 58) (.t 65) 1 8 (.int .i64 0),none⟩,
    ⟨(some 69),.app (.t 66) (.t 68) 1 8 (.int .i64 0),none⟩,
    ⟨none,.st (.t 70) (.t 69) 1,none⟩] [⟨(some 56),.iadd (.t 54) (.t 55) 1,none⟩,
    ⟨(some 57),.ld (.t 56) 1 false,none⟩,
    ⟨(some 70),.iadd (.t 53) (.t 57) 1,none⟩]) (.skip))) <|
  .reg [⟨(some 41),.mov (.t 7),none⟩,
    ⟨(some 42),.bin .sub (.t 41) (.c (.int .i64 1)),none⟩,
    ⟨(some 7),.mov (.t 42),none⟩]))) <|
  .seq (.reg [⟨(some 71),.mov (.t 3),none⟩,
    ⟨(some 2),.mov (.t 71),none⟩]) <|
  .ret,
  [.t 2]⟩
theorem vu:cFn PP true qY tH (cDr PP 72 wC)=some rJ:=by kernel_rfl
def uV:Nat->Option (List Nat×List Nat)
  | _=>none
def xH:Nat->Option (List Nat×List Nat×List Nat)
  | _=>none
def uw:av:=⟨30,
  .seq (.reg [⟨(some 1),.box (.t 0),none⟩,
    ⟨(some 2),.mov (.c .nil),none⟩]) <|
  .seq (.seq (.reg [⟨(some 3),.fadd (.t 1) 0,none⟩,
    ⟨(some 4),.ld (.t 3) 1 false,none⟩,
    ⟨(some 5),.bin .eql (.t 4) (.c (.int .i64 5)),none⟩]) <|
  .cond (.t 5) (.seq (.reg [⟨(some 6),.bldS true 1 0 (.int .i64 0) [],none⟩,
    ⟨(some 2),.mov (.t 6),none⟩]) <|
  .ret) (.skip)) <|
  .seq (.seq (.reg [⟨(some 7),.fadd (.t 1) 0,none⟩,
    ⟨(some 8),.ld (.t 7) 1 false,none⟩,
    ⟨(some 9),.bin .eql (.t 8) (.c (.int .i64 2)),none⟩,
    ⟨(some 10),.mov (.t 9),none⟩,
    ⟨(some 11),.fadd (.t 1) 11,some (10,true)⟩,
    ⟨(some 12),.iadda (.t 11) (.c (.int .i64 0)) 2 1,some (10,true)⟩,
    ⟨(some 13),.ld (.t 12) 1 false,some (10,true)⟩,
    ⟨(some 14),.fadd (.t 1) 11,some (10,true)⟩,
    ⟨(some 15),.iadda (.t 14) (.c (.int .i64 1)) 2 1,some (10,true)⟩,
    ⟨(some 16),.ld (.t 15) 1 false,some (10,true)⟩,
    ⟨(some 17),.bin .neq (.t 13) (.t 16),some (10,true)⟩,
    ⟨(some 18),.pick (.t 10) (.t 17) (.c (.bool false)),none⟩]) <|
  .cond (.t 18) (.seq (.reg [⟨(some 19),.fadd (.t 1) 11,none⟩,
    ⟨(some 20),.iadda (.t 19) (.c (.int .i64 0)) 2 1,none⟩,
    ⟨(some 21),.ld (.t 20) 1 false,none⟩,
    ⟨(some 22),.fadd (.t 1) 11,none⟩,
    ⟨(some 23),.iadda (.t 22) (.c (.int .i64 1)) 2 1,none⟩,
    ⟨(some 24),.ld (.t 23) 1 false,none⟩,
    ⟨(some 25),.bldS true 1 2 (.int .i64 0) [(0,(.t 21)),(1,(.t 24))],none⟩,
    ⟨(some 2),.mov (.t 25),none⟩]) <|
  .ret) (.skip)) <|
  .seq (.reg [⟨(some 26),.fadd (.t 1) 11,none⟩,
    ⟨(some 27),.iadda (.t 26) (.c (.int .i64 0)) 2 1,none⟩,
    ⟨(some 28),.ld (.t 27) 1 false,none⟩,
    ⟨(some 29),.bldS true 1 1 (.int .i64 0) [(0,(.t 28))],none⟩,
    ⟨(some 2),.mov (.t 29),none⟩]) <|
  .ret,
  [.t 2]⟩
theorem w8:cFn PP true jO uV (cDr PP 30 xH)=some uw:=by kernel_rfl
def tJ:Nat->Option (List Nat×List Nat)
  | _=>none
def wE:Nat->Option (List Nat×List Nat×List Nat)
  | _=>none
def rM:av:=⟨22,
  .seq (.reg [⟨(some 6),.mov (.c (.bool false)),none⟩]) <|
  .seq (.reg [⟨(some 7),.mov (.t 1),none⟩,
    ⟨(some 8),.mov (.t 2),none⟩,
    ⟨(some 9),.bin .eql (.t 7) (.t 8),none⟩,
    ⟨(some 10),.mov (.t 9),none⟩,
    ⟨(some 11),.mov (.t 0),some (10,false)⟩,
    ⟨(some 12),.mov (.t 1),some (10,false)⟩,
    ⟨(some 13),.mov (.t 2),some (10,false)⟩,
    ⟨(some 14),.call cR [(.t 11),(.t 12),(.t 13)],some (10,false)⟩,
    ⟨(some 15),.mov (.t 0),some (10,false)⟩,
    ⟨(some 16),.len (.t 15),some (10,false)⟩,
    ⟨(some 17),.bin .sub (.t 16) (.c (.int .i64 1)),some (10,false)⟩,
    ⟨(some 18),.iadd (.t 14) (.t 17) 1,some (10,false)⟩,
    ⟨(some 19),.ld (.t 18) 1 false,some (10,false)⟩,
    ⟨(some 20),.un .not (.t 19),some (10,false)⟩,
    ⟨(some 21),.pick (.t 10) (.c (.bool true)) (.t 20),none⟩,
    ⟨(some 6),.mov (.t 21),none⟩]) <|
  .ret,
  [.t 6]⟩
theorem vw:cFn PP true iH tJ (cDr PP 22 wE)=some rM:=by kernel_rfl
def po:Nat->Option (List Nat×List Nat)
  | _=>none
def rW:Nat->Option (List Nat×List Nat×List Nat)
  | _=>none
def mD:av:=⟨16,
  .seq (.reg [⟨(some 2),.box (.t 0),none⟩,
    ⟨(some 3),.box (.t 1),none⟩,
    ⟨(some 4),.mov (.c (.bool false)),none⟩]) <|
  .seq (.reg [⟨(some 5),.fadd (.t 3) 0,none⟩,
    ⟨(some 6),.ld (.t 5) 1 false,none⟩,
    ⟨(some 7),.bin .neq (.t 6) (.c (.int .i64 2)),none⟩,
    ⟨(some 8),.mov (.t 7),none⟩,
    ⟨(some 9),.fadd (.t 2) 1,some (8,false)⟩,
    ⟨(some 10),.ld (.t 9) 1 false,some (8,false)⟩,
    ⟨(some 11),.fadd (.t 3) 1,some (8,false)⟩,
    ⟨(some 12),.ld (.t 11) 1 false,some (8,false)⟩,
    ⟨(some 13),.iadd (.t 10) (.t 12) 1,some (8,false)⟩,
    ⟨(some 14),.ld (.t 13) 1 false,some (8,false)⟩,
    ⟨(some 15),.pick (.t 8) (.c (.bool true)) (.t 14),none⟩,
    ⟨(some 4),.mov (.t 15),none⟩]) <|
  .ret,
  [.t 4]⟩
theorem qL:cFn PP true dm po (cDr PP 16 rW)=some mD:=by kernel_rfl
def uX:Nat->Option (List Nat×List Nat)
  | _=>none
def xJ:Nat->Option (List Nat×List Nat×List Nat)
  | _=>none
def uy:av:=⟨10,
  .seq (.reg [⟨(some 1),.box (.t 0),none⟩,
    ⟨(some 2),.mov (.c (.int .i64 0)),none⟩]) <|
  .seq (.seq (.reg [⟨(some 3),.fadd (.t 1) 2,none⟩,
    ⟨(some 4),.fadd (.t 3) 0,none⟩,
    ⟨(some 5),.ld (.t 4) 1 false,none⟩,
    ⟨(some 6),.bin .eql (.t 5) (.c (.int .i64 2)),none⟩]) <|
  .cond (.t 6) (.seq (.reg [⟨(some 7),.fadd (.t 1) 2,none⟩,
    ⟨(some 8),.fadd (.t 7) 1,none⟩,
    ⟨(some 9),.ld (.t 8) 1 false,none⟩,
    ⟨(some 2),.mov (.t 9),none⟩]) <|
  .ret) (.skip)) <|
  .seq (.reg [⟨(some 2),.mov (.c (.int .i64 (-1))),none⟩]) <|
  .ret,
  [.t 2]⟩
theorem xe:cFn PP true tv uX (cDr PP 10 xJ)=some uy:=by kernel_rfl
def wN:Nat->Option (List Nat×List Nat)
  | _=>none
def yW:Nat->Option (List Nat×List Nat×List Nat)
  | _=>none
def wq:av:=⟨10,
  .seq (.reg [⟨(some 1),.box (.t 0),none⟩,
    ⟨(some 2),.mov (.c (.int .i64 0)),none⟩]) <|
  .seq (.seq (.reg [⟨(some 3),.fadd (.t 1) 3,none⟩,
    ⟨(some 4),.fadd (.t 3) 0,none⟩,
    ⟨(some 5),.ld (.t 4) 1 false,none⟩,
    ⟨(some 6),.bin .eql (.t 5) (.c (.int .i64 2)),none⟩]) <|
  .cond (.t 6) (.seq (.reg [⟨(some 7),.fadd (.t 1) 3,none⟩,
    ⟨(some 8),.fadd (.t 7) 1,none⟩,
    ⟨(some 9),.ld (.t 8) 1 false,none⟩,
    ⟨(some 2),.mov (.t 9),none⟩]) <|
  .ret) (.skip)) <|
  .seq (.reg [⟨(some 2),.mov (.c (.int .i64 (-1))),none⟩]) <|
  .ret,
  [.t 2]⟩
theorem yN:cFn PP true vS wN (cDr PP 10 yW)=some wq:=by kernel_rfl
def so:Nat->Option (List Nat×List Nat)
  | 1000008=>some ([1,4],[5])|_=>none
def uH:Nat->Option (List Nat×List Nat×List Nat)
  | _=>none
def pW:av:=⟨26,
  .seq (.reg [⟨(some 1),.box (.t 0),none⟩,
    ⟨(some 2),.mov (.c (.bool false)),none⟩]) <|
  .seq (.seq (.reg [⟨(some 3),.fadd (.t 1) 0,none⟩,
    ⟨(some 4),.ld (.t 3) 1 false,none⟩]) <|
  .block 0 (.seqj [1,4] [5] (.seq (.reg [⟨(some 6),.bin .eql (.t 4) (.c (.int .i64 1)),none⟩,
    ⟨(some 5),.mov (.t 6),none⟩]) <|
  .cond (.t 5) (.skip) (.seq (.reg [⟨(some 7),.bin .eql (.t 4) (.c (.int .i64 2)),none⟩,
    ⟨(some 5),.mov (.t 7),none⟩]) <|
  .cond (.t 5) (.skip) (.seq (.reg [⟨(some 8),.bin .eql (.t 4) (.c (.int .i64 3)),none⟩,
    ⟨(some 5),.mov (.t 8),none⟩]) <|
  .cond (.t 5) (.skip) (.seq (.reg [⟨(some 9),.bin .eql (.t 4) (.c (.int .i64 4)),none⟩,
    ⟨(some 5),.mov (.t 9),none⟩]) <|
  .cond (.t 5) (.skip) (.reg [⟨(some 10),.bin .eql (.t 4) (.c (.int .i64 6)),none⟩,
    ⟨(some 5),.mov (.t 10),none⟩]))))) <|
  .cond (.t 5) (.seq (.reg [⟨(some 2),.mov (.c (.bool true)),none⟩]) <|
  .ret) (.seq (.reg [⟨(some 12),.bin .eql (.t 4) (.c (.int .i64 5)),none⟩,
    ⟨(some 11),.mov (.t 12),none⟩]) <|
  .cond (.t 11) (.seq (.reg [⟨(some 13),.fadd (.t 1) 1,none⟩,
    ⟨(some 14),.ld (.t 13) 1 false,none⟩,
    ⟨(some 15),.bin .eql (.t 14) (.c (.int .i64 3)),none⟩,
    ⟨(some 16),.mov (.t 15),none⟩,
    ⟨(some 17),.fadd (.t 1) 1,some (16,false)⟩,
    ⟨(some 18),.ld (.t 17) 1 false,some (16,false)⟩,
    ⟨(some 19),.bin .eql (.t 18) (.c (.int .i64 4)),some (16,false)⟩,
    ⟨(some 20),.pick (.t 16) (.c (.bool true)) (.t 19),none⟩,
    ⟨(some 21),.mov (.t 20),none⟩,
    ⟨(some 22),.fadd (.t 1) 1,some (21,false)⟩,
    ⟨(some 23),.ld (.t 22) 1 false,some (21,false)⟩,
    ⟨(some 24),.bin .eql (.t 23) (.c (.int .i64 5)),some (21,false)⟩,
    ⟨(some 25),.pick (.t 21) (.c (.bool true)) (.t 24),none⟩,
    ⟨(some 2),.mov (.t 25),none⟩]) <|
  .ret) (.skip)))) <|
  .seq (.reg [⟨(some 2),.mov (.c (.bool false)),none⟩]) <|
  .ret,
  [.t 2]⟩
theorem uu:cFn PP true pd so (cDr PP 26 uH)=some pW:=by kernel_rfl
def sw:Nat->Option (List Nat×List Nat)
  | _=>none
def uL:Nat->Option (List Nat×List Nat×List Nat)
  | _=>none
def hP:av:=⟨17,
  .seq (.reg [⟨(some 4),.mov (.c (.bool false)),none⟩]) <|
  .seq (.reg [⟨(some 5),.mov (.t 0),none⟩,
    ⟨(some 6),.call cM [(.t 5)],none⟩,
    ⟨(some 7),.mov (.t 6),none⟩,
    ⟨(some 8),.mov (.t 1),some (7,true)⟩,
    ⟨(some 9),.call cM [(.t 8)],some (7,true)⟩,
    ⟨(some 10),.un .not (.t 9),some (7,true)⟩,
    ⟨(some 11),.pick (.t 7) (.t 10) (.c (.bool false)),none⟩,
    ⟨(some 12),.mov (.t 11),none⟩,
    ⟨(some 13),.mov (.t 0),some (12,false)⟩,
    ⟨(some 14),.mov (.t 1),some (12,false)⟩,
    ⟨(some 15),.bin .lss (.t 13) (.t 14),some (12,false)⟩,
    ⟨(some 16),.pick (.t 12) (.c (.bool true)) (.t 15),none⟩,
    ⟨(some 4),.mov (.t 16),none⟩]) <|
  .ret,
  [.t 4]⟩
theorem lG:cFn PP true dp sw (cDr PP 17 uL)=some hP:=by kernel_rfl
def pR (a0:D) (a1:D) (h0:Heap) (K:D->Heap->Prop):Prop :=
  af PP cM [a0] h0 fun a3 h4 =>
  vguard a3 true (fun G5 =>
  G5 a1 h4) h4 fun a6 h7 =>
  vguard a3 true (fun G8 =>
  af PP cM [a6] h7 fun a11 h12 =>
  G8 a11 h12) h7 fun a9 h10 =>
  vguard a3 true (fun G13 =>
  vun .not a9 fun a16 =>
  G13 a16 h10) h10 fun a14 h15 =>
  aa PP (.pick (.c a3) (.c a14) (.c (.bool false))) h15 fun a17 h18 =>
  vguard a17 false (fun G19 =>
  G19 a0 h18) h18 fun a20 h21 =>
  vguard a17 false (fun G22 =>
  G22 a1 h21) h21 fun a23 h24 =>
  vguard a17 false (fun G25 =>
  vbin .lss a20 a23 fun a28 =>
  G25 a28 h24) h24 fun a26 h27 =>
  aa PP (.pick (.c a17) (.c (.bool true)) (.c a26)) h27 fun a29 h30 =>
  K a29 h30
theorem uj (a0:D) (a1:D) (h0:Heap) (K:D->Heap->Prop):pR a0 a1 h0 K=vcC PP hP.code (fun x e h'=>match x with|.exit _=>False|.pan=>False|.jump _=>False|_=>bN PP hP.res K e h') (params [a0,a1] 0) h0:=by kernel_rfl
def gH:Nat->Option (List Nat×List Nat)
  | _=>none
def iO:Nat->Option (List Nat×List Nat×List Nat)
  | _=>none
noncomputable def fT:av:=⟨6,eG (cFn PP true bD gH (cDr PP 6 iO)),
  [.t 2]⟩
theorem oM:cFn PP true bD gH (cDr PP 6 iO)=some fT:=by kernel_rfl
def ky (a0:D) (h0:Heap) (K:D->Heap->Prop):Prop :=
  vbin .neq a0 a0 fun a2 =>
  K a2 h0
theorem oE (a0:D) (h0:Heap) (K:D->Heap->Prop):ky a0 h0 K=vcC PP fT.code (fun x e h'=>match x with|.exit _=>False|.pan=>False|.jump _=>False|_=>bN PP fT.res K e h') (params [a0] 0) h0:=by kernel_rfl
def qz:Nat->Option (List Nat×List Nat)
  | _=>none
def sV:Nat->Option (List Nat×List Nat×List Nat)
  | 1=>some ([0,1,0,7,0,0,63,127],[4,5,6,7],[])|_=>none
def og:av:=⟨10,
  .seq (.reg [⟨(some 1),.box (.t 0),none⟩,
    ⟨(some 2),.mov (.c .nilfn),none⟩]) <|
  .seq (.dreg [⟨(some 5),.ld (.t 1) 8 true,none⟩,
    ⟨(some 6),.call mW [(.t 5)],none⟩,
    ⟨(some 7),.ld (.t 1) 8 true,none⟩,
    ⟨(some 8),.call dY [(.t 7)],none⟩] [⟨(some 3),.alloc .nil,none⟩,
    ⟨(some 4),.alloc .nil,none⟩,
    ⟨none,.st (.t 3) (.t 6) 1,none⟩,
    ⟨none,.st (.t 4) (.t 8) 1,none⟩] []) <|
  .seq (.reg [⟨(some 9),.mkf kh [] [(.t 1),(.t 3),(.t 4)],none⟩,
    ⟨(some 2),.mov (.t 9),none⟩]) <|
  .ret,
  [.t 2]⟩
theorem sF:cFn PP true nM qz (cDr PP 10 sV)=some og:=by kernel_rfl
def sm:Nat->Option (List Nat×List Nat)
  | _=>none
def uG:Nat->Option (List Nat×List Nat×List Nat)
  | _=>none
def pV:av:=⟨22,
  .seq (.reg [⟨(some 2),.box (.t 0),none⟩,
    ⟨(some 3),.box (.t 1),none⟩,
    ⟨(some 4),.mov (.c (.bool false)),none⟩]) <|
  .seq (.seq (.reg [⟨(some 5),.ld (.t 2) 2 true,none⟩,
    ⟨(some 6),.fadd (.t 3) 0,none⟩,
    ⟨(some 7),.ld (.t 6) 2 true,none⟩,
    ⟨(some 8),.call mT [(.t 5),(.t 7)],none⟩,
    ⟨(some 9),.fadd (.t 8) 0,none⟩,
    ⟨(some 10),.ld (.t 9) 1 false,none⟩,
    ⟨(some 11),.un .not (.t 10),none⟩]) <|
  .cond (.t 11) (.seq (.reg [⟨(some 4),.mov (.c (.bool true)),none⟩]) <|
  .ret) (.skip)) <|
  .seq (.reg [⟨(some 12),.fadd (.t 3) 3,none⟩,
    ⟨(some 13),.ld (.t 12) 1 false,none⟩,
    ⟨(some 14),.un .not (.t 13),none⟩,
    ⟨(some 15),.mov (.t 14),none⟩,
    ⟨(some 16),.fadd (.t 3) 2,some (15,true)⟩,
    ⟨(some 17),.ld (.t 16) 1 false,some (15,true)⟩,
    ⟨(some 18),.mkf kU [] [(.t 2)],some (15,true)⟩,
    ⟨(some 19),.call bn [(.t 17),(.t 18)],some (15,true)⟩,
    ⟨(some 20),.un .not (.t 19),some (15,true)⟩,
    ⟨(some 21),.pick (.t 15) (.t 20) (.c (.bool false)),none⟩,
    ⟨(some 4),.mov (.t 21),none⟩]) <|
  .ret,
  [.t 4]⟩
theorem um:cFn PP true pc sm (cDr PP 22 uG)=some pV:=by kernel_rfl
def jR:Nat->Option (List Nat×List Nat)
  | 1000008=>some ([],[])|2=>some ([0,1,7],[8])|_=>none
def kM:Nat->Option (List Nat×List Nat×List Nat)
  | _=>none
def cb:av:=⟨19,
  .seq (.reg [⟨(some 4),.mov (.c (.int .i64 0)),none⟩]) <|
  .seqj [] [] (.seq (.reg [⟨(some 6),.mov (.t 0),none⟩,
    ⟨(some 7),.len (.t 6),none⟩,
    ⟨(some 8),.mov (.c (.int .i64 0)),none⟩]) <|
  .block 0 (.loop [0,1,7] [8] (.seq (.reg [⟨(some 9),.bin .lss (.t 8) (.t 7),none⟩]) <|
  .seq (.cond (.t 9) (.skip) (.exit 0)) <|
  .seq (.block 1 (.seq (.reg [⟨(some 10),.mov (.t 8),none⟩,
    ⟨(some 5),.mov (.t 10),none⟩]) <|
  .seq (.reg [⟨(some 11),.mov (.t 1),none⟩,
    ⟨(some 12),.mov (.t 0),none⟩,
    ⟨(some 13),.mov (.t 5),none⟩,
    ⟨(some 14),.iadd (.t 12) (.t 13) 1,none⟩,
    ⟨(some 15),.ld (.t 14) 1 false,none⟩,
    ⟨(some 16),.bin .eql (.t 11) (.t 15),none⟩]) <|
  .cond (.t 16) (.seq (.reg [⟨(some 17),.mov (.t 5),none⟩,
    ⟨(some 4),.mov (.t 17),none⟩]) <|
  .ret) (.skip))) <|
  .reg [⟨(some 18),.bin .add (.t 8) (.c (.int .i64 1)),none⟩,
    ⟨(some 8),.mov (.t 18),none⟩]))) <|
  .seq (.reg [⟨(some 4),.mov (.c (.int .i64 (-1))),none⟩]) <|
  .ret,
  [.t 4]⟩
theorem eM:cFn PP true bZ jR (cDr PP 19 kM)=some cb:=by kernel_rfl
def eJ (h0:Heap) (a6:D) (a0:D) (a1:D) (J3:List D->Heap->Prop) (K:D->Heap->Prop):Prop :=
  ∃(I7:Nat->List D->Heap->Prop) (n₀:Nat),I7 n₀ [(.int .i64 0)] h0/\∀(n8:Nat) (f9:Nat->D) (h10:Heap),I7 n8 [f9 8] h10 ->
  vbin .lss (f9 8) a6 fun a11 =>
  vcond a11 (aa PP (.iadd (.c a0) (.c (f9 8)) 1) h10 fun a12 h13 =>
  aa PP (.ld (.c a12) 1 false) h13 fun a14 h15 =>
  vbin .eql a1 a14 fun a16 =>
  vcond a16 (K (f9 8) h15) (
  vbin .add (f9 8) (.int .i64 1) fun a17 =>
  aX [a0,a1,a6] [a0,a1,a6]/\∃m,m<n8/\I7 m [a17] h15)) (
  aX [] []/\J3 [] h10)
def gh (a0:D) (a1:D) (h0:Heap) (K:D->Heap->Prop):Prop :=
  ∃(J3:List D->Heap->Prop),(∀(f4:Nat->D) (h5:Heap),J3 [] h5 ->
  K (.int .i64 (-1)) h5) /\
  bQ a0 h0 fun a6 =>
  eJ h0 a6 a0 a1 J3 K
theorem kz (a0:D) (a1:D) (h0:Heap) (K:D->Heap->Prop):gh a0 a1 h0 K=vcC PP cb.code (fun x e h'=>match x with|.exit _=>False|.pan=>False|.jump _=>False|_=>bN PP cb.res K e h') (params [a0,a1] 0) h0:=by kernel_rfl
def gp:Nat->Option (List Nat×List Nat)
  | 1000008=>some ([],[])|2=>some ([0,1,7],[8])|_=>none
def hU:Nat->Option (List Nat×List Nat×List Nat)
  | _=>none
def dI:av:=⟨19,
  .seq (.reg [⟨(some 4),.mov (.c (.int .i64 0)),none⟩]) <|
  .seqj [] [] (.seq (.reg [⟨(some 6),.mov (.t 0),none⟩,
    ⟨(some 7),.len (.t 6),none⟩,
    ⟨(some 8),.mov (.c (.int .i64 0)),none⟩]) <|
  .block 0 (.loop [0,1,7] [8] (.seq (.reg [⟨(some 9),.bin .lss (.t 8) (.t 7),none⟩]) <|
  .seq (.cond (.t 9) (.skip) (.exit 0)) <|
  .seq (.block 1 (.seq (.reg [⟨(some 10),.mov (.t 8),none⟩,
    ⟨(some 5),.mov (.t 10),none⟩]) <|
  .seq (.reg [⟨(some 11),.mov (.t 1),none⟩,
    ⟨(some 12),.mov (.t 0),none⟩,
    ⟨(some 13),.mov (.t 5),none⟩,
    ⟨(some 14),.iadd (.t 12) (.t 13) 1,none⟩,
    ⟨(some 15),.ld (.t 14) 1 false,none⟩,
    ⟨(some 16),.callv (.t 11) [(.t 15)],none⟩]) <|
  .cond (.t 16) (.seq (.reg [⟨(some 17),.mov (.t 5),none⟩,
    ⟨(some 4),.mov (.t 17),none⟩]) <|
  .ret) (.skip))) <|
  .reg [⟨(some 18),.bin .add (.t 8) (.c (.int .i64 1)),none⟩,
    ⟨(some 8),.mov (.t 18),none⟩]))) <|
  .seq (.reg [⟨(some 4),.mov (.c (.int .i64 (-1))),none⟩]) <|
  .ret,
  [.t 4]⟩
theorem gX:cFn PP true dG gp (cDr PP 19 hU)=some dI:=by kernel_rfl
def ga:Nat->Option (List Nat×List Nat)
  | 1000005=>some ([0,5],[6])|_=>none
def ig:Nat->Option (List Nat×List Nat×List Nat)
  | 5=>some ([0,0,0,4,0,16,48,112,240,0,1008,2032,4080,8176,16368,32764,65534,131071],[3,17],[999999])|6=>some ([0,0,1,7],[3],[])|_=>none
noncomputable def fx:av:=⟨39,eG (cFn PP true cj ga (cDr PP 39 ig)),
  [.t 4,.cell 5 3 true]⟩
theorem nv:cFn PP true cj ga (cDr PP 39 ig)=some fx:=by kernel_rfl
def jB (a0:D) (a1:D) (h0:Heap) (K:D->Heap->Prop):Prop :=
  aa PP (.alloc (.agg [(.int .i64 0),(.int .i64 0),(.int .i32 0)])) h0 fun a3 h4 =>
  af PP ah [a0] h4 fun a5 h6 =>
  vbin .rem a5 (.int .i64 5) fun a7 =>
  ∃(J8:List D->Heap->Prop),(∀(f9:Nat->D) (h10:Heap),J8 [f9 6] h10 ->
  af PP aK [a0] h10 fun a11 h12 =>
  aa PP (.alloc (.agg [(.int .i64 0),(.int .i64 0),(.int .i32 0)])) h12 fun a13 h14 =>
  aa PP (.st (.c a13) (.c a11) 3) h14 fun a15 h16 =>
  ae PP (.ld (.c a13) 3 true) h16 fun a17 =>
  ae PP (.fadd (.c a0) 0) h16 fun a18 =>
  ae PP (.fadd (.c a18) 2) h16 fun a19 =>
  ae PP (.fadd (.c a19) 5) h16 fun a20 =>
  ae PP (.ld (.c a20) 1 false) h16 fun a21 =>
  ae PP (.iadd (.c a21) (.c (f9 6)) 4) h16 fun a22 =>
  ae PP (.fadd (.c a22) 3) h16 fun a23 =>
  ae PP (.ld (.c a23) 1 false) h16 fun a24 =>
  vbin .sub a24 (.int .i64 1) fun a25 =>
  ae PP (.conv .i32 (.c a25)) h16 fun a26 =>
  af PP aI [a0] h16 fun a27 h28 =>
  ((ae PP (.ld (.c a13) 3 true) h28 fun a29=>aX [a29] [a17])/\(ae PP (.fadd (.c a0) 0) h28 fun a30=>aX [a30] [a18])/\(ae PP (.fadd (.c a18) 2) h28 fun a31=>aX [a31] [a19])/\(ae PP (.fadd (.c a19) 5) h28 fun a32=>aX [a32] [a20])/\(ae PP (.ld (.c a20) 1 false) h28 fun a33=>aX [a33] [a21])/\(ae PP (.iadd (.c a21) (.c (f9 6)) 4) h28 fun a34=>aX [a34] [a22])/\(ae PP (.fadd (.c a22) 3) h28 fun a35=>aX [a35] [a23])/\(ae PP (.ld (.c a23) 1 false) h28 fun a36=>aX [a36] [a24])/\True) /\
  ae PP (.call cu [(.c a26)]) h28 fun a37 =>
  ae PP (.bld [(.int .i64 0),(.int .i64 0),(.int .i64 0),(.int .i64 0),(.int .i64 0),(.int .i32 0),(.int .i64 0),(.int .i64 0),(.int .i32 0),(.int .i64 0),(.int .i64 0),(.int .i32 0),(.int .i64 0),(.int .i64 0),(.int .i32 0)] [(0,1,(.c (.int .i64 3))),(1,1,(.c (.int .i64 17))),(3,3,(.c a17)),(6,3,(.c a27)),(9,3,(.c a37))]) h28 fun a38 =>
  af PP aw [a0,a38] h28 fun a39 h40 =>
  ae PP (.ld (.c a13) 3 true) h40 fun a41 =>
  aa PP (.st (.c a3) (.c a41) 3) h40 fun a42 h43 =>
  aa PP (.ld (.c a3) 3 true) h43 fun a44 _ =>
  K (.tup [(f9 6),a44]) h43) /\
  vbin .eql a7 (.int .i64 3) fun a45 =>
  vguard a45 true (fun G46 =>
  G46 a1 h6) h6 fun a47 h48 =>
  vguard a45 true (fun G49 =>
  vun .not a47 fun a52 =>
  G49 a52 h48) h48 fun a50 h51 =>
  aa PP (.pick (.c a45) (.c a50) (.c (.bool false))) h51 fun a53 h54 =>
  vcond a53 (aX [a0,a3] [a0,a3]/\J8 [(.int .i64 0)] h54) (
  aX [a0,a3] [a0,a3]/\J8 [a7] h54)
theorem ni (a0:D) (a1:D) (h0:Heap) (K:D->Heap->Prop):jB a0 a1 h0 K=vcC PP fx.code (fun x e h'=>match x with|.exit _=>False|.pan=>False|.jump _=>False|_=>bN PP fx.res K e h') (params [a0,a1] 0) h0:=by kernel_rfl
def ic:Nat->Option (List Nat×List Nat)
  | 2=>some ([0],[1,2,3,8,9])|1000011=>some ([0,1,2,8,9,10],[3])|1000016=>some ([0,1,2,3,8,9,10],[11,12])|1000018=>some ([0,1,2,3,8,9,10,11],[])|_=>none
def iN:Nat->Option (List Nat×List Nat×List Nat)
  | 17=>some ([0,1,3,7,7,23,63,127,7,7,775,1799,4095,8191,16383],[],[])|_=>none
def ep:av:=⟨134,
  .seq (.reg [⟨(some 8),.mov (.c (.bool true)),none⟩]) <|
  .seq (.reg [⟨(some 9),.mov (.c (.bool true)),none⟩]) <|
  .block 0 (.loop [0] [1,2,3,8,9] (.block 1 (.seq (.reg [⟨(some 19),.mov (.t 2),none⟩,
    ⟨(some 20),.mov (.t 1),none⟩,
    ⟨(some 21),.bin .sub (.t 19) (.t 20),none⟩,
    ⟨(some 10),.mov (.t 21),none⟩]) <|
  .seq (.seq (.reg [⟨(some 22),.mov (.t 10),none⟩,
    ⟨(some 23),.bin .leq (.t 22) (.c (.int .i64 12)),none⟩]) <|
  .cond (.t 23) (.seq (.reg [⟨(some 24),.mov (.t 0),none⟩,
    ⟨(some 25),.mov (.t 1),none⟩,
    ⟨(some 26),.mov (.t 2),none⟩,
    ⟨(some 27),.call cD [(.t 24),(.t 25),(.t 26)],none⟩]) <|
  .ret) (.skip)) <|
  .seq (.seq (.reg [⟨(some 28),.mov (.t 3),none⟩,
    ⟨(some 29),.bin .eql (.t 28) (.c (.int .i64 0)),none⟩]) <|
  .cond (.t 29) (.seq (.reg [⟨(some 30),.mov (.t 0),none⟩,
    ⟨(some 31),.mov (.t 1),none⟩,
    ⟨(some 32),.mov (.t 2),none⟩,
    ⟨(some 33),.call jl [(.t 30),(.t 31),(.t 32)],none⟩]) <|
  .ret) (.skip)) <|
  .seqj [0,1,2,8,9,10] [3] (.seq (.reg [⟨(some 34),.mov (.t 8),none⟩,
    ⟨(some 35),.un .not (.t 34),none⟩]) <|
  .cond (.t 35) (.seq (.reg [⟨(some 36),.mov (.t 0),none⟩,
    ⟨(some 37),.mov (.t 1),none⟩,
    ⟨(some 38),.mov (.t 2),none⟩,
    ⟨(some 39),.call gl [(.t 36),(.t 37),(.t 38)],none⟩]) <|
  .reg [⟨(some 40),.mov (.t 3),none⟩,
    ⟨(some 41),.bin .sub (.t 40) (.c (.int .i64 1)),none⟩,
    ⟨(some 3),.mov (.t 41),none⟩]) (.skip)) <|
  .seq (.reg [⟨(some 43),.mov (.t 0),none⟩,
    ⟨(some 44),.mov (.t 1),none⟩,
    ⟨(some 45),.mov (.t 2),none⟩,
    ⟨(some 46),.call hZ [(.t 43),(.t 44),(.t 45)],none⟩,
    ⟨(some 42),.mov (.t 46),none⟩,
    ⟨(some 47),.ext (.t 42) 0,none⟩,
    ⟨(some 48),.ext (.t 42) 1,none⟩,
    ⟨(some 11),.mov (.t 47),none⟩,
    ⟨(some 12),.mov (.t 48),none⟩]) <|
  .seqj [0,1,2,3,8,9,10] [11,12] (.seq (.reg [⟨(some 49),.mov (.t 12),none⟩,
    ⟨(some 50),.bin .eql (.t 49) (.c (.int .i64 2)),none⟩]) <|
  .cond (.t 50) (.seq (.reg [⟨(some 51),.mov (.t 0),none⟩,
    ⟨(some 52),.mov (.t 1),none⟩,
    ⟨(some 53),.mov (.t 2),none⟩,
    ⟨(some 54),.call gD [(.t 51),(.t 52),(.t 53)],none⟩]) <|
  .seq (.reg [⟨(some 55),.mov (.t 2),none⟩,
    ⟨(some 56),.bin .sub (.t 55) (.c (.int .i64 1)),none⟩,
    ⟨(some 57),.mov (.t 11),none⟩,
    ⟨(some 58),.mov (.t 1),none⟩,
    ⟨(some 59),.bin .sub (.t 57) (.t 58),none⟩,
    ⟨(some 60),.bin .sub (.t 56) (.t 59),none⟩,
    ⟨(some 11),.mov (.t 60),none⟩]) <|
  .reg [⟨(some 12),.mov (.c (.int .i64 1)),none⟩]) (.skip)) <|
  .seqj [0,1,2,3,8,9,10,11] [] (.seq (.reg [⟨(some 61),.mov (.t 8),none⟩,
    ⟨(some 62),.mov (.t 61),none⟩,
    ⟨(some 63),.mov (.t 9),some (62,true)⟩,
    ⟨(some 64),.pick (.t 62) (.t 63) (.c (.bool false)),none⟩,
    ⟨(some 65),.mov (.t 64),none⟩,
    ⟨(some 66),.mov (.t 12),some (65,true)⟩,
    ⟨(some 67),.bin .eql (.t 66) (.c (.int .i64 1)),some (65,true)⟩,
    ⟨(some 68),.pick (.t 65) (.t 67) (.c (.bool false)),none⟩]) <|
  .cond (.t 68) (.seq (.reg [⟨(some 69),.mov (.t 0),none⟩,
    ⟨(some 70),.mov (.t 1),none⟩,
    ⟨(some 71),.mov (.t 2),none⟩,
    ⟨(some 72),.call ea [(.t 69),(.t 70),(.t 71)],none⟩]) <|
  .cond (.t 72) (.ret) (.skip)) (.skip)) <|
  .seq (.seq (.dreg [⟨(some 73),.mov (.t 1),none⟩,
    ⟨(some 74),.bin .gtr (.t 73) (.c (.int .i64 0)),none⟩,
    ⟨(some 75),.mov (.t 74),none⟩,
    ⟨(some 76),.mov (.t 0),some (75,true)⟩,
    ⟨(some 77),.mov (.t 1),some (75,true)⟩,
    ⟨(some 78),.bin .sub (.t 77) (.c (.int .i64 1)),some (75,true)⟩,
    ⟨(some 79),.iadd (.t 76) (.t 78) 1,some (75,true)⟩,
    ⟨(some 80),.ld (.t 79) 1 false,some (75,true)⟩,
    ⟨(some 81),.mov (.t 0),some (75,true)⟩,
    ⟨(some 82),.mov (.t 11),some (75,true)⟩,
    ⟨(some 83),.iadd (.t 81) (.t 82) 1,some (75,true)⟩,
    ⟨(some 84),.ld (.t 83) 1 false,some (75,true)⟩,
    ⟨(some 85),.call dp [(.t 80),(.t 84)],some (75,true)⟩,
    ⟨(some 86),.un .not (.t 85),some (75,true)⟩,
    ⟨(some 87),.pick (.t 75) (.t 86) (.c (.bool false)),none⟩] [] []) <|
  .cond (.t 87) (.seq (.reg [⟨(some 88),.mov (.t 0),none⟩,
    ⟨(some 89),.mov (.t 1),none⟩,
    ⟨(some 90),.mov (.t 2),none⟩,
    ⟨(some 91),.mov (.t 11),none⟩,
    ⟨(some 92),.call fO [(.t 88),(.t 89),(.t 90),(.t 91)],none⟩,
    ⟨(some 13),.mov (.t 92),none⟩]) <|
  .seq (.reg [⟨(some 93),.mov (.t 13),none⟩,
    ⟨(some 1),.mov (.t 93),none⟩]) <|
  .exit 1) (.skip)) <|
  .seq (.reg [⟨(some 95),.mov (.t 0),none⟩,
    ⟨(some 96),.mov (.t 1),none⟩,
    ⟨(some 97),.mov (.t 2),none⟩,
    ⟨(some 98),.mov (.t 11),none⟩,
    ⟨(some 99),.call iU [(.t 95),(.t 96),(.t 97),(.t 98)],none⟩,
    ⟨(some 94),.mov (.t 99),none⟩,
    ⟨(some 100),.ext (.t 94) 0,none⟩,
    ⟨(some 101),.ext (.t 94) 1,none⟩,
    ⟨(some 14),.mov (.t 100),none⟩,
    ⟨(some 15),.mov (.t 101),none⟩]) <|
  .seq (.reg [⟨(some 102),.mov (.t 15),none⟩,
    ⟨(some 9),.mov (.t 102),none⟩]) <|
  .seq (.reg [⟨(some 103),.mov (.t 14),none⟩,
    ⟨(some 104),.mov (.t 1),none⟩,
    ⟨(some 105),.bin .sub (.t 103) (.t 104),none⟩,
    ⟨(some 106),.mov (.t 2),none⟩,
    ⟨(some 107),.mov (.t 14),none⟩,
    ⟨(some 108),.bin .sub (.t 106) (.t 107),none⟩,
    ⟨(some 16),.mov (.t 105),none⟩,
    ⟨(some 17),.mov (.t 108),none⟩]) <|
  .seq (.reg [⟨(some 109),.mov (.t 10),none⟩,
    ⟨(some 110),.bin .quo (.t 109) (.c (.int .i64 8)),none⟩,
    ⟨(some 18),.mov (.t 110),none⟩]) <|
  .seq (.reg [⟨(some 111),.mov (.t 16),none⟩,
    ⟨(some 112),.mov (.t 17),none⟩,
    ⟨(some 113),.bin .lss (.t 111) (.t 112),none⟩]) <|
  .cond (.t 113) (.seq (.reg [⟨(some 114),.mov (.t 16),none⟩,
    ⟨(some 115),.mov (.t 18),none⟩,
    ⟨(some 116),.bin .geq (.t 114) (.t 115),none⟩,
    ⟨(some 8),.mov (.t 116),none⟩]) <|
  .seq (.reg [⟨(some 117),.mov (.t 0),none⟩,
    ⟨(some 118),.mov (.t 1),none⟩,
    ⟨(some 119),.mov (.t 14),none⟩,
    ⟨(some 120),.mov (.t 3),none⟩,
    ⟨(some 121),.call bF [(.t 117),(.t 118),(.t 119),(.t 120)],none⟩]) <|
  .reg [⟨(some 122),.mov (.t 14),none⟩,
    ⟨(some 123),.bin .add (.t 122) (.c (.int .i64 1)),none⟩,
    ⟨(some 1),.mov (.t 123),none⟩]) (.seq (.reg [⟨(some 124),.mov (.t 17),none⟩,
    ⟨(some 125),.mov (.t 18),none⟩,
    ⟨(some 126),.bin .geq (.t 124) (.t 125),none⟩,
    ⟨(some 8),.mov (.t 126),none⟩]) <|
  .seq (.reg [⟨(some 127),.mov (.t 0),none⟩,
    ⟨(some 128),.mov (.t 14),none⟩,
    ⟨(some 129),.bin .add (.t 128) (.c (.int .i64 1)),none⟩,
    ⟨(some 130),.mov (.t 2),none⟩,
    ⟨(some 131),.mov (.t 3),none⟩,
    ⟨(some 132),.call bF [(.t 127),(.t 129),(.t 130),(.t 131)],none⟩]) <|
  .reg [⟨(some 133),.mov (.t 14),none⟩,
    ⟨(some 2),.mov (.t 133),none⟩])))),
  []⟩
theorem iG:cFn PP true bF ic (cDr PP 134 iN)=some ep:=by kernel_rfl
def qD:Nat->Option (List Nat×List Nat)
  | _=>none
def sZ:Nat->Option (List Nat×List Nat×List Nat)
  | _=>none
def om:av:=⟨8,
  .seq (.reg [⟨(some 2),.mov (.c (.int .i64 0)),none⟩]) <|
  .seq (.cond (.c (.bool false)) (.seq (.reg [⟨(some 3),.mov (.t 0),none⟩,
    ⟨(some 4),.conv .u32 (.t 3),none⟩,
    ⟨(some 5),.call tA [(.t 4)],none⟩,
    ⟨(some 2),.mov (.t 5),none⟩]) <|
  .ret) (.skip)) <|
  .seq (.reg [⟨(some 6),.mov (.t 0),none⟩,
    ⟨(some 7),.call kW [(.t 6)],none⟩,
    ⟨(some 2),.mov (.t 7),none⟩]) <|
  .ret,
  [.t 2]⟩
theorem sJ:cFn PP true nP qD (cDr PP 8 sZ)=some om:=by kernel_rfl
def tG:Nat->Option (List Nat×List Nat)
  | _=>none
def wB:Nat->Option (List Nat×List Nat×List Nat)
  | 1=>some ([0,0,2,6,14,30,63,127,255],[4,6],[999999])|_=>none
def rI:av:=⟨11,
  .seq (.reg [⟨(some 1),.box (.t 0),none⟩,
    ⟨(some 2),.mov (.c .nil),none⟩]) <|
  .seq (.seq (.dreg [⟨(some 3),.ld (.t 1) 8 true,none⟩,
    ⟨(some 4),.fadd (.t 1) 7,none⟩,
    ⟨(some 5),.ld (.t 4) 1 false,none⟩,
    ⟨(some 6),.len (.t 5),none⟩] [⟨(some 7),.mk 1 1 (.bool false) (.t 6) (.t 6),none⟩] [⟨(some 3),.ld (.t 1) 8 true,none⟩]) <|
  .seq (.dreg [⟨(some 8),.bld [.nil,.nil] [(0,1,(.t 7))],none⟩] [⟨(some 9),.call lI [(.t 3),(.t 8),(.c (.int .i64 0))],none⟩] []) <|
  .dreg [⟨(some 10),.fld (.t 9) 1 1 false,none⟩,
    ⟨(some 2),.mov (.t 10),none⟩] [] []) <|
  .ret,
  [.t 2]⟩
theorem vt:cFn PP true qX tG (cDr PP 11 wB)=some rI:=by kernel_rfl
def qG:Nat->Option (List Nat×List Nat)
  | _=>none
def s9:Nat->Option (List Nat×List Nat×List Nat)
  | _=>none
def fM:av:=⟨6,
  .seq (.reg [⟨(some 2),.mov (.c (.bool false)),none⟩]) <|
  .seq (.reg [⟨(some 3),.mov (.t 0),none⟩,
    ⟨(some 4),.mov (.t 0),none⟩,
    ⟨(some 5),.bin .neq (.t 3) (.t 4),none⟩,
    ⟨(some 2),.mov (.t 5),none⟩]) <|
  .ret,
  [.t 2]⟩
theorem kK:cFn PP true cM qG (cDr PP 6 s9)=some fM:=by kernel_rfl
def od (a0:D) (h0:Heap) (K:D->Heap->Prop):Prop :=
  vbin .neq a0 a0 fun a2 =>
  K a2 h0
theorem sD (a0:D) (h0:Heap) (K:D->Heap->Prop):od a0 h0 K=vcC PP fM.code (fun x e h'=>match x with|.exit _=>False|.pan=>False|.jump _=>False|_=>bN PP fM.res K e h') (params [a0] 0) h0:=by kernel_rfl
end Go.Am
namespace Go.Am
open Go Go.Proofs
def tN:Nat->Option (List Nat×List Nat)
  | 1000027=>some ([3],[])|5=>some ([1,3,4,5,24,25],[26])|1000026=>some ([1,3,4,5,24,25,26],[])|1000019=>some ([1,3,4,5,6,9,24,25,26],[])|11=>some ([1,3,4,5,6,9,24,25,26,47,48],[49])|1000018=>some ([1,3,4,5,6,9,24,25,26,47,48,49],[])|4000016=>some ([1,3,4,5,6,9,24,25,26,47,48,49],[4])|20=>some ([1,3,4,5,6,24,25,26,71,72],[73])|1000025=>some ([1,3,4,5,6,24,25,26,71,72,73],[])|_=>none
def wI:Nat->Option (List Nat×List Nat×List Nat)
  | 8=>some ([0,1,3,7,0,31,63,127,255,511,1023,2047,4095],[],[])|23=>some ([0,0,0,0,12,28,0,64,252,511,1023],[8,10],[9])|_=>none
def rP:av:=⟨95,
  .seq (.reg [⟨(some 1),.box (.t 0),none⟩,
    ⟨(some 2),.mov (.c .nil),none⟩]) <|
  .seq (.reg [⟨(some 15),.fadd (.t 1) 7,none⟩,
    ⟨(some 16),.ld (.t 15) 1 false,none⟩,
    ⟨(some 17),.len (.t 16),none⟩,
    ⟨(some 18),.mk 1 24 .nil (.t 17) (.t 17),none⟩,
    ⟨(some 3),.mov (.t 18),none⟩]) <|
  .seq (.reg [⟨(some 19),.ld (.t 1) 8 true,none⟩,
    ⟨(some 20),.call x6 [(.t 19)],none⟩,
    ⟨(some 4),.mov (.t 20),none⟩]) <|
  .seq (.reg [⟨(some 21),.mov (.t 4),none⟩,
    ⟨(some 22),.call nQ [(.t 21)],none⟩,
    ⟨(some 5),.alloc .nil,none⟩,
    ⟨none,.st (.t 5) (.t 22) 1,none⟩]) <|
  .seqj [3] [] (.seq (.reg [⟨(some 23),.fadd (.t 1) 7,none⟩,
    ⟨(some 24),.ld (.t 23) 1 false,none⟩,
    ⟨(some 25),.len (.t 24),none⟩,
    ⟨(some 26),.mov (.c (.int .i64 0)),none⟩]) <|
  .block 0 (.loop [1,3,4,5,24,25] [26] (.seq (.reg [⟨(some 27),.bin .lss (.t 26) (.t 25),none⟩]) <|
  .seq (.cond (.t 27) (.skip) (.exit 0)) <|
  .seqj [1,3,4,5,24,25,26] [] (.block 1 (.seq (.reg [⟨(some 28),.mov (.t 26),none⟩,
    ⟨(some 29),.iadd (.t 24) (.t 26) 14,none⟩,
    ⟨(some 30),.ld (.t 29) 14 true,none⟩,
    ⟨(some 6),.alloc (.int .i64 0),none⟩,
    ⟨(some 7),.alloc (.agg [.nil,(.int .i64 0),(.int .i64 0),(.int .i64 0),(.int .i64 0),(.int .i32 0),(.int .i64 0),(.int .i64 0),(.int .i32 0),(.int .i64 0),(.int .i64 0),(.int .i32 0),(.int .i64 0),(.int .i64 0)]),none⟩,
    ⟨none,.st (.t 6) (.t 28) 1,none⟩,
    ⟨none,.st (.t 7) (.t 30) 14,none⟩]) <|
  .seq (.reg [⟨(some 31),.fadd (.t 7) 1,none⟩,
    ⟨(some 32),.ld (.t 31) 13 true,none⟩,
    ⟨(some 33),.call dH [(.t 32)],none⟩,
    ⟨(some 8),.mov (.t 33),none⟩]) <|
  .seq (.seq (.dreg [⟨(some 34),.mov (.t 4),none⟩,
    ⟨(some 35),.fadd (.t 34) 0,none⟩,
    ⟨(some 36),.fadd (.t 35) 2,none⟩,
    ⟨(some 37),.ld (.t 36) 1 false,none⟩,
    ⟨(some 38),.ld (.t 6) 1 false,none⟩,
    ⟨(some 39),.iadd (.t 37) (.t 38) 1,none⟩,
    ⟨(some 40),.ld (.t 39) 1 false,none⟩,
    ⟨(some 41),.bin .lss (.t 40) (.c (.int .i64 0)),none⟩,
    ⟨(some 42),.mov (.t 41),none⟩,
    ⟨(some 43),.mov (.t 8),some (42,false)⟩,
    ⟨(some 44),.len (.t 43),some (42,false)⟩,
    ⟨(some 45),.bin .neq (.t 44) (.c (.int .i64 2)),some (42,false)⟩,
    ⟨(some 46),.pick (.t 42) (.c (.bool true)) (.t 45),none⟩] [] []) <|
  .cond (.t 46) (.exit 1) (.skip)) <|
  .seq (.reg [⟨(some 9),.alloc .nil,none⟩]) <|
  .seqj [1,3,4,5,6,9,24,25,26] [] (.seq (.reg [⟨(some 47),.mov (.t 8),none⟩,
    ⟨(some 48),.len (.t 47),none⟩,
    ⟨(some 49),.mov (.c (.int .i64 0)),none⟩]) <|
  .block 2 (.loop [1,3,4,5,6,9,24,25,26,47,48] [49] (.seq (.reg [⟨(some 50),.bin .lss (.t 49) (.t 48),none⟩]) <|
  .seq (.cond (.t 50) (.skip) (.exit 2)) <|
  .seqj [1,3,4,5,6,9,24,25,26,47,48,49] [] (.block 3 (.seq (.reg [⟨(some 51),.iadd (.t 47) (.t 49) 1,none⟩,
    ⟨(some 52),.ld (.t 51) 1 false,none⟩,
    ⟨(some 11),.mov (.t 52),none⟩]) <|
  .seq (.reg [⟨(some 53),.ld (.t 5) 1 false,none⟩,
    ⟨(some 54),.mov (.t 11),none⟩,
    ⟨(some 55),.call vU [(.t 53),(.t 54)],none⟩]) <|
  .block 4 (.range (.t 55) [56] [1,3,4,5,6,9,24,25,26,47,48,49] [4] (.reg [⟨(some 12),.mov (.t 56),none⟩]) (.block 5 (.seq (.seq (.reg [⟨(some 57),.mov (.t 12),none⟩,
    ⟨(some 58),.ld (.t 5) 1 false,none⟩,
    ⟨(some 59),.ld (.t 6) 1 false,none⟩,
    ⟨(some 60),.iadd (.t 58) (.t 59) 1,none⟩,
    ⟨(some 61),.ld (.t 60) 1 false,none⟩,
    ⟨(some 62),.bin .eql (.t 57) (.t 61),none⟩]) <|
  .cond (.t 62) (.exit 4) (.skip)) <|
  .reg [⟨(some 63),.ld (.t 9) 1 false,none⟩,
    ⟨(some 64),.mov (.t 12),none⟩,
    ⟨(some 65),.bldS true 1 1 (.int .i64 0) [(0,(.t 64))],none⟩,
    ⟨(some 66),.app (.t 63) (.t 65) 1 8 (.int .i64 0),none⟩,
    ⟨none,.st (.t 9) (.t 66) 1,none⟩]))))) <|
  .reg [⟨(some 67),.bin .add (.t 49) (.c (.int .i64 1)),none⟩,
    ⟨(some 49),.mov (.t 67),none⟩]))) <|
  .seq (.reg [⟨(some 68),.ld (.t 9) 1 false,none⟩,
    ⟨(some 69),.call gE [(.t 68)],none⟩]) <|
  .seq (.reg [⟨(some 70),.ld (.t 9) 1 false,none⟩,
    ⟨(some 71),.call fe [(.t 70)],none⟩,
    ⟨(some 72),.len (.t 71),none⟩,
    ⟨(some 73),.mov (.c (.int .i64 0)),none⟩]) <|
  .block 6 (.loop [1,3,4,5,6,24,25,26,71,72] [73] (.seq (.reg [⟨(some 74),.bin .lss (.t 73) (.t 72),none⟩]) <|
  .seq (.cond (.t 74) (.skip) (.exit 6)) <|
  .seqj [1,3,4,5,6,24,25,26,71,72,73] [] (.block 7 (.seq (.reg [⟨(some 75),.iadd (.t 71) (.t 73) 1,none⟩,
    ⟨(some 76),.ld (.t 75) 1 false,none⟩,
    ⟨(some 14),.mov (.t 76),none⟩]) <|
  .seq (.reg [⟨(some 77),.mov (.t 14),none⟩,
    ⟨(some 78),.fadd (.t 1) 7,none⟩,
    ⟨(some 79),.ld (.t 78) 1 false,none⟩,
    ⟨(some 80),.len (.t 79),none⟩,
    ⟨(some 81),.bin .lss (.t 77) (.t 80),none⟩]) <|
  .cond (.t 81) (.dreg [⟨(some 82),.mov (.t 3),none⟩,
    ⟨(some 83),.mov (.t 14),none⟩,
    ⟨(some 84),.mov (.t 3),none⟩,
    ⟨(some 85),.mov (.t 14),none⟩,
    ⟨(some 86),.iadd (.t 84) (.t 85) 1,none⟩,
    ⟨(some 87),.ld (.t 86) 1 false,none⟩,
    ⟨(some 88),.ld (.t 6) 1 false,none⟩,
    ⟨(some 89),.bldS false 1 1 (.int .i64 0) [(0,(.t 88))],none⟩,
    ⟨(some 91),.iadd (.t 82) (.t 83) 1,none⟩] [⟨(some 90),.app (.t 87) (.t 89) 1 8 (.int .i64 0),none⟩,
    ⟨none,.st (.t 91) (.t 90) 1,none⟩] [⟨(some 91),.iadd (.t 82) (.t 83) 1,none⟩]) (.skip))) <|
  .reg [⟨(some 92),.bin .add (.t 73) (.c (.int .i64 1)),none⟩,
    ⟨(some 73),.mov (.t 92),none⟩])))) <|
  .reg [⟨(some 93),.bin .add (.t 26) (.c (.int .i64 1)),none⟩,
    ⟨(some 26),.mov (.t 93),none⟩]))) <|
  .seq (.reg [⟨(some 94),.mov (.t 3),none⟩,
    ⟨(some 2),.mov (.t 94),none⟩]) <|
  .ret,
  [.t 2]⟩
theorem vE:cFn PP true dY tN (cDr PP 95 wI)=some rP:=by kernel_rfl
def mZ:Nat->Option (List Nat×List Nat)
  | 1=>some ([0,1,2,3,16,17],[18])|1000021=>some ([0,1,2,3,16,17,18],[])|1000013=>some ([0,1,2,3,6,7,16,17,18],[])|7=>some ([0,1,2,3,6,7,16,17,18,38,39],[40])|1000019=>some ([0,1,2,3,6,16,17,18],[])|13=>some ([0,1,2,3,6,7,16,17,18,65,66],[67])|_=>none
def oU:Nat->Option (List Nat×List Nat×List Nat)
  | 15=>some ([0,1,3,0,8,0,32,0,128,504,1019,0,2048,8187,0,32763,65535,0,262143],[1,10,13,15,17,18],[999998,4])|_=>none
def kG:av:=⟨113,
  .seq (.reg [⟨(some 15),.fadd (.t 1) 7,none⟩,
    ⟨(some 16),.ld (.t 15) 1 false,none⟩,
    ⟨(some 17),.len (.t 16),none⟩,
    ⟨(some 18),.mov (.c (.int .i64 0)),none⟩]) <|
  .block 0 (.loop [0,1,2,3,16,17] [18] (.seq (.reg [⟨(some 19),.bin .lss (.t 18) (.t 17),none⟩]) <|
  .seq (.cond (.t 19) (.skip) (.exit 0)) <|
  .seqj [0,1,2,3,16,17,18] [] (.block 1 (.seq (.reg [⟨(some 20),.mov (.t 18),none⟩,
    ⟨(some 21),.iadd (.t 16) (.t 18) 14,none⟩,
    ⟨(some 22),.ld (.t 21) 14 true,none⟩,
    ⟨(some 6),.alloc (.agg [.nil,(.int .i64 0),(.int .i64 0),(.int .i64 0),(.int .i64 0),(.int .i32 0),(.int .i64 0),(.int .i64 0),(.int .i32 0),(.int .i64 0),(.int .i64 0),(.int .i32 0),(.int .i64 0),(.int .i64 0)]),none⟩,
    ⟨(some 5),.mov (.t 20),none⟩,
    ⟨none,.st (.t 6) (.t 22) 14,none⟩]) <|
  .seq (.reg [⟨(some 23),.mov (.t 5),none⟩,
    ⟨(some 24),.bld [(.bool false),(.int .i64 0)] [(0,1,(.c (.bool true))),(1,1,(.t 23))],none⟩,
    ⟨(some 7),.alloc (.agg [(.bool false),(.int .i64 0)]),none⟩,
    ⟨none,.st (.t 7) (.t 24) 2,none⟩]) <|
  .seq (.seq (.reg [⟨(some 25),.ld (.t 2) 1 false,none⟩,
    ⟨(some 26),.mov (.t 5),none⟩,
    ⟨(some 27),.iadd (.t 25) (.t 26) 1,none⟩,
    ⟨(some 28),.ld (.t 27) 1 false,none⟩,
    ⟨(some 29),.un .not (.t 28),none⟩]) <|
  .cond (.t 29) (.seq (.seq (.reg [⟨(some 30),.mov (.t 0),none⟩,
    ⟨(some 31),.ld (.t 7) 2 true,none⟩,
    ⟨(some 32),.bld [(.bool false),(.int .i64 0),.nil,(.bool false)] [(0,2,(.t 31)),(3,1,(.c (.bool true)))],none⟩,
    ⟨(some 33),.callv (.t 30) [(.t 32)],none⟩,
    ⟨(some 34),.un .not (.t 33),none⟩]) <|
  .cond (.t 34) (.ret) (.skip)) <|
  .exit 1) (.skip)) <|
  .seqj [0,1,2,3,6,7,16,17,18] [] (.seq (.reg [⟨(some 35),.ld (.t 3) 1 false,none⟩,
    ⟨(some 36),.mov (.t 5),none⟩,
    ⟨(some 37),.iadd (.t 35) (.t 36) 1,none⟩,
    ⟨(some 38),.ld (.t 37) 1 false,none⟩,
    ⟨(some 39),.len (.t 38),none⟩,
    ⟨(some 40),.mov (.c (.int .i64 0)),none⟩]) <|
  .block 2 (.loop [0,1,2,3,6,7,16,17,18,38,39] [40] (.seq (.reg [⟨(some 41),.bin .lss (.t 40) (.t 39),none⟩]) <|
  .seq (.cond (.t 41) (.skip) (.exit 2)) <|
  .seq (.block 3 (.seq (.reg [⟨(some 42),.iadd (.t 38) (.t 40) 1,none⟩,
    ⟨(some 43),.ld (.t 42) 1 false,none⟩,
    ⟨(some 9),.mov (.t 43),none⟩]) <|
  .seq (.reg [⟨(some 44),.fadd (.t 1) 7,none⟩,
    ⟨(some 45),.ld (.t 44) 1 false,none⟩,
    ⟨(some 46),.mov (.t 9),none⟩,
    ⟨(some 47),.iadd (.t 45) (.t 46) 14,none⟩,
    ⟨(some 48),.fadd (.t 47) 1,none⟩,
    ⟨(some 49),.fadd (.t 48) 5,none⟩,
    ⟨(some 50),.ld (.t 49) 3 true,none⟩,
    ⟨(some 51),.bldS true 3 1 (.agg [(.int .i64 0),(.int .i64 0),(.int .i32 0)]) [(0,(.t 50))],none⟩,
    ⟨(some 52),.call fj [(.t 51)],none⟩,
    ⟨(some 53),.mov (.t 9),none⟩,
    ⟨(some 54),.bld [(.bool false),(.int .i64 0)] [(0,1,(.c (.bool true))),(1,1,(.t 53))],none⟩,
    ⟨(some 55),.bldS true 2 1 (.agg [(.bool false),(.int .i64 0)]) [(0,(.t 54))],none⟩,
    ⟨(some 56),.app (.t 52) (.t 55) 2 16 (.agg [(.bool false),(.int .i64 0)]),none⟩,
    ⟨(some 10),.mov (.t 56),none⟩]) <|
  .seq (.reg [⟨(some 57),.mov (.t 0),none⟩,
    ⟨(some 58),.ld (.t 7) 2 true,none⟩,
    ⟨(some 59),.mov (.t 10),none⟩,
    ⟨(some 60),.bld [(.bool false),(.int .i64 0),.nil,(.bool false)] [(0,2,(.t 58)),(2,1,(.t 59))],none⟩,
    ⟨(some 61),.callv (.t 57) [(.t 60)],none⟩,
    ⟨(some 62),.un .not (.t 61),none⟩]) <|
  .cond (.t 62) (.ret) (.skip))) <|
  .reg [⟨(some 63),.bin .add (.t 40) (.c (.int .i64 1)),none⟩,
    ⟨(some 40),.mov (.t 63),none⟩]))) <|
  .seqj [0,1,2,3,6,16,17,18] [] (.seq (.reg [⟨(some 64),.fadd (.t 6) 0,none⟩,
    ⟨(some 65),.ld (.t 64) 1 false,none⟩,
    ⟨(some 66),.len (.t 65),none⟩,
    ⟨(some 67),.mov (.c (.int .i64 0)),none⟩]) <|
  .block 4 (.loop [0,1,2,3,6,7,16,17,18,65,66] [67] (.seq (.reg [⟨(some 68),.bin .lss (.t 67) (.t 66),none⟩]) <|
  .seq (.cond (.t 68) (.skip) (.exit 4)) <|
  .seq (.block 5 (.seq (.reg [⟨(some 69),.iadd (.t 65) (.t 67) 15,none⟩,
    ⟨(some 70),.ld (.t 69) 15 true,none⟩,
    ⟨(some 12),.alloc (.agg [(.int .i64 0),(.int .i64 0),(.int .i64 0),(.int .i64 0),(.int .i64 0),(.int .i32 0),(.int .i64 0),(.int .i64 0),(.int .i32 0),(.int .i64 0),(.int .i64 0),(.int .i32 0),(.int .i64 0),(.int .i64 0),(.int .i32 0)]),none⟩,
    ⟨none,.st (.t 12) (.t 70) 15,none⟩]) <|
  .seq (.seq (.dreg [⟨(some 13),.mov (.c .undef),none⟩] [] []) <|
  .seq (.dreg [⟨(some 71),.ld (.t 12) 15 true,none⟩,
    ⟨(some 74),.fadd (.t 12) 6,none⟩,
    ⟨(some 75),.ld (.t 74) 3 true,none⟩,
    ⟨(some 76),.fadd (.t 12) 9,none⟩,
    ⟨(some 77),.ld (.t 76) 3 true,none⟩,
    ⟨(some 78),.fadd (.t 12) 12,none⟩,
    ⟨(some 79),.ld (.t 78) 3 true,none⟩,
    ⟨(some 80),.bldS false 3 3 (.agg [(.int .i64 0),(.int .i64 0),(.int .i32 0)]) [(0,(.t 75)),(1,(.t 77)),(2,(.t 79))],none⟩,
    ⟨(some 82),.ld (.t 7) 2 true,none⟩,
    ⟨(some 83),.bldS false 2 1 (.agg [(.bool false),(.int .i64 0)]) [(0,(.t 82))],none⟩,
    ⟨(some 85),.ld (.t 12) 15 true,none⟩] [⟨(some 72),.call x7 [(.t 71)],none⟩] [⟨(some 74),.fadd (.t 12) 6,none⟩,
    ⟨(some 75),.ld (.t 74) 3 true,none⟩,
    ⟨(some 76),.fadd (.t 12) 9,none⟩,
    ⟨(some 77),.ld (.t 76) 3 true,none⟩,
    ⟨(some 78),.fadd (.t 12) 12,none⟩,
    ⟨(some 79),.ld (.t 78) 3 true,none⟩,
    ⟨(some 82),.ld (.t 7) 2 true,none⟩,
    ⟨(some 85),.ld (.t 12) 15 true,none⟩]) <|
  .seq (.dreg [⟨(some 73),.bld [(.bool false),(.int .i64 0)] [(1,1,(.t 72))],none⟩] [⟨(some 81),.call fj [(.t 80)],none⟩] [⟨(some 82),.ld (.t 7) 2 true,none⟩,
    ⟨(some 85),.ld (.t 12) 15 true,none⟩]) <|
  .seq (.dreg [] [⟨(some 84),.app (.t 81) (.t 83) 2 16 (.agg [(.bool false),(.int .i64 0)]),none⟩] [⟨(some 85),.ld (.t 12) 15 true,none⟩]) <|
  .seq (.dreg [] [⟨(some 86),.call l9 [(.t 85)],none⟩] []) <|
  .seq (.dreg [⟨(some 87),.bld [(.bool false),(.int .i64 0),.nil,(.bool false)] [(0,2,(.t 73)),(2,1,(.t 84)),(3,1,(.t 86))],none⟩] [⟨(some 13),.alloc (.agg [(.bool false),(.int .i64 0),.nil,(.bool false)]),none⟩] [⟨(some 71),.ld (.t 12) 15 true,none⟩,
    ⟨(some 74),.fadd (.t 12) 6,none⟩,
    ⟨(some 75),.ld (.t 74) 3 true,none⟩,
    ⟨(some 76),.fadd (.t 12) 9,none⟩,
    ⟨(some 77),.ld (.t 76) 3 true,none⟩,
    ⟨(some 78),.fadd (.t 12) 12,none⟩,
    ⟨(some 79),.ld (.t 78) 3 true,none⟩,
    ⟨(some 82),.ld (.t 7) 2 true,none⟩,
    ⟨(some 85),.ld (.t 12) 15 true,none⟩]) <|
  .seq (.dreg [] [⟨none,.st (.t 13) (.t 87) 4,none⟩] []) <|
  .dreg [] [] []) <|
  .seq (.reg [⟨(some 88),.fadd (.t 13) 0,none⟩,
    ⟨(some 89),.fadd (.t 88) 1,none⟩,
    ⟨(some 90),.ld (.t 89) 1 false,none⟩,
    ⟨(some 91),.bin .geq (.t 90) (.c (.int .i64 0)),none⟩,
    ⟨(some 92),.mov (.t 91),none⟩,
    ⟨(some 93),.mov (.t 0),some (92,true)⟩,
    ⟨(some 94),.ld (.t 13) 4 true,some (92,true)⟩,
    ⟨(some 95),.callv (.t 93) [(.t 94)],some (92,true)⟩,
    ⟨(some 96),.un .not (.t 95),some (92,true)⟩,
    ⟨(some 97),.pick (.t 92) (.t 96) (.c (.bool false)),none⟩]) <|
  .cond (.t 97) (.ret) (.skip))) <|
  .reg [⟨(some 98),.bin .add (.t 67) (.c (.int .i64 1)),none⟩,
    ⟨(some 67),.mov (.t 98),none⟩]))) <|
  .seq (.reg [⟨(some 99),.fadd (.t 6) 1,none⟩,
    ⟨(some 100),.ld (.t 99) 13 true,none⟩,
    ⟨(some 101),.call vV [(.t 100)],none⟩,
    ⟨(some 14),.mov (.t 101),none⟩]) <|
  .seq (.reg [⟨(some 102),.mov (.t 14),none⟩,
    ⟨(some 103),.bin .geq (.t 102) (.c (.int .i64 0)),none⟩,
    ⟨(some 104),.mov (.t 103),none⟩,
    ⟨(some 105),.mov (.t 0),some (104,true)⟩,
    ⟨(some 106),.mov (.t 14),some (104,true)⟩,
    ⟨(some 107),.bld [(.bool false),(.int .i64 0)] [(1,1,(.t 106))],some (104,true)⟩,
    ⟨(some 108),.bld [(.bool false),(.int .i64 0),.nil,(.bool false)] [(0,2,(.t 107)),(3,1,(.c (.bool true)))],some (104,true)⟩,
    ⟨(some 109),.callv (.t 105) [(.t 108)],some (104,true)⟩,
    ⟨(some 110),.un .not (.t 109),some (104,true)⟩,
    ⟨(some 111),.pick (.t 104) (.t 110) (.c (.bool false)),none⟩]) <|
  .cond (.t 111) (.ret) (.skip))) <|
  .reg [⟨(some 112),.bin .add (.t 18) (.c (.int .i64 1)),none⟩,
    ⟨(some 18),.mov (.t 112),none⟩])),
  []⟩
theorem oK:cFn PP true kh mZ (cDr PP 113 oU)=some kG:=by kernel_rfl
def mb:Nat->Option (List Nat×List Nat)
  | 1000009=>some ([],[3])|3=>some ([6,7],[3,8])|1000008=>some ([6,7,8],[3])|_=>none
def ou:Nat->Option (List Nat×List Nat×List Nat)
  | _=>none
def jE:av:=⟨23,
  .seq (.reg [⟨(some 2),.mov (.c .nil),none⟩]) <|
  .seq (.reg [⟨(some 3),.mov (.c .nil),none⟩]) <|
  .seqj [] [3] (.seq (.reg [⟨(some 6),.mov (.t 0),none⟩,
    ⟨(some 7),.len (.t 6),none⟩,
    ⟨(some 8),.mov (.c (.int .i64 0)),none⟩]) <|
  .block 0 (.loop [6,7] [3,8] (.seq (.reg [⟨(some 9),.bin .lss (.t 8) (.t 7),none⟩]) <|
  .seq (.cond (.t 9) (.skip) (.exit 0)) <|
  .seqj [6,7,8] [3] (.block 1 (.seq (.reg [⟨(some 10),.iadd (.t 6) (.t 8) 3,none⟩,
    ⟨(some 11),.ld (.t 10) 3 true,none⟩,
    ⟨(some 5),.alloc (.agg [(.int .i64 0),(.int .i64 0),(.int .i32 0)]),none⟩,
    ⟨none,.st (.t 5) (.t 11) 3,none⟩]) <|
  .seq (.reg [⟨(some 12),.fadd (.t 5) 0,none⟩,
    ⟨(some 13),.ld (.t 12) 1 false,none⟩,
    ⟨(some 14),.bin .eql (.t 13) (.c (.int .i64 2)),none⟩]) <|
  .cond (.t 14) (.reg [⟨(some 15),.mov (.t 3),none⟩,
    ⟨(some 16),.fadd (.t 5) 1,none⟩,
    ⟨(some 17),.ld (.t 16) 1 false,none⟩,
    ⟨(some 18),.bld [(.bool false),(.int .i64 0)] [(1,1,(.t 17))],none⟩,
    ⟨(some 19),.bldS true 2 1 (.agg [(.bool false),(.int .i64 0)]) [(0,(.t 18))],none⟩,
    ⟨(some 20),.app (.t 15) (.t 19) 2 16 (.agg [(.bool false),(.int .i64 0)]),none⟩,
    ⟨(some 3),.mov (.t 20),none⟩]) (.skip))) <|
  .reg [⟨(some 21),.bin .add (.t 8) (.c (.int .i64 1)),none⟩,
    ⟨(some 8),.mov (.t 21),none⟩]))) <|
  .seq (.reg [⟨(some 22),.mov (.t 3),none⟩,
    ⟨(some 2),.mov (.t 22),none⟩]) <|
  .ret,
  [.t 2]⟩
theorem nq:cFn PP true fj mb (cDr PP 23 ou)=some jE:=by kernel_rfl
def yc:Nat->Option (List Nat×List Nat)
  | _=>none
def Ab:Nat->Option (List Nat×List Nat×List Nat)
  | _=>none
def yT:av:=⟨6,
  .seq (.reg [⟨(some 1),.box (.t 0),none⟩,
    ⟨(some 2),.mov (.c (.int .i64 0)),none⟩]) <|
  .seq (.reg [⟨(some 3),.fadd (.t 1) 3,none⟩,
    ⟨(some 4),.ld (.t 3) 3 true,none⟩,
    ⟨(some 5),.call sj [(.t 4)],none⟩,
    ⟨(some 2),.mov (.t 5),none⟩]) <|
  .ret,
  [.t 2]⟩
theorem zg:cFn PP true x7 yc (cDr PP 6 Ab)=some yT:=by kernel_rfl
def pk:Nat->Option (List Nat×List Nat)
  | 1000008=>some ([1,4],[5])|_=>none
def rU:Nat->Option (List Nat×List Nat×List Nat)
  | _=>none
def mB:av:=⟨18,
  .seq (.reg [⟨(some 1),.box (.t 0),none⟩,
    ⟨(some 2),.mov (.c (.bool false)),none⟩]) <|
  .seq (.seq (.reg [⟨(some 3),.fadd (.t 1) 0,none⟩,
    ⟨(some 4),.ld (.t 3) 1 false,none⟩]) <|
  .block 0 (.seqj [1,4] [5] (.seq (.reg [⟨(some 6),.bin .eql (.t 4) (.c (.int .i64 1)),none⟩,
    ⟨(some 5),.mov (.t 6),none⟩]) <|
  .cond (.t 5) (.skip) (.seq (.reg [⟨(some 7),.bin .eql (.t 4) (.c (.int .i64 2)),none⟩,
    ⟨(some 5),.mov (.t 7),none⟩]) <|
  .cond (.t 5) (.skip) (.seq (.reg [⟨(some 8),.bin .eql (.t 4) (.c (.int .i64 3)),none⟩,
    ⟨(some 5),.mov (.t 8),none⟩]) <|
  .cond (.t 5) (.skip) (.seq (.reg [⟨(some 9),.bin .eql (.t 4) (.c (.int .i64 4)),none⟩,
    ⟨(some 5),.mov (.t 9),none⟩]) <|
  .cond (.t 5) (.skip) (.reg [⟨(some 10),.bin .eql (.t 4) (.c (.int .i64 6)),none⟩,
    ⟨(some 5),.mov (.t 10),none⟩]))))) <|
  .cond (.t 5) (.seq (.reg [⟨(some 2),.mov (.c (.bool false)),none⟩]) <|
  .ret) (.seq (.reg [⟨(some 12),.bin .eql (.t 4) (.c (.int .i64 5)),none⟩,
    ⟨(some 11),.mov (.t 12),none⟩]) <|
  .cond (.t 11) (.seq (.reg [⟨(some 13),.bldS true 1 3 (.int .i64 0) [(0,(.c (.int .i64 3))),(1,(.c (.int .i64 4))),(2,(.c (.int .i64 5)))],none⟩,
    ⟨(some 14),.fadd (.t 1) 1,none⟩,
    ⟨(some 15),.ld (.t 14) 1 false,none⟩,
    ⟨(some 16),.call aN [(.t 13),(.t 15)],none⟩,
    ⟨(some 17),.un .not (.t 16),none⟩,
    ⟨(some 2),.mov (.t 17),none⟩]) <|
  .ret) (.skip)))) <|
  .seq (.reg [⟨(some 2),.mov (.c (.bool true)),none⟩]) <|
  .ret,
  [.t 2]⟩
theorem qJ:cFn PP true l9 pk (cDr PP 18 rU)=some mB:=by kernel_rfl
def wR:Nat->Option (List Nat×List Nat)
  | _=>none
def y3:Nat->Option (List Nat×List Nat×List Nat)
  | _=>none
def wx:av:=⟨6,
  .seq (.reg [⟨(some 1),.box (.t 0),none⟩,
    ⟨(some 2),.mov (.c (.int .i64 0)),none⟩]) <|
  .seq (.reg [⟨(some 3),.fadd (.t 1) 2,none⟩,
    ⟨(some 4),.ld (.t 3) 3 true,none⟩,
    ⟨(some 5),.call sj [(.t 4)],none⟩,
    ⟨(some 2),.mov (.t 5),none⟩]) <|
  .ret,
  [.t 2]⟩
theorem yS:cFn PP true vV wR (cDr PP 6 y3)=some wx:=by kernel_rfl
def uS:Nat->Option (List Nat×List Nat)
  | _=>none
def xE:Nat->Option (List Nat×List Nat×List Nat)
  | _=>none
def uo:av:=⟨17,
  .seq (.reg [⟨(some 2),.box (.t 0),none⟩,
    ⟨(some 3),.box (.t 1),none⟩,
    ⟨(some 4),.mov (.c .nilp),none⟩]) <|
  .seq (.seq (.reg [⟨(some 5),.fadd (.t 3) 0,none⟩,
    ⟨(some 6),.ld (.t 5) 1 false,none⟩]) <|
  .cond (.t 6) (.seq (.reg [⟨(some 7),.fadd (.t 2) 0,none⟩,
    ⟨(some 8),.ld (.t 7) 1 false,none⟩,
    ⟨(some 9),.fadd (.t 3) 1,none⟩,
    ⟨(some 10),.ld (.t 9) 1 false,none⟩,
    ⟨(some 11),.iadd (.t 8) (.t 10) 1,none⟩,
    ⟨(some 4),.mov (.t 11),none⟩]) <|
  .ret) (.skip)) <|
  .seq (.reg [⟨(some 12),.fadd (.t 2) 1,none⟩,
    ⟨(some 13),.ld (.t 12) 1 false,none⟩,
    ⟨(some 14),.fadd (.t 3) 1,none⟩,
    ⟨(some 15),.ld (.t 14) 1 false,none⟩,
    ⟨(some 16),.iadd (.t 13) (.t 15) 1,none⟩,
    ⟨(some 4),.mov (.t 16),none⟩]) <|
  .ret,
  [.t 4]⟩
theorem w0:cFn PP true mT uS (cDr PP 17 xE)=some uo:=by kernel_rfl
def cn:Nat->Option (List Nat×List Nat)
  | _=>none
def cy:Nat->Option (List Nat×List Nat×List Nat)
  | _=>none
def bo:av:=⟨9,
  .seq (.reg [⟨(some 4),.mov (.c (.bool false)),none⟩]) <|
  .seq (.reg [⟨(some 5),.mov (.t 0),none⟩,
    ⟨(some 6),.mov (.t 1),none⟩,
    ⟨(some 7),.call bA [(.t 5),(.t 6)],none⟩,
    ⟨(some 8),.bin .geq (.t 7) (.c (.int .i64 0)),none⟩,
    ⟨(some 4),.mov (.t 8),none⟩]) <|
  .ret,
  [.t 4]⟩
theorem cx:cFn PP true bn cn (cDr PP 9 cy)=some bo:=by kernel_rfl
def ow:Nat->Option (List Nat×List Nat)
  | _=>none
def qq:Nat->Option (List Nat×List Nat×List Nat)
  | _=>none
def lx:av:=⟨10,
  .seq (.reg [⟨(some 2),.box (.t 0),none⟩,
    ⟨(some 3),.mov (.c (.bool false)),none⟩]) <|
  .seq (.reg [⟨(some 4),.ld (.t 1) 2 true,none⟩,
    ⟨(some 5),.ld (.t 2) 2 true,none⟩,
    ⟨(some 6),.call mT [(.t 4),(.t 5)],none⟩,
    ⟨(some 7),.fadd (.t 6) 0,none⟩,
    ⟨(some 8),.ld (.t 7) 1 false,none⟩,
    ⟨(some 9),.un .not (.t 8),none⟩,
    ⟨(some 3),.mov (.t 9),none⟩]) <|
  .ret,
  [.t 3]⟩
theorem pU:cFn PP true kU ow (cDr PP 10 qq)=some lx:=by kernel_rfl
def eV:Nat->Option (List Nat×List Nat)
  | 1=>some ([0,1,2],[6])|1000003=>some ([0,1,2,6],[])|4=>some ([0,1,2,6],[7])|_=>none
def fF:Nat->Option (List Nat×List Nat×List Nat)
  | 4=>some ([0,0,3,7,15,15,63,127,15,15,527,1807,3855,8191,16383],[],[])|6=>some ([0,0,0,0,8,0,0,64,224,480,0,0,3072,7168,16355,32739,65535,131071],[15,17],[16])|_=>none
def cH:av:=⟨49,
  .seq (.reg [⟨(some 8),.mov (.t 1),none⟩,
    ⟨(some 9),.bin .add (.t 8) (.c (.int .i64 1)),none⟩,
    ⟨(some 6),.mov (.t 9),none⟩]) <|
  .block 0 (.loop [0,1,2] [6] (.seq (.seq (.reg [⟨(some 10),.mov (.t 6),none⟩,
    ⟨(some 11),.mov (.t 2),none⟩,
    ⟨(some 12),.bin .lss (.t 10) (.t 11),none⟩]) <|
  .cond (.t 12) (.skip) (.exit 0)) <|
  .seqj [0,1,2,6] [] (.block 1 (.seq (.reg [⟨(some 15),.mov (.t 6),none⟩,
    ⟨(some 7),.mov (.t 15),none⟩]) <|
  .block 2 (.loop [0,1,2,6] [7] (.seq (.seq (.dreg [⟨(some 16),.mov (.t 7),none⟩,
    ⟨(some 17),.mov (.t 1),none⟩,
    ⟨(some 18),.bin .gtr (.t 16) (.t 17),none⟩,
    ⟨(some 19),.mov (.t 18),none⟩,
    ⟨(some 20),.mov (.t 0),some (19,true)⟩,
    ⟨(some 21),.mov (.t 7),some (19,true)⟩,
    ⟨(some 22),.iadd (.t 20) (.t 21) 1,some (19,true)⟩,
    ⟨(some 23),.ld (.t 22) 1 false,some (19,true)⟩,
    ⟨(some 24),.mov (.t 0),some (19,true)⟩,
    ⟨(some 25),.mov (.t 7),some (19,true)⟩,
    ⟨(some 26),.bin .sub (.t 25) (.c (.int .i64 1)),some (19,true)⟩,
    ⟨(some 27),.iadd (.t 24) (.t 26) 1,some (19,true)⟩,
    ⟨(some 28),.ld (.t 27) 1 false,some (19,true)⟩,
    ⟨(some 29),.call dp [(.t 23),(.t 28)],some (19,true)⟩,
    ⟨(some 30),.pick (.t 19) (.t 29) (.c (.bool false)),none⟩] [] []) <|
  .cond (.t 30) (.skip) (.exit 2)) <|
  .seq (.block 3 (.dreg [⟨(some 33),.mov (.t 0),none⟩,
    ⟨(some 34),.mov (.t 7),none⟩,
    ⟨(some 35),.mov (.t 0),none⟩,
    ⟨(some 36),.mov (.t 7),none⟩,
    ⟨(some 37),.bin .sub (.t 36) (.c (.int .i64 1)),none⟩,
    ⟨(some 38),.mov (.t 0),none⟩,
    ⟨(some 39),.mov (.t 7),none⟩,
    ⟨(some 40),.bin .sub (.t 39) (.c (.int .i64 1)),none⟩,
    ⟨(some 41),.iadd (.t 38) (.t 40) 1,none⟩,
    ⟨(some 42),.ld (.t 41) 1 false,none⟩,
    ⟨(some 43),.mov (.t 0),none⟩,
    ⟨(some 44),.mov (.t 7),none⟩,
    ⟨(some 45),.iadd (.t 43) (.t 44) 1,none⟩,
    ⟨(some 46),.ld (.t 45) 1 false,none⟩,
    ⟨(some 47),.iadd (.t 33) (.t 34) 1,none⟩,
    ⟨(some 48),.iadd (.t 35) (.t 37) 1,none⟩] [⟨none,.st (.t 47) (.t 42) 1,none⟩,
    ⟨none,.st (.t 48) (.t 46) 1,none⟩] [⟨(some 48),.iadd (.t 35) (.t 37) 1,none⟩])) <|
  .reg [⟨(some 31),.mov (.t 7),none⟩,
    ⟨(some 32),.bin .sub (.t 31) (.c (.int .i64 1)),none⟩,
    ⟨(some 7),.mov (.t 32),none⟩])))) <|
  .reg [⟨(some 13),.mov (.t 6),none⟩,
    ⟨(some 14),.bin .add (.t 13) (.c (.int .i64 1)),none⟩,
    ⟨(some 6),.mov (.t 14),none⟩])),
  []⟩
theorem fw:cFn PP true cD eV (cDr PP 49 fF)=some cH:=by kernel_rfl
def oy:Nat->Option (List Nat×List Nat)
  | 1000005=>some ([],[0,2])|1000008=>some ([],[0,2])|1000011=>some ([],[0,2])|_=>none
def qu:Nat->Option (List Nat×List Nat×List Nat)
  | _=>none
def lD:av:=⟨25,
  .seq (.reg [⟨(some 2),.mov (.c (.int .i64 0)),none⟩]) <|
  .seqj [] [0,2] (.seq (.reg [⟨(some 3),.mov (.t 0),none⟩,
    ⟨(some 4),.bin .geq (.t 3) (.c (.int .u64 4294967296)),none⟩]) <|
  .cond (.t 4) (.seq (.reg [⟨(some 5),.mov (.t 0),none⟩,
    ⟨(some 6),.bin .shr (.t 5) (.c (.int .u64 32)),none⟩,
    ⟨(some 0),.mov (.t 6),none⟩]) <|
  .reg [⟨(some 2),.mov (.c (.int .i64 32)),none⟩]) (.skip)) <|
  .seqj [] [0,2] (.seq (.reg [⟨(some 7),.mov (.t 0),none⟩,
    ⟨(some 8),.bin .geq (.t 7) (.c (.int .u64 65536)),none⟩]) <|
  .cond (.t 8) (.seq (.reg [⟨(some 9),.mov (.t 0),none⟩,
    ⟨(some 10),.bin .shr (.t 9) (.c (.int .u64 16)),none⟩,
    ⟨(some 0),.mov (.t 10),none⟩]) <|
  .reg [⟨(some 11),.mov (.t 2),none⟩,
    ⟨(some 12),.bin .add (.t 11) (.c (.int .i64 16)),none⟩,
    ⟨(some 2),.mov (.t 12),none⟩]) (.skip)) <|
  .seqj [] [0,2] (.seq (.reg [⟨(some 13),.mov (.t 0),none⟩,
    ⟨(some 14),.bin .geq (.t 13) (.c (.int .u64 256)),none⟩]) <|
  .cond (.t 14) (.seq (.reg [⟨(some 15),.mov (.t 0),none⟩,
    ⟨(some 16),.bin .shr (.t 15) (.c (.int .u64 8)),none⟩,
    ⟨(some 0),.mov (.t 16),none⟩]) <|
  .reg [⟨(some 17),.mov (.t 2),none⟩,
    ⟨(some 18),.bin .add (.t 17) (.c (.int .i64 8)),none⟩,
    ⟨(some 2),.mov (.t 18),none⟩]) (.skip)) <|
  .seq (.reg [⟨(some 19),.mov (.t 2),none⟩,
    ⟨(some 20),.mov (.t 0),none⟩,
    ⟨(some 21),.conv .u8 (.t 20),none⟩,
    ⟨(some 22),.sidx (.c (.str ⟨#[0,1,2,2,3,3,3,3,4,4,4,4,4,4,4,4,5,5,5,5,5,5,5,5,5,5,5,5,5,5,5,5,6,6,6,6,6,6,6,6,6,6,6,6,6,6,6,6,6,6,6,6,6,6,6,6,6,6,6,6,6,6,6,6,7,7,7,7,7,7,7,7,7,7,7,7,7,7,7,7,7,7,7,7,7,7,7,7,7,7,7,7,7,7,7,7,7,7,7,7,7,7,7,7,7,7,7,7,7,7,7,7,7,7,7,7,7,7,7,7,7,7,7,7,7,7,7,7,8,8,8,8,8,8,8,8,8,8,8,8,8,8,8,8,8,8,8,8,8,8,8,8,8,8,8,8,8,8,8,8,8,8,8,8,8,8,8,8,8,8,8,8,8,8,8,8,8,8,8,8,8,8,8,8,8,8,8,8,8,8,8,8,8,8,8,8,8,8,8,8,8,8,8,8,8,8,8,8,8,8,8,8,8,8,8,8,8,8,8,8,8,8,8,8,8,8,8,8,8,8,8,8,8,8,8,8,8,8,8,8,8,8,8,8,8,8,8,8,8,8,8,8,8,8,8,8]⟩)) (.t 21) 0 0 false,none⟩,
    ⟨(some 23),.conv .i64 (.t 22),none⟩,
    ⟨(some 24),.bin .add (.t 19) (.t 23),none⟩,
    ⟨(some 2),.mov (.t 24),none⟩]) <|
  .ret,
  [.t 2]⟩
theorem p0:cFn PP true kW oy (cDr PP 25 qu)=some lD:=by kernel_rfl
def tF:Nat->Option (List Nat×List Nat)
  | 1000009=>some ([2,4,6],[])|4=>some ([2,3,4,6,7],[8])|1000006=>some ([2,3,4,6,7,8],[])|_=>none
def wA:Nat->Option (List Nat×List Nat×List Nat)
  | 6=>some ([0,1,0,0,12,28,63,127,255],[],[999999])|7=>some ([0,0,0,0,12,28,63,127],[6,7],[999999])|_=>none
def rH:av:=⟨49,
  .seq (.reg [⟨(some 3),.box (.t 0),none⟩,
    ⟨(some 4),.box (.t 1),none⟩,
    ⟨(some 6),.alloc (.agg [.nil,.nil]),none⟩]) <|
  .seq (.reg [⟨(some 9),.fadd (.t 4) 0,none⟩,
    ⟨(some 10),.ld (.t 9) 1 false,none⟩,
    ⟨(some 11),.mov (.t 2),none⟩,
    ⟨(some 12),.iadd (.t 10) (.t 11) 1,none⟩,
    ⟨none,.st (.t 12) (.c (.bool true)) 1,none⟩]) <|
  .seq (.reg [⟨(some 13),.fadd (.t 3) 7,none⟩,
    ⟨(some 14),.ld (.t 13) 1 false,none⟩,
    ⟨(some 15),.mov (.t 2),none⟩,
    ⟨(some 16),.iadd (.t 14) (.t 15) 14,none⟩,
    ⟨(some 17),.fadd (.t 16) 1,none⟩,
    ⟨(some 18),.ld (.t 17) 13 true,none⟩,
    ⟨(some 19),.call jO [(.t 18)],none⟩,
    ⟨(some 7),.mov (.t 19),none⟩]) <|
  .seqj [2,4,6] [] (.seq (.reg [⟨(some 8),.mov (.c (.int .i64 0)),none⟩]) <|
  .block 0 (.loop [2,3,4,6,7] [8] (.seq (.seq (.reg [⟨(some 20),.mov (.t 8),none⟩,
    ⟨(some 21),.mov (.t 7),none⟩,
    ⟨(some 22),.len (.t 21),none⟩,
    ⟨(some 23),.bin .lss (.t 20) (.t 22),none⟩]) <|
  .cond (.t 23) (.skip) (.exit 0)) <|
  .seqj [2,3,4,6,7,8] [] (.block 1 (.seq (.dreg [⟨(some 26),.fadd (.t 4) 0,none⟩,
    ⟨(some 27),.ld (.t 26) 1 false,none⟩,
    ⟨(some 28),.mov (.t 7),none⟩,
    ⟨(some 29),.mov (.t 8),none⟩,
    ⟨(some 30),.iadd (.t 28) (.t 29) 1,none⟩,
    ⟨(some 31),.ld (.t 30) 1 false,none⟩,
    ⟨(some 32),.iadd (.t 27) (.t 31) 1,none⟩,
    ⟨(some 33),.ld (.t 32) 1 false,none⟩,
    ⟨(some 34),.un .not (.t 33),none⟩] [] []) <|
  .cond (.t 34) (.seq (.dreg [⟨(some 35),.ld (.t 3) 8 true,none⟩,
    ⟨(some 36),.ld (.t 4) 2 true,none⟩,
    ⟨(some 37),.mov (.t 7),none⟩,
    ⟨(some 38),.mov (.t 8),none⟩,
    ⟨(some 39),.iadd (.t 37) (.t 38) 1,none⟩,
    ⟨(some 40),.ld (.t 39) 1 false,none⟩] [⟨(some 41),.call lI [(.t 35),(.t 36),(.t 40)],none⟩] []) <|
  .seq (.dreg [] [⟨none,.st (.t 4) (.t 41) 2,none⟩] []) <|
  .dreg [] [] []) (.skip))) <|
  .reg [⟨(some 24),.mov (.t 8),none⟩,
    ⟨(some 25),.bin .add (.t 24) (.c (.int .i64 1)),none⟩,
    ⟨(some 8),.mov (.t 25),none⟩]))) <|
  .seq (.reg [⟨(some 42),.mov (.t 2),none⟩,
    ⟨(some 43),.bldS true 1 1 (.int .i64 0) [(0,(.t 42))],none⟩,
    ⟨(some 44),.fadd (.t 4) 1,none⟩,
    ⟨(some 45),.ld (.t 44) 1 false,none⟩,
    ⟨(some 46),.app (.t 43) (.t 45) 1 8 (.int .i64 0),none⟩,
    ⟨(some 47),.fadd (.t 4) 1,none⟩,
    ⟨none,.st (.t 47) (.t 46) 1,none⟩]) <|
  .seq (.reg [⟨(some 48),.ld (.t 4) 2 true,none⟩,
    ⟨none,.st (.t 6) (.t 48) 2,none⟩]) <|
  .ret,
  [.cell 6 2 true]⟩
theorem vr:cFn PP true lI tF (cDr PP 49 wA)=some rH:=by kernel_rfl
def ya:Nat->Option (List Nat×List Nat)
  | 1000011=>some ([3,4,5],[])|5=>some ([1,3,4,5,25,26],[27])|1000010=>some ([1,3,4,5,25,26,27],[])|10=>some ([3,4,5],[])|1000019=>some ([3,4,5,8],[9])|13=>some ([3,4,5,8,56,57],[9,58])|1000018=>some ([3,4,5,8,56,57,58],[9])|_=>none
def z7:Nat->Option (List Nat×List Nat×List Nat)
  | _=>none
def yP:av:=⟨85,
  .seq (.reg [⟨(some 1),.box (.t 0),none⟩,
    ⟨(some 2),.mov (.c .nilp),none⟩]) <|
  .seq (.reg [⟨(some 12),.ld (.t 1) 8 true,none⟩,
    ⟨(some 13),.call vT [(.t 12)],none⟩,
    ⟨(some 14),.call ki [(.t 13),(.c (.int .i64 0))],none⟩,
    ⟨(some 3),.mov (.t 14),none⟩]) <|
  .seq (.reg [⟨(some 15),.fadd (.t 1) 7,none⟩,
    ⟨(some 16),.ld (.t 15) 1 false,none⟩,
    ⟨(some 17),.len (.t 16),none⟩,
    ⟨(some 4),.mov (.t 17),none⟩]) <|
  .seq (.reg [⟨(some 18),.mov (.t 3),none⟩,
    ⟨(some 19),.call fP [(.t 18)],none⟩,
    ⟨(some 20),.bldS true 1 1 .nil [(0,(.c .nil))],none⟩,
    ⟨(some 21),.app (.t 19) (.t 20) 1 24 .nil,none⟩,
    ⟨(some 5),.mov (.t 21),none⟩]) <|
  .seqj [3,4,5] [] (.seq (.reg [⟨(some 22),.mov (.t 3),none⟩,
    ⟨(some 23),.fadd (.t 22) 0,none⟩,
    ⟨(some 24),.fadd (.t 23) 1,none⟩,
    ⟨(some 25),.ld (.t 24) 1 false,none⟩,
    ⟨(some 26),.len (.t 25),none⟩,
    ⟨(some 27),.mov (.c (.int .i64 0)),none⟩]) <|
  .block 0 (.loop [1,3,4,5,25,26] [27] (.seq (.reg [⟨(some 28),.bin .lss (.t 27) (.t 26),none⟩]) <|
  .seq (.cond (.t 28) (.skip) (.exit 0)) <|
  .seqj [1,3,4,5,25,26,27] [] (.block 1 (.seq (.reg [⟨(some 29),.iadd (.t 25) (.t 27) 1,none⟩,
    ⟨(some 30),.ld (.t 29) 1 false,none⟩,
    ⟨(some 7),.mov (.t 30),none⟩]) <|
  .seq (.reg [⟨(some 31),.fadd (.t 1) 7,none⟩,
    ⟨(some 32),.ld (.t 31) 1 false,none⟩,
    ⟨(some 33),.mov (.t 7),none⟩,
    ⟨(some 34),.iadd (.t 32) (.t 33) 14,none⟩,
    ⟨(some 35),.fadd (.t 34) 1,none⟩,
    ⟨(some 36),.fadd (.t 35) 0,none⟩,
    ⟨(some 37),.ld (.t 36) 1 false,none⟩,
    ⟨(some 38),.bin .eql (.t 37) (.c (.int .i64 5)),none⟩]) <|
  .cond (.t 38) (.reg [⟨(some 39),.mov (.t 5),none⟩,
    ⟨(some 40),.mov (.t 4),none⟩,
    ⟨(some 41),.mov (.t 5),none⟩,
    ⟨(some 42),.mov (.t 4),none⟩,
    ⟨(some 43),.iadd (.t 41) (.t 42) 1,none⟩,
    ⟨(some 44),.ld (.t 43) 1 false,none⟩,
    ⟨(some 45),.mov (.t 7),none⟩,
    ⟨(some 46),.bldS true 1 1 (.int .i64 0) [(0,(.t 45))],none⟩,
    ⟨(some 47),.app (.t 44) (.t 46) 1 8 (.int .i64 0),none⟩,
    ⟨(some 48),.iadd (.t 39) (.t 40) 1,none⟩,
    ⟨none,.st (.t 48) (.t 47) 1,none⟩]) (.skip))) <|
  .reg [⟨(some 49),.bin .add (.t 27) (.c (.int .i64 1)),none⟩,
    ⟨(some 27),.mov (.t 49),none⟩]))) <|
  .block 2 (.loop [3,4,5] [] (.block 3 (.seq (.reg [⟨(some 50),.mov (.t 5),none⟩,
    ⟨(some 51),.mov (.t 4),none⟩,
    ⟨(some 52),.call ki [(.t 50),(.t 51)],none⟩,
    ⟨(some 8),.mov (.t 52),none⟩]) <|
  .seq (.reg [⟨(some 9),.mov (.c (.int .i64 (-1))),none⟩]) <|
  .seqj [3,4,5,8] [9] (.seq (.reg [⟨(some 53),.mov (.t 3),none⟩,
    ⟨(some 54),.fadd (.t 53) 0,none⟩,
    ⟨(some 55),.fadd (.t 54) 1,none⟩,
    ⟨(some 56),.ld (.t 55) 1 false,none⟩,
    ⟨(some 57),.len (.t 56),none⟩,
    ⟨(some 58),.mov (.c (.int .i64 0)),none⟩]) <|
  .block 4 (.loop [3,4,5,8,56,57] [9,58] (.seq (.reg [⟨(some 59),.bin .lss (.t 58) (.t 57),none⟩]) <|
  .seq (.cond (.t 59) (.skip) (.exit 4)) <|
  .seqj [3,4,5,8,56,57,58] [9] (.block 5 (.seq (.reg [⟨(some 60),.iadd (.t 56) (.t 58) 1,none⟩,
    ⟨(some 61),.ld (.t 60) 1 false,none⟩,
    ⟨(some 11),.mov (.t 61),none⟩]) <|
  .seq (.reg [⟨(some 62),.mov (.t 8),none⟩,
    ⟨(some 63),.fadd (.t 62) 0,none⟩,
    ⟨(some 64),.fadd (.t 63) 2,none⟩,
    ⟨(some 65),.ld (.t 64) 1 false,none⟩,
    ⟨(some 66),.mov (.t 11),none⟩,
    ⟨(some 67),.iadd (.t 65) (.t 66) 1,none⟩,
    ⟨(some 68),.ld (.t 67) 1 false,none⟩,
    ⟨(some 69),.bin .lss (.t 68) (.c (.int .i64 0)),none⟩]) <|
  .cond (.t 69) (.reg [⟨(some 70),.mov (.t 11),none⟩,
    ⟨(some 9),.mov (.t 70),none⟩]) (.skip))) <|
  .reg [⟨(some 71),.bin .add (.t 58) (.c (.int .i64 1)),none⟩,
    ⟨(some 58),.mov (.t 71),none⟩]))) <|
  .seq (.seq (.reg [⟨(some 72),.mov (.t 9),none⟩,
    ⟨(some 73),.bin .lss (.t 72) (.c (.int .i64 0)),none⟩]) <|
  .cond (.t 73) (.seq (.reg [⟨(some 74),.mov (.t 8),none⟩,
    ⟨(some 2),.mov (.t 74),none⟩]) <|
  .ret) (.skip)) <|
  .reg [⟨(some 75),.mov (.t 5),none⟩,
    ⟨(some 76),.mov (.t 4),none⟩,
    ⟨(some 77),.mov (.t 5),none⟩,
    ⟨(some 78),.mov (.t 4),none⟩,
    ⟨(some 79),.iadd (.t 77) (.t 78) 1,none⟩,
    ⟨(some 80),.ld (.t 79) 1 false,none⟩,
    ⟨(some 81),.mov (.t 9),none⟩,
    ⟨(some 82),.bldS true 1 1 (.int .i64 0) [(0,(.t 81))],none⟩,
    ⟨(some 83),.app (.t 80) (.t 82) 1 8 (.int .i64 0),none⟩,
    ⟨(some 84),.iadd (.t 75) (.t 76) 1,none⟩,
    ⟨none,.st (.t 84) (.t 83) 1,none⟩]))),
  [.t 2]⟩
theorem ze:cFn PP true x6 ya (cDr PP 85 z7)=some yP:=by kernel_rfl
def qF:Nat->Option (List Nat×List Nat)
  | 9000002=>some ([0],[3,4])|1000020=>some ([3],[])|5=>some ([0,3,4,37,38],[39])|1000017=>some ([0,3,4,6,37,38,39],[7])|9=>some ([0,3,4,6,37,38,39,46,47],[7,48])|1000016=>some ([0,3,4,6,37,38,39,46,47,48],[7])|_=>none
def s8:Nat->Option (List Nat×List Nat×List Nat)
  | 3=>some ([0,0,2,6,14,30,62,0,128,384,896,1920,3968,8191,16383],[14],[])|_=>none
def oq:av:=⟨80,
  .seq (.reg [⟨(some 2),.mov (.c .nil),none⟩]) <|
  .scope 0 [0] [3,4] (.seq (.reg [⟨(some 10),.bldS true 1 1 (.int .i64 0) [(0,(.c (.int .i64 (-1))))],none⟩,
    ⟨(some 11),.mov (.t 0),none⟩,
    ⟨(some 12),.fadd (.t 11) 0,none⟩,
    ⟨(some 13),.fadd (.t 12) 0,none⟩,
    ⟨(some 14),.ld (.t 13) 1 false,none⟩,
    ⟨(some 15),.len (.t 14),none⟩,
    ⟨(some 16),.call cX [(.t 10),(.t 15)],none⟩,
    ⟨(some 3),.mov (.t 16),none⟩]) <|
  .seq (.reg [⟨(some 17),.mov (.t 0),none⟩,
    ⟨(some 18),.call fP [(.t 17)],none⟩,
    ⟨(some 4),.mov (.t 18),none⟩]) <|
  .seq (.dreg [⟨(some 19),.mov (.t 3),none⟩,
    ⟨(some 20),.mov (.t 0),none⟩,
    ⟨(some 21),.fadd (.t 20) 0,none⟩,
    ⟨(some 22),.fadd (.t 21) 1,none⟩,
    ⟨(some 23),.ld (.t 22) 1 false,none⟩,
    ⟨(some 24),.iadd (.t 23) (.c (.int .i64 0)) 1,none⟩,
    ⟨(some 25),.ld (.t 24) 1 false,none⟩,
    ⟨(some 26),.mov (.t 0),none⟩,
    ⟨(some 27),.fadd (.t 26) 0,none⟩,
    ⟨(some 28),.fadd (.t 27) 1,none⟩,
    ⟨(some 29),.ld (.t 28) 1 false,none⟩,
    ⟨(some 30),.iadd (.t 29) (.c (.int .i64 0)) 1,none⟩,
    ⟨(some 31),.ld (.t 30) 1 false,none⟩,
    ⟨(some 32),.iadd (.t 19) (.t 25) 1,none⟩] [⟨none,.st (.t 32) (.t 31) 1,none⟩] []) <|
  .seq (.label 0) <|
  .seqj [3] [] (.seq (.reg [⟨(some 33),.mov (.t 0),none⟩,
    ⟨(some 34),.fadd (.t 33) 0,none⟩,
    ⟨(some 35),.fadd (.t 34) 1,none⟩,
    ⟨(some 36),.ld (.t 35) 1 false,none⟩,
    ⟨(some 37),.kN (.t 36) (some (.c (.int .i64 1))) none none 1,none⟩,
    ⟨(some 38),.len (.t 37),none⟩,
    ⟨(some 39),.mov (.c (.int .i64 0)),none⟩]) <|
  .block 0 (.loop [0,3,4,37,38] [39] (.seq (.reg [⟨(some 40),.bin .lss (.t 39) (.t 38),none⟩]) <|
  .seq (.cond (.t 40) (.skip) (.exit 0)) <|
  .seq (.block 1 (.seq (.reg [⟨(some 41),.iadd (.t 37) (.t 39) 1,none⟩,
    ⟨(some 42),.ld (.t 41) 1 false,none⟩,
    ⟨(some 6),.mov (.t 42),none⟩]) <|
  .seq (.reg [⟨(some 7),.mov (.c (.int .i64 (-1))),none⟩]) <|
  .seqj [0,3,4,6,37,38,39] [7] (.seq (.reg [⟨(some 43),.mov (.t 4),none⟩,
    ⟨(some 44),.mov (.t 6),none⟩,
    ⟨(some 45),.iadd (.t 43) (.t 44) 1,none⟩,
    ⟨(some 46),.ld (.t 45) 1 false,none⟩,
    ⟨(some 47),.len (.t 46),none⟩,
    ⟨(some 48),.mov (.c (.int .i64 0)),none⟩]) <|
  .block 2 (.loop [0,3,4,6,37,38,39,46,47] [7,48] (.seq (.reg [⟨(some 49),.bin .lss (.t 48) (.t 47),none⟩]) <|
  .seq (.cond (.t 49) (.skip) (.exit 2)) <|
  .seqj [0,3,4,6,37,38,39,46,47,48] [7] (.block 3 (.seq (.reg [⟨(some 50),.iadd (.t 46) (.t 48) 1,none⟩,
    ⟨(some 51),.ld (.t 50) 1 false,none⟩,
    ⟨(some 9),.mov (.t 51),none⟩]) <|
  .block 4 (.seq (.reg [⟨(some 58),.mov (.t 3),none⟩,
    ⟨(some 59),.mov (.t 9),none⟩,
    ⟨(some 60),.iadd (.t 58) (.t 59) 1,none⟩,
    ⟨(some 61),.ld (.t 60) 1 false,none⟩,
    ⟨(some 62),.bin .lss (.t 61) (.c (.int .i64 0)),none⟩,
    ⟨(some 57),.mov (.t 62),none⟩]) <|
  .cond (.t 57) (.skip) (.seq (.reg [⟨(some 64),.mov (.t 7),none⟩,
    ⟨(some 65),.bin .lss (.t 64) (.c (.int .i64 0)),none⟩,
    ⟨(some 63),.mov (.t 65),none⟩]) <|
  .cond (.t 63) (.reg [⟨(some 66),.mov (.t 9),none⟩,
    ⟨(some 7),.mov (.t 66),none⟩]) (.reg [⟨(some 52),.mov (.t 0),none⟩,
    ⟨(some 53),.mov (.t 3),none⟩,
    ⟨(some 54),.mov (.t 7),none⟩,
    ⟨(some 55),.mov (.t 9),none⟩,
    ⟨(some 56),.call iA [(.t 52),(.t 53),(.t 54),(.t 55)],none⟩,
    ⟨(some 7),.mov (.t 56),none⟩]))))) <|
  .reg [⟨(some 67),.bin .add (.t 48) (.c (.int .i64 1)),none⟩,
    ⟨(some 48),.mov (.t 67),none⟩]))) <|
  .seq (.reg [⟨(some 68),.mov (.t 7),none⟩,
    ⟨(some 69),.mov (.t 3),none⟩,
    ⟨(some 70),.mov (.t 6),none⟩,
    ⟨(some 71),.iadd (.t 69) (.t 70) 1,none⟩,
    ⟨(some 72),.ld (.t 71) 1 false,none⟩,
    ⟨(some 73),.bin .neq (.t 68) (.t 72),none⟩]) <|
  .cond (.t 73) (.seq (.reg [⟨(some 74),.mov (.t 3),none⟩,
    ⟨(some 75),.mov (.t 6),none⟩,
    ⟨(some 76),.mov (.t 7),none⟩,
    ⟨(some 77),.iadd (.t 74) (.t 75) 1,none⟩,
    ⟨none,.st (.t 77) (.t 76) 1,none⟩]) <|
  .goto 0) (.skip))) <|
  .reg [⟨(some 78),.bin .add (.t 39) (.c (.int .i64 1)),none⟩,
    ⟨(some 39),.mov (.t 78),none⟩]))) <|
  .seq (.reg [⟨(some 79),.mov (.t 3),none⟩,
    ⟨(some 2),.mov (.t 79),none⟩]) <|
  .ret) (.seq (.skip) <|
  .seqj [3] [] (.seq (.reg [⟨(some 33),.mov (.t 0),none⟩,
    ⟨(some 34),.fadd (.t 33) 0,none⟩,
    ⟨(some 35),.fadd (.t 34) 1,none⟩,
    ⟨(some 36),.ld (.t 35) 1 false,none⟩,
    ⟨(some 37),.kN (.t 36) (some (.c (.int .i64 1))) none none 1,none⟩,
    ⟨(some 38),.len (.t 37),none⟩,
    ⟨(some 39),.mov (.c (.int .i64 0)),none⟩]) <|
  .block 0 (.loop [0,3,4,37,38] [39] (.seq (.reg [⟨(some 40),.bin .lss (.t 39) (.t 38),none⟩]) <|
  .seq (.cond (.t 40) (.skip) (.exit 0)) <|
  .seq (.block 1 (.seq (.reg [⟨(some 41),.iadd (.t 37) (.t 39) 1,none⟩,
    ⟨(some 42),.ld (.t 41) 1 false,none⟩,
    ⟨(some 6),.mov (.t 42),none⟩]) <|
  .seq (.reg [⟨(some 7),.mov (.c (.int .i64 (-1))),none⟩]) <|
  .seqj [0,3,4,6,37,38,39] [7] (.seq (.reg [⟨(some 43),.mov (.t 4),none⟩,
    ⟨(some 44),.mov (.t 6),none⟩,
    ⟨(some 45),.iadd (.t 43) (.t 44) 1,none⟩,
    ⟨(some 46),.ld (.t 45) 1 false,none⟩,
    ⟨(some 47),.len (.t 46),none⟩,
    ⟨(some 48),.mov (.c (.int .i64 0)),none⟩]) <|
  .block 2 (.loop [0,3,4,6,37,38,39,46,47] [7,48] (.seq (.reg [⟨(some 49),.bin .lss (.t 48) (.t 47),none⟩]) <|
  .seq (.cond (.t 49) (.skip) (.exit 2)) <|
  .seqj [0,3,4,6,37,38,39,46,47,48] [7] (.block 3 (.seq (.reg [⟨(some 50),.iadd (.t 46) (.t 48) 1,none⟩,
    ⟨(some 51),.ld (.t 50) 1 false,none⟩,
    ⟨(some 9),.mov (.t 51),none⟩]) <|
  .block 4 (.seq (.reg [⟨(some 58),.mov (.t 3),none⟩,
    ⟨(some 59),.mov (.t 9),none⟩,
    ⟨(some 60),.iadd (.t 58) (.t 59) 1,none⟩,
    ⟨(some 61),.ld (.t 60) 1 false,none⟩,
    ⟨(some 62),.bin .lss (.t 61) (.c (.int .i64 0)),none⟩,
    ⟨(some 57),.mov (.t 62),none⟩]) <|
  .cond (.t 57) (.skip) (.seq (.reg [⟨(some 64),.mov (.t 7),none⟩,
    ⟨(some 65),.bin .lss (.t 64) (.c (.int .i64 0)),none⟩,
    ⟨(some 63),.mov (.t 65),none⟩]) <|
  .cond (.t 63) (.reg [⟨(some 66),.mov (.t 9),none⟩,
    ⟨(some 7),.mov (.t 66),none⟩]) (.reg [⟨(some 52),.mov (.t 0),none⟩,
    ⟨(some 53),.mov (.t 3),none⟩,
    ⟨(some 54),.mov (.t 7),none⟩,
    ⟨(some 55),.mov (.t 9),none⟩,
    ⟨(some 56),.call iA [(.t 52),(.t 53),(.t 54),(.t 55)],none⟩,
    ⟨(some 7),.mov (.t 56),none⟩]))))) <|
  .reg [⟨(some 67),.bin .add (.t 48) (.c (.int .i64 1)),none⟩,
    ⟨(some 48),.mov (.t 67),none⟩]))) <|
  .seq (.reg [⟨(some 68),.mov (.t 7),none⟩,
    ⟨(some 69),.mov (.t 3),none⟩,
    ⟨(some 70),.mov (.t 6),none⟩,
    ⟨(some 71),.iadd (.t 69) (.t 70) 1,none⟩,
    ⟨(some 72),.ld (.t 71) 1 false,none⟩,
    ⟨(some 73),.bin .neq (.t 68) (.t 72),none⟩]) <|
  .cond (.t 73) (.seq (.reg [⟨(some 74),.mov (.t 3),none⟩,
    ⟨(some 75),.mov (.t 6),none⟩,
    ⟨(some 76),.mov (.t 7),none⟩,
    ⟨(some 77),.iadd (.t 74) (.t 75) 1,none⟩,
    ⟨none,.st (.t 77) (.t 76) 1,none⟩]) <|
  .goto 0) (.skip))) <|
  .reg [⟨(some 78),.bin .add (.t 39) (.c (.int .i64 1)),none⟩,
    ⟨(some 39),.mov (.t 78),none⟩]))) <|
  .seq (.reg [⟨(some 79),.mov (.t 3),none⟩,
    ⟨(some 2),.mov (.t 79),none⟩]) <|
  .ret),
  [.t 2]⟩
theorem sL:cFn PP true nQ qF (cDr PP 80 s8)=some oq:=by kernel_rfl
def wP:Nat->Option (List Nat×List Nat)
  | _=>none
def yY:Nat->Option (List Nat×List Nat×List Nat)
  | _=>none
def wv:av:=⟨6,
  .seq (.reg [⟨(some 2),.box (.t 0),none⟩,
    ⟨(some 3),.box (.t 1),none⟩,
    ⟨(some 4),.mov (.c .nilfn),none⟩]) <|
  .seq (.reg [⟨(some 5),.mkf pe [] [(.t 3),(.t 2)],none⟩,
    ⟨(some 4),.mov (.t 5),none⟩]) <|
  .ret,
  [.t 4]⟩
theorem yQ:cFn PP true vU wP (cDr PP 6 yY)=some wv:=by kernel_rfl
def iW:Nat->Option (List Nat×List Nat)
  | 1000017=>some ([0],[])|4=>some ([0],[3])|1000015=>some ([0],[3])|9=>some ([0,4],[3,5])|1000011=>some ([0,4,5],[3])|_=>none
def jJ:Nat->Option (List Nat×List Nat×List Nat)
  | 6=>some ([0,0,3,7,0,0,32,112,240,511],[],[])|11=>some ([0,0,3,7,0,0,32,112,240,511],[],[])|_=>none
def fg:av:=⟨61,
  .seq (.reg [⟨(some 2),.mov (.c .nil),none⟩]) <|
  .seq (.seq (.reg [⟨(some 6),.mov (.t 0),none⟩,
    ⟨(some 7),.len (.t 6),none⟩,
    ⟨(some 8),.bin .lss (.t 7) (.c (.int .i64 2)),none⟩]) <|
  .cond (.t 8) (.seq (.reg [⟨(some 9),.mov (.t 0),none⟩,
    ⟨(some 2),.mov (.t 9),none⟩]) <|
  .ret) (.skip)) <|
  .seqj [0] [] (.seq (.reg [⟨(some 3),.mov (.c (.int .i64 1)),none⟩]) <|
  .block 0 (.loop [0] [3] (.seq (.seq (.reg [⟨(some 10),.mov (.t 3),none⟩,
    ⟨(some 11),.mov (.t 0),none⟩,
    ⟨(some 12),.len (.t 11),none⟩,
    ⟨(some 13),.bin .lss (.t 10) (.t 12),none⟩]) <|
  .cond (.t 13) (.skip) (.exit 0)) <|
  .seq (.block 1 (.seq (.dreg [⟨(some 16),.mov (.t 0),none⟩,
    ⟨(some 17),.mov (.t 3),none⟩,
    ⟨(some 18),.iadd (.t 16) (.t 17) 1,none⟩,
    ⟨(some 19),.ld (.t 18) 1 false,none⟩,
    ⟨(some 20),.mov (.t 0),none⟩,
    ⟨(some 21),.mov (.t 3),none⟩,
    ⟨(some 22),.bin .sub (.t 21) (.c (.int .i64 1)),none⟩,
    ⟨(some 23),.iadd (.t 20) (.t 22) 1,none⟩,
    ⟨(some 24),.ld (.t 23) 1 false,none⟩,
    ⟨(some 25),.bin .eql (.t 19) (.t 24),none⟩] [] []) <|
  .cond (.t 25) (.seq (.reg [⟨(some 26),.mov (.t 0),none⟩,
    ⟨(some 27),.mov (.t 3),none⟩,
    ⟨(some 28),.kN (.t 26) (some (.t 27)) none none 1,none⟩,
    ⟨(some 4),.mov (.t 28),none⟩]) <|
  .seqj [0] [3] (.seq (.reg [⟨(some 5),.mov (.c (.int .i64 1)),none⟩]) <|
  .block 2 (.loop [0,4] [3,5] (.seq (.seq (.reg [⟨(some 29),.mov (.t 5),none⟩,
    ⟨(some 30),.mov (.t 4),none⟩,
    ⟨(some 31),.len (.t 30),none⟩,
    ⟨(some 32),.bin .lss (.t 29) (.t 31),none⟩]) <|
  .cond (.t 32) (.skip) (.exit 2)) <|
  .seqj [0,4,5] [3] (.block 3 (.seq (.dreg [⟨(some 35),.mov (.t 4),none⟩,
    ⟨(some 36),.mov (.t 5),none⟩,
    ⟨(some 37),.iadd (.t 35) (.t 36) 1,none⟩,
    ⟨(some 38),.ld (.t 37) 1 false,none⟩,
    ⟨(some 39),.mov (.t 4),none⟩,
    ⟨(some 40),.mov (.t 5),none⟩,
    ⟨(some 41),.bin .sub (.t 40) (.c (.int .i64 1)),none⟩,
    ⟨(some 42),.iadd (.t 39) (.t 41) 1,none⟩,
    ⟨(some 43),.ld (.t 42) 1 false,none⟩,
    ⟨(some 44),.bin .neq (.t 38) (.t 43),none⟩] [] []) <|
  .cond (.t 44) (.seq (.reg [⟨(some 45),.mov (.t 0),none⟩,
    ⟨(some 46),.mov (.t 3),none⟩,
    ⟨(some 47),.mov (.t 4),none⟩,
    ⟨(some 48),.mov (.t 5),none⟩,
    ⟨(some 49),.iadd (.t 47) (.t 48) 1,none⟩,
    ⟨(some 50),.ld (.t 49) 1 false,none⟩,
    ⟨(some 51),.iadd (.t 45) (.t 46) 1,none⟩,
    ⟨none,.st (.t 51) (.t 50) 1,none⟩]) <|
  .reg [⟨(some 52),.mov (.t 3),none⟩,
    ⟨(some 53),.bin .add (.t 52) (.c (.int .i64 1)),none⟩,
    ⟨(some 3),.mov (.t 53),none⟩]) (.skip))) <|
  .reg [⟨(some 33),.mov (.t 5),none⟩,
    ⟨(some 34),.bin .add (.t 33) (.c (.int .i64 1)),none⟩,
    ⟨(some 5),.mov (.t 34),none⟩]))) <|
  .seq (.reg [⟨(some 54),.mov (.t 0),none⟩,
    ⟨(some 55),.mov (.t 3),none⟩,
    ⟨(some 56),.kN (.t 54) (some (.t 55)) none none 1,none⟩,
    ⟨none,.dead,none⟩]) <|
  .seq (.reg [⟨(some 57),.mov (.t 0),none⟩,
    ⟨(some 58),.mov (.t 3),none⟩,
    ⟨(some 59),.kN (.t 57) none (some (.t 58)) none 1,none⟩,
    ⟨(some 2),.mov (.t 59),none⟩]) <|
  .ret) (.skip))) <|
  .reg [⟨(some 14),.mov (.t 3),none⟩,
    ⟨(some 15),.bin .add (.t 14) (.c (.int .i64 1)),none⟩,
    ⟨(some 3),.mov (.t 15),none⟩]))) <|
  .seq (.reg [⟨(some 60),.mov (.t 0),none⟩,
    ⟨(some 2),.mov (.t 60),none⟩]) <|
  .ret,
  [.t 2]⟩
theorem jv:cFn PP true fe iW (cDr PP 61 jJ)=some fg:=by kernel_rfl
def yb:Nat->Option (List Nat×List Nat)
  | _=>none
def Aa:Nat->Option (List Nat×List Nat×List Nat)
  | _=>none
def yR:av:=⟨8,
  .seq (.reg [⟨(some 1),.box (.t 0),none⟩,
    ⟨(some 2),.mov (.c (.int .i64 0)),none⟩]) <|
  .seq (.seq (.reg [⟨(some 3),.fadd (.t 1) 0,none⟩,
    ⟨(some 4),.ld (.t 3) 1 false,none⟩,
    ⟨(some 5),.bin .neq (.t 4) (.c (.int .i64 2)),none⟩]) <|
  .cond (.t 5) (.seq (.reg [⟨(some 2),.mov (.c (.int .i64 (-1))),none⟩]) <|
  .ret) (.skip)) <|
  .seq (.reg [⟨(some 6),.fadd (.t 1) 1,none⟩,
    ⟨(some 7),.ld (.t 6) 1 false,none⟩,
    ⟨(some 2),.mov (.t 7),none⟩]) <|
  .ret,
  [.t 2]⟩
theorem zf:cFn PP true sj yb (cDr PP 8 Aa)=some yR:=by kernel_rfl
def cB:Nat->Option (List Nat×List Nat)
  | 1000008=>some ([],[])|2=>some ([0,1,7],[8])|_=>none
def cN:Nat->Option (List Nat×List Nat×List Nat)
  | _=>none
def bB:av:=⟨19,
  .seq (.reg [⟨(some 4),.mov (.c (.int .i64 0)),none⟩]) <|
  .seqj [] [] (.seq (.reg [⟨(some 6),.mov (.t 0),none⟩,
    ⟨(some 7),.len (.t 6),none⟩,
    ⟨(some 8),.mov (.c (.int .i64 0)),none⟩]) <|
  .block 0 (.loop [0,1,7] [8] (.seq (.reg [⟨(some 9),.bin .lss (.t 8) (.t 7),none⟩]) <|
  .seq (.cond (.t 9) (.skip) (.exit 0)) <|
  .seq (.block 1 (.seq (.reg [⟨(some 10),.mov (.t 8),none⟩,
    ⟨(some 5),.mov (.t 10),none⟩]) <|
  .seq (.reg [⟨(some 11),.mov (.t 1),none⟩,
    ⟨(some 12),.mov (.t 0),none⟩,
    ⟨(some 13),.mov (.t 5),none⟩,
    ⟨(some 14),.iadd (.t 12) (.t 13) 2,none⟩,
    ⟨(some 15),.ld (.t 14) 2 true,none⟩,
    ⟨(some 16),.callv (.t 11) [(.t 15)],none⟩]) <|
  .cond (.t 16) (.seq (.reg [⟨(some 17),.mov (.t 5),none⟩,
    ⟨(some 4),.mov (.t 17),none⟩]) <|
  .ret) (.skip))) <|
  .reg [⟨(some 18),.bin .add (.t 8) (.c (.int .i64 1)),none⟩,
    ⟨(some 8),.mov (.t 18),none⟩]))) <|
  .seq (.reg [⟨(some 4),.mov (.c (.int .i64 (-1))),none⟩]) <|
  .ret,
  [.t 4]⟩
theorem cJ:cFn PP true bA cB (cDr PP 19 cN)=some bB:=by kernel_rfl
def sr:Nat->Option (List Nat×List Nat)
  | 1000013=>some ([5],[])|8=>some ([5,32,33],[34])|_=>none
def uJ:Nat->Option (List Nat×List Nat×List Nat)
  | 1=>some ([0,0,0,4,14,31,63,0,255],[4,6,7,8],[999998,2])|_=>none
def p6:av:=⟨48,
  .seq (.reg [⟨(some 2),.box (.t 0),none⟩,
    ⟨(some 4),.mov (.c .nilp),none⟩]) <|
  .seq (.seq (.dreg [⟨(some 5),.mov (.c .undef),none⟩] [] []) <|
  .seq (.dreg [⟨(some 10),.ld (.t 2) 1 false,none⟩,
    ⟨(some 11),.bldS false 1 1 (.int .i64 0) [(0,(.c (.int .i64 (-1))))],none⟩,
    ⟨(some 12),.ld (.t 2) 1 false,none⟩,
    ⟨(some 13),.len (.t 12),none⟩] [⟨(some 14),.call cX [(.t 11),(.t 13)],none⟩] [⟨(some 10),.ld (.t 2) 1 false,none⟩]) <|
  .seq (.dreg [⟨(some 15),.bld [.nil,.nil,.nil] [(0,1,(.t 10)),(2,1,(.t 14))],none⟩] [⟨(some 16),.box (.t 15),none⟩] []) <|
  .seq (.dreg [] [⟨(some 5),.alloc .nilp,none⟩] [⟨(some 10),.ld (.t 2) 1 false,none⟩,
    ⟨(some 12),.ld (.t 2) 1 false,none⟩,
    ⟨(some 13),.len (.t 12),none⟩]) <|
  .seq (.dreg [] [⟨none,.st (.t 5) (.t 16) 1,none⟩] []) <|
  .dreg [] [] []) <|
  .seq (.reg [⟨(some 17),.ld (.t 2) 1 false,none⟩,
    ⟨(some 18),.len (.t 17),none⟩,
    ⟨(some 19),.mk 1 1 (.bool false) (.t 18) (.t 18),none⟩,
    ⟨(some 6),.alloc .nil,none⟩,
    ⟨none,.st (.t 6) (.t 19) 1,none⟩]) <|
  .seq (.reg [⟨(some 7),.alloc .nilfn,none⟩]) <|
  .seq (.reg [⟨(some 20),.mkf kX [] [(.t 6),(.t 2),(.t 7),(.t 5)],none⟩,
    ⟨none,.st (.t 7) (.t 20) 1,none⟩]) <|
  .seq (.reg [⟨(some 21),.ld (.t 7) 1 false,none⟩,
    ⟨(some 22),.mov (.t 1),none⟩,
    ⟨(some 23),.callv (.t 21) [(.t 22)],none⟩]) <|
  .seq (.reg [⟨(some 24),.ld (.t 5) 1 false,none⟩,
    ⟨(some 25),.fadd (.t 24) 0,none⟩,
    ⟨(some 26),.fadd (.t 25) 1,none⟩,
    ⟨(some 27),.ld (.t 26) 1 false,none⟩,
    ⟨(some 28),.call fc [(.t 27)],none⟩]) <|
  .seqj [5] [] (.seq (.reg [⟨(some 29),.ld (.t 5) 1 false,none⟩,
    ⟨(some 30),.fadd (.t 29) 0,none⟩,
    ⟨(some 31),.fadd (.t 30) 1,none⟩,
    ⟨(some 32),.ld (.t 31) 1 false,none⟩,
    ⟨(some 33),.len (.t 32),none⟩,
    ⟨(some 34),.mov (.c (.int .i64 0)),none⟩]) <|
  .block 0 (.loop [5,32,33] [34] (.seq (.reg [⟨(some 35),.bin .lss (.t 34) (.t 33),none⟩]) <|
  .seq (.cond (.t 35) (.skip) (.exit 0)) <|
  .seq (.block 1 (.seq (.reg [⟨(some 36),.mov (.t 34),none⟩,
    ⟨(some 37),.iadd (.t 32) (.t 34) 1,none⟩,
    ⟨(some 38),.ld (.t 37) 1 false,none⟩,
    ⟨(some 8),.mov (.t 36),none⟩,
    ⟨(some 9),.mov (.t 38),none⟩]) <|
  .reg [⟨(some 39),.ld (.t 5) 1 false,none⟩,
    ⟨(some 40),.fadd (.t 39) 0,none⟩,
    ⟨(some 41),.fadd (.t 40) 2,none⟩,
    ⟨(some 42),.ld (.t 41) 1 false,none⟩,
    ⟨(some 43),.mov (.t 9),none⟩,
    ⟨(some 44),.mov (.t 8),none⟩,
    ⟨(some 45),.iadd (.t 42) (.t 43) 1,none⟩,
    ⟨none,.st (.t 45) (.t 44) 1,none⟩])) <|
  .reg [⟨(some 46),.bin .add (.t 34) (.c (.int .i64 1)),none⟩,
    ⟨(some 34),.mov (.t 46),none⟩]))) <|
  .seq (.reg [⟨(some 47),.ld (.t 5) 1 false,none⟩,
    ⟨(some 4),.mov (.t 47),none⟩]) <|
  .ret,
  [.t 4]⟩
theorem uA:cFn PP true ki sr (cDr PP 48 uJ)=some p6:=by kernel_rfl
def wO:Nat->Option (List Nat×List Nat)
  | 1000008=>some ([3],[])|3=>some ([3,11,12],[13])|_=>none
def yX:Nat->Option (List Nat×List Nat×List Nat)
  | _=>none
def wu:av:=⟨26,
  .seq (.reg [⟨(some 1),.box (.t 0),none⟩,
    ⟨(some 2),.mov (.c .nil),none⟩]) <|
  .seq (.reg [⟨(some 6),.fadd (.t 1) 7,none⟩,
    ⟨(some 7),.ld (.t 6) 1 false,none⟩,
    ⟨(some 8),.len (.t 7),none⟩,
    ⟨(some 9),.mk 1 24 .nil (.t 8) (.t 8),none⟩,
    ⟨(some 3),.mov (.t 9),none⟩]) <|
  .seqj [3] [] (.seq (.reg [⟨(some 10),.fadd (.t 1) 7,none⟩,
    ⟨(some 11),.ld (.t 10) 1 false,none⟩,
    ⟨(some 12),.len (.t 11),none⟩,
    ⟨(some 13),.mov (.c (.int .i64 0)),none⟩]) <|
  .block 0 (.loop [3,11,12] [13] (.seq (.reg [⟨(some 14),.bin .lss (.t 13) (.t 12),none⟩]) <|
  .seq (.cond (.t 14) (.skip) (.exit 0)) <|
  .seq (.block 1 (.seq (.reg [⟨(some 15),.mov (.t 13),none⟩,
    ⟨(some 16),.iadd (.t 11) (.t 13) 14,none⟩,
    ⟨(some 17),.ld (.t 16) 14 true,none⟩,
    ⟨(some 5),.alloc (.agg [.nil,(.int .i64 0),(.int .i64 0),(.int .i64 0),(.int .i64 0),(.int .i32 0),(.int .i64 0),(.int .i64 0),(.int .i32 0),(.int .i64 0),(.int .i64 0),(.int .i32 0),(.int .i64 0),(.int .i64 0)]),none⟩,
    ⟨(some 4),.mov (.t 15),none⟩,
    ⟨none,.st (.t 5) (.t 17) 14,none⟩]) <|
  .reg [⟨(some 18),.mov (.t 3),none⟩,
    ⟨(some 19),.mov (.t 4),none⟩,
    ⟨(some 20),.fadd (.t 5) 1,none⟩,
    ⟨(some 21),.ld (.t 20) 13 true,none⟩,
    ⟨(some 22),.call dH [(.t 21)],none⟩,
    ⟨(some 23),.iadd (.t 18) (.t 19) 1,none⟩,
    ⟨none,.st (.t 23) (.t 22) 1,none⟩])) <|
  .reg [⟨(some 24),.bin .add (.t 13) (.c (.int .i64 1)),none⟩,
    ⟨(some 13),.mov (.t 24),none⟩]))) <|
  .seq (.reg [⟨(some 25),.mov (.t 3),none⟩,
    ⟨(some 2),.mov (.t 25),none⟩]) <|
  .ret,
  [.t 2]⟩
theorem yO:cFn PP true vT wO (cDr PP 26 yX)=some wu:=by kernel_rfl
def m6:Nat->Option (List Nat×List Nat)
  | 1000012=>some ([3],[])|3=>some ([0,3,17,18],[19])|1000011=>some ([0,3,17,18,19],[])|6=>some ([0,3,5,17,18,19,29,30],[31])|_=>none
def o5:Nat->Option (List Nat×List Nat×List Nat)
  | _=>none
def kJ:av:=⟨48,
  .seq (.reg [⟨(some 2),.mov (.c .nil),none⟩]) <|
  .seq (.reg [⟨(some 8),.mov (.t 0),none⟩,
    ⟨(some 9),.fadd (.t 8) 0,none⟩,
    ⟨(some 10),.fadd (.t 9) 0,none⟩,
    ⟨(some 11),.ld (.t 10) 1 false,none⟩,
    ⟨(some 12),.len (.t 11),none⟩,
    ⟨(some 13),.mk 1 24 .nil (.t 12) (.t 12),none⟩,
    ⟨(some 3),.mov (.t 13),none⟩]) <|
  .seqj [3] [] (.seq (.reg [⟨(some 14),.mov (.t 0),none⟩,
    ⟨(some 15),.fadd (.t 14) 0,none⟩,
    ⟨(some 16),.fadd (.t 15) 1,none⟩,
    ⟨(some 17),.ld (.t 16) 1 false,none⟩,
    ⟨(some 18),.len (.t 17),none⟩,
    ⟨(some 19),.mov (.c (.int .i64 0)),none⟩]) <|
  .block 0 (.loop [0,3,17,18] [19] (.seq (.reg [⟨(some 20),.bin .lss (.t 19) (.t 18),none⟩]) <|
  .seq (.cond (.t 20) (.skip) (.exit 0)) <|
  .seqj [0,3,17,18,19] [] (.block 1 (.seq (.reg [⟨(some 21),.iadd (.t 17) (.t 19) 1,none⟩,
    ⟨(some 22),.ld (.t 21) 1 false,none⟩,
    ⟨(some 5),.mov (.t 22),none⟩]) <|
  .seq (.reg [⟨(some 23),.mov (.t 0),none⟩,
    ⟨(some 24),.fadd (.t 23) 0,none⟩,
    ⟨(some 25),.fadd (.t 24) 0,none⟩,
    ⟨(some 26),.ld (.t 25) 1 false,none⟩,
    ⟨(some 27),.mov (.t 5),none⟩,
    ⟨(some 28),.iadd (.t 26) (.t 27) 1,none⟩,
    ⟨(some 29),.ld (.t 28) 1 false,none⟩,
    ⟨(some 30),.len (.t 29),none⟩,
    ⟨(some 31),.mov (.c (.int .i64 0)),none⟩]) <|
  .block 2 (.loop [0,3,5,17,18,19,29,30] [31] (.seq (.reg [⟨(some 32),.bin .lss (.t 31) (.t 30),none⟩]) <|
  .seq (.cond (.t 32) (.skip) (.exit 2)) <|
  .seq (.block 3 (.seq (.reg [⟨(some 33),.iadd (.t 29) (.t 31) 1,none⟩,
    ⟨(some 34),.ld (.t 33) 1 false,none⟩,
    ⟨(some 7),.mov (.t 34),none⟩]) <|
  .reg [⟨(some 35),.mov (.t 3),none⟩,
    ⟨(some 36),.mov (.t 7),none⟩,
    ⟨(some 37),.mov (.t 3),none⟩,
    ⟨(some 38),.mov (.t 7),none⟩,
    ⟨(some 39),.iadd (.t 37) (.t 38) 1,none⟩,
    ⟨(some 40),.ld (.t 39) 1 false,none⟩,
    ⟨(some 41),.mov (.t 5),none⟩,
    ⟨(some 42),.bldS true 1 1 (.int .i64 0) [(0,(.t 41))],none⟩,
    ⟨(some 43),.app (.t 40) (.t 42) 1 8 (.int .i64 0),none⟩,
    ⟨(some 44),.iadd (.t 35) (.t 36) 1,none⟩,
    ⟨none,.st (.t 44) (.t 43) 1,none⟩])) <|
  .reg [⟨(some 45),.bin .add (.t 31) (.c (.int .i64 1)),none⟩,
    ⟨(some 31),.mov (.t 45),none⟩])))) <|
  .reg [⟨(some 46),.bin .add (.t 19) (.c (.int .i64 1)),none⟩,
    ⟨(some 19),.mov (.t 46),none⟩]))) <|
  .seq (.reg [⟨(some 47),.mov (.t 3),none⟩,
    ⟨(some 2),.mov (.t 47),none⟩]) <|
  .ret,
  [.t 2]⟩
theorem oQ:cFn PP true fP m6 (cDr PP 48 o5)=some kJ:=by kernel_rfl
def jo:Nat->Option (List Nat×List Nat)
  | 1000004=>some ([0,1],[])|1000007=>some ([0,6],[])|1000011=>some ([7],[])|8=>some ([7],[8])|_=>none
def kf:Nat->Option (List Nat×List Nat×List Nat)
  | 9=>some ([0,0,0,6,0,0,48,126,255,511],[7,8,9],[])|_=>none
def fI:av:=⟨48,
  .seq (.reg [⟨(some 4),.mov (.c .nil),none⟩]) <|
  .seqj [0,1] [] (.seq (.reg [⟨(some 9),.mov (.t 1),none⟩,
    ⟨(some 10),.bin .lss (.t 9) (.c (.int .i64 0)),none⟩]) <|
  .cond (.t 10) (.reg [⟨(some 11),.dead,none⟩,
    ⟨none,.dead,none⟩]) (.skip)) <|
  .seq (.reg [⟨(some 13),.mov (.t 0),none⟩,
    ⟨(some 14),.len (.t 13),none⟩,
    ⟨(some 15),.conv .u64 (.t 14),none⟩,
    ⟨(some 16),.mov (.t 1),none⟩,
    ⟨(some 17),.conv .u64 (.t 16),none⟩,
    ⟨(some 18),.call nO [(.t 15),(.t 17)],none⟩,
    ⟨(some 12),.mov (.t 18),none⟩,
    ⟨(some 19),.ext (.t 12) 0,none⟩,
    ⟨(some 20),.ext (.t 12) 1,none⟩,
    ⟨(some 5),.mov (.t 19),none⟩,
    ⟨(some 6),.mov (.t 20),none⟩]) <|
  .seqj [0,6] [] (.seq (.reg [⟨(some 21),.mov (.t 5),none⟩,
    ⟨(some 22),.bin .gtr (.t 21) (.c (.int .u64 0)),none⟩,
    ⟨(some 23),.mov (.t 22),none⟩,
    ⟨(some 24),.mov (.t 6),some (23,false)⟩,
    ⟨(some 25),.bin .gtr (.t 24) (.c (.int .u64 9223372036854775807)),some (23,false)⟩,
    ⟨(some 26),.pick (.t 23) (.c (.bool true)) (.t 25),none⟩]) <|
  .cond (.t 26) (.reg [⟨(some 27),.dead,none⟩,
    ⟨none,.dead,none⟩]) (.skip)) <|
  .seq (.reg [⟨(some 28),.mov (.t 6),none⟩,
    ⟨(some 29),.conv .i64 (.t 28),none⟩,
    ⟨(some 30),.mk 1 8 (.int .i64 0) (.t 29) (.t 29),none⟩,
    ⟨(some 7),.mov (.t 30),none⟩]) <|
  .seq (.reg [⟨(some 31),.mov (.t 7),none⟩,
    ⟨(some 32),.mov (.t 0),none⟩,
    ⟨(some 33),.y9 (.t 31) (.t 32) 1,none⟩,
    ⟨(some 8),.mov (.t 33),none⟩]) <|
  .seqj [7] [] (.block 0 (.loop [7] [8] (.seq (.seq (.reg [⟨(some 34),.mov (.t 8),none⟩,
    ⟨(some 35),.mov (.t 7),none⟩,
    ⟨(some 36),.len (.t 35),none⟩,
    ⟨(some 37),.bin .lss (.t 34) (.t 36),none⟩]) <|
  .cond (.t 37) (.skip) (.exit 0)) <|
  .block 1 (.dreg [⟨(some 38),.mov (.t 8),none⟩,
    ⟨(some 39),.mov (.t 7),none⟩,
    ⟨(some 40),.mov (.t 8),none⟩,
    ⟨(some 41),.kN (.t 39) (some (.t 40)) none none 1,none⟩,
    ⟨(some 42),.mov (.t 7),none⟩,
    ⟨(some 43),.mov (.t 8),none⟩,
    ⟨(some 44),.kN (.t 42) none (some (.t 43)) none 1,none⟩] [⟨(some 45),.y9 (.t 41) (.t 44) 1,none⟩,
    ⟨(some 46),.bin .add (.t 38) (.t 45),none⟩,
    ⟨(some 8),.mov (.t 46),none⟩] [])))) <|
  .seq (.reg [⟨(some 47),.mov (.t 7),none⟩,
    ⟨(some 4),.mov (.t 47),none⟩]) <|
  .ret,
  [.t 4]⟩
theorem jV:cFn PP true cX jo (cDr PP 48 kf)=some fI:=by kernel_rfl
def pw:Nat->Option (List Nat×List Nat)
  | 1000006=>some ([],[2])|1=>some ([0,1],[2,3])|_=>none
def sf:Nat->Option (List Nat×List Nat×List Nat)
  | 2=>some ([0,1,3,7,0,31,63,0,128,384,896,0,3968,8064,16383],[],[])|_=>none
def mK:av:=⟨36,
  .seq (.reg [⟨(some 8),.mov (.c (.int .i64 0)),none⟩]) <|
  .seqj [] [2] (.block 0 (.loop [0,1] [2,3] (.seq (.seq (.reg [⟨(some 9),.mov (.t 2),none⟩,
    ⟨(some 10),.mov (.t 3),none⟩,
    ⟨(some 11),.bin .neq (.t 9) (.t 10),none⟩]) <|
  .cond (.t 11) (.skip) (.exit 0)) <|
  .block 1 (.seq (.dreg [⟨(some 12),.mov (.t 0),none⟩,
    ⟨(some 13),.fadd (.t 12) 0,none⟩,
    ⟨(some 14),.fadd (.t 13) 2,none⟩,
    ⟨(some 15),.ld (.t 14) 1 false,none⟩,
    ⟨(some 16),.mov (.t 2),none⟩,
    ⟨(some 17),.iadd (.t 15) (.t 16) 1,none⟩,
    ⟨(some 18),.ld (.t 17) 1 false,none⟩,
    ⟨(some 19),.mov (.t 0),none⟩,
    ⟨(some 20),.fadd (.t 19) 0,none⟩,
    ⟨(some 21),.fadd (.t 20) 2,none⟩,
    ⟨(some 22),.ld (.t 21) 1 false,none⟩,
    ⟨(some 23),.mov (.t 3),none⟩,
    ⟨(some 24),.iadd (.t 22) (.t 23) 1,none⟩,
    ⟨(some 25),.ld (.t 24) 1 false,none⟩,
    ⟨(some 26),.bin .gtr (.t 18) (.t 25),none⟩] [] []) <|
  .cond (.t 26) (.reg [⟨(some 27),.mov (.t 1),none⟩,
    ⟨(some 28),.mov (.t 2),none⟩,
    ⟨(some 29),.iadd (.t 27) (.t 28) 1,none⟩,
    ⟨(some 30),.ld (.t 29) 1 false,none⟩,
    ⟨(some 2),.mov (.t 30),none⟩]) (.reg [⟨(some 31),.mov (.t 1),none⟩,
    ⟨(some 32),.mov (.t 3),none⟩,
    ⟨(some 33),.iadd (.t 31) (.t 32) 1,none⟩,
    ⟨(some 34),.ld (.t 33) 1 false,none⟩,
    ⟨(some 3),.mov (.t 34),none⟩]))))) <|
  .seq (.reg [⟨(some 35),.mov (.t 2),none⟩,
    ⟨(some 8),.mov (.t 35),none⟩]) <|
  .ret,
  [.t 8]⟩
theorem qQ:cFn PP true iA pw (cDr PP 36 sf)=some mK:=by kernel_rfl
def su:Nat->Option (List Nat×List Nat)
  | 0=>some ([0,1,2],[])|_=>none
def uK:Nat->Option (List Nat×List Nat×List Nat)
  | 0=>some ([0,0,3,7,15,15,63,127,15,511,1023],[2],[999999])|_=>none
def p7:av:=⟨19,
  .block 0 (.loop [0,1,2] [] (.seq (.seq (.seq (.dreg [⟨(some 4),.mov (.t 0),none⟩,
    ⟨(some 5),.ld (.t 1) 1 false,none⟩] [⟨(some 6),.callv (.t 4) [(.t 5)],none⟩] []) <|
  .dreg [⟨(some 7),.mov (.t 6),none⟩,
    ⟨(some 8),.ld (.t 2) 1 false,some (7,true)⟩,
    ⟨(some 9),.ld (.t 1) 1 false,some (7,true)⟩,
    ⟨(some 10),.iadd (.t 8) (.t 9) 1,some (7,true)⟩,
    ⟨(some 11),.ld (.t 10) 1 false,some (7,true)⟩,
    ⟨(some 12),.ld (.t 1) 1 false,some (7,true)⟩,
    ⟨(some 13),.bin .neq (.t 11) (.t 12),some (7,true)⟩,
    ⟨(some 14),.pick (.t 7) (.t 13) (.c (.bool false)),none⟩] [] []) <|
  .cond (.t 14) (.skip) (.exit 0)) <|
  .block 1 (.reg [⟨(some 15),.ld (.t 2) 1 false,none⟩,
    ⟨(some 16),.ld (.t 1) 1 false,none⟩,
    ⟨(some 17),.iadd (.t 15) (.t 16) 1,none⟩,
    ⟨(some 18),.ld (.t 17) 1 false,none⟩,
    ⟨none,.st (.t 1) (.t 18) 1,none⟩]))),
  []⟩
theorem uB:cFn PP true pe su (cDr PP 19 uK)=some p7:=by kernel_rfl
def oz:Nat->Option (List Nat×List Nat)
  | 1000008=>some ([0,4],[])|2=>some ([0,1,3,4,14,15],[16])|1000007=>some ([0,1,3,4,14,15,16],[])|_=>none
def qv:Nat->Option (List Nat×List Nat×List Nat)
  | 7=>some ([0,0,2,6,14,0,32,126,255,511,1023],[7,10],[0])|_=>none
def lE:av:=⟨39,
  .seq (.reg [⟨(some 8),.ld (.t 1) 1 false,none⟩,
    ⟨(some 9),.mov (.t 0),none⟩,
    ⟨(some 10),.iadd (.t 8) (.t 9) 1,none⟩,
    ⟨none,.st (.t 10) (.c (.bool true)) 1,none⟩]) <|
  .seqj [0,4] [] (.seq (.reg [⟨(some 11),.ld (.t 2) 1 false,none⟩,
    ⟨(some 12),.mov (.t 0),none⟩,
    ⟨(some 13),.iadd (.t 11) (.t 12) 1,none⟩,
    ⟨(some 14),.ld (.t 13) 1 false,none⟩,
    ⟨(some 15),.len (.t 14),none⟩,
    ⟨(some 16),.mov (.c (.int .i64 0)),none⟩]) <|
  .block 0 (.loop [0,1,3,4,14,15] [16] (.seq (.reg [⟨(some 17),.bin .lss (.t 16) (.t 15),none⟩]) <|
  .seq (.cond (.t 17) (.skip) (.exit 0)) <|
  .seqj [0,1,3,4,14,15,16] [] (.block 1 (.seq (.reg [⟨(some 18),.iadd (.t 14) (.t 16) 1,none⟩,
    ⟨(some 19),.ld (.t 18) 1 false,none⟩,
    ⟨(some 7),.mov (.t 19),none⟩]) <|
  .seq (.reg [⟨(some 20),.ld (.t 1) 1 false,none⟩,
    ⟨(some 21),.mov (.t 7),none⟩,
    ⟨(some 22),.iadd (.t 20) (.t 21) 1,none⟩,
    ⟨(some 23),.ld (.t 22) 1 false,none⟩,
    ⟨(some 24),.un .not (.t 23),none⟩]) <|
  .cond (.t 24) (.reg [⟨(some 25),.ld (.t 3) 1 false,none⟩,
    ⟨(some 26),.mov (.t 7),none⟩,
    ⟨(some 27),.callv (.t 25) [(.t 26)],none⟩]) (.skip))) <|
  .reg [⟨(some 28),.bin .add (.t 16) (.c (.int .i64 1)),none⟩,
    ⟨(some 16),.mov (.t 28),none⟩]))) <|
  .dreg [⟨(some 29),.ld (.t 4) 1 false,none⟩,
    ⟨(some 30),.ld (.t 4) 1 false,none⟩,
    ⟨(some 31),.fadd (.t 30) 0,none⟩,
    ⟨(some 32),.fadd (.t 31) 1,none⟩,
    ⟨(some 33),.ld (.t 32) 1 false,none⟩,
    ⟨(some 34),.mov (.t 0),none⟩,
    ⟨(some 35),.bldS false 1 1 (.int .i64 0) [(0,(.t 34))],none⟩,
    ⟨(some 37),.fadd (.t 29) 0,none⟩,
    ⟨(some 38),.fadd (.t 37) 1,none⟩] [⟨(some 36),.app (.t 33) (.t 35) 1 8 (.int .i64 0),none⟩,
    ⟨none,.st (.t 38) (.t 36) 1,none⟩] [⟨(some 29),.ld (.t 4) 1 false,none⟩],
  []⟩
theorem p5:cFn PP true kX oz (cDr PP 39 qv)=some lE:=by kernel_rfl
def iV:Nat->Option (List Nat×List Nat)
  | 1=>some ([0],[2,3])|_=>none
def jI:Nat->Option (List Nat×List Nat×List Nat)
  | 3=>some ([0,0,0,0,0,0,48,112,0,0,768,1792,4083,8179,16383,32767],[13,15],[14])|_=>none
def ff:av:=⟨28,
  .seq (.reg [⟨(some 4),.mov (.t 0),none⟩,
    ⟨(some 5),.len (.t 4),none⟩,
    ⟨(some 6),.bin .sub (.t 5) (.c (.int .i64 1)),none⟩,
    ⟨(some 2),.mov (.c (.int .i64 0)),none⟩,
    ⟨(some 3),.mov (.t 6),none⟩]) <|
  .block 0 (.loop [0] [2,3] (.seq (.seq (.reg [⟨(some 7),.mov (.t 2),none⟩,
    ⟨(some 8),.mov (.t 3),none⟩,
    ⟨(some 9),.bin .lss (.t 7) (.t 8),none⟩]) <|
  .cond (.t 9) (.skip) (.exit 0)) <|
  .seq (.block 1 (.dreg [⟨(some 14),.mov (.t 0),none⟩,
    ⟨(some 15),.mov (.t 2),none⟩,
    ⟨(some 16),.mov (.t 0),none⟩,
    ⟨(some 17),.mov (.t 3),none⟩,
    ⟨(some 18),.mov (.t 0),none⟩,
    ⟨(some 19),.mov (.t 3),none⟩,
    ⟨(some 20),.iadd (.t 18) (.t 19) 1,none⟩,
    ⟨(some 21),.ld (.t 20) 1 false,none⟩,
    ⟨(some 22),.mov (.t 0),none⟩,
    ⟨(some 23),.mov (.t 2),none⟩,
    ⟨(some 24),.iadd (.t 22) (.t 23) 1,none⟩,
    ⟨(some 25),.ld (.t 24) 1 false,none⟩,
    ⟨(some 26),.iadd (.t 14) (.t 15) 1,none⟩,
    ⟨(some 27),.iadd (.t 16) (.t 17) 1,none⟩] [⟨none,.st (.t 26) (.t 21) 1,none⟩,
    ⟨none,.st (.t 27) (.t 25) 1,none⟩] [⟨(some 27),.iadd (.t 16) (.t 17) 1,none⟩])) <|
  .reg [⟨(some 10),.mov (.t 2),none⟩,
    ⟨(some 11),.bin .add (.t 10) (.c (.int .i64 1)),none⟩,
    ⟨(some 12),.mov (.t 3),none⟩,
    ⟨(some 13),.bin .sub (.t 12) (.c (.int .i64 1)),none⟩,
    ⟨(some 2),.mov (.t 11),none⟩,
    ⟨(some 3),.mov (.t 13),none⟩])),
  []⟩
theorem ju:cFn PP true fc iV (cDr PP 28 jI)=some ff:=by kernel_rfl
def qC:Nat->Option (List Nat×List Nat)
  | _=>none
def sY:Nat->Option (List Nat×List Nat×List Nat)
  | _=>none
def oj:av:=⟨30,
  .seq (.reg [⟨(some 4),.mov (.c (.int .u64 0)),none⟩,
    ⟨(some 5),.mov (.c (.int .u64 0)),none⟩]) <|
  .seq (.cond (.c (.bool false)) (.seq (.reg [⟨(some 11),.mov (.t 0),none⟩,
    ⟨(some 12),.conv .u32 (.t 11),none⟩,
    ⟨(some 13),.mov (.t 1),none⟩,
    ⟨(some 14),.conv .u32 (.t 13),none⟩,
    ⟨(some 15),.call tx [(.t 12),(.t 14)],none⟩,
    ⟨(some 10),.mov (.t 15),none⟩,
    ⟨(some 16),.ext (.t 10) 0,none⟩,
    ⟨(some 17),.ext (.t 10) 1,none⟩,
    ⟨(some 6),.mov (.t 16),none⟩,
    ⟨(some 7),.mov (.t 17),none⟩]) <|
  .seq (.reg [⟨(some 18),.mov (.t 6),none⟩,
    ⟨(some 19),.conv .u64 (.t 18),none⟩,
    ⟨(some 20),.mov (.t 7),none⟩,
    ⟨(some 21),.conv .u64 (.t 20),none⟩,
    ⟨(some 4),.mov (.t 19),none⟩,
    ⟨(some 5),.mov (.t 21),none⟩]) <|
  .ret) (.skip)) <|
  .seq (.reg [⟨(some 23),.mov (.t 0),none⟩,
    ⟨(some 24),.mov (.t 1),none⟩,
    ⟨(some 25),.call kV [(.t 23),(.t 24)],none⟩,
    ⟨(some 22),.mov (.t 25),none⟩,
    ⟨(some 26),.ext (.t 22) 0,none⟩,
    ⟨(some 27),.ext (.t 22) 1,none⟩,
    ⟨(some 8),.mov (.t 26),none⟩,
    ⟨(some 9),.mov (.t 27),none⟩]) <|
  .seq (.reg [⟨(some 28),.mov (.t 8),none⟩,
    ⟨(some 29),.mov (.t 9),none⟩,
    ⟨(some 4),.mov (.t 28),none⟩,
    ⟨(some 5),.mov (.t 29),none⟩]) <|
  .ret,
  [.t 4,.t 5]⟩
theorem sI:cFn PP true nO qC (cDr PP 30 sY)=some oj:=by kernel_rfl
def ox:Nat->Option (List Nat×List Nat)
  | _=>none
def qt:Nat->Option (List Nat×List Nat×List Nat)
  | _=>none
def lC:av:=⟨51,
  .seq (.reg [⟨(some 4),.mov (.c (.int .u64 0)),none⟩,
    ⟨(some 5),.mov (.c (.int .u64 0)),none⟩]) <|
  .seq (.reg [⟨(some 14),.mov (.t 0),none⟩,
    ⟨(some 15),.bin .and (.t 14) (.c (.int .u64 4294967295)),none⟩,
    ⟨(some 6),.mov (.t 15),none⟩]) <|
  .seq (.reg [⟨(some 16),.mov (.t 0),none⟩,
    ⟨(some 17),.bin .shr (.t 16) (.c (.int .u64 32)),none⟩,
    ⟨(some 7),.mov (.t 17),none⟩]) <|
  .seq (.reg [⟨(some 18),.mov (.t 1),none⟩,
    ⟨(some 19),.bin .and (.t 18) (.c (.int .u64 4294967295)),none⟩,
    ⟨(some 8),.mov (.t 19),none⟩]) <|
  .seq (.reg [⟨(some 20),.mov (.t 1),none⟩,
    ⟨(some 21),.bin .shr (.t 20) (.c (.int .u64 32)),none⟩,
    ⟨(some 9),.mov (.t 21),none⟩]) <|
  .seq (.reg [⟨(some 22),.mov (.t 6),none⟩,
    ⟨(some 23),.mov (.t 8),none⟩,
    ⟨(some 24),.bin .mul (.t 22) (.t 23),none⟩,
    ⟨(some 10),.mov (.t 24),none⟩]) <|
  .seq (.reg [⟨(some 25),.mov (.t 7),none⟩,
    ⟨(some 26),.mov (.t 8),none⟩,
    ⟨(some 27),.bin .mul (.t 25) (.t 26),none⟩,
    ⟨(some 28),.mov (.t 10),none⟩,
    ⟨(some 29),.bin .shr (.t 28) (.c (.int .u64 32)),none⟩,
    ⟨(some 30),.bin .add (.t 27) (.t 29),none⟩,
    ⟨(some 11),.mov (.t 30),none⟩]) <|
  .seq (.reg [⟨(some 31),.mov (.t 11),none⟩,
    ⟨(some 32),.bin .and (.t 31) (.c (.int .u64 4294967295)),none⟩,
    ⟨(some 12),.mov (.t 32),none⟩]) <|
  .seq (.reg [⟨(some 33),.mov (.t 11),none⟩,
    ⟨(some 34),.bin .shr (.t 33) (.c (.int .u64 32)),none⟩,
    ⟨(some 13),.mov (.t 34),none⟩]) <|
  .seq (.reg [⟨(some 35),.mov (.t 12),none⟩,
    ⟨(some 36),.mov (.t 6),none⟩,
    ⟨(some 37),.mov (.t 9),none⟩,
    ⟨(some 38),.bin .mul (.t 36) (.t 37),none⟩,
    ⟨(some 39),.bin .add (.t 35) (.t 38),none⟩,
    ⟨(some 12),.mov (.t 39),none⟩]) <|
  .seq (.reg [⟨(some 40),.mov (.t 7),none⟩,
    ⟨(some 41),.mov (.t 9),none⟩,
    ⟨(some 42),.bin .mul (.t 40) (.t 41),none⟩,
    ⟨(some 43),.mov (.t 13),none⟩,
    ⟨(some 44),.bin .add (.t 42) (.t 43),none⟩,
    ⟨(some 45),.mov (.t 12),none⟩,
    ⟨(some 46),.bin .shr (.t 45) (.c (.int .u64 32)),none⟩,
    ⟨(some 47),.bin .add (.t 44) (.t 46),none⟩,
    ⟨(some 4),.mov (.t 47),none⟩]) <|
  .seq (.reg [⟨(some 48),.mov (.t 0),none⟩,
    ⟨(some 49),.mov (.t 1),none⟩,
    ⟨(some 50),.bin .mul (.t 48) (.t 49),none⟩,
    ⟨(some 5),.mov (.t 50),none⟩]) <|
  .ret,
  [.t 4,.t 5]⟩
theorem pZ:cFn PP true kV ox (cDr PP 51 qt)=some lC:=by kernel_rfl
end Go.Am
namespace Go.Am
open Go Go.Proofs
def fsz0 (f:FuncId):Option av:=match f with
  | 8=>some mI
  | 15=>some uv
  | 17=>some uq
  | 18=>some iK
  | 20=>some rO
  | 22=>some wo
  | 23=>some mG
  | 27=>some uC
  | 28=>some lF
  | 30=>some oo
  | 44=>some rN
  | 47=>some oi
  | 48=>some rG
  | 49=>some mC
  | 50=>some mF
  | 51=>some hO
  | 52=>some bm
  | 55=>some oh
  | 56=>some bK
  | 58=>some cV
  | 59=>some jF
  | 60=>some ly
  | 65=>some gW
  | 68=>some ux
  | 71=>some rK
  | 72=>some rJ
  | 73=>some uw
  | 74=>some rM
  | 75=>some mD
  | 76=>some uy
  | _=>none
theorem Iy {f:FuncId}{F:av}(h:fsz0 f=some F):∃fz loops dr,cFn PP fz f loops dr=some F/\qa PP F.nt dr:=by
  unfold fsz0 at h
  split at h
  · cases h;exact⟨_,_,_,qO,aq _ _ _⟩
  · cases h;exact⟨_,_,_,w7,aq _ _ _⟩
  · cases h;exact⟨_,_,_,w5,aq _ _ _⟩
  · cases h;exact⟨_,_,_,mH,aq _ _ _⟩
  · cases h;exact⟨_,_,_,vD,aq _ _ _⟩
  · cases h;exact⟨_,_,_,yM,aq _ _ _⟩
  · cases h;exact⟨_,_,_,qN,aq _ _ _⟩
  · cases h;exact⟨_,_,_,xi,aq _ _ _⟩
  · cases h;exact⟨_,_,_,p8,aq _ _ _⟩
  · cases h;exact⟨_,_,_,sK,aq _ _ _⟩
  · cases h;exact⟨_,_,_,vz,aq _ _ _⟩
  · cases h;exact⟨_,_,_,sH,aq _ _ _⟩
  · cases h;exact⟨_,_,_,vq,aq _ _ _⟩
  · cases h;exact⟨_,_,_,qK,aq _ _ _⟩
  · cases h;exact⟨_,_,_,qM,aq _ _ _⟩
  · cases h;exact⟨_,_,_,lB,aq _ _ _⟩
  · cases h;exact⟨_,_,_,cI,aq _ _ _⟩
  · cases h;exact⟨_,_,_,sG,aq _ _ _⟩
  · cases h;exact⟨_,_,_,dJ,aq _ _ _⟩
  · cases h;exact⟨_,_,_,fJ,aq _ _ _⟩
  · cases h;exact⟨_,_,_,nG,aq _ _ _⟩
  · cases h;exact⟨_,_,_,pY,aq _ _ _⟩
  · cases h;exact⟨_,_,_,kR,aq _ _ _⟩
  · cases h;exact⟨_,_,_,xc,aq _ _ _⟩
  · cases h;exact⟨_,_,_,vv,aq _ _ _⟩
  · cases h;exact⟨_,_,_,vu,aq _ _ _⟩
  · cases h;exact⟨_,_,_,w8,aq _ _ _⟩
  · cases h;exact⟨_,_,_,vw,aq _ _ _⟩
  · cases h;exact⟨_,_,_,qL,aq _ _ _⟩
  · cases h;exact⟨_,_,_,xe,aq _ _ _⟩
  · cases h
def fsz1 (f:FuncId):Option av:=match f with
  | 77=>some wq
  | 78=>some pW
  | 79=>some hP
  | 81=>some og
  | 82=>some pV
  | 83=>some cb
  | 84=>some dI
  | 87=>some ep
  | 88=>some om
  | 89=>some rI
  | 90=>some fM
  | 91=>some rP
  | 92=>some kG
  | 93=>some jE
  | 94=>some yT
  | 95=>some mB
  | 96=>some wx
  | 97=>some uo
  | 98=>some bo
  | 99=>some lx
  | 100=>some cH
  | 109=>some lD
  | 110=>some rH
  | 111=>some yP
  | 112=>some oq
  | 113=>some wv
  | 114=>some fg
  | 115=>some yR
  | 116=>some bB
  | 122=>some p6
  | _=>none
theorem Ix {f:FuncId}{F:av}(h:fsz1 f=some F):∃fz loops dr,cFn PP fz f loops dr=some F/\qa PP F.nt dr:=by
  unfold fsz1 at h
  split at h
  · cases h;exact⟨_,_,_,yN,aq _ _ _⟩
  · cases h;exact⟨_,_,_,uu,aq _ _ _⟩
  · cases h;exact⟨_,_,_,lG,aq _ _ _⟩
  · cases h;exact⟨_,_,_,sF,aq _ _ _⟩
  · cases h;exact⟨_,_,_,um,aq _ _ _⟩
  · cases h;exact⟨_,_,_,eM,aq _ _ _⟩
  · cases h;exact⟨_,_,_,gX,aq _ _ _⟩
  · cases h;exact⟨_,_,_,iG,aq _ _ _⟩
  · cases h;exact⟨_,_,_,sJ,aq _ _ _⟩
  · cases h;exact⟨_,_,_,vt,aq _ _ _⟩
  · cases h;exact⟨_,_,_,kK,aq _ _ _⟩
  · cases h;exact⟨_,_,_,vE,aq _ _ _⟩
  · cases h;exact⟨_,_,_,oK,aq _ _ _⟩
  · cases h;exact⟨_,_,_,nq,aq _ _ _⟩
  · cases h;exact⟨_,_,_,zg,aq _ _ _⟩
  · cases h;exact⟨_,_,_,qJ,aq _ _ _⟩
  · cases h;exact⟨_,_,_,yS,aq _ _ _⟩
  · cases h;exact⟨_,_,_,w0,aq _ _ _⟩
  · cases h;exact⟨_,_,_,cx,aq _ _ _⟩
  · cases h;exact⟨_,_,_,pU,aq _ _ _⟩
  · cases h;exact⟨_,_,_,fw,aq _ _ _⟩
  · cases h;exact⟨_,_,_,p0,aq _ _ _⟩
  · cases h;exact⟨_,_,_,vr,aq _ _ _⟩
  · cases h;exact⟨_,_,_,ze,aq _ _ _⟩
  · cases h;exact⟨_,_,_,sL,aq _ _ _⟩
  · cases h;exact⟨_,_,_,yQ,aq _ _ _⟩
  · cases h;exact⟨_,_,_,jv,aq _ _ _⟩
  · cases h;exact⟨_,_,_,zf,aq _ _ _⟩
  · cases h;exact⟨_,_,_,cJ,aq _ _ _⟩
  · cases h;exact⟨_,_,_,uA,aq _ _ _⟩
  · cases h
def fsz2 (f:FuncId):Option av:=match f with
  | 123=>some wu
  | 124=>some kJ
  | 125=>some fI
  | 126=>some mK
  | 127=>some p7
  | 129=>some lE
  | 130=>some ff
  | 131=>some oj
  | 133=>some lC
  | _=>none
theorem Iw {f:FuncId}{F:av}(h:fsz2 f=some F):∃fz loops dr,cFn PP fz f loops dr=some F/\qa PP F.nt dr:=by
  unfold fsz2 at h
  split at h
  · cases h;exact⟨_,_,_,yO,aq _ _ _⟩
  · cases h;exact⟨_,_,_,oQ,aq _ _ _⟩
  · cases h;exact⟨_,_,_,jV,aq _ _ _⟩
  · cases h;exact⟨_,_,_,qQ,aq _ _ _⟩
  · cases h;exact⟨_,_,_,uB,aq _ _ _⟩
  · cases h;exact⟨_,_,_,p5,aq _ _ _⟩
  · cases h;exact⟨_,_,_,ju,aq _ _ _⟩
  · cases h;exact⟨_,_,_,sI,aq _ _ _⟩
  · cases h;exact⟨_,_,_,pZ,aq _ _ _⟩
  · cases h
def fsz (f:FuncId):Option av:=match fsz0 f with
  | some F=>some F
  | none=>match fsz1 f with
  | some F=>some F
  | none=>match fsz2 f with
  | some F=>some F
  | none=>none
theorem KL {f:FuncId}{F:av}(h:fsz f=some F):∃fz loops dr,cFn PP fz f loops dr=some F/\qa PP F.nt dr:=by
  unfold fsz at h
  split at h
  · rename_i h1;cases h;exact Iy h1
  split at h
  · rename_i h1;cases h;exact Ix h1
  split at h
  · rename_i h1;cases h;exact Iw h1
  cases h
theorem Ju:∀f F,fsz f=some F->∀ds K h,HE PP F ds K h->af PP f ds h K:=by
  intro f F hf ds K h hv
  obtain⟨fz,loops,dr,h1,h2⟩:=KL hf
  exact yF h1 h2 hv
end Go.Am
