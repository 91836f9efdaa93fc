/- The texts of the functions of this chapter, as the abstract machine has them. No condition. -/
import Derived.Test.YtjhjndjghaagiaaProg
import Derived.KernelRfl
import Derived.Test.YtjhjndjghaagiaaA3
set_option linter.unnecessarySimpa false
set_option linter.defProp false
set_option linter.unusedSectionVars false
set_option linter.unusedSimpArgs false
set_option linter.unusedVariables false
namespace Go.Am
open Go Go.Proofs
noncomputable abbrev PP:Program:=Try.prog
abbrev kh:FuncId:=5
abbrev jF:FuncId:=9
abbrev pX:FuncId:=10
abbrev pV:FuncId:=12
abbrev ml:FuncId:=15
abbrev bn:FuncId:=16
abbrev lO:FuncId:=18
abbrev p5:FuncId:=21
abbrev dN:FuncId:=22
abbrev su:FuncId:=24
abbrev wu:FuncId:=25
abbrev kP:FuncId:=26
abbrev fR:FuncId:=27
abbrev aq:FuncId:=28
abbrev mo:FuncId:=29
abbrev dP:FuncId:=30
abbrev dh:FuncId:=31
abbrev aW:FuncId:=32
abbrev aM:FuncId:=33
abbrev aK:FuncId:=34
abbrev cf:FuncId:=35
abbrev jW:FuncId:=36
abbrev gO:FuncId:=37
abbrev jT:FuncId:=38
abbrev et:FuncId:=39
abbrev cy:FuncId:=40
abbrev gN:FuncId:=41
abbrev fQ:FuncId:=42
abbrev iN:FuncId:=43
abbrev ki:FuncId:=44
abbrev bm:FuncId:=45
abbrev pZ:FuncId:=46
abbrev cv:FuncId:=47
abbrev aE:FuncId:=48
abbrev gT:FuncId:=49
abbrev pW:FuncId:=50
abbrev iQ:FuncId:=51
abbrev jV:FuncId:=52
abbrev ow:FuncId:=53
abbrev iP:FuncId:=54
abbrev cT:FuncId:=55
abbrev bV:FuncId:=56
abbrev pY:FuncId:=57
abbrev sr:FuncId:=58
abbrev mm:FuncId:=59
abbrev bk:FuncId:=60
abbrev ox:FuncId:=61
abbrev bS:FuncId:=62
abbrev cK:FuncId:=63
abbrev jE:FuncId:=64
abbrev aY:FuncId:=65
abbrev iM:FuncId:=66
abbrev dY:FuncId:=67
abbrev ou:FuncId:=68
abbrev wq:FuncId:=69
abbrev kQ:FuncId:=70
abbrev Ak:FuncId:=71
abbrev cN:FuncId:=72
abbrev cq:FuncId:=73
abbrev de:FuncId:=74
abbrev bj:FuncId:=75
abbrev jU:FuncId:=76
abbrev iT:FuncId:=77
abbrev ss:FuncId:=78
abbrev fg:FuncId:=79
abbrev cu:FuncId:=80
abbrev ga:FuncId:=81
abbrev iV:FuncId:=82
abbrev er:FuncId:=85
abbrev b8:FuncId:=86
abbrev dE:FuncId:=87
abbrev kO:FuncId:=88
abbrev xH:FuncId:=100
abbrev iS:FuncId:=101
def aP:Option aJ->ACode
 | some F=>F.code
 | none=>.skip
abbrev fP (F:aJ) (K:HKq) (l:List D) (h:Heap):Prop:=vcC PP F.code (fun x e h'=>match x with|.exit _=>False|.pan=>False|.jump _=>False|_=>D6 PP F.res K e h') (params l 0) h
abbrev zI:D:=.int .i64 0
abbrev zJ:D:=.int .i32 0
end Go.Am
namespace Go.Am
open Go Go.Proofs
def oz:TLq
 | 1000014=>some ([7,8,9,10],[])|10=>some ([7,8,9,10],[11])|1000018=>some ([7,8,9],[])|14=>some ([7,8,9,10],[12])|_=>none
def pS:TTq
 | 12=>some ([0,1,0,0,8,0,56,120,248,504,1016,504,4088,8184,16376,32767,65535],[16],[])|16=>some ([0,1,0,0,8,0,56,120,248,504,1016,504,4088,8184,16376,32767,65535],[16],[])|_=>none
noncomputable abbrev kD:=cFn PP true kh oz (cDr PP 87 pS)
noncomputable def kI:aJ:=⟨87,aP kD,[.t 6]⟩
theorem pM:kD=some kI:=by kernel_rfl
def eM (h63:Heap) (a21:D) (a29:D) (a6:D) (a13:D) (J64:HJq):Prop :=
 ∃(I88:Nat->HJq) (n₀:Nat),I88 n₀ [(.int .i64 0)] h63/\∀(n89:Nat) (f90:Nat->D) (h91:Heap),I88 n89 [f90 12] h91 ->
 aa PP (.fadd (.c a21) 1) h91 fun a92 h93 =>
 aa PP (.ld (.c a92) 1 false) h93 fun a94 h95 =>
 aH a94 h95 fun a96 =>
 vbin .lss (f90 12) a96 fun a97 =>
 vcond a97 (ae PP (.fadd (.c a21) 1) h95 fun a98 =>
 ae PP (.ld (.c a98) 1 false) h95 fun a99 =>
 ae PP (.fadd (.c a21) 1) h95 fun a100 =>
 ae PP (.ld (.c a100) 1 false) h95 fun a101 =>
 ae PP (.iadd (.c a101) (.c (f90 12)) 1) h95 fun a102 =>
 ae PP (.ld (.c a102) 1 false) h95 fun a103 =>
 an a103 false (fun G104 =>
 ae PP (.fadd (.c a29) 1) h95 fun a131 =>
 G104 a131) fun a105 =>
 an a103 false (fun G108 =>
 ae PP (.ld (.c a105) 1 false) h95 fun a130 =>
 G108 a130) fun a109 =>
 an a103 false (fun G112 =>
 G112 (f90 12)) fun a113 =>
 an a103 false (fun G115 =>
 ae PP (.iadd (.c a109) (.c a113) 1) h95 fun a129 =>
 G115 a129) fun a116 =>
 an a103 false (fun G119 =>
 ae PP (.ld (.c a116) 1 false) h95 fun a128 =>
 G119 a128) fun a120 =>
 ae PP (.pick (.c a103) (.c (.bool true)) (.c a120)) h95 fun a123 =>
 ae PP (.iadd (.c a99) (.c (f90 12)) 1) h95 fun a124 =>
 aa PP (.st (.c a124) (.c a123) 1) h95 fun a125 h126 =>
 vbin .add (f90 12) (.int .i64 1) fun a127 =>
 aC [a6,a13,a21,a29] [a6,a13,a21,a29]/\∃m,m<n89/\I88 m [a127] h126) (
 aC [a6,a13,a21] [a6,a13,a21]/\J64 [] h95)
def eK (h60:Heap) (a21:D) (a29:D) (a6:D) (a13:D) (J61:HJq):Prop :=
 ∃(I132:Nat->HJq) (n₀:Nat),I132 n₀ [(.int .i64 0)] h60/\∀(n133:Nat) (f134:Nat->D) (h135:Heap),I132 n133 [f134 11] h135 ->
 aa PP (.fadd (.c a21) 0) h135 fun a136 h137 =>
 aa PP (.ld (.c a136) 1 false) h137 fun a138 h139 =>
 aH a138 h139 fun a140 =>
 vbin .lss (f134 11) a140 fun a141 =>
 vcond a141 (ae PP (.fadd (.c a21) 0) h139 fun a142 =>
 ae PP (.ld (.c a142) 1 false) h139 fun a143 =>
 ae PP (.fadd (.c a21) 0) h139 fun a144 =>
 ae PP (.ld (.c a144) 1 false) h139 fun a145 =>
 ae PP (.iadd (.c a145) (.c (f134 11)) 1) h139 fun a146 =>
 ae PP (.ld (.c a146) 1 false) h139 fun a147 =>
 an a147 false (fun G148 =>
 ae PP (.fadd (.c a29) 0) h139 fun a175 =>
 G148 a175) fun a149 =>
 an a147 false (fun G152 =>
 ae PP (.ld (.c a149) 1 false) h139 fun a174 =>
 G152 a174) fun a153 =>
 an a147 false (fun G156 =>
 G156 (f134 11)) fun a157 =>
 an a147 false (fun G159 =>
 ae PP (.iadd (.c a153) (.c a157) 1) h139 fun a173 =>
 G159 a173) fun a160 =>
 an a147 false (fun G163 =>
 ae PP (.ld (.c a160) 1 false) h139 fun a172 =>
 G163 a172) fun a164 =>
 ae PP (.pick (.c a147) (.c (.bool true)) (.c a164)) h139 fun a167 =>
 ae PP (.iadd (.c a143) (.c (f134 11)) 1) h139 fun a168 =>
 aa PP (.st (.c a168) (.c a167) 1) h139 fun a169 h170 =>
 vbin .add (f134 11) (.int .i64 1) fun a171 =>
 aC [a6,a13,a21,a29] [a6,a13,a21,a29]/\∃m,m<n133/\I132 m [a171] h170) (
 aC [a6,a13,a21,a29] [a6,a13,a21,a29]/\J61 [] h139)
def kA (a0:D) (a1:D) (a2:D) (h0:Heap) (K:HKq):Prop :=
 aa PP (.box (.c a0)) h0 fun a4 h5 =>
 ah PP jF [] h5 fun a6 h7 =>
 vun .not a6 fun a8 =>
 vcond a8 (K (.bool false) h7) (
 aa PP (.ld (.c a4) 1 true) h7 fun a9 h10 =>
 ah PP pX [a9] h10 fun a11 h12 =>
 aa PP (.alloc (.agg [zI,zI,zI,zI,zI,.nil,.nil,.nil])) h12 fun a13 h14 =>
 aa PP (.st (.c a13) (.c a11) 8) h14 fun a15 h16 =>
 aa PP (.ld (.c a13) 8 true) h16 fun a17 h18 =>
 ah PP lO [a17,a1] h18 fun a19 h20 =>
 aa PP (.alloc (.agg [.nil,.nil])) h20 fun a21 h22 =>
 aa PP (.st (.c a21) (.c a19) 2) h22 fun a23 h24 =>
 aa PP (.ld (.c a13) 8 true) h24 fun a25 h26 =>
 ah PP lO [a25,a2] h26 fun a27 h28 =>
 aa PP (.alloc (.agg [.nil,.nil])) h28 fun a29 h30 =>
 aa PP (.st (.c a29) (.c a27) 2) h30 fun a31 h32 =>
 aa PP (.ld (.c a13) 8 true) h32 fun a33 h34 =>
 aa PP (.ld (.c a21) 2 true) h34 fun a35 h36 =>
 ah PP bn [a33,a35] h36 fun a37 h38 =>
 vbin .neq a37 (.int .i64 0) fun a39 =>
 vguard a39 false (fun G40 =>
 aa PP (.ld (.c a13) 8 true) h38 fun a43 h44 =>
 G40 a43 h44) h38 fun a41 h42 =>
 vguard a39 false (fun G45 =>
 aa PP (.ld (.c a29) 2 true) h42 fun a48 h49 =>
 G45 a48 h49) h42 fun a46 h47 =>
 vguard a39 false (fun G50 =>
 ah PP bn [a41,a46] h47 fun a53 h54 =>
 G50 a53 h54) h47 fun a51 h52 =>
 vguard a39 false (fun G55 =>
 vbin .neq a51 (.int .i64 0) fun a58 =>
 G55 a58 h52) h52 fun a56 h57 =>
 aa PP (.pick (.c a39) (.c (.bool true)) (.c a56)) h57 fun a59 h60 =>
 vcond a59 (K (.bool false) h60) (
 ∃(J61:HJq),(∀(f62:Nat->D) (h63:Heap),J61 [] h63 ->
 ∃(J64:HJq),(∀(f65:Nat->D) (h66:Heap),J64 [] h66 ->
 vguard a6 true (fun G67 =>
 aa PP (.ld (.c a13) 8 true) h66 fun a70 h71 =>
 G67 a70 h71) h66 fun a68 h69 =>
 vguard a6 true (fun G72 =>
 aa PP (.ld (.c a21) 2 true) h69 fun a75 h76 =>
 G72 a75 h76) h69 fun a73 h74 =>
 vguard a6 true (fun G77 =>
 ah PP bn [a68,a73] h74 fun a80 h81 =>
 G77 a80 h81) h74 fun a78 h79 =>
 vguard a6 true (fun G82 =>
 vbin .eql a78 (.int .i64 0) fun a85 =>
 G82 a85 h79) h79 fun a83 h84 =>
 aa PP (.pick (.c a6) (.c a83) (.c (.bool false))) h84 fun a86 h87 =>
 K a86 h87) /\
 eM h63 a21 a29 a6 a13 J64) /\
 eK h60 a21 a29 a6 a13 J61))
theorem pC (a0:D) (a1:D) (a2:D) (h0:Heap) (K:HKq):kA a0 a1 a2 h0 K=fP kI K [a0,a1,a2] h0:=by kernel_rfl
end Go.Am
namespace Go.Am
open Go Go.Proofs
def zu:TLq
 | 1000008=>some ([2,3],[])|4=>some ([2,3],[4])|1000019=>some ([2,3],[])|8=>some ([2,3],[5])|1000010=>some ([2,3,5],[])|1000015=>some ([2,3,5],[])|1000024=>some ([2,3],[])|_=>none
def B6:TTq
 | 2=>some ([0,0,0,4,12,30,62,12,254,511,1023,2047],[3,11],[999999])|4=>some ([0,1,3,7,15,31,63,127,7,263,775,1799,3847,7943,16383,32767,65535],[],[])|17=>some ([0,1,3,7,15,0,0,64,192,448,0,1216,0,7360,0,31936,0,65536,196608,524224,1048575,2097151,4194303],[7,11,13,15,22],[999999])|23=>some ([0,1,3,7,15,0,32,96,224,480,992,2016,0,8191,16383,32767],[15],[])|_=>none
noncomputable abbrev yG:=cFn PP true pX zu (cDr PP 153 B6)
noncomputable def yT:aJ:=⟨153,aP yG,[.cell 2 8 true]⟩
theorem Bu:yG=some yT:=by kernel_rfl
def lg (a76:D) (h75:Heap) (a4:D) (a12:D) (J29:HJq):Prop :=
 ∃(I77:Nat->HJq) (n₀:Nat),I77 n₀ [a76] h75/\∀(n78:Nat) (f79:Nat->D) (h80:Heap),I77 n78 [f79 5] h80 ->
 vbin .gtr (f79 5) (.int .i64 0) fun a81 =>
 vcond a81 (∃(J82:HJq),(∀(f83:Nat->D) (h84:Heap),J82 [] h84 ->
 vbin .sub (f79 5) (.int .i64 1) fun a85 =>
 aC [a4,a12] [a4,a12]/\∃m,m<n78/\I77 m [a85] h84) /\
 ah PP aq [a12] h80 fun a86 h87 =>
 vbin .rem a86 (.int .i64 3) fun a88 =>
 ah PP dP [a12,a88] h87 fun a89 h90 =>
 ∃(J91:HJq),(∀(f92:Nat->D) (h93:Heap),J91 [] h93 ->
 aa PP (.fadd (.c a12) 0) h93 fun a94 h95 =>
 aa PP (.fadd (.c a94) 2) h95 fun a96 h97 =>
 aa PP (.fadd (.c a96) 7) h97 fun a98 h99 =>
 aa PP (.ld (.c a98) 1 false) h99 fun a100 h101 =>
 aH a100 h101 fun a102 =>
 vbin .sub a102 (.int .i64 1) fun a103 =>
 aa PP (.fadd (.c a12) 0) h101 fun a104 h105 =>
 aa PP (.fadd (.c a104) 2) h105 fun a106 h107 =>
 aa PP (.fadd (.c a106) 7) h107 fun a108 h109 =>
 aa PP (.ld (.c a108) 1 false) h109 fun a110 h111 =>
 vbin .add a103 (.int .i64 1) fun a112 =>
 aa PP (.bld [zI,zI] [(0,1,(.c a112)),(1,1,(.c (.int .i64 0)))]) h111 fun a113 h114 =>
 aa PP (.bld [zI,zI,zI,zI,zJ,zI,zI,zJ,zI,zI,zJ,zI,zI] [(0,1,(.c (.int .i64 3))),(11,2,(.c a113))]) h114 fun a115 h116 =>
 aa PP (.iadd (.c a110) (.c a103) 14) h116 fun a117 h118 =>
 aa PP (.fadd (.c a117) 1) h118 fun a119 h120 =>
 aa PP (.st (.c a119) (.c a115) 13) h120 fun a121 h122 =>
 ah PP aq [a12] h122 fun a123 h124 =>
 vbin .rem a123 (.int .i64 3) fun a125 =>
 vbin .eql a125 (.int .i64 0) fun a126 =>
 vcond a126 (ae PP (.fadd (.c a12) 0) h124 fun a127 =>
 ae PP (.fadd (.c a127) 2) h124 fun a128 =>
 ae PP (.fadd (.c a128) 7) h124 fun a129 =>
 ae PP (.ld (.c a129) 1 false) h124 fun a130 =>
 vbin .add a103 (.int .i64 1) fun a131 =>
 ae PP (.bld [zI,zI] [(0,1,(.c a131)),(1,1,(.c (.int .i64 0)))]) h124 fun a132 =>
 ah PP aq [a12] h124 fun a133 h134 =>
 ((ae PP (.fadd (.c a12) 0) h134 fun a135=>aC [a135] [a127])/\(ae PP (.fadd (.c a127) 2) h134 fun a136=>aC [a136] [a128])/\(ae PP (.fadd (.c a128) 7) h134 fun a137=>aC [a137] [a129])/\(ae PP (.ld (.c a129) 1 false) h134 fun a138=>aC [a138] [a130])/\True) /\
 vbin .rem a133 (.int .i64 6) fun a139 =>
 vbin .add (.int .i64 1) a139 fun a140 =>
 ah PP aM [a12] h134 fun a141 h142 =>
 ((ae PP (.fadd (.c a12) 0) h142 fun a143=>aC [a143] [a127])/\(ae PP (.fadd (.c a127) 2) h142 fun a144=>aC [a144] [a128])/\(ae PP (.fadd (.c a128) 7) h142 fun a145=>aC [a145] [a129])/\(ae PP (.ld (.c a129) 1 false) h142 fun a146=>aC [a146] [a130])/\True) /\
 ah PP aK [a12] h142 fun a147 h148 =>
 ((ae PP (.fadd (.c a12) 0) h148 fun a149=>aC [a149] [a127])/\(ae PP (.fadd (.c a127) 2) h148 fun a150=>aC [a150] [a128])/\(ae PP (.fadd (.c a128) 7) h148 fun a151=>aC [a151] [a129])/\(ae PP (.ld (.c a129) 1 false) h148 fun a152=>aC [a152] [a130])/\True) /\
 ah PP aK [a12] h148 fun a153 h154 =>
 ((ae PP (.fadd (.c a12) 0) h154 fun a155=>aC [a155] [a127])/\(ae PP (.fadd (.c a127) 2) h154 fun a156=>aC [a156] [a128])/\(ae PP (.fadd (.c a128) 7) h154 fun a157=>aC [a157] [a129])/\(ae PP (.ld (.c a129) 1 false) h154 fun a158=>aC [a158] [a130])/\True) /\
 ae PP (.bld [zI,zI,zI,zI,zJ,zI,zI,zJ,zI,zI,zJ,zI,zI] [(0,1,(.c (.int .i64 4))),(1,1,(.c a140)),(2,3,(.c a141)),(5,3,(.c a147)),(8,3,(.c a153)),(11,2,(.c a132))]) h154 fun a159 =>
 ae PP (.iadd (.c a130) (.c a103) 14) h154 fun a160 =>
 ae PP (.fadd (.c a160) 1) h154 fun a161 =>
 aa PP (.st (.c a161) (.c a159) 13) h154 fun a162 h163 =>
 aC [a4,a12,(f79 5)] [a4,a12,(f79 5)]/\J82 [] h163) (
 aC [a4,a12,(f79 5)] [a4,a12,(f79 5)]/\J82 [] h124)) /\
 ah PP aq [a12] h90 fun a164 h165 =>
 vbin .rem a164 (.int .i64 3) fun a166 =>
 vbin .eql a166 (.int .i64 0) fun a167 =>
 vcond a167 (ah PP dh [a12] h165 fun a168 h169 =>
 ah PP aW [a12] h169 fun a170 h171 =>
 aC [a4,a12,(f79 5)] [a4,a12,(f79 5)]/\J91 [] h171) (
 aC [a4,a12,(f79 5)] [a4,a12,(f79 5)]/\J91 [] h165)) (
 aC [a4,a12] [a4,a12]/\J29 [] h80)
def lf (a174:D) (h173:Heap) (a12:D) (a4:D) (J26:HJq):Prop :=
 ∃(I175:Nat->HJq) (n₀:Nat),I175 n₀ [a174] h173/\∀(n176:Nat) (f177:Nat->D) (h178:Heap),I175 n176 [f177 4] h178 ->
 vbin .gtr (f177 4) (.int .i64 0) fun a179 =>
 an a179 true (fun G180 =>
 G180 a12) fun a181 =>
 an a179 true (fun G183 =>
 ae PP (.fadd (.c a181) 0) h178 fun a259 =>
 G183 a259) fun a184 =>
 an a179 true (fun G187 =>
 ae PP (.fadd (.c a184) 2) h178 fun a258 =>
 G187 a258) fun a188 =>
 an a179 true (fun G191 =>
 ae PP (.fadd (.c a188) 0) h178 fun a257 =>
 G191 a257) fun a192 =>
 an a179 true (fun G195 =>
 ae PP (.ld (.c a192) 1 false) h178 fun a256 =>
 G195 a256) fun a196 =>
 an a179 true (fun G199 =>
 G199 a12) fun a200 =>
 an a179 true (fun G202 =>
 ae PP (.fadd (.c a200) 0) h178 fun a255 =>
 G202 a255) fun a203 =>
 an a179 true (fun G206 =>
 ae PP (.fadd (.c a203) 2) h178 fun a254 =>
 G206 a254) fun a207 =>
 an a179 true (fun G210 =>
 ae PP (.fadd (.c a207) 1) h178 fun a253 =>
 G210 a253) fun a211 =>
 an a179 true (fun G214 =>
 ae PP (.ld (.c a211) 1 false) h178 fun a252 =>
 G214 a252) fun a215 =>
 an a179 true (fun G218 =>
 vbin .mul (.int .i64 2) a215 fun a251 =>
 G218 a251) fun a219 =>
 an a179 true (fun G222 =>
 vbin .rem a196 a219 fun a250 =>
 G222 a250) fun a223 =>
 an a179 true (fun G226 =>
 vbin .eql a223 (.int .i64 0) fun a249 =>
 G226 a249) fun a227 =>
 ae PP (.pick (.c a179) (.c a227) (.c (.bool false))) h178 fun a230 =>
 vcond a230 (aa PP (.fadd (.c a12) 0) h178 fun a231 h232 =>
 aa PP (.fadd (.c a231) 2) h232 fun a233 h234 =>
 aa PP (.fadd (.c a233) 1) h234 fun a235 h236 =>
 aa PP (.ld (.c a235) 1 false) h236 fun a237 h238 =>
 vbin .mul (.int .i64 2) a237 fun a239 =>
 aa PP (.fadd (.c a12) 0) h238 fun a240 h241 =>
 aa PP (.fadd (.c a240) 2) h241 fun a242 h243 =>
 aa PP (.fadd (.c a242) 1) h243 fun a244 h245 =>
 aa PP (.st (.c a244) (.c a239) 1) h245 fun a246 h247 =>
 vbin .sub (f177 4) (.int .i64 1) fun a248 =>
 aC [a4,a12] [a4,a12]/\∃m,m<n176/\I175 m [a248] h247) (
 aC [a4,a12] [a4,a12]/\J26 [] h178)
def yt (a0:D) (h0:Heap) (K:HKq):Prop :=
 aa PP (.box (.c a0)) h0 fun a2 h3 =>
 aa PP (.alloc (.agg [zI,zI,zI,zI,zI,.nil,.nil,.nil])) h3 fun a4 h5 =>
 aa PP (.fadd (.c a2) 0) h5 fun a6 h7 =>
 aa PP (.ld (.c a6) 1 false) h7 fun a8 h9 =>
 aa PP (.bld [.nil,zI,zI,zI,zI,zI,zI,.nil,.nil,.nil] [(0,1,(.c a8))]) h9 fun a10 h11 =>
 aa PP (.box (.c a10)) h11 fun a12 h13 =>
 ae PP (.bldS false 1 5 (.int .i64 0) [(0,(.c (.int .i64 4))),(1,(.c (.int .i64 1))),(2,(.c (.int .i64 2))),(3,(.c (.int .i64 8))),(4,(.c (.int .i64 6)))]) h13 fun a14 =>
 ah PP aq [a12] h13 fun a15 h16 =>
 vbin .rem a15 (.int .i64 5) fun a17 =>
 ae PP (.iadd (.c a14) (.c a17) 1) h16 fun a18 =>
 ae PP (.ld (.c a18) 1 false) h16 fun a19 =>
 ae PP (.call mo []) h16 fun a20 =>
 ae PP (.bld [zI,zI,zI,zI,zI,.nil,.nil,.nil] [(0,1,(.c a19)),(1,1,(.c (.int .i64 1))),(2,1,(.c (.int .i64 6))),(4,1,(.c (.int .i64 3))),(5,1,(.c a20))]) h16 fun a21 =>
 ae PP (.fadd (.c a12) 0) h16 fun a22 =>
 ae PP (.fadd (.c a22) 2) h16 fun a23 =>
 aa PP (.st (.c a23) (.c a21) 8) h16 fun a24 h25 =>
 ∃(J26:HJq),(∀(f27:Nat->D) (h28:Heap),J26 [] h28 ->
 ∃(J29:HJq),(∀(f30:Nat->D) (h31:Heap),J29 [] h31 ->
 ah PP aq [a12] h31 fun a32 h33 =>
 vbin .rem a32 (.int .i64 3) fun a34 =>
 ah PP dP [a12,a34] h33 fun a35 h36 =>
 ∃(J37:HJq),(∀(f38:Nat->D) (h39:Heap),J37 [] h39 ->
 ae PP (.fadd (.c a12) 0) h39 fun a40 =>
 ae PP (.fadd (.c a40) 2) h39 fun a41 =>
 ae PP (.fadd (.c a41) 7) h39 fun a42 =>
 ae PP (.ld (.c a42) 1 false) h39 fun a43 =>
 ae PP (.fadd (.c a12) 0) h39 fun a44 =>
 ae PP (.fadd (.c a44) 2) h39 fun a45 =>
 ae PP (.fadd (.c a45) 7) h39 fun a46 =>
 ae PP (.ld (.c a46) 1 false) h39 fun a47 =>
 aH a47 h39 fun a48 =>
 vbin .sub a48 (.int .i64 1) fun a49 =>
 ae PP (.bld [zI,zI,zI,zI,zJ,zI,zI,zJ,zI,zI,zJ,zI,zI] [(0,1,(.c (.int .i64 5)))]) h39 fun a50 =>
 ae PP (.iadd (.c a43) (.c a49) 14) h39 fun a51 =>
 ae PP (.fadd (.c a51) 1) h39 fun a52 =>
 aa PP (.st (.c a52) (.c a50) 13) h39 fun a53 h54 =>
 aa PP (.fadd (.c a12) 0) h54 fun a55 h56 =>
 aa PP (.fadd (.c a55) 2) h56 fun a57 h58 =>
 aa PP (.ld (.c a57) 8 true) h58 fun a59 h60 =>
 aa PP (.st (.c a4) (.c a59) 8) h60 fun a61 h62 =>
 aa PP (.ld (.c a4) 8 true) h62 fun a63 _ =>
 K a63 h62) /\
 ah PP aq [a12] h36 fun a64 h65 =>
 vbin .rem a64 (.int .i64 3) fun a66 =>
 vbin .eql a66 (.int .i64 0) fun a67 =>
 vcond a67 (ah PP dh [a12] h65 fun a68 h69 =>
 ah PP aW [a12] h69 fun a70 h71 =>
 ah PP cf [a12] h71 fun a72 h73 =>
 aC [a4,a12] [a4,a12]/\J37 [] h73) (
 aC [a4,a12] [a4,a12]/\J37 [] h65)) /\
 ah PP aq [a12] h28 fun a74 h75 =>
 vbin .rem a74 (.int .i64 3) fun a76 =>
 lg a76 h75 a4 a12 J29) /\
 ah PP aq [a12] h25 fun a172 h173 =>
 vbin .rem a172 (.int .i64 3) fun a174 =>
 lf a174 h173 a12 a4 J26
theorem Bj (a0:D) (h0:Heap) (K:HKq):yt a0 h0 K=fP yT K [a0] h0:=by kernel_rfl
def zp:TLq
 | 1000020=>some ([2,3],[])|5=>some ([1,2,3,4,5],[6])|1000014=>some ([1,2,3,4,5],[6])|8=>some ([1,2,3,4,5],[6,7])|1000010=>some ([1,2,3,4,5,7],[6])|14=>some ([1,2,3,4,5],[6,8])|1000016=>some ([1,2,3,4,5,8],[6])|_=>none
def BZ:TTq
 | _=>none
noncomputable abbrev yC:=cFn PP true pV zp (cDr PP 66 BZ)
noncomputable def yO:aJ:=⟨66,aP yC,[.cell 2 2 true]⟩
theorem Bp:yC=some yO:=by kernel_rfl
def k0 (f35:Nat->D) (h36:Heap) (a10:D) (a2:D) (a4:D) (a16:D) (a20:D) (n31:Nat) (I30:Nat->HJq):Prop :=
 ∃(I37:Nat->HJq) (n₀:Nat),I37 n₀ [(f35 6),(.int .i64 0)] h36/\∀(n38:Nat) (f39:Nat->D) (h40:Heap),I37 n38 [f39 6,f39 8] h40 ->
 aa PP (.fadd (.c a10) 1) h40 fun a41 h42 =>
 aa PP (.ld (.c a41) 1 false) h42 fun a43 h44 =>
 aH a43 h44 fun a45 =>
 vbin .lss (f39 8) a45 fun a46 =>
 vcond a46 (∃(J47:HJq),(∀(f48:Nat->D) (h49:Heap),J47 [f48 6] h49 ->
 vbin .add (f39 8) (.int .i64 1) fun a50 =>
 aC [a2,a4,a10,a16,a20] [a2,a4,a10,a16,a20]/\∃m,m<n38/\I37 m [(f48 6),a50] h49) /\
 aa PP (.fadd (.c a10) 1) h44 fun a51 h52 =>
 aa PP (.ld (.c a51) 1 false) h52 fun a53 h54 =>
 aa PP (.iadd (.c a53) (.c (f39 8)) 1) h54 fun a55 h56 =>
 aa PP (.ld (.c a55) 1 false) h56 fun a57 h58 =>
 vguard a57 true (fun G59 =>
 aa PP (.ld (.c a2) 8 true) h58 fun a62 h63 =>
 G59 a62 h63) h58 fun a60 h61 =>
 vguard a57 true (fun G64 =>
 G64 a16 h61) h61 fun a65 h66 =>
 vguard a57 true (fun G67 =>
 aa PP (.ld (.c a10) 2 true) h66 fun a70 h71 =>
 G67 a70 h71) h66 fun a68 h69 =>
 vguard a57 true (fun G72 =>
 G72 (f39 8) h69) h69 fun a73 h74 =>
 vguard a57 true (fun G75 =>
 ah PP et [a60,a65,a68,a73] h74 fun a78 h79 =>
 G75 a78 h79) h74 fun a76 h77 =>
 vguard a57 true (fun G80 =>
 vun .not a76 fun a83 =>
 G80 a83 h77) h77 fun a81 h82 =>
 aa PP (.pick (.c a57) (.c a81) (.c (.bool false))) h82 fun a84 h85 =>
 vcond a84 (aa PP (.fadd (.c a10) 1) h85 fun a86 h87 =>
 aa PP (.ld (.c a86) 1 false) h87 fun a88 h89 =>
 aa PP (.iadd (.c a88) (.c (f39 8)) 1) h89 fun a90 h91 =>
 aa PP (.st (.c a90) (.c (.bool false)) 1) h91 fun a92 h93 =>
 aC [a2,a4,a10,a16,a20,(f39 8)] [a2,a4,a10,a16,a20,(f39 8)]/\J47 [(.bool true)] h93) (
 aC [a2,a4,a10,a16,a20,(f39 8)] [a2,a4,a10,a16,a20,(f39 8)]/\J47 [(f39 6)] h85)) (
 aC [a2,a4,a10,a16,a20] [a2,a4,a10,a16,a20]/\∃m,m<n31/\I30 m [(f39 6)] h44)
def kZ (h33:Heap) (a10:D) (a2:D) (a4:D) (a16:D) (a20:D) (J34:HJq):Prop :=
 ∃(I94:Nat->HJq) (n₀:Nat),I94 n₀ [(.bool false),(.int .i64 0)] h33/\∀(n95:Nat) (f96:Nat->D) (h97:Heap),I94 n95 [f96 6,f96 7] h97 ->
 aa PP (.fadd (.c a10) 0) h97 fun a98 h99 =>
 aa PP (.ld (.c a98) 1 false) h99 fun a100 h101 =>
 aH a100 h101 fun a102 =>
 vbin .lss (f96 7) a102 fun a103 =>
 vcond a103 (∃(J104:HJq),(∀(f105:Nat->D) (h106:Heap),J104 [f105 6] h106 ->
 vbin .add (f96 7) (.int .i64 1) fun a107 =>
 aC [a2,a4,a10,a16,a20] [a2,a4,a10,a16,a20]/\∃m,m<n95/\I94 m [(f105 6),a107] h106) /\
 aa PP (.fadd (.c a10) 0) h101 fun a108 h109 =>
 aa PP (.ld (.c a108) 1 false) h109 fun a110 h111 =>
 aa PP (.iadd (.c a110) (.c (f96 7)) 1) h111 fun a112 h113 =>
 aa PP (.ld (.c a112) 1 false) h113 fun a114 h115 =>
 vguard a114 true (fun G116 =>
 aa PP (.ld (.c a2) 8 true) h115 fun a119 h120 =>
 G116 a119 h120) h115 fun a117 h118 =>
 vguard a114 true (fun G121 =>
 G121 a16 h118) h118 fun a122 h123 =>
 vguard a114 true (fun G124 =>
 G124 a20 h123) h123 fun a125 h126 =>
 vguard a114 true (fun G127 =>
 aa PP (.ld (.c a10) 2 true) h126 fun a130 h131 =>
 G127 a130 h131) h126 fun a128 h129 =>
 vguard a114 true (fun G132 =>
 G132 (f96 7) h129) h129 fun a133 h134 =>
 vguard a114 true (fun G135 =>
 ah PP jT [a117,a122,a125,a128,a133] h134 fun a138 h139 =>
 G135 a138 h139) h134 fun a136 h137 =>
 vguard a114 true (fun G140 =>
 vun .not a136 fun a143 =>
 G140 a143 h137) h137 fun a141 h142 =>
 aa PP (.pick (.c a114) (.c a141) (.c (.bool false))) h142 fun a144 h145 =>
 vcond a144 (aa PP (.fadd (.c a10) 0) h145 fun a146 h147 =>
 aa PP (.ld (.c a146) 1 false) h147 fun a148 h149 =>
 aa PP (.iadd (.c a148) (.c (f96 7)) 1) h149 fun a150 h151 =>
 aa PP (.st (.c a150) (.c (.bool false)) 1) h151 fun a152 h153 =>
 aC [a2,a4,a10,a16,a20,(f96 7)] [a2,a4,a10,a16,a20,(f96 7)]/\J104 [(.bool true)] h153) (
 aC [a2,a4,a10,a16,a20,(f96 7)] [a2,a4,a10,a16,a20,(f96 7)]/\J104 [(f96 6)] h145)) (
 aC [a2,a4,a10,a16,a20] [a2,a4,a10,a16,a20]/\J34 [(f96 6)] h101)
def kY (h21:Heap) (a10:D) (a2:D) (a4:D) (a16:D) (a20:D) (J22:HJq):Prop :=
 ∃(I30:Nat->HJq) (n₀:Nat),I30 n₀ [(.bool true)] h21/\∀(n31:Nat) (f32:Nat->D) (h33:Heap),I30 n31 [f32 6] h33 ->
 vcond (f32 6) (∃(J34:HJq),(∀(f35:Nat->D) (h36:Heap),J34 [f35 6] h36 ->
 k0 f35 h36 a10 a2 a4 a16 a20 n31 I30) /\
 kZ h33 a10 a2 a4 a16 a20 J34) (
 aC [a4,a10] [a4,a10]/\J22 [] h33)
def yn (a0:D) (h0:Heap) (K:HKq):Prop :=
 aa PP (.box (.c a0)) h0 fun a2 h3 =>
 aa PP (.alloc (.agg [.nil,.nil])) h3 fun a4 h5 =>
 aa PP (.ld (.c a2) 8 true) h5 fun a6 h7 =>
 ah PP fR [a6,(.bool true)] h7 fun a8 h9 =>
 aa PP (.alloc (.agg [.nil,.nil])) h9 fun a10 h11 =>
 aa PP (.st (.c a10) (.c a8) 2) h11 fun a12 h13 =>
 aa PP (.ld (.c a2) 8 true) h13 fun a14 h15 =>
 ah PP jW [a14] h15 fun a16 h17 =>
 aa PP (.ld (.c a2) 8 true) h17 fun a18 h19 =>
 ah PP gO [a18] h19 fun a20 h21 =>
 ∃(J22:HJq),(∀(f23:Nat->D) (h24:Heap),J22 [] h24 ->
 aa PP (.ld (.c a10) 2 true) h24 fun a25 h26 =>
 aa PP (.st (.c a4) (.c a25) 2) h26 fun a27 h28 =>
 aa PP (.ld (.c a4) 2 true) h28 fun a29 _ =>
 K a29 h28) /\
 kY h21 a10 a2 a4 a16 a20 J22
theorem Bf (a0:D) (h0:Heap) (K:HKq):yn a0 h0 K=fP yO K [a0] h0:=by kernel_rfl
def wy:TLq
 | 1000008=>some ([1,2,3],[])|3=>some ([1,2,3,20],[21])|1000013=>some ([1,2,3],[])|8=>some ([1,2,3,31],[32])|1000023=>some ([2,3],[])|14=>some ([2,3,6],[7])|17=>some ([2,3,6,44,45],[7,46])|1000022=>some ([2,3,6,44,45,46],[7])|_=>none
def y6:TTq
 | 1=>some ([0,1,3,7,0,16,48,127,0,511],[3,6,8,9],[999996,0,1,2])|_=>none
noncomputable abbrev tm:=cFn PP true ml wy (cDr PP 61 y6)
noncomputable def tB:aJ:=⟨61,aP tm,[.cell 2 2 true]⟩
theorem yL:tm=some tB:=by kernel_rfl
def jj (h57:Heap) (a58:D) (a4:D) (a25:D) (a44:D) (n55:Nat) (I54:Nat->HJq):Prop :=
 ∃(I59:Nat->HJq) (n₀:Nat),I59 n₀ [(.bool false),(.int .i64 0)] h57/\∀(n60:Nat) (f61:Nat->D) (h62:Heap),I59 n60 [f61 7,f61 46] h62 ->
 vbin .lss (f61 46) a58 fun a63 =>
 vcond a63 (∃(J64:HJq),(∀(f65:Nat->D) (h66:Heap),J64 [f65 7] h66 ->
 vbin .add (f61 46) (.int .i64 1) fun a67 =>
 aC [a4,a25,a44,a44,a58] [a4,a25,a44,a44,a58]/\∃m,m<n60/\I59 m [(f65 7),a67] h66) /\
 aa PP (.iadd (.c a44) (.c (f61 46)) 4) h62 fun a68 h69 =>
 aa PP (.ld (.c a68) 4 true) h69 fun a70 h71 =>
 aa PP (.alloc (.agg [(.bool false),zI,.nil,(.bool false)])) h71 fun a72 h73 =>
 aa PP (.st (.c a72) (.c a70) 4) h73 fun a74 h75 =>
 aa PP (.ld (.c a25) 2 true) h75 fun a76 h77 =>
 aa PP (.ld (.c a72) 4 true) h77 fun a78 h79 =>
 ah PP fQ [a76,a78] h79 fun a80 h81 =>
 vun .not a80 fun a82 =>
 vcond a82 (aa PP (.ld (.c a25) 2 true) h81 fun a83 h84 =>
 aa PP (.fadd (.c a72) 0) h84 fun a85 h86 =>
 aa PP (.ld (.c a85) 2 true) h86 fun a87 h88 =>
 ah PP iN [a83,a87] h88 fun a89 h90 =>
 aa PP (.fadd (.c a89) 0) h90 fun a91 h92 =>
 aa PP (.st (.c a91) (.c (.bool false)) 1) h92 fun a93 h94 =>
 aC [a4,a25,a44,a44,a58,(f61 46)] [a4,a25,a44,a44,a58,(f61 46)]/\J64 [(.bool true)] h94) (
 aC [a4,a25,a44,a44,a58,(f61 46)] [a4,a25,a44,a44,a58,(f61 46)]/\J64 [(f61 7)] h81)) (
 aC [a4,a25,a44] [a4,a25,a44]/\∃m,m<n55/\I54 m [(f61 7)] h62)
def ji (h45:Heap) (a44:D) (a4:D) (a25:D) (J46:HJq):Prop :=
 ∃(I54:Nat->HJq) (n₀:Nat),I54 n₀ [(.bool true)] h45/\∀(n55:Nat) (f56:Nat->D) (h57:Heap),I54 n55 [f56 7] h57 ->
 vcond (f56 7) (aH a44 h57 fun a58 =>
 jj h57 a58 a4 a25 a44 n55 I54) (
 aC [a4,a25] [a4,a25]/\J46 [] h57)
def jh (h98:Heap) (a99:D) (a25:D) (a2:D) (a4:D) (J37:HJq):Prop :=
 ∃(I100:Nat->HJq) (n₀:Nat),I100 n₀ [(.int .i64 0)] h98/\∀(n101:Nat) (f102:Nat->D) (h103:Heap),I100 n101 [f102 32] h103 ->
 vbin .lss (f102 32) a99 fun a104 =>
 vcond a104 (aa PP (.fadd (.c a25) 1) h103 fun a105 h106 =>
 aa PP (.ld (.c a105) 1 false) h106 fun a107 h108 =>
 aa PP (.iadd (.c a107) (.c (f102 32)) 1) h108 fun a109 h110 =>
 aa PP (.st (.c a109) (.c (.bool true)) 1) h110 fun a111 h112 =>
 vbin .add (f102 32) (.int .i64 1) fun a113 =>
 aC [a2,a4,a25,a99] [a2,a4,a25,a99]/\∃m,m<n101/\I100 m [a113] h112) (
 aC [a2,a4,a25] [a2,a4,a25]/\J37 [] h103)
def jg (h117:Heap) (a118:D) (a25:D) (a2:D) (a4:D) (J34:HJq):Prop :=
 ∃(I119:Nat->HJq) (n₀:Nat),I119 n₀ [(.int .i64 0)] h117/\∀(n120:Nat) (f121:Nat->D) (h122:Heap),I119 n120 [f121 21] h122 ->
 vbin .lss (f121 21) a118 fun a123 =>
 vcond a123 (aa PP (.fadd (.c a25) 0) h122 fun a124 h125 =>
 aa PP (.ld (.c a124) 1 false) h125 fun a126 h127 =>
 aa PP (.iadd (.c a126) (.c (f121 21)) 1) h127 fun a128 h129 =>
 aa PP (.st (.c a128) (.c (.bool true)) 1) h129 fun a130 h131 =>
 vbin .add (f121 21) (.int .i64 1) fun a132 =>
 aC [a2,a4,a25,a118] [a2,a4,a25,a118]/\∃m,m<n120/\I119 m [a132] h131) (
 aC [a2,a4,a25] [a2,a4,a25]/\J34 [] h122)
def sU (a0:D) (h0:Heap) (K:HKq):Prop :=
 aa PP (.box (.c a0)) h0 fun a2 h3 =>
 aa PP (.alloc (.agg [.nil,.nil])) h3 fun a4 h5 =>
 ae PP (.fadd (.c a2) 7) h5 fun a6 =>
 ae PP (.ld (.c a6) 1 false) h5 fun a7 =>
 aH a7 h5 fun a8 =>
 ae PP (.fadd (.c a2) 2) h5 fun a9 =>
 ae PP (.ld (.c a9) 1 false) h5 fun a10 =>
 aa PP (.mkc 1 (.c a8) (.c a8)) h5 fun a11 h12 =>
 aa PP (.mkc 1 (.c a10) (.c a10)) h12 fun a13 h14 =>
 aa PP (.mk 1 1 (.bool false) (.c a8) (.c a8)) h14 fun a15 h16 =>
 ((ae PP (.fadd (.c a2) 2) h16 fun a17=>aC [a17] [a9])/\(ae PP (.ld (.c a9) 1 false) h16 fun a18=>aC [a18] [a10])/\True) /\
 aa PP (.mk 1 1 (.bool false) (.c a10) (.c a10)) h16 fun a19 h20 =>
 ((ae PP (.fadd (.c a2) 7) h20 fun a21=>aC [a21] [a6])/\(ae PP (.ld (.c a6) 1 false) h20 fun a22=>aC [a22] [a7])/\(ae PP (.len (.c a7)) h20 fun a23=>aC [a23] [a8])/\True) /\
 ae PP (.bld [.nil,.nil] [(0,1,(.c a15)),(1,1,(.c a19))]) h20 fun a24 =>
 aa PP (.alloc (.agg [.nil,.nil])) h20 fun a25 h26 =>
 ((ae PP (.fadd (.c a2) 7) h26 fun a27=>aC [a27] [a6])/\(ae PP (.ld (.c a6) 1 false) h26 fun a28=>aC [a28] [a7])/\(ae PP (.len (.c a7)) h26 fun a29=>aC [a29] [a8])/\(ae PP (.fadd (.c a2) 2) h26 fun a30=>aC [a30] [a9])/\(ae PP (.ld (.c a9) 1 false) h26 fun a31=>aC [a31] [a10])/\True) /\
 aa PP (.st (.c a25) (.c a24) 2) h26 fun a32 h33 =>
 ∃(J34:HJq),(∀(f35:Nat->D) (h36:Heap),J34 [] h36 ->
 ∃(J37:HJq),(∀(f38:Nat->D) (h39:Heap),J37 [] h39 ->
 aa PP (.ld (.c a2) 8 true) h39 fun a40 h41 =>
 ah PP gN [a40] h41 fun a42 h43 =>
 ah PP cy [a42] h43 fun a44 h45 =>
 ∃(J46:HJq),(∀(f47:Nat->D) (h48:Heap),J46 [] h48 ->
 aa PP (.ld (.c a25) 2 true) h48 fun a49 h50 =>
 aa PP (.st (.c a4) (.c a49) 2) h50 fun a51 h52 =>
 aa PP (.ld (.c a4) 2 true) h52 fun a53 _ =>
 K a53 h52) /\
 ji h45 a44 a4 a25 J46) /\
 aa PP (.fadd (.c a25) 1) h36 fun a95 h96 =>
 aa PP (.ld (.c a95) 1 false) h96 fun a97 h98 =>
 aH a97 h98 fun a99 =>
 jh h98 a99 a25 a2 a4 J37) /\
 aa PP (.fadd (.c a25) 0) h33 fun a114 h115 =>
 aa PP (.ld (.c a114) 1 false) h115 fun a116 h117 =>
 aH a116 h117 fun a118 =>
 jg h117 a118 a25 a2 a4 J34
theorem yk (a0:D) (h0:Heap) (K:HKq):sU a0 h0 K=fP tB K [a0] h0:=by kernel_rfl
def uh:TLq
 | 1000008=>some ([4],[])|4000006=>some ([3,4],[1000000])|_=>none
def xq:TTq
 | _=>none
noncomputable abbrev qP:=cFn PP true bn uh (cDr PP 28 xq)
noncomputable def qV:aJ:=⟨28,aP qP,[.cell 4 1 false]⟩
theorem xb:qP=some qV:=by kernel_rfl
def hQ:ACode:=.reg [⟨(some 5),.alloc (.agg [(.bool false),(.int .i64 0),.nil,(.bool false)]),none⟩,
  ⟨none,.st (.t 5) (.t 23) 4,none⟩]
def g9:ACode:=.block 1 (.seq (.reg [⟨(some 24),.ld (.t 3) 2 true,none⟩,
  ⟨(some 25),.ld (.t 5) 4 true,none⟩,
  ⟨(some 26),.call fQ [(.t 24),(.t 25)],none⟩,
  ⟨(some 27),.un .not (.t 26),none⟩]) <|
 .cond (.t 27) (.seq (.reg [⟨none,.st (.t 4) (.c (.int .i64 100)) 1,none⟩]) <|
 .ret) (.skip))
def mB (n0:Nat) (B0:cD) (a23:D) (a3:D) (a4:D) (h0:Heap) (K:HKq):Prop :=
 aa PP (.alloc (.agg [(.bool false),zI,.nil,(.bool false)])) h0 fun a100000 h100001 =>
 aa PP (.st (.c a100000) (.c a23) 4) h100001 fun a100002 h100003 =>
 Ex.normal=Ex.normal/\h100003 n0=.lp .ready B0/\aa PP (.ld (.c a3) 2 true) (av h100003 n0 (.lp .busy B0)) fun a100004 h100005 =>
 aa PP (.ld (.c a100000) 4 true) h100005 fun a100006 h100007 =>
 ah PP fQ [a100004,a100006] h100007 fun a100008 h100009 =>
 vun .not a100008 fun a100010 =>
 vcond a100010 (aa PP (.st (.c a4) (.c (.int .i64 100)) 1) h100009 fun a100011 h100012 =>
 h100012 n0=.lp .busy B0/\K (.bool false) (av h100012 n0 (.lp (.done .ret) B0))) (
 h100009 n0=.lp .busy B0/\K (.bool true) (av h100009 n0 (.lp .ready B0)))
theorem rK (n0:Nat) (B0:cD) (a23:D) (a3:D) (a4:D) (h0:Heap) (K:HKq):mB n0 B0 a23 a3 a4 h0 K=EJ PP n0 B0 [23] [a23] [(3,a3),(4,a4)] hQ g9 h0 K:=by kernel_rfl
def qF (a0:D) (a1:D) (h0:Heap) (K:HKq):Prop :=
 aa PP (.box (.c a0)) h0 fun a3 h4 =>
 aa PP (.box (.c a1)) h4 fun a5 h6 =>
 aa PP (.alloc (.int .i64 0)) h6 fun a7 h8 =>
 aa PP (.fadd (.c a5) 0) h8 fun a9 h10 =>
 aa PP (.ld (.c a9) 1 false) h10 fun a11 h12 =>
 aH a11 h12 fun a13 =>
 aa PP (.fadd (.c a3) 7) h12 fun a14 h15 =>
 aa PP (.ld (.c a14) 1 false) h15 fun a16 h17 =>
 aH a16 h17 fun a18 =>
 vbin .neq a13 a18 fun a19 =>
 vguard a19 false (fun G20 =>
 aa PP (.fadd (.c a5) 1) h17 fun a23 h24 =>
 G20 a23 h24) h17 fun a21 h22 =>
 vguard a19 false (fun G25 =>
 aa PP (.ld (.c a21) 1 false) h22 fun a28 h29 =>
 G25 a28 h29) h22 fun a26 h27 =>
 vguard a19 false (fun G30 =>
 aH a26 h27 fun a33 =>
 G30 a33 h27) h27 fun a31 h32 =>
 vguard a19 false (fun G34 =>
 aa PP (.fadd (.c a3) 2) h32 fun a37 h38 =>
 G34 a37 h38) h32 fun a35 h36 =>
 vguard a19 false (fun G39 =>
 aa PP (.ld (.c a35) 1 false) h36 fun a42 h43 =>
 G39 a42 h43) h36 fun a40 h41 =>
 vguard a19 false (fun G44 =>
 vbin .neq a31 a40 fun a47 =>
 G44 a47 h41) h41 fun a45 h46 =>
 aa PP (.pick (.c a19) (.c (.bool true)) (.c a45)) h46 fun a48 h49 =>
 vcond a48 (aa PP (.st (.c a7) (.c (.int .i64 100)) 1) h49 fun a50 h51 =>
 aa PP (.ld (.c a7) 1 false) h51 fun a52 _ =>
 K a52 h51) (
 ∃(J53:HJq),(∀(f54:Nat->D) (h55:Heap),J53 [] h55 ->
 aa PP (.st (.c a7) (.c (.int .i64 0)) 1) h55 fun a56 h57 =>
 aa PP (.ld (.c a7) 1 false) h57 fun a58 _ =>
 K a58 h57) /\
 aa PP (.ld (.c a3) 8 true) h49 fun a59 h60 =>
 ah PP gN [a59] h60 fun a61 h62 =>
 Hs PP a61 [23] [(3,a5),(4,a7)] hQ g9 h62 fun n63 h64=>ec n63 h64 (
 aC [a7] [a7]/\J53 [] (av h64 n63 .dead)) (fun i0=>(i0=1000000/\(False))\/(False)) ((1000000=1000000/\(aa PP (.ld (.c a7) 1 false) (av h64 n63 .dead) fun a65 _ =>
 K a65 (av h64 n63 .dead)))\/(False)))
theorem wW (a0:D) (a1:D) (h0:Heap) (K:HKq):qF a0 a1 h0 K=fP qV K [a0,a1] h0:=by kernel_rfl
def zo:TLq
 | 1000010=>some ([1,2,4,5,7],[6])|5=>some ([1,2,4,5,7],[6,8])|1000015=>some ([2,4,5,7],[])|10=>some ([1,2,4,5,7],[6,9])|1000031=>some ([4,5],[])|16=>some ([2,4,5,10,11],[7])|1000025=>some ([2,4,5,10,11],[7])|19=>some ([2,4,5,10,11],[7,12])|1000021=>some ([2,4,5,10,11,12],[7])|25=>some ([2,4,5,10,11],[7,13])|1000027=>some ([2,4,5,10,11,13],[7])|_=>none
def BY:TTq
 | 7=>some ([0,1,0,0,8,0,56,120,248,504,504,504,2552,7672,16376,32760,65528,131064,262136,524287,1048575],[20],[])|12=>some ([0,1,0,0,8,0,56,120,248,504,504,504,2552,7672,16376,32760,65528,131064,262136,524287,1048575],[20],[])|_=>none
noncomputable abbrev yB:=cFn PP true lO zo (cDr PP 142 BY)
noncomputable def yN:aJ:=⟨142,aP yB,[.cell 4 2 true]⟩
theorem Bo:yB=some yN:=by kernel_rfl
def kX (f44:Nat->D) (h45:Heap) (a11:D) (a3:D) (a5:D) (a25:D) (a29:D) (n40:Nat) (I39:Nat->HJq):Prop :=
 ∃(I46:Nat->HJq) (n₀:Nat),I46 n₀ [(f44 7),(.int .i64 0)] h45/\∀(n47:Nat) (f48:Nat->D) (h49:Heap),I46 n47 [f48 7,f48 13] h49 ->
 aa PP (.fadd (.c a11) 1) h49 fun a50 h51 =>
 aa PP (.ld (.c a50) 1 false) h51 fun a52 h53 =>
 aH a52 h53 fun a54 =>
 vbin .lss (f48 13) a54 fun a55 =>
 vcond a55 (∃(J56:HJq),(∀(f57:Nat->D) (h58:Heap),J56 [f57 7] h58 ->
 vbin .add (f48 13) (.int .i64 1) fun a59 =>
 aC [a3,a5,a11,a25,a29] [a3,a5,a11,a25,a29]/\∃m,m<n47/\I46 m [(f57 7),a59] h58) /\
 aa PP (.fadd (.c a11) 1) h53 fun a60 h61 =>
 aa PP (.ld (.c a60) 1 false) h61 fun a62 h63 =>
 aa PP (.iadd (.c a62) (.c (f48 13)) 1) h63 fun a64 h65 =>
 aa PP (.ld (.c a64) 1 false) h65 fun a66 h67 =>
 vguard a66 true (fun G68 =>
 aa PP (.ld (.c a3) 8 true) h67 fun a71 h72 =>
 G68 a71 h72) h67 fun a69 h70 =>
 vguard a66 true (fun G73 =>
 G73 a25 h70) h70 fun a74 h75 =>
 vguard a66 true (fun G76 =>
 aa PP (.ld (.c a11) 2 true) h75 fun a79 h80 =>
 G76 a79 h80) h75 fun a77 h78 =>
 vguard a66 true (fun G81 =>
 G81 (f48 13) h78) h78 fun a82 h83 =>
 vguard a66 true (fun G84 =>
 ah PP et [a69,a74,a77,a82] h83 fun a87 h88 =>
 G84 a87 h88) h83 fun a85 h86 =>
 vguard a66 true (fun G89 =>
 vun .not a85 fun a92 =>
 G89 a92 h86) h86 fun a90 h91 =>
 aa PP (.pick (.c a66) (.c a90) (.c (.bool false))) h91 fun a93 h94 =>
 vcond a93 (aa PP (.fadd (.c a11) 1) h94 fun a95 h96 =>
 aa PP (.ld (.c a95) 1 false) h96 fun a97 h98 =>
 aa PP (.iadd (.c a97) (.c (f48 13)) 1) h98 fun a99 h100 =>
 aa PP (.st (.c a99) (.c (.bool false)) 1) h100 fun a101 h102 =>
 aC [a3,a5,a11,a25,a29,(f48 13)] [a3,a5,a11,a25,a29,(f48 13)]/\J56 [(.bool true)] h102) (
 aC [a3,a5,a11,a25,a29,(f48 13)] [a3,a5,a11,a25,a29,(f48 13)]/\J56 [(f48 7)] h94)) (
 aC [a3,a5,a11,a25,a29] [a3,a5,a11,a25,a29]/\∃m,m<n40/\I39 m [(f48 7)] h53)
def kW (h42:Heap) (a11:D) (a3:D) (a5:D) (a25:D) (a29:D) (J43:HJq):Prop :=
 ∃(I103:Nat->HJq) (n₀:Nat),I103 n₀ [(.bool false),(.int .i64 0)] h42/\∀(n104:Nat) (f105:Nat->D) (h106:Heap),I103 n104 [f105 7,f105 12] h106 ->
 aa PP (.fadd (.c a11) 0) h106 fun a107 h108 =>
 aa PP (.ld (.c a107) 1 false) h108 fun a109 h110 =>
 aH a109 h110 fun a111 =>
 vbin .lss (f105 12) a111 fun a112 =>
 vcond a112 (∃(J113:HJq),(∀(f114:Nat->D) (h115:Heap),J113 [f114 7] h115 ->
 vbin .add (f105 12) (.int .i64 1) fun a116 =>
 aC [a3,a5,a11,a25,a29] [a3,a5,a11,a25,a29]/\∃m,m<n104/\I103 m [(f114 7),a116] h115) /\
 aa PP (.fadd (.c a11) 0) h110 fun a117 h118 =>
 aa PP (.ld (.c a117) 1 false) h118 fun a119 h120 =>
 aa PP (.iadd (.c a119) (.c (f105 12)) 1) h120 fun a121 h122 =>
 aa PP (.ld (.c a121) 1 false) h122 fun a123 h124 =>
 vguard a123 true (fun G125 =>
 aa PP (.ld (.c a3) 8 true) h124 fun a128 h129 =>
 G125 a128 h129) h124 fun a126 h127 =>
 vguard a123 true (fun G130 =>
 G130 a25 h127) h127 fun a131 h132 =>
 vguard a123 true (fun G133 =>
 G133 a29 h132) h132 fun a134 h135 =>
 vguard a123 true (fun G136 =>
 aa PP (.ld (.c a11) 2 true) h135 fun a139 h140 =>
 G136 a139 h140) h135 fun a137 h138 =>
 vguard a123 true (fun G141 =>
 G141 (f105 12) h138) h138 fun a142 h143 =>
 vguard a123 true (fun G144 =>
 ah PP jT [a126,a131,a134,a137,a142] h143 fun a147 h148 =>
 G144 a147 h148) h143 fun a145 h146 =>
 vguard a123 true (fun G149 =>
 vun .not a145 fun a152 =>
 G149 a152 h146) h146 fun a150 h151 =>
 aa PP (.pick (.c a123) (.c a150) (.c (.bool false))) h151 fun a153 h154 =>
 vcond a153 (aa PP (.fadd (.c a11) 0) h154 fun a155 h156 =>
 aa PP (.ld (.c a155) 1 false) h156 fun a157 h158 =>
 aa PP (.iadd (.c a157) (.c (f105 12)) 1) h158 fun a159 h160 =>
 aa PP (.st (.c a159) (.c (.bool false)) 1) h160 fun a161 h162 =>
 aC [a3,a5,a11,a25,a29,(f105 12)] [a3,a5,a11,a25,a29,(f105 12)]/\J113 [(.bool true)] h162) (
 aC [a3,a5,a11,a25,a29,(f105 12)] [a3,a5,a11,a25,a29,(f105 12)]/\J113 [(f105 7)] h154)) (
 aC [a3,a5,a11,a25,a29] [a3,a5,a11,a25,a29]/\J43 [(f105 7)] h110)
def kV (a16:D) (h30:Heap) (a11:D) (a3:D) (a5:D) (a25:D) (a29:D) (J31:HJq):Prop :=
 ∃(I39:Nat->HJq) (n₀:Nat),I39 n₀ [a16] h30/\∀(n40:Nat) (f41:Nat->D) (h42:Heap),I39 n40 [f41 7] h42 ->
 vcond (f41 7) (∃(J43:HJq),(∀(f44:Nat->D) (h45:Heap),J43 [f44 7] h45 ->
 kX f44 h45 a11 a3 a5 a25 a29 n40 I39) /\
 kW h42 a11 a3 a5 a25 a29 J43) (
 aC [a5,a11] [a5,a11]/\J31 [] h42)
def kU (f18:Nat->D) (h19:Heap) (a11:D) (a1:D) (a3:D) (a5:D) (a16:D) (J20:HJq):Prop :=
 ∃(I163:Nat->HJq) (n₀:Nat),I163 n₀ [(f18 6),(.int .i64 0)] h19/\∀(n164:Nat) (f165:Nat->D) (h166:Heap),I163 n164 [f165 6,f165 9] h166 ->
 aa PP (.fadd (.c a11) 1) h166 fun a167 h168 =>
 aa PP (.ld (.c a167) 1 false) h168 fun a169 h170 =>
 aH a169 h170 fun a171 =>
 vbin .lss (f165 9) a171 fun a172 =>
 vguard a172 true (fun G173 =>
 G173 a1 h170) h170 fun a174 h175 =>
 vguard a172 true (fun G176 =>
 aH a174 h175 fun a179 =>
 G176 a179 h175) h175 fun a177 h178 =>
 vguard a172 true (fun G180 =>
 vbin .gtr a177 (.int .i64 0) fun a183 =>
 G180 a183 h178) h178 fun a181 h182 =>
 aa PP (.pick (.c a172) (.c a181) (.c (.bool false))) h182 fun a184 h185 =>
 vcond a184 (ae PP (.fadd (.c a11) 1) h185 fun a186 =>
 ae PP (.ld (.c a186) 1 false) h185 fun a187 =>
 ae PP (.fadd (.c a11) 1) h185 fun a188 =>
 ae PP (.ld (.c a188) 1 false) h185 fun a189 =>
 ae PP (.iadd (.c a189) (.c (f165 9)) 1) h185 fun a190 =>
 ae PP (.ld (.c a190) 1 false) h185 fun a191 =>
 an a191 true (fun G192 =>
 G192 a1) fun a193 =>
 an a191 true (fun G195 =>
 G195 (f165 6)) fun a196 =>
 an a191 true (fun G198 =>
 G198 a1) fun a199 =>
 an a191 true (fun G201 =>
 aH a199 h185 fun a236 =>
 G201 a236) fun a202 =>
 an a191 true (fun G205 =>
 vbin .rem a196 a202 fun a235 =>
 G205 a235) fun a206 =>
 an a191 true (fun G209 =>
 ae PP (.iadd (.c a193) (.c a206) 1) h185 fun a234 =>
 G209 a234) fun a210 =>
 an a191 true (fun G213 =>
 ae PP (.ld (.c a210) 1 false) h185 fun a233 =>
 G213 a233) fun a214 =>
 an a191 true (fun G217 =>
 vbin .rem a214 (.int .u8 4) fun a232 =>
 G217 a232) fun a218 =>
 an a191 true (fun G221 =>
 vbin .neq a218 (.int .u8 0) fun a231 =>
 G221 a231) fun a222 =>
 ae PP (.pick (.c a191) (.c a222) (.c (.bool false))) h185 fun a225 =>
 ae PP (.iadd (.c a187) (.c (f165 9)) 1) h185 fun a226 =>
 aa PP (.st (.c a226) (.c a225) 1) h185 fun a227 h228 =>
 vbin .add (f165 6) (.int .i64 1) fun a229 =>
 vbin .add (f165 9) (.int .i64 1) fun a230 =>
 aC [a1,a3,a5,a11,a16] [a1,a3,a5,a11,a16]/\∃m,m<n164/\I163 m [a229,a230] h228) (
 aC [a3,a5,a11,a16] [a3,a5,a11,a16]/\J20 [] h185)
def kT (h14:Heap) (a11:D) (a1:D) (a3:D) (a5:D) (a16:D) (J17:HJq):Prop :=
 ∃(I237:Nat->HJq) (n₀:Nat),I237 n₀ [(.int .i64 0),(.int .i64 0)] h14/\∀(n238:Nat) (f239:Nat->D) (h240:Heap),I237 n238 [f239 6,f239 8] h240 ->
 aa PP (.fadd (.c a11) 0) h240 fun a241 h242 =>
 aa PP (.ld (.c a241) 1 false) h242 fun a243 h244 =>
 aH a243 h244 fun a245 =>
 vbin .lss (f239 8) a245 fun a246 =>
 vguard a246 true (fun G247 =>
 G247 a1 h244) h244 fun a248 h249 =>
 vguard a246 true (fun G250 =>
 aH a248 h249 fun a253 =>
 G250 a253 h249) h249 fun a251 h252 =>
 vguard a246 true (fun G254 =>
 vbin .gtr a251 (.int .i64 0) fun a257 =>
 G254 a257 h252) h252 fun a255 h256 =>
 aa PP (.pick (.c a246) (.c a255) (.c (.bool false))) h256 fun a258 h259 =>
 vcond a258 (ae PP (.fadd (.c a11) 0) h259 fun a260 =>
 ae PP (.ld (.c a260) 1 false) h259 fun a261 =>
 ae PP (.fadd (.c a11) 0) h259 fun a262 =>
 ae PP (.ld (.c a262) 1 false) h259 fun a263 =>
 ae PP (.iadd (.c a263) (.c (f239 8)) 1) h259 fun a264 =>
 ae PP (.ld (.c a264) 1 false) h259 fun a265 =>
 an a265 true (fun G266 =>
 G266 a1) fun a267 =>
 an a265 true (fun G269 =>
 G269 (f239 6)) fun a270 =>
 an a265 true (fun G272 =>
 G272 a1) fun a273 =>
 an a265 true (fun G275 =>
 aH a273 h259 fun a310 =>
 G275 a310) fun a276 =>
 an a265 true (fun G279 =>
 vbin .rem a270 a276 fun a309 =>
 G279 a309) fun a280 =>
 an a265 true (fun G283 =>
 ae PP (.iadd (.c a267) (.c a280) 1) h259 fun a308 =>
 G283 a308) fun a284 =>
 an a265 true (fun G287 =>
 ae PP (.ld (.c a284) 1 false) h259 fun a307 =>
 G287 a307) fun a288 =>
 an a265 true (fun G291 =>
 vbin .rem a288 (.int .u8 4) fun a306 =>
 G291 a306) fun a292 =>
 an a265 true (fun G295 =>
 vbin .neq a292 (.int .u8 0) fun a305 =>
 G295 a305) fun a296 =>
 ae PP (.pick (.c a265) (.c a296) (.c (.bool false))) h259 fun a299 =>
 ae PP (.iadd (.c a261) (.c (f239 8)) 1) h259 fun a300 =>
 aa PP (.st (.c a300) (.c a299) 1) h259 fun a301 h302 =>
 vbin .add (f239 6) (.int .i64 1) fun a303 =>
 vbin .add (f239 8) (.int .i64 1) fun a304 =>
 aC [a1,a3,a5,a11,a16] [a1,a3,a5,a11,a16]/\∃m,m<n238/\I237 m [a303,a304] h302) (
 aC [a1,a3,a5,a11,a16] [a1,a3,a5,a11,a16]/\J17 [(f239 6)] h259)
def ym (a0:D) (a1:D) (h0:Heap) (K:HKq):Prop :=
 aa PP (.box (.c a0)) h0 fun a3 h4 =>
 aa PP (.alloc (.agg [.nil,.nil])) h4 fun a5 h6 =>
 aa PP (.ld (.c a3) 8 true) h6 fun a7 h8 =>
 ah PP pV [a7] h8 fun a9 h10 =>
 aa PP (.alloc (.agg [.nil,.nil])) h10 fun a11 h12 =>
 aa PP (.st (.c a11) (.c a9) 2) h12 fun a13 h14 =>
 aH a1 h14 fun a15 =>
 vbin .gtr a15 (.int .i64 0) fun a16 =>
 ∃(J17:HJq),(∀(f18:Nat->D) (h19:Heap),J17 [f18 6] h19 ->
 ∃(J20:HJq),(∀(f21:Nat->D) (h22:Heap),J20 [] h22 ->
 aa PP (.ld (.c a3) 8 true) h22 fun a23 h24 =>
 ah PP jW [a23] h24 fun a25 h26 =>
 aa PP (.ld (.c a3) 8 true) h26 fun a27 h28 =>
 ah PP gO [a27] h28 fun a29 h30 =>
 ∃(J31:HJq),(∀(f32:Nat->D) (h33:Heap),J31 [] h33 ->
 aa PP (.ld (.c a11) 2 true) h33 fun a34 h35 =>
 aa PP (.st (.c a5) (.c a34) 2) h35 fun a36 h37 =>
 aa PP (.ld (.c a5) 2 true) h37 fun a38 _ =>
 K a38 h37) /\
 kV a16 h30 a11 a3 a5 a25 a29 J31) /\
 kU f18 h19 a11 a1 a3 a5 a16 J20) /\
 kT h14 a11 a1 a3 a5 a16 J17
theorem Be (a0:D) (a1:D) (h0:Heap) (K:HKq):ym a0 a1 h0 K=fP yN K [a0,a1] h0:=by kernel_rfl
end Go.Am
namespace Go.Am
open Go Go.Proofs
def zw:TLq
 | 1000015=>some ([3],[])|4=>some ([1,3],[4])|8=>some ([1,3,35,36],[4,37])|1000014=>some ([1,3,35,36,37],[4])|_=>none
def B8:TTq
 | _=>none
noncomputable abbrev yI:=cFn PP true p5 zw (cDr PP 55 B8)
noncomputable def yY:aJ:=⟨55,aP yI,[.t 2]⟩
theorem Bw:yI=some yY:=by kernel_rfl
def qN (a34:D) (h47:Heap) (a48:D) (a2:D) (a9:D) (a46:D) (n21:Nat) (I20:Nat->HJq):Prop :=
 ∃(I49:Nat->HJq) (n₀:Nat),I49 n₀ [a34,(.int .i64 0)] h47/\∀(n50:Nat) (f51:Nat->D) (h52:Heap),I49 n50 [f51 4,f51 37] h52 ->
 vbin .lss (f51 37) a48 fun a53 =>
 vcond a53 (∃(J54:HJq),(∀(f55:Nat->D) (h56:Heap),J54 [f55 4] h56 ->
 vbin .add (f51 37) (.int .i64 1) fun a57 =>
 aC [a2,a9,a46,a48] [a2,a9,a46,a48]/\∃m,m<n50/\I49 m [(f55 4),a57] h56) /\
 aa PP (.iadd (.c a46) (.c (f51 37)) 1) h52 fun a58 h59 =>
 aa PP (.ld (.c a58) 1 false) h59 fun a60 h61 =>
 aa PP (.iadd (.c a9) (.c a60) 1) h61 fun a62 h63 =>
 aa PP (.ld (.c a62) 1 false) h63 fun a64 h65 =>
 vun .not a64 fun a66 =>
 vcond a66 (aa PP (.iadd (.c a9) (.c a60) 1) h65 fun a67 h68 =>
 aa PP (.st (.c a67) (.c (.bool true)) 1) h68 fun a69 h70 =>
 aa PP (.bldS true 1 1 (.int .i64 0) [(0,(.c a60))]) h70 fun a71 h72 =>
 aa PP (.app (.c (f51 4)) (.c a71) 1 8 (.int .i64 0)) h72 fun a73 h74 =>
 aC [a2,a9,a46,a48,(f51 37)] [a2,a9,a46,a48,(f51 37)]/\J54 [a73] h74) (
 aC [a2,a9,a46,a48,(f51 37)] [a2,a9,a46,a48,(f51 37)]/\J54 [(f51 4)] h65)) (
 aC [a2,a9] [a2,a9]/\∃m,m<n21/\I20 m [(f51 4)] h52)
def qM (a18:D) (h19:Heap) (a2:D) (a9:D) (J15:HJq):Prop :=
 ∃(I20:Nat->HJq) (n₀:Nat),I20 n₀ [a18] h19/\∀(n21:Nat) (f22:Nat->D) (h23:Heap),I20 n21 [f22 4] h23 ->
 aH (f22 4) h23 fun a24 =>
 vbin .gtr a24 (.int .i64 0) fun a25 =>
 vcond a25 (aH (f22 4) h23 fun a26 =>
 vbin .sub a26 (.int .i64 1) fun a27 =>
 aa PP (.iadd (.c (f22 4)) (.c a27) 1) h23 fun a28 h29 =>
 aa PP (.ld (.c a28) 1 false) h29 fun a30 h31 =>
 aH (f22 4) h31 fun a32 =>
 vbin .sub a32 (.int .i64 1) fun a33 =>
 aa PP (.yZ (.c (f22 4)) none (some (.c a33)) none 1) h31 fun a34 h35 =>
 aa PP (.fadd (.c a2) 7) h35 fun a36 h37 =>
 aa PP (.ld (.c a36) 1 false) h37 fun a38 h39 =>
 aa PP (.iadd (.c a38) (.c a30) 14) h39 fun a40 h41 =>
 aa PP (.fadd (.c a40) 1) h41 fun a42 h43 =>
 aa PP (.ld (.c a42) 13 true) h43 fun a44 h45 =>
 ah PP ki [a44] h45 fun a46 h47 =>
 aH a46 h47 fun a48 =>
 qN a34 h47 a48 a2 a9 a46 n21 I20) (
 aC [a9] [a9]/\J15 [] h23)
def yy (a0:D) (h0:Heap) (K:HKq):Prop :=
 aa PP (.box (.c a0)) h0 fun a2 h3 =>
 aa PP (.fadd (.c a2) 7) h3 fun a4 h5 =>
 aa PP (.ld (.c a4) 1 false) h5 fun a6 h7 =>
 aH a6 h7 fun a8 =>
 aa PP (.mk 1 1 (.bool false) (.c a8) (.c a8)) h7 fun a9 h10 =>
 aa PP (.iadd (.c a9) (.c (.int .i64 0)) 1) h10 fun a11 h12 =>
 aa PP (.st (.c a11) (.c (.bool true)) 1) h12 fun a13 h14 =>
 ∃(J15:HJq),(∀(f16:Nat->D) (h17:Heap),J15 [] h17 ->
 K a9 h17) /\
 aa PP (.bldS true 1 1 (.int .i64 0) [(0,(.c (.int .i64 0)))]) h14 fun a18 h19 =>
 qM a18 h19 a2 a9 J15
theorem Bl (a0:D) (h0:Heap) (K:HKq):yy a0 h0 K=fP yY K [a0] h0:=by kernel_rfl
def rB:TLq
 | 1000009=>some ([],[])|4=>some ([0,1],[5])|_=>none
def tZ:TTq
 | 6=>some ([0,0,3,7,0,0,48,112,255],[],[])|_=>none
noncomputable abbrev nN:=cFn PP true dN rB (cDr PP 26 tZ)
noncomputable def od:aJ:=⟨26,aP nN,[.t 4]⟩
theorem tD:nN=some od:=by kernel_rfl
def ku (h0:Heap) (a0:D) (a1:D) (J6:HJq) (K:HKq):Prop :=
 ∃(I9:Nat->HJq) (n₀:Nat),I9 n₀ [(.int .i64 0)] h0/\∀(n10:Nat) (f11:Nat->D) (h12:Heap),I9 n10 [f11 5] h12 ->
 aH a0 h12 fun a13 =>
 vbin .lss (f11 5) a13 fun a14 =>
 vcond a14 (ae PP (.iadd (.c a0) (.c (f11 5)) 1) h12 fun a15 =>
 ae PP (.ld (.c a15) 1 false) h12 fun a16 =>
 ae PP (.iadd (.c a1) (.c (f11 5)) 1) h12 fun a17 =>
 ae PP (.ld (.c a17) 1 false) h12 fun a18 =>
 ae PP (.eqv true false [.b] (.c a16) (.c a18)) h12 fun a19 =>
 vcond a19 (K (.bool false) h12) (
 vbin .add (f11 5) (.int .i64 1) fun a20 =>
 aC [a0,a1] [a0,a1]/\∃m,m<n10/\I9 m [a20] h12)) (
 aC [] []/\J6 [] h12)
def ny (a0:D) (a1:D) (h0:Heap) (K:HKq):Prop :=
 aH a0 h0 fun a3 =>
 aH a1 h0 fun a4 =>
 vbin .neq a3 a4 fun a5 =>
 vcond a5 (K (.bool false) h0) (
 ∃(J6:HJq),(∀(f7:Nat->D) (h8:Heap),J6 [] h8 ->
 K (.bool true) h8) /\
 ku h0 a0 a1 J6 K)
theorem sW (a0:D) (a1:D) (h0:Heap) (K:HKq):ny a0 a1 h0 K=fP od K [a0,a1] h0:=by kernel_rfl
def Bb:TLq
 | _=>none
def DN:TTq
 | _=>none
noncomputable abbrev AL:=cFn PP true su Bb (cDr PP 6 DN)
noncomputable def AS:aJ:=⟨6,aP AL,[.t 2]⟩
theorem DB:AL=some AS:=by kernel_rfl
def AE (a0:D) (h0:Heap) (K:HKq):Prop :=
 aa PP (.box (.c a0)) h0 fun a2 h3 =>
 aa PP (.fadd (.c a2) 2) h3 fun a4 h5 =>
 aa PP (.ld (.c a4) 3 true) h5 fun a6 h7 =>
 ah PP pZ [a6] h7 fun a8 h9 =>
 K a8 h9
theorem Dc (a0:D) (h0:Heap) (K:HKq):AE a0 h0 K=fP AS K [a0] h0:=by kernel_rfl
def Cw:TLq
 | _=>none
def ER:TTq
 | _=>none
noncomputable abbrev Dl:=cFn PP true wu Cw (cDr PP 6 ER)
noncomputable def DC:aJ:=⟨6,aP Dl,[.t 2]⟩
theorem D3:Dl=some DC:=by kernel_rfl
def De (a0:D) (h0:Heap) (K:HKq):Prop :=
 aa PP (.box (.c a0)) h0 fun a2 h3 =>
 aa PP (.fadd (.c a2) 3) h3 fun a4 h5 =>
 aa PP (.ld (.c a4) 3 true) h5 fun a6 h7 =>
 ah PP pZ [a6] h7 fun a8 h9 =>
 K a8 h9
theorem DW (a0:D) (h0:Heap) (K:HKq):De a0 h0 K=fP DC K [a0] h0:=by kernel_rfl
def um:TLq
 | _=>none
def xu:TTq
 | 4=>some ([0,0,3,0,0,24,63,8,136,392,904,0,3976,392,0,24968,57736,8584,139656,401800,926088,0,2097152,8266120,0,16777216,67108863,134217727,268435455],[28],[])|_=>none
noncomputable abbrev qS:=cFn PP true kP um (cDr PP 38 xu)
noncomputable def qY:aJ:=⟨38,aP qS,[.cell 0 8 true]⟩
theorem xe:qS=some qY:=by kernel_rfl
def qK (h0:Heap) (K:HKq):Prop :=
 aa PP (.alloc (.agg [zI,zI,zI,zI,zI,.nil,.nil,.nil])) h0 fun a1 h2 =>
 aa PP (.bld [zI,zI] [(0,1,(.c (.int .i64 2))),(1,1,(.c (.int .i64 0)))]) h2 fun a3 h4 =>
 aa PP (.bld [zI,zI,zI,zI,zJ,zI,zI,zJ,zI,zI,zJ,zI,zI] [(0,1,(.c (.int .i64 1))),(11,2,(.c a3))]) h4 fun a5 h6 =>
 aa PP (.alloc (.agg [zI,zI,zI,zI,zJ,zI,zI,zJ,zI,zI,zJ,zI,zI])) h6 fun a7 h8 =>
 aa PP (.st (.c a7) (.c a5) 13) h8 fun a9 h10 =>
 ah PP bm [(.int .i64 0)] h10 fun a11 h12 =>
 aa PP (.bld [zI,zI,zI,zI,zI,zJ,zI,zI,zJ,zI,zI,zJ,zI,zI,zJ] [(0,1,(.c (.int .i64 5))),(1,1,(.c (.int .i64 2))),(3,3,(.c a11))]) h12 fun a13 h14 =>
 aa PP (.alloc (.agg [zI,zI,zI,zI,zI,zJ,zI,zI,zJ,zI,zI,zJ,zI,zI,zJ])) h14 fun a15 h16 =>
 aa PP (.st (.c a15) (.c a13) 15) h16 fun a17 h18 =>
 ah PP bm [(.int .i64 1)] h18 fun a19 h20 =>
 aa PP (.bld [zI,zI,zI,zI,zI,zJ,zI,zI,zJ,zI,zI,zJ,zI,zI,zJ] [(0,1,(.c (.int .i64 5))),(1,1,(.c (.int .i64 3))),(3,3,(.c a19))]) h20 fun a21 h22 =>
 aa PP (.alloc (.agg [zI,zI,zI,zI,zI,zJ,zI,zI,zJ,zI,zI,zJ,zI,zI,zJ])) h22 fun a23 h24 =>
 aa PP (.st (.c a23) (.c a21) 15) h24 fun a25 h26 =>
 ae PP (.ld (.c a15) 15 true) h26 fun a27 =>
 ae PP (.ld (.c a23) 15 true) h26 fun a28 =>
 ae PP (.bldS false 15 2 (.agg [zI,zI,zI,zI,zI,zJ,zI,zI,zJ,zI,zI,zJ,zI,zI,zJ]) [(0,(.c a27)),(1,(.c a28))]) h26 fun a29 =>
 ae PP (.call bm [(.c (.int .i64 0))]) h26 fun a30 =>
 ae PP (.bld [zI,zI] [(0,1,(.c (.int .i64 1))),(1,1,(.c (.int .i64 2)))]) h26 fun a31 =>
 ae PP (.bld [zI,zI,zI,zI,zJ,zI,zI,zJ,zI,zI,zJ,zI,zI] [(0,1,(.c (.int .i64 2))),(5,3,(.c a30)),(11,2,(.c a31))]) h26 fun a32 =>
 ae PP (.bld [.nil,zI,zI,zI,zI,zJ,zI,zI,zJ,zI,zI,zJ,zI,zI] [(0,1,(.c a29)),(1,13,(.c a32))]) h26 fun a33 =>
 ae PP (.call bm [(.c (.int .i64 2))]) h26 fun a34 =>
 ae PP (.call cv [(.c (.int .i32 1))]) h26 fun a35 =>
 ae PP (.bld [zI,zI,zI,zI,zI,zJ,zI,zI,zJ,zI,zI,zJ,zI,zI,zJ] [(0,1,(.c (.int .i64 1))),(3,3,(.c a34)),(6,3,(.c a35))]) h26 fun a36 =>
 ae PP (.bldS false 15 1 (.agg [zI,zI,zI,zI,zI,zJ,zI,zI,zJ,zI,zI,zJ,zI,zI,zJ]) [(0,(.c a36))]) h26 fun a37 =>
 ae PP (.ld (.c a7) 13 true) h26 fun a38 =>
 ae PP (.bld [.nil,zI,zI,zI,zI,zJ,zI,zI,zJ,zI,zI,zJ,zI,zI] [(0,1,(.c a37)),(1,13,(.c a38))]) h26 fun a39 =>
 ae PP (.call bm [(.c (.int .i64 1))]) h26 fun a40 =>
 ae PP (.bld [zI,zI] [(0,1,(.c (.int .i64 3))),(1,1,(.c (.int .i64 4)))]) h26 fun a41 =>
 ae PP (.bld [zI,zI,zI,zI,zJ,zI,zI,zJ,zI,zI,zJ,zI,zI] [(0,1,(.c (.int .i64 2))),(5,3,(.c a40)),(11,2,(.c a41))]) h26 fun a42 =>
 ae PP (.bld [.nil,zI,zI,zI,zI,zJ,zI,zI,zJ,zI,zI,zJ,zI,zI] [(1,13,(.c a42))]) h26 fun a43 =>
 ae PP (.call bm [(.c (.int .i64 3))]) h26 fun a44 =>
 ae PP (.call bm [(.c (.int .i64 1))]) h26 fun a45 =>
 ae PP (.bld [zI,zI,zI,zI,zI,zJ,zI,zI,zJ,zI,zI,zJ,zI,zI,zJ] [(0,1,(.c (.int .i64 1))),(3,3,(.c a44)),(6,3,(.c a45))]) h26 fun a46 =>
 ae PP (.bldS false 15 1 (.agg [zI,zI,zI,zI,zI,zJ,zI,zI,zJ,zI,zI,zJ,zI,zI,zJ]) [(0,(.c a46))]) h26 fun a47 =>
 ae PP (.bld [zI,zI] [(0,1,(.c (.int .i64 4))),(1,1,(.c (.int .i64 0)))]) h26 fun a48 =>
 ae PP (.bld [zI,zI,zI,zI,zJ,zI,zI,zJ,zI,zI,zJ,zI,zI] [(0,1,(.c (.int .i64 1))),(11,2,(.c a48))]) h26 fun a49 =>
 ae PP (.bld [.nil,zI,zI,zI,zI,zJ,zI,zI,zJ,zI,zI,zJ,zI,zI] [(0,1,(.c a47)),(1,13,(.c a49))]) h26 fun a50 =>
 ae PP (.bld [zI,zI,zI,zI,zJ,zI,zI,zJ,zI,zI,zJ,zI,zI] [(0,1,(.c (.int .i64 5)))]) h26 fun a51 =>
 ae PP (.bld [.nil,zI,zI,zI,zI,zJ,zI,zI,zJ,zI,zI,zJ,zI,zI] [(1,13,(.c a51))]) h26 fun a52 =>
 ae PP (.bldS false 14 5 (.agg [.nil,zI,zI,zI,zI,zJ,zI,zI,zJ,zI,zI,zJ,zI,zI]) [(0,(.c a33)),(1,(.c a39)),(2,(.c a43)),(3,(.c a50)),(4,(.c a52))]) h26 fun a53 =>
 ae PP (.bld [zI,zI,zI,zI,zI,.nil,.nil,.nil] [(0,1,(.c (.int .i64 4))),(1,1,(.c (.int .i64 1))),(2,1,(.c (.int .i64 5))),(7,1,(.c a53))]) h26 fun a54 =>
 aa PP (.st (.c a1) (.c a54) 8) h26 fun a55 h56 =>
 aa PP (.ld (.c a1) 8 true) h56 fun a57 _ =>
 K a57 h56
theorem w6 (h0:Heap) (K:HKq):qK h0 K=fP qY K [] h0:=by kernel_rfl
def A4:TLq
 | 1000007=>some ([1,4,5],[])|3=>some ([1,4,5],[6])|1000011=>some ([4,5],[])|7=>some ([1,4,5],[7])|_=>none
def DH:TTq
 | 1=>some ([0,1,3,7,0,16,48,127,0,511],[3,6,8,9],[999996,0,1,2])|_=>none
noncomputable abbrev AF:=cFn PP true fR A4 (cDr PP 41 DH)
noncomputable def AM:aJ:=⟨41,aP AF,[.cell 4 2 true]⟩
theorem tE:AF=some AM:=by kernel_rfl
def mE (h37:Heap) (a26:D) (a1:D) (a5:D) (J38:HJq):Prop :=
 ∃(I46:Nat->HJq) (n₀:Nat),I46 n₀ [(.int .i64 0)] h37/\∀(n47:Nat) (f48:Nat->D) (h49:Heap),I46 n47 [f48 7] h49 ->
 aa PP (.fadd (.c a26) 1) h49 fun a50 h51 =>
 aa PP (.ld (.c a50) 1 false) h51 fun a52 h53 =>
 aH a52 h53 fun a54 =>
 vbin .lss (f48 7) a54 fun a55 =>
 vcond a55 (aa PP (.fadd (.c a26) 1) h53 fun a56 h57 =>
 aa PP (.ld (.c a56) 1 false) h57 fun a58 h59 =>
 aa PP (.iadd (.c a58) (.c (f48 7)) 1) h59 fun a60 h61 =>
 aa PP (.st (.c a60) (.c a1) 1) h61 fun a62 h63 =>
 vbin .add (f48 7) (.int .i64 1) fun a64 =>
 aC [a1,a5,a26] [a1,a5,a26]/\∃m,m<n47/\I46 m [a64] h63) (
 aC [a5,a26] [a5,a26]/\J38 [] h53)
def mD (h34:Heap) (a26:D) (a1:D) (a5:D) (J35:HJq):Prop :=
 ∃(I65:Nat->HJq) (n₀:Nat),I65 n₀ [(.int .i64 0)] h34/\∀(n66:Nat) (f67:Nat->D) (h68:Heap),I65 n66 [f67 6] h68 ->
 aa PP (.fadd (.c a26) 0) h68 fun a69 h70 =>
 aa PP (.ld (.c a69) 1 false) h70 fun a71 h72 =>
 aH a71 h72 fun a73 =>
 vbin .lss (f67 6) a73 fun a74 =>
 vcond a74 (aa PP (.fadd (.c a26) 0) h72 fun a75 h76 =>
 aa PP (.ld (.c a75) 1 false) h76 fun a77 h78 =>
 aa PP (.iadd (.c a77) (.c (f67 6)) 1) h78 fun a79 h80 =>
 aa PP (.st (.c a79) (.c a1) 1) h80 fun a81 h82 =>
 vbin .add (f67 6) (.int .i64 1) fun a83 =>
 aC [a1,a5,a26] [a1,a5,a26]/\∃m,m<n66/\I65 m [a83] h82) (
 aC [a1,a5,a26] [a1,a5,a26]/\J35 [] h72)
def sY (a0:D) (a1:D) (h0:Heap) (K:HKq):Prop :=
 aa PP (.box (.c a0)) h0 fun a3 h4 =>
 aa PP (.alloc (.agg [.nil,.nil])) h4 fun a5 h6 =>
 ae PP (.fadd (.c a3) 7) h6 fun a7 =>
 ae PP (.ld (.c a7) 1 false) h6 fun a8 =>
 aH a8 h6 fun a9 =>
 ae PP (.fadd (.c a3) 2) h6 fun a10 =>
 ae PP (.ld (.c a10) 1 false) h6 fun a11 =>
 aa PP (.mkc 1 (.c a9) (.c a9)) h6 fun a12 h13 =>
 aa PP (.mkc 1 (.c a11) (.c a11)) h13 fun a14 h15 =>
 aa PP (.mk 1 1 (.bool false) (.c a9) (.c a9)) h15 fun a16 h17 =>
 ((ae PP (.fadd (.c a3) 2) h17 fun a18=>aC [a18] [a10])/\(ae PP (.ld (.c a10) 1 false) h17 fun a19=>aC [a19] [a11])/\True) /\
 aa PP (.mk 1 1 (.bool false) (.c a11) (.c a11)) h17 fun a20 h21 =>
 ((ae PP (.fadd (.c a3) 7) h21 fun a22=>aC [a22] [a7])/\(ae PP (.ld (.c a7) 1 false) h21 fun a23=>aC [a23] [a8])/\(ae PP (.len (.c a8)) h21 fun a24=>aC [a24] [a9])/\True) /\
 ae PP (.bld [.nil,.nil] [(0,1,(.c a16)),(1,1,(.c a20))]) h21 fun a25 =>
 aa PP (.alloc (.agg [.nil,.nil])) h21 fun a26 h27 =>
 ((ae PP (.fadd (.c a3) 7) h27 fun a28=>aC [a28] [a7])/\(ae PP (.ld (.c a7) 1 false) h27 fun a29=>aC [a29] [a8])/\(ae PP (.len (.c a8)) h27 fun a30=>aC [a30] [a9])/\(ae PP (.fadd (.c a3) 2) h27 fun a31=>aC [a31] [a10])/\(ae PP (.ld (.c a10) 1 false) h27 fun a32=>aC [a32] [a11])/\True) /\
 aa PP (.st (.c a26) (.c a25) 2) h27 fun a33 h34 =>
 ∃(J35:HJq),(∀(f36:Nat->D) (h37:Heap),J35 [] h37 ->
 ∃(J38:HJq),(∀(f39:Nat->D) (h40:Heap),J38 [] h40 ->
 aa PP (.ld (.c a26) 2 true) h40 fun a41 h42 =>
 aa PP (.st (.c a5) (.c a41) 2) h42 fun a43 h44 =>
 aa PP (.ld (.c a5) 2 true) h44 fun a45 _ =>
 K a45 h44) /\
 mE h37 a26 a1 a5 J38) /\
 mD h34 a26 a1 a5 J35
theorem sX (a0:D) (a1:D) (h0:Heap) (K:HKq):sY a0 a1 h0 K=fP AM K [a0,a1] h0:=by kernel_rfl
def p9:TLq
 | _=>none
def sf:TTq
 | 2=>some ([0,1,3,7,0,16,48,112,240,511],[],[])|4=>some ([0,1,3,7,0,16,48,112,240,511,1023,2047,4095],[],[])|_=>none
noncomputable abbrev mN:=cFn PP true aq p9 (cDr PP 32 sf)
noncomputable def mV:aJ:=⟨32,aP mN,[.t 2]⟩
theorem rR:mN=some mV:=by kernel_rfl
def mG (a0:D) (h0:Heap) (K:HKq):Prop :=
 aa PP (.fadd (.c a0) 0) h0 fun a2 h3 =>
 aa PP (.fadd (.c a2) 1) h3 fun a4 h5 =>
 aa PP (.ld (.c a4) 1 false) h5 fun a6 h7 =>
 vbin .add a6 (.int .i64 1) fun a8 =>
 aa PP (.fadd (.c a0) 0) h7 fun a9 h10 =>
 aa PP (.fadd (.c a9) 1) h10 fun a11 h12 =>
 aa PP (.st (.c a11) (.c a8) 1) h12 fun a13 h14 =>
 ae PP (.fadd (.c a0) 0) h14 fun a15 =>
 ae PP (.fadd (.c a15) 1) h14 fun a16 =>
 ae PP (.ld (.c a16) 1 false) h14 fun a17 =>
 ae PP (.fadd (.c a0) 0) h14 fun a18 =>
 ae PP (.fadd (.c a18) 0) h14 fun a19 =>
 ae PP (.ld (.c a19) 1 false) h14 fun a20 =>
 aH a20 h14 fun a21 =>
 vbin .gtr a17 a21 fun a22 =>
 vcond a22 (K (.int .i64 0) h14) (
 ae PP (.fadd (.c a0) 0) h14 fun a23 =>
 ae PP (.fadd (.c a23) 0) h14 fun a24 =>
 ae PP (.ld (.c a24) 1 false) h14 fun a25 =>
 ae PP (.fadd (.c a0) 0) h14 fun a26 =>
 ae PP (.fadd (.c a26) 1) h14 fun a27 =>
 ae PP (.ld (.c a27) 1 false) h14 fun a28 =>
 vbin .sub a28 (.int .i64 1) fun a29 =>
 ae PP (.iadd (.c a25) (.c a29) 1) h14 fun a30 =>
 ae PP (.ld (.c a30) 1 false) h14 fun a31 =>
 ae PP (.conv .i64 (.c a31)) h14 fun a32 =>
 K a32 h14)
theorem rL (a0:D) (h0:Heap) (K:HKq):mG a0 h0 K=fP mV K [a0] h0:=by kernel_rfl
def wC:TLq
 | _=>none
def y9:TTq
 | _=>none
noncomputable abbrev tt:=cFn PP true mo wC (cDr PP 7 y9)
noncomputable def tH:aJ:=⟨7,aP tt,[.t 0]⟩
theorem yV:tt=some tH:=by kernel_rfl
def s8 (h0:Heap) (K:HKq):Prop :=
 aa PP (.bld [(.str ⟨#[]⟩),(.int .i64 0),(.int .i64 0),(.int .i64 0)] [(0,1,(.c (.str ⟨#[97]⟩))),(1,1,(.c (.int .i64 1))),(2,1,(.c (.int .i64 1))),(3,1,(.c (.int .i64 8)))]) h0 fun a1 h2 =>
 aa PP (.bld [(.str ⟨#[]⟩),(.int .i64 0),(.int .i64 0),(.int .i64 0)] [(0,1,(.c (.str ⟨#[102]⟩))),(1,1,(.c (.int .i64 1))),(2,1,(.c (.int .i64 2))),(3,1,(.c (.int .i64 4)))]) h2 fun a3 h4 =>
 aa PP (.bld [(.str ⟨#[]⟩),(.int .i64 0),(.int .i64 0),(.int .i64 0)] [(0,1,(.c (.str ⟨#[115]⟩))),(1,1,(.c (.int .i64 2))),(2,1,(.c (.int .i64 1))),(3,1,(.c (.int .i64 8)))]) h4 fun a5 h6 =>
 aa PP (.bld [(.str ⟨#[]⟩),(.int .i64 0),(.int .i64 0),(.int .i64 0)] [(0,1,(.c (.str ⟨#[112]⟩))),(1,1,(.c (.int .i64 3))),(2,1,(.c (.int .i64 1))),(3,1,(.c (.int .i64 4)))]) h6 fun a7 h8 =>
 aa PP (.bld [(.str ⟨#[]⟩),(.int .i64 0),(.int .i64 0),(.int .i64 0)] [(0,1,(.c (.str ⟨#[98]⟩))),(1,1,(.c (.int .i64 2))),(2,1,(.c (.int .i64 3))),(3,1,(.c (.int .i64 4)))]) h8 fun a9 h10 =>
 aa PP (.bldS true 4 5 (.agg [(.str ⟨#[]⟩),(.int .i64 0),(.int .i64 0),(.int .i64 0)]) [(0,(.c a1)),(1,(.c a3)),(2,(.c a5)),(3,(.c a7)),(4,(.c a9))]) h10 fun a11 h12 =>
 K a11 h12
theorem yv (h0:Heap) (K:HKq):s8 h0 K=fP tH K [] h0:=by kernel_rfl
def oy:TLq
 | 1000012=>some ([0],[])|4=>some ([0,5],[6])|1000011=>some ([0,5,6],[])|_=>none
def pR:TTq
 | 9=>some ([0,1,3,7,15,0,0,64,0,256,0,1216,0,0,12288,31936,65472,0,131072,0,527552,0,0,6291456,16256192,33426624,67108800,134217664,268435455,536870911,1073741823],[7,11,20,30],[999999])|_=>none
noncomputable abbrev kC:=cFn PP true dP oy (cDr PP 77 pR)
noncomputable def kG:aJ:=⟨77,aP kC,[]⟩
theorem pL:kC=some kG:=by kernel_rfl
def iz (a14:D) (h12:Heap) (a15:D) (a0:D) (J16:HJq):Prop :=
 ∃(I21:Nat->HJq) (n₀:Nat),I21 n₀ [a14] h12/\∀(n22:Nat) (f23:Nat->D) (h24:Heap),I21 n22 [f23 6] h24 ->
 vbin .lss (f23 6) a15 fun a25 =>
 vcond a25 (ah PP cf [a0] h24 fun a26 h27 =>
 aa PP (.fadd (.c a0) 0) h27 fun a28 h29 =>
 aa PP (.fadd (.c a28) 2) h29 fun a30 h31 =>
 aa PP (.fadd (.c a30) 7) h31 fun a32 h33 =>
 aa PP (.ld (.c a32) 1 false) h33 fun a34 h35 =>
 vbin .add (f23 6) (.int .i64 1) fun a36 =>
 aa PP (.bld [zI,zI] [(0,1,(.c a36)),(1,1,(.c (.int .i64 0)))]) h35 fun a37 h38 =>
 aa PP (.bld [zI,zI,zI,zI,zJ,zI,zI,zJ,zI,zI,zJ,zI,zI] [(0,1,(.c (.int .i64 1))),(11,2,(.c a37))]) h38 fun a39 h40 =>
 aa PP (.iadd (.c a34) (.c (f23 6)) 14) h40 fun a41 h42 =>
 aa PP (.fadd (.c a41) 1) h42 fun a43 h44 =>
 aa PP (.st (.c a43) (.c a39) 13) h44 fun a45 h46 =>
 ∃(J47:HJq),(∀(f48:Nat->D) (h49:Heap),J47 [] h49 ->
 ah PP aW [a0] h49 fun a50 h51 =>
 vbin .add (f23 6) (.int .i64 1) fun a52 =>
 aC [a0,a15] [a0,a15]/\∃m,m<n22/\I21 m [a52] h51) /\
 ah PP aq [a0] h46 fun a53 h54 =>
 vbin .rem a53 (.int .i64 2) fun a55 =>
 vbin .eql a55 (.int .i64 0) fun a56 =>
 vcond a56 (ae PP (.fadd (.c a0) 0) h54 fun a57 =>
 ae PP (.fadd (.c a57) 2) h54 fun a58 =>
 ae PP (.fadd (.c a58) 7) h54 fun a59 =>
 ae PP (.ld (.c a59) 1 false) h54 fun a60 =>
 vbin .add (f23 6) (.int .i64 1) fun a61 =>
 vbin .sub a15 (f23 6) fun a62 =>
 vbin .add (f23 6) (.int .i64 1) fun a63 =>
 vbin .sub a15 (f23 6) fun a64 =>
 ah PP aM [a0] h54 fun a65 h66 =>
 ((ae PP (.fadd (.c a0) 0) h66 fun a67=>aC [a67] [a57])/\(ae PP (.fadd (.c a57) 2) h66 fun a68=>aC [a68] [a58])/\(ae PP (.fadd (.c a58) 7) h66 fun a69=>aC [a69] [a59])/\(ae PP (.ld (.c a59) 1 false) h66 fun a70=>aC [a70] [a60])/\True) /\
 ah PP aq [a0] h66 fun a71 h72 =>
 ((ae PP (.fadd (.c a0) 0) h72 fun a73=>aC [a73] [a57])/\(ae PP (.fadd (.c a57) 2) h72 fun a74=>aC [a74] [a58])/\(ae PP (.fadd (.c a58) 7) h72 fun a75=>aC [a75] [a59])/\(ae PP (.ld (.c a59) 1 false) h72 fun a76=>aC [a76] [a60])/\True) /\
 vbin .rem a71 a62 fun a77 =>
 vbin .add a61 a77 fun a78 =>
 ah PP aq [a0] h72 fun a79 h80 =>
 ((ae PP (.fadd (.c a0) 0) h80 fun a81=>aC [a81] [a57])/\(ae PP (.fadd (.c a57) 2) h80 fun a82=>aC [a82] [a58])/\(ae PP (.fadd (.c a58) 7) h80 fun a83=>aC [a83] [a59])/\(ae PP (.ld (.c a59) 1 false) h80 fun a84=>aC [a84] [a60])/\True) /\
 vbin .rem a79 a64 fun a85 =>
 vbin .add a63 a85 fun a86 =>
 ae PP (.bld [zI,zI] [(0,1,(.c a78)),(1,1,(.c a86))]) h80 fun a87 =>
 ae PP (.bld [zI,zI,zI,zI,zJ,zI,zI,zJ,zI,zI,zJ,zI,zI] [(0,1,(.c (.int .i64 2))),(5,3,(.c a65)),(11,2,(.c a87))]) h80 fun a88 =>
 ae PP (.iadd (.c a60) (.c (f23 6)) 14) h80 fun a89 =>
 ae PP (.fadd (.c a89) 1) h80 fun a90 =>
 aa PP (.st (.c a90) (.c a88) 13) h80 fun a91 h92 =>
 aC [a0,a15,(f23 6)] [a0,a15,(f23 6)]/\J47 [] h92) (
 aC [a0,a15,(f23 6)] [a0,a15,(f23 6)]/\J47 [] h54)) (
 aC [a0] [a0]/\J16 [] h24)
def ky (a0:D) (a1:D) (h0:Heap) (K:HKq):Prop :=
 ah PP aW [a0] h0 fun a3 h4 =>
 aa PP (.fadd (.c a0) 0) h4 fun a5 h6 =>
 aa PP (.fadd (.c a5) 2) h6 fun a7 h8 =>
 aa PP (.fadd (.c a7) 7) h8 fun a9 h10 =>
 aa PP (.ld (.c a9) 1 false) h10 fun a11 h12 =>
 aH a11 h12 fun a13 =>
 vbin .sub a13 (.int .i64 1) fun a14 =>
 vbin .add a14 a1 fun a15 =>
 ∃(J16:HJq),(∀(f17:Nat->D) (h18:Heap),J16 [] h18 ->
 ah PP cf [a0] h18 fun a19 h20 =>
 K (.tup []) h20) /\
 iz a14 h12 a15 a0 J16
theorem pt (a0:D) (a1:D) (h0:Heap) (K:HKq):ky a0 a1 h0 K=fP kG K [a0,a1] h0:=by kernel_rfl
def qb:TLq
 | 1000008=>some ([],[0,2,3,4])|1000016=>some ([],[0,4,119])|_=>none
def sg:TTq
 | 9=>some ([0,1,3,7,15,0,0,64,192,0,512,0,2048,7680,16320,32767,65535,131071],[17],[])|15=>some ([0,1,3,7,15,0,32,0,128,0,0,1024,3584,8064,16383,32767,65535],[8,16],[999999])|_=>none
noncomputable abbrev mO:=cFn PP true dh qb (cDr PP 136 sg)
noncomputable def mW:aJ:=⟨136,aP mO,[]⟩
theorem rS:mO=some mW:=by kernel_rfl
def mH (a0:D) (h0:Heap) (K:HKq):Prop :=
 aa PP (.fadd (.c a0) 0) h0 fun a2 h3 =>
 aa PP (.fadd (.c a2) 2) h3 fun a4 h5 =>
 aa PP (.fadd (.c a4) 6) h5 fun a6 h7 =>
 aa PP (.ld (.c a6) 1 false) h7 fun a8 h9 =>
 aH a8 h9 fun a10 =>
 vbin .mul (.int .i64 2) a10 fun a11 =>
 vbin .add (.int .i64 6) a11 fun a12 =>
 ah PP aq [a0] h9 fun a13 h14 =>
 vbin .rem a13 (.int .i64 3) fun a15 =>
 vbin .add (.int .i64 1) a15 fun a16 =>
 vbin .add a12 (.int .i64 2) fun a17 =>
 aa PP (.fadd (.c a0) 0) h14 fun a18 h19 =>
 aa PP (.fadd (.c a18) 2) h19 fun a20 h21 =>
 aa PP (.fadd (.c a20) 2) h21 fun a22 h23 =>
 aa PP (.st (.c a22) (.c a17) 1) h23 fun a24 h25 =>
 aa PP (.fadd (.c a0) 0) h25 fun a26 h27 =>
 aa PP (.fadd (.c a26) 2) h27 fun a28 h29 =>
 aa PP (.fadd (.c a28) 7) h29 fun a30 h31 =>
 aa PP (.ld (.c a30) 1 false) h31 fun a32 h33 =>
 aH a32 h33 fun a34 =>
 ah PP bm [a12] h33 fun a35 h36 =>
 ah PP cv [(.int .i32 0)] h36 fun a37 h38 =>
 aa PP (.bld [zI,zI,zI,zI,zI,zJ,zI,zI,zJ,zI,zI,zJ,zI,zI,zJ] [(0,1,(.c (.int .i64 1))),(3,3,(.c a35)),(6,3,(.c a37))]) h38 fun a39 h40 =>
 ah PP aE [a0,a39] h40 fun a41 h42 =>
 aa PP (.fadd (.c a0) 0) h42 fun a43 h44 =>
 aa PP (.fadd (.c a43) 2) h44 fun a45 h46 =>
 aa PP (.fadd (.c a45) 7) h46 fun a47 h48 =>
 aa PP (.ld (.c a47) 1 false) h48 fun a49 h50 =>
 vbin .sub a34 (.int .i64 1) fun a51 =>
 aa PP (.bld [zI,zI] [(0,1,(.c a34)),(1,1,(.c (.int .i64 0)))]) h50 fun a52 h53 =>
 aa PP (.bld [zI,zI,zI,zI,zJ,zI,zI,zJ,zI,zI,zJ,zI,zI] [(0,1,(.c (.int .i64 1))),(11,2,(.c a52))]) h53 fun a54 h55 =>
 aa PP (.iadd (.c a49) (.c a51) 14) h55 fun a56 h57 =>
 aa PP (.fadd (.c a56) 1) h57 fun a58 h59 =>
 aa PP (.st (.c a58) (.c a54) 13) h59 fun a60 h61 =>
 ∃(J62:HJq),(∀(f63:Nat->D) (h64:Heap),J62 [f63 0,f63 2,f63 3,f63 4] h64 ->
 ah PP aW [(f63 0)] h64 fun a65 h66 =>
 vbin .add (f63 2) (.int .i64 1) fun a67 =>
 ah PP bm [a67] h66 fun a68 h69 =>
 ah PP bm [(f63 2)] h69 fun a70 h71 =>
 aa PP (.conv .i32 (.c (f63 3))) h71 fun a72 h73 =>
 ah PP cv [a72] h73 fun a74 h75 =>
 aa PP (.bld [zI,zI,zI,zI,zI,zJ,zI,zI,zJ,zI,zI,zJ,zI,zI,zJ] [(0,1,(.c (.int .i64 3))),(1,1,(.c (.int .i64 26))),(3,3,(.c a68)),(6,3,(.c a70)),(9,3,(.c a74))]) h75 fun a76 h77 =>
 ah PP aE [(f63 0),a76] h77 fun a78 h79 =>
 ae PP (.fadd (.c (f63 0)) 0) h79 fun a80 =>
 ae PP (.fadd (.c a80) 2) h79 fun a81 =>
 ae PP (.fadd (.c a81) 7) h79 fun a82 =>
 ae PP (.ld (.c a82) 1 false) h79 fun a83 =>
 vbin .add (f63 2) (.int .i64 1) fun a84 =>
 ae PP (.call bm [(.c a84)]) h79 fun a85 =>
 vbin .add (f63 4) (.int .i64 1) fun a86 =>
 vbin .add (f63 4) (.int .i64 2) fun a87 =>
 ae PP (.bld [zI,zI] [(0,1,(.c a86)),(1,1,(.c a87))]) h79 fun a88 =>
 ae PP (.bld [zI,zI,zI,zI,zJ,zI,zI,zJ,zI,zI,zJ,zI,zI] [(0,1,(.c (.int .i64 2))),(5,3,(.c a85)),(11,2,(.c a88))]) h79 fun a89 =>
 ae PP (.iadd (.c a83) (.c (f63 4)) 14) h79 fun a90 =>
 ae PP (.fadd (.c a90) 1) h79 fun a91 =>
 aa PP (.st (.c a91) (.c a89) 13) h79 fun a92 h93 =>
 ah PP aW [(f63 0)] h93 fun a94 h95 =>
 ah PP bm [(f63 2)] h95 fun a96 h97 =>
 ah PP bm [(f63 2)] h97 fun a98 h99 =>
 ah PP cv [(.int .i32 1)] h99 fun a100 h101 =>
 aa PP (.bld [zI,zI,zI,zI,zI,zJ,zI,zI,zJ,zI,zI,zJ,zI,zI,zJ] [(0,1,(.c (.int .i64 3))),(1,1,(.c (.int .i64 10))),(3,3,(.c a96)),(6,3,(.c a98)),(9,3,(.c a100))]) h101 fun a102 h103 =>
 ah PP aE [(f63 0),a102] h103 fun a104 h105 =>
 ah PP cf [(f63 0)] h105 fun a106 h107 =>
 aa PP (.fadd (.c (f63 0)) 0) h107 fun a108 h109 =>
 aa PP (.fadd (.c a108) 2) h109 fun a110 h111 =>
 aa PP (.fadd (.c a110) 7) h111 fun a112 h113 =>
 aa PP (.ld (.c a112) 1 false) h113 fun a114 h115 =>
 vbin .add (f63 4) (.int .i64 1) fun a116 =>
 aa PP (.bld [zI,zI] [(0,1,(.c (f63 4))),(1,1,(.c (.int .i64 0)))]) h115 fun a117 h118 =>
 aa PP (.bld [zI,zI,zI,zI,zJ,zI,zI,zJ,zI,zI,zJ,zI,zI] [(0,1,(.c (.int .i64 1))),(11,2,(.c a117))]) h118 fun a119 h120 =>
 aa PP (.iadd (.c a114) (.c a116) 14) h120 fun a121 h122 =>
 aa PP (.fadd (.c a121) 1) h122 fun a123 h124 =>
 aa PP (.st (.c a123) (.c a119) 13) h124 fun a125 h126 =>
 ∃(J127:HJq),(∀(f128:Nat->D) (h129:Heap),J127 [f128 0,f128 4,f128 119] h129 ->
 vcond (f128 119) (ae PP (.fadd (.c (f128 0)) 0) h129 fun a130 =>
 ae PP (.fadd (.c a130) 2) h129 fun a131 =>
 ae PP (.fadd (.c a131) 7) h129 fun a132 =>
 ae PP (.ld (.c a132) 1 false) h129 fun a133 =>
 vbin .add (f128 4) (.int .i64 1) fun a134 =>
 vbin .add (f128 4) (.int .i64 2) fun a135 =>
 ae PP (.bld [zI,zI] [(0,1,(.c (f128 4))),(1,1,(.c a135))]) h129 fun a136 =>
 ah PP aM [(f128 0)] h129 fun a137 h138 =>
 ((ae PP (.fadd (.c (f128 0)) 0) h138 fun a139=>aC [a139] [a130])/\(ae PP (.fadd (.c a130) 2) h138 fun a140=>aC [a140] [a131])/\(ae PP (.fadd (.c a131) 7) h138 fun a141=>aC [a141] [a132])/\(ae PP (.ld (.c a132) 1 false) h138 fun a142=>aC [a142] [a133])/\True) /\
 ae PP (.bld [zI,zI,zI,zI,zJ,zI,zI,zJ,zI,zI,zJ,zI,zI] [(0,1,(.c (.int .i64 2))),(5,3,(.c a137)),(11,2,(.c a136))]) h138 fun a143 =>
 ae PP (.iadd (.c a133) (.c a134) 14) h138 fun a144 =>
 ae PP (.fadd (.c a144) 1) h138 fun a145 =>
 aa PP (.st (.c a145) (.c a143) 13) h138 fun a146 h147 =>
 K (.tup []) h147) (
 K (.tup []) h129)) /\
 ah PP aq [(f63 0)] h126 fun a148 h149 =>
 vbin .rem a148 (.int .i64 3) fun a150 =>
 vbin .eql a150 (.int .i64 0) fun a151 =>
 aC [] []/\J127 [(f63 0),(f63 4),a151] h149) /\
 aa PP (.fadd (.c a0) 0) h61 fun a152 h153 =>
 aa PP (.fadd (.c a152) 2) h153 fun a154 h155 =>
 aa PP (.fadd (.c a154) 6) h155 fun a156 h157 =>
 aa PP (.ld (.c a156) 1 false) h157 fun a158 h159 =>
 aa PP (.bld [zI,zI,zI] [(0,1,(.c a34)),(1,1,(.c a12)),(2,1,(.c a16))]) h159 fun a160 h161 =>
 aa PP (.bldS true 3 1 (.agg [zI,zI,zI]) [(0,(.c a160))]) h161 fun a162 h163 =>
 aa PP (.app (.c a158) (.c a162) 3 24 (.agg [zI,zI,zI])) h163 fun a164 h165 =>
 aa PP (.fadd (.c a0) 0) h165 fun a166 h167 =>
 aa PP (.fadd (.c a166) 2) h167 fun a168 h169 =>
 aa PP (.fadd (.c a168) 6) h169 fun a170 h171 =>
 aa PP (.st (.c a170) (.c a164) 1) h171 fun a172 h173 =>
 aC [] []/\J62 [a0,a12,a16,a34] h173
theorem rM (a0:D) (h0:Heap) (K:HKq):mH a0 h0 K=fP mW K [a0] h0:=by kernel_rfl
def o5:TLq
 | _=>none
def rf:TTq
 | _=>none
noncomputable abbrev lB:=cFn PP true aW o5 (cDr PP 14 rf)
noncomputable def lH:aJ:=⟨14,aP lB,[]⟩
theorem qA:lB=some lH:=by kernel_rfl
def lu (a0:D) (h0:Heap) (K:HKq):Prop :=
 aa PP (.fadd (.c a0) 0) h0 fun a2 h3 =>
 aa PP (.fadd (.c a2) 2) h3 fun a4 h5 =>
 aa PP (.fadd (.c a4) 7) h5 fun a6 h7 =>
 aa PP (.ld (.c a6) 1 false) h7 fun a8 h9 =>
 aa PP (.bld [.nil,zI,zI,zI,zI,zJ,zI,zI,zJ,zI,zI,zJ,zI,zI] []) h9 fun a10 h11 =>
 aa PP (.bldS true 14 1 (.agg [.nil,zI,zI,zI,zI,zJ,zI,zI,zJ,zI,zI,zJ,zI,zI]) [(0,(.c a10))]) h11 fun a12 h13 =>
 aa PP (.app (.c a8) (.c a12) 14 128 (.agg [.nil,zI,zI,zI,zI,zJ,zI,zI,zJ,zI,zI,zJ,zI,zI])) h13 fun a14 h15 =>
 aa PP (.fadd (.c a0) 0) h15 fun a16 h17 =>
 aa PP (.fadd (.c a16) 2) h17 fun a18 h19 =>
 aa PP (.fadd (.c a18) 7) h19 fun a20 h21 =>
 aa PP (.st (.c a20) (.c a14) 1) h21 fun a22 h23 =>
 K (.tup []) h23
theorem qv (a0:D) (h0:Heap) (K:HKq):lu a0 h0 K=fP lH K [a0] h0:=by kernel_rfl
def rD:TLq
 | _=>none
def ub:TTq
 | _=>none
noncomputable abbrev nQ:=cFn PP true aM rD (cDr PP 7 ub)
noncomputable def og:aJ:=⟨7,aP nQ,[.cell 2 3 true]⟩
theorem kH:nQ=some og:=by kernel_rfl
def jq (a0:D) (h0:Heap) (K:HKq):Prop :=
 aa PP (.alloc (.agg [zI,zI,zJ])) h0 fun a2 h3 =>
 ah PP aq [a0] h3 fun a4 h5 =>
 vbin .rem a4 (.int .i64 6) fun a6 =>
 ah PP bm [a6] h5 fun a7 h8 =>
 aa PP (.st (.c a2) (.c a7) 3) h8 fun a9 h10 =>
 aa PP (.ld (.c a2) 3 true) h10 fun a11 _ =>
 K a11 h10
theorem kz (a0:D) (h0:Heap) (K:HKq):jq a0 h0 K=fP og K [a0] h0:=by kernel_rfl
def rC:TLq
 | _=>none
def ua:TTq
 | _=>none
noncomputable abbrev nP:=cFn PP true aK rC (cDr PP 18 ua)
noncomputable def oe:aJ:=⟨18,aP nP,[.cell 2 3 true]⟩
theorem kF:nP=some oe:=by kernel_rfl
def jo (a0:D) (h0:Heap) (K:HKq):Prop :=
 aa PP (.alloc (.agg [zI,zI,zJ])) h0 fun a2 h3 =>
 ah PP aq [a0] h3 fun a4 h5 =>
 vbin .rem a4 (.int .i64 3) fun a6 =>
 vbin .eql a6 (.int .i64 0) fun a7 =>
 vcond a7 (vbin .quo a4 (.int .i64 3) fun a8 =>
 aa PP (.conv .i32 (.c a8)) h5 fun a9 h10 =>
 vbin .sub a9 (.int .i32 20) fun a11 =>
 ah PP cv [a11] h10 fun a12 h13 =>
 aa PP (.st (.c a2) (.c a12) 3) h13 fun a14 h15 =>
 aa PP (.ld (.c a2) 3 true) h15 fun a16 _ =>
 K a16 h15) (
 vbin .quo a4 (.int .i64 3) fun a17 =>
 vbin .rem a17 (.int .i64 6) fun a18 =>
 ah PP bm [a18] h5 fun a19 h20 =>
 aa PP (.st (.c a2) (.c a19) 3) h20 fun a21 h22 =>
 aa PP (.ld (.c a2) 3 true) h22 fun a23 _ =>
 K a23 h22)
theorem kx (a0:D) (h0:Heap) (K:HKq):jo a0 h0 K=fP oe K [a0] h0:=by kernel_rfl
def o4:TLq
 | 1=>some ([0],[2])|_=>none
def re:TTq
 | _=>none
noncomputable abbrev lA:=cFn PP true cf o4 (cDr PP 12 re)
noncomputable def lG:aJ:=⟨12,aP lA,[]⟩
theorem qz:lA=some lG:=by kernel_rfl
def jr (a4:D) (h3:Heap) (a0:D) (K:HKq):Prop :=
 ∃(I5:Nat->HJq) (n₀:Nat),I5 n₀ [a4] h3/\∀(n6:Nat) (f7:Nat->D) (h8:Heap),I5 n6 [f7 2] h8 ->
 vbin .gtr (f7 2) (.int .i64 0) fun a9 =>
 vcond a9 (ah PP gT [a0] h8 fun a10 h11 =>
 vbin .sub (f7 2) (.int .i64 1) fun a12 =>
 aC [a0] [a0]/\∃m,m<n6/\I5 m [a12] h11) (
 K (.tup []) h8)
def lq (a0:D) (h0:Heap) (K:HKq):Prop :=
 ah PP aq [a0] h0 fun a2 h3 =>
 vbin .rem a2 (.int .i64 5) fun a4 =>
 jr a4 h3 a0 K
theorem qu (a0:D) (h0:Heap) (K:HKq):lq a0 h0 K=fP lG K [a0] h0:=by kernel_rfl
def xS:TLq
 | 1000015=>some ([3],[])|4=>some ([1,3],[4])|1000006=>some ([1,3,4],[])|7=>some ([1,3,4],[5])|1000009=>some ([1,3,4,5],[])|11=>some ([1,3,4,5,6],[7])|_=>none
def AY:TTq
 | _=>none
noncomputable abbrev vn:=cFn PP true jW xS (cDr PP 54 AY)
noncomputable def vH:aJ:=⟨54,aP vn,[.t 2]⟩
theorem z7:vn=some vH:=by kernel_rfl
def pz (h57:Heap) (a56:D) (a9:D) (f34:Nat->D) (a2:D) (f20:Nat->D) (J42:HJq):Prop :=
 ∃(I58:Nat->HJq) (n₀:Nat),I58 n₀ [(.int .i64 0)] h57/\∀(n59:Nat) (f60:Nat->D) (h61:Heap),I58 n59 [f60 7] h61 ->
 aH a56 h61 fun a62 =>
 vbin .lss (f60 7) a62 fun a63 =>
 vguard a63 true (fun G64 =>
 G64 a9 h61) h61 fun a65 h66 =>
 vguard a63 true (fun G67 =>
 G67 (f34 5) h66) h66 fun a68 h69 =>
 vguard a63 true (fun G70 =>
 aa PP (.iadd (.c a65) (.c a68) 1) h69 fun a73 h74 =>
 G70 a73 h74) h69 fun a71 h72 =>
 vguard a63 true (fun G75 =>
 aa PP (.ld (.c a71) 1 false) h72 fun a78 h79 =>
 G75 a78 h79) h72 fun a76 h77 =>
 aa PP (.pick (.c a63) (.c a76) (.c (.bool false))) h77 fun a80 h81 =>
 vcond a80 (aa PP (.iadd (.c a56) (.c (f60 7)) 1) h81 fun a82 h83 =>
 aa PP (.ld (.c a82) 1 false) h83 fun a84 h85 =>
 aa PP (.iadd (.c a9) (.c a84) 1) h85 fun a86 h87 =>
 aa PP (.st (.c a86) (.c (.bool true)) 1) h87 fun a88 h89 =>
 vbin .add (f60 7) (.int .i64 1) fun a90 =>
 aC [a2,a9,(f20 4),(f34 5),a56] [a2,a9,(f20 4),(f34 5),a56]/\∃m,m<n59/\I58 m [a90] h89) (
 aC [a2,a9,(f20 4),(f34 5)] [a2,a9,(f20 4),(f34 5)]/\J42 [] h81)
def pw (h25:Heap) (a2:D) (a9:D) (f20:Nat->D) (J28:HJq):Prop :=
 ∃(I32:Nat->HJq) (n₀:Nat),I32 n₀ [(.int .i64 0)] h25/\∀(n33:Nat) (f34:Nat->D) (h35:Heap),I32 n33 [f34 5] h35 ->
 aa PP (.fadd (.c a2) 7) h35 fun a36 h37 =>
 aa PP (.ld (.c a36) 1 false) h37 fun a38 h39 =>
 aH a38 h39 fun a40 =>
 vbin .lss (f34 5) a40 fun a41 =>
 vcond a41 (∃(J42:HJq),(∀(f43:Nat->D) (h44:Heap),J42 [] h44 ->
 vbin .add (f34 5) (.int .i64 1) fun a45 =>
 aC [a2,a9,(f20 4)] [a2,a9,(f20 4)]/\∃m,m<n33/\I32 m [a45] h44) /\
 aa PP (.fadd (.c a2) 7) h39 fun a46 h47 =>
 aa PP (.ld (.c a46) 1 false) h47 fun a48 h49 =>
 aa PP (.iadd (.c a48) (.c (f34 5)) 14) h49 fun a50 h51 =>
 aa PP (.fadd (.c a50) 1) h51 fun a52 h53 =>
 aa PP (.ld (.c a52) 13 true) h53 fun a54 h55 =>
 ah PP pW [a54] h55 fun a56 h57 =>
 pz h57 a56 a9 f34 a2 f20 J42) (
 aC [a2,a9,(f20 4)] [a2,a9,(f20 4)]/\J28 [] h39)
def pv (h14:Heap) (a2:D) (a9:D) (J15:HJq):Prop :=
 ∃(I18:Nat->HJq) (n₀:Nat),I18 n₀ [(.int .i64 0)] h14/\∀(n19:Nat) (f20:Nat->D) (h21:Heap),I18 n19 [f20 4] h21 ->
 aa PP (.fadd (.c a2) 7) h21 fun a22 h23 =>
 aa PP (.ld (.c a22) 1 false) h23 fun a24 h25 =>
 aH a24 h25 fun a26 =>
 vbin .lss (f20 4) a26 fun a27 =>
 vcond a27 (∃(J28:HJq),(∀(f29:Nat->D) (h30:Heap),J28 [] h30 ->
 vbin .add (f20 4) (.int .i64 1) fun a31 =>
 aC [a2,a9] [a2,a9]/\∃m,m<n19/\I18 m [a31] h30) /\
 pw h25 a2 a9 f20 J28) (
 aC [a9] [a9]/\J15 [] h25)
def u4 (a0:D) (h0:Heap) (K:HKq):Prop :=
 aa PP (.box (.c a0)) h0 fun a2 h3 =>
 aa PP (.fadd (.c a2) 7) h3 fun a4 h5 =>
 aa PP (.ld (.c a4) 1 false) h5 fun a6 h7 =>
 aH a6 h7 fun a8 =>
 aa PP (.mk 1 1 (.bool false) (.c a8) (.c a8)) h7 fun a9 h10 =>
 aa PP (.iadd (.c a9) (.c (.int .i64 0)) 1) h10 fun a11 h12 =>
 aa PP (.st (.c a11) (.c (.bool true)) 1) h12 fun a13 h14 =>
 ∃(J15:HJq),(∀(f16:Nat->D) (h17:Heap),J15 [] h17 ->
 K a9 h17) /\
 pv h14 a2 a9 J15
theorem zQ (a0:D) (h0:Heap) (K:HKq):u4 a0 h0 K=fP vH K [a0] h0:=by kernel_rfl
def uj:TLq
 | 1000014=>some ([5],[])|4=>some ([1,3,4,5],[6])|1000006=>some ([1,3,4,5,6],[])|7=>some ([1,3,4,5,6],[7])|1000009=>some ([1,3,4,5,6,7],[])|_=>none
def xr:TTq
 | 1=>some ([0,1,3,0,15,31,63],[1,2,4],[999999])|_=>none
noncomputable abbrev qQ:=cFn PP true gO uj (cDr PP 92 xr)
noncomputable def qW:aJ:=⟨92,aP qQ,[.t 2]⟩
theorem xc:qQ=some qW:=by kernel_rfl
def gX (h31:Heap) (a2:D) (a9:D) (a12:D) (a19:D) (f26:Nat->D) (J34:HJq):Prop :=
 ∃(I38:Nat->HJq) (n₀:Nat),I38 n₀ [(.int .i64 0)] h31/\∀(n39:Nat) (f40:Nat->D) (h41:Heap),I38 n39 [f40 7] h41 ->
 aa PP (.fadd (.c a2) 7) h41 fun a42 h43 =>
 aa PP (.ld (.c a42) 1 false) h43 fun a44 h45 =>
 aH a44 h45 fun a46 =>
 vbin .lss (f40 7) a46 fun a47 =>
 vcond a47 (∃(J48:HJq),(∀(f49:Nat->D) (h50:Heap),J48 [] h50 ->
 vbin .add (f40 7) (.int .i64 1) fun a51 =>
 aC [a2,a9,a12,a19,(f26 6)] [a2,a9,a12,a19,(f26 6)]/\∃m,m<n39/\I38 m [a51] h50) /\
 aa PP (.fadd (.c a2) 7) h45 fun a52 h53 =>
 aa PP (.ld (.c a52) 1 false) h53 fun a54 h55 =>
 aa PP (.iadd (.c a54) (.c (f40 7)) 14) h55 fun a56 h57 =>
 aa PP (.fadd (.c a56) 1) h57 fun a58 h59 =>
 aa PP (.ld (.c a58) 13 true) h59 fun a60 h61 =>
 ah PP iP [a60] h61 fun a62 h63 =>
 aa PP (.iadd (.c a9) (.c (f40 7)) 1) h63 fun a64 h65 =>
 aa PP (.ld (.c a64) 1 false) h65 fun a66 h67 =>
 vun .not a66 fun a68 =>
 vguard a68 false (fun G69 =>
 G69 a9 h67) h67 fun a70 h71 =>
 vguard a68 false (fun G72 =>
 G72 (f26 6) h71) h71 fun a73 h74 =>
 vguard a68 false (fun G75 =>
 aa PP (.iadd (.c a70) (.c a73) 1) h74 fun a78 h79 =>
 G75 a78 h79) h74 fun a76 h77 =>
 vguard a68 false (fun G80 =>
 aa PP (.ld (.c a76) 1 false) h77 fun a83 h84 =>
 G80 a83 h84) h77 fun a81 h82 =>
 vguard a68 false (fun G85 =>
 vun .not a81 fun a88 =>
 G85 a88 h82) h82 fun a86 h87 =>
 aa PP (.pick (.c a68) (.c (.bool true)) (.c a86)) h87 fun a89 h90 =>
 vguard a89 false (fun G91 =>
 G91 a62 h90) h90 fun a92 h93 =>
 vguard a89 false (fun G94 =>
 aH a92 h93 fun a97 =>
 G94 a97 h93) h93 fun a95 h96 =>
 vguard a89 false (fun G98 =>
 vbin .neq a95 (.int .i64 2) fun a101 =>
 G98 a101 h96) h96 fun a99 h100 =>
 aa PP (.pick (.c a89) (.c (.bool true)) (.c a99)) h100 fun a102 h103 =>
 vguard a102 false (fun G104 =>
 G104 (f40 7) h103) h103 fun a105 h106 =>
 vguard a102 false (fun G107 =>
 G107 (f26 6) h106) h106 fun a108 h109 =>
 vguard a102 false (fun G110 =>
 vbin .neq a105 a108 fun a113 =>
 G110 a113 h109) h109 fun a111 h112 =>
 vguard a102 false (fun G114 =>
 G114 a111 h112) h112 fun a115 h116 =>
 vguard a115 true (fun G117 =>
 G117 a12 h116) h116 fun a118 h119 =>
 vguard a115 true (fun G120 =>
 G120 (f40 7) h119) h119 fun a121 h122 =>
 vguard a115 true (fun G123 =>
 G123 (f26 6) h122) h122 fun a124 h125 =>
 vguard a115 true (fun G126 =>
 ah PP cT [a118,a121,a124] h125 fun a129 h130 =>
 G126 a129 h130) h125 fun a127 h128 =>
 vguard a102 false (fun G131 =>
 aa PP (.pick (.c a115) (.c a127) (.c (.bool false))) h128 fun a134 h135 =>
 G131 a134 h135) h128 fun a132 h133 =>
 aa PP (.pick (.c a102) (.c (.bool true)) (.c a132)) h133 fun a136 h137 =>
 vcond a136 (aC [a2,a9,a12,a19,(f26 6),(f40 7)] [a2,a9,a12,a19,(f26 6),(f40 7)]/\J48 [] h137) (
 aa PP (.iadd (.c a62) (.c (.int .i64 0)) 1) h137 fun a138 h139 =>
 aa PP (.ld (.c a138) 1 false) h139 fun a140 h141 =>
 ah PP cT [a12,a140,(f26 6)] h141 fun a142 h143 =>
 vguard a142 false (fun G144 =>
 G144 a12 h143) h143 fun a145 h146 =>
 vguard a142 false (fun G147 =>
 G147 a62 h146) h146 fun a148 h149 =>
 vguard a142 false (fun G150 =>
 aa PP (.iadd (.c a148) (.c (.int .i64 1)) 1) h149 fun a153 h154 =>
 G150 a153 h154) h149 fun a151 h152 =>
 vguard a142 false (fun G155 =>
 aa PP (.ld (.c a151) 1 false) h152 fun a158 h159 =>
 G155 a158 h159) h152 fun a156 h157 =>
 vguard a142 false (fun G160 =>
 G160 (f26 6) h157) h157 fun a161 h162 =>
 vguard a142 false (fun G163 =>
 ah PP cT [a145,a156,a161] h162 fun a166 h167 =>
 G163 a166 h167) h162 fun a164 h165 =>
 aa PP (.pick (.c a142) (.c (.bool true)) (.c a164)) h165 fun a168 h169 =>
 vcond a168 (aa PP (.iadd (.c a19) (.c (f26 6)) 1) h169 fun a170 h171 =>
 aa PP (.ld (.c a170) 1 false) h171 fun a172 h173 =>
 aa PP (.bldS true 1 1 (.int .i64 0) [(0,(.c (f40 7)))]) h173 fun a174 h175 =>
 aa PP (.app (.c a172) (.c a174) 1 8 (.int .i64 0)) h175 fun a176 h177 =>
 aa PP (.iadd (.c a19) (.c (f26 6)) 1) h177 fun a178 h179 =>
 aa PP (.st (.c a178) (.c a176) 1) h179 fun a180 h181 =>
 aC [a2,a9,a12,a19,(f26 6),(f40 7)] [a2,a9,a12,a19,(f26 6),(f40 7)]/\J48 [] h181) (
 aC [a2,a9,a12,a19,(f26 6),(f40 7)] [a2,a9,a12,a19,(f26 6),(f40 7)]/\J48 [] h169))) (
 aC [a2,a9,a12,a19,(f26 6)] [a2,a9,a12,a19,(f26 6)]/\J34 [] h45)
def mF (h20:Heap) (a2:D) (a9:D) (a12:D) (a19:D) (J21:HJq):Prop :=
 ∃(I24:Nat->HJq) (n₀:Nat),I24 n₀ [(.int .i64 0)] h20/\∀(n25:Nat) (f26:Nat->D) (h27:Heap),I24 n25 [f26 6] h27 ->
 aa PP (.fadd (.c a2) 7) h27 fun a28 h29 =>
 aa PP (.ld (.c a28) 1 false) h29 fun a30 h31 =>
 aH a30 h31 fun a32 =>
 vbin .lss (f26 6) a32 fun a33 =>
 vcond a33 (∃(J34:HJq),(∀(f35:Nat->D) (h36:Heap),J34 [] h36 ->
 vbin .add (f26 6) (.int .i64 1) fun a37 =>
 aC [a2,a9,a12,a19] [a2,a9,a12,a19]/\∃m,m<n25/\I24 m [a37] h36) /\
 gX h31 a2 a9 a12 a19 f26 J34) (
 aC [a19] [a19]/\J21 [] h31)
def qI (a0:D) (h0:Heap) (K:HKq):Prop :=
 aa PP (.box (.c a0)) h0 fun a2 h3 =>
 ae PP (.ld (.c a2) 8 true) h3 fun a4 =>
 ae PP (.ld (.c a2) 8 true) h3 fun a5 =>
 ah PP jV [a4] h3 fun a6 h7 =>
 ((ae PP (.ld (.c a2) 8 true) h7 fun a8=>aC [a8] [a5])/\True) /\
 ah PP iQ [a6,(.int .i64 0),(.int .i64 (-1))] h7 fun a9 h10 =>
 ((ae PP (.ld (.c a2) 8 true) h10 fun a11=>aC [a11] [a5])/\True) /\
 ah PP ow [a5] h10 fun a12 h13 =>
 aa PP (.fadd (.c a2) 7) h13 fun a14 h15 =>
 aa PP (.ld (.c a14) 1 false) h15 fun a16 h17 =>
 aH a16 h17 fun a18 =>
 aa PP (.mk 1 24 .nil (.c a18) (.c a18)) h17 fun a19 h20 =>
 ∃(J21:HJq),(∀(f22:Nat->D) (h23:Heap),J21 [] h23 ->
 K a19 h23) /\
 mF h20 a2 a9 a12 a19 J21
theorem wY (a0:D) (h0:Heap) (K:HKq):qI a0 h0 K=fP qW K [a0] h0:=by kernel_rfl
end Go.Am
namespace Go.Am
open Go Go.Proofs
def xN:TLq
 | 1000010=>some ([],[])|4=>some ([2,4,5,8],[11])|_=>none
def AT:TTq
 | 7=>some ([0,1,0,7,15,31,63,127,127,383,127,1919,3967,8063,16255,32767,65535,131071],[],[])|_=>none
noncomputable abbrev u9:=cFn PP true jT xN (cDr PP 52 AT)
noncomputable def vv:aJ:=⟨52,aP u9,[.t 10]⟩
theorem zV:u9=some vv:=by kernel_rfl
def pn (h13:Heap) (a2:D) (a4:D) (a8:D) (a6:D) (J15:HJq) (K:HKq):Prop :=
 ∃(I18:Nat->HJq) (n₀:Nat),I18 n₀ [(.int .i64 0)] h13/\∀(n19:Nat) (f20:Nat->D) (h21:Heap),I18 n19 [f20 11] h21 ->
 aa PP (.iadd (.c a2) (.c a4) 1) h21 fun a22 h23 =>
 aa PP (.ld (.c a22) 1 false) h23 fun a24 h25 =>
 aH a24 h25 fun a26 =>
 vbin .lss (f20 11) a26 fun a27 =>
 vcond a27 (aa PP (.iadd (.c a2) (.c a4) 1) h25 fun a28 h29 =>
 aa PP (.ld (.c a28) 1 false) h29 fun a30 h31 =>
 aa PP (.iadd (.c a30) (.c (f20 11)) 1) h31 fun a32 h33 =>
 aa PP (.ld (.c a32) 1 false) h33 fun a34 h35 =>
 ae PP (.fadd (.c a8) 0) h35 fun a36 =>
 ae PP (.ld (.c a36) 1 false) h35 fun a37 =>
 ae PP (.iadd (.c a37) (.c a34) 1) h35 fun a38 =>
 ae PP (.ld (.c a38) 1 false) h35 fun a39 =>
 vun .not a39 fun a40 =>
 an a40 false (fun G41 =>
 ae PP (.ld (.c a8) 2 true) h35 fun a90 =>
 G41 a90) fun a42 =>
 an a40 false (fun G45 =>
 ae PP (.fadd (.c a6) 7) h35 fun a89 =>
 G45 a89) fun a46 =>
 an a40 false (fun G49 =>
 ae PP (.ld (.c a46) 1 false) h35 fun a88 =>
 G49 a88) fun a50 =>
 an a40 false (fun G53 =>
 G53 a34) fun a54 =>
 an a40 false (fun G56 =>
 ae PP (.iadd (.c a50) (.c a54) 14) h35 fun a87 =>
 G56 a87) fun a57 =>
 an a40 false (fun G60 =>
 ae PP (.fadd (.c a57) 1) h35 fun a86 =>
 G60 a86) fun a61 =>
 an a40 false (fun G64 =>
 ae PP (.fadd (.c a61) 5) h35 fun a85 =>
 G64 a85) fun a65 =>
 an a40 false (fun G68 =>
 ae PP (.ld (.c a65) 3 true) h35 fun a84 =>
 G68 a84) fun a69 =>
 an a40 false (fun G72 =>
 ae PP (.call bV [(.c a42),(.c a69)]) h35 fun a83 =>
 G72 a83) fun a73 =>
 an a40 false (fun G76 =>
 vun .not a73 fun a82 =>
 G76 a82) fun a77 =>
 ae PP (.pick (.c a40) (.c (.bool true)) (.c a77)) h35 fun a80 =>
 vcond a80 (K (.bool false) h35) (
 vbin .add (f20 11) (.int .i64 1) fun a81 =>
 aC [a2,a4,a6,a8] [a2,a4,a6,a8]/\∃m,m<n19/\I18 m [a81] h35)) (
 aC [] []/\J15 [] h25)
def uV (a0:D) (a1:D) (a2:D) (a3:D) (a4:D) (h0:Heap) (K:HKq):Prop :=
 aa PP (.box (.c a0)) h0 fun a6 h7 =>
 aa PP (.box (.c a3)) h7 fun a8 h9 =>
 aa PP (.iadd (.c a1) (.c a4) 1) h9 fun a10 h11 =>
 aa PP (.ld (.c a10) 1 false) h11 fun a12 h13 =>
 vun .not a12 fun a14 =>
 vcond a14 (K (.bool false) h13) (
 ∃(J15:HJq),(∀(f16:Nat->D) (h17:Heap),J15 [] h17 ->
 K (.bool true) h17) /\
 pn h13 a2 a4 a8 a6 J15 K)
theorem zL (a0:D) (a1:D) (a2:D) (a3:D) (a4:D) (h0:Heap) (K:HKq):uV a0 a1 a2 a3 a4 h0 K=fP vv K [a0,a1,a2,a3,a4] h0:=by kernel_rfl
def sx:TLq
 | 1000014=>some ([],[])|2=>some ([1,3,4,6],[9])|1000004=>some ([1,3,4,6,9],[])|8=>some ([1,3,4,6,9],[10])|_=>none
def vT:TTq
 | _=>none
noncomputable abbrev pF:=cFn PP true et sx (cDr PP 91 vT)
noncomputable def pJ:aJ:=⟨91,aP pF,[.t 8]⟩
theorem uD:pF=some pJ:=by kernel_rfl
def gB (h42:Heap) (a5:D) (f14:Nat->D) (a3:D) (a7:D) (a1:D) (J22:HJq) (K:HKq):Prop :=
 ∃(I44:Nat->HJq) (n₀:Nat),I44 n₀ [(.int .i64 0)] h42/\∀(n45:Nat) (f46:Nat->D) (h47:Heap),I44 n45 [f46 10] h47 ->
 aa PP (.fadd (.c a5) 7) h47 fun a48 h49 =>
 aa PP (.ld (.c a48) 1 false) h49 fun a50 h51 =>
 aa PP (.iadd (.c a50) (.c (f14 9)) 14) h51 fun a52 h53 =>
 aa PP (.fadd (.c a52) 0) h53 fun a54 h55 =>
 aa PP (.ld (.c a54) 1 false) h55 fun a56 h57 =>
 aH a56 h57 fun a58 =>
 vbin .lss (f46 10) a58 fun a59 =>
 vcond a59 (aa PP (.fadd (.c a5) 7) h57 fun a60 h61 =>
 aa PP (.ld (.c a60) 1 false) h61 fun a62 h63 =>
 aa PP (.iadd (.c a62) (.c (f14 9)) 14) h63 fun a64 h65 =>
 aa PP (.fadd (.c a64) 0) h65 fun a66 h67 =>
 aa PP (.ld (.c a66) 1 false) h67 fun a68 h69 =>
 aa PP (.iadd (.c a68) (.c (f46 10)) 15) h69 fun a70 h71 =>
 aa PP (.ld (.c a70) 15 true) h71 fun a72 h73 =>
 aa PP (.alloc (.agg [zI,zI,zI,zI,zI,zJ,zI,zI,zJ,zI,zI,zJ,zI,zI,zJ])) h73 fun a74 h75 =>
 aa PP (.st (.c a74) (.c a72) 15) h75 fun a76 h77 =>
 aa PP (.ld (.c a74) 15 true) h77 fun a78 h79 =>
 ah PP sr [a78] h79 fun a80 h81 =>
 vbin .eql a80 a3 fun a82 =>
 vguard a82 true (fun G83 =>
 aa PP (.fadd (.c a7) 0) h81 fun a86 h87 =>
 G83 a86 h87) h81 fun a84 h85 =>
 vguard a82 true (fun G88 =>
 aa PP (.ld (.c a84) 1 false) h85 fun a91 h92 =>
 G88 a91 h92) h85 fun a89 h90 =>
 vguard a82 true (fun G93 =>
 G93 (f14 9) h90) h90 fun a94 h95 =>
 vguard a82 true (fun G96 =>
 aa PP (.iadd (.c a89) (.c a94) 1) h95 fun a99 h100 =>
 G96 a99 h100) h95 fun a97 h98 =>
 vguard a82 true (fun G101 =>
 aa PP (.ld (.c a97) 1 false) h98 fun a104 h105 =>
 G101 a104 h105) h98 fun a102 h103 =>
 vguard a82 true (fun G106 =>
 vun .not a102 fun a109 =>
 G106 a109 h103) h103 fun a107 h108 =>
 vguard a82 true (fun G110 =>
 G110 a107 h108) h108 fun a111 h112 =>
 vguard a111 false (fun G113 =>
 aa PP (.ld (.c a74) 15 true) h112 fun a116 h117 =>
 G113 a116 h117) h112 fun a114 h115 =>
 vguard a111 false (fun G118 =>
 ah PP mm [a114] h115 fun a121 h122 =>
 G118 a121 h122) h115 fun a119 h120 =>
 vguard a111 false (fun G123 =>
 vun .not a119 fun a126 =>
 G123 a126 h120) h120 fun a124 h125 =>
 vguard a82 true (fun G127 =>
 aa PP (.pick (.c a111) (.c (.bool true)) (.c a124)) h125 fun a130 h131 =>
 G127 a130 h131) h125 fun a128 h129 =>
 vguard a82 true (fun G132 =>
 G132 a128 h129) h129 fun a133 h134 =>
 vguard a133 false (fun G135 =>
 aa PP (.ld (.c a7) 2 true) h134 fun a138 h139 =>
 G135 a138 h139) h134 fun a136 h137 =>
 vguard a133 false (fun G140 =>
 aa PP (.fadd (.c a74) 6) h137 fun a143 h144 =>
 G140 a143 h144) h137 fun a141 h142 =>
 vguard a133 false (fun G145 =>
 aa PP (.ld (.c a141) 3 true) h142 fun a148 h149 =>
 G145 a148 h149) h142 fun a146 h147 =>
 vguard a133 false (fun G150 =>
 ah PP bV [a136,a146] h147 fun a153 h154 =>
 G150 a153 h154) h147 fun a151 h152 =>
 vguard a133 false (fun G155 =>
 vun .not a151 fun a158 =>
 G155 a158 h152) h152 fun a156 h157 =>
 vguard a82 true (fun G159 =>
 aa PP (.pick (.c a133) (.c (.bool true)) (.c a156)) h157 fun a162 h163 =>
 G159 a162 h163) h157 fun a160 h161 =>
 vguard a82 true (fun G164 =>
 G164 a160 h161) h161 fun a165 h166 =>
 vguard a165 false (fun G167 =>
 aa PP (.ld (.c a7) 2 true) h166 fun a170 h171 =>
 G167 a170 h171) h166 fun a168 h169 =>
 vguard a165 false (fun G172 =>
 aa PP (.fadd (.c a74) 9) h169 fun a175 h176 =>
 G172 a175 h176) h169 fun a173 h174 =>
 vguard a165 false (fun G177 =>
 aa PP (.ld (.c a173) 3 true) h174 fun a180 h181 =>
 G177 a180 h181) h174 fun a178 h179 =>
 vguard a165 false (fun G182 =>
 ah PP bV [a168,a178] h179 fun a185 h186 =>
 G182 a185 h186) h179 fun a183 h184 =>
 vguard a165 false (fun G187 =>
 vun .not a183 fun a190 =>
 G187 a190 h184) h184 fun a188 h189 =>
 vguard a82 true (fun G191 =>
 aa PP (.pick (.c a165) (.c (.bool true)) (.c a188)) h189 fun a194 h195 =>
 G191 a194 h195) h189 fun a192 h193 =>
 vguard a82 true (fun G196 =>
 G196 a192 h193) h193 fun a197 h198 =>
 vguard a197 false (fun G199 =>
 aa PP (.ld (.c a7) 2 true) h198 fun a202 h203 =>
 G199 a202 h203) h198 fun a200 h201 =>
 vguard a197 false (fun G204 =>
 aa PP (.fadd (.c a74) 12) h201 fun a207 h208 =>
 G204 a207 h208) h201 fun a205 h206 =>
 vguard a197 false (fun G209 =>
 aa PP (.ld (.c a205) 3 true) h206 fun a212 h213 =>
 G209 a212 h213) h206 fun a210 h211 =>
 vguard a197 false (fun G214 =>
 ah PP bV [a200,a210] h211 fun a217 h218 =>
 G214 a217 h218) h211 fun a215 h216 =>
 vguard a197 false (fun G219 =>
 vun .not a215 fun a222 =>
 G219 a222 h216) h216 fun a220 h221 =>
 vguard a82 true (fun G223 =>
 aa PP (.pick (.c a197) (.c (.bool true)) (.c a220)) h221 fun a226 h227 =>
 G223 a226 h227) h221 fun a224 h225 =>
 aa PP (.pick (.c a82) (.c a224) (.c (.bool false))) h225 fun a228 h229 =>
 vcond a228 (K (.bool false) h229) (
 vbin .add (f46 10) (.int .i64 1) fun a230 =>
 aC [a1,a3,a5,a7,(f14 9)] [a1,a3,a5,a7,(f14 9)]/\∃m,m<n45/\I44 m [a230] h229)) (
 aC [a1,a3,a5,a7,(f14 9)] [a1,a3,a5,a7,(f14 9)]/\J22 [] h57)
def lk (h8:Heap) (a5:D) (a1:D) (a3:D) (a7:D) (J9:HJq) (K:HKq):Prop :=
 ∃(I12:Nat->HJq) (n₀:Nat),I12 n₀ [(.int .i64 0)] h8/\∀(n13:Nat) (f14:Nat->D) (h15:Heap),I12 n13 [f14 9] h15 ->
 aa PP (.fadd (.c a5) 7) h15 fun a16 h17 =>
 aa PP (.ld (.c a16) 1 false) h17 fun a18 h19 =>
 aH a18 h19 fun a20 =>
 vbin .lss (f14 9) a20 fun a21 =>
 vcond a21 (∃(J22:HJq),(∀(f23:Nat->D) (h24:Heap),J22 [] h24 ->
 vbin .add (f14 9) (.int .i64 1) fun a25 =>
 aC [a1,a3,a5,a7] [a1,a3,a5,a7]/\∃m,m<n13/\I12 m [a25] h24) /\
 aa PP (.iadd (.c a1) (.c (f14 9)) 1) h19 fun a26 h27 =>
 aa PP (.ld (.c a26) 1 false) h27 fun a28 h29 =>
 vun .not a28 fun a30 =>
 vcond a30 (aC [a1,a3,a5,a7,(f14 9)] [a1,a3,a5,a7,(f14 9)]/\J22 [] h29) (
 aa PP (.fadd (.c a5) 7) h29 fun a31 h32 =>
 aa PP (.ld (.c a31) 1 false) h32 fun a33 h34 =>
 aa PP (.iadd (.c a33) (.c (f14 9)) 14) h34 fun a35 h36 =>
 aa PP (.fadd (.c a35) 1) h36 fun a37 h38 =>
 aa PP (.ld (.c a37) 13 true) h38 fun a39 h40 =>
 ah PP pY [a39] h40 fun a41 h42 =>
 vbin .eql a41 a3 fun a43 =>
 vcond a43 (K (.bool false) h42) (
 gB h42 a5 f14 a3 a7 a1 J22 K))) (
 aC [] []/\J9 [] h19)
def pg (a0:D) (a1:D) (a2:D) (a3:D) (h0:Heap) (K:HKq):Prop :=
 aa PP (.box (.c a0)) h0 fun a5 h6 =>
 aa PP (.box (.c a2)) h6 fun a7 h8 =>
 ∃(J9:HJq),(∀(f10:Nat->D) (h11:Heap),J9 [] h11 ->
 K (.bool true) h11) /\
 lk h8 a5 a1 a3 a7 J9 K
theorem ux (a0:D) (a1:D) (a2:D) (a3:D) (h0:Heap) (K:HKq):pg a0 a1 a2 a3 h0 K=fP pJ K [a0,a1,a2,a3] h0:=by kernel_rfl
def iE:TLq
 | _=>none
def jv:TTq
 | _=>none
noncomputable abbrev eZ:=cFn PP true cy iE (cDr PP 5 jv)
noncomputable def fc:aJ:=⟨5,aP eZ,[.t 2]⟩
theorem jt:eZ=some fc:=by kernel_rfl
def eY (a0:D) (h0:Heap) (K:HKq):Prop :=
 ah PP bk [.nil,a0] h0 fun a2 h3 =>
 K a2 h3
theorem jk (a0:D) (h0:Heap) (K:HKq):eY a0 h0 K=fP fc K [a0] h0:=by kernel_rfl
def ug:TLq
 | _=>none
def xp:TTq
 | 1=>some ([0,1,0,7,0,0,63,127],[1,3,4,5,6,7],[999996,2,3])|_=>none
noncomputable abbrev qO:=cFn PP true gN ug (cDr PP 10 xp)
noncomputable def qU:aJ:=⟨10,aP qO,[.t 2]⟩
theorem xa:qO=some qU:=by kernel_rfl
def qE (a0:D) (h0:Heap) (K:HKq):Prop :=
 aa PP (.box (.c a0)) h0 fun a2 h3 =>
 ae PP (.ld (.c a2) 8 true) h3 fun a4 =>
 ae PP (.ld (.c a2) 8 true) h3 fun a5 =>
 ah PP p5 [a4] h3 fun a6 h7 =>
 ((ae PP (.ld (.c a2) 8 true) h7 fun a8=>aC [a8] [a5])/\True) /\
 ah PP ox [a5] h7 fun a9 h10 =>
 aa PP (.alloc .nil) h10 fun a11 h12 =>
 ((ae PP (.ld (.c a2) 8 true) h12 fun a13=>aC [a13] [a4])/\(ae PP (.ld (.c a2) 8 true) h12 fun a14=>aC [a14] [a5])/\True) /\
 aa PP (.alloc .nil) h12 fun a15 h16 =>
 ((ae PP (.ld (.c a2) 8 true) h16 fun a17=>aC [a17] [a4])/\(ae PP (.ld (.c a2) 8 true) h16 fun a18=>aC [a18] [a5])/\True) /\
 aa PP (.st (.c a11) (.c a6) 1) h16 fun a19 h20 =>
 aa PP (.st (.c a15) (.c a9) 1) h20 fun a21 h22 =>
 aa PP (.mkf bS [] [(.c a2),(.c a11),(.c a15)]) h22 fun a23 h24 =>
 K a23 h24
theorem wV (a0:D) (h0:Heap) (K:HKq):qE a0 h0 K=fP qU K [a0] h0:=by kernel_rfl
def wx:TLq
 | _=>none
def y5:TTq
 | _=>none
noncomputable abbrev tk:=cFn PP true fQ wx (cDr PP 22 y5)
noncomputable def tA:aJ:=⟨22,aP tk,[.t 4]⟩
theorem yJ:tk=some tA:=by kernel_rfl
def sT (a0:D) (a1:D) (h0:Heap) (K:HKq):Prop :=
 aa PP (.box (.c a0)) h0 fun a3 h4 =>
 aa PP (.box (.c a1)) h4 fun a5 h6 =>
 aa PP (.ld (.c a3) 2 true) h6 fun a7 h8 =>
 aa PP (.fadd (.c a5) 0) h8 fun a9 h10 =>
 aa PP (.ld (.c a9) 2 true) h10 fun a11 h12 =>
 ah PP iN [a7,a11] h12 fun a13 h14 =>
 aa PP (.fadd (.c a13) 0) h14 fun a15 h16 =>
 aa PP (.ld (.c a15) 1 false) h16 fun a17 h18 =>
 vun .not a17 fun a19 =>
 vcond a19 (K (.bool true) h18) (
 aa PP (.fadd (.c a5) 3) h18 fun a20 h21 =>
 aa PP (.ld (.c a20) 1 false) h21 fun a22 h23 =>
 vun .not a22 fun a24 =>
 vguard a24 true (fun G25 =>
 aa PP (.fadd (.c a5) 2) h23 fun a28 h29 =>
 G25 a28 h29) h23 fun a26 h27 =>
 vguard a24 true (fun G30 =>
 aa PP (.ld (.c a26) 1 false) h27 fun a33 h34 =>
 G30 a33 h34) h27 fun a31 h32 =>
 vguard a24 true (fun G35 =>
 aa PP (.mkf iM [] [(.c a3)]) h32 fun a38 h39 =>
 G35 a38 h39) h32 fun a36 h37 =>
 vguard a24 true (fun G40 =>
 ah PP aY [a31,a36] h37 fun a43 h44 =>
 G40 a43 h44) h37 fun a41 h42 =>
 vguard a24 true (fun G45 =>
 vun .not a41 fun a48 =>
 G45 a48 h42) h42 fun a46 h47 =>
 aa PP (.pick (.c a24) (.c a46) (.c (.bool false))) h47 fun a49 h50 =>
 K a49 h50)
theorem yi (a0:D) (a1:D) (h0:Heap) (K:HKq):sT a0 a1 h0 K=fP tA K [a0,a1] h0:=by kernel_rfl
def zn:TLq
 | _=>none
def BX:TTq
 | _=>none
noncomputable abbrev yA:=cFn PP true iN zn (cDr PP 17 BX)
noncomputable def yK:aJ:=⟨17,aP yA,[.t 4]⟩
theorem Bn:yA=some yK:=by kernel_rfl
def yj (a0:D) (a1:D) (h0:Heap) (K:HKq):Prop :=
 aa PP (.box (.c a0)) h0 fun a3 h4 =>
 aa PP (.box (.c a1)) h4 fun a5 h6 =>
 aa PP (.fadd (.c a5) 0) h6 fun a7 h8 =>
 aa PP (.ld (.c a7) 1 false) h8 fun a9 h10 =>
 vcond a9 (aa PP (.fadd (.c a3) 0) h10 fun a11 h12 =>
 aa PP (.ld (.c a11) 1 false) h12 fun a13 h14 =>
 aa PP (.fadd (.c a5) 1) h14 fun a15 h16 =>
 aa PP (.ld (.c a15) 1 false) h16 fun a17 h18 =>
 aa PP (.iadd (.c a13) (.c a17) 1) h18 fun a19 h20 =>
 K a19 h20) (
 aa PP (.fadd (.c a3) 1) h10 fun a21 h22 =>
 aa PP (.ld (.c a21) 1 false) h22 fun a23 h24 =>
 aa PP (.fadd (.c a5) 1) h24 fun a25 h26 =>
 aa PP (.ld (.c a25) 1 false) h26 fun a27 h28 =>
 aa PP (.iadd (.c a23) (.c a27) 1) h28 fun a29 h30 =>
 K a29 h30)
theorem Bd (a0:D) (a1:D) (h0:Heap) (K:HKq):yj a0 a1 h0 K=fP yK K [a0,a1] h0:=by kernel_rfl
def Ba:TLq
 | _=>none
def DM:TTq
 | _=>none
noncomputable abbrev AK:=cFn PP true ki Ba (cDr PP 26 DM)
noncomputable def AR:aJ:=⟨26,aP AK,[.t 2]⟩
theorem DA:AK=some AR:=by kernel_rfl
def AD (a0:D) (h0:Heap) (K:HKq):Prop :=
 aa PP (.box (.c a0)) h0 fun a2 h3 =>
 aa PP (.fadd (.c a2) 0) h3 fun a4 h5 =>
 aa PP (.ld (.c a4) 1 false) h5 fun a6 h7 =>
 vbin .eql a6 (.int .i64 5) fun a8 =>
 vcond a8 (K .nil h7) (
 aa PP (.fadd (.c a2) 0) h7 fun a9 h10 =>
 aa PP (.ld (.c a9) 1 false) h10 fun a11 h12 =>
 vbin .eql a11 (.int .i64 2) fun a13 =>
 vguard a13 true (fun G14 =>
 aa PP (.fadd (.c a2) 11) h12 fun a17 h18 =>
 G14 a17 h18) h12 fun a15 h16 =>
 vguard a13 true (fun G19 =>
 aa PP (.iadda (.c a15) (.c (.int .i64 0)) 2 1) h16 fun a22 h23 =>
 G19 a22 h23) h16 fun a20 h21 =>
 vguard a13 true (fun G24 =>
 aa PP (.ld (.c a20) 1 false) h21 fun a27 h28 =>
 G24 a27 h28) h21 fun a25 h26 =>
 vguard a13 true (fun G29 =>
 aa PP (.fadd (.c a2) 11) h26 fun a32 h33 =>
 G29 a32 h33) h26 fun a30 h31 =>
 vguard a13 true (fun G34 =>
 aa PP (.iadda (.c a30) (.c (.int .i64 1)) 2 1) h31 fun a37 h38 =>
 G34 a37 h38) h31 fun a35 h36 =>
 vguard a13 true (fun G39 =>
 aa PP (.ld (.c a35) 1 false) h36 fun a42 h43 =>
 G39 a42 h43) h36 fun a40 h41 =>
 vguard a13 true (fun G44 =>
 vbin .neq a25 a40 fun a47 =>
 G44 a47 h41) h41 fun a45 h46 =>
 aa PP (.pick (.c a13) (.c a45) (.c (.bool false))) h46 fun a48 h49 =>
 vcond a48 (aa PP (.fadd (.c a2) 11) h49 fun a50 h51 =>
 aa PP (.KY (.c a50) 2) h51 fun a52 h53 =>
 K a52 h53) (
 aa PP (.fadd (.c a2) 11) h49 fun a54 h55 =>
 aa PP (.iadda (.c a54) (.c (.int .i64 0)) 2 1) h55 fun a56 h57 =>
 aa PP (.ld (.c a56) 1 false) h57 fun a58 h59 =>
 aa PP (.bldS true 1 1 (.int .i64 0) [(0,(.c a58))]) h59 fun a60 h61 =>
 K a60 h61))
theorem Db (a0:D) (h0:Heap) (K:HKq):AD a0 h0 K=fP AR K [a0] h0:=by kernel_rfl
def A6:TLq
 | _=>none
def DI:TTq
 | _=>none
noncomputable abbrev AG:=cFn PP true bm A6 (cDr PP 5 DI)
noncomputable def AN:aJ:=⟨5,aP AG,[.cell 2 3 true]⟩
theorem Du:AG=some AN:=by kernel_rfl
def Ay (a0:D) (h0:Heap) (K:HKq):Prop :=
 aa PP (.alloc (.agg [zI,zI,zJ])) h0 fun a2 h3 =>
 aa PP (.bld [zI,zI,zJ] [(0,1,(.c (.int .i64 2))),(1,1,(.c a0))]) h3 fun a4 h5 =>
 aa PP (.st (.c a2) (.c a4) 3) h5 fun a6 h7 =>
 aa PP (.ld (.c a2) 3 true) h7 fun a8 _ =>
 K a8 h7
theorem C5 (a0:D) (h0:Heap) (K:HKq):Ay a0 h0 K=fP AN K [a0] h0:=by kernel_rfl
def Cv:TLq
 | _=>none
def EP:TTq
 | _=>none
noncomputable abbrev Dj:=cFn PP true pZ Cv (cDr PP 8 EP)
noncomputable def Dz:aJ:=⟨8,aP Dj,[.t 2]⟩
theorem DZ:Dj=some Dz:=by kernel_rfl
def Da (a0:D) (h0:Heap) (K:HKq):Prop :=
 aa PP (.box (.c a0)) h0 fun a2 h3 =>
 aa PP (.fadd (.c a2) 0) h3 fun a4 h5 =>
 aa PP (.ld (.c a4) 1 false) h5 fun a6 h7 =>
 vbin .neq a6 (.int .i64 2) fun a8 =>
 vcond a8 (K (.int .i64 (-1)) h7) (
 aa PP (.fadd (.c a2) 1) h7 fun a9 h10 =>
 aa PP (.ld (.c a9) 1 false) h10 fun a11 h12 =>
 K a11 h12)
theorem DV (a0:D) (h0:Heap) (K:HKq):Da a0 h0 K=fP Dz K [a0] h0:=by kernel_rfl
def xT:TLq
 | _=>none
def AZ:TTq
 | _=>none
noncomputable abbrev vo:=cFn PP true cv xT (cDr PP 5 AZ)
noncomputable def vI:aJ:=⟨5,aP vo,[.cell 2 3 true]⟩
theorem Aa:vo=some vI:=by kernel_rfl
def u5 (a0:D) (h0:Heap) (K:HKq):Prop :=
 aa PP (.alloc (.agg [zI,zI,zJ])) h0 fun a2 h3 =>
 aa PP (.bld [zI,zI,zJ] [(0,1,(.c (.int .i64 1))),(2,1,(.c a0))]) h3 fun a4 h5 =>
 aa PP (.st (.c a2) (.c a4) 3) h5 fun a6 h7 =>
 aa PP (.ld (.c a2) 3 true) h7 fun a8 _ =>
 K a8 h7
theorem zR (a0:D) (h0:Heap) (K:HKq):u5 a0 h0 K=fP vI K [a0] h0:=by kernel_rfl
def rE:TLq
 | _=>none
def uc:TTq
 | 2=>some ([0,1,3,7,15,0,0,64,192,448,960,0,4032,8128,16320,0,32768,131008,262143,524287,1048575],[17,20],[4,18])|_=>none
noncomputable abbrev nT:=cFn PP true aE rE (cDr PP 32 uc)
noncomputable def oh:aJ:=⟨32,aP nT,[]⟩
theorem tG:nT=some oh:=by kernel_rfl
def nC (a0:D) (a1:D) (h0:Heap) (K:HKq):Prop :=
 aa PP (.box (.c a1)) h0 fun a3 h4 =>
 aa PP (.fadd (.c a0) 0) h4 fun a5 h6 =>
 aa PP (.fadd (.c a5) 2) h6 fun a7 h8 =>
 aa PP (.fadd (.c a7) 7) h8 fun a9 h10 =>
 aa PP (.ld (.c a9) 1 false) h10 fun a11 h12 =>
 aH a11 h12 fun a13 =>
 vbin .sub a13 (.int .i64 1) fun a14 =>
 ae PP (.fadd (.c a0) 0) h12 fun a15 =>
 ae PP (.fadd (.c a15) 2) h12 fun a16 =>
 ae PP (.fadd (.c a16) 7) h12 fun a17 =>
 ae PP (.ld (.c a17) 1 false) h12 fun a18 =>
 ae PP (.fadd (.c a0) 0) h12 fun a19 =>
 ae PP (.fadd (.c a19) 2) h12 fun a20 =>
 ae PP (.fadd (.c a20) 7) h12 fun a21 =>
 ae PP (.ld (.c a21) 1 false) h12 fun a22 =>
 ae PP (.iadd (.c a22) (.c a14) 14) h12 fun a23 =>
 ae PP (.fadd (.c a23) 0) h12 fun a24 =>
 ae PP (.ld (.c a24) 1 false) h12 fun a25 =>
 ae PP (.ld (.c a3) 15 true) h12 fun a26 =>
 ae PP (.bldS false 15 1 (.agg [zI,zI,zI,zI,zI,zJ,zI,zI,zJ,zI,zI,zJ,zI,zI,zJ]) [(0,(.c a26))]) h12 fun a27 =>
 ae PP (.iadd (.c a18) (.c a14) 14) h12 fun a28 =>
 ae PP (.fadd (.c a28) 0) h12 fun a29 =>
 aa PP (.app (.c a25) (.c a27) 15 120 (.agg [zI,zI,zI,zI,zI,zJ,zI,zI,zJ,zI,zI,zJ,zI,zI,zJ])) h12 fun a30 h31 =>
 ((ae PP (.ld (.c a17) 1 false) h31 fun a32=>aC [a32] [a18])/\(ae PP (.iadd (.c a18) (.c a14) 14) h31 fun a33=>aC [a33] [a28])/\True) /\
 aa PP (.st (.c a29) (.c a30) 1) h31 fun a34 h35 =>
 ((ae PP (.ld (.c a17) 1 false) h35 fun a36=>aC [a36] [a18])/\(ae PP (.iadd (.c a18) (.c a14) 14) h35 fun a37=>aC [a37] [a28])/\True) /\
 K (.tup []) h35
theorem s7 (a0:D) (a1:D) (h0:Heap) (K:HKq):nC a0 a1 h0 K=fP oh K [a0,a1] h0:=by kernel_rfl
def qc:TLq
 | _=>none
def sh:TTq
 | 18=>some ([0,0,0,4,12,30,62,0,0,0,524,2046,4095],[3,10,12],[999999])|21=>some ([0,0,0,4,0,30,63],[3,6],[999999])|22=>some ([0,0,0,0,8,30,63],[4,6],[999999])|_=>none
noncomputable abbrev mP:=cFn PP true gT qc (cDr PP 133 sh)
noncomputable def mX:aJ:=⟨133,aP mP,[]⟩
theorem rT:mP=some mX:=by kernel_rfl
def mI (a0:D) (h0:Heap) (K:HKq):Prop :=
 ah PP aq [a0] h0 fun a2 h3 =>
 vbin .rem a2 (.int .i64 16) fun a4 =>
 vbin .lss a4 (.int .i64 3) fun a5 =>
 vcond a5 (ah PP aq [a0] h3 fun a6 h7 =>
 vbin .rem a6 (.int .i64 7) fun a8 =>
 vbin .add (.int .i64 1) a8 fun a9 =>
 ah PP aM [a0] h7 fun a10 h11 =>
 aa PP (.bld [zI,zI,zI,zI,zI,zJ,zI,zI,zJ,zI,zI,zJ,zI,zI,zJ] [(0,1,(.c (.int .i64 5))),(1,1,(.c a9)),(3,3,(.c a10))]) h11 fun a12 h13 =>
 ah PP aE [a0,a12] h13 fun a14 h15 =>
 K (.tup []) h15) (
 vbin .lss a4 (.int .i64 7) fun a16 =>
 vcond a16 (ah PP aq [a0] h3 fun a17 h18 =>
 vbin .rem a17 (.int .i64 20) fun a19 =>
 vbin .add (.int .i64 10) a19 fun a20 =>
 ah PP aM [a0] h18 fun a21 h22 =>
 ah PP aK [a0] h22 fun a23 h24 =>
 ah PP aK [a0] h24 fun a25 h26 =>
 aa PP (.bld [zI,zI,zI,zI,zI,zJ,zI,zI,zJ,zI,zI,zJ,zI,zI,zJ] [(0,1,(.c (.int .i64 3))),(1,1,(.c a20)),(3,3,(.c a21)),(6,3,(.c a23)),(9,3,(.c a25))]) h26 fun a27 h28 =>
 ah PP aE [a0,a27] h28 fun a29 h30 =>
 K (.tup []) h30) (
 vbin .eql a4 (.int .i64 7) fun a31 =>
 vcond a31 (ah PP aq [a0] h3 fun a32 h33 =>
 vbin .rem a32 (.int .i64 5) fun a34 =>
 vbin .add (.int .i64 1) a34 fun a35 =>
 ah PP aM [a0] h33 fun a36 h37 =>
 ah PP aK [a0] h37 fun a38 h39 =>
 aa PP (.bld [zI,zI,zI,zI,zI,zJ,zI,zI,zJ,zI,zI,zJ,zI,zI,zJ] [(0,1,(.c (.int .i64 2))),(1,1,(.c a35)),(3,3,(.c a36)),(6,3,(.c a38))]) h39 fun a40 h41 =>
 ah PP aE [a0,a40] h41 fun a42 h43 =>
 K (.tup []) h43) (
 vbin .eql a4 (.int .i64 8) fun a44 =>
 vcond a44 (ah PP aM [a0] h3 fun a45 h46 =>
 ah PP aK [a0] h46 fun a47 h48 =>
 ah PP aK [a0] h48 fun a49 h50 =>
 ah PP aK [a0] h50 fun a51 h52 =>
 aa PP (.bld [zI,zI,zI,zI,zI,zJ,zI,zI,zJ,zI,zI,zJ,zI,zI,zJ] [(0,1,(.c (.int .i64 4))),(3,3,(.c a45)),(6,3,(.c a47)),(9,3,(.c a49)),(12,3,(.c a51))]) h52 fun a53 h54 =>
 ah PP aE [a0,a53] h54 fun a55 h56 =>
 K (.tup []) h56) (
 vbin .eql a4 (.int .i64 9) fun a57 =>
 vcond a57 (ah PP aM [a0] h3 fun a58 h59 =>
 ah PP aK [a0] h59 fun a60 h61 =>
 aa PP (.bld [zI,zI,zI,zI,zI,zJ,zI,zI,zJ,zI,zI,zJ,zI,zI,zJ] [(0,1,(.c (.int .i64 1))),(3,3,(.c a58)),(6,3,(.c a60))]) h61 fun a62 h63 =>
 ah PP aE [a0,a62] h63 fun a64 h65 =>
 K (.tup []) h65) (
 vbin .eql a4 (.int .i64 10) fun a66 =>
 vcond a66 (ah PP aq [a0] h3 fun a67 h68 =>
 vbin .rem a67 (.int .i64 3) fun a69 =>
 ah PP aM [a0] h68 fun a70 h71 =>
 aa PP (.bld [zI,zI,zI,zI,zI,zJ,zI,zI,zJ,zI,zI,zJ,zI,zI,zJ] [(0,1,(.c (.int .i64 6))),(2,1,(.c a69)),(3,3,(.c a70))]) h71 fun a72 h73 =>
 ah PP aE [a0,a72] h73 fun a74 h75 =>
 K (.tup []) h75) (
 vbin .eql a4 (.int .i64 11) fun a76 =>
 vcond a76 (ah PP aq [a0] h3 fun a77 h78 =>
 vbin .rem a77 (.int .i64 2) fun a79 =>
 vbin .add (.int .i64 1) a79 fun a80 =>
 aa PP (.bld [zI,zI,zI,zI,zI,zJ,zI,zI,zJ,zI,zI,zJ,zI,zI,zJ] [(0,1,(.c (.int .i64 10))),(1,1,(.c a80))]) h78 fun a81 h82 =>
 ah PP aE [a0,a81] h82 fun a83 h84 =>
 K (.tup []) h84) (
 vbin .eql a4 (.int .i64 12) fun a85 =>
 vcond a85 (ah PP dY [a0,(.bool false)] h3 fun a86 h87 =>
 aa PP (.ext (.c a86) 0) h87 fun a88 h89 =>
 aa PP (.ext (.c a86) 1) h89 fun a90 h91 =>
 aa PP (.alloc (.agg [zI,zI,zJ])) h91 fun a92 h93 =>
 aa PP (.st (.c a92) (.c a90) 3) h93 fun a94 h95 =>
 ae PP (.bldS false 1 6 (.int .i64 0) [(0,(.c (.int .i64 10))),(1,(.c (.int .i64 22))),(2,(.c (.int .i64 23))),(3,(.c (.int .i64 17))),(4,(.c (.int .i64 18))),(5,(.c (.int .i64 19)))]) h95 fun a96 =>
 ae PP (.ld (.c a92) 3 true) h95 fun a97 =>
 ah PP aq [a0] h95 fun a98 h99 =>
 ((ae PP (.ld (.c a92) 3 true) h99 fun a100=>aC [a100] [a97])/\True) /\
 vbin .rem a98 (.int .i64 6) fun a101 =>
 ae PP (.iadd (.c a96) (.c a101) 1) h99 fun a102 =>
 ae PP (.ld (.c a102) 1 false) h99 fun a103 =>
 ah PP aK [a0] h99 fun a104 h105 =>
 ((ae PP (.iadd (.c a96) (.c a101) 1) h105 fun a106=>aC [a106] [a102])/\(ae PP (.ld (.c a102) 1 false) h105 fun a107=>aC [a107] [a103])/\(ae PP (.ld (.c a92) 3 true) h105 fun a108=>aC [a108] [a97])/\True) /\
 ae PP (.bld [zI,zI,zI,zI,zI,zJ,zI,zI,zJ,zI,zI,zJ,zI,zI,zJ] [(0,1,(.c (.int .i64 9))),(1,1,(.c a103)),(2,1,(.c a88)),(6,3,(.c a97)),(9,3,(.c a104))]) h105 fun a109 =>
 ah PP aE [a0,a109] h105 fun a110 h111 =>
 K (.tup []) h111) (
 ah PP dY [a0,(.bool true)] h3 fun a112 h113 =>
 aa PP (.ext (.c a112) 0) h113 fun a114 h115 =>
 aa PP (.ext (.c a112) 1) h115 fun a116 h117 =>
 aa PP (.alloc (.agg [zI,zI,zJ])) h117 fun a118 h119 =>
 aa PP (.st (.c a118) (.c a116) 3) h119 fun a120 h121 =>
 vbin .eql a4 (.int .i64 13) fun a122 =>
 vcond a122 (ae PP (.ld (.c a118) 3 true) h121 fun a123 =>
 ah PP aM [a0] h121 fun a124 h125 =>
 ((ae PP (.ld (.c a118) 3 true) h125 fun a126=>aC [a126] [a123])/\True) /\
 ae PP (.bld [zI,zI,zI,zI,zI,zJ,zI,zI,zJ,zI,zI,zJ,zI,zI,zJ] [(0,1,(.c (.int .i64 7))),(2,1,(.c a114)),(3,3,(.c a124)),(6,3,(.c a123))]) h125 fun a127 =>
 ah PP aE [a0,a127] h125 fun a128 h129 =>
 K (.tup []) h129) (
 ae PP (.ld (.c a118) 3 true) h121 fun a130 =>
 ah PP aK [a0] h121 fun a131 h132 =>
 ((ae PP (.ld (.c a118) 3 true) h132 fun a133=>aC [a133] [a130])/\True) /\
 ae PP (.bld [zI,zI,zI,zI,zI,zJ,zI,zI,zJ,zI,zI,zJ,zI,zI,zJ] [(0,1,(.c (.int .i64 8))),(2,1,(.c a114)),(6,3,(.c a130)),(9,3,(.c a131))]) h132 fun a134 =>
 ah PP aE [a0,a134] h132 fun a135 h136 =>
 K (.tup []) h136)))))))))
theorem rN (a0:D) (h0:Heap) (K:HKq):mI a0 h0 K=fP mX K [a0] h0:=by kernel_rfl
def zt:TLq
 | _=>none
def B5:TTq
 | _=>none
noncomputable abbrev yF:=cFn PP true pW zt (cDr PP 30 B5)
noncomputable def yS:aJ:=⟨30,aP yF,[.t 2]⟩
theorem Bt:yF=some yS:=by kernel_rfl
def yr (a0:D) (h0:Heap) (K:HKq):Prop :=
 aa PP (.box (.c a0)) h0 fun a2 h3 =>
 aa PP (.fadd (.c a2) 0) h3 fun a4 h5 =>
 aa PP (.ld (.c a4) 1 false) h5 fun a6 h7 =>
 vbin .eql a6 (.int .i64 5) fun a8 =>
 vcond a8 (aa PP (.bldS true 1 0 (.int .i64 0) []) h7 fun a9 h10 =>
 K a9 h10) (
 aa PP (.fadd (.c a2) 0) h7 fun a11 h12 =>
 aa PP (.ld (.c a11) 1 false) h12 fun a13 h14 =>
 vbin .eql a13 (.int .i64 2) fun a15 =>
 vguard a15 true (fun G16 =>
 aa PP (.fadd (.c a2) 11) h14 fun a19 h20 =>
 G16 a19 h20) h14 fun a17 h18 =>
 vguard a15 true (fun G21 =>
 aa PP (.iadda (.c a17) (.c (.int .i64 0)) 2 1) h18 fun a24 h25 =>
 G21 a24 h25) h18 fun a22 h23 =>
 vguard a15 true (fun G26 =>
 aa PP (.ld (.c a22) 1 false) h23 fun a29 h30 =>
 G26 a29 h30) h23 fun a27 h28 =>
 vguard a15 true (fun G31 =>
 aa PP (.fadd (.c a2) 11) h28 fun a34 h35 =>
 G31 a34 h35) h28 fun a32 h33 =>
 vguard a15 true (fun G36 =>
 aa PP (.iadda (.c a32) (.c (.int .i64 1)) 2 1) h33 fun a39 h40 =>
 G36 a39 h40) h33 fun a37 h38 =>
 vguard a15 true (fun G41 =>
 aa PP (.ld (.c a37) 1 false) h38 fun a44 h45 =>
 G41 a44 h45) h38 fun a42 h43 =>
 vguard a15 true (fun G46 =>
 vbin .neq a27 a42 fun a49 =>
 G46 a49 h43) h43 fun a47 h48 =>
 aa PP (.pick (.c a15) (.c a47) (.c (.bool false))) h48 fun a50 h51 =>
 vcond a50 (aa PP (.fadd (.c a2) 11) h51 fun a52 h53 =>
 aa PP (.iadda (.c a52) (.c (.int .i64 0)) 2 1) h53 fun a54 h55 =>
 aa PP (.ld (.c a54) 1 false) h55 fun a56 h57 =>
 aa PP (.fadd (.c a2) 11) h57 fun a58 h59 =>
 aa PP (.iadda (.c a58) (.c (.int .i64 1)) 2 1) h59 fun a60 h61 =>
 aa PP (.ld (.c a60) 1 false) h61 fun a62 h63 =>
 aa PP (.bldS true 1 2 (.int .i64 0) [(0,(.c a56)),(1,(.c a62))]) h63 fun a64 h65 =>
 K a64 h65) (
 aa PP (.fadd (.c a2) 11) h51 fun a66 h67 =>
 aa PP (.iadda (.c a66) (.c (.int .i64 0)) 2 1) h67 fun a68 h69 =>
 aa PP (.ld (.c a68) 1 false) h69 fun a70 h71 =>
 aa PP (.bldS true 1 1 (.int .i64 0) [(0,(.c a70))]) h71 fun a72 h73 =>
 K a72 h73))
theorem Bi (a0:D) (h0:Heap) (K:HKq):yr a0 h0 K=fP yS K [a0] h0:=by kernel_rfl
def zr:TLq
 | 1000017=>some ([7],[])|6=>some ([0,2,7],[8])|10=>some ([0,2,7,9],[8,10])|1000012=>some ([0,2,7,9,10],[8])|_=>none
def B4:TTq
 | _=>none
noncomputable abbrev yE:=cFn PP true iQ zr (cDr PP 66 B4)
noncomputable def yQ:aJ:=⟨66,aP yE,[.t 6]⟩
theorem Br:yE=some yQ:=by kernel_rfl
def qH (a27:D) (h28:Heap) (a0:D) (a25:D) (a2:D) (a5:D) (n18:Nat) (I17:Nat->HJq):Prop :=
 ∃(I29:Nat->HJq) (n₀:Nat),I29 n₀ [a27,(.int .i64 0)] h28/\∀(n30:Nat) (f31:Nat->D) (h32:Heap),I29 n30 [f31 8,f31 10] h32 ->
 aa PP (.iadd (.c a0) (.c a25) 1) h32 fun a33 h34 =>
 aa PP (.ld (.c a33) 1 false) h34 fun a35 h36 =>
 aH a35 h36 fun a37 =>
 vbin .lss (f31 10) a37 fun a38 =>
 vcond a38 (∃(J39:HJq),(∀(f40:Nat->D) (h41:Heap),J39 [f40 8] h41 ->
 vbin .add (f31 10) (.int .i64 1) fun a42 =>
 aC [a0,a2,a5,a25] [a0,a2,a5,a25]/\∃m,m<n30/\I29 m [(f40 8),a42] h41) /\
 aa PP (.iadd (.c a0) (.c a25) 1) h36 fun a43 h44 =>
 aa PP (.ld (.c a43) 1 false) h44 fun a45 h46 =>
 aa PP (.iadd (.c a45) (.c (f31 10)) 1) h46 fun a47 h48 =>
 aa PP (.ld (.c a47) 1 false) h48 fun a49 h50 =>
 aa PP (.iadd (.c a5) (.c a49) 1) h50 fun a51 h52 =>
 aa PP (.ld (.c a51) 1 false) h52 fun a53 h54 =>
 vun .not a53 fun a55 =>
 vguard a55 true (fun G56 =>
 G56 a49 h54) h54 fun a57 h58 =>
 vguard a55 true (fun G59 =>
 G59 a2 h58) h58 fun a60 h61 =>
 vguard a55 true (fun G62 =>
 vbin .neq a57 a60 fun a65 =>
 G62 a65 h61) h61 fun a63 h64 =>
 aa PP (.pick (.c a55) (.c a63) (.c (.bool false))) h64 fun a66 h67 =>
 vcond a66 (aa PP (.iadd (.c a5) (.c a49) 1) h67 fun a68 h69 =>
 aa PP (.st (.c a68) (.c (.bool true)) 1) h69 fun a70 h71 =>
 aa PP (.bldS true 1 1 (.int .i64 0) [(0,(.c a49))]) h71 fun a72 h73 =>
 aa PP (.app (.c (f31 8)) (.c a72) 1 8 (.int .i64 0)) h73 fun a74 h75 =>
 aC [a0,a2,a5,a25,(f31 10)] [a0,a2,a5,a25,(f31 10)]/\J39 [a74] h75) (
 aC [a0,a2,a5,a25,(f31 10)] [a0,a2,a5,a25,(f31 10)]/\J39 [(f31 8)] h67)) (
 aC [a0,a2,a5] [a0,a2,a5]/\∃m,m<n18/\I17 m [(f31 8)] h36)
def qG (a12:D) (h13:Heap) (a0:D) (a2:D) (a5:D) (J14:HJq):Prop :=
 ∃(I17:Nat->HJq) (n₀:Nat),I17 n₀ [a12] h13/\∀(n18:Nat) (f19:Nat->D) (h20:Heap),I17 n18 [f19 8] h20 ->
 aH (f19 8) h20 fun a21 =>
 vbin .gtr a21 (.int .i64 0) fun a22 =>
 vcond a22 (aa PP (.iadd (.c (f19 8)) (.c (.int .i64 0)) 1) h20 fun a23 h24 =>
 aa PP (.ld (.c a23) 1 false) h24 fun a25 h26 =>
 aa PP (.yZ (.c (f19 8)) (some (.c (.int .i64 1))) none none 1) h26 fun a27 h28 =>
 qH a27 h28 a0 a25 a2 a5 n18 I17) (
 aC [a5] [a5]/\J14 [] h20)
def yp (a0:D) (a1:D) (a2:D) (h0:Heap) (K:HKq):Prop :=
 aH a0 h0 fun a4 =>
 aa PP (.mk 1 1 (.bool false) (.c a4) (.c a4)) h0 fun a5 h6 =>
 vbin .eql a1 a2 fun a7 =>
 vcond a7 (K a5 h6) (
 aa PP (.iadd (.c a5) (.c a1) 1) h6 fun a8 h9 =>
 aa PP (.st (.c a8) (.c (.bool true)) 1) h9 fun a10 h11 =>
 aa PP (.bldS true 1 1 (.int .i64 0) [(0,(.c a1))]) h11 fun a12 h13 =>
 ∃(J14:HJq),(∀(f15:Nat->D) (h16:Heap),J14 [] h16 ->
 K a5 h16) /\
 qG a12 h13 a0 a2 a5 J14)
theorem Bh (a0:D) (a1:D) (a2:D) (h0:Heap) (K:HKq):yp a0 a1 a2 h0 K=fP yQ K [a0,a1,a2] h0:=by kernel_rfl
def xQ:TLq
 | 1000007=>some ([],[3])|3=>some ([1],[3,4])|_=>none
def AW:TTq
 | _=>none
noncomputable abbrev vj:=cFn PP true jV xQ (cDr PP 24 AW)
noncomputable def vC:aJ:=⟨24,aP vj,[.t 2]⟩
theorem zY:vj=some vC:=by kernel_rfl
def pq (a4:D) (h5:Heap) (a2:D) (J6:HJq):Prop :=
 ∃(I9:Nat->HJq) (n₀:Nat),I9 n₀ [a4,(.int .i64 0)] h5/\∀(n10:Nat) (f11:Nat->D) (h12:Heap),I9 n10 [f11 3,f11 4] h12 ->
 aa PP (.fadd (.c a2) 7) h12 fun a13 h14 =>
 aa PP (.ld (.c a13) 1 false) h14 fun a15 h16 =>
 aH a15 h16 fun a17 =>
 vbin .lss (f11 4) a17 fun a18 =>
 vcond a18 (aa PP (.fadd (.c a2) 7) h16 fun a19 h20 =>
 aa PP (.ld (.c a19) 1 false) h20 fun a21 h22 =>
 aa PP (.iadd (.c a21) (.c (f11 4)) 14) h22 fun a23 h24 =>
 aa PP (.fadd (.c a23) 1) h24 fun a25 h26 =>
 aa PP (.ld (.c a25) 13 true) h26 fun a27 h28 =>
 ah PP iP [a27] h28 fun a29 h30 =>
 aa PP (.bldS true 1 1 .nil [(0,(.c a29))]) h30 fun a31 h32 =>
 aa PP (.app (.c (f11 3)) (.c a31) 1 24 .nil) h32 fun a33 h34 =>
 vbin .add (f11 4) (.int .i64 1) fun a35 =>
 aC [a2] [a2]/\∃m,m<n10/\I9 m [a33,a35] h34) (
 aC [] []/\J6 [(f11 3)] h16)
def uY (a0:D) (h0:Heap) (K:HKq):Prop :=
 aa PP (.box (.c a0)) h0 fun a2 h3 =>
 aa PP (.bldS true 1 0 .nil []) h3 fun a4 h5 =>
 ∃(J6:HJq),(∀(f7:Nat->D) (h8:Heap),J6 [f7 3] h8 ->
 K (f7 3) h8) /\
 pq a4 h5 a2 J6
theorem zO (a0:D) (h0:Heap) (K:HKq):uY a0 h0 K=fP vC K [a0] h0:=by kernel_rfl
def zq:TLq
 | _=>none
def B3:TTq
 | _=>none
noncomputable abbrev yD:=cFn PP true iP zq (cDr PP 30 B3)
noncomputable def yP:aJ:=⟨30,aP yD,[.t 2]⟩
theorem Bq:yD=some yP:=by kernel_rfl
def yo (a0:D) (h0:Heap) (K:HKq):Prop :=
 aa PP (.box (.c a0)) h0 fun a2 h3 =>
 aa PP (.fadd (.c a2) 0) h3 fun a4 h5 =>
 aa PP (.ld (.c a4) 1 false) h5 fun a6 h7 =>
 vbin .eql a6 (.int .i64 5) fun a8 =>
 vcond a8 (aa PP (.bldS true 1 0 (.int .i64 0) []) h7 fun a9 h10 =>
 K a9 h10) (
 aa PP (.fadd (.c a2) 0) h7 fun a11 h12 =>
 aa PP (.ld (.c a11) 1 false) h12 fun a13 h14 =>
 vbin .eql a13 (.int .i64 2) fun a15 =>
 vguard a15 true (fun G16 =>
 aa PP (.fadd (.c a2) 11) h14 fun a19 h20 =>
 G16 a19 h20) h14 fun a17 h18 =>
 vguard a15 true (fun G21 =>
 aa PP (.iadda (.c a17) (.c (.int .i64 0)) 2 1) h18 fun a24 h25 =>
 G21 a24 h25) h18 fun a22 h23 =>
 vguard a15 true (fun G26 =>
 aa PP (.ld (.c a22) 1 false) h23 fun a29 h30 =>
 G26 a29 h30) h23 fun a27 h28 =>
 vguard a15 true (fun G31 =>
 aa PP (.fadd (.c a2) 11) h28 fun a34 h35 =>
 G31 a34 h35) h28 fun a32 h33 =>
 vguard a15 true (fun G36 =>
 aa PP (.iadda (.c a32) (.c (.int .i64 1)) 2 1) h33 fun a39 h40 =>
 G36 a39 h40) h33 fun a37 h38 =>
 vguard a15 true (fun G41 =>
 aa PP (.ld (.c a37) 1 false) h38 fun a44 h45 =>
 G41 a44 h45) h38 fun a42 h43 =>
 vguard a15 true (fun G46 =>
 vbin .neq a27 a42 fun a49 =>
 G46 a49 h43) h43 fun a47 h48 =>
 aa PP (.pick (.c a15) (.c a47) (.c (.bool false))) h48 fun a50 h51 =>
 vcond a50 (aa PP (.fadd (.c a2) 11) h51 fun a52 h53 =>
 aa PP (.iadda (.c a52) (.c (.int .i64 0)) 2 1) h53 fun a54 h55 =>
 aa PP (.ld (.c a54) 1 false) h55 fun a56 h57 =>
 aa PP (.fadd (.c a2) 11) h57 fun a58 h59 =>
 aa PP (.iadda (.c a58) (.c (.int .i64 1)) 2 1) h59 fun a60 h61 =>
 aa PP (.ld (.c a60) 1 false) h61 fun a62 h63 =>
 aa PP (.bldS true 1 2 (.int .i64 0) [(0,(.c a56)),(1,(.c a62))]) h63 fun a64 h65 =>
 K a64 h65) (
 aa PP (.fadd (.c a2) 11) h51 fun a66 h67 =>
 aa PP (.iadda (.c a66) (.c (.int .i64 0)) 2 1) h67 fun a68 h69 =>
 aa PP (.ld (.c a68) 1 false) h69 fun a70 h71 =>
 aa PP (.bldS true 1 1 (.int .i64 0) [(0,(.c a70))]) h71 fun a72 h73 =>
 K a72 h73))
theorem Bg (a0:D) (h0:Heap) (K:HKq):yo a0 h0 K=fP yP K [a0] h0:=by kernel_rfl
def xR:TLq
 | _=>none
def AX:TTq
 | _=>none
noncomputable abbrev vk:=cFn PP true cT xR (cDr PP 22 AX)
noncomputable def vG:aJ:=⟨22,aP vk,[.t 6]⟩
theorem zZ:vk=some vG:=by kernel_rfl
def uZ (a0:D) (a1:D) (a2:D) (h0:Heap) (K:HKq):Prop :=
 vbin .eql a1 a2 fun a4 =>
 vguard a4 false (fun G5 =>
 G5 a0 h0) h0 fun a6 h7 =>
 vguard a4 false (fun G8 =>
 G8 a1 h7) h7 fun a9 h10 =>
 vguard a4 false (fun G11 =>
 G11 a2 h10) h10 fun a12 h13 =>
 vguard a4 false (fun G14 =>
 ah PP iQ [a6,a9,a12] h13 fun a17 h18 =>
 G14 a17 h18) h13 fun a15 h16 =>
 vguard a4 false (fun G19 =>
 G19 a0 h16) h16 fun a20 h21 =>
 vguard a4 false (fun G22 =>
 aH a20 h21 fun a25 =>
 G22 a25 h21) h21 fun a23 h24 =>
 vguard a4 false (fun G26 =>
 vbin .sub a23 (.int .i64 1) fun a29 =>
 G26 a29 h24) h24 fun a27 h28 =>
 vguard a4 false (fun G30 =>
 aa PP (.iadd (.c a15) (.c a27) 1) h28 fun a33 h34 =>
 G30 a33 h34) h28 fun a31 h32 =>
 vguard a4 false (fun G35 =>
 aa PP (.ld (.c a31) 1 false) h32 fun a38 h39 =>
 G35 a38 h39) h32 fun a36 h37 =>
 vguard a4 false (fun G40 =>
 vun .not a36 fun a43 =>
 G40 a43 h37) h37 fun a41 h42 =>
 aa PP (.pick (.c a4) (.c (.bool true)) (.c a41)) h42 fun a44 h45 =>
 K a44 h45
theorem zP (a0:D) (a1:D) (a2:D) (h0:Heap) (K:HKq):uZ a0 a1 a2 h0 K=fP vG K [a0,a1,a2] h0:=by kernel_rfl
def sy:TLq
 | _=>none
def vV:TTq
 | _=>none
noncomputable abbrev pG:=cFn PP true bV sy (cDr PP 16 vV)
noncomputable def pK:aJ:=⟨16,aP pG,[.t 4]⟩
theorem uG:pG=some pK:=by kernel_rfl
def pj (a0:D) (a1:D) (h0:Heap) (K:HKq):Prop :=
 aa PP (.box (.c a0)) h0 fun a3 h4 =>
 aa PP (.box (.c a1)) h4 fun a5 h6 =>
 aa PP (.fadd (.c a5) 0) h6 fun a7 h8 =>
 aa PP (.ld (.c a7) 1 false) h8 fun a9 h10 =>
 vbin .neq a9 (.int .i64 2) fun a11 =>
 vguard a11 false (fun G12 =>
 aa PP (.fadd (.c a3) 1) h10 fun a15 h16 =>
 G12 a15 h16) h10 fun a13 h14 =>
 vguard a11 false (fun G17 =>
 aa PP (.ld (.c a13) 1 false) h14 fun a20 h21 =>
 G17 a20 h21) h14 fun a18 h19 =>
 vguard a11 false (fun G22 =>
 aa PP (.fadd (.c a5) 1) h19 fun a25 h26 =>
 G22 a25 h26) h19 fun a23 h24 =>
 vguard a11 false (fun G27 =>
 aa PP (.ld (.c a23) 1 false) h24 fun a30 h31 =>
 G27 a30 h31) h24 fun a28 h29 =>
 vguard a11 false (fun G32 =>
 aa PP (.iadd (.c a18) (.c a28) 1) h29 fun a35 h36 =>
 G32 a35 h36) h29 fun a33 h34 =>
 vguard a11 false (fun G37 =>
 aa PP (.ld (.c a33) 1 false) h34 fun a40 h41 =>
 G37 a40 h41) h34 fun a38 h39 =>
 aa PP (.pick (.c a11) (.c (.bool true)) (.c a38)) h39 fun a42 h43 =>
 K a42 h43
theorem uy (a0:D) (a1:D) (h0:Heap) (K:HKq):pj a0 a1 h0 K=fP pK K [a0,a1] h0:=by kernel_rfl
def zv:TLq
 | _=>none
def B7:TTq
 | _=>none
noncomputable abbrev yH:=cFn PP true pY zv (cDr PP 10 B7)
noncomputable def yU:aJ:=⟨10,aP yH,[.t 2]⟩
theorem Bv:yH=some yU:=by kernel_rfl
def yu (a0:D) (h0:Heap) (K:HKq):Prop :=
 aa PP (.box (.c a0)) h0 fun a2 h3 =>
 aa PP (.fadd (.c a2) 2) h3 fun a4 h5 =>
 aa PP (.fadd (.c a4) 0) h5 fun a6 h7 =>
 aa PP (.ld (.c a6) 1 false) h7 fun a8 h9 =>
 vbin .eql a8 (.int .i64 2) fun a10 =>
 vcond a10 (aa PP (.fadd (.c a2) 2) h9 fun a11 h12 =>
 aa PP (.fadd (.c a11) 1) h12 fun a13 h14 =>
 aa PP (.ld (.c a13) 1 false) h14 fun a15 h16 =>
 K a15 h16) (
 K (.int .i64 (-1)) h9)
theorem Bk (a0:D) (h0:Heap) (K:HKq):yu a0 h0 K=fP yU K [a0] h0:=by kernel_rfl
def A7:TLq
 | _=>none
def DJ:TTq
 | _=>none
noncomputable abbrev AH:=cFn PP true sr A7 (cDr PP 10 DJ)
noncomputable def AO:aJ:=⟨10,aP AH,[.t 2]⟩
theorem Dv:AH=some AO:=by kernel_rfl
def Az (a0:D) (h0:Heap) (K:HKq):Prop :=
 aa PP (.box (.c a0)) h0 fun a2 h3 =>
 aa PP (.fadd (.c a2) 3) h3 fun a4 h5 =>
 aa PP (.fadd (.c a4) 0) h5 fun a6 h7 =>
 aa PP (.ld (.c a6) 1 false) h7 fun a8 h9 =>
 vbin .eql a8 (.int .i64 2) fun a10 =>
 vcond a10 (aa PP (.fadd (.c a2) 3) h9 fun a11 h12 =>
 aa PP (.fadd (.c a11) 1) h12 fun a13 h14 =>
 aa PP (.ld (.c a13) 1 false) h14 fun a15 h16 =>
 K a15 h16) (
 K (.int .i64 (-1)) h9)
theorem C6 (a0:D) (h0:Heap) (K:HKq):Az a0 h0 K=fP AO K [a0] h0:=by kernel_rfl
def wz:TLq
 | 1000008=>some ([1,4],[5])|_=>none
def y7:TTq
 | _=>none
noncomputable abbrev tp:=cFn PP true mm wz (cDr PP 26 y7)
noncomputable def tC:aJ:=⟨26,aP tp,[.t 2]⟩
theorem yM:tp=some tC:=by kernel_rfl
def sV (a0:D) (h0:Heap) (K:HKq):Prop :=
 aa PP (.box (.c a0)) h0 fun a2 h3 =>
 aa PP (.fadd (.c a2) 0) h3 fun a4 h5 =>
 aa PP (.ld (.c a4) 1 false) h5 fun a6 h7 =>
 ∃(J8:HJq),(∀(f9:Nat->D) (h10:Heap),J8 [f9 5] h10 ->
 vcond (f9 5) (K (.bool true) h10) (
 vbin .eql a6 (.int .i64 5) fun a11 =>
 vcond a11 (aa PP (.fadd (.c a2) 1) h10 fun a12 h13 =>
 aa PP (.ld (.c a12) 1 false) h13 fun a14 h15 =>
 vbin .eql a14 (.int .i64 3) fun a16 =>
 vguard a16 false (fun G17 =>
 aa PP (.fadd (.c a2) 1) h15 fun a20 h21 =>
 G17 a20 h21) h15 fun a18 h19 =>
 vguard a16 false (fun G22 =>
 aa PP (.ld (.c a18) 1 false) h19 fun a25 h26 =>
 G22 a25 h26) h19 fun a23 h24 =>
 vguard a16 false (fun G27 =>
 vbin .eql a23 (.int .i64 4) fun a30 =>
 G27 a30 h24) h24 fun a28 h29 =>
 aa PP (.pick (.c a16) (.c (.bool true)) (.c a28)) h29 fun a31 h32 =>
 vguard a31 false (fun G33 =>
 aa PP (.fadd (.c a2) 1) h32 fun a36 h37 =>
 G33 a36 h37) h32 fun a34 h35 =>
 vguard a31 false (fun G38 =>
 aa PP (.ld (.c a34) 1 false) h35 fun a41 h42 =>
 G38 a41 h42) h35 fun a39 h40 =>
 vguard a31 false (fun G43 =>
 vbin .eql a39 (.int .i64 5) fun a46 =>
 G43 a46 h40) h40 fun a44 h45 =>
 aa PP (.pick (.c a31) (.c (.bool true)) (.c a44)) h45 fun a47 h48 =>
 K a47 h48) (
 K (.bool false) h10))) /\
 vbin .eql a6 (.int .i64 1) fun a49 =>
 vcond a49 (aC [a2,a6] [a2,a6]/\J8 [a49] h7) (
 vbin .eql a6 (.int .i64 2) fun a50 =>
 vcond a50 (aC [a2,a6] [a2,a6]/\J8 [a50] h7) (
 vbin .eql a6 (.int .i64 3) fun a51 =>
 vcond a51 (aC [a2,a6] [a2,a6]/\J8 [a51] h7) (
 vbin .eql a6 (.int .i64 4) fun a52 =>
 vcond a52 (aC [a2,a6] [a2,a6]/\J8 [a52] h7) (
 vbin .eql a6 (.int .i64 6) fun a53 =>
 aC [a2,a6] [a2,a6]/\J8 [a53] h7))))
theorem yl (a0:D) (h0:Heap) (K:HKq):sV a0 h0 K=fP tC K [a0] h0:=by kernel_rfl
def dB:TLq
 | 1000005=>some ([2],[])|4000004=>some ([2],[])|_=>none
def dL:TTq
 | _=>none
noncomputable abbrev bN:=cFn PP true bk dB (cDr PP 13 dL)
noncomputable def bP:aJ:=⟨13,aP bN,[.t 4]⟩
theorem dI:bN=some bP:=by kernel_rfl
def ba:ACode:=.reg [⟨(some 5),.alloc (.agg [(.bool false),(.int .i64 0),.nil,(.bool false)]),none⟩,
  ⟨none,.st (.t 5) (.t 7) 4,none⟩]
def aZ:ACode:=.block 1 (.reg [⟨(some 8),.ld (.t 2) 1 false,none⟩,
  ⟨(some 9),.ld (.t 5) 4 true,none⟩,
  ⟨(some 10),.bldS true 4 1 (.agg [(.bool false),(.int .i64 0),.nil,(.bool false)]) [(0,(.t 9))],none⟩,
  ⟨(some 11),.app (.t 8) (.t 10) 4 48 (.agg [(.bool false),(.int .i64 0),.nil,(.bool false)]),none⟩,
  ⟨none,.st (.t 2) (.t 11) 1,none⟩])
def bB (n0:Nat) (B0:cD) (a7:D) (a2:D) (h0:Heap) (K:HKq):Prop :=
 aa PP (.alloc (.agg [(.bool false),zI,.nil,(.bool false)])) h0 fun a100000 h100001 =>
 aa PP (.st (.c a100000) (.c a7) 4) h100001 fun a100002 h100003 =>
 Ex.normal=Ex.normal/\h100003 n0=.lp .ready B0/\aa PP (.ld (.c a2) 1 false) (av h100003 n0 (.lp .busy B0)) fun a100004 h100005 =>
 aa PP (.ld (.c a100000) 4 true) h100005 fun a100006 h100007 =>
 aa PP (.bldS true 4 1 (.agg [(.bool false),zI,.nil,(.bool false)]) [(0,(.c a100006))]) h100007 fun a100008 h100009 =>
 aa PP (.app (.c a100004) (.c a100008) 4 48 (.agg [(.bool false),zI,.nil,(.bool false)])) h100009 fun a100010 h100011 =>
 aa PP (.st (.c a2) (.c a100010) 1) h100011 fun a100012 h100013 =>
 h100013 n0=.lp .busy B0/\K (.bool true) (av h100013 n0 (.lp .ready B0))
theorem cY (n0:Nat) (B0:cD) (a7:D) (a2:D) (h0:Heap) (K:HKq):bB n0 B0 a7 a2 h0 K=EJ PP n0 B0 [7] [a7] [(2,a2)] ba aZ h0 K:=by kernel_rfl
def bK (a0:D) (a1:D) (h0:Heap) (K:HKq):Prop :=
 aa PP (.box (.c a0)) h0 fun a3 h4 =>
 ∃(J5:HJq),(∀(f6:Nat->D) (h7:Heap),J5 [] h7 ->
 aa PP (.ld (.c a3) 1 false) h7 fun a8 h9 =>
 K a8 h9) /\
 Hs PP a1 [7] [(2,a3)] ba aZ h4 fun n10 h11=>ec n10 h11 (
 aC [a3] [a3]/\J5 [] (av h11 n10 .dead)) (fun i0=>False) (False)
theorem dG (a0:D) (a1:D) (h0:Heap) (K:HKq):bK a0 a1 h0 K=fP bP K [a0,a1] h0:=by kernel_rfl
end Go.Am
namespace Go.Am
open Go Go.Proofs
def xU:TLq
 | 1000027=>some ([3],[])|5=>some ([1,3,4,5,24,25],[26])|1000026=>some ([1,3,4,5,24,25,26],[])|1000019=>some ([1,3,4,5,6,9,24,25,26],[])|11=>some ([1,3,4,5,6,9,24,25,26,47,48],[49])|1000018=>some ([1,3,4,5,6,9,24,25,26,47,48,49],[])|4000016=>some ([1,3,4,5,6,9,24,25,26,47,48,49],[4])|20=>some ([1,3,4,5,6,24,25,26,71,72],[73])|1000025=>some ([1,3,4,5,6,24,25,26,71,72,73],[])|_=>none
def A0:TTq
 | 8=>some ([0,1,3,7,0,31,63,127,255,511,1023,2047,4095],[],[])|23=>some ([0,0,0,0,12,28,0,64,252,511,1023],[8,10],[9])|_=>none
noncomputable abbrev vq:=cFn PP true ox xU (cDr PP 95 A0)
noncomputable def vJ:aJ:=⟨95,aP vq,[.t 2]⟩
theorem Ab:vq=some vJ:=by kernel_rfl
def jQ:ACode:=.reg [⟨(some 12),.mov (.t 56),none⟩]
def jP:ACode:=.block 5 (.seq (.seq (.reg [⟨(some 57),.mov (.t 12),none⟩,
  ⟨(some 58),.ld (.t 5) 1 false,none⟩,
  ⟨(some 59),.ld (.t 6) 1 false,none⟩,
  ⟨(some 60),.iadd (.t 58) (.t 59) 1,none⟩,
  ⟨(some 61),.ld (.t 60) 1 false,none⟩,
  ⟨(some 62),.bin .eql (.t 57) (.t 61),none⟩]) <|
 .cond (.t 62) (.exit 4) (.skip)) <|
 .reg [⟨(some 63),.ld (.t 9) 1 false,none⟩,
  ⟨(some 64),.mov (.t 12),none⟩,
  ⟨(some 65),.bldS true 1 1 (.int .i64 0) [(0,(.t 64))],none⟩,
  ⟨(some 66),.app (.t 63) (.t 65) 1 8 (.int .i64 0),none⟩,
  ⟨none,.st (.t 9) (.t 66) 1,none⟩])
def jM (n0:Nat) (B0:cD) (a56:D) (a1:D) (a3:D) (a4:D) (a5:D) (a6:D) (a9:D) (a24:D) (a25:D) (a26:D) (a47:D) (a48:D) (a49:D) (h0:Heap) (K:HKq):Prop :=
 Ex.normal=Ex.normal/\h0 n0=.lp .ready B0/\aa PP (.ld (.c a5) 1 false) (av h0 n0 (.lp .busy B0)) fun a100000 h100001 =>
 aa PP (.ld (.c a6) 1 false) h100001 fun a100002 h100003 =>
 aa PP (.iadd (.c a100000) (.c a100002) 1) h100003 fun a100004 h100005 =>
 aa PP (.ld (.c a100004) 1 false) h100005 fun a100006 h100007 =>
 vbin .eql a56 a100006 fun a100008 =>
 vcond a100008 (h100007 n0=.lp .busy B0/\K (.bool false) (av h100007 n0 (.lp (.done (.exit 4)) B0))) (
 aa PP (.ld (.c a9) 1 false) h100007 fun a100009 h100010 =>
 aa PP (.bldS true 1 1 (.int .i64 0) [(0,(.c a56))]) h100010 fun a100011 h100012 =>
 aa PP (.app (.c a100009) (.c a100011) 1 8 (.int .i64 0)) h100012 fun a100013 h100014 =>
 aa PP (.st (.c a9) (.c a100013) 1) h100014 fun a100015 h100016 =>
 h100016 n0=.lp .busy B0/\K (.bool true) (av h100016 n0 (.lp .ready B0)))
theorem uA (n0:Nat) (B0:cD) (a56:D) (a1:D) (a3:D) (a4:D) (a5:D) (a6:D) (a9:D) (a24:D) (a25:D) (a26:D) (a47:D) (a48:D) (a49:D) (h0:Heap) (K:HKq):jM n0 B0 a56 a1 a3 a4 a5 a6 a9 a24 a25 a26 a47 a48 a49 h0 K=EJ PP n0 B0 [56] [a56] [(1,a1),(3,a3),(4,a4),(5,a5),(6,a6),(9,a9),(24,a24),(25,a25),(26,a26),(47,a47),(48,a48),(49,a49)] jQ jP h0 K:=by kernel_rfl
def gf (h87:Heap) (a88:D) (a2:D) (a9:D) (a13:D) (a17:D) (a42:D) (a26:D) (a28:D) (f31:Nat->D) (a86:D) (J34:HJq):Prop :=
 ∃(I89:Nat->HJq) (n₀:Nat),I89 n₀ [(.int .i64 0)] h87/\∀(n90:Nat) (f91:Nat->D) (h92:Heap),I89 n90 [f91 73] h92 ->
 vbin .lss (f91 73) a88 fun a93 =>
 vcond a93 (∃(J94:HJq),(∀(f95:Nat->D) (h96:Heap),J94 [] h96 ->
 vbin .add (f91 73) (.int .i64 1) fun a97 =>
 aC [a2,a9,a13,a17,a42,a26,a28,(f31 26),a86,a88] [a2,a9,a13,a17,a42,a26,a28,(f31 26),a86,a88]/\∃m,m<n90/\I89 m [a97] h96) /\
 aa PP (.iadd (.c a86) (.c (f91 73)) 1) h92 fun a98 h99 =>
 aa PP (.ld (.c a98) 1 false) h99 fun a100 h101 =>
 aa PP (.fadd (.c a2) 7) h101 fun a102 h103 =>
 aa PP (.ld (.c a102) 1 false) h103 fun a104 h105 =>
 aH a104 h105 fun a106 =>
 vbin .lss a100 a106 fun a107 =>
 vcond a107 (ae PP (.iadd (.c a9) (.c a100) 1) h105 fun a108 =>
 ae PP (.ld (.c a108) 1 false) h105 fun a109 =>
 ae PP (.ld (.c a42) 1 false) h105 fun a110 =>
 ae PP (.bldS false 1 1 (.int .i64 0) [(0,(.c a110))]) h105 fun a111 =>
 ae PP (.iadd (.c a9) (.c a100) 1) h105 fun a112 =>
 aa PP (.app (.c a109) (.c a111) 1 8 (.int .i64 0)) h105 fun a113 h114 =>
 ((ae PP (.iadd (.c a9) (.c a100) 1) h114 fun a115=>aC [a115] [a112])/\True) /\
 aa PP (.st (.c a112) (.c a113) 1) h114 fun a116 h117 =>
 ((ae PP (.iadd (.c a9) (.c a100) 1) h117 fun a118=>aC [a118] [a112])/\True) /\
 aC [a2,a9,a13,a17,a42,a26,a28,(f31 26),a86,a88,(f91 73)] [a2,a9,a13,a17,a42,a26,a28,(f31 26),a86,a88,(f91 73)]/\J94 [] h117) (
 aC [a2,a9,a13,a17,a42,a26,a28,(f31 26),a86,a88,(f91 73)] [a2,a9,a13,a17,a42,a26,a28,(f31 26),a86,a88,(f91 73)]/\J94 [] h105)) (
 aC [a2,a9,a13,a17,a26,a28,(f31 26)] [a2,a9,a13,a17,a26,a28,(f31 26)]/\J34 [] h92)
def jO (h76:Heap) (a119:D) (a2:D) (a9:D) (a13:D) (a17:D) (a42:D) (a75:D) (a26:D) (a28:D) (f31:Nat->D) (a54:D) (J77:HJq) (K:HKq):Prop :=
 ∃(I120:Nat->HJq) (n₀:Nat),I120 n₀ [(.int .i64 0)] h76/\∀(n121:Nat) (f122:Nat->D) (h123:Heap),I120 n121 [f122 49] h123 ->
 vbin .lss (f122 49) a119 fun a124 =>
 vcond a124 (∃(J125:HJq),(∀(f126:Nat->D) (h127:Heap),J125 [] h127 ->
 vbin .add (f122 49) (.int .i64 1) fun a128 =>
 aC [a2,a9,a13,a17,a42,a75,a26,a28,(f31 26),a54,a119] [a2,a9,a13,a17,a42,a75,a26,a28,(f31 26),a54,a119]/\∃m,m<n121/\I120 m [a128] h127) /\
 aa PP (.iadd (.c a54) (.c (f122 49)) 1) h123 fun a129 h130 =>
 aa PP (.ld (.c a129) 1 false) h130 fun a131 h132 =>
 aa PP (.ld (.c a17) 1 false) h132 fun a133 h134 =>
 ah PP Ak [a133,a131] h134 fun a135 h136 =>
 Hs PP a135 [56] [(1,a2),(3,a9),(4,a13),(5,a17),(6,a42),(9,a75),(24,a26),(25,a28),(26,(f31 26)),(47,a54),(48,a119),(49,(f122 49))] jQ jP h136 fun n137 h138=>ec n137 h138 (
 aC [a2,a9,a13,a17,a42,a75,a26,a28,(f31 26),a54,a119,(f122 49)] [a2,a9,a13,a17,a42,a75,a26,a28,(f31 26),a54,a119,(f122 49)]/\J125 [] (av h138 n137 .dead)) (fun i0=>(i0=4/\(aC [a2,a9,a13,a17,a42,a75,a26,a28,(f31 26),a54,a119,(f122 49)] [a2,a9,a13,a17,a42,a75,a26,a28,(f31 26),a54,a119,(f122 49)]/\J125 [] (av h138 n137 .dead)))\/(False)) ((4=1000000/\(K .undef (av h138 n137 .dead)))\/(False))) (
 aC [a2,a9,a13,a17,a42,a75,a26,a28,(f31 26)] [a2,a9,a13,a17,a42,a75,a26,a28,(f31 26)]/\J77 [] h123)
def jN (h27:Heap) (a28:D) (a2:D) (a9:D) (a13:D) (a17:D) (a26:D) (J21:HJq) (K:HKq):Prop :=
 ∃(I29:Nat->HJq) (n₀:Nat),I29 n₀ [(.int .i64 0)] h27/\∀(n30:Nat) (f31:Nat->D) (h32:Heap),I29 n30 [f31 26] h32 ->
 vbin .lss (f31 26) a28 fun a33 =>
 vcond a33 (∃(J34:HJq),(∀(f35:Nat->D) (h36:Heap),J34 [] h36 ->
 vbin .add (f31 26) (.int .i64 1) fun a37 =>
 aC [a2,a9,a13,a17,a26,a28] [a2,a9,a13,a17,a26,a28]/\∃m,m<n30/\I29 m [a37] h36) /\
 aa PP (.iadd (.c a26) (.c (f31 26)) 14) h32 fun a38 h39 =>
 aa PP (.ld (.c a38) 14 true) h39 fun a40 h41 =>
 aa PP (.alloc (.int .i64 0)) h41 fun a42 h43 =>
 aa PP (.alloc (.agg [.nil,zI,zI,zI,zI,zJ,zI,zI,zJ,zI,zI,zJ,zI,zI])) h43 fun a44 h45 =>
 aa PP (.st (.c a42) (.c (f31 26)) 1) h45 fun a46 h47 =>
 aa PP (.st (.c a44) (.c a40) 14) h47 fun a48 h49 =>
 aa PP (.fadd (.c a44) 1) h49 fun a50 h51 =>
 aa PP (.ld (.c a50) 13 true) h51 fun a52 h53 =>
 ah PP ki [a52] h53 fun a54 h55 =>
 ae PP (.fadd (.c a13) 0) h55 fun a56 =>
 ae PP (.fadd (.c a56) 2) h55 fun a57 =>
 ae PP (.ld (.c a57) 1 false) h55 fun a58 =>
 ae PP (.ld (.c a42) 1 false) h55 fun a59 =>
 ae PP (.iadd (.c a58) (.c a59) 1) h55 fun a60 =>
 ae PP (.ld (.c a60) 1 false) h55 fun a61 =>
 vbin .lss a61 (.int .i64 0) fun a62 =>
 an a62 false (fun G63 =>
 G63 a54) fun a64 =>
 an a62 false (fun G66 =>
 aH a64 h55 fun a140 =>
 G66 a140) fun a67 =>
 an a62 false (fun G70 =>
 vbin .neq a67 (.int .i64 2) fun a139 =>
 G70 a139) fun a71 =>
 ae PP (.pick (.c a62) (.c (.bool true)) (.c a71)) h55 fun a74 =>
 vcond a74 (aC [a2,a9,a13,a17,a26,a28,(f31 26)] [a2,a9,a13,a17,a26,a28,(f31 26)]/\J34 [] h55) (
 aa PP (.alloc .nil) h55 fun a75 h76 =>
 ∃(J77:HJq),(∀(f78:Nat->D) (h79:Heap),J77 [] h79 ->
 aa PP (.ld (.c a75) 1 false) h79 fun a80 h81 =>
 ah PP cN [a80] h81 fun a82 h83 =>
 aa PP (.ld (.c a75) 1 false) h83 fun a84 h85 =>
 ah PP cq [a84] h85 fun a86 h87 =>
 aH a86 h87 fun a88 =>
 gf h87 a88 a2 a9 a13 a17 a42 a26 a28 f31 a86 J34) /\
 aH a54 h76 fun a119 =>
 jO h76 a119 a2 a9 a13 a17 a42 a75 a26 a28 f31 a54 J77 K)) (
 aC [a9] [a9]/\J21 [] h32)
def u7 (a0:D) (h0:Heap) (K:HKq):Prop :=
 aa PP (.box (.c a0)) h0 fun a2 h3 =>
 aa PP (.fadd (.c a2) 7) h3 fun a4 h5 =>
 aa PP (.ld (.c a4) 1 false) h5 fun a6 h7 =>
 aH a6 h7 fun a8 =>
 aa PP (.mk 1 24 .nil (.c a8) (.c a8)) h7 fun a9 h10 =>
 aa PP (.ld (.c a2) 8 true) h10 fun a11 h12 =>
 ah PP wq [a11] h12 fun a13 h14 =>
 ah PP kQ [a13] h14 fun a15 h16 =>
 aa PP (.alloc .nil) h16 fun a17 h18 =>
 aa PP (.st (.c a17) (.c a15) 1) h18 fun a19 h20 =>
 ∃(J21:HJq),(∀(f22:Nat->D) (h23:Heap),J21 [] h23 ->
 K a9 h23) /\
 aa PP (.fadd (.c a2) 7) h20 fun a24 h25 =>
 aa PP (.ld (.c a24) 1 false) h25 fun a26 h27 =>
 aH a26 h27 fun a28 =>
 jN h27 a28 a2 a9 a13 a17 a26 J21 K
theorem zS (a0:D) (h0:Heap) (K:HKq):u7 a0 h0 K=fP vJ K [a0] h0:=by kernel_rfl
def p8:TLq
 | 1=>some ([0,1,2,3,16,17],[18])|1000021=>some ([0,1,2,3,16,17,18],[])|1000013=>some ([0,1,2,3,6,7,16,17,18],[])|7=>some ([0,1,2,3,6,7,16,17,18,38,39],[40])|1000019=>some ([0,1,2,3,6,16,17,18],[])|13=>some ([0,1,2,3,6,7,16,17,18,65,66],[67])|_=>none
def rZ:TTq
 | 15=>some ([0,1,3,0,8,0,32,0,128,504,1019,0,2048,8187,0,32763,65535,0,262143],[1,10,13,15,17,18],[999996,4])|_=>none
noncomputable abbrev mM:=cFn PP true bS p8 (cDr PP 113 rZ)
noncomputable def mS:aJ:=⟨113,aP mM,[]⟩
theorem rQ:mM=some mS:=by kernel_rfl
def fG (h90:Heap) (a91:D) (a89:D) (a29:D) (a0:D) (a1:D) (a2:D) (a3:D) (a23:D) (a7:D) (a9:D) (f12:Nat->D) (J50:HJq) (K:HKq):Prop :=
 ∃(I92:Nat->HJq) (n₀:Nat),I92 n₀ [(.int .i64 0)] h90/\∀(n93:Nat) (f94:Nat->D) (h95:Heap),I92 n93 [f94 67] h95 ->
 vbin .lss (f94 67) a91 fun a96 =>
 vcond a96 (aa PP (.iadd (.c a89) (.c (f94 67)) 15) h95 fun a97 h98 =>
 aa PP (.ld (.c a97) 15 true) h98 fun a99 h100 =>
 aa PP (.alloc (.agg [zI,zI,zI,zI,zI,zJ,zI,zI,zJ,zI,zI,zJ,zI,zI,zJ])) h100 fun a101 h102 =>
 aa PP (.st (.c a101) (.c a99) 15) h102 fun a103 h104 =>
 ae PP (.ld (.c a101) 15 true) h104 fun a105 =>
 ae PP (.fadd (.c a101) 6) h104 fun a106 =>
 ae PP (.ld (.c a106) 3 true) h104 fun a107 =>
 ae PP (.fadd (.c a101) 9) h104 fun a108 =>
 ae PP (.ld (.c a108) 3 true) h104 fun a109 =>
 ae PP (.fadd (.c a101) 12) h104 fun a110 =>
 ae PP (.ld (.c a110) 3 true) h104 fun a111 =>
 ae PP (.bldS false 3 3 (.agg [zI,zI,zJ]) [(0,(.c a107)),(1,(.c a109)),(2,(.c a111))]) h104 fun a112 =>
 ae PP (.ld (.c a29) 2 true) h104 fun a113 =>
 ae PP (.bldS false 2 1 (.agg [(.bool false),zI]) [(0,(.c a113))]) h104 fun a114 =>
 ae PP (.ld (.c a101) 15 true) h104 fun a115 =>
 ah PP wu [a105] h104 fun a116 h117 =>
 ((ae PP (.fadd (.c a101) 6) h117 fun a118=>aC [a118] [a106])/\(ae PP (.ld (.c a106) 3 true) h117 fun a119=>aC [a119] [a107])/\(ae PP (.fadd (.c a101) 9) h117 fun a120=>aC [a120] [a108])/\(ae PP (.ld (.c a108) 3 true) h117 fun a121=>aC [a121] [a109])/\(ae PP (.fadd (.c a101) 12) h117 fun a122=>aC [a122] [a110])/\(ae PP (.ld (.c a110) 3 true) h117 fun a123=>aC [a123] [a111])/\(ae PP (.ld (.c a29) 2 true) h117 fun a124=>aC [a124] [a113])/\(ae PP (.ld (.c a101) 15 true) h117 fun a125=>aC [a125] [a115])/\True) /\
 ae PP (.bld [(.bool false),zI] [(1,1,(.c a116))]) h117 fun a126 =>
 ah PP cK [a112] h117 fun a127 h128 =>
 ((ae PP (.ld (.c a29) 2 true) h128 fun a129=>aC [a129] [a113])/\(ae PP (.ld (.c a101) 15 true) h128 fun a130=>aC [a130] [a115])/\True) /\
 aa PP (.app (.c a127) (.c a114) 2 16 (.agg [(.bool false),zI])) h128 fun a131 h132 =>
 ((ae PP (.ld (.c a101) 15 true) h132 fun a133=>aC [a133] [a115])/\True) /\
 ah PP jE [a115] h132 fun a134 h135 =>
 ae PP (.bld [(.bool false),zI,.nil,(.bool false)] [(0,2,(.c a126)),(2,1,(.c a131)),(3,1,(.c a134))]) h135 fun a136 =>
 aa PP (.alloc (.agg [(.bool false),zI,.nil,(.bool false)])) h135 fun a137 h138 =>
 ((ae PP (.ld (.c a101) 15 true) h138 fun a139=>aC [a139] [a105])/\(ae PP (.fadd (.c a101) 6) h138 fun a140=>aC [a140] [a106])/\(ae PP (.ld (.c a106) 3 true) h138 fun a141=>aC [a141] [a107])/\(ae PP (.fadd (.c a101) 9) h138 fun a142=>aC [a142] [a108])/\(ae PP (.ld (.c a108) 3 true) h138 fun a143=>aC [a143] [a109])/\(ae PP (.fadd (.c a101) 12) h138 fun a144=>aC [a144] [a110])/\(ae PP (.ld (.c a110) 3 true) h138 fun a145=>aC [a145] [a111])/\(ae PP (.ld (.c a29) 2 true) h138 fun a146=>aC [a146] [a113])/\(ae PP (.ld (.c a101) 15 true) h138 fun a147=>aC [a147] [a115])/\True) /\
 aa PP (.st (.c a137) (.c a136) 4) h138 fun a148 h149 =>
 aa PP (.fadd (.c a137) 0) h149 fun a150 h151 =>
 aa PP (.fadd (.c a150) 1) h151 fun a152 h153 =>
 aa PP (.ld (.c a152) 1 false) h153 fun a154 h155 =>
 vbin .geq a154 (.int .i64 0) fun a156 =>
 vguard a156 true (fun G157 =>
 G157 a0 h155) h155 fun a158 h159 =>
 vguard a156 true (fun G160 =>
 aa PP (.ld (.c a137) 4 true) h159 fun a163 h164 =>
 G160 a163 h164) h159 fun a161 h162 =>
 vguard a156 true (fun G165 =>
 aa PP (.callv (.c a158) [(.c a161)]) h162 fun a168 h169 =>
 G165 a168 h169) h162 fun a166 h167 =>
 vguard a156 true (fun G170 =>
 vun .not a166 fun a173 =>
 G170 a173 h167) h167 fun a171 h172 =>
 aa PP (.pick (.c a156) (.c a171) (.c (.bool false))) h172 fun a174 h175 =>
 vcond a174 (K (.tup []) h175) (
 vbin .add (f94 67) (.int .i64 1) fun a176 =>
 aC [a0,a1,a2,a3,a23,a29,a7,a9,(f12 18),a89,a91] [a0,a1,a2,a3,a23,a29,a7,a9,(f12 18),a89,a91]/\∃m,m<n93/\I92 m [a176] h175)) (
 aC [a0,a1,a2,a3,a23,a7,a9,(f12 18)] [a0,a1,a2,a3,a23,a7,a9,(f12 18)]/\J50 [] h95)
def dw (h182:Heap) (a183:D) (a181:D) (a1:D) (a29:D) (a0:D) (a2:D) (a3:D) (a23:D) (a7:D) (a9:D) (f12:Nat->D) (J47:HJq) (K:HKq):Prop :=
 ∃(I184:Nat->HJq) (n₀:Nat),I184 n₀ [(.int .i64 0)] h182/\∀(n185:Nat) (f186:Nat->D) (h187:Heap),I184 n185 [f186 40] h187 ->
 vbin .lss (f186 40) a183 fun a188 =>
 vcond a188 (aa PP (.iadd (.c a181) (.c (f186 40)) 1) h187 fun a189 h190 =>
 aa PP (.ld (.c a189) 1 false) h190 fun a191 h192 =>
 aa PP (.fadd (.c a1) 7) h192 fun a193 h194 =>
 aa PP (.ld (.c a193) 1 false) h194 fun a195 h196 =>
 aa PP (.iadd (.c a195) (.c a191) 14) h196 fun a197 h198 =>
 aa PP (.fadd (.c a197) 1) h198 fun a199 h200 =>
 aa PP (.fadd (.c a199) 5) h200 fun a201 h202 =>
 aa PP (.ld (.c a201) 3 true) h202 fun a203 h204 =>
 aa PP (.bldS true 3 1 (.agg [zI,zI,zJ]) [(0,(.c a203))]) h204 fun a205 h206 =>
 ah PP cK [a205] h206 fun a207 h208 =>
 aa PP (.bld [(.bool false),zI] [(0,1,(.c (.bool true))),(1,1,(.c a191))]) h208 fun a209 h210 =>
 aa PP (.bldS true 2 1 (.agg [(.bool false),zI]) [(0,(.c a209))]) h210 fun a211 h212 =>
 aa PP (.app (.c a207) (.c a211) 2 16 (.agg [(.bool false),zI])) h212 fun a213 h214 =>
 aa PP (.ld (.c a29) 2 true) h214 fun a215 h216 =>
 aa PP (.bld [(.bool false),zI,.nil,(.bool false)] [(0,2,(.c a215)),(2,1,(.c a213))]) h216 fun a217 h218 =>
 aa PP (.callv (.c a0) [(.c a217)]) h218 fun a219 h220 =>
 vun .not a219 fun a221 =>
 vcond a221 (K (.tup []) h220) (
 vbin .add (f186 40) (.int .i64 1) fun a222 =>
 aC [a0,a1,a2,a3,a23,a29,a7,a9,(f12 18),a181,a183] [a0,a1,a2,a3,a23,a29,a7,a9,(f12 18),a181,a183]/\∃m,m<n185/\I184 m [a222] h220)) (
 aC [a0,a1,a2,a3,a23,a29,a7,a9,(f12 18)] [a0,a1,a2,a3,a23,a29,a7,a9,(f12 18)]/\J47 [] h187)
def jy (h8:Heap) (a9:D) (a0:D) (a1:D) (a2:D) (a3:D) (a7:D) (K:HKq):Prop :=
 ∃(I10:Nat->HJq) (n₀:Nat),I10 n₀ [(.int .i64 0)] h8/\∀(n11:Nat) (f12:Nat->D) (h13:Heap),I10 n11 [f12 18] h13 ->
 vbin .lss (f12 18) a9 fun a14 =>
 vcond a14 (∃(J15:HJq),(∀(f16:Nat->D) (h17:Heap),J15 [] h17 ->
 vbin .add (f12 18) (.int .i64 1) fun a18 =>
 aC [a0,a1,a2,a3,a7,a9] [a0,a1,a2,a3,a7,a9]/\∃m,m<n11/\I10 m [a18] h17) /\
 aa PP (.iadd (.c a7) (.c (f12 18)) 14) h13 fun a19 h20 =>
 aa PP (.ld (.c a19) 14 true) h20 fun a21 h22 =>
 aa PP (.alloc (.agg [.nil,zI,zI,zI,zI,zJ,zI,zI,zJ,zI,zI,zJ,zI,zI])) h22 fun a23 h24 =>
 aa PP (.st (.c a23) (.c a21) 14) h24 fun a25 h26 =>
 aa PP (.bld [(.bool false),zI] [(0,1,(.c (.bool true))),(1,1,(.c (f12 18)))]) h26 fun a27 h28 =>
 aa PP (.alloc (.agg [(.bool false),zI])) h28 fun a29 h30 =>
 aa PP (.st (.c a29) (.c a27) 2) h30 fun a31 h32 =>
 aa PP (.ld (.c a2) 1 false) h32 fun a33 h34 =>
 aa PP (.iadd (.c a33) (.c (f12 18)) 1) h34 fun a35 h36 =>
 aa PP (.ld (.c a35) 1 false) h36 fun a37 h38 =>
 vun .not a37 fun a39 =>
 vcond a39 (aa PP (.ld (.c a29) 2 true) h38 fun a40 h41 =>
 aa PP (.bld [(.bool false),zI,.nil,(.bool false)] [(0,2,(.c a40)),(3,1,(.c (.bool true)))]) h41 fun a42 h43 =>
 aa PP (.callv (.c a0) [(.c a42)]) h43 fun a44 h45 =>
 vun .not a44 fun a46 =>
 vcond a46 (K (.tup []) h45) (
 aC [a0,a1,a2,a3,a7,a9,(f12 18)] [a0,a1,a2,a3,a7,a9,(f12 18)]/\J15 [] h45)) (
 ∃(J47:HJq),(∀(f48:Nat->D) (h49:Heap),J47 [] h49 ->
 ∃(J50:HJq),(∀(f51:Nat->D) (h52:Heap),J50 [] h52 ->
 aa PP (.fadd (.c a23) 1) h52 fun a53 h54 =>
 aa PP (.ld (.c a53) 13 true) h54 fun a55 h56 =>
 ah PP su [a55] h56 fun a57 h58 =>
 vbin .geq a57 (.int .i64 0) fun a59 =>
 vguard a59 true (fun G60 =>
 G60 a0 h58) h58 fun a61 h62 =>
 vguard a59 true (fun G63 =>
 G63 a57 h62) h62 fun a64 h65 =>
 vguard a59 true (fun G66 =>
 aa PP (.bld [(.bool false),zI] [(1,1,(.c a64))]) h65 fun a69 h70 =>
 G66 a69 h70) h65 fun a67 h68 =>
 vguard a59 true (fun G71 =>
 aa PP (.bld [(.bool false),zI,.nil,(.bool false)] [(0,2,(.c a67)),(3,1,(.c (.bool true)))]) h68 fun a74 h75 =>
 G71 a74 h75) h68 fun a72 h73 =>
 vguard a59 true (fun G76 =>
 aa PP (.callv (.c a61) [(.c a72)]) h73 fun a79 h80 =>
 G76 a79 h80) h73 fun a77 h78 =>
 vguard a59 true (fun G81 =>
 vun .not a77 fun a84 =>
 G81 a84 h78) h78 fun a82 h83 =>
 aa PP (.pick (.c a59) (.c a82) (.c (.bool false))) h83 fun a85 h86 =>
 vcond a85 (K (.tup []) h86) (
 aC [a0,a1,a2,a3,a7,a9,(f12 18)] [a0,a1,a2,a3,a7,a9,(f12 18)]/\J15 [] h86)) /\
 aa PP (.fadd (.c a23) 0) h49 fun a87 h88 =>
 aa PP (.ld (.c a87) 1 false) h88 fun a89 h90 =>
 aH a89 h90 fun a91 =>
 fG h90 a91 a89 a29 a0 a1 a2 a3 a23 a7 a9 f12 J50 K) /\
 aa PP (.ld (.c a3) 1 false) h38 fun a177 h178 =>
 aa PP (.iadd (.c a177) (.c (f12 18)) 1) h178 fun a179 h180 =>
 aa PP (.ld (.c a179) 1 false) h180 fun a181 h182 =>
 aH a181 h182 fun a183 =>
 dw h182 a183 a181 a1 a29 a0 a2 a3 a23 a7 a9 f12 J47 K)) (
 K (.tup []) h13)
def mA (a0:D) (a1:D) (a2:D) (a3:D) (h0:Heap) (K:HKq):Prop :=
 aa PP (.fadd (.c a1) 7) h0 fun a5 h6 =>
 aa PP (.ld (.c a5) 1 false) h6 fun a7 h8 =>
 aH a7 h8 fun a9 =>
 jy h8 a9 a0 a1 a2 a3 a7 K
theorem rJ (a0:D) (a1:D) (a2:D) (a3:D) (h0:Heap) (K:HKq):mA a0 a1 a2 a3 h0 K=fP mS K [a0,a1,a2,a3] h0:=by kernel_rfl
def oY:TLq
 | 1000009=>some ([],[3])|3=>some ([6,7],[3,8])|1000008=>some ([6,7,8],[3])|_=>none
def ra:TTq
 | _=>none
noncomputable abbrev ly:=cFn PP true cK oY (cDr PP 23 ra)
noncomputable def lD:aJ:=⟨23,aP ly,[.t 2]⟩
theorem js:ly=some lD:=by kernel_rfl
def fj (h0:Heap) (a5:D) (a0:D) (J2:HJq):Prop :=
 ∃(I6:Nat->HJq) (n₀:Nat),I6 n₀ [.nil,(.int .i64 0)] h0/\∀(n7:Nat) (f8:Nat->D) (h9:Heap),I6 n7 [f8 3,f8 8] h9 ->
 vbin .lss (f8 8) a5 fun a10 =>
 vcond a10 (∃(J11:HJq),(∀(f12:Nat->D) (h13:Heap),J11 [f12 3] h13 ->
 vbin .add (f8 8) (.int .i64 1) fun a14 =>
 aC [a0,a5] [a0,a5]/\∃m,m<n7/\I6 m [(f12 3),a14] h13) /\
 aa PP (.iadd (.c a0) (.c (f8 8)) 3) h9 fun a15 h16 =>
 aa PP (.ld (.c a15) 3 true) h16 fun a17 h18 =>
 aa PP (.alloc (.agg [zI,zI,zJ])) h18 fun a19 h20 =>
 aa PP (.st (.c a19) (.c a17) 3) h20 fun a21 h22 =>
 aa PP (.fadd (.c a19) 0) h22 fun a23 h24 =>
 aa PP (.ld (.c a23) 1 false) h24 fun a25 h26 =>
 vbin .eql a25 (.int .i64 2) fun a27 =>
 vcond a27 (aa PP (.fadd (.c a19) 1) h26 fun a28 h29 =>
 aa PP (.ld (.c a28) 1 false) h29 fun a30 h31 =>
 aa PP (.bld [(.bool false),zI] [(1,1,(.c a30))]) h31 fun a32 h33 =>
 aa PP (.bldS true 2 1 (.agg [(.bool false),zI]) [(0,(.c a32))]) h33 fun a34 h35 =>
 aa PP (.app (.c (f8 3)) (.c a34) 2 16 (.agg [(.bool false),zI])) h35 fun a36 h37 =>
 aC [a0,a5,(f8 8)] [a0,a5,(f8 8)]/\J11 [a36] h37) (
 aC [a0,a5,(f8 8)] [a0,a5,(f8 8)]/\J11 [(f8 3)] h26)) (
 aC [] []/\J2 [(f8 3)] h9)
def gz (a0:D) (h0:Heap) (K:HKq):Prop :=
 ∃(J2:HJq),(∀(f3:Nat->D) (h4:Heap),J2 [f3 3] h4 ->
 K (f3 3) h4) /\
 aH a0 h0 fun a5 =>
 fj h0 a5 a0 J2
theorem jf (a0:D) (h0:Heap) (K:HKq):gz a0 h0 K=fP lD K [a0] h0:=by kernel_rfl
def sw:TLq
 | 1000008=>some ([1,4],[5])|_=>none
def vS:TTq
 | _=>none
noncomputable abbrev pE:=cFn PP true jE sw (cDr PP 18 vS)
noncomputable def pI:aJ:=⟨18,aP pE,[.t 2]⟩
theorem uC:pE=some pI:=by kernel_rfl
def pf (a0:D) (h0:Heap) (K:HKq):Prop :=
 aa PP (.box (.c a0)) h0 fun a2 h3 =>
 aa PP (.fadd (.c a2) 0) h3 fun a4 h5 =>
 aa PP (.ld (.c a4) 1 false) h5 fun a6 h7 =>
 ∃(J8:HJq),(∀(f9:Nat->D) (h10:Heap),J8 [f9 5] h10 ->
 vcond (f9 5) (K (.bool false) h10) (
 vbin .eql a6 (.int .i64 5) fun a11 =>
 vcond a11 (aa PP (.bldS true 1 3 (.int .i64 0) [(0,(.c (.int .i64 3))),(1,(.c (.int .i64 4))),(2,(.c (.int .i64 5)))]) h10 fun a12 h13 =>
 aa PP (.fadd (.c a2) 1) h13 fun a14 h15 =>
 aa PP (.ld (.c a14) 1 false) h15 fun a16 h17 =>
 ah PP de [a12,a16] h17 fun a18 h19 =>
 vun .not a18 fun a20 =>
 K a20 h19) (
 K (.bool true) h10))) /\
 vbin .eql a6 (.int .i64 1) fun a21 =>
 vcond a21 (aC [a2,a6] [a2,a6]/\J8 [a21] h7) (
 vbin .eql a6 (.int .i64 2) fun a22 =>
 vcond a22 (aC [a2,a6] [a2,a6]/\J8 [a22] h7) (
 vbin .eql a6 (.int .i64 3) fun a23 =>
 vcond a23 (aC [a2,a6] [a2,a6]/\J8 [a23] h7) (
 vbin .eql a6 (.int .i64 4) fun a24 =>
 vcond a24 (aC [a2,a6] [a2,a6]/\J8 [a24] h7) (
 vbin .eql a6 (.int .i64 6) fun a25 =>
 aC [a2,a6] [a2,a6]/\J8 [a25] h7))))
theorem uw (a0:D) (h0:Heap) (K:HKq):pf a0 h0 K=fP pI K [a0] h0:=by kernel_rfl
def cP:TLq
 | _=>none
def db:TTq
 | _=>none
noncomputable abbrev bC:=cFn PP true aY cP (cDr PP 9 db)
noncomputable def bD:aJ:=⟨9,aP bC,[.t 4]⟩
theorem cZ:bC=some bD:=by kernel_rfl
def bA (a0:D) (a1:D) (h0:Heap) (K:HKq):Prop :=
 ah PP bj [a0,a1] h0 fun a3 h4 =>
 vbin .geq a3 (.int .i64 0) fun a5 =>
 K a5 h4
theorem cX (a0:D) (a1:D) (h0:Heap) (K:HKq):bA a0 a1 h0 K=fP bD K [a0,a1] h0:=by kernel_rfl
def rA:TLq
 | _=>none
def tY:TTq
 | _=>none
noncomputable abbrev nM:=cFn PP true iM rA (cDr PP 10 tY)
noncomputable def nZ:aJ:=⟨10,aP nM,[.t 3]⟩
theorem tx:nM=some nZ:=by kernel_rfl
def nw (a0:D) (a1:D) (h0:Heap) (K:HKq):Prop :=
 aa PP (.box (.c a0)) h0 fun a3 h4 =>
 aa PP (.ld (.c a1) 2 true) h4 fun a5 h6 =>
 aa PP (.ld (.c a3) 2 true) h6 fun a7 h8 =>
 ah PP iN [a5,a7] h8 fun a9 h10 =>
 aa PP (.fadd (.c a9) 0) h10 fun a11 h12 =>
 aa PP (.ld (.c a11) 1 false) h12 fun a13 h14 =>
 vun .not a13 fun a15 =>
 K a15 h14
theorem sS (a0:D) (a1:D) (h0:Heap) (K:HKq):nw a0 a1 h0 K=fP nZ K [a0,a1] h0:=by kernel_rfl
def oZ:TLq
 | 1000005=>some ([0,5],[6])|_=>none
def rb:TTq
 | 5=>some ([0,0,0,4,0,16,48,112,240,0,1008,2032,4080,8176,16368,32764,65534,131071],[3,17],[999999])|6=>some ([0,0,1,7],[3],[])|_=>none
noncomputable abbrev lz:=cFn PP true dY oZ (cDr PP 39 rb)
noncomputable def lF:aJ:=⟨39,aP lz,[.t 4,.cell 5 3 true]⟩
theorem qw:lz=some lF:=by kernel_rfl
def ll (a0:D) (a1:D) (h0:Heap) (K:HKq):Prop :=
 aa PP (.alloc (.agg [zI,zI,zJ])) h0 fun a3 h4 =>
 ah PP aq [a0] h4 fun a5 h6 =>
 vbin .rem a5 (.int .i64 5) fun a7 =>
 ∃(J8:HJq),(∀(f9:Nat->D) (h10:Heap),J8 [f9 6] h10 ->
 ah PP aM [a0] h10 fun a11 h12 =>
 aa PP (.alloc (.agg [zI,zI,zJ])) h12 fun a13 h14 =>
 aa PP (.st (.c a13) (.c a11) 3) h14 fun a15 h16 =>
 ae PP (.ld (.c a13) 3 true) h16 fun a17 =>
 ae PP (.fadd (.c a0) 0) h16 fun a18 =>
 ae PP (.fadd (.c a18) 2) h16 fun a19 =>
 ae PP (.fadd (.c a19) 5) h16 fun a20 =>
 ae PP (.ld (.c a20) 1 false) h16 fun a21 =>
 ae PP (.iadd (.c a21) (.c (f9 6)) 4) h16 fun a22 =>
 ae PP (.fadd (.c a22) 3) h16 fun a23 =>
 ae PP (.ld (.c a23) 1 false) h16 fun a24 =>
 vbin .sub a24 (.int .i64 1) fun a25 =>
 ae PP (.conv .i32 (.c a25)) h16 fun a26 =>
 ah PP aK [a0] h16 fun a27 h28 =>
 ((ae PP (.ld (.c a13) 3 true) h28 fun a29=>aC [a29] [a17])/\(ae PP (.fadd (.c a0) 0) h28 fun a30=>aC [a30] [a18])/\(ae PP (.fadd (.c a18) 2) h28 fun a31=>aC [a31] [a19])/\(ae PP (.fadd (.c a19) 5) h28 fun a32=>aC [a32] [a20])/\(ae PP (.ld (.c a20) 1 false) h28 fun a33=>aC [a33] [a21])/\(ae PP (.iadd (.c a21) (.c (f9 6)) 4) h28 fun a34=>aC [a34] [a22])/\(ae PP (.fadd (.c a22) 3) h28 fun a35=>aC [a35] [a23])/\(ae PP (.ld (.c a23) 1 false) h28 fun a36=>aC [a36] [a24])/\True) /\
 ae PP (.call cv [(.c a26)]) h28 fun a37 =>
 ae PP (.bld [zI,zI,zI,zI,zI,zJ,zI,zI,zJ,zI,zI,zJ,zI,zI,zJ] [(0,1,(.c (.int .i64 3))),(1,1,(.c (.int .i64 17))),(3,3,(.c a17)),(6,3,(.c a27)),(9,3,(.c a37))]) h28 fun a38 =>
 ah PP aE [a0,a38] h28 fun a39 h40 =>
 ae PP (.ld (.c a13) 3 true) h40 fun a41 =>
 aa PP (.st (.c a3) (.c a41) 3) h40 fun a42 h43 =>
 aa PP (.ld (.c a3) 3 true) h43 fun a44 _ =>
 K (.tup [(f9 6),a44]) h43) /\
 vbin .eql a7 (.int .i64 3) fun a45 =>
 vguard a45 true (fun G46 =>
 G46 a1 h6) h6 fun a47 h48 =>
 vguard a45 true (fun G49 =>
 vun .not a47 fun a52 =>
 G49 a52 h48) h48 fun a50 h51 =>
 aa PP (.pick (.c a45) (.c a50) (.c (.bool false))) h51 fun a53 h54 =>
 vcond a53 (aC [a0,a3] [a0,a3]/\J8 [(.int .i64 0)] h54) (
 aC [a0,a3] [a0,a3]/\J8 [a7] h54)
theorem qt (a0:D) (a1:D) (h0:Heap) (K:HKq):ll a0 a1 h0 K=fP lF K [a0,a1] h0:=by kernel_rfl
def xP:TLq
 | _=>none
def AV:TTq
 | 1=>some ([0,0,2,6,14,30,63,127,255],[4,6],[999999])|_=>none
noncomputable abbrev ve:=cFn PP true ou xP (cDr PP 11 AV)
noncomputable def vz:aJ:=⟨11,aP ve,[.t 2]⟩
theorem zX:ve=some vz:=by kernel_rfl
def uX (a0:D) (h0:Heap) (K:HKq):Prop :=
 aa PP (.box (.c a0)) h0 fun a2 h3 =>
 ae PP (.ld (.c a2) 8 true) h3 fun a4 =>
 ae PP (.fadd (.c a2) 7) h3 fun a5 =>
 ae PP (.ld (.c a5) 1 false) h3 fun a6 =>
 aH a6 h3 fun a7 =>
 aa PP (.mk 1 1 (.bool false) (.c a7) (.c a7)) h3 fun a8 h9 =>
 ((ae PP (.ld (.c a2) 8 true) h9 fun a10=>aC [a10] [a4])/\True) /\
 ae PP (.bld [.nil,.nil] [(0,1,(.c a8))]) h9 fun a11 =>
 ah PP jU [a4,a11,(.int .i64 0)] h9 fun a12 h13 =>
 ae PP (.fld (.c a12) 1 1 false) h13 fun a14 =>
 K a14 h13
theorem zN (a0:D) (h0:Heap) (K:HKq):uX a0 h0 K=fP vz K [a0] h0:=by kernel_rfl
def Cu:TLq
 | 1000011=>some ([3,4,5],[])|5=>some ([1,3,4,5,25,26],[27])|1000010=>some ([1,3,4,5,25,26,27],[])|10=>some ([3,4,5],[])|1000019=>some ([3,4,5,8],[9])|13=>some ([3,4,5,8,56,57],[9,58])|1000018=>some ([3,4,5,8,56,57,58],[9])|_=>none
def EO:TTq
 | _=>none
noncomputable abbrev Di:=cFn PP true wq Cu (cDr PP 85 EO)
noncomputable def Dx:aJ:=⟨85,aP Di,[.t 2]⟩
theorem DY:Di=some Dx:=by kernel_rfl
def oM (h51:Heap) (a52:D) (a8:D) (a14:D) (a19:D) (a28:D) (a50:D) (J30:HJq):Prop :=
 ∃(I53:Nat->HJq) (n₀:Nat),I53 n₀ [(.int .i64 (-1)),(.int .i64 0)] h51/\∀(n54:Nat) (f55:Nat->D) (h56:Heap),I53 n54 [f55 9,f55 58] h56 ->
 vbin .lss (f55 58) a52 fun a57 =>
 vcond a57 (∃(J58:HJq),(∀(f59:Nat->D) (h60:Heap),J58 [f59 9] h60 ->
 vbin .add (f55 58) (.int .i64 1) fun a61 =>
 aC [a8,a14,a19,a28,a50,a52] [a8,a14,a19,a28,a50,a52]/\∃m,m<n54/\I53 m [(f59 9),a61] h60) /\
 aa PP (.iadd (.c a50) (.c (f55 58)) 1) h56 fun a62 h63 =>
 aa PP (.ld (.c a62) 1 false) h63 fun a64 h65 =>
 aa PP (.fadd (.c a28) 0) h65 fun a66 h67 =>
 aa PP (.fadd (.c a66) 2) h67 fun a68 h69 =>
 aa PP (.ld (.c a68) 1 false) h69 fun a70 h71 =>
 aa PP (.iadd (.c a70) (.c a64) 1) h71 fun a72 h73 =>
 aa PP (.ld (.c a72) 1 false) h73 fun a74 h75 =>
 vbin .lss a74 (.int .i64 0) fun a76 =>
 vcond a76 (aC [a8,a14,a19,a28,a50,a52,(f55 58)] [a8,a14,a19,a28,a50,a52,(f55 58)]/\J58 [a64] h75) (
 aC [a8,a14,a19,a28,a50,a52,(f55 58)] [a8,a14,a19,a28,a50,a52,(f55 58)]/\J58 [(f55 9)] h75)) (
 aC [a8,a14,a19,a28] [a8,a14,a19,a28]/\J30 [(f55 9)] h56)
def u6 (h23:Heap) (a19:D) (a14:D) (a8:D) (K:HKq):Prop :=
 ∃(I24:Nat->HJq) (n₀:Nat),I24 n₀ [] h23/\∀(n25:Nat) (f26:Nat->D) (h27:Heap),I24 n25 [] h27 ->
 ah PP iT [a19,a14] h27 fun a28 h29 =>
 ∃(J30:HJq),(∀(f31:Nat->D) (h32:Heap),J30 [f31 9] h32 ->
 vbin .lss (f31 9) (.int .i64 0) fun a33 =>
 vcond a33 (K a28 h32) (
 aa PP (.iadd (.c a19) (.c a14) 1) h32 fun a34 h35 =>
 aa PP (.ld (.c a34) 1 false) h35 fun a36 h37 =>
 aa PP (.bldS true 1 1 (.int .i64 0) [(0,(.c (f31 9)))]) h37 fun a38 h39 =>
 aa PP (.app (.c a36) (.c a38) 1 8 (.int .i64 0)) h39 fun a40 h41 =>
 aa PP (.iadd (.c a19) (.c a14) 1) h41 fun a42 h43 =>
 aa PP (.st (.c a42) (.c a40) 1) h43 fun a44 h45 =>
 aC [a8,a14,a19] [a8,a14,a19]/\∃m,m<n25/\I24 m [] h45)) /\
 aa PP (.fadd (.c a8) 0) h29 fun a46 h47 =>
 aa PP (.fadd (.c a46) 1) h47 fun a48 h49 =>
 aa PP (.ld (.c a48) 1 false) h49 fun a50 h51 =>
 aH a50 h51 fun a52 =>
 oM h51 a52 a8 a14 a19 a28 a50 J30
def oK (h82:Heap) (a83:D) (a2:D) (a8:D) (a14:D) (a19:D) (a81:D) (J21:HJq):Prop :=
 ∃(I84:Nat->HJq) (n₀:Nat),I84 n₀ [(.int .i64 0)] h82/\∀(n85:Nat) (f86:Nat->D) (h87:Heap),I84 n85 [f86 27] h87 ->
 vbin .lss (f86 27) a83 fun a88 =>
 vcond a88 (∃(J89:HJq),(∀(f90:Nat->D) (h91:Heap),J89 [] h91 ->
 vbin .add (f86 27) (.int .i64 1) fun a92 =>
 aC [a2,a8,a14,a19,a81,a83] [a2,a8,a14,a19,a81,a83]/\∃m,m<n85/\I84 m [a92] h91) /\
 aa PP (.iadd (.c a81) (.c (f86 27)) 1) h87 fun a93 h94 =>
 aa PP (.ld (.c a93) 1 false) h94 fun a95 h96 =>
 aa PP (.fadd (.c a2) 7) h96 fun a97 h98 =>
 aa PP (.ld (.c a97) 1 false) h98 fun a99 h100 =>
 aa PP (.iadd (.c a99) (.c a95) 14) h100 fun a101 h102 =>
 aa PP (.fadd (.c a101) 1) h102 fun a103 h104 =>
 aa PP (.fadd (.c a103) 0) h104 fun a105 h106 =>
 aa PP (.ld (.c a105) 1 false) h106 fun a107 h108 =>
 vbin .eql a107 (.int .i64 5) fun a109 =>
 vcond a109 (aa PP (.iadd (.c a19) (.c a14) 1) h108 fun a110 h111 =>
 aa PP (.ld (.c a110) 1 false) h111 fun a112 h113 =>
 aa PP (.bldS true 1 1 (.int .i64 0) [(0,(.c a95))]) h113 fun a114 h115 =>
 aa PP (.app (.c a112) (.c a114) 1 8 (.int .i64 0)) h115 fun a116 h117 =>
 aa PP (.iadd (.c a19) (.c a14) 1) h117 fun a118 h119 =>
 aa PP (.st (.c a118) (.c a116) 1) h119 fun a120 h121 =>
 aC [a2,a8,a14,a19,a81,a83,(f86 27)] [a2,a8,a14,a19,a81,a83,(f86 27)]/\J89 [] h121) (
 aC [a2,a8,a14,a19,a81,a83,(f86 27)] [a2,a8,a14,a19,a81,a83,(f86 27)]/\J89 [] h108)) (
 aC [a8,a14,a19] [a8,a14,a19]/\J21 [] h87)
def C8 (a0:D) (h0:Heap) (K:HKq):Prop :=
 aa PP (.box (.c a0)) h0 fun a2 h3 =>
 aa PP (.ld (.c a2) 8 true) h3 fun a4 h5 =>
 ah PP ss [a4] h5 fun a6 h7 =>
 ah PP iT [a6,(.int .i64 0)] h7 fun a8 h9 =>
 aa PP (.fadd (.c a2) 7) h9 fun a10 h11 =>
 aa PP (.ld (.c a10) 1 false) h11 fun a12 h13 =>
 aH a12 h13 fun a14 =>
 ah PP fg [a8] h13 fun a15 h16 =>
 aa PP (.bldS true 1 1 .nil [(0,(.c .nil))]) h16 fun a17 h18 =>
 aa PP (.app (.c a15) (.c a17) 1 24 .nil) h18 fun a19 h20 =>
 ∃(J21:HJq),(∀(f22:Nat->D) (h23:Heap),J21 [] h23 ->
 u6 h23 a19 a14 a8 K) /\
 aa PP (.fadd (.c a8) 0) h20 fun a77 h78 =>
 aa PP (.fadd (.c a77) 1) h78 fun a79 h80 =>
 aa PP (.ld (.c a79) 1 false) h80 fun a81 h82 =>
 aH a81 h82 fun a83 =>
 oK h82 a83 a2 a8 a14 a19 a81 J21
theorem DU (a0:D) (h0:Heap) (K:HKq):C8 a0 h0 K=fP Dx K [a0] h0:=by kernel_rfl
def uo:TLq
 | 9000002=>some ([0],[3,4])|1000020=>some ([3],[])|5=>some ([0,3,4,37,38],[39])|1000017=>some ([0,3,4,6,37,38,39],[7])|9=>some ([0,3,4,6,37,38,39,46,47],[7,48])|1000016=>some ([0,3,4,6,37,38,39,46,47,48],[7])|_=>none
def xv:TTq
 | 3=>some ([0,0,2,6,14,30,62,0,128,384,896,1920,3968,8191,16383],[14],[])|_=>none
noncomputable abbrev qT:=cFn PP true kQ uo (cDr PP 80 xv)
noncomputable def qZ:aJ:=⟨80,aP qT,[.t 2]⟩
theorem xf:qT=some qZ:=by kernel_rfl
def gY (h69:Heap) (a70:D) (a0:D) (a15:D) (a17:D) (a51:D) (a41:D) (a43:D) (f46:Nat->D) (a68:D) (J53:HJq):Prop :=
 ∃(I71:Nat->HJq) (n₀:Nat),I71 n₀ [(.int .i64 (-1)),(.int .i64 0)] h69/\∀(n72:Nat) (f73:Nat->D) (h74:Heap),I71 n72 [f73 7,f73 48] h74 ->
 vbin .lss (f73 48) a70 fun a75 =>
 vcond a75 (∃(J76:HJq),(∀(f77:Nat->D) (h78:Heap),J76 [f77 7] h78 ->
 vbin .add (f73 48) (.int .i64 1) fun a79 =>
 aC [a0,a15,a17,a51,a41,a43,(f46 39),a68,a70] [a0,a15,a17,a51,a41,a43,(f46 39),a68,a70]/\∃m,m<n72/\I71 m [(f77 7),a79] h78) /\
 aa PP (.iadd (.c a68) (.c (f73 48)) 1) h74 fun a80 h81 =>
 aa PP (.ld (.c a80) 1 false) h81 fun a82 h83 =>
 aa PP (.iadd (.c a15) (.c a82) 1) h83 fun a84 h85 =>
 aa PP (.ld (.c a84) 1 false) h85 fun a86 h87 =>
 vbin .lss a86 (.int .i64 0) fun a88 =>
 vcond a88 (aC [a0,a15,a17,a51,a41,a43,(f46 39),a68,a70,(f73 48)] [a0,a15,a17,a51,a41,a43,(f46 39),a68,a70,(f73 48)]/\J76 [(f73 7)] h87) (
 vbin .lss (f73 7) (.int .i64 0) fun a89 =>
 vcond a89 (aC [a0,a15,a17,a51,a41,a43,(f46 39),a68,a70,(f73 48)] [a0,a15,a17,a51,a41,a43,(f46 39),a68,a70,(f73 48)]/\J76 [a82] h87) (
 ah PP ga [a0,a15,(f73 7),a82] h87 fun a90 h91 =>
 aC [a0,a15,a17,a51,a41,a43,(f46 39),a68,a70,(f73 48)] [a0,a15,a17,a51,a41,a43,(f46 39),a68,a70,(f73 48)]/\J76 [a90] h91))) (
 aC [a0,a15,a17,a51,a41,a43,(f46 39)] [a0,a15,a17,a51,a41,a43,(f46 39)]/\J53 [(f73 7)] h74)
def fo (h42:Heap) (a43:D) (a41:D) (a15:D) (a0:D) (I2:Nat->HJq) (a17:D) (J32:HJq):Prop :=
 ∃(I44:Nat->HJq) (n₀:Nat),I44 n₀ [(.int .i64 0)] h42/\∀(n45:Nat) (f46:Nat->D) (h47:Heap),I44 n45 [f46 39] h47 ->
 vbin .lss (f46 39) a43 fun a48 =>
 vcond a48 (aa PP (.iadd (.c a41) (.c (f46 39)) 1) h47 fun a49 h50 =>
 aa PP (.ld (.c a49) 1 false) h50 fun a51 h52 =>
 ∃(J53:HJq),(∀(f54:Nat->D) (h55:Heap),J53 [f54 7] h55 ->
 aa PP (.iadd (.c a15) (.c a51) 1) h55 fun a56 h57 =>
 aa PP (.ld (.c a56) 1 false) h57 fun a58 h59 =>
 vbin .neq (f54 7) a58 fun a60 =>
 vcond a60 (aa PP (.iadd (.c a15) (.c a51) 1) h59 fun a61 h62 =>
 aa PP (.st (.c a61) (.c (f54 7)) 1) h62 fun a63 h64 =>
 0=0/\aC [a0] [a0]/\∃m,I2 m [a15,a17] h64) (
 vbin .add (f46 39) (.int .i64 1) fun a65 =>
 aC [a0,a15,a17,a41,a43] [a0,a15,a17,a41,a43]/\∃m,m<n45/\I44 m [a65] h59)) /\
 aa PP (.iadd (.c a17) (.c a51) 1) h52 fun a66 h67 =>
 aa PP (.ld (.c a66) 1 false) h67 fun a68 h69 =>
 aH a68 h69 fun a70 =>
 gY h69 a70 a0 a15 a17 a51 a41 a43 f46 a68 J53) (
 aC [a15] [a15]/\J32 [] h47)
def w8 (h129:Heap) (a130:D) (a0:D) (f4:Nat->D) (a111:D) (a101:D) (a103:D) (f106:Nat->D) (a128:D) (J113:HJq):Prop :=
 ∃(I131:Nat->HJq) (n₀:Nat),I131 n₀ [(.int .i64 (-1)),(.int .i64 0)] h129/\∀(n132:Nat) (f133:Nat->D) (h134:Heap),I131 n132 [f133 7,f133 48] h134 ->
 vbin .lss (f133 48) a130 fun a135 =>
 vcond a135 (∃(J136:HJq),(∀(f137:Nat->D) (h138:Heap),J136 [f137 7] h138 ->
 vbin .add (f133 48) (.int .i64 1) fun a139 =>
 aC [a0,(f4 3),(f4 4),a111,a101,a103,(f106 39),a128,a130] [a0,(f4 3),(f4 4),a111,a101,a103,(f106 39),a128,a130]/\∃m,m<n132/\I131 m [(f137 7),a139] h138) /\
 aa PP (.iadd (.c a128) (.c (f133 48)) 1) h134 fun a140 h141 =>
 aa PP (.ld (.c a140) 1 false) h141 fun a142 h143 =>
 aa PP (.iadd (.c (f4 3)) (.c a142) 1) h143 fun a144 h145 =>
 aa PP (.ld (.c a144) 1 false) h145 fun a146 h147 =>
 vbin .lss a146 (.int .i64 0) fun a148 =>
 vcond a148 (aC [a0,(f4 3),(f4 4),a111,a101,a103,(f106 39),a128,a130,(f133 48)] [a0,(f4 3),(f4 4),a111,a101,a103,(f106 39),a128,a130,(f133 48)]/\J136 [(f133 7)] h147) (
 vbin .lss (f133 7) (.int .i64 0) fun a149 =>
 vcond a149 (aC [a0,(f4 3),(f4 4),a111,a101,a103,(f106 39),a128,a130,(f133 48)] [a0,(f4 3),(f4 4),a111,a101,a103,(f106 39),a128,a130,(f133 48)]/\J136 [a142] h147) (
 ah PP ga [a0,(f4 3),(f133 7),a142] h147 fun a150 h151 =>
 aC [a0,(f4 3),(f4 4),a111,a101,a103,(f106 39),a128,a130,(f133 48)] [a0,(f4 3),(f4 4),a111,a101,a103,(f106 39),a128,a130,(f133 48)]/\J136 [a150] h151))) (
 aC [a0,(f4 3),(f4 4),a111,a101,a103,(f106 39)] [a0,(f4 3),(f4 4),a111,a101,a103,(f106 39)]/\J113 [(f133 7)] h134)
def mJ (h102:Heap) (a103:D) (a101:D) (f4:Nat->D) (a0:D) (n3:Nat) (I2:Nat->HJq) (J92:HJq):Prop :=
 ∃(I104:Nat->HJq) (n₀:Nat),I104 n₀ [(.int .i64 0)] h102/\∀(n105:Nat) (f106:Nat->D) (h107:Heap),I104 n105 [f106 39] h107 ->
 vbin .lss (f106 39) a103 fun a108 =>
 vcond a108 (aa PP (.iadd (.c a101) (.c (f106 39)) 1) h107 fun a109 h110 =>
 aa PP (.ld (.c a109) 1 false) h110 fun a111 h112 =>
 ∃(J113:HJq),(∀(f114:Nat->D) (h115:Heap),J113 [f114 7] h115 ->
 aa PP (.iadd (.c (f4 3)) (.c a111) 1) h115 fun a116 h117 =>
 aa PP (.ld (.c a116) 1 false) h117 fun a118 h119 =>
 vbin .neq (f114 7) a118 fun a120 =>
 vcond a120 (aa PP (.iadd (.c (f4 3)) (.c a111) 1) h119 fun a121 h122 =>
 aa PP (.st (.c a121) (.c (f114 7)) 1) h122 fun a123 h124 =>
 0=0/\aC [a0] [a0]/\∃m,m<n3/\I2 m [(f4 3),(f4 4)] h124) (
 vbin .add (f106 39) (.int .i64 1) fun a125 =>
 aC [a0,(f4 3),(f4 4),a101,a103] [a0,(f4 3),(f4 4),a101,a103]/\∃m,m<n105/\I104 m [a125] h119)) /\
 aa PP (.iadd (.c (f4 4)) (.c a111) 1) h112 fun a126 h127 =>
 aa PP (.ld (.c a126) 1 false) h127 fun a128 h129 =>
 aH a128 h129 fun a130 =>
 w8 h129 a130 a0 f4 a111 a101 a103 f106 a128 J113) (
 aC [(f4 3)] [(f4 3)]/\J92 [] h107)
def qL (a0:D) (h0:Heap) (K:HKq):Prop :=
 ∃(I2:Nat->HJq),(aa PP (.bldS true 1 1 (.int .i64 0) [(0,(.c (.int .i64 (-1))))]) h0 fun a6 h7 =>
 aa PP (.fadd (.c a0) 0) h7 fun a8 h9 =>
 aa PP (.fadd (.c a8) 0) h9 fun a10 h11 =>
 aa PP (.ld (.c a10) 1 false) h11 fun a12 h13 =>
 aH a12 h13 fun a14 =>
 ah PP cu [a6,a14] h13 fun a15 h16 =>
 ah PP fg [a0] h16 fun a17 h18 =>
 ae PP (.fadd (.c a0) 0) h18 fun a19 =>
 ae PP (.fadd (.c a19) 1) h18 fun a20 =>
 ae PP (.ld (.c a20) 1 false) h18 fun a21 =>
 ae PP (.iadd (.c a21) (.c (.int .i64 0)) 1) h18 fun a22 =>
 ae PP (.ld (.c a22) 1 false) h18 fun a23 =>
 ae PP (.fadd (.c a0) 0) h18 fun a24 =>
 ae PP (.fadd (.c a24) 1) h18 fun a25 =>
 ae PP (.ld (.c a25) 1 false) h18 fun a26 =>
 ae PP (.iadd (.c a26) (.c (.int .i64 0)) 1) h18 fun a27 =>
 ae PP (.ld (.c a27) 1 false) h18 fun a28 =>
 ae PP (.iadd (.c a15) (.c a23) 1) h18 fun a29 =>
 aa PP (.st (.c a29) (.c a28) 1) h18 fun a30 h31 =>
 ∃(J32:HJq),(∀(f33:Nat->D) (h34:Heap),J32 [] h34 ->
 K a15 h34) /\
 aa PP (.fadd (.c a0) 0) h31 fun a35 h36 =>
 aa PP (.fadd (.c a35) 1) h36 fun a37 h38 =>
 aa PP (.ld (.c a37) 1 false) h38 fun a39 h40 =>
 aa PP (.yZ (.c a39) (some (.c (.int .i64 1))) none none 1) h40 fun a41 h42 =>
 aH a41 h42 fun a43 =>
 fo h42 a43 a41 a15 a0 I2 a17 J32)/\∀(n3:Nat) (f4:Nat->D) (h5:Heap),I2 n3 [f4 3,f4 4] h5 ->
 ∃(J92:HJq),(∀(f93:Nat->D) (h94:Heap),J92 [] h94 ->
 K (f4 3) h94) /\
 aa PP (.fadd (.c a0) 0) h5 fun a95 h96 =>
 aa PP (.fadd (.c a95) 1) h96 fun a97 h98 =>
 aa PP (.ld (.c a97) 1 false) h98 fun a99 h100 =>
 aa PP (.yZ (.c a99) (some (.c (.int .i64 1))) none none 1) h100 fun a101 h102 =>
 aH a101 h102 fun a103 =>
 mJ h102 a103 a101 f4 a0 n3 I2 J92
theorem w7 (a0:D) (h0:Heap) (K:HKq):qL a0 h0 K=fP qZ K [a0] h0:=by kernel_rfl
def A9:TLq
 | _=>none
def DL:TTq
 | _=>none
noncomputable abbrev AJ:=cFn PP true Ak A9 (cDr PP 6 DL)
noncomputable def AQ:aJ:=⟨6,aP AJ,[.t 4]⟩
theorem Dy:AJ=some AQ:=by kernel_rfl
def AB (a0:D) (a1:D) (h0:Heap) (K:HKq):Prop :=
 aa PP (.box (.c a0)) h0 fun a3 h4 =>
 aa PP (.box (.c a1)) h4 fun a5 h6 =>
 aa PP (.mkf iV [] [(.c a5),(.c a3)]) h6 fun a7 h8 =>
 K a7 h8
theorem C9 (a0:D) (a1:D) (h0:Heap) (K:HKq):AB a0 a1 h0 K=fP AQ K [a0,a1] h0:=by kernel_rfl
def jH:TLq
 | _=>none
def kN:TTq
 | _=>none
noncomputable abbrev fX:=cFn PP true de jH (cDr PP 9 kN)
noncomputable def fY:aJ:=⟨9,aP fX,[.t 4]⟩
theorem kE:fX=some fY:=by kernel_rfl
def fW (a0:D) (a1:D) (h0:Heap) (K:HKq):Prop :=
 ah PP er [a0,a1] h0 fun a3 h4 =>
 vbin .geq a3 (.int .i64 0) fun a5 =>
 K a5 h4
theorem kr (a0:D) (a1:D) (h0:Heap) (K:HKq):fW a0 a1 h0 K=fP fY K [a0,a1] h0:=by kernel_rfl
def dA:TLq
 | 1000008=>some ([],[])|2=>some ([0,1,7],[8])|_=>none
def dK:TTq
 | _=>none
noncomputable abbrev bM:=cFn PP true bj dA (cDr PP 19 dK)
noncomputable def bO:aJ:=⟨19,aP bM,[.t 4]⟩
theorem dH:bM=some bO:=by kernel_rfl
def bx (h0:Heap) (a6:D) (a0:D) (a1:D) (J3:HJq) (K:HKq):Prop :=
 ∃(I7:Nat->HJq) (n₀:Nat),I7 n₀ [(.int .i64 0)] h0/\∀(n8:Nat) (f9:Nat->D) (h10:Heap),I7 n8 [f9 8] h10 ->
 vbin .lss (f9 8) a6 fun a11 =>
 vcond a11 (aa PP (.iadd (.c a0) (.c (f9 8)) 2) h10 fun a12 h13 =>
 aa PP (.ld (.c a12) 2 true) h13 fun a14 h15 =>
 aa PP (.callv (.c a1) [(.c a14)]) h15 fun a16 h17 =>
 vcond a16 (K (f9 8) h17) (
 vbin .add (f9 8) (.int .i64 1) fun a18 =>
 aC [a0,a1,a6] [a0,a1,a6]/\∃m,m<n8/\I7 m [a18] h17)) (
 aC [] []/\J3 [] h10)
def bJ (a0:D) (a1:D) (h0:Heap) (K:HKq):Prop :=
 ∃(J3:HJq),(∀(f4:Nat->D) (h5:Heap),J3 [] h5 ->
 K (.int .i64 (-1)) h5) /\
 aH a0 h0 fun a6 =>
 bx h0 a6 a0 a1 J3 K
theorem dF (a0:D) (a1:D) (h0:Heap) (K:HKq):bJ a0 a1 h0 K=fP bO K [a0,a1] h0:=by kernel_rfl
def xO:TLq
 | 1000009=>some ([2,4,6],[])|4=>some ([2,3,4,6,7],[8])|1000006=>some ([2,3,4,6,7,8],[])|_=>none
def AU:TTq
 | 6=>some ([0,1,0,0,12,28,63,127,255],[],[999999])|7=>some ([0,0,0,0,12,28,63,127],[6,7],[999999])|_=>none
noncomputable abbrev vc:=cFn PP true jU xO (cDr PP 49 AU)
noncomputable def vw:aJ:=⟨49,aP vc,[.cell 6 2 true]⟩
theorem zW:vc=some vw:=by kernel_rfl
def po (h29:Heap) (a28:D) (a2:D) (a4:D) (a6:D) (a8:D) (J30:HJq):Prop :=
 ∃(I50:Nat->HJq) (n₀:Nat),I50 n₀ [(.int .i64 0)] h29/\∀(n51:Nat) (f52:Nat->D) (h53:Heap),I50 n51 [f52 8] h53 ->
 aH a28 h53 fun a54 =>
 vbin .lss (f52 8) a54 fun a55 =>
 vcond a55 (∃(J56:HJq),(∀(f57:Nat->D) (h58:Heap),J56 [] h58 ->
 vbin .add (f52 8) (.int .i64 1) fun a59 =>
 aC [a2,a4,a6,a8,a28] [a2,a4,a6,a8,a28]/\∃m,m<n51/\I50 m [a59] h58) /\
 ae PP (.fadd (.c a6) 0) h53 fun a60 =>
 ae PP (.ld (.c a60) 1 false) h53 fun a61 =>
 ae PP (.iadd (.c a28) (.c (f52 8)) 1) h53 fun a62 =>
 ae PP (.ld (.c a62) 1 false) h53 fun a63 =>
 ae PP (.iadd (.c a61) (.c a63) 1) h53 fun a64 =>
 ae PP (.ld (.c a64) 1 false) h53 fun a65 =>
 vun .not a65 fun a66 =>
 vcond a66 (ae PP (.ld (.c a4) 8 true) h53 fun a67 =>
 ae PP (.ld (.c a6) 2 true) h53 fun a68 =>
 ae PP (.iadd (.c a28) (.c (f52 8)) 1) h53 fun a69 =>
 ae PP (.ld (.c a69) 1 false) h53 fun a70 =>
 ah PP jU [a67,a68,a70] h53 fun a71 h72 =>
 aa PP (.st (.c a6) (.c a71) 2) h72 fun a73 h74 =>
 aC [a2,a4,a6,a8,a28,(f52 8)] [a2,a4,a6,a8,a28,(f52 8)]/\J56 [] h74) (
 aC [a2,a4,a6,a8,a28,(f52 8)] [a2,a4,a6,a8,a28,(f52 8)]/\J56 [] h53)) (
 aC [a2,a6,a8] [a2,a6,a8]/\J30 [] h53)
def uW (a0:D) (a1:D) (a2:D) (h0:Heap) (K:HKq):Prop :=
 aa PP (.box (.c a0)) h0 fun a4 h5 =>
 aa PP (.box (.c a1)) h5 fun a6 h7 =>
 aa PP (.alloc (.agg [.nil,.nil])) h7 fun a8 h9 =>
 aa PP (.fadd (.c a6) 0) h9 fun a10 h11 =>
 aa PP (.ld (.c a10) 1 false) h11 fun a12 h13 =>
 aa PP (.iadd (.c a12) (.c a2) 1) h13 fun a14 h15 =>
 aa PP (.st (.c a14) (.c (.bool true)) 1) h15 fun a16 h17 =>
 aa PP (.fadd (.c a4) 7) h17 fun a18 h19 =>
 aa PP (.ld (.c a18) 1 false) h19 fun a20 h21 =>
 aa PP (.iadd (.c a20) (.c a2) 14) h21 fun a22 h23 =>
 aa PP (.fadd (.c a22) 1) h23 fun a24 h25 =>
 aa PP (.ld (.c a24) 13 true) h25 fun a26 h27 =>
 ah PP iP [a26] h27 fun a28 h29 =>
 ∃(J30:HJq),(∀(f31:Nat->D) (h32:Heap),J30 [] h32 ->
 aa PP (.bldS true 1 1 (.int .i64 0) [(0,(.c a2))]) h32 fun a33 h34 =>
 aa PP (.fadd (.c a6) 1) h34 fun a35 h36 =>
 aa PP (.ld (.c a35) 1 false) h36 fun a37 h38 =>
 aa PP (.app (.c a33) (.c a37) 1 8 (.int .i64 0)) h38 fun a39 h40 =>
 aa PP (.fadd (.c a6) 1) h40 fun a41 h42 =>
 aa PP (.st (.c a41) (.c a39) 1) h42 fun a43 h44 =>
 aa PP (.ld (.c a6) 2 true) h44 fun a45 h46 =>
 aa PP (.st (.c a8) (.c a45) 2) h46 fun a47 h48 =>
 aa PP (.ld (.c a8) 2 true) h48 fun a49 _ =>
 K a49 h48) /\
 po h29 a28 a2 a4 a6 a8 J30
theorem zM (a0:D) (a1:D) (a2:D) (h0:Heap) (K:HKq):uW a0 a1 a2 h0 K=fP vw K [a0,a1,a2] h0:=by kernel_rfl
def wG:TLq
 | 1000013=>some ([5],[])|8=>some ([5,32,33],[34])|_=>none
def zc:TTq
 | 1=>some ([0,0,0,4,14,31,63,0,255],[4,6,7,8],[999996,2])|_=>none
noncomputable abbrev tu:=cFn PP true iT wG (cDr PP 48 zc)
noncomputable def tL:aJ:=⟨48,aP tu,[.t 4]⟩
theorem yW:tu=some tL:=by kernel_rfl
def nH (h63:Heap) (a64:D) (a62:D) (a15:D) (J51:HJq):Prop :=
 ∃(I65:Nat->HJq) (n₀:Nat),I65 n₀ [(.int .i64 0)] h63/\∀(n66:Nat) (f67:Nat->D) (h68:Heap),I65 n66 [f67 34] h68 ->
 vbin .lss (f67 34) a64 fun a69 =>
 vcond a69 (aa PP (.iadd (.c a62) (.c (f67 34)) 1) h68 fun a70 h71 =>
 aa PP (.ld (.c a70) 1 false) h71 fun a72 h73 =>
 aa PP (.ld (.c a15) 1 false) h73 fun a74 h75 =>
 aa PP (.fadd (.c a74) 0) h75 fun a76 h77 =>
 aa PP (.fadd (.c a76) 2) h77 fun a78 h79 =>
 aa PP (.ld (.c a78) 1 false) h79 fun a80 h81 =>
 aa PP (.iadd (.c a80) (.c a72) 1) h81 fun a82 h83 =>
 aa PP (.st (.c a82) (.c (f67 34)) 1) h83 fun a84 h85 =>
 vbin .add (f67 34) (.int .i64 1) fun a86 =>
 aC [a15,a62,a64] [a15,a62,a64]/\∃m,m<n66/\I65 m [a86] h85) (
 aC [a15] [a15]/\J51 [] h68)
def tf (a0:D) (a1:D) (h0:Heap) (K:HKq):Prop :=
 aa PP (.box (.c a0)) h0 fun a3 h4 =>
 ae PP (.ld (.c a3) 1 false) h4 fun a5 =>
 ae PP (.bldS false 1 1 (.int .i64 0) [(0,(.c (.int .i64 (-1))))]) h4 fun a6 =>
 ae PP (.ld (.c a3) 1 false) h4 fun a7 =>
 aH a7 h4 fun a8 =>
 ah PP cu [a6,a8] h4 fun a9 h10 =>
 ((ae PP (.ld (.c a3) 1 false) h10 fun a11=>aC [a11] [a5])/\True) /\
 ae PP (.bld [.nil,.nil,.nil] [(0,1,(.c a5)),(2,1,(.c a9))]) h10 fun a12 =>
 aa PP (.box (.c a12)) h10 fun a13 h14 =>
 aa PP (.alloc .nilp) h14 fun a15 h16 =>
 ((ae PP (.ld (.c a3) 1 false) h16 fun a17=>aC [a17] [a5])/\(ae PP (.ld (.c a3) 1 false) h16 fun a18=>aC [a18] [a7])/\(ae PP (.len (.c a7)) h16 fun a19=>aC [a19] [a8])/\True) /\
 aa PP (.st (.c a15) (.c a13) 1) h16 fun a20 h21 =>
 aa PP (.ld (.c a3) 1 false) h21 fun a22 h23 =>
 aH a22 h23 fun a24 =>
 aa PP (.mk 1 1 (.bool false) (.c a24) (.c a24)) h23 fun a25 h26 =>
 aa PP (.alloc .nil) h26 fun a27 h28 =>
 aa PP (.st (.c a27) (.c a25) 1) h28 fun a29 h30 =>
 aa PP (.alloc .nilfn) h30 fun a31 h32 =>
 aa PP (.mkf b8 [] [(.c a27),(.c a3),(.c a31),(.c a15)]) h32 fun a33 h34 =>
 aa PP (.st (.c a31) (.c a33) 1) h34 fun a35 h36 =>
 aa PP (.ld (.c a31) 1 false) h36 fun a37 h38 =>
 aa PP (.callv (.c a37) [(.c a1)]) h38 fun a39 h40 =>
 aa PP (.ld (.c a15) 1 false) h40 fun a41 h42 =>
 aa PP (.fadd (.c a41) 0) h42 fun a43 h44 =>
 aa PP (.fadd (.c a43) 1) h44 fun a45 h46 =>
 aa PP (.ld (.c a45) 1 false) h46 fun a47 h48 =>
 ah PP dE [a47] h48 fun a49 h50 =>
 ∃(J51:HJq),(∀(f52:Nat->D) (h53:Heap),J51 [] h53 ->
 aa PP (.ld (.c a15) 1 false) h53 fun a54 h55 =>
 K a54 h55) /\
 aa PP (.ld (.c a15) 1 false) h50 fun a56 h57 =>
 aa PP (.fadd (.c a56) 0) h57 fun a58 h59 =>
 aa PP (.fadd (.c a58) 1) h59 fun a60 h61 =>
 aa PP (.ld (.c a60) 1 false) h61 fun a62 h63 =>
 aH a62 h63 fun a64 =>
 nH h63 a64 a62 a15 J51
theorem yw (a0:D) (a1:D) (h0:Heap) (K:HKq):tf a0 a1 h0 K=fP tL K [a0,a1] h0:=by kernel_rfl
def A8:TLq
 | 1000008=>some ([3],[])|3=>some ([3,11,12],[13])|_=>none
def DK:TTq
 | _=>none
noncomputable abbrev AI:=cFn PP true ss A8 (cDr PP 26 DK)
noncomputable def AP:aJ:=⟨26,aP AI,[.t 2]⟩
theorem Dw:AI=some AP:=by kernel_rfl
def tg (h17:Heap) (a18:D) (a16:D) (a9:D) (J11:HJq):Prop :=
 ∃(I19:Nat->HJq) (n₀:Nat),I19 n₀ [(.int .i64 0)] h17/\∀(n20:Nat) (f21:Nat->D) (h22:Heap),I19 n20 [f21 13] h22 ->
 vbin .lss (f21 13) a18 fun a23 =>
 vcond a23 (aa PP (.iadd (.c a16) (.c (f21 13)) 14) h22 fun a24 h25 =>
 aa PP (.ld (.c a24) 14 true) h25 fun a26 h27 =>
 aa PP (.alloc (.agg [.nil,zI,zI,zI,zI,zJ,zI,zI,zJ,zI,zI,zJ,zI,zI])) h27 fun a28 h29 =>
 aa PP (.st (.c a28) (.c a26) 14) h29 fun a30 h31 =>
 aa PP (.fadd (.c a28) 1) h31 fun a32 h33 =>
 aa PP (.ld (.c a32) 13 true) h33 fun a34 h35 =>
 ah PP ki [a34] h35 fun a36 h37 =>
 aa PP (.iadd (.c a9) (.c (f21 13)) 1) h37 fun a38 h39 =>
 aa PP (.st (.c a38) (.c a36) 1) h39 fun a40 h41 =>
 vbin .add (f21 13) (.int .i64 1) fun a42 =>
 aC [a9,a16,a18] [a9,a16,a18]/\∃m,m<n20/\I19 m [a42] h41) (
 aC [a9] [a9]/\J11 [] h22)
def AA (a0:D) (h0:Heap) (K:HKq):Prop :=
 aa PP (.box (.c a0)) h0 fun a2 h3 =>
 aa PP (.fadd (.c a2) 7) h3 fun a4 h5 =>
 aa PP (.ld (.c a4) 1 false) h5 fun a6 h7 =>
 aH a6 h7 fun a8 =>
 aa PP (.mk 1 24 .nil (.c a8) (.c a8)) h7 fun a9 h10 =>
 ∃(J11:HJq),(∀(f12:Nat->D) (h13:Heap),J11 [] h13 ->
 K a9 h13) /\
 aa PP (.fadd (.c a2) 7) h10 fun a14 h15 =>
 aa PP (.ld (.c a14) 1 false) h15 fun a16 h17 =>
 aH a16 h17 fun a18 =>
 tg h17 a18 a16 a9 J11
theorem C7 (a0:D) (h0:Heap) (K:HKq):AA a0 h0 K=fP AP K [a0] h0:=by kernel_rfl
end Go.Am
namespace Go.Am
open Go Go.Proofs
def qd:TLq
 | 1000012=>some ([3],[])|3=>some ([0,3,17,18],[19])|1000011=>some ([0,3,17,18,19],[])|6=>some ([0,3,5,17,18,19,29,30],[31])|_=>none
def si:TTq
 | _=>none
noncomputable abbrev mQ:=cFn PP true fg qd (cDr PP 48 si)
noncomputable def mY:aJ:=⟨48,aP mQ,[.t 2]⟩
theorem rU:mQ=some mY:=by kernel_rfl
def jA (h43:Heap) (a44:D) (a42:D) (a9:D) (a32:D) (a0:D) (a18:D) (a20:D) (f23:Nat->D) (J26:HJq):Prop :=
 ∃(I45:Nat->HJq) (n₀:Nat),I45 n₀ [(.int .i64 0)] h43/\∀(n46:Nat) (f47:Nat->D) (h48:Heap),I45 n46 [f47 31] h48 ->
 vbin .lss (f47 31) a44 fun a49 =>
 vcond a49 (aa PP (.iadd (.c a42) (.c (f47 31)) 1) h48 fun a50 h51 =>
 aa PP (.ld (.c a50) 1 false) h51 fun a52 h53 =>
 aa PP (.iadd (.c a9) (.c a52) 1) h53 fun a54 h55 =>
 aa PP (.ld (.c a54) 1 false) h55 fun a56 h57 =>
 aa PP (.bldS true 1 1 (.int .i64 0) [(0,(.c a32))]) h57 fun a58 h59 =>
 aa PP (.app (.c a56) (.c a58) 1 8 (.int .i64 0)) h59 fun a60 h61 =>
 aa PP (.iadd (.c a9) (.c a52) 1) h61 fun a62 h63 =>
 aa PP (.st (.c a62) (.c a60) 1) h63 fun a64 h65 =>
 vbin .add (f47 31) (.int .i64 1) fun a66 =>
 aC [a0,a9,a32,a18,a20,(f23 19),a42,a44] [a0,a9,a32,a18,a20,(f23 19),a42,a44]/\∃m,m<n46/\I45 m [a66] h65) (
 aC [a0,a9,a18,a20,(f23 19)] [a0,a9,a18,a20,(f23 19)]/\J26 [] h48)
def jz (h19:Heap) (a20:D) (a0:D) (a9:D) (a18:D) (J11:HJq):Prop :=
 ∃(I21:Nat->HJq) (n₀:Nat),I21 n₀ [(.int .i64 0)] h19/\∀(n22:Nat) (f23:Nat->D) (h24:Heap),I21 n22 [f23 19] h24 ->
 vbin .lss (f23 19) a20 fun a25 =>
 vcond a25 (∃(J26:HJq),(∀(f27:Nat->D) (h28:Heap),J26 [] h28 ->
 vbin .add (f23 19) (.int .i64 1) fun a29 =>
 aC [a0,a9,a18,a20] [a0,a9,a18,a20]/\∃m,m<n22/\I21 m [a29] h28) /\
 aa PP (.iadd (.c a18) (.c (f23 19)) 1) h24 fun a30 h31 =>
 aa PP (.ld (.c a30) 1 false) h31 fun a32 h33 =>
 aa PP (.fadd (.c a0) 0) h33 fun a34 h35 =>
 aa PP (.fadd (.c a34) 0) h35 fun a36 h37 =>
 aa PP (.ld (.c a36) 1 false) h37 fun a38 h39 =>
 aa PP (.iadd (.c a38) (.c a32) 1) h39 fun a40 h41 =>
 aa PP (.ld (.c a40) 1 false) h41 fun a42 h43 =>
 aH a42 h43 fun a44 =>
 jA h43 a44 a42 a9 a32 a0 a18 a20 f23 J26) (
 aC [a9] [a9]/\J11 [] h24)
def mK (a0:D) (h0:Heap) (K:HKq):Prop :=
 aa PP (.fadd (.c a0) 0) h0 fun a2 h3 =>
 aa PP (.fadd (.c a2) 0) h3 fun a4 h5 =>
 aa PP (.ld (.c a4) 1 false) h5 fun a6 h7 =>
 aH a6 h7 fun a8 =>
 aa PP (.mk 1 24 .nil (.c a8) (.c a8)) h7 fun a9 h10 =>
 ∃(J11:HJq),(∀(f12:Nat->D) (h13:Heap),J11 [] h13 ->
 K a9 h13) /\
 aa PP (.fadd (.c a0) 0) h10 fun a14 h15 =>
 aa PP (.fadd (.c a14) 1) h15 fun a16 h17 =>
 aa PP (.ld (.c a16) 1 false) h17 fun a18 h19 =>
 aH a18 h19 fun a20 =>
 jz h19 a20 a0 a9 a18 J11
theorem rO (a0:D) (h0:Heap) (K:HKq):mK a0 h0 K=fP mY K [a0] h0:=by kernel_rfl
def kR:TLq
 | 1000004=>some ([0,1],[])|1000007=>some ([0,6],[])|1000011=>some ([7],[])|8=>some ([7],[8])|_=>none
def mi:TTq
 | 9=>some ([0,0,0,6,0,0,48,126,255,511],[7,8,9],[])|_=>none
noncomputable abbrev gJ:=cFn PP true cu kR (cDr PP 48 mi)
noncomputable def gK:aJ:=⟨48,aP gJ,[.t 4]⟩
theorem l5:gJ=some gK:=by kernel_rfl
def fM (a24:D) (h25:Heap) (a22:D) (J26:HJq):Prop :=
 ∃(I29:Nat->HJq) (n₀:Nat),I29 n₀ [a24] h25/\∀(n30:Nat) (f31:Nat->D) (h32:Heap),I29 n30 [f31 8] h32 ->
 aH a22 h32 fun a33 =>
 vbin .lss (f31 8) a33 fun a34 =>
 vcond a34 (ae PP (.yZ (.c a22) (some (.c (f31 8))) none none 1) h32 fun a35 =>
 ae PP (.yZ (.c a22) none (some (.c (f31 8))) none 1) h32 fun a36 =>
 aa PP (.Ev (.c a35) (.c a36) 1) h32 fun a37 h38 =>
 vbin .add (f31 8) a37 fun a39 =>
 aC [a22] [a22]/\∃m,m<n30/\I29 m [a39] h38) (
 aC [a22] [a22]/\J26 [] h32)
def gH (a0:D) (a1:D) (h0:Heap) (K:HKq):Prop :=
 ∃(J3:HJq),(∀(f4:Nat->D) (h5:Heap),J3 [] h5 ->
 aH a0 h5 fun a6 =>
 aa PP (.conv .u64 (.c a6)) h5 fun a7 h8 =>
 aa PP (.conv .u64 (.c a1)) h8 fun a9 h10 =>
 ah PP kO [a7,a9] h10 fun a11 h12 =>
 aa PP (.ext (.c a11) 0) h12 fun a13 h14 =>
 aa PP (.ext (.c a11) 1) h14 fun a15 h16 =>
 ∃(J17:HJq),(∀(f18:Nat->D) (h19:Heap),J17 [] h19 ->
 aa PP (.conv .i64 (.c a15)) h19 fun a20 h21 =>
 aa PP (.mk 1 8 (.int .i64 0) (.c a20) (.c a20)) h21 fun a22 h23 =>
 aa PP (.Ev (.c a22) (.c a0) 1) h23 fun a24 h25 =>
 ∃(J26:HJq),(∀(f27:Nat->D) (h28:Heap),J26 [] h28 ->
 K a22 h28) /\
 fM a24 h25 a22 J26) /\
 vbin .gtr a13 (.int .u64 0) fun a40 =>
 vguard a40 false (fun G41 =>
 G41 a15 h16) h16 fun a42 h43 =>
 vguard a40 false (fun G44 =>
 vbin .gtr a42 (.int .u64 9223372036854775807) fun a47 =>
 G44 a47 h43) h43 fun a45 h46 =>
 aa PP (.pick (.c a40) (.c (.bool true)) (.c a45)) h46 fun a48 h49 =>
 vcond a48 (aa PP (.dead) h49 fun a50 h51 =>
 aa PP (.dead) h51 fun a52 h53 =>
 aC [a0,a15] [a0,a15]/\J17 [] h53) (
 aC [a0,a15] [a0,a15]/\J17 [] h49)) /\
 vbin .lss a1 (.int .i64 0) fun a54 =>
 vcond a54 (aa PP (.dead) h0 fun a55 h56 =>
 aa PP (.dead) h56 fun a57 h58 =>
 aC [a0,a1] [a0,a1]/\J3 [] h58) (
 aC [a0,a1] [a0,a1]/\J3 [] h0)
theorem lW (a0:D) (a1:D) (h0:Heap) (K:HKq):gH a0 a1 h0 K=fP gK K [a0,a1] h0:=by kernel_rfl
def sC:TLq
 | 1000006=>some ([],[2])|1=>some ([0,1],[2,3])|_=>none
def vW:TTq
 | 2=>some ([0,1,3,7,0,31,63,0,128,384,896,0,3968,8064,16383],[],[])|_=>none
noncomputable abbrev pH:=cFn PP true ga sC (cDr PP 36 vW)
noncomputable def pN:aJ:=⟨36,aP pH,[.t 8]⟩
theorem uH:pH=some pN:=by kernel_rfl
def lx (a2:D) (a3:D) (h0:Heap) (a0:D) (a1:D) (J5:HJq):Prop :=
 ∃(I8:Nat->HJq) (n₀:Nat),I8 n₀ [a2,a3] h0/\∀(n9:Nat) (f10:Nat->D) (h11:Heap),I8 n9 [f10 2,f10 3] h11 ->
 vbin .neq (f10 2) (f10 3) fun a12 =>
 vcond a12 (ae PP (.fadd (.c a0) 0) h11 fun a13 =>
 ae PP (.fadd (.c a13) 2) h11 fun a14 =>
 ae PP (.ld (.c a14) 1 false) h11 fun a15 =>
 ae PP (.iadd (.c a15) (.c (f10 2)) 1) h11 fun a16 =>
 ae PP (.ld (.c a16) 1 false) h11 fun a17 =>
 ae PP (.fadd (.c a0) 0) h11 fun a18 =>
 ae PP (.fadd (.c a18) 2) h11 fun a19 =>
 ae PP (.ld (.c a19) 1 false) h11 fun a20 =>
 ae PP (.iadd (.c a20) (.c (f10 3)) 1) h11 fun a21 =>
 ae PP (.ld (.c a21) 1 false) h11 fun a22 =>
 vbin .gtr a17 a22 fun a23 =>
 vcond a23 (aa PP (.iadd (.c a1) (.c (f10 2)) 1) h11 fun a24 h25 =>
 aa PP (.ld (.c a24) 1 false) h25 fun a26 h27 =>
 aC [a0,a1] [a0,a1]/\∃m,m<n9/\I8 m [a26,(f10 3)] h27) (
 aa PP (.iadd (.c a1) (.c (f10 3)) 1) h11 fun a28 h29 =>
 aa PP (.ld (.c a28) 1 false) h29 fun a30 h31 =>
 aC [a0,a1] [a0,a1]/\∃m,m<n9/\I8 m [(f10 2),a30] h31)) (
 aC [] []/\J5 [(f10 2)] h11)
def pD (a0:D) (a1:D) (a2:D) (a3:D) (h0:Heap) (K:HKq):Prop :=
 ∃(J5:HJq),(∀(f6:Nat->D) (h7:Heap),J5 [f6 2] h7 ->
 K (f6 2) h7) /\
 lx a2 a3 h0 a0 a1 J5
theorem uz (a0:D) (a1:D) (a2:D) (a3:D) (h0:Heap) (K:HKq):pD a0 a1 a2 a3 h0 K=fP pN K [a0,a1,a2,a3] h0:=by kernel_rfl
def wH:TLq
 | 0=>some ([0,1,2],[])|_=>none
def ze:TTq
 | 0=>some ([0,0,3,7,15,15,63,127,15,511,1023],[2],[999999])|_=>none
noncomputable abbrev tv:=cFn PP true iV wH (cDr PP 19 ze)
noncomputable def tM:aJ:=⟨19,aP tv,[]⟩
theorem yX:tv=some tM:=by kernel_rfl
def nJ (h0:Heap) (a1:D) (a0:D) (a2:D) (K:HKq):Prop :=
 ∃(I4:Nat->HJq) (n₀:Nat),I4 n₀ [] h0/\∀(n5:Nat) (f6:Nat->D) (h7:Heap),I4 n5 [] h7 ->
 ae PP (.ld (.c a1) 1 false) h7 fun a8 =>
 aa PP (.callv (.c a0) [(.c a8)]) h7 fun a9 h10 =>
 an a9 true (fun G11 =>
 ae PP (.ld (.c a2) 1 false) h10 fun a51 =>
 G11 a51) fun a12 =>
 an a9 true (fun G15 =>
 ae PP (.ld (.c a1) 1 false) h10 fun a50 =>
 G15 a50) fun a16 =>
 an a9 true (fun G19 =>
 ae PP (.iadd (.c a12) (.c a16) 1) h10 fun a49 =>
 G19 a49) fun a20 =>
 an a9 true (fun G23 =>
 ae PP (.ld (.c a20) 1 false) h10 fun a48 =>
 G23 a48) fun a24 =>
 an a9 true (fun G27 =>
 ae PP (.ld (.c a1) 1 false) h10 fun a47 =>
 G27 a47) fun a28 =>
 an a9 true (fun G31 =>
 vbin .neq a24 a28 fun a46 =>
 G31 a46) fun a32 =>
 ae PP (.pick (.c a9) (.c a32) (.c (.bool false))) h10 fun a35 =>
 vcond a35 (aa PP (.ld (.c a2) 1 false) h10 fun a36 h37 =>
 aa PP (.ld (.c a1) 1 false) h37 fun a38 h39 =>
 aa PP (.iadd (.c a36) (.c a38) 1) h39 fun a40 h41 =>
 aa PP (.ld (.c a40) 1 false) h41 fun a42 h43 =>
 aa PP (.st (.c a1) (.c a42) 1) h43 fun a44 h45 =>
 aC [a0,a1,a2] [a0,a1,a2]/\∃m,m<n5/\I4 m [] h45) (
 K (.tup []) h10)
def th (a0:D) (a1:D) (a2:D) (h0:Heap) (K:HKq):Prop :=
 nJ h0 a1 a0 a2 K
theorem yx (a0:D) (a1:D) (a2:D) (h0:Heap) (K:HKq):th a0 a1 a2 h0 K=fP tM K [a0,a1,a2] h0:=by kernel_rfl
def lQ:TLq
 | 1000008=>some ([],[])|2=>some ([0,1,7],[8])|_=>none
def mZ:TTq
 | _=>none
noncomputable abbrev iB:=cFn PP true er lQ (cDr PP 19 mZ)
noncomputable def iC:aJ:=⟨19,aP iB,[.t 4]⟩
theorem mT:iB=some iC:=by kernel_rfl
def fV (h0:Heap) (a6:D) (a0:D) (a1:D) (J3:HJq) (K:HKq):Prop :=
 ∃(I7:Nat->HJq) (n₀:Nat),I7 n₀ [(.int .i64 0)] h0/\∀(n8:Nat) (f9:Nat->D) (h10:Heap),I7 n8 [f9 8] h10 ->
 vbin .lss (f9 8) a6 fun a11 =>
 vcond a11 (aa PP (.iadd (.c a0) (.c (f9 8)) 1) h10 fun a12 h13 =>
 aa PP (.ld (.c a12) 1 false) h13 fun a14 h15 =>
 vbin .eql a1 a14 fun a16 =>
 vcond a16 (K (f9 8) h15) (
 vbin .add (f9 8) (.int .i64 1) fun a17 =>
 aC [a0,a1,a6] [a0,a1,a6]/\∃m,m<n8/\I7 m [a17] h15)) (
 aC [] []/\J3 [] h10)
def iw (a0:D) (a1:D) (h0:Heap) (K:HKq):Prop :=
 ∃(J3:HJq),(∀(f4:Nat->D) (h5:Heap),J3 [] h5 ->
 K (.int .i64 (-1)) h5) /\
 aH a0 h0 fun a6 =>
 fV h0 a6 a0 a1 J3 K
theorem mC (a0:D) (a1:D) (h0:Heap) (K:HKq):iw a0 a1 h0 K=fP iC K [a0,a1] h0:=by kernel_rfl
def rI:TLq
 | 1000008=>some ([0,4],[])|2=>some ([0,1,3,4,14,15],[16])|1000007=>some ([0,1,3,4,14,15,16],[])|_=>none
def uf:TTq
 | 7=>some ([0,0,2,6,14,0,32,126,255,511,1023],[7,10],[0])|_=>none
noncomputable abbrev nX:=cFn PP true b8 rI (cDr PP 39 uf)
noncomputable def om:aJ:=⟨39,aP nX,[]⟩
theorem tK:nX=some om:=by kernel_rfl
def kB (h34:Heap) (a35:D) (a0:D) (a1:D) (a3:D) (a4:D) (a33:D) (J12:HJq):Prop :=
 ∃(I36:Nat->HJq) (n₀:Nat),I36 n₀ [(.int .i64 0)] h34/\∀(n37:Nat) (f38:Nat->D) (h39:Heap),I36 n37 [f38 16] h39 ->
 vbin .lss (f38 16) a35 fun a40 =>
 vcond a40 (∃(J41:HJq),(∀(f42:Nat->D) (h43:Heap),J41 [] h43 ->
 vbin .add (f38 16) (.int .i64 1) fun a44 =>
 aC [a0,a1,a3,a4,a33,a35] [a0,a1,a3,a4,a33,a35]/\∃m,m<n37/\I36 m [a44] h43) /\
 aa PP (.iadd (.c a33) (.c (f38 16)) 1) h39 fun a45 h46 =>
 aa PP (.ld (.c a45) 1 false) h46 fun a47 h48 =>
 aa PP (.ld (.c a1) 1 false) h48 fun a49 h50 =>
 aa PP (.iadd (.c a49) (.c a47) 1) h50 fun a51 h52 =>
 aa PP (.ld (.c a51) 1 false) h52 fun a53 h54 =>
 vun .not a53 fun a55 =>
 vcond a55 (aa PP (.ld (.c a3) 1 false) h54 fun a56 h57 =>
 aa PP (.callv (.c a56) [(.c a47)]) h57 fun a58 h59 =>
 aC [a0,a1,a3,a4,a33,a35,(f38 16)] [a0,a1,a3,a4,a33,a35,(f38 16)]/\J41 [] h59) (
 aC [a0,a1,a3,a4,a33,a35,(f38 16)] [a0,a1,a3,a4,a33,a35,(f38 16)]/\J41 [] h54)) (
 aC [a0,a4] [a0,a4]/\J12 [] h39)
def nI (a0:D) (a1:D) (a2:D) (a3:D) (a4:D) (h0:Heap) (K:HKq):Prop :=
 aa PP (.ld (.c a1) 1 false) h0 fun a6 h7 =>
 aa PP (.iadd (.c a6) (.c a0) 1) h7 fun a8 h9 =>
 aa PP (.st (.c a8) (.c (.bool true)) 1) h9 fun a10 h11 =>
 ∃(J12:HJq),(∀(f13:Nat->D) (h14:Heap),J12 [] h14 ->
 ae PP (.ld (.c a4) 1 false) h14 fun a15 =>
 ae PP (.ld (.c a4) 1 false) h14 fun a16 =>
 ae PP (.fadd (.c a16) 0) h14 fun a17 =>
 ae PP (.fadd (.c a17) 1) h14 fun a18 =>
 ae PP (.ld (.c a18) 1 false) h14 fun a19 =>
 ae PP (.bldS false 1 1 (.int .i64 0) [(0,(.c a0))]) h14 fun a20 =>
 ae PP (.fadd (.c a15) 0) h14 fun a21 =>
 ae PP (.fadd (.c a21) 1) h14 fun a22 =>
 aa PP (.app (.c a19) (.c a20) 1 8 (.int .i64 0)) h14 fun a23 h24 =>
 ((ae PP (.ld (.c a4) 1 false) h24 fun a25=>aC [a25] [a15])/\True) /\
 aa PP (.st (.c a22) (.c a23) 1) h24 fun a26 h27 =>
 ((ae PP (.ld (.c a4) 1 false) h27 fun a28=>aC [a28] [a15])/\True) /\
 K (.tup []) h27) /\
 aa PP (.ld (.c a2) 1 false) h11 fun a29 h30 =>
 aa PP (.iadd (.c a29) (.c a0) 1) h30 fun a31 h32 =>
 aa PP (.ld (.c a31) 1 false) h32 fun a33 h34 =>
 aH a33 h34 fun a35 =>
 kB h34 a35 a0 a1 a3 a4 a33 J12
theorem te (a0:D) (a1:D) (a2:D) (a3:D) (a4:D) (h0:Heap) (K:HKq):nI a0 a1 a2 a3 a4 h0 K=fP om K [a0,a1,a2,a3,a4] h0:=by kernel_rfl
def km:TLq
 | 1=>some ([0],[2,3])|_=>none
def lJ:TTq
 | 3=>some ([0,0,0,0,0,0,48,112,0,0,768,1792,4083,8179,16383,32767],[13,15],[14])|_=>none
noncomputable abbrev gm:=cFn PP true dE km (cDr PP 28 lJ)
noncomputable def gp:aJ:=⟨28,aP gm,[]⟩
theorem lh:gm=some gp:=by kernel_rfl
def fy (a3:D) (h0:Heap) (a0:D) (K:HKq):Prop :=
 ∃(I4:Nat->HJq) (n₀:Nat),I4 n₀ [(.int .i64 0),a3] h0/\∀(n5:Nat) (f6:Nat->D) (h7:Heap),I4 n5 [f6 2,f6 3] h7 ->
 vbin .lss (f6 2) (f6 3) fun a8 =>
 vcond a8 (ae PP (.iadd (.c a0) (.c (f6 3)) 1) h7 fun a9 =>
 ae PP (.ld (.c a9) 1 false) h7 fun a10 =>
 ae PP (.iadd (.c a0) (.c (f6 2)) 1) h7 fun a11 =>
 ae PP (.ld (.c a11) 1 false) h7 fun a12 =>
 ae PP (.iadd (.c a0) (.c (f6 2)) 1) h7 fun a13 =>
 ae PP (.iadd (.c a0) (.c (f6 3)) 1) h7 fun a14 =>
 aa PP (.st (.c a13) (.c a10) 1) h7 fun a15 h16 =>
 ((ae PP (.iadd (.c a0) (.c (f6 3)) 1) h16 fun a17=>aC [a17] [a14])/\True) /\
 aa PP (.st (.c a14) (.c a12) 1) h16 fun a18 h19 =>
 ((ae PP (.iadd (.c a0) (.c (f6 3)) 1) h19 fun a20=>aC [a20] [a14])/\True) /\
 vbin .add (f6 2) (.int .i64 1) fun a21 =>
 vbin .sub (f6 3) (.int .i64 1) fun a22 =>
 aC [a0] [a0]/\∃m,m<n5/\I4 m [a21,a22] h19) (
 K (.tup []) h7)
def gk (a0:D) (h0:Heap) (K:HKq):Prop :=
 aH a0 h0 fun a2 =>
 vbin .sub a2 (.int .i64 1) fun a3 =>
 fy a3 h0 a0 K
theorem kS (a0:D) (h0:Heap) (K:HKq):gk a0 h0 K=fP gp K [a0] h0:=by kernel_rfl
def uk:TLq
 | _=>none
def xt:TTq
 | _=>none
noncomputable abbrev qR:=cFn PP true kO uk (cDr PP 30 xt)
noncomputable def qX:aJ:=⟨30,aP qR,[.t 4,.t 5]⟩
theorem xd:qR=some qX:=by kernel_rfl
def qJ (a0:D) (a1:D) (h0:Heap) (K:HKq):Prop :=
 vcond (.bool false) (aa PP (.conv .u32 (.c a0)) h0 fun a3 h4 =>
 aa PP (.conv .u32 (.c a1)) h4 fun a5 h6 =>
 ah PP xH [a3,a5] h6 fun a7 h8 =>
 aa PP (.ext (.c a7) 0) h8 fun a9 h10 =>
 aa PP (.ext (.c a7) 1) h10 fun a11 h12 =>
 aa PP (.conv .u64 (.c a9)) h12 fun a13 h14 =>
 aa PP (.conv .u64 (.c a11)) h14 fun a15 h16 =>
 K (.tup [a13,a15]) h16) (
 ah PP iS [a0,a1] h0 fun a17 h18 =>
 aa PP (.ext (.c a17) 0) h18 fun a19 h20 =>
 aa PP (.ext (.c a17) 1) h20 fun a21 h22 =>
 K (.tup [a19,a21]) h22)
theorem wZ (a0:D) (a1:D) (h0:Heap) (K:HKq):qJ a0 a1 h0 K=fP qX K [a0,a1] h0:=by kernel_rfl
def rG:TLq
 | _=>none
def ud:TTq
 | _=>none
noncomputable abbrev nV:=cFn PP true iS rG (cDr PP 51 ud)
noncomputable def oi:aJ:=⟨51,aP nV,[.t 4,.t 5]⟩
theorem tI:nV=some oi:=by kernel_rfl
def nF (a0:D) (a1:D) (h0:Heap) (K:HKq):Prop :=
 vbin .and a0 (.int .u64 4294967295) fun a3 =>
 vbin .shr a0 (.int .u64 32) fun a4 =>
 vbin .and a1 (.int .u64 4294967295) fun a5 =>
 vbin .shr a1 (.int .u64 32) fun a6 =>
 vbin .mul a3 a5 fun a7 =>
 vbin .mul a4 a5 fun a8 =>
 vbin .shr a7 (.int .u64 32) fun a9 =>
 vbin .add a8 a9 fun a10 =>
 vbin .and a10 (.int .u64 4294967295) fun a11 =>
 vbin .shr a10 (.int .u64 32) fun a12 =>
 vbin .mul a3 a6 fun a13 =>
 vbin .add a11 a13 fun a14 =>
 vbin .mul a4 a6 fun a15 =>
 vbin .add a15 a12 fun a16 =>
 vbin .shr a14 (.int .u64 32) fun a17 =>
 vbin .add a16 a17 fun a18 =>
 vbin .mul a0 a1 fun a19 =>
 K (.tup [a18,a19]) h0
theorem s9 (a0:D) (a1:D) (h0:Heap) (K:HKq):nF a0 a1 h0 K=fP oi K [a0,a1] h0:=by kernel_rfl
end Go.Am
namespace Go.Am
open Go Go.Proofs
end Go.Am
namespace Go.Am
open Go Go.Proofs
def wA:TLq
 | 1000010=>some ([3,4,5],[])|5=>some ([1,3,4,5],[6])|1000007=>some ([1,3,4,5,6],[])|1000015=>some ([3],[])|10=>some ([3,4,5],[7])|1000012=>some ([3,4,5,7],[])|_=>none
def y8:TTq
 | 13=>some ([0,0,0,6,14,0,0,0,0,384,896,1984,4032,8160,0,16384,65504,131071,262143],[5,13,16,18],[999999])|_=>none
noncomputable abbrev tq:=cFn PP true ow wA (cDr PP 72 y8)
noncomputable def tF:aJ:=⟨72,aP tq,[.t 2]⟩
theorem yR:tq=some tF:=by kernel_rfl
def jn (a30:D) (h25:Heap) (a12:D) (a18:D) (a21:D) (J26:HJq):Prop :=
 ∃(I31:Nat->HJq) (n₀:Nat),I31 n₀ [a30] h25/\∀(n32:Nat) (f33:Nat->D) (h34:Heap),I31 n32 [f33 7] h34 ->
 vbin .geq (f33 7) (.int .i64 0) fun a35 =>
 vcond a35 (∃(J36:HJq),(∀(f37:Nat->D) (h38:Heap),J36 [] h38 ->
 vbin .sub (f33 7) (.int .i64 1) fun a39 =>
 aC [a12,a18,a21] [a12,a18,a21]/\∃m,m<n32/\I31 m [a39] h38) /\
 aa PP (.iadd (.c a21) (.c (f33 7)) 1) h34 fun a40 h41 =>
 aa PP (.ld (.c a40) 1 false) h41 fun a42 h43 =>
 ah PP iQ [a12,a42,(.int .i64 (-1))] h43 fun a44 h45 =>
 aa PP (.iadd (.c a44) (.c a18) 1) h45 fun a46 h47 =>
 aa PP (.ld (.c a46) 1 false) h47 fun a48 h49 =>
 vun .not a48 fun a50 =>
 vcond a50 (ae PP (.iadd (.c a21) (.c (f33 7)) 1) h49 fun a51 =>
 ae PP (.ld (.c a51) 1 false) h49 fun a52 =>
 ae PP (.iadd (.c a21) (.c (f33 7)) 1) h49 fun a53 =>
 ae PP (.ld (.c a53) 1 false) h49 fun a54 =>
 ae PP (.iadd (.c a12) (.c a54) 1) h49 fun a55 =>
 ae PP (.ld (.c a55) 1 false) h49 fun a56 =>
 ae PP (.bldS false 1 1 (.int .i64 0) [(0,(.c a18))]) h49 fun a57 =>
 aa PP (.bldS true 1 0 (.int .i64 0) []) h49 fun a58 h59 =>
 ((ae PP (.iadd (.c a21) (.c (f33 7)) 1) h59 fun a60=>aC [a60] [a51])/\(ae PP (.ld (.c a51) 1 false) h59 fun a61=>aC [a61] [a52])/\(ae PP (.iadd (.c a21) (.c (f33 7)) 1) h59 fun a62=>aC [a62] [a53])/\(ae PP (.ld (.c a53) 1 false) h59 fun a63=>aC [a63] [a54])/\(ae PP (.iadd (.c a12) (.c a54) 1) h59 fun a64=>aC [a64] [a55])/\(ae PP (.ld (.c a55) 1 false) h59 fun a65=>aC [a65] [a56])/\True) /\
 aa PP (.app (.c a58) (.c a56) 1 8 (.int .i64 0)) h59 fun a66 h67 =>
 ((ae PP (.iadd (.c a21) (.c (f33 7)) 1) h67 fun a68=>aC [a68] [a51])/\(ae PP (.ld (.c a51) 1 false) h67 fun a69=>aC [a69] [a52])/\True) /\
 aa PP (.app (.c a66) (.c a57) 1 8 (.int .i64 0)) h67 fun a70 h71 =>
 ((ae PP (.iadd (.c a21) (.c (f33 7)) 1) h71 fun a72=>aC [a72] [a51])/\(ae PP (.ld (.c a51) 1 false) h71 fun a73=>aC [a73] [a52])/\True) /\
 ae PP (.iadd (.c a12) (.c a52) 1) h71 fun a74 =>
 aa PP (.st (.c a74) (.c a70) 1) h71 fun a75 h76 =>
 aC [a12,a18,a21,(f33 7)] [a12,a18,a21,(f33 7)]/\J36 [] h76) (
 aC [a12,a18,a21,(f33 7)] [a12,a18,a21,(f33 7)]/\J36 [] h49)) (
 aC [a12] [a12]/\J26 [] h34)
def jl (h22:Heap) (a18:D) (a2:D) (a12:D) (a21:D) (J23:HJq):Prop :=
 ∃(I77:Nat->HJq) (n₀:Nat),I77 n₀ [(.int .i64 0)] h22/\∀(n78:Nat) (f79:Nat->D) (h80:Heap),I77 n78 [f79 6] h80 ->
 vbin .lss (f79 6) a18 fun a81 =>
 vcond a81 (∃(J82:HJq),(∀(f83:Nat->D) (h84:Heap),J82 [] h84 ->
 vbin .add (f79 6) (.int .i64 1) fun a85 =>
 aC [a2,a12,a18,a21] [a2,a12,a18,a21]/\∃m,m<n78/\I77 m [a85] h84) /\
 aa PP (.fadd (.c a2) 7) h80 fun a86 h87 =>
 aa PP (.ld (.c a86) 1 false) h87 fun a88 h89 =>
 aa PP (.iadd (.c a88) (.c (f79 6)) 14) h89 fun a90 h91 =>
 aa PP (.fadd (.c a90) 1) h91 fun a92 h93 =>
 aa PP (.fadd (.c a92) 0) h93 fun a94 h95 =>
 aa PP (.ld (.c a94) 1 false) h95 fun a96 h97 =>
 vbin .eql a96 (.int .i64 5) fun a98 =>
 vcond a98 (aa PP (.bldS true 1 1 (.int .i64 0) [(0,(.c a18))]) h97 fun a99 h100 =>
 aa PP (.iadd (.c a12) (.c (f79 6)) 1) h100 fun a101 h102 =>
 aa PP (.st (.c a101) (.c a99) 1) h102 fun a103 h104 =>
 aC [a2,a12,a18,a21,(f79 6)] [a2,a12,a18,a21,(f79 6)]/\J82 [] h104) (
 aC [a2,a12,a18,a21,(f79 6)] [a2,a12,a18,a21,(f79 6)]/\J82 [] h97)) (
 aC [a12,a18,a21] [a12,a18,a21]/\J23 [] h80)
def sZ (a0:D) (h0:Heap) (K:HKq):Prop :=
 aa PP (.box (.c a0)) h0 fun a2 h3 =>
 aa PP (.ld (.c a2) 8 true) h3 fun a4 h5 =>
 ah PP jV [a4] h5 fun a6 h7 =>
 aa PP (.bldS true 1 0 (.int .i64 0) []) h7 fun a8 h9 =>
 aa PP (.bldS true 1 1 .nil [(0,(.c a8))]) h9 fun a10 h11 =>
 aa PP (.app (.c a6) (.c a10) 1 24 .nil) h11 fun a12 h13 =>
 aa PP (.fadd (.c a2) 7) h13 fun a14 h15 =>
 aa PP (.ld (.c a14) 1 false) h15 fun a16 h17 =>
 aH a16 h17 fun a18 =>
 aa PP (.ld (.c a2) 8 true) h17 fun a19 h20 =>
 ah PP ou [a19] h20 fun a21 h22 =>
 ∃(J23:HJq),(∀(f24:Nat->D) (h25:Heap),J23 [] h25 ->
 ∃(J26:HJq),(∀(f27:Nat->D) (h28:Heap),J26 [] h28 ->
 K a12 h28) /\
 aH a21 h25 fun a29 =>
 vbin .sub a29 (.int .i64 1) fun a30 =>
 jn a30 h25 a12 a18 a21 J26) /\
 jl h22 a18 a2 a12 a21 J23
theorem yq (a0:D) (h0:Heap) (K:HKq):sZ a0 h0 K=fP tF K [a0] h0:=by kernel_rfl
end Go.Am
namespace Go.Am
open Go Go.Proofs
def rH:TLq
 | _=>none
def ue:TTq
 | 3=>some ([0,0,3,7,15,31,31,95,255,511,1023,2047,4095,4095,12287,32767,65535,131071,262143,524287,524287,2097151,4194303,8388607],[],[])|_=>none
noncomputable abbrev nW:=cFn PP true jF rH (cDr PP 40 ue)
noncomputable def oj:aJ:=⟨40,aP nW,[.t 0]⟩
theorem tJ:nW=some oj:=by kernel_rfl
def nG (h0:Heap) (K:HKq):Prop :=
 ah PP kP [] h0 fun a1 h2 =>
 aa PP (.alloc (.agg [zI,zI,zI,zI,zI,.nil,.nil,.nil])) h2 fun a3 h4 =>
 aa PP (.st (.c a3) (.c a1) 8) h4 fun a5 h6 =>
 aa PP (.ld (.c a3) 8 true) h6 fun a7 h8 =>
 ah PP ml [a7] h8 fun a9 h10 =>
 aa PP (.alloc (.agg [.nil,.nil])) h10 fun a11 h12 =>
 aa PP (.st (.c a11) (.c a9) 2) h12 fun a13 h14 =>
 ae PP (.ld (.c a3) 8 true) h14 fun a15 =>
 ae PP (.ld (.c a11) 2 true) h14 fun a16 =>
 ae PP (.call bn [(.c a15),(.c a16)]) h14 fun a17 =>
 vbin .neq a17 (.int .i64 0) fun a18 =>
 an a18 false (fun G19 =>
 ae PP (.ld (.c a3) 8 true) h14 fun a121 =>
 G19 a121) fun a20 =>
 an a18 false (fun G23 =>
 ae PP (.ld (.c a3) 8 true) h14 fun a120 =>
 G23 a120) fun a24 =>
 an a18 false (fun G27 =>
 ae PP (.call fR [(.c a24),(.c (.bool false))]) h14 fun a119 =>
 G27 a119) fun a28 =>
 an a18 false (fun G31 =>
 ae PP (.call bn [(.c a20),(.c a28)]) h14 fun a118 =>
 G31 a118) fun a32 =>
 an a18 false (fun G35 =>
 vbin .neq a32 (.int .i64 0) fun a117 =>
 G35 a117) fun a36 =>
 ae PP (.pick (.c a18) (.c (.bool true)) (.c a36)) h14 fun a39 =>
 an a39 false (fun G40 =>
 ae PP (.ld (.c a3) 8 true) h14 fun a116 =>
 G40 a116) fun a41 =>
 an a39 false (fun G44 =>
 ae PP (.ld (.c a3) 8 true) h14 fun a115 =>
 G44 a115) fun a45 =>
 an a39 false (fun G48 =>
 ae PP (.call fR [(.c a45),(.c (.bool true))]) h14 fun a114 =>
 G48 a114) fun a49 =>
 an a39 false (fun G52 =>
 ae PP (.call bn [(.c a41),(.c a49)]) h14 fun a113 =>
 G52 a113) fun a53 =>
 an a39 false (fun G56 =>
 vbin .neq a53 (.int .i64 100) fun a112 =>
 G56 a112) fun a57 =>
 ae PP (.pick (.c a39) (.c (.bool true)) (.c a57)) h14 fun a60 =>
 an a60 false (fun G61 =>
 ae PP (.ld (.c a3) 8 true) h14 fun a111 =>
 G61 a111) fun a62 =>
 an a60 false (fun G65 =>
 ae PP (.bld [.nil,.nil] []) h14 fun a110 =>
 G65 a110) fun a66 =>
 an a60 false (fun G69 =>
 ae PP (.call bn [(.c a62),(.c a66)]) h14 fun a109 =>
 G69 a109) fun a70 =>
 an a60 false (fun G73 =>
 vbin .neq a70 (.int .i64 100) fun a108 =>
 G73 a108) fun a74 =>
 ae PP (.pick (.c a60) (.c (.bool true)) (.c a74)) h14 fun a77 =>
 vcond a77 (K (.bool false) h14) (
 aa PP (.fadd (.c a11) 0) h14 fun a78 h79 =>
 aa PP (.ld (.c a78) 1 false) h79 fun a80 h81 =>
 aa PP (.bldS true 1 5 (.bool false) [(0,(.c (.bool true))),(1,(.c (.bool false))),(2,(.c (.bool true))),(3,(.c (.bool true))),(4,(.c (.bool true)))]) h81 fun a82 h83 =>
 ah PP dN [a80,a82] h83 fun a84 h85 =>
 vguard a84 true (fun G86 =>
 aa PP (.fadd (.c a11) 1) h85 fun a89 h90 =>
 G86 a89 h90) h85 fun a87 h88 =>
 vguard a84 true (fun G91 =>
 aa PP (.ld (.c a87) 1 false) h88 fun a94 h95 =>
 G91 a94 h95) h88 fun a92 h93 =>
 vguard a84 true (fun G96 =>
 aa PP (.bldS true 1 5 (.bool false) [(0,(.c (.bool false))),(1,(.c (.bool true))),(2,(.c (.bool false))),(3,(.c (.bool true))),(4,(.c (.bool true)))]) h93 fun a99 h100 =>
 G96 a99 h100) h93 fun a97 h98 =>
 vguard a84 true (fun G101 =>
 ah PP dN [a92,a97] h98 fun a104 h105 =>
 G101 a104 h105) h98 fun a102 h103 =>
 aa PP (.pick (.c a84) (.c a102) (.c (.bool false))) h103 fun a106 h107 =>
 K a106 h107)
theorem tc (h0:Heap) (K:HKq):nG h0 K=fP oj K [] h0:=by kernel_rfl
end Go.Am
