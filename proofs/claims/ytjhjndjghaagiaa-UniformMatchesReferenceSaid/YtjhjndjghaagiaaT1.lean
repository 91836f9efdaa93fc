/- The texts of the functions of this chapter, as the abstract machine has them. No condition. -/
import Derived.Test.YtjhjndjghaagiaaProg
import Derived.KernelRfl
import Derived.Test.YtjhjndjghaagiaaA3
set_option linter.unnecessarySimpa false
set_option linter.defProp false
set_option linter.unusedSectionVars false
set_option linter.unusedSimpArgs false
set_option linter.unusedVariables false
namespace Go.Am
open Go Go.Proofs
noncomputable abbrev PP:Program:=Try.prog
abbrev eM:FuncId:=3
abbrev ko:FuncId:=9
abbrev qm:FuncId:=10
abbrev qk:FuncId:=11
abbrev qi:FuncId:=12
abbrev qj:FuncId:=13
abbrev qh:FuncId:=14
abbrev js:FuncId:=15
abbrev bC:FuncId:=16
abbrev hZ:FuncId:=17
abbrev qp:FuncId:=21
abbrev cB:FuncId:=22
abbrev sS:FuncId:=24
abbrev w6:FuncId:=25
abbrev lF:FuncId:=26
abbrev gp:FuncId:=27
abbrev au:FuncId:=28
abbrev mO:FuncId:=29
abbrev et:FuncId:=30
abbrev dK:FuncId:=31
abbrev bc:FuncId:=32
abbrev aU:FuncId:=33
abbrev aS:FuncId:=34
abbrev cE:FuncId:=35
abbrev kN:FuncId:=36
abbrev iE:FuncId:=37
abbrev kK:FuncId:=38
abbrev fo:FuncId:=39
abbrev cO:FuncId:=40
abbrev iD:FuncId:=41
abbrev gm:FuncId:=42
abbrev jr:FuncId:=43
abbrev kW:FuncId:=44
abbrev bt:FuncId:=45
abbrev qo:FuncId:=46
abbrev cK:FuncId:=47
abbrev aL:FuncId:=48
abbrev iH:FuncId:=49
abbrev ql:FuncId:=50
abbrev ju:FuncId:=51
abbrev kM:FuncId:=52
abbrev oS:FuncId:=53
abbrev jt:FuncId:=54
abbrev dA:FuncId:=55
abbrev cw:FuncId:=56
abbrev qn:FuncId:=57
abbrev sQ:FuncId:=58
abbrev mN:FuncId:=59
abbrev br:FuncId:=60
abbrev oT:FuncId:=61
abbrev cj:FuncId:=62
abbrev db:FuncId:=63
abbrev kn:FuncId:=64
abbrev bg:FuncId:=65
abbrev jq:FuncId:=66
abbrev eZ:FuncId:=67
abbrev oR:FuncId:=68
abbrev wZ:FuncId:=69
abbrev lG:FuncId:=70
abbrev AY:FuncId:=71
abbrev dj:FuncId:=72
abbrev cG:FuncId:=73
abbrev dJ:FuncId:=74
abbrev bq:FuncId:=75
abbrev kL:FuncId:=76
abbrev jw:FuncId:=77
abbrev sR:FuncId:=78
abbrev fH:FuncId:=79
abbrev cJ:FuncId:=80
abbrev gE:FuncId:=81
abbrev jy:FuncId:=82
abbrev fj:FuncId:=85
abbrev cC:FuncId:=86
abbrev dY:FuncId:=87
abbrev lE:FuncId:=88
abbrev ya:FuncId:=100
abbrev jv:FuncId:=101
def aV:Option aQ->ACode
 | some F=>F.code
 | none=>.skip
abbrev ga (F:aQ) (K:HKq) (l:List D) (h:Heap):Prop:=vcC PP F.code (fun x e h'=>match x with|.exit _=>False|.pan=>False|.jump _=>False|_=>ER PP F.res K e h') (params l 0) h
abbrev zI:D:=.int .i64 0
abbrev zJ:D:=.int .i32 0
end Go.Am
namespace Go.Am
open Go Go.Proofs
def ic:TLq
 | 1000022=>some ([7],[])|6=>some ([5,7,8],[9])|1000016=>some ([5,7,8,9,10,11,12],[])|12=>some ([5,7,8,9,10,11,12],[13])|1000020=>some ([5,7,8,9,10,11,12],[])|16=>some ([5,7,8,9,10,11,12],[14])|_=>none
def jf:TTq
 | 14=>some ([0,1,0,0,8,0,56,120,255,511],[9],[])|18=>some ([0,1,0,0,8,0,56,120,255,511],[9],[])|19=>some ([0,1,0,7,15,31,63,63,255,63,63,2047,4095,8191,16383,32767,32767,131071,32767,32767,1048575,2097151,4194303],[],[])|_=>none
noncomputable abbrev eQ:=cFn PP true eM ic (cDr PP 105 jf)
noncomputable def eV:aQ:=⟨105,aV eQ,[.t 6]⟩
theorem iT:eQ=some eV:=by kernel_rfl
def cv (h53:Heap) (a6:D) (a47:D) (a8:D) (a17:D) (f24:Nat->D) (a31:D) (a39:D) (J54:HJq):Prop :=
 ∃(I135:Nat->HJq) (n₀:Nat),I135 n₀ [(.int .i64 0)] h53/\∀(n136:Nat) (f137:Nat->D) (h138:Heap),I135 n136 [f137 14] h138 ->
 aa PP (.fadd (.c a6) 1) h138 fun a139 h140 =>
 aa PP (.ld (.c a139) 1 false) h140 fun a141 h142 =>
 aR a141 h142 fun a143 =>
 vbin .lss (f137 14) a143 fun a144 =>
 vguard a144 true (fun G145 =>
 G145 (f137 14) h142) h142 fun a146 h147 =>
 vguard a144 true (fun G148 =>
 aa PP (.fadd (.c a47) 1) h147 fun a151 h152 =>
 G148 a151 h152) h147 fun a149 h150 =>
 vguard a144 true (fun G153 =>
 aa PP (.ld (.c a149) 1 false) h150 fun a156 h157 =>
 G153 a156 h157) h150 fun a154 h155 =>
 vguard a144 true (fun G158 =>
 aR a154 h155 fun a161 =>
 G158 a161 h155) h155 fun a159 h160 =>
 vguard a144 true (fun G162 =>
 vbin .lss a146 a159 fun a165 =>
 G162 a165 h160) h160 fun a163 h164 =>
 aa PP (.pick (.c a144) (.c a163) (.c (.bool false))) h164 fun a166 h167 =>
 vcond a166 (ae PP (.fadd (.c a47) 1) h167 fun a168 =>
 ae PP (.ld (.c a168) 1 false) h167 fun a169 =>
 ae PP (.fadd (.c a6) 1) h167 fun a170 =>
 ae PP (.ld (.c a170) 1 false) h167 fun a171 =>
 ae PP (.iadd (.c a171) (.c (f137 14)) 1) h167 fun a172 =>
 ae PP (.ld (.c a172) 1 false) h167 fun a173 =>
 ae PP (.iadd (.c a169) (.c (f137 14)) 1) h167 fun a174 =>
 aa PP (.st (.c a174) (.c a173) 1) h167 fun a175 h176 =>
 vbin .add (f137 14) (.int .i64 1) fun a177 =>
 aI [a6,a8,a17,(f24 9),a31,a39,a47] [a6,a8,a17,(f24 9),a31,a39,a47]/\∃m,m<n136/\I135 m [a177] h176) (
 aI [a6,a8,a17,(f24 9),a31,a39,a47] [a6,a8,a17,(f24 9),a31,a39,a47]/\J54 [] h167)
def ct (h50:Heap) (a6:D) (a47:D) (a8:D) (a17:D) (f24:Nat->D) (a31:D) (a39:D) (J51:HJq):Prop :=
 ∃(I178:Nat->HJq) (n₀:Nat),I178 n₀ [(.int .i64 0)] h50/\∀(n179:Nat) (f180:Nat->D) (h181:Heap),I178 n179 [f180 13] h181 ->
 aa PP (.fadd (.c a6) 0) h181 fun a182 h183 =>
 aa PP (.ld (.c a182) 1 false) h183 fun a184 h185 =>
 aR a184 h185 fun a186 =>
 vbin .lss (f180 13) a186 fun a187 =>
 vguard a187 true (fun G188 =>
 G188 (f180 13) h185) h185 fun a189 h190 =>
 vguard a187 true (fun G191 =>
 aa PP (.fadd (.c a47) 0) h190 fun a194 h195 =>
 G191 a194 h195) h190 fun a192 h193 =>
 vguard a187 true (fun G196 =>
 aa PP (.ld (.c a192) 1 false) h193 fun a199 h200 =>
 G196 a199 h200) h193 fun a197 h198 =>
 vguard a187 true (fun G201 =>
 aR a197 h198 fun a204 =>
 G201 a204 h198) h198 fun a202 h203 =>
 vguard a187 true (fun G205 =>
 vbin .lss a189 a202 fun a208 =>
 G205 a208 h203) h203 fun a206 h207 =>
 aa PP (.pick (.c a187) (.c a206) (.c (.bool false))) h207 fun a209 h210 =>
 vcond a209 (ae PP (.fadd (.c a47) 0) h210 fun a211 =>
 ae PP (.ld (.c a211) 1 false) h210 fun a212 =>
 ae PP (.fadd (.c a6) 0) h210 fun a213 =>
 ae PP (.ld (.c a213) 1 false) h210 fun a214 =>
 ae PP (.iadd (.c a214) (.c (f180 13)) 1) h210 fun a215 =>
 ae PP (.ld (.c a215) 1 false) h210 fun a216 =>
 ae PP (.iadd (.c a212) (.c (f180 13)) 1) h210 fun a217 =>
 aa PP (.st (.c a217) (.c a216) 1) h210 fun a218 h219 =>
 vbin .add (f180 13) (.int .i64 1) fun a220 =>
 aI [a6,a8,a17,(f24 9),a31,a39,a47] [a6,a8,a17,(f24 9),a31,a39,a47]/\∃m,m<n179/\I178 m [a220] h219) (
 aI [a6,a8,a17,(f24 9),a31,a39,a47] [a6,a8,a17,(f24 9),a31,a39,a47]/\J51 [] h210)
def dQ (h18:Heap) (a17:D) (a6:D) (a8:D) (J19:HJq) (K:HKq):Prop :=
 ∃(I22:Nat->HJq) (n₀:Nat),I22 n₀ [(.int .i64 0)] h18/\∀(n23:Nat) (f24:Nat->D) (h25:Heap),I22 n23 [f24 9] h25 ->
 vbin .lss (f24 9) (.int .i64 2) fun a26 =>
 vcond a26 (aa PP (.iadd (.c a17) (.c (f24 9)) 8) h25 fun a27 h28 =>
 aa PP (.ld (.c a27) 8 true) h28 fun a29 h30 =>
 aa PP (.alloc (.agg [zI,zI,zI,zI,zI,.nil,.nil,.nil])) h30 fun a31 h32 =>
 aa PP (.st (.c a31) (.c a29) 8) h32 fun a33 h34 =>
 aa PP (.ld (.c a31) 8 true) h34 fun a35 h36 =>
 ai PP qi [a35] h36 fun a37 h38 =>
 aa PP (.alloc (.agg [.nil,.nil])) h38 fun a39 h40 =>
 aa PP (.st (.c a39) (.c a37) 2) h40 fun a41 h42 =>
 aa PP (.ld (.c a39) 2 true) h42 fun a43 h44 =>
 ai PP qj [a43] h44 fun a45 h46 =>
 aa PP (.alloc (.agg [.nil,.nil])) h46 fun a47 h48 =>
 aa PP (.st (.c a47) (.c a45) 2) h48 fun a49 h50 =>
 ∃(J51:HJq),(∀(f52:Nat->D) (h53:Heap),J51 [] h53 ->
 ∃(J54:HJq),(∀(f55:Nat->D) (h56:Heap),J54 [] h56 ->
 ae PP (.ld (.c a31) 8 true) h56 fun a57 =>
 ae PP (.call js [(.c a57)]) h56 fun a58 =>
 ae PP (.ld (.c a39) 2 true) h56 fun a59 =>
 ae PP (.call qh [(.c a58),(.c a59)]) h56 fun a60 =>
 vun .not a60 fun a61 =>
 aF a61 false (fun G62 =>
 ae PP (.ld (.c a31) 8 true) h56 fun a134 =>
 G62 a134) fun a63 =>
 aF a61 false (fun G66 =>
 ae PP (.ld (.c a47) 2 true) h56 fun a133 =>
 G66 a133) fun a67 =>
 aF a61 false (fun G70 =>
 ae PP (.call bC [(.c a63),(.c a67)]) h56 fun a132 =>
 G70 a132) fun a71 =>
 aF a61 false (fun G74 =>
 ae PP (.ld (.c a31) 8 true) h56 fun a131 =>
 G74 a131) fun a75 =>
 aF a61 false (fun G78 =>
 ae PP (.ld (.c a47) 2 true) h56 fun a130 =>
 G78 a130) fun a79 =>
 aF a61 false (fun G82 =>
 ae PP (.call hZ [(.c a75),(.c a79)]) h56 fun a129 =>
 G82 a129) fun a83 =>
 aF a61 false (fun G86 =>
 vbin .neq a71 a83 fun a128 =>
 G86 a128) fun a87 =>
 ae PP (.pick (.c a61) (.c (.bool true)) (.c a87)) h56 fun a90 =>
 aF a90 false (fun G91 =>
 ae PP (.ld (.c a31) 8 true) h56 fun a127 =>
 G91 a127) fun a92 =>
 aF a90 false (fun G95 =>
 ae PP (.ld (.c a6) 2 true) h56 fun a126 =>
 G95 a126) fun a96 =>
 aF a90 false (fun G99 =>
 ae PP (.call bC [(.c a92),(.c a96)]) h56 fun a125 =>
 G99 a125) fun a100 =>
 aF a90 false (fun G103 =>
 ae PP (.ld (.c a31) 8 true) h56 fun a124 =>
 G103 a124) fun a104 =>
 aF a90 false (fun G107 =>
 ae PP (.ld (.c a6) 2 true) h56 fun a123 =>
 G107 a123) fun a108 =>
 aF a90 false (fun G111 =>
 ae PP (.call hZ [(.c a104),(.c a108)]) h56 fun a122 =>
 G111 a122) fun a112 =>
 aF a90 false (fun G115 =>
 vbin .neq a100 a112 fun a121 =>
 G115 a121) fun a116 =>
 ae PP (.pick (.c a90) (.c (.bool true)) (.c a116)) h56 fun a119 =>
 vcond a119 (K (.bool false) h56) (
 vbin .add (f24 9) (.int .i64 1) fun a120 =>
 aI [a6,a8,a17] [a6,a8,a17]/\∃m,m<n23/\I22 m [a120] h56)) /\
 cv h53 a6 a47 a8 a17 f24 a31 a39 J54) /\
 ct h50 a6 a47 a8 a17 f24 a31 a39 J51) (
 aI [a8] [a8]/\J19 [] h25)
def eP (a0:D) (a1:D) (a2:D) (h0:Heap) (K:HKq):Prop :=
 aa PP (.box (.c a0)) h0 fun a4 h5 =>
 aa PP (.box (.c a2)) h5 fun a6 h7 =>
 ai PP ko [] h7 fun a8 h9 =>
 vun .not a8 fun a10 =>
 vcond a10 (K (.bool false) h9) (
 aa PP (.ld (.c a4) 1 true) h9 fun a11 h12 =>
 ai PP qm [a11] h12 fun a13 h14 =>
 ai PP qk [a1] h14 fun a15 h16 =>
 aa PP (.bldS true 8 2 (.agg [zI,zI,zI,zI,zI,.nil,.nil,.nil]) [(0,(.c a13)),(1,(.c a15))]) h16 fun a17 h18 =>
 ∃(J19:HJq),(∀(f20:Nat->D) (h21:Heap),J19 [] h21 ->
 K a8 h21) /\
 dQ h18 a17 a6 a8 J19 K)
theorem iM (a0:D) (a1:D) (a2:D) (h0:Heap) (K:HKq):eP a0 a1 a2 h0 K=ga eV K [a0,a1,a2] h0:=by kernel_rfl
end Go.Am
namespace Go.Am
open Go Go.Proofs
def Af:TLq
 | 1000008=>some ([2,3],[])|4=>some ([2,3],[4])|1000019=>some ([2,3],[])|8=>some ([2,3],[5])|1000010=>some ([2,3,5],[])|1000015=>some ([2,3,5],[])|1000024=>some ([2,3],[])|_=>none
def CY:TTq
 | 2=>some ([0,0,0,4,12,30,62,12,254,511,1023,2047],[3,11],[999999])|4=>some ([0,1,3,7,15,31,63,127,7,263,775,1799,3847,7943,16383,32767,65535],[],[])|17=>some ([0,1,3,7,15,0,0,64,192,448,0,1216,0,7360,0,31936,0,65536,196608,524224,1048575,2097151,4194303],[7,11,13,15,22],[999999])|23=>some ([0,1,3,7,15,0,32,96,224,480,992,2016,0,8191,16383,32767],[15],[])|_=>none
noncomputable abbrev zf:=cFn PP true qm Af (cDr PP 153 CY)
noncomputable def zv:aQ:=⟨153,aV zf,[.cell 2 8 true]⟩
theorem Cj:zf=some zv:=by kernel_rfl
def lP (a76:D) (h75:Heap) (a4:D) (a12:D) (J29:HJq):Prop :=
 ∃(I77:Nat->HJq) (n₀:Nat),I77 n₀ [a76] h75/\∀(n78:Nat) (f79:Nat->D) (h80:Heap),I77 n78 [f79 5] h80 ->
 vbin .gtr (f79 5) (.int .i64 0) fun a81 =>
 vcond a81 (∃(J82:HJq),(∀(f83:Nat->D) (h84:Heap),J82 [] h84 ->
 vbin .sub (f79 5) (.int .i64 1) fun a85 =>
 aI [a4,a12] [a4,a12]/\∃m,m<n78/\I77 m [a85] h84) /\
 ai PP au [a12] h80 fun a86 h87 =>
 vbin .rem a86 (.int .i64 3) fun a88 =>
 ai PP et [a12,a88] h87 fun a89 h90 =>
 ∃(J91:HJq),(∀(f92:Nat->D) (h93:Heap),J91 [] h93 ->
 aa PP (.fadd (.c a12) 0) h93 fun a94 h95 =>
 aa PP (.fadd (.c a94) 2) h95 fun a96 h97 =>
 aa PP (.fadd (.c a96) 7) h97 fun a98 h99 =>
 aa PP (.ld (.c a98) 1 false) h99 fun a100 h101 =>
 aR a100 h101 fun a102 =>
 vbin .sub a102 (.int .i64 1) fun a103 =>
 aa PP (.fadd (.c a12) 0) h101 fun a104 h105 =>
 aa PP (.fadd (.c a104) 2) h105 fun a106 h107 =>
 aa PP (.fadd (.c a106) 7) h107 fun a108 h109 =>
 aa PP (.ld (.c a108) 1 false) h109 fun a110 h111 =>
 vbin .add a103 (.int .i64 1) fun a112 =>
 aa PP (.bld [zI,zI] [(0,1,(.c a112)),(1,1,(.c (.int .i64 0)))]) h111 fun a113 h114 =>
 aa PP (.bld [zI,zI,zI,zI,zJ,zI,zI,zJ,zI,zI,zJ,zI,zI] [(0,1,(.c (.int .i64 3))),(11,2,(.c a113))]) h114 fun a115 h116 =>
 aa PP (.iadd (.c a110) (.c a103) 14) h116 fun a117 h118 =>
 aa PP (.fadd (.c a117) 1) h118 fun a119 h120 =>
 aa PP (.st (.c a119) (.c a115) 13) h120 fun a121 h122 =>
 ai PP au [a12] h122 fun a123 h124 =>
 vbin .rem a123 (.int .i64 3) fun a125 =>
 vbin .eql a125 (.int .i64 0) fun a126 =>
 vcond a126 (ae PP (.fadd (.c a12) 0) h124 fun a127 =>
 ae PP (.fadd (.c a127) 2) h124 fun a128 =>
 ae PP (.fadd (.c a128) 7) h124 fun a129 =>
 ae PP (.ld (.c a129) 1 false) h124 fun a130 =>
 vbin .add a103 (.int .i64 1) fun a131 =>
 ae PP (.bld [zI,zI] [(0,1,(.c a131)),(1,1,(.c (.int .i64 0)))]) h124 fun a132 =>
 ai PP au [a12] h124 fun a133 h134 =>
 ((ae PP (.fadd (.c a12) 0) h134 fun a135=>aI [a135] [a127])/\(ae PP (.fadd (.c a127) 2) h134 fun a136=>aI [a136] [a128])/\(ae PP (.fadd (.c a128) 7) h134 fun a137=>aI [a137] [a129])/\(ae PP (.ld (.c a129) 1 false) h134 fun a138=>aI [a138] [a130])/\True) /\
 vbin .rem a133 (.int .i64 6) fun a139 =>
 vbin .add (.int .i64 1) a139 fun a140 =>
 ai PP aU [a12] h134 fun a141 h142 =>
 ((ae PP (.fadd (.c a12) 0) h142 fun a143=>aI [a143] [a127])/\(ae PP (.fadd (.c a127) 2) h142 fun a144=>aI [a144] [a128])/\(ae PP (.fadd (.c a128) 7) h142 fun a145=>aI [a145] [a129])/\(ae PP (.ld (.c a129) 1 false) h142 fun a146=>aI [a146] [a130])/\True) /\
 ai PP aS [a12] h142 fun a147 h148 =>
 ((ae PP (.fadd (.c a12) 0) h148 fun a149=>aI [a149] [a127])/\(ae PP (.fadd (.c a127) 2) h148 fun a150=>aI [a150] [a128])/\(ae PP (.fadd (.c a128) 7) h148 fun a151=>aI [a151] [a129])/\(ae PP (.ld (.c a129) 1 false) h148 fun a152=>aI [a152] [a130])/\True) /\
 ai PP aS [a12] h148 fun a153 h154 =>
 ((ae PP (.fadd (.c a12) 0) h154 fun a155=>aI [a155] [a127])/\(ae PP (.fadd (.c a127) 2) h154 fun a156=>aI [a156] [a128])/\(ae PP (.fadd (.c a128) 7) h154 fun a157=>aI [a157] [a129])/\(ae PP (.ld (.c a129) 1 false) h154 fun a158=>aI [a158] [a130])/\True) /\
 ae PP (.bld [zI,zI,zI,zI,zJ,zI,zI,zJ,zI,zI,zJ,zI,zI] [(0,1,(.c (.int .i64 4))),(1,1,(.c a140)),(2,3,(.c a141)),(5,3,(.c a147)),(8,3,(.c a153)),(11,2,(.c a132))]) h154 fun a159 =>
 ae PP (.iadd (.c a130) (.c a103) 14) h154 fun a160 =>
 ae PP (.fadd (.c a160) 1) h154 fun a161 =>
 aa PP (.st (.c a161) (.c a159) 13) h154 fun a162 h163 =>
 aI [a4,a12,(f79 5)] [a4,a12,(f79 5)]/\J82 [] h163) (
 aI [a4,a12,(f79 5)] [a4,a12,(f79 5)]/\J82 [] h124)) /\
 ai PP au [a12] h90 fun a164 h165 =>
 vbin .rem a164 (.int .i64 3) fun a166 =>
 vbin .eql a166 (.int .i64 0) fun a167 =>
 vcond a167 (ai PP dK [a12] h165 fun a168 h169 =>
 ai PP bc [a12] h169 fun a170 h171 =>
 aI [a4,a12,(f79 5)] [a4,a12,(f79 5)]/\J91 [] h171) (
 aI [a4,a12,(f79 5)] [a4,a12,(f79 5)]/\J91 [] h165)) (
 aI [a4,a12] [a4,a12]/\J29 [] h80)
def lO (a174:D) (h173:Heap) (a12:D) (a4:D) (J26:HJq):Prop :=
 ∃(I175:Nat->HJq) (n₀:Nat),I175 n₀ [a174] h173/\∀(n176:Nat) (f177:Nat->D) (h178:Heap),I175 n176 [f177 4] h178 ->
 vbin .gtr (f177 4) (.int .i64 0) fun a179 =>
 aF a179 true (fun G180 =>
 G180 a12) fun a181 =>
 aF a179 true (fun G183 =>
 ae PP (.fadd (.c a181) 0) h178 fun a259 =>
 G183 a259) fun a184 =>
 aF a179 true (fun G187 =>
 ae PP (.fadd (.c a184) 2) h178 fun a258 =>
 G187 a258) fun a188 =>
 aF a179 true (fun G191 =>
 ae PP (.fadd (.c a188) 0) h178 fun a257 =>
 G191 a257) fun a192 =>
 aF a179 true (fun G195 =>
 ae PP (.ld (.c a192) 1 false) h178 fun a256 =>
 G195 a256) fun a196 =>
 aF a179 true (fun G199 =>
 G199 a12) fun a200 =>
 aF a179 true (fun G202 =>
 ae PP (.fadd (.c a200) 0) h178 fun a255 =>
 G202 a255) fun a203 =>
 aF a179 true (fun G206 =>
 ae PP (.fadd (.c a203) 2) h178 fun a254 =>
 G206 a254) fun a207 =>
 aF a179 true (fun G210 =>
 ae PP (.fadd (.c a207) 1) h178 fun a253 =>
 G210 a253) fun a211 =>
 aF a179 true (fun G214 =>
 ae PP (.ld (.c a211) 1 false) h178 fun a252 =>
 G214 a252) fun a215 =>
 aF a179 true (fun G218 =>
 vbin .mul (.int .i64 2) a215 fun a251 =>
 G218 a251) fun a219 =>
 aF a179 true (fun G222 =>
 vbin .rem a196 a219 fun a250 =>
 G222 a250) fun a223 =>
 aF a179 true (fun G226 =>
 vbin .eql a223 (.int .i64 0) fun a249 =>
 G226 a249) fun a227 =>
 ae PP (.pick (.c a179) (.c a227) (.c (.bool false))) h178 fun a230 =>
 vcond a230 (aa PP (.fadd (.c a12) 0) h178 fun a231 h232 =>
 aa PP (.fadd (.c a231) 2) h232 fun a233 h234 =>
 aa PP (.fadd (.c a233) 1) h234 fun a235 h236 =>
 aa PP (.ld (.c a235) 1 false) h236 fun a237 h238 =>
 vbin .mul (.int .i64 2) a237 fun a239 =>
 aa PP (.fadd (.c a12) 0) h238 fun a240 h241 =>
 aa PP (.fadd (.c a240) 2) h241 fun a242 h243 =>
 aa PP (.fadd (.c a242) 1) h243 fun a244 h245 =>
 aa PP (.st (.c a244) (.c a239) 1) h245 fun a246 h247 =>
 vbin .sub (f177 4) (.int .i64 1) fun a248 =>
 aI [a4,a12] [a4,a12]/\∃m,m<n176/\I175 m [a248] h247) (
 aI [a4,a12] [a4,a12]/\J26 [] h178)
def yV (a0:D) (h0:Heap) (K:HKq):Prop :=
 aa PP (.box (.c a0)) h0 fun a2 h3 =>
 aa PP (.alloc (.agg [zI,zI,zI,zI,zI,.nil,.nil,.nil])) h3 fun a4 h5 =>
 aa PP (.fadd (.c a2) 0) h5 fun a6 h7 =>
 aa PP (.ld (.c a6) 1 false) h7 fun a8 h9 =>
 aa PP (.bld [.nil,zI,zI,zI,zI,zI,zI,.nil,.nil,.nil] [(0,1,(.c a8))]) h9 fun a10 h11 =>
 aa PP (.box (.c a10)) h11 fun a12 h13 =>
 ae PP (.bldS false 1 5 (.int .i64 0) [(0,(.c (.int .i64 4))),(1,(.c (.int .i64 1))),(2,(.c (.int .i64 2))),(3,(.c (.int .i64 8))),(4,(.c (.int .i64 6)))]) h13 fun a14 =>
 ai PP au [a12] h13 fun a15 h16 =>
 vbin .rem a15 (.int .i64 5) fun a17 =>
 ae PP (.iadd (.c a14) (.c a17) 1) h16 fun a18 =>
 ae PP (.ld (.c a18) 1 false) h16 fun a19 =>
 ae PP (.call mO []) h16 fun a20 =>
 ae PP (.bld [zI,zI,zI,zI,zI,.nil,.nil,.nil] [(0,1,(.c a19)),(1,1,(.c (.int .i64 1))),(2,1,(.c (.int .i64 6))),(4,1,(.c (.int .i64 3))),(5,1,(.c a20))]) h16 fun a21 =>
 ae PP (.fadd (.c a12) 0) h16 fun a22 =>
 ae PP (.fadd (.c a22) 2) h16 fun a23 =>
 aa PP (.st (.c a23) (.c a21) 8) h16 fun a24 h25 =>
 ∃(J26:HJq),(∀(f27:Nat->D) (h28:Heap),J26 [] h28 ->
 ∃(J29:HJq),(∀(f30:Nat->D) (h31:Heap),J29 [] h31 ->
 ai PP au [a12] h31 fun a32 h33 =>
 vbin .rem a32 (.int .i64 3) fun a34 =>
 ai PP et [a12,a34] h33 fun a35 h36 =>
 ∃(J37:HJq),(∀(f38:Nat->D) (h39:Heap),J37 [] h39 ->
 ae PP (.fadd (.c a12) 0) h39 fun a40 =>
 ae PP (.fadd (.c a40) 2) h39 fun a41 =>
 ae PP (.fadd (.c a41) 7) h39 fun a42 =>
 ae PP (.ld (.c a42) 1 false) h39 fun a43 =>
 ae PP (.fadd (.c a12) 0) h39 fun a44 =>
 ae PP (.fadd (.c a44) 2) h39 fun a45 =>
 ae PP (.fadd (.c a45) 7) h39 fun a46 =>
 ae PP (.ld (.c a46) 1 false) h39 fun a47 =>
 aR a47 h39 fun a48 =>
 vbin .sub a48 (.int .i64 1) fun a49 =>
 ae PP (.bld [zI,zI,zI,zI,zJ,zI,zI,zJ,zI,zI,zJ,zI,zI] [(0,1,(.c (.int .i64 5)))]) h39 fun a50 =>
 ae PP (.iadd (.c a43) (.c a49) 14) h39 fun a51 =>
 ae PP (.fadd (.c a51) 1) h39 fun a52 =>
 aa PP (.st (.c a52) (.c a50) 13) h39 fun a53 h54 =>
 aa PP (.fadd (.c a12) 0) h54 fun a55 h56 =>
 aa PP (.fadd (.c a55) 2) h56 fun a57 h58 =>
 aa PP (.ld (.c a57) 8 true) h58 fun a59 h60 =>
 aa PP (.st (.c a4) (.c a59) 8) h60 fun a61 h62 =>
 aa PP (.ld (.c a4) 8 true) h62 fun a63 _ =>
 K a63 h62) /\
 ai PP au [a12] h36 fun a64 h65 =>
 vbin .rem a64 (.int .i64 3) fun a66 =>
 vbin .eql a66 (.int .i64 0) fun a67 =>
 vcond a67 (ai PP dK [a12] h65 fun a68 h69 =>
 ai PP bc [a12] h69 fun a70 h71 =>
 ai PP cE [a12] h71 fun a72 h73 =>
 aI [a4,a12] [a4,a12]/\J37 [] h73) (
 aI [a4,a12] [a4,a12]/\J37 [] h65)) /\
 ai PP au [a12] h28 fun a74 h75 =>
 vbin .rem a74 (.int .i64 3) fun a76 =>
 lP a76 h75 a4 a12 J29) /\
 ai PP au [a12] h25 fun a172 h173 =>
 vbin .rem a172 (.int .i64 3) fun a174 =>
 lO a174 h173 a12 a4 J26
theorem B5 (a0:D) (h0:Heap) (K:HKq):yV a0 h0 K=ga zv K [a0] h0:=by kernel_rfl
def Ad:TLq
 | 1000023=>some ([2,3],[])|4=>some ([0,2,3,4],[5])|1000022=>some ([0,2,3,4,5,6],[])|1000014=>some ([0,2,3,4,5,6,7],[])|1000016=>some ([0,2,3,4,5,6,7],[])|1000018=>some ([0,2,3,4,5,6],[])|1000020=>some ([0,2,3,4,5,6],[])|_=>none
def CW:TTq
 | 9=>some ([0,0,3,7,15,31,0,127,0,0,768,1792,3840,7936,0,32512,65535,131071,262143],[18],[])|_=>none
noncomputable abbrev zc:=cFn PP true qk Ad (cDr PP 85 CW)
noncomputable def zt:aQ:=⟨85,aV zc,[.cell 2 8 true]⟩
theorem Cg:zc=some zt:=by kernel_rfl
def lN (h14:Heap) (a13:D) (a6:D) (a0:D) (a2:D) (J15:HJq):Prop :=
 ∃(I23:Nat->HJq) (n₀:Nat),I23 n₀ [(.int .i64 0)] h14/\∀(n24:Nat) (f25:Nat->D) (h26:Heap),I23 n24 [f25 5] h26 ->
 vbin .lss (f25 5) a13 fun a27 =>
 vcond a27 (aa PP (.bld [zI,zI,zI,zI,zJ,zI,zI,zJ,zI,zI,zJ,zI,zI] [(0,1,(.c (.int .i64 5)))]) h26 fun a28 h29 =>
 aa PP (.alloc (.agg [zI,zI,zI,zI,zJ,zI,zI,zJ,zI,zI,zJ,zI,zI])) h29 fun a30 h31 =>
 aa PP (.st (.c a30) (.c a28) 13) h31 fun a32 h33 =>
 ∃(J34:HJq),(∀(f35:Nat->D) (h36:Heap),J34 [] h36 ->
 aa PP (.fadd (.c a6) 7) h36 fun a37 h38 =>
 aa PP (.ld (.c a37) 1 false) h38 fun a39 h40 =>
 aa PP (.ld (.c a30) 13 true) h40 fun a41 h42 =>
 aa PP (.bld [.nil,zI,zI,zI,zI,zJ,zI,zI,zJ,zI,zI,zJ,zI,zI] [(1,13,(.c a41))]) h42 fun a43 h44 =>
 aa PP (.bldS true 14 1 (.agg [.nil,zI,zI,zI,zI,zJ,zI,zI,zJ,zI,zI,zJ,zI,zI]) [(0,(.c a43))]) h44 fun a45 h46 =>
 aa PP (.app (.c a39) (.c a45) 14 128 (.agg [.nil,zI,zI,zI,zI,zJ,zI,zI,zJ,zI,zI,zJ,zI,zI])) h46 fun a47 h48 =>
 aa PP (.fadd (.c a6) 7) h48 fun a49 h50 =>
 aa PP (.st (.c a49) (.c a47) 1) h50 fun a51 h52 =>
 vbin .add (f25 5) (.int .i64 1) fun a53 =>
 aI [a0,a2,a6,a13] [a0,a2,a6,a13]/\∃m,m<n24/\I23 m [a53] h52) /\
 aR a0 h33 fun a54 =>
 vbin .lss (f25 5) a54 fun a55 =>
 vcond a55 (aa PP (.iadd (.c a0) (.c (f25 5)) 3) h33 fun a56 h57 =>
 aa PP (.iadda (.c a56) (.c (.int .i64 0)) 3 1) h57 fun a58 h59 =>
 aa PP (.ld (.c a58) 1 false) h59 fun a60 h61 =>
 vbin .rem a60 (.int .u8 8) fun a62 =>
 aa PP (.conv .i64 (.c a62)) h61 fun a63 h64 =>
 ae PP (.iadd (.c a0) (.c (f25 5)) 3) h64 fun a65 =>
 ae PP (.iadda (.c a65) (.c (.int .i64 1)) 3 1) h64 fun a66 =>
 ae PP (.ld (.c a66) 1 false) h64 fun a67 =>
 ae PP (.conv .i64 (.c a67)) h64 fun a68 =>
 vbin .rem a68 a13 fun a69 =>
 ae PP (.iadd (.c a0) (.c (f25 5)) 3) h64 fun a70 =>
 ae PP (.iadda (.c a70) (.c (.int .i64 2)) 3 1) h64 fun a71 =>
 ae PP (.ld (.c a71) 1 false) h64 fun a72 =>
 ae PP (.conv .i64 (.c a72)) h64 fun a73 =>
 vbin .rem a73 a13 fun a74 =>
 ae PP (.bld [zI,zI] [(0,1,(.c a69)),(1,1,(.c a74))]) h64 fun a75 =>
 ae PP (.fadd (.c a30) 11) h64 fun a76 =>
 aa PP (.st (.c a76) (.c a75) 2) h64 fun a77 h78 =>
 ∃(J79:HJq),(∀(f80:Nat->D) (h81:Heap),J79 [] h81 ->
 ∃(J82:HJq),(∀(f83:Nat->D) (h84:Heap),J82 [] h84 ->
 ∃(J85:HJq),(∀(f86:Nat->D) (h87:Heap),J85 [] h87 ->
 ∃(J88:HJq),(∀(f89:Nat->D) (h90:Heap),J88 [] h90 ->
 aa PP (.fadd (.c a30) 0) h90 fun a91 h92 =>
 aa PP (.ld (.c a91) 1 false) h92 fun a93 h94 =>
 vbin .eql a93 (.int .i64 1) fun a95 =>
 vguard a95 false (fun G96 =>
 aa PP (.fadd (.c a30) 0) h94 fun a99 h100 =>
 G96 a99 h100) h94 fun a97 h98 =>
 vguard a95 false (fun G101 =>
 aa PP (.ld (.c a97) 1 false) h98 fun a104 h105 =>
 G101 a104 h105) h98 fun a102 h103 =>
 vguard a95 false (fun G106 =>
 vbin .eql a102 (.int .i64 3) fun a109 =>
 G106 a109 h103) h103 fun a107 h108 =>
 aa PP (.pick (.c a95) (.c (.bool true)) (.c a107)) h108 fun a110 h111 =>
 vcond a110 (aa PP (.fadd (.c a30) 11) h111 fun a112 h113 =>
 aa PP (.iadda (.c a112) (.c (.int .i64 0)) 2 1) h113 fun a114 h115 =>
 aa PP (.ld (.c a114) 1 false) h115 fun a116 h117 =>
 aa PP (.bld [zI,zI] [(0,1,(.c a116)),(1,1,(.c (.int .i64 0)))]) h117 fun a118 h119 =>
 aa PP (.fadd (.c a30) 11) h119 fun a120 h121 =>
 aa PP (.st (.c a120) (.c a118) 2) h121 fun a122 h123 =>
 aI [a0,a2,a6,a13,(f25 5),a30] [a0,a2,a6,a13,(f25 5),a30]/\J34 [] h123) (
 aI [a0,a2,a6,a13,(f25 5),a30] [a0,a2,a6,a13,(f25 5),a30]/\J34 [] h111)) /\
 aa PP (.fadd (.c a30) 0) h87 fun a124 h125 =>
 aa PP (.ld (.c a124) 1 false) h125 fun a126 h127 =>
 vbin .eql a126 (.int .i64 5) fun a128 =>
 vcond a128 (aa PP (.bld [zI,zI] []) h127 fun a129 h130 =>
 aa PP (.fadd (.c a30) 11) h130 fun a131 h132 =>
 aa PP (.st (.c a131) (.c a129) 2) h132 fun a133 h134 =>
 aI [a0,a2,a6,a13,(f25 5),a30] [a0,a2,a6,a13,(f25 5),a30]/\J88 [] h134) (
 aI [a0,a2,a6,a13,(f25 5),a30] [a0,a2,a6,a13,(f25 5),a30]/\J88 [] h127)) /\
 vbin .eql a63 (.int .i64 6) fun a135 =>
 vcond a135 (aa PP (.fadd (.c a30) 0) h84 fun a136 h137 =>
 aa PP (.st (.c a136) (.c (.int .i64 3)) 1) h137 fun a138 h139 =>
 aI [a0,a2,a6,a13,(f25 5),a30] [a0,a2,a6,a13,(f25 5),a30]/\J85 [] h139) (
 aI [a0,a2,a6,a13,(f25 5),a30] [a0,a2,a6,a13,(f25 5),a30]/\J85 [] h84)) /\
 vbin .eql a63 (.int .i64 5) fun a140 =>
 vcond a140 (aa PP (.fadd (.c a30) 0) h81 fun a141 h142 =>
 aa PP (.st (.c a141) (.c (.int .i64 1)) 1) h142 fun a143 h144 =>
 aI [a0,a2,a6,a13,(f25 5),a30,a63] [a0,a2,a6,a13,(f25 5),a30,a63]/\J82 [] h144) (
 aI [a0,a2,a6,a13,(f25 5),a30,a63] [a0,a2,a6,a13,(f25 5),a30,a63]/\J82 [] h81)) /\
 vbin .lss a63 (.int .i64 5) fun a145 =>
 vcond a145 (aa PP (.fadd (.c a30) 0) h78 fun a146 h147 =>
 aa PP (.st (.c a146) (.c (.int .i64 2)) 1) h147 fun a148 h149 =>
 aa PP (.bld [zI,zI,zJ] [(0,1,(.c (.int .i64 2)))]) h149 fun a150 h151 =>
 aa PP (.fadd (.c a30) 5) h151 fun a152 h153 =>
 aa PP (.st (.c a152) (.c a150) 3) h153 fun a154 h155 =>
 aI [a0,a2,a6,a13,(f25 5),a30,a63] [a0,a2,a6,a13,(f25 5),a30,a63]/\J79 [] h155) (
 aI [a0,a2,a6,a13,(f25 5),a30,a63] [a0,a2,a6,a13,(f25 5),a30,a63]/\J79 [] h78)) (
 aI [a0,a2,a6,a13,(f25 5),a30] [a0,a2,a6,a13,(f25 5),a30]/\J34 [] h33)) (
 aI [a2,a6] [a2,a6]/\J15 [] h26)
def yT (a0:D) (h0:Heap) (K:HKq):Prop :=
 aa PP (.alloc (.agg [zI,zI,zI,zI,zI,.nil,.nil,.nil])) h0 fun a2 h3 =>
 aa PP (.bld [zI,zI,zI,zI,zI,.nil,.nil,.nil] [(0,1,(.c (.int .i64 4))),(1,1,(.c (.int .i64 2))),(2,1,(.c (.int .i64 1)))]) h3 fun a4 h5 =>
 aa PP (.alloc (.agg [zI,zI,zI,zI,zI,.nil,.nil,.nil])) h5 fun a6 h7 =>
 aa PP (.st (.c a6) (.c a4) 8) h7 fun a8 h9 =>
 aR a0 h9 fun a10 =>
 aa PP (.mn (.c a10) (.c (.int .i64 8))) h9 fun a11 h12 =>
 aa PP (.mx (.c a11) (.c (.int .i64 1))) h12 fun a13 h14 =>
 ∃(J15:HJq),(∀(f16:Nat->D) (h17:Heap),J15 [] h17 ->
 aa PP (.ld (.c a6) 8 true) h17 fun a18 h19 =>
 aa PP (.st (.c a2) (.c a18) 8) h19 fun a20 h21 =>
 aa PP (.ld (.c a2) 8 true) h21 fun a22 _ =>
 K a22 h21) /\
 lN h14 a13 a6 a0 a2 J15
theorem B3 (a0:D) (h0:Heap) (K:HKq):yT a0 h0 K=ga zt K [a0] h0:=by kernel_rfl
def z7:TLq
 | 1000020=>some ([2,3],[])|5=>some ([1,2,3,4,5],[6])|1000014=>some ([1,2,3,4,5],[6])|8=>some ([1,2,3,4,5],[6,7])|1000010=>some ([1,2,3,4,5,7],[6])|14=>some ([1,2,3,4,5],[6,8])|1000016=>some ([1,2,3,4,5,8],[6])|_=>none
def CR:TTq
 | _=>none
noncomputable abbrev y6:=cFn PP true qi z7 (cDr PP 66 CR)
noncomputable def zn:aQ:=⟨66,aV y6,[.cell 2 2 true]⟩
theorem Cc:y6=some zn:=by kernel_rfl
def lM (f35:Nat->D) (h36:Heap) (a10:D) (a2:D) (a4:D) (a16:D) (a20:D) (n31:Nat) (I30:Nat->HJq):Prop :=
 ∃(I37:Nat->HJq) (n₀:Nat),I37 n₀ [(f35 6),(.int .i64 0)] h36/\∀(n38:Nat) (f39:Nat->D) (h40:Heap),I37 n38 [f39 6,f39 8] h40 ->
 aa PP (.fadd (.c a10) 1) h40 fun a41 h42 =>
 aa PP (.ld (.c a41) 1 false) h42 fun a43 h44 =>
 aR a43 h44 fun a45 =>
 vbin .lss (f39 8) a45 fun a46 =>
 vcond a46 (∃(J47:HJq),(∀(f48:Nat->D) (h49:Heap),J47 [f48 6] h49 ->
 vbin .add (f39 8) (.int .i64 1) fun a50 =>
 aI [a2,a4,a10,a16,a20] [a2,a4,a10,a16,a20]/\∃m,m<n38/\I37 m [(f48 6),a50] h49) /\
 aa PP (.fadd (.c a10) 1) h44 fun a51 h52 =>
 aa PP (.ld (.c a51) 1 false) h52 fun a53 h54 =>
 aa PP (.iadd (.c a53) (.c (f39 8)) 1) h54 fun a55 h56 =>
 aa PP (.ld (.c a55) 1 false) h56 fun a57 h58 =>
 vguard a57 true (fun G59 =>
 aa PP (.ld (.c a2) 8 true) h58 fun a62 h63 =>
 G59 a62 h63) h58 fun a60 h61 =>
 vguard a57 true (fun G64 =>
 G64 a16 h61) h61 fun a65 h66 =>
 vguard a57 true (fun G67 =>
 aa PP (.ld (.c a10) 2 true) h66 fun a70 h71 =>
 G67 a70 h71) h66 fun a68 h69 =>
 vguard a57 true (fun G72 =>
 G72 (f39 8) h69) h69 fun a73 h74 =>
 vguard a57 true (fun G75 =>
 ai PP fo [a60,a65,a68,a73] h74 fun a78 h79 =>
 G75 a78 h79) h74 fun a76 h77 =>
 vguard a57 true (fun G80 =>
 vun .not a76 fun a83 =>
 G80 a83 h77) h77 fun a81 h82 =>
 aa PP (.pick (.c a57) (.c a81) (.c (.bool false))) h82 fun a84 h85 =>
 vcond a84 (aa PP (.fadd (.c a10) 1) h85 fun a86 h87 =>
 aa PP (.ld (.c a86) 1 false) h87 fun a88 h89 =>
 aa PP (.iadd (.c a88) (.c (f39 8)) 1) h89 fun a90 h91 =>
 aa PP (.st (.c a90) (.c (.bool false)) 1) h91 fun a92 h93 =>
 aI [a2,a4,a10,a16,a20,(f39 8)] [a2,a4,a10,a16,a20,(f39 8)]/\J47 [(.bool true)] h93) (
 aI [a2,a4,a10,a16,a20,(f39 8)] [a2,a4,a10,a16,a20,(f39 8)]/\J47 [(f39 6)] h85)) (
 aI [a2,a4,a10,a16,a20] [a2,a4,a10,a16,a20]/\∃m,m<n31/\I30 m [(f39 6)] h44)
def lL (h33:Heap) (a10:D) (a2:D) (a4:D) (a16:D) (a20:D) (J34:HJq):Prop :=
 ∃(I94:Nat->HJq) (n₀:Nat),I94 n₀ [(.bool false),(.int .i64 0)] h33/\∀(n95:Nat) (f96:Nat->D) (h97:Heap),I94 n95 [f96 6,f96 7] h97 ->
 aa PP (.fadd (.c a10) 0) h97 fun a98 h99 =>
 aa PP (.ld (.c a98) 1 false) h99 fun a100 h101 =>
 aR a100 h101 fun a102 =>
 vbin .lss (f96 7) a102 fun a103 =>
 vcond a103 (∃(J104:HJq),(∀(f105:Nat->D) (h106:Heap),J104 [f105 6] h106 ->
 vbin .add (f96 7) (.int .i64 1) fun a107 =>
 aI [a2,a4,a10,a16,a20] [a2,a4,a10,a16,a20]/\∃m,m<n95/\I94 m [(f105 6),a107] h106) /\
 aa PP (.fadd (.c a10) 0) h101 fun a108 h109 =>
 aa PP (.ld (.c a108) 1 false) h109 fun a110 h111 =>
 aa PP (.iadd (.c a110) (.c (f96 7)) 1) h111 fun a112 h113 =>
 aa PP (.ld (.c a112) 1 false) h113 fun a114 h115 =>
 vguard a114 true (fun G116 =>
 aa PP (.ld (.c a2) 8 true) h115 fun a119 h120 =>
 G116 a119 h120) h115 fun a117 h118 =>
 vguard a114 true (fun G121 =>
 G121 a16 h118) h118 fun a122 h123 =>
 vguard a114 true (fun G124 =>
 G124 a20 h123) h123 fun a125 h126 =>
 vguard a114 true (fun G127 =>
 aa PP (.ld (.c a10) 2 true) h126 fun a130 h131 =>
 G127 a130 h131) h126 fun a128 h129 =>
 vguard a114 true (fun G132 =>
 G132 (f96 7) h129) h129 fun a133 h134 =>
 vguard a114 true (fun G135 =>
 ai PP kK [a117,a122,a125,a128,a133] h134 fun a138 h139 =>
 G135 a138 h139) h134 fun a136 h137 =>
 vguard a114 true (fun G140 =>
 vun .not a136 fun a143 =>
 G140 a143 h137) h137 fun a141 h142 =>
 aa PP (.pick (.c a114) (.c a141) (.c (.bool false))) h142 fun a144 h145 =>
 vcond a144 (aa PP (.fadd (.c a10) 0) h145 fun a146 h147 =>
 aa PP (.ld (.c a146) 1 false) h147 fun a148 h149 =>
 aa PP (.iadd (.c a148) (.c (f96 7)) 1) h149 fun a150 h151 =>
 aa PP (.st (.c a150) (.c (.bool false)) 1) h151 fun a152 h153 =>
 aI [a2,a4,a10,a16,a20,(f96 7)] [a2,a4,a10,a16,a20,(f96 7)]/\J104 [(.bool true)] h153) (
 aI [a2,a4,a10,a16,a20,(f96 7)] [a2,a4,a10,a16,a20,(f96 7)]/\J104 [(f96 6)] h145)) (
 aI [a2,a4,a10,a16,a20] [a2,a4,a10,a16,a20]/\J34 [(f96 6)] h101)
def lK (h21:Heap) (a10:D) (a2:D) (a4:D) (a16:D) (a20:D) (J22:HJq):Prop :=
 ∃(I30:Nat->HJq) (n₀:Nat),I30 n₀ [(.bool true)] h21/\∀(n31:Nat) (f32:Nat->D) (h33:Heap),I30 n31 [f32 6] h33 ->
 vcond (f32 6) (∃(J34:HJq),(∀(f35:Nat->D) (h36:Heap),J34 [f35 6] h36 ->
 lM f35 h36 a10 a2 a4 a16 a20 n31 I30) /\
 lL h33 a10 a2 a4 a16 a20 J34) (
 aI [a4,a10] [a4,a10]/\J22 [] h33)
def yO (a0:D) (h0:Heap) (K:HKq):Prop :=
 aa PP (.box (.c a0)) h0 fun a2 h3 =>
 aa PP (.alloc (.agg [.nil,.nil])) h3 fun a4 h5 =>
 aa PP (.ld (.c a2) 8 true) h5 fun a6 h7 =>
 ai PP gp [a6,(.bool true)] h7 fun a8 h9 =>
 aa PP (.alloc (.agg [.nil,.nil])) h9 fun a10 h11 =>
 aa PP (.st (.c a10) (.c a8) 2) h11 fun a12 h13 =>
 aa PP (.ld (.c a2) 8 true) h13 fun a14 h15 =>
 ai PP kN [a14] h15 fun a16 h17 =>
 aa PP (.ld (.c a2) 8 true) h17 fun a18 h19 =>
 ai PP iE [a18] h19 fun a20 h21 =>
 ∃(J22:HJq),(∀(f23:Nat->D) (h24:Heap),J22 [] h24 ->
 aa PP (.ld (.c a10) 2 true) h24 fun a25 h26 =>
 aa PP (.st (.c a4) (.c a25) 2) h26 fun a27 h28 =>
 aa PP (.ld (.c a4) 2 true) h28 fun a29 _ =>
 K a29 h28) /\
 lK h21 a10 a2 a4 a16 a20 J22
theorem BV (a0:D) (h0:Heap) (K:HKq):yO a0 h0 K=ga zn K [a0] h0:=by kernel_rfl
def Aa:TLq
 | _=>none
def CT:TTq
 | 1=>some ([0,0,2,7,0,0,32,127,255,511],[0,3,4,7,9],[999996,0,2])|_=>none
noncomputable abbrev y7:=cFn PP true qj Aa (cDr PP 12 CT)
noncomputable def zo:aQ:=⟨12,aV y7,[.cell 2 2 true]⟩
theorem Cd:y7=some zo:=by kernel_rfl
def yP (a0:D) (h0:Heap) (K:HKq):Prop :=
 aa PP (.box (.c a0)) h0 fun a2 h3 =>
 aa PP (.alloc (.agg [.nil,.nil])) h3 fun a4 h5 =>
 ae PP (.fadd (.c a2) 0) h5 fun a6 =>
 ae PP (.ld (.c a6) 1 false) h5 fun a7 =>
 ae PP (.fadd (.c a2) 1) h5 fun a8 =>
 ae PP (.ld (.c a8) 1 false) h5 fun a9 =>
 aa PP (.bldS true 1 0 (.bool false) []) h5 fun a10 h11 =>
 ((ae PP (.fadd (.c a2) 0) h11 fun a12=>aI [a12] [a6])/\(ae PP (.ld (.c a6) 1 false) h11 fun a13=>aI [a13] [a7])/\(ae PP (.fadd (.c a2) 1) h11 fun a14=>aI [a14] [a8])/\(ae PP (.ld (.c a8) 1 false) h11 fun a15=>aI [a15] [a9])/\True) /\
 aa PP (.app (.c a10) (.c a7) 1 1 (.bool false)) h11 fun a16 h17 =>
 ((ae PP (.fadd (.c a2) 1) h17 fun a18=>aI [a18] [a8])/\(ae PP (.ld (.c a8) 1 false) h17 fun a19=>aI [a19] [a9])/\True) /\
 aa PP (.bldS true 1 0 (.bool false) []) h17 fun a20 h21 =>
 ((ae PP (.fadd (.c a2) 0) h21 fun a22=>aI [a22] [a6])/\(ae PP (.ld (.c a6) 1 false) h21 fun a23=>aI [a23] [a7])/\(ae PP (.fadd (.c a2) 1) h21 fun a24=>aI [a24] [a8])/\(ae PP (.ld (.c a8) 1 false) h21 fun a25=>aI [a25] [a9])/\True) /\
 aa PP (.app (.c a20) (.c a9) 1 1 (.bool false)) h21 fun a26 h27 =>
 ae PP (.bld [.nil,.nil] [(0,1,(.c a16)),(1,1,(.c a26))]) h27 fun a28 =>
 aa PP (.st (.c a4) (.c a28) 2) h27 fun a29 h30 =>
 aa PP (.ld (.c a4) 2 true) h30 fun a31 _ =>
 K a31 h30
theorem BX (a0:D) (h0:Heap) (K:HKq):yP a0 h0 K=ga zo K [a0] h0:=by kernel_rfl
def zZ:TLq
 | _=>none
def CQ:TTq
 | _=>none
noncomputable abbrev y5:=cFn PP true qh zZ (cDr PP 17 CQ)
noncomputable def zm:aQ:=⟨17,aV y5,[.t 4]⟩
theorem Ca:y5=some zm:=by kernel_rfl
def yN (a0:D) (a1:D) (h0:Heap) (K:HKq):Prop :=
 aa PP (.box (.c a0)) h0 fun a3 h4 =>
 aa PP (.box (.c a1)) h4 fun a5 h6 =>
 aa PP (.fadd (.c a3) 0) h6 fun a7 h8 =>
 aa PP (.ld (.c a7) 1 false) h8 fun a9 h10 =>
 aa PP (.fadd (.c a5) 0) h10 fun a11 h12 =>
 aa PP (.ld (.c a11) 1 false) h12 fun a13 h14 =>
 ai PP cB [a9,a13] h14 fun a15 h16 =>
 vguard a15 true (fun G17 =>
 aa PP (.fadd (.c a3) 1) h16 fun a20 h21 =>
 G17 a20 h21) h16 fun a18 h19 =>
 vguard a15 true (fun G22 =>
 aa PP (.ld (.c a18) 1 false) h19 fun a25 h26 =>
 G22 a25 h26) h19 fun a23 h24 =>
 vguard a15 true (fun G27 =>
 aa PP (.fadd (.c a5) 1) h24 fun a30 h31 =>
 G27 a30 h31) h24 fun a28 h29 =>
 vguard a15 true (fun G32 =>
 aa PP (.ld (.c a28) 1 false) h29 fun a35 h36 =>
 G32 a35 h36) h29 fun a33 h34 =>
 vguard a15 true (fun G37 =>
 ai PP cB [a23,a33] h34 fun a40 h41 =>
 G37 a40 h41) h34 fun a38 h39 =>
 aa PP (.pick (.c a15) (.c a38) (.c (.bool false))) h39 fun a42 h43 =>
 K a42 h43
theorem BU (a0:D) (a1:D) (h0:Heap) (K:HKq):yN a0 a1 h0 K=ga zm K [a0,a1] h0:=by kernel_rfl
def w9:TLq
 | 1000008=>some ([1,2,3],[])|3=>some ([1,2,3,20],[21])|1000013=>some ([1,2,3],[])|8=>some ([1,2,3,31],[32])|1000023=>some ([2,3],[])|14=>some ([2,3,6],[7])|17=>some ([2,3,6,44,45],[7,46])|1000022=>some ([2,3,6,44,45,46],[7])|_=>none
def zG:TTq
 | 1=>some ([0,1,3,7,0,16,48,127,0,511],[3,6,8,9],[999996,0,1,2])|_=>none
noncomputable abbrev tO:=cFn PP true js w9 (cDr PP 61 zG)
noncomputable def tW:aQ:=⟨61,aV tO,[.cell 2 2 true]⟩
theorem zk:tO=some tW:=by kernel_rfl
def jM (h57:Heap) (a58:D) (a4:D) (a25:D) (a44:D) (n55:Nat) (I54:Nat->HJq):Prop :=
 ∃(I59:Nat->HJq) (n₀:Nat),I59 n₀ [(.bool false),(.int .i64 0)] h57/\∀(n60:Nat) (f61:Nat->D) (h62:Heap),I59 n60 [f61 7,f61 46] h62 ->
 vbin .lss (f61 46) a58 fun a63 =>
 vcond a63 (∃(J64:HJq),(∀(f65:Nat->D) (h66:Heap),J64 [f65 7] h66 ->
 vbin .add (f61 46) (.int .i64 1) fun a67 =>
 aI [a4,a25,a44,a44,a58] [a4,a25,a44,a44,a58]/\∃m,m<n60/\I59 m [(f65 7),a67] h66) /\
 aa PP (.iadd (.c a44) (.c (f61 46)) 4) h62 fun a68 h69 =>
 aa PP (.ld (.c a68) 4 true) h69 fun a70 h71 =>
 aa PP (.alloc (.agg [(.bool false),zI,.nil,(.bool false)])) h71 fun a72 h73 =>
 aa PP (.st (.c a72) (.c a70) 4) h73 fun a74 h75 =>
 aa PP (.ld (.c a25) 2 true) h75 fun a76 h77 =>
 aa PP (.ld (.c a72) 4 true) h77 fun a78 h79 =>
 ai PP gm [a76,a78] h79 fun a80 h81 =>
 vun .not a80 fun a82 =>
 vcond a82 (aa PP (.ld (.c a25) 2 true) h81 fun a83 h84 =>
 aa PP (.fadd (.c a72) 0) h84 fun a85 h86 =>
 aa PP (.ld (.c a85) 2 true) h86 fun a87 h88 =>
 ai PP jr [a83,a87] h88 fun a89 h90 =>
 aa PP (.fadd (.c a89) 0) h90 fun a91 h92 =>
 aa PP (.st (.c a91) (.c (.bool false)) 1) h92 fun a93 h94 =>
 aI [a4,a25,a44,a44,a58,(f61 46)] [a4,a25,a44,a44,a58,(f61 46)]/\J64 [(.bool true)] h94) (
 aI [a4,a25,a44,a44,a58,(f61 46)] [a4,a25,a44,a44,a58,(f61 46)]/\J64 [(f61 7)] h81)) (
 aI [a4,a25,a44] [a4,a25,a44]/\∃m,m<n55/\I54 m [(f61 7)] h62)
def jL (h45:Heap) (a44:D) (a4:D) (a25:D) (J46:HJq):Prop :=
 ∃(I54:Nat->HJq) (n₀:Nat),I54 n₀ [(.bool true)] h45/\∀(n55:Nat) (f56:Nat->D) (h57:Heap),I54 n55 [f56 7] h57 ->
 vcond (f56 7) (aR a44 h57 fun a58 =>
 jM h57 a58 a4 a25 a44 n55 I54) (
 aI [a4,a25] [a4,a25]/\J46 [] h57)
def jK (h98:Heap) (a99:D) (a25:D) (a2:D) (a4:D) (J37:HJq):Prop :=
 ∃(I100:Nat->HJq) (n₀:Nat),I100 n₀ [(.int .i64 0)] h98/\∀(n101:Nat) (f102:Nat->D) (h103:Heap),I100 n101 [f102 32] h103 ->
 vbin .lss (f102 32) a99 fun a104 =>
 vcond a104 (aa PP (.fadd (.c a25) 1) h103 fun a105 h106 =>
 aa PP (.ld (.c a105) 1 false) h106 fun a107 h108 =>
 aa PP (.iadd (.c a107) (.c (f102 32)) 1) h108 fun a109 h110 =>
 aa PP (.st (.c a109) (.c (.bool true)) 1) h110 fun a111 h112 =>
 vbin .add (f102 32) (.int .i64 1) fun a113 =>
 aI [a2,a4,a25,a99] [a2,a4,a25,a99]/\∃m,m<n101/\I100 m [a113] h112) (
 aI [a2,a4,a25] [a2,a4,a25]/\J37 [] h103)
def jJ (h117:Heap) (a118:D) (a25:D) (a2:D) (a4:D) (J34:HJq):Prop :=
 ∃(I119:Nat->HJq) (n₀:Nat),I119 n₀ [(.int .i64 0)] h117/\∀(n120:Nat) (f121:Nat->D) (h122:Heap),I119 n120 [f121 21] h122 ->
 vbin .lss (f121 21) a118 fun a123 =>
 vcond a123 (aa PP (.fadd (.c a25) 0) h122 fun a124 h125 =>
 aa PP (.ld (.c a124) 1 false) h125 fun a126 h127 =>
 aa PP (.iadd (.c a126) (.c (f121 21)) 1) h127 fun a128 h129 =>
 aa PP (.st (.c a128) (.c (.bool true)) 1) h129 fun a130 h131 =>
 vbin .add (f121 21) (.int .i64 1) fun a132 =>
 aI [a2,a4,a25,a118] [a2,a4,a25,a118]/\∃m,m<n120/\I119 m [a132] h131) (
 aI [a2,a4,a25] [a2,a4,a25]/\J34 [] h122)
def tv (a0:D) (h0:Heap) (K:HKq):Prop :=
 aa PP (.box (.c a0)) h0 fun a2 h3 =>
 aa PP (.alloc (.agg [.nil,.nil])) h3 fun a4 h5 =>
 ae PP (.fadd (.c a2) 7) h5 fun a6 =>
 ae PP (.ld (.c a6) 1 false) h5 fun a7 =>
 aR a7 h5 fun a8 =>
 ae PP (.fadd (.c a2) 2) h5 fun a9 =>
 ae PP (.ld (.c a9) 1 false) h5 fun a10 =>
 aa PP (.mkc 1 (.c a8) (.c a8)) h5 fun a11 h12 =>
 aa PP (.mkc 1 (.c a10) (.c a10)) h12 fun a13 h14 =>
 aa PP (.mk 1 1 (.bool false) (.c a8) (.c a8)) h14 fun a15 h16 =>
 ((ae PP (.fadd (.c a2) 2) h16 fun a17=>aI [a17] [a9])/\(ae PP (.ld (.c a9) 1 false) h16 fun a18=>aI [a18] [a10])/\True) /\
 aa PP (.mk 1 1 (.bool false) (.c a10) (.c a10)) h16 fun a19 h20 =>
 ((ae PP (.fadd (.c a2) 7) h20 fun a21=>aI [a21] [a6])/\(ae PP (.ld (.c a6) 1 false) h20 fun a22=>aI [a22] [a7])/\(ae PP (.len (.c a7)) h20 fun a23=>aI [a23] [a8])/\True) /\
 ae PP (.bld [.nil,.nil] [(0,1,(.c a15)),(1,1,(.c a19))]) h20 fun a24 =>
 aa PP (.alloc (.agg [.nil,.nil])) h20 fun a25 h26 =>
 ((ae PP (.fadd (.c a2) 7) h26 fun a27=>aI [a27] [a6])/\(ae PP (.ld (.c a6) 1 false) h26 fun a28=>aI [a28] [a7])/\(ae PP (.len (.c a7)) h26 fun a29=>aI [a29] [a8])/\(ae PP (.fadd (.c a2) 2) h26 fun a30=>aI [a30] [a9])/\(ae PP (.ld (.c a9) 1 false) h26 fun a31=>aI [a31] [a10])/\True) /\
 aa PP (.st (.c a25) (.c a24) 2) h26 fun a32 h33 =>
 ∃(J34:HJq),(∀(f35:Nat->D) (h36:Heap),J34 [] h36 ->
 ∃(J37:HJq),(∀(f38:Nat->D) (h39:Heap),J37 [] h39 ->
 aa PP (.ld (.c a2) 8 true) h39 fun a40 h41 =>
 ai PP iD [a40] h41 fun a42 h43 =>
 ai PP cO [a42] h43 fun a44 h45 =>
 ∃(J46:HJq),(∀(f47:Nat->D) (h48:Heap),J46 [] h48 ->
 aa PP (.ld (.c a25) 2 true) h48 fun a49 h50 =>
 aa PP (.st (.c a4) (.c a49) 2) h50 fun a51 h52 =>
 aa PP (.ld (.c a4) 2 true) h52 fun a53 _ =>
 K a53 h52) /\
 jL h45 a44 a4 a25 J46) /\
 aa PP (.fadd (.c a25) 1) h36 fun a95 h96 =>
 aa PP (.ld (.c a95) 1 false) h96 fun a97 h98 =>
 aR a97 h98 fun a99 =>
 jK h98 a99 a25 a2 a4 J37) /\
 aa PP (.fadd (.c a25) 0) h33 fun a114 h115 =>
 aa PP (.ld (.c a114) 1 false) h115 fun a116 h117 =>
 aR a116 h117 fun a118 =>
 jJ h117 a118 a25 a2 a4 J34
theorem yL (a0:D) (h0:Heap) (K:HKq):tv a0 h0 K=ga tW K [a0] h0:=by kernel_rfl
def uM:TLq
 | 1000008=>some ([4],[])|4000006=>some ([3,4],[1000000])|_=>none
def xS:TTq
 | _=>none
noncomputable abbrev rC:=cFn PP true bC uM (cDr PP 28 xS)
noncomputable def rJ:aQ:=⟨28,aV rC,[.cell 4 1 false]⟩
theorem xA:rC=some rJ:=by kernel_rfl
def iS:ACode:=.reg [⟨(some 5),.alloc (.agg [(.bool false),(.int .i64 0),.nil,(.bool false)]),none⟩,
  ⟨none,.st (.t 5) (.t 23) 4,none⟩]
def iQ:ACode:=.block 1 (.seq (.reg [⟨(some 24),.ld (.t 3) 2 true,none⟩,
  ⟨(some 25),.ld (.t 5) 4 true,none⟩,
  ⟨(some 26),.call gm [(.t 24),(.t 25)],none⟩,
  ⟨(some 27),.un .not (.t 26),none⟩]) <|
 .cond (.t 27) (.seq (.reg [⟨none,.st (.t 4) (.c (.int .i64 100)) 1,none⟩]) <|
 .ret) (.skip))
def mY (n0:Nat) (B0:cV) (a23:D) (a3:D) (a4:D) (h0:Heap) (K:HKq):Prop :=
 aa PP (.alloc (.agg [(.bool false),zI,.nil,(.bool false)])) h0 fun a100000 h100001 =>
 aa PP (.st (.c a100000) (.c a23) 4) h100001 fun a100002 h100003 =>
 Ex.normal=Ex.normal/\h100003 n0=.lp .ready B0/\aa PP (.ld (.c a3) 2 true) (aD h100003 n0 (.lp .busy B0)) fun a100004 h100005 =>
 aa PP (.ld (.c a100000) 4 true) h100005 fun a100006 h100007 =>
 ai PP gm [a100004,a100006] h100007 fun a100008 h100009 =>
 vun .not a100008 fun a100010 =>
 vcond a100010 (aa PP (.st (.c a4) (.c (.int .i64 100)) 1) h100009 fun a100011 h100012 =>
 h100012 n0=.lp .busy B0/\K (.bool false) (aD h100012 n0 (.lp (.done .ret) B0))) (
 h100009 n0=.lp .busy B0/\K (.bool true) (aD h100009 n0 (.lp .ready B0)))
theorem sh (n0:Nat) (B0:cV) (a23:D) (a3:D) (a4:D) (h0:Heap) (K:HKq):mY n0 B0 a23 a3 a4 h0 K=Fz PP n0 B0 [23] [a23] [(3,a3),(4,a4)] iS iQ h0 K:=by kernel_rfl
def qY (a0:D) (a1:D) (h0:Heap) (K:HKq):Prop :=
 aa PP (.box (.c a0)) h0 fun a3 h4 =>
 aa PP (.box (.c a1)) h4 fun a5 h6 =>
 aa PP (.alloc (.int .i64 0)) h6 fun a7 h8 =>
 aa PP (.fadd (.c a5) 0) h8 fun a9 h10 =>
 aa PP (.ld (.c a9) 1 false) h10 fun a11 h12 =>
 aR a11 h12 fun a13 =>
 aa PP (.fadd (.c a3) 7) h12 fun a14 h15 =>
 aa PP (.ld (.c a14) 1 false) h15 fun a16 h17 =>
 aR a16 h17 fun a18 =>
 vbin .neq a13 a18 fun a19 =>
 vguard a19 false (fun G20 =>
 aa PP (.fadd (.c a5) 1) h17 fun a23 h24 =>
 G20 a23 h24) h17 fun a21 h22 =>
 vguard a19 false (fun G25 =>
 aa PP (.ld (.c a21) 1 false) h22 fun a28 h29 =>
 G25 a28 h29) h22 fun a26 h27 =>
 vguard a19 false (fun G30 =>
 aR a26 h27 fun a33 =>
 G30 a33 h27) h27 fun a31 h32 =>
 vguard a19 false (fun G34 =>
 aa PP (.fadd (.c a3) 2) h32 fun a37 h38 =>
 G34 a37 h38) h32 fun a35 h36 =>
 vguard a19 false (fun G39 =>
 aa PP (.ld (.c a35) 1 false) h36 fun a42 h43 =>
 G39 a42 h43) h36 fun a40 h41 =>
 vguard a19 false (fun G44 =>
 vbin .neq a31 a40 fun a47 =>
 G44 a47 h41) h41 fun a45 h46 =>
 aa PP (.pick (.c a19) (.c (.bool true)) (.c a45)) h46 fun a48 h49 =>
 vcond a48 (aa PP (.st (.c a7) (.c (.int .i64 100)) 1) h49 fun a50 h51 =>
 aa PP (.ld (.c a7) 1 false) h51 fun a52 _ =>
 K a52 h51) (
 ∃(J53:HJq),(∀(f54:Nat->D) (h55:Heap),J53 [] h55 ->
 aa PP (.st (.c a7) (.c (.int .i64 0)) 1) h55 fun a56 h57 =>
 aa PP (.ld (.c a7) 1 false) h57 fun a58 _ =>
 K a58 h57) /\
 aa PP (.ld (.c a3) 8 true) h49 fun a59 h60 =>
 ai PP iD [a59] h60 fun a61 h62 =>
 Ik PP a61 [23] [(3,a5),(4,a7)] iS iQ h62 fun n63 h64=>ff n63 h64 (
 aI [a7] [a7]/\J53 [] (aD h64 n63 .dead)) (fun i0=>(i0=1000000/\(False))\/(False)) ((1000000=1000000/\(aa PP (.ld (.c a7) 1 false) (aD h64 n63 .dead) fun a65 _ =>
 K a65 (aD h64 n63 .dead)))\/(False)))
theorem xr (a0:D) (a1:D) (h0:Heap) (K:HKq):qY a0 a1 h0 K=ga rJ K [a0,a1] h0:=by kernel_rfl
def yh:TLq
 | 1000011=>some ([2,3,5],[])|6=>some ([2,3,5,6],[7])|1000016=>some ([],[])|11=>some ([2,3,5],[8])|_=>none
def By:TTq
 | _=>none
noncomputable abbrev vQ:=cFn PP true hZ yh (cDr PP 69 By)
noncomputable def wh:aQ:=⟨69,aV vQ,[.t 4]⟩
theorem AI:vQ=some wh:=by kernel_rfl
def kC (h58:Heap) (a5:D) (a3:D) (a50:D) (J59:HJq) (K:HKq):Prop :=
 ∃(I62:Nat->HJq) (n₀:Nat),I62 n₀ [(.int .i64 0)] h58/\∀(n63:Nat) (f64:Nat->D) (h65:Heap),I62 n63 [f64 8] h65 ->
 aa PP (.fadd (.c a5) 1) h65 fun a66 h67 =>
 aa PP (.ld (.c a66) 1 false) h67 fun a68 h69 =>
 aR a68 h69 fun a70 =>
 vbin .lss (f64 8) a70 fun a71 =>
 vcond a71 (aa PP (.fadd (.c a5) 1) h69 fun a72 h73 =>
 aa PP (.ld (.c a72) 1 false) h73 fun a74 h75 =>
 aa PP (.iadd (.c a74) (.c (f64 8)) 1) h75 fun a76 h77 =>
 aa PP (.ld (.c a76) 1 false) h77 fun a78 h79 =>
 vguard a78 true (fun G80 =>
 aa PP (.ld (.c a3) 8 true) h79 fun a83 h84 =>
 G80 a83 h84) h79 fun a81 h82 =>
 vguard a78 true (fun G85 =>
 G85 a50 h82) h82 fun a86 h87 =>
 vguard a78 true (fun G88 =>
 aa PP (.ld (.c a5) 2 true) h87 fun a91 h92 =>
 G88 a91 h92) h87 fun a89 h90 =>
 vguard a78 true (fun G93 =>
 G93 (f64 8) h90) h90 fun a94 h95 =>
 vguard a78 true (fun G96 =>
 ai PP fo [a81,a86,a89,a94] h95 fun a99 h100 =>
 G96 a99 h100) h95 fun a97 h98 =>
 vguard a78 true (fun G101 =>
 vun .not a97 fun a104 =>
 G101 a104 h98) h98 fun a102 h103 =>
 aa PP (.pick (.c a78) (.c a102) (.c (.bool false))) h103 fun a105 h106 =>
 vcond a105 (K (.int .i64 100) h106) (
 vbin .add (f64 8) (.int .i64 1) fun a107 =>
 aI [a3,a5,a50] [a3,a5,a50]/\∃m,m<n63/\I62 m [a107] h106)) (
 aI [] []/\J59 [] h69)
def kB (h55:Heap) (a5:D) (a3:D) (a50:D) (a54:D) (J56:HJq) (K:HKq):Prop :=
 ∃(I108:Nat->HJq) (n₀:Nat),I108 n₀ [(.int .i64 0)] h55/\∀(n109:Nat) (f110:Nat->D) (h111:Heap),I108 n109 [f110 7] h111 ->
 aa PP (.fadd (.c a5) 0) h111 fun a112 h113 =>
 aa PP (.ld (.c a112) 1 false) h113 fun a114 h115 =>
 aR a114 h115 fun a116 =>
 vbin .lss (f110 7) a116 fun a117 =>
 vcond a117 (aa PP (.fadd (.c a5) 0) h115 fun a118 h119 =>
 aa PP (.ld (.c a118) 1 false) h119 fun a120 h121 =>
 aa PP (.iadd (.c a120) (.c (f110 7)) 1) h121 fun a122 h123 =>
 aa PP (.ld (.c a122) 1 false) h123 fun a124 h125 =>
 vguard a124 true (fun G126 =>
 aa PP (.ld (.c a3) 8 true) h125 fun a129 h130 =>
 G126 a129 h130) h125 fun a127 h128 =>
 vguard a124 true (fun G131 =>
 G131 a50 h128) h128 fun a132 h133 =>
 vguard a124 true (fun G134 =>
 G134 a54 h133) h133 fun a135 h136 =>
 vguard a124 true (fun G137 =>
 aa PP (.ld (.c a5) 2 true) h136 fun a140 h141 =>
 G137 a140 h141) h136 fun a138 h139 =>
 vguard a124 true (fun G142 =>
 G142 (f110 7) h139) h139 fun a143 h144 =>
 vguard a124 true (fun G145 =>
 ai PP kK [a127,a132,a135,a138,a143] h144 fun a148 h149 =>
 G145 a148 h149) h144 fun a146 h147 =>
 vguard a124 true (fun G150 =>
 vun .not a146 fun a153 =>
 G150 a153 h147) h147 fun a151 h152 =>
 aa PP (.pick (.c a124) (.c a151) (.c (.bool false))) h152 fun a154 h155 =>
 vcond a154 (K (.int .i64 100) h155) (
 vbin .add (f110 7) (.int .i64 1) fun a156 =>
 aI [a3,a5,a50,a54] [a3,a5,a50,a54]/\∃m,m<n109/\I108 m [a156] h155)) (
 aI [a3,a5,a50] [a3,a5,a50]/\J56 [] h115)
def vz (a0:D) (a1:D) (h0:Heap) (K:HKq):Prop :=
 aa PP (.box (.c a0)) h0 fun a3 h4 =>
 aa PP (.box (.c a1)) h4 fun a5 h6 =>
 aa PP (.fadd (.c a5) 0) h6 fun a7 h8 =>
 aa PP (.ld (.c a7) 1 false) h8 fun a9 h10 =>
 aR a9 h10 fun a11 =>
 aa PP (.fadd (.c a3) 7) h10 fun a12 h13 =>
 aa PP (.ld (.c a12) 1 false) h13 fun a14 h15 =>
 aR a14 h15 fun a16 =>
 vbin .neq a11 a16 fun a17 =>
 vguard a17 false (fun G18 =>
 aa PP (.fadd (.c a5) 1) h15 fun a21 h22 =>
 G18 a21 h22) h15 fun a19 h20 =>
 vguard a17 false (fun G23 =>
 aa PP (.ld (.c a19) 1 false) h20 fun a26 h27 =>
 G23 a26 h27) h20 fun a24 h25 =>
 vguard a17 false (fun G28 =>
 aR a24 h25 fun a31 =>
 G28 a31 h25) h25 fun a29 h30 =>
 vguard a17 false (fun G32 =>
 aa PP (.fadd (.c a3) 2) h30 fun a35 h36 =>
 G32 a35 h36) h30 fun a33 h34 =>
 vguard a17 false (fun G37 =>
 aa PP (.ld (.c a33) 1 false) h34 fun a40 h41 =>
 G37 a40 h41) h34 fun a38 h39 =>
 vguard a17 false (fun G42 =>
 vbin .neq a29 a38 fun a45 =>
 G42 a45 h39) h39 fun a43 h44 =>
 aa PP (.pick (.c a17) (.c (.bool true)) (.c a43)) h44 fun a46 h47 =>
 vcond a46 (K (.int .i64 100) h47) (
 aa PP (.ld (.c a3) 8 true) h47 fun a48 h49 =>
 ai PP kN [a48] h49 fun a50 h51 =>
 aa PP (.ld (.c a3) 8 true) h51 fun a52 h53 =>
 ai PP iE [a52] h53 fun a54 h55 =>
 ∃(J56:HJq),(∀(f57:Nat->D) (h58:Heap),J56 [] h58 ->
 ∃(J59:HJq),(∀(f60:Nat->D) (h61:Heap),J59 [] h61 ->
 K (.int .i64 0) h61) /\
 kC h58 a5 a3 a50 J59 K) /\
 kB h55 a5 a3 a50 a54 J56 K)
theorem Ax (a0:D) (a1:D) (h0:Heap) (K:HKq):vz a0 a1 h0 K=ga wh K [a0,a1] h0:=by kernel_rfl
end Go.Am
namespace Go.Am
open Go Go.Proofs
def Ah:TLq
 | 1000015=>some ([3],[])|4=>some ([1,3],[4])|8=>some ([1,3,35,36],[4,37])|1000014=>some ([1,3,35,36,37],[4])|_=>none
def C0:TTq
 | _=>none
noncomputable abbrev zh:=cFn PP true qp Ah (cDr PP 55 C0)
noncomputable def zA:aQ:=⟨55,aV zh,[.t 2]⟩
theorem Cl:zh=some zA:=by kernel_rfl
def rA (a34:D) (h47:Heap) (a48:D) (a2:D) (a9:D) (a46:D) (n21:Nat) (I20:Nat->HJq):Prop :=
 ∃(I49:Nat->HJq) (n₀:Nat),I49 n₀ [a34,(.int .i64 0)] h47/\∀(n50:Nat) (f51:Nat->D) (h52:Heap),I49 n50 [f51 4,f51 37] h52 ->
 vbin .lss (f51 37) a48 fun a53 =>
 vcond a53 (∃(J54:HJq),(∀(f55:Nat->D) (h56:Heap),J54 [f55 4] h56 ->
 vbin .add (f51 37) (.int .i64 1) fun a57 =>
 aI [a2,a9,a46,a48] [a2,a9,a46,a48]/\∃m,m<n50/\I49 m [(f55 4),a57] h56) /\
 aa PP (.iadd (.c a46) (.c (f51 37)) 1) h52 fun a58 h59 =>
 aa PP (.ld (.c a58) 1 false) h59 fun a60 h61 =>
 aa PP (.iadd (.c a9) (.c a60) 1) h61 fun a62 h63 =>
 aa PP (.ld (.c a62) 1 false) h63 fun a64 h65 =>
 vun .not a64 fun a66 =>
 vcond a66 (aa PP (.iadd (.c a9) (.c a60) 1) h65 fun a67 h68 =>
 aa PP (.st (.c a67) (.c (.bool true)) 1) h68 fun a69 h70 =>
 aa PP (.bldS true 1 1 (.int .i64 0) [(0,(.c a60))]) h70 fun a71 h72 =>
 aa PP (.app (.c (f51 4)) (.c a71) 1 8 (.int .i64 0)) h72 fun a73 h74 =>
 aI [a2,a9,a46,a48,(f51 37)] [a2,a9,a46,a48,(f51 37)]/\J54 [a73] h74) (
 aI [a2,a9,a46,a48,(f51 37)] [a2,a9,a46,a48,(f51 37)]/\J54 [(f51 4)] h65)) (
 aI [a2,a9] [a2,a9]/\∃m,m<n21/\I20 m [(f51 4)] h52)
def rj (a18:D) (h19:Heap) (a2:D) (a9:D) (J15:HJq):Prop :=
 ∃(I20:Nat->HJq) (n₀:Nat),I20 n₀ [a18] h19/\∀(n21:Nat) (f22:Nat->D) (h23:Heap),I20 n21 [f22 4] h23 ->
 aR (f22 4) h23 fun a24 =>
 vbin .gtr a24 (.int .i64 0) fun a25 =>
 vcond a25 (aR (f22 4) h23 fun a26 =>
 vbin .sub a26 (.int .i64 1) fun a27 =>
 aa PP (.iadd (.c (f22 4)) (.c a27) 1) h23 fun a28 h29 =>
 aa PP (.ld (.c a28) 1 false) h29 fun a30 h31 =>
 aR (f22 4) h31 fun a32 =>
 vbin .sub a32 (.int .i64 1) fun a33 =>
 aa PP (.zB (.c (f22 4)) none (some (.c a33)) none 1) h31 fun a34 h35 =>
 aa PP (.fadd (.c a2) 7) h35 fun a36 h37 =>
 aa PP (.ld (.c a36) 1 false) h37 fun a38 h39 =>
 aa PP (.iadd (.c a38) (.c a30) 14) h39 fun a40 h41 =>
 aa PP (.fadd (.c a40) 1) h41 fun a42 h43 =>
 aa PP (.ld (.c a42) 13 true) h43 fun a44 h45 =>
 ai PP kW [a44] h45 fun a46 h47 =>
 aR a46 h47 fun a48 =>
 rA a34 h47 a48 a2 a9 a46 n21 I20) (
 aI [a9] [a9]/\J15 [] h23)
def y0 (a0:D) (h0:Heap) (K:HKq):Prop :=
 aa PP (.box (.c a0)) h0 fun a2 h3 =>
 aa PP (.fadd (.c a2) 7) h3 fun a4 h5 =>
 aa PP (.ld (.c a4) 1 false) h5 fun a6 h7 =>
 aR a6 h7 fun a8 =>
 aa PP (.mk 1 1 (.bool false) (.c a8) (.c a8)) h7 fun a9 h10 =>
 aa PP (.iadd (.c a9) (.c (.int .i64 0)) 1) h10 fun a11 h12 =>
 aa PP (.st (.c a11) (.c (.bool true)) 1) h12 fun a13 h14 =>
 ∃(J15:HJq),(∀(f16:Nat->D) (h17:Heap),J15 [] h17 ->
 K a9 h17) /\
 aa PP (.bldS true 1 1 (.int .i64 0) [(0,(.c (.int .i64 0)))]) h14 fun a18 h19 =>
 rj a18 h19 a2 a9 J15
theorem B7 (a0:D) (h0:Heap) (K:HKq):y0 a0 h0 K=ga zA K [a0] h0:=by kernel_rfl
def rU:TLq
 | 1000009=>some ([],[])|4=>some ([0,1],[5])|_=>none
def uB:TTq
 | 6=>some ([0,0,3,7,0,0,48,112,255],[],[])|_=>none
noncomputable abbrev ow:=cFn PP true cB rU (cDr PP 26 uB)
noncomputable def oG:aQ:=⟨26,aV ow,[.t 4]⟩
theorem tY:ow=some oG:=by kernel_rfl
def lg (h0:Heap) (a0:D) (a1:D) (J6:HJq) (K:HKq):Prop :=
 ∃(I9:Nat->HJq) (n₀:Nat),I9 n₀ [(.int .i64 0)] h0/\∀(n10:Nat) (f11:Nat->D) (h12:Heap),I9 n10 [f11 5] h12 ->
 aR a0 h12 fun a13 =>
 vbin .lss (f11 5) a13 fun a14 =>
 vcond a14 (ae PP (.iadd (.c a0) (.c (f11 5)) 1) h12 fun a15 =>
 ae PP (.ld (.c a15) 1 false) h12 fun a16 =>
 ae PP (.iadd (.c a1) (.c (f11 5)) 1) h12 fun a17 =>
 ae PP (.ld (.c a17) 1 false) h12 fun a18 =>
 ae PP (.eqv true false [.b] (.c a16) (.c a18)) h12 fun a19 =>
 vcond a19 (K (.bool false) h12) (
 vbin .add (f11 5) (.int .i64 1) fun a20 =>
 aI [a0,a1] [a0,a1]/\∃m,m<n10/\I9 m [a20] h12)) (
 aI [] []/\J6 [] h12)
def og (a0:D) (a1:D) (h0:Heap) (K:HKq):Prop :=
 aR a0 h0 fun a3 =>
 aR a1 h0 fun a4 =>
 vbin .neq a3 a4 fun a5 =>
 vcond a5 (K (.bool false) h0) (
 ∃(J6:HJq),(∀(f7:Nat->D) (h8:Heap),J6 [] h8 ->
 K (.bool true) h8) /\
 lg h0 a0 a1 J6 K)
theorem tA (a0:D) (a1:D) (h0:Heap) (K:HKq):og a0 a1 h0 K=ga oG K [a0,a1] h0:=by kernel_rfl
def BO:TLq
 | _=>none
def Ez:TTq
 | _=>none
noncomputable abbrev Bo:=cFn PP true sS BO (cDr PP 6 Ez)
noncomputable def Bw:aQ:=⟨6,aV Bo,[.t 2]⟩
theorem Em:Bo=some Bw:=by kernel_rfl
def Bh (a0:D) (h0:Heap) (K:HKq):Prop :=
 aa PP (.box (.c a0)) h0 fun a2 h3 =>
 aa PP (.fadd (.c a2) 2) h3 fun a4 h5 =>
 aa PP (.ld (.c a4) 3 true) h5 fun a6 h7 =>
 ai PP qo [a6] h7 fun a8 h9 =>
 K a8 h9
theorem D4 (a0:D) (h0:Heap) (K:HKq):Bh a0 h0 K=ga Bw K [a0] h0:=by kernel_rfl
def Dt:TLq
 | _=>none
def FG:TTq
 | _=>none
noncomputable abbrev Ea:=cFn PP true w6 Dt (cDr PP 6 FG)
noncomputable def En:aQ:=⟨6,aV Ea,[.t 2]⟩
theorem EN:Ea=some En:=by kernel_rfl
def D5 (a0:D) (h0:Heap) (K:HKq):Prop :=
 aa PP (.box (.c a0)) h0 fun a2 h3 =>
 aa PP (.fadd (.c a2) 3) h3 fun a4 h5 =>
 aa PP (.ld (.c a4) 3 true) h5 fun a6 h7 =>
 ai PP qo [a6] h7 fun a8 h9 =>
 K a8 h9
theorem EJ (a0:D) (h0:Heap) (K:HKq):D5 a0 h0 K=ga En K [a0] h0:=by kernel_rfl
def uP:TLq
 | _=>none
def xV:TTq
 | 4=>some ([0,0,3,0,0,24,63,8,136,392,904,0,3976,392,0,24968,57736,8584,139656,401800,926088,0,2097152,8266120,0,16777216,67108863,134217727,268435455],[28],[])|_=>none
noncomputable abbrev rG:=cFn PP true lF uP (cDr PP 38 xV)
noncomputable def rM:aQ:=⟨38,aV rG,[.cell 0 8 true]⟩
theorem xD:rG=some rM:=by kernel_rfl
def rf (h0:Heap) (K:HKq):Prop :=
 aa PP (.alloc (.agg [zI,zI,zI,zI,zI,.nil,.nil,.nil])) h0 fun a1 h2 =>
 aa PP (.bld [zI,zI] [(0,1,(.c (.int .i64 2))),(1,1,(.c (.int .i64 0)))]) h2 fun a3 h4 =>
 aa PP (.bld [zI,zI,zI,zI,zJ,zI,zI,zJ,zI,zI,zJ,zI,zI] [(0,1,(.c (.int .i64 1))),(11,2,(.c a3))]) h4 fun a5 h6 =>
 aa PP (.alloc (.agg [zI,zI,zI,zI,zJ,zI,zI,zJ,zI,zI,zJ,zI,zI])) h6 fun a7 h8 =>
 aa PP (.st (.c a7) (.c a5) 13) h8 fun a9 h10 =>
 ai PP bt [(.int .i64 0)] h10 fun a11 h12 =>
 aa PP (.bld [zI,zI,zI,zI,zI,zJ,zI,zI,zJ,zI,zI,zJ,zI,zI,zJ] [(0,1,(.c (.int .i64 5))),(1,1,(.c (.int .i64 2))),(3,3,(.c a11))]) h12 fun a13 h14 =>
 aa PP (.alloc (.agg [zI,zI,zI,zI,zI,zJ,zI,zI,zJ,zI,zI,zJ,zI,zI,zJ])) h14 fun a15 h16 =>
 aa PP (.st (.c a15) (.c a13) 15) h16 fun a17 h18 =>
 ai PP bt [(.int .i64 1)] h18 fun a19 h20 =>
 aa PP (.bld [zI,zI,zI,zI,zI,zJ,zI,zI,zJ,zI,zI,zJ,zI,zI,zJ] [(0,1,(.c (.int .i64 5))),(1,1,(.c (.int .i64 3))),(3,3,(.c a19))]) h20 fun a21 h22 =>
 aa PP (.alloc (.agg [zI,zI,zI,zI,zI,zJ,zI,zI,zJ,zI,zI,zJ,zI,zI,zJ])) h22 fun a23 h24 =>
 aa PP (.st (.c a23) (.c a21) 15) h24 fun a25 h26 =>
 ae PP (.ld (.c a15) 15 true) h26 fun a27 =>
 ae PP (.ld (.c a23) 15 true) h26 fun a28 =>
 ae PP (.bldS false 15 2 (.agg [zI,zI,zI,zI,zI,zJ,zI,zI,zJ,zI,zI,zJ,zI,zI,zJ]) [(0,(.c a27)),(1,(.c a28))]) h26 fun a29 =>
 ae PP (.call bt [(.c (.int .i64 0))]) h26 fun a30 =>
 ae PP (.bld [zI,zI] [(0,1,(.c (.int .i64 1))),(1,1,(.c (.int .i64 2)))]) h26 fun a31 =>
 ae PP (.bld [zI,zI,zI,zI,zJ,zI,zI,zJ,zI,zI,zJ,zI,zI] [(0,1,(.c (.int .i64 2))),(5,3,(.c a30)),(11,2,(.c a31))]) h26 fun a32 =>
 ae PP (.bld [.nil,zI,zI,zI,zI,zJ,zI,zI,zJ,zI,zI,zJ,zI,zI] [(0,1,(.c a29)),(1,13,(.c a32))]) h26 fun a33 =>
 ae PP (.call bt [(.c (.int .i64 2))]) h26 fun a34 =>
 ae PP (.call cK [(.c (.int .i32 1))]) h26 fun a35 =>
 ae PP (.bld [zI,zI,zI,zI,zI,zJ,zI,zI,zJ,zI,zI,zJ,zI,zI,zJ] [(0,1,(.c (.int .i64 1))),(3,3,(.c a34)),(6,3,(.c a35))]) h26 fun a36 =>
 ae PP (.bldS false 15 1 (.agg [zI,zI,zI,zI,zI,zJ,zI,zI,zJ,zI,zI,zJ,zI,zI,zJ]) [(0,(.c a36))]) h26 fun a37 =>
 ae PP (.ld (.c a7) 13 true) h26 fun a38 =>
 ae PP (.bld [.nil,zI,zI,zI,zI,zJ,zI,zI,zJ,zI,zI,zJ,zI,zI] [(0,1,(.c a37)),(1,13,(.c a38))]) h26 fun a39 =>
 ae PP (.call bt [(.c (.int .i64 1))]) h26 fun a40 =>
 ae PP (.bld [zI,zI] [(0,1,(.c (.int .i64 3))),(1,1,(.c (.int .i64 4)))]) h26 fun a41 =>
 ae PP (.bld [zI,zI,zI,zI,zJ,zI,zI,zJ,zI,zI,zJ,zI,zI] [(0,1,(.c (.int .i64 2))),(5,3,(.c a40)),(11,2,(.c a41))]) h26 fun a42 =>
 ae PP (.bld [.nil,zI,zI,zI,zI,zJ,zI,zI,zJ,zI,zI,zJ,zI,zI] [(1,13,(.c a42))]) h26 fun a43 =>
 ae PP (.call bt [(.c (.int .i64 3))]) h26 fun a44 =>
 ae PP (.call bt [(.c (.int .i64 1))]) h26 fun a45 =>
 ae PP (.bld [zI,zI,zI,zI,zI,zJ,zI,zI,zJ,zI,zI,zJ,zI,zI,zJ] [(0,1,(.c (.int .i64 1))),(3,3,(.c a44)),(6,3,(.c a45))]) h26 fun a46 =>
 ae PP (.bldS false 15 1 (.agg [zI,zI,zI,zI,zI,zJ,zI,zI,zJ,zI,zI,zJ,zI,zI,zJ]) [(0,(.c a46))]) h26 fun a47 =>
 ae PP (.bld [zI,zI] [(0,1,(.c (.int .i64 4))),(1,1,(.c (.int .i64 0)))]) h26 fun a48 =>
 ae PP (.bld [zI,zI,zI,zI,zJ,zI,zI,zJ,zI,zI,zJ,zI,zI] [(0,1,(.c (.int .i64 1))),(11,2,(.c a48))]) h26 fun a49 =>
 ae PP (.bld [.nil,zI,zI,zI,zI,zJ,zI,zI,zJ,zI,zI,zJ,zI,zI] [(0,1,(.c a47)),(1,13,(.c a49))]) h26 fun a50 =>
 ae PP (.bld [zI,zI,zI,zI,zJ,zI,zI,zJ,zI,zI,zJ,zI,zI] [(0,1,(.c (.int .i64 5)))]) h26 fun a51 =>
 ae PP (.bld [.nil,zI,zI,zI,zI,zJ,zI,zI,zJ,zI,zI,zJ,zI,zI] [(1,13,(.c a51))]) h26 fun a52 =>
 ae PP (.bldS false 14 5 (.agg [.nil,zI,zI,zI,zI,zJ,zI,zI,zJ,zI,zI,zJ,zI,zI]) [(0,(.c a33)),(1,(.c a39)),(2,(.c a43)),(3,(.c a50)),(4,(.c a52))]) h26 fun a53 =>
 ae PP (.bld [zI,zI,zI,zI,zI,.nil,.nil,.nil] [(0,1,(.c (.int .i64 4))),(1,1,(.c (.int .i64 1))),(2,1,(.c (.int .i64 5))),(7,1,(.c a53))]) h26 fun a54 =>
 aa PP (.st (.c a1) (.c a54) 8) h26 fun a55 h56 =>
 aa PP (.ld (.c a1) 8 true) h56 fun a57 _ =>
 K a57 h56
theorem xv (h0:Heap) (K:HKq):rf h0 K=ga rM K [] h0:=by kernel_rfl
def BI:TLq
 | 1000007=>some ([1,4,5],[])|3=>some ([1,4,5],[6])|1000011=>some ([4,5],[])|7=>some ([1,4,5],[7])|_=>none
def Es:TTq
 | 1=>some ([0,1,3,7,0,16,48,127,0,511],[3,6,8,9],[999996,0,1,2])|_=>none
noncomputable abbrev Bi:=cFn PP true gp BI (cDr PP 41 Es)
noncomputable def Bp:aQ:=⟨41,aV Bi,[.cell 4 2 true]⟩
theorem tZ:Bi=some Bp:=by kernel_rfl
def m7 (h37:Heap) (a26:D) (a1:D) (a5:D) (J38:HJq):Prop :=
 ∃(I46:Nat->HJq) (n₀:Nat),I46 n₀ [(.int .i64 0)] h37/\∀(n47:Nat) (f48:Nat->D) (h49:Heap),I46 n47 [f48 7] h49 ->
 aa PP (.fadd (.c a26) 1) h49 fun a50 h51 =>
 aa PP (.ld (.c a50) 1 false) h51 fun a52 h53 =>
 aR a52 h53 fun a54 =>
 vbin .lss (f48 7) a54 fun a55 =>
 vcond a55 (aa PP (.fadd (.c a26) 1) h53 fun a56 h57 =>
 aa PP (.ld (.c a56) 1 false) h57 fun a58 h59 =>
 aa PP (.iadd (.c a58) (.c (f48 7)) 1) h59 fun a60 h61 =>
 aa PP (.st (.c a60) (.c a1) 1) h61 fun a62 h63 =>
 vbin .add (f48 7) (.int .i64 1) fun a64 =>
 aI [a1,a5,a26] [a1,a5,a26]/\∃m,m<n47/\I46 m [a64] h63) (
 aI [a5,a26] [a5,a26]/\J38 [] h53)
def m4 (h34:Heap) (a26:D) (a1:D) (a5:D) (J35:HJq):Prop :=
 ∃(I65:Nat->HJq) (n₀:Nat),I65 n₀ [(.int .i64 0)] h34/\∀(n66:Nat) (f67:Nat->D) (h68:Heap),I65 n66 [f67 6] h68 ->
 aa PP (.fadd (.c a26) 0) h68 fun a69 h70 =>
 aa PP (.ld (.c a69) 1 false) h70 fun a71 h72 =>
 aR a71 h72 fun a73 =>
 vbin .lss (f67 6) a73 fun a74 =>
 vcond a74 (aa PP (.fadd (.c a26) 0) h72 fun a75 h76 =>
 aa PP (.ld (.c a75) 1 false) h76 fun a77 h78 =>
 aa PP (.iadd (.c a77) (.c (f67 6)) 1) h78 fun a79 h80 =>
 aa PP (.st (.c a79) (.c a1) 1) h80 fun a81 h82 =>
 vbin .add (f67 6) (.int .i64 1) fun a83 =>
 aI [a1,a5,a26] [a1,a5,a26]/\∃m,m<n66/\I65 m [a83] h82) (
 aI [a1,a5,a26] [a1,a5,a26]/\J35 [] h72)
def tC (a0:D) (a1:D) (h0:Heap) (K:HKq):Prop :=
 aa PP (.box (.c a0)) h0 fun a3 h4 =>
 aa PP (.alloc (.agg [.nil,.nil])) h4 fun a5 h6 =>
 ae PP (.fadd (.c a3) 7) h6 fun a7 =>
 ae PP (.ld (.c a7) 1 false) h6 fun a8 =>
 aR a8 h6 fun a9 =>
 ae PP (.fadd (.c a3) 2) h6 fun a10 =>
 ae PP (.ld (.c a10) 1 false) h6 fun a11 =>
 aa PP (.mkc 1 (.c a9) (.c a9)) h6 fun a12 h13 =>
 aa PP (.mkc 1 (.c a11) (.c a11)) h13 fun a14 h15 =>
 aa PP (.mk 1 1 (.bool false) (.c a9) (.c a9)) h15 fun a16 h17 =>
 ((ae PP (.fadd (.c a3) 2) h17 fun a18=>aI [a18] [a10])/\(ae PP (.ld (.c a10) 1 false) h17 fun a19=>aI [a19] [a11])/\True) /\
 aa PP (.mk 1 1 (.bool false) (.c a11) (.c a11)) h17 fun a20 h21 =>
 ((ae PP (.fadd (.c a3) 7) h21 fun a22=>aI [a22] [a7])/\(ae PP (.ld (.c a7) 1 false) h21 fun a23=>aI [a23] [a8])/\(ae PP (.len (.c a8)) h21 fun a24=>aI [a24] [a9])/\True) /\
 ae PP (.bld [.nil,.nil] [(0,1,(.c a16)),(1,1,(.c a20))]) h21 fun a25 =>
 aa PP (.alloc (.agg [.nil,.nil])) h21 fun a26 h27 =>
 ((ae PP (.fadd (.c a3) 7) h27 fun a28=>aI [a28] [a7])/\(ae PP (.ld (.c a7) 1 false) h27 fun a29=>aI [a29] [a8])/\(ae PP (.len (.c a8)) h27 fun a30=>aI [a30] [a9])/\(ae PP (.fadd (.c a3) 2) h27 fun a31=>aI [a31] [a10])/\(ae PP (.ld (.c a10) 1 false) h27 fun a32=>aI [a32] [a11])/\True) /\
 aa PP (.st (.c a26) (.c a25) 2) h27 fun a33 h34 =>
 ∃(J35:HJq),(∀(f36:Nat->D) (h37:Heap),J35 [] h37 ->
 ∃(J38:HJq),(∀(f39:Nat->D) (h40:Heap),J38 [] h40 ->
 aa PP (.ld (.c a26) 2 true) h40 fun a41 h42 =>
 aa PP (.st (.c a5) (.c a41) 2) h42 fun a43 h44 =>
 aa PP (.ld (.c a5) 2 true) h44 fun a45 _ =>
 K a45 h44) /\
 m7 h37 a26 a1 a5 J38) /\
 m4 h34 a26 a1 a5 J35
theorem tB (a0:D) (a1:D) (h0:Heap) (K:HKq):tC a0 a1 h0 K=ga Bp K [a0,a1] h0:=by kernel_rfl
def qv:TLq
 | _=>none
def sG:TTq
 | 2=>some ([0,1,3,7,0,16,48,112,240,511],[],[])|4=>some ([0,1,3,7,0,16,48,112,240,511,1023,2047,4095],[],[])|_=>none
noncomputable abbrev nq:=cFn PP true au qv (cDr PP 32 sG)
noncomputable def nH:aQ:=⟨32,aV nq,[.t 2]⟩
theorem sr:nq=some nH:=by kernel_rfl
def m9 (a0:D) (h0:Heap) (K:HKq):Prop :=
 aa PP (.fadd (.c a0) 0) h0 fun a2 h3 =>
 aa PP (.fadd (.c a2) 1) h3 fun a4 h5 =>
 aa PP (.ld (.c a4) 1 false) h5 fun a6 h7 =>
 vbin .add a6 (.int .i64 1) fun a8 =>
 aa PP (.fadd (.c a0) 0) h7 fun a9 h10 =>
 aa PP (.fadd (.c a9) 1) h10 fun a11 h12 =>
 aa PP (.st (.c a11) (.c a8) 1) h12 fun a13 h14 =>
 ae PP (.fadd (.c a0) 0) h14 fun a15 =>
 ae PP (.fadd (.c a15) 1) h14 fun a16 =>
 ae PP (.ld (.c a16) 1 false) h14 fun a17 =>
 ae PP (.fadd (.c a0) 0) h14 fun a18 =>
 ae PP (.fadd (.c a18) 0) h14 fun a19 =>
 ae PP (.ld (.c a19) 1 false) h14 fun a20 =>
 aR a20 h14 fun a21 =>
 vbin .gtr a17 a21 fun a22 =>
 vcond a22 (K (.int .i64 0) h14) (
 ae PP (.fadd (.c a0) 0) h14 fun a23 =>
 ae PP (.fadd (.c a23) 0) h14 fun a24 =>
 ae PP (.ld (.c a24) 1 false) h14 fun a25 =>
 ae PP (.fadd (.c a0) 0) h14 fun a26 =>
 ae PP (.fadd (.c a26) 1) h14 fun a27 =>
 ae PP (.ld (.c a27) 1 false) h14 fun a28 =>
 vbin .sub a28 (.int .i64 1) fun a29 =>
 ae PP (.iadd (.c a25) (.c a29) 1) h14 fun a30 =>
 ae PP (.ld (.c a30) 1 false) h14 fun a31 =>
 ae PP (.conv .i64 (.c a31)) h14 fun a32 =>
 K a32 h14)
theorem si (a0:D) (h0:Heap) (K:HKq):m9 a0 h0 K=ga nH K [a0] h0:=by kernel_rfl
def xc:TLq
 | _=>none
def zL:TTq
 | _=>none
noncomputable abbrev tR:=cFn PP true mO xc (cDr PP 7 zL)
noncomputable def uc:aQ:=⟨7,aV tR,[.t 0]⟩
theorem zx:tR=some uc:=by kernel_rfl
def tF (h0:Heap) (K:HKq):Prop :=
 aa PP (.bld [(.str ⟨#[]⟩),(.int .i64 0),(.int .i64 0),(.int .i64 0)] [(0,1,(.c (.str ⟨#[97]⟩))),(1,1,(.c (.int .i64 1))),(2,1,(.c (.int .i64 1))),(3,1,(.c (.int .i64 8)))]) h0 fun a1 h2 =>
 aa PP (.bld [(.str ⟨#[]⟩),(.int .i64 0),(.int .i64 0),(.int .i64 0)] [(0,1,(.c (.str ⟨#[102]⟩))),(1,1,(.c (.int .i64 1))),(2,1,(.c (.int .i64 2))),(3,1,(.c (.int .i64 4)))]) h2 fun a3 h4 =>
 aa PP (.bld [(.str ⟨#[]⟩),(.int .i64 0),(.int .i64 0),(.int .i64 0)] [(0,1,(.c (.str ⟨#[115]⟩))),(1,1,(.c (.int .i64 2))),(2,1,(.c (.int .i64 1))),(3,1,(.c (.int .i64 8)))]) h4 fun a5 h6 =>
 aa PP (.bld [(.str ⟨#[]⟩),(.int .i64 0),(.int .i64 0),(.int .i64 0)] [(0,1,(.c (.str ⟨#[112]⟩))),(1,1,(.c (.int .i64 3))),(2,1,(.c (.int .i64 1))),(3,1,(.c (.int .i64 4)))]) h6 fun a7 h8 =>
 aa PP (.bld [(.str ⟨#[]⟩),(.int .i64 0),(.int .i64 0),(.int .i64 0)] [(0,1,(.c (.str ⟨#[98]⟩))),(1,1,(.c (.int .i64 2))),(2,1,(.c (.int .i64 3))),(3,1,(.c (.int .i64 4)))]) h8 fun a9 h10 =>
 aa PP (.bldS true 4 5 (.agg [(.str ⟨#[]⟩),(.int .i64 0),(.int .i64 0),(.int .i64 0)]) [(0,(.c a1)),(1,(.c a3)),(2,(.c a5)),(3,(.c a7)),(4,(.c a9))]) h10 fun a11 h12 =>
 K a11 h12
theorem yX (h0:Heap) (K:HKq):tF h0 K=ga uc K [] h0:=by kernel_rfl
def oU:TLq
 | 1000012=>some ([0],[])|4=>some ([0,5],[6])|1000011=>some ([0,5,6],[])|_=>none
def qd:TTq
 | 9=>some ([0,1,3,7,15,0,0,64,0,256,0,1216,0,0,12288,31936,65472,0,131072,0,527552,0,0,6291456,16256192,33426624,67108800,134217664,268435455,536870911,1073741823],[7,11,20,30],[999999])|_=>none
noncomputable abbrev lq:=cFn PP true et oU (cDr PP 77 qd)
noncomputable def ly:aQ:=⟨77,aV lq,[]⟩
theorem p6:lq=some ly:=by kernel_rfl
def jc (a14:D) (h12:Heap) (a15:D) (a0:D) (J16:HJq):Prop :=
 ∃(I21:Nat->HJq) (n₀:Nat),I21 n₀ [a14] h12/\∀(n22:Nat) (f23:Nat->D) (h24:Heap),I21 n22 [f23 6] h24 ->
 vbin .lss (f23 6) a15 fun a25 =>
 vcond a25 (ai PP cE [a0] h24 fun a26 h27 =>
 aa PP (.fadd (.c a0) 0) h27 fun a28 h29 =>
 aa PP (.fadd (.c a28) 2) h29 fun a30 h31 =>
 aa PP (.fadd (.c a30) 7) h31 fun a32 h33 =>
 aa PP (.ld (.c a32) 1 false) h33 fun a34 h35 =>
 vbin .add (f23 6) (.int .i64 1) fun a36 =>
 aa PP (.bld [zI,zI] [(0,1,(.c a36)),(1,1,(.c (.int .i64 0)))]) h35 fun a37 h38 =>
 aa PP (.bld [zI,zI,zI,zI,zJ,zI,zI,zJ,zI,zI,zJ,zI,zI] [(0,1,(.c (.int .i64 1))),(11,2,(.c a37))]) h38 fun a39 h40 =>
 aa PP (.iadd (.c a34) (.c (f23 6)) 14) h40 fun a41 h42 =>
 aa PP (.fadd (.c a41) 1) h42 fun a43 h44 =>
 aa PP (.st (.c a43) (.c a39) 13) h44 fun a45 h46 =>
 ∃(J47:HJq),(∀(f48:Nat->D) (h49:Heap),J47 [] h49 ->
 ai PP bc [a0] h49 fun a50 h51 =>
 vbin .add (f23 6) (.int .i64 1) fun a52 =>
 aI [a0,a15] [a0,a15]/\∃m,m<n22/\I21 m [a52] h51) /\
 ai PP au [a0] h46 fun a53 h54 =>
 vbin .rem a53 (.int .i64 2) fun a55 =>
 vbin .eql a55 (.int .i64 0) fun a56 =>
 vcond a56 (ae PP (.fadd (.c a0) 0) h54 fun a57 =>
 ae PP (.fadd (.c a57) 2) h54 fun a58 =>
 ae PP (.fadd (.c a58) 7) h54 fun a59 =>
 ae PP (.ld (.c a59) 1 false) h54 fun a60 =>
 vbin .add (f23 6) (.int .i64 1) fun a61 =>
 vbin .sub a15 (f23 6) fun a62 =>
 vbin .add (f23 6) (.int .i64 1) fun a63 =>
 vbin .sub a15 (f23 6) fun a64 =>
 ai PP aU [a0] h54 fun a65 h66 =>
 ((ae PP (.fadd (.c a0) 0) h66 fun a67=>aI [a67] [a57])/\(ae PP (.fadd (.c a57) 2) h66 fun a68=>aI [a68] [a58])/\(ae PP (.fadd (.c a58) 7) h66 fun a69=>aI [a69] [a59])/\(ae PP (.ld (.c a59) 1 false) h66 fun a70=>aI [a70] [a60])/\True) /\
 ai PP au [a0] h66 fun a71 h72 =>
 ((ae PP (.fadd (.c a0) 0) h72 fun a73=>aI [a73] [a57])/\(ae PP (.fadd (.c a57) 2) h72 fun a74=>aI [a74] [a58])/\(ae PP (.fadd (.c a58) 7) h72 fun a75=>aI [a75] [a59])/\(ae PP (.ld (.c a59) 1 false) h72 fun a76=>aI [a76] [a60])/\True) /\
 vbin .rem a71 a62 fun a77 =>
 vbin .add a61 a77 fun a78 =>
 ai PP au [a0] h72 fun a79 h80 =>
 ((ae PP (.fadd (.c a0) 0) h80 fun a81=>aI [a81] [a57])/\(ae PP (.fadd (.c a57) 2) h80 fun a82=>aI [a82] [a58])/\(ae PP (.fadd (.c a58) 7) h80 fun a83=>aI [a83] [a59])/\(ae PP (.ld (.c a59) 1 false) h80 fun a84=>aI [a84] [a60])/\True) /\
 vbin .rem a79 a64 fun a85 =>
 vbin .add a63 a85 fun a86 =>
 ae PP (.bld [zI,zI] [(0,1,(.c a78)),(1,1,(.c a86))]) h80 fun a87 =>
 ae PP (.bld [zI,zI,zI,zI,zJ,zI,zI,zJ,zI,zI,zJ,zI,zI] [(0,1,(.c (.int .i64 2))),(5,3,(.c a65)),(11,2,(.c a87))]) h80 fun a88 =>
 ae PP (.iadd (.c a60) (.c (f23 6)) 14) h80 fun a89 =>
 ae PP (.fadd (.c a89) 1) h80 fun a90 =>
 aa PP (.st (.c a90) (.c a88) 13) h80 fun a91 h92 =>
 aI [a0,a15,(f23 6)] [a0,a15,(f23 6)]/\J47 [] h92) (
 aI [a0,a15,(f23 6)] [a0,a15,(f23 6)]/\J47 [] h54)) (
 aI [a0] [a0]/\J16 [] h24)
def lj (a0:D) (a1:D) (h0:Heap) (K:HKq):Prop :=
 ai PP bc [a0] h0 fun a3 h4 =>
 aa PP (.fadd (.c a0) 0) h4 fun a5 h6 =>
 aa PP (.fadd (.c a5) 2) h6 fun a7 h8 =>
 aa PP (.fadd (.c a7) 7) h8 fun a9 h10 =>
 aa PP (.ld (.c a9) 1 false) h10 fun a11 h12 =>
 aR a11 h12 fun a13 =>
 vbin .sub a13 (.int .i64 1) fun a14 =>
 vbin .add a14 a1 fun a15 =>
 ∃(J16:HJq),(∀(f17:Nat->D) (h18:Heap),J16 [] h18 ->
 ai PP cE [a0] h18 fun a19 h20 =>
 K (.tup []) h20) /\
 jc a14 h12 a15 a0 J16
theorem pN (a0:D) (a1:D) (h0:Heap) (K:HKq):lj a0 a1 h0 K=ga ly K [a0,a1] h0:=by kernel_rfl
def qw:TLq
 | 1000008=>some ([],[0,2,3,4])|1000016=>some ([],[0,4,119])|_=>none
def sH:TTq
 | 9=>some ([0,1,3,7,15,0,0,64,192,0,512,0,2048,7680,16320,32767,65535,131071],[17],[])|15=>some ([0,1,3,7,15,0,32,0,128,0,0,1024,3584,8064,16383,32767,65535],[8,16],[999999])|_=>none
noncomputable abbrev nw:=cFn PP true dK qw (cDr PP 136 sH)
noncomputable def nI:aQ:=⟨136,aV nw,[]⟩
theorem ss:nw=some nI:=by kernel_rfl
def na (a0:D) (h0:Heap) (K:HKq):Prop :=
 aa PP (.fadd (.c a0) 0) h0 fun a2 h3 =>
 aa PP (.fadd (.c a2) 2) h3 fun a4 h5 =>
 aa PP (.fadd (.c a4) 6) h5 fun a6 h7 =>
 aa PP (.ld (.c a6) 1 false) h7 fun a8 h9 =>
 aR a8 h9 fun a10 =>
 vbin .mul (.int .i64 2) a10 fun a11 =>
 vbin .add (.int .i64 6) a11 fun a12 =>
 ai PP au [a0] h9 fun a13 h14 =>
 vbin .rem a13 (.int .i64 3) fun a15 =>
 vbin .add (.int .i64 1) a15 fun a16 =>
 vbin .add a12 (.int .i64 2) fun a17 =>
 aa PP (.fadd (.c a0) 0) h14 fun a18 h19 =>
 aa PP (.fadd (.c a18) 2) h19 fun a20 h21 =>
 aa PP (.fadd (.c a20) 2) h21 fun a22 h23 =>
 aa PP (.st (.c a22) (.c a17) 1) h23 fun a24 h25 =>
 aa PP (.fadd (.c a0) 0) h25 fun a26 h27 =>
 aa PP (.fadd (.c a26) 2) h27 fun a28 h29 =>
 aa PP (.fadd (.c a28) 7) h29 fun a30 h31 =>
 aa PP (.ld (.c a30) 1 false) h31 fun a32 h33 =>
 aR a32 h33 fun a34 =>
 ai PP bt [a12] h33 fun a35 h36 =>
 ai PP cK [(.int .i32 0)] h36 fun a37 h38 =>
 aa PP (.bld [zI,zI,zI,zI,zI,zJ,zI,zI,zJ,zI,zI,zJ,zI,zI,zJ] [(0,1,(.c (.int .i64 1))),(3,3,(.c a35)),(6,3,(.c a37))]) h38 fun a39 h40 =>
 ai PP aL [a0,a39] h40 fun a41 h42 =>
 aa PP (.fadd (.c a0) 0) h42 fun a43 h44 =>
 aa PP (.fadd (.c a43) 2) h44 fun a45 h46 =>
 aa PP (.fadd (.c a45) 7) h46 fun a47 h48 =>
 aa PP (.ld (.c a47) 1 false) h48 fun a49 h50 =>
 vbin .sub a34 (.int .i64 1) fun a51 =>
 aa PP (.bld [zI,zI] [(0,1,(.c a34)),(1,1,(.c (.int .i64 0)))]) h50 fun a52 h53 =>
 aa PP (.bld [zI,zI,zI,zI,zJ,zI,zI,zJ,zI,zI,zJ,zI,zI] [(0,1,(.c (.int .i64 1))),(11,2,(.c a52))]) h53 fun a54 h55 =>
 aa PP (.iadd (.c a49) (.c a51) 14) h55 fun a56 h57 =>
 aa PP (.fadd (.c a56) 1) h57 fun a58 h59 =>
 aa PP (.st (.c a58) (.c a54) 13) h59 fun a60 h61 =>
 ∃(J62:HJq),(∀(f63:Nat->D) (h64:Heap),J62 [f63 0,f63 2,f63 3,f63 4] h64 ->
 ai PP bc [(f63 0)] h64 fun a65 h66 =>
 vbin .add (f63 2) (.int .i64 1) fun a67 =>
 ai PP bt [a67] h66 fun a68 h69 =>
 ai PP bt [(f63 2)] h69 fun a70 h71 =>
 aa PP (.conv .i32 (.c (f63 3))) h71 fun a72 h73 =>
 ai PP cK [a72] h73 fun a74 h75 =>
 aa PP (.bld [zI,zI,zI,zI,zI,zJ,zI,zI,zJ,zI,zI,zJ,zI,zI,zJ] [(0,1,(.c (.int .i64 3))),(1,1,(.c (.int .i64 26))),(3,3,(.c a68)),(6,3,(.c a70)),(9,3,(.c a74))]) h75 fun a76 h77 =>
 ai PP aL [(f63 0),a76] h77 fun a78 h79 =>
 ae PP (.fadd (.c (f63 0)) 0) h79 fun a80 =>
 ae PP (.fadd (.c a80) 2) h79 fun a81 =>
 ae PP (.fadd (.c a81) 7) h79 fun a82 =>
 ae PP (.ld (.c a82) 1 false) h79 fun a83 =>
 vbin .add (f63 2) (.int .i64 1) fun a84 =>
 ae PP (.call bt [(.c a84)]) h79 fun a85 =>
 vbin .add (f63 4) (.int .i64 1) fun a86 =>
 vbin .add (f63 4) (.int .i64 2) fun a87 =>
 ae PP (.bld [zI,zI] [(0,1,(.c a86)),(1,1,(.c a87))]) h79 fun a88 =>
 ae PP (.bld [zI,zI,zI,zI,zJ,zI,zI,zJ,zI,zI,zJ,zI,zI] [(0,1,(.c (.int .i64 2))),(5,3,(.c a85)),(11,2,(.c a88))]) h79 fun a89 =>
 ae PP (.iadd (.c a83) (.c (f63 4)) 14) h79 fun a90 =>
 ae PP (.fadd (.c a90) 1) h79 fun a91 =>
 aa PP (.st (.c a91) (.c a89) 13) h79 fun a92 h93 =>
 ai PP bc [(f63 0)] h93 fun a94 h95 =>
 ai PP bt [(f63 2)] h95 fun a96 h97 =>
 ai PP bt [(f63 2)] h97 fun a98 h99 =>
 ai PP cK [(.int .i32 1)] h99 fun a100 h101 =>
 aa PP (.bld [zI,zI,zI,zI,zI,zJ,zI,zI,zJ,zI,zI,zJ,zI,zI,zJ] [(0,1,(.c (.int .i64 3))),(1,1,(.c (.int .i64 10))),(3,3,(.c a96)),(6,3,(.c a98)),(9,3,(.c a100))]) h101 fun a102 h103 =>
 ai PP aL [(f63 0),a102] h103 fun a104 h105 =>
 ai PP cE [(f63 0)] h105 fun a106 h107 =>
 aa PP (.fadd (.c (f63 0)) 0) h107 fun a108 h109 =>
 aa PP (.fadd (.c a108) 2) h109 fun a110 h111 =>
 aa PP (.fadd (.c a110) 7) h111 fun a112 h113 =>
 aa PP (.ld (.c a112) 1 false) h113 fun a114 h115 =>
 vbin .add (f63 4) (.int .i64 1) fun a116 =>
 aa PP (.bld [zI,zI] [(0,1,(.c (f63 4))),(1,1,(.c (.int .i64 0)))]) h115 fun a117 h118 =>
 aa PP (.bld [zI,zI,zI,zI,zJ,zI,zI,zJ,zI,zI,zJ,zI,zI] [(0,1,(.c (.int .i64 1))),(11,2,(.c a117))]) h118 fun a119 h120 =>
 aa PP (.iadd (.c a114) (.c a116) 14) h120 fun a121 h122 =>
 aa PP (.fadd (.c a121) 1) h122 fun a123 h124 =>
 aa PP (.st (.c a123) (.c a119) 13) h124 fun a125 h126 =>
 ∃(J127:HJq),(∀(f128:Nat->D) (h129:Heap),J127 [f128 0,f128 4,f128 119] h129 ->
 vcond (f128 119) (ae PP (.fadd (.c (f128 0)) 0) h129 fun a130 =>
 ae PP (.fadd (.c a130) 2) h129 fun a131 =>
 ae PP (.fadd (.c a131) 7) h129 fun a132 =>
 ae PP (.ld (.c a132) 1 false) h129 fun a133 =>
 vbin .add (f128 4) (.int .i64 1) fun a134 =>
 vbin .add (f128 4) (.int .i64 2) fun a135 =>
 ae PP (.bld [zI,zI] [(0,1,(.c (f128 4))),(1,1,(.c a135))]) h129 fun a136 =>
 ai PP aU [(f128 0)] h129 fun a137 h138 =>
 ((ae PP (.fadd (.c (f128 0)) 0) h138 fun a139=>aI [a139] [a130])/\(ae PP (.fadd (.c a130) 2) h138 fun a140=>aI [a140] [a131])/\(ae PP (.fadd (.c a131) 7) h138 fun a141=>aI [a141] [a132])/\(ae PP (.ld (.c a132) 1 false) h138 fun a142=>aI [a142] [a133])/\True) /\
 ae PP (.bld [zI,zI,zI,zI,zJ,zI,zI,zJ,zI,zI,zJ,zI,zI] [(0,1,(.c (.int .i64 2))),(5,3,(.c a137)),(11,2,(.c a136))]) h138 fun a143 =>
 ae PP (.iadd (.c a133) (.c a134) 14) h138 fun a144 =>
 ae PP (.fadd (.c a144) 1) h138 fun a145 =>
 aa PP (.st (.c a145) (.c a143) 13) h138 fun a146 h147 =>
 K (.tup []) h147) (
 K (.tup []) h129)) /\
 ai PP au [(f63 0)] h126 fun a148 h149 =>
 vbin .rem a148 (.int .i64 3) fun a150 =>
 vbin .eql a150 (.int .i64 0) fun a151 =>
 aI [] []/\J127 [(f63 0),(f63 4),a151] h149) /\
 aa PP (.fadd (.c a0) 0) h61 fun a152 h153 =>
 aa PP (.fadd (.c a152) 2) h153 fun a154 h155 =>
 aa PP (.fadd (.c a154) 6) h155 fun a156 h157 =>
 aa PP (.ld (.c a156) 1 false) h157 fun a158 h159 =>
 aa PP (.bld [zI,zI,zI] [(0,1,(.c a34)),(1,1,(.c a12)),(2,1,(.c a16))]) h159 fun a160 h161 =>
 aa PP (.bldS true 3 1 (.agg [zI,zI,zI]) [(0,(.c a160))]) h161 fun a162 h163 =>
 aa PP (.app (.c a158) (.c a162) 3 24 (.agg [zI,zI,zI])) h163 fun a164 h165 =>
 aa PP (.fadd (.c a0) 0) h165 fun a166 h167 =>
 aa PP (.fadd (.c a166) 2) h167 fun a168 h169 =>
 aa PP (.fadd (.c a168) 6) h169 fun a170 h171 =>
 aa PP (.st (.c a170) (.c a164) 1) h171 fun a172 h173 =>
 aI [] []/\J62 [a0,a12,a16,a34] h173
theorem sj (a0:D) (h0:Heap) (K:HKq):na a0 h0 K=ga nI K [a0] h0:=by kernel_rfl
def pw:TLq
 | _=>none
def rR:TTq
 | _=>none
noncomputable abbrev l7:=cFn PP true bc pw (cDr PP 14 rR)
noncomputable def me:aQ:=⟨14,aV l7,[]⟩
theorem qT:l7=some me:=by kernel_rfl
def lX (a0:D) (h0:Heap) (K:HKq):Prop :=
 aa PP (.fadd (.c a0) 0) h0 fun a2 h3 =>
 aa PP (.fadd (.c a2) 2) h3 fun a4 h5 =>
 aa PP (.fadd (.c a4) 7) h5 fun a6 h7 =>
 aa PP (.ld (.c a6) 1 false) h7 fun a8 h9 =>
 aa PP (.bld [.nil,zI,zI,zI,zI,zJ,zI,zI,zJ,zI,zI,zJ,zI,zI] []) h9 fun a10 h11 =>
 aa PP (.bldS true 14 1 (.agg [.nil,zI,zI,zI,zI,zJ,zI,zI,zJ,zI,zI,zJ,zI,zI]) [(0,(.c a10))]) h11 fun a12 h13 =>
 aa PP (.app (.c a8) (.c a12) 14 128 (.agg [.nil,zI,zI,zI,zI,zJ,zI,zI,zJ,zI,zI,zJ,zI,zI])) h13 fun a14 h15 =>
 aa PP (.fadd (.c a0) 0) h15 fun a16 h17 =>
 aa PP (.fadd (.c a16) 2) h17 fun a18 h19 =>
 aa PP (.fadd (.c a18) 7) h19 fun a20 h21 =>
 aa PP (.st (.c a20) (.c a14) 1) h21 fun a22 h23 =>
 K (.tup []) h23
theorem qQ (a0:D) (h0:Heap) (K:HKq):lX a0 h0 K=ga me K [a0] h0:=by kernel_rfl
def rW:TLq
 | _=>none
def uD:TTq
 | _=>none
noncomputable abbrev oy:=cFn PP true aU rW (cDr PP 7 uD)
noncomputable def oJ:aQ:=⟨7,aV oy,[.cell 2 3 true]⟩
theorem lz:oy=some oJ:=by kernel_rfl
def jR (a0:D) (h0:Heap) (K:HKq):Prop :=
 aa PP (.alloc (.agg [zI,zI,zJ])) h0 fun a2 h3 =>
 ai PP au [a0] h3 fun a4 h5 =>
 vbin .rem a4 (.int .i64 6) fun a6 =>
 ai PP bt [a6] h5 fun a7 h8 =>
 aa PP (.st (.c a2) (.c a7) 3) h8 fun a9 h10 =>
 aa PP (.ld (.c a2) 3 true) h10 fun a11 _ =>
 K a11 h10
theorem lk (a0:D) (h0:Heap) (K:HKq):jR a0 h0 K=ga oJ K [a0] h0:=by kernel_rfl
def rV:TLq
 | _=>none
def uC:TTq
 | _=>none
noncomputable abbrev ox:=cFn PP true aS rV (cDr PP 18 uC)
noncomputable def oH:aQ:=⟨18,aV ox,[.cell 2 3 true]⟩
theorem lx:ox=some oH:=by kernel_rfl
def jQ (a0:D) (h0:Heap) (K:HKq):Prop :=
 aa PP (.alloc (.agg [zI,zI,zJ])) h0 fun a2 h3 =>
 ai PP au [a0] h3 fun a4 h5 =>
 vbin .rem a4 (.int .i64 3) fun a6 =>
 vbin .eql a6 (.int .i64 0) fun a7 =>
 vcond a7 (vbin .quo a4 (.int .i64 3) fun a8 =>
 aa PP (.conv .i32 (.c a8)) h5 fun a9 h10 =>
 vbin .sub a9 (.int .i32 20) fun a11 =>
 ai PP cK [a11] h10 fun a12 h13 =>
 aa PP (.st (.c a2) (.c a12) 3) h13 fun a14 h15 =>
 aa PP (.ld (.c a2) 3 true) h15 fun a16 _ =>
 K a16 h15) (
 vbin .quo a4 (.int .i64 3) fun a17 =>
 vbin .rem a17 (.int .i64 6) fun a18 =>
 ai PP bt [a18] h5 fun a19 h20 =>
 aa PP (.st (.c a2) (.c a19) 3) h20 fun a21 h22 =>
 aa PP (.ld (.c a2) 3 true) h22 fun a23 _ =>
 K a23 h22)
theorem lh (a0:D) (h0:Heap) (K:HKq):jQ a0 h0 K=ga oH K [a0] h0:=by kernel_rfl
def pv:TLq
 | 1=>some ([0],[2])|_=>none
def rQ:TTq
 | _=>none
noncomputable abbrev l6:=cFn PP true cE pv (cDr PP 12 rQ)
noncomputable def mc:aQ:=⟨12,aV l6,[]⟩
theorem qS:l6=some mc:=by kernel_rfl
def jS (a4:D) (h3:Heap) (a0:D) (K:HKq):Prop :=
 ∃(I5:Nat->HJq) (n₀:Nat),I5 n₀ [a4] h3/\∀(n6:Nat) (f7:Nat->D) (h8:Heap),I5 n6 [f7 2] h8 ->
 vbin .gtr (f7 2) (.int .i64 0) fun a9 =>
 vcond a9 (ai PP iH [a0] h8 fun a10 h11 =>
 vbin .sub (f7 2) (.int .i64 1) fun a12 =>
 aI [a0] [a0]/\∃m,m<n6/\I5 m [a12] h11) (
 K (.tup []) h8)
def lW (a0:D) (h0:Heap) (K:HKq):Prop :=
 ai PP au [a0] h0 fun a2 h3 =>
 vbin .rem a2 (.int .i64 5) fun a4 =>
 jS a4 h3 a0 K
theorem qP (a0:D) (h0:Heap) (K:HKq):lW a0 h0 K=ga mc K [a0] h0:=by kernel_rfl
def ym:TLq
 | 1000015=>some ([3],[])|4=>some ([1,3],[4])|1000006=>some ([1,3,4],[])|7=>some ([1,3,4],[5])|1000009=>some ([1,3,4,5],[])|11=>some ([1,3,4,5,6],[7])|_=>none
def BD:TTq
 | _=>none
noncomputable abbrev vX:=cFn PP true kN ym (cDr PP 54 BD)
noncomputable def wx:aQ:=⟨54,aV vX,[.t 2]⟩
theorem AN:vX=some wx:=by kernel_rfl
def pQ (h57:Heap) (a56:D) (a9:D) (f34:Nat->D) (a2:D) (f20:Nat->D) (J42:HJq):Prop :=
 ∃(I58:Nat->HJq) (n₀:Nat),I58 n₀ [(.int .i64 0)] h57/\∀(n59:Nat) (f60:Nat->D) (h61:Heap),I58 n59 [f60 7] h61 ->
 aR a56 h61 fun a62 =>
 vbin .lss (f60 7) a62 fun a63 =>
 vguard a63 true (fun G64 =>
 G64 a9 h61) h61 fun a65 h66 =>
 vguard a63 true (fun G67 =>
 G67 (f34 5) h66) h66 fun a68 h69 =>
 vguard a63 true (fun G70 =>
 aa PP (.iadd (.c a65) (.c a68) 1) h69 fun a73 h74 =>
 G70 a73 h74) h69 fun a71 h72 =>
 vguard a63 true (fun G75 =>
 aa PP (.ld (.c a71) 1 false) h72 fun a78 h79 =>
 G75 a78 h79) h72 fun a76 h77 =>
 aa PP (.pick (.c a63) (.c a76) (.c (.bool false))) h77 fun a80 h81 =>
 vcond a80 (aa PP (.iadd (.c a56) (.c (f60 7)) 1) h81 fun a82 h83 =>
 aa PP (.ld (.c a82) 1 false) h83 fun a84 h85 =>
 aa PP (.iadd (.c a9) (.c a84) 1) h85 fun a86 h87 =>
 aa PP (.st (.c a86) (.c (.bool true)) 1) h87 fun a88 h89 =>
 vbin .add (f60 7) (.int .i64 1) fun a90 =>
 aI [a2,a9,(f20 4),(f34 5),a56] [a2,a9,(f20 4),(f34 5),a56]/\∃m,m<n59/\I58 m [a90] h89) (
 aI [a2,a9,(f20 4),(f34 5)] [a2,a9,(f20 4),(f34 5)]/\J42 [] h81)
def pP (h25:Heap) (a2:D) (a9:D) (f20:Nat->D) (J28:HJq):Prop :=
 ∃(I32:Nat->HJq) (n₀:Nat),I32 n₀ [(.int .i64 0)] h25/\∀(n33:Nat) (f34:Nat->D) (h35:Heap),I32 n33 [f34 5] h35 ->
 aa PP (.fadd (.c a2) 7) h35 fun a36 h37 =>
 aa PP (.ld (.c a36) 1 false) h37 fun a38 h39 =>
 aR a38 h39 fun a40 =>
 vbin .lss (f34 5) a40 fun a41 =>
 vcond a41 (∃(J42:HJq),(∀(f43:Nat->D) (h44:Heap),J42 [] h44 ->
 vbin .add (f34 5) (.int .i64 1) fun a45 =>
 aI [a2,a9,(f20 4)] [a2,a9,(f20 4)]/\∃m,m<n33/\I32 m [a45] h44) /\
 aa PP (.fadd (.c a2) 7) h39 fun a46 h47 =>
 aa PP (.ld (.c a46) 1 false) h47 fun a48 h49 =>
 aa PP (.iadd (.c a48) (.c (f34 5)) 14) h49 fun a50 h51 =>
 aa PP (.fadd (.c a50) 1) h51 fun a52 h53 =>
 aa PP (.ld (.c a52) 13 true) h53 fun a54 h55 =>
 ai PP ql [a54] h55 fun a56 h57 =>
 pQ h57 a56 a9 f34 a2 f20 J42) (
 aI [a2,a9,(f20 4)] [a2,a9,(f20 4)]/\J28 [] h39)
def pO (h14:Heap) (a2:D) (a9:D) (J15:HJq):Prop :=
 ∃(I18:Nat->HJq) (n₀:Nat),I18 n₀ [(.int .i64 0)] h14/\∀(n19:Nat) (f20:Nat->D) (h21:Heap),I18 n19 [f20 4] h21 ->
 aa PP (.fadd (.c a2) 7) h21 fun a22 h23 =>
 aa PP (.ld (.c a22) 1 false) h23 fun a24 h25 =>
 aR a24 h25 fun a26 =>
 vbin .lss (f20 4) a26 fun a27 =>
 vcond a27 (∃(J28:HJq),(∀(f29:Nat->D) (h30:Heap),J28 [] h30 ->
 vbin .add (f20 4) (.int .i64 1) fun a31 =>
 aI [a2,a9] [a2,a9]/\∃m,m<n19/\I18 m [a31] h30) /\
 pP h25 a2 a9 f20 J28) (
 aI [a9] [a9]/\J15 [] h25)
def vJ (a0:D) (h0:Heap) (K:HKq):Prop :=
 aa PP (.box (.c a0)) h0 fun a2 h3 =>
 aa PP (.fadd (.c a2) 7) h3 fun a4 h5 =>
 aa PP (.ld (.c a4) 1 false) h5 fun a6 h7 =>
 aR a6 h7 fun a8 =>
 aa PP (.mk 1 1 (.bool false) (.c a8) (.c a8)) h7 fun a9 h10 =>
 aa PP (.iadd (.c a9) (.c (.int .i64 0)) 1) h10 fun a11 h12 =>
 aa PP (.st (.c a11) (.c (.bool true)) 1) h12 fun a13 h14 =>
 ∃(J15:HJq),(∀(f16:Nat->D) (h17:Heap),J15 [] h17 ->
 K a9 h17) /\
 pO h14 a2 a9 J15
theorem AD (a0:D) (h0:Heap) (K:HKq):vJ a0 h0 K=ga wx K [a0] h0:=by kernel_rfl
def uN:TLq
 | 1000014=>some ([5],[])|4=>some ([1,3,4,5],[6])|1000006=>some ([1,3,4,5,6],[])|7=>some ([1,3,4,5,6],[7])|1000009=>some ([1,3,4,5,6,7],[])|_=>none
def xT:TTq
 | 1=>some ([0,1,3,0,15,31,63],[1,2,4],[999999])|_=>none
noncomputable abbrev rD:=cFn PP true iE uN (cDr PP 92 xT)
noncomputable def rK:aQ:=⟨92,aV rD,[.t 2]⟩
theorem xB:rD=some rK:=by kernel_rfl
def iL (h31:Heap) (a2:D) (a9:D) (a12:D) (a19:D) (f26:Nat->D) (J34:HJq):Prop :=
 ∃(I38:Nat->HJq) (n₀:Nat),I38 n₀ [(.int .i64 0)] h31/\∀(n39:Nat) (f40:Nat->D) (h41:Heap),I38 n39 [f40 7] h41 ->
 aa PP (.fadd (.c a2) 7) h41 fun a42 h43 =>
 aa PP (.ld (.c a42) 1 false) h43 fun a44 h45 =>
 aR a44 h45 fun a46 =>
 vbin .lss (f40 7) a46 fun a47 =>
 vcond a47 (∃(J48:HJq),(∀(f49:Nat->D) (h50:Heap),J48 [] h50 ->
 vbin .add (f40 7) (.int .i64 1) fun a51 =>
 aI [a2,a9,a12,a19,(f26 6)] [a2,a9,a12,a19,(f26 6)]/\∃m,m<n39/\I38 m [a51] h50) /\
 aa PP (.fadd (.c a2) 7) h45 fun a52 h53 =>
 aa PP (.ld (.c a52) 1 false) h53 fun a54 h55 =>
 aa PP (.iadd (.c a54) (.c (f40 7)) 14) h55 fun a56 h57 =>
 aa PP (.fadd (.c a56) 1) h57 fun a58 h59 =>
 aa PP (.ld (.c a58) 13 true) h59 fun a60 h61 =>
 ai PP jt [a60] h61 fun a62 h63 =>
 aa PP (.iadd (.c a9) (.c (f40 7)) 1) h63 fun a64 h65 =>
 aa PP (.ld (.c a64) 1 false) h65 fun a66 h67 =>
 vun .not a66 fun a68 =>
 vguard a68 false (fun G69 =>
 G69 a9 h67) h67 fun a70 h71 =>
 vguard a68 false (fun G72 =>
 G72 (f26 6) h71) h71 fun a73 h74 =>
 vguard a68 false (fun G75 =>
 aa PP (.iadd (.c a70) (.c a73) 1) h74 fun a78 h79 =>
 G75 a78 h79) h74 fun a76 h77 =>
 vguard a68 false (fun G80 =>
 aa PP (.ld (.c a76) 1 false) h77 fun a83 h84 =>
 G80 a83 h84) h77 fun a81 h82 =>
 vguard a68 false (fun G85 =>
 vun .not a81 fun a88 =>
 G85 a88 h82) h82 fun a86 h87 =>
 aa PP (.pick (.c a68) (.c (.bool true)) (.c a86)) h87 fun a89 h90 =>
 vguard a89 false (fun G91 =>
 G91 a62 h90) h90 fun a92 h93 =>
 vguard a89 false (fun G94 =>
 aR a92 h93 fun a97 =>
 G94 a97 h93) h93 fun a95 h96 =>
 vguard a89 false (fun G98 =>
 vbin .neq a95 (.int .i64 2) fun a101 =>
 G98 a101 h96) h96 fun a99 h100 =>
 aa PP (.pick (.c a89) (.c (.bool true)) (.c a99)) h100 fun a102 h103 =>
 vguard a102 false (fun G104 =>
 G104 (f40 7) h103) h103 fun a105 h106 =>
 vguard a102 false (fun G107 =>
 G107 (f26 6) h106) h106 fun a108 h109 =>
 vguard a102 false (fun G110 =>
 vbin .neq a105 a108 fun a113 =>
 G110 a113 h109) h109 fun a111 h112 =>
 vguard a102 false (fun G114 =>
 G114 a111 h112) h112 fun a115 h116 =>
 vguard a115 true (fun G117 =>
 G117 a12 h116) h116 fun a118 h119 =>
 vguard a115 true (fun G120 =>
 G120 (f40 7) h119) h119 fun a121 h122 =>
 vguard a115 true (fun G123 =>
 G123 (f26 6) h122) h122 fun a124 h125 =>
 vguard a115 true (fun G126 =>
 ai PP dA [a118,a121,a124] h125 fun a129 h130 =>
 G126 a129 h130) h125 fun a127 h128 =>
 vguard a102 false (fun G131 =>
 aa PP (.pick (.c a115) (.c a127) (.c (.bool false))) h128 fun a134 h135 =>
 G131 a134 h135) h128 fun a132 h133 =>
 aa PP (.pick (.c a102) (.c (.bool true)) (.c a132)) h133 fun a136 h137 =>
 vcond a136 (aI [a2,a9,a12,a19,(f26 6),(f40 7)] [a2,a9,a12,a19,(f26 6),(f40 7)]/\J48 [] h137) (
 aa PP (.iadd (.c a62) (.c (.int .i64 0)) 1) h137 fun a138 h139 =>
 aa PP (.ld (.c a138) 1 false) h139 fun a140 h141 =>
 ai PP dA [a12,a140,(f26 6)] h141 fun a142 h143 =>
 vguard a142 false (fun G144 =>
 G144 a12 h143) h143 fun a145 h146 =>
 vguard a142 false (fun G147 =>
 G147 a62 h146) h146 fun a148 h149 =>
 vguard a142 false (fun G150 =>
 aa PP (.iadd (.c a148) (.c (.int .i64 1)) 1) h149 fun a153 h154 =>
 G150 a153 h154) h149 fun a151 h152 =>
 vguard a142 false (fun G155 =>
 aa PP (.ld (.c a151) 1 false) h152 fun a158 h159 =>
 G155 a158 h159) h152 fun a156 h157 =>
 vguard a142 false (fun G160 =>
 G160 (f26 6) h157) h157 fun a161 h162 =>
 vguard a142 false (fun G163 =>
 ai PP dA [a145,a156,a161] h162 fun a166 h167 =>
 G163 a166 h167) h162 fun a164 h165 =>
 aa PP (.pick (.c a142) (.c (.bool true)) (.c a164)) h165 fun a168 h169 =>
 vcond a168 (aa PP (.iadd (.c a19) (.c (f26 6)) 1) h169 fun a170 h171 =>
 aa PP (.ld (.c a170) 1 false) h171 fun a172 h173 =>
 aa PP (.bldS true 1 1 (.int .i64 0) [(0,(.c (f40 7)))]) h173 fun a174 h175 =>
 aa PP (.app (.c a172) (.c a174) 1 8 (.int .i64 0)) h175 fun a176 h177 =>
 aa PP (.iadd (.c a19) (.c (f26 6)) 1) h177 fun a178 h179 =>
 aa PP (.st (.c a178) (.c a176) 1) h179 fun a180 h181 =>
 aI [a2,a9,a12,a19,(f26 6),(f40 7)] [a2,a9,a12,a19,(f26 6),(f40 7)]/\J48 [] h181) (
 aI [a2,a9,a12,a19,(f26 6),(f40 7)] [a2,a9,a12,a19,(f26 6),(f40 7)]/\J48 [] h169))) (
 aI [a2,a9,a12,a19,(f26 6)] [a2,a9,a12,a19,(f26 6)]/\J34 [] h45)
def m8 (h20:Heap) (a2:D) (a9:D) (a12:D) (a19:D) (J21:HJq):Prop :=
 ∃(I24:Nat->HJq) (n₀:Nat),I24 n₀ [(.int .i64 0)] h20/\∀(n25:Nat) (f26:Nat->D) (h27:Heap),I24 n25 [f26 6] h27 ->
 aa PP (.fadd (.c a2) 7) h27 fun a28 h29 =>
 aa PP (.ld (.c a28) 1 false) h29 fun a30 h31 =>
 aR a30 h31 fun a32 =>
 vbin .lss (f26 6) a32 fun a33 =>
 vcond a33 (∃(J34:HJq),(∀(f35:Nat->D) (h36:Heap),J34 [] h36 ->
 vbin .add (f26 6) (.int .i64 1) fun a37 =>
 aI [a2,a9,a12,a19] [a2,a9,a12,a19]/\∃m,m<n25/\I24 m [a37] h36) /\
 iL h31 a2 a9 a12 a19 f26 J34) (
 aI [a19] [a19]/\J21 [] h31)
def rb (a0:D) (h0:Heap) (K:HKq):Prop :=
 aa PP (.box (.c a0)) h0 fun a2 h3 =>
 ae PP (.ld (.c a2) 8 true) h3 fun a4 =>
 ae PP (.ld (.c a2) 8 true) h3 fun a5 =>
 ai PP kM [a4] h3 fun a6 h7 =>
 ((ae PP (.ld (.c a2) 8 true) h7 fun a8=>aI [a8] [a5])/\True) /\
 ai PP ju [a6,(.int .i64 0),(.int .i64 (-1))] h7 fun a9 h10 =>
 ((ae PP (.ld (.c a2) 8 true) h10 fun a11=>aI [a11] [a5])/\True) /\
 ai PP oS [a5] h10 fun a12 h13 =>
 aa PP (.fadd (.c a2) 7) h13 fun a14 h15 =>
 aa PP (.ld (.c a14) 1 false) h15 fun a16 h17 =>
 aR a16 h17 fun a18 =>
 aa PP (.mk 1 24 .nil (.c a18) (.c a18)) h17 fun a19 h20 =>
 ∃(J21:HJq),(∀(f22:Nat->D) (h23:Heap),J21 [] h23 ->
 K a19 h23) /\
 m8 h20 a2 a9 a12 a19 J21
theorem xt (a0:D) (h0:Heap) (K:HKq):rb a0 h0 K=ga rK K [a0] h0:=by kernel_rfl
end Go.Am
namespace Go.Am
open Go Go.Proofs
def yg:TLq
 | 1000010=>some ([],[])|4=>some ([2,4,5,8],[11])|_=>none
def Bx:TTq
 | 7=>some ([0,1,0,7,15,31,63,127,127,383,127,1919,3967,8063,16255,32767,65535,131071],[],[])|_=>none
noncomputable abbrev vP:=cFn PP true kK yg (cDr PP 52 Bx)
noncomputable def wg:aQ:=⟨52,aV vP,[.t 10]⟩
theorem AH:vP=some wg:=by kernel_rfl
def pK (h13:Heap) (a2:D) (a4:D) (a8:D) (a6:D) (J15:HJq) (K:HKq):Prop :=
 ∃(I18:Nat->HJq) (n₀:Nat),I18 n₀ [(.int .i64 0)] h13/\∀(n19:Nat) (f20:Nat->D) (h21:Heap),I18 n19 [f20 11] h21 ->
 aa PP (.iadd (.c a2) (.c a4) 1) h21 fun a22 h23 =>
 aa PP (.ld (.c a22) 1 false) h23 fun a24 h25 =>
 aR a24 h25 fun a26 =>
 vbin .lss (f20 11) a26 fun a27 =>
 vcond a27 (aa PP (.iadd (.c a2) (.c a4) 1) h25 fun a28 h29 =>
 aa PP (.ld (.c a28) 1 false) h29 fun a30 h31 =>
 aa PP (.iadd (.c a30) (.c (f20 11)) 1) h31 fun a32 h33 =>
 aa PP (.ld (.c a32) 1 false) h33 fun a34 h35 =>
 ae PP (.fadd (.c a8) 0) h35 fun a36 =>
 ae PP (.ld (.c a36) 1 false) h35 fun a37 =>
 ae PP (.iadd (.c a37) (.c a34) 1) h35 fun a38 =>
 ae PP (.ld (.c a38) 1 false) h35 fun a39 =>
 vun .not a39 fun a40 =>
 aF a40 false (fun G41 =>
 ae PP (.ld (.c a8) 2 true) h35 fun a90 =>
 G41 a90) fun a42 =>
 aF a40 false (fun G45 =>
 ae PP (.fadd (.c a6) 7) h35 fun a89 =>
 G45 a89) fun a46 =>
 aF a40 false (fun G49 =>
 ae PP (.ld (.c a46) 1 false) h35 fun a88 =>
 G49 a88) fun a50 =>
 aF a40 false (fun G53 =>
 G53 a34) fun a54 =>
 aF a40 false (fun G56 =>
 ae PP (.iadd (.c a50) (.c a54) 14) h35 fun a87 =>
 G56 a87) fun a57 =>
 aF a40 false (fun G60 =>
 ae PP (.fadd (.c a57) 1) h35 fun a86 =>
 G60 a86) fun a61 =>
 aF a40 false (fun G64 =>
 ae PP (.fadd (.c a61) 5) h35 fun a85 =>
 G64 a85) fun a65 =>
 aF a40 false (fun G68 =>
 ae PP (.ld (.c a65) 3 true) h35 fun a84 =>
 G68 a84) fun a69 =>
 aF a40 false (fun G72 =>
 ae PP (.call cw [(.c a42),(.c a69)]) h35 fun a83 =>
 G72 a83) fun a73 =>
 aF a40 false (fun G76 =>
 vun .not a73 fun a82 =>
 G76 a82) fun a77 =>
 ae PP (.pick (.c a40) (.c (.bool true)) (.c a77)) h35 fun a80 =>
 vcond a80 (K (.bool false) h35) (
 vbin .add (f20 11) (.int .i64 1) fun a81 =>
 aI [a2,a4,a6,a8] [a2,a4,a6,a8]/\∃m,m<n19/\I18 m [a81] h35)) (
 aI [] []/\J15 [] h25)
def vw (a0:D) (a1:D) (a2:D) (a3:D) (a4:D) (h0:Heap) (K:HKq):Prop :=
 aa PP (.box (.c a0)) h0 fun a6 h7 =>
 aa PP (.box (.c a3)) h7 fun a8 h9 =>
 aa PP (.iadd (.c a1) (.c a4) 1) h9 fun a10 h11 =>
 aa PP (.ld (.c a10) 1 false) h11 fun a12 h13 =>
 vun .not a12 fun a14 =>
 vcond a14 (K (.bool false) h13) (
 ∃(J15:HJq),(∀(f16:Nat->D) (h17:Heap),J15 [] h17 ->
 K (.bool true) h17) /\
 pK h13 a2 a4 a8 a6 J15 K)
theorem Aw (a0:D) (a1:D) (a2:D) (a3:D) (a4:D) (h0:Heap) (K:HKq):vw a0 a1 a2 a3 a4 h0 K=ga wg K [a0,a1,a2,a3,a4] h0:=by kernel_rfl
def sU:TLq
 | 1000014=>some ([],[])|2=>some ([1,3,4,6],[9])|1000004=>some ([1,3,4,6,9],[])|8=>some ([1,3,4,6,9],[10])|_=>none
def wK:TTq
 | _=>none
noncomputable abbrev pV:=cFn PP true fo sU (cDr PP 91 wK)
noncomputable def pZ:aQ:=⟨91,aV pV,[.t 8]⟩
theorem u6:pV=some pZ:=by kernel_rfl
def g9 (h42:Heap) (a5:D) (f14:Nat->D) (a3:D) (a7:D) (a1:D) (J22:HJq) (K:HKq):Prop :=
 ∃(I44:Nat->HJq) (n₀:Nat),I44 n₀ [(.int .i64 0)] h42/\∀(n45:Nat) (f46:Nat->D) (h47:Heap),I44 n45 [f46 10] h47 ->
 aa PP (.fadd (.c a5) 7) h47 fun a48 h49 =>
 aa PP (.ld (.c a48) 1 false) h49 fun a50 h51 =>
 aa PP (.iadd (.c a50) (.c (f14 9)) 14) h51 fun a52 h53 =>
 aa PP (.fadd (.c a52) 0) h53 fun a54 h55 =>
 aa PP (.ld (.c a54) 1 false) h55 fun a56 h57 =>
 aR a56 h57 fun a58 =>
 vbin .lss (f46 10) a58 fun a59 =>
 vcond a59 (aa PP (.fadd (.c a5) 7) h57 fun a60 h61 =>
 aa PP (.ld (.c a60) 1 false) h61 fun a62 h63 =>
 aa PP (.iadd (.c a62) (.c (f14 9)) 14) h63 fun a64 h65 =>
 aa PP (.fadd (.c a64) 0) h65 fun a66 h67 =>
 aa PP (.ld (.c a66) 1 false) h67 fun a68 h69 =>
 aa PP (.iadd (.c a68) (.c (f46 10)) 15) h69 fun a70 h71 =>
 aa PP (.ld (.c a70) 15 true) h71 fun a72 h73 =>
 aa PP (.alloc (.agg [zI,zI,zI,zI,zI,zJ,zI,zI,zJ,zI,zI,zJ,zI,zI,zJ])) h73 fun a74 h75 =>
 aa PP (.st (.c a74) (.c a72) 15) h75 fun a76 h77 =>
 aa PP (.ld (.c a74) 15 true) h77 fun a78 h79 =>
 ai PP sQ [a78] h79 fun a80 h81 =>
 vbin .eql a80 a3 fun a82 =>
 vguard a82 true (fun G83 =>
 aa PP (.fadd (.c a7) 0) h81 fun a86 h87 =>
 G83 a86 h87) h81 fun a84 h85 =>
 vguard a82 true (fun G88 =>
 aa PP (.ld (.c a84) 1 false) h85 fun a91 h92 =>
 G88 a91 h92) h85 fun a89 h90 =>
 vguard a82 true (fun G93 =>
 G93 (f14 9) h90) h90 fun a94 h95 =>
 vguard a82 true (fun G96 =>
 aa PP (.iadd (.c a89) (.c a94) 1) h95 fun a99 h100 =>
 G96 a99 h100) h95 fun a97 h98 =>
 vguard a82 true (fun G101 =>
 aa PP (.ld (.c a97) 1 false) h98 fun a104 h105 =>
 G101 a104 h105) h98 fun a102 h103 =>
 vguard a82 true (fun G106 =>
 vun .not a102 fun a109 =>
 G106 a109 h103) h103 fun a107 h108 =>
 vguard a82 true (fun G110 =>
 G110 a107 h108) h108 fun a111 h112 =>
 vguard a111 false (fun G113 =>
 aa PP (.ld (.c a74) 15 true) h112 fun a116 h117 =>
 G113 a116 h117) h112 fun a114 h115 =>
 vguard a111 false (fun G118 =>
 ai PP mN [a114] h115 fun a121 h122 =>
 G118 a121 h122) h115 fun a119 h120 =>
 vguard a111 false (fun G123 =>
 vun .not a119 fun a126 =>
 G123 a126 h120) h120 fun a124 h125 =>
 vguard a82 true (fun G127 =>
 aa PP (.pick (.c a111) (.c (.bool true)) (.c a124)) h125 fun a130 h131 =>
 G127 a130 h131) h125 fun a128 h129 =>
 vguard a82 true (fun G132 =>
 G132 a128 h129) h129 fun a133 h134 =>
 vguard a133 false (fun G135 =>
 aa PP (.ld (.c a7) 2 true) h134 fun a138 h139 =>
 G135 a138 h139) h134 fun a136 h137 =>
 vguard a133 false (fun G140 =>
 aa PP (.fadd (.c a74) 6) h137 fun a143 h144 =>
 G140 a143 h144) h137 fun a141 h142 =>
 vguard a133 false (fun G145 =>
 aa PP (.ld (.c a141) 3 true) h142 fun a148 h149 =>
 G145 a148 h149) h142 fun a146 h147 =>
 vguard a133 false (fun G150 =>
 ai PP cw [a136,a146] h147 fun a153 h154 =>
 G150 a153 h154) h147 fun a151 h152 =>
 vguard a133 false (fun G155 =>
 vun .not a151 fun a158 =>
 G155 a158 h152) h152 fun a156 h157 =>
 vguard a82 true (fun G159 =>
 aa PP (.pick (.c a133) (.c (.bool true)) (.c a156)) h157 fun a162 h163 =>
 G159 a162 h163) h157 fun a160 h161 =>
 vguard a82 true (fun G164 =>
 G164 a160 h161) h161 fun a165 h166 =>
 vguard a165 false (fun G167 =>
 aa PP (.ld (.c a7) 2 true) h166 fun a170 h171 =>
 G167 a170 h171) h166 fun a168 h169 =>
 vguard a165 false (fun G172 =>
 aa PP (.fadd (.c a74) 9) h169 fun a175 h176 =>
 G172 a175 h176) h169 fun a173 h174 =>
 vguard a165 false (fun G177 =>
 aa PP (.ld (.c a173) 3 true) h174 fun a180 h181 =>
 G177 a180 h181) h174 fun a178 h179 =>
 vguard a165 false (fun G182 =>
 ai PP cw [a168,a178] h179 fun a185 h186 =>
 G182 a185 h186) h179 fun a183 h184 =>
 vguard a165 false (fun G187 =>
 vun .not a183 fun a190 =>
 G187 a190 h184) h184 fun a188 h189 =>
 vguard a82 true (fun G191 =>
 aa PP (.pick (.c a165) (.c (.bool true)) (.c a188)) h189 fun a194 h195 =>
 G191 a194 h195) h189 fun a192 h193 =>
 vguard a82 true (fun G196 =>
 G196 a192 h193) h193 fun a197 h198 =>
 vguard a197 false (fun G199 =>
 aa PP (.ld (.c a7) 2 true) h198 fun a202 h203 =>
 G199 a202 h203) h198 fun a200 h201 =>
 vguard a197 false (fun G204 =>
 aa PP (.fadd (.c a74) 12) h201 fun a207 h208 =>
 G204 a207 h208) h201 fun a205 h206 =>
 vguard a197 false (fun G209 =>
 aa PP (.ld (.c a205) 3 true) h206 fun a212 h213 =>
 G209 a212 h213) h206 fun a210 h211 =>
 vguard a197 false (fun G214 =>
 ai PP cw [a200,a210] h211 fun a217 h218 =>
 G214 a217 h218) h211 fun a215 h216 =>
 vguard a197 false (fun G219 =>
 vun .not a215 fun a222 =>
 G219 a222 h216) h216 fun a220 h221 =>
 vguard a82 true (fun G223 =>
 aa PP (.pick (.c a197) (.c (.bool true)) (.c a220)) h221 fun a226 h227 =>
 G223 a226 h227) h221 fun a224 h225 =>
 aa PP (.pick (.c a82) (.c a224) (.c (.bool false))) h225 fun a228 h229 =>
 vcond a228 (K (.bool false) h229) (
 vbin .add (f46 10) (.int .i64 1) fun a230 =>
 aI [a1,a3,a5,a7,(f14 9)] [a1,a3,a5,a7,(f14 9)]/\∃m,m<n45/\I44 m [a230] h229)) (
 aI [a1,a3,a5,a7,(f14 9)] [a1,a3,a5,a7,(f14 9)]/\J22 [] h57)
def lT (h8:Heap) (a5:D) (a1:D) (a3:D) (a7:D) (J9:HJq) (K:HKq):Prop :=
 ∃(I12:Nat->HJq) (n₀:Nat),I12 n₀ [(.int .i64 0)] h8/\∀(n13:Nat) (f14:Nat->D) (h15:Heap),I12 n13 [f14 9] h15 ->
 aa PP (.fadd (.c a5) 7) h15 fun a16 h17 =>
 aa PP (.ld (.c a16) 1 false) h17 fun a18 h19 =>
 aR a18 h19 fun a20 =>
 vbin .lss (f14 9) a20 fun a21 =>
 vcond a21 (∃(J22:HJq),(∀(f23:Nat->D) (h24:Heap),J22 [] h24 ->
 vbin .add (f14 9) (.int .i64 1) fun a25 =>
 aI [a1,a3,a5,a7] [a1,a3,a5,a7]/\∃m,m<n13/\I12 m [a25] h24) /\
 aa PP (.iadd (.c a1) (.c (f14 9)) 1) h19 fun a26 h27 =>
 aa PP (.ld (.c a26) 1 false) h27 fun a28 h29 =>
 vun .not a28 fun a30 =>
 vcond a30 (aI [a1,a3,a5,a7,(f14 9)] [a1,a3,a5,a7,(f14 9)]/\J22 [] h29) (
 aa PP (.fadd (.c a5) 7) h29 fun a31 h32 =>
 aa PP (.ld (.c a31) 1 false) h32 fun a33 h34 =>
 aa PP (.iadd (.c a33) (.c (f14 9)) 14) h34 fun a35 h36 =>
 aa PP (.fadd (.c a35) 1) h36 fun a37 h38 =>
 aa PP (.ld (.c a37) 13 true) h38 fun a39 h40 =>
 ai PP qn [a39] h40 fun a41 h42 =>
 vbin .eql a41 a3 fun a43 =>
 vcond a43 (K (.bool false) h42) (
 g9 h42 a5 f14 a3 a7 a1 J22 K))) (
 aI [] []/\J9 [] h19)
def pI (a0:D) (a1:D) (a2:D) (a3:D) (h0:Heap) (K:HKq):Prop :=
 aa PP (.box (.c a0)) h0 fun a5 h6 =>
 aa PP (.box (.c a2)) h6 fun a7 h8 =>
 ∃(J9:HJq),(∀(f10:Nat->D) (h11:Heap),J9 [] h11 ->
 K (.bool true) h11) /\
 lT h8 a5 a1 a3 a7 J9 K
theorem uW (a0:D) (a1:D) (a2:D) (a3:D) (h0:Heap) (K:HKq):pI a0 a1 a2 a3 h0 K=ga pZ K [a0,a1,a2,a3] h0:=by kernel_rfl
def jg:TLq
 | _=>none
def jW:TTq
 | _=>none
noncomputable abbrev fB:=cFn PP true cO jg (cDr PP 5 jW)
noncomputable def fC:aQ:=⟨5,aV fB,[.t 2]⟩
theorem jU:fB=some fC:=by kernel_rfl
def fA (a0:D) (h0:Heap) (K:HKq):Prop :=
 ai PP br [.nil,a0] h0 fun a2 h3 =>
 K a2 h3
theorem jN (a0:D) (h0:Heap) (K:HKq):fA a0 h0 K=ga fC K [a0] h0:=by kernel_rfl
def uL:TLq
 | _=>none
def xR:TTq
 | 1=>some ([0,1,0,7,0,0,63,127],[1,3,4,5,6,7],[999996,2,3])|_=>none
noncomputable abbrev rB:=cFn PP true iD uL (cDr PP 10 xR)
noncomputable def rI:aQ:=⟨10,aV rB,[.t 2]⟩
theorem xz:rB=some rI:=by kernel_rfl
def qX (a0:D) (h0:Heap) (K:HKq):Prop :=
 aa PP (.box (.c a0)) h0 fun a2 h3 =>
 ae PP (.ld (.c a2) 8 true) h3 fun a4 =>
 ae PP (.ld (.c a2) 8 true) h3 fun a5 =>
 ai PP qp [a4] h3 fun a6 h7 =>
 ((ae PP (.ld (.c a2) 8 true) h7 fun a8=>aI [a8] [a5])/\True) /\
 ai PP oT [a5] h7 fun a9 h10 =>
 aa PP (.alloc .nil) h10 fun a11 h12 =>
 ((ae PP (.ld (.c a2) 8 true) h12 fun a13=>aI [a13] [a4])/\(ae PP (.ld (.c a2) 8 true) h12 fun a14=>aI [a14] [a5])/\True) /\
 aa PP (.alloc .nil) h12 fun a15 h16 =>
 ((ae PP (.ld (.c a2) 8 true) h16 fun a17=>aI [a17] [a4])/\(ae PP (.ld (.c a2) 8 true) h16 fun a18=>aI [a18] [a5])/\True) /\
 aa PP (.st (.c a11) (.c a6) 1) h16 fun a19 h20 =>
 aa PP (.st (.c a15) (.c a9) 1) h20 fun a21 h22 =>
 aa PP (.mkf cj [] [(.c a2),(.c a11),(.c a15)]) h22 fun a23 h24 =>
 K a23 h24
theorem xq (a0:D) (h0:Heap) (K:HKq):qX a0 h0 K=ga rI K [a0] h0:=by kernel_rfl
def w8:TLq
 | _=>none
def zF:TTq
 | _=>none
noncomputable abbrev tN:=cFn PP true gm w8 (cDr PP 22 zF)
noncomputable def tV:aQ:=⟨22,aV tN,[.t 4]⟩
theorem zi:tN=some tV:=by kernel_rfl
def tu (a0:D) (a1:D) (h0:Heap) (K:HKq):Prop :=
 aa PP (.box (.c a0)) h0 fun a3 h4 =>
 aa PP (.box (.c a1)) h4 fun a5 h6 =>
 aa PP (.ld (.c a3) 2 true) h6 fun a7 h8 =>
 aa PP (.fadd (.c a5) 0) h8 fun a9 h10 =>
 aa PP (.ld (.c a9) 2 true) h10 fun a11 h12 =>
 ai PP jr [a7,a11] h12 fun a13 h14 =>
 aa PP (.fadd (.c a13) 0) h14 fun a15 h16 =>
 aa PP (.ld (.c a15) 1 false) h16 fun a17 h18 =>
 vun .not a17 fun a19 =>
 vcond a19 (K (.bool true) h18) (
 aa PP (.fadd (.c a5) 3) h18 fun a20 h21 =>
 aa PP (.ld (.c a20) 1 false) h21 fun a22 h23 =>
 vun .not a22 fun a24 =>
 vguard a24 true (fun G25 =>
 aa PP (.fadd (.c a5) 2) h23 fun a28 h29 =>
 G25 a28 h29) h23 fun a26 h27 =>
 vguard a24 true (fun G30 =>
 aa PP (.ld (.c a26) 1 false) h27 fun a33 h34 =>
 G30 a33 h34) h27 fun a31 h32 =>
 vguard a24 true (fun G35 =>
 aa PP (.mkf jq [] [(.c a3)]) h32 fun a38 h39 =>
 G35 a38 h39) h32 fun a36 h37 =>
 vguard a24 true (fun G40 =>
 ai PP bg [a31,a36] h37 fun a43 h44 =>
 G40 a43 h44) h37 fun a41 h42 =>
 vguard a24 true (fun G45 =>
 vun .not a41 fun a48 =>
 G45 a48 h42) h42 fun a46 h47 =>
 aa PP (.pick (.c a24) (.c a46) (.c (.bool false))) h47 fun a49 h50 =>
 K a49 h50)
theorem yJ (a0:D) (a1:D) (h0:Heap) (K:HKq):tu a0 a1 h0 K=ga tV K [a0,a1] h0:=by kernel_rfl
def zY:TLq
 | _=>none
def CP:TTq
 | _=>none
noncomputable abbrev y4:=cFn PP true jr zY (cDr PP 17 CP)
noncomputable def zj:aQ:=⟨17,aV y4,[.t 4]⟩
theorem B9:y4=some zj:=by kernel_rfl
def yK (a0:D) (a1:D) (h0:Heap) (K:HKq):Prop :=
 aa PP (.box (.c a0)) h0 fun a3 h4 =>
 aa PP (.box (.c a1)) h4 fun a5 h6 =>
 aa PP (.fadd (.c a5) 0) h6 fun a7 h8 =>
 aa PP (.ld (.c a7) 1 false) h8 fun a9 h10 =>
 vcond a9 (aa PP (.fadd (.c a3) 0) h10 fun a11 h12 =>
 aa PP (.ld (.c a11) 1 false) h12 fun a13 h14 =>
 aa PP (.fadd (.c a5) 1) h14 fun a15 h16 =>
 aa PP (.ld (.c a15) 1 false) h16 fun a17 h18 =>
 aa PP (.iadd (.c a13) (.c a17) 1) h18 fun a19 h20 =>
 K a19 h20) (
 aa PP (.fadd (.c a3) 1) h10 fun a21 h22 =>
 aa PP (.ld (.c a21) 1 false) h22 fun a23 h24 =>
 aa PP (.fadd (.c a5) 1) h24 fun a25 h26 =>
 aa PP (.ld (.c a25) 1 false) h26 fun a27 h28 =>
 aa PP (.iadd (.c a23) (.c a27) 1) h28 fun a29 h30 =>
 K a29 h30)
theorem BT (a0:D) (a1:D) (h0:Heap) (K:HKq):yK a0 a1 h0 K=ga zj K [a0,a1] h0:=by kernel_rfl
def BN:TLq
 | _=>none
def Ey:TTq
 | _=>none
noncomputable abbrev Bn:=cFn PP true kW BN (cDr PP 26 Ey)
noncomputable def Bv:aQ:=⟨26,aV Bn,[.t 2]⟩
theorem El:Bn=some Bv:=by kernel_rfl
def Bg (a0:D) (h0:Heap) (K:HKq):Prop :=
 aa PP (.box (.c a0)) h0 fun a2 h3 =>
 aa PP (.fadd (.c a2) 0) h3 fun a4 h5 =>
 aa PP (.ld (.c a4) 1 false) h5 fun a6 h7 =>
 vbin .eql a6 (.int .i64 5) fun a8 =>
 vcond a8 (K .nil h7) (
 aa PP (.fadd (.c a2) 0) h7 fun a9 h10 =>
 aa PP (.ld (.c a9) 1 false) h10 fun a11 h12 =>
 vbin .eql a11 (.int .i64 2) fun a13 =>
 vguard a13 true (fun G14 =>
 aa PP (.fadd (.c a2) 11) h12 fun a17 h18 =>
 G14 a17 h18) h12 fun a15 h16 =>
 vguard a13 true (fun G19 =>
 aa PP (.iadda (.c a15) (.c (.int .i64 0)) 2 1) h16 fun a22 h23 =>
 G19 a22 h23) h16 fun a20 h21 =>
 vguard a13 true (fun G24 =>
 aa PP (.ld (.c a20) 1 false) h21 fun a27 h28 =>
 G24 a27 h28) h21 fun a25 h26 =>
 vguard a13 true (fun G29 =>
 aa PP (.fadd (.c a2) 11) h26 fun a32 h33 =>
 G29 a32 h33) h26 fun a30 h31 =>
 vguard a13 true (fun G34 =>
 aa PP (.iadda (.c a30) (.c (.int .i64 1)) 2 1) h31 fun a37 h38 =>
 G34 a37 h38) h31 fun a35 h36 =>
 vguard a13 true (fun G39 =>
 aa PP (.ld (.c a35) 1 false) h36 fun a42 h43 =>
 G39 a42 h43) h36 fun a40 h41 =>
 vguard a13 true (fun G44 =>
 vbin .neq a25 a40 fun a47 =>
 G44 a47 h41) h41 fun a45 h46 =>
 aa PP (.pick (.c a13) (.c a45) (.c (.bool false))) h46 fun a48 h49 =>
 vcond a48 (aa PP (.fadd (.c a2) 11) h49 fun a50 h51 =>
 aa PP (.L0 (.c a50) 2) h51 fun a52 h53 =>
 K a52 h53) (
 aa PP (.fadd (.c a2) 11) h49 fun a54 h55 =>
 aa PP (.iadda (.c a54) (.c (.int .i64 0)) 2 1) h55 fun a56 h57 =>
 aa PP (.ld (.c a56) 1 false) h57 fun a58 h59 =>
 aa PP (.bldS true 1 1 (.int .i64 0) [(0,(.c a58))]) h59 fun a60 h61 =>
 K a60 h61))
theorem D3 (a0:D) (h0:Heap) (K:HKq):Bg a0 h0 K=ga Bv K [a0] h0:=by kernel_rfl
def BJ:TLq
 | _=>none
def Et:TTq
 | _=>none
noncomputable abbrev Bj:=cFn PP true bt BJ (cDr PP 5 Et)
noncomputable def Bq:aQ:=⟨5,aV Bj,[.cell 2 3 true]⟩
theorem Ef:Bj=some Bq:=by kernel_rfl
def Bc (a0:D) (h0:Heap) (K:HKq):Prop :=
 aa PP (.alloc (.agg [zI,zI,zJ])) h0 fun a2 h3 =>
 aa PP (.bld [zI,zI,zJ] [(0,1,(.c (.int .i64 2))),(1,1,(.c a0))]) h3 fun a4 h5 =>
 aa PP (.st (.c a2) (.c a4) 3) h5 fun a6 h7 =>
 aa PP (.ld (.c a2) 3 true) h7 fun a8 _ =>
 K a8 h7
theorem DU (a0:D) (h0:Heap) (K:HKq):Bc a0 h0 K=ga Bq K [a0] h0:=by kernel_rfl
def Ds:TLq
 | _=>none
def FF:TTq
 | _=>none
noncomputable abbrev D9:=cFn PP true qo Ds (cDr PP 8 FF)
noncomputable def Ek:aQ:=⟨8,aV D9,[.t 2]⟩
theorem EM:D9=some Ek:=by kernel_rfl
def DZ (a0:D) (h0:Heap) (K:HKq):Prop :=
 aa PP (.box (.c a0)) h0 fun a2 h3 =>
 aa PP (.fadd (.c a2) 0) h3 fun a4 h5 =>
 aa PP (.ld (.c a4) 1 false) h5 fun a6 h7 =>
 vbin .neq a6 (.int .i64 2) fun a8 =>
 vcond a8 (K (.int .i64 (-1)) h7) (
 aa PP (.fadd (.c a2) 1) h7 fun a9 h10 =>
 aa PP (.ld (.c a9) 1 false) h10 fun a11 h12 =>
 K a11 h12)
theorem EI (a0:D) (h0:Heap) (K:HKq):DZ a0 h0 K=ga Ek K [a0] h0:=by kernel_rfl
def yn:TLq
 | _=>none
def BE:TTq
 | _=>none
noncomputable abbrev vY:=cFn PP true cK yn (cDr PP 5 BE)
noncomputable def wy:aQ:=⟨5,aV vY,[.cell 2 3 true]⟩
theorem AO:vY=some wy:=by kernel_rfl
def vK (a0:D) (h0:Heap) (K:HKq):Prop :=
 aa PP (.alloc (.agg [zI,zI,zJ])) h0 fun a2 h3 =>
 aa PP (.bld [zI,zI,zJ] [(0,1,(.c (.int .i64 1))),(2,1,(.c a0))]) h3 fun a4 h5 =>
 aa PP (.st (.c a2) (.c a4) 3) h5 fun a6 h7 =>
 aa PP (.ld (.c a2) 3 true) h7 fun a8 _ =>
 K a8 h7
theorem AE (a0:D) (h0:Heap) (K:HKq):vK a0 h0 K=ga wy K [a0] h0:=by kernel_rfl
def rX:TLq
 | _=>none
def uG:TTq
 | 2=>some ([0,1,3,7,15,0,0,64,192,448,960,0,4032,8128,16320,0,32768,131008,262143,524287,1048575],[17,20],[4,18])|_=>none
noncomputable abbrev oz:=cFn PP true aL rX (cDr PP 32 uG)
noncomputable def oK:aQ:=⟨32,aV oz,[]⟩
theorem ub:oz=some oK:=by kernel_rfl
def oh (a0:D) (a1:D) (h0:Heap) (K:HKq):Prop :=
 aa PP (.box (.c a1)) h0 fun a3 h4 =>
 aa PP (.fadd (.c a0) 0) h4 fun a5 h6 =>
 aa PP (.fadd (.c a5) 2) h6 fun a7 h8 =>
 aa PP (.fadd (.c a7) 7) h8 fun a9 h10 =>
 aa PP (.ld (.c a9) 1 false) h10 fun a11 h12 =>
 aR a11 h12 fun a13 =>
 vbin .sub a13 (.int .i64 1) fun a14 =>
 ae PP (.fadd (.c a0) 0) h12 fun a15 =>
 ae PP (.fadd (.c a15) 2) h12 fun a16 =>
 ae PP (.fadd (.c a16) 7) h12 fun a17 =>
 ae PP (.ld (.c a17) 1 false) h12 fun a18 =>
 ae PP (.fadd (.c a0) 0) h12 fun a19 =>
 ae PP (.fadd (.c a19) 2) h12 fun a20 =>
 ae PP (.fadd (.c a20) 7) h12 fun a21 =>
 ae PP (.ld (.c a21) 1 false) h12 fun a22 =>
 ae PP (.iadd (.c a22) (.c a14) 14) h12 fun a23 =>
 ae PP (.fadd (.c a23) 0) h12 fun a24 =>
 ae PP (.ld (.c a24) 1 false) h12 fun a25 =>
 ae PP (.ld (.c a3) 15 true) h12 fun a26 =>
 ae PP (.bldS false 15 1 (.agg [zI,zI,zI,zI,zI,zJ,zI,zI,zJ,zI,zI,zJ,zI,zI,zJ]) [(0,(.c a26))]) h12 fun a27 =>
 ae PP (.iadd (.c a18) (.c a14) 14) h12 fun a28 =>
 ae PP (.fadd (.c a28) 0) h12 fun a29 =>
 aa PP (.app (.c a25) (.c a27) 15 120 (.agg [zI,zI,zI,zI,zI,zJ,zI,zI,zJ,zI,zI,zJ,zI,zI,zJ])) h12 fun a30 h31 =>
 ((ae PP (.ld (.c a17) 1 false) h31 fun a32=>aI [a32] [a18])/\(ae PP (.iadd (.c a18) (.c a14) 14) h31 fun a33=>aI [a33] [a28])/\True) /\
 aa PP (.st (.c a29) (.c a30) 1) h31 fun a34 h35 =>
 ((ae PP (.ld (.c a17) 1 false) h35 fun a36=>aI [a36] [a18])/\(ae PP (.iadd (.c a18) (.c a14) 14) h35 fun a37=>aI [a37] [a28])/\True) /\
 K (.tup []) h35
theorem tE (a0:D) (a1:D) (h0:Heap) (K:HKq):oh a0 a1 h0 K=ga oK K [a0,a1] h0:=by kernel_rfl
def qz:TLq
 | _=>none
def sI:TTq
 | 18=>some ([0,0,0,4,12,30,62,0,0,0,524,2046,4095],[3,10,12],[999999])|21=>some ([0,0,0,4,0,30,63],[3,6],[999999])|22=>some ([0,0,0,0,8,30,63],[4,6],[999999])|_=>none
noncomputable abbrev ny:=cFn PP true iH qz (cDr PP 133 sI)
noncomputable def nJ:aQ:=⟨133,aV ny,[]⟩
theorem su:ny=some nJ:=by kernel_rfl
def nc (a0:D) (h0:Heap) (K:HKq):Prop :=
 ai PP au [a0] h0 fun a2 h3 =>
 vbin .rem a2 (.int .i64 16) fun a4 =>
 vbin .lss a4 (.int .i64 3) fun a5 =>
 vcond a5 (ai PP au [a0] h3 fun a6 h7 =>
 vbin .rem a6 (.int .i64 7) fun a8 =>
 vbin .add (.int .i64 1) a8 fun a9 =>
 ai PP aU [a0] h7 fun a10 h11 =>
 aa PP (.bld [zI,zI,zI,zI,zI,zJ,zI,zI,zJ,zI,zI,zJ,zI,zI,zJ] [(0,1,(.c (.int .i64 5))),(1,1,(.c a9)),(3,3,(.c a10))]) h11 fun a12 h13 =>
 ai PP aL [a0,a12] h13 fun a14 h15 =>
 K (.tup []) h15) (
 vbin .lss a4 (.int .i64 7) fun a16 =>
 vcond a16 (ai PP au [a0] h3 fun a17 h18 =>
 vbin .rem a17 (.int .i64 20) fun a19 =>
 vbin .add (.int .i64 10) a19 fun a20 =>
 ai PP aU [a0] h18 fun a21 h22 =>
 ai PP aS [a0] h22 fun a23 h24 =>
 ai PP aS [a0] h24 fun a25 h26 =>
 aa PP (.bld [zI,zI,zI,zI,zI,zJ,zI,zI,zJ,zI,zI,zJ,zI,zI,zJ] [(0,1,(.c (.int .i64 3))),(1,1,(.c a20)),(3,3,(.c a21)),(6,3,(.c a23)),(9,3,(.c a25))]) h26 fun a27 h28 =>
 ai PP aL [a0,a27] h28 fun a29 h30 =>
 K (.tup []) h30) (
 vbin .eql a4 (.int .i64 7) fun a31 =>
 vcond a31 (ai PP au [a0] h3 fun a32 h33 =>
 vbin .rem a32 (.int .i64 5) fun a34 =>
 vbin .add (.int .i64 1) a34 fun a35 =>
 ai PP aU [a0] h33 fun a36 h37 =>
 ai PP aS [a0] h37 fun a38 h39 =>
 aa PP (.bld [zI,zI,zI,zI,zI,zJ,zI,zI,zJ,zI,zI,zJ,zI,zI,zJ] [(0,1,(.c (.int .i64 2))),(1,1,(.c a35)),(3,3,(.c a36)),(6,3,(.c a38))]) h39 fun a40 h41 =>
 ai PP aL [a0,a40] h41 fun a42 h43 =>
 K (.tup []) h43) (
 vbin .eql a4 (.int .i64 8) fun a44 =>
 vcond a44 (ai PP aU [a0] h3 fun a45 h46 =>
 ai PP aS [a0] h46 fun a47 h48 =>
 ai PP aS [a0] h48 fun a49 h50 =>
 ai PP aS [a0] h50 fun a51 h52 =>
 aa PP (.bld [zI,zI,zI,zI,zI,zJ,zI,zI,zJ,zI,zI,zJ,zI,zI,zJ] [(0,1,(.c (.int .i64 4))),(3,3,(.c a45)),(6,3,(.c a47)),(9,3,(.c a49)),(12,3,(.c a51))]) h52 fun a53 h54 =>
 ai PP aL [a0,a53] h54 fun a55 h56 =>
 K (.tup []) h56) (
 vbin .eql a4 (.int .i64 9) fun a57 =>
 vcond a57 (ai PP aU [a0] h3 fun a58 h59 =>
 ai PP aS [a0] h59 fun a60 h61 =>
 aa PP (.bld [zI,zI,zI,zI,zI,zJ,zI,zI,zJ,zI,zI,zJ,zI,zI,zJ] [(0,1,(.c (.int .i64 1))),(3,3,(.c a58)),(6,3,(.c a60))]) h61 fun a62 h63 =>
 ai PP aL [a0,a62] h63 fun a64 h65 =>
 K (.tup []) h65) (
 vbin .eql a4 (.int .i64 10) fun a66 =>
 vcond a66 (ai PP au [a0] h3 fun a67 h68 =>
 vbin .rem a67 (.int .i64 3) fun a69 =>
 ai PP aU [a0] h68 fun a70 h71 =>
 aa PP (.bld [zI,zI,zI,zI,zI,zJ,zI,zI,zJ,zI,zI,zJ,zI,zI,zJ] [(0,1,(.c (.int .i64 6))),(2,1,(.c a69)),(3,3,(.c a70))]) h71 fun a72 h73 =>
 ai PP aL [a0,a72] h73 fun a74 h75 =>
 K (.tup []) h75) (
 vbin .eql a4 (.int .i64 11) fun a76 =>
 vcond a76 (ai PP au [a0] h3 fun a77 h78 =>
 vbin .rem a77 (.int .i64 2) fun a79 =>
 vbin .add (.int .i64 1) a79 fun a80 =>
 aa PP (.bld [zI,zI,zI,zI,zI,zJ,zI,zI,zJ,zI,zI,zJ,zI,zI,zJ] [(0,1,(.c (.int .i64 10))),(1,1,(.c a80))]) h78 fun a81 h82 =>
 ai PP aL [a0,a81] h82 fun a83 h84 =>
 K (.tup []) h84) (
 vbin .eql a4 (.int .i64 12) fun a85 =>
 vcond a85 (ai PP eZ [a0,(.bool false)] h3 fun a86 h87 =>
 aa PP (.ext (.c a86) 0) h87 fun a88 h89 =>
 aa PP (.ext (.c a86) 1) h89 fun a90 h91 =>
 aa PP (.alloc (.agg [zI,zI,zJ])) h91 fun a92 h93 =>
 aa PP (.st (.c a92) (.c a90) 3) h93 fun a94 h95 =>
 ae PP (.bldS false 1 6 (.int .i64 0) [(0,(.c (.int .i64 10))),(1,(.c (.int .i64 22))),(2,(.c (.int .i64 23))),(3,(.c (.int .i64 17))),(4,(.c (.int .i64 18))),(5,(.c (.int .i64 19)))]) h95 fun a96 =>
 ae PP (.ld (.c a92) 3 true) h95 fun a97 =>
 ai PP au [a0] h95 fun a98 h99 =>
 ((ae PP (.ld (.c a92) 3 true) h99 fun a100=>aI [a100] [a97])/\True) /\
 vbin .rem a98 (.int .i64 6) fun a101 =>
 ae PP (.iadd (.c a96) (.c a101) 1) h99 fun a102 =>
 ae PP (.ld (.c a102) 1 false) h99 fun a103 =>
 ai PP aS [a0] h99 fun a104 h105 =>
 ((ae PP (.iadd (.c a96) (.c a101) 1) h105 fun a106=>aI [a106] [a102])/\(ae PP (.ld (.c a102) 1 false) h105 fun a107=>aI [a107] [a103])/\(ae PP (.ld (.c a92) 3 true) h105 fun a108=>aI [a108] [a97])/\True) /\
 ae PP (.bld [zI,zI,zI,zI,zI,zJ,zI,zI,zJ,zI,zI,zJ,zI,zI,zJ] [(0,1,(.c (.int .i64 9))),(1,1,(.c a103)),(2,1,(.c a88)),(6,3,(.c a97)),(9,3,(.c a104))]) h105 fun a109 =>
 ai PP aL [a0,a109] h105 fun a110 h111 =>
 K (.tup []) h111) (
 ai PP eZ [a0,(.bool true)] h3 fun a112 h113 =>
 aa PP (.ext (.c a112) 0) h113 fun a114 h115 =>
 aa PP (.ext (.c a112) 1) h115 fun a116 h117 =>
 aa PP (.alloc (.agg [zI,zI,zJ])) h117 fun a118 h119 =>
 aa PP (.st (.c a118) (.c a116) 3) h119 fun a120 h121 =>
 vbin .eql a4 (.int .i64 13) fun a122 =>
 vcond a122 (ae PP (.ld (.c a118) 3 true) h121 fun a123 =>
 ai PP aU [a0] h121 fun a124 h125 =>
 ((ae PP (.ld (.c a118) 3 true) h125 fun a126=>aI [a126] [a123])/\True) /\
 ae PP (.bld [zI,zI,zI,zI,zI,zJ,zI,zI,zJ,zI,zI,zJ,zI,zI,zJ] [(0,1,(.c (.int .i64 7))),(2,1,(.c a114)),(3,3,(.c a124)),(6,3,(.c a123))]) h125 fun a127 =>
 ai PP aL [a0,a127] h125 fun a128 h129 =>
 K (.tup []) h129) (
 ae PP (.ld (.c a118) 3 true) h121 fun a130 =>
 ai PP aS [a0] h121 fun a131 h132 =>
 ((ae PP (.ld (.c a118) 3 true) h132 fun a133=>aI [a133] [a130])/\True) /\
 ae PP (.bld [zI,zI,zI,zI,zI,zJ,zI,zI,zJ,zI,zI,zJ,zI,zI,zJ] [(0,1,(.c (.int .i64 8))),(2,1,(.c a114)),(6,3,(.c a130)),(9,3,(.c a131))]) h132 fun a134 =>
 ai PP aL [a0,a134] h132 fun a135 h136 =>
 K (.tup []) h136)))))))))
theorem sk (a0:D) (h0:Heap) (K:HKq):nc a0 h0 K=ga nJ K [a0] h0:=by kernel_rfl
def Ae:TLq
 | _=>none
def CX:TTq
 | _=>none
noncomputable abbrev ze:=cFn PP true ql Ae (cDr PP 30 CX)
noncomputable def zu:aQ:=⟨30,aV ze,[.t 2]⟩
theorem Ci:ze=some zu:=by kernel_rfl
def yU (a0:D) (h0:Heap) (K:HKq):Prop :=
 aa PP (.box (.c a0)) h0 fun a2 h3 =>
 aa PP (.fadd (.c a2) 0) h3 fun a4 h5 =>
 aa PP (.ld (.c a4) 1 false) h5 fun a6 h7 =>
 vbin .eql a6 (.int .i64 5) fun a8 =>
 vcond a8 (aa PP (.bldS true 1 0 (.int .i64 0) []) h7 fun a9 h10 =>
 K a9 h10) (
 aa PP (.fadd (.c a2) 0) h7 fun a11 h12 =>
 aa PP (.ld (.c a11) 1 false) h12 fun a13 h14 =>
 vbin .eql a13 (.int .i64 2) fun a15 =>
 vguard a15 true (fun G16 =>
 aa PP (.fadd (.c a2) 11) h14 fun a19 h20 =>
 G16 a19 h20) h14 fun a17 h18 =>
 vguard a15 true (fun G21 =>
 aa PP (.iadda (.c a17) (.c (.int .i64 0)) 2 1) h18 fun a24 h25 =>
 G21 a24 h25) h18 fun a22 h23 =>
 vguard a15 true (fun G26 =>
 aa PP (.ld (.c a22) 1 false) h23 fun a29 h30 =>
 G26 a29 h30) h23 fun a27 h28 =>
 vguard a15 true (fun G31 =>
 aa PP (.fadd (.c a2) 11) h28 fun a34 h35 =>
 G31 a34 h35) h28 fun a32 h33 =>
 vguard a15 true (fun G36 =>
 aa PP (.iadda (.c a32) (.c (.int .i64 1)) 2 1) h33 fun a39 h40 =>
 G36 a39 h40) h33 fun a37 h38 =>
 vguard a15 true (fun G41 =>
 aa PP (.ld (.c a37) 1 false) h38 fun a44 h45 =>
 G41 a44 h45) h38 fun a42 h43 =>
 vguard a15 true (fun G46 =>
 vbin .neq a27 a42 fun a49 =>
 G46 a49 h43) h43 fun a47 h48 =>
 aa PP (.pick (.c a15) (.c a47) (.c (.bool false))) h48 fun a50 h51 =>
 vcond a50 (aa PP (.fadd (.c a2) 11) h51 fun a52 h53 =>
 aa PP (.iadda (.c a52) (.c (.int .i64 0)) 2 1) h53 fun a54 h55 =>
 aa PP (.ld (.c a54) 1 false) h55 fun a56 h57 =>
 aa PP (.fadd (.c a2) 11) h57 fun a58 h59 =>
 aa PP (.iadda (.c a58) (.c (.int .i64 1)) 2 1) h59 fun a60 h61 =>
 aa PP (.ld (.c a60) 1 false) h61 fun a62 h63 =>
 aa PP (.bldS true 1 2 (.int .i64 0) [(0,(.c a56)),(1,(.c a62))]) h63 fun a64 h65 =>
 K a64 h65) (
 aa PP (.fadd (.c a2) 11) h51 fun a66 h67 =>
 aa PP (.iadda (.c a66) (.c (.int .i64 0)) 2 1) h67 fun a68 h69 =>
 aa PP (.ld (.c a68) 1 false) h69 fun a70 h71 =>
 aa PP (.bldS true 1 1 (.int .i64 0) [(0,(.c a70))]) h71 fun a72 h73 =>
 K a72 h73))
theorem B4 (a0:D) (h0:Heap) (K:HKq):yU a0 h0 K=ga zu K [a0] h0:=by kernel_rfl
def Ac:TLq
 | 1000017=>some ([7],[])|6=>some ([0,2,7],[8])|10=>some ([0,2,7,9],[8,10])|1000012=>some ([0,2,7,9,10],[8])|_=>none
def CV:TTq
 | _=>none
noncomputable abbrev y9:=cFn PP true ju Ac (cDr PP 66 CV)
noncomputable def zq:aQ:=⟨66,aV y9,[.t 6]⟩
theorem Cf:y9=some zq:=by kernel_rfl
def ra (a27:D) (h28:Heap) (a0:D) (a25:D) (a2:D) (a5:D) (n18:Nat) (I17:Nat->HJq):Prop :=
 ∃(I29:Nat->HJq) (n₀:Nat),I29 n₀ [a27,(.int .i64 0)] h28/\∀(n30:Nat) (f31:Nat->D) (h32:Heap),I29 n30 [f31 8,f31 10] h32 ->
 aa PP (.iadd (.c a0) (.c a25) 1) h32 fun a33 h34 =>
 aa PP (.ld (.c a33) 1 false) h34 fun a35 h36 =>
 aR a35 h36 fun a37 =>
 vbin .lss (f31 10) a37 fun a38 =>
 vcond a38 (∃(J39:HJq),(∀(f40:Nat->D) (h41:Heap),J39 [f40 8] h41 ->
 vbin .add (f31 10) (.int .i64 1) fun a42 =>
 aI [a0,a2,a5,a25] [a0,a2,a5,a25]/\∃m,m<n30/\I29 m [(f40 8),a42] h41) /\
 aa PP (.iadd (.c a0) (.c a25) 1) h36 fun a43 h44 =>
 aa PP (.ld (.c a43) 1 false) h44 fun a45 h46 =>
 aa PP (.iadd (.c a45) (.c (f31 10)) 1) h46 fun a47 h48 =>
 aa PP (.ld (.c a47) 1 false) h48 fun a49 h50 =>
 aa PP (.iadd (.c a5) (.c a49) 1) h50 fun a51 h52 =>
 aa PP (.ld (.c a51) 1 false) h52 fun a53 h54 =>
 vun .not a53 fun a55 =>
 vguard a55 true (fun G56 =>
 G56 a49 h54) h54 fun a57 h58 =>
 vguard a55 true (fun G59 =>
 G59 a2 h58) h58 fun a60 h61 =>
 vguard a55 true (fun G62 =>
 vbin .neq a57 a60 fun a65 =>
 G62 a65 h61) h61 fun a63 h64 =>
 aa PP (.pick (.c a55) (.c a63) (.c (.bool false))) h64 fun a66 h67 =>
 vcond a66 (aa PP (.iadd (.c a5) (.c a49) 1) h67 fun a68 h69 =>
 aa PP (.st (.c a68) (.c (.bool true)) 1) h69 fun a70 h71 =>
 aa PP (.bldS true 1 1 (.int .i64 0) [(0,(.c a49))]) h71 fun a72 h73 =>
 aa PP (.app (.c (f31 8)) (.c a72) 1 8 (.int .i64 0)) h73 fun a74 h75 =>
 aI [a0,a2,a5,a25,(f31 10)] [a0,a2,a5,a25,(f31 10)]/\J39 [a74] h75) (
 aI [a0,a2,a5,a25,(f31 10)] [a0,a2,a5,a25,(f31 10)]/\J39 [(f31 8)] h67)) (
 aI [a0,a2,a5] [a0,a2,a5]/\∃m,m<n18/\I17 m [(f31 8)] h36)
def qZ (a12:D) (h13:Heap) (a0:D) (a2:D) (a5:D) (J14:HJq):Prop :=
 ∃(I17:Nat->HJq) (n₀:Nat),I17 n₀ [a12] h13/\∀(n18:Nat) (f19:Nat->D) (h20:Heap),I17 n18 [f19 8] h20 ->
 aR (f19 8) h20 fun a21 =>
 vbin .gtr a21 (.int .i64 0) fun a22 =>
 vcond a22 (aa PP (.iadd (.c (f19 8)) (.c (.int .i64 0)) 1) h20 fun a23 h24 =>
 aa PP (.ld (.c a23) 1 false) h24 fun a25 h26 =>
 aa PP (.zB (.c (f19 8)) (some (.c (.int .i64 1))) none none 1) h26 fun a27 h28 =>
 ra a27 h28 a0 a25 a2 a5 n18 I17) (
 aI [a5] [a5]/\J14 [] h20)
def yR (a0:D) (a1:D) (a2:D) (h0:Heap) (K:HKq):Prop :=
 aR a0 h0 fun a4 =>
 aa PP (.mk 1 1 (.bool false) (.c a4) (.c a4)) h0 fun a5 h6 =>
 vbin .eql a1 a2 fun a7 =>
 vcond a7 (K a5 h6) (
 aa PP (.iadd (.c a5) (.c a1) 1) h6 fun a8 h9 =>
 aa PP (.st (.c a8) (.c (.bool true)) 1) h9 fun a10 h11 =>
 aa PP (.bldS true 1 1 (.int .i64 0) [(0,(.c a1))]) h11 fun a12 h13 =>
 ∃(J14:HJq),(∀(f15:Nat->D) (h16:Heap),J14 [] h16 ->
 K a5 h16) /\
 qZ a12 h13 a0 a2 a5 J14)
theorem BZ (a0:D) (a1:D) (a2:D) (h0:Heap) (K:HKq):yR a0 a1 a2 h0 K=ga zq K [a0,a1,a2] h0:=by kernel_rfl
def yk:TLq
 | 1000007=>some ([],[3])|3=>some ([1],[3,4])|_=>none
def BB:TTq
 | _=>none
noncomputable abbrev vV:=cFn PP true kM yk (cDr PP 24 BB)
noncomputable def wu:aQ:=⟨24,aV vV,[.t 2]⟩
theorem AL:vV=some wu:=by kernel_rfl
def pM (a4:D) (h5:Heap) (a2:D) (J6:HJq):Prop :=
 ∃(I9:Nat->HJq) (n₀:Nat),I9 n₀ [a4,(.int .i64 0)] h5/\∀(n10:Nat) (f11:Nat->D) (h12:Heap),I9 n10 [f11 3,f11 4] h12 ->
 aa PP (.fadd (.c a2) 7) h12 fun a13 h14 =>
 aa PP (.ld (.c a13) 1 false) h14 fun a15 h16 =>
 aR a15 h16 fun a17 =>
 vbin .lss (f11 4) a17 fun a18 =>
 vcond a18 (aa PP (.fadd (.c a2) 7) h16 fun a19 h20 =>
 aa PP (.ld (.c a19) 1 false) h20 fun a21 h22 =>
 aa PP (.iadd (.c a21) (.c (f11 4)) 14) h22 fun a23 h24 =>
 aa PP (.fadd (.c a23) 1) h24 fun a25 h26 =>
 aa PP (.ld (.c a25) 13 true) h26 fun a27 h28 =>
 ai PP jt [a27] h28 fun a29 h30 =>
 aa PP (.bldS true 1 1 .nil [(0,(.c a29))]) h30 fun a31 h32 =>
 aa PP (.app (.c (f11 3)) (.c a31) 1 24 .nil) h32 fun a33 h34 =>
 vbin .add (f11 4) (.int .i64 1) fun a35 =>
 aI [a2] [a2]/\∃m,m<n10/\I9 m [a33,a35] h34) (
 aI [] []/\J6 [(f11 3)] h16)
def vH (a0:D) (h0:Heap) (K:HKq):Prop :=
 aa PP (.box (.c a0)) h0 fun a2 h3 =>
 aa PP (.bldS true 1 0 .nil []) h3 fun a4 h5 =>
 ∃(J6:HJq),(∀(f7:Nat->D) (h8:Heap),J6 [f7 3] h8 ->
 K (f7 3) h8) /\
 pM a4 h5 a2 J6
theorem AA (a0:D) (h0:Heap) (K:HKq):vH a0 h0 K=ga wu K [a0] h0:=by kernel_rfl
def Ab:TLq
 | _=>none
def CU:TTq
 | _=>none
noncomputable abbrev y8:=cFn PP true jt Ab (cDr PP 30 CU)
noncomputable def zp:aQ:=⟨30,aV y8,[.t 2]⟩
theorem Ce:y8=some zp:=by kernel_rfl
def yQ (a0:D) (h0:Heap) (K:HKq):Prop :=
 aa PP (.box (.c a0)) h0 fun a2 h3 =>
 aa PP (.fadd (.c a2) 0) h3 fun a4 h5 =>
 aa PP (.ld (.c a4) 1 false) h5 fun a6 h7 =>
 vbin .eql a6 (.int .i64 5) fun a8 =>
 vcond a8 (aa PP (.bldS true 1 0 (.int .i64 0) []) h7 fun a9 h10 =>
 K a9 h10) (
 aa PP (.fadd (.c a2) 0) h7 fun a11 h12 =>
 aa PP (.ld (.c a11) 1 false) h12 fun a13 h14 =>
 vbin .eql a13 (.int .i64 2) fun a15 =>
 vguard a15 true (fun G16 =>
 aa PP (.fadd (.c a2) 11) h14 fun a19 h20 =>
 G16 a19 h20) h14 fun a17 h18 =>
 vguard a15 true (fun G21 =>
 aa PP (.iadda (.c a17) (.c (.int .i64 0)) 2 1) h18 fun a24 h25 =>
 G21 a24 h25) h18 fun a22 h23 =>
 vguard a15 true (fun G26 =>
 aa PP (.ld (.c a22) 1 false) h23 fun a29 h30 =>
 G26 a29 h30) h23 fun a27 h28 =>
 vguard a15 true (fun G31 =>
 aa PP (.fadd (.c a2) 11) h28 fun a34 h35 =>
 G31 a34 h35) h28 fun a32 h33 =>
 vguard a15 true (fun G36 =>
 aa PP (.iadda (.c a32) (.c (.int .i64 1)) 2 1) h33 fun a39 h40 =>
 G36 a39 h40) h33 fun a37 h38 =>
 vguard a15 true (fun G41 =>
 aa PP (.ld (.c a37) 1 false) h38 fun a44 h45 =>
 G41 a44 h45) h38 fun a42 h43 =>
 vguard a15 true (fun G46 =>
 vbin .neq a27 a42 fun a49 =>
 G46 a49 h43) h43 fun a47 h48 =>
 aa PP (.pick (.c a15) (.c a47) (.c (.bool false))) h48 fun a50 h51 =>
 vcond a50 (aa PP (.fadd (.c a2) 11) h51 fun a52 h53 =>
 aa PP (.iadda (.c a52) (.c (.int .i64 0)) 2 1) h53 fun a54 h55 =>
 aa PP (.ld (.c a54) 1 false) h55 fun a56 h57 =>
 aa PP (.fadd (.c a2) 11) h57 fun a58 h59 =>
 aa PP (.iadda (.c a58) (.c (.int .i64 1)) 2 1) h59 fun a60 h61 =>
 aa PP (.ld (.c a60) 1 false) h61 fun a62 h63 =>
 aa PP (.bldS true 1 2 (.int .i64 0) [(0,(.c a56)),(1,(.c a62))]) h63 fun a64 h65 =>
 K a64 h65) (
 aa PP (.fadd (.c a2) 11) h51 fun a66 h67 =>
 aa PP (.iadda (.c a66) (.c (.int .i64 0)) 2 1) h67 fun a68 h69 =>
 aa PP (.ld (.c a68) 1 false) h69 fun a70 h71 =>
 aa PP (.bldS true 1 1 (.int .i64 0) [(0,(.c a70))]) h71 fun a72 h73 =>
 K a72 h73))
theorem BY (a0:D) (h0:Heap) (K:HKq):yQ a0 h0 K=ga zp K [a0] h0:=by kernel_rfl
def yl:TLq
 | _=>none
def BC:TTq
 | _=>none
noncomputable abbrev vW:=cFn PP true dA yl (cDr PP 22 BC)
noncomputable def wv:aQ:=⟨22,aV vW,[.t 6]⟩
theorem AM:vW=some wv:=by kernel_rfl
def vI (a0:D) (a1:D) (a2:D) (h0:Heap) (K:HKq):Prop :=
 vbin .eql a1 a2 fun a4 =>
 vguard a4 false (fun G5 =>
 G5 a0 h0) h0 fun a6 h7 =>
 vguard a4 false (fun G8 =>
 G8 a1 h7) h7 fun a9 h10 =>
 vguard a4 false (fun G11 =>
 G11 a2 h10) h10 fun a12 h13 =>
 vguard a4 false (fun G14 =>
 ai PP ju [a6,a9,a12] h13 fun a17 h18 =>
 G14 a17 h18) h13 fun a15 h16 =>
 vguard a4 false (fun G19 =>
 G19 a0 h16) h16 fun a20 h21 =>
 vguard a4 false (fun G22 =>
 aR a20 h21 fun a25 =>
 G22 a25 h21) h21 fun a23 h24 =>
 vguard a4 false (fun G26 =>
 vbin .sub a23 (.int .i64 1) fun a29 =>
 G26 a29 h24) h24 fun a27 h28 =>
 vguard a4 false (fun G30 =>
 aa PP (.iadd (.c a15) (.c a27) 1) h28 fun a33 h34 =>
 G30 a33 h34) h28 fun a31 h32 =>
 vguard a4 false (fun G35 =>
 aa PP (.ld (.c a31) 1 false) h32 fun a38 h39 =>
 G35 a38 h39) h32 fun a36 h37 =>
 vguard a4 false (fun G40 =>
 vun .not a36 fun a43 =>
 G40 a43 h37) h37 fun a41 h42 =>
 aa PP (.pick (.c a4) (.c (.bool true)) (.c a41)) h42 fun a44 h45 =>
 K a44 h45
theorem AB (a0:D) (a1:D) (a2:D) (h0:Heap) (K:HKq):vI a0 a1 a2 h0 K=ga wv K [a0,a1,a2] h0:=by kernel_rfl
def sV:TLq
 | _=>none
def wL:TTq
 | _=>none
noncomputable abbrev pW:=cFn PP true cw sV (cDr PP 16 wL)
noncomputable def p5:aQ:=⟨16,aV pW,[.t 4]⟩
theorem u7:pW=some p5:=by kernel_rfl
def pJ (a0:D) (a1:D) (h0:Heap) (K:HKq):Prop :=
 aa PP (.box (.c a0)) h0 fun a3 h4 =>
 aa PP (.box (.c a1)) h4 fun a5 h6 =>
 aa PP (.fadd (.c a5) 0) h6 fun a7 h8 =>
 aa PP (.ld (.c a7) 1 false) h8 fun a9 h10 =>
 vbin .neq a9 (.int .i64 2) fun a11 =>
 vguard a11 false (fun G12 =>
 aa PP (.fadd (.c a3) 1) h10 fun a15 h16 =>
 G12 a15 h16) h10 fun a13 h14 =>
 vguard a11 false (fun G17 =>
 aa PP (.ld (.c a13) 1 false) h14 fun a20 h21 =>
 G17 a20 h21) h14 fun a18 h19 =>
 vguard a11 false (fun G22 =>
 aa PP (.fadd (.c a5) 1) h19 fun a25 h26 =>
 G22 a25 h26) h19 fun a23 h24 =>
 vguard a11 false (fun G27 =>
 aa PP (.ld (.c a23) 1 false) h24 fun a30 h31 =>
 G27 a30 h31) h24 fun a28 h29 =>
 vguard a11 false (fun G32 =>
 aa PP (.iadd (.c a18) (.c a28) 1) h29 fun a35 h36 =>
 G32 a35 h36) h29 fun a33 h34 =>
 vguard a11 false (fun G37 =>
 aa PP (.ld (.c a33) 1 false) h34 fun a40 h41 =>
 G37 a40 h41) h34 fun a38 h39 =>
 aa PP (.pick (.c a11) (.c (.bool true)) (.c a38)) h39 fun a42 h43 =>
 K a42 h43
theorem uX (a0:D) (a1:D) (h0:Heap) (K:HKq):pJ a0 a1 h0 K=ga p5 K [a0,a1] h0:=by kernel_rfl
def Ag:TLq
 | _=>none
def CZ:TTq
 | _=>none
noncomputable abbrev zg:=cFn PP true qn Ag (cDr PP 10 CZ)
noncomputable def zw:aQ:=⟨10,aV zg,[.t 2]⟩
theorem Ck:zg=some zw:=by kernel_rfl
def yW (a0:D) (h0:Heap) (K:HKq):Prop :=
 aa PP (.box (.c a0)) h0 fun a2 h3 =>
 aa PP (.fadd (.c a2) 2) h3 fun a4 h5 =>
 aa PP (.fadd (.c a4) 0) h5 fun a6 h7 =>
 aa PP (.ld (.c a6) 1 false) h7 fun a8 h9 =>
 vbin .eql a8 (.int .i64 2) fun a10 =>
 vcond a10 (aa PP (.fadd (.c a2) 2) h9 fun a11 h12 =>
 aa PP (.fadd (.c a11) 1) h12 fun a13 h14 =>
 aa PP (.ld (.c a13) 1 false) h14 fun a15 h16 =>
 K a15 h16) (
 K (.int .i64 (-1)) h9)
theorem B6 (a0:D) (h0:Heap) (K:HKq):yW a0 h0 K=ga zw K [a0] h0:=by kernel_rfl
def BK:TLq
 | _=>none
def Eu:TTq
 | _=>none
noncomputable abbrev Bk:=cFn PP true sQ BK (cDr PP 10 Eu)
noncomputable def Br:aQ:=⟨10,aV Bk,[.t 2]⟩
theorem Eg:Bk=some Br:=by kernel_rfl
def Bd (a0:D) (h0:Heap) (K:HKq):Prop :=
 aa PP (.box (.c a0)) h0 fun a2 h3 =>
 aa PP (.fadd (.c a2) 3) h3 fun a4 h5 =>
 aa PP (.fadd (.c a4) 0) h5 fun a6 h7 =>
 aa PP (.ld (.c a6) 1 false) h7 fun a8 h9 =>
 vbin .eql a8 (.int .i64 2) fun a10 =>
 vcond a10 (aa PP (.fadd (.c a2) 3) h9 fun a11 h12 =>
 aa PP (.fadd (.c a11) 1) h12 fun a13 h14 =>
 aa PP (.ld (.c a13) 1 false) h14 fun a15 h16 =>
 K a15 h16) (
 K (.int .i64 (-1)) h9)
theorem DV (a0:D) (h0:Heap) (K:HKq):Bd a0 h0 K=ga Br K [a0] h0:=by kernel_rfl
def xa:TLq
 | 1000008=>some ([1,4],[5])|_=>none
def zH:TTq
 | _=>none
noncomputable abbrev tP:=cFn PP true mN xa (cDr PP 26 zH)
noncomputable def tX:aQ:=⟨26,aV tP,[.t 2]⟩
theorem zl:tP=some tX:=by kernel_rfl
def tx (a0:D) (h0:Heap) (K:HKq):Prop :=
 aa PP (.box (.c a0)) h0 fun a2 h3 =>
 aa PP (.fadd (.c a2) 0) h3 fun a4 h5 =>
 aa PP (.ld (.c a4) 1 false) h5 fun a6 h7 =>
 ∃(J8:HJq),(∀(f9:Nat->D) (h10:Heap),J8 [f9 5] h10 ->
 vcond (f9 5) (K (.bool true) h10) (
 vbin .eql a6 (.int .i64 5) fun a11 =>
 vcond a11 (aa PP (.fadd (.c a2) 1) h10 fun a12 h13 =>
 aa PP (.ld (.c a12) 1 false) h13 fun a14 h15 =>
 vbin .eql a14 (.int .i64 3) fun a16 =>
 vguard a16 false (fun G17 =>
 aa PP (.fadd (.c a2) 1) h15 fun a20 h21 =>
 G17 a20 h21) h15 fun a18 h19 =>
 vguard a16 false (fun G22 =>
 aa PP (.ld (.c a18) 1 false) h19 fun a25 h26 =>
 G22 a25 h26) h19 fun a23 h24 =>
 vguard a16 false (fun G27 =>
 vbin .eql a23 (.int .i64 4) fun a30 =>
 G27 a30 h24) h24 fun a28 h29 =>
 aa PP (.pick (.c a16) (.c (.bool true)) (.c a28)) h29 fun a31 h32 =>
 vguard a31 false (fun G33 =>
 aa PP (.fadd (.c a2) 1) h32 fun a36 h37 =>
 G33 a36 h37) h32 fun a34 h35 =>
 vguard a31 false (fun G38 =>
 aa PP (.ld (.c a34) 1 false) h35 fun a41 h42 =>
 G38 a41 h42) h35 fun a39 h40 =>
 vguard a31 false (fun G43 =>
 vbin .eql a39 (.int .i64 5) fun a46 =>
 G43 a46 h40) h40 fun a44 h45 =>
 aa PP (.pick (.c a31) (.c (.bool true)) (.c a44)) h45 fun a47 h48 =>
 K a47 h48) (
 K (.bool false) h10))) /\
 vbin .eql a6 (.int .i64 1) fun a49 =>
 vcond a49 (aI [a2,a6] [a2,a6]/\J8 [a49] h7) (
 vbin .eql a6 (.int .i64 2) fun a50 =>
 vcond a50 (aI [a2,a6] [a2,a6]/\J8 [a50] h7) (
 vbin .eql a6 (.int .i64 3) fun a51 =>
 vcond a51 (aI [a2,a6] [a2,a6]/\J8 [a51] h7) (
 vbin .eql a6 (.int .i64 4) fun a52 =>
 vcond a52 (aI [a2,a6] [a2,a6]/\J8 [a52] h7) (
 vbin .eql a6 (.int .i64 6) fun a53 =>
 aI [a2,a6] [a2,a6]/\J8 [a53] h7))))
theorem yM (a0:D) (h0:Heap) (K:HKq):tx a0 h0 K=ga tX K [a0] h0:=by kernel_rfl
def dV:TLq
 | 1000005=>some ([2],[])|4000004=>some ([2],[])|_=>none
def ep:TTq
 | _=>none
noncomputable abbrev b8:=cFn PP true br dV (cDr PP 13 ep)
noncomputable def ca:aQ:=⟨13,aV b8,[.t 4]⟩
theorem eg:b8=some ca:=by kernel_rfl
def bj:ACode:=.reg [⟨(some 5),.alloc (.agg [(.bool false),(.int .i64 0),.nil,(.bool false)]),none⟩,
  ⟨none,.st (.t 5) (.t 7) 4,none⟩]
def bh:ACode:=.block 1 (.reg [⟨(some 8),.ld (.t 2) 1 false,none⟩,
  ⟨(some 9),.ld (.t 5) 4 true,none⟩,
  ⟨(some 10),.bldS true 4 1 (.agg [(.bool false),(.int .i64 0),.nil,(.bool false)]) [(0,(.t 9))],none⟩,
  ⟨(some 11),.app (.t 8) (.t 10) 4 48 (.agg [(.bool false),(.int .i64 0),.nil,(.bool false)]),none⟩,
  ⟨none,.st (.t 2) (.t 11) 1,none⟩])
def bJ (n0:Nat) (B0:cV) (a7:D) (a2:D) (h0:Heap) (K:HKq):Prop :=
 aa PP (.alloc (.agg [(.bool false),zI,.nil,(.bool false)])) h0 fun a100000 h100001 =>
 aa PP (.st (.c a100000) (.c a7) 4) h100001 fun a100002 h100003 =>
 Ex.normal=Ex.normal/\h100003 n0=.lp .ready B0/\aa PP (.ld (.c a2) 1 false) (aD h100003 n0 (.lp .busy B0)) fun a100004 h100005 =>
 aa PP (.ld (.c a100000) 4 true) h100005 fun a100006 h100007 =>
 aa PP (.bldS true 4 1 (.agg [(.bool false),zI,.nil,(.bool false)]) [(0,(.c a100006))]) h100007 fun a100008 h100009 =>
 aa PP (.app (.c a100004) (.c a100008) 4 48 (.agg [(.bool false),zI,.nil,(.bool false)])) h100009 fun a100010 h100011 =>
 aa PP (.st (.c a2) (.c a100010) 1) h100011 fun a100012 h100013 =>
 h100013 n0=.lp .busy B0/\K (.bool true) (aD h100013 n0 (.lp .ready B0))
theorem dG (n0:Nat) (B0:cV) (a7:D) (a2:D) (h0:Heap) (K:HKq):bJ n0 B0 a7 a2 h0 K=Fz PP n0 B0 [7] [a7] [(2,a2)] bj bh h0 K:=by kernel_rfl
def bZ (a0:D) (a1:D) (h0:Heap) (K:HKq):Prop :=
 aa PP (.box (.c a0)) h0 fun a3 h4 =>
 ∃(J5:HJq),(∀(f6:Nat->D) (h7:Heap),J5 [] h7 ->
 aa PP (.ld (.c a3) 1 false) h7 fun a8 h9 =>
 K a8 h9) /\
 Ik PP a1 [7] [(2,a3)] bj bh h4 fun n10 h11=>ff n10 h11 (
 aI [a3] [a3]/\J5 [] (aD h11 n10 .dead)) (fun i0=>False) (False)
theorem eb (a0:D) (a1:D) (h0:Heap) (K:HKq):bZ a0 a1 h0 K=ga ca K [a0,a1] h0:=by kernel_rfl
end Go.Am
namespace Go.Am
open Go Go.Proofs
def yo:TLq
 | 1000027=>some ([3],[])|5=>some ([1,3,4,5,24,25],[26])|1000026=>some ([1,3,4,5,24,25,26],[])|1000019=>some ([1,3,4,5,6,9,24,25,26],[])|11=>some ([1,3,4,5,6,9,24,25,26,47,48],[49])|1000018=>some ([1,3,4,5,6,9,24,25,26,47,48,49],[])|4000016=>some ([1,3,4,5,6,9,24,25,26,47,48,49],[4])|20=>some ([1,3,4,5,6,24,25,26,71,72],[73])|1000025=>some ([1,3,4,5,6,24,25,26,71,72,73],[])|_=>none
def BF:TTq
 | 8=>some ([0,1,3,7,0,31,63,127,255,511,1023,2047,4095],[],[])|23=>some ([0,0,0,0,12,28,0,64,252,511,1023],[8,10],[9])|_=>none
noncomputable abbrev vZ:=cFn PP true oT yo (cDr PP 95 BF)
noncomputable def wz:aQ:=⟨95,aV vZ,[.t 2]⟩
theorem AP:vZ=some wz:=by kernel_rfl
def kH:ACode:=.reg [⟨(some 12),.mov (.t 56),none⟩]
def kG:ACode:=.block 5 (.seq (.seq (.reg [⟨(some 57),.mov (.t 12),none⟩,
  ⟨(some 58),.ld (.t 5) 1 false,none⟩,
  ⟨(some 59),.ld (.t 6) 1 false,none⟩,
  ⟨(some 60),.iadd (.t 58) (.t 59) 1,none⟩,
  ⟨(some 61),.ld (.t 60) 1 false,none⟩,
  ⟨(some 62),.bin .eql (.t 57) (.t 61),none⟩]) <|
 .cond (.t 62) (.exit 4) (.skip)) <|
 .reg [⟨(some 63),.ld (.t 9) 1 false,none⟩,
  ⟨(some 64),.mov (.t 12),none⟩,
  ⟨(some 65),.bldS true 1 1 (.int .i64 0) [(0,(.t 64))],none⟩,
  ⟨(some 66),.app (.t 63) (.t 65) 1 8 (.int .i64 0),none⟩,
  ⟨none,.st (.t 9) (.t 66) 1,none⟩])
def kD (n0:Nat) (B0:cV) (a56:D) (a1:D) (a3:D) (a4:D) (a5:D) (a6:D) (a9:D) (a24:D) (a25:D) (a26:D) (a47:D) (a48:D) (a49:D) (h0:Heap) (K:HKq):Prop :=
 Ex.normal=Ex.normal/\h0 n0=.lp .ready B0/\aa PP (.ld (.c a5) 1 false) (aD h0 n0 (.lp .busy B0)) fun a100000 h100001 =>
 aa PP (.ld (.c a6) 1 false) h100001 fun a100002 h100003 =>
 aa PP (.iadd (.c a100000) (.c a100002) 1) h100003 fun a100004 h100005 =>
 aa PP (.ld (.c a100004) 1 false) h100005 fun a100006 h100007 =>
 vbin .eql a56 a100006 fun a100008 =>
 vcond a100008 (h100007 n0=.lp .busy B0/\K (.bool false) (aD h100007 n0 (.lp (.done (.exit 4)) B0))) (
 aa PP (.ld (.c a9) 1 false) h100007 fun a100009 h100010 =>
 aa PP (.bldS true 1 1 (.int .i64 0) [(0,(.c a56))]) h100010 fun a100011 h100012 =>
 aa PP (.app (.c a100009) (.c a100011) 1 8 (.int .i64 0)) h100012 fun a100013 h100014 =>
 aa PP (.st (.c a9) (.c a100013) 1) h100014 fun a100015 h100016 =>
 h100016 n0=.lp .busy B0/\K (.bool true) (aD h100016 n0 (.lp .ready B0)))
theorem uZ (n0:Nat) (B0:cV) (a56:D) (a1:D) (a3:D) (a4:D) (a5:D) (a6:D) (a9:D) (a24:D) (a25:D) (a26:D) (a47:D) (a48:D) (a49:D) (h0:Heap) (K:HKq):kD n0 B0 a56 a1 a3 a4 a5 a6 a9 a24 a25 a26 a47 a48 a49 h0 K=Fz PP n0 B0 [56] [a56] [(1,a1),(3,a3),(4,a4),(5,a5),(6,a6),(9,a9),(24,a24),(25,a25),(26,a26),(47,a47),(48,a48),(49,a49)] kH kG h0 K:=by kernel_rfl
def gI (h87:Heap) (a88:D) (a2:D) (a9:D) (a13:D) (a17:D) (a42:D) (a26:D) (a28:D) (f31:Nat->D) (a86:D) (J34:HJq):Prop :=
 ∃(I89:Nat->HJq) (n₀:Nat),I89 n₀ [(.int .i64 0)] h87/\∀(n90:Nat) (f91:Nat->D) (h92:Heap),I89 n90 [f91 73] h92 ->
 vbin .lss (f91 73) a88 fun a93 =>
 vcond a93 (∃(J94:HJq),(∀(f95:Nat->D) (h96:Heap),J94 [] h96 ->
 vbin .add (f91 73) (.int .i64 1) fun a97 =>
 aI [a2,a9,a13,a17,a42,a26,a28,(f31 26),a86,a88] [a2,a9,a13,a17,a42,a26,a28,(f31 26),a86,a88]/\∃m,m<n90/\I89 m [a97] h96) /\
 aa PP (.iadd (.c a86) (.c (f91 73)) 1) h92 fun a98 h99 =>
 aa PP (.ld (.c a98) 1 false) h99 fun a100 h101 =>
 aa PP (.fadd (.c a2) 7) h101 fun a102 h103 =>
 aa PP (.ld (.c a102) 1 false) h103 fun a104 h105 =>
 aR a104 h105 fun a106 =>
 vbin .lss a100 a106 fun a107 =>
 vcond a107 (ae PP (.iadd (.c a9) (.c a100) 1) h105 fun a108 =>
 ae PP (.ld (.c a108) 1 false) h105 fun a109 =>
 ae PP (.ld (.c a42) 1 false) h105 fun a110 =>
 ae PP (.bldS false 1 1 (.int .i64 0) [(0,(.c a110))]) h105 fun a111 =>
 ae PP (.iadd (.c a9) (.c a100) 1) h105 fun a112 =>
 aa PP (.app (.c a109) (.c a111) 1 8 (.int .i64 0)) h105 fun a113 h114 =>
 ((ae PP (.iadd (.c a9) (.c a100) 1) h114 fun a115=>aI [a115] [a112])/\True) /\
 aa PP (.st (.c a112) (.c a113) 1) h114 fun a116 h117 =>
 ((ae PP (.iadd (.c a9) (.c a100) 1) h117 fun a118=>aI [a118] [a112])/\True) /\
 aI [a2,a9,a13,a17,a42,a26,a28,(f31 26),a86,a88,(f91 73)] [a2,a9,a13,a17,a42,a26,a28,(f31 26),a86,a88,(f91 73)]/\J94 [] h117) (
 aI [a2,a9,a13,a17,a42,a26,a28,(f31 26),a86,a88,(f91 73)] [a2,a9,a13,a17,a42,a26,a28,(f31 26),a86,a88,(f91 73)]/\J94 [] h105)) (
 aI [a2,a9,a13,a17,a26,a28,(f31 26)] [a2,a9,a13,a17,a26,a28,(f31 26)]/\J34 [] h92)
def kF (h76:Heap) (a119:D) (a2:D) (a9:D) (a13:D) (a17:D) (a42:D) (a75:D) (a26:D) (a28:D) (f31:Nat->D) (a54:D) (J77:HJq) (K:HKq):Prop :=
 ∃(I120:Nat->HJq) (n₀:Nat),I120 n₀ [(.int .i64 0)] h76/\∀(n121:Nat) (f122:Nat->D) (h123:Heap),I120 n121 [f122 49] h123 ->
 vbin .lss (f122 49) a119 fun a124 =>
 vcond a124 (∃(J125:HJq),(∀(f126:Nat->D) (h127:Heap),J125 [] h127 ->
 vbin .add (f122 49) (.int .i64 1) fun a128 =>
 aI [a2,a9,a13,a17,a42,a75,a26,a28,(f31 26),a54,a119] [a2,a9,a13,a17,a42,a75,a26,a28,(f31 26),a54,a119]/\∃m,m<n121/\I120 m [a128] h127) /\
 aa PP (.iadd (.c a54) (.c (f122 49)) 1) h123 fun a129 h130 =>
 aa PP (.ld (.c a129) 1 false) h130 fun a131 h132 =>
 aa PP (.ld (.c a17) 1 false) h132 fun a133 h134 =>
 ai PP AY [a133,a131] h134 fun a135 h136 =>
 Ik PP a135 [56] [(1,a2),(3,a9),(4,a13),(5,a17),(6,a42),(9,a75),(24,a26),(25,a28),(26,(f31 26)),(47,a54),(48,a119),(49,(f122 49))] kH kG h136 fun n137 h138=>ff n137 h138 (
 aI [a2,a9,a13,a17,a42,a75,a26,a28,(f31 26),a54,a119,(f122 49)] [a2,a9,a13,a17,a42,a75,a26,a28,(f31 26),a54,a119,(f122 49)]/\J125 [] (aD h138 n137 .dead)) (fun i0=>(i0=4/\(aI [a2,a9,a13,a17,a42,a75,a26,a28,(f31 26),a54,a119,(f122 49)] [a2,a9,a13,a17,a42,a75,a26,a28,(f31 26),a54,a119,(f122 49)]/\J125 [] (aD h138 n137 .dead)))\/(False)) ((4=1000000/\(K .undef (aD h138 n137 .dead)))\/(False))) (
 aI [a2,a9,a13,a17,a42,a75,a26,a28,(f31 26)] [a2,a9,a13,a17,a42,a75,a26,a28,(f31 26)]/\J77 [] h123)
def kE (h27:Heap) (a28:D) (a2:D) (a9:D) (a13:D) (a17:D) (a26:D) (J21:HJq) (K:HKq):Prop :=
 ∃(I29:Nat->HJq) (n₀:Nat),I29 n₀ [(.int .i64 0)] h27/\∀(n30:Nat) (f31:Nat->D) (h32:Heap),I29 n30 [f31 26] h32 ->
 vbin .lss (f31 26) a28 fun a33 =>
 vcond a33 (∃(J34:HJq),(∀(f35:Nat->D) (h36:Heap),J34 [] h36 ->
 vbin .add (f31 26) (.int .i64 1) fun a37 =>
 aI [a2,a9,a13,a17,a26,a28] [a2,a9,a13,a17,a26,a28]/\∃m,m<n30/\I29 m [a37] h36) /\
 aa PP (.iadd (.c a26) (.c (f31 26)) 14) h32 fun a38 h39 =>
 aa PP (.ld (.c a38) 14 true) h39 fun a40 h41 =>
 aa PP (.alloc (.int .i64 0)) h41 fun a42 h43 =>
 aa PP (.alloc (.agg [.nil,zI,zI,zI,zI,zJ,zI,zI,zJ,zI,zI,zJ,zI,zI])) h43 fun a44 h45 =>
 aa PP (.st (.c a42) (.c (f31 26)) 1) h45 fun a46 h47 =>
 aa PP (.st (.c a44) (.c a40) 14) h47 fun a48 h49 =>
 aa PP (.fadd (.c a44) 1) h49 fun a50 h51 =>
 aa PP (.ld (.c a50) 13 true) h51 fun a52 h53 =>
 ai PP kW [a52] h53 fun a54 h55 =>
 ae PP (.fadd (.c a13) 0) h55 fun a56 =>
 ae PP (.fadd (.c a56) 2) h55 fun a57 =>
 ae PP (.ld (.c a57) 1 false) h55 fun a58 =>
 ae PP (.ld (.c a42) 1 false) h55 fun a59 =>
 ae PP (.iadd (.c a58) (.c a59) 1) h55 fun a60 =>
 ae PP (.ld (.c a60) 1 false) h55 fun a61 =>
 vbin .lss a61 (.int .i64 0) fun a62 =>
 aF a62 false (fun G63 =>
 G63 a54) fun a64 =>
 aF a62 false (fun G66 =>
 aR a64 h55 fun a140 =>
 G66 a140) fun a67 =>
 aF a62 false (fun G70 =>
 vbin .neq a67 (.int .i64 2) fun a139 =>
 G70 a139) fun a71 =>
 ae PP (.pick (.c a62) (.c (.bool true)) (.c a71)) h55 fun a74 =>
 vcond a74 (aI [a2,a9,a13,a17,a26,a28,(f31 26)] [a2,a9,a13,a17,a26,a28,(f31 26)]/\J34 [] h55) (
 aa PP (.alloc .nil) h55 fun a75 h76 =>
 ∃(J77:HJq),(∀(f78:Nat->D) (h79:Heap),J77 [] h79 ->
 aa PP (.ld (.c a75) 1 false) h79 fun a80 h81 =>
 ai PP dj [a80] h81 fun a82 h83 =>
 aa PP (.ld (.c a75) 1 false) h83 fun a84 h85 =>
 ai PP cG [a84] h85 fun a86 h87 =>
 aR a86 h87 fun a88 =>
 gI h87 a88 a2 a9 a13 a17 a42 a26 a28 f31 a86 J34) /\
 aR a54 h76 fun a119 =>
 kF h76 a119 a2 a9 a13 a17 a42 a75 a26 a28 f31 a54 J77 K)) (
 aI [a9] [a9]/\J21 [] h32)
def vO (a0:D) (h0:Heap) (K:HKq):Prop :=
 aa PP (.box (.c a0)) h0 fun a2 h3 =>
 aa PP (.fadd (.c a2) 7) h3 fun a4 h5 =>
 aa PP (.ld (.c a4) 1 false) h5 fun a6 h7 =>
 aR a6 h7 fun a8 =>
 aa PP (.mk 1 24 .nil (.c a8) (.c a8)) h7 fun a9 h10 =>
 aa PP (.ld (.c a2) 8 true) h10 fun a11 h12 =>
 ai PP wZ [a11] h12 fun a13 h14 =>
 ai PP lG [a13] h14 fun a15 h16 =>
 aa PP (.alloc .nil) h16 fun a17 h18 =>
 aa PP (.st (.c a17) (.c a15) 1) h18 fun a19 h20 =>
 ∃(J21:HJq),(∀(f22:Nat->D) (h23:Heap),J21 [] h23 ->
 K a9 h23) /\
 aa PP (.fadd (.c a2) 7) h20 fun a24 h25 =>
 aa PP (.ld (.c a24) 1 false) h25 fun a26 h27 =>
 aR a26 h27 fun a28 =>
 kE h27 a28 a2 a9 a13 a17 a26 J21 K
theorem AF (a0:D) (h0:Heap) (K:HKq):vO a0 h0 K=ga wz K [a0] h0:=by kernel_rfl
def qu:TLq
 | 1=>some ([0,1,2,3,16,17],[18])|1000021=>some ([0,1,2,3,16,17,18],[])|1000013=>some ([0,1,2,3,6,7,16,17,18],[])|7=>some ([0,1,2,3,6,7,16,17,18,38,39],[40])|1000019=>some ([0,1,2,3,6,16,17,18],[])|13=>some ([0,1,2,3,6,7,16,17,18,65,66],[67])|_=>none
def sF:TTq
 | 15=>some ([0,1,3,0,8,0,32,0,128,504,1019,0,2048,8187,0,32763,65535,0,262143],[1,10,13,15,17,18],[999996,4])|_=>none
noncomputable abbrev np:=cFn PP true cj qu (cDr PP 113 sF)
noncomputable def nF:aQ:=⟨113,aV np,[]⟩
theorem sq:np=some nF:=by kernel_rfl
def fY (h90:Heap) (a91:D) (a89:D) (a29:D) (a0:D) (a1:D) (a2:D) (a3:D) (a23:D) (a7:D) (a9:D) (f12:Nat->D) (J50:HJq) (K:HKq):Prop :=
 ∃(I92:Nat->HJq) (n₀:Nat),I92 n₀ [(.int .i64 0)] h90/\∀(n93:Nat) (f94:Nat->D) (h95:Heap),I92 n93 [f94 67] h95 ->
 vbin .lss (f94 67) a91 fun a96 =>
 vcond a96 (aa PP (.iadd (.c a89) (.c (f94 67)) 15) h95 fun a97 h98 =>
 aa PP (.ld (.c a97) 15 true) h98 fun a99 h100 =>
 aa PP (.alloc (.agg [zI,zI,zI,zI,zI,zJ,zI,zI,zJ,zI,zI,zJ,zI,zI,zJ])) h100 fun a101 h102 =>
 aa PP (.st (.c a101) (.c a99) 15) h102 fun a103 h104 =>
 ae PP (.ld (.c a101) 15 true) h104 fun a105 =>
 ae PP (.fadd (.c a101) 6) h104 fun a106 =>
 ae PP (.ld (.c a106) 3 true) h104 fun a107 =>
 ae PP (.fadd (.c a101) 9) h104 fun a108 =>
 ae PP (.ld (.c a108) 3 true) h104 fun a109 =>
 ae PP (.fadd (.c a101) 12) h104 fun a110 =>
 ae PP (.ld (.c a110) 3 true) h104 fun a111 =>
 ae PP (.bldS false 3 3 (.agg [zI,zI,zJ]) [(0,(.c a107)),(1,(.c a109)),(2,(.c a111))]) h104 fun a112 =>
 ae PP (.ld (.c a29) 2 true) h104 fun a113 =>
 ae PP (.bldS false 2 1 (.agg [(.bool false),zI]) [(0,(.c a113))]) h104 fun a114 =>
 ae PP (.ld (.c a101) 15 true) h104 fun a115 =>
 ai PP w6 [a105] h104 fun a116 h117 =>
 ((ae PP (.fadd (.c a101) 6) h117 fun a118=>aI [a118] [a106])/\(ae PP (.ld (.c a106) 3 true) h117 fun a119=>aI [a119] [a107])/\(ae PP (.fadd (.c a101) 9) h117 fun a120=>aI [a120] [a108])/\(ae PP (.ld (.c a108) 3 true) h117 fun a121=>aI [a121] [a109])/\(ae PP (.fadd (.c a101) 12) h117 fun a122=>aI [a122] [a110])/\(ae PP (.ld (.c a110) 3 true) h117 fun a123=>aI [a123] [a111])/\(ae PP (.ld (.c a29) 2 true) h117 fun a124=>aI [a124] [a113])/\(ae PP (.ld (.c a101) 15 true) h117 fun a125=>aI [a125] [a115])/\True) /\
 ae PP (.bld [(.bool false),zI] [(1,1,(.c a116))]) h117 fun a126 =>
 ai PP db [a112] h117 fun a127 h128 =>
 ((ae PP (.ld (.c a29) 2 true) h128 fun a129=>aI [a129] [a113])/\(ae PP (.ld (.c a101) 15 true) h128 fun a130=>aI [a130] [a115])/\True) /\
 aa PP (.app (.c a127) (.c a114) 2 16 (.agg [(.bool false),zI])) h128 fun a131 h132 =>
 ((ae PP (.ld (.c a101) 15 true) h132 fun a133=>aI [a133] [a115])/\True) /\
 ai PP kn [a115] h132 fun a134 h135 =>
 ae PP (.bld [(.bool false),zI,.nil,(.bool false)] [(0,2,(.c a126)),(2,1,(.c a131)),(3,1,(.c a134))]) h135 fun a136 =>
 aa PP (.alloc (.agg [(.bool false),zI,.nil,(.bool false)])) h135 fun a137 h138 =>
 ((ae PP (.ld (.c a101) 15 true) h138 fun a139=>aI [a139] [a105])/\(ae PP (.fadd (.c a101) 6) h138 fun a140=>aI [a140] [a106])/\(ae PP (.ld (.c a106) 3 true) h138 fun a141=>aI [a141] [a107])/\(ae PP (.fadd (.c a101) 9) h138 fun a142=>aI [a142] [a108])/\(ae PP (.ld (.c a108) 3 true) h138 fun a143=>aI [a143] [a109])/\(ae PP (.fadd (.c a101) 12) h138 fun a144=>aI [a144] [a110])/\(ae PP (.ld (.c a110) 3 true) h138 fun a145=>aI [a145] [a111])/\(ae PP (.ld (.c a29) 2 true) h138 fun a146=>aI [a146] [a113])/\(ae PP (.ld (.c a101) 15 true) h138 fun a147=>aI [a147] [a115])/\True) /\
 aa PP (.st (.c a137) (.c a136) 4) h138 fun a148 h149 =>
 aa PP (.fadd (.c a137) 0) h149 fun a150 h151 =>
 aa PP (.fadd (.c a150) 1) h151 fun a152 h153 =>
 aa PP (.ld (.c a152) 1 false) h153 fun a154 h155 =>
 vbin .geq a154 (.int .i64 0) fun a156 =>
 vguard a156 true (fun G157 =>
 G157 a0 h155) h155 fun a158 h159 =>
 vguard a156 true (fun G160 =>
 aa PP (.ld (.c a137) 4 true) h159 fun a163 h164 =>
 G160 a163 h164) h159 fun a161 h162 =>
 vguard a156 true (fun G165 =>
 aa PP (.callv (.c a158) [(.c a161)]) h162 fun a168 h169 =>
 G165 a168 h169) h162 fun a166 h167 =>
 vguard a156 true (fun G170 =>
 vun .not a166 fun a173 =>
 G170 a173 h167) h167 fun a171 h172 =>
 aa PP (.pick (.c a156) (.c a171) (.c (.bool false))) h172 fun a174 h175 =>
 vcond a174 (K (.tup []) h175) (
 vbin .add (f94 67) (.int .i64 1) fun a176 =>
 aI [a0,a1,a2,a3,a23,a29,a7,a9,(f12 18),a89,a91] [a0,a1,a2,a3,a23,a29,a7,a9,(f12 18),a89,a91]/\∃m,m<n93/\I92 m [a176] h175)) (
 aI [a0,a1,a2,a3,a23,a7,a9,(f12 18)] [a0,a1,a2,a3,a23,a7,a9,(f12 18)]/\J50 [] h95)
def dT (h182:Heap) (a183:D) (a181:D) (a1:D) (a29:D) (a0:D) (a2:D) (a3:D) (a23:D) (a7:D) (a9:D) (f12:Nat->D) (J47:HJq) (K:HKq):Prop :=
 ∃(I184:Nat->HJq) (n₀:Nat),I184 n₀ [(.int .i64 0)] h182/\∀(n185:Nat) (f186:Nat->D) (h187:Heap),I184 n185 [f186 40] h187 ->
 vbin .lss (f186 40) a183 fun a188 =>
 vcond a188 (aa PP (.iadd (.c a181) (.c (f186 40)) 1) h187 fun a189 h190 =>
 aa PP (.ld (.c a189) 1 false) h190 fun a191 h192 =>
 aa PP (.fadd (.c a1) 7) h192 fun a193 h194 =>
 aa PP (.ld (.c a193) 1 false) h194 fun a195 h196 =>
 aa PP (.iadd (.c a195) (.c a191) 14) h196 fun a197 h198 =>
 aa PP (.fadd (.c a197) 1) h198 fun a199 h200 =>
 aa PP (.fadd (.c a199) 5) h200 fun a201 h202 =>
 aa PP (.ld (.c a201) 3 true) h202 fun a203 h204 =>
 aa PP (.bldS true 3 1 (.agg [zI,zI,zJ]) [(0,(.c a203))]) h204 fun a205 h206 =>
 ai PP db [a205] h206 fun a207 h208 =>
 aa PP (.bld [(.bool false),zI] [(0,1,(.c (.bool true))),(1,1,(.c a191))]) h208 fun a209 h210 =>
 aa PP (.bldS true 2 1 (.agg [(.bool false),zI]) [(0,(.c a209))]) h210 fun a211 h212 =>
 aa PP (.app (.c a207) (.c a211) 2 16 (.agg [(.bool false),zI])) h212 fun a213 h214 =>
 aa PP (.ld (.c a29) 2 true) h214 fun a215 h216 =>
 aa PP (.bld [(.bool false),zI,.nil,(.bool false)] [(0,2,(.c a215)),(2,1,(.c a213))]) h216 fun a217 h218 =>
 aa PP (.callv (.c a0) [(.c a217)]) h218 fun a219 h220 =>
 vun .not a219 fun a221 =>
 vcond a221 (K (.tup []) h220) (
 vbin .add (f186 40) (.int .i64 1) fun a222 =>
 aI [a0,a1,a2,a3,a23,a29,a7,a9,(f12 18),a181,a183] [a0,a1,a2,a3,a23,a29,a7,a9,(f12 18),a181,a183]/\∃m,m<n185/\I184 m [a222] h220)) (
 aI [a0,a1,a2,a3,a23,a29,a7,a9,(f12 18)] [a0,a1,a2,a3,a23,a29,a7,a9,(f12 18)]/\J47 [] h187)
def kf (h8:Heap) (a9:D) (a0:D) (a1:D) (a2:D) (a3:D) (a7:D) (K:HKq):Prop :=
 ∃(I10:Nat->HJq) (n₀:Nat),I10 n₀ [(.int .i64 0)] h8/\∀(n11:Nat) (f12:Nat->D) (h13:Heap),I10 n11 [f12 18] h13 ->
 vbin .lss (f12 18) a9 fun a14 =>
 vcond a14 (∃(J15:HJq),(∀(f16:Nat->D) (h17:Heap),J15 [] h17 ->
 vbin .add (f12 18) (.int .i64 1) fun a18 =>
 aI [a0,a1,a2,a3,a7,a9] [a0,a1,a2,a3,a7,a9]/\∃m,m<n11/\I10 m [a18] h17) /\
 aa PP (.iadd (.c a7) (.c (f12 18)) 14) h13 fun a19 h20 =>
 aa PP (.ld (.c a19) 14 true) h20 fun a21 h22 =>
 aa PP (.alloc (.agg [.nil,zI,zI,zI,zI,zJ,zI,zI,zJ,zI,zI,zJ,zI,zI])) h22 fun a23 h24 =>
 aa PP (.st (.c a23) (.c a21) 14) h24 fun a25 h26 =>
 aa PP (.bld [(.bool false),zI] [(0,1,(.c (.bool true))),(1,1,(.c (f12 18)))]) h26 fun a27 h28 =>
 aa PP (.alloc (.agg [(.bool false),zI])) h28 fun a29 h30 =>
 aa PP (.st (.c a29) (.c a27) 2) h30 fun a31 h32 =>
 aa PP (.ld (.c a2) 1 false) h32 fun a33 h34 =>
 aa PP (.iadd (.c a33) (.c (f12 18)) 1) h34 fun a35 h36 =>
 aa PP (.ld (.c a35) 1 false) h36 fun a37 h38 =>
 vun .not a37 fun a39 =>
 vcond a39 (aa PP (.ld (.c a29) 2 true) h38 fun a40 h41 =>
 aa PP (.bld [(.bool false),zI,.nil,(.bool false)] [(0,2,(.c a40)),(3,1,(.c (.bool true)))]) h41 fun a42 h43 =>
 aa PP (.callv (.c a0) [(.c a42)]) h43 fun a44 h45 =>
 vun .not a44 fun a46 =>
 vcond a46 (K (.tup []) h45) (
 aI [a0,a1,a2,a3,a7,a9,(f12 18)] [a0,a1,a2,a3,a7,a9,(f12 18)]/\J15 [] h45)) (
 ∃(J47:HJq),(∀(f48:Nat->D) (h49:Heap),J47 [] h49 ->
 ∃(J50:HJq),(∀(f51:Nat->D) (h52:Heap),J50 [] h52 ->
 aa PP (.fadd (.c a23) 1) h52 fun a53 h54 =>
 aa PP (.ld (.c a53) 13 true) h54 fun a55 h56 =>
 ai PP sS [a55] h56 fun a57 h58 =>
 vbin .geq a57 (.int .i64 0) fun a59 =>
 vguard a59 true (fun G60 =>
 G60 a0 h58) h58 fun a61 h62 =>
 vguard a59 true (fun G63 =>
 G63 a57 h62) h62 fun a64 h65 =>
 vguard a59 true (fun G66 =>
 aa PP (.bld [(.bool false),zI] [(1,1,(.c a64))]) h65 fun a69 h70 =>
 G66 a69 h70) h65 fun a67 h68 =>
 vguard a59 true (fun G71 =>
 aa PP (.bld [(.bool false),zI,.nil,(.bool false)] [(0,2,(.c a67)),(3,1,(.c (.bool true)))]) h68 fun a74 h75 =>
 G71 a74 h75) h68 fun a72 h73 =>
 vguard a59 true (fun G76 =>
 aa PP (.callv (.c a61) [(.c a72)]) h73 fun a79 h80 =>
 G76 a79 h80) h73 fun a77 h78 =>
 vguard a59 true (fun G81 =>
 vun .not a77 fun a84 =>
 G81 a84 h78) h78 fun a82 h83 =>
 aa PP (.pick (.c a59) (.c a82) (.c (.bool false))) h83 fun a85 h86 =>
 vcond a85 (K (.tup []) h86) (
 aI [a0,a1,a2,a3,a7,a9,(f12 18)] [a0,a1,a2,a3,a7,a9,(f12 18)]/\J15 [] h86)) /\
 aa PP (.fadd (.c a23) 0) h49 fun a87 h88 =>
 aa PP (.ld (.c a87) 1 false) h88 fun a89 h90 =>
 aR a89 h90 fun a91 =>
 fY h90 a91 a89 a29 a0 a1 a2 a3 a23 a7 a9 f12 J50 K) /\
 aa PP (.ld (.c a3) 1 false) h38 fun a177 h178 =>
 aa PP (.iadd (.c a177) (.c (f12 18)) 1) h178 fun a179 h180 =>
 aa PP (.ld (.c a179) 1 false) h180 fun a181 h182 =>
 aR a181 h182 fun a183 =>
 dT h182 a183 a181 a1 a29 a0 a2 a3 a23 a7 a9 f12 J47 K)) (
 K (.tup []) h13)
def mX (a0:D) (a1:D) (a2:D) (a3:D) (h0:Heap) (K:HKq):Prop :=
 aa PP (.fadd (.c a1) 7) h0 fun a5 h6 =>
 aa PP (.ld (.c a5) 1 false) h6 fun a7 h8 =>
 aR a7 h8 fun a9 =>
 kf h8 a9 a0 a1 a2 a3 a7 K
theorem sg (a0:D) (a1:D) (a2:D) (a3:D) (h0:Heap) (K:HKq):mX a0 a1 a2 a3 h0 K=ga nF K [a0,a1,a2,a3] h0:=by kernel_rfl
def pq:TLq
 | 1000009=>some ([],[3])|3=>some ([6,7],[3,8])|1000008=>some ([6,7,8],[3])|_=>none
def rO:TTq
 | _=>none
noncomputable abbrev lZ:=cFn PP true db pq (cDr PP 23 rO)
noncomputable def l8:aQ:=⟨23,aV lZ,[.t 2]⟩
theorem jT:lZ=some l8:=by kernel_rfl
def fM (h0:Heap) (a5:D) (a0:D) (J2:HJq):Prop :=
 ∃(I6:Nat->HJq) (n₀:Nat),I6 n₀ [.nil,(.int .i64 0)] h0/\∀(n7:Nat) (f8:Nat->D) (h9:Heap),I6 n7 [f8 3,f8 8] h9 ->
 vbin .lss (f8 8) a5 fun a10 =>
 vcond a10 (∃(J11:HJq),(∀(f12:Nat->D) (h13:Heap),J11 [f12 3] h13 ->
 vbin .add (f8 8) (.int .i64 1) fun a14 =>
 aI [a0,a5] [a0,a5]/\∃m,m<n7/\I6 m [(f12 3),a14] h13) /\
 aa PP (.iadd (.c a0) (.c (f8 8)) 3) h9 fun a15 h16 =>
 aa PP (.ld (.c a15) 3 true) h16 fun a17 h18 =>
 aa PP (.alloc (.agg [zI,zI,zJ])) h18 fun a19 h20 =>
 aa PP (.st (.c a19) (.c a17) 3) h20 fun a21 h22 =>
 aa PP (.fadd (.c a19) 0) h22 fun a23 h24 =>
 aa PP (.ld (.c a23) 1 false) h24 fun a25 h26 =>
 vbin .eql a25 (.int .i64 2) fun a27 =>
 vcond a27 (aa PP (.fadd (.c a19) 1) h26 fun a28 h29 =>
 aa PP (.ld (.c a28) 1 false) h29 fun a30 h31 =>
 aa PP (.bld [(.bool false),zI] [(1,1,(.c a30))]) h31 fun a32 h33 =>
 aa PP (.bldS true 2 1 (.agg [(.bool false),zI]) [(0,(.c a32))]) h33 fun a34 h35 =>
 aa PP (.app (.c (f8 3)) (.c a34) 2 16 (.agg [(.bool false),zI])) h35 fun a36 h37 =>
 aI [a0,a5,(f8 8)] [a0,a5,(f8 8)]/\J11 [a36] h37) (
 aI [a0,a5,(f8 8)] [a0,a5,(f8 8)]/\J11 [(f8 3)] h26)) (
 aI [] []/\J2 [(f8 3)] h9)
def gZ (a0:D) (h0:Heap) (K:HKq):Prop :=
 ∃(J2:HJq),(∀(f3:Nat->D) (h4:Heap),J2 [f3 3] h4 ->
 K (f3 3) h4) /\
 aR a0 h0 fun a5 =>
 fM h0 a5 a0 J2
theorem jI (a0:D) (h0:Heap) (K:HKq):gZ a0 h0 K=ga l8 K [a0] h0:=by kernel_rfl
def sT:TLq
 | 1000008=>some ([1,4],[5])|_=>none
def wJ:TTq
 | _=>none
noncomputable abbrev pT:=cFn PP true kn sT (cDr PP 18 wJ)
noncomputable def pY:aQ:=⟨18,aV pT,[.t 2]⟩
theorem u5:pT=some pY:=by kernel_rfl
def pH (a0:D) (h0:Heap) (K:HKq):Prop :=
 aa PP (.box (.c a0)) h0 fun a2 h3 =>
 aa PP (.fadd (.c a2) 0) h3 fun a4 h5 =>
 aa PP (.ld (.c a4) 1 false) h5 fun a6 h7 =>
 ∃(J8:HJq),(∀(f9:Nat->D) (h10:Heap),J8 [f9 5] h10 ->
 vcond (f9 5) (K (.bool false) h10) (
 vbin .eql a6 (.int .i64 5) fun a11 =>
 vcond a11 (aa PP (.bldS true 1 3 (.int .i64 0) [(0,(.c (.int .i64 3))),(1,(.c (.int .i64 4))),(2,(.c (.int .i64 5)))]) h10 fun a12 h13 =>
 aa PP (.fadd (.c a2) 1) h13 fun a14 h15 =>
 aa PP (.ld (.c a14) 1 false) h15 fun a16 h17 =>
 ai PP dJ [a12,a16] h17 fun a18 h19 =>
 vun .not a18 fun a20 =>
 K a20 h19) (
 K (.bool true) h10))) /\
 vbin .eql a6 (.int .i64 1) fun a21 =>
 vcond a21 (aI [a2,a6] [a2,a6]/\J8 [a21] h7) (
 vbin .eql a6 (.int .i64 2) fun a22 =>
 vcond a22 (aI [a2,a6] [a2,a6]/\J8 [a22] h7) (
 vbin .eql a6 (.int .i64 3) fun a23 =>
 vcond a23 (aI [a2,a6] [a2,a6]/\J8 [a23] h7) (
 vbin .eql a6 (.int .i64 4) fun a24 =>
 vcond a24 (aI [a2,a6] [a2,a6]/\J8 [a24] h7) (
 vbin .eql a6 (.int .i64 6) fun a25 =>
 aI [a2,a6] [a2,a6]/\J8 [a25] h7))))
theorem uV (a0:D) (h0:Heap) (K:HKq):pH a0 h0 K=ga pY K [a0] h0:=by kernel_rfl
def dn:TLq
 | _=>none
def dI:TTq
 | _=>none
noncomputable abbrev bK:=cFn PP true bg dn (cDr PP 9 dI)
noncomputable def bM:aQ:=⟨9,aV bK,[.t 4]⟩
theorem dH:bK=some bM:=by kernel_rfl
def bI (a0:D) (a1:D) (h0:Heap) (K:HKq):Prop :=
 ai PP bq [a0,a1] h0 fun a3 h4 =>
 vbin .geq a3 (.int .i64 0) fun a5 =>
 K a5 h4
theorem dF (a0:D) (a1:D) (h0:Heap) (K:HKq):bI a0 a1 h0 K=ga bM K [a0,a1] h0:=by kernel_rfl
def rT:TLq
 | _=>none
def uA:TTq
 | _=>none
noncomputable abbrev ou:=cFn PP true jq rT (cDr PP 10 uA)
noncomputable def oF:aQ:=⟨10,aV ou,[.t 3]⟩
theorem tU:ou=some oF:=by kernel_rfl
def oe (a0:D) (a1:D) (h0:Heap) (K:HKq):Prop :=
 aa PP (.box (.c a0)) h0 fun a3 h4 =>
 aa PP (.ld (.c a1) 2 true) h4 fun a5 h6 =>
 aa PP (.ld (.c a3) 2 true) h6 fun a7 h8 =>
 ai PP jr [a5,a7] h8 fun a9 h10 =>
 aa PP (.fadd (.c a9) 0) h10 fun a11 h12 =>
 aa PP (.ld (.c a11) 1 false) h12 fun a13 h14 =>
 vun .not a13 fun a15 =>
 K a15 h14
theorem tt (a0:D) (a1:D) (h0:Heap) (K:HKq):oe a0 a1 h0 K=ga oF K [a0,a1] h0:=by kernel_rfl
def pt:TLq
 | 1000005=>some ([0,5],[6])|_=>none
def rP:TTq
 | 5=>some ([0,0,0,4,0,16,48,112,240,0,1008,2032,4080,8176,16368,32764,65534,131071],[3,17],[999999])|6=>some ([0,0,1,7],[3],[])|_=>none
noncomputable abbrev l5:=cFn PP true eZ pt (cDr PP 39 rP)
noncomputable def l9:aQ:=⟨39,aV l5,[.t 4,.cell 5 3 true]⟩
theorem qR:l5=some l9:=by kernel_rfl
def lV (a0:D) (a1:D) (h0:Heap) (K:HKq):Prop :=
 aa PP (.alloc (.agg [zI,zI,zJ])) h0 fun a3 h4 =>
 ai PP au [a0] h4 fun a5 h6 =>
 vbin .rem a5 (.int .i64 5) fun a7 =>
 ∃(J8:HJq),(∀(f9:Nat->D) (h10:Heap),J8 [f9 6] h10 ->
 ai PP aU [a0] h10 fun a11 h12 =>
 aa PP (.alloc (.agg [zI,zI,zJ])) h12 fun a13 h14 =>
 aa PP (.st (.c a13) (.c a11) 3) h14 fun a15 h16 =>
 ae PP (.ld (.c a13) 3 true) h16 fun a17 =>
 ae PP (.fadd (.c a0) 0) h16 fun a18 =>
 ae PP (.fadd (.c a18) 2) h16 fun a19 =>
 ae PP (.fadd (.c a19) 5) h16 fun a20 =>
 ae PP (.ld (.c a20) 1 false) h16 fun a21 =>
 ae PP (.iadd (.c a21) (.c (f9 6)) 4) h16 fun a22 =>
 ae PP (.fadd (.c a22) 3) h16 fun a23 =>
 ae PP (.ld (.c a23) 1 false) h16 fun a24 =>
 vbin .sub a24 (.int .i64 1) fun a25 =>
 ae PP (.conv .i32 (.c a25)) h16 fun a26 =>
 ai PP aS [a0] h16 fun a27 h28 =>
 ((ae PP (.ld (.c a13) 3 true) h28 fun a29=>aI [a29] [a17])/\(ae PP (.fadd (.c a0) 0) h28 fun a30=>aI [a30] [a18])/\(ae PP (.fadd (.c a18) 2) h28 fun a31=>aI [a31] [a19])/\(ae PP (.fadd (.c a19) 5) h28 fun a32=>aI [a32] [a20])/\(ae PP (.ld (.c a20) 1 false) h28 fun a33=>aI [a33] [a21])/\(ae PP (.iadd (.c a21) (.c (f9 6)) 4) h28 fun a34=>aI [a34] [a22])/\(ae PP (.fadd (.c a22) 3) h28 fun a35=>aI [a35] [a23])/\(ae PP (.ld (.c a23) 1 false) h28 fun a36=>aI [a36] [a24])/\True) /\
 ae PP (.call cK [(.c a26)]) h28 fun a37 =>
 ae PP (.bld [zI,zI,zI,zI,zI,zJ,zI,zI,zJ,zI,zI,zJ,zI,zI,zJ] [(0,1,(.c (.int .i64 3))),(1,1,(.c (.int .i64 17))),(3,3,(.c a17)),(6,3,(.c a27)),(9,3,(.c a37))]) h28 fun a38 =>
 ai PP aL [a0,a38] h28 fun a39 h40 =>
 ae PP (.ld (.c a13) 3 true) h40 fun a41 =>
 aa PP (.st (.c a3) (.c a41) 3) h40 fun a42 h43 =>
 aa PP (.ld (.c a3) 3 true) h43 fun a44 _ =>
 K (.tup [(f9 6),a44]) h43) /\
 vbin .eql a7 (.int .i64 3) fun a45 =>
 vguard a45 true (fun G46 =>
 G46 a1 h6) h6 fun a47 h48 =>
 vguard a45 true (fun G49 =>
 vun .not a47 fun a52 =>
 G49 a52 h48) h48 fun a50 h51 =>
 aa PP (.pick (.c a45) (.c a50) (.c (.bool false))) h51 fun a53 h54 =>
 vcond a53 (aI [a0,a3] [a0,a3]/\J8 [(.int .i64 0)] h54) (
 aI [a0,a3] [a0,a3]/\J8 [a7] h54)
theorem qO (a0:D) (a1:D) (h0:Heap) (K:HKq):lV a0 a1 h0 K=ga l9 K [a0,a1] h0:=by kernel_rfl
def yj:TLq
 | _=>none
def BA:TTq
 | 1=>some ([0,0,2,6,14,30,63,127,255],[4,6],[999999])|_=>none
noncomputable abbrev vT:=cFn PP true oR yj (cDr PP 11 BA)
noncomputable def wq:aQ:=⟨11,aV vT,[.t 2]⟩
theorem AK:vT=some wq:=by kernel_rfl
def vG (a0:D) (h0:Heap) (K:HKq):Prop :=
 aa PP (.box (.c a0)) h0 fun a2 h3 =>
 ae PP (.ld (.c a2) 8 true) h3 fun a4 =>
 ae PP (.fadd (.c a2) 7) h3 fun a5 =>
 ae PP (.ld (.c a5) 1 false) h3 fun a6 =>
 aR a6 h3 fun a7 =>
 aa PP (.mk 1 1 (.bool false) (.c a7) (.c a7)) h3 fun a8 h9 =>
 ((ae PP (.ld (.c a2) 8 true) h9 fun a10=>aI [a10] [a4])/\True) /\
 ae PP (.bld [.nil,.nil] [(0,1,(.c a8))]) h9 fun a11 =>
 ai PP kL [a4,a11,(.int .i64 0)] h9 fun a12 h13 =>
 ae PP (.fld (.c a12) 1 1 false) h13 fun a14 =>
 K a14 h13
theorem Az (a0:D) (h0:Heap) (K:HKq):vG a0 h0 K=ga wq K [a0] h0:=by kernel_rfl
def Dq:TLq
 | 1000011=>some ([3,4,5],[])|5=>some ([1,3,4,5,25,26],[27])|1000010=>some ([1,3,4,5,25,26,27],[])|10=>some ([3,4,5],[])|1000019=>some ([3,4,5,8],[9])|13=>some ([3,4,5,8,56,57],[9,58])|1000018=>some ([3,4,5,8,56,57,58],[9])|_=>none
def FE:TTq
 | _=>none
noncomputable abbrev D8:=cFn PP true wZ Dq (cDr PP 85 FE)
noncomputable def Ei:aQ:=⟨85,aV D8,[.t 2]⟩
theorem EL:D8=some Ei:=by kernel_rfl
def o6 (h51:Heap) (a52:D) (a8:D) (a14:D) (a19:D) (a28:D) (a50:D) (J30:HJq):Prop :=
 ∃(I53:Nat->HJq) (n₀:Nat),I53 n₀ [(.int .i64 (-1)),(.int .i64 0)] h51/\∀(n54:Nat) (f55:Nat->D) (h56:Heap),I53 n54 [f55 9,f55 58] h56 ->
 vbin .lss (f55 58) a52 fun a57 =>
 vcond a57 (∃(J58:HJq),(∀(f59:Nat->D) (h60:Heap),J58 [f59 9] h60 ->
 vbin .add (f55 58) (.int .i64 1) fun a61 =>
 aI [a8,a14,a19,a28,a50,a52] [a8,a14,a19,a28,a50,a52]/\∃m,m<n54/\I53 m [(f59 9),a61] h60) /\
 aa PP (.iadd (.c a50) (.c (f55 58)) 1) h56 fun a62 h63 =>
 aa PP (.ld (.c a62) 1 false) h63 fun a64 h65 =>
 aa PP (.fadd (.c a28) 0) h65 fun a66 h67 =>
 aa PP (.fadd (.c a66) 2) h67 fun a68 h69 =>
 aa PP (.ld (.c a68) 1 false) h69 fun a70 h71 =>
 aa PP (.iadd (.c a70) (.c a64) 1) h71 fun a72 h73 =>
 aa PP (.ld (.c a72) 1 false) h73 fun a74 h75 =>
 vbin .lss a74 (.int .i64 0) fun a76 =>
 vcond a76 (aI [a8,a14,a19,a28,a50,a52,(f55 58)] [a8,a14,a19,a28,a50,a52,(f55 58)]/\J58 [a64] h75) (
 aI [a8,a14,a19,a28,a50,a52,(f55 58)] [a8,a14,a19,a28,a50,a52,(f55 58)]/\J58 [(f55 9)] h75)) (
 aI [a8,a14,a19,a28] [a8,a14,a19,a28]/\J30 [(f55 9)] h56)
def vM (h23:Heap) (a19:D) (a14:D) (a8:D) (K:HKq):Prop :=
 ∃(I24:Nat->HJq) (n₀:Nat),I24 n₀ [] h23/\∀(n25:Nat) (f26:Nat->D) (h27:Heap),I24 n25 [] h27 ->
 ai PP jw [a19,a14] h27 fun a28 h29 =>
 ∃(J30:HJq),(∀(f31:Nat->D) (h32:Heap),J30 [f31 9] h32 ->
 vbin .lss (f31 9) (.int .i64 0) fun a33 =>
 vcond a33 (K a28 h32) (
 aa PP (.iadd (.c a19) (.c a14) 1) h32 fun a34 h35 =>
 aa PP (.ld (.c a34) 1 false) h35 fun a36 h37 =>
 aa PP (.bldS true 1 1 (.int .i64 0) [(0,(.c (f31 9)))]) h37 fun a38 h39 =>
 aa PP (.app (.c a36) (.c a38) 1 8 (.int .i64 0)) h39 fun a40 h41 =>
 aa PP (.iadd (.c a19) (.c a14) 1) h41 fun a42 h43 =>
 aa PP (.st (.c a42) (.c a40) 1) h43 fun a44 h45 =>
 aI [a8,a14,a19] [a8,a14,a19]/\∃m,m<n25/\I24 m [] h45)) /\
 aa PP (.fadd (.c a8) 0) h29 fun a46 h47 =>
 aa PP (.fadd (.c a46) 1) h47 fun a48 h49 =>
 aa PP (.ld (.c a48) 1 false) h49 fun a50 h51 =>
 aR a50 h51 fun a52 =>
 o6 h51 a52 a8 a14 a19 a28 a50 J30
def o5 (h82:Heap) (a83:D) (a2:D) (a8:D) (a14:D) (a19:D) (a81:D) (J21:HJq):Prop :=
 ∃(I84:Nat->HJq) (n₀:Nat),I84 n₀ [(.int .i64 0)] h82/\∀(n85:Nat) (f86:Nat->D) (h87:Heap),I84 n85 [f86 27] h87 ->
 vbin .lss (f86 27) a83 fun a88 =>
 vcond a88 (∃(J89:HJq),(∀(f90:Nat->D) (h91:Heap),J89 [] h91 ->
 vbin .add (f86 27) (.int .i64 1) fun a92 =>
 aI [a2,a8,a14,a19,a81,a83] [a2,a8,a14,a19,a81,a83]/\∃m,m<n85/\I84 m [a92] h91) /\
 aa PP (.iadd (.c a81) (.c (f86 27)) 1) h87 fun a93 h94 =>
 aa PP (.ld (.c a93) 1 false) h94 fun a95 h96 =>
 aa PP (.fadd (.c a2) 7) h96 fun a97 h98 =>
 aa PP (.ld (.c a97) 1 false) h98 fun a99 h100 =>
 aa PP (.iadd (.c a99) (.c a95) 14) h100 fun a101 h102 =>
 aa PP (.fadd (.c a101) 1) h102 fun a103 h104 =>
 aa PP (.fadd (.c a103) 0) h104 fun a105 h106 =>
 aa PP (.ld (.c a105) 1 false) h106 fun a107 h108 =>
 vbin .eql a107 (.int .i64 5) fun a109 =>
 vcond a109 (aa PP (.iadd (.c a19) (.c a14) 1) h108 fun a110 h111 =>
 aa PP (.ld (.c a110) 1 false) h111 fun a112 h113 =>
 aa PP (.bldS true 1 1 (.int .i64 0) [(0,(.c a95))]) h113 fun a114 h115 =>
 aa PP (.app (.c a112) (.c a114) 1 8 (.int .i64 0)) h115 fun a116 h117 =>
 aa PP (.iadd (.c a19) (.c a14) 1) h117 fun a118 h119 =>
 aa PP (.st (.c a118) (.c a116) 1) h119 fun a120 h121 =>
 aI [a2,a8,a14,a19,a81,a83,(f86 27)] [a2,a8,a14,a19,a81,a83,(f86 27)]/\J89 [] h121) (
 aI [a2,a8,a14,a19,a81,a83,(f86 27)] [a2,a8,a14,a19,a81,a83,(f86 27)]/\J89 [] h108)) (
 aI [a8,a14,a19] [a8,a14,a19]/\J21 [] h87)
def DX (a0:D) (h0:Heap) (K:HKq):Prop :=
 aa PP (.box (.c a0)) h0 fun a2 h3 =>
 aa PP (.ld (.c a2) 8 true) h3 fun a4 h5 =>
 ai PP sR [a4] h5 fun a6 h7 =>
 ai PP jw [a6,(.int .i64 0)] h7 fun a8 h9 =>
 aa PP (.fadd (.c a2) 7) h9 fun a10 h11 =>
 aa PP (.ld (.c a10) 1 false) h11 fun a12 h13 =>
 aR a12 h13 fun a14 =>
 ai PP fH [a8] h13 fun a15 h16 =>
 aa PP (.bldS true 1 1 .nil [(0,(.c .nil))]) h16 fun a17 h18 =>
 aa PP (.app (.c a15) (.c a17) 1 24 .nil) h18 fun a19 h20 =>
 ∃(J21:HJq),(∀(f22:Nat->D) (h23:Heap),J21 [] h23 ->
 vM h23 a19 a14 a8 K) /\
 aa PP (.fadd (.c a8) 0) h20 fun a77 h78 =>
 aa PP (.fadd (.c a77) 1) h78 fun a79 h80 =>
 aa PP (.ld (.c a79) 1 false) h80 fun a81 h82 =>
 aR a81 h82 fun a83 =>
 o5 h82 a83 a2 a8 a14 a19 a81 J21
theorem EH (a0:D) (h0:Heap) (K:HKq):DX a0 h0 K=ga Ei K [a0] h0:=by kernel_rfl
def uQ:TLq
 | 9000002=>some ([0],[3,4])|1000020=>some ([3],[])|5=>some ([0,3,4,37,38],[39])|1000017=>some ([0,3,4,6,37,38,39],[7])|9=>some ([0,3,4,6,37,38,39,46,47],[7,48])|1000016=>some ([0,3,4,6,37,38,39,46,47,48],[7])|_=>none
def xW:TTq
 | 3=>some ([0,0,2,6,14,30,62,0,128,384,896,1920,3968,8191,16383],[14],[])|_=>none
noncomputable abbrev rH:=cFn PP true lG uQ (cDr PP 80 xW)
noncomputable def rN:aQ:=⟨80,aV rH,[.t 2]⟩
theorem xE:rH=some rN:=by kernel_rfl
def iN (h69:Heap) (a70:D) (a0:D) (a15:D) (a17:D) (a51:D) (a41:D) (a43:D) (f46:Nat->D) (a68:D) (J53:HJq):Prop :=
 ∃(I71:Nat->HJq) (n₀:Nat),I71 n₀ [(.int .i64 (-1)),(.int .i64 0)] h69/\∀(n72:Nat) (f73:Nat->D) (h74:Heap),I71 n72 [f73 7,f73 48] h74 ->
 vbin .lss (f73 48) a70 fun a75 =>
 vcond a75 (∃(J76:HJq),(∀(f77:Nat->D) (h78:Heap),J76 [f77 7] h78 ->
 vbin .add (f73 48) (.int .i64 1) fun a79 =>
 aI [a0,a15,a17,a51,a41,a43,(f46 39),a68,a70] [a0,a15,a17,a51,a41,a43,(f46 39),a68,a70]/\∃m,m<n72/\I71 m [(f77 7),a79] h78) /\
 aa PP (.iadd (.c a68) (.c (f73 48)) 1) h74 fun a80 h81 =>
 aa PP (.ld (.c a80) 1 false) h81 fun a82 h83 =>
 aa PP (.iadd (.c a15) (.c a82) 1) h83 fun a84 h85 =>
 aa PP (.ld (.c a84) 1 false) h85 fun a86 h87 =>
 vbin .lss a86 (.int .i64 0) fun a88 =>
 vcond a88 (aI [a0,a15,a17,a51,a41,a43,(f46 39),a68,a70,(f73 48)] [a0,a15,a17,a51,a41,a43,(f46 39),a68,a70,(f73 48)]/\J76 [(f73 7)] h87) (
 vbin .lss (f73 7) (.int .i64 0) fun a89 =>
 vcond a89 (aI [a0,a15,a17,a51,a41,a43,(f46 39),a68,a70,(f73 48)] [a0,a15,a17,a51,a41,a43,(f46 39),a68,a70,(f73 48)]/\J76 [a82] h87) (
 ai PP gE [a0,a15,(f73 7),a82] h87 fun a90 h91 =>
 aI [a0,a15,a17,a51,a41,a43,(f46 39),a68,a70,(f73 48)] [a0,a15,a17,a51,a41,a43,(f46 39),a68,a70,(f73 48)]/\J76 [a90] h91))) (
 aI [a0,a15,a17,a51,a41,a43,(f46 39)] [a0,a15,a17,a51,a41,a43,(f46 39)]/\J53 [(f73 7)] h74)
def fN (h42:Heap) (a43:D) (a41:D) (a15:D) (a0:D) (I2:Nat->HJq) (a17:D) (J32:HJq):Prop :=
 ∃(I44:Nat->HJq) (n₀:Nat),I44 n₀ [(.int .i64 0)] h42/\∀(n45:Nat) (f46:Nat->D) (h47:Heap),I44 n45 [f46 39] h47 ->
 vbin .lss (f46 39) a43 fun a48 =>
 vcond a48 (aa PP (.iadd (.c a41) (.c (f46 39)) 1) h47 fun a49 h50 =>
 aa PP (.ld (.c a49) 1 false) h50 fun a51 h52 =>
 ∃(J53:HJq),(∀(f54:Nat->D) (h55:Heap),J53 [f54 7] h55 ->
 aa PP (.iadd (.c a15) (.c a51) 1) h55 fun a56 h57 =>
 aa PP (.ld (.c a56) 1 false) h57 fun a58 h59 =>
 vbin .neq (f54 7) a58 fun a60 =>
 vcond a60 (aa PP (.iadd (.c a15) (.c a51) 1) h59 fun a61 h62 =>
 aa PP (.st (.c a61) (.c (f54 7)) 1) h62 fun a63 h64 =>
 0=0/\aI [a0] [a0]/\∃m,I2 m [a15,a17] h64) (
 vbin .add (f46 39) (.int .i64 1) fun a65 =>
 aI [a0,a15,a17,a41,a43] [a0,a15,a17,a41,a43]/\∃m,m<n45/\I44 m [a65] h59)) /\
 aa PP (.iadd (.c a17) (.c a51) 1) h52 fun a66 h67 =>
 aa PP (.ld (.c a66) 1 false) h67 fun a68 h69 =>
 aR a68 h69 fun a70 =>
 iN h69 a70 a0 a15 a17 a51 a41 a43 f46 a68 J53) (
 aI [a15] [a15]/\J32 [] h47)
def xx (h129:Heap) (a130:D) (a0:D) (f4:Nat->D) (a111:D) (a101:D) (a103:D) (f106:Nat->D) (a128:D) (J113:HJq):Prop :=
 ∃(I131:Nat->HJq) (n₀:Nat),I131 n₀ [(.int .i64 (-1)),(.int .i64 0)] h129/\∀(n132:Nat) (f133:Nat->D) (h134:Heap),I131 n132 [f133 7,f133 48] h134 ->
 vbin .lss (f133 48) a130 fun a135 =>
 vcond a135 (∃(J136:HJq),(∀(f137:Nat->D) (h138:Heap),J136 [f137 7] h138 ->
 vbin .add (f133 48) (.int .i64 1) fun a139 =>
 aI [a0,(f4 3),(f4 4),a111,a101,a103,(f106 39),a128,a130] [a0,(f4 3),(f4 4),a111,a101,a103,(f106 39),a128,a130]/\∃m,m<n132/\I131 m [(f137 7),a139] h138) /\
 aa PP (.iadd (.c a128) (.c (f133 48)) 1) h134 fun a140 h141 =>
 aa PP (.ld (.c a140) 1 false) h141 fun a142 h143 =>
 aa PP (.iadd (.c (f4 3)) (.c a142) 1) h143 fun a144 h145 =>
 aa PP (.ld (.c a144) 1 false) h145 fun a146 h147 =>
 vbin .lss a146 (.int .i64 0) fun a148 =>
 vcond a148 (aI [a0,(f4 3),(f4 4),a111,a101,a103,(f106 39),a128,a130,(f133 48)] [a0,(f4 3),(f4 4),a111,a101,a103,(f106 39),a128,a130,(f133 48)]/\J136 [(f133 7)] h147) (
 vbin .lss (f133 7) (.int .i64 0) fun a149 =>
 vcond a149 (aI [a0,(f4 3),(f4 4),a111,a101,a103,(f106 39),a128,a130,(f133 48)] [a0,(f4 3),(f4 4),a111,a101,a103,(f106 39),a128,a130,(f133 48)]/\J136 [a142] h147) (
 ai PP gE [a0,(f4 3),(f133 7),a142] h147 fun a150 h151 =>
 aI [a0,(f4 3),(f4 4),a111,a101,a103,(f106 39),a128,a130,(f133 48)] [a0,(f4 3),(f4 4),a111,a101,a103,(f106 39),a128,a130,(f133 48)]/\J136 [a150] h151))) (
 aI [a0,(f4 3),(f4 4),a111,a101,a103,(f106 39)] [a0,(f4 3),(f4 4),a111,a101,a103,(f106 39)]/\J113 [(f133 7)] h134)
def nh (h102:Heap) (a103:D) (a101:D) (f4:Nat->D) (a0:D) (n3:Nat) (I2:Nat->HJq) (J92:HJq):Prop :=
 ∃(I104:Nat->HJq) (n₀:Nat),I104 n₀ [(.int .i64 0)] h102/\∀(n105:Nat) (f106:Nat->D) (h107:Heap),I104 n105 [f106 39] h107 ->
 vbin .lss (f106 39) a103 fun a108 =>
 vcond a108 (aa PP (.iadd (.c a101) (.c (f106 39)) 1) h107 fun a109 h110 =>
 aa PP (.ld (.c a109) 1 false) h110 fun a111 h112 =>
 ∃(J113:HJq),(∀(f114:Nat->D) (h115:Heap),J113 [f114 7] h115 ->
 aa PP (.iadd (.c (f4 3)) (.c a111) 1) h115 fun a116 h117 =>
 aa PP (.ld (.c a116) 1 false) h117 fun a118 h119 =>
 vbin .neq (f114 7) a118 fun a120 =>
 vcond a120 (aa PP (.iadd (.c (f4 3)) (.c a111) 1) h119 fun a121 h122 =>
 aa PP (.st (.c a121) (.c (f114 7)) 1) h122 fun a123 h124 =>
 0=0/\aI [a0] [a0]/\∃m,m<n3/\I2 m [(f4 3),(f4 4)] h124) (
 vbin .add (f106 39) (.int .i64 1) fun a125 =>
 aI [a0,(f4 3),(f4 4),a101,a103] [a0,(f4 3),(f4 4),a101,a103]/\∃m,m<n105/\I104 m [a125] h119)) /\
 aa PP (.iadd (.c (f4 4)) (.c a111) 1) h112 fun a126 h127 =>
 aa PP (.ld (.c a126) 1 false) h127 fun a128 h129 =>
 aR a128 h129 fun a130 =>
 xx h129 a130 a0 f4 a111 a101 a103 f106 a128 J113) (
 aI [(f4 3)] [(f4 3)]/\J92 [] h107)
def rh (a0:D) (h0:Heap) (K:HKq):Prop :=
 ∃(I2:Nat->HJq),(aa PP (.bldS true 1 1 (.int .i64 0) [(0,(.c (.int .i64 (-1))))]) h0 fun a6 h7 =>
 aa PP (.fadd (.c a0) 0) h7 fun a8 h9 =>
 aa PP (.fadd (.c a8) 0) h9 fun a10 h11 =>
 aa PP (.ld (.c a10) 1 false) h11 fun a12 h13 =>
 aR a12 h13 fun a14 =>
 ai PP cJ [a6,a14] h13 fun a15 h16 =>
 ai PP fH [a0] h16 fun a17 h18 =>
 ae PP (.fadd (.c a0) 0) h18 fun a19 =>
 ae PP (.fadd (.c a19) 1) h18 fun a20 =>
 ae PP (.ld (.c a20) 1 false) h18 fun a21 =>
 ae PP (.iadd (.c a21) (.c (.int .i64 0)) 1) h18 fun a22 =>
 ae PP (.ld (.c a22) 1 false) h18 fun a23 =>
 ae PP (.fadd (.c a0) 0) h18 fun a24 =>
 ae PP (.fadd (.c a24) 1) h18 fun a25 =>
 ae PP (.ld (.c a25) 1 false) h18 fun a26 =>
 ae PP (.iadd (.c a26) (.c (.int .i64 0)) 1) h18 fun a27 =>
 ae PP (.ld (.c a27) 1 false) h18 fun a28 =>
 ae PP (.iadd (.c a15) (.c a23) 1) h18 fun a29 =>
 aa PP (.st (.c a29) (.c a28) 1) h18 fun a30 h31 =>
 ∃(J32:HJq),(∀(f33:Nat->D) (h34:Heap),J32 [] h34 ->
 K a15 h34) /\
 aa PP (.fadd (.c a0) 0) h31 fun a35 h36 =>
 aa PP (.fadd (.c a35) 1) h36 fun a37 h38 =>
 aa PP (.ld (.c a37) 1 false) h38 fun a39 h40 =>
 aa PP (.zB (.c a39) (some (.c (.int .i64 1))) none none 1) h40 fun a41 h42 =>
 aR a41 h42 fun a43 =>
 fN h42 a43 a41 a15 a0 I2 a17 J32)/\∀(n3:Nat) (f4:Nat->D) (h5:Heap),I2 n3 [f4 3,f4 4] h5 ->
 ∃(J92:HJq),(∀(f93:Nat->D) (h94:Heap),J92 [] h94 ->
 K (f4 3) h94) /\
 aa PP (.fadd (.c a0) 0) h5 fun a95 h96 =>
 aa PP (.fadd (.c a95) 1) h96 fun a97 h98 =>
 aa PP (.ld (.c a97) 1 false) h98 fun a99 h100 =>
 aa PP (.zB (.c a99) (some (.c (.int .i64 1))) none none 1) h100 fun a101 h102 =>
 aR a101 h102 fun a103 =>
 nh h102 a103 a101 f4 a0 n3 I2 J92
theorem xw (a0:D) (h0:Heap) (K:HKq):rh a0 h0 K=ga rN K [a0] h0:=by kernel_rfl
def BM:TLq
 | _=>none
def Ew:TTq
 | _=>none
noncomputable abbrev Bm:=cFn PP true AY BM (cDr PP 6 Ew)
noncomputable def Bu:aQ:=⟨6,aV Bm,[.t 4]⟩
theorem Ej:Bm=some Bu:=by kernel_rfl
def Bf (a0:D) (a1:D) (h0:Heap) (K:HKq):Prop :=
 aa PP (.box (.c a0)) h0 fun a3 h4 =>
 aa PP (.box (.c a1)) h4 fun a5 h6 =>
 aa PP (.mkf jy [] [(.c a5),(.c a3)]) h6 fun a7 h8 =>
 K a7 h8
theorem DY (a0:D) (a1:D) (h0:Heap) (K:HKq):Bf a0 a1 h0 K=ga Bu K [a0,a1] h0:=by kernel_rfl
def kr:TLq
 | _=>none
def lC:TTq
 | _=>none
noncomputable abbrev gz:=cFn PP true dJ kr (cDr PP 9 lC)
noncomputable def gB:aQ:=⟨9,aV gz,[.t 4]⟩
theorem lu:gz=some gB:=by kernel_rfl
def gy (a0:D) (a1:D) (h0:Heap) (K:HKq):Prop :=
 ai PP fj [a0,a1] h0 fun a3 h4 =>
 vbin .geq a3 (.int .i64 0) fun a5 =>
 K a5 h4
theorem lf (a0:D) (a1:D) (h0:Heap) (K:HKq):gy a0 a1 h0 K=ga gB K [a0,a1] h0:=by kernel_rfl
def dU:TLq
 | 1000008=>some ([],[])|2=>some ([0,1,7],[8])|_=>none
def eo:TTq
 | _=>none
noncomputable abbrev b6:=cFn PP true bq dU (cDr PP 19 eo)
noncomputable def b9:aQ:=⟨19,aV b6,[.t 4]⟩
theorem ec:b6=some b9:=by kernel_rfl
def bH (h0:Heap) (a6:D) (a0:D) (a1:D) (J3:HJq) (K:HKq):Prop :=
 ∃(I7:Nat->HJq) (n₀:Nat),I7 n₀ [(.int .i64 0)] h0/\∀(n8:Nat) (f9:Nat->D) (h10:Heap),I7 n8 [f9 8] h10 ->
 vbin .lss (f9 8) a6 fun a11 =>
 vcond a11 (aa PP (.iadd (.c a0) (.c (f9 8)) 2) h10 fun a12 h13 =>
 aa PP (.ld (.c a12) 2 true) h13 fun a14 h15 =>
 aa PP (.callv (.c a1) [(.c a14)]) h15 fun a16 h17 =>
 vcond a16 (K (f9 8) h17) (
 vbin .add (f9 8) (.int .i64 1) fun a18 =>
 aI [a0,a1,a6] [a0,a1,a6]/\∃m,m<n8/\I7 m [a18] h17)) (
 aI [] []/\J3 [] h10)
def bY (a0:D) (a1:D) (h0:Heap) (K:HKq):Prop :=
 ∃(J3:HJq),(∀(f4:Nat->D) (h5:Heap),J3 [] h5 ->
 K (.int .i64 (-1)) h5) /\
 aR a0 h0 fun a6 =>
 bH h0 a6 a0 a1 J3 K
theorem dZ (a0:D) (a1:D) (h0:Heap) (K:HKq):bY a0 a1 h0 K=ga b9 K [a0,a1] h0:=by kernel_rfl
def yi:TLq
 | 1000009=>some ([2,4,6],[])|4=>some ([2,3,4,6,7],[8])|1000006=>some ([2,3,4,6,7,8],[])|_=>none
def Bz:TTq
 | 6=>some ([0,1,0,0,12,28,63,127,255],[],[999999])|7=>some ([0,0,0,0,12,28,63,127],[6,7],[999999])|_=>none
noncomputable abbrev vS:=cFn PP true kL yi (cDr PP 49 Bz)
noncomputable def wo:aQ:=⟨49,aV vS,[.cell 6 2 true]⟩
theorem AJ:vS=some wo:=by kernel_rfl
def pL (h29:Heap) (a28:D) (a2:D) (a4:D) (a6:D) (a8:D) (J30:HJq):Prop :=
 ∃(I50:Nat->HJq) (n₀:Nat),I50 n₀ [(.int .i64 0)] h29/\∀(n51:Nat) (f52:Nat->D) (h53:Heap),I50 n51 [f52 8] h53 ->
 aR a28 h53 fun a54 =>
 vbin .lss (f52 8) a54 fun a55 =>
 vcond a55 (∃(J56:HJq),(∀(f57:Nat->D) (h58:Heap),J56 [] h58 ->
 vbin .add (f52 8) (.int .i64 1) fun a59 =>
 aI [a2,a4,a6,a8,a28] [a2,a4,a6,a8,a28]/\∃m,m<n51/\I50 m [a59] h58) /\
 ae PP (.fadd (.c a6) 0) h53 fun a60 =>
 ae PP (.ld (.c a60) 1 false) h53 fun a61 =>
 ae PP (.iadd (.c a28) (.c (f52 8)) 1) h53 fun a62 =>
 ae PP (.ld (.c a62) 1 false) h53 fun a63 =>
 ae PP (.iadd (.c a61) (.c a63) 1) h53 fun a64 =>
 ae PP (.ld (.c a64) 1 false) h53 fun a65 =>
 vun .not a65 fun a66 =>
 vcond a66 (ae PP (.ld (.c a4) 8 true) h53 fun a67 =>
 ae PP (.ld (.c a6) 2 true) h53 fun a68 =>
 ae PP (.iadd (.c a28) (.c (f52 8)) 1) h53 fun a69 =>
 ae PP (.ld (.c a69) 1 false) h53 fun a70 =>
 ai PP kL [a67,a68,a70] h53 fun a71 h72 =>
 aa PP (.st (.c a6) (.c a71) 2) h72 fun a73 h74 =>
 aI [a2,a4,a6,a8,a28,(f52 8)] [a2,a4,a6,a8,a28,(f52 8)]/\J56 [] h74) (
 aI [a2,a4,a6,a8,a28,(f52 8)] [a2,a4,a6,a8,a28,(f52 8)]/\J56 [] h53)) (
 aI [a2,a6,a8] [a2,a6,a8]/\J30 [] h53)
def vC (a0:D) (a1:D) (a2:D) (h0:Heap) (K:HKq):Prop :=
 aa PP (.box (.c a0)) h0 fun a4 h5 =>
 aa PP (.box (.c a1)) h5 fun a6 h7 =>
 aa PP (.alloc (.agg [.nil,.nil])) h7 fun a8 h9 =>
 aa PP (.fadd (.c a6) 0) h9 fun a10 h11 =>
 aa PP (.ld (.c a10) 1 false) h11 fun a12 h13 =>
 aa PP (.iadd (.c a12) (.c a2) 1) h13 fun a14 h15 =>
 aa PP (.st (.c a14) (.c (.bool true)) 1) h15 fun a16 h17 =>
 aa PP (.fadd (.c a4) 7) h17 fun a18 h19 =>
 aa PP (.ld (.c a18) 1 false) h19 fun a20 h21 =>
 aa PP (.iadd (.c a20) (.c a2) 14) h21 fun a22 h23 =>
 aa PP (.fadd (.c a22) 1) h23 fun a24 h25 =>
 aa PP (.ld (.c a24) 13 true) h25 fun a26 h27 =>
 ai PP jt [a26] h27 fun a28 h29 =>
 ∃(J30:HJq),(∀(f31:Nat->D) (h32:Heap),J30 [] h32 ->
 aa PP (.bldS true 1 1 (.int .i64 0) [(0,(.c a2))]) h32 fun a33 h34 =>
 aa PP (.fadd (.c a6) 1) h34 fun a35 h36 =>
 aa PP (.ld (.c a35) 1 false) h36 fun a37 h38 =>
 aa PP (.app (.c a33) (.c a37) 1 8 (.int .i64 0)) h38 fun a39 h40 =>
 aa PP (.fadd (.c a6) 1) h40 fun a41 h42 =>
 aa PP (.st (.c a41) (.c a39) 1) h42 fun a43 h44 =>
 aa PP (.ld (.c a6) 2 true) h44 fun a45 h46 =>
 aa PP (.st (.c a8) (.c a45) 2) h46 fun a47 h48 =>
 aa PP (.ld (.c a8) 2 true) h48 fun a49 _ =>
 K a49 h48) /\
 pL h29 a28 a2 a4 a6 a8 J30
theorem Ay (a0:D) (a1:D) (a2:D) (h0:Heap) (K:HKq):vC a0 a1 a2 h0 K=ga wo K [a0,a1,a2] h0:=by kernel_rfl
def xd:TLq
 | 1000013=>some ([5],[])|8=>some ([5,32,33],[34])|_=>none
def zM:TTq
 | 1=>some ([0,0,0,4,14,31,63,0,255],[4,6,7,8],[999996,2])|_=>none
noncomputable abbrev tS:=cFn PP true jw xd (cDr PP 48 zM)
noncomputable def ug:aQ:=⟨48,aV tS,[.t 4]⟩
theorem zy:tS=some ug:=by kernel_rfl
def om (h63:Heap) (a64:D) (a62:D) (a15:D) (J51:HJq):Prop :=
 ∃(I65:Nat->HJq) (n₀:Nat),I65 n₀ [(.int .i64 0)] h63/\∀(n66:Nat) (f67:Nat->D) (h68:Heap),I65 n66 [f67 34] h68 ->
 vbin .lss (f67 34) a64 fun a69 =>
 vcond a69 (aa PP (.iadd (.c a62) (.c (f67 34)) 1) h68 fun a70 h71 =>
 aa PP (.ld (.c a70) 1 false) h71 fun a72 h73 =>
 aa PP (.ld (.c a15) 1 false) h73 fun a74 h75 =>
 aa PP (.fadd (.c a74) 0) h75 fun a76 h77 =>
 aa PP (.fadd (.c a76) 2) h77 fun a78 h79 =>
 aa PP (.ld (.c a78) 1 false) h79 fun a80 h81 =>
 aa PP (.iadd (.c a80) (.c a72) 1) h81 fun a82 h83 =>
 aa PP (.st (.c a82) (.c (f67 34)) 1) h83 fun a84 h85 =>
 vbin .add (f67 34) (.int .i64 1) fun a86 =>
 aI [a15,a62,a64] [a15,a62,a64]/\∃m,m<n66/\I65 m [a86] h85) (
 aI [a15] [a15]/\J51 [] h68)
def tJ (a0:D) (a1:D) (h0:Heap) (K:HKq):Prop :=
 aa PP (.box (.c a0)) h0 fun a3 h4 =>
 ae PP (.ld (.c a3) 1 false) h4 fun a5 =>
 ae PP (.bldS false 1 1 (.int .i64 0) [(0,(.c (.int .i64 (-1))))]) h4 fun a6 =>
 ae PP (.ld (.c a3) 1 false) h4 fun a7 =>
 aR a7 h4 fun a8 =>
 ai PP cJ [a6,a8] h4 fun a9 h10 =>
 ((ae PP (.ld (.c a3) 1 false) h10 fun a11=>aI [a11] [a5])/\True) /\
 ae PP (.bld [.nil,.nil,.nil] [(0,1,(.c a5)),(2,1,(.c a9))]) h10 fun a12 =>
 aa PP (.box (.c a12)) h10 fun a13 h14 =>
 aa PP (.alloc .nilp) h14 fun a15 h16 =>
 ((ae PP (.ld (.c a3) 1 false) h16 fun a17=>aI [a17] [a5])/\(ae PP (.ld (.c a3) 1 false) h16 fun a18=>aI [a18] [a7])/\(ae PP (.len (.c a7)) h16 fun a19=>aI [a19] [a8])/\True) /\
 aa PP (.st (.c a15) (.c a13) 1) h16 fun a20 h21 =>
 aa PP (.ld (.c a3) 1 false) h21 fun a22 h23 =>
 aR a22 h23 fun a24 =>
 aa PP (.mk 1 1 (.bool false) (.c a24) (.c a24)) h23 fun a25 h26 =>
 aa PP (.alloc .nil) h26 fun a27 h28 =>
 aa PP (.st (.c a27) (.c a25) 1) h28 fun a29 h30 =>
 aa PP (.alloc .nilfn) h30 fun a31 h32 =>
 aa PP (.mkf cC [] [(.c a27),(.c a3),(.c a31),(.c a15)]) h32 fun a33 h34 =>
 aa PP (.st (.c a31) (.c a33) 1) h34 fun a35 h36 =>
 aa PP (.ld (.c a31) 1 false) h36 fun a37 h38 =>
 aa PP (.callv (.c a37) [(.c a1)]) h38 fun a39 h40 =>
 aa PP (.ld (.c a15) 1 false) h40 fun a41 h42 =>
 aa PP (.fadd (.c a41) 0) h42 fun a43 h44 =>
 aa PP (.fadd (.c a43) 1) h44 fun a45 h46 =>
 aa PP (.ld (.c a45) 1 false) h46 fun a47 h48 =>
 ai PP dY [a47] h48 fun a49 h50 =>
 ∃(J51:HJq),(∀(f52:Nat->D) (h53:Heap),J51 [] h53 ->
 aa PP (.ld (.c a15) 1 false) h53 fun a54 h55 =>
 K a54 h55) /\
 aa PP (.ld (.c a15) 1 false) h50 fun a56 h57 =>
 aa PP (.fadd (.c a56) 0) h57 fun a58 h59 =>
 aa PP (.fadd (.c a58) 1) h59 fun a60 h61 =>
 aa PP (.ld (.c a60) 1 false) h61 fun a62 h63 =>
 aR a62 h63 fun a64 =>
 om h63 a64 a62 a15 J51
theorem yY (a0:D) (a1:D) (h0:Heap) (K:HKq):tJ a0 a1 h0 K=ga ug K [a0,a1] h0:=by kernel_rfl
def BL:TLq
 | 1000008=>some ([3],[])|3=>some ([3,11,12],[13])|_=>none
def Ev:TTq
 | _=>none
noncomputable abbrev Bl:=cFn PP true sR BL (cDr PP 26 Ev)
noncomputable def Bt:aQ:=⟨26,aV Bl,[.t 2]⟩
theorem Eh:Bl=some Bt:=by kernel_rfl
def tK (h17:Heap) (a18:D) (a16:D) (a9:D) (J11:HJq):Prop :=
 ∃(I19:Nat->HJq) (n₀:Nat),I19 n₀ [(.int .i64 0)] h17/\∀(n20:Nat) (f21:Nat->D) (h22:Heap),I19 n20 [f21 13] h22 ->
 vbin .lss (f21 13) a18 fun a23 =>
 vcond a23 (aa PP (.iadd (.c a16) (.c (f21 13)) 14) h22 fun a24 h25 =>
 aa PP (.ld (.c a24) 14 true) h25 fun a26 h27 =>
 aa PP (.alloc (.agg [.nil,zI,zI,zI,zI,zJ,zI,zI,zJ,zI,zI,zJ,zI,zI])) h27 fun a28 h29 =>
 aa PP (.st (.c a28) (.c a26) 14) h29 fun a30 h31 =>
 aa PP (.fadd (.c a28) 1) h31 fun a32 h33 =>
 aa PP (.ld (.c a32) 13 true) h33 fun a34 h35 =>
 ai PP kW [a34] h35 fun a36 h37 =>
 aa PP (.iadd (.c a9) (.c (f21 13)) 1) h37 fun a38 h39 =>
 aa PP (.st (.c a38) (.c a36) 1) h39 fun a40 h41 =>
 vbin .add (f21 13) (.int .i64 1) fun a42 =>
 aI [a9,a16,a18] [a9,a16,a18]/\∃m,m<n20/\I19 m [a42] h41) (
 aI [a9] [a9]/\J11 [] h22)
def Be (a0:D) (h0:Heap) (K:HKq):Prop :=
 aa PP (.box (.c a0)) h0 fun a2 h3 =>
 aa PP (.fadd (.c a2) 7) h3 fun a4 h5 =>
 aa PP (.ld (.c a4) 1 false) h5 fun a6 h7 =>
 aR a6 h7 fun a8 =>
 aa PP (.mk 1 24 .nil (.c a8) (.c a8)) h7 fun a9 h10 =>
 ∃(J11:HJq),(∀(f12:Nat->D) (h13:Heap),J11 [] h13 ->
 K a9 h13) /\
 aa PP (.fadd (.c a2) 7) h10 fun a14 h15 =>
 aa PP (.ld (.c a14) 1 false) h15 fun a16 h17 =>
 aR a16 h17 fun a18 =>
 tK h17 a18 a16 a9 J11
theorem DW (a0:D) (h0:Heap) (K:HKq):Be a0 h0 K=ga Bt K [a0] h0:=by kernel_rfl
end Go.Am
namespace Go.Am
open Go Go.Proofs
def qA:TLq
 | 1000012=>some ([3],[])|3=>some ([0,3,17,18],[19])|1000011=>some ([0,3,17,18,19],[])|6=>some ([0,3,5,17,18,19,29,30],[31])|_=>none
def sJ:TTq
 | _=>none
noncomputable abbrev nC:=cFn PP true fH qA (cDr PP 48 sJ)
noncomputable def nK:aQ:=⟨48,aV nC,[.t 2]⟩
theorem sw:nC=some nK:=by kernel_rfl
def kh (h43:Heap) (a44:D) (a42:D) (a9:D) (a32:D) (a0:D) (a18:D) (a20:D) (f23:Nat->D) (J26:HJq):Prop :=
 ∃(I45:Nat->HJq) (n₀:Nat),I45 n₀ [(.int .i64 0)] h43/\∀(n46:Nat) (f47:Nat->D) (h48:Heap),I45 n46 [f47 31] h48 ->
 vbin .lss (f47 31) a44 fun a49 =>
 vcond a49 (aa PP (.iadd (.c a42) (.c (f47 31)) 1) h48 fun a50 h51 =>
 aa PP (.ld (.c a50) 1 false) h51 fun a52 h53 =>
 aa PP (.iadd (.c a9) (.c a52) 1) h53 fun a54 h55 =>
 aa PP (.ld (.c a54) 1 false) h55 fun a56 h57 =>
 aa PP (.bldS true 1 1 (.int .i64 0) [(0,(.c a32))]) h57 fun a58 h59 =>
 aa PP (.app (.c a56) (.c a58) 1 8 (.int .i64 0)) h59 fun a60 h61 =>
 aa PP (.iadd (.c a9) (.c a52) 1) h61 fun a62 h63 =>
 aa PP (.st (.c a62) (.c a60) 1) h63 fun a64 h65 =>
 vbin .add (f47 31) (.int .i64 1) fun a66 =>
 aI [a0,a9,a32,a18,a20,(f23 19),a42,a44] [a0,a9,a32,a18,a20,(f23 19),a42,a44]/\∃m,m<n46/\I45 m [a66] h65) (
 aI [a0,a9,a18,a20,(f23 19)] [a0,a9,a18,a20,(f23 19)]/\J26 [] h48)
def kg (h19:Heap) (a20:D) (a0:D) (a9:D) (a18:D) (J11:HJq):Prop :=
 ∃(I21:Nat->HJq) (n₀:Nat),I21 n₀ [(.int .i64 0)] h19/\∀(n22:Nat) (f23:Nat->D) (h24:Heap),I21 n22 [f23 19] h24 ->
 vbin .lss (f23 19) a20 fun a25 =>
 vcond a25 (∃(J26:HJq),(∀(f27:Nat->D) (h28:Heap),J26 [] h28 ->
 vbin .add (f23 19) (.int .i64 1) fun a29 =>
 aI [a0,a9,a18,a20] [a0,a9,a18,a20]/\∃m,m<n22/\I21 m [a29] h28) /\
 aa PP (.iadd (.c a18) (.c (f23 19)) 1) h24 fun a30 h31 =>
 aa PP (.ld (.c a30) 1 false) h31 fun a32 h33 =>
 aa PP (.fadd (.c a0) 0) h33 fun a34 h35 =>
 aa PP (.fadd (.c a34) 0) h35 fun a36 h37 =>
 aa PP (.ld (.c a36) 1 false) h37 fun a38 h39 =>
 aa PP (.iadd (.c a38) (.c a32) 1) h39 fun a40 h41 =>
 aa PP (.ld (.c a40) 1 false) h41 fun a42 h43 =>
 aR a42 h43 fun a44 =>
 kh h43 a44 a42 a9 a32 a0 a18 a20 f23 J26) (
 aI [a9] [a9]/\J11 [] h24)
def ni (a0:D) (h0:Heap) (K:HKq):Prop :=
 aa PP (.fadd (.c a0) 0) h0 fun a2 h3 =>
 aa PP (.fadd (.c a2) 0) h3 fun a4 h5 =>
 aa PP (.ld (.c a4) 1 false) h5 fun a6 h7 =>
 aR a6 h7 fun a8 =>
 aa PP (.mk 1 24 .nil (.c a8) (.c a8)) h7 fun a9 h10 =>
 ∃(J11:HJq),(∀(f12:Nat->D) (h13:Heap),J11 [] h13 ->
 K a9 h13) /\
 aa PP (.fadd (.c a0) 0) h10 fun a14 h15 =>
 aa PP (.fadd (.c a14) 1) h15 fun a16 h17 =>
 aa PP (.ld (.c a16) 1 false) h17 fun a18 h19 =>
 aR a18 h19 fun a20 =>
 kg h19 a20 a0 a9 a18 J11
theorem sm (a0:D) (h0:Heap) (K:HKq):ni a0 h0 K=ga nK K [a0] h0:=by kernel_rfl
def lH:TLq
 | 1000004=>some ([0,1],[])|1000007=>some ([0,6],[])|1000011=>some ([7],[])|8=>some ([7],[8])|_=>none
def mL:TTq
 | 9=>some ([0,0,0,6,0,0,48,126,255,511],[7,8,9],[])|_=>none
noncomputable abbrev iw:=cFn PP true cJ lH (cDr PP 48 mL)
noncomputable def iz:aQ:=⟨48,aV iw,[.t 4]⟩
theorem mC:iw=some iz:=by kernel_rfl
def gg (a24:D) (h25:Heap) (a22:D) (J26:HJq):Prop :=
 ∃(I29:Nat->HJq) (n₀:Nat),I29 n₀ [a24] h25/\∀(n30:Nat) (f31:Nat->D) (h32:Heap),I29 n30 [f31 8] h32 ->
 aR a22 h32 fun a33 =>
 vbin .lss (f31 8) a33 fun a34 =>
 vcond a34 (ae PP (.zB (.c a22) (some (.c (f31 8))) none none 1) h32 fun a35 =>
 ae PP (.zB (.c a22) none (some (.c (f31 8))) none 1) h32 fun a36 =>
 aa PP (.Fi (.c a35) (.c a36) 1) h32 fun a37 h38 =>
 vbin .add (f31 8) a37 fun a39 =>
 aI [a22] [a22]/\∃m,m<n30/\I29 m [a39] h38) (
 aI [a22] [a22]/\J26 [] h32)
def iq (a0:D) (a1:D) (h0:Heap) (K:HKq):Prop :=
 ∃(J3:HJq),(∀(f4:Nat->D) (h5:Heap),J3 [] h5 ->
 aR a0 h5 fun a6 =>
 aa PP (.conv .u64 (.c a6)) h5 fun a7 h8 =>
 aa PP (.conv .u64 (.c a1)) h8 fun a9 h10 =>
 ai PP lE [a7,a9] h10 fun a11 h12 =>
 aa PP (.ext (.c a11) 0) h12 fun a13 h14 =>
 aa PP (.ext (.c a11) 1) h14 fun a15 h16 =>
 ∃(J17:HJq),(∀(f18:Nat->D) (h19:Heap),J17 [] h19 ->
 aa PP (.conv .i64 (.c a15)) h19 fun a20 h21 =>
 aa PP (.mk 1 8 (.int .i64 0) (.c a20) (.c a20)) h21 fun a22 h23 =>
 aa PP (.Fi (.c a22) (.c a0) 1) h23 fun a24 h25 =>
 ∃(J26:HJq),(∀(f27:Nat->D) (h28:Heap),J26 [] h28 ->
 K a22 h28) /\
 gg a24 h25 a22 J26) /\
 vbin .gtr a13 (.int .u64 0) fun a40 =>
 vguard a40 false (fun G41 =>
 G41 a15 h16) h16 fun a42 h43 =>
 vguard a40 false (fun G44 =>
 vbin .gtr a42 (.int .u64 9223372036854775807) fun a47 =>
 G44 a47 h43) h43 fun a45 h46 =>
 aa PP (.pick (.c a40) (.c (.bool true)) (.c a45)) h46 fun a48 h49 =>
 vcond a48 (aa PP (.dead) h49 fun a50 h51 =>
 aa PP (.dead) h51 fun a52 h53 =>
 aI [a0,a15] [a0,a15]/\J17 [] h53) (
 aI [a0,a15] [a0,a15]/\J17 [] h49)) /\
 vbin .lss a1 (.int .i64 0) fun a54 =>
 vcond a54 (aa PP (.dead) h0 fun a55 h56 =>
 aa PP (.dead) h56 fun a57 h58 =>
 aI [a0,a1] [a0,a1]/\J3 [] h58) (
 aI [a0,a1] [a0,a1]/\J3 [] h0)
theorem my (a0:D) (a1:D) (h0:Heap) (K:HKq):iq a0 a1 h0 K=ga iz K [a0,a1] h0:=by kernel_rfl
def sW:TLq
 | 1000006=>some ([],[2])|1=>some ([0,1],[2,3])|_=>none
def wM:TTq
 | 2=>some ([0,1,3,7,0,31,63,0,128,384,896,0,3968,8064,16383],[],[])|_=>none
noncomputable abbrev pX:=cFn PP true gE sW (cDr PP 36 wM)
noncomputable def p7:aQ:=⟨36,aV pX,[.t 8]⟩
theorem u9:pX=some p7:=by kernel_rfl
def lY (a2:D) (a3:D) (h0:Heap) (a0:D) (a1:D) (J5:HJq):Prop :=
 ∃(I8:Nat->HJq) (n₀:Nat),I8 n₀ [a2,a3] h0/\∀(n9:Nat) (f10:Nat->D) (h11:Heap),I8 n9 [f10 2,f10 3] h11 ->
 vbin .neq (f10 2) (f10 3) fun a12 =>
 vcond a12 (ae PP (.fadd (.c a0) 0) h11 fun a13 =>
 ae PP (.fadd (.c a13) 2) h11 fun a14 =>
 ae PP (.ld (.c a14) 1 false) h11 fun a15 =>
 ae PP (.iadd (.c a15) (.c (f10 2)) 1) h11 fun a16 =>
 ae PP (.ld (.c a16) 1 false) h11 fun a17 =>
 ae PP (.fadd (.c a0) 0) h11 fun a18 =>
 ae PP (.fadd (.c a18) 2) h11 fun a19 =>
 ae PP (.ld (.c a19) 1 false) h11 fun a20 =>
 ae PP (.iadd (.c a20) (.c (f10 3)) 1) h11 fun a21 =>
 ae PP (.ld (.c a21) 1 false) h11 fun a22 =>
 vbin .gtr a17 a22 fun a23 =>
 vcond a23 (aa PP (.iadd (.c a1) (.c (f10 2)) 1) h11 fun a24 h25 =>
 aa PP (.ld (.c a24) 1 false) h25 fun a26 h27 =>
 aI [a0,a1] [a0,a1]/\∃m,m<n9/\I8 m [a26,(f10 3)] h27) (
 aa PP (.iadd (.c a1) (.c (f10 3)) 1) h11 fun a28 h29 =>
 aa PP (.ld (.c a28) 1 false) h29 fun a30 h31 =>
 aI [a0,a1] [a0,a1]/\∃m,m<n9/\I8 m [(f10 2),a30] h31)) (
 aI [] []/\J5 [(f10 2)] h11)
def pS (a0:D) (a1:D) (a2:D) (a3:D) (h0:Heap) (K:HKq):Prop :=
 ∃(J5:HJq),(∀(f6:Nat->D) (h7:Heap),J5 [f6 2] h7 ->
 K (f6 2) h7) /\
 lY a2 a3 h0 a0 a1 J5
theorem uY (a0:D) (a1:D) (a2:D) (a3:D) (h0:Heap) (K:HKq):pS a0 a1 a2 a3 h0 K=ga p7 K [a0,a1,a2,a3] h0:=by kernel_rfl
def xe:TLq
 | 0=>some ([0,1,2],[])|_=>none
def zN:TTq
 | 0=>some ([0,0,3,7,15,15,63,127,15,511,1023],[2],[999999])|_=>none
noncomputable abbrev tT:=cFn PP true jy xe (cDr PP 19 zN)
noncomputable def uh:aQ:=⟨19,aV tT,[]⟩
theorem zz:tT=some uh:=by kernel_rfl
def oq (h0:Heap) (a1:D) (a0:D) (a2:D) (K:HKq):Prop :=
 ∃(I4:Nat->HJq) (n₀:Nat),I4 n₀ [] h0/\∀(n5:Nat) (f6:Nat->D) (h7:Heap),I4 n5 [] h7 ->
 ae PP (.ld (.c a1) 1 false) h7 fun a8 =>
 aa PP (.callv (.c a0) [(.c a8)]) h7 fun a9 h10 =>
 aF a9 true (fun G11 =>
 ae PP (.ld (.c a2) 1 false) h10 fun a51 =>
 G11 a51) fun a12 =>
 aF a9 true (fun G15 =>
 ae PP (.ld (.c a1) 1 false) h10 fun a50 =>
 G15 a50) fun a16 =>
 aF a9 true (fun G19 =>
 ae PP (.iadd (.c a12) (.c a16) 1) h10 fun a49 =>
 G19 a49) fun a20 =>
 aF a9 true (fun G23 =>
 ae PP (.ld (.c a20) 1 false) h10 fun a48 =>
 G23 a48) fun a24 =>
 aF a9 true (fun G27 =>
 ae PP (.ld (.c a1) 1 false) h10 fun a47 =>
 G27 a47) fun a28 =>
 aF a9 true (fun G31 =>
 vbin .neq a24 a28 fun a46 =>
 G31 a46) fun a32 =>
 ae PP (.pick (.c a9) (.c a32) (.c (.bool false))) h10 fun a35 =>
 vcond a35 (aa PP (.ld (.c a2) 1 false) h10 fun a36 h37 =>
 aa PP (.ld (.c a1) 1 false) h37 fun a38 h39 =>
 aa PP (.iadd (.c a36) (.c a38) 1) h39 fun a40 h41 =>
 aa PP (.ld (.c a40) 1 false) h41 fun a42 h43 =>
 aa PP (.st (.c a1) (.c a42) 1) h43 fun a44 h45 =>
 aI [a0,a1,a2] [a0,a1,a2]/\∃m,m<n5/\I4 m [] h45) (
 K (.tup []) h10)
def tL (a0:D) (a1:D) (a2:D) (h0:Heap) (K:HKq):Prop :=
 oq h0 a1 a0 a2 K
theorem yZ (a0:D) (a1:D) (a2:D) (h0:Heap) (K:HKq):tL a0 a1 a2 h0 K=ga uh K [a0,a1,a2] h0:=by kernel_rfl
def mo:TLq
 | 1000008=>some ([],[])|2=>some ([0,1,7],[8])|_=>none
def nM:TTq
 | _=>none
noncomputable abbrev jd:=cFn PP true fj mo (cDr PP 19 nM)
noncomputable def je:aQ:=⟨19,aV jd,[.t 4]⟩
theorem nG:jd=some je:=by kernel_rfl
def gx (h0:Heap) (a6:D) (a0:D) (a1:D) (J3:HJq) (K:HKq):Prop :=
 ∃(I7:Nat->HJq) (n₀:Nat),I7 n₀ [(.int .i64 0)] h0/\∀(n8:Nat) (f9:Nat->D) (h10:Heap),I7 n8 [f9 8] h10 ->
 vbin .lss (f9 8) a6 fun a11 =>
 vcond a11 (aa PP (.iadd (.c a0) (.c (f9 8)) 1) h10 fun a12 h13 =>
 aa PP (.ld (.c a12) 1 false) h13 fun a14 h15 =>
 vbin .eql a1 a14 fun a16 =>
 vcond a16 (K (f9 8) h15) (
 vbin .add (f9 8) (.int .i64 1) fun a17 =>
 aI [a0,a1,a6] [a0,a1,a6]/\∃m,m<n8/\I7 m [a17] h15)) (
 aI [] []/\J3 [] h10)
def jb (a0:D) (a1:D) (h0:Heap) (K:HKq):Prop :=
 ∃(J3:HJq),(∀(f4:Nat->D) (h5:Heap),J3 [] h5 ->
 K (.int .i64 (-1)) h5) /\
 aR a0 h0 fun a6 =>
 gx h0 a6 a0 a1 J3 K
theorem mZ (a0:D) (a1:D) (h0:Heap) (K:HKq):jb a0 a1 h0 K=ga je K [a0,a1] h0:=by kernel_rfl
def sf:TLq
 | 1000008=>some ([0,4],[])|2=>some ([0,1,3,4,14,15],[16])|1000007=>some ([0,1,3,4,14,15,16],[])|_=>none
def uJ:TTq
 | 7=>some ([0,0,2,6,14,0,32,126,255,511,1023],[7,10],[0])|_=>none
noncomputable abbrev oD:=cFn PP true cC sf (cDr PP 39 uJ)
noncomputable def oO:aQ:=⟨39,aV oD,[]⟩
theorem uf:oD=some oO:=by kernel_rfl
def ll (h34:Heap) (a35:D) (a0:D) (a1:D) (a3:D) (a4:D) (a33:D) (J12:HJq):Prop :=
 ∃(I36:Nat->HJq) (n₀:Nat),I36 n₀ [(.int .i64 0)] h34/\∀(n37:Nat) (f38:Nat->D) (h39:Heap),I36 n37 [f38 16] h39 ->
 vbin .lss (f38 16) a35 fun a40 =>
 vcond a40 (∃(J41:HJq),(∀(f42:Nat->D) (h43:Heap),J41 [] h43 ->
 vbin .add (f38 16) (.int .i64 1) fun a44 =>
 aI [a0,a1,a3,a4,a33,a35] [a0,a1,a3,a4,a33,a35]/\∃m,m<n37/\I36 m [a44] h43) /\
 aa PP (.iadd (.c a33) (.c (f38 16)) 1) h39 fun a45 h46 =>
 aa PP (.ld (.c a45) 1 false) h46 fun a47 h48 =>
 aa PP (.ld (.c a1) 1 false) h48 fun a49 h50 =>
 aa PP (.iadd (.c a49) (.c a47) 1) h50 fun a51 h52 =>
 aa PP (.ld (.c a51) 1 false) h52 fun a53 h54 =>
 vun .not a53 fun a55 =>
 vcond a55 (aa PP (.ld (.c a3) 1 false) h54 fun a56 h57 =>
 aa PP (.callv (.c a56) [(.c a47)]) h57 fun a58 h59 =>
 aI [a0,a1,a3,a4,a33,a35,(f38 16)] [a0,a1,a3,a4,a33,a35,(f38 16)]/\J41 [] h59) (
 aI [a0,a1,a3,a4,a33,a35,(f38 16)] [a0,a1,a3,a4,a33,a35,(f38 16)]/\J41 [] h54)) (
 aI [a0,a4] [a0,a4]/\J12 [] h39)
def oo (a0:D) (a1:D) (a2:D) (a3:D) (a4:D) (h0:Heap) (K:HKq):Prop :=
 aa PP (.ld (.c a1) 1 false) h0 fun a6 h7 =>
 aa PP (.iadd (.c a6) (.c a0) 1) h7 fun a8 h9 =>
 aa PP (.st (.c a8) (.c (.bool true)) 1) h9 fun a10 h11 =>
 ∃(J12:HJq),(∀(f13:Nat->D) (h14:Heap),J12 [] h14 ->
 ae PP (.ld (.c a4) 1 false) h14 fun a15 =>
 ae PP (.ld (.c a4) 1 false) h14 fun a16 =>
 ae PP (.fadd (.c a16) 0) h14 fun a17 =>
 ae PP (.fadd (.c a17) 1) h14 fun a18 =>
 ae PP (.ld (.c a18) 1 false) h14 fun a19 =>
 ae PP (.bldS false 1 1 (.int .i64 0) [(0,(.c a0))]) h14 fun a20 =>
 ae PP (.fadd (.c a15) 0) h14 fun a21 =>
 ae PP (.fadd (.c a21) 1) h14 fun a22 =>
 aa PP (.app (.c a19) (.c a20) 1 8 (.int .i64 0)) h14 fun a23 h24 =>
 ((ae PP (.ld (.c a4) 1 false) h24 fun a25=>aI [a25] [a15])/\True) /\
 aa PP (.st (.c a22) (.c a23) 1) h24 fun a26 h27 =>
 ((ae PP (.ld (.c a4) 1 false) h27 fun a28=>aI [a28] [a15])/\True) /\
 K (.tup []) h27) /\
 aa PP (.ld (.c a2) 1 false) h11 fun a29 h30 =>
 aa PP (.iadd (.c a29) (.c a0) 1) h30 fun a31 h32 =>
 aa PP (.ld (.c a31) 1 false) h32 fun a33 h34 =>
 aR a33 h34 fun a35 =>
 ll h34 a35 a0 a1 a3 a4 a33 J12
theorem tI (a0:D) (a1:D) (a2:D) (a3:D) (a4:D) (h0:Heap) (K:HKq):oo a0 a1 a2 a3 a4 h0 K=ga oO K [a0,a1,a2,a3,a4] h0:=by kernel_rfl
def kX:TLq
 | 1=>some ([0],[2,3])|_=>none
def mg:TTq
 | 3=>some ([0,0,0,0,0,0,48,112,0,0,768,1792,4083,8179,16383,32767],[13,15],[14])|_=>none
noncomputable abbrev gO:=cFn PP true dY kX (cDr PP 28 mg)
noncomputable def gP:aQ:=⟨28,aV gO,[]⟩
theorem lQ:gO=some gP:=by kernel_rfl
def fU (a3:D) (h0:Heap) (a0:D) (K:HKq):Prop :=
 ∃(I4:Nat->HJq) (n₀:Nat),I4 n₀ [(.int .i64 0),a3] h0/\∀(n5:Nat) (f6:Nat->D) (h7:Heap),I4 n5 [f6 2,f6 3] h7 ->
 vbin .lss (f6 2) (f6 3) fun a8 =>
 vcond a8 (ae PP (.iadd (.c a0) (.c (f6 3)) 1) h7 fun a9 =>
 ae PP (.ld (.c a9) 1 false) h7 fun a10 =>
 ae PP (.iadd (.c a0) (.c (f6 2)) 1) h7 fun a11 =>
 ae PP (.ld (.c a11) 1 false) h7 fun a12 =>
 ae PP (.iadd (.c a0) (.c (f6 2)) 1) h7 fun a13 =>
 ae PP (.iadd (.c a0) (.c (f6 3)) 1) h7 fun a14 =>
 aa PP (.st (.c a13) (.c a10) 1) h7 fun a15 h16 =>
 ((ae PP (.iadd (.c a0) (.c (f6 3)) 1) h16 fun a17=>aI [a17] [a14])/\True) /\
 aa PP (.st (.c a14) (.c a12) 1) h16 fun a18 h19 =>
 ((ae PP (.iadd (.c a0) (.c (f6 3)) 1) h19 fun a20=>aI [a20] [a14])/\True) /\
 vbin .add (f6 2) (.int .i64 1) fun a21 =>
 vbin .sub (f6 3) (.int .i64 1) fun a22 =>
 aI [a0] [a0]/\∃m,m<n5/\I4 m [a21,a22] h19) (
 K (.tup []) h7)
def gN (a0:D) (h0:Heap) (K:HKq):Prop :=
 aR a0 h0 fun a2 =>
 vbin .sub a2 (.int .i64 1) fun a3 =>
 fU a3 h0 a0 K
theorem lJ (a0:D) (h0:Heap) (K:HKq):gN a0 h0 K=ga gP K [a0] h0:=by kernel_rfl
def uO:TLq
 | _=>none
def xU:TTq
 | _=>none
noncomputable abbrev rE:=cFn PP true lE uO (cDr PP 30 xU)
noncomputable def rL:aQ:=⟨30,aV rE,[.t 4,.t 5]⟩
theorem xC:rE=some rL:=by kernel_rfl
def re (a0:D) (a1:D) (h0:Heap) (K:HKq):Prop :=
 vcond (.bool false) (aa PP (.conv .u32 (.c a0)) h0 fun a3 h4 =>
 aa PP (.conv .u32 (.c a1)) h4 fun a5 h6 =>
 ai PP ya [a3,a5] h6 fun a7 h8 =>
 aa PP (.ext (.c a7) 0) h8 fun a9 h10 =>
 aa PP (.ext (.c a7) 1) h10 fun a11 h12 =>
 aa PP (.conv .u64 (.c a9)) h12 fun a13 h14 =>
 aa PP (.conv .u64 (.c a11)) h14 fun a15 h16 =>
 K (.tup [a13,a15]) h16) (
 ai PP jv [a0,a1] h0 fun a17 h18 =>
 aa PP (.ext (.c a17) 0) h18 fun a19 h20 =>
 aa PP (.ext (.c a17) 1) h20 fun a21 h22 =>
 K (.tup [a19,a21]) h22)
theorem xu (a0:D) (a1:D) (h0:Heap) (K:HKq):re a0 a1 h0 K=ga rL K [a0,a1] h0:=by kernel_rfl
def rY:TLq
 | _=>none
def uH:TTq
 | _=>none
noncomputable abbrev oA:=cFn PP true jv rY (cDr PP 51 uH)
noncomputable def oM:aQ:=⟨51,aV oA,[.t 4,.t 5]⟩
theorem ud:oA=some oM:=by kernel_rfl
def oi (a0:D) (a1:D) (h0:Heap) (K:HKq):Prop :=
 vbin .and a0 (.int .u64 4294967295) fun a3 =>
 vbin .shr a0 (.int .u64 32) fun a4 =>
 vbin .and a1 (.int .u64 4294967295) fun a5 =>
 vbin .shr a1 (.int .u64 32) fun a6 =>
 vbin .mul a3 a5 fun a7 =>
 vbin .mul a4 a5 fun a8 =>
 vbin .shr a7 (.int .u64 32) fun a9 =>
 vbin .add a8 a9 fun a10 =>
 vbin .and a10 (.int .u64 4294967295) fun a11 =>
 vbin .shr a10 (.int .u64 32) fun a12 =>
 vbin .mul a3 a6 fun a13 =>
 vbin .add a11 a13 fun a14 =>
 vbin .mul a4 a6 fun a15 =>
 vbin .add a15 a12 fun a16 =>
 vbin .shr a14 (.int .u64 32) fun a17 =>
 vbin .add a16 a17 fun a18 =>
 vbin .mul a0 a1 fun a19 =>
 K (.tup [a18,a19]) h0
theorem tG (a0:D) (a1:D) (h0:Heap) (K:HKq):oi a0 a1 h0 K=ga oM K [a0,a1] h0:=by kernel_rfl
end Go.Am
namespace Go.Am
open Go Go.Proofs
end Go.Am
namespace Go.Am
open Go Go.Proofs
def xb:TLq
 | 1000010=>some ([3,4,5],[])|5=>some ([1,3,4,5],[6])|1000007=>some ([1,3,4,5,6],[])|1000015=>some ([3],[])|10=>some ([3,4,5],[7])|1000012=>some ([3,4,5,7],[])|_=>none
def zK:TTq
 | 13=>some ([0,0,0,6,14,0,0,0,0,384,896,1984,4032,8160,0,16384,65504,131071,262143],[5,13,16,18],[999999])|_=>none
noncomputable abbrev tQ:=cFn PP true oS xb (cDr PP 72 zK)
noncomputable def ua:aQ:=⟨72,aV tQ,[.t 2]⟩
theorem zr:tQ=some ua:=by kernel_rfl
def jP (a30:D) (h25:Heap) (a12:D) (a18:D) (a21:D) (J26:HJq):Prop :=
 ∃(I31:Nat->HJq) (n₀:Nat),I31 n₀ [a30] h25/\∀(n32:Nat) (f33:Nat->D) (h34:Heap),I31 n32 [f33 7] h34 ->
 vbin .geq (f33 7) (.int .i64 0) fun a35 =>
 vcond a35 (∃(J36:HJq),(∀(f37:Nat->D) (h38:Heap),J36 [] h38 ->
 vbin .sub (f33 7) (.int .i64 1) fun a39 =>
 aI [a12,a18,a21] [a12,a18,a21]/\∃m,m<n32/\I31 m [a39] h38) /\
 aa PP (.iadd (.c a21) (.c (f33 7)) 1) h34 fun a40 h41 =>
 aa PP (.ld (.c a40) 1 false) h41 fun a42 h43 =>
 ai PP ju [a12,a42,(.int .i64 (-1))] h43 fun a44 h45 =>
 aa PP (.iadd (.c a44) (.c a18) 1) h45 fun a46 h47 =>
 aa PP (.ld (.c a46) 1 false) h47 fun a48 h49 =>
 vun .not a48 fun a50 =>
 vcond a50 (ae PP (.iadd (.c a21) (.c (f33 7)) 1) h49 fun a51 =>
 ae PP (.ld (.c a51) 1 false) h49 fun a52 =>
 ae PP (.iadd (.c a21) (.c (f33 7)) 1) h49 fun a53 =>
 ae PP (.ld (.c a53) 1 false) h49 fun a54 =>
 ae PP (.iadd (.c a12) (.c a54) 1) h49 fun a55 =>
 ae PP (.ld (.c a55) 1 false) h49 fun a56 =>
 ae PP (.bldS false 1 1 (.int .i64 0) [(0,(.c a18))]) h49 fun a57 =>
 aa PP (.bldS true 1 0 (.int .i64 0) []) h49 fun a58 h59 =>
 ((ae PP (.iadd (.c a21) (.c (f33 7)) 1) h59 fun a60=>aI [a60] [a51])/\(ae PP (.ld (.c a51) 1 false) h59 fun a61=>aI [a61] [a52])/\(ae PP (.iadd (.c a21) (.c (f33 7)) 1) h59 fun a62=>aI [a62] [a53])/\(ae PP (.ld (.c a53) 1 false) h59 fun a63=>aI [a63] [a54])/\(ae PP (.iadd (.c a12) (.c a54) 1) h59 fun a64=>aI [a64] [a55])/\(ae PP (.ld (.c a55) 1 false) h59 fun a65=>aI [a65] [a56])/\True) /\
 aa PP (.app (.c a58) (.c a56) 1 8 (.int .i64 0)) h59 fun a66 h67 =>
 ((ae PP (.iadd (.c a21) (.c (f33 7)) 1) h67 fun a68=>aI [a68] [a51])/\(ae PP (.ld (.c a51) 1 false) h67 fun a69=>aI [a69] [a52])/\True) /\
 aa PP (.app (.c a66) (.c a57) 1 8 (.int .i64 0)) h67 fun a70 h71 =>
 ((ae PP (.iadd (.c a21) (.c (f33 7)) 1) h71 fun a72=>aI [a72] [a51])/\(ae PP (.ld (.c a51) 1 false) h71 fun a73=>aI [a73] [a52])/\True) /\
 ae PP (.iadd (.c a12) (.c a52) 1) h71 fun a74 =>
 aa PP (.st (.c a74) (.c a70) 1) h71 fun a75 h76 =>
 aI [a12,a18,a21,(f33 7)] [a12,a18,a21,(f33 7)]/\J36 [] h76) (
 aI [a12,a18,a21,(f33 7)] [a12,a18,a21,(f33 7)]/\J36 [] h49)) (
 aI [a12] [a12]/\J26 [] h34)
def jO (h22:Heap) (a18:D) (a2:D) (a12:D) (a21:D) (J23:HJq):Prop :=
 ∃(I77:Nat->HJq) (n₀:Nat),I77 n₀ [(.int .i64 0)] h22/\∀(n78:Nat) (f79:Nat->D) (h80:Heap),I77 n78 [f79 6] h80 ->
 vbin .lss (f79 6) a18 fun a81 =>
 vcond a81 (∃(J82:HJq),(∀(f83:Nat->D) (h84:Heap),J82 [] h84 ->
 vbin .add (f79 6) (.int .i64 1) fun a85 =>
 aI [a2,a12,a18,a21] [a2,a12,a18,a21]/\∃m,m<n78/\I77 m [a85] h84) /\
 aa PP (.fadd (.c a2) 7) h80 fun a86 h87 =>
 aa PP (.ld (.c a86) 1 false) h87 fun a88 h89 =>
 aa PP (.iadd (.c a88) (.c (f79 6)) 14) h89 fun a90 h91 =>
 aa PP (.fadd (.c a90) 1) h91 fun a92 h93 =>
 aa PP (.fadd (.c a92) 0) h93 fun a94 h95 =>
 aa PP (.ld (.c a94) 1 false) h95 fun a96 h97 =>
 vbin .eql a96 (.int .i64 5) fun a98 =>
 vcond a98 (aa PP (.bldS true 1 1 (.int .i64 0) [(0,(.c a18))]) h97 fun a99 h100 =>
 aa PP (.iadd (.c a12) (.c (f79 6)) 1) h100 fun a101 h102 =>
 aa PP (.st (.c a101) (.c a99) 1) h102 fun a103 h104 =>
 aI [a2,a12,a18,a21,(f79 6)] [a2,a12,a18,a21,(f79 6)]/\J82 [] h104) (
 aI [a2,a12,a18,a21,(f79 6)] [a2,a12,a18,a21,(f79 6)]/\J82 [] h97)) (
 aI [a12,a18,a21] [a12,a18,a21]/\J23 [] h80)
def tD (a0:D) (h0:Heap) (K:HKq):Prop :=
 aa PP (.box (.c a0)) h0 fun a2 h3 =>
 aa PP (.ld (.c a2) 8 true) h3 fun a4 h5 =>
 ai PP kM [a4] h5 fun a6 h7 =>
 aa PP (.bldS true 1 0 (.int .i64 0) []) h7 fun a8 h9 =>
 aa PP (.bldS true 1 1 .nil [(0,(.c a8))]) h9 fun a10 h11 =>
 aa PP (.app (.c a6) (.c a10) 1 24 .nil) h11 fun a12 h13 =>
 aa PP (.fadd (.c a2) 7) h13 fun a14 h15 =>
 aa PP (.ld (.c a14) 1 false) h15 fun a16 h17 =>
 aR a16 h17 fun a18 =>
 aa PP (.ld (.c a2) 8 true) h17 fun a19 h20 =>
 ai PP oR [a19] h20 fun a21 h22 =>
 ∃(J23:HJq),(∀(f24:Nat->D) (h25:Heap),J23 [] h25 ->
 ∃(J26:HJq),(∀(f27:Nat->D) (h28:Heap),J26 [] h28 ->
 K a12 h28) /\
 aR a21 h25 fun a29 =>
 vbin .sub a29 (.int .i64 1) fun a30 =>
 jP a30 h25 a12 a18 a21 J26) /\
 jO h22 a18 a2 a12 a21 J23
theorem yS (a0:D) (h0:Heap) (K:HKq):tD a0 h0 K=ga ua K [a0] h0:=by kernel_rfl
end Go.Am
namespace Go.Am
open Go Go.Proofs
def rZ:TLq
 | _=>none
def uI:TTq
 | 3=>some ([0,0,3,7,15,31,31,95,255,511,1023,2047,4095,4095,12287,32767,65535,131071,262143,524287,524287,2097151,4194303,8388607],[],[])|_=>none
noncomputable abbrev oC:=cFn PP true ko rZ (cDr PP 40 uI)
noncomputable def oN:aQ:=⟨40,aV oC,[.t 0]⟩
theorem ue:oC=some oN:=by kernel_rfl
def oj (h0:Heap) (K:HKq):Prop :=
 ai PP lF [] h0 fun a1 h2 =>
 aa PP (.alloc (.agg [zI,zI,zI,zI,zI,.nil,.nil,.nil])) h2 fun a3 h4 =>
 aa PP (.st (.c a3) (.c a1) 8) h4 fun a5 h6 =>
 aa PP (.ld (.c a3) 8 true) h6 fun a7 h8 =>
 ai PP js [a7] h8 fun a9 h10 =>
 aa PP (.alloc (.agg [.nil,.nil])) h10 fun a11 h12 =>
 aa PP (.st (.c a11) (.c a9) 2) h12 fun a13 h14 =>
 ae PP (.ld (.c a3) 8 true) h14 fun a15 =>
 ae PP (.ld (.c a11) 2 true) h14 fun a16 =>
 ae PP (.call bC [(.c a15),(.c a16)]) h14 fun a17 =>
 vbin .neq a17 (.int .i64 0) fun a18 =>
 aF a18 false (fun G19 =>
 ae PP (.ld (.c a3) 8 true) h14 fun a121 =>
 G19 a121) fun a20 =>
 aF a18 false (fun G23 =>
 ae PP (.ld (.c a3) 8 true) h14 fun a120 =>
 G23 a120) fun a24 =>
 aF a18 false (fun G27 =>
 ae PP (.call gp [(.c a24),(.c (.bool false))]) h14 fun a119 =>
 G27 a119) fun a28 =>
 aF a18 false (fun G31 =>
 ae PP (.call bC [(.c a20),(.c a28)]) h14 fun a118 =>
 G31 a118) fun a32 =>
 aF a18 false (fun G35 =>
 vbin .neq a32 (.int .i64 0) fun a117 =>
 G35 a117) fun a36 =>
 ae PP (.pick (.c a18) (.c (.bool true)) (.c a36)) h14 fun a39 =>
 aF a39 false (fun G40 =>
 ae PP (.ld (.c a3) 8 true) h14 fun a116 =>
 G40 a116) fun a41 =>
 aF a39 false (fun G44 =>
 ae PP (.ld (.c a3) 8 true) h14 fun a115 =>
 G44 a115) fun a45 =>
 aF a39 false (fun G48 =>
 ae PP (.call gp [(.c a45),(.c (.bool true))]) h14 fun a114 =>
 G48 a114) fun a49 =>
 aF a39 false (fun G52 =>
 ae PP (.call bC [(.c a41),(.c a49)]) h14 fun a113 =>
 G52 a113) fun a53 =>
 aF a39 false (fun G56 =>
 vbin .neq a53 (.int .i64 100) fun a112 =>
 G56 a112) fun a57 =>
 ae PP (.pick (.c a39) (.c (.bool true)) (.c a57)) h14 fun a60 =>
 aF a60 false (fun G61 =>
 ae PP (.ld (.c a3) 8 true) h14 fun a111 =>
 G61 a111) fun a62 =>
 aF a60 false (fun G65 =>
 ae PP (.bld [.nil,.nil] []) h14 fun a110 =>
 G65 a110) fun a66 =>
 aF a60 false (fun G69 =>
 ae PP (.call bC [(.c a62),(.c a66)]) h14 fun a109 =>
 G69 a109) fun a70 =>
 aF a60 false (fun G73 =>
 vbin .neq a70 (.int .i64 100) fun a108 =>
 G73 a108) fun a74 =>
 ae PP (.pick (.c a60) (.c (.bool true)) (.c a74)) h14 fun a77 =>
 vcond a77 (K (.bool false) h14) (
 aa PP (.fadd (.c a11) 0) h14 fun a78 h79 =>
 aa PP (.ld (.c a78) 1 false) h79 fun a80 h81 =>
 aa PP (.bldS true 1 5 (.bool false) [(0,(.c (.bool true))),(1,(.c (.bool false))),(2,(.c (.bool true))),(3,(.c (.bool true))),(4,(.c (.bool true)))]) h81 fun a82 h83 =>
 ai PP cB [a80,a82] h83 fun a84 h85 =>
 vguard a84 true (fun G86 =>
 aa PP (.fadd (.c a11) 1) h85 fun a89 h90 =>
 G86 a89 h90) h85 fun a87 h88 =>
 vguard a84 true (fun G91 =>
 aa PP (.ld (.c a87) 1 false) h88 fun a94 h95 =>
 G91 a94 h95) h88 fun a92 h93 =>
 vguard a84 true (fun G96 =>
 aa PP (.bldS true 1 5 (.bool false) [(0,(.c (.bool false))),(1,(.c (.bool true))),(2,(.c (.bool false))),(3,(.c (.bool true))),(4,(.c (.bool true)))]) h93 fun a99 h100 =>
 G96 a99 h100) h93 fun a97 h98 =>
 vguard a84 true (fun G101 =>
 ai PP cB [a92,a97] h98 fun a104 h105 =>
 G101 a104 h105) h98 fun a102 h103 =>
 aa PP (.pick (.c a84) (.c a102) (.c (.bool false))) h103 fun a106 h107 =>
 K a106 h107)
theorem tH (h0:Heap) (K:HKq):oj h0 K=ga oN K [] h0:=by kernel_rfl
end Go.Am
