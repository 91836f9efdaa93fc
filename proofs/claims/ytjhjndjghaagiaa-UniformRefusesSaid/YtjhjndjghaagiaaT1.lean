/- The texts of the functions of this chapter, as the abstract machine has them. No condition. -/
import Derived.Test.YtjhjndjghaagiaaProg
import Derived.KernelRfl
import Derived.Test.YtjhjndjghaagiaaA3
set_option linter.unnecessarySimpa false
set_option linter.defProp false
set_option linter.unusedSectionVars false
set_option linter.unusedSimpArgs false
set_option linter.unusedVariables false
namespace Go.Am
open Go Go.Proofs
noncomputable abbrev PP:Program:=Try.prog
abbrev iE:FuncId:=8
abbrev js:FuncId:=9
abbrev pf:FuncId:=10
abbrev lj:FuncId:=13
abbrev dM:FuncId:=15
abbrev aC:FuncId:=16
abbrev pg:FuncId:=20
abbrev fF:FuncId:=21
abbrev bT:FuncId:=22
abbrev jQ:FuncId:=24
abbrev ju:FuncId:=25
abbrev gq:FuncId:=26
abbrev fp:FuncId:=27
abbrev ak:FuncId:=28
abbrev lP:FuncId:=29
abbrev dn:FuncId:=30
abbrev cI:FuncId:=31
abbrev aT:FuncId:=32
abbrev aM:FuncId:=33
abbrev aK:FuncId:=34
abbrev bV:FuncId:=35
abbrev bE:FuncId:=40
abbrev db:FuncId:=41
abbrev cH:FuncId:=42
abbrev dm:FuncId:=43
abbrev dW:FuncId:=44
abbrev bk:FuncId:=45
abbrev jt:FuncId:=46
abbrev cx:FuncId:=47
abbrev aE:FuncId:=48
abbrev gD:FuncId:=49
abbrev aO:FuncId:=60
abbrev jJ:FuncId:=61
abbrev br:FuncId:=62
abbrev bD:FuncId:=63
abbrev fC:FuncId:=64
abbrev aL:FuncId:=65
abbrev eZ:FuncId:=66
abbrev dH:FuncId:=67
abbrev pj:FuncId:=69
abbrev gu:FuncId:=70
abbrev qX:FuncId:=71
abbrev bu:FuncId:=72
abbrev bl:FuncId:=73
abbrev bS:FuncId:=74
abbrev aN:FuncId:=75
abbrev dN:FuncId:=77
abbrev mQ:FuncId:=78
abbrev b6:FuncId:=79
abbrev bn:FuncId:=80
abbrev cC:FuncId:=81
abbrev fq:FuncId:=82
abbrev bN:FuncId:=83
abbrev pX:FuncId:=84
abbrev cj:FuncId:=85
abbrev bF:FuncId:=86
abbrev bY:FuncId:=87
abbrev gp:FuncId:=88
abbrev cU:FuncId:=89
abbrev ky:FuncId:=90
abbrev ic:FuncId:=91
abbrev je:FuncId:=92
abbrev iD:FuncId:=93
abbrev eS:FuncId:=94
abbrev qY:FuncId:=95
abbrev gC:FuncId:=96
abbrev jP:FuncId:=97
abbrev vv:FuncId:=98
abbrev mP:FuncId:=99
abbrev mO:FuncId:=100
abbrev fc:FuncId:=101
def lW:Option aJ->ACode
 | some F=>F.code
 | none=>.skip
abbrev ku (F:aJ) (K:HKq) (l:List D) (h:Heap):Prop:=vcC PP F.code (fun x e h'=>match x with|.exit _=>False|.pan=>False|.jump _=>False|_=>yB PP F.res K e h') (params l 0) h
abbrev zI:D:=.int .i64 0
abbrev zJ:D:=.int .i32 0
end Go.Am
namespace Go.Am
open Go Go.Proofs
def ra:TL
 | 6000004=>some ([],[])|_=>none
def tV:TT
 | 3=>some ([0,0,3,7,15,31,31,95,255,511,1023,2047,4095,4095,12287,32767,65535,131071,262143,524287,524287,2097151,4194303,8388607],[],[])|_=>none
def oY:aJ:=⟨40,
 .seq (.reg [⟨(some 0),.mov (.c (.bool false)),none⟩]) <|
 .seq (.reg [⟨(some 3),.call gq [],none⟩,
  ⟨(some 1),.alloc (.agg [(.int .i64 0),(.int .i64 0),(.int .i64 0),(.int .i64 0),(.int .i64 0),.nil,.nil,.nil]),none⟩,
  ⟨none,.st (.t 1) (.t 3) 8,none⟩]) <|
 .seq (.reg [⟨(some 4),.ld (.t 1) 8 true,none⟩,
  ⟨(some 5),.call dM [(.t 4)],none⟩,
  ⟨(some 2),.alloc (.agg [.nil,.nil]),none⟩,
  ⟨none,.st (.t 2) (.t 5) 2,none⟩]) <|
 .seq (.seq (.frz (.dreg [⟨(some 6),.ld (.t 1) 8 true,none⟩,
  ⟨(some 7),.ld (.t 2) 2 true,none⟩,
  ⟨(some 8),.call aC [(.t 6),(.t 7)],none⟩,
  ⟨(some 9),.bin .neq (.t 8) (.c (.int .i64 0)),none⟩,
  ⟨(some 10),.mov (.t 9),none⟩,
  ⟨(some 11),.ld (.t 1) 8 true,some (10,false)⟩,
  ⟨(some 12),.ld (.t 1) 8 true,some (10,false)⟩,
  ⟨(some 13),.call fp [(.t 12),(.c (.bool false))],some (10,false)⟩,
  ⟨(some 14),.call aC [(.t 11),(.t 13)],some (10,false)⟩,
  ⟨(some 15),.bin .neq (.t 14) (.c (.int .i64 0)),some (10,false)⟩,
  ⟨(some 16),.pick (.t 10) (.c (.bool true)) (.t 15),none⟩,
  ⟨(some 17),.mov (.t 16),none⟩,
  ⟨(some 18),.ld (.t 1) 8 true,some (17,false)⟩,
  ⟨(some 19),.ld (.t 1) 8 true,some (17,false)⟩,
  ⟨(some 20),.call fp [(.t 19),(.c (.bool true))],some (17,false)⟩,
  ⟨(some 21),.call aC [(.t 18),(.t 20)],some (17,false)⟩,
  ⟨(some 22),.bin .neq (.t 21) (.c (.int .i64 100)),some (17,false)⟩,
  ⟨(some 23),.pick (.t 17) (.c (.bool true)) (.t 22),none⟩,
  ⟨(some 24),.mov (.t 23),none⟩,
  ⟨(some 25),.ld (.t 1) 8 true,some (24,false)⟩,
  ⟨(some 26),.bld [.nil,.nil] [],some (24,false)⟩,
  ⟨(some 27),.call aC [(.t 25),(.t 26)],some (24,false)⟩,
  ⟨(some 28),.bin .neq (.t 27) (.c (.int .i64 100)),some (24,false)⟩,
  ⟨(some 29),.pick (.t 24) (.c (.bool true)) (.t 28),none⟩] [] [])) <|
 .cond (.t 29) (.seq (.reg [⟨(some 0),.mov (.c (.bool false)),none⟩]) <|
 .ret) (.skip)) <|
 .seq (.reg [⟨(some 30),.fadd (.t 2) 0,none⟩,
  ⟨(some 31),.ld (.t 30) 1 false,none⟩,
  ⟨(some 32),.bldS true 1 5 (.bool false) [(0,(.c (.bool true))),(1,(.c (.bool false))),(2,(.c (.bool true))),(3,(.c (.bool true))),(4,(.c (.bool true)))],none⟩,
  ⟨(some 33),.call bT [(.t 31),(.t 32)],none⟩,
  ⟨(some 34),.mov (.t 33),none⟩,
  ⟨(some 35),.fadd (.t 2) 1,some (34,true)⟩,
  ⟨(some 36),.ld (.t 35) 1 false,some (34,true)⟩,
  ⟨(some 37),.bldS true 1 5 (.bool false) [(0,(.c (.bool false))),(1,(.c (.bool true))),(2,(.c (.bool false))),(3,(.c (.bool true))),(4,(.c (.bool true)))],some (34,true)⟩,
  ⟨(some 38),.call bT [(.t 36),(.t 37)],some (34,true)⟩,
  ⟨(some 39),.pick (.t 34) (.t 38) (.c (.bool false)),none⟩,
  ⟨(some 0),.mov (.t 39),none⟩]) <|
 .ret,
 [.t 0]⟩
theorem tq:cFn PP true js ra (cDr PP 40 tV)=some oY:=by kernel_rfl
end Go.Am
namespace Go.Am
open Go Go.Proofs
def xb:TL
 | 1000008=>some ([2,3],[])|4=>some ([2,3],[4])|1000019=>some ([2,3],[])|8=>some ([2,3],[5])|1000010=>some ([2,3,5],[])|1000015=>some ([2,3,5],[])|1000024=>some ([2,3],[])|_=>none
def yG:TT
 | 2=>some ([0,0,0,4,12,30,62,12,254,511,1023,2047],[3,11],[999999])|4=>some ([0,1,3,7,15,31,63,127,7,263,775,1799,3847,7943,16383,32767,65535],[],[])|17=>some ([0,1,3,7,15,0,0,64,192,448,0,1216,0,7360,0,31936,0,65536,196608,524224,1048575,2097151,4194303],[7,11,13,15,22],[999999])|23=>some ([0,1,3,7,15,0,32,96,224,480,992,2016,0,8191,16383,32767],[15],[])|_=>none
noncomputable abbrev wA:=cFn PP true pf xb (cDr PP 153 yG)
noncomputable def wG:aJ:=⟨153,lW wA,[.cell 2 8 true]⟩
theorem ya:wA=some wG:=by kernel_rfl
def kF (a76:D) (h75:Heap) (a4:D) (a12:D) (J29:HJq):Prop :=
 ∃(I77:Nat->HJq) (n₀:Nat),I77 n₀ [a76] h75/\∀(n78:Nat) (f79:Nat->D) (h80:Heap),I77 n78 [f79 5] h80 ->
 vbin .gtr (f79 5) (.int .i64 0) fun a81 =>
 vcond a81 (∃(J82:HJq),(∀(f83:Nat->D) (h84:Heap),J82 [] h84 ->
 vbin .sub (f79 5) (.int .i64 1) fun a85 =>
 aG [a4,a12] [a4,a12]/\∃m,m<n78/\I77 m [a85] h84) /\
 af PP ak [a12] h80 fun a86 h87 =>
 vbin .rem a86 (.int .i64 3) fun a88 =>
 af PP dn [a12,a88] h87 fun a89 h90 =>
 ∃(J91:HJq),(∀(f92:Nat->D) (h93:Heap),J91 [] h93 ->
 aa PP (.fadd (.c a12) 0) h93 fun a94 h95 =>
 aa PP (.fadd (.c a94) 2) h95 fun a96 h97 =>
 aa PP (.fadd (.c a96) 7) h97 fun a98 h99 =>
 aa PP (.ld (.c a98) 1 false) h99 fun a100 h101 =>
 aS a100 h101 fun a102 =>
 vbin .sub a102 (.int .i64 1) fun a103 =>
 aa PP (.fadd (.c a12) 0) h101 fun a104 h105 =>
 aa PP (.fadd (.c a104) 2) h105 fun a106 h107 =>
 aa PP (.fadd (.c a106) 7) h107 fun a108 h109 =>
 aa PP (.ld (.c a108) 1 false) h109 fun a110 h111 =>
 vbin .add a103 (.int .i64 1) fun a112 =>
 aa PP (.bld [zI,zI] [(0,1,(.c a112)),(1,1,(.c (.int .i64 0)))]) h111 fun a113 h114 =>
 aa PP (.bld [zI,zI,zI,zI,zJ,zI,zI,zJ,zI,zI,zJ,zI,zI] [(0,1,(.c (.int .i64 3))),(11,2,(.c a113))]) h114 fun a115 h116 =>
 aa PP (.iadd (.c a110) (.c a103) 14) h116 fun a117 h118 =>
 aa PP (.fadd (.c a117) 1) h118 fun a119 h120 =>
 aa PP (.st (.c a119) (.c a115) 13) h120 fun a121 h122 =>
 af PP ak [a12] h122 fun a123 h124 =>
 vbin .rem a123 (.int .i64 3) fun a125 =>
 vbin .eql a125 (.int .i64 0) fun a126 =>
 vcond a126 (ab PP (.fadd (.c a12) 0) h124 fun a127 =>
 ab PP (.fadd (.c a127) 2) h124 fun a128 =>
 ab PP (.fadd (.c a128) 7) h124 fun a129 =>
 ab PP (.ld (.c a129) 1 false) h124 fun a130 =>
 vbin .add a103 (.int .i64 1) fun a131 =>
 ab PP (.bld [zI,zI] [(0,1,(.c a131)),(1,1,(.c (.int .i64 0)))]) h124 fun a132 =>
 af PP ak [a12] h124 fun a133 h134 =>
 ((ab PP (.fadd (.c a12) 0) h134 fun a135=>aG [a135] [a127])/\(ab PP (.fadd (.c a127) 2) h134 fun a136=>aG [a136] [a128])/\(ab PP (.fadd (.c a128) 7) h134 fun a137=>aG [a137] [a129])/\(ab PP (.ld (.c a129) 1 false) h134 fun a138=>aG [a138] [a130])/\True) /\
 vbin .rem a133 (.int .i64 6) fun a139 =>
 vbin .add (.int .i64 1) a139 fun a140 =>
 af PP aM [a12] h134 fun a141 h142 =>
 ((ab PP (.fadd (.c a12) 0) h142 fun a143=>aG [a143] [a127])/\(ab PP (.fadd (.c a127) 2) h142 fun a144=>aG [a144] [a128])/\(ab PP (.fadd (.c a128) 7) h142 fun a145=>aG [a145] [a129])/\(ab PP (.ld (.c a129) 1 false) h142 fun a146=>aG [a146] [a130])/\True) /\
 af PP aK [a12] h142 fun a147 h148 =>
 ((ab PP (.fadd (.c a12) 0) h148 fun a149=>aG [a149] [a127])/\(ab PP (.fadd (.c a127) 2) h148 fun a150=>aG [a150] [a128])/\(ab PP (.fadd (.c a128) 7) h148 fun a151=>aG [a151] [a129])/\(ab PP (.ld (.c a129) 1 false) h148 fun a152=>aG [a152] [a130])/\True) /\
 af PP aK [a12] h148 fun a153 h154 =>
 ((ab PP (.fadd (.c a12) 0) h154 fun a155=>aG [a155] [a127])/\(ab PP (.fadd (.c a127) 2) h154 fun a156=>aG [a156] [a128])/\(ab PP (.fadd (.c a128) 7) h154 fun a157=>aG [a157] [a129])/\(ab PP (.ld (.c a129) 1 false) h154 fun a158=>aG [a158] [a130])/\True) /\
 ab PP (.bld [zI,zI,zI,zI,zJ,zI,zI,zJ,zI,zI,zJ,zI,zI] [(0,1,(.c (.int .i64 4))),(1,1,(.c a140)),(2,3,(.c a141)),(5,3,(.c a147)),(8,3,(.c a153)),(11,2,(.c a132))]) h154 fun a159 =>
 ab PP (.iadd (.c a130) (.c a103) 14) h154 fun a160 =>
 ab PP (.fadd (.c a160) 1) h154 fun a161 =>
 aa PP (.st (.c a161) (.c a159) 13) h154 fun a162 h163 =>
 aG [a4,a12,(f79 5)] [a4,a12,(f79 5)]/\J82 [] h163) (
 aG [a4,a12,(f79 5)] [a4,a12,(f79 5)]/\J82 [] h124)) /\
 af PP ak [a12] h90 fun a164 h165 =>
 vbin .rem a164 (.int .i64 3) fun a166 =>
 vbin .eql a166 (.int .i64 0) fun a167 =>
 vcond a167 (af PP cI [a12] h165 fun a168 h169 =>
 af PP aT [a12] h169 fun a170 h171 =>
 aG [a4,a12,(f79 5)] [a4,a12,(f79 5)]/\J91 [] h171) (
 aG [a4,a12,(f79 5)] [a4,a12,(f79 5)]/\J91 [] h165)) (
 aG [a4,a12] [a4,a12]/\J29 [] h80)
def kE (a174:D) (h173:Heap) (a12:D) (a4:D) (J26:HJq):Prop :=
 ∃(I175:Nat->HJq) (n₀:Nat),I175 n₀ [a174] h173/\∀(n176:Nat) (f177:Nat->D) (h178:Heap),I175 n176 [f177 4] h178 ->
 vbin .gtr (f177 4) (.int .i64 0) fun a179 =>
 aA a179 true (fun G180 =>
 G180 a12) fun a181 =>
 aA a179 true (fun G183 =>
 ab PP (.fadd (.c a181) 0) h178 fun a259 =>
 G183 a259) fun a184 =>
 aA a179 true (fun G187 =>
 ab PP (.fadd (.c a184) 2) h178 fun a258 =>
 G187 a258) fun a188 =>
 aA a179 true (fun G191 =>
 ab PP (.fadd (.c a188) 0) h178 fun a257 =>
 G191 a257) fun a192 =>
 aA a179 true (fun G195 =>
 ab PP (.ld (.c a192) 1 false) h178 fun a256 =>
 G195 a256) fun a196 =>
 aA a179 true (fun G199 =>
 G199 a12) fun a200 =>
 aA a179 true (fun G202 =>
 ab PP (.fadd (.c a200) 0) h178 fun a255 =>
 G202 a255) fun a203 =>
 aA a179 true (fun G206 =>
 ab PP (.fadd (.c a203) 2) h178 fun a254 =>
 G206 a254) fun a207 =>
 aA a179 true (fun G210 =>
 ab PP (.fadd (.c a207) 1) h178 fun a253 =>
 G210 a253) fun a211 =>
 aA a179 true (fun G214 =>
 ab PP (.ld (.c a211) 1 false) h178 fun a252 =>
 G214 a252) fun a215 =>
 aA a179 true (fun G218 =>
 vbin .mul (.int .i64 2) a215 fun a251 =>
 G218 a251) fun a219 =>
 aA a179 true (fun G222 =>
 vbin .rem a196 a219 fun a250 =>
 G222 a250) fun a223 =>
 aA a179 true (fun G226 =>
 vbin .eql a223 (.int .i64 0) fun a249 =>
 G226 a249) fun a227 =>
 ab PP (.pick (.c a179) (.c a227) (.c (.bool false))) h178 fun a230 =>
 vcond a230 (aa PP (.fadd (.c a12) 0) h178 fun a231 h232 =>
 aa PP (.fadd (.c a231) 2) h232 fun a233 h234 =>
 aa PP (.fadd (.c a233) 1) h234 fun a235 h236 =>
 aa PP (.ld (.c a235) 1 false) h236 fun a237 h238 =>
 vbin .mul (.int .i64 2) a237 fun a239 =>
 aa PP (.fadd (.c a12) 0) h238 fun a240 h241 =>
 aa PP (.fadd (.c a240) 2) h241 fun a242 h243 =>
 aa PP (.fadd (.c a242) 1) h243 fun a244 h245 =>
 aa PP (.st (.c a244) (.c a239) 1) h245 fun a246 h247 =>
 vbin .sub (f177 4) (.int .i64 1) fun a248 =>
 aG [a4,a12] [a4,a12]/\∃m,m<n176/\I175 m [a248] h247) (
 aG [a4,a12] [a4,a12]/\J26 [] h178)
def wh (a0:D) (h0:Heap) (K:HKq):Prop :=
 aa PP (.box (.c a0)) h0 fun a2 h3 =>
 aa PP (.alloc (.agg [zI,zI,zI,zI,zI,.nil,.nil,.nil])) h3 fun a4 h5 =>
 aa PP (.fadd (.c a2) 0) h5 fun a6 h7 =>
 aa PP (.ld (.c a6) 1 false) h7 fun a8 h9 =>
 aa PP (.bld [.nil,zI,zI,zI,zI,zI,zI,.nil,.nil,.nil] [(0,1,(.c a8))]) h9 fun a10 h11 =>
 aa PP (.box (.c a10)) h11 fun a12 h13 =>
 ab PP (.bldS false 1 5 (.int .i64 0) [(0,(.c (.int .i64 4))),(1,(.c (.int .i64 1))),(2,(.c (.int .i64 2))),(3,(.c (.int .i64 8))),(4,(.c (.int .i64 6)))]) h13 fun a14 =>
 af PP ak [a12] h13 fun a15 h16 =>
 vbin .rem a15 (.int .i64 5) fun a17 =>
 ab PP (.iadd (.c a14) (.c a17) 1) h16 fun a18 =>
 ab PP (.ld (.c a18) 1 false) h16 fun a19 =>
 ab PP (.call lP []) h16 fun a20 =>
 ab PP (.bld [zI,zI,zI,zI,zI,.nil,.nil,.nil] [(0,1,(.c a19)),(1,1,(.c (.int .i64 1))),(2,1,(.c (.int .i64 6))),(4,1,(.c (.int .i64 3))),(5,1,(.c a20))]) h16 fun a21 =>
 ab PP (.fadd (.c a12) 0) h16 fun a22 =>
 ab PP (.fadd (.c a22) 2) h16 fun a23 =>
 aa PP (.st (.c a23) (.c a21) 8) h16 fun a24 h25 =>
 ∃(J26:HJq),(∀(f27:Nat->D) (h28:Heap),J26 [] h28 ->
 ∃(J29:HJq),(∀(f30:Nat->D) (h31:Heap),J29 [] h31 ->
 af PP ak [a12] h31 fun a32 h33 =>
 vbin .rem a32 (.int .i64 3) fun a34 =>
 af PP dn [a12,a34] h33 fun a35 h36 =>
 ∃(J37:HJq),(∀(f38:Nat->D) (h39:Heap),J37 [] h39 ->
 ab PP (.fadd (.c a12) 0) h39 fun a40 =>
 ab PP (.fadd (.c a40) 2) h39 fun a41 =>
 ab PP (.fadd (.c a41) 7) h39 fun a42 =>
 ab PP (.ld (.c a42) 1 false) h39 fun a43 =>
 ab PP (.fadd (.c a12) 0) h39 fun a44 =>
 ab PP (.fadd (.c a44) 2) h39 fun a45 =>
 ab PP (.fadd (.c a45) 7) h39 fun a46 =>
 ab PP (.ld (.c a46) 1 false) h39 fun a47 =>
 aS a47 h39 fun a48 =>
 vbin .sub a48 (.int .i64 1) fun a49 =>
 ab PP (.bld [zI,zI,zI,zI,zJ,zI,zI,zJ,zI,zI,zJ,zI,zI] [(0,1,(.c (.int .i64 5)))]) h39 fun a50 =>
 ab PP (.iadd (.c a43) (.c a49) 14) h39 fun a51 =>
 ab PP (.fadd (.c a51) 1) h39 fun a52 =>
 aa PP (.st (.c a52) (.c a50) 13) h39 fun a53 h54 =>
 aa PP (.fadd (.c a12) 0) h54 fun a55 h56 =>
 aa PP (.fadd (.c a55) 2) h56 fun a57 h58 =>
 aa PP (.ld (.c a57) 8 true) h58 fun a59 h60 =>
 aa PP (.st (.c a4) (.c a59) 8) h60 fun a61 h62 =>
 aa PP (.ld (.c a4) 8 true) h62 fun a63 _ =>
 K a63 h62) /\
 af PP ak [a12] h36 fun a64 h65 =>
 vbin .rem a64 (.int .i64 3) fun a66 =>
 vbin .eql a66 (.int .i64 0) fun a67 =>
 vcond a67 (af PP cI [a12] h65 fun a68 h69 =>
 af PP aT [a12] h69 fun a70 h71 =>
 af PP bV [a12] h71 fun a72 h73 =>
 aG [a4,a12] [a4,a12]/\J37 [] h73) (
 aG [a4,a12] [a4,a12]/\J37 [] h65)) /\
 af PP ak [a12] h28 fun a74 h75 =>
 vbin .rem a74 (.int .i64 3) fun a76 =>
 kF a76 h75 a4 a12 J29) /\
 af PP ak [a12] h25 fun a172 h173 =>
 vbin .rem a172 (.int .i64 3) fun a174 =>
 kE a174 h173 a12 a4 J26
theorem x6 (a0:D) (h0:Heap) (K:HKq):wh a0 h0 K=ku wG K [a0] h0:=by kernel_rfl
def xa:TL
 | _=>none
def yF:TT
 | 1=>some ([0,0,2,7,0,0,32,127,255,511],[0,3,4,7,9],[999996,0,2])|_=>none
noncomputable abbrev wz:=cFn PP true lj xa (cDr PP 12 yF)
noncomputable def wF:aJ:=⟨12,lW wz,[.cell 2 2 true]⟩
theorem x9:wz=some wF:=by kernel_rfl
def wg (a0:D) (h0:Heap) (K:HKq):Prop :=
 aa PP (.box (.c a0)) h0 fun a2 h3 =>
 aa PP (.alloc (.agg [.nil,.nil])) h3 fun a4 h5 =>
 ab PP (.fadd (.c a2) 0) h5 fun a6 =>
 ab PP (.ld (.c a6) 1 false) h5 fun a7 =>
 ab PP (.fadd (.c a2) 1) h5 fun a8 =>
 ab PP (.ld (.c a8) 1 false) h5 fun a9 =>
 aa PP (.bldS true 1 0 (.bool false) []) h5 fun a10 h11 =>
 ((ab PP (.fadd (.c a2) 0) h11 fun a12=>aG [a12] [a6])/\(ab PP (.ld (.c a6) 1 false) h11 fun a13=>aG [a13] [a7])/\(ab PP (.fadd (.c a2) 1) h11 fun a14=>aG [a14] [a8])/\(ab PP (.ld (.c a8) 1 false) h11 fun a15=>aG [a15] [a9])/\True) /\
 aa PP (.app (.c a10) (.c a7) 1 1 (.bool false)) h11 fun a16 h17 =>
 ((ab PP (.fadd (.c a2) 1) h17 fun a18=>aG [a18] [a8])/\(ab PP (.ld (.c a8) 1 false) h17 fun a19=>aG [a19] [a9])/\True) /\
 aa PP (.bldS true 1 0 (.bool false) []) h17 fun a20 h21 =>
 ((ab PP (.fadd (.c a2) 0) h21 fun a22=>aG [a22] [a6])/\(ab PP (.ld (.c a6) 1 false) h21 fun a23=>aG [a23] [a7])/\(ab PP (.fadd (.c a2) 1) h21 fun a24=>aG [a24] [a8])/\(ab PP (.ld (.c a8) 1 false) h21 fun a25=>aG [a25] [a9])/\True) /\
 aa PP (.app (.c a20) (.c a9) 1 1 (.bool false)) h21 fun a26 h27 =>
 ab PP (.bld [.nil,.nil] [(0,1,(.c a16)),(1,1,(.c a26))]) h27 fun a28 =>
 aa PP (.st (.c a4) (.c a28) 2) h27 fun a29 h30 =>
 aa PP (.ld (.c a4) 2 true) h30 fun a31 _ =>
 K a31 h30
theorem x5 (a0:D) (h0:Heap) (K:HKq):wg a0 h0 K=ku wF K [a0] h0:=by kernel_rfl
def uh:TL
 | 1000008=>some ([1,2,3],[])|3=>some ([1,2,3,20],[21])|1000013=>some ([1,2,3],[])|8=>some ([1,2,3,31],[32])|1000023=>some ([2,3],[])|14=>some ([2,3,6],[7])|17=>some ([2,3,6,44,45],[7,46])|1000022=>some ([2,3,6,44,45,46],[7])|_=>none
def wP:TT
 | 1=>some ([0,1,3,7,0,16,48,127,0,511],[3,6,8,9],[999996,0,1,2])|_=>none
def mv:aJ:=⟨61,
 .seq (.reg [⟨(some 1),.box (.t 0),none⟩,
  ⟨(some 2),.alloc (.agg [.nil,.nil]),none⟩]) <|
 .seq (.seq (.dreg [⟨(some 13),.mov (.c .undef),none⟩,
  ⟨(some 16),.mov (.c .undef),none⟩,
  ⟨(some 3),.mov (.c .undef),none⟩] [] []) <|
 .seq (.dreg [⟨(some 10),.fadd (.t 1) 7,none⟩,
  ⟨(some 11),.ld (.t 10) 1 false,none⟩,
  ⟨(some 12),.len (.t 11),none⟩,
  ⟨(some 14),.fadd (.t 1) 2,none⟩,
  ⟨(some 15),.ld (.t 14) 1 false,none⟩] [] []) <|
 .seq (.dreg [] [⟨none,.mkc 1 (.t 12) (.t 12),none⟩] []) <|
 .seq (.dreg [] [⟨none,.mkc 1 (.t 15) (.t 15),none⟩] []) <|
 .seq (.dreg [] [⟨(some 13),.mk 1 1 (.bool false) (.t 12) (.t 12),none⟩] [⟨(some 14),.fadd (.t 1) 2,none⟩,
  ⟨(some 15),.ld (.t 14) 1 false,none⟩]) <|
 .seq (.dreg [] [⟨(some 16),.mk 1 1 (.bool false) (.t 15) (.t 15),none⟩] [⟨(some 10),.fadd (.t 1) 7,none⟩,
  ⟨(some 11),.ld (.t 10) 1 false,none⟩,
  ⟨(some 12),.len (.t 11),none⟩]) <|
 .seq (.dreg [⟨(some 17),.bld [.nil,.nil] [(0,1,(.t 13)),(1,1,(.t 16))],none⟩] [⟨(some 3),.alloc (.agg [.nil,.nil]),none⟩] [⟨(some 10),.fadd (.t 1) 7,none⟩,
  ⟨(some 11),.ld (.t 10) 1 false,none⟩,
  ⟨(some 12),.len (.t 11),none⟩,
  ⟨(some 14),.fadd (.t 1) 2,none⟩,
  ⟨(some 15),.ld (.t 14) 1 false,none⟩]) <|
 .seq (.dreg [] [⟨none,.st (.t 3) (.t 17) 2,none⟩] []) <|
 .dreg [] [] []) <|
 .seqj [1,2,3] [] (.seq (.reg [⟨(some 18),.fadd (.t 3) 0,none⟩,
  ⟨(some 19),.ld (.t 18) 1 false,none⟩,
  ⟨(some 20),.len (.t 19),none⟩,
  ⟨(some 21),.mov (.c (.int .i64 0)),none⟩]) <|
 .block 0 (.loop [1,2,3,20] [21] (.seq (.reg [⟨(some 22),.bin .lss (.t 21) (.t 20),none⟩]) <|
 .seq (.cond (.t 22) (.skip) (.exit 0)) <|
 .seq (.block 1 (.seq (.reg [⟨(some 23),.mov (.t 21),none⟩,
  ⟨(some 4),.mov (.t 23),none⟩]) <|
 .reg [⟨(some 24),.fadd (.t 3) 0,none⟩,
  ⟨(some 25),.ld (.t 24) 1 false,none⟩,
  ⟨(some 26),.mov (.t 4),none⟩,
  ⟨(some 27),.iadd (.t 25) (.t 26) 1,none⟩,
  ⟨none,.st (.t 27) (.c (.bool true)) 1,none⟩])) <|
 .reg [⟨(some 28),.bin .add (.t 21) (.c (.int .i64 1)),none⟩,
  ⟨(some 21),.mov (.t 28),none⟩]))) <|
 .seqj [1,2,3] [] (.seq (.reg [⟨(some 29),.fadd (.t 3) 1,none⟩,
  ⟨(some 30),.ld (.t 29) 1 false,none⟩,
  ⟨(some 31),.len (.t 30),none⟩,
  ⟨(some 32),.mov (.c (.int .i64 0)),none⟩]) <|
 .block 2 (.loop [1,2,3,31] [32] (.seq (.reg [⟨(some 33),.bin .lss (.t 32) (.t 31),none⟩]) <|
 .seq (.cond (.t 33) (.skip) (.exit 2)) <|
 .seq (.block 3 (.seq (.reg [⟨(some 34),.mov (.t 32),none⟩,
  ⟨(some 5),.mov (.t 34),none⟩]) <|
 .reg [⟨(some 35),.fadd (.t 3) 1,none⟩,
  ⟨(some 36),.ld (.t 35) 1 false,none⟩,
  ⟨(some 37),.mov (.t 5),none⟩,
  ⟨(some 38),.iadd (.t 36) (.t 37) 1,none⟩,
  ⟨none,.st (.t 38) (.c (.bool true)) 1,none⟩])) <|
 .reg [⟨(some 39),.bin .add (.t 32) (.c (.int .i64 1)),none⟩,
  ⟨(some 32),.mov (.t 39),none⟩]))) <|
 .seq (.reg [⟨(some 40),.ld (.t 1) 8 true,none⟩,
  ⟨(some 41),.call db [(.t 40)],none⟩,
  ⟨(some 42),.call bE [(.t 41)],none⟩,
  ⟨(some 6),.mov (.t 42),none⟩]) <|
 .seqj [2,3] [] (.seq (.reg [⟨(some 7),.mov (.c (.bool true)),none⟩]) <|
 .block 4 (.loop [2,3,6] [7] (.seq (.seq (.reg [⟨(some 43),.mov (.t 7),none⟩]) <|
 .cond (.t 43) (.skip) (.exit 4)) <|
 .block 5 (.seq (.reg [⟨(some 7),.mov (.c (.bool false)),none⟩]) <|
 .seq (.reg [⟨(some 44),.mov (.t 6),none⟩,
  ⟨(some 45),.len (.t 44),none⟩,
  ⟨(some 46),.mov (.c (.int .i64 0)),none⟩]) <|
 .block 6 (.loop [2,3,6,44,45] [7,46] (.seq (.reg [⟨(some 47),.bin .lss (.t 46) (.t 45),none⟩]) <|
 .seq (.cond (.t 47) (.skip) (.exit 6)) <|
 .seqj [2,3,6,44,45,46] [7] (.block 7 (.seq (.reg [⟨(some 48),.iadd (.t 44) (.t 46) 4,none⟩,
  ⟨(some 49),.ld (.t 48) 4 true,none⟩,
  ⟨(some 9),.alloc (.agg [(.bool false),(.int .i64 0),.nil,(.bool false)]),none⟩,
  ⟨none,.st (.t 9) (.t 49) 4,none⟩]) <|
 .seq (.reg [⟨(some 50),.ld (.t 3) 2 true,none⟩,
  ⟨(some 51),.ld (.t 9) 4 true,none⟩,
  ⟨(some 52),.call cH [(.t 50),(.t 51)],none⟩,
  ⟨(some 53),.un .not (.t 52),none⟩]) <|
 .cond (.t 53) (.reg [⟨(some 54),.ld (.t 3) 2 true,none⟩,
  ⟨(some 55),.fadd (.t 9) 0,none⟩,
  ⟨(some 56),.ld (.t 55) 2 true,none⟩,
  ⟨(some 57),.call dm [(.t 54),(.t 56)],none⟩,
  ⟨(some 58),.fadd (.t 57) 0,none⟩,
  ⟨none,.st (.t 58) (.c (.bool false)) 1,none⟩,
  ⟨(some 7),.mov (.c (.bool true)),none⟩]) (.skip))) <|
 .reg [⟨(some 59),.bin .add (.t 46) (.c (.int .i64 1)),none⟩,
  ⟨(some 46),.mov (.t 59),none⟩])))))) <|
 .seq (.reg [⟨(some 60),.ld (.t 3) 2 true,none⟩,
  ⟨none,.st (.t 2) (.t 60) 2,none⟩]) <|
 .ret,
 [.cell 2 2 true]⟩
theorem np:cFn PP true dM uh (cDr PP 61 wP)=some mv:=by kernel_rfl
def iQ (h57:Heap) (a58:D) (a4:D) (a25:D) (a44:D) (n55:Nat) (I54:Nat->HJq):Prop :=
 ∃(I59:Nat->HJq) (n₀:Nat),I59 n₀ [(.bool false),(.int .i64 0)] h57/\∀(n60:Nat) (f61:Nat->D) (h62:Heap),I59 n60 [f61 7,f61 46] h62 ->
 vbin .lss (f61 46) a58 fun a63 =>
 vcond a63 (∃(J64:HJq),(∀(f65:Nat->D) (h66:Heap),J64 [f65 7] h66 ->
 vbin .add (f61 46) (.int .i64 1) fun a67 =>
 aG [a4,a25,a44,a44,a58] [a4,a25,a44,a44,a58]/\∃m,m<n60/\I59 m [(f65 7),a67] h66) /\
 aa PP (.iadd (.c a44) (.c (f61 46)) 4) h62 fun a68 h69 =>
 aa PP (.ld (.c a68) 4 true) h69 fun a70 h71 =>
 aa PP (.alloc (.agg [(.bool false),zI,.nil,(.bool false)])) h71 fun a72 h73 =>
 aa PP (.st (.c a72) (.c a70) 4) h73 fun a74 h75 =>
 aa PP (.ld (.c a25) 2 true) h75 fun a76 h77 =>
 aa PP (.ld (.c a72) 4 true) h77 fun a78 h79 =>
 af PP cH [a76,a78] h79 fun a80 h81 =>
 vun .not a80 fun a82 =>
 vcond a82 (aa PP (.ld (.c a25) 2 true) h81 fun a83 h84 =>
 aa PP (.fadd (.c a72) 0) h84 fun a85 h86 =>
 aa PP (.ld (.c a85) 2 true) h86 fun a87 h88 =>
 af PP dm [a83,a87] h88 fun a89 h90 =>
 aa PP (.fadd (.c a89) 0) h90 fun a91 h92 =>
 aa PP (.st (.c a91) (.c (.bool false)) 1) h92 fun a93 h94 =>
 aG [a4,a25,a44,a44,a58,(f61 46)] [a4,a25,a44,a44,a58,(f61 46)]/\J64 [(.bool true)] h94) (
 aG [a4,a25,a44,a44,a58,(f61 46)] [a4,a25,a44,a44,a58,(f61 46)]/\J64 [(f61 7)] h81)) (
 aG [a4,a25,a44] [a4,a25,a44]/\∃m,m<n55/\I54 m [(f61 7)] h62)
def iP (h45:Heap) (a44:D) (a4:D) (a25:D) (J46:HJq):Prop :=
 ∃(I54:Nat->HJq) (n₀:Nat),I54 n₀ [(.bool true)] h45/\∀(n55:Nat) (f56:Nat->D) (h57:Heap),I54 n55 [f56 7] h57 ->
 vcond (f56 7) (aS a44 h57 fun a58 =>
 iQ h57 a58 a4 a25 a44 n55 I54) (
 aG [a4,a25] [a4,a25]/\J46 [] h57)
def iN (h98:Heap) (a99:D) (a25:D) (a2:D) (a4:D) (J37:HJq):Prop :=
 ∃(I100:Nat->HJq) (n₀:Nat),I100 n₀ [(.int .i64 0)] h98/\∀(n101:Nat) (f102:Nat->D) (h103:Heap),I100 n101 [f102 32] h103 ->
 vbin .lss (f102 32) a99 fun a104 =>
 vcond a104 (aa PP (.fadd (.c a25) 1) h103 fun a105 h106 =>
 aa PP (.ld (.c a105) 1 false) h106 fun a107 h108 =>
 aa PP (.iadd (.c a107) (.c (f102 32)) 1) h108 fun a109 h110 =>
 aa PP (.st (.c a109) (.c (.bool true)) 1) h110 fun a111 h112 =>
 vbin .add (f102 32) (.int .i64 1) fun a113 =>
 aG [a2,a4,a25,a99] [a2,a4,a25,a99]/\∃m,m<n101/\I100 m [a113] h112) (
 aG [a2,a4,a25] [a2,a4,a25]/\J37 [] h103)
def iM (h117:Heap) (a118:D) (a25:D) (a2:D) (a4:D) (J34:HJq):Prop :=
 ∃(I119:Nat->HJq) (n₀:Nat),I119 n₀ [(.int .i64 0)] h117/\∀(n120:Nat) (f121:Nat->D) (h122:Heap),I119 n120 [f121 21] h122 ->
 vbin .lss (f121 21) a118 fun a123 =>
 vcond a123 (aa PP (.fadd (.c a25) 0) h122 fun a124 h125 =>
 aa PP (.ld (.c a124) 1 false) h125 fun a126 h127 =>
 aa PP (.iadd (.c a126) (.c (f121 21)) 1) h127 fun a128 h129 =>
 aa PP (.st (.c a128) (.c (.bool true)) 1) h129 fun a130 h131 =>
 vbin .add (f121 21) (.int .i64 1) fun a132 =>
 aG [a2,a4,a25,a118] [a2,a4,a25,a118]/\∃m,m<n120/\I119 m [a132] h131) (
 aG [a2,a4,a25] [a2,a4,a25]/\J34 [] h122)
def rR (a0:D) (h0:Heap) (K:HKq):Prop :=
 aa PP (.box (.c a0)) h0 fun a2 h3 =>
 aa PP (.alloc (.agg [.nil,.nil])) h3 fun a4 h5 =>
 ab PP (.fadd (.c a2) 7) h5 fun a6 =>
 ab PP (.ld (.c a6) 1 false) h5 fun a7 =>
 aS a7 h5 fun a8 =>
 ab PP (.fadd (.c a2) 2) h5 fun a9 =>
 ab PP (.ld (.c a9) 1 false) h5 fun a10 =>
 aa PP (.mkc 1 (.c a8) (.c a8)) h5 fun a11 h12 =>
 aa PP (.mkc 1 (.c a10) (.c a10)) h12 fun a13 h14 =>
 aa PP (.mk 1 1 (.bool false) (.c a8) (.c a8)) h14 fun a15 h16 =>
 ((ab PP (.fadd (.c a2) 2) h16 fun a17=>aG [a17] [a9])/\(ab PP (.ld (.c a9) 1 false) h16 fun a18=>aG [a18] [a10])/\True) /\
 aa PP (.mk 1 1 (.bool false) (.c a10) (.c a10)) h16 fun a19 h20 =>
 ((ab PP (.fadd (.c a2) 7) h20 fun a21=>aG [a21] [a6])/\(ab PP (.ld (.c a6) 1 false) h20 fun a22=>aG [a22] [a7])/\(ab PP (.len (.c a7)) h20 fun a23=>aG [a23] [a8])/\True) /\
 ab PP (.bld [.nil,.nil] [(0,1,(.c a15)),(1,1,(.c a19))]) h20 fun a24 =>
 aa PP (.alloc (.agg [.nil,.nil])) h20 fun a25 h26 =>
 ((ab PP (.fadd (.c a2) 7) h26 fun a27=>aG [a27] [a6])/\(ab PP (.ld (.c a6) 1 false) h26 fun a28=>aG [a28] [a7])/\(ab PP (.len (.c a7)) h26 fun a29=>aG [a29] [a8])/\(ab PP (.fadd (.c a2) 2) h26 fun a30=>aG [a30] [a9])/\(ab PP (.ld (.c a9) 1 false) h26 fun a31=>aG [a31] [a10])/\True) /\
 aa PP (.st (.c a25) (.c a24) 2) h26 fun a32 h33 =>
 ∃(J34:HJq),(∀(f35:Nat->D) (h36:Heap),J34 [] h36 ->
 ∃(J37:HJq),(∀(f38:Nat->D) (h39:Heap),J37 [] h39 ->
 aa PP (.ld (.c a2) 8 true) h39 fun a40 h41 =>
 af PP db [a40] h41 fun a42 h43 =>
 af PP bE [a42] h43 fun a44 h45 =>
 ∃(J46:HJq),(∀(f47:Nat->D) (h48:Heap),J46 [] h48 ->
 aa PP (.ld (.c a25) 2 true) h48 fun a49 h50 =>
 aa PP (.st (.c a4) (.c a49) 2) h50 fun a51 h52 =>
 aa PP (.ld (.c a4) 2 true) h52 fun a53 _ =>
 K a53 h52) /\
 iP h45 a44 a4 a25 J46) /\
 aa PP (.fadd (.c a25) 1) h36 fun a95 h96 =>
 aa PP (.ld (.c a95) 1 false) h96 fun a97 h98 =>
 aS a97 h98 fun a99 =>
 iN h98 a99 a25 a2 a4 J37) /\
 aa PP (.fadd (.c a25) 0) h33 fun a114 h115 =>
 aa PP (.ld (.c a114) 1 false) h115 fun a116 h117 =>
 aS a116 h117 fun a118 =>
 iM h117 a118 a25 a2 a4 J34
theorem wa (a0:D) (h0:Heap) (K:HKq):rR a0 h0 K=ku mv K [a0] h0:=by kernel_rfl
def s9:TL
 | 1000008=>some ([4],[])|4000006=>some ([3,4],[1000000])|_=>none
def uV:TT
 | _=>none
def kI:aJ:=⟨28,
 .seq (.reg [⟨(some 2),.box (.t 0),none⟩,
  ⟨(some 3),.box (.t 1),none⟩,
  ⟨(some 4),.alloc (.int .i64 0),none⟩]) <|
 .seq (.seq (.reg [⟨(some 6),.fadd (.t 3) 0,none⟩,
  ⟨(some 7),.ld (.t 6) 1 false,none⟩,
  ⟨(some 8),.len (.t 7),none⟩,
  ⟨(some 9),.fadd (.t 2) 7,none⟩,
  ⟨(some 10),.ld (.t 9) 1 false,none⟩,
  ⟨(some 11),.len (.t 10),none⟩,
  ⟨(some 12),.bin .neq (.t 8) (.t 11),none⟩,
  ⟨(some 13),.mov (.t 12),none⟩,
  ⟨(some 14),.fadd (.t 3) 1,some (13,false)⟩,
  ⟨(some 15),.ld (.t 14) 1 false,some (13,false)⟩,
  ⟨(some 16),.len (.t 15),some (13,false)⟩,
  ⟨(some 17),.fadd (.t 2) 2,some (13,false)⟩,
  ⟨(some 18),.ld (.t 17) 1 false,some (13,false)⟩,
  ⟨(some 19),.bin .neq (.t 16) (.t 18),some (13,false)⟩,
  ⟨(some 20),.pick (.t 13) (.c (.bool true)) (.t 19),none⟩]) <|
 .cond (.t 20) (.seq (.reg [⟨none,.st (.t 4) (.c (.int .i64 100)) 1,none⟩]) <|
 .ret) (.skip)) <|
 .seqj [4] [] (.seq (.reg [⟨(some 21),.ld (.t 2) 8 true,none⟩,
  ⟨(some 22),.call db [(.t 21)],none⟩]) <|
 .block 0 (.range (.t 22) [23] [3,4] [1000000] (.reg [⟨(some 5),.alloc (.agg [(.bool false),(.int .i64 0),.nil,(.bool false)]),none⟩,
  ⟨none,.st (.t 5) (.t 23) 4,none⟩]) (.block 1 (.seq (.reg [⟨(some 24),.ld (.t 3) 2 true,none⟩,
  ⟨(some 25),.ld (.t 5) 4 true,none⟩,
  ⟨(some 26),.call cH [(.t 24),(.t 25)],none⟩,
  ⟨(some 27),.un .not (.t 26),none⟩]) <|
 .cond (.t 27) (.seq (.reg [⟨none,.st (.t 4) (.c (.int .i64 100)) 1,none⟩]) <|
 .ret) (.skip))))) <|
 .seq (.reg [⟨none,.st (.t 4) (.c (.int .i64 0)) 1,none⟩]) <|
 .ret,
 [.cell 4 1 false]⟩
theorem mw:cFn PP true aC s9 (cDr PP 28 uV)=some kI:=by kernel_rfl
def gJ:ACode:=.reg [⟨(some 5),.alloc (.agg [(.bool false),(.int .i64 0),.nil,(.bool false)]),none⟩,
  ⟨none,.st (.t 5) (.t 23) 4,none⟩]
def gI:ACode:=.block 1 (.seq (.reg [⟨(some 24),.ld (.t 3) 2 true,none⟩,
  ⟨(some 25),.ld (.t 5) 4 true,none⟩,
  ⟨(some 26),.call cH [(.t 24),(.t 25)],none⟩,
  ⟨(some 27),.un .not (.t 26),none⟩]) <|
 .cond (.t 27) (.seq (.reg [⟨none,.st (.t 4) (.c (.int .i64 100)) 1,none⟩]) <|
 .ret) (.skip))
def lZ (n0:Nat) (B0:bf) (a23:D) (a3:D) (a4:D) (h0:Heap) (K:HKq):Prop :=
 aa PP (.alloc (.agg [(.bool false),zI,.nil,(.bool false)])) h0 fun a100000 h100001 =>
 aa PP (.st (.c a100000) (.c a23) 4) h100001 fun a100002 h100003 =>
 Ex.normal=Ex.normal/\h100003 n0=.lp .ready B0/\aa PP (.ld (.c a3) 2 true) (aq h100003 n0 (.lp .busy B0)) fun a100004 h100005 =>
 aa PP (.ld (.c a100000) 4 true) h100005 fun a100006 h100007 =>
 af PP cH [a100004,a100006] h100007 fun a100008 h100009 =>
 vun .not a100008 fun a100010 =>
 vcond a100010 (aa PP (.st (.c a4) (.c (.int .i64 100)) 1) h100009 fun a100011 h100012 =>
 h100012 n0=.lp .busy B0/\K (.bool false) (aq h100012 n0 (.lp (.done .ret) B0))) (
 h100009 n0=.lp .busy B0/\K (.bool true) (aq h100009 n0 (.lp .ready B0)))
theorem qz (n0:Nat) (B0:bf) (a23:D) (a3:D) (a4:D) (h0:Heap) (K:HKq):lZ n0 B0 a23 a3 a4 h0 K=Ba PP n0 B0 [23] [a23] [(3,a3),(4,a4)] gJ gI h0 K:=by kernel_rfl
def p6 (a0:D) (a1:D) (h0:Heap) (K:HKq):Prop :=
 aa PP (.box (.c a0)) h0 fun a3 h4 =>
 aa PP (.box (.c a1)) h4 fun a5 h6 =>
 aa PP (.alloc (.int .i64 0)) h6 fun a7 h8 =>
 aa PP (.fadd (.c a5) 0) h8 fun a9 h10 =>
 aa PP (.ld (.c a9) 1 false) h10 fun a11 h12 =>
 aS a11 h12 fun a13 =>
 aa PP (.fadd (.c a3) 7) h12 fun a14 h15 =>
 aa PP (.ld (.c a14) 1 false) h15 fun a16 h17 =>
 aS a16 h17 fun a18 =>
 vbin .neq a13 a18 fun a19 =>
 vguard a19 false (fun G20 =>
 aa PP (.fadd (.c a5) 1) h17 fun a23 h24 =>
 G20 a23 h24) h17 fun a21 h22 =>
 vguard a19 false (fun G25 =>
 aa PP (.ld (.c a21) 1 false) h22 fun a28 h29 =>
 G25 a28 h29) h22 fun a26 h27 =>
 vguard a19 false (fun G30 =>
 aS a26 h27 fun a33 =>
 G30 a33 h27) h27 fun a31 h32 =>
 vguard a19 false (fun G34 =>
 aa PP (.fadd (.c a3) 2) h32 fun a37 h38 =>
 G34 a37 h38) h32 fun a35 h36 =>
 vguard a19 false (fun G39 =>
 aa PP (.ld (.c a35) 1 false) h36 fun a42 h43 =>
 G39 a42 h43) h36 fun a40 h41 =>
 vguard a19 false (fun G44 =>
 vbin .neq a31 a40 fun a47 =>
 G44 a47 h41) h41 fun a45 h46 =>
 aa PP (.pick (.c a19) (.c (.bool true)) (.c a45)) h46 fun a48 h49 =>
 vcond a48 (aa PP (.st (.c a7) (.c (.int .i64 100)) 1) h49 fun a50 h51 =>
 aa PP (.ld (.c a7) 1 false) h51 fun a52 _ =>
 K a52 h51) (
 ∃(J53:HJq),(∀(f54:Nat->D) (h55:Heap),J53 [] h55 ->
 aa PP (.st (.c a7) (.c (.int .i64 0)) 1) h55 fun a56 h57 =>
 aa PP (.ld (.c a7) 1 false) h57 fun a58 _ =>
 K a58 h57) /\
 aa PP (.ld (.c a3) 8 true) h49 fun a59 h60 =>
 af PP db [a59] h60 fun a61 h62 =>
 D6 PP a61 [23] [(3,a5),(4,a7)] gJ gI h62 fun n63 h64=>dI n63 h64 (
 aG [a7] [a7]/\J53 [] (aq h64 n63 .dead)) (fun i0=>(i0=1000000/\(False))\/(False)) ((1000000=1000000/\(aa PP (.ld (.c a7) 1 false) (aq h64 n63 .dead) fun a65 _ =>
 K a65 (aq h64 n63 .dead)))\/(False)))
theorem uz (a0:D) (a1:D) (h0:Heap) (K:HKq):p6 a0 a1 h0 K=ku kI K [a0,a1] h0:=by kernel_rfl
end Go.Am
namespace Go.Am
open Go Go.Proofs
def xc:TL
 | 1000009=>some ([1,2],[3])|5=>some ([1,2],[3,4])|_=>none
def yH:TT
 | 7=>some ([0,0,0,4,0,28,60,124,254,0,512,0,3584,7680,15872,32766,65534,131071,262143],[1,8,16,17,18],[999999])|_=>none
noncomputable abbrev wC:=cFn PP true pg xc (cDr PP 44 yH)
noncomputable def wH:aJ:=⟨44,lW wC,[.cell 2 8 true]⟩
theorem yb:wC=some wH:=by kernel_rfl
def p7 (a30:D) (h31:Heap) (a2:D) (a4:D) (J32:HJq):Prop :=
 ∃(I44:Nat->HJq) (n₀:Nat),I44 n₀ [a30,(.int .i64 0)] h31/\∀(n45:Nat) (f46:Nat->D) (h47:Heap),I44 n45 [f46 3,f46 4] h47 ->
 aa PP (.fadd (.c a2) 7) h47 fun a48 h49 =>
 aa PP (.ld (.c a48) 1 false) h49 fun a50 h51 =>
 aS a50 h51 fun a52 =>
 vbin .lss (f46 4) a52 fun a53 =>
 vcond a53 (ab PP (.fadd (.c a2) 7) h51 fun a54 =>
 ab PP (.ld (.c a54) 1 false) h51 fun a55 =>
 ab PP (.iadd (.c a55) (.c (f46 4)) 14) h51 fun a56 =>
 ab PP (.fadd (.c a56) 0) h51 fun a57 =>
 ab PP (.ld (.c a57) 1 false) h51 fun a58 =>
 ab PP (.fadd (.c a2) 7) h51 fun a59 =>
 ab PP (.ld (.c a59) 1 false) h51 fun a60 =>
 ab PP (.iadd (.c a60) (.c (f46 4)) 14) h51 fun a61 =>
 ab PP (.fadd (.c a61) 1) h51 fun a62 =>
 ab PP (.ld (.c a62) 13 true) h51 fun a63 =>
 aa PP (.bldS true 15 0 (.agg [zI,zI,zI,zI,zI,zJ,zI,zI,zJ,zI,zI,zJ,zI,zI,zJ]) []) h51 fun a64 h65 =>
 ((ab PP (.fadd (.c a2) 7) h65 fun a66=>aG [a66] [a54])/\(ab PP (.ld (.c a54) 1 false) h65 fun a67=>aG [a67] [a55])/\(ab PP (.iadd (.c a55) (.c (f46 4)) 14) h65 fun a68=>aG [a68] [a56])/\(ab PP (.fadd (.c a56) 0) h65 fun a69=>aG [a69] [a57])/\(ab PP (.ld (.c a57) 1 false) h65 fun a70=>aG [a70] [a58])/\(ab PP (.fadd (.c a2) 7) h65 fun a71=>aG [a71] [a59])/\(ab PP (.ld (.c a59) 1 false) h65 fun a72=>aG [a72] [a60])/\(ab PP (.iadd (.c a60) (.c (f46 4)) 14) h65 fun a73=>aG [a73] [a61])/\(ab PP (.fadd (.c a61) 1) h65 fun a74=>aG [a74] [a62])/\(ab PP (.ld (.c a62) 13 true) h65 fun a75=>aG [a75] [a63])/\True) /\
 aa PP (.app (.c a64) (.c a58) 15 120 (.agg [zI,zI,zI,zI,zI,zJ,zI,zI,zJ,zI,zI,zJ,zI,zI,zJ])) h65 fun a76 h77 =>
 ((ab PP (.fadd (.c a2) 7) h77 fun a78=>aG [a78] [a59])/\(ab PP (.ld (.c a59) 1 false) h77 fun a79=>aG [a79] [a60])/\(ab PP (.iadd (.c a60) (.c (f46 4)) 14) h77 fun a80=>aG [a80] [a61])/\(ab PP (.fadd (.c a61) 1) h77 fun a81=>aG [a81] [a62])/\(ab PP (.ld (.c a62) 13 true) h77 fun a82=>aG [a82] [a63])/\True) /\
 ab PP (.bld [.nil,zI,zI,zI,zI,zJ,zI,zI,zJ,zI,zI,zJ,zI,zI] [(0,1,(.c a76)),(1,13,(.c a63))]) h77 fun a83 =>
 aa PP (.bldS true 14 1 (.agg [.nil,zI,zI,zI,zI,zJ,zI,zI,zJ,zI,zI,zJ,zI,zI]) [(0,(.c a83))]) h77 fun a84 h85 =>
 aa PP (.app (.c (f46 3)) (.c a84) 14 128 (.agg [.nil,zI,zI,zI,zI,zJ,zI,zI,zJ,zI,zI,zJ,zI,zI])) h85 fun a86 h87 =>
 vbin .add (f46 4) (.int .i64 1) fun a88 =>
 aG [a2,a4] [a2,a4]/\∃m,m<n45/\I44 m [a86,a88] h87) (
 aG [a2,a4] [a2,a4]/\J32 [(f46 3)] h51)
def wo (a0:D) (h0:Heap) (K:HKq):Prop :=
 aa PP (.box (.c a0)) h0 fun a2 h3 =>
 aa PP (.alloc (.agg [zI,zI,zI,zI,zI,.nil,.nil,.nil])) h3 fun a4 h5 =>
 aa PP (.bldS true 4 0 (.agg [(.str ⟨#[]⟩),(.int .i64 0),(.int .i64 0),(.int .i64 0)]) []) h5 fun a6 h7 =>
 aa PP (.fadd (.c a2) 5) h7 fun a8 h9 =>
 aa PP (.ld (.c a8) 1 false) h9 fun a10 h11 =>
 aa PP (.app (.c a6) (.c a10) 4 40 (.agg [(.str ⟨#[]⟩),(.int .i64 0),(.int .i64 0),(.int .i64 0)])) h11 fun a12 h13 =>
 aa PP (.fadd (.c a2) 5) h13 fun a14 h15 =>
 aa PP (.st (.c a14) (.c a12) 1) h15 fun a16 h17 =>
 aa PP (.bldS true 3 0 (.agg [zI,zI,zI]) []) h17 fun a18 h19 =>
 aa PP (.fadd (.c a2) 6) h19 fun a20 h21 =>
 aa PP (.ld (.c a20) 1 false) h21 fun a22 h23 =>
 aa PP (.app (.c a18) (.c a22) 3 24 (.agg [zI,zI,zI])) h23 fun a24 h25 =>
 aa PP (.fadd (.c a2) 6) h25 fun a26 h27 =>
 aa PP (.st (.c a26) (.c a24) 1) h27 fun a28 h29 =>
 aa PP (.bldS true 14 0 (.agg [.nil,zI,zI,zI,zI,zJ,zI,zI,zJ,zI,zI,zJ,zI,zI]) []) h29 fun a30 h31 =>
 ∃(J32:HJq),(∀(f33:Nat->D) (h34:Heap),J32 [f33 3] h34 ->
 aa PP (.fadd (.c a2) 7) h34 fun a35 h36 =>
 aa PP (.st (.c a35) (.c (f33 3)) 1) h36 fun a37 h38 =>
 aa PP (.ld (.c a2) 8 true) h38 fun a39 h40 =>
 aa PP (.st (.c a4) (.c a39) 8) h40 fun a41 h42 =>
 aa PP (.ld (.c a4) 8 true) h42 fun a43 _ =>
 K a43 h42) /\
 p7 a30 h31 a2 a4 J32
theorem x7 (a0:D) (h0:Heap) (K:HKq):wo a0 h0 K=ku wH K [a0] h0:=by kernel_rfl
def xd:TL
 | 1000015=>some ([3],[])|4=>some ([1,3],[4])|8=>some ([1,3,35,36],[4,37])|1000014=>some ([1,3,35,36,37],[4])|_=>none
def yI:TT
 | _=>none
def pU:aJ:=⟨55,
 .seq (.reg [⟨(some 1),.box (.t 0),none⟩,
  ⟨(some 2),.mov (.c .nil),none⟩]) <|
 .seq (.reg [⟨(some 8),.fadd (.t 1) 7,none⟩,
  ⟨(some 9),.ld (.t 8) 1 false,none⟩,
  ⟨(some 10),.len (.t 9),none⟩,
  ⟨(some 11),.mk 1 1 (.bool false) (.t 10) (.t 10),none⟩,
  ⟨(some 3),.mov (.t 11),none⟩]) <|
 .seq (.reg [⟨(some 12),.mov (.t 3),none⟩,
  ⟨(some 13),.iadd (.t 12) (.c (.int .i64 0)) 1,none⟩,
  ⟨none,.st (.t 13) (.c (.bool true)) 1,none⟩]) <|
 .seqj [3] [] (.seq (.reg [⟨(some 14),.bldS true 1 1 (.int .i64 0) [(0,(.c (.int .i64 0)))],none⟩,
  ⟨(some 4),.mov (.t 14),none⟩]) <|
 .block 0 (.loop [1,3] [4] (.seq (.seq (.reg [⟨(some 15),.mov (.t 4),none⟩,
  ⟨(some 16),.len (.t 15),none⟩,
  ⟨(some 17),.bin .gtr (.t 16) (.c (.int .i64 0)),none⟩]) <|
 .cond (.t 17) (.skip) (.exit 0)) <|
 .block 1 (.seq (.reg [⟨(some 18),.mov (.t 4),none⟩,
  ⟨(some 19),.mov (.t 4),none⟩,
  ⟨(some 20),.len (.t 19),none⟩,
  ⟨(some 21),.bin .sub (.t 20) (.c (.int .i64 1)),none⟩,
  ⟨(some 22),.iadd (.t 18) (.t 21) 1,none⟩,
  ⟨(some 23),.ld (.t 22) 1 false,none⟩,
  ⟨(some 5),.mov (.t 23),none⟩]) <|
 .seq (.reg [⟨(some 24),.mov (.t 4),none⟩,
  ⟨(some 25),.mov (.t 4),none⟩,
  ⟨(some 26),.len (.t 25),none⟩,
  ⟨(some 27),.bin .sub (.t 26) (.c (.int .i64 1)),none⟩,
  ⟨(some 28),.o8 (.t 24) none (some (.t 27)) none 1,none⟩,
  ⟨(some 4),.mov (.t 28),none⟩]) <|
 .seq (.reg [⟨(some 29),.fadd (.t 1) 7,none⟩,
  ⟨(some 30),.ld (.t 29) 1 false,none⟩,
  ⟨(some 31),.mov (.t 5),none⟩,
  ⟨(some 32),.iadd (.t 30) (.t 31) 14,none⟩,
  ⟨(some 33),.fadd (.t 32) 1,none⟩,
  ⟨(some 34),.ld (.t 33) 13 true,none⟩,
  ⟨(some 35),.call dW [(.t 34)],none⟩,
  ⟨(some 36),.len (.t 35),none⟩,
  ⟨(some 37),.mov (.c (.int .i64 0)),none⟩]) <|
 .block 2 (.loop [1,3,35,36] [4,37] (.seq (.reg [⟨(some 38),.bin .lss (.t 37) (.t 36),none⟩]) <|
 .seq (.cond (.t 38) (.skip) (.exit 2)) <|
 .seqj [1,3,35,36,37] [4] (.block 3 (.seq (.reg [⟨(some 39),.iadd (.t 35) (.t 37) 1,none⟩,
  ⟨(some 40),.ld (.t 39) 1 false,none⟩,
  ⟨(some 7),.mov (.t 40),none⟩]) <|
 .seq (.reg [⟨(some 41),.mov (.t 3),none⟩,
  ⟨(some 42),.mov (.t 7),none⟩,
  ⟨(some 43),.iadd (.t 41) (.t 42) 1,none⟩,
  ⟨(some 44),.ld (.t 43) 1 false,none⟩,
  ⟨(some 45),.un .not (.t 44),none⟩]) <|
 .cond (.t 45) (.seq (.reg [⟨(some 46),.mov (.t 3),none⟩,
  ⟨(some 47),.mov (.t 7),none⟩,
  ⟨(some 48),.iadd (.t 46) (.t 47) 1,none⟩,
  ⟨none,.st (.t 48) (.c (.bool true)) 1,none⟩]) <|
 .reg [⟨(some 49),.mov (.t 4),none⟩,
  ⟨(some 50),.mov (.t 7),none⟩,
  ⟨(some 51),.bldS true 1 1 (.int .i64 0) [(0,(.t 50))],none⟩,
  ⟨(some 52),.app (.t 49) (.t 51) 1 8 (.int .i64 0),none⟩,
  ⟨(some 4),.mov (.t 52),none⟩]) (.skip))) <|
 .reg [⟨(some 53),.bin .add (.t 37) (.c (.int .i64 1)),none⟩,
  ⟨(some 37),.mov (.t 53),none⟩])))))) <|
 .seq (.reg [⟨(some 54),.mov (.t 3),none⟩,
  ⟨(some 2),.mov (.t 54),none⟩]) <|
 .ret,
 [.t 2]⟩
theorem qh:cFn PP true fF xd (cDr PP 55 yI)=some pU:=by kernel_rfl
def qc (a34:D) (h47:Heap) (a48:D) (a2:D) (a9:D) (a46:D) (n21:Nat) (I20:Nat->HJq):Prop :=
 ∃(I49:Nat->HJq) (n₀:Nat),I49 n₀ [a34,(.int .i64 0)] h47/\∀(n50:Nat) (f51:Nat->D) (h52:Heap),I49 n50 [f51 4,f51 37] h52 ->
 vbin .lss (f51 37) a48 fun a53 =>
 vcond a53 (∃(J54:HJq),(∀(f55:Nat->D) (h56:Heap),J54 [f55 4] h56 ->
 vbin .add (f51 37) (.int .i64 1) fun a57 =>
 aG [a2,a9,a46,a48] [a2,a9,a46,a48]/\∃m,m<n50/\I49 m [(f55 4),a57] h56) /\
 aa PP (.iadd (.c a46) (.c (f51 37)) 1) h52 fun a58 h59 =>
 aa PP (.ld (.c a58) 1 false) h59 fun a60 h61 =>
 aa PP (.iadd (.c a9) (.c a60) 1) h61 fun a62 h63 =>
 aa PP (.ld (.c a62) 1 false) h63 fun a64 h65 =>
 vun .not a64 fun a66 =>
 vcond a66 (aa PP (.iadd (.c a9) (.c a60) 1) h65 fun a67 h68 =>
 aa PP (.st (.c a67) (.c (.bool true)) 1) h68 fun a69 h70 =>
 aa PP (.bldS true 1 1 (.int .i64 0) [(0,(.c a60))]) h70 fun a71 h72 =>
 aa PP (.app (.c (f51 4)) (.c a71) 1 8 (.int .i64 0)) h72 fun a73 h74 =>
 aG [a2,a9,a46,a48,(f51 37)] [a2,a9,a46,a48,(f51 37)]/\J54 [a73] h74) (
 aG [a2,a9,a46,a48,(f51 37)] [a2,a9,a46,a48,(f51 37)]/\J54 [(f51 4)] h65)) (
 aG [a2,a9] [a2,a9]/\∃m,m<n21/\I20 m [(f51 4)] h52)
def qb (a18:D) (h19:Heap) (a2:D) (a9:D) (J15:HJq):Prop :=
 ∃(I20:Nat->HJq) (n₀:Nat),I20 n₀ [a18] h19/\∀(n21:Nat) (f22:Nat->D) (h23:Heap),I20 n21 [f22 4] h23 ->
 aS (f22 4) h23 fun a24 =>
 vbin .gtr a24 (.int .i64 0) fun a25 =>
 vcond a25 (aS (f22 4) h23 fun a26 =>
 vbin .sub a26 (.int .i64 1) fun a27 =>
 aa PP (.iadd (.c (f22 4)) (.c a27) 1) h23 fun a28 h29 =>
 aa PP (.ld (.c a28) 1 false) h29 fun a30 h31 =>
 aS (f22 4) h31 fun a32 =>
 vbin .sub a32 (.int .i64 1) fun a33 =>
 aa PP (.o8 (.c (f22 4)) none (some (.c a33)) none 1) h31 fun a34 h35 =>
 aa PP (.fadd (.c a2) 7) h35 fun a36 h37 =>
 aa PP (.ld (.c a36) 1 false) h37 fun a38 h39 =>
 aa PP (.iadd (.c a38) (.c a30) 14) h39 fun a40 h41 =>
 aa PP (.fadd (.c a40) 1) h41 fun a42 h43 =>
 aa PP (.ld (.c a42) 13 true) h43 fun a44 h45 =>
 af PP dW [a44] h45 fun a46 h47 =>
 aS a46 h47 fun a48 =>
 qc a34 h47 a48 a2 a9 a46 n21 I20) (
 aG [a9] [a9]/\J15 [] h23)
def wx (a0:D) (h0:Heap) (K:HKq):Prop :=
 aa PP (.box (.c a0)) h0 fun a2 h3 =>
 aa PP (.fadd (.c a2) 7) h3 fun a4 h5 =>
 aa PP (.ld (.c a4) 1 false) h5 fun a6 h7 =>
 aS a6 h7 fun a8 =>
 aa PP (.mk 1 1 (.bool false) (.c a8) (.c a8)) h7 fun a9 h10 =>
 aa PP (.iadd (.c a9) (.c (.int .i64 0)) 1) h10 fun a11 h12 =>
 aa PP (.st (.c a11) (.c (.bool true)) 1) h12 fun a13 h14 =>
 ∃(J15:HJq),(∀(f16:Nat->D) (h17:Heap),J15 [] h17 ->
 K a9 h17) /\
 aa PP (.bldS true 1 1 (.int .i64 0) [(0,(.c (.int .i64 0)))]) h14 fun a18 h19 =>
 qb a18 h19 a2 a9 J15
theorem x8 (a0:D) (h0:Heap) (K:HKq):wx a0 h0 K=ku pU K [a0] h0:=by kernel_rfl
def qn:TL
 | 1000009=>some ([],[])|4=>some ([0,1],[5])|_=>none
def sR:TT
 | 6=>some ([0,0,3,7,0,0,48,112,255],[],[])|_=>none
def nq:aJ:=⟨26,
 .seq (.reg [⟨(some 4),.mov (.c (.bool false)),none⟩]) <|
 .seq (.seq (.reg [⟨(some 6),.mov (.t 0),none⟩,
  ⟨(some 7),.len (.t 6),none⟩,
  ⟨(some 8),.mov (.t 1),none⟩,
  ⟨(some 9),.len (.t 8),none⟩,
  ⟨(some 10),.bin .neq (.t 7) (.t 9),none⟩]) <|
 .cond (.t 10) (.seq (.reg [⟨(some 4),.mov (.c (.bool false)),none⟩]) <|
 .ret) (.skip)) <|
 .seqj [] [] (.seq (.reg [⟨(some 5),.mov (.c (.int .i64 0)),none⟩]) <|
 .block 0 (.loop [0,1] [5] (.seq (.seq (.reg [⟨(some 11),.mov (.t 5),none⟩,
  ⟨(some 12),.mov (.t 0),none⟩,
  ⟨(some 13),.len (.t 12),none⟩,
  ⟨(some 14),.bin .lss (.t 11) (.t 13),none⟩]) <|
 .cond (.t 14) (.skip) (.exit 0)) <|
 .seq (.block 1 (.seq (.dreg [⟨(some 17),.mov (.t 0),none⟩,
  ⟨(some 18),.mov (.t 5),none⟩,
  ⟨(some 19),.iadd (.t 17) (.t 18) 1,none⟩,
  ⟨(some 20),.ld (.t 19) 1 false,none⟩,
  ⟨(some 21),.mov (.t 1),none⟩,
  ⟨(some 22),.mov (.t 5),none⟩,
  ⟨(some 23),.iadd (.t 21) (.t 22) 1,none⟩,
  ⟨(some 24),.ld (.t 23) 1 false,none⟩,
  ⟨(some 25),.eqv true false [.b] (.t 20) (.t 24),none⟩] [] []) <|
 .cond (.t 25) (.seq (.reg [⟨(some 4),.mov (.c (.bool false)),none⟩]) <|
 .ret) (.skip))) <|
 .reg [⟨(some 15),.mov (.t 5),none⟩,
  ⟨(some 16),.bin .add (.t 15) (.c (.int .i64 1)),none⟩,
  ⟨(some 5),.mov (.t 16),none⟩]))) <|
 .seq (.reg [⟨(some 4),.mov (.c (.bool true)),none⟩]) <|
 .ret,
 [.t 4]⟩
theorem sh:cFn PP true bT qn (cDr PP 26 sR)=some nq:=by kernel_rfl
def x0:TL
 | _=>none
def zY:TT
 | _=>none
def sC:aJ:=⟨6,
 .seq (.reg [⟨(some 1),.box (.t 0),none⟩,
  ⟨(some 2),.mov (.c (.int .i64 0)),none⟩]) <|
 .seq (.reg [⟨(some 3),.fadd (.t 1) 2,none⟩,
  ⟨(some 4),.ld (.t 3) 3 true,none⟩,
  ⟨(some 5),.call jt [(.t 4)],none⟩,
  ⟨(some 2),.mov (.t 5),none⟩]) <|
 .ret,
 [.t 2]⟩
theorem sy:cFn PP true jQ x0 (cDr PP 6 zY)=some sC:=by kernel_rfl
def xO (a0:D) (h0:Heap) (K:HKq):Prop :=
 aa PP (.box (.c a0)) h0 fun a2 h3 =>
 aa PP (.fadd (.c a2) 2) h3 fun a4 h5 =>
 aa PP (.ld (.c a4) 3 true) h5 fun a6 h7 =>
 af PP jt [a6] h7 fun a8 h9 =>
 K a8 h9
theorem zK (a0:D) (h0:Heap) (K:HKq):xO a0 h0 K=ku sC K [a0] h0:=by kernel_rfl
def y6:TL
 | _=>none
def Bj:TT
 | _=>none
def uK:aJ:=⟨6,
 .seq (.reg [⟨(some 1),.box (.t 0),none⟩,
  ⟨(some 2),.mov (.c (.int .i64 0)),none⟩]) <|
 .seq (.reg [⟨(some 3),.fadd (.t 1) 3,none⟩,
  ⟨(some 4),.ld (.t 3) 3 true,none⟩,
  ⟨(some 5),.call jt [(.t 4)],none⟩,
  ⟨(some 2),.mov (.t 5),none⟩]) <|
 .ret,
 [.t 2]⟩
theorem tP:cFn PP true ju y6 (cDr PP 6 Bj)=some uK:=by kernel_rfl
def zL (a0:D) (h0:Heap) (K:HKq):Prop :=
 aa PP (.box (.c a0)) h0 fun a2 h3 =>
 aa PP (.fadd (.c a2) 3) h3 fun a4 h5 =>
 aa PP (.ld (.c a4) 3 true) h5 fun a6 h7 =>
 af PP jt [a6] h7 fun a8 h9 =>
 K a8 h9
theorem Aj (a0:D) (h0:Heap) (K:HKq):zL a0 h0 K=ku uK K [a0] h0:=by kernel_rfl
def tf:TL
 | _=>none
def uY:TT
 | 4=>some ([0,0,3,0,0,24,63,8,136,392,904,0,3976,392,0,24968,57736,8584,139656,401800,926088,0,2097152,8266120,0,16777216,67108863,134217727,268435455],[28],[])|_=>none
def qg:aJ:=⟨38,
 .seq (.reg [⟨(some 0),.alloc (.agg [(.int .i64 0),(.int .i64 0),(.int .i64 0),(.int .i64 0),(.int .i64 0),.nil,.nil,.nil]),none⟩]) <|
 .seq (.reg [⟨(some 4),.bld [(.int .i64 0),(.int .i64 0)] [(0,1,(.c (.int .i64 2))),(1,1,(.c (.int .i64 0)))],none⟩,
  ⟨(some 5),.bld [(.int .i64 0),(.int .i64 0),(.int .i64 0),(.int .i64 0),(.int .i32 0),(.int .i64 0),(.int .i64 0),(.int .i32 0),(.int .i64 0),(.int .i64 0),(.int .i32 0),(.int .i64 0),(.int .i64 0)] [(0,1,(.c (.int .i64 1))),(11,2,(.t 4))],none⟩,
  ⟨(some 1),.alloc (.agg [(.int .i64 0),(.int .i64 0),(.int .i64 0),(.int .i64 0),(.int .i32 0),(.int .i64 0),(.int .i64 0),(.int .i32 0),(.int .i64 0),(.int .i64 0),(.int .i32 0),(.int .i64 0),(.int .i64 0)]),none⟩,
  ⟨none,.st (.t 1) (.t 5) 13,none⟩]) <|
 .seq (.reg [⟨(some 6),.call bk [(.c (.int .i64 0))],none⟩,
  ⟨(some 7),.bld [(.int .i64 0),(.int .i64 0),(.int .i64 0),(.int .i64 0),(.int .i64 0),(.int .i32 0),(.int .i64 0),(.int .i64 0),(.int .i32 0),(.int .i64 0),(.int .i64 0),(.int .i32 0),(.int .i64 0),(.int .i64 0),(.int .i32 0)] [(0,1,(.c (.int .i64 5))),(1,1,(.c (.int .i64 2))),(3,3,(.t 6))],none⟩,
  ⟨(some 2),.alloc (.agg [(.int .i64 0),(.int .i64 0),(.int .i64 0),(.int .i64 0),(.int .i64 0),(.int .i32 0),(.int .i64 0),(.int .i64 0),(.int .i32 0),(.int .i64 0),(.int .i64 0),(.int .i32 0),(.int .i64 0),(.int .i64 0),(.int .i32 0)]),none⟩,
  ⟨none,.st (.t 2) (.t 7) 15,none⟩]) <|
 .seq (.reg [⟨(some 8),.call bk [(.c (.int .i64 1))],none⟩,
  ⟨(some 9),.bld [(.int .i64 0),(.int .i64 0),(.int .i64 0),(.int .i64 0),(.int .i64 0),(.int .i32 0),(.int .i64 0),(.int .i64 0),(.int .i32 0),(.int .i64 0),(.int .i64 0),(.int .i32 0),(.int .i64 0),(.int .i64 0),(.int .i32 0)] [(0,1,(.c (.int .i64 5))),(1,1,(.c (.int .i64 3))),(3,3,(.t 8))],none⟩,
  ⟨(some 3),.alloc (.agg [(.int .i64 0),(.int .i64 0),(.int .i64 0),(.int .i64 0),(.int .i64 0),(.int .i32 0),(.int .i64 0),(.int .i64 0),(.int .i32 0),(.int .i64 0),(.int .i64 0),(.int .i32 0),(.int .i64 0),(.int .i64 0),(.int .i32 0)]),none⟩,
  ⟨none,.st (.t 3) (.t 9) 15,none⟩]) <|
 .seq (.dreg [⟨(some 10),.ld (.t 2) 15 true,none⟩,
  ⟨(some 11),.ld (.t 3) 15 true,none⟩,
  ⟨(some 12),.bldS false 15 2 (.agg [(.int .i64 0),(.int .i64 0),(.int .i64 0),(.int .i64 0),(.int .i64 0),(.int .i32 0),(.int .i64 0),(.int .i64 0),(.int .i32 0),(.int .i64 0),(.int .i64 0),(.int .i32 0),(.int .i64 0),(.int .i64 0),(.int .i32 0)]) [(0,(.t 10)),(1,(.t 11))],none⟩,
  ⟨(some 13),.call bk [(.c (.int .i64 0))],none⟩,
  ⟨(some 14),.bld [(.int .i64 0),(.int .i64 0)] [(0,1,(.c (.int .i64 1))),(1,1,(.c (.int .i64 2)))],none⟩,
  ⟨(some 15),.bld [(.int .i64 0),(.int .i64 0),(.int .i64 0),(.int .i64 0),(.int .i32 0),(.int .i64 0),(.int .i64 0),(.int .i32 0),(.int .i64 0),(.int .i64 0),(.int .i32 0),(.int .i64 0),(.int .i64 0)] [(0,1,(.c (.int .i64 2))),(5,3,(.t 13)),(11,2,(.t 14))],none⟩,
  ⟨(some 16),.bld [.nil,(.int .i64 0),(.int .i64 0),(.int .i64 0),(.int .i64 0),(.int .i32 0),(.int .i64 0),(.int .i64 0),(.int .i32 0),(.int .i64 0),(.int .i64 0),(.int .i32 0),(.int .i64 0),(.int .i64 0)] [(0,1,(.t 12)),(1,13,(.t 15))],none⟩,
  ⟨(some 17),.call bk [(.c (.int .i64 2))],none⟩,
  ⟨(some 18),.call cx [(.c (.int .i32 1))],none⟩,
  ⟨(some 19),.bld [(.int .i64 0),(.int .i64 0),(.int .i64 0),(.int .i64 0),(.int .i64 0),(.int .i32 0),(.int .i64 0),(.int .i64 0),(.int .i32 0),(.int .i64 0),(.int .i64 0),(.int .i32 0),(.int .i64 0),(.int .i64 0),(.int .i32 0)] [(0,1,(.c (.int .i64 1))),(3,3,(.t 17)),(6,3,(.t 18))],none⟩,
  ⟨(some 20),.bldS false 15 1 (.agg [(.int .i64 0),(.int .i64 0),(.int .i64 0),(.int .i64 0),(.int .i64 0),(.int .i32 0),(.int .i64 0),(.int .i64 0),(.int .i32 0),(.int .i64 0),(.int .i64 0),(.int .i32 0),(.int .i64 0),(.int .i64 0),(.int .i32 0)]) [(0,(.t 19))],none⟩,
  ⟨(some 21),.ld (.t 1) 13 true,none⟩,
  ⟨(some 22),.bld [.nil,(.int .i64 0),(.int .i64 0),(.int .i64 0),(.int .i64 0),(.int .i32 0),(.int .i64 0),(.int .i64 0),(.int .i32 0),(.int .i64 0),(.int .i64 0),(.int .i32 0),(.int .i64 0),(.int .i64 0)] [(0,1,(.t 20)),(1,13,(.t 21))],none⟩,
  ⟨(some 23),.call bk [(.c (.int .i64 1))],none⟩,
  ⟨(some 24),.bld [(.int .i64 0),(.int .i64 0)] [(0,1,(.c (.int .i64 3))),(1,1,(.c (.int .i64 4)))],none⟩,
  ⟨(some 25),.bld [(.int .i64 0),(.int .i64 0),(.int .i64 0),(.int .i64 0),(.int .i32 0),(.int .i64 0),(.int .i64 0),(.int .i32 0),(.int .i64 0),(.int .i64 0),(.int .i32 0),(.int .i64 0),(.int .i64 0)] [(0,1,(.c (.int .i64 2))),(5,3,(.t 23)),(11,2,(.t 24))],none⟩,
  ⟨(some 26),.bld [.nil,(.int .i64 0),(.int .i64 0),(.int .i64 0),(.int .i64 0),(.int .i32 0),(.int .i64 0),(.int .i64 0),(.int .i32 0),(.int .i64 0),(.int .i64 0),(.int .i32 0),(.int .i64 0),(.int .i64 0)] [(1,13,(.t 25))],none⟩,
  ⟨(some 27),.call bk [(.c (.int .i64 3))],none⟩,
  ⟨(some 28),.call bk [(.c (.int .i64 1))],none⟩,
  ⟨(some 29),.bld [(.int .i64 0),(.int .i64 0),(.int .i64 0),(.int .i64 0),(.int .i64 0),(.int .i32 0),(.int .i64 0),(.int .i64 0),(.int .i32 0),(.int .i64 0),(.int .i64 0),(.int .i32 0),(.int .i64 0),(.int .i64 0),(.int .i32 0)] [(0,1,(.c (.int .i64 1))),(3,3,(.t 27)),(6,3,(.t 28))],none⟩,
  ⟨(some 30),.bldS false 15 1 (.agg [(.int .i64 0),(.int .i64 0),(.int .i64 0),(.int .i64 0),(.int .i64 0),(.int .i32 0),(.int .i64 0),(.int .i64 0),(.int .i32 0),(.int .i64 0),(.int .i64 0),(.int .i32 0),(.int .i64 0),(.int .i64 0),(.int .i32 0)]) [(0,(.t 29))],none⟩,
  ⟨(some 31),.bld [(.int .i64 0),(.int .i64 0)] [(0,1,(.c (.int .i64 4))),(1,1,(.c (.int .i64 0)))],none⟩,
  ⟨(some 32),.bld [(.int .i64 0),(.int .i64 0),(.int .i64 0),(.int .i64 0),(.int .i32 0),(.int .i64 0),(.int .i64 0),(.int .i32 0),(.int .i64 0),(.int .i64 0),(.int .i32 0),(.int .i64 0),(.int .i64 0)] [(0,1,(.c (.int .i64 1))),(11,2,(.t 31))],none⟩,
  ⟨(some 33),.bld [.nil,(.int .i64 0),(.int .i64 0),(.int .i64 0),(.int .i64 0),(.int .i32 0),(.int .i64 0),(.int .i64 0),(.int .i32 0),(.int .i64 0),(.int .i64 0),(.int .i32 0),(.int .i64 0),(.int .i64 0)] [(0,1,(.t 30)),(1,13,(.t 32))],none⟩,
  ⟨(some 34),.bld [(.int .i64 0),(.int .i64 0),(.int .i64 0),(.int .i64 0),(.int .i32 0),(.int .i64 0),(.int .i64 0),(.int .i32 0),(.int .i64 0),(.int .i64 0),(.int .i32 0),(.int .i64 0),(.int .i64 0)] [(0,1,(.c (.int .i64 5)))],none⟩,
  ⟨(some 35),.bld [.nil,(.int .i64 0),(.int .i64 0),(.int .i64 0),(.int .i64 0),(.int .i32 0),(.int .i64 0),(.int .i64 0),(.int .i32 0),(.int .i64 0),(.int .i64 0),(.int .i32 0),(.int .i64 0),(.int .i64 0)] [(1,13,(.t 34))],none⟩,
  ⟨(some 36),.bldS false 14 5 (.agg [.nil,(.int .i64 0),(.int .i64 0),(.int .i64 0),(.int .i64 0),(.int .i32 0),(.int .i64 0),(.int .i64 0),(.int .i32 0),(.int .i64 0),(.int .i64 0),(.int .i32 0),(.int .i64 0),(.int .i64 0)]) [(0,(.t 16)),(1,(.t 22)),(2,(.t 26)),(3,(.t 33)),(4,(.t 35))],none⟩,
  ⟨(some 37),.bld [(.int .i64 0),(.int .i64 0),(.int .i64 0),(.int .i64 0),(.int .i64 0),.nil,.nil,.nil] [(0,1,(.c (.int .i64 4))),(1,1,(.c (.int .i64 1))),(2,1,(.c (.int .i64 5))),(7,1,(.t 36))],none⟩] [⟨none,.st (.t 0) (.t 37) 8,none⟩] []) <|
 .ret,
 [.cell 0 8 true]⟩
theorem uH:cFn PP true gq tf (cDr PP 38 uY)=some qg:=by kernel_rfl
def xV:TL
 | 1000007=>some ([1,4,5],[])|3=>some ([1,4,5],[6])|1000011=>some ([4,5],[])|7=>some ([1,4,5],[7])|_=>none
def zT:TT
 | 1=>some ([0,1,3,7,0,16,48,127,0,511],[3,6,8,9],[999996,0,1,2])|_=>none
def xP:aJ:=⟨41,
 .seq (.reg [⟨(some 2),.box (.t 0),none⟩,
  ⟨(some 4),.alloc (.agg [.nil,.nil]),none⟩]) <|
 .seq (.seq (.dreg [⟨(some 11),.mov (.c .undef),none⟩,
  ⟨(some 14),.mov (.c .undef),none⟩,
  ⟨(some 5),.mov (.c .undef),none⟩] [] []) <|
 .seq (.dreg [⟨(some 8),.fadd (.t 2) 7,none⟩,
  ⟨(some 9),.ld (.t 8) 1 false,none⟩,
  ⟨(some 10),.len (.t 9),none⟩,
  ⟨(some 12),.fadd (.t 2) 2,none⟩,
  ⟨(some 13),.ld (.t 12) 1 false,none⟩] [] []) <|
 .seq (.dreg [] [⟨none,.mkc 1 (.t 10) (.t 10),none⟩] []) <|
 .seq (.dreg [] [⟨none,.mkc 1 (.t 13) (.t 13),none⟩] []) <|
 .seq (.dreg [] [⟨(some 11),.mk 1 1 (.bool false) (.t 10) (.t 10),none⟩] [⟨(some 12),.fadd (.t 2) 2,none⟩,
  ⟨(some 13),.ld (.t 12) 1 false,none⟩]) <|
 .seq (.dreg [] [⟨(some 14),.mk 1 1 (.bool false) (.t 13) (.t 13),none⟩] [⟨(some 8),.fadd (.t 2) 7,none⟩,
  ⟨(some 9),.ld (.t 8) 1 false,none⟩,
  ⟨(some 10),.len (.t 9),none⟩]) <|
 .seq (.dreg [⟨(some 15),.bld [.nil,.nil] [(0,1,(.t 11)),(1,1,(.t 14))],none⟩] [⟨(some 5),.alloc (.agg [.nil,.nil]),none⟩] [⟨(some 8),.fadd (.t 2) 7,none⟩,
  ⟨(some 9),.ld (.t 8) 1 false,none⟩,
  ⟨(some 10),.len (.t 9),none⟩,
  ⟨(some 12),.fadd (.t 2) 2,none⟩,
  ⟨(some 13),.ld (.t 12) 1 false,none⟩]) <|
 .seq (.dreg [] [⟨none,.st (.t 5) (.t 15) 2,none⟩] []) <|
 .dreg [] [] []) <|
 .seqj [1,4,5] [] (.seq (.reg [⟨(some 6),.mov (.c (.int .i64 0)),none⟩]) <|
 .block 0 (.loop [1,4,5] [6] (.seq (.seq (.reg [⟨(some 16),.mov (.t 6),none⟩,
  ⟨(some 17),.fadd (.t 5) 0,none⟩,
  ⟨(some 18),.ld (.t 17) 1 false,none⟩,
  ⟨(some 19),.len (.t 18),none⟩,
  ⟨(some 20),.bin .lss (.t 16) (.t 19),none⟩]) <|
 .cond (.t 20) (.skip) (.exit 0)) <|
 .seq (.block 1 (.reg [⟨(some 23),.fadd (.t 5) 0,none⟩,
  ⟨(some 24),.ld (.t 23) 1 false,none⟩,
  ⟨(some 25),.mov (.t 6),none⟩,
  ⟨(some 26),.mov (.t 1),none⟩,
  ⟨(some 27),.iadd (.t 24) (.t 25) 1,none⟩,
  ⟨none,.st (.t 27) (.t 26) 1,none⟩])) <|
 .reg [⟨(some 21),.mov (.t 6),none⟩,
  ⟨(some 22),.bin .add (.t 21) (.c (.int .i64 1)),none⟩,
  ⟨(some 6),.mov (.t 22),none⟩]))) <|
 .seqj [4,5] [] (.seq (.reg [⟨(some 7),.mov (.c (.int .i64 0)),none⟩]) <|
 .block 2 (.loop [1,4,5] [7] (.seq (.seq (.reg [⟨(some 28),.mov (.t 7),none⟩,
  ⟨(some 29),.fadd (.t 5) 1,none⟩,
  ⟨(some 30),.ld (.t 29) 1 false,none⟩,
  ⟨(some 31),.len (.t 30),none⟩,
  ⟨(some 32),.bin .lss (.t 28) (.t 31),none⟩]) <|
 .cond (.t 32) (.skip) (.exit 2)) <|
 .seq (.block 3 (.reg [⟨(some 35),.fadd (.t 5) 1,none⟩,
  ⟨(some 36),.ld (.t 35) 1 false,none⟩,
  ⟨(some 37),.mov (.t 7),none⟩,
  ⟨(some 38),.mov (.t 1),none⟩,
  ⟨(some 39),.iadd (.t 36) (.t 37) 1,none⟩,
  ⟨none,.st (.t 39) (.t 38) 1,none⟩])) <|
 .reg [⟨(some 33),.mov (.t 7),none⟩,
  ⟨(some 34),.bin .add (.t 33) (.c (.int .i64 1)),none⟩,
  ⟨(some 7),.mov (.t 34),none⟩]))) <|
 .seq (.reg [⟨(some 40),.ld (.t 5) 2 true,none⟩,
  ⟨none,.st (.t 4) (.t 40) 2,none⟩]) <|
 .ret,
 [.cell 4 2 true]⟩
theorem zQ:cFn PP true fp xV (cDr PP 41 zT)=some xP:=by kernel_rfl
def pq:TL
 | _=>none
def qN:TT
 | 2=>some ([0,1,3,7,0,16,48,112,240,511],[],[])|4=>some ([0,1,3,7,0,16,48,112,240,511,1023,2047,4095],[],[])|_=>none
noncomputable abbrev mj:=cFn PP true ak pq (cDr PP 32 qN)
noncomputable def my:aJ:=⟨32,lW mj,[.t 2]⟩
theorem qF:mj=some my:=by kernel_rfl
def l8 (a0:D) (h0:Heap) (K:HKq):Prop :=
 aa PP (.fadd (.c a0) 0) h0 fun a2 h3 =>
 aa PP (.fadd (.c a2) 1) h3 fun a4 h5 =>
 aa PP (.ld (.c a4) 1 false) h5 fun a6 h7 =>
 vbin .add a6 (.int .i64 1) fun a8 =>
 aa PP (.fadd (.c a0) 0) h7 fun a9 h10 =>
 aa PP (.fadd (.c a9) 1) h10 fun a11 h12 =>
 aa PP (.st (.c a11) (.c a8) 1) h12 fun a13 h14 =>
 ab PP (.fadd (.c a0) 0) h14 fun a15 =>
 ab PP (.fadd (.c a15) 1) h14 fun a16 =>
 ab PP (.ld (.c a16) 1 false) h14 fun a17 =>
 ab PP (.fadd (.c a0) 0) h14 fun a18 =>
 ab PP (.fadd (.c a18) 0) h14 fun a19 =>
 ab PP (.ld (.c a19) 1 false) h14 fun a20 =>
 aS a20 h14 fun a21 =>
 vbin .gtr a17 a21 fun a22 =>
 vcond a22 (K (.int .i64 0) h14) (
 ab PP (.fadd (.c a0) 0) h14 fun a23 =>
 ab PP (.fadd (.c a23) 0) h14 fun a24 =>
 ab PP (.ld (.c a24) 1 false) h14 fun a25 =>
 ab PP (.fadd (.c a0) 0) h14 fun a26 =>
 ab PP (.fadd (.c a26) 1) h14 fun a27 =>
 ab PP (.ld (.c a27) 1 false) h14 fun a28 =>
 vbin .sub a28 (.int .i64 1) fun a29 =>
 ab PP (.iadd (.c a25) (.c a29) 1) h14 fun a30 =>
 ab PP (.ld (.c a30) 1 false) h14 fun a31 =>
 ab PP (.conv .i64 (.c a31)) h14 fun a32 =>
 K a32 h14)
theorem qA (a0:D) (h0:Heap) (K:HKq):l8 a0 h0 K=ku my K [a0] h0:=by kernel_rfl
def uj:TL
 | _=>none
def wQ:TT
 | _=>none
noncomputable abbrev sf:=cFn PP true lP uj (cDr PP 7 wQ)
noncomputable def sm:aJ:=⟨7,lW sf,[.t 0]⟩
theorem wI:sf=some sm:=by kernel_rfl
def rT (h0:Heap) (K:HKq):Prop :=
 aa PP (.bld [(.str ⟨#[]⟩),(.int .i64 0),(.int .i64 0),(.int .i64 0)] [(0,1,(.c (.str ⟨#[97]⟩))),(1,1,(.c (.int .i64 1))),(2,1,(.c (.int .i64 1))),(3,1,(.c (.int .i64 8)))]) h0 fun a1 h2 =>
 aa PP (.bld [(.str ⟨#[]⟩),(.int .i64 0),(.int .i64 0),(.int .i64 0)] [(0,1,(.c (.str ⟨#[102]⟩))),(1,1,(.c (.int .i64 1))),(2,1,(.c (.int .i64 2))),(3,1,(.c (.int .i64 4)))]) h2 fun a3 h4 =>
 aa PP (.bld [(.str ⟨#[]⟩),(.int .i64 0),(.int .i64 0),(.int .i64 0)] [(0,1,(.c (.str ⟨#[115]⟩))),(1,1,(.c (.int .i64 2))),(2,1,(.c (.int .i64 1))),(3,1,(.c (.int .i64 8)))]) h4 fun a5 h6 =>
 aa PP (.bld [(.str ⟨#[]⟩),(.int .i64 0),(.int .i64 0),(.int .i64 0)] [(0,1,(.c (.str ⟨#[112]⟩))),(1,1,(.c (.int .i64 3))),(2,1,(.c (.int .i64 1))),(3,1,(.c (.int .i64 4)))]) h6 fun a7 h8 =>
 aa PP (.bld [(.str ⟨#[]⟩),(.int .i64 0),(.int .i64 0),(.int .i64 0)] [(0,1,(.c (.str ⟨#[98]⟩))),(1,1,(.c (.int .i64 2))),(2,1,(.c (.int .i64 3))),(3,1,(.c (.int .i64 4)))]) h8 fun a9 h10 =>
 aa PP (.bldS true 4 5 (.agg [(.str ⟨#[]⟩),(.int .i64 0),(.int .i64 0),(.int .i64 0)]) [(0,(.c a1)),(1,(.c a3)),(2,(.c a5)),(3,(.c a7)),(4,(.c a9))]) h10 fun a11 h12 =>
 K a11 h12
theorem wq (h0:Heap) (K:HKq):rT h0 K=ku sm K [] h0:=by kernel_rfl
def nN:TL
 | 1000012=>some ([0],[])|4=>some ([0,5],[6])|1000011=>some ([0,5,6],[])|_=>none
def o7:TT
 | 9=>some ([0,1,3,7,15,0,0,64,0,256,0,1216,0,0,12288,31936,65472,0,131072,0,527552,0,0,6291456,16256192,33426624,67108800,134217664,268435455,536870911,1073741823],[7,11,20,30],[999999])|_=>none
noncomputable abbrev kf:=cFn PP true dn nN (cDr PP 77 o7)
noncomputable def ki:aJ:=⟨77,lW kf,[]⟩
theorem oW:kf=some ki:=by kernel_rfl
def gZ (a14:D) (h12:Heap) (a15:D) (a0:D) (J16:HJq):Prop :=
 ∃(I21:Nat->HJq) (n₀:Nat),I21 n₀ [a14] h12/\∀(n22:Nat) (f23:Nat->D) (h24:Heap),I21 n22 [f23 6] h24 ->
 vbin .lss (f23 6) a15 fun a25 =>
 vcond a25 (af PP bV [a0] h24 fun a26 h27 =>
 aa PP (.fadd (.c a0) 0) h27 fun a28 h29 =>
 aa PP (.fadd (.c a28) 2) h29 fun a30 h31 =>
 aa PP (.fadd (.c a30) 7) h31 fun a32 h33 =>
 aa PP (.ld (.c a32) 1 false) h33 fun a34 h35 =>
 vbin .add (f23 6) (.int .i64 1) fun a36 =>
 aa PP (.bld [zI,zI] [(0,1,(.c a36)),(1,1,(.c (.int .i64 0)))]) h35 fun a37 h38 =>
 aa PP (.bld [zI,zI,zI,zI,zJ,zI,zI,zJ,zI,zI,zJ,zI,zI] [(0,1,(.c (.int .i64 1))),(11,2,(.c a37))]) h38 fun a39 h40 =>
 aa PP (.iadd (.c a34) (.c (f23 6)) 14) h40 fun a41 h42 =>
 aa PP (.fadd (.c a41) 1) h42 fun a43 h44 =>
 aa PP (.st (.c a43) (.c a39) 13) h44 fun a45 h46 =>
 ∃(J47:HJq),(∀(f48:Nat->D) (h49:Heap),J47 [] h49 ->
 af PP aT [a0] h49 fun a50 h51 =>
 vbin .add (f23 6) (.int .i64 1) fun a52 =>
 aG [a0,a15] [a0,a15]/\∃m,m<n22/\I21 m [a52] h51) /\
 af PP ak [a0] h46 fun a53 h54 =>
 vbin .rem a53 (.int .i64 2) fun a55 =>
 vbin .eql a55 (.int .i64 0) fun a56 =>
 vcond a56 (ab PP (.fadd (.c a0) 0) h54 fun a57 =>
 ab PP (.fadd (.c a57) 2) h54 fun a58 =>
 ab PP (.fadd (.c a58) 7) h54 fun a59 =>
 ab PP (.ld (.c a59) 1 false) h54 fun a60 =>
 vbin .add (f23 6) (.int .i64 1) fun a61 =>
 vbin .sub a15 (f23 6) fun a62 =>
 vbin .add (f23 6) (.int .i64 1) fun a63 =>
 vbin .sub a15 (f23 6) fun a64 =>
 af PP aM [a0] h54 fun a65 h66 =>
 ((ab PP (.fadd (.c a0) 0) h66 fun a67=>aG [a67] [a57])/\(ab PP (.fadd (.c a57) 2) h66 fun a68=>aG [a68] [a58])/\(ab PP (.fadd (.c a58) 7) h66 fun a69=>aG [a69] [a59])/\(ab PP (.ld (.c a59) 1 false) h66 fun a70=>aG [a70] [a60])/\True) /\
 af PP ak [a0] h66 fun a71 h72 =>
 ((ab PP (.fadd (.c a0) 0) h72 fun a73=>aG [a73] [a57])/\(ab PP (.fadd (.c a57) 2) h72 fun a74=>aG [a74] [a58])/\(ab PP (.fadd (.c a58) 7) h72 fun a75=>aG [a75] [a59])/\(ab PP (.ld (.c a59) 1 false) h72 fun a76=>aG [a76] [a60])/\True) /\
 vbin .rem a71 a62 fun a77 =>
 vbin .add a61 a77 fun a78 =>
 af PP ak [a0] h72 fun a79 h80 =>
 ((ab PP (.fadd (.c a0) 0) h80 fun a81=>aG [a81] [a57])/\(ab PP (.fadd (.c a57) 2) h80 fun a82=>aG [a82] [a58])/\(ab PP (.fadd (.c a58) 7) h80 fun a83=>aG [a83] [a59])/\(ab PP (.ld (.c a59) 1 false) h80 fun a84=>aG [a84] [a60])/\True) /\
 vbin .rem a79 a64 fun a85 =>
 vbin .add a63 a85 fun a86 =>
 ab PP (.bld [zI,zI] [(0,1,(.c a78)),(1,1,(.c a86))]) h80 fun a87 =>
 ab PP (.bld [zI,zI,zI,zI,zJ,zI,zI,zJ,zI,zI,zJ,zI,zI] [(0,1,(.c (.int .i64 2))),(5,3,(.c a65)),(11,2,(.c a87))]) h80 fun a88 =>
 ab PP (.iadd (.c a60) (.c (f23 6)) 14) h80 fun a89 =>
 ab PP (.fadd (.c a89) 1) h80 fun a90 =>
 aa PP (.st (.c a90) (.c a88) 13) h80 fun a91 h92 =>
 aG [a0,a15,(f23 6)] [a0,a15,(f23 6)]/\J47 [] h92) (
 aG [a0,a15,(f23 6)] [a0,a15,(f23 6)]/\J47 [] h54)) (
 aG [a0] [a0]/\J16 [] h24)
def jY (a0:D) (a1:D) (h0:Heap) (K:HKq):Prop :=
 af PP aT [a0] h0 fun a3 h4 =>
 aa PP (.fadd (.c a0) 0) h4 fun a5 h6 =>
 aa PP (.fadd (.c a5) 2) h6 fun a7 h8 =>
 aa PP (.fadd (.c a7) 7) h8 fun a9 h10 =>
 aa PP (.ld (.c a9) 1 false) h10 fun a11 h12 =>
 aS a11 h12 fun a13 =>
 vbin .sub a13 (.int .i64 1) fun a14 =>
 vbin .add a14 a1 fun a15 =>
 ∃(J16:HJq),(∀(f17:Nat->D) (h18:Heap),J16 [] h18 ->
 af PP bV [a0] h18 fun a19 h20 =>
 K (.tup []) h20) /\
 gZ a14 h12 a15 a0 J16
theorem oT (a0:D) (a1:D) (h0:Heap) (K:HKq):jY a0 a1 h0 K=ku ki K [a0,a1] h0:=by kernel_rfl
def pt:TL
 | 1000008=>some ([],[0,2,3,4])|1000016=>some ([],[0,4,119])|_=>none
def qO:TT
 | 9=>some ([0,1,3,7,15,0,0,64,192,0,512,0,2048,7680,16320,32767,65535,131071],[17],[])|15=>some ([0,1,3,7,15,0,32,0,128,0,0,1024,3584,8064,16383,32767,65535],[8,16],[999999])|_=>none
noncomputable abbrev ml:=cFn PP true cI pt (cDr PP 136 qO)
noncomputable def mz:aJ:=⟨136,lW ml,[]⟩
theorem qG:ml=some mz:=by kernel_rfl
def l9 (a0:D) (h0:Heap) (K:HKq):Prop :=
 aa PP (.fadd (.c a0) 0) h0 fun a2 h3 =>
 aa PP (.fadd (.c a2) 2) h3 fun a4 h5 =>
 aa PP (.fadd (.c a4) 6) h5 fun a6 h7 =>
 aa PP (.ld (.c a6) 1 false) h7 fun a8 h9 =>
 aS a8 h9 fun a10 =>
 vbin .mul (.int .i64 2) a10 fun a11 =>
 vbin .add (.int .i64 6) a11 fun a12 =>
 af PP ak [a0] h9 fun a13 h14 =>
 vbin .rem a13 (.int .i64 3) fun a15 =>
 vbin .add (.int .i64 1) a15 fun a16 =>
 vbin .add a12 (.int .i64 2) fun a17 =>
 aa PP (.fadd (.c a0) 0) h14 fun a18 h19 =>
 aa PP (.fadd (.c a18) 2) h19 fun a20 h21 =>
 aa PP (.fadd (.c a20) 2) h21 fun a22 h23 =>
 aa PP (.st (.c a22) (.c a17) 1) h23 fun a24 h25 =>
 aa PP (.fadd (.c a0) 0) h25 fun a26 h27 =>
 aa PP (.fadd (.c a26) 2) h27 fun a28 h29 =>
 aa PP (.fadd (.c a28) 7) h29 fun a30 h31 =>
 aa PP (.ld (.c a30) 1 false) h31 fun a32 h33 =>
 aS a32 h33 fun a34 =>
 af PP bk [a12] h33 fun a35 h36 =>
 af PP cx [(.int .i32 0)] h36 fun a37 h38 =>
 aa PP (.bld [zI,zI,zI,zI,zI,zJ,zI,zI,zJ,zI,zI,zJ,zI,zI,zJ] [(0,1,(.c (.int .i64 1))),(3,3,(.c a35)),(6,3,(.c a37))]) h38 fun a39 h40 =>
 af PP aE [a0,a39] h40 fun a41 h42 =>
 aa PP (.fadd (.c a0) 0) h42 fun a43 h44 =>
 aa PP (.fadd (.c a43) 2) h44 fun a45 h46 =>
 aa PP (.fadd (.c a45) 7) h46 fun a47 h48 =>
 aa PP (.ld (.c a47) 1 false) h48 fun a49 h50 =>
 vbin .sub a34 (.int .i64 1) fun a51 =>
 aa PP (.bld [zI,zI] [(0,1,(.c a34)),(1,1,(.c (.int .i64 0)))]) h50 fun a52 h53 =>
 aa PP (.bld [zI,zI,zI,zI,zJ,zI,zI,zJ,zI,zI,zJ,zI,zI] [(0,1,(.c (.int .i64 1))),(11,2,(.c a52))]) h53 fun a54 h55 =>
 aa PP (.iadd (.c a49) (.c a51) 14) h55 fun a56 h57 =>
 aa PP (.fadd (.c a56) 1) h57 fun a58 h59 =>
 aa PP (.st (.c a58) (.c a54) 13) h59 fun a60 h61 =>
 ∃(J62:HJq),(∀(f63:Nat->D) (h64:Heap),J62 [f63 0,f63 2,f63 3,f63 4] h64 ->
 af PP aT [(f63 0)] h64 fun a65 h66 =>
 vbin .add (f63 2) (.int .i64 1) fun a67 =>
 af PP bk [a67] h66 fun a68 h69 =>
 af PP bk [(f63 2)] h69 fun a70 h71 =>
 aa PP (.conv .i32 (.c (f63 3))) h71 fun a72 h73 =>
 af PP cx [a72] h73 fun a74 h75 =>
 aa PP (.bld [zI,zI,zI,zI,zI,zJ,zI,zI,zJ,zI,zI,zJ,zI,zI,zJ] [(0,1,(.c (.int .i64 3))),(1,1,(.c (.int .i64 26))),(3,3,(.c a68)),(6,3,(.c a70)),(9,3,(.c a74))]) h75 fun a76 h77 =>
 af PP aE [(f63 0),a76] h77 fun a78 h79 =>
 ab PP (.fadd (.c (f63 0)) 0) h79 fun a80 =>
 ab PP (.fadd (.c a80) 2) h79 fun a81 =>
 ab PP (.fadd (.c a81) 7) h79 fun a82 =>
 ab PP (.ld (.c a82) 1 false) h79 fun a83 =>
 vbin .add (f63 2) (.int .i64 1) fun a84 =>
 ab PP (.call bk [(.c a84)]) h79 fun a85 =>
 vbin .add (f63 4) (.int .i64 1) fun a86 =>
 vbin .add (f63 4) (.int .i64 2) fun a87 =>
 ab PP (.bld [zI,zI] [(0,1,(.c a86)),(1,1,(.c a87))]) h79 fun a88 =>
 ab PP (.bld [zI,zI,zI,zI,zJ,zI,zI,zJ,zI,zI,zJ,zI,zI] [(0,1,(.c (.int .i64 2))),(5,3,(.c a85)),(11,2,(.c a88))]) h79 fun a89 =>
 ab PP (.iadd (.c a83) (.c (f63 4)) 14) h79 fun a90 =>
 ab PP (.fadd (.c a90) 1) h79 fun a91 =>
 aa PP (.st (.c a91) (.c a89) 13) h79 fun a92 h93 =>
 af PP aT [(f63 0)] h93 fun a94 h95 =>
 af PP bk [(f63 2)] h95 fun a96 h97 =>
 af PP bk [(f63 2)] h97 fun a98 h99 =>
 af PP cx [(.int .i32 1)] h99 fun a100 h101 =>
 aa PP (.bld [zI,zI,zI,zI,zI,zJ,zI,zI,zJ,zI,zI,zJ,zI,zI,zJ] [(0,1,(.c (.int .i64 3))),(1,1,(.c (.int .i64 10))),(3,3,(.c a96)),(6,3,(.c a98)),(9,3,(.c a100))]) h101 fun a102 h103 =>
 af PP aE [(f63 0),a102] h103 fun a104 h105 =>
 af PP bV [(f63 0)] h105 fun a106 h107 =>
 aa PP (.fadd (.c (f63 0)) 0) h107 fun a108 h109 =>
 aa PP (.fadd (.c a108) 2) h109 fun a110 h111 =>
 aa PP (.fadd (.c a110) 7) h111 fun a112 h113 =>
 aa PP (.ld (.c a112) 1 false) h113 fun a114 h115 =>
 vbin .add (f63 4) (.int .i64 1) fun a116 =>
 aa PP (.bld [zI,zI] [(0,1,(.c (f63 4))),(1,1,(.c (.int .i64 0)))]) h115 fun a117 h118 =>
 aa PP (.bld [zI,zI,zI,zI,zJ,zI,zI,zJ,zI,zI,zJ,zI,zI] [(0,1,(.c (.int .i64 1))),(11,2,(.c a117))]) h118 fun a119 h120 =>
 aa PP (.iadd (.c a114) (.c a116) 14) h120 fun a121 h122 =>
 aa PP (.fadd (.c a121) 1) h122 fun a123 h124 =>
 aa PP (.st (.c a123) (.c a119) 13) h124 fun a125 h126 =>
 ∃(J127:HJq),(∀(f128:Nat->D) (h129:Heap),J127 [f128 0,f128 4,f128 119] h129 ->
 vcond (f128 119) (ab PP (.fadd (.c (f128 0)) 0) h129 fun a130 =>
 ab PP (.fadd (.c a130) 2) h129 fun a131 =>
 ab PP (.fadd (.c a131) 7) h129 fun a132 =>
 ab PP (.ld (.c a132) 1 false) h129 fun a133 =>
 vbin .add (f128 4) (.int .i64 1) fun a134 =>
 vbin .add (f128 4) (.int .i64 2) fun a135 =>
 ab PP (.bld [zI,zI] [(0,1,(.c (f128 4))),(1,1,(.c a135))]) h129 fun a136 =>
 af PP aM [(f128 0)] h129 fun a137 h138 =>
 ((ab PP (.fadd (.c (f128 0)) 0) h138 fun a139=>aG [a139] [a130])/\(ab PP (.fadd (.c a130) 2) h138 fun a140=>aG [a140] [a131])/\(ab PP (.fadd (.c a131) 7) h138 fun a141=>aG [a141] [a132])/\(ab PP (.ld (.c a132) 1 false) h138 fun a142=>aG [a142] [a133])/\True) /\
 ab PP (.bld [zI,zI,zI,zI,zJ,zI,zI,zJ,zI,zI,zJ,zI,zI] [(0,1,(.c (.int .i64 2))),(5,3,(.c a137)),(11,2,(.c a136))]) h138 fun a143 =>
 ab PP (.iadd (.c a133) (.c a134) 14) h138 fun a144 =>
 ab PP (.fadd (.c a144) 1) h138 fun a145 =>
 aa PP (.st (.c a145) (.c a143) 13) h138 fun a146 h147 =>
 K (.tup []) h147) (
 K (.tup []) h129)) /\
 af PP ak [(f63 0)] h126 fun a148 h149 =>
 vbin .rem a148 (.int .i64 3) fun a150 =>
 vbin .eql a150 (.int .i64 0) fun a151 =>
 aG [] []/\J127 [(f63 0),(f63 4),a151] h149) /\
 aa PP (.fadd (.c a0) 0) h61 fun a152 h153 =>
 aa PP (.fadd (.c a152) 2) h153 fun a154 h155 =>
 aa PP (.fadd (.c a154) 6) h155 fun a156 h157 =>
 aa PP (.ld (.c a156) 1 false) h157 fun a158 h159 =>
 aa PP (.bld [zI,zI,zI] [(0,1,(.c a34)),(1,1,(.c a12)),(2,1,(.c a16))]) h159 fun a160 h161 =>
 aa PP (.bldS true 3 1 (.agg [zI,zI,zI]) [(0,(.c a160))]) h161 fun a162 h163 =>
 aa PP (.app (.c a158) (.c a162) 3 24 (.agg [zI,zI,zI])) h163 fun a164 h165 =>
 aa PP (.fadd (.c a0) 0) h165 fun a166 h167 =>
 aa PP (.fadd (.c a166) 2) h167 fun a168 h169 =>
 aa PP (.fadd (.c a168) 6) h169 fun a170 h171 =>
 aa PP (.st (.c a170) (.c a164) 1) h171 fun a172 h173 =>
 aG [] []/\J62 [a0,a12,a16,a34] h173
theorem qB (a0:D) (h0:Heap) (K:HKq):l9 a0 h0 K=ku mz K [a0] h0:=by kernel_rfl
def oH:TL
 | _=>none
def ql:TT
 | _=>none
noncomputable abbrev kT:=cFn PP true aT oH (cDr PP 14 ql)
noncomputable def kX:aJ:=⟨14,lW kT,[]⟩
theorem pT:kT=some kX:=by kernel_rfl
def kP (a0:D) (h0:Heap) (K:HKq):Prop :=
 aa PP (.fadd (.c a0) 0) h0 fun a2 h3 =>
 aa PP (.fadd (.c a2) 2) h3 fun a4 h5 =>
 aa PP (.fadd (.c a4) 7) h5 fun a6 h7 =>
 aa PP (.ld (.c a6) 1 false) h7 fun a8 h9 =>
 aa PP (.bld [.nil,zI,zI,zI,zI,zJ,zI,zI,zJ,zI,zI,zJ,zI,zI] []) h9 fun a10 h11 =>
 aa PP (.bldS true 14 1 (.agg [.nil,zI,zI,zI,zI,zJ,zI,zI,zJ,zI,zI,zJ,zI,zI]) [(0,(.c a10))]) h11 fun a12 h13 =>
 aa PP (.app (.c a8) (.c a12) 14 128 (.agg [.nil,zI,zI,zI,zI,zJ,zI,zI,zJ,zI,zI,zJ,zI,zI])) h13 fun a14 h15 =>
 aa PP (.fadd (.c a0) 0) h15 fun a16 h17 =>
 aa PP (.fadd (.c a16) 2) h17 fun a18 h19 =>
 aa PP (.fadd (.c a18) 7) h19 fun a20 h21 =>
 aa PP (.st (.c a20) (.c a14) 1) h21 fun a22 h23 =>
 K (.tup []) h23
theorem pP (a0:D) (h0:Heap) (K:HKq):kP a0 h0 K=ku kX K [a0] h0:=by kernel_rfl
def qp:TL
 | _=>none
def sT:TT
 | _=>none
noncomputable abbrev nh:=cFn PP true aM qp (cDr PP 7 sT)
noncomputable def nC:aJ:=⟨7,lW nh,[.cell 2 3 true]⟩
theorem kj:nh=some nC:=by kernel_rfl
def iT (a0:D) (h0:Heap) (K:HKq):Prop :=
 aa PP (.alloc (.agg [zI,zI,zJ])) h0 fun a2 h3 =>
 af PP ak [a0] h3 fun a4 h5 =>
 vbin .rem a4 (.int .i64 6) fun a6 =>
 af PP bk [a6] h5 fun a7 h8 =>
 aa PP (.st (.c a2) (.c a7) 3) h8 fun a9 h10 =>
 aa PP (.ld (.c a2) 3 true) h10 fun a11 _ =>
 K a11 h10
theorem jZ (a0:D) (h0:Heap) (K:HKq):iT a0 h0 K=ku nC K [a0] h0:=by kernel_rfl
def qo:TL
 | _=>none
def sS:TT
 | _=>none
noncomputable abbrev nc:=cFn PP true aK qo (cDr PP 18 sS)
noncomputable def ny:aJ:=⟨18,lW nc,[.cell 2 3 true]⟩
theorem kh:nc=some ny:=by kernel_rfl
def iS (a0:D) (h0:Heap) (K:HKq):Prop :=
 aa PP (.alloc (.agg [zI,zI,zJ])) h0 fun a2 h3 =>
 af PP ak [a0] h3 fun a4 h5 =>
 vbin .rem a4 (.int .i64 3) fun a6 =>
 vbin .eql a6 (.int .i64 0) fun a7 =>
 vcond a7 (vbin .quo a4 (.int .i64 3) fun a8 =>
 aa PP (.conv .i32 (.c a8)) h5 fun a9 h10 =>
 vbin .sub a9 (.int .i32 20) fun a11 =>
 af PP cx [a11] h10 fun a12 h13 =>
 aa PP (.st (.c a2) (.c a12) 3) h13 fun a14 h15 =>
 aa PP (.ld (.c a2) 3 true) h15 fun a16 _ =>
 K a16 h15) (
 vbin .quo a4 (.int .i64 3) fun a17 =>
 vbin .rem a17 (.int .i64 6) fun a18 =>
 af PP bk [a18] h5 fun a19 h20 =>
 aa PP (.st (.c a2) (.c a19) 3) h20 fun a21 h22 =>
 aa PP (.ld (.c a2) 3 true) h22 fun a23 _ =>
 K a23 h22)
theorem jX (a0:D) (h0:Heap) (K:HKq):iS a0 h0 K=ku ny K [a0] h0:=by kernel_rfl
def oG:TL
 | 1=>some ([0],[2])|_=>none
def qk:TT
 | _=>none
noncomputable abbrev kS:=cFn PP true bV oG (cDr PP 12 qk)
noncomputable def kW:aJ:=⟨12,lW kS,[]⟩
theorem pS:kS=some kW:=by kernel_rfl
def iV (a4:D) (h3:Heap) (a0:D) (K:HKq):Prop :=
 ∃(I5:Nat->HJq) (n₀:Nat),I5 n₀ [a4] h3/\∀(n6:Nat) (f7:Nat->D) (h8:Heap),I5 n6 [f7 2] h8 ->
 vbin .gtr (f7 2) (.int .i64 0) fun a9 =>
 vcond a9 (af PP gD [a0] h8 fun a10 h11 =>
 vbin .sub (f7 2) (.int .i64 1) fun a12 =>
 aG [a0] [a0]/\∃m,m<n6/\I5 m [a12] h11) (
 K (.tup []) h8)
def kO (a0:D) (h0:Heap) (K:HKq):Prop :=
 af PP ak [a0] h0 fun a2 h3 =>
 vbin .rem a2 (.int .i64 5) fun a4 =>
 iV a4 h3 a0 K
theorem pO (a0:D) (h0:Heap) (K:HKq):kO a0 h0 K=ku kW K [a0] h0:=by kernel_rfl
end Go.Am
namespace Go.Am
open Go Go.Proofs
def ij:TL
 | _=>none
def jd:TT
 | _=>none
def cc:aJ:=⟨5,
 .seq (.reg [⟨(some 2),.mov (.c .nil),none⟩]) <|
 .seq (.reg [⟨(some 3),.mov (.t 0),none⟩,
  ⟨(some 4),.call aO [(.c .nil),(.t 3)],none⟩,
  ⟨(some 2),.mov (.t 4),none⟩]) <|
 .ret,
 [.t 2]⟩
theorem dq:cFn PP true bE ij (cDr PP 5 jd)=some cc:=by kernel_rfl
def dY (a0:D) (h0:Heap) (K:HKq):Prop :=
 af PP aO [.nil,a0] h0 fun a2 h3 =>
 K a2 h3
theorem iR (a0:D) (h0:Heap) (K:HKq):dY a0 h0 K=ku cc K [a0] h0:=by kernel_rfl
def s8:TL
 | _=>none
def uU:TT
 | 1=>some ([0,1,0,7,0,0,63,127],[1,3,4,5,6,7],[999996,2,3])|_=>none
def kH:aJ:=⟨10,
 .seq (.reg [⟨(some 1),.box (.t 0),none⟩,
  ⟨(some 2),.mov (.c .nilfn),none⟩]) <|
 .seq (.seq (.dreg [⟨(some 3),.mov (.c .undef),none⟩,
  ⟨(some 4),.mov (.c .undef),none⟩] [] []) <|
 .seq (.dreg [⟨(some 5),.ld (.t 1) 8 true,none⟩,
  ⟨(some 7),.ld (.t 1) 8 true,none⟩] [] []) <|
 .seq (.dreg [] [⟨(some 6),.call fF [(.t 5)],none⟩] [⟨(some 7),.ld (.t 1) 8 true,none⟩]) <|
 .seq (.dreg [] [⟨(some 8),.call jJ [(.t 7)],none⟩] []) <|
 .seq (.dreg [] [⟨(some 3),.alloc .nil,none⟩] [⟨(some 5),.ld (.t 1) 8 true,none⟩,
  ⟨(some 7),.ld (.t 1) 8 true,none⟩]) <|
 .seq (.dreg [] [⟨(some 4),.alloc .nil,none⟩] [⟨(some 5),.ld (.t 1) 8 true,none⟩,
  ⟨(some 7),.ld (.t 1) 8 true,none⟩]) <|
 .seq (.dreg [] [⟨none,.st (.t 3) (.t 6) 1,none⟩] []) <|
 .seq (.dreg [] [⟨none,.st (.t 4) (.t 8) 1,none⟩] []) <|
 .dreg [] [] []) <|
 .seq (.reg [⟨(some 9),.mkf br [] [(.t 1),(.t 3),(.t 4)],none⟩,
  ⟨(some 2),.mov (.t 9),none⟩]) <|
 .ret,
 [.t 2]⟩
theorem mq:cFn PP true db s8 (cDr PP 10 uU)=some kH:=by kernel_rfl
def p5 (a0:D) (h0:Heap) (K:HKq):Prop :=
 aa PP (.box (.c a0)) h0 fun a2 h3 =>
 ab PP (.ld (.c a2) 8 true) h3 fun a4 =>
 ab PP (.ld (.c a2) 8 true) h3 fun a5 =>
 af PP fF [a4] h3 fun a6 h7 =>
 ((ab PP (.ld (.c a2) 8 true) h7 fun a8=>aG [a8] [a5])/\True) /\
 af PP jJ [a5] h7 fun a9 h10 =>
 aa PP (.alloc .nil) h10 fun a11 h12 =>
 ((ab PP (.ld (.c a2) 8 true) h12 fun a13=>aG [a13] [a4])/\(ab PP (.ld (.c a2) 8 true) h12 fun a14=>aG [a14] [a5])/\True) /\
 aa PP (.alloc .nil) h12 fun a15 h16 =>
 ((ab PP (.ld (.c a2) 8 true) h16 fun a17=>aG [a17] [a4])/\(ab PP (.ld (.c a2) 8 true) h16 fun a18=>aG [a18] [a5])/\True) /\
 aa PP (.st (.c a11) (.c a6) 1) h16 fun a19 h20 =>
 aa PP (.st (.c a15) (.c a9) 1) h20 fun a21 h22 =>
 aa PP (.mkf br [] [(.c a2),(.c a11),(.c a15)]) h22 fun a23 h24 =>
 K a23 h24
theorem uy (a0:D) (h0:Heap) (K:HKq):p5 a0 h0 K=ku kH K [a0] h0:=by kernel_rfl
def ug:TL
 | _=>none
def wO:TT
 | _=>none
def mu:aJ:=⟨22,
 .seq (.reg [⟨(some 2),.box (.t 0),none⟩,
  ⟨(some 3),.box (.t 1),none⟩,
  ⟨(some 4),.mov (.c (.bool false)),none⟩]) <|
 .seq (.seq (.reg [⟨(some 5),.ld (.t 2) 2 true,none⟩,
  ⟨(some 6),.fadd (.t 3) 0,none⟩,
  ⟨(some 7),.ld (.t 6) 2 true,none⟩,
  ⟨(some 8),.call dm [(.t 5),(.t 7)],none⟩,
  ⟨(some 9),.fadd (.t 8) 0,none⟩,
  ⟨(some 10),.ld (.t 9) 1 false,none⟩,
  ⟨(some 11),.un .not (.t 10),none⟩]) <|
 .cond (.t 11) (.seq (.reg [⟨(some 4),.mov (.c (.bool true)),none⟩]) <|
 .ret) (.skip)) <|
 .seq (.reg [⟨(some 12),.fadd (.t 3) 3,none⟩,
  ⟨(some 13),.ld (.t 12) 1 false,none⟩,
  ⟨(some 14),.un .not (.t 13),none⟩,
  ⟨(some 15),.mov (.t 14),none⟩,
  ⟨(some 16),.fadd (.t 3) 2,some (15,true)⟩,
  ⟨(some 17),.ld (.t 16) 1 false,some (15,true)⟩,
  ⟨(some 18),.mkf eZ [] [(.t 2)],some (15,true)⟩,
  ⟨(some 19),.call aL [(.t 17),(.t 18)],some (15,true)⟩,
  ⟨(some 20),.un .not (.t 19),some (15,true)⟩,
  ⟨(some 21),.pick (.t 15) (.t 20) (.c (.bool false)),none⟩,
  ⟨(some 4),.mov (.t 21),none⟩]) <|
 .ret,
 [.t 4]⟩
theorem nj:cFn PP true cH ug (cDr PP 22 wO)=some mu:=by kernel_rfl
def rQ (a0:D) (a1:D) (h0:Heap) (K:HKq):Prop :=
 aa PP (.box (.c a0)) h0 fun a3 h4 =>
 aa PP (.box (.c a1)) h4 fun a5 h6 =>
 aa PP (.ld (.c a3) 2 true) h6 fun a7 h8 =>
 aa PP (.fadd (.c a5) 0) h8 fun a9 h10 =>
 aa PP (.ld (.c a9) 2 true) h10 fun a11 h12 =>
 af PP dm [a7,a11] h12 fun a13 h14 =>
 aa PP (.fadd (.c a13) 0) h14 fun a15 h16 =>
 aa PP (.ld (.c a15) 1 false) h16 fun a17 h18 =>
 vun .not a17 fun a19 =>
 vcond a19 (K (.bool true) h18) (
 aa PP (.fadd (.c a5) 3) h18 fun a20 h21 =>
 aa PP (.ld (.c a20) 1 false) h21 fun a22 h23 =>
 vun .not a22 fun a24 =>
 vguard a24 true (fun G25 =>
 aa PP (.fadd (.c a5) 2) h23 fun a28 h29 =>
 G25 a28 h29) h23 fun a26 h27 =>
 vguard a24 true (fun G30 =>
 aa PP (.ld (.c a26) 1 false) h27 fun a33 h34 =>
 G30 a33 h34) h27 fun a31 h32 =>
 vguard a24 true (fun G35 =>
 aa PP (.mkf eZ [] [(.c a3)]) h32 fun a38 h39 =>
 G35 a38 h39) h32 fun a36 h37 =>
 vguard a24 true (fun G40 =>
 af PP aL [a31,a36] h37 fun a43 h44 =>
 G40 a43 h44) h37 fun a41 h42 =>
 vguard a24 true (fun G45 =>
 vun .not a41 fun a48 =>
 G45 a48 h42) h42 fun a46 h47 =>
 aa PP (.pick (.c a24) (.c a46) (.c (.bool false))) h47 fun a49 h50 =>
 K a49 h50)
theorem v7 (a0:D) (a1:D) (h0:Heap) (K:HKq):rQ a0 a1 h0 K=ku mu K [a0,a1] h0:=by kernel_rfl
def w9:TL
 | _=>none
def yE:TT
 | _=>none
def pQ:aJ:=⟨17,
 .seq (.reg [⟨(some 2),.box (.t 0),none⟩,
  ⟨(some 3),.box (.t 1),none⟩,
  ⟨(some 4),.mov (.c .nilp),none⟩]) <|
 .seq (.seq (.reg [⟨(some 5),.fadd (.t 3) 0,none⟩,
  ⟨(some 6),.ld (.t 5) 1 false,none⟩]) <|
 .cond (.t 6) (.seq (.reg [⟨(some 7),.fadd (.t 2) 0,none⟩,
  ⟨(some 8),.ld (.t 7) 1 false,none⟩,
  ⟨(some 9),.fadd (.t 3) 1,none⟩,
  ⟨(some 10),.ld (.t 9) 1 false,none⟩,
  ⟨(some 11),.iadd (.t 8) (.t 10) 1,none⟩,
  ⟨(some 4),.mov (.t 11),none⟩]) <|
 .ret) (.skip)) <|
 .seq (.reg [⟨(some 12),.fadd (.t 2) 1,none⟩,
  ⟨(some 13),.ld (.t 12) 1 false,none⟩,
  ⟨(some 14),.fadd (.t 3) 1,none⟩,
  ⟨(some 15),.ld (.t 14) 1 false,none⟩,
  ⟨(some 16),.iadd (.t 13) (.t 15) 1,none⟩,
  ⟨(some 4),.mov (.t 16),none⟩]) <|
 .ret,
 [.t 4]⟩
theorem qd:cFn PP true dm w9 (cDr PP 17 yE)=some pQ:=by kernel_rfl
def v8 (a0:D) (a1:D) (h0:Heap) (K:HKq):Prop :=
 aa PP (.box (.c a0)) h0 fun a3 h4 =>
 aa PP (.box (.c a1)) h4 fun a5 h6 =>
 aa PP (.fadd (.c a5) 0) h6 fun a7 h8 =>
 aa PP (.ld (.c a7) 1 false) h8 fun a9 h10 =>
 vcond a9 (aa PP (.fadd (.c a3) 0) h10 fun a11 h12 =>
 aa PP (.ld (.c a11) 1 false) h12 fun a13 h14 =>
 aa PP (.fadd (.c a5) 1) h14 fun a15 h16 =>
 aa PP (.ld (.c a15) 1 false) h16 fun a17 h18 =>
 aa PP (.iadd (.c a13) (.c a17) 1) h18 fun a19 h20 =>
 K a19 h20) (
 aa PP (.fadd (.c a3) 1) h10 fun a21 h22 =>
 aa PP (.ld (.c a21) 1 false) h22 fun a23 h24 =>
 aa PP (.fadd (.c a5) 1) h24 fun a25 h26 =>
 aa PP (.ld (.c a25) 1 false) h26 fun a27 h28 =>
 aa PP (.iadd (.c a23) (.c a27) 1) h28 fun a29 h30 =>
 K a29 h30)
theorem x4 (a0:D) (a1:D) (h0:Heap) (K:HKq):v8 a0 a1 h0 K=ku pQ K [a0,a1] h0:=by kernel_rfl
def xZ:TL
 | _=>none
def zX:TT
 | _=>none
def sx:aJ:=⟨26,
 .seq (.reg [⟨(some 1),.box (.t 0),none⟩,
  ⟨(some 2),.mov (.c .nil),none⟩]) <|
 .seq (.block 0 (.seq (.reg [⟨(some 4),.fadd (.t 1) 0,none⟩,
  ⟨(some 5),.ld (.t 4) 1 false,none⟩,
  ⟨(some 6),.bin .eql (.t 5) (.c (.int .i64 5)),none⟩,
  ⟨(some 3),.mov (.t 6),none⟩]) <|
 .cond (.t 3) (.seq (.reg [⟨(some 2),.mov (.c .nil),none⟩]) <|
 .ret) (.seq (.reg [⟨(some 8),.fadd (.t 1) 0,none⟩,
  ⟨(some 9),.ld (.t 8) 1 false,none⟩,
  ⟨(some 10),.bin .eql (.t 9) (.c (.int .i64 2)),none⟩,
  ⟨(some 11),.mov (.t 10),none⟩,
  ⟨(some 12),.fadd (.t 1) 11,some (11,true)⟩,
  ⟨(some 13),.iadda (.t 12) (.c (.int .i64 0)) 2 1,some (11,true)⟩,
  ⟨(some 14),.ld (.t 13) 1 false,some (11,true)⟩,
  ⟨(some 15),.fadd (.t 1) 11,some (11,true)⟩,
  ⟨(some 16),.iadda (.t 15) (.c (.int .i64 1)) 2 1,some (11,true)⟩,
  ⟨(some 17),.ld (.t 16) 1 false,some (11,true)⟩,
  ⟨(some 18),.bin .neq (.t 14) (.t 17),some (11,true)⟩,
  ⟨(some 19),.pick (.t 11) (.t 18) (.c (.bool false)),none⟩,
  ⟨(some 7),.mov (.t 19),none⟩]) <|
 .cond (.t 7) (.seq (.reg [⟨(some 20),.fadd (.t 1) 11,none⟩,
  ⟨(some 21),.Eb (.t 20) 2,none⟩,
  ⟨(some 2),.mov (.t 21),none⟩]) <|
 .ret) (.skip)))) <|
 .seq (.reg [⟨(some 22),.fadd (.t 1) 11,none⟩,
  ⟨(some 23),.iadda (.t 22) (.c (.int .i64 0)) 2 1,none⟩,
  ⟨(some 24),.ld (.t 23) 1 false,none⟩,
  ⟨(some 25),.bldS true 1 1 (.int .i64 0) [(0,(.t 24))],none⟩,
  ⟨(some 2),.mov (.t 25),none⟩]) <|
 .ret,
 [.t 2]⟩
theorem sw:cFn PP true dW xZ (cDr PP 26 zX)=some sx:=by kernel_rfl
def xN (a0:D) (h0:Heap) (K:HKq):Prop :=
 aa PP (.box (.c a0)) h0 fun a2 h3 =>
 aa PP (.fadd (.c a2) 0) h3 fun a4 h5 =>
 aa PP (.ld (.c a4) 1 false) h5 fun a6 h7 =>
 vbin .eql a6 (.int .i64 5) fun a8 =>
 vcond a8 (K .nil h7) (
 aa PP (.fadd (.c a2) 0) h7 fun a9 h10 =>
 aa PP (.ld (.c a9) 1 false) h10 fun a11 h12 =>
 vbin .eql a11 (.int .i64 2) fun a13 =>
 vguard a13 true (fun G14 =>
 aa PP (.fadd (.c a2) 11) h12 fun a17 h18 =>
 G14 a17 h18) h12 fun a15 h16 =>
 vguard a13 true (fun G19 =>
 aa PP (.iadda (.c a15) (.c (.int .i64 0)) 2 1) h16 fun a22 h23 =>
 G19 a22 h23) h16 fun a20 h21 =>
 vguard a13 true (fun G24 =>
 aa PP (.ld (.c a20) 1 false) h21 fun a27 h28 =>
 G24 a27 h28) h21 fun a25 h26 =>
 vguard a13 true (fun G29 =>
 aa PP (.fadd (.c a2) 11) h26 fun a32 h33 =>
 G29 a32 h33) h26 fun a30 h31 =>
 vguard a13 true (fun G34 =>
 aa PP (.iadda (.c a30) (.c (.int .i64 1)) 2 1) h31 fun a37 h38 =>
 G34 a37 h38) h31 fun a35 h36 =>
 vguard a13 true (fun G39 =>
 aa PP (.ld (.c a35) 1 false) h36 fun a42 h43 =>
 G39 a42 h43) h36 fun a40 h41 =>
 vguard a13 true (fun G44 =>
 vbin .neq a25 a40 fun a47 =>
 G44 a47 h41) h41 fun a45 h46 =>
 aa PP (.pick (.c a13) (.c a45) (.c (.bool false))) h46 fun a48 h49 =>
 vcond a48 (aa PP (.fadd (.c a2) 11) h49 fun a50 h51 =>
 aa PP (.Eb (.c a50) 2) h51 fun a52 h53 =>
 K a52 h53) (
 aa PP (.fadd (.c a2) 11) h49 fun a54 h55 =>
 aa PP (.iadda (.c a54) (.c (.int .i64 0)) 2 1) h55 fun a56 h57 =>
 aa PP (.ld (.c a56) 1 false) h57 fun a58 h59 =>
 aa PP (.bldS true 1 1 (.int .i64 0) [(0,(.c a58))]) h59 fun a60 h61 =>
 K a60 h61))
theorem zH (a0:D) (h0:Heap) (K:HKq):xN a0 h0 K=ku sx K [a0] h0:=by kernel_rfl
def xW:TL
 | _=>none
def zU:TT
 | _=>none
def sk:aJ:=⟨5,
 .seq (.reg [⟨(some 2),.alloc (.agg [(.int .i64 0),(.int .i64 0),(.int .i32 0)]),none⟩]) <|
 .seq (.reg [⟨(some 3),.mov (.t 0),none⟩,
  ⟨(some 4),.bld [(.int .i64 0),(.int .i64 0),(.int .i32 0)] [(0,1,(.c (.int .i64 2))),(1,1,(.t 3))],none⟩,
  ⟨none,.st (.t 2) (.t 4) 3,none⟩]) <|
 .ret,
 [.cell 2 3 true]⟩
theorem sj:cFn PP true bk xW (cDr PP 5 zU)=some sk:=by kernel_rfl
def xK (a0:D) (h0:Heap) (K:HKq):Prop :=
 aa PP (.alloc (.agg [zI,zI,zJ])) h0 fun a2 h3 =>
 aa PP (.bld [zI,zI,zJ] [(0,1,(.c (.int .i64 2))),(1,1,(.c a0))]) h3 fun a4 h5 =>
 aa PP (.st (.c a2) (.c a4) 3) h5 fun a6 h7 =>
 aa PP (.ld (.c a2) 3 true) h7 fun a8 _ =>
 K a8 h7
theorem zC (a0:D) (h0:Heap) (K:HKq):xK a0 h0 K=ku sk K [a0] h0:=by kernel_rfl
def y5:TL
 | _=>none
def Bi:TT
 | _=>none
def uJ:aJ:=⟨8,
 .seq (.reg [⟨(some 1),.box (.t 0),none⟩,
  ⟨(some 2),.mov (.c (.int .i64 0)),none⟩]) <|
 .seq (.seq (.reg [⟨(some 3),.fadd (.t 1) 0,none⟩,
  ⟨(some 4),.ld (.t 3) 1 false,none⟩,
  ⟨(some 5),.bin .neq (.t 4) (.c (.int .i64 2)),none⟩]) <|
 .cond (.t 5) (.seq (.reg [⟨(some 2),.mov (.c (.int .i64 (-1))),none⟩]) <|
 .ret) (.skip)) <|
 .seq (.reg [⟨(some 6),.fadd (.t 1) 1,none⟩,
  ⟨(some 7),.ld (.t 6) 1 false,none⟩,
  ⟨(some 2),.mov (.t 7),none⟩]) <|
 .ret,
 [.t 2]⟩
theorem tO:cFn PP true jt y5 (cDr PP 8 Bi)=some uJ:=by kernel_rfl
def zG (a0:D) (h0:Heap) (K:HKq):Prop :=
 aa PP (.box (.c a0)) h0 fun a2 h3 =>
 aa PP (.fadd (.c a2) 0) h3 fun a4 h5 =>
 aa PP (.ld (.c a4) 1 false) h5 fun a6 h7 =>
 vbin .neq a6 (.int .i64 2) fun a8 =>
 vcond a8 (K (.int .i64 (-1)) h7) (
 aa PP (.fadd (.c a2) 1) h7 fun a9 h10 =>
 aa PP (.ld (.c a9) 1 false) h10 fun a11 h12 =>
 K a11 h12)
theorem Ai (a0:D) (h0:Heap) (K:HKq):zG a0 h0 K=ku uJ K [a0] h0:=by kernel_rfl
def vF:TL
 | _=>none
def xQ:TT
 | _=>none
def oj:aJ:=⟨5,
 .seq (.reg [⟨(some 2),.alloc (.agg [(.int .i64 0),(.int .i64 0),(.int .i32 0)]),none⟩]) <|
 .seq (.reg [⟨(some 3),.mov (.t 0),none⟩,
  ⟨(some 4),.bld [(.int .i64 0),(.int .i64 0),(.int .i32 0)] [(0,1,(.c (.int .i64 1))),(2,1,(.t 3))],none⟩,
  ⟨none,.st (.t 2) (.t 4) 3,none⟩]) <|
 .ret,
 [.cell 2 3 true]⟩
theorem oX:cFn PP true cx vF (cDr PP 5 xQ)=some oj:=by kernel_rfl
def tK (a0:D) (h0:Heap) (K:HKq):Prop :=
 aa PP (.alloc (.agg [zI,zI,zJ])) h0 fun a2 h3 =>
 aa PP (.bld [zI,zI,zJ] [(0,1,(.c (.int .i64 1))),(2,1,(.c a0))]) h3 fun a4 h5 =>
 aa PP (.st (.c a2) (.c a4) 3) h5 fun a6 h7 =>
 aa PP (.ld (.c a2) 3 true) h7 fun a8 _ =>
 K a8 h7
theorem xl (a0:D) (h0:Heap) (K:HKq):tK a0 h0 K=ku oj K [a0] h0:=by kernel_rfl
def qq:TL
 | _=>none
def sU:TT
 | 2=>some ([0,1,3,7,15,0,0,64,192,448,960,0,4032,8128,16320,0,32768,131008,262143,524287,1048575],[17,20],[4,18])|_=>none
noncomputable abbrev ni:=cFn PP true aE qq (cDr PP 32 sU)
noncomputable def nF:aJ:=⟨32,lW ni,[]⟩
theorem si:ni=some nF:=by kernel_rfl
def mY (a0:D) (a1:D) (h0:Heap) (K:HKq):Prop :=
 aa PP (.box (.c a1)) h0 fun a3 h4 =>
 aa PP (.fadd (.c a0) 0) h4 fun a5 h6 =>
 aa PP (.fadd (.c a5) 2) h6 fun a7 h8 =>
 aa PP (.fadd (.c a7) 7) h8 fun a9 h10 =>
 aa PP (.ld (.c a9) 1 false) h10 fun a11 h12 =>
 aS a11 h12 fun a13 =>
 vbin .sub a13 (.int .i64 1) fun a14 =>
 ab PP (.fadd (.c a0) 0) h12 fun a15 =>
 ab PP (.fadd (.c a15) 2) h12 fun a16 =>
 ab PP (.fadd (.c a16) 7) h12 fun a17 =>
 ab PP (.ld (.c a17) 1 false) h12 fun a18 =>
 ab PP (.fadd (.c a0) 0) h12 fun a19 =>
 ab PP (.fadd (.c a19) 2) h12 fun a20 =>
 ab PP (.fadd (.c a20) 7) h12 fun a21 =>
 ab PP (.ld (.c a21) 1 false) h12 fun a22 =>
 ab PP (.iadd (.c a22) (.c a14) 14) h12 fun a23 =>
 ab PP (.fadd (.c a23) 0) h12 fun a24 =>
 ab PP (.ld (.c a24) 1 false) h12 fun a25 =>
 ab PP (.ld (.c a3) 15 true) h12 fun a26 =>
 ab PP (.bldS false 15 1 (.agg [zI,zI,zI,zI,zI,zJ,zI,zI,zJ,zI,zI,zJ,zI,zI,zJ]) [(0,(.c a26))]) h12 fun a27 =>
 ab PP (.iadd (.c a18) (.c a14) 14) h12 fun a28 =>
 ab PP (.fadd (.c a28) 0) h12 fun a29 =>
 aa PP (.app (.c a25) (.c a27) 15 120 (.agg [zI,zI,zI,zI,zI,zJ,zI,zI,zJ,zI,zI,zJ,zI,zI,zJ])) h12 fun a30 h31 =>
 ((ab PP (.ld (.c a17) 1 false) h31 fun a32=>aG [a32] [a18])/\(ab PP (.iadd (.c a18) (.c a14) 14) h31 fun a33=>aG [a33] [a28])/\True) /\
 aa PP (.st (.c a29) (.c a30) 1) h31 fun a34 h35 =>
 ((ab PP (.ld (.c a17) 1 false) h35 fun a36=>aG [a36] [a18])/\(ab PP (.iadd (.c a18) (.c a14) 14) h35 fun a37=>aG [a37] [a28])/\True) /\
 K (.tup []) h35
theorem rS (a0:D) (a1:D) (h0:Heap) (K:HKq):mY a0 a1 h0 K=ku nF K [a0,a1] h0:=by kernel_rfl
def pv:TL
 | _=>none
def qQ:TT
 | 18=>some ([0,0,0,4,12,30,62,0,0,0,524,2046,4095],[3,10,12],[999999])|21=>some ([0,0,0,4,0,30,63],[3,6],[999999])|22=>some ([0,0,0,0,8,30,63],[4,6],[999999])|_=>none
noncomputable abbrev mm:=cFn PP true gD pv (cDr PP 133 qQ)
noncomputable def mA:aJ:=⟨133,lW mm,[]⟩
theorem qH:mm=some mA:=by kernel_rfl
def mc (a0:D) (h0:Heap) (K:HKq):Prop :=
 af PP ak [a0] h0 fun a2 h3 =>
 vbin .rem a2 (.int .i64 16) fun a4 =>
 vbin .lss a4 (.int .i64 3) fun a5 =>
 vcond a5 (af PP ak [a0] h3 fun a6 h7 =>
 vbin .rem a6 (.int .i64 7) fun a8 =>
 vbin .add (.int .i64 1) a8 fun a9 =>
 af PP aM [a0] h7 fun a10 h11 =>
 aa PP (.bld [zI,zI,zI,zI,zI,zJ,zI,zI,zJ,zI,zI,zJ,zI,zI,zJ] [(0,1,(.c (.int .i64 5))),(1,1,(.c a9)),(3,3,(.c a10))]) h11 fun a12 h13 =>
 af PP aE [a0,a12] h13 fun a14 h15 =>
 K (.tup []) h15) (
 vbin .lss a4 (.int .i64 7) fun a16 =>
 vcond a16 (af PP ak [a0] h3 fun a17 h18 =>
 vbin .rem a17 (.int .i64 20) fun a19 =>
 vbin .add (.int .i64 10) a19 fun a20 =>
 af PP aM [a0] h18 fun a21 h22 =>
 af PP aK [a0] h22 fun a23 h24 =>
 af PP aK [a0] h24 fun a25 h26 =>
 aa PP (.bld [zI,zI,zI,zI,zI,zJ,zI,zI,zJ,zI,zI,zJ,zI,zI,zJ] [(0,1,(.c (.int .i64 3))),(1,1,(.c a20)),(3,3,(.c a21)),(6,3,(.c a23)),(9,3,(.c a25))]) h26 fun a27 h28 =>
 af PP aE [a0,a27] h28 fun a29 h30 =>
 K (.tup []) h30) (
 vbin .eql a4 (.int .i64 7) fun a31 =>
 vcond a31 (af PP ak [a0] h3 fun a32 h33 =>
 vbin .rem a32 (.int .i64 5) fun a34 =>
 vbin .add (.int .i64 1) a34 fun a35 =>
 af PP aM [a0] h33 fun a36 h37 =>
 af PP aK [a0] h37 fun a38 h39 =>
 aa PP (.bld [zI,zI,zI,zI,zI,zJ,zI,zI,zJ,zI,zI,zJ,zI,zI,zJ] [(0,1,(.c (.int .i64 2))),(1,1,(.c a35)),(3,3,(.c a36)),(6,3,(.c a38))]) h39 fun a40 h41 =>
 af PP aE [a0,a40] h41 fun a42 h43 =>
 K (.tup []) h43) (
 vbin .eql a4 (.int .i64 8) fun a44 =>
 vcond a44 (af PP aM [a0] h3 fun a45 h46 =>
 af PP aK [a0] h46 fun a47 h48 =>
 af PP aK [a0] h48 fun a49 h50 =>
 af PP aK [a0] h50 fun a51 h52 =>
 aa PP (.bld [zI,zI,zI,zI,zI,zJ,zI,zI,zJ,zI,zI,zJ,zI,zI,zJ] [(0,1,(.c (.int .i64 4))),(3,3,(.c a45)),(6,3,(.c a47)),(9,3,(.c a49)),(12,3,(.c a51))]) h52 fun a53 h54 =>
 af PP aE [a0,a53] h54 fun a55 h56 =>
 K (.tup []) h56) (
 vbin .eql a4 (.int .i64 9) fun a57 =>
 vcond a57 (af PP aM [a0] h3 fun a58 h59 =>
 af PP aK [a0] h59 fun a60 h61 =>
 aa PP (.bld [zI,zI,zI,zI,zI,zJ,zI,zI,zJ,zI,zI,zJ,zI,zI,zJ] [(0,1,(.c (.int .i64 1))),(3,3,(.c a58)),(6,3,(.c a60))]) h61 fun a62 h63 =>
 af PP aE [a0,a62] h63 fun a64 h65 =>
 K (.tup []) h65) (
 vbin .eql a4 (.int .i64 10) fun a66 =>
 vcond a66 (af PP ak [a0] h3 fun a67 h68 =>
 vbin .rem a67 (.int .i64 3) fun a69 =>
 af PP aM [a0] h68 fun a70 h71 =>
 aa PP (.bld [zI,zI,zI,zI,zI,zJ,zI,zI,zJ,zI,zI,zJ,zI,zI,zJ] [(0,1,(.c (.int .i64 6))),(2,1,(.c a69)),(3,3,(.c a70))]) h71 fun a72 h73 =>
 af PP aE [a0,a72] h73 fun a74 h75 =>
 K (.tup []) h75) (
 vbin .eql a4 (.int .i64 11) fun a76 =>
 vcond a76 (af PP ak [a0] h3 fun a77 h78 =>
 vbin .rem a77 (.int .i64 2) fun a79 =>
 vbin .add (.int .i64 1) a79 fun a80 =>
 aa PP (.bld [zI,zI,zI,zI,zI,zJ,zI,zI,zJ,zI,zI,zJ,zI,zI,zJ] [(0,1,(.c (.int .i64 10))),(1,1,(.c a80))]) h78 fun a81 h82 =>
 af PP aE [a0,a81] h82 fun a83 h84 =>
 K (.tup []) h84) (
 vbin .eql a4 (.int .i64 12) fun a85 =>
 vcond a85 (af PP dH [a0,(.bool false)] h3 fun a86 h87 =>
 aa PP (.ext (.c a86) 0) h87 fun a88 h89 =>
 aa PP (.ext (.c a86) 1) h89 fun a90 h91 =>
 aa PP (.alloc (.agg [zI,zI,zJ])) h91 fun a92 h93 =>
 aa PP (.st (.c a92) (.c a90) 3) h93 fun a94 h95 =>
 ab PP (.bldS false 1 6 (.int .i64 0) [(0,(.c (.int .i64 10))),(1,(.c (.int .i64 22))),(2,(.c (.int .i64 23))),(3,(.c (.int .i64 17))),(4,(.c (.int .i64 18))),(5,(.c (.int .i64 19)))]) h95 fun a96 =>
 ab PP (.ld (.c a92) 3 true) h95 fun a97 =>
 af PP ak [a0] h95 fun a98 h99 =>
 ((ab PP (.ld (.c a92) 3 true) h99 fun a100=>aG [a100] [a97])/\True) /\
 vbin .rem a98 (.int .i64 6) fun a101 =>
 ab PP (.iadd (.c a96) (.c a101) 1) h99 fun a102 =>
 ab PP (.ld (.c a102) 1 false) h99 fun a103 =>
 af PP aK [a0] h99 fun a104 h105 =>
 ((ab PP (.iadd (.c a96) (.c a101) 1) h105 fun a106=>aG [a106] [a102])/\(ab PP (.ld (.c a102) 1 false) h105 fun a107=>aG [a107] [a103])/\(ab PP (.ld (.c a92) 3 true) h105 fun a108=>aG [a108] [a97])/\True) /\
 ab PP (.bld [zI,zI,zI,zI,zI,zJ,zI,zI,zJ,zI,zI,zJ,zI,zI,zJ] [(0,1,(.c (.int .i64 9))),(1,1,(.c a103)),(2,1,(.c a88)),(6,3,(.c a97)),(9,3,(.c a104))]) h105 fun a109 =>
 af PP aE [a0,a109] h105 fun a110 h111 =>
 K (.tup []) h111) (
 af PP dH [a0,(.bool true)] h3 fun a112 h113 =>
 aa PP (.ext (.c a112) 0) h113 fun a114 h115 =>
 aa PP (.ext (.c a112) 1) h115 fun a116 h117 =>
 aa PP (.alloc (.agg [zI,zI,zJ])) h117 fun a118 h119 =>
 aa PP (.st (.c a118) (.c a116) 3) h119 fun a120 h121 =>
 vbin .eql a4 (.int .i64 13) fun a122 =>
 vcond a122 (ab PP (.ld (.c a118) 3 true) h121 fun a123 =>
 af PP aM [a0] h121 fun a124 h125 =>
 ((ab PP (.ld (.c a118) 3 true) h125 fun a126=>aG [a126] [a123])/\True) /\
 ab PP (.bld [zI,zI,zI,zI,zI,zJ,zI,zI,zJ,zI,zI,zJ,zI,zI,zJ] [(0,1,(.c (.int .i64 7))),(2,1,(.c a114)),(3,3,(.c a124)),(6,3,(.c a123))]) h125 fun a127 =>
 af PP aE [a0,a127] h125 fun a128 h129 =>
 K (.tup []) h129) (
 ab PP (.ld (.c a118) 3 true) h121 fun a130 =>
 af PP aK [a0] h121 fun a131 h132 =>
 ((ab PP (.ld (.c a118) 3 true) h132 fun a133=>aG [a133] [a130])/\True) /\
 ab PP (.bld [zI,zI,zI,zI,zI,zJ,zI,zI,zJ,zI,zI,zJ,zI,zI,zJ] [(0,1,(.c (.int .i64 8))),(2,1,(.c a114)),(6,3,(.c a130)),(9,3,(.c a131))]) h132 fun a134 =>
 af PP aE [a0,a134] h132 fun a135 h136 =>
 K (.tup []) h136)))))))))
theorem qC (a0:D) (h0:Heap) (K:HKq):mc a0 h0 K=ku mA K [a0] h0:=by kernel_rfl
def cR:TL
 | 1000005=>some ([2],[])|4000004=>some ([2],[])|_=>none
def dj:TT
 | _=>none
def bj:aJ:=⟨13,
 .seq (.reg [⟨(some 2),.box (.t 0),none⟩,
  ⟨(some 4),.mov (.c .nil),none⟩]) <|
 .seqj [2] [] (.seq (.reg [⟨(some 6),.mov (.t 1),none⟩]) <|
 .block 0 (.range (.t 6) [7] [2] [] (.reg [⟨(some 5),.alloc (.agg [(.bool false),(.int .i64 0),.nil,(.bool false)]),none⟩,
  ⟨none,.st (.t 5) (.t 7) 4,none⟩]) (.block 1 (.reg [⟨(some 8),.ld (.t 2) 1 false,none⟩,
  ⟨(some 9),.ld (.t 5) 4 true,none⟩,
  ⟨(some 10),.bldS true 4 1 (.agg [(.bool false),(.int .i64 0),.nil,(.bool false)]) [(0,(.t 9))],none⟩,
  ⟨(some 11),.app (.t 8) (.t 10) 4 48 (.agg [(.bool false),(.int .i64 0),.nil,(.bool false)]),none⟩,
  ⟨none,.st (.t 2) (.t 11) 1,none⟩])))) <|
 .seq (.reg [⟨(some 12),.ld (.t 2) 1 false,none⟩,
  ⟨(some 4),.mov (.t 12),none⟩]) <|
 .ret,
 [.t 4]⟩
theorem bC:cFn PP true aO cR (cDr PP 13 dj)=some bj:=by kernel_rfl
def aY:ACode:=.reg [⟨(some 5),.alloc (.agg [(.bool false),(.int .i64 0),.nil,(.bool false)]),none⟩,
  ⟨none,.st (.t 5) (.t 7) 4,none⟩]
def aX:ACode:=.block 1 (.reg [⟨(some 8),.ld (.t 2) 1 false,none⟩,
  ⟨(some 9),.ld (.t 5) 4 true,none⟩,
  ⟨(some 10),.bldS true 4 1 (.agg [(.bool false),(.int .i64 0),.nil,(.bool false)]) [(0,(.t 9))],none⟩,
  ⟨(some 11),.app (.t 8) (.t 10) 4 48 (.agg [(.bool false),(.int .i64 0),.nil,(.bool false)]),none⟩,
  ⟨none,.st (.t 2) (.t 11) 1,none⟩])
def bA (n0:Nat) (B0:bf) (a7:D) (a2:D) (h0:Heap) (K:HKq):Prop :=
 aa PP (.alloc (.agg [(.bool false),zI,.nil,(.bool false)])) h0 fun a100000 h100001 =>
 aa PP (.st (.c a100000) (.c a7) 4) h100001 fun a100002 h100003 =>
 Ex.normal=Ex.normal/\h100003 n0=.lp .ready B0/\aa PP (.ld (.c a2) 1 false) (aq h100003 n0 (.lp .busy B0)) fun a100004 h100005 =>
 aa PP (.ld (.c a100000) 4 true) h100005 fun a100006 h100007 =>
 aa PP (.bldS true 4 1 (.agg [(.bool false),zI,.nil,(.bool false)]) [(0,(.c a100006))]) h100007 fun a100008 h100009 =>
 aa PP (.app (.c a100004) (.c a100008) 4 48 (.agg [(.bool false),zI,.nil,(.bool false)])) h100009 fun a100010 h100011 =>
 aa PP (.st (.c a2) (.c a100010) 1) h100011 fun a100012 h100013 =>
 h100013 n0=.lp .busy B0/\K (.bool true) (aq h100013 n0 (.lp .ready B0))
theorem cF (n0:Nat) (B0:bf) (a7:D) (a2:D) (h0:Heap) (K:HKq):bA n0 B0 a7 a2 h0 K=Ba PP n0 B0 [7] [a7] [(2,a2)] aY aX h0 K:=by kernel_rfl
def bJ (a0:D) (a1:D) (h0:Heap) (K:HKq):Prop :=
 aa PP (.box (.c a0)) h0 fun a3 h4 =>
 ∃(J5:HJq),(∀(f6:Nat->D) (h7:Heap),J5 [] h7 ->
 aa PP (.ld (.c a3) 1 false) h7 fun a8 h9 =>
 K a8 h9) /\
 D6 PP a1 [7] [(2,a3)] aY aX h4 fun n10 h11=>dI n10 h11 (
 aG [a3] [a3]/\J5 [] (aq h11 n10 .dead)) (fun i0=>False) (False)
theorem cX (a0:D) (a1:D) (h0:Heap) (K:HKq):bJ a0 a1 h0 K=ku bj K [a0,a1] h0:=by kernel_rfl
end Go.Am
namespace Go.Am
open Go Go.Proofs
def vG:TL
 | 1000027=>some ([3],[])|5=>some ([1,3,4,5,24,25],[26])|1000026=>some ([1,3,4,5,24,25,26],[])|1000019=>some ([1,3,4,5,6,9,24,25,26],[])|11=>some ([1,3,4,5,6,9,24,25,26,47,48],[49])|1000018=>some ([1,3,4,5,6,9,24,25,26,47,48,49],[])|4000016=>some ([1,3,4,5,6,9,24,25,26,47,48,49],[4])|20=>some ([1,3,4,5,6,24,25,26,71,72],[73])|1000025=>some ([1,3,4,5,6,24,25,26,71,72,73],[])|_=>none
def xR:TT
 | 8=>some ([0,1,3,7,0,31,63,127,255,511,1023,2047,4095],[],[])|23=>some ([0,0,0,0,12,28,0,64,252,511,1023],[8,10],[9])|_=>none
def om:aJ:=⟨95,
 .seq (.reg [⟨(some 1),.box (.t 0),none⟩,
  ⟨(some 2),.mov (.c .nil),none⟩]) <|
 .seq (.reg [⟨(some 15),.fadd (.t 1) 7,none⟩,
  ⟨(some 16),.ld (.t 15) 1 false,none⟩,
  ⟨(some 17),.len (.t 16),none⟩,
  ⟨(some 18),.mk 1 24 .nil (.t 17) (.t 17),none⟩,
  ⟨(some 3),.mov (.t 18),none⟩]) <|
 .seq (.reg [⟨(some 19),.ld (.t 1) 8 true,none⟩,
  ⟨(some 20),.call pj [(.t 19)],none⟩,
  ⟨(some 4),.mov (.t 20),none⟩]) <|
 .seq (.reg [⟨(some 21),.mov (.t 4),none⟩,
  ⟨(some 22),.call gu [(.t 21)],none⟩,
  ⟨(some 5),.alloc .nil,none⟩,
  ⟨none,.st (.t 5) (.t 22) 1,none⟩]) <|
 .seqj [3] [] (.seq (.reg [⟨(some 23),.fadd (.t 1) 7,none⟩,
  ⟨(some 24),.ld (.t 23) 1 false,none⟩,
  ⟨(some 25),.len (.t 24),none⟩,
  ⟨(some 26),.mov (.c (.int .i64 0)),none⟩]) <|
 .block 0 (.loop [1,3,4,5,24,25] [26] (.seq (.reg [⟨(some 27),.bin .lss (.t 26) (.t 25),none⟩]) <|
 .seq (.cond (.t 27) (.skip) (.exit 0)) <|
 .seqj [1,3,4,5,24,25,26] [] (.block 1 (.seq (.reg [⟨(some 28),.mov (.t 26),none⟩,
  ⟨(some 29),.iadd (.t 24) (.t 26) 14,none⟩,
  ⟨(some 30),.ld (.t 29) 14 true,none⟩,
  ⟨(some 6),.alloc (.int .i64 0),none⟩,
  ⟨(some 7),.alloc (.agg [.nil,(.int .i64 0),(.int .i64 0),(.int .i64 0),(.int .i64 0),(.int .i32 0),(.int .i64 0),(.int .i64 0),(.int .i32 0),(.int .i64 0),(.int .i64 0),(.int .i32 0),(.int .i64 0),(.int .i64 0)]),none⟩,
  ⟨none,.st (.t 6) (.t 28) 1,none⟩,
  ⟨none,.st (.t 7) (.t 30) 14,none⟩]) <|
 .seq (.reg [⟨(some 31),.fadd (.t 7) 1,none⟩,
  ⟨(some 32),.ld (.t 31) 13 true,none⟩,
  ⟨(some 33),.call dW [(.t 32)],none⟩,
  ⟨(some 8),.mov (.t 33),none⟩]) <|
 .seq (.seq (.dreg [⟨(some 34),.mov (.t 4),none⟩,
  ⟨(some 35),.fadd (.t 34) 0,none⟩,
  ⟨(some 36),.fadd (.t 35) 2,none⟩,
  ⟨(some 37),.ld (.t 36) 1 false,none⟩,
  ⟨(some 38),.ld (.t 6) 1 false,none⟩,
  ⟨(some 39),.iadd (.t 37) (.t 38) 1,none⟩,
  ⟨(some 40),.ld (.t 39) 1 false,none⟩,
  ⟨(some 41),.bin .lss (.t 40) (.c (.int .i64 0)),none⟩,
  ⟨(some 42),.mov (.t 41),none⟩,
  ⟨(some 43),.mov (.t 8),some (42,false)⟩,
  ⟨(some 44),.len (.t 43),some (42,false)⟩,
  ⟨(some 45),.bin .neq (.t 44) (.c (.int .i64 2)),some (42,false)⟩,
  ⟨(some 46),.pick (.t 42) (.c (.bool true)) (.t 45),none⟩] [] []) <|
 .cond (.t 46) (.exit 1) (.skip)) <|
 .seq (.reg [⟨(some 9),.alloc .nil,none⟩]) <|
 .seqj [1,3,4,5,6,9,24,25,26] [] (.seq (.reg [⟨(some 47),.mov (.t 8),none⟩,
  ⟨(some 48),.len (.t 47),none⟩,
  ⟨(some 49),.mov (.c (.int .i64 0)),none⟩]) <|
 .block 2 (.loop [1,3,4,5,6,9,24,25,26,47,48] [49] (.seq (.reg [⟨(some 50),.bin .lss (.t 49) (.t 48),none⟩]) <|
 .seq (.cond (.t 50) (.skip) (.exit 2)) <|
 .seqj [1,3,4,5,6,9,24,25,26,47,48,49] [] (.block 3 (.seq (.reg [⟨(some 51),.iadd (.t 47) (.t 49) 1,none⟩,
  ⟨(some 52),.ld (.t 51) 1 false,none⟩,
  ⟨(some 11),.mov (.t 52),none⟩]) <|
 .seq (.reg [⟨(some 53),.ld (.t 5) 1 false,none⟩,
  ⟨(some 54),.mov (.t 11),none⟩,
  ⟨(some 55),.call qX [(.t 53),(.t 54)],none⟩]) <|
 .block 4 (.range (.t 55) [56] [1,3,4,5,6,9,24,25,26,47,48,49] [4] (.reg [⟨(some 12),.mov (.t 56),none⟩]) (.block 5 (.seq (.seq (.reg [⟨(some 57),.mov (.t 12),none⟩,
  ⟨(some 58),.ld (.t 5) 1 false,none⟩,
  ⟨(some 59),.ld (.t 6) 1 false,none⟩,
  ⟨(some 60),.iadd (.t 58) (.t 59) 1,none⟩,
  ⟨(some 61),.ld (.t 60) 1 false,none⟩,
  ⟨(some 62),.bin .eql (.t 57) (.t 61),none⟩]) <|
 .cond (.t 62) (.exit 4) (.skip)) <|
 .reg [⟨(some 63),.ld (.t 9) 1 false,none⟩,
  ⟨(some 64),.mov (.t 12),none⟩,
  ⟨(some 65),.bldS true 1 1 (.int .i64 0) [(0,(.t 64))],none⟩,
  ⟨(some 66),.app (.t 63) (.t 65) 1 8 (.int .i64 0),none⟩,
  ⟨none,.st (.t 9) (.t 66) 1,none⟩]))))) <|
 .reg [⟨(some 67),.bin .add (.t 49) (.c (.int .i64 1)),none⟩,
  ⟨(some 49),.mov (.t 67),none⟩]))) <|
 .seq (.reg [⟨(some 68),.ld (.t 9) 1 false,none⟩,
  ⟨(some 69),.call bu [(.t 68)],none⟩]) <|
 .seq (.reg [⟨(some 70),.ld (.t 9) 1 false,none⟩,
  ⟨(some 71),.call bl [(.t 70)],none⟩,
  ⟨(some 72),.len (.t 71),none⟩,
  ⟨(some 73),.mov (.c (.int .i64 0)),none⟩]) <|
 .block 6 (.loop [1,3,4,5,6,24,25,26,71,72] [73] (.seq (.reg [⟨(some 74),.bin .lss (.t 73) (.t 72),none⟩]) <|
 .seq (.cond (.t 74) (.skip) (.exit 6)) <|
 .seqj [1,3,4,5,6,24,25,26,71,72,73] [] (.block 7 (.seq (.reg [⟨(some 75),.iadd (.t 71) (.t 73) 1,none⟩,
  ⟨(some 76),.ld (.t 75) 1 false,none⟩,
  ⟨(some 14),.mov (.t 76),none⟩]) <|
 .seq (.reg [⟨(some 77),.mov (.t 14),none⟩,
  ⟨(some 78),.fadd (.t 1) 7,none⟩,
  ⟨(some 79),.ld (.t 78) 1 false,none⟩,
  ⟨(some 80),.len (.t 79),none⟩,
  ⟨(some 81),.bin .lss (.t 77) (.t 80),none⟩]) <|
 .cond (.t 81) (.dreg [⟨(some 82),.mov (.t 3),none⟩,
  ⟨(some 83),.mov (.t 14),none⟩,
  ⟨(some 84),.mov (.t 3),none⟩,
  ⟨(some 85),.mov (.t 14),none⟩,
  ⟨(some 86),.iadd (.t 84) (.t 85) 1,none⟩,
  ⟨(some 87),.ld (.t 86) 1 false,none⟩,
  ⟨(some 88),.ld (.t 6) 1 false,none⟩,
  ⟨(some 89),.bldS false 1 1 (.int .i64 0) [(0,(.t 88))],none⟩,
  ⟨(some 91),.iadd (.t 82) (.t 83) 1,none⟩] [⟨(some 90),.app (.t 87) (.t 89) 1 8 (.int .i64 0),none⟩,
  ⟨none,.st (.t 91) (.t 90) 1,none⟩] [⟨(some 91),.iadd (.t 82) (.t 83) 1,none⟩]) (.skip))) <|
 .reg [⟨(some 92),.bin .add (.t 73) (.c (.int .i64 1)),none⟩,
  ⟨(some 73),.mov (.t 92),none⟩])))) <|
 .reg [⟨(some 93),.bin .add (.t 26) (.c (.int .i64 1)),none⟩,
  ⟨(some 26),.mov (.t 93),none⟩]))) <|
 .seq (.reg [⟨(some 94),.mov (.t 3),none⟩,
  ⟨(some 2),.mov (.t 94),none⟩]) <|
 .ret,
 [.t 2]⟩
theorem oZ:cFn PP true jJ vG (cDr PP 95 xR)=some om:=by kernel_rfl
def jI:ACode:=.reg [⟨(some 12),.mov (.t 56),none⟩]
def jH:ACode:=.block 5 (.seq (.seq (.reg [⟨(some 57),.mov (.t 12),none⟩,
  ⟨(some 58),.ld (.t 5) 1 false,none⟩,
  ⟨(some 59),.ld (.t 6) 1 false,none⟩,
  ⟨(some 60),.iadd (.t 58) (.t 59) 1,none⟩,
  ⟨(some 61),.ld (.t 60) 1 false,none⟩,
  ⟨(some 62),.bin .eql (.t 57) (.t 61),none⟩]) <|
 .cond (.t 62) (.exit 4) (.skip)) <|
 .reg [⟨(some 63),.ld (.t 9) 1 false,none⟩,
  ⟨(some 64),.mov (.t 12),none⟩,
  ⟨(some 65),.bldS true 1 1 (.int .i64 0) [(0,(.t 64))],none⟩,
  ⟨(some 66),.app (.t 63) (.t 65) 1 8 (.int .i64 0),none⟩,
  ⟨none,.st (.t 9) (.t 66) 1,none⟩])
def jB (n0:Nat) (B0:bf) (a56:D) (a1:D) (a3:D) (a4:D) (a5:D) (a6:D) (a9:D) (a24:D) (a25:D) (a26:D) (a47:D) (a48:D) (a49:D) (h0:Heap) (K:HKq):Prop :=
 Ex.normal=Ex.normal/\h0 n0=.lp .ready B0/\aa PP (.ld (.c a5) 1 false) (aq h0 n0 (.lp .busy B0)) fun a100000 h100001 =>
 aa PP (.ld (.c a6) 1 false) h100001 fun a100002 h100003 =>
 aa PP (.iadd (.c a100000) (.c a100002) 1) h100003 fun a100004 h100005 =>
 aa PP (.ld (.c a100004) 1 false) h100005 fun a100006 h100007 =>
 vbin .eql a56 a100006 fun a100008 =>
 vcond a100008 (h100007 n0=.lp .busy B0/\K (.bool false) (aq h100007 n0 (.lp (.done (.exit 4)) B0))) (
 aa PP (.ld (.c a9) 1 false) h100007 fun a100009 h100010 =>
 aa PP (.bldS true 1 1 (.int .i64 0) [(0,(.c a56))]) h100010 fun a100011 h100012 =>
 aa PP (.app (.c a100009) (.c a100011) 1 8 (.int .i64 0)) h100012 fun a100013 h100014 =>
 aa PP (.st (.c a9) (.c a100013) 1) h100014 fun a100015 h100016 =>
 h100016 n0=.lp .busy B0/\K (.bool true) (aq h100016 n0 (.lp .ready B0)))
theorem tm (n0:Nat) (B0:bf) (a56:D) (a1:D) (a3:D) (a4:D) (a5:D) (a6:D) (a9:D) (a24:D) (a25:D) (a26:D) (a47:D) (a48:D) (a49:D) (h0:Heap) (K:HKq):jB n0 B0 a56 a1 a3 a4 a5 a6 a9 a24 a25 a26 a47 a48 a49 h0 K=Ba PP n0 B0 [56] [a56] [(1,a1),(3,a3),(4,a4),(5,a5),(6,a6),(9,a9),(24,a24),(25,a25),(26,a26),(47,a47),(48,a48),(49,a49)] jI jH h0 K:=by kernel_rfl
def fK (h87:Heap) (a88:D) (a2:D) (a9:D) (a13:D) (a17:D) (a42:D) (a26:D) (a28:D) (f31:Nat->D) (a86:D) (J34:HJq):Prop :=
 ∃(I89:Nat->HJq) (n₀:Nat),I89 n₀ [(.int .i64 0)] h87/\∀(n90:Nat) (f91:Nat->D) (h92:Heap),I89 n90 [f91 73] h92 ->
 vbin .lss (f91 73) a88 fun a93 =>
 vcond a93 (∃(J94:HJq),(∀(f95:Nat->D) (h96:Heap),J94 [] h96 ->
 vbin .add (f91 73) (.int .i64 1) fun a97 =>
 aG [a2,a9,a13,a17,a42,a26,a28,(f31 26),a86,a88] [a2,a9,a13,a17,a42,a26,a28,(f31 26),a86,a88]/\∃m,m<n90/\I89 m [a97] h96) /\
 aa PP (.iadd (.c a86) (.c (f91 73)) 1) h92 fun a98 h99 =>
 aa PP (.ld (.c a98) 1 false) h99 fun a100 h101 =>
 aa PP (.fadd (.c a2) 7) h101 fun a102 h103 =>
 aa PP (.ld (.c a102) 1 false) h103 fun a104 h105 =>
 aS a104 h105 fun a106 =>
 vbin .lss a100 a106 fun a107 =>
 vcond a107 (ab PP (.iadd (.c a9) (.c a100) 1) h105 fun a108 =>
 ab PP (.ld (.c a108) 1 false) h105 fun a109 =>
 ab PP (.ld (.c a42) 1 false) h105 fun a110 =>
 ab PP (.bldS false 1 1 (.int .i64 0) [(0,(.c a110))]) h105 fun a111 =>
 ab PP (.iadd (.c a9) (.c a100) 1) h105 fun a112 =>
 aa PP (.app (.c a109) (.c a111) 1 8 (.int .i64 0)) h105 fun a113 h114 =>
 ((ab PP (.iadd (.c a9) (.c a100) 1) h114 fun a115=>aG [a115] [a112])/\True) /\
 aa PP (.st (.c a112) (.c a113) 1) h114 fun a116 h117 =>
 ((ab PP (.iadd (.c a9) (.c a100) 1) h117 fun a118=>aG [a118] [a112])/\True) /\
 aG [a2,a9,a13,a17,a42,a26,a28,(f31 26),a86,a88,(f91 73)] [a2,a9,a13,a17,a42,a26,a28,(f31 26),a86,a88,(f91 73)]/\J94 [] h117) (
 aG [a2,a9,a13,a17,a42,a26,a28,(f31 26),a86,a88,(f91 73)] [a2,a9,a13,a17,a42,a26,a28,(f31 26),a86,a88,(f91 73)]/\J94 [] h105)) (
 aG [a2,a9,a13,a17,a26,a28,(f31 26)] [a2,a9,a13,a17,a26,a28,(f31 26)]/\J34 [] h92)
def jD (h76:Heap) (a119:D) (a2:D) (a9:D) (a13:D) (a17:D) (a42:D) (a75:D) (a26:D) (a28:D) (f31:Nat->D) (a54:D) (J77:HJq) (K:HKq):Prop :=
 ∃(I120:Nat->HJq) (n₀:Nat),I120 n₀ [(.int .i64 0)] h76/\∀(n121:Nat) (f122:Nat->D) (h123:Heap),I120 n121 [f122 49] h123 ->
 vbin .lss (f122 49) a119 fun a124 =>
 vcond a124 (∃(J125:HJq),(∀(f126:Nat->D) (h127:Heap),J125 [] h127 ->
 vbin .add (f122 49) (.int .i64 1) fun a128 =>
 aG [a2,a9,a13,a17,a42,a75,a26,a28,(f31 26),a54,a119] [a2,a9,a13,a17,a42,a75,a26,a28,(f31 26),a54,a119]/\∃m,m<n121/\I120 m [a128] h127) /\
 aa PP (.iadd (.c a54) (.c (f122 49)) 1) h123 fun a129 h130 =>
 aa PP (.ld (.c a129) 1 false) h130 fun a131 h132 =>
 aa PP (.ld (.c a17) 1 false) h132 fun a133 h134 =>
 af PP qX [a133,a131] h134 fun a135 h136 =>
 D6 PP a135 [56] [(1,a2),(3,a9),(4,a13),(5,a17),(6,a42),(9,a75),(24,a26),(25,a28),(26,(f31 26)),(47,a54),(48,a119),(49,(f122 49))] jI jH h136 fun n137 h138=>dI n137 h138 (
 aG [a2,a9,a13,a17,a42,a75,a26,a28,(f31 26),a54,a119,(f122 49)] [a2,a9,a13,a17,a42,a75,a26,a28,(f31 26),a54,a119,(f122 49)]/\J125 [] (aq h138 n137 .dead)) (fun i0=>(i0=4/\(aG [a2,a9,a13,a17,a42,a75,a26,a28,(f31 26),a54,a119,(f122 49)] [a2,a9,a13,a17,a42,a75,a26,a28,(f31 26),a54,a119,(f122 49)]/\J125 [] (aq h138 n137 .dead)))\/(False)) ((4=1000000/\(K .undef (aq h138 n137 .dead)))\/(False))) (
 aG [a2,a9,a13,a17,a42,a75,a26,a28,(f31 26)] [a2,a9,a13,a17,a42,a75,a26,a28,(f31 26)]/\J77 [] h123)
def jC (h27:Heap) (a28:D) (a2:D) (a9:D) (a13:D) (a17:D) (a26:D) (J21:HJq) (K:HKq):Prop :=
 ∃(I29:Nat->HJq) (n₀:Nat),I29 n₀ [(.int .i64 0)] h27/\∀(n30:Nat) (f31:Nat->D) (h32:Heap),I29 n30 [f31 26] h32 ->
 vbin .lss (f31 26) a28 fun a33 =>
 vcond a33 (∃(J34:HJq),(∀(f35:Nat->D) (h36:Heap),J34 [] h36 ->
 vbin .add (f31 26) (.int .i64 1) fun a37 =>
 aG [a2,a9,a13,a17,a26,a28] [a2,a9,a13,a17,a26,a28]/\∃m,m<n30/\I29 m [a37] h36) /\
 aa PP (.iadd (.c a26) (.c (f31 26)) 14) h32 fun a38 h39 =>
 aa PP (.ld (.c a38) 14 true) h39 fun a40 h41 =>
 aa PP (.alloc (.int .i64 0)) h41 fun a42 h43 =>
 aa PP (.alloc (.agg [.nil,zI,zI,zI,zI,zJ,zI,zI,zJ,zI,zI,zJ,zI,zI])) h43 fun a44 h45 =>
 aa PP (.st (.c a42) (.c (f31 26)) 1) h45 fun a46 h47 =>
 aa PP (.st (.c a44) (.c a40) 14) h47 fun a48 h49 =>
 aa PP (.fadd (.c a44) 1) h49 fun a50 h51 =>
 aa PP (.ld (.c a50) 13 true) h51 fun a52 h53 =>
 af PP dW [a52] h53 fun a54 h55 =>
 ab PP (.fadd (.c a13) 0) h55 fun a56 =>
 ab PP (.fadd (.c a56) 2) h55 fun a57 =>
 ab PP (.ld (.c a57) 1 false) h55 fun a58 =>
 ab PP (.ld (.c a42) 1 false) h55 fun a59 =>
 ab PP (.iadd (.c a58) (.c a59) 1) h55 fun a60 =>
 ab PP (.ld (.c a60) 1 false) h55 fun a61 =>
 vbin .lss a61 (.int .i64 0) fun a62 =>
 aA a62 false (fun G63 =>
 G63 a54) fun a64 =>
 aA a62 false (fun G66 =>
 aS a64 h55 fun a140 =>
 G66 a140) fun a67 =>
 aA a62 false (fun G70 =>
 vbin .neq a67 (.int .i64 2) fun a139 =>
 G70 a139) fun a71 =>
 ab PP (.pick (.c a62) (.c (.bool true)) (.c a71)) h55 fun a74 =>
 vcond a74 (aG [a2,a9,a13,a17,a26,a28,(f31 26)] [a2,a9,a13,a17,a26,a28,(f31 26)]/\J34 [] h55) (
 aa PP (.alloc .nil) h55 fun a75 h76 =>
 ∃(J77:HJq),(∀(f78:Nat->D) (h79:Heap),J77 [] h79 ->
 aa PP (.ld (.c a75) 1 false) h79 fun a80 h81 =>
 af PP bu [a80] h81 fun a82 h83 =>
 aa PP (.ld (.c a75) 1 false) h83 fun a84 h85 =>
 af PP bl [a84] h85 fun a86 h87 =>
 aS a86 h87 fun a88 =>
 fK h87 a88 a2 a9 a13 a17 a42 a26 a28 f31 a86 J34) /\
 aS a54 h76 fun a119 =>
 jD h76 a119 a2 a9 a13 a17 a42 a75 a26 a28 f31 a54 J77 K)) (
 aG [a9] [a9]/\J21 [] h32)
def tM (a0:D) (h0:Heap) (K:HKq):Prop :=
 aa PP (.box (.c a0)) h0 fun a2 h3 =>
 aa PP (.fadd (.c a2) 7) h3 fun a4 h5 =>
 aa PP (.ld (.c a4) 1 false) h5 fun a6 h7 =>
 aS a6 h7 fun a8 =>
 aa PP (.mk 1 24 .nil (.c a8) (.c a8)) h7 fun a9 h10 =>
 aa PP (.ld (.c a2) 8 true) h10 fun a11 h12 =>
 af PP pj [a11] h12 fun a13 h14 =>
 af PP gu [a13] h14 fun a15 h16 =>
 aa PP (.alloc .nil) h16 fun a17 h18 =>
 aa PP (.st (.c a17) (.c a15) 1) h18 fun a19 h20 =>
 ∃(J21:HJq),(∀(f22:Nat->D) (h23:Heap),J21 [] h23 ->
 K a9 h23) /\
 aa PP (.fadd (.c a2) 7) h20 fun a24 h25 =>
 aa PP (.ld (.c a24) 1 false) h25 fun a26 h27 =>
 aS a26 h27 fun a28 =>
 jC h27 a28 a2 a9 a13 a17 a26 J21 K
theorem xm (a0:D) (h0:Heap) (K:HKq):tM a0 h0 K=ku om K [a0] h0:=by kernel_rfl
def po:TL
 | 1=>some ([0,1,2,3,16,17],[18])|1000021=>some ([0,1,2,3,16,17,18],[])|1000013=>some ([0,1,2,3,6,7,16,17,18],[])|7=>some ([0,1,2,3,6,7,16,17,18,38,39],[40])|1000019=>some ([0,1,2,3,6,16,17,18],[])|13=>some ([0,1,2,3,6,7,16,17,18,65,66],[67])|_=>none
def qM:TT
 | 15=>some ([0,1,3,0,8,0,32,0,128,504,1019,0,2048,8187,0,32763,65535,0,262143],[1,10,13,15,17,18],[999996,4])|_=>none
def gH:aJ:=⟨113,
 .seq (.reg [⟨(some 15),.fadd (.t 1) 7,none⟩,
  ⟨(some 16),.ld (.t 15) 1 false,none⟩,
  ⟨(some 17),.len (.t 16),none⟩,
  ⟨(some 18),.mov (.c (.int .i64 0)),none⟩]) <|
 .block 0 (.loop [0,1,2,3,16,17] [18] (.seq (.reg [⟨(some 19),.bin .lss (.t 18) (.t 17),none⟩]) <|
 .seq (.cond (.t 19) (.skip) (.exit 0)) <|
 .seqj [0,1,2,3,16,17,18] [] (.block 1 (.seq (.reg [⟨(some 20),.mov (.t 18),none⟩,
  ⟨(some 21),.iadd (.t 16) (.t 18) 14,none⟩,
  ⟨(some 22),.ld (.t 21) 14 true,none⟩,
  ⟨(some 6),.alloc (.agg [.nil,(.int .i64 0),(.int .i64 0),(.int .i64 0),(.int .i64 0),(.int .i32 0),(.int .i64 0),(.int .i64 0),(.int .i32 0),(.int .i64 0),(.int .i64 0),(.int .i32 0),(.int .i64 0),(.int .i64 0)]),none⟩,
  ⟨(some 5),.mov (.t 20),none⟩,
  ⟨none,.st (.t 6) (.t 22) 14,none⟩]) <|
 .seq (.reg [⟨(some 23),.mov (.t 5),none⟩,
  ⟨(some 24),.bld [(.bool false),(.int .i64 0)] [(0,1,(.c (.bool true))),(1,1,(.t 23))],none⟩,
  ⟨(some 7),.alloc (.agg [(.bool false),(.int .i64 0)]),none⟩,
  ⟨none,.st (.t 7) (.t 24) 2,none⟩]) <|
 .seq (.seq (.reg [⟨(some 25),.ld (.t 2) 1 false,none⟩,
  ⟨(some 26),.mov (.t 5),none⟩,
  ⟨(some 27),.iadd (.t 25) (.t 26) 1,none⟩,
  ⟨(some 28),.ld (.t 27) 1 false,none⟩,
  ⟨(some 29),.un .not (.t 28),none⟩]) <|
 .cond (.t 29) (.seq (.seq (.reg [⟨(some 30),.mov (.t 0),none⟩,
  ⟨(some 31),.ld (.t 7) 2 true,none⟩,
  ⟨(some 32),.bld [(.bool false),(.int .i64 0),.nil,(.bool false)] [(0,2,(.t 31)),(3,1,(.c (.bool true)))],none⟩,
  ⟨(some 33),.callv (.t 30) [(.t 32)],none⟩,
  ⟨(some 34),.un .not (.t 33),none⟩]) <|
 .cond (.t 34) (.ret) (.skip)) <|
 .exit 1) (.skip)) <|
 .seqj [0,1,2,3,6,7,16,17,18] [] (.seq (.reg [⟨(some 35),.ld (.t 3) 1 false,none⟩,
  ⟨(some 36),.mov (.t 5),none⟩,
  ⟨(some 37),.iadd (.t 35) (.t 36) 1,none⟩,
  ⟨(some 38),.ld (.t 37) 1 false,none⟩,
  ⟨(some 39),.len (.t 38),none⟩,
  ⟨(some 40),.mov (.c (.int .i64 0)),none⟩]) <|
 .block 2 (.loop [0,1,2,3,6,7,16,17,18,38,39] [40] (.seq (.reg [⟨(some 41),.bin .lss (.t 40) (.t 39),none⟩]) <|
 .seq (.cond (.t 41) (.skip) (.exit 2)) <|
 .seq (.block 3 (.seq (.reg [⟨(some 42),.iadd (.t 38) (.t 40) 1,none⟩,
  ⟨(some 43),.ld (.t 42) 1 false,none⟩,
  ⟨(some 9),.mov (.t 43),none⟩]) <|
 .seq (.reg [⟨(some 44),.fadd (.t 1) 7,none⟩,
  ⟨(some 45),.ld (.t 44) 1 false,none⟩,
  ⟨(some 46),.mov (.t 9),none⟩,
  ⟨(some 47),.iadd (.t 45) (.t 46) 14,none⟩,
  ⟨(some 48),.fadd (.t 47) 1,none⟩,
  ⟨(some 49),.fadd (.t 48) 5,none⟩,
  ⟨(some 50),.ld (.t 49) 3 true,none⟩,
  ⟨(some 51),.bldS true 3 1 (.agg [(.int .i64 0),(.int .i64 0),(.int .i32 0)]) [(0,(.t 50))],none⟩,
  ⟨(some 52),.call bD [(.t 51)],none⟩,
  ⟨(some 53),.mov (.t 9),none⟩,
  ⟨(some 54),.bld [(.bool false),(.int .i64 0)] [(0,1,(.c (.bool true))),(1,1,(.t 53))],none⟩,
  ⟨(some 55),.bldS true 2 1 (.agg [(.bool false),(.int .i64 0)]) [(0,(.t 54))],none⟩,
  ⟨(some 56),.app (.t 52) (.t 55) 2 16 (.agg [(.bool false),(.int .i64 0)]),none⟩,
  ⟨(some 10),.mov (.t 56),none⟩]) <|
 .seq (.reg [⟨(some 57),.mov (.t 0),none⟩,
  ⟨(some 58),.ld (.t 7) 2 true,none⟩,
  ⟨(some 59),.mov (.t 10),none⟩,
  ⟨(some 60),.bld [(.bool false),(.int .i64 0),.nil,(.bool false)] [(0,2,(.t 58)),(2,1,(.t 59))],none⟩,
  ⟨(some 61),.callv (.t 57) [(.t 60)],none⟩,
  ⟨(some 62),.un .not (.t 61),none⟩]) <|
 .cond (.t 62) (.ret) (.skip))) <|
 .reg [⟨(some 63),.bin .add (.t 40) (.c (.int .i64 1)),none⟩,
  ⟨(some 40),.mov (.t 63),none⟩]))) <|
 .seqj [0,1,2,3,6,16,17,18] [] (.seq (.reg [⟨(some 64),.fadd (.t 6) 0,none⟩,
  ⟨(some 65),.ld (.t 64) 1 false,none⟩,
  ⟨(some 66),.len (.t 65),none⟩,
  ⟨(some 67),.mov (.c (.int .i64 0)),none⟩]) <|
 .block 4 (.loop [0,1,2,3,6,7,16,17,18,65,66] [67] (.seq (.reg [⟨(some 68),.bin .lss (.t 67) (.t 66),none⟩]) <|
 .seq (.cond (.t 68) (.skip) (.exit 4)) <|
 .seq (.block 5 (.seq (.reg [⟨(some 69),.iadd (.t 65) (.t 67) 15,none⟩,
  ⟨(some 70),.ld (.t 69) 15 true,none⟩,
  ⟨(some 12),.alloc (.agg [(.int .i64 0),(.int .i64 0),(.int .i64 0),(.int .i64 0),(.int .i64 0),(.int .i32 0),(.int .i64 0),(.int .i64 0),(.int .i32 0),(.int .i64 0),(.int .i64 0),(.int .i32 0),(.int .i64 0),(.int .i64 0),(.int .i32 0)]),none⟩,
  ⟨none,.st (.t 12) (.t 70) 15,none⟩]) <|
 .seq (.seq (.dreg [⟨(some 13),.mov (.c .undef),none⟩] [] []) <|
 .seq (.dreg [⟨(some 71),.ld (.t 12) 15 true,none⟩,
  ⟨(some 74),.fadd (.t 12) 6,none⟩,
  ⟨(some 75),.ld (.t 74) 3 true,none⟩,
  ⟨(some 76),.fadd (.t 12) 9,none⟩,
  ⟨(some 77),.ld (.t 76) 3 true,none⟩,
  ⟨(some 78),.fadd (.t 12) 12,none⟩,
  ⟨(some 79),.ld (.t 78) 3 true,none⟩,
  ⟨(some 80),.bldS false 3 3 (.agg [(.int .i64 0),(.int .i64 0),(.int .i32 0)]) [(0,(.t 75)),(1,(.t 77)),(2,(.t 79))],none⟩,
  ⟨(some 82),.ld (.t 7) 2 true,none⟩,
  ⟨(some 83),.bldS false 2 1 (.agg [(.bool false),(.int .i64 0)]) [(0,(.t 82))],none⟩,
  ⟨(some 85),.ld (.t 12) 15 true,none⟩] [] []) <|
 .seq (.dreg [] [⟨(some 72),.call ju [(.t 71)],none⟩] [⟨(some 74),.fadd (.t 12) 6,none⟩,
  ⟨(some 75),.ld (.t 74) 3 true,none⟩,
  ⟨(some 76),.fadd (.t 12) 9,none⟩,
  ⟨(some 77),.ld (.t 76) 3 true,none⟩,
  ⟨(some 78),.fadd (.t 12) 12,none⟩,
  ⟨(some 79),.ld (.t 78) 3 true,none⟩,
  ⟨(some 82),.ld (.t 7) 2 true,none⟩,
  ⟨(some 85),.ld (.t 12) 15 true,none⟩]) <|
 .seq (.dreg [⟨(some 73),.bld [(.bool false),(.int .i64 0)] [(1,1,(.t 72))],none⟩] [⟨(some 81),.call bD [(.t 80)],none⟩] [⟨(some 82),.ld (.t 7) 2 true,none⟩,
  ⟨(some 85),.ld (.t 12) 15 true,none⟩]) <|
 .seq (.dreg [] [⟨(some 84),.app (.t 81) (.t 83) 2 16 (.agg [(.bool false),(.int .i64 0)]),none⟩] [⟨(some 85),.ld (.t 12) 15 true,none⟩]) <|
 .seq (.dreg [] [⟨(some 86),.call fC [(.t 85)],none⟩] []) <|
 .seq (.dreg [⟨(some 87),.bld [(.bool false),(.int .i64 0),.nil,(.bool false)] [(0,2,(.t 73)),(2,1,(.t 84)),(3,1,(.t 86))],none⟩] [⟨(some 13),.alloc (.agg [(.bool false),(.int .i64 0),.nil,(.bool false)]),none⟩] [⟨(some 71),.ld (.t 12) 15 true,none⟩,
  ⟨(some 74),.fadd (.t 12) 6,none⟩,
  ⟨(some 75),.ld (.t 74) 3 true,none⟩,
  ⟨(some 76),.fadd (.t 12) 9,none⟩,
  ⟨(some 77),.ld (.t 76) 3 true,none⟩,
  ⟨(some 78),.fadd (.t 12) 12,none⟩,
  ⟨(some 79),.ld (.t 78) 3 true,none⟩,
  ⟨(some 82),.ld (.t 7) 2 true,none⟩,
  ⟨(some 85),.ld (.t 12) 15 true,none⟩]) <|
 .seq (.dreg [] [⟨none,.st (.t 13) (.t 87) 4,none⟩] []) <|
 .dreg [] [] []) <|
 .seq (.reg [⟨(some 88),.fadd (.t 13) 0,none⟩,
  ⟨(some 89),.fadd (.t 88) 1,none⟩,
  ⟨(some 90),.ld (.t 89) 1 false,none⟩,
  ⟨(some 91),.bin .geq (.t 90) (.c (.int .i64 0)),none⟩,
  ⟨(some 92),.mov (.t 91),none⟩,
  ⟨(some 93),.mov (.t 0),some (92,true)⟩,
  ⟨(some 94),.ld (.t 13) 4 true,some (92,true)⟩,
  ⟨(some 95),.callv (.t 93) [(.t 94)],some (92,true)⟩,
  ⟨(some 96),.un .not (.t 95),some (92,true)⟩,
  ⟨(some 97),.pick (.t 92) (.t 96) (.c (.bool false)),none⟩]) <|
 .cond (.t 97) (.ret) (.skip))) <|
 .reg [⟨(some 98),.bin .add (.t 67) (.c (.int .i64 1)),none⟩,
  ⟨(some 67),.mov (.t 98),none⟩]))) <|
 .seq (.reg [⟨(some 99),.fadd (.t 6) 1,none⟩,
  ⟨(some 100),.ld (.t 99) 13 true,none⟩,
  ⟨(some 101),.call jQ [(.t 100)],none⟩,
  ⟨(some 14),.mov (.t 101),none⟩]) <|
 .seq (.reg [⟨(some 102),.mov (.t 14),none⟩,
  ⟨(some 103),.bin .geq (.t 102) (.c (.int .i64 0)),none⟩,
  ⟨(some 104),.mov (.t 103),none⟩,
  ⟨(some 105),.mov (.t 0),some (104,true)⟩,
  ⟨(some 106),.mov (.t 14),some (104,true)⟩,
  ⟨(some 107),.bld [(.bool false),(.int .i64 0)] [(1,1,(.t 106))],some (104,true)⟩,
  ⟨(some 108),.bld [(.bool false),(.int .i64 0),.nil,(.bool false)] [(0,2,(.t 107)),(3,1,(.c (.bool true)))],some (104,true)⟩,
  ⟨(some 109),.callv (.t 105) [(.t 108)],some (104,true)⟩,
  ⟨(some 110),.un .not (.t 109),some (104,true)⟩,
  ⟨(some 111),.pick (.t 104) (.t 110) (.c (.bool false)),none⟩]) <|
 .cond (.t 111) (.ret) (.skip))) <|
 .reg [⟨(some 112),.bin .add (.t 18) (.c (.int .i64 1)),none⟩,
  ⟨(some 18),.mov (.t 112),none⟩])),
 []⟩
theorem jl:cFn PP true br po (cDr PP 113 qM)=some gH:=by kernel_rfl
def eV (h90:Heap) (a91:D) (a89:D) (a29:D) (a0:D) (a1:D) (a2:D) (a3:D) (a23:D) (a7:D) (a9:D) (f12:Nat->D) (J50:HJq) (K:HKq):Prop :=
 ∃(I92:Nat->HJq) (n₀:Nat),I92 n₀ [(.int .i64 0)] h90/\∀(n93:Nat) (f94:Nat->D) (h95:Heap),I92 n93 [f94 67] h95 ->
 vbin .lss (f94 67) a91 fun a96 =>
 vcond a96 (aa PP (.iadd (.c a89) (.c (f94 67)) 15) h95 fun a97 h98 =>
 aa PP (.ld (.c a97) 15 true) h98 fun a99 h100 =>
 aa PP (.alloc (.agg [zI,zI,zI,zI,zI,zJ,zI,zI,zJ,zI,zI,zJ,zI,zI,zJ])) h100 fun a101 h102 =>
 aa PP (.st (.c a101) (.c a99) 15) h102 fun a103 h104 =>
 ab PP (.ld (.c a101) 15 true) h104 fun a105 =>
 ab PP (.fadd (.c a101) 6) h104 fun a106 =>
 ab PP (.ld (.c a106) 3 true) h104 fun a107 =>
 ab PP (.fadd (.c a101) 9) h104 fun a108 =>
 ab PP (.ld (.c a108) 3 true) h104 fun a109 =>
 ab PP (.fadd (.c a101) 12) h104 fun a110 =>
 ab PP (.ld (.c a110) 3 true) h104 fun a111 =>
 ab PP (.bldS false 3 3 (.agg [zI,zI,zJ]) [(0,(.c a107)),(1,(.c a109)),(2,(.c a111))]) h104 fun a112 =>
 ab PP (.ld (.c a29) 2 true) h104 fun a113 =>
 ab PP (.bldS false 2 1 (.agg [(.bool false),zI]) [(0,(.c a113))]) h104 fun a114 =>
 ab PP (.ld (.c a101) 15 true) h104 fun a115 =>
 af PP ju [a105] h104 fun a116 h117 =>
 ((ab PP (.fadd (.c a101) 6) h117 fun a118=>aG [a118] [a106])/\(ab PP (.ld (.c a106) 3 true) h117 fun a119=>aG [a119] [a107])/\(ab PP (.fadd (.c a101) 9) h117 fun a120=>aG [a120] [a108])/\(ab PP (.ld (.c a108) 3 true) h117 fun a121=>aG [a121] [a109])/\(ab PP (.fadd (.c a101) 12) h117 fun a122=>aG [a122] [a110])/\(ab PP (.ld (.c a110) 3 true) h117 fun a123=>aG [a123] [a111])/\(ab PP (.ld (.c a29) 2 true) h117 fun a124=>aG [a124] [a113])/\(ab PP (.ld (.c a101) 15 true) h117 fun a125=>aG [a125] [a115])/\True) /\
 ab PP (.bld [(.bool false),zI] [(1,1,(.c a116))]) h117 fun a126 =>
 af PP bD [a112] h117 fun a127 h128 =>
 ((ab PP (.ld (.c a29) 2 true) h128 fun a129=>aG [a129] [a113])/\(ab PP (.ld (.c a101) 15 true) h128 fun a130=>aG [a130] [a115])/\True) /\
 aa PP (.app (.c a127) (.c a114) 2 16 (.agg [(.bool false),zI])) h128 fun a131 h132 =>
 ((ab PP (.ld (.c a101) 15 true) h132 fun a133=>aG [a133] [a115])/\True) /\
 af PP fC [a115] h132 fun a134 h135 =>
 ab PP (.bld [(.bool false),zI,.nil,(.bool false)] [(0,2,(.c a126)),(2,1,(.c a131)),(3,1,(.c a134))]) h135 fun a136 =>
 aa PP (.alloc (.agg [(.bool false),zI,.nil,(.bool false)])) h135 fun a137 h138 =>
 ((ab PP (.ld (.c a101) 15 true) h138 fun a139=>aG [a139] [a105])/\(ab PP (.fadd (.c a101) 6) h138 fun a140=>aG [a140] [a106])/\(ab PP (.ld (.c a106) 3 true) h138 fun a141=>aG [a141] [a107])/\(ab PP (.fadd (.c a101) 9) h138 fun a142=>aG [a142] [a108])/\(ab PP (.ld (.c a108) 3 true) h138 fun a143=>aG [a143] [a109])/\(ab PP (.fadd (.c a101) 12) h138 fun a144=>aG [a144] [a110])/\(ab PP (.ld (.c a110) 3 true) h138 fun a145=>aG [a145] [a111])/\(ab PP (.ld (.c a29) 2 true) h138 fun a146=>aG [a146] [a113])/\(ab PP (.ld (.c a101) 15 true) h138 fun a147=>aG [a147] [a115])/\True) /\
 aa PP (.st (.c a137) (.c a136) 4) h138 fun a148 h149 =>
 aa PP (.fadd (.c a137) 0) h149 fun a150 h151 =>
 aa PP (.fadd (.c a150) 1) h151 fun a152 h153 =>
 aa PP (.ld (.c a152) 1 false) h153 fun a154 h155 =>
 vbin .geq a154 (.int .i64 0) fun a156 =>
 vguard a156 true (fun G157 =>
 G157 a0 h155) h155 fun a158 h159 =>
 vguard a156 true (fun G160 =>
 aa PP (.ld (.c a137) 4 true) h159 fun a163 h164 =>
 G160 a163 h164) h159 fun a161 h162 =>
 vguard a156 true (fun G165 =>
 aa PP (.callv (.c a158) [(.c a161)]) h162 fun a168 h169 =>
 G165 a168 h169) h162 fun a166 h167 =>
 vguard a156 true (fun G170 =>
 vun .not a166 fun a173 =>
 G170 a173 h167) h167 fun a171 h172 =>
 aa PP (.pick (.c a156) (.c a171) (.c (.bool false))) h172 fun a174 h175 =>
 vcond a174 (K (.tup []) h175) (
 vbin .add (f94 67) (.int .i64 1) fun a176 =>
 aG [a0,a1,a2,a3,a23,a29,a7,a9,(f12 18),a89,a91] [a0,a1,a2,a3,a23,a29,a7,a9,(f12 18),a89,a91]/\∃m,m<n93/\I92 m [a176] h175)) (
 aG [a0,a1,a2,a3,a23,a7,a9,(f12 18)] [a0,a1,a2,a3,a23,a7,a9,(f12 18)]/\J50 [] h95)
def cP (h182:Heap) (a183:D) (a181:D) (a1:D) (a29:D) (a0:D) (a2:D) (a3:D) (a23:D) (a7:D) (a9:D) (f12:Nat->D) (J47:HJq) (K:HKq):Prop :=
 ∃(I184:Nat->HJq) (n₀:Nat),I184 n₀ [(.int .i64 0)] h182/\∀(n185:Nat) (f186:Nat->D) (h187:Heap),I184 n185 [f186 40] h187 ->
 vbin .lss (f186 40) a183 fun a188 =>
 vcond a188 (aa PP (.iadd (.c a181) (.c (f186 40)) 1) h187 fun a189 h190 =>
 aa PP (.ld (.c a189) 1 false) h190 fun a191 h192 =>
 aa PP (.fadd (.c a1) 7) h192 fun a193 h194 =>
 aa PP (.ld (.c a193) 1 false) h194 fun a195 h196 =>
 aa PP (.iadd (.c a195) (.c a191) 14) h196 fun a197 h198 =>
 aa PP (.fadd (.c a197) 1) h198 fun a199 h200 =>
 aa PP (.fadd (.c a199) 5) h200 fun a201 h202 =>
 aa PP (.ld (.c a201) 3 true) h202 fun a203 h204 =>
 aa PP (.bldS true 3 1 (.agg [zI,zI,zJ]) [(0,(.c a203))]) h204 fun a205 h206 =>
 af PP bD [a205] h206 fun a207 h208 =>
 aa PP (.bld [(.bool false),zI] [(0,1,(.c (.bool true))),(1,1,(.c a191))]) h208 fun a209 h210 =>
 aa PP (.bldS true 2 1 (.agg [(.bool false),zI]) [(0,(.c a209))]) h210 fun a211 h212 =>
 aa PP (.app (.c a207) (.c a211) 2 16 (.agg [(.bool false),zI])) h212 fun a213 h214 =>
 aa PP (.ld (.c a29) 2 true) h214 fun a215 h216 =>
 aa PP (.bld [(.bool false),zI,.nil,(.bool false)] [(0,2,(.c a215)),(2,1,(.c a213))]) h216 fun a217 h218 =>
 aa PP (.callv (.c a0) [(.c a217)]) h218 fun a219 h220 =>
 vun .not a219 fun a221 =>
 vcond a221 (K (.tup []) h220) (
 vbin .add (f186 40) (.int .i64 1) fun a222 =>
 aG [a0,a1,a2,a3,a23,a29,a7,a9,(f12 18),a181,a183] [a0,a1,a2,a3,a23,a29,a7,a9,(f12 18),a181,a183]/\∃m,m<n185/\I184 m [a222] h220)) (
 aG [a0,a1,a2,a3,a23,a29,a7,a9,(f12 18)] [a0,a1,a2,a3,a23,a29,a7,a9,(f12 18)]/\J47 [] h187)
def jh (h8:Heap) (a9:D) (a0:D) (a1:D) (a2:D) (a3:D) (a7:D) (K:HKq):Prop :=
 ∃(I10:Nat->HJq) (n₀:Nat),I10 n₀ [(.int .i64 0)] h8/\∀(n11:Nat) (f12:Nat->D) (h13:Heap),I10 n11 [f12 18] h13 ->
 vbin .lss (f12 18) a9 fun a14 =>
 vcond a14 (∃(J15:HJq),(∀(f16:Nat->D) (h17:Heap),J15 [] h17 ->
 vbin .add (f12 18) (.int .i64 1) fun a18 =>
 aG [a0,a1,a2,a3,a7,a9] [a0,a1,a2,a3,a7,a9]/\∃m,m<n11/\I10 m [a18] h17) /\
 aa PP (.iadd (.c a7) (.c (f12 18)) 14) h13 fun a19 h20 =>
 aa PP (.ld (.c a19) 14 true) h20 fun a21 h22 =>
 aa PP (.alloc (.agg [.nil,zI,zI,zI,zI,zJ,zI,zI,zJ,zI,zI,zJ,zI,zI])) h22 fun a23 h24 =>
 aa PP (.st (.c a23) (.c a21) 14) h24 fun a25 h26 =>
 aa PP (.bld [(.bool false),zI] [(0,1,(.c (.bool true))),(1,1,(.c (f12 18)))]) h26 fun a27 h28 =>
 aa PP (.alloc (.agg [(.bool false),zI])) h28 fun a29 h30 =>
 aa PP (.st (.c a29) (.c a27) 2) h30 fun a31 h32 =>
 aa PP (.ld (.c a2) 1 false) h32 fun a33 h34 =>
 aa PP (.iadd (.c a33) (.c (f12 18)) 1) h34 fun a35 h36 =>
 aa PP (.ld (.c a35) 1 false) h36 fun a37 h38 =>
 vun .not a37 fun a39 =>
 vcond a39 (aa PP (.ld (.c a29) 2 true) h38 fun a40 h41 =>
 aa PP (.bld [(.bool false),zI,.nil,(.bool false)] [(0,2,(.c a40)),(3,1,(.c (.bool true)))]) h41 fun a42 h43 =>
 aa PP (.callv (.c a0) [(.c a42)]) h43 fun a44 h45 =>
 vun .not a44 fun a46 =>
 vcond a46 (K (.tup []) h45) (
 aG [a0,a1,a2,a3,a7,a9,(f12 18)] [a0,a1,a2,a3,a7,a9,(f12 18)]/\J15 [] h45)) (
 ∃(J47:HJq),(∀(f48:Nat->D) (h49:Heap),J47 [] h49 ->
 ∃(J50:HJq),(∀(f51:Nat->D) (h52:Heap),J50 [] h52 ->
 aa PP (.fadd (.c a23) 1) h52 fun a53 h54 =>
 aa PP (.ld (.c a53) 13 true) h54 fun a55 h56 =>
 af PP jQ [a55] h56 fun a57 h58 =>
 vbin .geq a57 (.int .i64 0) fun a59 =>
 vguard a59 true (fun G60 =>
 G60 a0 h58) h58 fun a61 h62 =>
 vguard a59 true (fun G63 =>
 G63 a57 h62) h62 fun a64 h65 =>
 vguard a59 true (fun G66 =>
 aa PP (.bld [(.bool false),zI] [(1,1,(.c a64))]) h65 fun a69 h70 =>
 G66 a69 h70) h65 fun a67 h68 =>
 vguard a59 true (fun G71 =>
 aa PP (.bld [(.bool false),zI,.nil,(.bool false)] [(0,2,(.c a67)),(3,1,(.c (.bool true)))]) h68 fun a74 h75 =>
 G71 a74 h75) h68 fun a72 h73 =>
 vguard a59 true (fun G76 =>
 aa PP (.callv (.c a61) [(.c a72)]) h73 fun a79 h80 =>
 G76 a79 h80) h73 fun a77 h78 =>
 vguard a59 true (fun G81 =>
 vun .not a77 fun a84 =>
 G81 a84 h78) h78 fun a82 h83 =>
 aa PP (.pick (.c a59) (.c a82) (.c (.bool false))) h83 fun a85 h86 =>
 vcond a85 (K (.tup []) h86) (
 aG [a0,a1,a2,a3,a7,a9,(f12 18)] [a0,a1,a2,a3,a7,a9,(f12 18)]/\J15 [] h86)) /\
 aa PP (.fadd (.c a23) 0) h49 fun a87 h88 =>
 aa PP (.ld (.c a87) 1 false) h88 fun a89 h90 =>
 aS a89 h90 fun a91 =>
 eV h90 a91 a89 a29 a0 a1 a2 a3 a23 a7 a9 f12 J50 K) /\
 aa PP (.ld (.c a3) 1 false) h38 fun a177 h178 =>
 aa PP (.iadd (.c a177) (.c (f12 18)) 1) h178 fun a179 h180 =>
 aa PP (.ld (.c a179) 1 false) h180 fun a181 h182 =>
 aS a181 h182 fun a183 =>
 cP h182 a183 a181 a1 a29 a0 a2 a3 a23 a7 a9 f12 J47 K)) (
 K (.tup []) h13)
def lY (a0:D) (a1:D) (a2:D) (a3:D) (h0:Heap) (K:HKq):Prop :=
 aa PP (.fadd (.c a1) 7) h0 fun a5 h6 =>
 aa PP (.ld (.c a5) 1 false) h6 fun a7 h8 =>
 aS a7 h8 fun a9 =>
 jh h8 a9 a0 a1 a2 a3 a7 K
theorem qw (a0:D) (a1:D) (a2:D) (a3:D) (h0:Heap) (K:HKq):lY a0 a1 a2 a3 h0 K=ku gH K [a0,a1,a2,a3] h0:=by kernel_rfl
def oE:TL
 | 1000009=>some ([],[3])|3=>some ([6,7],[3,8])|1000008=>some ([6,7,8],[3])|_=>none
def qi:TT
 | _=>none
def fV:aJ:=⟨23,
 .seq (.reg [⟨(some 2),.mov (.c .nil),none⟩]) <|
 .seq (.reg [⟨(some 3),.mov (.c .nil),none⟩]) <|
 .seqj [] [3] (.seq (.reg [⟨(some 6),.mov (.t 0),none⟩,
  ⟨(some 7),.len (.t 6),none⟩,
  ⟨(some 8),.mov (.c (.int .i64 0)),none⟩]) <|
 .block 0 (.loop [6,7] [3,8] (.seq (.reg [⟨(some 9),.bin .lss (.t 8) (.t 7),none⟩]) <|
 .seq (.cond (.t 9) (.skip) (.exit 0)) <|
 .seqj [6,7,8] [3] (.block 1 (.seq (.reg [⟨(some 10),.iadd (.t 6) (.t 8) 3,none⟩,
  ⟨(some 11),.ld (.t 10) 3 true,none⟩,
  ⟨(some 5),.alloc (.agg [(.int .i64 0),(.int .i64 0),(.int .i32 0)]),none⟩,
  ⟨none,.st (.t 5) (.t 11) 3,none⟩]) <|
 .seq (.reg [⟨(some 12),.fadd (.t 5) 0,none⟩,
  ⟨(some 13),.ld (.t 12) 1 false,none⟩,
  ⟨(some 14),.bin .eql (.t 13) (.c (.int .i64 2)),none⟩]) <|
 .cond (.t 14) (.reg [⟨(some 15),.mov (.t 3),none⟩,
  ⟨(some 16),.fadd (.t 5) 1,none⟩,
  ⟨(some 17),.ld (.t 16) 1 false,none⟩,
  ⟨(some 18),.bld [(.bool false),(.int .i64 0)] [(1,1,(.t 17))],none⟩,
  ⟨(some 19),.bldS true 2 1 (.agg [(.bool false),(.int .i64 0)]) [(0,(.t 18))],none⟩,
  ⟨(some 20),.app (.t 15) (.t 19) 2 16 (.agg [(.bool false),(.int .i64 0)]),none⟩,
  ⟨(some 3),.mov (.t 20),none⟩]) (.skip))) <|
 .reg [⟨(some 21),.bin .add (.t 8) (.c (.int .i64 1)),none⟩,
  ⟨(some 8),.mov (.t 21),none⟩]))) <|
 .seq (.reg [⟨(some 22),.mov (.t 3),none⟩,
  ⟨(some 2),.mov (.t 22),none⟩]) <|
 .ret,
 [.t 2]⟩
theorem ew:cFn PP true bD oE (cDr PP 23 qi)=some fV:=by kernel_rfl
def ep (h0:Heap) (a5:D) (a0:D) (J2:HJq):Prop :=
 ∃(I6:Nat->HJq) (n₀:Nat),I6 n₀ [.nil,(.int .i64 0)] h0/\∀(n7:Nat) (f8:Nat->D) (h9:Heap),I6 n7 [f8 3,f8 8] h9 ->
 vbin .lss (f8 8) a5 fun a10 =>
 vcond a10 (∃(J11:HJq),(∀(f12:Nat->D) (h13:Heap),J11 [f12 3] h13 ->
 vbin .add (f8 8) (.int .i64 1) fun a14 =>
 aG [a0,a5] [a0,a5]/\∃m,m<n7/\I6 m [(f12 3),a14] h13) /\
 aa PP (.iadd (.c a0) (.c (f8 8)) 3) h9 fun a15 h16 =>
 aa PP (.ld (.c a15) 3 true) h16 fun a17 h18 =>
 aa PP (.alloc (.agg [zI,zI,zJ])) h18 fun a19 h20 =>
 aa PP (.st (.c a19) (.c a17) 3) h20 fun a21 h22 =>
 aa PP (.fadd (.c a19) 0) h22 fun a23 h24 =>
 aa PP (.ld (.c a23) 1 false) h24 fun a25 h26 =>
 vbin .eql a25 (.int .i64 2) fun a27 =>
 vcond a27 (aa PP (.fadd (.c a19) 1) h26 fun a28 h29 =>
 aa PP (.ld (.c a28) 1 false) h29 fun a30 h31 =>
 aa PP (.bld [(.bool false),zI] [(1,1,(.c a30))]) h31 fun a32 h33 =>
 aa PP (.bldS true 2 1 (.agg [(.bool false),zI]) [(0,(.c a32))]) h33 fun a34 h35 =>
 aa PP (.app (.c (f8 3)) (.c a34) 2 16 (.agg [(.bool false),zI])) h35 fun a36 h37 =>
 aG [a0,a5,(f8 8)] [a0,a5,(f8 8)]/\J11 [a36] h37) (
 aG [a0,a5,(f8 8)] [a0,a5,(f8 8)]/\J11 [(f8 3)] h26)) (
 aG [] []/\J2 [(f8 3)] h9)
def fT (a0:D) (h0:Heap) (K:HKq):Prop :=
 ∃(J2:HJq),(∀(f3:Nat->D) (h4:Heap),J2 [f3 3] h4 ->
 K (f3 3) h4) /\
 aS a0 h0 fun a5 =>
 ep h0 a5 a0 J2
theorem iL (a0:D) (h0:Heap) (K:HKq):fT a0 h0 K=ku fV K [a0] h0:=by kernel_rfl
def qZ:TL
 | 1000008=>some ([1,4],[5])|_=>none
def tU:TT
 | _=>none
def jE:aJ:=⟨18,
 .seq (.reg [⟨(some 1),.box (.t 0),none⟩,
  ⟨(some 2),.mov (.c (.bool false)),none⟩]) <|
 .seq (.seq (.reg [⟨(some 3),.fadd (.t 1) 0,none⟩,
  ⟨(some 4),.ld (.t 3) 1 false,none⟩]) <|
 .block 0 (.seqj [1,4] [5] (.seq (.reg [⟨(some 6),.bin .eql (.t 4) (.c (.int .i64 1)),none⟩,
  ⟨(some 5),.mov (.t 6),none⟩]) <|
 .cond (.t 5) (.skip) (.seq (.reg [⟨(some 7),.bin .eql (.t 4) (.c (.int .i64 2)),none⟩,
  ⟨(some 5),.mov (.t 7),none⟩]) <|
 .cond (.t 5) (.skip) (.seq (.reg [⟨(some 8),.bin .eql (.t 4) (.c (.int .i64 3)),none⟩,
  ⟨(some 5),.mov (.t 8),none⟩]) <|
 .cond (.t 5) (.skip) (.seq (.reg [⟨(some 9),.bin .eql (.t 4) (.c (.int .i64 4)),none⟩,
  ⟨(some 5),.mov (.t 9),none⟩]) <|
 .cond (.t 5) (.skip) (.reg [⟨(some 10),.bin .eql (.t 4) (.c (.int .i64 6)),none⟩,
  ⟨(some 5),.mov (.t 10),none⟩]))))) <|
 .cond (.t 5) (.seq (.reg [⟨(some 2),.mov (.c (.bool false)),none⟩]) <|
 .ret) (.seq (.reg [⟨(some 12),.bin .eql (.t 4) (.c (.int .i64 5)),none⟩,
  ⟨(some 11),.mov (.t 12),none⟩]) <|
 .cond (.t 11) (.seq (.reg [⟨(some 13),.bldS true 1 3 (.int .i64 0) [(0,(.c (.int .i64 3))),(1,(.c (.int .i64 4))),(2,(.c (.int .i64 5)))],none⟩,
  ⟨(some 14),.fadd (.t 1) 1,none⟩,
  ⟨(some 15),.ld (.t 14) 1 false,none⟩,
  ⟨(some 16),.call bS [(.t 13),(.t 15)],none⟩,
  ⟨(some 17),.un .not (.t 16),none⟩,
  ⟨(some 2),.mov (.t 17),none⟩]) <|
 .ret) (.skip)))) <|
 .seq (.reg [⟨(some 2),.mov (.c (.bool true)),none⟩]) <|
 .ret,
 [.t 2]⟩
theorem kU:cFn PP true fC qZ (cDr PP 18 tU)=some jE:=by kernel_rfl
def oS (a0:D) (h0:Heap) (K:HKq):Prop :=
 aa PP (.box (.c a0)) h0 fun a2 h3 =>
 aa PP (.fadd (.c a2) 0) h3 fun a4 h5 =>
 aa PP (.ld (.c a4) 1 false) h5 fun a6 h7 =>
 ∃(J8:HJq),(∀(f9:Nat->D) (h10:Heap),J8 [f9 5] h10 ->
 vcond (f9 5) (K (.bool false) h10) (
 vbin .eql a6 (.int .i64 5) fun a11 =>
 vcond a11 (aa PP (.bldS true 1 3 (.int .i64 0) [(0,(.c (.int .i64 3))),(1,(.c (.int .i64 4))),(2,(.c (.int .i64 5)))]) h10 fun a12 h13 =>
 aa PP (.fadd (.c a2) 1) h13 fun a14 h15 =>
 aa PP (.ld (.c a14) 1 false) h15 fun a16 h17 =>
 af PP bS [a12,a16] h17 fun a18 h19 =>
 vun .not a18 fun a20 =>
 K a20 h19) (
 K (.bool true) h10))) /\
 vbin .eql a6 (.int .i64 1) fun a21 =>
 vcond a21 (aG [a2,a6] [a2,a6]/\J8 [a21] h7) (
 vbin .eql a6 (.int .i64 2) fun a22 =>
 vcond a22 (aG [a2,a6] [a2,a6]/\J8 [a22] h7) (
 vbin .eql a6 (.int .i64 3) fun a23 =>
 vcond a23 (aG [a2,a6] [a2,a6]/\J8 [a23] h7) (
 vbin .eql a6 (.int .i64 4) fun a24 =>
 vcond a24 (aG [a2,a6] [a2,a6]/\J8 [a24] h7) (
 vbin .eql a6 (.int .i64 6) fun a25 =>
 aG [a2,a6] [a2,a6]/\J8 [a25] h7))))
theorem ti (a0:D) (h0:Heap) (K:HKq):oS a0 h0 K=ku jE K [a0] h0:=by kernel_rfl
def cu:TL
 | _=>none
def cG:TT
 | _=>none
def aW:aJ:=⟨9,
 .seq (.reg [⟨(some 4),.mov (.c (.bool false)),none⟩]) <|
 .seq (.reg [⟨(some 5),.mov (.t 0),none⟩,
  ⟨(some 6),.mov (.t 1),none⟩,
  ⟨(some 7),.call aN [(.t 5),(.t 6)],none⟩,
  ⟨(some 8),.bin .geq (.t 7) (.c (.int .i64 0)),none⟩,
  ⟨(some 4),.mov (.t 8),none⟩]) <|
 .ret,
 [.t 4]⟩
theorem bp:cFn PP true aL cu (cDr PP 9 cG)=some aW:=by kernel_rfl
def bx (a0:D) (a1:D) (h0:Heap) (K:HKq):Prop :=
 af PP aN [a0,a1] h0 fun a3 h4 =>
 vbin .geq a3 (.int .i64 0) fun a5 =>
 K a5 h4
theorem cD (a0:D) (a1:D) (h0:Heap) (K:HKq):bx a0 a1 h0 K=ku aW K [a0,a1] h0:=by kernel_rfl
def qm:TL
 | _=>none
def sQ:TT
 | _=>none
def iW:aJ:=⟨10,
 .seq (.reg [⟨(some 2),.box (.t 0),none⟩,
  ⟨(some 3),.mov (.c (.bool false)),none⟩]) <|
 .seq (.reg [⟨(some 4),.ld (.t 1) 2 true,none⟩,
  ⟨(some 5),.ld (.t 2) 2 true,none⟩,
  ⟨(some 6),.call dm [(.t 4),(.t 5)],none⟩,
  ⟨(some 7),.fadd (.t 6) 0,none⟩,
  ⟨(some 8),.ld (.t 7) 1 false,none⟩,
  ⟨(some 9),.un .not (.t 8),none⟩,
  ⟨(some 3),.mov (.t 9),none⟩]) <|
 .ret,
 [.t 3]⟩
theorem kg:cFn PP true eZ qm (cDr PP 10 sQ)=some iW:=by kernel_rfl
def mX (a0:D) (a1:D) (h0:Heap) (K:HKq):Prop :=
 aa PP (.box (.c a0)) h0 fun a3 h4 =>
 aa PP (.ld (.c a1) 2 true) h4 fun a5 h6 =>
 aa PP (.ld (.c a3) 2 true) h6 fun a7 h8 =>
 af PP dm [a5,a7] h8 fun a9 h10 =>
 aa PP (.fadd (.c a9) 0) h10 fun a11 h12 =>
 aa PP (.ld (.c a11) 1 false) h12 fun a13 h14 =>
 vun .not a13 fun a15 =>
 K a15 h14
theorem rP (a0:D) (a1:D) (h0:Heap) (K:HKq):mX a0 a1 h0 K=ku iW K [a0,a1] h0:=by kernel_rfl
def oF:TL
 | 1000005=>some ([0,5],[6])|_=>none
def qj:TT
 | 5=>some ([0,0,0,4,0,16,48,112,240,0,1008,2032,4080,8176,16368,32764,65534,131071],[3,17],[999999])|6=>some ([0,0,1,7],[3],[])|_=>none
noncomputable abbrev kR:=cFn PP true dH oF (cDr PP 39 qj)
noncomputable def kV:aJ:=⟨39,lW kR,[.t 4,.cell 5 3 true]⟩
theorem pR:kR=some kV:=by kernel_rfl
def kN (a0:D) (a1:D) (h0:Heap) (K:HKq):Prop :=
 aa PP (.alloc (.agg [zI,zI,zJ])) h0 fun a3 h4 =>
 af PP ak [a0] h4 fun a5 h6 =>
 vbin .rem a5 (.int .i64 5) fun a7 =>
 ∃(J8:HJq),(∀(f9:Nat->D) (h10:Heap),J8 [f9 6] h10 ->
 af PP aM [a0] h10 fun a11 h12 =>
 aa PP (.alloc (.agg [zI,zI,zJ])) h12 fun a13 h14 =>
 aa PP (.st (.c a13) (.c a11) 3) h14 fun a15 h16 =>
 ab PP (.ld (.c a13) 3 true) h16 fun a17 =>
 ab PP (.fadd (.c a0) 0) h16 fun a18 =>
 ab PP (.fadd (.c a18) 2) h16 fun a19 =>
 ab PP (.fadd (.c a19) 5) h16 fun a20 =>
 ab PP (.ld (.c a20) 1 false) h16 fun a21 =>
 ab PP (.iadd (.c a21) (.c (f9 6)) 4) h16 fun a22 =>
 ab PP (.fadd (.c a22) 3) h16 fun a23 =>
 ab PP (.ld (.c a23) 1 false) h16 fun a24 =>
 vbin .sub a24 (.int .i64 1) fun a25 =>
 ab PP (.conv .i32 (.c a25)) h16 fun a26 =>
 af PP aK [a0] h16 fun a27 h28 =>
 ((ab PP (.ld (.c a13) 3 true) h28 fun a29=>aG [a29] [a17])/\(ab PP (.fadd (.c a0) 0) h28 fun a30=>aG [a30] [a18])/\(ab PP (.fadd (.c a18) 2) h28 fun a31=>aG [a31] [a19])/\(ab PP (.fadd (.c a19) 5) h28 fun a32=>aG [a32] [a20])/\(ab PP (.ld (.c a20) 1 false) h28 fun a33=>aG [a33] [a21])/\(ab PP (.iadd (.c a21) (.c (f9 6)) 4) h28 fun a34=>aG [a34] [a22])/\(ab PP (.fadd (.c a22) 3) h28 fun a35=>aG [a35] [a23])/\(ab PP (.ld (.c a23) 1 false) h28 fun a36=>aG [a36] [a24])/\True) /\
 ab PP (.call cx [(.c a26)]) h28 fun a37 =>
 ab PP (.bld [zI,zI,zI,zI,zI,zJ,zI,zI,zJ,zI,zI,zJ,zI,zI,zJ] [(0,1,(.c (.int .i64 3))),(1,1,(.c (.int .i64 17))),(3,3,(.c a17)),(6,3,(.c a27)),(9,3,(.c a37))]) h28 fun a38 =>
 af PP aE [a0,a38] h28 fun a39 h40 =>
 ab PP (.ld (.c a13) 3 true) h40 fun a41 =>
 aa PP (.st (.c a3) (.c a41) 3) h40 fun a42 h43 =>
 aa PP (.ld (.c a3) 3 true) h43 fun a44 _ =>
 K (.tup [(f9 6),a44]) h43) /\
 vbin .eql a7 (.int .i64 3) fun a45 =>
 vguard a45 true (fun G46 =>
 G46 a1 h6) h6 fun a47 h48 =>
 vguard a45 true (fun G49 =>
 vun .not a47 fun a52 =>
 G49 a52 h48) h48 fun a50 h51 =>
 aa PP (.pick (.c a45) (.c a50) (.c (.bool false))) h51 fun a53 h54 =>
 vcond a53 (aG [a0,a3] [a0,a3]/\J8 [(.int .i64 0)] h54) (
 aG [a0,a3] [a0,a3]/\J8 [a7] h54)
theorem pN (a0:D) (a1:D) (h0:Heap) (K:HKq):kN a0 a1 h0 K=ku kV K [a0,a1] h0:=by kernel_rfl
def y4:TL
 | 1000011=>some ([3,4,5],[])|5=>some ([1,3,4,5,25,26],[27])|1000010=>some ([1,3,4,5,25,26,27],[])|10=>some ([3,4,5],[])|1000019=>some ([3,4,5,8],[9])|13=>some ([3,4,5,8,56,57],[9,58])|1000018=>some ([3,4,5,8,56,57,58],[9])|_=>none
def Bh:TT
 | _=>none
def uI:aJ:=⟨85,
 .seq (.reg [⟨(some 1),.box (.t 0),none⟩,
  ⟨(some 2),.mov (.c .nilp),none⟩]) <|
 .seq (.reg [⟨(some 12),.ld (.t 1) 8 true,none⟩,
  ⟨(some 13),.call mQ [(.t 12)],none⟩,
  ⟨(some 14),.call dN [(.t 13),(.c (.int .i64 0))],none⟩,
  ⟨(some 3),.mov (.t 14),none⟩]) <|
 .seq (.reg [⟨(some 15),.fadd (.t 1) 7,none⟩,
  ⟨(some 16),.ld (.t 15) 1 false,none⟩,
  ⟨(some 17),.len (.t 16),none⟩,
  ⟨(some 4),.mov (.t 17),none⟩]) <|
 .seq (.reg [⟨(some 18),.mov (.t 3),none⟩,
  ⟨(some 19),.call b6 [(.t 18)],none⟩,
  ⟨(some 20),.bldS true 1 1 .nil [(0,(.c .nil))],none⟩,
  ⟨(some 21),.app (.t 19) (.t 20) 1 24 .nil,none⟩,
  ⟨(some 5),.mov (.t 21),none⟩]) <|
 .seqj [3,4,5] [] (.seq (.reg [⟨(some 22),.mov (.t 3),none⟩,
  ⟨(some 23),.fadd (.t 22) 0,none⟩,
  ⟨(some 24),.fadd (.t 23) 1,none⟩,
  ⟨(some 25),.ld (.t 24) 1 false,none⟩,
  ⟨(some 26),.len (.t 25),none⟩,
  ⟨(some 27),.mov (.c (.int .i64 0)),none⟩]) <|
 .block 0 (.loop [1,3,4,5,25,26] [27] (.seq (.reg [⟨(some 28),.bin .lss (.t 27) (.t 26),none⟩]) <|
 .seq (.cond (.t 28) (.skip) (.exit 0)) <|
 .seqj [1,3,4,5,25,26,27] [] (.block 1 (.seq (.reg [⟨(some 29),.iadd (.t 25) (.t 27) 1,none⟩,
  ⟨(some 30),.ld (.t 29) 1 false,none⟩,
  ⟨(some 7),.mov (.t 30),none⟩]) <|
 .seq (.reg [⟨(some 31),.fadd (.t 1) 7,none⟩,
  ⟨(some 32),.ld (.t 31) 1 false,none⟩,
  ⟨(some 33),.mov (.t 7),none⟩,
  ⟨(some 34),.iadd (.t 32) (.t 33) 14,none⟩,
  ⟨(some 35),.fadd (.t 34) 1,none⟩,
  ⟨(some 36),.fadd (.t 35) 0,none⟩,
  ⟨(some 37),.ld (.t 36) 1 false,none⟩,
  ⟨(some 38),.bin .eql (.t 37) (.c (.int .i64 5)),none⟩]) <|
 .cond (.t 38) (.reg [⟨(some 39),.mov (.t 5),none⟩,
  ⟨(some 40),.mov (.t 4),none⟩,
  ⟨(some 41),.mov (.t 5),none⟩,
  ⟨(some 42),.mov (.t 4),none⟩,
  ⟨(some 43),.iadd (.t 41) (.t 42) 1,none⟩,
  ⟨(some 44),.ld (.t 43) 1 false,none⟩,
  ⟨(some 45),.mov (.t 7),none⟩,
  ⟨(some 46),.bldS true 1 1 (.int .i64 0) [(0,(.t 45))],none⟩,
  ⟨(some 47),.app (.t 44) (.t 46) 1 8 (.int .i64 0),none⟩,
  ⟨(some 48),.iadd (.t 39) (.t 40) 1,none⟩,
  ⟨none,.st (.t 48) (.t 47) 1,none⟩]) (.skip))) <|
 .reg [⟨(some 49),.bin .add (.t 27) (.c (.int .i64 1)),none⟩,
  ⟨(some 27),.mov (.t 49),none⟩]))) <|
 .block 2 (.loop [3,4,5] [] (.block 3 (.seq (.reg [⟨(some 50),.mov (.t 5),none⟩,
  ⟨(some 51),.mov (.t 4),none⟩,
  ⟨(some 52),.call dN [(.t 50),(.t 51)],none⟩,
  ⟨(some 8),.mov (.t 52),none⟩]) <|
 .seq (.reg [⟨(some 9),.mov (.c (.int .i64 (-1))),none⟩]) <|
 .seqj [3,4,5,8] [9] (.seq (.reg [⟨(some 53),.mov (.t 3),none⟩,
  ⟨(some 54),.fadd (.t 53) 0,none⟩,
  ⟨(some 55),.fadd (.t 54) 1,none⟩,
  ⟨(some 56),.ld (.t 55) 1 false,none⟩,
  ⟨(some 57),.len (.t 56),none⟩,
  ⟨(some 58),.mov (.c (.int .i64 0)),none⟩]) <|
 .block 4 (.loop [3,4,5,8,56,57] [9,58] (.seq (.reg [⟨(some 59),.bin .lss (.t 58) (.t 57),none⟩]) <|
 .seq (.cond (.t 59) (.skip) (.exit 4)) <|
 .seqj [3,4,5,8,56,57,58] [9] (.block 5 (.seq (.reg [⟨(some 60),.iadd (.t 56) (.t 58) 1,none⟩,
  ⟨(some 61),.ld (.t 60) 1 false,none⟩,
  ⟨(some 11),.mov (.t 61),none⟩]) <|
 .seq (.reg [⟨(some 62),.mov (.t 8),none⟩,
  ⟨(some 63),.fadd (.t 62) 0,none⟩,
  ⟨(some 64),.fadd (.t 63) 2,none⟩,
  ⟨(some 65),.ld (.t 64) 1 false,none⟩,
  ⟨(some 66),.mov (.t 11),none⟩,
  ⟨(some 67),.iadd (.t 65) (.t 66) 1,none⟩,
  ⟨(some 68),.ld (.t 67) 1 false,none⟩,
  ⟨(some 69),.bin .lss (.t 68) (.c (.int .i64 0)),none⟩]) <|
 .cond (.t 69) (.reg [⟨(some 70),.mov (.t 11),none⟩,
  ⟨(some 9),.mov (.t 70),none⟩]) (.skip))) <|
 .reg [⟨(some 71),.bin .add (.t 58) (.c (.int .i64 1)),none⟩,
  ⟨(some 58),.mov (.t 71),none⟩]))) <|
 .seq (.seq (.reg [⟨(some 72),.mov (.t 9),none⟩,
  ⟨(some 73),.bin .lss (.t 72) (.c (.int .i64 0)),none⟩]) <|
 .cond (.t 73) (.seq (.reg [⟨(some 74),.mov (.t 8),none⟩,
  ⟨(some 2),.mov (.t 74),none⟩]) <|
 .ret) (.skip)) <|
 .reg [⟨(some 75),.mov (.t 5),none⟩,
  ⟨(some 76),.mov (.t 4),none⟩,
  ⟨(some 77),.mov (.t 5),none⟩,
  ⟨(some 78),.mov (.t 4),none⟩,
  ⟨(some 79),.iadd (.t 77) (.t 78) 1,none⟩,
  ⟨(some 80),.ld (.t 79) 1 false,none⟩,
  ⟨(some 81),.mov (.t 9),none⟩,
  ⟨(some 82),.bldS true 1 1 (.int .i64 0) [(0,(.t 81))],none⟩,
  ⟨(some 83),.app (.t 80) (.t 82) 1 8 (.int .i64 0),none⟩,
  ⟨(some 84),.iadd (.t 75) (.t 76) 1,none⟩,
  ⟨none,.st (.t 84) (.t 83) 1,none⟩]))),
 [.t 2]⟩
theorem tN:cFn PP true pj y4 (cDr PP 85 Bh)=some uI:=by kernel_rfl
def oi (h51:Heap) (a52:D) (a8:D) (a14:D) (a19:D) (a28:D) (a50:D) (J30:HJq):Prop :=
 ∃(I53:Nat->HJq) (n₀:Nat),I53 n₀ [(.int .i64 (-1)),(.int .i64 0)] h51/\∀(n54:Nat) (f55:Nat->D) (h56:Heap),I53 n54 [f55 9,f55 58] h56 ->
 vbin .lss (f55 58) a52 fun a57 =>
 vcond a57 (∃(J58:HJq),(∀(f59:Nat->D) (h60:Heap),J58 [f59 9] h60 ->
 vbin .add (f55 58) (.int .i64 1) fun a61 =>
 aG [a8,a14,a19,a28,a50,a52] [a8,a14,a19,a28,a50,a52]/\∃m,m<n54/\I53 m [(f59 9),a61] h60) /\
 aa PP (.iadd (.c a50) (.c (f55 58)) 1) h56 fun a62 h63 =>
 aa PP (.ld (.c a62) 1 false) h63 fun a64 h65 =>
 aa PP (.fadd (.c a28) 0) h65 fun a66 h67 =>
 aa PP (.fadd (.c a66) 2) h67 fun a68 h69 =>
 aa PP (.ld (.c a68) 1 false) h69 fun a70 h71 =>
 aa PP (.iadd (.c a70) (.c a64) 1) h71 fun a72 h73 =>
 aa PP (.ld (.c a72) 1 false) h73 fun a74 h75 =>
 vbin .lss a74 (.int .i64 0) fun a76 =>
 vcond a76 (aG [a8,a14,a19,a28,a50,a52,(f55 58)] [a8,a14,a19,a28,a50,a52,(f55 58)]/\J58 [a64] h75) (
 aG [a8,a14,a19,a28,a50,a52,(f55 58)] [a8,a14,a19,a28,a50,a52,(f55 58)]/\J58 [(f55 9)] h75)) (
 aG [a8,a14,a19,a28] [a8,a14,a19,a28]/\J30 [(f55 9)] h56)
def tL (h23:Heap) (a19:D) (a14:D) (a8:D) (K:HKq):Prop :=
 ∃(I24:Nat->HJq) (n₀:Nat),I24 n₀ [] h23/\∀(n25:Nat) (f26:Nat->D) (h27:Heap),I24 n25 [] h27 ->
 af PP dN [a19,a14] h27 fun a28 h29 =>
 ∃(J30:HJq),(∀(f31:Nat->D) (h32:Heap),J30 [f31 9] h32 ->
 vbin .lss (f31 9) (.int .i64 0) fun a33 =>
 vcond a33 (K a28 h32) (
 aa PP (.iadd (.c a19) (.c a14) 1) h32 fun a34 h35 =>
 aa PP (.ld (.c a34) 1 false) h35 fun a36 h37 =>
 aa PP (.bldS true 1 1 (.int .i64 0) [(0,(.c (f31 9)))]) h37 fun a38 h39 =>
 aa PP (.app (.c a36) (.c a38) 1 8 (.int .i64 0)) h39 fun a40 h41 =>
 aa PP (.iadd (.c a19) (.c a14) 1) h41 fun a42 h43 =>
 aa PP (.st (.c a42) (.c a40) 1) h43 fun a44 h45 =>
 aG [a8,a14,a19] [a8,a14,a19]/\∃m,m<n25/\I24 m [] h45)) /\
 aa PP (.fadd (.c a8) 0) h29 fun a46 h47 =>
 aa PP (.fadd (.c a46) 1) h47 fun a48 h49 =>
 aa PP (.ld (.c a48) 1 false) h49 fun a50 h51 =>
 aS a50 h51 fun a52 =>
 oi h51 a52 a8 a14 a19 a28 a50 J30
def oh (h82:Heap) (a83:D) (a2:D) (a8:D) (a14:D) (a19:D) (a81:D) (J21:HJq):Prop :=
 ∃(I84:Nat->HJq) (n₀:Nat),I84 n₀ [(.int .i64 0)] h82/\∀(n85:Nat) (f86:Nat->D) (h87:Heap),I84 n85 [f86 27] h87 ->
 vbin .lss (f86 27) a83 fun a88 =>
 vcond a88 (∃(J89:HJq),(∀(f90:Nat->D) (h91:Heap),J89 [] h91 ->
 vbin .add (f86 27) (.int .i64 1) fun a92 =>
 aG [a2,a8,a14,a19,a81,a83] [a2,a8,a14,a19,a81,a83]/\∃m,m<n85/\I84 m [a92] h91) /\
 aa PP (.iadd (.c a81) (.c (f86 27)) 1) h87 fun a93 h94 =>
 aa PP (.ld (.c a93) 1 false) h94 fun a95 h96 =>
 aa PP (.fadd (.c a2) 7) h96 fun a97 h98 =>
 aa PP (.ld (.c a97) 1 false) h98 fun a99 h100 =>
 aa PP (.iadd (.c a99) (.c a95) 14) h100 fun a101 h102 =>
 aa PP (.fadd (.c a101) 1) h102 fun a103 h104 =>
 aa PP (.fadd (.c a103) 0) h104 fun a105 h106 =>
 aa PP (.ld (.c a105) 1 false) h106 fun a107 h108 =>
 vbin .eql a107 (.int .i64 5) fun a109 =>
 vcond a109 (aa PP (.iadd (.c a19) (.c a14) 1) h108 fun a110 h111 =>
 aa PP (.ld (.c a110) 1 false) h111 fun a112 h113 =>
 aa PP (.bldS true 1 1 (.int .i64 0) [(0,(.c a95))]) h113 fun a114 h115 =>
 aa PP (.app (.c a112) (.c a114) 1 8 (.int .i64 0)) h115 fun a116 h117 =>
 aa PP (.iadd (.c a19) (.c a14) 1) h117 fun a118 h119 =>
 aa PP (.st (.c a118) (.c a116) 1) h119 fun a120 h121 =>
 aG [a2,a8,a14,a19,a81,a83,(f86 27)] [a2,a8,a14,a19,a81,a83,(f86 27)]/\J89 [] h121) (
 aG [a2,a8,a14,a19,a81,a83,(f86 27)] [a2,a8,a14,a19,a81,a83,(f86 27)]/\J89 [] h108)) (
 aG [a8,a14,a19] [a8,a14,a19]/\J21 [] h87)
def zE (a0:D) (h0:Heap) (K:HKq):Prop :=
 aa PP (.box (.c a0)) h0 fun a2 h3 =>
 aa PP (.ld (.c a2) 8 true) h3 fun a4 h5 =>
 af PP mQ [a4] h5 fun a6 h7 =>
 af PP dN [a6,(.int .i64 0)] h7 fun a8 h9 =>
 aa PP (.fadd (.c a2) 7) h9 fun a10 h11 =>
 aa PP (.ld (.c a10) 1 false) h11 fun a12 h13 =>
 aS a12 h13 fun a14 =>
 af PP b6 [a8] h13 fun a15 h16 =>
 aa PP (.bldS true 1 1 .nil [(0,(.c .nil))]) h16 fun a17 h18 =>
 aa PP (.app (.c a15) (.c a17) 1 24 .nil) h18 fun a19 h20 =>
 ∃(J21:HJq),(∀(f22:Nat->D) (h23:Heap),J21 [] h23 ->
 tL h23 a19 a14 a8 K) /\
 aa PP (.fadd (.c a8) 0) h20 fun a77 h78 =>
 aa PP (.fadd (.c a77) 1) h78 fun a79 h80 =>
 aa PP (.ld (.c a79) 1 false) h80 fun a81 h82 =>
 aS a81 h82 fun a83 =>
 oh h82 a83 a2 a8 a14 a19 a81 J21
theorem Ah (a0:D) (h0:Heap) (K:HKq):zE a0 h0 K=ku uI K [a0] h0:=by kernel_rfl
def tg:TL
 | 9000002=>some ([0],[3,4])|1000020=>some ([3],[])|5=>some ([0,3,4,37,38],[39])|1000017=>some ([0,3,4,6,37,38,39],[7])|9=>some ([0,3,4,6,37,38,39,46,47],[7,48])|1000016=>some ([0,3,4,6,37,38,39,46,47,48],[7])|_=>none
def uZ:TT
 | 3=>some ([0,0,2,6,14,30,62,0,128,384,896,1920,3968,8191,16383],[14],[])|_=>none
def kL:aJ:=⟨80,
 .seq (.reg [⟨(some 2),.mov (.c .nil),none⟩]) <|
 .scope 0 [0] [3,4] (.seq (.reg [⟨(some 10),.bldS true 1 1 (.int .i64 0) [(0,(.c (.int .i64 (-1))))],none⟩,
  ⟨(some 11),.mov (.t 0),none⟩,
  ⟨(some 12),.fadd (.t 11) 0,none⟩,
  ⟨(some 13),.fadd (.t 12) 0,none⟩,
  ⟨(some 14),.ld (.t 13) 1 false,none⟩,
  ⟨(some 15),.len (.t 14),none⟩,
  ⟨(some 16),.call bn [(.t 10),(.t 15)],none⟩,
  ⟨(some 3),.mov (.t 16),none⟩]) <|
 .seq (.reg [⟨(some 17),.mov (.t 0),none⟩,
  ⟨(some 18),.call b6 [(.t 17)],none⟩,
  ⟨(some 4),.mov (.t 18),none⟩]) <|
 .seq (.dreg [⟨(some 19),.mov (.t 3),none⟩,
  ⟨(some 20),.mov (.t 0),none⟩,
  ⟨(some 21),.fadd (.t 20) 0,none⟩,
  ⟨(some 22),.fadd (.t 21) 1,none⟩,
  ⟨(some 23),.ld (.t 22) 1 false,none⟩,
  ⟨(some 24),.iadd (.t 23) (.c (.int .i64 0)) 1,none⟩,
  ⟨(some 25),.ld (.t 24) 1 false,none⟩,
  ⟨(some 26),.mov (.t 0),none⟩,
  ⟨(some 27),.fadd (.t 26) 0,none⟩,
  ⟨(some 28),.fadd (.t 27) 1,none⟩,
  ⟨(some 29),.ld (.t 28) 1 false,none⟩,
  ⟨(some 30),.iadd (.t 29) (.c (.int .i64 0)) 1,none⟩,
  ⟨(some 31),.ld (.t 30) 1 false,none⟩,
  ⟨(some 32),.iadd (.t 19) (.t 25) 1,none⟩] [⟨none,.st (.t 32) (.t 31) 1,none⟩] []) <|
 .seq (.label 0) <|
 .seqj [3] [] (.seq (.reg [⟨(some 33),.mov (.t 0),none⟩,
  ⟨(some 34),.fadd (.t 33) 0,none⟩,
  ⟨(some 35),.fadd (.t 34) 1,none⟩,
  ⟨(some 36),.ld (.t 35) 1 false,none⟩,
  ⟨(some 37),.o8 (.t 36) (some (.c (.int .i64 1))) none none 1,none⟩,
  ⟨(some 38),.len (.t 37),none⟩,
  ⟨(some 39),.mov (.c (.int .i64 0)),none⟩]) <|
 .block 0 (.loop [0,3,4,37,38] [39] (.seq (.reg [⟨(some 40),.bin .lss (.t 39) (.t 38),none⟩]) <|
 .seq (.cond (.t 40) (.skip) (.exit 0)) <|
 .seq (.block 1 (.seq (.reg [⟨(some 41),.iadd (.t 37) (.t 39) 1,none⟩,
  ⟨(some 42),.ld (.t 41) 1 false,none⟩,
  ⟨(some 6),.mov (.t 42),none⟩]) <|
 .seq (.reg [⟨(some 7),.mov (.c (.int .i64 (-1))),none⟩]) <|
 .seqj [0,3,4,6,37,38,39] [7] (.seq (.reg [⟨(some 43),.mov (.t 4),none⟩,
  ⟨(some 44),.mov (.t 6),none⟩,
  ⟨(some 45),.iadd (.t 43) (.t 44) 1,none⟩,
  ⟨(some 46),.ld (.t 45) 1 false,none⟩,
  ⟨(some 47),.len (.t 46),none⟩,
  ⟨(some 48),.mov (.c (.int .i64 0)),none⟩]) <|
 .block 2 (.loop [0,3,4,6,37,38,39,46,47] [7,48] (.seq (.reg [⟨(some 49),.bin .lss (.t 48) (.t 47),none⟩]) <|
 .seq (.cond (.t 49) (.skip) (.exit 2)) <|
 .seqj [0,3,4,6,37,38,39,46,47,48] [7] (.block 3 (.seq (.reg [⟨(some 50),.iadd (.t 46) (.t 48) 1,none⟩,
  ⟨(some 51),.ld (.t 50) 1 false,none⟩,
  ⟨(some 9),.mov (.t 51),none⟩]) <|
 .block 4 (.seq (.reg [⟨(some 58),.mov (.t 3),none⟩,
  ⟨(some 59),.mov (.t 9),none⟩,
  ⟨(some 60),.iadd (.t 58) (.t 59) 1,none⟩,
  ⟨(some 61),.ld (.t 60) 1 false,none⟩,
  ⟨(some 62),.bin .lss (.t 61) (.c (.int .i64 0)),none⟩,
  ⟨(some 57),.mov (.t 62),none⟩]) <|
 .cond (.t 57) (.skip) (.seq (.reg [⟨(some 64),.mov (.t 7),none⟩,
  ⟨(some 65),.bin .lss (.t 64) (.c (.int .i64 0)),none⟩,
  ⟨(some 63),.mov (.t 65),none⟩]) <|
 .cond (.t 63) (.reg [⟨(some 66),.mov (.t 9),none⟩,
  ⟨(some 7),.mov (.t 66),none⟩]) (.reg [⟨(some 52),.mov (.t 0),none⟩,
  ⟨(some 53),.mov (.t 3),none⟩,
  ⟨(some 54),.mov (.t 7),none⟩,
  ⟨(some 55),.mov (.t 9),none⟩,
  ⟨(some 56),.call cC [(.t 52),(.t 53),(.t 54),(.t 55)],none⟩,
  ⟨(some 7),.mov (.t 56),none⟩]))))) <|
 .reg [⟨(some 67),.bin .add (.t 48) (.c (.int .i64 1)),none⟩,
  ⟨(some 48),.mov (.t 67),none⟩]))) <|
 .seq (.reg [⟨(some 68),.mov (.t 7),none⟩,
  ⟨(some 69),.mov (.t 3),none⟩,
  ⟨(some 70),.mov (.t 6),none⟩,
  ⟨(some 71),.iadd (.t 69) (.t 70) 1,none⟩,
  ⟨(some 72),.ld (.t 71) 1 false,none⟩,
  ⟨(some 73),.bin .neq (.t 68) (.t 72),none⟩]) <|
 .cond (.t 73) (.seq (.reg [⟨(some 74),.mov (.t 3),none⟩,
  ⟨(some 75),.mov (.t 6),none⟩,
  ⟨(some 76),.mov (.t 7),none⟩,
  ⟨(some 77),.iadd (.t 74) (.t 75) 1,none⟩,
  ⟨none,.st (.t 77) (.t 76) 1,none⟩]) <|
 .goto 0) (.skip))) <|
 .reg [⟨(some 78),.bin .add (.t 39) (.c (.int .i64 1)),none⟩,
  ⟨(some 39),.mov (.t 78),none⟩]))) <|
 .seq (.reg [⟨(some 79),.mov (.t 3),none⟩,
  ⟨(some 2),.mov (.t 79),none⟩]) <|
 .ret) (.seq (.skip) <|
 .seqj [3] [] (.seq (.reg [⟨(some 33),.mov (.t 0),none⟩,
  ⟨(some 34),.fadd (.t 33) 0,none⟩,
  ⟨(some 35),.fadd (.t 34) 1,none⟩,
  ⟨(some 36),.ld (.t 35) 1 false,none⟩,
  ⟨(some 37),.o8 (.t 36) (some (.c (.int .i64 1))) none none 1,none⟩,
  ⟨(some 38),.len (.t 37),none⟩,
  ⟨(some 39),.mov (.c (.int .i64 0)),none⟩]) <|
 .block 0 (.loop [0,3,4,37,38] [39] (.seq (.reg [⟨(some 40),.bin .lss (.t 39) (.t 38),none⟩]) <|
 .seq (.cond (.t 40) (.skip) (.exit 0)) <|
 .seq (.block 1 (.seq (.reg [⟨(some 41),.iadd (.t 37) (.t 39) 1,none⟩,
  ⟨(some 42),.ld (.t 41) 1 false,none⟩,
  ⟨(some 6),.mov (.t 42),none⟩]) <|
 .seq (.reg [⟨(some 7),.mov (.c (.int .i64 (-1))),none⟩]) <|
 .seqj [0,3,4,6,37,38,39] [7] (.seq (.reg [⟨(some 43),.mov (.t 4),none⟩,
  ⟨(some 44),.mov (.t 6),none⟩,
  ⟨(some 45),.iadd (.t 43) (.t 44) 1,none⟩,
  ⟨(some 46),.ld (.t 45) 1 false,none⟩,
  ⟨(some 47),.len (.t 46),none⟩,
  ⟨(some 48),.mov (.c (.int .i64 0)),none⟩]) <|
 .block 2 (.loop [0,3,4,6,37,38,39,46,47] [7,48] (.seq (.reg [⟨(some 49),.bin .lss (.t 48) (.t 47),none⟩]) <|
 .seq (.cond (.t 49) (.skip) (.exit 2)) <|
 .seqj [0,3,4,6,37,38,39,46,47,48] [7] (.block 3 (.seq (.reg [⟨(some 50),.iadd (.t 46) (.t 48) 1,none⟩,
  ⟨(some 51),.ld (.t 50) 1 false,none⟩,
  ⟨(some 9),.mov (.t 51),none⟩]) <|
 .block 4 (.seq (.reg [⟨(some 58),.mov (.t 3),none⟩,
  ⟨(some 59),.mov (.t 9),none⟩,
  ⟨(some 60),.iadd (.t 58) (.t 59) 1,none⟩,
  ⟨(some 61),.ld (.t 60) 1 false,none⟩,
  ⟨(some 62),.bin .lss (.t 61) (.c (.int .i64 0)),none⟩,
  ⟨(some 57),.mov (.t 62),none⟩]) <|
 .cond (.t 57) (.skip) (.seq (.reg [⟨(some 64),.mov (.t 7),none⟩,
  ⟨(some 65),.bin .lss (.t 64) (.c (.int .i64 0)),none⟩,
  ⟨(some 63),.mov (.t 65),none⟩]) <|
 .cond (.t 63) (.reg [⟨(some 66),.mov (.t 9),none⟩,
  ⟨(some 7),.mov (.t 66),none⟩]) (.reg [⟨(some 52),.mov (.t 0),none⟩,
  ⟨(some 53),.mov (.t 3),none⟩,
  ⟨(some 54),.mov (.t 7),none⟩,
  ⟨(some 55),.mov (.t 9),none⟩,
  ⟨(some 56),.call cC [(.t 52),(.t 53),(.t 54),(.t 55)],none⟩,
  ⟨(some 7),.mov (.t 56),none⟩]))))) <|
 .reg [⟨(some 67),.bin .add (.t 48) (.c (.int .i64 1)),none⟩,
  ⟨(some 48),.mov (.t 67),none⟩]))) <|
 .seq (.reg [⟨(some 68),.mov (.t 7),none⟩,
  ⟨(some 69),.mov (.t 3),none⟩,
  ⟨(some 70),.mov (.t 6),none⟩,
  ⟨(some 71),.iadd (.t 69) (.t 70) 1,none⟩,
  ⟨(some 72),.ld (.t 71) 1 false,none⟩,
  ⟨(some 73),.bin .neq (.t 68) (.t 72),none⟩]) <|
 .cond (.t 73) (.seq (.reg [⟨(some 74),.mov (.t 3),none⟩,
  ⟨(some 75),.mov (.t 6),none⟩,
  ⟨(some 76),.mov (.t 7),none⟩,
  ⟨(some 77),.iadd (.t 74) (.t 75) 1,none⟩,
  ⟨none,.st (.t 77) (.t 76) 1,none⟩]) <|
 .goto 0) (.skip))) <|
 .reg [⟨(some 78),.bin .add (.t 39) (.c (.int .i64 1)),none⟩,
  ⟨(some 39),.mov (.t 78),none⟩]))) <|
 .seq (.reg [⟨(some 79),.mov (.t 3),none⟩,
  ⟨(some 2),.mov (.t 79),none⟩]) <|
 .ret),
 [.t 2]⟩
theorem mE:cFn PP true gu tg (cDr PP 80 uZ)=some kL:=by kernel_rfl
def gF (h69:Heap) (a70:D) (a0:D) (a15:D) (a17:D) (a51:D) (a41:D) (a43:D) (f46:Nat->D) (a68:D) (J53:HJq):Prop :=
 ∃(I71:Nat->HJq) (n₀:Nat),I71 n₀ [(.int .i64 (-1)),(.int .i64 0)] h69/\∀(n72:Nat) (f73:Nat->D) (h74:Heap),I71 n72 [f73 7,f73 48] h74 ->
 vbin .lss (f73 48) a70 fun a75 =>
 vcond a75 (∃(J76:HJq),(∀(f77:Nat->D) (h78:Heap),J76 [f77 7] h78 ->
 vbin .add (f73 48) (.int .i64 1) fun a79 =>
 aG [a0,a15,a17,a51,a41,a43,(f46 39),a68,a70] [a0,a15,a17,a51,a41,a43,(f46 39),a68,a70]/\∃m,m<n72/\I71 m [(f77 7),a79] h78) /\
 aa PP (.iadd (.c a68) (.c (f73 48)) 1) h74 fun a80 h81 =>
 aa PP (.ld (.c a80) 1 false) h81 fun a82 h83 =>
 aa PP (.iadd (.c a15) (.c a82) 1) h83 fun a84 h85 =>
 aa PP (.ld (.c a84) 1 false) h85 fun a86 h87 =>
 vbin .lss a86 (.int .i64 0) fun a88 =>
 vcond a88 (aG [a0,a15,a17,a51,a41,a43,(f46 39),a68,a70,(f73 48)] [a0,a15,a17,a51,a41,a43,(f46 39),a68,a70,(f73 48)]/\J76 [(f73 7)] h87) (
 vbin .lss (f73 7) (.int .i64 0) fun a89 =>
 vcond a89 (aG [a0,a15,a17,a51,a41,a43,(f46 39),a68,a70,(f73 48)] [a0,a15,a17,a51,a41,a43,(f46 39),a68,a70,(f73 48)]/\J76 [a82] h87) (
 af PP cC [a0,a15,(f73 7),a82] h87 fun a90 h91 =>
 aG [a0,a15,a17,a51,a41,a43,(f46 39),a68,a70,(f73 48)] [a0,a15,a17,a51,a41,a43,(f46 39),a68,a70,(f73 48)]/\J76 [a90] h91))) (
 aG [a0,a15,a17,a51,a41,a43,(f46 39)] [a0,a15,a17,a51,a41,a43,(f46 39)]/\J53 [(f73 7)] h74)
def er (h42:Heap) (a43:D) (a41:D) (a15:D) (a0:D) (I2:Nat->HJq) (a17:D) (J32:HJq):Prop :=
 ∃(I44:Nat->HJq) (n₀:Nat),I44 n₀ [(.int .i64 0)] h42/\∀(n45:Nat) (f46:Nat->D) (h47:Heap),I44 n45 [f46 39] h47 ->
 vbin .lss (f46 39) a43 fun a48 =>
 vcond a48 (aa PP (.iadd (.c a41) (.c (f46 39)) 1) h47 fun a49 h50 =>
 aa PP (.ld (.c a49) 1 false) h50 fun a51 h52 =>
 ∃(J53:HJq),(∀(f54:Nat->D) (h55:Heap),J53 [f54 7] h55 ->
 aa PP (.iadd (.c a15) (.c a51) 1) h55 fun a56 h57 =>
 aa PP (.ld (.c a56) 1 false) h57 fun a58 h59 =>
 vbin .neq (f54 7) a58 fun a60 =>
 vcond a60 (aa PP (.iadd (.c a15) (.c a51) 1) h59 fun a61 h62 =>
 aa PP (.st (.c a61) (.c (f54 7)) 1) h62 fun a63 h64 =>
 0=0/\aG [a0] [a0]/\∃m,I2 m [a15,a17] h64) (
 vbin .add (f46 39) (.int .i64 1) fun a65 =>
 aG [a0,a15,a17,a41,a43] [a0,a15,a17,a41,a43]/\∃m,m<n45/\I44 m [a65] h59)) /\
 aa PP (.iadd (.c a17) (.c a51) 1) h52 fun a66 h67 =>
 aa PP (.ld (.c a66) 1 false) h67 fun a68 h69 =>
 aS a68 h69 fun a70 =>
 gF h69 a70 a0 a15 a17 a51 a41 a43 f46 a68 J53) (
 aG [a15] [a15]/\J32 [] h47)
def uC (h129:Heap) (a130:D) (a0:D) (f4:Nat->D) (a111:D) (a101:D) (a103:D) (f106:Nat->D) (a128:D) (J113:HJq):Prop :=
 ∃(I131:Nat->HJq) (n₀:Nat),I131 n₀ [(.int .i64 (-1)),(.int .i64 0)] h129/\∀(n132:Nat) (f133:Nat->D) (h134:Heap),I131 n132 [f133 7,f133 48] h134 ->
 vbin .lss (f133 48) a130 fun a135 =>
 vcond a135 (∃(J136:HJq),(∀(f137:Nat->D) (h138:Heap),J136 [f137 7] h138 ->
 vbin .add (f133 48) (.int .i64 1) fun a139 =>
 aG [a0,(f4 3),(f4 4),a111,a101,a103,(f106 39),a128,a130] [a0,(f4 3),(f4 4),a111,a101,a103,(f106 39),a128,a130]/\∃m,m<n132/\I131 m [(f137 7),a139] h138) /\
 aa PP (.iadd (.c a128) (.c (f133 48)) 1) h134 fun a140 h141 =>
 aa PP (.ld (.c a140) 1 false) h141 fun a142 h143 =>
 aa PP (.iadd (.c (f4 3)) (.c a142) 1) h143 fun a144 h145 =>
 aa PP (.ld (.c a144) 1 false) h145 fun a146 h147 =>
 vbin .lss a146 (.int .i64 0) fun a148 =>
 vcond a148 (aG [a0,(f4 3),(f4 4),a111,a101,a103,(f106 39),a128,a130,(f133 48)] [a0,(f4 3),(f4 4),a111,a101,a103,(f106 39),a128,a130,(f133 48)]/\J136 [(f133 7)] h147) (
 vbin .lss (f133 7) (.int .i64 0) fun a149 =>
 vcond a149 (aG [a0,(f4 3),(f4 4),a111,a101,a103,(f106 39),a128,a130,(f133 48)] [a0,(f4 3),(f4 4),a111,a101,a103,(f106 39),a128,a130,(f133 48)]/\J136 [a142] h147) (
 af PP cC [a0,(f4 3),(f133 7),a142] h147 fun a150 h151 =>
 aG [a0,(f4 3),(f4 4),a111,a101,a103,(f106 39),a128,a130,(f133 48)] [a0,(f4 3),(f4 4),a111,a101,a103,(f106 39),a128,a130,(f133 48)]/\J136 [a150] h151))) (
 aG [a0,(f4 3),(f4 4),a111,a101,a103,(f106 39)] [a0,(f4 3),(f4 4),a111,a101,a103,(f106 39)]/\J113 [(f133 7)] h134)
def mf (h102:Heap) (a103:D) (a101:D) (f4:Nat->D) (a0:D) (n3:Nat) (I2:Nat->HJq) (J92:HJq):Prop :=
 ∃(I104:Nat->HJq) (n₀:Nat),I104 n₀ [(.int .i64 0)] h102/\∀(n105:Nat) (f106:Nat->D) (h107:Heap),I104 n105 [f106 39] h107 ->
 vbin .lss (f106 39) a103 fun a108 =>
 vcond a108 (aa PP (.iadd (.c a101) (.c (f106 39)) 1) h107 fun a109 h110 =>
 aa PP (.ld (.c a109) 1 false) h110 fun a111 h112 =>
 ∃(J113:HJq),(∀(f114:Nat->D) (h115:Heap),J113 [f114 7] h115 ->
 aa PP (.iadd (.c (f4 3)) (.c a111) 1) h115 fun a116 h117 =>
 aa PP (.ld (.c a116) 1 false) h117 fun a118 h119 =>
 vbin .neq (f114 7) a118 fun a120 =>
 vcond a120 (aa PP (.iadd (.c (f4 3)) (.c a111) 1) h119 fun a121 h122 =>
 aa PP (.st (.c a121) (.c (f114 7)) 1) h122 fun a123 h124 =>
 0=0/\aG [a0] [a0]/\∃m,m<n3/\I2 m [(f4 3),(f4 4)] h124) (
 vbin .add (f106 39) (.int .i64 1) fun a125 =>
 aG [a0,(f4 3),(f4 4),a101,a103] [a0,(f4 3),(f4 4),a101,a103]/\∃m,m<n105/\I104 m [a125] h119)) /\
 aa PP (.iadd (.c (f4 4)) (.c a111) 1) h112 fun a126 h127 =>
 aa PP (.ld (.c a126) 1 false) h127 fun a128 h129 =>
 aS a128 h129 fun a130 =>
 uC h129 a130 a0 f4 a111 a101 a103 f106 a128 J113) (
 aG [(f4 3)] [(f4 3)]/\J92 [] h107)
def p9 (a0:D) (h0:Heap) (K:HKq):Prop :=
 ∃(I2:Nat->HJq),(aa PP (.bldS true 1 1 (.int .i64 0) [(0,(.c (.int .i64 (-1))))]) h0 fun a6 h7 =>
 aa PP (.fadd (.c a0) 0) h7 fun a8 h9 =>
 aa PP (.fadd (.c a8) 0) h9 fun a10 h11 =>
 aa PP (.ld (.c a10) 1 false) h11 fun a12 h13 =>
 aS a12 h13 fun a14 =>
 af PP bn [a6,a14] h13 fun a15 h16 =>
 af PP b6 [a0] h16 fun a17 h18 =>
 ab PP (.fadd (.c a0) 0) h18 fun a19 =>
 ab PP (.fadd (.c a19) 1) h18 fun a20 =>
 ab PP (.ld (.c a20) 1 false) h18 fun a21 =>
 ab PP (.iadd (.c a21) (.c (.int .i64 0)) 1) h18 fun a22 =>
 ab PP (.ld (.c a22) 1 false) h18 fun a23 =>
 ab PP (.fadd (.c a0) 0) h18 fun a24 =>
 ab PP (.fadd (.c a24) 1) h18 fun a25 =>
 ab PP (.ld (.c a25) 1 false) h18 fun a26 =>
 ab PP (.iadd (.c a26) (.c (.int .i64 0)) 1) h18 fun a27 =>
 ab PP (.ld (.c a27) 1 false) h18 fun a28 =>
 ab PP (.iadd (.c a15) (.c a23) 1) h18 fun a29 =>
 aa PP (.st (.c a29) (.c a28) 1) h18 fun a30 h31 =>
 ∃(J32:HJq),(∀(f33:Nat->D) (h34:Heap),J32 [] h34 ->
 K a15 h34) /\
 aa PP (.fadd (.c a0) 0) h31 fun a35 h36 =>
 aa PP (.fadd (.c a35) 1) h36 fun a37 h38 =>
 aa PP (.ld (.c a37) 1 false) h38 fun a39 h40 =>
 aa PP (.o8 (.c a39) (some (.c (.int .i64 1))) none none 1) h40 fun a41 h42 =>
 aS a41 h42 fun a43 =>
 er h42 a43 a41 a15 a0 I2 a17 J32)/\∀(n3:Nat) (f4:Nat->D) (h5:Heap),I2 n3 [f4 3,f4 4] h5 ->
 ∃(J92:HJq),(∀(f93:Nat->D) (h94:Heap),J92 [] h94 ->
 K (f4 3) h94) /\
 aa PP (.fadd (.c a0) 0) h5 fun a95 h96 =>
 aa PP (.fadd (.c a95) 1) h96 fun a97 h98 =>
 aa PP (.ld (.c a97) 1 false) h98 fun a99 h100 =>
 aa PP (.o8 (.c a99) (some (.c (.int .i64 1))) none none 1) h100 fun a101 h102 =>
 aS a101 h102 fun a103 =>
 mf h102 a103 a101 f4 a0 n3 I2 J92
theorem uB (a0:D) (h0:Heap) (K:HKq):p9 a0 h0 K=ku kL K [a0] h0:=by kernel_rfl
def xY:TL
 | _=>none
def zW:TT
 | _=>none
def su:aJ:=⟨6,
 .seq (.reg [⟨(some 2),.box (.t 0),none⟩,
  ⟨(some 3),.box (.t 1),none⟩,
  ⟨(some 4),.mov (.c .nilfn),none⟩]) <|
 .seq (.reg [⟨(some 5),.mkf fq [] [(.t 3),(.t 2)],none⟩,
  ⟨(some 4),.mov (.t 5),none⟩]) <|
 .ret,
 [.t 4]⟩
theorem ss:cFn PP true qX xY (cDr PP 6 zW)=some su:=by kernel_rfl
def xM (a0:D) (a1:D) (h0:Heap) (K:HKq):Prop :=
 aa PP (.box (.c a0)) h0 fun a3 h4 =>
 aa PP (.box (.c a1)) h4 fun a5 h6 =>
 aa PP (.mkf fq [] [(.c a5),(.c a3)]) h6 fun a7 h8 =>
 K a7 h8
theorem zF (a0:D) (a1:D) (h0:Heap) (K:HKq):xM a0 a1 h0 K=ku su K [a0,a1] h0:=by kernel_rfl
def lQ:TL
 | _=>none
def nJ:TT
 | _=>none
def iX:aJ:=⟨11,
 .seq (.reg [⟨(some 3),.mov (.t 0),none⟩,
  ⟨(some 4),.len (.t 3),none⟩,
  ⟨(some 2),.mov (.t 4),none⟩]) <|
 .reg [⟨(some 5),.mov (.t 0),none⟩,
  ⟨(some 6),.mov (.t 2),none⟩,
  ⟨(some 7),.mov (.t 2),none⟩,
  ⟨(some 8),.conv .u64 (.t 7),none⟩,
  ⟨(some 9),.call pX [(.t 8)],none⟩,
  ⟨(some 10),.call bN [(.t 5),(.c (.int .i64 0)),(.t 6),(.t 9)],none⟩],
 []⟩
theorem mJ:cFn PP true bu lQ (cDr PP 11 nJ)=some iX:=by kernel_rfl
def jS:TL
 | 1000017=>some ([0],[])|4=>some ([0],[3])|1000015=>some ([0],[3])|9=>some ([0,4],[3,5])|1000011=>some ([0,4,5],[3])|_=>none
def la:TT
 | 6=>some ([0,0,3,7,0,0,32,112,240,511],[],[])|11=>some ([0,0,3,7,0,0,32,112,240,511],[],[])|_=>none
def fN:aJ:=⟨61,
 .seq (.reg [⟨(some 2),.mov (.c .nil),none⟩]) <|
 .seq (.seq (.reg [⟨(some 6),.mov (.t 0),none⟩,
  ⟨(some 7),.len (.t 6),none⟩,
  ⟨(some 8),.bin .lss (.t 7) (.c (.int .i64 2)),none⟩]) <|
 .cond (.t 8) (.seq (.reg [⟨(some 9),.mov (.t 0),none⟩,
  ⟨(some 2),.mov (.t 9),none⟩]) <|
 .ret) (.skip)) <|
 .seqj [0] [] (.seq (.reg [⟨(some 3),.mov (.c (.int .i64 1)),none⟩]) <|
 .block 0 (.loop [0] [3] (.seq (.seq (.reg [⟨(some 10),.mov (.t 3),none⟩,
  ⟨(some 11),.mov (.t 0),none⟩,
  ⟨(some 12),.len (.t 11),none⟩,
  ⟨(some 13),.bin .lss (.t 10) (.t 12),none⟩]) <|
 .cond (.t 13) (.skip) (.exit 0)) <|
 .seq (.block 1 (.seq (.dreg [⟨(some 16),.mov (.t 0),none⟩,
  ⟨(some 17),.mov (.t 3),none⟩,
  ⟨(some 18),.iadd (.t 16) (.t 17) 1,none⟩,
  ⟨(some 19),.ld (.t 18) 1 false,none⟩,
  ⟨(some 20),.mov (.t 0),none⟩,
  ⟨(some 21),.mov (.t 3),none⟩,
  ⟨(some 22),.bin .sub (.t 21) (.c (.int .i64 1)),none⟩,
  ⟨(some 23),.iadd (.t 20) (.t 22) 1,none⟩,
  ⟨(some 24),.ld (.t 23) 1 false,none⟩,
  ⟨(some 25),.bin .eql (.t 19) (.t 24),none⟩] [] []) <|
 .cond (.t 25) (.seq (.reg [⟨(some 26),.mov (.t 0),none⟩,
  ⟨(some 27),.mov (.t 3),none⟩,
  ⟨(some 28),.o8 (.t 26) (some (.t 27)) none none 1,none⟩,
  ⟨(some 4),.mov (.t 28),none⟩]) <|
 .seqj [0] [3] (.seq (.reg [⟨(some 5),.mov (.c (.int .i64 1)),none⟩]) <|
 .block 2 (.loop [0,4] [3,5] (.seq (.seq (.reg [⟨(some 29),.mov (.t 5),none⟩,
  ⟨(some 30),.mov (.t 4),none⟩,
  ⟨(some 31),.len (.t 30),none⟩,
  ⟨(some 32),.bin .lss (.t 29) (.t 31),none⟩]) <|
 .cond (.t 32) (.skip) (.exit 2)) <|
 .seqj [0,4,5] [3] (.block 3 (.seq (.dreg [⟨(some 35),.mov (.t 4),none⟩,
  ⟨(some 36),.mov (.t 5),none⟩,
  ⟨(some 37),.iadd (.t 35) (.t 36) 1,none⟩,
  ⟨(some 38),.ld (.t 37) 1 false,none⟩,
  ⟨(some 39),.mov (.t 4),none⟩,
  ⟨(some 40),.mov (.t 5),none⟩,
  ⟨(some 41),.bin .sub (.t 40) (.c (.int .i64 1)),none⟩,
  ⟨(some 42),.iadd (.t 39) (.t 41) 1,none⟩,
  ⟨(some 43),.ld (.t 42) 1 false,none⟩,
  ⟨(some 44),.bin .neq (.t 38) (.t 43),none⟩] [] []) <|
 .cond (.t 44) (.seq (.reg [⟨(some 45),.mov (.t 0),none⟩,
  ⟨(some 46),.mov (.t 3),none⟩,
  ⟨(some 47),.mov (.t 4),none⟩,
  ⟨(some 48),.mov (.t 5),none⟩,
  ⟨(some 49),.iadd (.t 47) (.t 48) 1,none⟩,
  ⟨(some 50),.ld (.t 49) 1 false,none⟩,
  ⟨(some 51),.iadd (.t 45) (.t 46) 1,none⟩,
  ⟨none,.st (.t 51) (.t 50) 1,none⟩]) <|
 .reg [⟨(some 52),.mov (.t 3),none⟩,
  ⟨(some 53),.bin .add (.t 52) (.c (.int .i64 1)),none⟩,
  ⟨(some 3),.mov (.t 53),none⟩]) (.skip))) <|
 .reg [⟨(some 33),.mov (.t 5),none⟩,
  ⟨(some 34),.bin .add (.t 33) (.c (.int .i64 1)),none⟩,
  ⟨(some 5),.mov (.t 34),none⟩]))) <|
 .seq (.reg [⟨(some 54),.mov (.t 0),none⟩,
  ⟨(some 55),.mov (.t 3),none⟩,
  ⟨(some 56),.o8 (.t 54) (some (.t 55)) none none 1,none⟩,
  ⟨none,.dead,none⟩]) <|
 .seq (.reg [⟨(some 57),.mov (.t 0),none⟩,
  ⟨(some 58),.mov (.t 3),none⟩,
  ⟨(some 59),.o8 (.t 57) none (some (.t 58)) none 1,none⟩,
  ⟨(some 2),.mov (.t 59),none⟩]) <|
 .ret) (.skip))) <|
 .reg [⟨(some 14),.mov (.t 3),none⟩,
  ⟨(some 15),.bin .add (.t 14) (.c (.int .i64 1)),none⟩,
  ⟨(some 3),.mov (.t 15),none⟩]))) <|
 .seq (.reg [⟨(some 60),.mov (.t 0),none⟩,
  ⟨(some 2),.mov (.t 60),none⟩]) <|
 .ret,
 [.t 2]⟩
theorem kJ:cFn PP true bl jS (cDr PP 61 la)=some fN:=by kernel_rfl
def jw:TL
 | _=>none
def kx:TT
 | _=>none
def cO:aJ:=⟨9,
 .seq (.reg [⟨(some 4),.mov (.c (.bool false)),none⟩]) <|
 .seq (.reg [⟨(some 5),.mov (.t 0),none⟩,
  ⟨(some 6),.mov (.t 1),none⟩,
  ⟨(some 7),.call cj [(.t 5),(.t 6)],none⟩,
  ⟨(some 8),.bin .geq (.t 7) (.c (.int .i64 0)),none⟩,
  ⟨(some 4),.mov (.t 8),none⟩]) <|
 .ret,
 [.t 4]⟩
theorem dZ:cFn PP true bS jw (cDr PP 9 kx)=some cO:=by kernel_rfl
def fy (a0:D) (a1:D) (h0:Heap) (K:HKq):Prop :=
 af PP cj [a0,a1] h0 fun a3 h4 =>
 vbin .geq a3 (.int .i64 0) fun a5 =>
 K a5 h4
theorem jW (a0:D) (a1:D) (h0:Heap) (K:HKq):fy a0 a1 h0 K=ku cO K [a0,a1] h0:=by kernel_rfl
def cQ:TL
 | 1000008=>some ([],[])|2=>some ([0,1,7],[8])|_=>none
def dh:TT
 | _=>none
def bh:aJ:=⟨19,
 .seq (.reg [⟨(some 4),.mov (.c (.int .i64 0)),none⟩]) <|
 .seqj [] [] (.seq (.reg [⟨(some 6),.mov (.t 0),none⟩,
  ⟨(some 7),.len (.t 6),none⟩,
  ⟨(some 8),.mov (.c (.int .i64 0)),none⟩]) <|
 .block 0 (.loop [0,1,7] [8] (.seq (.reg [⟨(some 9),.bin .lss (.t 8) (.t 7),none⟩]) <|
 .seq (.cond (.t 9) (.skip) (.exit 0)) <|
 .seq (.block 1 (.seq (.reg [⟨(some 10),.mov (.t 8),none⟩,
  ⟨(some 5),.mov (.t 10),none⟩]) <|
 .seq (.reg [⟨(some 11),.mov (.t 1),none⟩,
  ⟨(some 12),.mov (.t 0),none⟩,
  ⟨(some 13),.mov (.t 5),none⟩,
  ⟨(some 14),.iadd (.t 12) (.t 13) 2,none⟩,
  ⟨(some 15),.ld (.t 14) 2 true,none⟩,
  ⟨(some 16),.callv (.t 11) [(.t 15)],none⟩]) <|
 .cond (.t 16) (.seq (.reg [⟨(some 17),.mov (.t 5),none⟩,
  ⟨(some 4),.mov (.t 17),none⟩]) <|
 .ret) (.skip))) <|
 .reg [⟨(some 18),.bin .add (.t 8) (.c (.int .i64 1)),none⟩,
  ⟨(some 8),.mov (.t 18),none⟩]))) <|
 .seq (.reg [⟨(some 4),.mov (.c (.int .i64 (-1))),none⟩]) <|
 .ret,
 [.t 4]⟩
theorem bB:cFn PP true aN cQ (cDr PP 19 dh)=some bh:=by kernel_rfl
def bw (h0:Heap) (a6:D) (a0:D) (a1:D) (J3:HJq) (K:HKq):Prop :=
 ∃(I7:Nat->HJq) (n₀:Nat),I7 n₀ [(.int .i64 0)] h0/\∀(n8:Nat) (f9:Nat->D) (h10:Heap),I7 n8 [f9 8] h10 ->
 vbin .lss (f9 8) a6 fun a11 =>
 vcond a11 (aa PP (.iadd (.c a0) (.c (f9 8)) 2) h10 fun a12 h13 =>
 aa PP (.ld (.c a12) 2 true) h13 fun a14 h15 =>
 aa PP (.callv (.c a1) [(.c a14)]) h15 fun a16 h17 =>
 vcond a16 (K (f9 8) h17) (
 vbin .add (f9 8) (.int .i64 1) fun a18 =>
 aG [a0,a1,a6] [a0,a1,a6]/\∃m,m<n8/\I7 m [a18] h17)) (
 aG [] []/\J3 [] h10)
def bI (a0:D) (a1:D) (h0:Heap) (K:HKq):Prop :=
 ∃(J3:HJq),(∀(f4:Nat->D) (h5:Heap),J3 [] h5 ->
 K (.int .i64 (-1)) h5) /\
 aS a0 h0 fun a6 =>
 bw h0 a6 a0 a1 J3 K
theorem cW (a0:D) (a1:D) (h0:Heap) (K:HKq):bI a0 a1 h0 K=ku bh K [a0,a1] h0:=by kernel_rfl
def uk:TL
 | 1000013=>some ([5],[])|8=>some ([5,32,33],[34])|_=>none
def wS:TT
 | 1=>some ([0,0,0,4,14,31,63,0,255],[4,6,7,8],[999996,2])|_=>none
def mD:aJ:=⟨48,
 .seq (.reg [⟨(some 2),.box (.t 0),none⟩,
  ⟨(some 4),.mov (.c .nilp),none⟩]) <|
 .seq (.seq (.dreg [⟨(some 5),.mov (.c .undef),none⟩] [] []) <|
 .seq (.dreg [⟨(some 10),.ld (.t 2) 1 false,none⟩,
  ⟨(some 11),.bldS false 1 1 (.int .i64 0) [(0,(.c (.int .i64 (-1))))],none⟩,
  ⟨(some 12),.ld (.t 2) 1 false,none⟩,
  ⟨(some 13),.len (.t 12),none⟩] [] []) <|
 .seq (.dreg [] [⟨(some 14),.call bn [(.t 11),(.t 13)],none⟩] [⟨(some 10),.ld (.t 2) 1 false,none⟩]) <|
 .seq (.dreg [⟨(some 15),.bld [.nil,.nil,.nil] [(0,1,(.t 10)),(2,1,(.t 14))],none⟩] [⟨(some 16),.box (.t 15),none⟩] []) <|
 .seq (.dreg [] [⟨(some 5),.alloc .nilp,none⟩] [⟨(some 10),.ld (.t 2) 1 false,none⟩,
  ⟨(some 12),.ld (.t 2) 1 false,none⟩,
  ⟨(some 13),.len (.t 12),none⟩]) <|
 .seq (.dreg [] [⟨none,.st (.t 5) (.t 16) 1,none⟩] []) <|
 .dreg [] [] []) <|
 .seq (.reg [⟨(some 17),.ld (.t 2) 1 false,none⟩,
  ⟨(some 18),.len (.t 17),none⟩,
  ⟨(some 19),.mk 1 1 (.bool false) (.t 18) (.t 18),none⟩,
  ⟨(some 6),.alloc .nil,none⟩,
  ⟨none,.st (.t 6) (.t 19) 1,none⟩]) <|
 .seq (.reg [⟨(some 7),.alloc .nilfn,none⟩]) <|
 .seq (.reg [⟨(some 20),.mkf bF [] [(.t 6),(.t 2),(.t 7),(.t 5)],none⟩,
  ⟨none,.st (.t 7) (.t 20) 1,none⟩]) <|
 .seq (.reg [⟨(some 21),.ld (.t 7) 1 false,none⟩,
  ⟨(some 22),.mov (.t 1),none⟩,
  ⟨(some 23),.callv (.t 21) [(.t 22)],none⟩]) <|
 .seq (.reg [⟨(some 24),.ld (.t 5) 1 false,none⟩,
  ⟨(some 25),.fadd (.t 24) 0,none⟩,
  ⟨(some 26),.fadd (.t 25) 1,none⟩,
  ⟨(some 27),.ld (.t 26) 1 false,none⟩,
  ⟨(some 28),.call bY [(.t 27)],none⟩]) <|
 .seqj [5] [] (.seq (.reg [⟨(some 29),.ld (.t 5) 1 false,none⟩,
  ⟨(some 30),.fadd (.t 29) 0,none⟩,
  ⟨(some 31),.fadd (.t 30) 1,none⟩,
  ⟨(some 32),.ld (.t 31) 1 false,none⟩,
  ⟨(some 33),.len (.t 32),none⟩,
  ⟨(some 34),.mov (.c (.int .i64 0)),none⟩]) <|
 .block 0 (.loop [5,32,33] [34] (.seq (.reg [⟨(some 35),.bin .lss (.t 34) (.t 33),none⟩]) <|
 .seq (.cond (.t 35) (.skip) (.exit 0)) <|
 .seq (.block 1 (.seq (.reg [⟨(some 36),.mov (.t 34),none⟩,
  ⟨(some 37),.iadd (.t 32) (.t 34) 1,none⟩,
  ⟨(some 38),.ld (.t 37) 1 false,none⟩,
  ⟨(some 8),.mov (.t 36),none⟩,
  ⟨(some 9),.mov (.t 38),none⟩]) <|
 .reg [⟨(some 39),.ld (.t 5) 1 false,none⟩,
  ⟨(some 40),.fadd (.t 39) 0,none⟩,
  ⟨(some 41),.fadd (.t 40) 2,none⟩,
  ⟨(some 42),.ld (.t 41) 1 false,none⟩,
  ⟨(some 43),.mov (.t 9),none⟩,
  ⟨(some 44),.mov (.t 8),none⟩,
  ⟨(some 45),.iadd (.t 42) (.t 43) 1,none⟩,
  ⟨none,.st (.t 45) (.t 44) 1,none⟩])) <|
 .reg [⟨(some 46),.bin .add (.t 34) (.c (.int .i64 1)),none⟩,
  ⟨(some 34),.mov (.t 46),none⟩]))) <|
 .seq (.reg [⟨(some 47),.ld (.t 5) 1 false,none⟩,
  ⟨(some 4),.mov (.t 47),none⟩]) <|
 .ret,
 [.t 4]⟩
theorem nH:cFn PP true dN uk (cDr PP 48 wS)=some mD:=by kernel_rfl
def m4 (h63:Heap) (a64:D) (a62:D) (a15:D) (J51:HJq):Prop :=
 ∃(I65:Nat->HJq) (n₀:Nat),I65 n₀ [(.int .i64 0)] h63/\∀(n66:Nat) (f67:Nat->D) (h68:Heap),I65 n66 [f67 34] h68 ->
 vbin .lss (f67 34) a64 fun a69 =>
 vcond a69 (aa PP (.iadd (.c a62) (.c (f67 34)) 1) h68 fun a70 h71 =>
 aa PP (.ld (.c a70) 1 false) h71 fun a72 h73 =>
 aa PP (.ld (.c a15) 1 false) h73 fun a74 h75 =>
 aa PP (.fadd (.c a74) 0) h75 fun a76 h77 =>
 aa PP (.fadd (.c a76) 2) h77 fun a78 h79 =>
 aa PP (.ld (.c a78) 1 false) h79 fun a80 h81 =>
 aa PP (.iadd (.c a80) (.c a72) 1) h81 fun a82 h83 =>
 aa PP (.st (.c a82) (.c (f67 34)) 1) h83 fun a84 h85 =>
 vbin .add (f67 34) (.int .i64 1) fun a86 =>
 aG [a15,a62,a64] [a15,a62,a64]/\∃m,m<n66/\I65 m [a86] h85) (
 aG [a15] [a15]/\J51 [] h68)
def rW (a0:D) (a1:D) (h0:Heap) (K:HKq):Prop :=
 aa PP (.box (.c a0)) h0 fun a3 h4 =>
 ab PP (.ld (.c a3) 1 false) h4 fun a5 =>
 ab PP (.bldS false 1 1 (.int .i64 0) [(0,(.c (.int .i64 (-1))))]) h4 fun a6 =>
 ab PP (.ld (.c a3) 1 false) h4 fun a7 =>
 aS a7 h4 fun a8 =>
 af PP bn [a6,a8] h4 fun a9 h10 =>
 ((ab PP (.ld (.c a3) 1 false) h10 fun a11=>aG [a11] [a5])/\True) /\
 ab PP (.bld [.nil,.nil,.nil] [(0,1,(.c a5)),(2,1,(.c a9))]) h10 fun a12 =>
 aa PP (.box (.c a12)) h10 fun a13 h14 =>
 aa PP (.alloc .nilp) h14 fun a15 h16 =>
 ((ab PP (.ld (.c a3) 1 false) h16 fun a17=>aG [a17] [a5])/\(ab PP (.ld (.c a3) 1 false) h16 fun a18=>aG [a18] [a7])/\(ab PP (.len (.c a7)) h16 fun a19=>aG [a19] [a8])/\True) /\
 aa PP (.st (.c a15) (.c a13) 1) h16 fun a20 h21 =>
 aa PP (.ld (.c a3) 1 false) h21 fun a22 h23 =>
 aS a22 h23 fun a24 =>
 aa PP (.mk 1 1 (.bool false) (.c a24) (.c a24)) h23 fun a25 h26 =>
 aa PP (.alloc .nil) h26 fun a27 h28 =>
 aa PP (.st (.c a27) (.c a25) 1) h28 fun a29 h30 =>
 aa PP (.alloc .nilfn) h30 fun a31 h32 =>
 aa PP (.mkf bF [] [(.c a27),(.c a3),(.c a31),(.c a15)]) h32 fun a33 h34 =>
 aa PP (.st (.c a31) (.c a33) 1) h34 fun a35 h36 =>
 aa PP (.ld (.c a31) 1 false) h36 fun a37 h38 =>
 aa PP (.callv (.c a37) [(.c a1)]) h38 fun a39 h40 =>
 aa PP (.ld (.c a15) 1 false) h40 fun a41 h42 =>
 aa PP (.fadd (.c a41) 0) h42 fun a43 h44 =>
 aa PP (.fadd (.c a43) 1) h44 fun a45 h46 =>
 aa PP (.ld (.c a45) 1 false) h46 fun a47 h48 =>
 af PP bY [a47] h48 fun a49 h50 =>
 ∃(J51:HJq),(∀(f52:Nat->D) (h53:Heap),J51 [] h53 ->
 aa PP (.ld (.c a15) 1 false) h53 fun a54 h55 =>
 K a54 h55) /\
 aa PP (.ld (.c a15) 1 false) h50 fun a56 h57 =>
 aa PP (.fadd (.c a56) 0) h57 fun a58 h59 =>
 aa PP (.fadd (.c a58) 1) h59 fun a60 h61 =>
 aa PP (.ld (.c a60) 1 false) h61 fun a62 h63 =>
 aS a62 h63 fun a64 =>
 m4 h63 a64 a62 a15 J51
theorem wu (a0:D) (a1:D) (h0:Heap) (K:HKq):rW a0 a1 h0 K=ku mD K [a0,a1] h0:=by kernel_rfl
def xX:TL
 | 1000008=>some ([3],[])|3=>some ([3,11,12],[13])|_=>none
def zV:TT
 | _=>none
def sr:aJ:=⟨26,
 .seq (.reg [⟨(some 1),.box (.t 0),none⟩,
  ⟨(some 2),.mov (.c .nil),none⟩]) <|
 .seq (.reg [⟨(some 6),.fadd (.t 1) 7,none⟩,
  ⟨(some 7),.ld (.t 6) 1 false,none⟩,
  ⟨(some 8),.len (.t 7),none⟩,
  ⟨(some 9),.mk 1 24 .nil (.t 8) (.t 8),none⟩,
  ⟨(some 3),.mov (.t 9),none⟩]) <|
 .seqj [3] [] (.seq (.reg [⟨(some 10),.fadd (.t 1) 7,none⟩,
  ⟨(some 11),.ld (.t 10) 1 false,none⟩,
  ⟨(some 12),.len (.t 11),none⟩,
  ⟨(some 13),.mov (.c (.int .i64 0)),none⟩]) <|
 .block 0 (.loop [3,11,12] [13] (.seq (.reg [⟨(some 14),.bin .lss (.t 13) (.t 12),none⟩]) <|
 .seq (.cond (.t 14) (.skip) (.exit 0)) <|
 .seq (.block 1 (.seq (.reg [⟨(some 15),.mov (.t 13),none⟩,
  ⟨(some 16),.iadd (.t 11) (.t 13) 14,none⟩,
  ⟨(some 17),.ld (.t 16) 14 true,none⟩,
  ⟨(some 5),.alloc (.agg [.nil,(.int .i64 0),(.int .i64 0),(.int .i64 0),(.int .i64 0),(.int .i32 0),(.int .i64 0),(.int .i64 0),(.int .i32 0),(.int .i64 0),(.int .i64 0),(.int .i32 0),(.int .i64 0),(.int .i64 0)]),none⟩,
  ⟨(some 4),.mov (.t 15),none⟩,
  ⟨none,.st (.t 5) (.t 17) 14,none⟩]) <|
 .reg [⟨(some 18),.mov (.t 3),none⟩,
  ⟨(some 19),.mov (.t 4),none⟩,
  ⟨(some 20),.fadd (.t 5) 1,none⟩,
  ⟨(some 21),.ld (.t 20) 13 true,none⟩,
  ⟨(some 22),.call dW [(.t 21)],none⟩,
  ⟨(some 23),.iadd (.t 18) (.t 19) 1,none⟩,
  ⟨none,.st (.t 23) (.t 22) 1,none⟩])) <|
 .reg [⟨(some 24),.bin .add (.t 13) (.c (.int .i64 1)),none⟩,
  ⟨(some 13),.mov (.t 24),none⟩]))) <|
 .seq (.reg [⟨(some 25),.mov (.t 3),none⟩,
  ⟨(some 2),.mov (.t 25),none⟩]) <|
 .ret,
 [.t 2]⟩
theorem sq:cFn PP true mQ xX (cDr PP 26 zV)=some sr:=by kernel_rfl
def rX (h17:Heap) (a18:D) (a16:D) (a9:D) (J11:HJq):Prop :=
 ∃(I19:Nat->HJq) (n₀:Nat),I19 n₀ [(.int .i64 0)] h17/\∀(n20:Nat) (f21:Nat->D) (h22:Heap),I19 n20 [f21 13] h22 ->
 vbin .lss (f21 13) a18 fun a23 =>
 vcond a23 (aa PP (.iadd (.c a16) (.c (f21 13)) 14) h22 fun a24 h25 =>
 aa PP (.ld (.c a24) 14 true) h25 fun a26 h27 =>
 aa PP (.alloc (.agg [.nil,zI,zI,zI,zI,zJ,zI,zI,zJ,zI,zI,zJ,zI,zI])) h27 fun a28 h29 =>
 aa PP (.st (.c a28) (.c a26) 14) h29 fun a30 h31 =>
 aa PP (.fadd (.c a28) 1) h31 fun a32 h33 =>
 aa PP (.ld (.c a32) 13 true) h33 fun a34 h35 =>
 af PP dW [a34] h35 fun a36 h37 =>
 aa PP (.iadd (.c a9) (.c (f21 13)) 1) h37 fun a38 h39 =>
 aa PP (.st (.c a38) (.c a36) 1) h39 fun a40 h41 =>
 vbin .add (f21 13) (.int .i64 1) fun a42 =>
 aG [a9,a16,a18] [a9,a16,a18]/\∃m,m<n20/\I19 m [a42] h41) (
 aG [a9] [a9]/\J11 [] h22)
def xL (a0:D) (h0:Heap) (K:HKq):Prop :=
 aa PP (.box (.c a0)) h0 fun a2 h3 =>
 aa PP (.fadd (.c a2) 7) h3 fun a4 h5 =>
 aa PP (.ld (.c a4) 1 false) h5 fun a6 h7 =>
 aS a6 h7 fun a8 =>
 aa PP (.mk 1 24 .nil (.c a8) (.c a8)) h7 fun a9 h10 =>
 ∃(J11:HJq),(∀(f12:Nat->D) (h13:Heap),J11 [] h13 ->
 K a9 h13) /\
 aa PP (.fadd (.c a2) 7) h10 fun a14 h15 =>
 aa PP (.ld (.c a14) 1 false) h15 fun a16 h17 =>
 aS a16 h17 fun a18 =>
 rX h17 a18 a16 a9 J11
theorem zD (a0:D) (h0:Heap) (K:HKq):xL a0 h0 K=ku sr K [a0] h0:=by kernel_rfl
end Go.Am
namespace Go.Am
open Go Go.Proofs
def pw:TL
 | 1000012=>some ([3],[])|3=>some ([0,3,17,18],[19])|1000011=>some ([0,3,17,18,19],[])|6=>some ([0,3,5,17,18,19,29,30],[31])|_=>none
def qR:TT
 | _=>none
def gK:aJ:=⟨48,
 .seq (.reg [⟨(some 2),.mov (.c .nil),none⟩]) <|
 .seq (.reg [⟨(some 8),.mov (.t 0),none⟩,
  ⟨(some 9),.fadd (.t 8) 0,none⟩,
  ⟨(some 10),.fadd (.t 9) 0,none⟩,
  ⟨(some 11),.ld (.t 10) 1 false,none⟩,
  ⟨(some 12),.len (.t 11),none⟩,
  ⟨(some 13),.mk 1 24 .nil (.t 12) (.t 12),none⟩,
  ⟨(some 3),.mov (.t 13),none⟩]) <|
 .seqj [3] [] (.seq (.reg [⟨(some 14),.mov (.t 0),none⟩,
  ⟨(some 15),.fadd (.t 14) 0,none⟩,
  ⟨(some 16),.fadd (.t 15) 1,none⟩,
  ⟨(some 17),.ld (.t 16) 1 false,none⟩,
  ⟨(some 18),.len (.t 17),none⟩,
  ⟨(some 19),.mov (.c (.int .i64 0)),none⟩]) <|
 .block 0 (.loop [0,3,17,18] [19] (.seq (.reg [⟨(some 20),.bin .lss (.t 19) (.t 18),none⟩]) <|
 .seq (.cond (.t 20) (.skip) (.exit 0)) <|
 .seqj [0,3,17,18,19] [] (.block 1 (.seq (.reg [⟨(some 21),.iadd (.t 17) (.t 19) 1,none⟩,
  ⟨(some 22),.ld (.t 21) 1 false,none⟩,
  ⟨(some 5),.mov (.t 22),none⟩]) <|
 .seq (.reg [⟨(some 23),.mov (.t 0),none⟩,
  ⟨(some 24),.fadd (.t 23) 0,none⟩,
  ⟨(some 25),.fadd (.t 24) 0,none⟩,
  ⟨(some 26),.ld (.t 25) 1 false,none⟩,
  ⟨(some 27),.mov (.t 5),none⟩,
  ⟨(some 28),.iadd (.t 26) (.t 27) 1,none⟩,
  ⟨(some 29),.ld (.t 28) 1 false,none⟩,
  ⟨(some 30),.len (.t 29),none⟩,
  ⟨(some 31),.mov (.c (.int .i64 0)),none⟩]) <|
 .block 2 (.loop [0,3,5,17,18,19,29,30] [31] (.seq (.reg [⟨(some 32),.bin .lss (.t 31) (.t 30),none⟩]) <|
 .seq (.cond (.t 32) (.skip) (.exit 2)) <|
 .seq (.block 3 (.seq (.reg [⟨(some 33),.iadd (.t 29) (.t 31) 1,none⟩,
  ⟨(some 34),.ld (.t 33) 1 false,none⟩,
  ⟨(some 7),.mov (.t 34),none⟩]) <|
 .reg [⟨(some 35),.mov (.t 3),none⟩,
  ⟨(some 36),.mov (.t 7),none⟩,
  ⟨(some 37),.mov (.t 3),none⟩,
  ⟨(some 38),.mov (.t 7),none⟩,
  ⟨(some 39),.iadd (.t 37) (.t 38) 1,none⟩,
  ⟨(some 40),.ld (.t 39) 1 false,none⟩,
  ⟨(some 41),.mov (.t 5),none⟩,
  ⟨(some 42),.bldS true 1 1 (.int .i64 0) [(0,(.t 41))],none⟩,
  ⟨(some 43),.app (.t 40) (.t 42) 1 8 (.int .i64 0),none⟩,
  ⟨(some 44),.iadd (.t 35) (.t 36) 1,none⟩,
  ⟨none,.st (.t 44) (.t 43) 1,none⟩])) <|
 .reg [⟨(some 45),.bin .add (.t 31) (.c (.int .i64 1)),none⟩,
  ⟨(some 31),.mov (.t 45),none⟩])))) <|
 .reg [⟨(some 46),.bin .add (.t 19) (.c (.int .i64 1)),none⟩,
  ⟨(some 19),.mov (.t 46),none⟩]))) <|
 .seq (.reg [⟨(some 47),.mov (.t 3),none⟩,
  ⟨(some 2),.mov (.t 47),none⟩]) <|
 .ret,
 [.t 2]⟩
theorem jn:cFn PP true b6 pw (cDr PP 48 qR)=some gK:=by kernel_rfl
def jj (h43:Heap) (a44:D) (a42:D) (a9:D) (a32:D) (a0:D) (a18:D) (a20:D) (f23:Nat->D) (J26:HJq):Prop :=
 ∃(I45:Nat->HJq) (n₀:Nat),I45 n₀ [(.int .i64 0)] h43/\∀(n46:Nat) (f47:Nat->D) (h48:Heap),I45 n46 [f47 31] h48 ->
 vbin .lss (f47 31) a44 fun a49 =>
 vcond a49 (aa PP (.iadd (.c a42) (.c (f47 31)) 1) h48 fun a50 h51 =>
 aa PP (.ld (.c a50) 1 false) h51 fun a52 h53 =>
 aa PP (.iadd (.c a9) (.c a52) 1) h53 fun a54 h55 =>
 aa PP (.ld (.c a54) 1 false) h55 fun a56 h57 =>
 aa PP (.bldS true 1 1 (.int .i64 0) [(0,(.c a32))]) h57 fun a58 h59 =>
 aa PP (.app (.c a56) (.c a58) 1 8 (.int .i64 0)) h59 fun a60 h61 =>
 aa PP (.iadd (.c a9) (.c a52) 1) h61 fun a62 h63 =>
 aa PP (.st (.c a62) (.c a60) 1) h63 fun a64 h65 =>
 vbin .add (f47 31) (.int .i64 1) fun a66 =>
 aG [a0,a9,a32,a18,a20,(f23 19),a42,a44] [a0,a9,a32,a18,a20,(f23 19),a42,a44]/\∃m,m<n46/\I45 m [a66] h65) (
 aG [a0,a9,a18,a20,(f23 19)] [a0,a9,a18,a20,(f23 19)]/\J26 [] h48)
def ji (h19:Heap) (a20:D) (a0:D) (a9:D) (a18:D) (J11:HJq):Prop :=
 ∃(I21:Nat->HJq) (n₀:Nat),I21 n₀ [(.int .i64 0)] h19/\∀(n22:Nat) (f23:Nat->D) (h24:Heap),I21 n22 [f23 19] h24 ->
 vbin .lss (f23 19) a20 fun a25 =>
 vcond a25 (∃(J26:HJq),(∀(f27:Nat->D) (h28:Heap),J26 [] h28 ->
 vbin .add (f23 19) (.int .i64 1) fun a29 =>
 aG [a0,a9,a18,a20] [a0,a9,a18,a20]/\∃m,m<n22/\I21 m [a29] h28) /\
 aa PP (.iadd (.c a18) (.c (f23 19)) 1) h24 fun a30 h31 =>
 aa PP (.ld (.c a30) 1 false) h31 fun a32 h33 =>
 aa PP (.fadd (.c a0) 0) h33 fun a34 h35 =>
 aa PP (.fadd (.c a34) 0) h35 fun a36 h37 =>
 aa PP (.ld (.c a36) 1 false) h37 fun a38 h39 =>
 aa PP (.iadd (.c a38) (.c a32) 1) h39 fun a40 h41 =>
 aa PP (.ld (.c a40) 1 false) h41 fun a42 h43 =>
 aS a42 h43 fun a44 =>
 jj h43 a44 a42 a9 a32 a0 a18 a20 f23 J26) (
 aG [a9] [a9]/\J11 [] h24)
def mg (a0:D) (h0:Heap) (K:HKq):Prop :=
 aa PP (.fadd (.c a0) 0) h0 fun a2 h3 =>
 aa PP (.fadd (.c a2) 0) h3 fun a4 h5 =>
 aa PP (.ld (.c a4) 1 false) h5 fun a6 h7 =>
 aS a6 h7 fun a8 =>
 aa PP (.mk 1 24 .nil (.c a8) (.c a8)) h7 fun a9 h10 =>
 ∃(J11:HJq),(∀(f12:Nat->D) (h13:Heap),J11 [] h13 ->
 K a9 h13) /\
 aa PP (.fadd (.c a0) 0) h10 fun a14 h15 =>
 aa PP (.fadd (.c a14) 1) h15 fun a16 h17 =>
 aa PP (.ld (.c a16) 1 false) h17 fun a18 h19 =>
 aS a18 h19 fun a20 =>
 ji h19 a20 a0 a9 a18 J11
theorem qD (a0:D) (h0:Heap) (K:HKq):mg a0 h0 K=ku gK K [a0] h0:=by kernel_rfl
def kz:TL
 | 1000004=>some ([0,1],[])|1000007=>some ([0,6],[])|1000011=>some ([7],[])|8=>some ([7],[8])|_=>none
def lN:TT
 | 9=>some ([0,0,0,6,0,0,48,126,255,511],[7,8,9],[])|_=>none
def dB:aJ:=⟨48,
 .seq (.reg [⟨(some 4),.mov (.c .nil),none⟩]) <|
 .seqj [0,1] [] (.seq (.reg [⟨(some 9),.mov (.t 1),none⟩,
  ⟨(some 10),.bin .lss (.t 9) (.c (.int .i64 0)),none⟩]) <|
 .cond (.t 10) (.reg [⟨(some 11),.dead,none⟩,
  ⟨none,.dead,none⟩]) (.skip)) <|
 .seq (.reg [⟨(some 13),.mov (.t 0),none⟩,
  ⟨(some 14),.len (.t 13),none⟩,
  ⟨(some 15),.conv .u64 (.t 14),none⟩,
  ⟨(some 16),.mov (.t 1),none⟩,
  ⟨(some 17),.conv .u64 (.t 16),none⟩,
  ⟨(some 18),.call gp [(.t 15),(.t 17)],none⟩,
  ⟨(some 12),.mov (.t 18),none⟩,
  ⟨(some 19),.ext (.t 12) 0,none⟩,
  ⟨(some 20),.ext (.t 12) 1,none⟩,
  ⟨(some 5),.mov (.t 19),none⟩,
  ⟨(some 6),.mov (.t 20),none⟩]) <|
 .seqj [0,6] [] (.seq (.reg [⟨(some 21),.mov (.t 5),none⟩,
  ⟨(some 22),.bin .gtr (.t 21) (.c (.int .u64 0)),none⟩,
  ⟨(some 23),.mov (.t 22),none⟩,
  ⟨(some 24),.mov (.t 6),some (23,false)⟩,
  ⟨(some 25),.bin .gtr (.t 24) (.c (.int .u64 9223372036854775807)),some (23,false)⟩,
  ⟨(some 26),.pick (.t 23) (.c (.bool true)) (.t 25),none⟩]) <|
 .cond (.t 26) (.reg [⟨(some 27),.dead,none⟩,
  ⟨none,.dead,none⟩]) (.skip)) <|
 .seq (.reg [⟨(some 28),.mov (.t 6),none⟩,
  ⟨(some 29),.conv .i64 (.t 28),none⟩,
  ⟨(some 30),.mk 1 8 (.int .i64 0) (.t 29) (.t 29),none⟩,
  ⟨(some 7),.mov (.t 30),none⟩]) <|
 .seq (.reg [⟨(some 31),.mov (.t 7),none⟩,
  ⟨(some 32),.mov (.t 0),none⟩,
  ⟨(some 33),.oo (.t 31) (.t 32) 1,none⟩,
  ⟨(some 8),.mov (.t 33),none⟩]) <|
 .seqj [7] [] (.block 0 (.loop [7] [8] (.seq (.seq (.reg [⟨(some 34),.mov (.t 8),none⟩,
  ⟨(some 35),.mov (.t 7),none⟩,
  ⟨(some 36),.len (.t 35),none⟩,
  ⟨(some 37),.bin .lss (.t 34) (.t 36),none⟩]) <|
 .cond (.t 37) (.skip) (.exit 0)) <|
 .block 1 (.dreg [⟨(some 38),.mov (.t 8),none⟩,
  ⟨(some 39),.mov (.t 7),none⟩,
  ⟨(some 40),.mov (.t 8),none⟩,
  ⟨(some 41),.o8 (.t 39) (some (.t 40)) none none 1,none⟩,
  ⟨(some 42),.mov (.t 7),none⟩,
  ⟨(some 43),.mov (.t 8),none⟩,
  ⟨(some 44),.o8 (.t 42) none (some (.t 43)) none 1,none⟩] [⟨(some 45),.oo (.t 41) (.t 44) 1,none⟩,
  ⟨(some 46),.bin .add (.t 38) (.t 45),none⟩,
  ⟨(some 8),.mov (.t 46),none⟩] [])))) <|
 .seq (.reg [⟨(some 47),.mov (.t 7),none⟩,
  ⟨(some 4),.mov (.t 47),none⟩]) <|
 .ret,
 [.t 4]⟩
theorem fh:cFn PP true bn kz (cDr PP 48 lN)=some dB:=by kernel_rfl
def ff (a24:D) (h25:Heap) (a22:D) (J26:HJq):Prop :=
 ∃(I29:Nat->HJq) (n₀:Nat),I29 n₀ [a24] h25/\∀(n30:Nat) (f31:Nat->D) (h32:Heap),I29 n30 [f31 8] h32 ->
 aS a22 h32 fun a33 =>
 vbin .lss (f31 8) a33 fun a34 =>
 vcond a34 (ab PP (.o8 (.c a22) (some (.c (f31 8))) none none 1) h32 fun a35 =>
 ab PP (.o8 (.c a22) none (some (.c (f31 8))) none 1) h32 fun a36 =>
 aa PP (.oo (.c a35) (.c a36) 1) h32 fun a37 h38 =>
 vbin .add (f31 8) a37 fun a39 =>
 aG [a22] [a22]/\∃m,m<n30/\I29 m [a39] h38) (
 aG [a22] [a22]/\J26 [] h32)
def gh (a0:D) (a1:D) (h0:Heap) (K:HKq):Prop :=
 ∃(J3:HJq),(∀(f4:Nat->D) (h5:Heap),J3 [] h5 ->
 aS a0 h5 fun a6 =>
 aa PP (.conv .u64 (.c a6)) h5 fun a7 h8 =>
 aa PP (.conv .u64 (.c a1)) h8 fun a9 h10 =>
 af PP gp [a7,a9] h10 fun a11 h12 =>
 aa PP (.ext (.c a11) 0) h12 fun a13 h14 =>
 aa PP (.ext (.c a11) 1) h14 fun a15 h16 =>
 ∃(J17:HJq),(∀(f18:Nat->D) (h19:Heap),J17 [] h19 ->
 aa PP (.conv .i64 (.c a15)) h19 fun a20 h21 =>
 aa PP (.mk 1 8 (.int .i64 0) (.c a20) (.c a20)) h21 fun a22 h23 =>
 aa PP (.oo (.c a22) (.c a0) 1) h23 fun a24 h25 =>
 ∃(J26:HJq),(∀(f27:Nat->D) (h28:Heap),J26 [] h28 ->
 K a22 h28) /\
 ff a24 h25 a22 J26) /\
 vbin .gtr a13 (.int .u64 0) fun a40 =>
 vguard a40 false (fun G41 =>
 G41 a15 h16) h16 fun a42 h43 =>
 vguard a40 false (fun G44 =>
 vbin .gtr a42 (.int .u64 9223372036854775807) fun a47 =>
 G44 a47 h43) h43 fun a45 h46 =>
 aa PP (.pick (.c a40) (.c (.bool true)) (.c a45)) h46 fun a48 h49 =>
 vcond a48 (aa PP (.dead) h49 fun a50 h51 =>
 aa PP (.dead) h51 fun a52 h53 =>
 aG [a0,a15] [a0,a15]/\J17 [] h53) (
 aG [a0,a15] [a0,a15]/\J17 [] h49)) /\
 vbin .lss a1 (.int .i64 0) fun a54 =>
 vcond a54 (aa PP (.dead) h0 fun a55 h56 =>
 aa PP (.dead) h56 fun a57 h58 =>
 aG [a0,a1] [a0,a1]/\J3 [] h58) (
 aG [a0,a1] [a0,a1]/\J3 [] h0)
theorem lB (a0:D) (a1:D) (h0:Heap) (K:HKq):gh a0 a1 h0 K=ku dB K [a0,a1] h0:=by kernel_rfl
def rb:TL
 | 1000006=>some ([],[2])|1=>some ([0,1],[2,3])|_=>none
def tW:TT
 | 2=>some ([0,1,3,7,0,31,63,0,128,384,896,0,3968,8064,16383],[],[])|_=>none
def jG:aJ:=⟨36,
 .seq (.reg [⟨(some 8),.mov (.c (.int .i64 0)),none⟩]) <|
 .seqj [] [2] (.block 0 (.loop [0,1] [2,3] (.seq (.seq (.reg [⟨(some 9),.mov (.t 2),none⟩,
  ⟨(some 10),.mov (.t 3),none⟩,
  ⟨(some 11),.bin .neq (.t 9) (.t 10),none⟩]) <|
 .cond (.t 11) (.skip) (.exit 0)) <|
 .block 1 (.seq (.dreg [⟨(some 12),.mov (.t 0),none⟩,
  ⟨(some 13),.fadd (.t 12) 0,none⟩,
  ⟨(some 14),.fadd (.t 13) 2,none⟩,
  ⟨(some 15),.ld (.t 14) 1 false,none⟩,
  ⟨(some 16),.mov (.t 2),none⟩,
  ⟨(some 17),.iadd (.t 15) (.t 16) 1,none⟩,
  ⟨(some 18),.ld (.t 17) 1 false,none⟩,
  ⟨(some 19),.mov (.t 0),none⟩,
  ⟨(some 20),.fadd (.t 19) 0,none⟩,
  ⟨(some 21),.fadd (.t 20) 2,none⟩,
  ⟨(some 22),.ld (.t 21) 1 false,none⟩,
  ⟨(some 23),.mov (.t 3),none⟩,
  ⟨(some 24),.iadd (.t 22) (.t 23) 1,none⟩,
  ⟨(some 25),.ld (.t 24) 1 false,none⟩,
  ⟨(some 26),.bin .gtr (.t 18) (.t 25),none⟩] [] []) <|
 .cond (.t 26) (.reg [⟨(some 27),.mov (.t 1),none⟩,
  ⟨(some 28),.mov (.t 2),none⟩,
  ⟨(some 29),.iadd (.t 27) (.t 28) 1,none⟩,
  ⟨(some 30),.ld (.t 29) 1 false,none⟩,
  ⟨(some 2),.mov (.t 30),none⟩]) (.reg [⟨(some 31),.mov (.t 1),none⟩,
  ⟨(some 32),.mov (.t 3),none⟩,
  ⟨(some 33),.iadd (.t 31) (.t 32) 1,none⟩,
  ⟨(some 34),.ld (.t 33) 1 false,none⟩,
  ⟨(some 3),.mov (.t 34),none⟩]))))) <|
 .seq (.reg [⟨(some 35),.mov (.t 2),none⟩,
  ⟨(some 8),.mov (.t 35),none⟩]) <|
 .ret,
 [.t 8]⟩
theorem kY:cFn PP true cC rb (cDr PP 36 tW)=some jG:=by kernel_rfl
def kQ (a2:D) (a3:D) (h0:Heap) (a0:D) (a1:D) (J5:HJq):Prop :=
 ∃(I8:Nat->HJq) (n₀:Nat),I8 n₀ [a2,a3] h0/\∀(n9:Nat) (f10:Nat->D) (h11:Heap),I8 n9 [f10 2,f10 3] h11 ->
 vbin .neq (f10 2) (f10 3) fun a12 =>
 vcond a12 (ab PP (.fadd (.c a0) 0) h11 fun a13 =>
 ab PP (.fadd (.c a13) 2) h11 fun a14 =>
 ab PP (.ld (.c a14) 1 false) h11 fun a15 =>
 ab PP (.iadd (.c a15) (.c (f10 2)) 1) h11 fun a16 =>
 ab PP (.ld (.c a16) 1 false) h11 fun a17 =>
 ab PP (.fadd (.c a0) 0) h11 fun a18 =>
 ab PP (.fadd (.c a18) 2) h11 fun a19 =>
 ab PP (.ld (.c a19) 1 false) h11 fun a20 =>
 ab PP (.iadd (.c a20) (.c (f10 3)) 1) h11 fun a21 =>
 ab PP (.ld (.c a21) 1 false) h11 fun a22 =>
 vbin .gtr a17 a22 fun a23 =>
 vcond a23 (aa PP (.iadd (.c a1) (.c (f10 2)) 1) h11 fun a24 h25 =>
 aa PP (.ld (.c a24) 1 false) h25 fun a26 h27 =>
 aG [a0,a1] [a0,a1]/\∃m,m<n9/\I8 m [a26,(f10 3)] h27) (
 aa PP (.iadd (.c a1) (.c (f10 3)) 1) h11 fun a28 h29 =>
 aa PP (.ld (.c a28) 1 false) h29 fun a30 h31 =>
 aG [a0,a1] [a0,a1]/\∃m,m<n9/\I8 m [(f10 2),a30] h31)) (
 aG [] []/\J5 [(f10 2)] h11)
def oU (a0:D) (a1:D) (a2:D) (a3:D) (h0:Heap) (K:HKq):Prop :=
 ∃(J5:HJq),(∀(f6:Nat->D) (h7:Heap),J5 [f6 2] h7 ->
 K (f6 2) h7) /\
 kQ a2 a3 h0 a0 a1 J5
theorem tk (a0:D) (a1:D) (a2:D) (a3:D) (h0:Heap) (K:HKq):oU a0 a1 a2 a3 h0 K=ku jG K [a0,a1,a2,a3] h0:=by kernel_rfl
def um:TL
 | 0=>some ([0,1,2],[])|_=>none
def wT:TT
 | 0=>some ([0,0,3,7,15,15,63,127,15,511,1023],[2],[999999])|_=>none
def mF:aJ:=⟨19,
 .block 0 (.loop [0,1,2] [] (.seq (.seq (.seq (.dreg [⟨(some 4),.mov (.t 0),none⟩,
  ⟨(some 5),.ld (.t 1) 1 false,none⟩] [⟨(some 6),.callv (.t 4) [(.t 5)],none⟩] []) <|
 .dreg [⟨(some 7),.mov (.t 6),none⟩,
  ⟨(some 8),.ld (.t 2) 1 false,some (7,true)⟩,
  ⟨(some 9),.ld (.t 1) 1 false,some (7,true)⟩,
  ⟨(some 10),.iadd (.t 8) (.t 9) 1,some (7,true)⟩,
  ⟨(some 11),.ld (.t 10) 1 false,some (7,true)⟩,
  ⟨(some 12),.ld (.t 1) 1 false,some (7,true)⟩,
  ⟨(some 13),.bin .neq (.t 11) (.t 12),some (7,true)⟩,
  ⟨(some 14),.pick (.t 7) (.t 13) (.c (.bool false)),none⟩] [] []) <|
 .cond (.t 14) (.skip) (.exit 0)) <|
 .block 1 (.reg [⟨(some 15),.ld (.t 2) 1 false,none⟩,
  ⟨(some 16),.ld (.t 1) 1 false,none⟩,
  ⟨(some 17),.iadd (.t 15) (.t 16) 1,none⟩,
  ⟨(some 18),.ld (.t 17) 1 false,none⟩,
  ⟨none,.st (.t 1) (.t 18) 1,none⟩]))),
 []⟩
theorem nI:cFn PP true fq um (cDr PP 19 wT)=some mF:=by kernel_rfl
def m7 (h0:Heap) (a1:D) (a0:D) (a2:D) (K:HKq):Prop :=
 ∃(I4:Nat->HJq) (n₀:Nat),I4 n₀ [] h0/\∀(n5:Nat) (f6:Nat->D) (h7:Heap),I4 n5 [] h7 ->
 ab PP (.ld (.c a1) 1 false) h7 fun a8 =>
 aa PP (.callv (.c a0) [(.c a8)]) h7 fun a9 h10 =>
 aA a9 true (fun G11 =>
 ab PP (.ld (.c a2) 1 false) h10 fun a51 =>
 G11 a51) fun a12 =>
 aA a9 true (fun G15 =>
 ab PP (.ld (.c a1) 1 false) h10 fun a50 =>
 G15 a50) fun a16 =>
 aA a9 true (fun G19 =>
 ab PP (.iadd (.c a12) (.c a16) 1) h10 fun a49 =>
 G19 a49) fun a20 =>
 aA a9 true (fun G23 =>
 ab PP (.ld (.c a20) 1 false) h10 fun a48 =>
 G23 a48) fun a24 =>
 aA a9 true (fun G27 =>
 ab PP (.ld (.c a1) 1 false) h10 fun a47 =>
 G27 a47) fun a28 =>
 aA a9 true (fun G31 =>
 vbin .neq a24 a28 fun a46 =>
 G31 a46) fun a32 =>
 ab PP (.pick (.c a9) (.c a32) (.c (.bool false))) h10 fun a35 =>
 vcond a35 (aa PP (.ld (.c a2) 1 false) h10 fun a36 h37 =>
 aa PP (.ld (.c a1) 1 false) h37 fun a38 h39 =>
 aa PP (.iadd (.c a36) (.c a38) 1) h39 fun a40 h41 =>
 aa PP (.ld (.c a40) 1 false) h41 fun a42 h43 =>
 aa PP (.st (.c a1) (.c a42) 1) h43 fun a44 h45 =>
 aG [a0,a1,a2] [a0,a1,a2]/\∃m,m<n5/\I4 m [] h45) (
 K (.tup []) h10)
def rY (a0:D) (a1:D) (a2:D) (h0:Heap) (K:HKq):Prop :=
 m7 h0 a1 a0 a2 K
theorem wv (a0:D) (a1:D) (a2:D) (h0:Heap) (K:HKq):rY a0 a1 a2 h0 K=ku mF K [a0,a1,a2] h0:=by kernel_rfl
def jf:TL
 | 2=>some ([0],[1,2,3,8,9])|1000011=>some ([0,1,2,8,9,10],[3])|1000016=>some ([0,1,2,3,8,9,10],[11,12])|1000018=>some ([0,1,2,3,8,9,10,11],[])|_=>none
def jO:TT
 | 17=>some ([0,1,3,7,7,23,63,127,7,7,775,1799,4095,8191,16383],[],[])|_=>none
def fg:aJ:=⟨134,
 .seq (.reg [⟨(some 8),.mov (.c (.bool true)),none⟩]) <|
 .seq (.reg [⟨(some 9),.mov (.c (.bool true)),none⟩]) <|
 .block 0 (.loop [0] [1,2,3,8,9] (.block 1 (.seq (.reg [⟨(some 19),.mov (.t 2),none⟩,
  ⟨(some 20),.mov (.t 1),none⟩,
  ⟨(some 21),.bin .sub (.t 19) (.t 20),none⟩,
  ⟨(some 10),.mov (.t 21),none⟩]) <|
 .seq (.seq (.reg [⟨(some 22),.mov (.t 10),none⟩,
  ⟨(some 23),.bin .leq (.t 22) (.c (.int .i64 12)),none⟩]) <|
 .cond (.t 23) (.seq (.reg [⟨(some 24),.mov (.t 0),none⟩,
  ⟨(some 25),.mov (.t 1),none⟩,
  ⟨(some 26),.mov (.t 2),none⟩,
  ⟨(some 27),.call cU [(.t 24),(.t 25),(.t 26)],none⟩]) <|
 .ret) (.skip)) <|
 .seq (.seq (.reg [⟨(some 28),.mov (.t 3),none⟩,
  ⟨(some 29),.bin .eql (.t 28) (.c (.int .i64 0)),none⟩]) <|
 .cond (.t 29) (.seq (.reg [⟨(some 30),.mov (.t 0),none⟩,
  ⟨(some 31),.mov (.t 1),none⟩,
  ⟨(some 32),.mov (.t 2),none⟩,
  ⟨(some 33),.call ky [(.t 30),(.t 31),(.t 32)],none⟩]) <|
 .ret) (.skip)) <|
 .seqj [0,1,2,8,9,10] [3] (.seq (.reg [⟨(some 34),.mov (.t 8),none⟩,
  ⟨(some 35),.un .not (.t 34),none⟩]) <|
 .cond (.t 35) (.seq (.reg [⟨(some 36),.mov (.t 0),none⟩,
  ⟨(some 37),.mov (.t 1),none⟩,
  ⟨(some 38),.mov (.t 2),none⟩,
  ⟨(some 39),.call ic [(.t 36),(.t 37),(.t 38)],none⟩]) <|
 .reg [⟨(some 40),.mov (.t 3),none⟩,
  ⟨(some 41),.bin .sub (.t 40) (.c (.int .i64 1)),none⟩,
  ⟨(some 3),.mov (.t 41),none⟩]) (.skip)) <|
 .seq (.reg [⟨(some 43),.mov (.t 0),none⟩,
  ⟨(some 44),.mov (.t 1),none⟩,
  ⟨(some 45),.mov (.t 2),none⟩,
  ⟨(some 46),.call je [(.t 43),(.t 44),(.t 45)],none⟩,
  ⟨(some 42),.mov (.t 46),none⟩,
  ⟨(some 47),.ext (.t 42) 0,none⟩,
  ⟨(some 48),.ext (.t 42) 1,none⟩,
  ⟨(some 11),.mov (.t 47),none⟩,
  ⟨(some 12),.mov (.t 48),none⟩]) <|
 .seqj [0,1,2,3,8,9,10] [11,12] (.seq (.reg [⟨(some 49),.mov (.t 12),none⟩,
  ⟨(some 50),.bin .eql (.t 49) (.c (.int .i64 2)),none⟩]) <|
 .cond (.t 50) (.seq (.reg [⟨(some 51),.mov (.t 0),none⟩,
  ⟨(some 52),.mov (.t 1),none⟩,
  ⟨(some 53),.mov (.t 2),none⟩,
  ⟨(some 54),.call iD [(.t 51),(.t 52),(.t 53)],none⟩]) <|
 .seq (.reg [⟨(some 55),.mov (.t 2),none⟩,
  ⟨(some 56),.bin .sub (.t 55) (.c (.int .i64 1)),none⟩,
  ⟨(some 57),.mov (.t 11),none⟩,
  ⟨(some 58),.mov (.t 1),none⟩,
  ⟨(some 59),.bin .sub (.t 57) (.t 58),none⟩,
  ⟨(some 60),.bin .sub (.t 56) (.t 59),none⟩,
  ⟨(some 11),.mov (.t 60),none⟩]) <|
 .reg [⟨(some 12),.mov (.c (.int .i64 1)),none⟩]) (.skip)) <|
 .seqj [0,1,2,3,8,9,10,11] [] (.seq (.reg [⟨(some 61),.mov (.t 8),none⟩,
  ⟨(some 62),.mov (.t 61),none⟩,
  ⟨(some 63),.mov (.t 9),some (62,true)⟩,
  ⟨(some 64),.pick (.t 62) (.t 63) (.c (.bool false)),none⟩,
  ⟨(some 65),.mov (.t 64),none⟩,
  ⟨(some 66),.mov (.t 12),some (65,true)⟩,
  ⟨(some 67),.bin .eql (.t 66) (.c (.int .i64 1)),some (65,true)⟩,
  ⟨(some 68),.pick (.t 65) (.t 67) (.c (.bool false)),none⟩]) <|
 .cond (.t 68) (.seq (.reg [⟨(some 69),.mov (.t 0),none⟩,
  ⟨(some 70),.mov (.t 1),none⟩,
  ⟨(some 71),.mov (.t 2),none⟩,
  ⟨(some 72),.call eS [(.t 69),(.t 70),(.t 71)],none⟩]) <|
 .cond (.t 72) (.ret) (.skip)) (.skip)) <|
 .seq (.seq (.dreg [⟨(some 73),.mov (.t 1),none⟩,
  ⟨(some 74),.bin .gtr (.t 73) (.c (.int .i64 0)),none⟩,
  ⟨(some 75),.mov (.t 74),none⟩,
  ⟨(some 76),.mov (.t 0),some (75,true)⟩,
  ⟨(some 77),.mov (.t 1),some (75,true)⟩,
  ⟨(some 78),.bin .sub (.t 77) (.c (.int .i64 1)),some (75,true)⟩,
  ⟨(some 79),.iadd (.t 76) (.t 78) 1,some (75,true)⟩,
  ⟨(some 80),.ld (.t 79) 1 false,some (75,true)⟩,
  ⟨(some 81),.mov (.t 0),some (75,true)⟩,
  ⟨(some 82),.mov (.t 11),some (75,true)⟩,
  ⟨(some 83),.iadd (.t 81) (.t 82) 1,some (75,true)⟩,
  ⟨(some 84),.ld (.t 83) 1 false,some (75,true)⟩,
  ⟨(some 85),.call qY [(.t 80),(.t 84)],some (75,true)⟩,
  ⟨(some 86),.un .not (.t 85),some (75,true)⟩,
  ⟨(some 87),.pick (.t 75) (.t 86) (.c (.bool false)),none⟩] [] []) <|
 .cond (.t 87) (.seq (.reg [⟨(some 88),.mov (.t 0),none⟩,
  ⟨(some 89),.mov (.t 1),none⟩,
  ⟨(some 90),.mov (.t 2),none⟩,
  ⟨(some 91),.mov (.t 11),none⟩,
  ⟨(some 92),.call gC [(.t 88),(.t 89),(.t 90),(.t 91)],none⟩,
  ⟨(some 13),.mov (.t 92),none⟩]) <|
 .seq (.reg [⟨(some 93),.mov (.t 13),none⟩,
  ⟨(some 1),.mov (.t 93),none⟩]) <|
 .exit 1) (.skip)) <|
 .seq (.reg [⟨(some 95),.mov (.t 0),none⟩,
  ⟨(some 96),.mov (.t 1),none⟩,
  ⟨(some 97),.mov (.t 2),none⟩,
  ⟨(some 98),.mov (.t 11),none⟩,
  ⟨(some 99),.call jP [(.t 95),(.t 96),(.t 97),(.t 98)],none⟩,
  ⟨(some 94),.mov (.t 99),none⟩,
  ⟨(some 100),.ext (.t 94) 0,none⟩,
  ⟨(some 101),.ext (.t 94) 1,none⟩,
  ⟨(some 14),.mov (.t 100),none⟩,
  ⟨(some 15),.mov (.t 101),none⟩]) <|
 .seq (.reg [⟨(some 102),.mov (.t 15),none⟩,
  ⟨(some 9),.mov (.t 102),none⟩]) <|
 .seq (.reg [⟨(some 103),.mov (.t 14),none⟩,
  ⟨(some 104),.mov (.t 1),none⟩,
  ⟨(some 105),.bin .sub (.t 103) (.t 104),none⟩,
  ⟨(some 106),.mov (.t 2),none⟩,
  ⟨(some 107),.mov (.t 14),none⟩,
  ⟨(some 108),.bin .sub (.t 106) (.t 107),none⟩,
  ⟨(some 16),.mov (.t 105),none⟩,
  ⟨(some 17),.mov (.t 108),none⟩]) <|
 .seq (.reg [⟨(some 109),.mov (.t 10),none⟩,
  ⟨(some 110),.bin .quo (.t 109) (.c (.int .i64 8)),none⟩,
  ⟨(some 18),.mov (.t 110),none⟩]) <|
 .seq (.reg [⟨(some 111),.mov (.t 16),none⟩,
  ⟨(some 112),.mov (.t 17),none⟩,
  ⟨(some 113),.bin .lss (.t 111) (.t 112),none⟩]) <|
 .cond (.t 113) (.seq (.reg [⟨(some 114),.mov (.t 16),none⟩,
  ⟨(some 115),.mov (.t 18),none⟩,
  ⟨(some 116),.bin .geq (.t 114) (.t 115),none⟩,
  ⟨(some 8),.mov (.t 116),none⟩]) <|
 .seq (.reg [⟨(some 117),.mov (.t 0),none⟩,
  ⟨(some 118),.mov (.t 1),none⟩,
  ⟨(some 119),.mov (.t 14),none⟩,
  ⟨(some 120),.mov (.t 3),none⟩,
  ⟨(some 121),.call bN [(.t 117),(.t 118),(.t 119),(.t 120)],none⟩]) <|
 .reg [⟨(some 122),.mov (.t 14),none⟩,
  ⟨(some 123),.bin .add (.t 122) (.c (.int .i64 1)),none⟩,
  ⟨(some 1),.mov (.t 123),none⟩]) (.seq (.reg [⟨(some 124),.mov (.t 17),none⟩,
  ⟨(some 125),.mov (.t 18),none⟩,
  ⟨(some 126),.bin .geq (.t 124) (.t 125),none⟩,
  ⟨(some 8),.mov (.t 126),none⟩]) <|
 .seq (.reg [⟨(some 127),.mov (.t 0),none⟩,
  ⟨(some 128),.mov (.t 14),none⟩,
  ⟨(some 129),.bin .add (.t 128) (.c (.int .i64 1)),none⟩,
  ⟨(some 130),.mov (.t 2),none⟩,
  ⟨(some 131),.mov (.t 3),none⟩,
  ⟨(some 132),.call bN [(.t 127),(.t 129),(.t 130),(.t 131)],none⟩]) <|
 .reg [⟨(some 133),.mov (.t 14),none⟩,
  ⟨(some 2),.mov (.t 133),none⟩])))),
 []⟩
theorem jF:cFn PP true bN jf (cDr PP 134 jO)=some fg:=by kernel_rfl
def te:TL
 | _=>none
def uX:TT
 | _=>none
def qf:aJ:=⟨8,
 .seq (.reg [⟨(some 2),.mov (.c (.int .i64 0)),none⟩]) <|
 .seq (.cond (.c (.bool false)) (.seq (.reg [⟨(some 3),.mov (.t 0),none⟩,
  ⟨(some 4),.conv .u32 (.t 3),none⟩,
  ⟨(some 5),.call vv [(.t 4)],none⟩,
  ⟨(some 2),.mov (.t 5),none⟩]) <|
 .ret) (.skip)) <|
 .seq (.reg [⟨(some 6),.mov (.t 0),none⟩,
  ⟨(some 7),.call mP [(.t 6)],none⟩,
  ⟨(some 2),.mov (.t 7),none⟩]) <|
 .ret,
 [.t 2]⟩
theorem uG:cFn PP true pX te (cDr PP 8 uX)=some qf:=by kernel_rfl
def ll:TL
 | 1000008=>some ([],[])|2=>some ([0,1,7],[8])|_=>none
def mH:TT
 | _=>none
def dT:aJ:=⟨19,
 .seq (.reg [⟨(some 4),.mov (.c (.int .i64 0)),none⟩]) <|
 .seqj [] [] (.seq (.reg [⟨(some 6),.mov (.t 0),none⟩,
  ⟨(some 7),.len (.t 6),none⟩,
  ⟨(some 8),.mov (.c (.int .i64 0)),none⟩]) <|
 .block 0 (.loop [0,1,7] [8] (.seq (.reg [⟨(some 9),.bin .lss (.t 8) (.t 7),none⟩]) <|
 .seq (.cond (.t 9) (.skip) (.exit 0)) <|
 .seq (.block 1 (.seq (.reg [⟨(some 10),.mov (.t 8),none⟩,
  ⟨(some 5),.mov (.t 10),none⟩]) <|
 .seq (.reg [⟨(some 11),.mov (.t 1),none⟩,
  ⟨(some 12),.mov (.t 0),none⟩,
  ⟨(some 13),.mov (.t 5),none⟩,
  ⟨(some 14),.iadd (.t 12) (.t 13) 1,none⟩,
  ⟨(some 15),.ld (.t 14) 1 false,none⟩,
  ⟨(some 16),.bin .eql (.t 11) (.t 15),none⟩]) <|
 .cond (.t 16) (.seq (.reg [⟨(some 17),.mov (.t 5),none⟩,
  ⟨(some 4),.mov (.t 17),none⟩]) <|
 .ret) (.skip))) <|
 .reg [⟨(some 18),.bin .add (.t 8) (.c (.int .i64 1)),none⟩,
  ⟨(some 8),.mov (.t 18),none⟩]))) <|
 .seq (.reg [⟨(some 4),.mov (.c (.int .i64 (-1))),none⟩]) <|
 .ret,
 [.t 4]⟩
theorem fA:cFn PP true cj ll (cDr PP 19 mH)=some dT:=by kernel_rfl
def fx (h0:Heap) (a6:D) (a0:D) (a1:D) (J3:HJq) (K:HKq):Prop :=
 ∃(I7:Nat->HJq) (n₀:Nat),I7 n₀ [(.int .i64 0)] h0/\∀(n8:Nat) (f9:Nat->D) (h10:Heap),I7 n8 [f9 8] h10 ->
 vbin .lss (f9 8) a6 fun a11 =>
 vcond a11 (aa PP (.iadd (.c a0) (.c (f9 8)) 1) h10 fun a12 h13 =>
 aa PP (.ld (.c a12) 1 false) h13 fun a14 h15 =>
 vbin .eql a1 a14 fun a16 =>
 vcond a16 (K (f9 8) h15) (
 vbin .add (f9 8) (.int .i64 1) fun a17 =>
 aG [a0,a1,a6] [a0,a1,a6]/\∃m,m<n8/\I7 m [a17] h15)) (
 aG [] []/\J3 [] h10)
def gY (a0:D) (a1:D) (h0:Heap) (K:HKq):Prop :=
 ∃(J3:HJq),(∀(f4:Nat->D) (h5:Heap),J3 [] h5 ->
 K (.int .i64 (-1)) h5) /\
 aS a0 h0 fun a6 =>
 fx h0 a6 a0 a1 J3 K
theorem l7 (a0:D) (a1:D) (h0:Heap) (K:HKq):gY a0 a1 h0 K=ku dT K [a0,a1] h0:=by kernel_rfl
def qv:TL
 | 1000008=>some ([0,4],[])|2=>some ([0,1,3,4,14,15],[16])|1000007=>some ([0,1,3,4,14,15,16],[])|_=>none
def sX:TT
 | 7=>some ([0,0,2,6,14,0,32,126,255,511,1023],[7,10],[0])|_=>none
def iZ:aJ:=⟨39,
 .seq (.reg [⟨(some 8),.ld (.t 1) 1 false,none⟩,
  ⟨(some 9),.mov (.t 0),none⟩,
  ⟨(some 10),.iadd (.t 8) (.t 9) 1,none⟩,
  ⟨none,.st (.t 10) (.c (.bool true)) 1,none⟩]) <|
 .seqj [0,4] [] (.seq (.reg [⟨(some 11),.ld (.t 2) 1 false,none⟩,
  ⟨(some 12),.mov (.t 0),none⟩,
  ⟨(some 13),.iadd (.t 11) (.t 12) 1,none⟩,
  ⟨(some 14),.ld (.t 13) 1 false,none⟩,
  ⟨(some 15),.len (.t 14),none⟩,
  ⟨(some 16),.mov (.c (.int .i64 0)),none⟩]) <|
 .block 0 (.loop [0,1,3,4,14,15] [16] (.seq (.reg [⟨(some 17),.bin .lss (.t 16) (.t 15),none⟩]) <|
 .seq (.cond (.t 17) (.skip) (.exit 0)) <|
 .seqj [0,1,3,4,14,15,16] [] (.block 1 (.seq (.reg [⟨(some 18),.iadd (.t 14) (.t 16) 1,none⟩,
  ⟨(some 19),.ld (.t 18) 1 false,none⟩,
  ⟨(some 7),.mov (.t 19),none⟩]) <|
 .seq (.reg [⟨(some 20),.ld (.t 1) 1 false,none⟩,
  ⟨(some 21),.mov (.t 7),none⟩,
  ⟨(some 22),.iadd (.t 20) (.t 21) 1,none⟩,
  ⟨(some 23),.ld (.t 22) 1 false,none⟩,
  ⟨(some 24),.un .not (.t 23),none⟩]) <|
 .cond (.t 24) (.reg [⟨(some 25),.ld (.t 3) 1 false,none⟩,
  ⟨(some 26),.mov (.t 7),none⟩,
  ⟨(some 27),.callv (.t 25) [(.t 26)],none⟩]) (.skip))) <|
 .reg [⟨(some 28),.bin .add (.t 16) (.c (.int .i64 1)),none⟩,
  ⟨(some 16),.mov (.t 28),none⟩]))) <|
 .dreg [⟨(some 29),.ld (.t 4) 1 false,none⟩,
  ⟨(some 30),.ld (.t 4) 1 false,none⟩,
  ⟨(some 31),.fadd (.t 30) 0,none⟩,
  ⟨(some 32),.fadd (.t 31) 1,none⟩,
  ⟨(some 33),.ld (.t 32) 1 false,none⟩,
  ⟨(some 34),.mov (.t 0),none⟩,
  ⟨(some 35),.bldS false 1 1 (.int .i64 0) [(0,(.t 34))],none⟩,
  ⟨(some 37),.fadd (.t 29) 0,none⟩,
  ⟨(some 38),.fadd (.t 37) 1,none⟩] [⟨(some 36),.app (.t 33) (.t 35) 1 8 (.int .i64 0),none⟩,
  ⟨none,.st (.t 38) (.t 36) 1,none⟩] [⟨(some 29),.ld (.t 4) 1 false,none⟩],
 []⟩
theorem kn:cFn PP true bF qv (cDr PP 39 sX)=some iZ:=by kernel_rfl
def kd (h34:Heap) (a35:D) (a0:D) (a1:D) (a3:D) (a4:D) (a33:D) (J12:HJq):Prop :=
 ∃(I36:Nat->HJq) (n₀:Nat),I36 n₀ [(.int .i64 0)] h34/\∀(n37:Nat) (f38:Nat->D) (h39:Heap),I36 n37 [f38 16] h39 ->
 vbin .lss (f38 16) a35 fun a40 =>
 vcond a40 (∃(J41:HJq),(∀(f42:Nat->D) (h43:Heap),J41 [] h43 ->
 vbin .add (f38 16) (.int .i64 1) fun a44 =>
 aG [a0,a1,a3,a4,a33,a35] [a0,a1,a3,a4,a33,a35]/\∃m,m<n37/\I36 m [a44] h43) /\
 aa PP (.iadd (.c a33) (.c (f38 16)) 1) h39 fun a45 h46 =>
 aa PP (.ld (.c a45) 1 false) h46 fun a47 h48 =>
 aa PP (.ld (.c a1) 1 false) h48 fun a49 h50 =>
 aa PP (.iadd (.c a49) (.c a47) 1) h50 fun a51 h52 =>
 aa PP (.ld (.c a51) 1 false) h52 fun a53 h54 =>
 vun .not a53 fun a55 =>
 vcond a55 (aa PP (.ld (.c a3) 1 false) h54 fun a56 h57 =>
 aa PP (.callv (.c a56) [(.c a47)]) h57 fun a58 h59 =>
 aG [a0,a1,a3,a4,a33,a35,(f38 16)] [a0,a1,a3,a4,a33,a35,(f38 16)]/\J41 [] h59) (
 aG [a0,a1,a3,a4,a33,a35,(f38 16)] [a0,a1,a3,a4,a33,a35,(f38 16)]/\J41 [] h54)) (
 aG [a0,a4] [a0,a4]/\J12 [] h39)
def m6 (a0:D) (a1:D) (a2:D) (a3:D) (a4:D) (h0:Heap) (K:HKq):Prop :=
 aa PP (.ld (.c a1) 1 false) h0 fun a6 h7 =>
 aa PP (.iadd (.c a6) (.c a0) 1) h7 fun a8 h9 =>
 aa PP (.st (.c a8) (.c (.bool true)) 1) h9 fun a10 h11 =>
 ∃(J12:HJq),(∀(f13:Nat->D) (h14:Heap),J12 [] h14 ->
 ab PP (.ld (.c a4) 1 false) h14 fun a15 =>
 ab PP (.ld (.c a4) 1 false) h14 fun a16 =>
 ab PP (.fadd (.c a16) 0) h14 fun a17 =>
 ab PP (.fadd (.c a17) 1) h14 fun a18 =>
 ab PP (.ld (.c a18) 1 false) h14 fun a19 =>
 ab PP (.bldS false 1 1 (.int .i64 0) [(0,(.c a0))]) h14 fun a20 =>
 ab PP (.fadd (.c a15) 0) h14 fun a21 =>
 ab PP (.fadd (.c a21) 1) h14 fun a22 =>
 aa PP (.app (.c a19) (.c a20) 1 8 (.int .i64 0)) h14 fun a23 h24 =>
 ((ab PP (.ld (.c a4) 1 false) h24 fun a25=>aG [a25] [a15])/\True) /\
 aa PP (.st (.c a22) (.c a23) 1) h24 fun a26 h27 =>
 ((ab PP (.ld (.c a4) 1 false) h27 fun a28=>aG [a28] [a15])/\True) /\
 K (.tup []) h27) /\
 aa PP (.ld (.c a2) 1 false) h11 fun a29 h30 =>
 aa PP (.iadd (.c a29) (.c a0) 1) h30 fun a31 h32 =>
 aa PP (.ld (.c a31) 1 false) h32 fun a33 h34 =>
 aS a33 h34 fun a35 =>
 kd h34 a35 a0 a1 a3 a4 a33 J12
theorem rV (a0:D) (a1:D) (a2:D) (a3:D) (a4:D) (h0:Heap) (K:HKq):m6 a0 a1 a2 a3 a4 h0 K=ku iZ K [a0,a1,a2,a3,a4] h0:=by kernel_rfl
def jR:TL
 | 1=>some ([0],[2,3])|_=>none
def k0:TT
 | 3=>some ([0,0,0,0,0,0,48,112,0,0,768,1792,4083,8179,16383,32767],[13,15],[14])|_=>none
def cY:aJ:=⟨28,
 .seq (.reg [⟨(some 4),.mov (.t 0),none⟩,
  ⟨(some 5),.len (.t 4),none⟩,
  ⟨(some 6),.bin .sub (.t 5) (.c (.int .i64 1)),none⟩,
  ⟨(some 2),.mov (.c (.int .i64 0)),none⟩,
  ⟨(some 3),.mov (.t 6),none⟩]) <|
 .block 0 (.loop [0] [2,3] (.seq (.seq (.reg [⟨(some 7),.mov (.t 2),none⟩,
  ⟨(some 8),.mov (.t 3),none⟩,
  ⟨(some 9),.bin .lss (.t 7) (.t 8),none⟩]) <|
 .cond (.t 9) (.skip) (.exit 0)) <|
 .seq (.block 1 (.dreg [⟨(some 14),.mov (.t 0),none⟩,
  ⟨(some 15),.mov (.t 2),none⟩,
  ⟨(some 16),.mov (.t 0),none⟩,
  ⟨(some 17),.mov (.t 3),none⟩,
  ⟨(some 18),.mov (.t 0),none⟩,
  ⟨(some 19),.mov (.t 3),none⟩,
  ⟨(some 20),.iadd (.t 18) (.t 19) 1,none⟩,
  ⟨(some 21),.ld (.t 20) 1 false,none⟩,
  ⟨(some 22),.mov (.t 0),none⟩,
  ⟨(some 23),.mov (.t 2),none⟩,
  ⟨(some 24),.iadd (.t 22) (.t 23) 1,none⟩,
  ⟨(some 25),.ld (.t 24) 1 false,none⟩,
  ⟨(some 26),.iadd (.t 14) (.t 15) 1,none⟩,
  ⟨(some 27),.iadd (.t 16) (.t 17) 1,none⟩] [⟨none,.st (.t 26) (.t 21) 1,none⟩,
  ⟨none,.st (.t 27) (.t 25) 1,none⟩] [⟨(some 27),.iadd (.t 16) (.t 17) 1,none⟩])) <|
 .reg [⟨(some 10),.mov (.t 2),none⟩,
  ⟨(some 11),.bin .add (.t 10) (.c (.int .i64 1)),none⟩,
  ⟨(some 12),.mov (.t 3),none⟩,
  ⟨(some 13),.bin .sub (.t 12) (.c (.int .i64 1)),none⟩,
  ⟨(some 2),.mov (.t 11),none⟩,
  ⟨(some 3),.mov (.t 13),none⟩])),
 []⟩
theorem eQ:cFn PP true bY jR (cDr PP 28 k0)=some cY:=by kernel_rfl
def eN (a3:D) (h0:Heap) (a0:D) (K:HKq):Prop :=
 ∃(I4:Nat->HJq) (n₀:Nat),I4 n₀ [(.int .i64 0),a3] h0/\∀(n5:Nat) (f6:Nat->D) (h7:Heap),I4 n5 [f6 2,f6 3] h7 ->
 vbin .lss (f6 2) (f6 3) fun a8 =>
 vcond a8 (ab PP (.iadd (.c a0) (.c (f6 3)) 1) h7 fun a9 =>
 ab PP (.ld (.c a9) 1 false) h7 fun a10 =>
 ab PP (.iadd (.c a0) (.c (f6 2)) 1) h7 fun a11 =>
 ab PP (.ld (.c a11) 1 false) h7 fun a12 =>
 ab PP (.iadd (.c a0) (.c (f6 2)) 1) h7 fun a13 =>
 ab PP (.iadd (.c a0) (.c (f6 3)) 1) h7 fun a14 =>
 aa PP (.st (.c a13) (.c a10) 1) h7 fun a15 h16 =>
 ((ab PP (.iadd (.c a0) (.c (f6 3)) 1) h16 fun a17=>aG [a17] [a14])/\True) /\
 aa PP (.st (.c a14) (.c a12) 1) h16 fun a18 h19 =>
 ((ab PP (.iadd (.c a0) (.c (f6 3)) 1) h19 fun a20=>aG [a20] [a14])/\True) /\
 vbin .add (f6 2) (.int .i64 1) fun a21 =>
 vbin .sub (f6 3) (.int .i64 1) fun a22 =>
 aG [a0] [a0]/\∃m,m<n5/\I4 m [a21,a22] h19) (
 K (.tup []) h7)
def fM (a0:D) (h0:Heap) (K:HKq):Prop :=
 aS a0 h0 fun a2 =>
 vbin .sub a2 (.int .i64 1) fun a3 =>
 eN a3 h0 a0 K
theorem kD (a0:D) (h0:Heap) (K:HKq):fM a0 h0 K=ku cY K [a0] h0:=by kernel_rfl
def tc:TL
 | _=>none
def uW:TT
 | _=>none
def kK:aJ:=⟨30,
 .seq (.reg [⟨(some 4),.mov (.c (.int .u64 0)),none⟩,
  ⟨(some 5),.mov (.c (.int .u64 0)),none⟩]) <|
 .seq (.cond (.c (.bool false)) (.seq (.reg [⟨(some 11),.mov (.t 0),none⟩,
  ⟨(some 12),.conv .u32 (.t 11),none⟩,
  ⟨(some 13),.mov (.t 1),none⟩,
  ⟨(some 14),.conv .u32 (.t 13),none⟩,
  ⟨(some 15),.call mO [(.t 12),(.t 14)],none⟩,
  ⟨(some 10),.mov (.t 15),none⟩,
  ⟨(some 16),.ext (.t 10) 0,none⟩,
  ⟨(some 17),.ext (.t 10) 1,none⟩,
  ⟨(some 6),.mov (.t 16),none⟩,
  ⟨(some 7),.mov (.t 17),none⟩]) <|
 .seq (.reg [⟨(some 18),.mov (.t 6),none⟩,
  ⟨(some 19),.conv .u64 (.t 18),none⟩,
  ⟨(some 20),.mov (.t 7),none⟩,
  ⟨(some 21),.conv .u64 (.t 20),none⟩,
  ⟨(some 4),.mov (.t 19),none⟩,
  ⟨(some 5),.mov (.t 21),none⟩]) <|
 .ret) (.skip)) <|
 .seq (.reg [⟨(some 23),.mov (.t 0),none⟩,
  ⟨(some 24),.mov (.t 1),none⟩,
  ⟨(some 25),.call fc [(.t 23),(.t 24)],none⟩,
  ⟨(some 22),.mov (.t 25),none⟩,
  ⟨(some 26),.ext (.t 22) 0,none⟩,
  ⟨(some 27),.ext (.t 22) 1,none⟩,
  ⟨(some 8),.mov (.t 26),none⟩,
  ⟨(some 9),.mov (.t 27),none⟩]) <|
 .seq (.reg [⟨(some 28),.mov (.t 8),none⟩,
  ⟨(some 29),.mov (.t 9),none⟩,
  ⟨(some 4),.mov (.t 28),none⟩,
  ⟨(some 5),.mov (.t 29),none⟩]) <|
 .ret,
 [.t 4,.t 5]⟩
theorem mB:cFn PP true gp tc (cDr PP 30 uW)=some kK:=by kernel_rfl
def p8 (a0:D) (a1:D) (h0:Heap) (K:HKq):Prop :=
 vcond (.bool false) (aa PP (.conv .u32 (.c a0)) h0 fun a3 h4 =>
 aa PP (.conv .u32 (.c a1)) h4 fun a5 h6 =>
 af PP mO [a3,a5] h6 fun a7 h8 =>
 aa PP (.ext (.c a7) 0) h8 fun a9 h10 =>
 aa PP (.ext (.c a7) 1) h10 fun a11 h12 =>
 aa PP (.conv .u64 (.c a9)) h12 fun a13 h14 =>
 aa PP (.conv .u64 (.c a11)) h14 fun a15 h16 =>
 K (.tup [a13,a15]) h16) (
 af PP fc [a0,a1] h0 fun a17 h18 =>
 aa PP (.ext (.c a17) 0) h18 fun a19 h20 =>
 aa PP (.ext (.c a17) 1) h20 fun a21 h22 =>
 K (.tup [a19,a21]) h22)
theorem uA (a0:D) (a1:D) (h0:Heap) (K:HKq):p8 a0 a1 h0 K=ku kK K [a0,a1] h0:=by kernel_rfl
def fG:TL
 | 1=>some ([0,1,2],[6])|1000003=>some ([0,1,2,6],[])|4=>some ([0,1,2,6],[7])|_=>none
def fX:TT
 | 4=>some ([0,0,3,7,15,15,63,127,15,15,527,1807,3855,8191,16383],[],[])|6=>some ([0,0,0,0,8,0,0,64,224,480,0,0,3072,7168,16355,32739,65535,131071],[15,17],[16])|_=>none
def cV:aJ:=⟨49,
 .seq (.reg [⟨(some 8),.mov (.t 1),none⟩,
  ⟨(some 9),.bin .add (.t 8) (.c (.int .i64 1)),none⟩,
  ⟨(some 6),.mov (.t 9),none⟩]) <|
 .block 0 (.loop [0,1,2] [6] (.seq (.seq (.reg [⟨(some 10),.mov (.t 6),none⟩,
  ⟨(some 11),.mov (.t 2),none⟩,
  ⟨(some 12),.bin .lss (.t 10) (.t 11),none⟩]) <|
 .cond (.t 12) (.skip) (.exit 0)) <|
 .seqj [0,1,2,6] [] (.block 1 (.seq (.reg [⟨(some 15),.mov (.t 6),none⟩,
  ⟨(some 7),.mov (.t 15),none⟩]) <|
 .block 2 (.loop [0,1,2,6] [7] (.seq (.seq (.dreg [⟨(some 16),.mov (.t 7),none⟩,
  ⟨(some 17),.mov (.t 1),none⟩,
  ⟨(some 18),.bin .gtr (.t 16) (.t 17),none⟩,
  ⟨(some 19),.mov (.t 18),none⟩,
  ⟨(some 20),.mov (.t 0),some (19,true)⟩,
  ⟨(some 21),.mov (.t 7),some (19,true)⟩,
  ⟨(some 22),.iadd (.t 20) (.t 21) 1,some (19,true)⟩,
  ⟨(some 23),.ld (.t 22) 1 false,some (19,true)⟩,
  ⟨(some 24),.mov (.t 0),some (19,true)⟩,
  ⟨(some 25),.mov (.t 7),some (19,true)⟩,
  ⟨(some 26),.bin .sub (.t 25) (.c (.int .i64 1)),some (19,true)⟩,
  ⟨(some 27),.iadd (.t 24) (.t 26) 1,some (19,true)⟩,
  ⟨(some 28),.ld (.t 27) 1 false,some (19,true)⟩,
  ⟨(some 29),.call qY [(.t 23),(.t 28)],some (19,true)⟩,
  ⟨(some 30),.pick (.t 19) (.t 29) (.c (.bool false)),none⟩] [] []) <|
 .cond (.t 30) (.skip) (.exit 2)) <|
 .seq (.block 3 (.dreg [⟨(some 33),.mov (.t 0),none⟩,
  ⟨(some 34),.mov (.t 7),none⟩,
  ⟨(some 35),.mov (.t 0),none⟩,
  ⟨(some 36),.mov (.t 7),none⟩,
  ⟨(some 37),.bin .sub (.t 36) (.c (.int .i64 1)),none⟩,
  ⟨(some 38),.mov (.t 0),none⟩,
  ⟨(some 39),.mov (.t 7),none⟩,
  ⟨(some 40),.bin .sub (.t 39) (.c (.int .i64 1)),none⟩,
  ⟨(some 41),.iadd (.t 38) (.t 40) 1,none⟩,
  ⟨(some 42),.ld (.t 41) 1 false,none⟩,
  ⟨(some 43),.mov (.t 0),none⟩,
  ⟨(some 44),.mov (.t 7),none⟩,
  ⟨(some 45),.iadd (.t 43) (.t 44) 1,none⟩,
  ⟨(some 46),.ld (.t 45) 1 false,none⟩,
  ⟨(some 47),.iadd (.t 33) (.t 34) 1,none⟩,
  ⟨(some 48),.iadd (.t 35) (.t 37) 1,none⟩] [⟨none,.st (.t 47) (.t 42) 1,none⟩,
  ⟨none,.st (.t 48) (.t 46) 1,none⟩] [⟨(some 48),.iadd (.t 35) (.t 37) 1,none⟩])) <|
 .reg [⟨(some 31),.mov (.t 7),none⟩,
  ⟨(some 32),.bin .sub (.t 31) (.c (.int .i64 1)),none⟩,
  ⟨(some 7),.mov (.t 32),none⟩])))) <|
 .reg [⟨(some 13),.mov (.t 6),none⟩,
  ⟨(some 14),.bin .add (.t 13) (.c (.int .i64 1)),none⟩,
  ⟨(some 6),.mov (.t 14),none⟩])),
 []⟩
theorem fW:cFn PP true cU fG (cDr PP 49 fX)=some cV:=by kernel_rfl
def qu:TL
 | 1000005=>some ([],[0,2])|1000008=>some ([],[0,2])|1000011=>some ([],[0,2])|_=>none
def sW:TT
 | _=>none
def nG:aJ:=⟨25,
 .seq (.reg [⟨(some 2),.mov (.c (.int .i64 0)),none⟩]) <|
 .seqj [] [0,2] (.seq (.reg [⟨(some 3),.mov (.t 0),none⟩,
  ⟨(some 4),.bin .geq (.t 3) (.c (.int .u64 4294967296)),none⟩]) <|
 .cond (.t 4) (.seq (.reg [⟨(some 5),.mov (.t 0),none⟩,
  ⟨(some 6),.bin .shr (.t 5) (.c (.int .u64 32)),none⟩,
  ⟨(some 0),.mov (.t 6),none⟩]) <|
 .reg [⟨(some 2),.mov (.c (.int .i64 32)),none⟩]) (.skip)) <|
 .seqj [] [0,2] (.seq (.reg [⟨(some 7),.mov (.t 0),none⟩,
  ⟨(some 8),.bin .geq (.t 7) (.c (.int .u64 65536)),none⟩]) <|
 .cond (.t 8) (.seq (.reg [⟨(some 9),.mov (.t 0),none⟩,
  ⟨(some 10),.bin .shr (.t 9) (.c (.int .u64 16)),none⟩,
  ⟨(some 0),.mov (.t 10),none⟩]) <|
 .reg [⟨(some 11),.mov (.t 2),none⟩,
  ⟨(some 12),.bin .add (.t 11) (.c (.int .i64 16)),none⟩,
  ⟨(some 2),.mov (.t 12),none⟩]) (.skip)) <|
 .seqj [] [0,2] (.seq (.reg [⟨(some 13),.mov (.t 0),none⟩,
  ⟨(some 14),.bin .geq (.t 13) (.c (.int .u64 256)),none⟩]) <|
 .cond (.t 14) (.seq (.reg [⟨(some 15),.mov (.t 0),none⟩,
  ⟨(some 16),.bin .shr (.t 15) (.c (.int .u64 8)),none⟩,
  ⟨(some 0),.mov (.t 16),none⟩]) <|
 .reg [⟨(some 17),.mov (.t 2),none⟩,
  ⟨(some 18),.bin .add (.t 17) (.c (.int .i64 8)),none⟩,
  ⟨(some 2),.mov (.t 18),none⟩]) (.skip)) <|
 .seq (.reg [⟨(some 19),.mov (.t 2),none⟩,
  ⟨(some 20),.mov (.t 0),none⟩,
  ⟨(some 21),.conv .u8 (.t 20),none⟩,
  ⟨(some 22),.sidx (.c (.str ⟨#[0,1,2,2,3,3,3,3,4,4,4,4,4,4,4,4,5,5,5,5,5,5,5,5,5,5,5,5,5,5,5,5,6,6,6,6,6,6,6,6,6,6,6,6,6,6,6,6,6,6,6,6,6,6,6,6,6,6,6,6,6,6,6,6,7,7,7,7,7,7,7,7,7,7,7,7,7,7,7,7,7,7,7,7,7,7,7,7,7,7,7,7,7,7,7,7,7,7,7,7,7,7,7,7,7,7,7,7,7,7,7,7,7,7,7,7,7,7,7,7,7,7,7,7,7,7,7,7,8,8,8,8,8,8,8,8,8,8,8,8,8,8,8,8,8,8,8,8,8,8,8,8,8,8,8,8,8,8,8,8,8,8,8,8,8,8,8,8,8,8,8,8,8,8,8,8,8,8,8,8,8,8,8,8,8,8,8,8,8,8,8,8,8,8,8,8,8,8,8,8,8,8,8,8,8,8,8,8,8,8,8,8,8,8,8,8,8,8,8,8,8,8,8,8,8,8,8,8,8,8,8,8,8,8,8,8,8,8,8,8,8,8,8,8,8,8,8,8,8,8,8,8,8,8,8,8]⟩)) (.t 21) 0 0 false,none⟩,
  ⟨(some 23),.conv .i64 (.t 22),none⟩,
  ⟨(some 24),.bin .add (.t 19) (.t 23),none⟩,
  ⟨(some 2),.mov (.t 24),none⟩]) <|
 .ret,
 [.t 2]⟩
theorem so:cFn PP true mP qu (cDr PP 25 sW)=some nG:=by kernel_rfl
def qt:TL
 | _=>none
def sV:TT
 | _=>none
def iY:aJ:=⟨51,
 .seq (.reg [⟨(some 4),.mov (.c (.int .u64 0)),none⟩,
  ⟨(some 5),.mov (.c (.int .u64 0)),none⟩]) <|
 .seq (.reg [⟨(some 14),.mov (.t 0),none⟩,
  ⟨(some 15),.bin .and (.t 14) (.c (.int .u64 4294967295)),none⟩,
  ⟨(some 6),.mov (.t 15),none⟩]) <|
 .seq (.reg [⟨(some 16),.mov (.t 0),none⟩,
  ⟨(some 17),.bin .shr (.t 16) (.c (.int .u64 32)),none⟩,
  ⟨(some 7),.mov (.t 17),none⟩]) <|
 .seq (.reg [⟨(some 18),.mov (.t 1),none⟩,
  ⟨(some 19),.bin .and (.t 18) (.c (.int .u64 4294967295)),none⟩,
  ⟨(some 8),.mov (.t 19),none⟩]) <|
 .seq (.reg [⟨(some 20),.mov (.t 1),none⟩,
  ⟨(some 21),.bin .shr (.t 20) (.c (.int .u64 32)),none⟩,
  ⟨(some 9),.mov (.t 21),none⟩]) <|
 .seq (.reg [⟨(some 22),.mov (.t 6),none⟩,
  ⟨(some 23),.mov (.t 8),none⟩,
  ⟨(some 24),.bin .mul (.t 22) (.t 23),none⟩,
  ⟨(some 10),.mov (.t 24),none⟩]) <|
 .seq (.reg [⟨(some 25),.mov (.t 7),none⟩,
  ⟨(some 26),.mov (.t 8),none⟩,
  ⟨(some 27),.bin .mul (.t 25) (.t 26),none⟩,
  ⟨(some 28),.mov (.t 10),none⟩,
  ⟨(some 29),.bin .shr (.t 28) (.c (.int .u64 32)),none⟩,
  ⟨(some 30),.bin .add (.t 27) (.t 29),none⟩,
  ⟨(some 11),.mov (.t 30),none⟩]) <|
 .seq (.reg [⟨(some 31),.mov (.t 11),none⟩,
  ⟨(some 32),.bin .and (.t 31) (.c (.int .u64 4294967295)),none⟩,
  ⟨(some 12),.mov (.t 32),none⟩]) <|
 .seq (.reg [⟨(some 33),.mov (.t 11),none⟩,
  ⟨(some 34),.bin .shr (.t 33) (.c (.int .u64 32)),none⟩,
  ⟨(some 13),.mov (.t 34),none⟩]) <|
 .seq (.reg [⟨(some 35),.mov (.t 12),none⟩,
  ⟨(some 36),.mov (.t 6),none⟩,
  ⟨(some 37),.mov (.t 9),none⟩,
  ⟨(some 38),.bin .mul (.t 36) (.t 37),none⟩,
  ⟨(some 39),.bin .add (.t 35) (.t 38),none⟩,
  ⟨(some 12),.mov (.t 39),none⟩]) <|
 .seq (.reg [⟨(some 40),.mov (.t 7),none⟩,
  ⟨(some 41),.mov (.t 9),none⟩,
  ⟨(some 42),.bin .mul (.t 40) (.t 41),none⟩,
  ⟨(some 43),.mov (.t 13),none⟩,
  ⟨(some 44),.bin .add (.t 42) (.t 43),none⟩,
  ⟨(some 45),.mov (.t 12),none⟩,
  ⟨(some 46),.bin .shr (.t 45) (.c (.int .u64 32)),none⟩,
  ⟨(some 47),.bin .add (.t 44) (.t 46),none⟩,
  ⟨(some 4),.mov (.t 47),none⟩]) <|
 .seq (.reg [⟨(some 48),.mov (.t 0),none⟩,
  ⟨(some 49),.mov (.t 1),none⟩,
  ⟨(some 50),.bin .mul (.t 48) (.t 49),none⟩,
  ⟨(some 5),.mov (.t 50),none⟩]) <|
 .ret,
 [.t 4,.t 5]⟩
theorem km:cFn PP true fc qt (cDr PP 51 sV)=some iY:=by kernel_rfl
def mZ (a0:D) (a1:D) (h0:Heap) (K:HKq):Prop :=
 vbin .and a0 (.int .u64 4294967295) fun a3 =>
 vbin .shr a0 (.int .u64 32) fun a4 =>
 vbin .and a1 (.int .u64 4294967295) fun a5 =>
 vbin .shr a1 (.int .u64 32) fun a6 =>
 vbin .mul a3 a5 fun a7 =>
 vbin .mul a4 a5 fun a8 =>
 vbin .shr a7 (.int .u64 32) fun a9 =>
 vbin .add a8 a9 fun a10 =>
 vbin .and a10 (.int .u64 4294967295) fun a11 =>
 vbin .shr a10 (.int .u64 32) fun a12 =>
 vbin .mul a3 a6 fun a13 =>
 vbin .add a11 a13 fun a14 =>
 vbin .mul a4 a6 fun a15 =>
 vbin .add a15 a12 fun a16 =>
 vbin .shr a14 (.int .u64 32) fun a17 =>
 vbin .add a16 a17 fun a18 =>
 vbin .mul a0 a1 fun a19 =>
 K (.tup [a18,a19]) h0
theorem rU (a0:D) (a1:D) (h0:Heap) (K:HKq):mZ a0 a1 h0 K=ku iY K [a0,a1] h0:=by kernel_rfl
end Go.Am
namespace Go.Am
open Go Go.Proofs
end Go.Am
namespace Go.Am
open Go Go.Proofs
def lq:TL
 | 1000010=>some ([],[1,5,6,7])|1000012=>some ([],[1,5,6,7,8,9])|1000016=>some ([],[1,5,6,7])|1000032=>some ([5],[])|17=>some ([1,5,6,7,11],[12])|1000019=>some ([1,5,6,7,11,12],[])|1000027=>some ([1,5,6,7,11,12],[13])|21=>some ([1,5,6,7,11,12],[13,14])|1000023=>some ([1,5,6,7,11,12,14],[13])|_=>none
def mI:TT
 | 9=>some ([0,0,2,7,0,31,0,64,255,0,1023],[0,3,5,9,10],[999996,0,3])|10=>some ([0,1,0,0,8,28,0,124,255,0,1023],[2,5,7,9,10],[999996,0,3])|13=>some ([0,0,3,7,15,31,31,127,255,511,1023,2047,2047,8191,16383,32767,65535,131071,131071,393215,917503,131071,2228223,8257535,16777215,33554431,67108863,134217727,268435455,268435455,805306367,268435455,2415919103,6710886399,16911433727,34359738367,68719476735,137438953471],[],[])|_=>none
noncomputable abbrev hQ:=cFn PP true iE lq (cDr PP 204 mI)
noncomputable def hZ:aJ:=⟨204,lW hQ,[.t 4]⟩
theorem mC:hQ=some hZ:=by kernel_rfl
def cN (a132:D) (h133:Heap) (f99:Nat->D) (f110:Nat->D) (a103:D) (J134:HJq):Prop :=
 ∃(I205:Nat->HJq) (n₀:Nat),I205 n₀ [a132,(.int .i64 0)] h133/\∀(n206:Nat) (f207:Nat->D) (h208:Heap),I205 n206 [f207 13,f207 14] h208 ->
 aa PP (.fadd (.c (f99 6)) 7) h208 fun a209 h210 =>
 aa PP (.ld (.c a209) 1 false) h210 fun a211 h212 =>
 aa PP (.iadd (.c a211) (.c (f110 12)) 14) h212 fun a213 h214 =>
 aa PP (.fadd (.c a213) 0) h214 fun a215 h216 =>
 aa PP (.ld (.c a215) 1 false) h216 fun a217 h218 =>
 aS a217 h218 fun a219 =>
 vbin .lss (f207 14) a219 fun a220 =>
 vcond a220 (∃(J221:HJq),(∀(f222:Nat->D) (h223:Heap),J221 [f222 13] h223 ->
 vbin .add (f207 14) (.int .i64 1) fun a224 =>
 aG [(f99 1),(f99 5),(f99 6),(f99 7),a103,(f110 12)] [(f99 1),(f99 5),(f99 6),(f99 7),a103,(f110 12)]/\∃m,m<n206/\I205 m [(f222 13),a224] h223) /\
 aa PP (.fadd (.c (f99 6)) 7) h218 fun a225 h226 =>
 aa PP (.ld (.c a225) 1 false) h226 fun a227 h228 =>
 aa PP (.iadd (.c a227) (.c (f110 12)) 14) h228 fun a229 h230 =>
 aa PP (.fadd (.c a229) 0) h230 fun a231 h232 =>
 aa PP (.ld (.c a231) 1 false) h232 fun a233 h234 =>
 aa PP (.iadd (.c a233) (.c (f207 14)) 15) h234 fun a235 h236 =>
 aa PP (.ld (.c a235) 15 true) h236 fun a237 h238 =>
 aa PP (.alloc (.agg [zI,zI,zI,zI,zI,zJ,zI,zI,zJ,zI,zI,zJ,zI,zI,zJ])) h238 fun a239 h240 =>
 aa PP (.st (.c a239) (.c a237) 15) h240 fun a241 h242 =>
 aa PP (.fadd (.c a239) 0) h242 fun a243 h244 =>
 aa PP (.ld (.c a243) 1 false) h244 fun a245 h246 =>
 vbin .eql a245 (.int .i64 7) fun a247 =>
 vguard a247 false (fun G248 =>
 aa PP (.fadd (.c a239) 0) h246 fun a251 h252 =>
 G248 a251 h252) h246 fun a249 h250 =>
 vguard a247 false (fun G253 =>
 aa PP (.ld (.c a249) 1 false) h250 fun a256 h257 =>
 G253 a256 h257) h250 fun a254 h255 =>
 vguard a247 false (fun G258 =>
 vbin .eql a254 (.int .i64 5) fun a261 =>
 G258 a261 h255) h255 fun a259 h260 =>
 vguard a247 false (fun G262 =>
 G262 a259 h260) h260 fun a263 h264 =>
 vguard a263 true (fun G265 =>
 aa PP (.fadd (.c a239) 1) h264 fun a268 h269 =>
 G265 a268 h269) h264 fun a266 h267 =>
 vguard a263 true (fun G270 =>
 aa PP (.ld (.c a266) 1 false) h267 fun a273 h274 =>
 G270 a273 h274) h267 fun a271 h272 =>
 vguard a263 true (fun G275 =>
 G275 (f99 1) h272) h272 fun a276 h277 =>
 vguard a263 true (fun G278 =>
 vbin .rem a276 (.int .u8 2) fun a281 =>
 G278 a281 h277) h277 fun a279 h280 =>
 vguard a263 true (fun G282 =>
 aa PP (.conv .i64 (.c a279)) h280 fun a285 h286 =>
 G282 a285 h286) h280 fun a283 h284 =>
 vguard a263 true (fun G287 =>
 vbin .add (.int .i64 1) a283 fun a290 =>
 G287 a290 h284) h284 fun a288 h289 =>
 vguard a263 true (fun G291 =>
 vbin .eql a271 a288 fun a294 =>
 G291 a294 h289) h289 fun a292 h293 =>
 vguard a247 false (fun G295 =>
 aa PP (.pick (.c a263) (.c a292) (.c (.bool false))) h293 fun a298 h299 =>
 G295 a298 h299) h293 fun a296 h297 =>
 aa PP (.pick (.c a247) (.c (.bool true)) (.c a296)) h297 fun a300 h301 =>
 vcond a300 (aa PP (.ld (.c a239) 15 true) h301 fun a302 h303 =>
 af PP ju [a302] h303 fun a304 h305 =>
 aG [(f99 1),(f99 5),(f99 6),(f99 7),a103,(f110 12),(f207 14)] [(f99 1),(f99 5),(f99 6),(f99 7),a103,(f110 12),(f207 14)]/\J221 [a304] h305) (
 aG [(f99 1),(f99 5),(f99 6),(f99 7),a103,(f110 12),(f207 14)] [(f99 1),(f99 5),(f99 6),(f99 7),a103,(f110 12),(f207 14)]/\J221 [(f207 13)] h301)) (
 aG [(f99 1),(f99 5),(f99 6),(f99 7),a103,(f110 12)] [(f99 1),(f99 5),(f99 6),(f99 7),a103,(f110 12)]/\J134 [(f207 13)] h218)
def cM (h104:Heap) (f99:Nat->D) (a103:D) (J105:HJq) (K:HKq):Prop :=
 ∃(I108:Nat->HJq) (n₀:Nat),I108 n₀ [(.int .i64 0)] h104/\∀(n109:Nat) (f110:Nat->D) (h111:Heap),I108 n109 [f110 12] h111 ->
 aa PP (.fadd (.c (f99 6)) 7) h111 fun a112 h113 =>
 aa PP (.ld (.c a112) 1 false) h113 fun a114 h115 =>
 aS a114 h115 fun a116 =>
 vbin .lss (f110 12) a116 fun a117 =>
 vcond a117 (∃(J118:HJq),(∀(f119:Nat->D) (h120:Heap),J118 [] h120 ->
 vbin .add (f110 12) (.int .i64 1) fun a121 =>
 aG [(f99 1),(f99 5),(f99 6),(f99 7),a103] [(f99 1),(f99 5),(f99 6),(f99 7),a103]/\∃m,m<n109/\I108 m [a121] h120) /\
 aa PP (.fadd (.c (f99 6)) 7) h115 fun a122 h123 =>
 aa PP (.ld (.c a122) 1 false) h123 fun a124 h125 =>
 aa PP (.iadd (.c a124) (.c (f110 12)) 14) h125 fun a126 h127 =>
 aa PP (.fadd (.c a126) 1) h127 fun a128 h129 =>
 aa PP (.ld (.c a128) 13 true) h129 fun a130 h131 =>
 af PP jQ [a130] h131 fun a132 h133 =>
 ∃(J134:HJq),(∀(f135:Nat->D) (h136:Heap),J134 [f135 13] h136 ->
 vbin .lss (f135 13) (.int .i64 0) fun a137 =>
 vguard a137 false (fun G138 =>
 G138 a103 h136) h136 fun a139 h140 =>
 vguard a137 false (fun G141 =>
 G141 (f110 12) h140) h140 fun a142 h143 =>
 vguard a137 false (fun G144 =>
 aa PP (.iadd (.c a139) (.c a142) 1) h143 fun a147 h148 =>
 G144 a147 h148) h143 fun a145 h146 =>
 vguard a137 false (fun G149 =>
 aa PP (.ld (.c a145) 1 false) h146 fun a152 h153 =>
 G149 a152 h153) h146 fun a150 h151 =>
 vguard a137 false (fun G154 =>
 vun .not a150 fun a157 =>
 G154 a157 h151) h151 fun a155 h156 =>
 aa PP (.pick (.c a137) (.c (.bool true)) (.c a155)) h156 fun a158 h159 =>
 vcond a158 (aG [(f99 1),(f99 5),(f99 6),(f99 7),a103,(f110 12)] [(f99 1),(f99 5),(f99 6),(f99 7),a103,(f110 12)]/\J118 [] h159) (
 aa PP (.ld (.c (f99 7)) 2 true) h159 fun a160 h161 =>
 af PP lj [a160] h161 fun a162 h163 =>
 aa PP (.alloc (.agg [.nil,.nil])) h163 fun a164 h165 =>
 aa PP (.st (.c a164) (.c a162) 2) h165 fun a166 h167 =>
 aa PP (.fadd (.c a164) 1) h167 fun a168 h169 =>
 aa PP (.ld (.c a168) 1 false) h169 fun a170 h171 =>
 aa PP (.iadd (.c a170) (.c (f135 13)) 1) h171 fun a172 h173 =>
 aa PP (.st (.c a172) (.c (.bool true)) 1) h173 fun a174 h175 =>
 aa PP (.fadd (.c (f99 7)) 1) h175 fun a176 h177 =>
 aa PP (.ld (.c a176) 1 false) h177 fun a178 h179 =>
 aa PP (.iadd (.c a178) (.c (f135 13)) 1) h179 fun a180 h181 =>
 aa PP (.ld (.c a180) 1 false) h181 fun a182 h183 =>
 vguard a182 false (fun G184 =>
 aa PP (.ld (.c (f99 6)) 8 true) h183 fun a187 h188 =>
 G184 a187 h188) h183 fun a185 h186 =>
 vguard a182 false (fun G189 =>
 aa PP (.ld (.c a164) 2 true) h186 fun a192 h193 =>
 G189 a192 h193) h186 fun a190 h191 =>
 vguard a182 false (fun G194 =>
 af PP aC [a185,a190] h191 fun a197 h198 =>
 G194 a197 h198) h191 fun a195 h196 =>
 vguard a182 false (fun G199 =>
 vbin .neq a195 (.int .i64 100) fun a202 =>
 G199 a202 h196) h196 fun a200 h201 =>
 aa PP (.pick (.c a182) (.c (.bool true)) (.c a200)) h201 fun a203 h204 =>
 vcond a203 (K (.bool false) h204) (
 aG [(f99 1),(f99 5),(f99 6),(f99 7),a103,(f110 12)] [(f99 1),(f99 5),(f99 6),(f99 7),a103,(f110 12)]/\J118 [] h204))) /\
 cN a132 h133 f99 f110 a103 J134) (
 aG [(f99 5)] [(f99 5)]/\J105 [] h115)
def g9 (a0:D) (a1:D) (h0:Heap) (K:HKq):Prop :=
 aa PP (.box (.c a0)) h0 fun a3 h4 =>
 af PP js [] h4 fun a5 h6 =>
 vun .not a5 fun a7 =>
 vcond a7 (K (.bool false) h6) (
 aa PP (.ld (.c a3) 1 true) h6 fun a8 h9 =>
 af PP pf [a8] h9 fun a10 h11 =>
 af PP pg [a10] h11 fun a12 h13 =>
 aa PP (.alloc (.agg [zI,zI,zI,zI,zI,.nil,.nil,.nil])) h13 fun a14 h15 =>
 aa PP (.st (.c a14) (.c a12) 8) h15 fun a16 h17 =>
 aa PP (.fadd (.c a14) 7) h17 fun a18 h19 =>
 aa PP (.ld (.c a18) 1 false) h19 fun a20 h21 =>
 aa PP (.bld [zI,zI,zI,zI,zJ,zI,zI,zJ,zI,zI,zJ,zI,zI] [(0,1,(.c (.int .i64 5)))]) h21 fun a22 h23 =>
 aa PP (.bld [.nil,zI,zI,zI,zI,zJ,zI,zI,zJ,zI,zI,zJ,zI,zI] [(1,13,(.c a22))]) h23 fun a24 h25 =>
 aa PP (.bldS true 14 1 (.agg [.nil,zI,zI,zI,zI,zJ,zI,zI,zJ,zI,zI,zJ,zI,zI]) [(0,(.c a24))]) h25 fun a26 h27 =>
 aa PP (.app (.c a20) (.c a26) 14 128 (.agg [.nil,zI,zI,zI,zI,zJ,zI,zI,zJ,zI,zI,zJ,zI,zI])) h27 fun a28 h29 =>
 aa PP (.fadd (.c a14) 7) h29 fun a30 h31 =>
 aa PP (.st (.c a30) (.c a28) 1) h31 fun a32 h33 =>
 aa PP (.ld (.c a14) 8 true) h33 fun a34 h35 =>
 af PP dM [a34] h35 fun a36 h37 =>
 aa PP (.alloc (.agg [.nil,.nil])) h37 fun a38 h39 =>
 aa PP (.st (.c a38) (.c a36) 2) h39 fun a40 h41 =>
 ∃(J42:HJq),(∀(f43:Nat->D) (h44:Heap),J42 [f43 1,f43 5,f43 6,f43 7] h44 ->
 ab PP (.fadd (.c (f43 7)) 0) h44 fun a45 =>
 ab PP (.ld (.c a45) 1 false) h44 fun a46 =>
 ab PP (.bldS false 1 1 (.bool false) [(0,(.c (.bool false)))]) h44 fun a47 =>
 ab PP (.fadd (.c (f43 7)) 1) h44 fun a48 =>
 ab PP (.ld (.c a48) 1 false) h44 fun a49 =>
 aa PP (.bldS true 1 0 (.bool false) []) h44 fun a50 h51 =>
 ((ab PP (.fadd (.c (f43 7)) 0) h51 fun a52=>aG [a52] [a45])/\(ab PP (.ld (.c a45) 1 false) h51 fun a53=>aG [a53] [a46])/\(ab PP (.fadd (.c (f43 7)) 1) h51 fun a54=>aG [a54] [a48])/\(ab PP (.ld (.c a48) 1 false) h51 fun a55=>aG [a55] [a49])/\True) /\
 aa PP (.app (.c a50) (.c a46) 1 1 (.bool false)) h51 fun a56 h57 =>
 ((ab PP (.fadd (.c (f43 7)) 1) h57 fun a58=>aG [a58] [a48])/\(ab PP (.ld (.c a48) 1 false) h57 fun a59=>aG [a59] [a49])/\True) /\
 aa PP (.app (.c a56) (.c a47) 1 1 (.bool false)) h57 fun a60 h61 =>
 ((ab PP (.fadd (.c (f43 7)) 1) h61 fun a62=>aG [a62] [a48])/\(ab PP (.ld (.c a48) 1 false) h61 fun a63=>aG [a63] [a49])/\True) /\
 ab PP (.bld [.nil,.nil] [(0,1,(.c a60)),(1,1,(.c a49))]) h61 fun a64 =>
 aa PP (.alloc (.agg [.nil,.nil])) h61 fun a65 h66 =>
 ((ab PP (.fadd (.c (f43 7)) 0) h66 fun a67=>aG [a67] [a45])/\(ab PP (.ld (.c a45) 1 false) h66 fun a68=>aG [a68] [a46])/\(ab PP (.fadd (.c (f43 7)) 1) h66 fun a69=>aG [a69] [a48])/\(ab PP (.ld (.c a48) 1 false) h66 fun a70=>aG [a70] [a49])/\True) /\
 aa PP (.st (.c a65) (.c a64) 2) h66 fun a71 h72 =>
 ∃(J73:HJq),(∀(f74:Nat->D) (h75:Heap),J73 [f74 1,f74 5,f74 6,f74 7,f74 8,f74 9] h75 ->
 aa PP (.ld (.c (f74 7)) 2 true) h75 fun a76 h77 =>
 af PP lj [a76] h77 fun a78 h79 =>
 aa PP (.alloc (.agg [.nil,.nil])) h79 fun a80 h81 =>
 aa PP (.st (.c a80) (.c a78) 2) h81 fun a82 h83 =>
 aa PP (.fadd (.c a80) 0) h83 fun a84 h85 =>
 aa PP (.ld (.c a84) 1 false) h85 fun a86 h87 =>
 aa PP (.fadd (.c a80) 0) h87 fun a88 h89 =>
 aa PP (.ld (.c a88) 1 false) h89 fun a90 h91 =>
 aS a90 h91 fun a92 =>
 vbin .sub a92 (.int .i64 1) fun a93 =>
 aa PP (.iadd (.c a86) (.c a93) 1) h91 fun a94 h95 =>
 aa PP (.st (.c a94) (.c (.bool true)) 1) h95 fun a96 h97 =>
 ∃(J98:HJq),(∀(f99:Nat->D) (h100:Heap),J98 [f99 1,f99 5,f99 6,f99 7] h100 ->
 aa PP (.ld (.c (f99 6)) 8 true) h100 fun a101 h102 =>
 af PP fF [a101] h102 fun a103 h104 =>
 ∃(J105:HJq),(∀(f106:Nat->D) (h107:Heap),J105 [] h107 ->
 K (f99 5) h107) /\
 cM h104 f99 a103 J105 K) /\
 ab PP (.ld (.c (f74 6)) 8 true) h97 fun a306 =>
 ab PP (.ld (.c (f74 8)) 2 true) h97 fun a307 =>
 ab PP (.call aC [(.c a306),(.c a307)]) h97 fun a308 =>
 vbin .neq a308 (.int .i64 100) fun a309 =>
 aA a309 false (fun G310 =>
 ab PP (.ld (.c (f74 6)) 8 true) h97 fun a443 =>
 G310 a443) fun a311 =>
 aA a309 false (fun G314 =>
 ab PP (.ld (.c (f74 9)) 2 true) h97 fun a442 =>
 G314 a442) fun a315 =>
 aA a309 false (fun G318 =>
 ab PP (.call aC [(.c a311),(.c a315)]) h97 fun a441 =>
 G318 a441) fun a319 =>
 aA a309 false (fun G322 =>
 vbin .neq a319 (.int .i64 100) fun a440 =>
 G322 a440) fun a323 =>
 ab PP (.pick (.c a309) (.c (.bool true)) (.c a323)) h97 fun a326 =>
 aA a326 false (fun G327 =>
 ab PP (.ld (.c (f74 6)) 8 true) h97 fun a439 =>
 G327 a439) fun a328 =>
 aA a326 false (fun G331 =>
 ab PP (.ld (.c a80) 2 true) h97 fun a438 =>
 G331 a438) fun a332 =>
 aA a326 false (fun G335 =>
 ab PP (.call aC [(.c a328),(.c a332)]) h97 fun a437 =>
 G335 a437) fun a336 =>
 aA a326 false (fun G339 =>
 vbin .neq a336 (.int .i64 100) fun a436 =>
 G339 a436) fun a340 =>
 ab PP (.pick (.c a326) (.c (.bool true)) (.c a340)) h97 fun a343 =>
 aA a343 false (fun G344 =>
 ab PP (.ld (.c (f74 6)) 8 true) h97 fun a435 =>
 G344 a435) fun a345 =>
 aA a343 false (fun G348 =>
 ab PP (.fadd (.c (f74 7)) 0) h97 fun a434 =>
 G348 a434) fun a349 =>
 aA a343 false (fun G352 =>
 ab PP (.ld (.c a349) 1 false) h97 fun a433 =>
 G352 a433) fun a353 =>
 aA a343 false (fun G356 =>
 ab PP (.o8 (.c a353) (some (.c (.int .i64 1))) none none 1) h97 fun a432 =>
 G356 a432) fun a357 =>
 aA a343 false (fun G360 =>
 ab PP (.fadd (.c (f74 7)) 1) h97 fun a431 =>
 G360 a431) fun a361 =>
 aA a343 false (fun G364 =>
 ab PP (.ld (.c a361) 1 false) h97 fun a430 =>
 G364 a430) fun a365 =>
 aA a343 false (fun G368 =>
 ab PP (.bld [.nil,.nil] [(0,1,(.c a357)),(1,1,(.c a365))]) h97 fun a429 =>
 G368 a429) fun a369 =>
 aA a343 false (fun G372 =>
 ab PP (.call aC [(.c a345),(.c a369)]) h97 fun a428 =>
 G372 a428) fun a373 =>
 aA a343 false (fun G376 =>
 vbin .neq a373 (.int .i64 100) fun a427 =>
 G376 a427) fun a377 =>
 ab PP (.pick (.c a343) (.c (.bool true)) (.c a377)) h97 fun a380 =>
 aA a380 false (fun G381 =>
 ab PP (.ld (.c (f74 6)) 8 true) h97 fun a426 =>
 G381 a426) fun a382 =>
 aA a380 false (fun G385 =>
 ab PP (.fadd (.c (f74 7)) 0) h97 fun a425 =>
 G385 a425) fun a386 =>
 aA a380 false (fun G389 =>
 ab PP (.ld (.c a386) 1 false) h97 fun a424 =>
 G389 a424) fun a390 =>
 aA a380 false (fun G393 =>
 ab PP (.fadd (.c (f74 7)) 1) h97 fun a423 =>
 G393 a423) fun a394 =>
 aA a380 false (fun G397 =>
 ab PP (.ld (.c a394) 1 false) h97 fun a422 =>
 G397 a422) fun a398 =>
 aA a380 false (fun G401 =>
 ab PP (.o8 (.c a398) (some (.c (.int .i64 1))) none none 1) h97 fun a421 =>
 G401 a421) fun a402 =>
 aA a380 false (fun G405 =>
 ab PP (.bld [.nil,.nil] [(0,1,(.c a390)),(1,1,(.c a402))]) h97 fun a420 =>
 G405 a420) fun a406 =>
 aA a380 false (fun G409 =>
 ab PP (.call aC [(.c a382),(.c a406)]) h97 fun a419 =>
 G409 a419) fun a410 =>
 aA a380 false (fun G413 =>
 vbin .neq a410 (.int .i64 100) fun a418 =>
 G413 a418) fun a414 =>
 ab PP (.pick (.c a380) (.c (.bool true)) (.c a414)) h97 fun a417 =>
 vcond a417 (K (.bool false) h97) (
 aG [] []/\J98 [(f74 1),(f74 5),(f74 6),(f74 7)] h97)) /\
 ab PP (.fadd (.c (f43 7)) 0) h72 fun a444 =>
 ab PP (.ld (.c a444) 1 false) h72 fun a445 =>
 ab PP (.fadd (.c (f43 7)) 1) h72 fun a446 =>
 ab PP (.ld (.c a446) 1 false) h72 fun a447 =>
 ab PP (.bldS false 1 1 (.bool false) [(0,(.c (.bool true)))]) h72 fun a448 =>
 aa PP (.bldS true 1 0 (.bool false) []) h72 fun a449 h450 =>
 ((ab PP (.fadd (.c (f43 7)) 0) h450 fun a451=>aG [a451] [a444])/\(ab PP (.ld (.c a444) 1 false) h450 fun a452=>aG [a452] [a445])/\(ab PP (.fadd (.c (f43 7)) 1) h450 fun a453=>aG [a453] [a446])/\(ab PP (.ld (.c a446) 1 false) h450 fun a454=>aG [a454] [a447])/\True) /\
 aa PP (.app (.c a449) (.c a447) 1 1 (.bool false)) h450 fun a455 h456 =>
 ((ab PP (.fadd (.c (f43 7)) 0) h456 fun a457=>aG [a457] [a444])/\(ab PP (.ld (.c a444) 1 false) h456 fun a458=>aG [a458] [a445])/\True) /\
 aa PP (.app (.c a455) (.c a448) 1 1 (.bool false)) h456 fun a459 h460 =>
 ((ab PP (.fadd (.c (f43 7)) 0) h460 fun a461=>aG [a461] [a444])/\(ab PP (.ld (.c a444) 1 false) h460 fun a462=>aG [a462] [a445])/\True) /\
 ab PP (.bld [.nil,.nil] [(0,1,(.c a445)),(1,1,(.c a459))]) h460 fun a463 =>
 aa PP (.alloc (.agg [.nil,.nil])) h460 fun a464 h465 =>
 ((ab PP (.fadd (.c (f43 7)) 0) h465 fun a466=>aG [a466] [a444])/\(ab PP (.ld (.c a444) 1 false) h465 fun a467=>aG [a467] [a445])/\(ab PP (.fadd (.c (f43 7)) 1) h465 fun a468=>aG [a468] [a446])/\(ab PP (.ld (.c a446) 1 false) h465 fun a469=>aG [a469] [a447])/\True) /\
 aa PP (.st (.c a464) (.c a463) 2) h465 fun a470 h471 =>
 aG [] []/\J73 [(f43 1),(f43 5),(f43 6),(f43 7),a65,a464] h471) /\
 aa PP (.fadd (.c a38) 0) h41 fun a472 h473 =>
 aa PP (.ld (.c a472) 1 false) h473 fun a474 h475 =>
 aS a474 h475 fun a476 =>
 aa PP (.fadd (.c a14) 7) h475 fun a477 h478 =>
 aa PP (.ld (.c a477) 1 false) h478 fun a479 h480 =>
 aS a479 h480 fun a481 =>
 vbin .neq a476 a481 fun a482 =>
 vguard a482 false (fun G483 =>
 aa PP (.fadd (.c a38) 1) h480 fun a486 h487 =>
 G483 a486 h487) h480 fun a484 h485 =>
 vguard a482 false (fun G488 =>
 aa PP (.ld (.c a484) 1 false) h485 fun a491 h492 =>
 G488 a491 h492) h485 fun a489 h490 =>
 vguard a482 false (fun G493 =>
 aS a489 h490 fun a496 =>
 G493 a496 h490) h490 fun a494 h495 =>
 vguard a482 false (fun G497 =>
 aa PP (.fadd (.c a14) 2) h495 fun a500 h501 =>
 G497 a500 h501) h495 fun a498 h499 =>
 vguard a482 false (fun G502 =>
 aa PP (.ld (.c a498) 1 false) h499 fun a505 h506 =>
 G502 a505 h506) h499 fun a503 h504 =>
 vguard a482 false (fun G507 =>
 vbin .neq a494 a503 fun a510 =>
 G507 a510 h504) h504 fun a508 h509 =>
 aa PP (.pick (.c a482) (.c (.bool true)) (.c a508)) h509 fun a511 h512 =>
 vguard a511 false (fun G513 =>
 aa PP (.fadd (.c a38) 0) h512 fun a516 h517 =>
 G513 a516 h517) h512 fun a514 h515 =>
 vguard a511 false (fun G518 =>
 aa PP (.ld (.c a514) 1 false) h515 fun a521 h522 =>
 G518 a521 h522) h515 fun a519 h520 =>
 vguard a511 false (fun G523 =>
 aa PP (.fadd (.c a38) 0) h520 fun a526 h527 =>
 G523 a526 h527) h520 fun a524 h525 =>
 vguard a511 false (fun G528 =>
 aa PP (.ld (.c a524) 1 false) h525 fun a531 h532 =>
 G528 a531 h532) h525 fun a529 h530 =>
 vguard a511 false (fun G533 =>
 aS a529 h530 fun a536 =>
 G533 a536 h530) h530 fun a534 h535 =>
 vguard a511 false (fun G537 =>
 vbin .sub a534 (.int .i64 1) fun a540 =>
 G537 a540 h535) h535 fun a538 h539 =>
 vguard a511 false (fun G541 =>
 aa PP (.iadd (.c a519) (.c a538) 1) h539 fun a544 h545 =>
 G541 a544 h545) h539 fun a542 h543 =>
 vguard a511 false (fun G546 =>
 aa PP (.ld (.c a542) 1 false) h543 fun a549 h550 =>
 G546 a549 h550) h543 fun a547 h548 =>
 aa PP (.pick (.c a511) (.c (.bool true)) (.c a547)) h548 fun a551 h552 =>
 vcond a551 (K (.bool false) h552) (
 aG [] []/\J42 [a1,a5,a14,a38] h552))
theorem me (a0:D) (a1:D) (h0:Heap) (K:HKq):g9 a0 a1 h0 K=ku hZ K [a0,a1] h0:=by kernel_rfl
end Go.Am
namespace Go.Am
open Go Go.Proofs
def fsz0 (f:FuncId):Option aJ:=match f with
 | 9=>some oY
 | 15=>some mv
 | 16=>some kI
 | 21=>some pU
 | 22=>some nq
 | 24=>some sC
 | 25=>some uK
 | 26=>some qg
 | 27=>some xP
 | 40=>some cc
 | 41=>some kH
 | 42=>some mu
 | 43=>some pQ
 | 44=>some sx
 | 45=>some sk
 | 46=>some uJ
 | 47=>some oj
 | 60=>some bj
 | 61=>some om
 | 62=>some gH
 | 63=>some fV
 | 64=>some jE
 | 65=>some aW
 | 66=>some iW
 | 69=>some uI
 | 70=>some kL
 | 71=>some su
 | 72=>some iX
 | 73=>some fN
 | 74=>some cO
 | _=>none
theorem Lm {f:FuncId}{F:aJ}(h:fsz0 f=some F):∃fz loops dr,cFn PP fz f loops dr=some F/\wJ PP F.nt dr:=by
 unfold fsz0 at h
 split at h
 ·cases h;exact⟨_,_,_,tq,av _ _ _⟩
 ·cases h;exact⟨_,_,_,np,av _ _ _⟩
 ·cases h;exact⟨_,_,_,mw,av _ _ _⟩
 ·cases h;exact⟨_,_,_,qh,av _ _ _⟩
 ·cases h;exact⟨_,_,_,sh,av _ _ _⟩
 ·cases h;exact⟨_,_,_,sy,av _ _ _⟩
 ·cases h;exact⟨_,_,_,tP,av _ _ _⟩
 ·cases h;exact⟨_,_,_,uH,av _ _ _⟩
 ·cases h;exact⟨_,_,_,zQ,av _ _ _⟩
 ·cases h;exact⟨_,_,_,dq,av _ _ _⟩
 ·cases h;exact⟨_,_,_,mq,av _ _ _⟩
 ·cases h;exact⟨_,_,_,nj,av _ _ _⟩
 ·cases h;exact⟨_,_,_,qd,av _ _ _⟩
 ·cases h;exact⟨_,_,_,sw,av _ _ _⟩
 ·cases h;exact⟨_,_,_,sj,av _ _ _⟩
 ·cases h;exact⟨_,_,_,tO,av _ _ _⟩
 ·cases h;exact⟨_,_,_,oX,av _ _ _⟩
 ·cases h;exact⟨_,_,_,bC,av _ _ _⟩
 ·cases h;exact⟨_,_,_,oZ,av _ _ _⟩
 ·cases h;exact⟨_,_,_,jl,av _ _ _⟩
 ·cases h;exact⟨_,_,_,ew,av _ _ _⟩
 ·cases h;exact⟨_,_,_,kU,av _ _ _⟩
 ·cases h;exact⟨_,_,_,bp,av _ _ _⟩
 ·cases h;exact⟨_,_,_,kg,av _ _ _⟩
 ·cases h;exact⟨_,_,_,tN,av _ _ _⟩
 ·cases h;exact⟨_,_,_,mE,av _ _ _⟩
 ·cases h;exact⟨_,_,_,ss,av _ _ _⟩
 ·cases h;exact⟨_,_,_,mJ,av _ _ _⟩
 ·cases h;exact⟨_,_,_,kJ,av _ _ _⟩
 ·cases h;exact⟨_,_,_,dZ,av _ _ _⟩
 ·cases h
def fsz1 (f:FuncId):Option aJ:=match f with
 | 75=>some bh
 | 77=>some mD
 | 78=>some sr
 | 79=>some gK
 | 80=>some dB
 | 81=>some jG
 | 82=>some mF
 | 83=>some fg
 | 84=>some qf
 | 85=>some dT
 | 86=>some iZ
 | 87=>some cY
 | 88=>some kK
 | 89=>some cV
 | 99=>some nG
 | 101=>some iY
 | _=>none
theorem Ll {f:FuncId}{F:aJ}(h:fsz1 f=some F):∃fz loops dr,cFn PP fz f loops dr=some F/\wJ PP F.nt dr:=by
 unfold fsz1 at h
 split at h
 ·cases h;exact⟨_,_,_,bB,av _ _ _⟩
 ·cases h;exact⟨_,_,_,nH,av _ _ _⟩
 ·cases h;exact⟨_,_,_,sq,av _ _ _⟩
 ·cases h;exact⟨_,_,_,jn,av _ _ _⟩
 ·cases h;exact⟨_,_,_,fh,av _ _ _⟩
 ·cases h;exact⟨_,_,_,kY,av _ _ _⟩
 ·cases h;exact⟨_,_,_,nI,av _ _ _⟩
 ·cases h;exact⟨_,_,_,jF,av _ _ _⟩
 ·cases h;exact⟨_,_,_,uG,av _ _ _⟩
 ·cases h;exact⟨_,_,_,fA,av _ _ _⟩
 ·cases h;exact⟨_,_,_,kn,av _ _ _⟩
 ·cases h;exact⟨_,_,_,eQ,av _ _ _⟩
 ·cases h;exact⟨_,_,_,mB,av _ _ _⟩
 ·cases h;exact⟨_,_,_,fW,av _ _ _⟩
 ·cases h;exact⟨_,_,_,so,av _ _ _⟩
 ·cases h;exact⟨_,_,_,km,av _ _ _⟩
 ·cases h
def fsz (f:FuncId):Option aJ:=match fsz0 f with
 | some F=>some F
 | none=>match fsz1 f with
 | some F=>some F
 | none=>none
theorem NU {f:FuncId}{F:aJ}(h:fsz f=some F):∃fz loops dr,cFn PP fz f loops dr=some F/\wJ PP F.nt dr:=by
 unfold fsz at h
 split at h
 ·rename_i h1;cases h;exact Lm h1
 split at h
 ·rename_i h1;cases h;exact Ll h1
 cases h
theorem MA:∀f F,fsz f=some F->∀ds K h,Kr PP F ds K h->af PP f ds h K:=by
 intro f F hf ds K h hv
 obtain⟨fz,loops,dr,h1,h2⟩:=NU hf
 exact zA h1 h2 hv
end Go.Am
