/- The texts of the functions of this chapter, as the abstract machine has them. No condition. -/
import Derived.Test.YtllpdgfanfffnaaGreatProg
import Derived.KernelRfl
import Derived.Test.YtllpdgfanfffnaaGreatA4
set_option linter.unnecessarySimpa false
set_option linter.defProp false
set_option linter.unusedSectionVars false
set_option linter.unusedSimpArgs false
set_option linter.unusedVariables false
namespace Go.Am
open Go Go.Proofs
noncomputable abbrev PP:Program:=Tryz.prog
abbrev fK:FuncId:=4
abbrev eO:FuncId:=8
abbrev gB:FuncId:=9
abbrev jW:FuncId:=10
abbrev bS:FuncId:=12
abbrev jU:FuncId:=13
abbrev nJ:FuncId:=15
abbrev nI:FuncId:=17
abbrev bT:FuncId:=18
abbrev iP:FuncId:=20
abbrev wW:FuncId:=22
abbrev iD:FuncId:=23
abbrev iM:FuncId:=25
abbrev fV:FuncId:=26
abbrev nK:FuncId:=27
abbrev dI:FuncId:=28
abbrev ju:FuncId:=30
abbrev jX:FuncId:=31
abbrev aj:FuncId:=32
abbrev gD:FuncId:=33
abbrev bV:FuncId:=34
abbrev bR:FuncId:=35
abbrev aQ:FuncId:=36
abbrev aM:FuncId:=37
abbrev aI:FuncId:=38
abbrev bt:FuncId:=39
abbrev eN:FuncId:=40
abbrev aS:FuncId:=41
abbrev aF:FuncId:=42
abbrev aO:FuncId:=43
abbrev iO:FuncId:=44
abbrev cY:FuncId:=45
abbrev eM:FuncId:=46
abbrev cL:FuncId:=47
abbrev sj:FuncId:=48
abbrev mz:FuncId:=49
abbrev iC:FuncId:=50
abbrev dq:FuncId:=51
abbrev bm:FuncId:=52
abbrev oA:FuncId:=55
abbrev aP:FuncId:=56
abbrev cQ:FuncId:=58
abbrev jG:FuncId:=59
abbrev bP:FuncId:=60
abbrev aC:FuncId:=61
abbrev cu:FuncId:=62
abbrev dM:FuncId:=63
abbrev gA:FuncId:=65
abbrev ff:FuncId:=66
abbrev fe:FuncId:=67
abbrev gC:FuncId:=68
abbrev iL:FuncId:=69
abbrev cR:FuncId:=70
abbrev lZ:FuncId:=71
abbrev sm:FuncId:=72
abbrev jV:FuncId:=73
abbrev iN:FuncId:=74
abbrev dn:FuncId:=75
abbrev um:FuncId:=76
abbrev wX:FuncId:=77
abbrev pX:FuncId:=78
abbrev dt:FuncId:=79
abbrev bF:FuncId:=80
abbrev oz:FuncId:=81
abbrev pW:FuncId:=82
abbrev bZ:FuncId:=83
abbrev dH:FuncId:=84
abbrev cj:FuncId:=85
abbrev bH:FuncId:=87
abbrev oD:FuncId:=88
abbrev sk:FuncId:=89
abbrev cM:FuncId:=90
abbrev dX:FuncId:=91
abbrev kz:FuncId:=92
abbrev fc:FuncId:=93
abbrev yR:FuncId:=94
abbrev my:FuncId:=95
abbrev w0:FuncId:=96
abbrev nH:FuncId:=97
abbrev bq:FuncId:=98
abbrev lh:FuncId:=99
abbrev cC:FuncId:=100
abbrev jt:FuncId:=101
abbrev gi:FuncId:=102
abbrev hZ:FuncId:=103
abbrev gz:FuncId:=104
abbrev dZ:FuncId:=105
abbrev fJ:FuncId:=106
abbrev jc:FuncId:=107
abbrev uq:FuncId:=108
abbrev ll:FuncId:=109
abbrev lY:FuncId:=110
abbrev yQ:FuncId:=111
abbrev oE:FuncId:=112
abbrev wZ:FuncId:=113
abbrev eW:FuncId:=114
abbrev th:FuncId:=115
abbrev bB:FuncId:=116
abbrev kA:FuncId:=122
abbrev wY:FuncId:=123
abbrev fL:FuncId:=124
abbrev cX:FuncId:=125
abbrev iE:FuncId:=126
abbrev pY:FuncId:=127
abbrev ln:FuncId:=129
abbrev eV:FuncId:=130
abbrev oC:FuncId:=131
abbrev uo:FuncId:=132
abbrev lj:FuncId:=133
def de:Option aA->ACode
  | some F=>F.code
  | none=>.skip
end Go.Am
namespace Go.Am
open Go Go.Proofs
def gI:Nat->Option (List Nat×List Nat)
  | 1000026=>some ([7],[])|10=>some ([7,9,10],[11])|1000012=>some ([7,9,10,11],[])|1000019=>some ([7,9,10,11],[12])|14=>some ([7,9,10,11],[12,13])|1000016=>some ([7,9,10,11,13],[12])|21=>some ([7,9,10,11,12],[14])|_=>none
def ja:Nat->Option (List Nat×List Nat×List Nat)
  | 16=>some ([0,1,0,7,15,0,32,0,224,480,1023],[],[])|23=>some ([0,1,0,7,15,0,32,0,224,480,0,2016,4064,8191,16383],[],[])|_=>none
noncomputable def fR:aA:=⟨91,de (cFn PP true fK gI (cDr PP 91 ja)),
  [.t 6]⟩
theorem pE:cFn PP true fK gI (cDr PP 91 ja)=some fR:=by kernel_rfl
def ix (h82:Heap) (a23:D) (f68:Nat->D) (a31:D) (f81:Nat->D) (a6:D) (J76:List D->Heap->Prop) (K:D->Heap->Prop):Prop :=
  ∃(I84:Nat->List D->Heap->Prop) (n₀:Nat),I84 n₀ [(.int .i64 0)] h82/\∀(n85:Nat) (f86:Nat->D) (h87:Heap),I84 n85 [f86 14] h87 ->
  aa PP (.fadd (.c a23) 1) h87 fun a88 h89 =>
  aa PP (.ld (.c a88) 1 false) h89 fun a90 h91 =>
  aa PP (.iadd (.c a90) (.c (f68 11)) 1) h91 fun a92 h93 =>
  aa PP (.ld (.c a92) 1 false) h93 fun a94 h95 =>
  bj a94 h95 fun a96 =>
  vbin .lss (f86 14) a96 fun a97 =>
  vcond a97 (af PP (.fadd (.c a31) 1) h95 fun a98 =>
  af PP (.ld (.c a98) 1 false) h95 fun a99 =>
  af PP (.iadd (.c a99) (.c (f81 12)) 1) h95 fun a100 =>
  af PP (.ld (.c a100) 1 false) h95 fun a101 =>
  af PP (.fadd (.c a23) 1) h95 fun a102 =>
  af PP (.ld (.c a102) 1 false) h95 fun a103 =>
  af PP (.iadd (.c a103) (.c (f68 11)) 1) h95 fun a104 =>
  af PP (.ld (.c a104) 1 false) h95 fun a105 =>
  af PP (.iadd (.c a105) (.c (f86 14)) 1) h95 fun a106 =>
  af PP (.ld (.c a106) 1 false) h95 fun a107 =>
  af PP (.call fV [(.c a101),(.c a107)]) h95 fun a108 =>
  vun .not a108 fun a109 =>
  vcond a109 (K (.bool false) h95) (
  vbin .add (f86 14) (.int .i64 1) fun a110 =>
  aW [a6,a23,a31,(f68 11),(f81 12)] [a6,a23,a31,(f68 11),(f81 12)]/\∃m,m<n85/\I84 m [a110] h95)) (
  aW [a6,a23,a31,(f68 11)] [a6,a23,a31,(f68 11)]/\J76 [] h95)
def iw (h73:Heap) (a31:D) (a6:D) (a23:D) (f68:Nat->D) (J80:List D->Heap->Prop):Prop :=
  ∃(I111:Nat->List D->Heap->Prop) (n₀:Nat),I111 n₀ [(.int .i64 (-1)),(.int .i64 0)] h73/\∀(n112:Nat) (f113:Nat->D) (h114:Heap),I111 n112 [f113 12,f113 13] h114 ->
  aa PP (.fadd (.c a31) 0) h114 fun a115 h116 =>
  aa PP (.ld (.c a115) 1 false) h116 fun a117 h118 =>
  bj a117 h118 fun a119 =>
  vbin .lss (f113 13) a119 fun a120 =>
  vcond a120 (∃(J121:List D->Heap->Prop),(∀(f122:Nat->D) (h123:Heap),J121 [f122 12] h123 ->
  vbin .add (f113 13) (.int .i64 1) fun a124 =>
  aW [a6,a23,a31,(f68 11)] [a6,a23,a31,(f68 11)]/\∃m,m<n112/\I111 m [(f122 12),a124] h123) /\
  af PP (.fadd (.c a31) 0) h118 fun a125 =>
  af PP (.ld (.c a125) 1 false) h118 fun a126 =>
  af PP (.iadd (.c a126) (.c (f113 13)) 1) h118 fun a127 =>
  af PP (.ld (.c a127) 1 false) h118 fun a128 =>
  af PP (.fadd (.c a23) 0) h118 fun a129 =>
  af PP (.ld (.c a129) 1 false) h118 fun a130 =>
  af PP (.iadd (.c a130) (.c (f68 11)) 1) h118 fun a131 =>
  af PP (.ld (.c a131) 1 false) h118 fun a132 =>
  vbin .eql a128 a132 fun a133 =>
  vcond a133 (aW [a6,a23,a31,(f68 11),(f113 13)] [a6,a23,a31,(f68 11),(f113 13)]/\J121 [(f113 13)] h118) (
  aW [a6,a23,a31,(f68 11),(f113 13)] [a6,a23,a31,(f68 11),(f113 13)]/\J121 [(f113 12)] h118)) (
  aW [a6,a23,a31,(f68 11)] [a6,a23,a31,(f68 11)]/\J80 [(f113 12)] h118)
def iu (h62:Heap) (a23:D) (a6:D) (a31:D) (J63:List D->Heap->Prop) (K:D->Heap->Prop):Prop :=
  ∃(I66:Nat->List D->Heap->Prop) (n₀:Nat),I66 n₀ [(.int .i64 0)] h62/\∀(n67:Nat) (f68:Nat->D) (h69:Heap),I66 n67 [f68 11] h69 ->
  aa PP (.fadd (.c a23) 0) h69 fun a70 h71 =>
  aa PP (.ld (.c a70) 1 false) h71 fun a72 h73 =>
  bj a72 h73 fun a74 =>
  vbin .lss (f68 11) a74 fun a75 =>
  vcond a75 (∃(J76:List D->Heap->Prop),(∀(f77:Nat->D) (h78:Heap),J76 [] h78 ->
  vbin .add (f68 11) (.int .i64 1) fun a79 =>
  aW [a6,a23,a31] [a6,a23,a31]/\∃m,m<n67/\I66 m [a79] h78) /\
  ∃(J80:List D->Heap->Prop),(∀(f81:Nat->D) (h82:Heap),J80 [f81 12] h82 ->
  vbin .lss (f81 12) (.int .i64 0) fun a83 =>
  vcond a83 (K (.bool false) h82) (
  ix h82 a23 f68 a31 f81 a6 J76 K)) /\
  iw h73 a31 a6 a23 f68 J80) (
  aW [a6] [a6]/\J63 [] h73)
def kP (a0:D) (a1:D) (a2:D) (h0:Heap) (K:D->Heap->Prop):Prop :=
  aa PP (.box (.c a0)) h0 fun a4 h5 =>
  ah PP eO [] h5 fun a6 h7 =>
  vun .not a6 fun a8 =>
  vcond a8 (K (.bool false) h7) (
  aa PP (.ld (.c a4) 1 true) h7 fun a9 h10 =>
  ah PP jW [a9] h10 fun a11 h12 =>
  ah PP gB [a11,a1] h12 fun a13 h14 =>
  aa PP (.alloc (.agg [(.int .i64 0),(.int .i64 0),(.int .i64 0),(.int .i64 0),(.int .i64 0),.nil,.nil,.nil])) h14 fun a15 h16 =>
  aa PP (.st (.c a15) (.c a13) 8) h16 fun a17 h18 =>
  aa PP (.ld (.c a15) 8 true) h18 fun a19 h20 =>
  ah PP bS [a19] h20 fun a21 h22 =>
  aa PP (.alloc (.agg [.nil,.nil])) h22 fun a23 h24 =>
  aa PP (.st (.c a23) (.c a21) 2) h24 fun a25 h26 =>
  aa PP (.ld (.c a15) 8 true) h26 fun a27 h28 =>
  ah PP iM [a27,a2] h28 fun a29 h30 =>
  aa PP (.alloc (.agg [.nil,.nil])) h30 fun a31 h32 =>
  aa PP (.st (.c a31) (.c a29) 2) h32 fun a33 h34 =>
  aa PP (.ld (.c a15) 8 true) h34 fun a35 h36 =>
  aa PP (.ld (.c a23) 2 true) h36 fun a37 h38 =>
  ah PP bT [a35,a37] h38 fun a39 h40 =>
  vbin .neq a39 (.int .i64 0) fun a41 =>
  vguard a41 false (fun G42 =>
  aa PP (.ld (.c a15) 8 true) h40 fun a45 h46 =>
  G42 a45 h46) h40 fun a43 h44 =>
  vguard a41 false (fun G47 =>
  aa PP (.ld (.c a31) 2 true) h44 fun a50 h51 =>
  G47 a50 h51) h44 fun a48 h49 =>
  vguard a41 false (fun G52 =>
  ah PP bT [a43,a48] h49 fun a55 h56 =>
  G52 a55 h56) h49 fun a53 h54 =>
  vguard a41 false (fun G57 =>
  vbin .neq a53 (.int .i64 0) fun a60 =>
  G57 a60 h54) h54 fun a58 h59 =>
  aa PP (.pick (.c a41) (.c (.bool true)) (.c a58)) h59 fun a61 h62 =>
  vcond a61 (K (.bool false) h62) (
  ∃(J63:List D->Heap->Prop),(∀(f64:Nat->D) (h65:Heap),J63 [] h65 ->
  K a6 h65) /\
  iu h62 a23 a6 a31 J63 K))
theorem pt (a0:D) (a1:D) (a2:D) (h0:Heap) (K:D->Heap->Prop):kP a0 a1 a2 h0 K=vcC PP fR.code (fun x e h'=>match x with|.exit _=>False|.pan=>False|.jump _=>False|_=>bp PP fR.res K e h') (params [a0,a1,a2] 0) h0:=by kernel_rfl
def qa:Nat->Option (List Nat×List Nat)
  | 6000008=>some ([],[])|_=>none
def s7:Nat->Option (List Nat×List Nat×List Nat)
  | 7=>some ([0,0,2,7,15,31,63,63,191,511,1023,2047,4095,8191,8191,32767,65535,131071],[],[])|_=>none
def nj:aA:=⟨76,
  .seq (.reg [⟨(some 0),.mov (.c (.bool false)),none⟩]) <|
  .seq (.reg [⟨(some 5),.call ju [(.c (.int .i64 3)),(.c (.bool false))],none⟩,
    ⟨(some 1),.alloc (.agg [(.int .i64 0),(.int .i64 0),(.int .i64 0),(.int .i64 0),(.int .i64 0),.nil,.nil,.nil]),none⟩,
    ⟨none,.st (.t 1) (.t 5) 8,none⟩]) <|
  .seq (.reg [⟨(some 6),.call ju [(.c (.int .i64 2)),(.c (.bool true))],none⟩,
    ⟨(some 2),.alloc (.agg [(.int .i64 0),(.int .i64 0),(.int .i64 0),(.int .i64 0),(.int .i64 0),.nil,.nil,.nil]),none⟩,
    ⟨none,.st (.t 2) (.t 6) 8,none⟩]) <|
  .seq (.reg [⟨(some 7),.ld (.t 1) 8 true,none⟩,
    ⟨(some 8),.call bS [(.t 7)],none⟩,
    ⟨(some 3),.alloc (.agg [.nil,.nil]),none⟩,
    ⟨none,.st (.t 3) (.t 8) 2,none⟩]) <|
  .seq (.reg [⟨(some 9),.ld (.t 2) 8 true,none⟩,
    ⟨(some 10),.call bS [(.t 9)],none⟩,
    ⟨(some 4),.alloc (.agg [.nil,.nil]),none⟩,
    ⟨none,.st (.t 4) (.t 10) 2,none⟩]) <|
  .seq (.seq (.reg [⟨(some 11),.ld (.t 1) 8 true,none⟩,
    ⟨(some 12),.ld (.t 3) 2 true,none⟩,
    ⟨(some 13),.call bT [(.t 11),(.t 12)],none⟩,
    ⟨(some 14),.bin .neq (.t 13) (.c (.int .i64 0)),none⟩,
    ⟨(some 15),.mov (.t 14),none⟩,
    ⟨(some 16),.ld (.t 2) 8 true,some (15,false)⟩,
    ⟨(some 17),.ld (.t 3) 2 true,some (15,false)⟩,
    ⟨(some 18),.call bT [(.t 16),(.t 17)],some (15,false)⟩,
    ⟨(some 19),.bin .neq (.t 18) (.c (.int .i64 0)),some (15,false)⟩,
    ⟨(some 20),.pick (.t 15) (.c (.bool true)) (.t 19),none⟩,
    ⟨(some 21),.mov (.t 20),none⟩,
    ⟨(some 22),.ld (.t 1) 8 true,some (21,false)⟩,
    ⟨(some 23),.ld (.t 4) 2 true,some (21,false)⟩,
    ⟨(some 24),.call bT [(.t 22),(.t 23)],some (21,false)⟩,
    ⟨(some 25),.bin .neq (.t 24) (.c (.int .i64 100)),some (21,false)⟩,
    ⟨(some 26),.pick (.t 21) (.c (.bool true)) (.t 25),none⟩,
    ⟨(some 27),.mov (.t 26),none⟩,
    ⟨(some 28),.ld (.t 1) 8 true,some (27,false)⟩,
    ⟨(some 29),.bld [.nil,.nil] [],some (27,false)⟩,
    ⟨(some 30),.call bT [(.t 28),(.t 29)],some (27,false)⟩,
    ⟨(some 31),.bin .neq (.t 30) (.c (.int .i64 100)),some (27,false)⟩,
    ⟨(some 32),.pick (.t 27) (.c (.bool true)) (.t 31),none⟩]) <|
  .cond (.t 32) (.seq (.reg [⟨(some 0),.mov (.c (.bool false)),none⟩]) <|
  .ret) (.skip)) <|
  .seq (.seq (.frz (.dreg [⟨(some 33),.ld (.t 1) 8 true,none⟩,
    ⟨(some 34),.ld (.t 1) 8 true,none⟩,
    ⟨(some 35),.call nJ [(.t 34)],none⟩,
    ⟨(some 36),.call iP [(.t 33),(.t 35)],none⟩,
    ⟨(some 37),.bin .neq (.t 36) (.c (.int .i64 0)),none⟩,
    ⟨(some 38),.mov (.t 37),none⟩,
    ⟨(some 39),.ld (.t 2) 8 true,some (38,false)⟩,
    ⟨(some 40),.ld (.t 2) 8 true,some (38,false)⟩,
    ⟨(some 41),.call nJ [(.t 40)],some (38,false)⟩,
    ⟨(some 42),.call iP [(.t 39),(.t 41)],some (38,false)⟩,
    ⟨(some 43),.bin .neq (.t 42) (.c (.int .i64 90)),some (38,false)⟩,
    ⟨(some 44),.pick (.t 38) (.c (.bool true)) (.t 43),none⟩,
    ⟨(some 45),.mov (.t 44),none⟩,
    ⟨(some 46),.ld (.t 1) 8 true,some (45,false)⟩,
    ⟨(some 47),.bld [.nil,.nil] [],some (45,false)⟩,
    ⟨(some 48),.call iP [(.t 46),(.t 47)],some (45,false)⟩,
    ⟨(some 49),.bin .neq (.t 48) (.c (.int .i64 100)),some (45,false)⟩,
    ⟨(some 50),.pick (.t 45) (.c (.bool true)) (.t 49),none⟩] [] [])) <|
  .cond (.t 50) (.seq (.reg [⟨(some 0),.mov (.c (.bool false)),none⟩]) <|
  .ret) (.skip)) <|
  .seq (.reg [⟨(some 51),.ld (.t 3) 2 true,none⟩,
    ⟨(some 52),.bldS true 1 2 (.int .i64 0) [(0,(.c (.int .i64 0))),(1,(.c (.int .i64 1)))],none⟩,
    ⟨(some 53),.bldS true 1 4 (.int .i64 0) [(0,(.c (.int .i64 0))),(1,(.c (.int .i64 1))),(2,(.c (.int .i64 2))),(3,(.c (.int .i64 3)))],none⟩,
    ⟨(some 54),.bldS true 1 3 (.int .i64 0) [(0,(.c (.int .i64 1))),(1,(.c (.int .i64 2))),(2,(.c (.int .i64 3)))],none⟩,
    ⟨(some 55),.bldS true 1 2 .nil [(0,(.t 53)),(1,(.t 54))],none⟩,
    ⟨(some 56),.bld [.nil,.nil] [(0,1,(.t 52)),(1,1,(.t 55))],none⟩,
    ⟨(some 57),.call nI [(.t 51),(.t 56)],none⟩,
    ⟨(some 58),.mov (.t 57),none⟩,
    ⟨(some 59),.ld (.t 4) 2 true,some (58,true)⟩,
    ⟨(some 60),.bldS true 1 2 (.int .i64 0) [(0,(.c (.int .i64 0))),(1,(.c (.int .i64 1)))],some (58,true)⟩,
    ⟨(some 61),.bldS true 1 1 (.int .i64 0) [(0,(.c (.int .i64 0)))],some (58,true)⟩,
    ⟨(some 62),.bldS true 1 3 (.int .i64 0) [(0,(.c (.int .i64 1))),(1,(.c (.int .i64 2))),(2,(.c (.int .i64 3)))],some (58,true)⟩,
    ⟨(some 63),.bldS true 1 2 .nil [(0,(.t 61)),(1,(.t 62))],some (58,true)⟩,
    ⟨(some 64),.bld [.nil,.nil] [(0,1,(.t 60)),(1,1,(.t 63))],some (58,true)⟩,
    ⟨(some 65),.call nI [(.t 59),(.t 64)],some (58,true)⟩,
    ⟨(some 66),.pick (.t 58) (.t 65) (.c (.bool false)),none⟩,
    ⟨(some 67),.mov (.t 66),none⟩,
    ⟨(some 68),.ld (.t 3) 2 true,some (67,true)⟩,
    ⟨(some 69),.call iD [(.t 68),(.c (.int .i64 0)),(.c (.int .i64 3))],some (67,true)⟩,
    ⟨(some 70),.pick (.t 67) (.t 69) (.c (.bool false)),none⟩,
    ⟨(some 71),.mov (.t 70),none⟩,
    ⟨(some 72),.ld (.t 4) 2 true,some (71,true)⟩,
    ⟨(some 73),.call iD [(.t 72),(.c (.int .i64 0)),(.c (.int .i64 3))],some (71,true)⟩,
    ⟨(some 74),.un .not (.t 73),some (71,true)⟩,
    ⟨(some 75),.pick (.t 71) (.t 74) (.c (.bool false)),none⟩,
    ⟨(some 0),.mov (.t 75),none⟩]) <|
  .ret,
  [.t 0]⟩
theorem rW:cFn PP true eO qa (cDr PP 76 s7)=some nj:=by kernel_rfl
def kC:Nat->Option (List Nat×List Nat)
  | 1000008=>some ([4,5],[])|3=>some ([1,4,5],[6])|1000005=>some ([1,4,5,6],[])|_=>none
def mo:Nat->Option (List Nat×List Nat×List Nat)
  | _=>none
noncomputable def kU:aA:=⟨40,de (cFn PP true gB kC (cDr PP 40 mo)),
  [.cell 4 8 true]⟩
theorem vn:cFn PP true gB kC (cDr PP 40 mo)=some kU:=by kernel_rfl
def lI (h14:Heap) (a11:D) (a1:D) (a5:D) (J15:List D->Heap->Prop):Prop :=
  ∃(I23:Nat->List D->Heap->Prop) (n₀:Nat),I23 n₀ [(.int .i64 0)] h14/\∀(n24:Nat) (f25:Nat->D) (h26:Heap),I23 n24 [f25 6] h26 ->
  aa PP (.fadd (.c a11) 7) h26 fun a27 h28 =>
  aa PP (.ld (.c a27) 1 false) h28 fun a29 h30 =>
  bj a29 h30 fun a31 =>
  vbin .lss (f25 6) a31 fun a32 =>
  vcond a32 (∃(J33:List D->Heap->Prop),(∀(f34:Nat->D) (h35:Heap),J33 [] h35 ->
  vbin .add (f25 6) (.int .i64 1) fun a36 =>
  aW [a1,a5,a11] [a1,a5,a11]/\∃m,m<n24/\I23 m [a36] h35) /\
  vbin .rem (f25 6) (.int .i64 32) fun a37 =>
  aa PP (.conv .u64 (.c a37)) h30 fun a38 h39 =>
  vbin .shr a1 a38 fun a40 =>
  vbin .and a40 (.int .u32 1) fun a41 =>
  vbin .eql a41 (.int .u32 1) fun a42 =>
  vguard a42 true (fun G43 =>
  aa PP (.fadd (.c a11) 7) h39 fun a46 h47 =>
  G43 a46 h47) h39 fun a44 h45 =>
  vguard a42 true (fun G48 =>
  aa PP (.ld (.c a44) 1 false) h45 fun a51 h52 =>
  G48 a51 h52) h45 fun a49 h50 =>
  vguard a42 true (fun G53 =>
  G53 (f25 6) h50) h50 fun a54 h55 =>
  vguard a42 true (fun G56 =>
  aa PP (.iadd (.c a49) (.c a54) 14) h55 fun a59 h60 =>
  G56 a59 h60) h55 fun a57 h58 =>
  vguard a42 true (fun G61 =>
  aa PP (.fadd (.c a57) 1) h58 fun a64 h65 =>
  G61 a64 h65) h58 fun a62 h63 =>
  vguard a42 true (fun G66 =>
  aa PP (.fadd (.c a62) 0) h63 fun a69 h70 =>
  G66 a69 h70) h63 fun a67 h68 =>
  vguard a42 true (fun G71 =>
  aa PP (.ld (.c a67) 1 false) h68 fun a74 h75 =>
  G71 a74 h75) h68 fun a72 h73 =>
  vguard a42 true (fun G76 =>
  vbin .eql a72 (.int .i64 1) fun a79 =>
  G76 a79 h73) h73 fun a77 h78 =>
  aa PP (.pick (.c a42) (.c a77) (.c (.bool false))) h78 fun a80 h81 =>
  vcond a80 (aa PP (.fadd (.c a11) 7) h81 fun a82 h83 =>
  aa PP (.ld (.c a82) 1 false) h83 fun a84 h85 =>
  aa PP (.iadd (.c a84) (.c (f25 6)) 14) h85 fun a86 h87 =>
  aa PP (.fadd (.c a86) 1) h87 fun a88 h89 =>
  aa PP (.fadd (.c a88) 0) h89 fun a90 h91 =>
  aa PP (.st (.c a90) (.c (.int .i64 3)) 1) h91 fun a92 h93 =>
  aW [a1,a5,a11,(f25 6)] [a1,a5,a11,(f25 6)]/\J33 [] h93) (
  aW [a1,a5,a11,(f25 6)] [a1,a5,a11,(f25 6)]/\J33 [] h81)) (
  aW [a5,a11] [a5,a11]/\J15 [] h30)
def qu (a0:D) (a1:D) (h0:Heap) (K:D->Heap->Prop):Prop :=
  aa PP (.box (.c a0)) h0 fun a3 h4 =>
  aa PP (.alloc (.agg [(.int .i64 0),(.int .i64 0),(.int .i64 0),(.int .i64 0),(.int .i64 0),.nil,.nil,.nil])) h4 fun a5 h6 =>
  aa PP (.ld (.c a3) 8 true) h6 fun a7 h8 =>
  ah PP jX [a7] h8 fun a9 h10 =>
  aa PP (.alloc (.agg [(.int .i64 0),(.int .i64 0),(.int .i64 0),(.int .i64 0),(.int .i64 0),.nil,.nil,.nil])) h10 fun a11 h12 =>
  aa PP (.st (.c a11) (.c a9) 8) h12 fun a13 h14 =>
  ∃(J15:List D->Heap->Prop),(∀(f16:Nat->D) (h17:Heap),J15 [] h17 ->
  aa PP (.ld (.c a11) 8 true) h17 fun a18 h19 =>
  aa PP (.st (.c a5) (.c a18) 8) h19 fun a20 h21 =>
  aa PP (.ld (.c a5) 8 true) h21 fun a22 _ =>
  K a22 h21) /\
  lI h14 a11 a1 a5 J15
theorem uV (a0:D) (a1:D) (h0:Heap) (K:D->Heap->Prop):qu a0 a1 h0 K=vcC PP kU.code (fun x e h'=>match x with|.exit _=>False|.pan=>False|.jump _=>False|_=>bp PP kU.res K e h') (params [a0,a1] 0) h0:=by kernel_rfl
def mE:Nat->Option (List Nat×List Nat)
  | 1000008=>some ([2,3],[])|4=>some ([2,3],[4])|1000019=>some ([2,3],[])|8=>some ([2,3],[5])|1000010=>some ([2,3,5],[])|1000015=>some ([2,3,5],[])|1000024=>some ([2,3],[])|_=>none
def pM:Nat->Option (List Nat×List Nat×List Nat)
  | 2=>some ([0,0,0,4,12,30,62,12,254,511,1023,2047],[3,11],[999999])|4=>some ([0,1,3,7,15,31,63,127,7,263,775,1799,3847,7943,16383,32767,65535],[],[])|17=>some ([0,1,3,7,15,0,0,64,192,448,0,1216,0,7360,0,31936,0,65536,196608,524224,1048575,2097151,4194303],[7,11,13,15,22],[999999])|23=>some ([0,1,3,7,15,0,32,96,224,480,992,2016,0,8191,16383,32767],[15],[])|_=>none
noncomputable def oj:aA:=⟨153,de (cFn PP true jW mE (cDr PP 153 pM)),
  [.cell 2 8 true]⟩
theorem x3:cFn PP true jW mE (cDr PP 153 pM)=some oj:=by kernel_rfl
def jA (a76:D) (h75:Heap) (a4:D) (a12:D) (J29:List D->Heap->Prop):Prop :=
  ∃(I77:Nat->List D->Heap->Prop) (n₀:Nat),I77 n₀ [a76] h75/\∀(n78:Nat) (f79:Nat->D) (h80:Heap),I77 n78 [f79 5] h80 ->
  vbin .gtr (f79 5) (.int .i64 0) fun a81 =>
  vcond a81 (∃(J82:List D->Heap->Prop),(∀(f83:Nat->D) (h84:Heap),J82 [] h84 ->
  vbin .sub (f79 5) (.int .i64 1) fun a85 =>
  aW [a4,a12] [a4,a12]/\∃m,m<n78/\I77 m [a85] h84) /\
  ah PP aj [a12] h80 fun a86 h87 =>
  vbin .rem a86 (.int .i64 3) fun a88 =>
  ah PP bV [a12,a88] h87 fun a89 h90 =>
  ∃(J91:List D->Heap->Prop),(∀(f92:Nat->D) (h93:Heap),J91 [] h93 ->
  aa PP (.fadd (.c a12) 0) h93 fun a94 h95 =>
  aa PP (.fadd (.c a94) 2) h95 fun a96 h97 =>
  aa PP (.fadd (.c a96) 7) h97 fun a98 h99 =>
  aa PP (.ld (.c a98) 1 false) h99 fun a100 h101 =>
  bj a100 h101 fun a102 =>
  vbin .sub a102 (.int .i64 1) fun a103 =>
  aa PP (.fadd (.c a12) 0) h101 fun a104 h105 =>
  aa PP (.fadd (.c a104) 2) h105 fun a106 h107 =>
  aa PP (.fadd (.c a106) 7) h107 fun a108 h109 =>
  aa PP (.ld (.c a108) 1 false) h109 fun a110 h111 =>
  vbin .add a103 (.int .i64 1) fun a112 =>
  aa PP (.bld [(.int .i64 0),(.int .i64 0)] [(0,1,(.c a112)),(1,1,(.c (.int .i64 0)))]) h111 fun a113 h114 =>
  aa PP (.bld [(.int .i64 0),(.int .i64 0),(.int .i64 0),(.int .i64 0),(.int .i32 0),(.int .i64 0),(.int .i64 0),(.int .i32 0),(.int .i64 0),(.int .i64 0),(.int .i32 0),(.int .i64 0),(.int .i64 0)] [(0,1,(.c (.int .i64 3))),(11,2,(.c a113))]) h114 fun a115 h116 =>
  aa PP (.iadd (.c a110) (.c a103) 14) h116 fun a117 h118 =>
  aa PP (.fadd (.c a117) 1) h118 fun a119 h120 =>
  aa PP (.st (.c a119) (.c a115) 13) h120 fun a121 h122 =>
  ah PP aj [a12] h122 fun a123 h124 =>
  vbin .rem a123 (.int .i64 3) fun a125 =>
  vbin .eql a125 (.int .i64 0) fun a126 =>
  vcond a126 (af PP (.fadd (.c a12) 0) h124 fun a127 =>
  af PP (.fadd (.c a127) 2) h124 fun a128 =>
  af PP (.fadd (.c a128) 7) h124 fun a129 =>
  af PP (.ld (.c a129) 1 false) h124 fun a130 =>
  vbin .add a103 (.int .i64 1) fun a131 =>
  af PP (.bld [(.int .i64 0),(.int .i64 0)] [(0,1,(.c a131)),(1,1,(.c (.int .i64 0)))]) h124 fun a132 =>
  ah PP aj [a12] h124 fun a133 h134 =>
  ((af PP (.fadd (.c a12) 0) h134 fun a135=>aW [a135] [a127])/\(af PP (.fadd (.c a127) 2) h134 fun a136=>aW [a136] [a128])/\(af PP (.fadd (.c a128) 7) h134 fun a137=>aW [a137] [a129])/\(af PP (.ld (.c a129) 1 false) h134 fun a138=>aW [a138] [a130])/\True) /\
  vbin .rem a133 (.int .i64 6) fun a139 =>
  vbin .add (.int .i64 1) a139 fun a140 =>
  ah PP aM [a12] h134 fun a141 h142 =>
  ((af PP (.fadd (.c a12) 0) h142 fun a143=>aW [a143] [a127])/\(af PP (.fadd (.c a127) 2) h142 fun a144=>aW [a144] [a128])/\(af PP (.fadd (.c a128) 7) h142 fun a145=>aW [a145] [a129])/\(af PP (.ld (.c a129) 1 false) h142 fun a146=>aW [a146] [a130])/\True) /\
  ah PP aI [a12] h142 fun a147 h148 =>
  ((af PP (.fadd (.c a12) 0) h148 fun a149=>aW [a149] [a127])/\(af PP (.fadd (.c a127) 2) h148 fun a150=>aW [a150] [a128])/\(af PP (.fadd (.c a128) 7) h148 fun a151=>aW [a151] [a129])/\(af PP (.ld (.c a129) 1 false) h148 fun a152=>aW [a152] [a130])/\True) /\
  ah PP aI [a12] h148 fun a153 h154 =>
  ((af PP (.fadd (.c a12) 0) h154 fun a155=>aW [a155] [a127])/\(af PP (.fadd (.c a127) 2) h154 fun a156=>aW [a156] [a128])/\(af PP (.fadd (.c a128) 7) h154 fun a157=>aW [a157] [a129])/\(af PP (.ld (.c a129) 1 false) h154 fun a158=>aW [a158] [a130])/\True) /\
  af PP (.bld [(.int .i64 0),(.int .i64 0),(.int .i64 0),(.int .i64 0),(.int .i32 0),(.int .i64 0),(.int .i64 0),(.int .i32 0),(.int .i64 0),(.int .i64 0),(.int .i32 0),(.int .i64 0),(.int .i64 0)] [(0,1,(.c (.int .i64 4))),(1,1,(.c a140)),(2,3,(.c a141)),(5,3,(.c a147)),(8,3,(.c a153)),(11,2,(.c a132))]) h154 fun a159 =>
  af PP (.iadd (.c a130) (.c a103) 14) h154 fun a160 =>
  af PP (.fadd (.c a160) 1) h154 fun a161 =>
  aa PP (.st (.c a161) (.c a159) 13) h154 fun a162 h163 =>
  aW [a4,a12,(f79 5)] [a4,a12,(f79 5)]/\J82 [] h163) (
  aW [a4,a12,(f79 5)] [a4,a12,(f79 5)]/\J82 [] h124)) /\
  ah PP aj [a12] h90 fun a164 h165 =>
  vbin .rem a164 (.int .i64 3) fun a166 =>
  vbin .eql a166 (.int .i64 0) fun a167 =>
  vcond a167 (ah PP bR [a12] h165 fun a168 h169 =>
  ah PP aQ [a12] h169 fun a170 h171 =>
  aW [a4,a12,(f79 5)] [a4,a12,(f79 5)]/\J91 [] h171) (
  aW [a4,a12,(f79 5)] [a4,a12,(f79 5)]/\J91 [] h165)) (
  aW [a4,a12] [a4,a12]/\J29 [] h80)
def jz (a174:D) (h173:Heap) (a12:D) (a4:D) (J26:List D->Heap->Prop):Prop :=
  ∃(I175:Nat->List D->Heap->Prop) (n₀:Nat),I175 n₀ [a174] h173/\∀(n176:Nat) (f177:Nat->D) (h178:Heap),I175 n176 [f177 4] h178 ->
  vbin .gtr (f177 4) (.int .i64 0) fun a179 =>
  bf a179 true (fun G180 =>
  G180 a12) fun a181 =>
  bf a179 true (fun G183 =>
  af PP (.fadd (.c a181) 0) h178 fun a259 =>
  G183 a259) fun a184 =>
  bf a179 true (fun G187 =>
  af PP (.fadd (.c a184) 2) h178 fun a258 =>
  G187 a258) fun a188 =>
  bf a179 true (fun G191 =>
  af PP (.fadd (.c a188) 0) h178 fun a257 =>
  G191 a257) fun a192 =>
  bf a179 true (fun G195 =>
  af PP (.ld (.c a192) 1 false) h178 fun a256 =>
  G195 a256) fun a196 =>
  bf a179 true (fun G199 =>
  G199 a12) fun a200 =>
  bf a179 true (fun G202 =>
  af PP (.fadd (.c a200) 0) h178 fun a255 =>
  G202 a255) fun a203 =>
  bf a179 true (fun G206 =>
  af PP (.fadd (.c a203) 2) h178 fun a254 =>
  G206 a254) fun a207 =>
  bf a179 true (fun G210 =>
  af PP (.fadd (.c a207) 1) h178 fun a253 =>
  G210 a253) fun a211 =>
  bf a179 true (fun G214 =>
  af PP (.ld (.c a211) 1 false) h178 fun a252 =>
  G214 a252) fun a215 =>
  bf a179 true (fun G218 =>
  vbin .mul (.int .i64 2) a215 fun a251 =>
  G218 a251) fun a219 =>
  bf a179 true (fun G222 =>
  vbin .rem a196 a219 fun a250 =>
  G222 a250) fun a223 =>
  bf a179 true (fun G226 =>
  vbin .eql a223 (.int .i64 0) fun a249 =>
  G226 a249) fun a227 =>
  af PP (.pick (.c a179) (.c a227) (.c (.bool false))) h178 fun a230 =>
  vcond a230 (aa PP (.fadd (.c a12) 0) h178 fun a231 h232 =>
  aa PP (.fadd (.c a231) 2) h232 fun a233 h234 =>
  aa PP (.fadd (.c a233) 1) h234 fun a235 h236 =>
  aa PP (.ld (.c a235) 1 false) h236 fun a237 h238 =>
  vbin .mul (.int .i64 2) a237 fun a239 =>
  aa PP (.fadd (.c a12) 0) h238 fun a240 h241 =>
  aa PP (.fadd (.c a240) 2) h241 fun a242 h243 =>
  aa PP (.fadd (.c a242) 1) h243 fun a244 h245 =>
  aa PP (.st (.c a244) (.c a239) 1) h245 fun a246 h247 =>
  vbin .sub (f177 4) (.int .i64 1) fun a248 =>
  aW [a4,a12] [a4,a12]/\∃m,m<n176/\I175 m [a248] h247) (
  aW [a4,a12] [a4,a12]/\J26 [] h178)
def uY (a0:D) (h0:Heap) (K:D->Heap->Prop):Prop :=
  aa PP (.box (.c a0)) h0 fun a2 h3 =>
  aa PP (.alloc (.agg [(.int .i64 0),(.int .i64 0),(.int .i64 0),(.int .i64 0),(.int .i64 0),.nil,.nil,.nil])) h3 fun a4 h5 =>
  aa PP (.fadd (.c a2) 0) h5 fun a6 h7 =>
  aa PP (.ld (.c a6) 1 false) h7 fun a8 h9 =>
  aa PP (.bld [.nil,(.int .i64 0),(.int .i64 0),(.int .i64 0),(.int .i64 0),(.int .i64 0),(.int .i64 0),.nil,.nil,.nil] [(0,1,(.c a8))]) h9 fun a10 h11 =>
  aa PP (.box (.c a10)) h11 fun a12 h13 =>
  af PP (.bldS false 1 5 (.int .i64 0) [(0,(.c (.int .i64 4))),(1,(.c (.int .i64 1))),(2,(.c (.int .i64 2))),(3,(.c (.int .i64 8))),(4,(.c (.int .i64 6)))]) h13 fun a14 =>
  ah PP aj [a12] h13 fun a15 h16 =>
  vbin .rem a15 (.int .i64 5) fun a17 =>
  af PP (.iadd (.c a14) (.c a17) 1) h16 fun a18 =>
  af PP (.ld (.c a18) 1 false) h16 fun a19 =>
  af PP (.call gD []) h16 fun a20 =>
  af PP (.bld [(.int .i64 0),(.int .i64 0),(.int .i64 0),(.int .i64 0),(.int .i64 0),.nil,.nil,.nil] [(0,1,(.c a19)),(1,1,(.c (.int .i64 1))),(2,1,(.c (.int .i64 6))),(4,1,(.c (.int .i64 3))),(5,1,(.c a20))]) h16 fun a21 =>
  af PP (.fadd (.c a12) 0) h16 fun a22 =>
  af PP (.fadd (.c a22) 2) h16 fun a23 =>
  aa PP (.st (.c a23) (.c a21) 8) h16 fun a24 h25 =>
  ∃(J26:List D->Heap->Prop),(∀(f27:Nat->D) (h28:Heap),J26 [] h28 ->
  ∃(J29:List D->Heap->Prop),(∀(f30:Nat->D) (h31:Heap),J29 [] h31 ->
  ah PP aj [a12] h31 fun a32 h33 =>
  vbin .rem a32 (.int .i64 3) fun a34 =>
  ah PP bV [a12,a34] h33 fun a35 h36 =>
  ∃(J37:List D->Heap->Prop),(∀(f38:Nat->D) (h39:Heap),J37 [] h39 ->
  af PP (.fadd (.c a12) 0) h39 fun a40 =>
  af PP (.fadd (.c a40) 2) h39 fun a41 =>
  af PP (.fadd (.c a41) 7) h39 fun a42 =>
  af PP (.ld (.c a42) 1 false) h39 fun a43 =>
  af PP (.fadd (.c a12) 0) h39 fun a44 =>
  af PP (.fadd (.c a44) 2) h39 fun a45 =>
  af PP (.fadd (.c a45) 7) h39 fun a46 =>
  af PP (.ld (.c a46) 1 false) h39 fun a47 =>
  bj a47 h39 fun a48 =>
  vbin .sub a48 (.int .i64 1) fun a49 =>
  af PP (.bld [(.int .i64 0),(.int .i64 0),(.int .i64 0),(.int .i64 0),(.int .i32 0),(.int .i64 0),(.int .i64 0),(.int .i32 0),(.int .i64 0),(.int .i64 0),(.int .i32 0),(.int .i64 0),(.int .i64 0)] [(0,1,(.c (.int .i64 5)))]) h39 fun a50 =>
  af PP (.iadd (.c a43) (.c a49) 14) h39 fun a51 =>
  af PP (.fadd (.c a51) 1) h39 fun a52 =>
  aa PP (.st (.c a52) (.c a50) 13) h39 fun a53 h54 =>
  aa PP (.fadd (.c a12) 0) h54 fun a55 h56 =>
  aa PP (.fadd (.c a55) 2) h56 fun a57 h58 =>
  aa PP (.ld (.c a57) 8 true) h58 fun a59 h60 =>
  aa PP (.st (.c a4) (.c a59) 8) h60 fun a61 h62 =>
  aa PP (.ld (.c a4) 8 true) h62 fun a63 _ =>
  K a63 h62) /\
  ah PP aj [a12] h36 fun a64 h65 =>
  vbin .rem a64 (.int .i64 3) fun a66 =>
  vbin .eql a66 (.int .i64 0) fun a67 =>
  vcond a67 (ah PP bR [a12] h65 fun a68 h69 =>
  ah PP aQ [a12] h69 fun a70 h71 =>
  ah PP bt [a12] h71 fun a72 h73 =>
  aW [a4,a12] [a4,a12]/\J37 [] h73) (
  aW [a4,a12] [a4,a12]/\J37 [] h65)) /\
  ah PP aj [a12] h28 fun a74 h75 =>
  vbin .rem a74 (.int .i64 3) fun a76 =>
  jA a76 h75 a4 a12 J29) /\
  ah PP aj [a12] h25 fun a172 h173 =>
  vbin .rem a172 (.int .i64 3) fun a174 =>
  jz a174 h173 a12 a4 J26
theorem xP (a0:D) (h0:Heap) (K:D->Heap->Prop):uY a0 h0 K=vcC PP oj.code (fun x e h'=>match x with|.exit _=>False|.pan=>False|.jump _=>False|_=>bp PP oj.res K e h') (params [a0] 0) h0:=by kernel_rfl
end Go.Am
namespace Go.Am
open Go Go.Proofs
def mI:Nat->Option (List Nat×List Nat)
  | 9000002=>some ([1,2],[3,4,5])|1000009=>some ([1,2,3],[5])|1000017=>some ([2,8],[])|12=>some ([2,3,8,45,46],[47])|_=>none
def pP:Nat->Option (List Nat×List Nat×List Nat)
  | 9=>some ([0,1,3,0,8,7,63],[6],[])|_=>none
noncomputable def ot:aA:=⟨61,de (cFn PP true bS mI (cDr PP 61 pP)),
  [.cell 2 2 true]⟩
theorem x7:cFn PP true bS mI (cDr PP 61 pP)=some ot:=by kernel_rfl
def dU (h41:Heap) (a42:D) (a40:D) (a26:D) (a10:D) (a4:D) (J30:List D->Heap->Prop):Prop :=
  ∃(I43:Nat->List D->Heap->Prop) (n₀:Nat),I43 n₀ [(.int .i64 0)] h41/\∀(n44:Nat) (f45:Nat->D) (h46:Heap),I43 n44 [f45 47] h46 ->
  vbin .lss (f45 47) a42 fun a47 =>
  vcond a47 (aa PP (.iadd (.c a40) (.c (f45 47)) 1) h46 fun a48 h49 =>
  aa PP (.ld (.c a48) 1 false) h49 fun a50 h51 =>
  aa PP (.fadd (.c a26) 1) h51 fun a52 h53 =>
  aa PP (.ld (.c a52) 1 false) h53 fun a54 h55 =>
  aa PP (.look (.int .i64) (.c a10) (.c a50) .nil false) h55 fun a56 h57 =>
  aa PP (.bldS true 1 1 .nil [(0,(.c a56))]) h57 fun a58 h59 =>
  aa PP (.app (.c a54) (.c a58) 1 24 .nil) h59 fun a60 h61 =>
  aa PP (.fadd (.c a26) 1) h61 fun a62 h63 =>
  aa PP (.st (.c a62) (.c a60) 1) h63 fun a64 h65 =>
  vbin .add (f45 47) (.int .i64 1) fun a66 =>
  aW [a4,a10,a26,a40,a42] [a4,a10,a26,a40,a42]/\∃m,m<n44/\I43 m [a66] h65) (
  aW [a4,a26] [a4,a26]/\J30 [] h46)
def oU (h120:Heap) (a121:D) (a119:D) (a105:D) (f8:Nat->D) (a4:D) (J109:List D->Heap->Prop):Prop :=
  ∃(I122:Nat->List D->Heap->Prop) (n₀:Nat),I122 n₀ [(.int .i64 0)] h120/\∀(n123:Nat) (f124:Nat->D) (h125:Heap),I122 n123 [f124 47] h125 ->
  vbin .lss (f124 47) a121 fun a126 =>
  vcond a126 (aa PP (.iadd (.c a119) (.c (f124 47)) 1) h125 fun a127 h128 =>
  aa PP (.ld (.c a127) 1 false) h128 fun a129 h130 =>
  aa PP (.fadd (.c a105) 1) h130 fun a131 h132 =>
  aa PP (.ld (.c a131) 1 false) h132 fun a133 h134 =>
  aa PP (.look (.int .i64) (.c (f8 3)) (.c a129) .nil false) h134 fun a135 h136 =>
  aa PP (.bldS true 1 1 .nil [(0,(.c a135))]) h136 fun a137 h138 =>
  aa PP (.app (.c a133) (.c a137) 1 24 .nil) h138 fun a139 h140 =>
  aa PP (.fadd (.c a105) 1) h140 fun a141 h142 =>
  aa PP (.st (.c a141) (.c a139) 1) h142 fun a143 h144 =>
  vbin .add (f124 47) (.int .i64 1) fun a145 =>
  aW [a4,(f8 3),a105,a119,a121] [a4,(f8 3),a105,a119,a121]/\∃m,m<n123/\I122 m [a145] h144) (
  aW [a4,a105] [a4,a105]/\J109 [] h125)
def u7 (a0:D) (h0:Heap) (K:D->Heap->Prop):Prop :=
  aa PP (.box (.c a0)) h0 fun a2 h3 =>
  aa PP (.alloc (.agg [.nil,.nil])) h3 fun a4 h5 =>
  ∃(I6:Nat->List D->Heap->Prop),(aa PP (.yi (.int .i64)) h5 fun a10 h11 =>
  ∃(J12:List D->Heap->Prop),(∀(f13:Nat->D) (h14:Heap),J12 [f13 5] h14 ->
  bj (f13 5) h14 fun a15 =>
  vbin .gtr a15 (.int .i64 0) fun a16 =>
  vcond a16 (af PP (.iadd (.c (f13 5)) (.c (.int .i64 0)) 1) h14 fun a17 =>
  af PP (.ld (.c a17) 1 false) h14 fun a18 =>
  af PP (.kY (.c (f13 5)) (some (.c (.int .i64 1))) none none 1) h14 fun a19 =>
  0=0/\aW [a2,a4] [a2,a4]/\∃m,I6 m [a10,a18,a19] h14) (
  ah PP aO [a10] h14 fun a20 h21 =>
  ah PP aS [a20] h21 fun a22 h23 =>
  aa PP (.bld [.nil,.nil] [(0,1,(.c a22))]) h23 fun a24 h25 =>
  aa PP (.alloc (.agg [.nil,.nil])) h25 fun a26 h27 =>
  aa PP (.st (.c a26) (.c a24) 2) h27 fun a28 h29 =>
  ∃(J30:List D->Heap->Prop),(∀(f31:Nat->D) (h32:Heap),J30 [] h32 ->
  aa PP (.ld (.c a26) 2 true) h32 fun a33 h34 =>
  aa PP (.st (.c a4) (.c a33) 2) h34 fun a35 h36 =>
  aa PP (.ld (.c a4) 2 true) h36 fun a37 _ =>
  K a37 h36) /\
  aa PP (.fadd (.c a26) 0) h29 fun a38 h39 =>
  aa PP (.ld (.c a38) 1 false) h39 fun a40 h41 =>
  bj a40 h41 fun a42 =>
  dU h41 a42 a40 a26 a10 a4 J30)) /\
  aa PP (.look (.int .i64) (.c a10) (.c (.int .i64 0)) .nil false) h11 fun a67 h68 =>
  aa PP (.nilq false (.c a67)) h68 fun a69 h70 =>
  vcond a69 (aa PP (.ld (.c a2) 8 true) h70 fun a71 h72 =>
  ah PP eN [a71,(.int .i64 0)] h72 fun a73 h74 =>
  aa PP (.ext (.c a73) 0) h74 fun a75 h76 =>
  aa PP (.ext (.c a73) 1) h76 fun a77 h78 =>
  ah PP aF [a75] h78 fun a79 h80 =>
  ah PP aS [a79] h80 fun a81 h82 =>
  aa PP (.mupd (.int .i64) (.c a10) (.c (.int .i64 0)) (.c a81)) h82 fun a83 h84 =>
  ah PP aF [a77] h84 fun a85 h86 =>
  ah PP aS [a85] h86 fun a87 h88 =>
  aa PP (.app (.c .nil) (.c a87) 1 8 (.int .i64 0)) h88 fun a89 h90 =>
  aW [a2,a4,a10] [a2,a4,a10]/\J12 [a89] h90) (
  aW [a2,a4,a10] [a2,a4,a10]/\J12 [.nil] h70))/\∀(n7:Nat) (f8:Nat->D) (h9:Heap),I6 n7 [f8 3,f8 4,f8 5] h9 ->
  ∃(J91:List D->Heap->Prop),(∀(f92:Nat->D) (h93:Heap),J91 [f92 5] h93 ->
  bj (f92 5) h93 fun a94 =>
  vbin .gtr a94 (.int .i64 0) fun a95 =>
  vcond a95 (af PP (.iadd (.c (f92 5)) (.c (.int .i64 0)) 1) h93 fun a96 =>
  af PP (.ld (.c a96) 1 false) h93 fun a97 =>
  af PP (.kY (.c (f92 5)) (some (.c (.int .i64 1))) none none 1) h93 fun a98 =>
  0=0/\aW [a2,a4] [a2,a4]/\∃m,m<n7/\I6 m [(f8 3),a97,a98] h93) (
  ah PP aO [(f8 3)] h93 fun a99 h100 =>
  ah PP aS [a99] h100 fun a101 h102 =>
  aa PP (.bld [.nil,.nil] [(0,1,(.c a101))]) h102 fun a103 h104 =>
  aa PP (.alloc (.agg [.nil,.nil])) h104 fun a105 h106 =>
  aa PP (.st (.c a105) (.c a103) 2) h106 fun a107 h108 =>
  ∃(J109:List D->Heap->Prop),(∀(f110:Nat->D) (h111:Heap),J109 [] h111 ->
  aa PP (.ld (.c a105) 2 true) h111 fun a112 h113 =>
  aa PP (.st (.c a4) (.c a112) 2) h113 fun a114 h115 =>
  aa PP (.ld (.c a4) 2 true) h115 fun a116 _ =>
  K a116 h115) /\
  aa PP (.fadd (.c a105) 0) h108 fun a117 h118 =>
  aa PP (.ld (.c a117) 1 false) h118 fun a119 h120 =>
  bj a119 h120 fun a121 =>
  oU h120 a121 a119 a105 f8 a4 J109)) /\
  aa PP (.look (.int .i64) (.c (f8 3)) (.c (f8 4)) .nil false) h9 fun a146 h147 =>
  aa PP (.nilq false (.c a146)) h147 fun a148 h149 =>
  vcond a148 (aa PP (.ld (.c a2) 8 true) h149 fun a150 h151 =>
  ah PP eN [a150,(f8 4)] h151 fun a152 h153 =>
  aa PP (.ext (.c a152) 0) h153 fun a154 h155 =>
  aa PP (.ext (.c a152) 1) h155 fun a156 h157 =>
  ah PP aF [a154] h157 fun a158 h159 =>
  ah PP aS [a158] h159 fun a160 h161 =>
  aa PP (.mupd (.int .i64) (.c (f8 3)) (.c (f8 4)) (.c a160)) h161 fun a162 h163 =>
  ah PP aF [a156] h163 fun a164 h165 =>
  ah PP aS [a164] h165 fun a166 h167 =>
  aa PP (.app (.c (f8 5)) (.c a166) 1 8 (.int .i64 0)) h167 fun a168 h169 =>
  aW [a2,a4,(f8 3)] [a2,a4,(f8 3)]/\J91 [a168] h169) (
  aW [a2,a4,(f8 3)] [a2,a4,(f8 3)]/\J91 [(f8 5)] h149)
theorem xS (a0:D) (h0:Heap) (K:D->Heap->Prop):u7 a0 h0 K=vcC PP ot.code (fun x e h'=>match x with|.exit _=>False|.pan=>False|.jump _=>False|_=>bp PP ot.res K e h') (params [a0] 0) h0:=by kernel_rfl
def mC:Nat->Option (List Nat×List Nat)
  | 1000009=>some ([1,2],[3])|4=>some ([1,2,4],[3,5])|1000006=>some ([1,2,4,5],[3])|1000014=>some ([2,6],[])|10=>some ([1,2,3,6],[7])|_=>none
def pK:Nat->Option (List Nat×List Nat×List Nat)
  | 12=>some ([0,1,0,0,0,24,56,124,252,511,1023,2047],[9,11],[])|_=>none
noncomputable def od:aA:=⟨62,de (cFn PP true jU mC (cDr PP 62 pK)),
  [.cell 2 2 true]⟩
theorem xW:cFn PP true jU mC (cDr PP 62 pK)=some od:=by kernel_rfl
def oO (h20:Heap) (f13:Nat->D) (a17:D) (a2:D) (a4:D) (J21:List D->Heap->Prop):Prop :=
  ∃(I29:Nat->List D->Heap->Prop) (n₀:Nat),I29 n₀ [(.int .i64 0)] h20/\∀(n30:Nat) (f31:Nat->D) (h32:Heap),I29 n30 [f31 7] h32 ->
  bj (f13 3) h32 fun a33 =>
  vbin .lss (f31 7) a33 fun a34 =>
  vcond a34 (af PP (.fadd (.c a17) 1) h32 fun a35 =>
  af PP (.ld (.c a35) 1 false) h32 fun a36 =>
  af PP (.ld (.c a2) 8 true) h32 fun a37 =>
  af PP (.iadd (.c (f13 3)) (.c (f31 7)) 1) h32 fun a38 =>
  af PP (.ld (.c a38) 1 false) h32 fun a39 =>
  af PP (.call eM [(.c a37),(.c a39)]) h32 fun a40 =>
  af PP (.bldS false 1 1 .nil [(0,(.c a40))]) h32 fun a41 =>
  af PP (.fadd (.c a17) 1) h32 fun a42 =>
  aa PP (.app (.c a36) (.c a41) 1 24 .nil) h32 fun a43 h44 =>
  aa PP (.st (.c a42) (.c a43) 1) h44 fun a45 h46 =>
  vbin .add (f31 7) (.int .i64 1) fun a47 =>
  aW [a2,a4,(f13 3),a17] [a2,a4,(f13 3),a17]/\∃m,m<n30/\I29 m [a47] h46) (
  aW [a4,a17] [a4,a17]/\J21 [] h32)
def oN (a6:D) (h11:Heap) (a2:D) (a4:D) (a10:D) (J12:List D->Heap->Prop):Prop :=
  ∃(I48:Nat->List D->Heap->Prop) (n₀:Nat),I48 n₀ [a6,(.int .i64 0)] h11/\∀(n49:Nat) (f50:Nat->D) (h51:Heap),I48 n49 [f50 3,f50 5] h51 ->
  aa PP (.fadd (.c a2) 7) h51 fun a52 h53 =>
  aa PP (.ld (.c a52) 1 false) h53 fun a54 h55 =>
  bj a54 h55 fun a56 =>
  vbin .lss (f50 5) a56 fun a57 =>
  vcond a57 (∃(J58:List D->Heap->Prop),(∀(f59:Nat->D) (h60:Heap),J58 [f59 3] h60 ->
  vbin .add (f50 5) (.int .i64 1) fun a61 =>
  aW [a2,a4,a10] [a2,a4,a10]/\∃m,m<n49/\I48 m [(f59 3),a61] h60) /\
  aa PP (.iadd (.c a10) (.c (f50 5)) 1) h55 fun a62 h63 =>
  aa PP (.ld (.c a62) 1 false) h63 fun a64 h65 =>
  vguard a64 true (fun G66 =>
  aa PP (.fadd (.c a2) 7) h65 fun a69 h70 =>
  G66 a69 h70) h65 fun a67 h68 =>
  vguard a64 true (fun G71 =>
  aa PP (.ld (.c a67) 1 false) h68 fun a74 h75 =>
  G71 a74 h75) h68 fun a72 h73 =>
  vguard a64 true (fun G76 =>
  G76 (f50 5) h73) h73 fun a77 h78 =>
  vguard a64 true (fun G79 =>
  aa PP (.iadd (.c a72) (.c a77) 14) h78 fun a82 h83 =>
  G79 a82 h83) h78 fun a80 h81 =>
  vguard a64 true (fun G84 =>
  aa PP (.fadd (.c a80) 1) h81 fun a87 h88 =>
  G84 a87 h88) h81 fun a85 h86 =>
  vguard a64 true (fun G89 =>
  aa PP (.fadd (.c a85) 0) h86 fun a92 h93 =>
  G89 a92 h93) h86 fun a90 h91 =>
  vguard a64 true (fun G94 =>
  aa PP (.ld (.c a90) 1 false) h91 fun a97 h98 =>
  G94 a97 h98) h91 fun a95 h96 =>
  vguard a64 true (fun G99 =>
  vbin .eql a95 (.int .i64 3) fun a102 =>
  G99 a102 h96) h96 fun a100 h101 =>
  aa PP (.pick (.c a64) (.c a100) (.c (.bool false))) h101 fun a103 h104 =>
  vcond a103 (aa PP (.fadd (.c a2) 7) h104 fun a105 h106 =>
  aa PP (.ld (.c a105) 1 false) h106 fun a107 h108 =>
  aa PP (.iadd (.c a107) (.c (f50 5)) 14) h108 fun a109 h110 =>
  aa PP (.fadd (.c a109) 1) h110 fun a111 h112 =>
  aa PP (.fadd (.c a111) 11) h112 fun a113 h114 =>
  aa PP (.iadda (.c a113) (.c (.int .i64 0)) 2 1) h114 fun a115 h116 =>
  aa PP (.ld (.c a115) 1 false) h116 fun a117 h118 =>
  ah PP cY [(f50 3),a117] h118 fun a119 h120 =>
  aW [a2,a4,a10,(f50 5)] [a2,a4,a10,(f50 5)]/\J58 [a119] h120) (
  aW [a2,a4,a10,(f50 5)] [a2,a4,a10,(f50 5)]/\J58 [(f50 3)] h104)) (
  aW [a2,a4] [a2,a4]/\J12 [(f50 3)] h55)
def uU (a0:D) (h0:Heap) (K:D->Heap->Prop):Prop :=
  aa PP (.box (.c a0)) h0 fun a2 h3 =>
  aa PP (.alloc (.agg [.nil,.nil])) h3 fun a4 h5 =>
  aa PP (.bldS true 1 1 (.int .i64 0) [(0,(.c (.int .i64 0)))]) h5 fun a6 h7 =>
  aa PP (.ld (.c a2) 8 true) h7 fun a8 h9 =>
  ah PP iO [a8] h9 fun a10 h11 =>
  ∃(J12:List D->Heap->Prop),(∀(f13:Nat->D) (h14:Heap),J12 [f13 3] h14 ->
  aa PP (.bld [.nil,.nil] [(0,1,(.c (f13 3)))]) h14 fun a15 h16 =>
  aa PP (.alloc (.agg [.nil,.nil])) h16 fun a17 h18 =>
  aa PP (.st (.c a17) (.c a15) 2) h18 fun a19 h20 =>
  ∃(J21:List D->Heap->Prop),(∀(f22:Nat->D) (h23:Heap),J21 [] h23 ->
  aa PP (.ld (.c a17) 2 true) h23 fun a24 h25 =>
  aa PP (.st (.c a4) (.c a24) 2) h25 fun a26 h27 =>
  aa PP (.ld (.c a4) 2 true) h27 fun a28 _ =>
  K a28 h27) /\
  oO h20 f13 a17 a2 a4 J21) /\
  oN a6 h11 a2 a4 a10 J12
theorem xM (a0:D) (h0:Heap) (K:D->Heap->Prop):uU a0 h0 K=vcC PP od.code (fun x e h'=>match x with|.exit _=>False|.pan=>False|.jump _=>False|_=>bp PP od.res K e h') (params [a0] 0) h0:=by kernel_rfl
def vU:Nat->Option (List Nat×List Nat)
  | 1000020=>some ([2,3],[])|5=>some ([1,2,3,4,5],[6])|1000014=>some ([1,2,3,4,5],[6])|8=>some ([1,2,3,4,5],[6,7])|1000010=>some ([1,2,3,4,5,7],[6])|14=>some ([1,2,3,4,5],[6,8])|1000016=>some ([1,2,3,4,5,8],[6])|_=>none
def yt:Nat->Option (List Nat×List Nat×List Nat)
  | _=>none
def vq:aA:=⟨66,
  .seq (.reg [⟨(some 1),.box (.t 0),none⟩,
    ⟨(some 2),.alloc (.agg [.nil,.nil]),none⟩]) <|
  .seq (.reg [⟨(some 9),.ld (.t 1) 8 true,none⟩,
    ⟨(some 10),.call wW [(.t 9),(.c (.bool true))],none⟩,
    ⟨(some 3),.alloc (.agg [.nil,.nil]),none⟩,
    ⟨none,.st (.t 3) (.t 10) 2,none⟩]) <|
  .seq (.reg [⟨(some 11),.ld (.t 1) 8 true,none⟩,
    ⟨(some 12),.call iO [(.t 11)],none⟩,
    ⟨(some 4),.mov (.t 12),none⟩]) <|
  .seq (.reg [⟨(some 13),.ld (.t 1) 8 true,none⟩,
    ⟨(some 14),.call cL [(.t 13)],none⟩,
    ⟨(some 5),.mov (.t 14),none⟩]) <|
  .seq (.reg [⟨(some 6),.mov (.c (.bool true)),none⟩]) <|
  .seqj [2,3] [] (.block 0 (.loop [1,2,3,4,5] [6] (.seq (.seq (.reg [⟨(some 15),.mov (.t 6),none⟩]) <|
  .cond (.t 15) (.skip) (.exit 0)) <|
  .block 1 (.seq (.reg [⟨(some 6),.mov (.c (.bool false)),none⟩]) <|
  .seqj [1,2,3,4,5] [6] (.seq (.reg [⟨(some 7),.mov (.c (.int .i64 0)),none⟩]) <|
  .block 2 (.loop [1,2,3,4,5] [6,7] (.seq (.seq (.reg [⟨(some 16),.mov (.t 7),none⟩,
    ⟨(some 17),.fadd (.t 3) 0,none⟩,
    ⟨(some 18),.ld (.t 17) 1 false,none⟩,
    ⟨(some 19),.len (.t 18),none⟩,
    ⟨(some 20),.bin .lss (.t 16) (.t 19),none⟩]) <|
  .cond (.t 20) (.skip) (.exit 2)) <|
  .seqj [1,2,3,4,5,7] [6] (.block 3 (.seq (.reg [⟨(some 23),.fadd (.t 3) 0,none⟩,
    ⟨(some 24),.ld (.t 23) 1 false,none⟩,
    ⟨(some 25),.mov (.t 7),none⟩,
    ⟨(some 26),.iadd (.t 24) (.t 25) 1,none⟩,
    ⟨(some 27),.ld (.t 26) 1 false,none⟩,
    ⟨(some 28),.mov (.t 27),none⟩,
    ⟨(some 29),.ld (.t 1) 8 true,some (28,true)⟩,
    ⟨(some 30),.mov (.t 4),some (28,true)⟩,
    ⟨(some 31),.mov (.t 5),some (28,true)⟩,
    ⟨(some 32),.ld (.t 3) 2 true,some (28,true)⟩,
    ⟨(some 33),.mov (.t 7),some (28,true)⟩,
    ⟨(some 34),.call sj [(.t 29),(.t 30),(.t 31),(.t 32),(.t 33)],some (28,true)⟩,
    ⟨(some 35),.un .not (.t 34),some (28,true)⟩,
    ⟨(some 36),.pick (.t 28) (.t 35) (.c (.bool false)),none⟩]) <|
  .cond (.t 36) (.seq (.reg [⟨(some 37),.fadd (.t 3) 0,none⟩,
    ⟨(some 38),.ld (.t 37) 1 false,none⟩,
    ⟨(some 39),.mov (.t 7),none⟩,
    ⟨(some 40),.iadd (.t 38) (.t 39) 1,none⟩,
    ⟨none,.st (.t 40) (.c (.bool false)) 1,none⟩]) <|
  .reg [⟨(some 6),.mov (.c (.bool true)),none⟩]) (.skip))) <|
  .reg [⟨(some 21),.mov (.t 7),none⟩,
    ⟨(some 22),.bin .add (.t 21) (.c (.int .i64 1)),none⟩,
    ⟨(some 7),.mov (.t 22),none⟩]))) <|
  .seq (.reg [⟨(some 8),.mov (.c (.int .i64 0)),none⟩]) <|
  .block 4 (.loop [1,2,3,4,5] [6,8] (.seq (.seq (.reg [⟨(some 41),.mov (.t 8),none⟩,
    ⟨(some 42),.fadd (.t 3) 1,none⟩,
    ⟨(some 43),.ld (.t 42) 1 false,none⟩,
    ⟨(some 44),.len (.t 43),none⟩,
    ⟨(some 45),.bin .lss (.t 41) (.t 44),none⟩]) <|
  .cond (.t 45) (.skip) (.exit 4)) <|
  .seqj [1,2,3,4,5,8] [6] (.block 5 (.seq (.reg [⟨(some 48),.fadd (.t 3) 1,none⟩,
    ⟨(some 49),.ld (.t 48) 1 false,none⟩,
    ⟨(some 50),.mov (.t 8),none⟩,
    ⟨(some 51),.iadd (.t 49) (.t 50) 1,none⟩,
    ⟨(some 52),.ld (.t 51) 1 false,none⟩,
    ⟨(some 53),.mov (.t 52),none⟩,
    ⟨(some 54),.ld (.t 1) 8 true,some (53,true)⟩,
    ⟨(some 55),.mov (.t 4),some (53,true)⟩,
    ⟨(some 56),.ld (.t 3) 2 true,some (53,true)⟩,
    ⟨(some 57),.mov (.t 8),some (53,true)⟩,
    ⟨(some 58),.call mz [(.t 54),(.t 55),(.t 56),(.t 57)],some (53,true)⟩,
    ⟨(some 59),.un .not (.t 58),some (53,true)⟩,
    ⟨(some 60),.pick (.t 53) (.t 59) (.c (.bool false)),none⟩]) <|
  .cond (.t 60) (.seq (.reg [⟨(some 61),.fadd (.t 3) 1,none⟩,
    ⟨(some 62),.ld (.t 61) 1 false,none⟩,
    ⟨(some 63),.mov (.t 8),none⟩,
    ⟨(some 64),.iadd (.t 62) (.t 63) 1,none⟩,
    ⟨none,.st (.t 64) (.c (.bool false)) 1,none⟩]) <|
  .reg [⟨(some 6),.mov (.c (.bool true)),none⟩]) (.skip))) <|
  .reg [⟨(some 46),.mov (.t 8),none⟩,
    ⟨(some 47),.bin .add (.t 46) (.c (.int .i64 1)),none⟩,
    ⟨(some 8),.mov (.t 47),none⟩])))))) <|
  .seq (.reg [⟨(some 65),.ld (.t 3) 2 true,none⟩,
    ⟨none,.st (.t 2) (.t 65) 2,none⟩]) <|
  .ret,
  [.cell 2 2 true]⟩
theorem xX:cFn PP true nJ vU (cDr PP 66 yt)=some vq:=by kernel_rfl
def vT:Nat->Option (List Nat×List Nat)
  | 1000009=>some ([],[])|4=>some ([2,3],[5])|_=>none
def yr:Nat->Option (List Nat×List Nat×List Nat)
  | 6=>some ([0,1,0,7,15,0,32,0,224,480,1023,2047],[],[])|_=>none
def vk:aA:=⟨40,
  .seq (.reg [⟨(some 2),.box (.t 0),none⟩,
    ⟨(some 3),.box (.t 1),none⟩,
    ⟨(some 4),.mov (.c (.bool false)),none⟩]) <|
  .seq (.seq (.reg [⟨(some 6),.fadd (.t 2) 0,none⟩,
    ⟨(some 7),.ld (.t 6) 1 false,none⟩,
    ⟨(some 8),.fadd (.t 3) 0,none⟩,
    ⟨(some 9),.ld (.t 8) 1 false,none⟩,
    ⟨(some 10),.call iC [(.t 7),(.t 9)],none⟩,
    ⟨(some 11),.un .not (.t 10),none⟩,
    ⟨(some 12),.mov (.t 11),none⟩,
    ⟨(some 13),.fadd (.t 2) 1,some (12,false)⟩,
    ⟨(some 14),.ld (.t 13) 1 false,some (12,false)⟩,
    ⟨(some 15),.len (.t 14),some (12,false)⟩,
    ⟨(some 16),.fadd (.t 3) 1,some (12,false)⟩,
    ⟨(some 17),.ld (.t 16) 1 false,some (12,false)⟩,
    ⟨(some 18),.len (.t 17),some (12,false)⟩,
    ⟨(some 19),.bin .neq (.t 15) (.t 18),some (12,false)⟩,
    ⟨(some 20),.pick (.t 12) (.c (.bool true)) (.t 19),none⟩]) <|
  .cond (.t 20) (.seq (.reg [⟨(some 4),.mov (.c (.bool false)),none⟩]) <|
  .ret) (.skip)) <|
  .seqj [] [] (.seq (.reg [⟨(some 5),.mov (.c (.int .i64 0)),none⟩]) <|
  .block 0 (.loop [2,3] [5] (.seq (.seq (.reg [⟨(some 21),.mov (.t 5),none⟩,
    ⟨(some 22),.fadd (.t 2) 1,none⟩,
    ⟨(some 23),.ld (.t 22) 1 false,none⟩,
    ⟨(some 24),.len (.t 23),none⟩,
    ⟨(some 25),.bin .lss (.t 21) (.t 24),none⟩]) <|
  .cond (.t 25) (.skip) (.exit 0)) <|
  .seq (.block 1 (.seq (.dreg [⟨(some 28),.fadd (.t 2) 1,none⟩,
    ⟨(some 29),.ld (.t 28) 1 false,none⟩,
    ⟨(some 30),.mov (.t 5),none⟩,
    ⟨(some 31),.iadd (.t 29) (.t 30) 1,none⟩,
    ⟨(some 32),.ld (.t 31) 1 false,none⟩,
    ⟨(some 33),.fadd (.t 3) 1,none⟩,
    ⟨(some 34),.ld (.t 33) 1 false,none⟩,
    ⟨(some 35),.mov (.t 5),none⟩,
    ⟨(some 36),.iadd (.t 34) (.t 35) 1,none⟩,
    ⟨(some 37),.ld (.t 36) 1 false,none⟩,
    ⟨(some 38),.call iC [(.t 32),(.t 37)],none⟩,
    ⟨(some 39),.un .not (.t 38),none⟩] [] []) <|
  .cond (.t 39) (.seq (.reg [⟨(some 4),.mov (.c (.bool false)),none⟩]) <|
  .ret) (.skip))) <|
  .reg [⟨(some 26),.mov (.t 5),none⟩,
    ⟨(some 27),.bin .add (.t 26) (.c (.int .i64 1)),none⟩,
    ⟨(some 5),.mov (.t 27),none⟩]))) <|
  .seq (.reg [⟨(some 4),.mov (.c (.bool true)),none⟩]) <|
  .ret,
  [.t 4]⟩
theorem xU:cFn PP true nI vT (cDr PP 40 yr)=some vk:=by kernel_rfl
def uG:Nat->Option (List Nat×List Nat)
  | 1000024=>some ([],[])|4=>some ([2,3,29,30],[31])|1000023=>some ([2,3,29,30,31],[])|9=>some ([2,3,6,29,30,31,45,46],[47])|1000022=>some ([2,3,6,29,30,31,45,46,47],[])|1000015=>some ([2,3,6,8,29,30,31,45,46,47],[9])|15=>some ([2,3,6,9,29,30,31,45,46,47,68,69],[70])|_=>none
def xx:Nat->Option (List Nat×List Nat×List Nat)
  | 6=>some ([0,0,0,4,0,28,60,127,255],[],[])|_=>none
def iS:aA:=⟨85,
  .seq (.reg [⟨(some 2),.box (.t 0),none⟩,
    ⟨(some 3),.box (.t 1),none⟩,
    ⟨(some 4),.mov (.c (.int .i64 0)),none⟩]) <|
  .seq (.seq (.reg [⟨(some 14),.ld (.t 2) 8 true,none⟩,
    ⟨(some 15),.fadd (.t 3) 0,none⟩,
    ⟨(some 16),.ld (.t 15) 1 false,none⟩,
    ⟨(some 17),.call dq [(.t 14),(.t 16),(.c (.int .i64 0))],none⟩,
    ⟨(some 18),.un .not (.t 17),none⟩,
    ⟨(some 19),.mov (.t 18),none⟩,
    ⟨(some 20),.fadd (.t 3) 1,some (19,false)⟩,
    ⟨(some 21),.ld (.t 20) 1 false,some (19,false)⟩,
    ⟨(some 22),.len (.t 21),some (19,false)⟩,
    ⟨(some 23),.fadd (.t 3) 0,some (19,false)⟩,
    ⟨(some 24),.ld (.t 23) 1 false,some (19,false)⟩,
    ⟨(some 25),.len (.t 24),some (19,false)⟩,
    ⟨(some 26),.bin .neq (.t 22) (.t 25),some (19,false)⟩,
    ⟨(some 27),.pick (.t 19) (.c (.bool true)) (.t 26),none⟩]) <|
  .cond (.t 27) (.seq (.reg [⟨(some 4),.mov (.c (.int .i64 100)),none⟩]) <|
  .ret) (.skip)) <|
  .seqj [] [] (.seq (.reg [⟨(some 28),.fadd (.t 3) 1,none⟩,
    ⟨(some 29),.ld (.t 28) 1 false,none⟩,
    ⟨(some 30),.len (.t 29),none⟩,
    ⟨(some 31),.mov (.c (.int .i64 0)),none⟩]) <|
  .block 0 (.loop [2,3,29,30] [31] (.seq (.reg [⟨(some 32),.bin .lss (.t 31) (.t 30),none⟩]) <|
  .seq (.cond (.t 32) (.skip) (.exit 0)) <|
  .seqj [2,3,29,30,31] [] (.block 1 (.seq (.reg [⟨(some 33),.mov (.t 31),none⟩,
    ⟨(some 34),.iadd (.t 29) (.t 31) 1,none⟩,
    ⟨(some 35),.ld (.t 34) 1 false,none⟩,
    ⟨(some 5),.mov (.t 33),none⟩,
    ⟨(some 6),.mov (.t 35),none⟩]) <|
  .seq (.seq (.dreg [⟨(some 36),.ld (.t 2) 8 true,none⟩,
    ⟨(some 37),.mov (.t 6),none⟩,
    ⟨(some 38),.fadd (.t 3) 0,none⟩,
    ⟨(some 39),.ld (.t 38) 1 false,none⟩,
    ⟨(some 40),.mov (.t 5),none⟩,
    ⟨(some 41),.iadd (.t 39) (.t 40) 1,none⟩,
    ⟨(some 42),.ld (.t 41) 1 false,none⟩,
    ⟨(some 43),.call dq [(.t 36),(.t 37),(.t 42)],none⟩,
    ⟨(some 44),.un .not (.t 43),none⟩] [] []) <|
  .cond (.t 44) (.seq (.reg [⟨(some 4),.mov (.c (.int .i64 100)),none⟩]) <|
  .ret) (.skip)) <|
  .seq (.reg [⟨(some 45),.mov (.t 6),none⟩,
    ⟨(some 46),.len (.t 45),none⟩,
    ⟨(some 47),.mov (.c (.int .i64 0)),none⟩]) <|
  .block 2 (.loop [2,3,6,29,30,31,45,46] [47] (.seq (.reg [⟨(some 48),.bin .lss (.t 47) (.t 46),none⟩]) <|
  .seq (.cond (.t 48) (.skip) (.exit 2)) <|
  .seqj [2,3,6,29,30,31,45,46,47] [] (.block 3 (.seq (.reg [⟨(some 49),.iadd (.t 45) (.t 47) 1,none⟩,
    ⟨(some 50),.ld (.t 49) 1 false,none⟩,
    ⟨(some 8),.mov (.t 50),none⟩]) <|
  .seq (.reg [⟨(some 51),.mov (.t 6),none⟩,
    ⟨(some 9),.mov (.t 51),none⟩]) <|
  .seqj [2,3,6,8,29,30,31,45,46,47] [9] (.seq (.reg [⟨(some 52),.fadd (.t 2) 7,none⟩,
    ⟨(some 53),.ld (.t 52) 1 false,none⟩,
    ⟨(some 54),.mov (.t 8),none⟩,
    ⟨(some 55),.iadd (.t 53) (.t 54) 14,none⟩,
    ⟨(some 56),.fadd (.t 55) 1,none⟩,
    ⟨(some 57),.fadd (.t 56) 0,none⟩,
    ⟨(some 58),.ld (.t 57) 1 false,none⟩,
    ⟨(some 59),.bin .eql (.t 58) (.c (.int .i64 3)),none⟩]) <|
  .cond (.t 59) (.reg [⟨(some 60),.fadd (.t 3) 0,none⟩,
    ⟨(some 61),.ld (.t 60) 1 false,none⟩,
    ⟨(some 9),.mov (.t 61),none⟩]) (.skip)) <|
  .seq (.reg [⟨(some 62),.fadd (.t 2) 7,none⟩,
    ⟨(some 63),.ld (.t 62) 1 false,none⟩,
    ⟨(some 64),.mov (.t 8),none⟩,
    ⟨(some 65),.iadd (.t 63) (.t 64) 14,none⟩,
    ⟨(some 66),.fadd (.t 65) 1,none⟩,
    ⟨(some 67),.ld (.t 66) 13 true,none⟩,
    ⟨(some 68),.call dI [(.t 67)],none⟩,
    ⟨(some 69),.len (.t 68),none⟩,
    ⟨(some 70),.mov (.c (.int .i64 0)),none⟩]) <|
  .block 4 (.loop [2,3,6,9,29,30,31,45,46,47,68,69] [70] (.seq (.reg [⟨(some 71),.bin .lss (.t 70) (.t 69),none⟩]) <|
  .seq (.cond (.t 71) (.skip) (.exit 4)) <|
  .seq (.block 5 (.seq (.reg [⟨(some 72),.iadd (.t 68) (.t 70) 1,none⟩,
    ⟨(some 73),.ld (.t 72) 1 false,none⟩,
    ⟨(some 11),.mov (.t 73),none⟩]) <|
  .seq (.reg [⟨(some 75),.mov (.t 9),none⟩,
    ⟨(some 76),.mov (.t 11),none⟩,
    ⟨(some 77),.call bm [(.t 75),(.t 76)],none⟩,
    ⟨(some 74),.mov (.t 77),none⟩,
    ⟨(some 78),.ext (.t 74) 0,none⟩,
    ⟨(some 79),.ext (.t 74) 1,none⟩,
    ⟨(some 12),.mov (.t 78),none⟩,
    ⟨(some 13),.mov (.t 79),none⟩]) <|
  .seq (.reg [⟨(some 80),.mov (.t 13),none⟩,
    ⟨(some 81),.un .not (.t 80),none⟩]) <|
  .cond (.t 81) (.seq (.reg [⟨(some 4),.mov (.c (.int .i64 100)),none⟩]) <|
  .ret) (.skip))) <|
  .reg [⟨(some 82),.bin .add (.t 70) (.c (.int .i64 1)),none⟩,
    ⟨(some 70),.mov (.t 82),none⟩])))) <|
  .reg [⟨(some 83),.bin .add (.t 47) (.c (.int .i64 1)),none⟩,
    ⟨(some 47),.mov (.t 83),none⟩])))) <|
  .reg [⟨(some 84),.bin .add (.t 31) (.c (.int .i64 1)),none⟩,
    ⟨(some 31),.mov (.t 84),none⟩]))) <|
  .seq (.reg [⟨(some 4),.mov (.c (.int .i64 0)),none⟩]) <|
  .ret,
  [.t 4]⟩
theorem ni:cFn PP true bT uG (cDr PP 85 xx)=some iS:=by kernel_rfl
def mZ (h106:Heap) (a107:D) (a105:D) (f93:Nat->D) (a3:D) (a5:D) (a69:D) (a55:D) (a57:D) (f60:Nat->D) (a78:D) (f81:Nat->D) (J84:List D->Heap->Prop) (K:D->Heap->Prop):Prop :=
  ∃(I108:Nat->List D->Heap->Prop) (n₀:Nat),I108 n₀ [(.int .i64 0)] h106/\∀(n109:Nat) (f110:Nat->D) (h111:Heap),I108 n109 [f110 70] h111 ->
  vbin .lss (f110 70) a107 fun a112 =>
  vcond a112 (aa PP (.iadd (.c a105) (.c (f110 70)) 1) h111 fun a113 h114 =>
  aa PP (.ld (.c a113) 1 false) h114 fun a115 h116 =>
  ah PP bm [(f93 9),a115] h116 fun a117 h118 =>
  aa PP (.ext (.c a117) 0) h118 fun a119 h120 =>
  aa PP (.ext (.c a117) 1) h120 fun a121 h122 =>
  vun .not a121 fun a123 =>
  vcond a123 (K (.int .i64 100) h122) (
  vbin .add (f110 70) (.int .i64 1) fun a124 =>
  aW [a3,a5,a69,(f93 9),a55,a57,(f60 31),a69,a78,(f81 47),a105,a107] [a3,a5,a69,(f93 9),a55,a57,(f60 31),a69,a78,(f81 47),a105,a107]/\∃m,m<n109/\I108 m [a124] h122)) (
  aW [a3,a5,a69,a55,a57,(f60 31),a69,a78,(f81 47)] [a3,a5,a69,a55,a57,(f60 31),a69,a78,(f81 47)]/\J84 [] h111)
def mY (h70:Heap) (a78:D) (a3:D) (a5:D) (a69:D) (a55:D) (a57:D) (f60:Nat->D) (J63:List D->Heap->Prop) (K:D->Heap->Prop):Prop :=
  ∃(I79:Nat->List D->Heap->Prop) (n₀:Nat),I79 n₀ [(.int .i64 0)] h70/\∀(n80:Nat) (f81:Nat->D) (h82:Heap),I79 n80 [f81 47] h82 ->
  vbin .lss (f81 47) a78 fun a83 =>
  vcond a83 (∃(J84:List D->Heap->Prop),(∀(f85:Nat->D) (h86:Heap),J84 [] h86 ->
  vbin .add (f81 47) (.int .i64 1) fun a87 =>
  aW [a3,a5,a69,a55,a57,(f60 31),a69,a78] [a3,a5,a69,a55,a57,(f60 31),a69,a78]/\∃m,m<n80/\I79 m [a87] h86) /\
  aa PP (.iadd (.c a69) (.c (f81 47)) 1) h82 fun a88 h89 =>
  aa PP (.ld (.c a88) 1 false) h89 fun a90 h91 =>
  ∃(J92:List D->Heap->Prop),(∀(f93:Nat->D) (h94:Heap),J92 [f93 9] h94 ->
  aa PP (.fadd (.c a3) 7) h94 fun a95 h96 =>
  aa PP (.ld (.c a95) 1 false) h96 fun a97 h98 =>
  aa PP (.iadd (.c a97) (.c a90) 14) h98 fun a99 h100 =>
  aa PP (.fadd (.c a99) 1) h100 fun a101 h102 =>
  aa PP (.ld (.c a101) 13 true) h102 fun a103 h104 =>
  ah PP dI [a103] h104 fun a105 h106 =>
  bj a105 h106 fun a107 =>
  mZ h106 a107 a105 f93 a3 a5 a69 a55 a57 f60 a78 f81 J84 K) /\
  aa PP (.fadd (.c a3) 7) h91 fun a125 h126 =>
  aa PP (.ld (.c a125) 1 false) h126 fun a127 h128 =>
  aa PP (.iadd (.c a127) (.c a90) 14) h128 fun a129 h130 =>
  aa PP (.fadd (.c a129) 1) h130 fun a131 h132 =>
  aa PP (.fadd (.c a131) 0) h132 fun a133 h134 =>
  aa PP (.ld (.c a133) 1 false) h134 fun a135 h136 =>
  vbin .eql a135 (.int .i64 3) fun a137 =>
  vcond a137 (aa PP (.fadd (.c a5) 0) h136 fun a138 h139 =>
  aa PP (.ld (.c a138) 1 false) h139 fun a140 h141 =>
  aW [a3,a5,a69,a90,a55,a57,(f60 31),a69,a78,(f81 47)] [a3,a5,a69,a90,a55,a57,(f60 31),a69,a78,(f81 47)]/\J92 [a140] h141) (
  aW [a3,a5,a69,a90,a55,a57,(f60 31),a69,a78,(f81 47)] [a3,a5,a69,a90,a55,a57,(f60 31),a69,a78,(f81 47)]/\J92 [a69] h136)) (
  aW [a3,a5,a55,a57,(f60 31)] [a3,a5,a55,a57,(f60 31)]/\J63 [] h82)
def mX (h56:Heap) (a57:D) (a3:D) (a5:D) (a55:D) (J50:List D->Heap->Prop) (K:D->Heap->Prop):Prop :=
  ∃(I58:Nat->List D->Heap->Prop) (n₀:Nat),I58 n₀ [(.int .i64 0)] h56/\∀(n59:Nat) (f60:Nat->D) (h61:Heap),I58 n59 [f60 31] h61 ->
  vbin .lss (f60 31) a57 fun a62 =>
  vcond a62 (∃(J63:List D->Heap->Prop),(∀(f64:Nat->D) (h65:Heap),J63 [] h65 ->
  vbin .add (f60 31) (.int .i64 1) fun a66 =>
  aW [a3,a5,a55,a57] [a3,a5,a55,a57]/\∃m,m<n59/\I58 m [a66] h65) /\
  aa PP (.iadd (.c a55) (.c (f60 31)) 1) h61 fun a67 h68 =>
  aa PP (.ld (.c a67) 1 false) h68 fun a69 h70 =>
  af PP (.ld (.c a3) 8 true) h70 fun a71 =>
  af PP (.fadd (.c a5) 0) h70 fun a72 =>
  af PP (.ld (.c a72) 1 false) h70 fun a73 =>
  af PP (.iadd (.c a73) (.c (f60 31)) 1) h70 fun a74 =>
  af PP (.ld (.c a74) 1 false) h70 fun a75 =>
  af PP (.call dq [(.c a71),(.c a69),(.c a75)]) h70 fun a76 =>
  vun .not a76 fun a77 =>
  vcond a77 (K (.int .i64 100) h70) (
  bj a69 h70 fun a78 =>
  mY h70 a78 a3 a5 a69 a55 a57 f60 J63 K)) (
  aW [] []/\J50 [] h61)
def sH (a0:D) (a1:D) (h0:Heap) (K:D->Heap->Prop):Prop :=
  aa PP (.box (.c a0)) h0 fun a3 h4 =>
  aa PP (.box (.c a1)) h4 fun a5 h6 =>
  aa PP (.ld (.c a3) 8 true) h6 fun a7 h8 =>
  aa PP (.fadd (.c a5) 0) h8 fun a9 h10 =>
  aa PP (.ld (.c a9) 1 false) h10 fun a11 h12 =>
  ah PP dq [a7,a11,(.int .i64 0)] h12 fun a13 h14 =>
  vun .not a13 fun a15 =>
  vguard a15 false (fun G16 =>
  aa PP (.fadd (.c a5) 1) h14 fun a19 h20 =>
  G16 a19 h20) h14 fun a17 h18 =>
  vguard a15 false (fun G21 =>
  aa PP (.ld (.c a17) 1 false) h18 fun a24 h25 =>
  G21 a24 h25) h18 fun a22 h23 =>
  vguard a15 false (fun G26 =>
  bj a22 h23 fun a29 =>
  G26 a29 h23) h23 fun a27 h28 =>
  vguard a15 false (fun G30 =>
  aa PP (.fadd (.c a5) 0) h28 fun a33 h34 =>
  G30 a33 h34) h28 fun a31 h32 =>
  vguard a15 false (fun G35 =>
  aa PP (.ld (.c a31) 1 false) h32 fun a38 h39 =>
  G35 a38 h39) h32 fun a36 h37 =>
  vguard a15 false (fun G40 =>
  bj a36 h37 fun a43 =>
  G40 a43 h37) h37 fun a41 h42 =>
  vguard a15 false (fun G44 =>
  vbin .neq a27 a41 fun a47 =>
  G44 a47 h42) h42 fun a45 h46 =>
  aa PP (.pick (.c a15) (.c (.bool true)) (.c a45)) h46 fun a48 h49 =>
  vcond a48 (K (.int .i64 100) h49) (
  ∃(J50:List D->Heap->Prop),(∀(f51:Nat->D) (h52:Heap),J50 [] h52 ->
  K (.int .i64 0) h52) /\
  aa PP (.fadd (.c a5) 1) h49 fun a53 h54 =>
  aa PP (.ld (.c a53) 1 false) h54 fun a55 h56 =>
  bj a55 h56 fun a57 =>
  mX h56 a57 a3 a5 a55 J50 K)
theorem wv (a0:D) (a1:D) (h0:Heap) (K:D->Heap->Prop):sH a0 a1 h0 K=vcC PP iS.code (fun x e h'=>match x with|.exit _=>False|.pan=>False|.jump _=>False|_=>bp PP iS.res K e h') (params [a0,a1] 0) h0:=by kernel_rfl
def uF:Nat->Option (List Nat×List Nat)
  | 1000012=>some ([],[])|5=>some ([2,3,16,17],[18])|_=>none
def xw:Nat->Option (List Nat×List Nat×List Nat)
  | _=>none
def sO:aA:=⟨45,
  .seq (.reg [⟨(some 2),.box (.t 0),none⟩,
    ⟨(some 3),.box (.t 1),none⟩,
    ⟨(some 4),.mov (.c (.int .i64 0)),none⟩]) <|
  .seq (.seq (.reg [⟨(some 9),.ld (.t 2) 8 true,none⟩,
    ⟨(some 10),.ld (.t 3) 2 true,none⟩,
    ⟨(some 11),.call oA [(.t 9),(.t 10)],none⟩,
    ⟨(some 5),.mov (.t 11),none⟩]) <|
  .seq (.reg [⟨(some 12),.mov (.t 5),none⟩,
    ⟨(some 13),.bin .neq (.t 12) (.c (.int .i64 0)),none⟩]) <|
  .cond (.t 13) (.seq (.reg [⟨(some 14),.mov (.t 5),none⟩,
    ⟨(some 4),.mov (.t 14),none⟩]) <|
  .ret) (.skip)) <|
  .seqj [] [] (.seq (.reg [⟨(some 15),.ld (.t 2) 8 true,none⟩,
    ⟨(some 16),.call nK [(.t 15)],none⟩,
    ⟨(some 17),.len (.t 16),none⟩,
    ⟨(some 18),.mov (.c (.int .i64 0)),none⟩]) <|
  .block 0 (.loop [2,3,16,17] [18] (.seq (.reg [⟨(some 19),.bin .lss (.t 18) (.t 17),none⟩]) <|
  .seq (.cond (.t 19) (.skip) (.exit 0)) <|
  .seq (.block 1 (.seq (.reg [⟨(some 20),.mov (.t 18),none⟩,
    ⟨(some 21),.iadd (.t 16) (.t 18) 1,none⟩,
    ⟨(some 22),.ld (.t 21) 1 false,none⟩,
    ⟨(some 6),.mov (.t 20),none⟩,
    ⟨(some 7),.mov (.t 22),none⟩]) <|
  .seq (.reg [⟨(some 23),.bldS true 1 2 (.int .i64 0) [(0,(.c (.int .i64 3))),(1,(.c (.int .i64 4)))],none⟩,
    ⟨(some 24),.fadd (.t 2) 7,none⟩,
    ⟨(some 25),.ld (.t 24) 1 false,none⟩,
    ⟨(some 26),.mov (.t 6),none⟩,
    ⟨(some 27),.iadd (.t 25) (.t 26) 14,none⟩,
    ⟨(some 28),.fadd (.t 27) 1,none⟩,
    ⟨(some 29),.fadd (.t 28) 0,none⟩,
    ⟨(some 30),.ld (.t 29) 1 false,none⟩,
    ⟨(some 31),.call aP [(.t 23),(.t 30)],none⟩,
    ⟨(some 8),.mov (.t 31),none⟩]) <|
  .seq (.reg [⟨(some 32),.mov (.t 7),none⟩,
    ⟨(some 33),.mov (.t 32),none⟩,
    ⟨(some 34),.mov (.t 8),some (33,true)⟩,
    ⟨(some 35),.pick (.t 33) (.t 34) (.c (.bool false)),none⟩,
    ⟨(some 36),.mov (.t 35),none⟩,
    ⟨(some 37),.fadd (.t 3) 0,some (36,true)⟩,
    ⟨(some 38),.ld (.t 37) 1 false,some (36,true)⟩,
    ⟨(some 39),.mov (.t 6),some (36,true)⟩,
    ⟨(some 40),.iadd (.t 38) (.t 39) 1,some (36,true)⟩,
    ⟨(some 41),.ld (.t 40) 1 false,some (36,true)⟩,
    ⟨(some 42),.un .not (.t 41),some (36,true)⟩,
    ⟨(some 43),.pick (.t 36) (.t 42) (.c (.bool false)),none⟩]) <|
  .cond (.t 43) (.seq (.reg [⟨(some 4),.mov (.c (.int .i64 90)),none⟩]) <|
  .ret) (.skip))) <|
  .reg [⟨(some 44),.bin .add (.t 18) (.c (.int .i64 1)),none⟩,
    ⟨(some 18),.mov (.t 44),none⟩]))) <|
  .seq (.reg [⟨(some 4),.mov (.c (.int .i64 0)),none⟩]) <|
  .ret,
  [.t 4]⟩
theorem wJ:cFn PP true iP uF (cDr PP 45 xw)=some sO:=by kernel_rfl
def xC:Nat->Option (List Nat×List Nat)
  | 1000007=>some ([1,4,5],[])|3=>some ([1,4,5],[6])|1000011=>some ([4,5],[])|7=>some ([1,4,5],[7])|_=>none
def zK:Nat->Option (List Nat×List Nat×List Nat)
  | 1=>some ([0,1,3,7,0,16,48,127,0,511],[3,6,8,9],[999996,0,1,2])|_=>none
def xj:aA:=⟨41,
  .seq (.reg [⟨(some 2),.box (.t 0),none⟩,
    ⟨(some 4),.alloc (.agg [.nil,.nil]),none⟩]) <|
  .seq (.seq (.dreg [⟨(some 11),.mov (.c .undef),none⟩,
    ⟨(some 14),.mov (.c .undef),none⟩,
    ⟨(some 5),.mov (.c .undef),none⟩] [] []) <|
  .seq (.dreg [⟨(some 8),.fadd (.t 2) 7,none⟩,
    ⟨(some 9),.ld (.t 8) 1 false,none⟩,
    ⟨(some 10),.len (.t 9),none⟩,
    ⟨(some 12),.fadd (.t 2) 2,none⟩,
    ⟨(some 13),.ld (.t 12) 1 false,none⟩] [] []) <|
  .seq (.dreg [] [⟨none,.mkc 1 (.t 10) (.t 10),none⟩] []) <|
  .seq (.dreg [] [⟨none,.mkc 1 (.t 13) (.t 13),none⟩] []) <|
  .seq (.dreg [] [⟨(some 11),.mk 1 1 (.bool false) (.t 10) (.t 10),none⟩] [⟨(some 12),.fadd (.t 2) 2,none⟩,
    ⟨(some 13),.ld (.t 12) 1 false,none⟩]) <|
  .seq (.dreg [] [⟨(some 14),.mk 1 1 (.bool false) (.t 13) (.t 13),none⟩] [⟨(some 8),.fadd (.t 2) 7,none⟩,
    ⟨(some 9),.ld (.t 8) 1 false,none⟩,
    ⟨(some 10),.len (.t 9),none⟩]) <|
  .seq (.dreg [⟨(some 15),.bld [.nil,.nil] [(0,1,(.t 11)),(1,1,(.t 14))],none⟩] [⟨(some 5),.alloc (.agg [.nil,.nil]),none⟩] [⟨(some 8),.fadd (.t 2) 7,none⟩,
    ⟨(some 9),.ld (.t 8) 1 false,none⟩,
    ⟨(some 10),.len (.t 9),none⟩,
    ⟨(some 12),.fadd (.t 2) 2,none⟩,
    ⟨(some 13),.ld (.t 12) 1 false,none⟩]) <|
  .seq (.dreg [] [⟨none,.st (.t 5) (.t 15) 2,none⟩] []) <|
  .dreg [] [] []) <|
  .seqj [1,4,5] [] (.seq (.reg [⟨(some 6),.mov (.c (.int .i64 0)),none⟩]) <|
  .block 0 (.loop [1,4,5] [6] (.seq (.seq (.reg [⟨(some 16),.mov (.t 6),none⟩,
    ⟨(some 17),.fadd (.t 5) 0,none⟩,
    ⟨(some 18),.ld (.t 17) 1 false,none⟩,
    ⟨(some 19),.len (.t 18),none⟩,
    ⟨(some 20),.bin .lss (.t 16) (.t 19),none⟩]) <|
  .cond (.t 20) (.skip) (.exit 0)) <|
  .seq (.block 1 (.reg [⟨(some 23),.fadd (.t 5) 0,none⟩,
    ⟨(some 24),.ld (.t 23) 1 false,none⟩,
    ⟨(some 25),.mov (.t 6),none⟩,
    ⟨(some 26),.mov (.t 1),none⟩,
    ⟨(some 27),.iadd (.t 24) (.t 25) 1,none⟩,
    ⟨none,.st (.t 27) (.t 26) 1,none⟩])) <|
  .reg [⟨(some 21),.mov (.t 6),none⟩,
    ⟨(some 22),.bin .add (.t 21) (.c (.int .i64 1)),none⟩,
    ⟨(some 6),.mov (.t 22),none⟩]))) <|
  .seqj [4,5] [] (.seq (.reg [⟨(some 7),.mov (.c (.int .i64 0)),none⟩]) <|
  .block 2 (.loop [1,4,5] [7] (.seq (.seq (.reg [⟨(some 28),.mov (.t 7),none⟩,
    ⟨(some 29),.fadd (.t 5) 1,none⟩,
    ⟨(some 30),.ld (.t 29) 1 false,none⟩,
    ⟨(some 31),.len (.t 30),none⟩,
    ⟨(some 32),.bin .lss (.t 28) (.t 31),none⟩]) <|
  .cond (.t 32) (.skip) (.exit 2)) <|
  .seq (.block 3 (.reg [⟨(some 35),.fadd (.t 5) 1,none⟩,
    ⟨(some 36),.ld (.t 35) 1 false,none⟩,
    ⟨(some 37),.mov (.t 7),none⟩,
    ⟨(some 38),.mov (.t 1),none⟩,
    ⟨(some 39),.iadd (.t 36) (.t 37) 1,none⟩,
    ⟨none,.st (.t 39) (.t 38) 1,none⟩])) <|
  .reg [⟨(some 33),.mov (.t 7),none⟩,
    ⟨(some 34),.bin .add (.t 33) (.c (.int .i64 1)),none⟩,
    ⟨(some 7),.mov (.t 34),none⟩]))) <|
  .seq (.reg [⟨(some 40),.ld (.t 5) 2 true,none⟩,
    ⟨none,.st (.t 4) (.t 40) 2,none⟩]) <|
  .ret,
  [.cell 4 2 true]⟩
theorem zB:cFn PP true wW xC (cDr PP 41 zK)=some xj:=by kernel_rfl
def p9:Nat->Option (List Nat×List Nat)
  | _=>none
def sZ:Nat->Option (List Nat×List Nat×List Nat)
  | _=>none
def nh:aA:=⟨11,
  .seq (.reg [⟨(some 3),.box (.t 0),none⟩,
    ⟨(some 4),.box (.t 1),none⟩,
    ⟨(some 5),.box (.t 2),none⟩,
    ⟨(some 6),.mov (.c (.bool false)),none⟩]) <|
  .seq (.reg [⟨(some 7),.fadd (.t 3) 1,none⟩,
    ⟨(some 8),.ld (.t 7) 1 false,none⟩,
    ⟨(some 9),.mkf jG [] [(.t 4),(.t 5)],none⟩,
    ⟨(some 10),.call cQ [(.t 8),(.t 9)],none⟩,
    ⟨(some 6),.mov (.t 10),none⟩]) <|
  .ret,
  [.t 6]⟩
theorem rV:cFn PP true iD p9 (cDr PP 11 sZ)=some nh:=by kernel_rfl
def lA:Nat->Option (List Nat×List Nat)
  | 1000008=>some ([2,4,5],[6])|4=>some ([1,2,4,5],[6,7])|1000025=>some ([4,5],[])|8=>some ([2,4,5],[6,8])|12=>some ([2,4,5],[6,8,9])|1000024=>some ([2,4,5,9],[6,8])|17=>some ([2,4,5,9,10],[6,8,11])|1000019=>some ([2,4,5,9,10,11],[6,8])|_=>none
def ov:Nat->Option (List Nat×List Nat×List Nat)
  | 6=>some ([0,0,0,6,14,30,0,64,192,510,1023,2047],[11],[])|14=>some ([0,0,0,6,14,31,63],[],[])|19=>some ([0,1,0,0,12,28,63,127,255,0,1023],[9,10],[])|_=>none
noncomputable def mb:aA:=⟨92,de (cFn PP true iM lA (cDr PP 92 ov)),
  [.cell 4 2 true]⟩
theorem wA:cFn PP true iM lA (cDr PP 92 ov)=some mb:=by kernel_rfl
def mR (f40:Nat->D) (h59:Heap) (a47:D) (a3:D) (a5:D) (a11:D) (J60:List D->Heap->Prop):Prop :=
  ∃(I64:Nat->List D->Heap->Prop) (n₀:Nat),I64 n₀ [(f40 6),(f40 8),(.int .i64 0)] h59/\∀(n65:Nat) (f66:Nat->D) (h67:Heap),I64 n65 [f66 6,f66 8,f66 11] h67 ->
  bj a47 h67 fun a68 =>
  vbin .lss (f66 11) a68 fun a69 =>
  vcond a69 (∃(J70:List D->Heap->Prop),(∀(f71:Nat->D) (h72:Heap),J70 [f71 6,f71 8] h72 ->
  vbin .add (f66 11) (.int .i64 1) fun a73 =>
  aW [a3,a5,a11,(f40 9),a47] [a3,a5,a11,(f40 9),a47]/\∃m,m<n65/\I64 m [(f71 6),(f71 8),a73] h72) /\
  af PP (.fadd (.c a3) 7) h67 fun a74 =>
  af PP (.ld (.c a74) 1 false) h67 fun a75 =>
  af PP (.iadd (.c a47) (.c (f66 11)) 1) h67 fun a76 =>
  af PP (.ld (.c a76) 1 false) h67 fun a77 =>
  af PP (.iadd (.c a75) (.c a77) 14) h67 fun a78 =>
  af PP (.fadd (.c a78) 1) h67 fun a79 =>
  af PP (.ld (.c a79) 13 true) h67 fun a80 =>
  aa PP (.alloc (.agg [(.int .i64 0),(.int .i64 0),(.int .i64 0),(.int .i64 0),(.int .i32 0),(.int .i64 0),(.int .i64 0),(.int .i32 0),(.int .i64 0),(.int .i64 0),(.int .i32 0),(.int .i64 0),(.int .i64 0)])) h67 fun a81 h82 =>
  aa PP (.st (.c a81) (.c a80) 13) h82 fun a83 h84 =>
  aa PP (.fadd (.c a81) 0) h84 fun a85 h86 =>
  aa PP (.ld (.c a85) 1 false) h86 fun a87 h88 =>
  vbin .eql a87 (.int .i64 3) fun a89 =>
  vguard a89 true (fun G90 =>
  G90 (f66 6) h88) h88 fun a91 h92 =>
  vguard a89 true (fun G93 =>
  aa PP (.fadd (.c a81) 11) h92 fun a96 h97 =>
  G93 a96 h97) h92 fun a94 h95 =>
  vguard a89 true (fun G98 =>
  aa PP (.iadda (.c a94) (.c (.int .i64 0)) 2 1) h95 fun a101 h102 =>
  G98 a101 h102) h95 fun a99 h100 =>
  vguard a89 true (fun G103 =>
  aa PP (.ld (.c a99) 1 false) h100 fun a106 h107 =>
  G103 a106 h107) h100 fun a104 h105 =>
  vguard a89 true (fun G108 =>
  ah PP fV [a91,a104] h105 fun a111 h112 =>
  G108 a111 h112) h105 fun a109 h110 =>
  vguard a89 true (fun G113 =>
  vun .not a109 fun a116 =>
  G113 a116 h110) h110 fun a114 h115 =>
  aa PP (.pick (.c a89) (.c a114) (.c (.bool false))) h115 fun a117 h118 =>
  vcond a117 (aa PP (.fadd (.c a81) 11) h118 fun a119 h120 =>
  aa PP (.iadda (.c a119) (.c (.int .i64 0)) 2 1) h120 fun a121 h122 =>
  aa PP (.ld (.c a121) 1 false) h122 fun a123 h124 =>
  ah PP cY [(f66 6),a123] h124 fun a125 h126 =>
  aW [a3,a5,a11,(f40 9),a47,(f66 11)] [a3,a5,a11,(f40 9),a47,(f66 11)]/\J70 [a125,(.bool true)] h126) (
  aW [a3,a5,a11,(f40 9),a47,(f66 11)] [a3,a5,a11,(f40 9),a47,(f66 11)]/\J70 [(f66 6),(f66 8)] h118)) (
  aW [a3,a5,a11,(f40 9)] [a3,a5,a11,(f40 9)]/\J60 [(f66 6),(f66 8)] h67)
def mQ (f32:Nat->D) (h37:Heap) (a3:D) (a11:D) (a5:D) (n31:Nat) (I30:Nat->List D->Heap->Prop):Prop :=
  ∃(I38:Nat->List D->Heap->Prop) (n₀:Nat),I38 n₀ [(f32 6),(.bool false),(.int .i64 0)] h37/\∀(n39:Nat) (f40:Nat->D) (h41:Heap),I38 n39 [f40 6,f40 8,f40 9] h41 ->
  bj (f40 6) h41 fun a42 =>
  vbin .lss (f40 9) a42 fun a43 =>
  vcond a43 (af PP (.ld (.c a3) 8 true) h41 fun a44 =>
  af PP (.iadd (.c (f40 6)) (.c (f40 9)) 1) h41 fun a45 =>
  af PP (.ld (.c a45) 1 false) h41 fun a46 =>
  af PP (.call eM [(.c a44),(.c a46)]) h41 fun a47 =>
  aa PP (.fadd (.c a11) 1) h41 fun a48 h49 =>
  aa PP (.ld (.c a48) 1 false) h49 fun a50 h51 =>
  aa PP (.bldS true 1 1 .nil [(0,(.c a47))]) h51 fun a52 h53 =>
  aa PP (.app (.c a50) (.c a52) 1 24 .nil) h53 fun a54 h55 =>
  aa PP (.fadd (.c a11) 1) h55 fun a56 h57 =>
  aa PP (.st (.c a56) (.c a54) 1) h57 fun a58 h59 =>
  ∃(J60:List D->Heap->Prop),(∀(f61:Nat->D) (h62:Heap),J60 [f61 6,f61 8] h62 ->
  vcond (f61 8) (aW [a3,a5,a11] [a3,a5,a11]/\∃m,m<n31/\I30 m [(f61 6),(f61 8)] h62) (
  vbin .add (f40 9) (.int .i64 1) fun a63 =>
  aW [a3,a5,a11] [a3,a5,a11]/\∃m,m<n39/\I38 m [(f61 6),(f61 8),a63] h62)) /\
  mR f40 h59 a47 a3 a5 a11 J60) (
  aW [a3,a5,a11] [a3,a5,a11]/\∃m,m<n31/\I30 m [(f40 6),(f40 8)] h41)
def mP (f20:Nat->D) (h21:Heap) (a11:D) (a3:D) (a5:D) (J22:List D->Heap->Prop):Prop :=
  ∃(I30:Nat->List D->Heap->Prop) (n₀:Nat),I30 n₀ [(f20 6),(.bool true)] h21/\∀(n31:Nat) (f32:Nat->D) (h33:Heap),I30 n31 [f32 6,f32 8] h33 ->
  vcond (f32 8) (aa PP (.bld [.nil,.nil] [(0,1,(.c (f32 6)))]) h33 fun a34 h35 =>
  aa PP (.st (.c a11) (.c a34) 2) h35 fun a36 h37 =>
  mQ f32 h37 a3 a11 a5 n31 I30) (
  aW [a5,a11] [a5,a11]/\J22 [] h33)
def mO (a17:D) (h18:Heap) (a1:D) (a3:D) (a5:D) (a11:D) (J19:List D->Heap->Prop):Prop :=
  ∃(I127:Nat->List D->Heap->Prop) (n₀:Nat),I127 n₀ [a17,(.int .i64 0)] h18/\∀(n128:Nat) (f129:Nat->D) (h130:Heap),I127 n128 [f129 6,f129 7] h130 ->
  bj a1 h130 fun a131 =>
  vbin .lss (f129 7) a131 fun a132 =>
  vguard a132 true (fun G133 =>
  G133 (f129 7) h130) h130 fun a134 h135 =>
  vguard a132 true (fun G136 =>
  vbin .lss a134 (.int .i64 4) fun a139 =>
  G136 a139 h135) h135 fun a137 h138 =>
  aa PP (.pick (.c a132) (.c a137) (.c (.bool false))) h138 fun a140 h141 =>
  vcond a140 (af PP (.iadd (.c a1) (.c (f129 7)) 1) h141 fun a142 =>
  af PP (.ld (.c a142) 1 false) h141 fun a143 =>
  af PP (.conv .i64 (.c a143)) h141 fun a144 =>
  af PP (.fadd (.c a3) 7) h141 fun a145 =>
  af PP (.ld (.c a145) 1 false) h141 fun a146 =>
  bj a146 h141 fun a147 =>
  vbin .rem a144 a147 fun a148 =>
  af PP (.call cY [(.c (f129 6)),(.c a148)]) h141 fun a149 =>
  vbin .add (f129 7) (.int .i64 1) fun a150 =>
  aW [a1,a3,a5,a11] [a1,a3,a5,a11]/\∃m,m<n128/\I127 m [a149,a150] h141) (
  aW [a3,a5,a11] [a3,a5,a11]/\J19 [(f129 6)] h141)
def sD (a0:D) (a1:D) (h0:Heap) (K:D->Heap->Prop):Prop :=
  aa PP (.box (.c a0)) h0 fun a3 h4 =>
  aa PP (.alloc (.agg [.nil,.nil])) h4 fun a5 h6 =>
  aa PP (.ld (.c a3) 8 true) h6 fun a7 h8 =>
  ah PP jU [a7] h8 fun a9 h10 =>
  aa PP (.alloc (.agg [.nil,.nil])) h10 fun a11 h12 =>
  aa PP (.st (.c a11) (.c a9) 2) h12 fun a13 h14 =>
  aa PP (.fadd (.c a11) 0) h14 fun a15 h16 =>
  aa PP (.ld (.c a15) 1 false) h16 fun a17 h18 =>
  ∃(J19:List D->Heap->Prop),(∀(f20:Nat->D) (h21:Heap),J19 [f20 6] h21 ->
  ∃(J22:List D->Heap->Prop),(∀(f23:Nat->D) (h24:Heap),J22 [] h24 ->
  aa PP (.ld (.c a11) 2 true) h24 fun a25 h26 =>
  aa PP (.st (.c a5) (.c a25) 2) h26 fun a27 h28 =>
  aa PP (.ld (.c a5) 2 true) h28 fun a29 _ =>
  K a29 h28) /\
  mP f20 h21 a11 a3 a5 J22) /\
  mO a17 h18 a1 a3 a5 a11 J19
theorem wh (a0:D) (a1:D) (h0:Heap) (K:D->Heap->Prop):sD a0 a1 h0 K=vcC PP mb.code (fun x e h'=>match x with|.exit _=>False|.pan=>False|.jump _=>False|_=>bp PP mb.res K e h') (params [a0,a1] 0) h0:=by kernel_rfl
def oF:Nat->Option (List Nat×List Nat)
  | 1000007=>some ([],[])|2=>some ([0,1],[5])|_=>none
def sf:Nat->Option (List Nat×List Nat×List Nat)
  | _=>none
noncomputable def qK:aA:=⟨18,de (cFn PP true fV oF (cDr PP 18 sf)),
  [.t 4]⟩
theorem zC:cFn PP true fV oF (cDr PP 18 sf)=some qK:=by kernel_rfl
def qw (h0:Heap) (a0:D) (a1:D) (J3:List D->Heap->Prop) (K:D->Heap->Prop):Prop :=
  ∃(I6:Nat->List D->Heap->Prop) (n₀:Nat),I6 n₀ [(.int .i64 0)] h0/\∀(n7:Nat) (f8:Nat->D) (h9:Heap),I6 n7 [f8 5] h9 ->
  bj a0 h9 fun a10 =>
  vbin .lss (f8 5) a10 fun a11 =>
  vcond a11 (aa PP (.iadd (.c a0) (.c (f8 5)) 1) h9 fun a12 h13 =>
  aa PP (.ld (.c a12) 1 false) h13 fun a14 h15 =>
  vbin .eql a14 a1 fun a16 =>
  vcond a16 (K (.bool true) h15) (
  vbin .add (f8 5) (.int .i64 1) fun a17 =>
  aW [a0,a1] [a0,a1]/\∃m,m<n7/\I6 m [a17] h15)) (
  aW [] []/\J3 [] h9)
def xh (a0:D) (a1:D) (h0:Heap) (K:D->Heap->Prop):Prop :=
  ∃(J3:List D->Heap->Prop),(∀(f4:Nat->D) (h5:Heap),J3 [] h5 ->
  K (.bool false) h5) /\
  qw h0 a0 a1 J3 K
theorem zv (a0:D) (a1:D) (h0:Heap) (K:D->Heap->Prop):xh a0 a1 h0 K=vcC PP qK.code (fun x e h'=>match x with|.exit _=>False|.pan=>False|.jump _=>False|_=>bp PP qK.res K e h') (params [a0,a1] 0) h0:=by kernel_rfl
def vY:Nat->Option (List Nat×List Nat)
  | 1000015=>some ([3],[])|4=>some ([1,3],[4])|8=>some ([1,3,35,36],[4,37])|1000014=>some ([1,3,35,36,37],[4])|_=>none
def yy:Nat->Option (List Nat×List Nat×List Nat)
  | _=>none
def vz:aA:=⟨55,
  .seq (.reg [⟨(some 1),.box (.t 0),none⟩,
    ⟨(some 2),.mov (.c .nil),none⟩]) <|
  .seq (.reg [⟨(some 8),.fadd (.t 1) 7,none⟩,
    ⟨(some 9),.ld (.t 8) 1 false,none⟩,
    ⟨(some 10),.len (.t 9),none⟩,
    ⟨(some 11),.mk 1 1 (.bool false) (.t 10) (.t 10),none⟩,
    ⟨(some 3),.mov (.t 11),none⟩]) <|
  .seq (.reg [⟨(some 12),.mov (.t 3),none⟩,
    ⟨(some 13),.iadd (.t 12) (.c (.int .i64 0)) 1,none⟩,
    ⟨none,.st (.t 13) (.c (.bool true)) 1,none⟩]) <|
  .seqj [3] [] (.seq (.reg [⟨(some 14),.bldS true 1 1 (.int .i64 0) [(0,(.c (.int .i64 0)))],none⟩,
    ⟨(some 4),.mov (.t 14),none⟩]) <|
  .block 0 (.loop [1,3] [4] (.seq (.seq (.reg [⟨(some 15),.mov (.t 4),none⟩,
    ⟨(some 16),.len (.t 15),none⟩,
    ⟨(some 17),.bin .gtr (.t 16) (.c (.int .i64 0)),none⟩]) <|
  .cond (.t 17) (.skip) (.exit 0)) <|
  .block 1 (.seq (.reg [⟨(some 18),.mov (.t 4),none⟩,
    ⟨(some 19),.mov (.t 4),none⟩,
    ⟨(some 20),.len (.t 19),none⟩,
    ⟨(some 21),.bin .sub (.t 20) (.c (.int .i64 1)),none⟩,
    ⟨(some 22),.iadd (.t 18) (.t 21) 1,none⟩,
    ⟨(some 23),.ld (.t 22) 1 false,none⟩,
    ⟨(some 5),.mov (.t 23),none⟩]) <|
  .seq (.reg [⟨(some 24),.mov (.t 4),none⟩,
    ⟨(some 25),.mov (.t 4),none⟩,
    ⟨(some 26),.len (.t 25),none⟩,
    ⟨(some 27),.bin .sub (.t 26) (.c (.int .i64 1)),none⟩,
    ⟨(some 28),.kY (.t 24) none (some (.t 27)) none 1,none⟩,
    ⟨(some 4),.mov (.t 28),none⟩]) <|
  .seq (.reg [⟨(some 29),.fadd (.t 1) 7,none⟩,
    ⟨(some 30),.ld (.t 29) 1 false,none⟩,
    ⟨(some 31),.mov (.t 5),none⟩,
    ⟨(some 32),.iadd (.t 30) (.t 31) 14,none⟩,
    ⟨(some 33),.fadd (.t 32) 1,none⟩,
    ⟨(some 34),.ld (.t 33) 13 true,none⟩,
    ⟨(some 35),.call dI [(.t 34)],none⟩,
    ⟨(some 36),.len (.t 35),none⟩,
    ⟨(some 37),.mov (.c (.int .i64 0)),none⟩]) <|
  .block 2 (.loop [1,3,35,36] [4,37] (.seq (.reg [⟨(some 38),.bin .lss (.t 37) (.t 36),none⟩]) <|
  .seq (.cond (.t 38) (.skip) (.exit 2)) <|
  .seqj [1,3,35,36,37] [4] (.block 3 (.seq (.reg [⟨(some 39),.iadd (.t 35) (.t 37) 1,none⟩,
    ⟨(some 40),.ld (.t 39) 1 false,none⟩,
    ⟨(some 7),.mov (.t 40),none⟩]) <|
  .seq (.reg [⟨(some 41),.mov (.t 3),none⟩,
    ⟨(some 42),.mov (.t 7),none⟩,
    ⟨(some 43),.iadd (.t 41) (.t 42) 1,none⟩,
    ⟨(some 44),.ld (.t 43) 1 false,none⟩,
    ⟨(some 45),.un .not (.t 44),none⟩]) <|
  .cond (.t 45) (.seq (.reg [⟨(some 46),.mov (.t 3),none⟩,
    ⟨(some 47),.mov (.t 7),none⟩,
    ⟨(some 48),.iadd (.t 46) (.t 47) 1,none⟩,
    ⟨none,.st (.t 48) (.c (.bool true)) 1,none⟩]) <|
  .reg [⟨(some 49),.mov (.t 4),none⟩,
    ⟨(some 50),.mov (.t 7),none⟩,
    ⟨(some 51),.bldS true 1 1 (.int .i64 0) [(0,(.t 50))],none⟩,
    ⟨(some 52),.app (.t 49) (.t 51) 1 8 (.int .i64 0),none⟩,
    ⟨(some 4),.mov (.t 52),none⟩]) (.skip))) <|
  .reg [⟨(some 53),.bin .add (.t 37) (.c (.int .i64 1)),none⟩,
    ⟨(some 37),.mov (.t 53),none⟩])))))) <|
  .seq (.reg [⟨(some 54),.mov (.t 3),none⟩,
    ⟨(some 2),.mov (.t 54),none⟩]) <|
  .ret,
  [.t 2]⟩
theorem x8:cFn PP true nK vY (cDr PP 55 yy)=some vz:=by kernel_rfl
def xH:Nat->Option (List Nat×List Nat)
  | _=>none
def zP:Nat->Option (List Nat×List Nat×List Nat)
  | _=>none
def lU:aA:=⟨26,
  .seq (.reg [⟨(some 1),.box (.t 0),none⟩,
    ⟨(some 2),.mov (.c .nil),none⟩]) <|
  .seq (.block 0 (.seq (.reg [⟨(some 4),.fadd (.t 1) 0,none⟩,
    ⟨(some 5),.ld (.t 4) 1 false,none⟩,
    ⟨(some 6),.bin .eql (.t 5) (.c (.int .i64 5)),none⟩,
    ⟨(some 3),.mov (.t 6),none⟩]) <|
  .cond (.t 3) (.seq (.reg [⟨(some 2),.mov (.c .nil),none⟩]) <|
  .ret) (.seq (.reg [⟨(some 8),.fadd (.t 1) 0,none⟩,
    ⟨(some 9),.ld (.t 8) 1 false,none⟩,
    ⟨(some 10),.bin .eql (.t 9) (.c (.int .i64 2)),none⟩,
    ⟨(some 11),.mov (.t 10),none⟩,
    ⟨(some 12),.fadd (.t 1) 11,some (11,true)⟩,
    ⟨(some 13),.iadda (.t 12) (.c (.int .i64 0)) 2 1,some (11,true)⟩,
    ⟨(some 14),.ld (.t 13) 1 false,some (11,true)⟩,
    ⟨(some 15),.fadd (.t 1) 11,some (11,true)⟩,
    ⟨(some 16),.iadda (.t 15) (.c (.int .i64 1)) 2 1,some (11,true)⟩,
    ⟨(some 17),.ld (.t 16) 1 false,some (11,true)⟩,
    ⟨(some 18),.bin .neq (.t 14) (.t 17),some (11,true)⟩,
    ⟨(some 19),.pick (.t 11) (.t 18) (.c (.bool false)),none⟩,
    ⟨(some 7),.mov (.t 19),none⟩]) <|
  .cond (.t 7) (.seq (.reg [⟨(some 20),.fadd (.t 1) 11,none⟩,
    ⟨(some 21),.Dl (.t 20) 2,none⟩,
    ⟨(some 2),.mov (.t 21),none⟩]) <|
  .ret) (.skip)))) <|
  .seq (.reg [⟨(some 22),.fadd (.t 1) 11,none⟩,
    ⟨(some 23),.iadda (.t 22) (.c (.int .i64 0)) 2 1,none⟩,
    ⟨(some 24),.ld (.t 23) 1 false,none⟩,
    ⟨(some 25),.bldS true 1 1 (.int .i64 0) [(0,(.t 24))],none⟩,
    ⟨(some 2),.mov (.t 25),none⟩]) <|
  .ret,
  [.t 2]⟩
theorem qR:cFn PP true dI xH (cDr PP 26 zP)=some lU:=by kernel_rfl
def xi (a0:D) (h0:Heap) (K:D->Heap->Prop):Prop :=
  aa PP (.box (.c a0)) h0 fun a2 h3 =>
  aa PP (.fadd (.c a2) 0) h3 fun a4 h5 =>
  aa PP (.ld (.c a4) 1 false) h5 fun a6 h7 =>
  vbin .eql a6 (.int .i64 5) fun a8 =>
  vcond a8 (K .nil h7) (
  aa PP (.fadd (.c a2) 0) h7 fun a9 h10 =>
  aa PP (.ld (.c a9) 1 false) h10 fun a11 h12 =>
  vbin .eql a11 (.int .i64 2) fun a13 =>
  vguard a13 true (fun G14 =>
  aa PP (.fadd (.c a2) 11) h12 fun a17 h18 =>
  G14 a17 h18) h12 fun a15 h16 =>
  vguard a13 true (fun G19 =>
  aa PP (.iadda (.c a15) (.c (.int .i64 0)) 2 1) h16 fun a22 h23 =>
  G19 a22 h23) h16 fun a20 h21 =>
  vguard a13 true (fun G24 =>
  aa PP (.ld (.c a20) 1 false) h21 fun a27 h28 =>
  G24 a27 h28) h21 fun a25 h26 =>
  vguard a13 true (fun G29 =>
  aa PP (.fadd (.c a2) 11) h26 fun a32 h33 =>
  G29 a32 h33) h26 fun a30 h31 =>
  vguard a13 true (fun G34 =>
  aa PP (.iadda (.c a30) (.c (.int .i64 1)) 2 1) h31 fun a37 h38 =>
  G34 a37 h38) h31 fun a35 h36 =>
  vguard a13 true (fun G39 =>
  aa PP (.ld (.c a35) 1 false) h36 fun a42 h43 =>
  G39 a42 h43) h36 fun a40 h41 =>
  vguard a13 true (fun G44 =>
  vbin .neq a25 a40 fun a47 =>
  G44 a47 h41) h41 fun a45 h46 =>
  aa PP (.pick (.c a13) (.c a45) (.c (.bool false))) h46 fun a48 h49 =>
  vcond a48 (aa PP (.fadd (.c a2) 11) h49 fun a50 h51 =>
  aa PP (.Dl (.c a50) 2) h51 fun a52 h53 =>
  K a52 h53) (
  aa PP (.fadd (.c a2) 11) h49 fun a54 h55 =>
  aa PP (.iadda (.c a54) (.c (.int .i64 0)) 2 1) h55 fun a56 h57 =>
  aa PP (.ld (.c a56) 1 false) h57 fun a58 h59 =>
  aa PP (.bldS true 1 1 (.int .i64 0) [(0,(.c a58))]) h59 fun a60 h61 =>
  K a60 h61))
theorem zw (a0:D) (h0:Heap) (K:D->Heap->Prop):xi a0 h0 K=vcC PP lU.code (fun x e h'=>match x with|.exit _=>False|.pan=>False|.jump _=>False|_=>bp PP lU.res K e h') (params [a0] 0) h0:=by kernel_rfl
end Go.Am
namespace Go.Am
open Go Go.Proofs
def rO:Nat->Option (List Nat×List Nat)
  | 1000005=>some ([4,5],[])|_=>none
def ub:Nat->Option (List Nat×List Nat×List Nat)
  | _=>none
def o7:aA:=⟨31,
  .seq (.reg [⟨(some 4),.alloc (.agg [(.int .i64 0),(.int .i64 0),(.int .i64 0),(.int .i64 0),(.int .i64 0),.nil,.nil,.nil]),none⟩]) <|
  .seq (.reg [⟨(some 6),.bld [(.int .i64 0),(.int .i64 0)] [(0,1,(.c (.int .i64 1))),(1,1,(.c (.int .i64 0)))],none⟩,
    ⟨(some 7),.bld [(.int .i64 0),(.int .i64 0),(.int .i64 0),(.int .i64 0),(.int .i32 0),(.int .i64 0),(.int .i64 0),(.int .i32 0),(.int .i64 0),(.int .i64 0),(.int .i32 0),(.int .i64 0),(.int .i64 0)] [(0,1,(.c (.int .i64 1))),(11,2,(.t 6))],none⟩,
    ⟨(some 8),.bld [.nil,(.int .i64 0),(.int .i64 0),(.int .i64 0),(.int .i64 0),(.int .i32 0),(.int .i64 0),(.int .i64 0),(.int .i32 0),(.int .i64 0),(.int .i64 0),(.int .i32 0),(.int .i64 0),(.int .i64 0)] [(1,13,(.t 7))],none⟩,
    ⟨(some 9),.mov (.t 0),none⟩,
    ⟨(some 10),.call bP [(.c (.int .i64 0))],none⟩,
    ⟨(some 11),.bld [(.int .i64 0),(.int .i64 0),(.int .i64 0),(.int .i64 0),(.int .i64 0),(.int .i32 0),(.int .i64 0),(.int .i64 0),(.int .i32 0),(.int .i64 0),(.int .i64 0),(.int .i32 0),(.int .i64 0),(.int .i64 0),(.int .i32 0)] [(0,1,(.c (.int .i64 5))),(1,1,(.t 9)),(3,3,(.t 10))],none⟩,
    ⟨(some 12),.bldS true 15 1 (.agg [(.int .i64 0),(.int .i64 0),(.int .i64 0),(.int .i64 0),(.int .i64 0),(.int .i32 0),(.int .i64 0),(.int .i64 0),(.int .i32 0),(.int .i64 0),(.int .i64 0),(.int .i32 0),(.int .i64 0),(.int .i64 0),(.int .i32 0)]) [(0,(.t 11))],none⟩,
    ⟨(some 13),.call bP [(.c (.int .i64 0))],none⟩,
    ⟨(some 14),.bld [(.int .i64 0),(.int .i64 0)] [(0,1,(.c (.int .i64 2))),(1,1,(.c (.int .i64 3)))],none⟩,
    ⟨(some 15),.bld [(.int .i64 0),(.int .i64 0),(.int .i64 0),(.int .i64 0),(.int .i32 0),(.int .i64 0),(.int .i64 0),(.int .i32 0),(.int .i64 0),(.int .i64 0),(.int .i32 0),(.int .i64 0),(.int .i64 0)] [(0,1,(.c (.int .i64 2))),(5,3,(.t 13)),(11,2,(.t 14))],none⟩,
    ⟨(some 16),.bld [.nil,(.int .i64 0),(.int .i64 0),(.int .i64 0),(.int .i64 0),(.int .i32 0),(.int .i64 0),(.int .i64 0),(.int .i32 0),(.int .i64 0),(.int .i64 0),(.int .i32 0),(.int .i64 0),(.int .i64 0)] [(0,1,(.t 12)),(1,13,(.t 15))],none⟩,
    ⟨(some 17),.bld [(.int .i64 0),(.int .i64 0)] [(0,1,(.c (.int .i64 1))),(1,1,(.c (.int .i64 0)))],none⟩,
    ⟨(some 18),.bld [(.int .i64 0),(.int .i64 0),(.int .i64 0),(.int .i64 0),(.int .i32 0),(.int .i64 0),(.int .i64 0),(.int .i32 0),(.int .i64 0),(.int .i64 0),(.int .i32 0),(.int .i64 0),(.int .i64 0)] [(0,1,(.c (.int .i64 3))),(11,2,(.t 17))],none⟩,
    ⟨(some 19),.bld [.nil,(.int .i64 0),(.int .i64 0),(.int .i64 0),(.int .i64 0),(.int .i32 0),(.int .i64 0),(.int .i64 0),(.int .i32 0),(.int .i64 0),(.int .i64 0),(.int .i32 0),(.int .i64 0),(.int .i64 0)] [(1,13,(.t 18))],none⟩,
    ⟨(some 20),.bld [(.int .i64 0),(.int .i64 0),(.int .i64 0),(.int .i64 0),(.int .i32 0),(.int .i64 0),(.int .i64 0),(.int .i32 0),(.int .i64 0),(.int .i64 0),(.int .i32 0),(.int .i64 0),(.int .i64 0)] [(0,1,(.c (.int .i64 5)))],none⟩,
    ⟨(some 21),.bld [.nil,(.int .i64 0),(.int .i64 0),(.int .i64 0),(.int .i64 0),(.int .i32 0),(.int .i64 0),(.int .i64 0),(.int .i32 0),(.int .i64 0),(.int .i64 0),(.int .i32 0),(.int .i64 0),(.int .i64 0)] [(1,13,(.t 20))],none⟩,
    ⟨(some 22),.bldS true 14 4 (.agg [.nil,(.int .i64 0),(.int .i64 0),(.int .i64 0),(.int .i64 0),(.int .i32 0),(.int .i64 0),(.int .i64 0),(.int .i32 0),(.int .i64 0),(.int .i64 0),(.int .i32 0),(.int .i64 0),(.int .i64 0)]) [(0,(.t 8)),(1,(.t 16)),(2,(.t 19)),(3,(.t 21))],none⟩,
    ⟨(some 23),.bld [(.int .i64 0),(.int .i64 0),(.int .i64 0),(.int .i64 0),(.int .i64 0),.nil,.nil,.nil] [(0,1,(.c (.int .i64 4))),(1,1,(.c (.int .i64 1))),(2,1,(.c (.int .i64 1))),(7,1,(.t 22))],none⟩,
    ⟨(some 5),.alloc (.agg [(.int .i64 0),(.int .i64 0),(.int .i64 0),(.int .i64 0),(.int .i64 0),.nil,.nil,.nil]),none⟩,
    ⟨none,.st (.t 5) (.t 23) 8,none⟩]) <|
  .seqj [4,5] [] (.seq (.reg [⟨(some 24),.mov (.t 1),none⟩]) <|
  .cond (.t 24) (.reg [⟨(some 25),.fadd (.t 5) 7,none⟩,
    ⟨(some 26),.ld (.t 25) 1 false,none⟩,
    ⟨(some 27),.iadd (.t 26) (.c (.int .i64 0)) 14,none⟩,
    ⟨(some 28),.fadd (.t 27) 1,none⟩,
    ⟨(some 29),.fadd (.t 28) 0,none⟩,
    ⟨none,.st (.t 29) (.c (.int .i64 3)) 1,none⟩]) (.skip)) <|
  .seq (.reg [⟨(some 30),.ld (.t 5) 8 true,none⟩,
    ⟨none,.st (.t 4) (.t 30) 8,none⟩]) <|
  .ret,
  [.cell 4 8 true]⟩
theorem tM:cFn PP true ju rO (cDr PP 31 ub)=some o7:=by kernel_rfl
def mF:Nat->Option (List Nat×List Nat)
  | 1000009=>some ([1,2],[3])|5=>some ([1,2],[3,4])|_=>none
def pN:Nat->Option (List Nat×List Nat×List Nat)
  | 7=>some ([0,0,0,4,0,28,60,124,254,0,512,0,3584,7680,15872,32766,65534,131071,262143],[1,8,16,17,18],[999999])|_=>none
noncomputable def om:aA:=⟨44,de (cFn PP true jX mF (cDr PP 44 pN)),
  [.cell 2 8 true]⟩
theorem x5:cFn PP true jX mF (cDr PP 44 pN)=some om:=by kernel_rfl
def oR (a30:D) (h31:Heap) (a2:D) (a4:D) (J32:List D->Heap->Prop):Prop :=
  ∃(I44:Nat->List D->Heap->Prop) (n₀:Nat),I44 n₀ [a30,(.int .i64 0)] h31/\∀(n45:Nat) (f46:Nat->D) (h47:Heap),I44 n45 [f46 3,f46 4] h47 ->
  aa PP (.fadd (.c a2) 7) h47 fun a48 h49 =>
  aa PP (.ld (.c a48) 1 false) h49 fun a50 h51 =>
  bj a50 h51 fun a52 =>
  vbin .lss (f46 4) a52 fun a53 =>
  vcond a53 (af PP (.fadd (.c a2) 7) h51 fun a54 =>
  af PP (.ld (.c a54) 1 false) h51 fun a55 =>
  af PP (.iadd (.c a55) (.c (f46 4)) 14) h51 fun a56 =>
  af PP (.fadd (.c a56) 0) h51 fun a57 =>
  af PP (.ld (.c a57) 1 false) h51 fun a58 =>
  af PP (.fadd (.c a2) 7) h51 fun a59 =>
  af PP (.ld (.c a59) 1 false) h51 fun a60 =>
  af PP (.iadd (.c a60) (.c (f46 4)) 14) h51 fun a61 =>
  af PP (.fadd (.c a61) 1) h51 fun a62 =>
  af PP (.ld (.c a62) 13 true) h51 fun a63 =>
  aa PP (.bldS true 15 0 (.agg [(.int .i64 0),(.int .i64 0),(.int .i64 0),(.int .i64 0),(.int .i64 0),(.int .i32 0),(.int .i64 0),(.int .i64 0),(.int .i32 0),(.int .i64 0),(.int .i64 0),(.int .i32 0),(.int .i64 0),(.int .i64 0),(.int .i32 0)]) []) h51 fun a64 h65 =>
  ((af PP (.fadd (.c a2) 7) h65 fun a66=>aW [a66] [a54])/\(af PP (.ld (.c a54) 1 false) h65 fun a67=>aW [a67] [a55])/\(af PP (.iadd (.c a55) (.c (f46 4)) 14) h65 fun a68=>aW [a68] [a56])/\(af PP (.fadd (.c a56) 0) h65 fun a69=>aW [a69] [a57])/\(af PP (.ld (.c a57) 1 false) h65 fun a70=>aW [a70] [a58])/\(af PP (.fadd (.c a2) 7) h65 fun a71=>aW [a71] [a59])/\(af PP (.ld (.c a59) 1 false) h65 fun a72=>aW [a72] [a60])/\(af PP (.iadd (.c a60) (.c (f46 4)) 14) h65 fun a73=>aW [a73] [a61])/\(af PP (.fadd (.c a61) 1) h65 fun a74=>aW [a74] [a62])/\(af PP (.ld (.c a62) 13 true) h65 fun a75=>aW [a75] [a63])/\True) /\
  aa PP (.app (.c a64) (.c a58) 15 120 (.agg [(.int .i64 0),(.int .i64 0),(.int .i64 0),(.int .i64 0),(.int .i64 0),(.int .i32 0),(.int .i64 0),(.int .i64 0),(.int .i32 0),(.int .i64 0),(.int .i64 0),(.int .i32 0),(.int .i64 0),(.int .i64 0),(.int .i32 0)])) h65 fun a76 h77 =>
  ((af PP (.fadd (.c a2) 7) h77 fun a78=>aW [a78] [a59])/\(af PP (.ld (.c a59) 1 false) h77 fun a79=>aW [a79] [a60])/\(af PP (.iadd (.c a60) (.c (f46 4)) 14) h77 fun a80=>aW [a80] [a61])/\(af PP (.fadd (.c a61) 1) h77 fun a81=>aW [a81] [a62])/\(af PP (.ld (.c a62) 13 true) h77 fun a82=>aW [a82] [a63])/\True) /\
  af PP (.bld [.nil,(.int .i64 0),(.int .i64 0),(.int .i64 0),(.int .i64 0),(.int .i32 0),(.int .i64 0),(.int .i64 0),(.int .i32 0),(.int .i64 0),(.int .i64 0),(.int .i32 0),(.int .i64 0),(.int .i64 0)] [(0,1,(.c a76)),(1,13,(.c a63))]) h77 fun a83 =>
  aa PP (.bldS true 14 1 (.agg [.nil,(.int .i64 0),(.int .i64 0),(.int .i64 0),(.int .i64 0),(.int .i32 0),(.int .i64 0),(.int .i64 0),(.int .i32 0),(.int .i64 0),(.int .i64 0),(.int .i32 0),(.int .i64 0),(.int .i64 0)]) [(0,(.c a83))]) h77 fun a84 h85 =>
  aa PP (.app (.c (f46 3)) (.c a84) 14 128 (.agg [.nil,(.int .i64 0),(.int .i64 0),(.int .i64 0),(.int .i64 0),(.int .i32 0),(.int .i64 0),(.int .i64 0),(.int .i32 0),(.int .i64 0),(.int .i64 0),(.int .i32 0),(.int .i64 0),(.int .i64 0)])) h85 fun a86 h87 =>
  vbin .add (f46 4) (.int .i64 1) fun a88 =>
  aW [a2,a4] [a2,a4]/\∃m,m<n45/\I44 m [a86,a88] h87) (
  aW [a2,a4] [a2,a4]/\J32 [(f46 3)] h51)
def uZ (a0:D) (h0:Heap) (K:D->Heap->Prop):Prop :=
  aa PP (.box (.c a0)) h0 fun a2 h3 =>
  aa PP (.alloc (.agg [(.int .i64 0),(.int .i64 0),(.int .i64 0),(.int .i64 0),(.int .i64 0),.nil,.nil,.nil])) h3 fun a4 h5 =>
  aa PP (.bldS true 4 0 (.agg [(.str ⟨#[]⟩),(.int .i64 0),(.int .i64 0),(.int .i64 0)]) []) h5 fun a6 h7 =>
  aa PP (.fadd (.c a2) 5) h7 fun a8 h9 =>
  aa PP (.ld (.c a8) 1 false) h9 fun a10 h11 =>
  aa PP (.app (.c a6) (.c a10) 4 40 (.agg [(.str ⟨#[]⟩),(.int .i64 0),(.int .i64 0),(.int .i64 0)])) h11 fun a12 h13 =>
  aa PP (.fadd (.c a2) 5) h13 fun a14 h15 =>
  aa PP (.st (.c a14) (.c a12) 1) h15 fun a16 h17 =>
  aa PP (.bldS true 3 0 (.agg [(.int .i64 0),(.int .i64 0),(.int .i64 0)]) []) h17 fun a18 h19 =>
  aa PP (.fadd (.c a2) 6) h19 fun a20 h21 =>
  aa PP (.ld (.c a20) 1 false) h21 fun a22 h23 =>
  aa PP (.app (.c a18) (.c a22) 3 24 (.agg [(.int .i64 0),(.int .i64 0),(.int .i64 0)])) h23 fun a24 h25 =>
  aa PP (.fadd (.c a2) 6) h25 fun a26 h27 =>
  aa PP (.st (.c a26) (.c a24) 1) h27 fun a28 h29 =>
  aa PP (.bldS true 14 0 (.agg [.nil,(.int .i64 0),(.int .i64 0),(.int .i64 0),(.int .i64 0),(.int .i32 0),(.int .i64 0),(.int .i64 0),(.int .i32 0),(.int .i64 0),(.int .i64 0),(.int .i32 0),(.int .i64 0),(.int .i64 0)]) []) h29 fun a30 h31 =>
  ∃(J32:List D->Heap->Prop),(∀(f33:Nat->D) (h34:Heap),J32 [f33 3] h34 ->
  aa PP (.fadd (.c a2) 7) h34 fun a35 h36 =>
  aa PP (.st (.c a35) (.c (f33 3)) 1) h36 fun a37 h38 =>
  aa PP (.ld (.c a2) 8 true) h38 fun a39 h40 =>
  aa PP (.st (.c a4) (.c a39) 8) h40 fun a41 h42 =>
  aa PP (.ld (.c a4) 8 true) h42 fun a43 _ =>
  K a43 h42) /\
  oR a30 h31 a2 a4 J32
theorem xQ (a0:D) (h0:Heap) (K:D->Heap->Prop):uZ a0 h0 K=vcC PP om.code (fun x e h'=>match x with|.exit _=>False|.pan=>False|.jump _=>False|_=>bp PP om.res K e h') (params [a0] 0) h0:=by kernel_rfl
def gF:Nat->Option (List Nat×List Nat)
  | _=>none
def iX:Nat->Option (List Nat×List Nat×List Nat)
  | 2=>some ([0,1,3,7,0,16,48,112,240,511],[],[])|4=>some ([0,1,3,7,0,16,48,112,240,511,1023,2047,4095],[],[])|_=>none
noncomputable def fO:aA:=⟨32,de (cFn PP true aj gF (cDr PP 32 iX)),
  [.t 2]⟩
theorem pB:cFn PP true aj gF (cDr PP 32 iX)=some fO:=by kernel_rfl
def kM (a0:D) (h0:Heap) (K:D->Heap->Prop):Prop :=
  aa PP (.fadd (.c a0) 0) h0 fun a2 h3 =>
  aa PP (.fadd (.c a2) 1) h3 fun a4 h5 =>
  aa PP (.ld (.c a4) 1 false) h5 fun a6 h7 =>
  vbin .add a6 (.int .i64 1) fun a8 =>
  aa PP (.fadd (.c a0) 0) h7 fun a9 h10 =>
  aa PP (.fadd (.c a9) 1) h10 fun a11 h12 =>
  aa PP (.st (.c a11) (.c a8) 1) h12 fun a13 h14 =>
  af PP (.fadd (.c a0) 0) h14 fun a15 =>
  af PP (.fadd (.c a15) 1) h14 fun a16 =>
  af PP (.ld (.c a16) 1 false) h14 fun a17 =>
  af PP (.fadd (.c a0) 0) h14 fun a18 =>
  af PP (.fadd (.c a18) 0) h14 fun a19 =>
  af PP (.ld (.c a19) 1 false) h14 fun a20 =>
  bj a20 h14 fun a21 =>
  vbin .gtr a17 a21 fun a22 =>
  vcond a22 (K (.int .i64 0) h14) (
  af PP (.fadd (.c a0) 0) h14 fun a23 =>
  af PP (.fadd (.c a23) 0) h14 fun a24 =>
  af PP (.ld (.c a24) 1 false) h14 fun a25 =>
  af PP (.fadd (.c a0) 0) h14 fun a26 =>
  af PP (.fadd (.c a26) 1) h14 fun a27 =>
  af PP (.ld (.c a27) 1 false) h14 fun a28 =>
  vbin .sub a28 (.int .i64 1) fun a29 =>
  af PP (.iadd (.c a25) (.c a29) 1) h14 fun a30 =>
  af PP (.ld (.c a30) 1 false) h14 fun a31 =>
  af PP (.conv .i64 (.c a31)) h14 fun a32 =>
  K a32 h14)
theorem po (a0:D) (h0:Heap) (K:D->Heap->Prop):kM a0 h0 K=vcC PP fO.code (fun x e h'=>match x with|.exit _=>False|.pan=>False|.jump _=>False|_=>bp PP fO.res K e h') (params [a0] 0) h0:=by kernel_rfl
def kD:Nat->Option (List Nat×List Nat)
  | _=>none
def mq:Nat->Option (List Nat×List Nat×List Nat)
  | _=>none
noncomputable def kV:aA:=⟨7,de (cFn PP true gD kD (cDr PP 7 mq)),
  [.t 0]⟩
theorem vu:cFn PP true gD kD (cDr PP 7 mq)=some kV:=by kernel_rfl
def qz (h0:Heap) (K:D->Heap->Prop):Prop :=
  aa PP (.bld [(.str ⟨#[]⟩),(.int .i64 0),(.int .i64 0),(.int .i64 0)] [(0,1,(.c (.str ⟨#[97]⟩))),(1,1,(.c (.int .i64 1))),(2,1,(.c (.int .i64 1))),(3,1,(.c (.int .i64 8)))]) h0 fun a1 h2 =>
  aa PP (.bld [(.str ⟨#[]⟩),(.int .i64 0),(.int .i64 0),(.int .i64 0)] [(0,1,(.c (.str ⟨#[102]⟩))),(1,1,(.c (.int .i64 1))),(2,1,(.c (.int .i64 2))),(3,1,(.c (.int .i64 4)))]) h2 fun a3 h4 =>
  aa PP (.bld [(.str ⟨#[]⟩),(.int .i64 0),(.int .i64 0),(.int .i64 0)] [(0,1,(.c (.str ⟨#[115]⟩))),(1,1,(.c (.int .i64 2))),(2,1,(.c (.int .i64 1))),(3,1,(.c (.int .i64 8)))]) h4 fun a5 h6 =>
  aa PP (.bld [(.str ⟨#[]⟩),(.int .i64 0),(.int .i64 0),(.int .i64 0)] [(0,1,(.c (.str ⟨#[112]⟩))),(1,1,(.c (.int .i64 3))),(2,1,(.c (.int .i64 1))),(3,1,(.c (.int .i64 4)))]) h6 fun a7 h8 =>
  aa PP (.bld [(.str ⟨#[]⟩),(.int .i64 0),(.int .i64 0),(.int .i64 0)] [(0,1,(.c (.str ⟨#[98]⟩))),(1,1,(.c (.int .i64 2))),(2,1,(.c (.int .i64 3))),(3,1,(.c (.int .i64 4)))]) h8 fun a9 h10 =>
  aa PP (.bldS true 4 5 (.agg [(.str ⟨#[]⟩),(.int .i64 0),(.int .i64 0),(.int .i64 0)]) [(0,(.c a1)),(1,(.c a3)),(2,(.c a5)),(3,(.c a7)),(4,(.c a9))]) h10 fun a11 h12 =>
  K a11 h12
theorem u4 (h0:Heap) (K:D->Heap->Prop):qz h0 K=vcC PP kV.code (fun x e h'=>match x with|.exit _=>False|.pan=>False|.jump _=>False|_=>bp PP kV.res K e h') (params [] 0) h0:=by kernel_rfl
def fy:Nat->Option (List Nat×List Nat)
  | 1000012=>some ([0],[])|4=>some ([0,5],[6])|1000011=>some ([0,5,6],[])|_=>none
def gu:Nat->Option (List Nat×List Nat×List Nat)
  | 9=>some ([0,1,3,7,15,0,0,64,0,256,0,1216,0,0,12288,31936,65472,0,131072,0,527552,0,0,6291456,16256192,33426624,67108800,134217664,268435455,536870911,1073741823],[7,11,20,30],[999999])|_=>none
noncomputable def eH:aA:=⟨77,de (cFn PP true bV fy (cDr PP 77 gu)),
  []⟩
theorem na:cFn PP true bV fy (cDr PP 77 gu)=some eH:=by kernel_rfl
def gd (a14:D) (h12:Heap) (a15:D) (a0:D) (J16:List D->Heap->Prop):Prop :=
  ∃(I21:Nat->List D->Heap->Prop) (n₀:Nat),I21 n₀ [a14] h12/\∀(n22:Nat) (f23:Nat->D) (h24:Heap),I21 n22 [f23 6] h24 ->
  vbin .lss (f23 6) a15 fun a25 =>
  vcond a25 (ah PP bt [a0] h24 fun a26 h27 =>
  aa PP (.fadd (.c a0) 0) h27 fun a28 h29 =>
  aa PP (.fadd (.c a28) 2) h29 fun a30 h31 =>
  aa PP (.fadd (.c a30) 7) h31 fun a32 h33 =>
  aa PP (.ld (.c a32) 1 false) h33 fun a34 h35 =>
  vbin .add (f23 6) (.int .i64 1) fun a36 =>
  aa PP (.bld [(.int .i64 0),(.int .i64 0)] [(0,1,(.c a36)),(1,1,(.c (.int .i64 0)))]) h35 fun a37 h38 =>
  aa PP (.bld [(.int .i64 0),(.int .i64 0),(.int .i64 0),(.int .i64 0),(.int .i32 0),(.int .i64 0),(.int .i64 0),(.int .i32 0),(.int .i64 0),(.int .i64 0),(.int .i32 0),(.int .i64 0),(.int .i64 0)] [(0,1,(.c (.int .i64 1))),(11,2,(.c a37))]) h38 fun a39 h40 =>
  aa PP (.iadd (.c a34) (.c (f23 6)) 14) h40 fun a41 h42 =>
  aa PP (.fadd (.c a41) 1) h42 fun a43 h44 =>
  aa PP (.st (.c a43) (.c a39) 13) h44 fun a45 h46 =>
  ∃(J47:List D->Heap->Prop),(∀(f48:Nat->D) (h49:Heap),J47 [] h49 ->
  ah PP aQ [a0] h49 fun a50 h51 =>
  vbin .add (f23 6) (.int .i64 1) fun a52 =>
  aW [a0,a15] [a0,a15]/\∃m,m<n22/\I21 m [a52] h51) /\
  ah PP aj [a0] h46 fun a53 h54 =>
  vbin .rem a53 (.int .i64 2) fun a55 =>
  vbin .eql a55 (.int .i64 0) fun a56 =>
  vcond a56 (af PP (.fadd (.c a0) 0) h54 fun a57 =>
  af PP (.fadd (.c a57) 2) h54 fun a58 =>
  af PP (.fadd (.c a58) 7) h54 fun a59 =>
  af PP (.ld (.c a59) 1 false) h54 fun a60 =>
  vbin .add (f23 6) (.int .i64 1) fun a61 =>
  vbin .sub a15 (f23 6) fun a62 =>
  vbin .add (f23 6) (.int .i64 1) fun a63 =>
  vbin .sub a15 (f23 6) fun a64 =>
  ah PP aM [a0] h54 fun a65 h66 =>
  ((af PP (.fadd (.c a0) 0) h66 fun a67=>aW [a67] [a57])/\(af PP (.fadd (.c a57) 2) h66 fun a68=>aW [a68] [a58])/\(af PP (.fadd (.c a58) 7) h66 fun a69=>aW [a69] [a59])/\(af PP (.ld (.c a59) 1 false) h66 fun a70=>aW [a70] [a60])/\True) /\
  ah PP aj [a0] h66 fun a71 h72 =>
  ((af PP (.fadd (.c a0) 0) h72 fun a73=>aW [a73] [a57])/\(af PP (.fadd (.c a57) 2) h72 fun a74=>aW [a74] [a58])/\(af PP (.fadd (.c a58) 7) h72 fun a75=>aW [a75] [a59])/\(af PP (.ld (.c a59) 1 false) h72 fun a76=>aW [a76] [a60])/\True) /\
  vbin .rem a71 a62 fun a77 =>
  vbin .add a61 a77 fun a78 =>
  ah PP aj [a0] h72 fun a79 h80 =>
  ((af PP (.fadd (.c a0) 0) h80 fun a81=>aW [a81] [a57])/\(af PP (.fadd (.c a57) 2) h80 fun a82=>aW [a82] [a58])/\(af PP (.fadd (.c a58) 7) h80 fun a83=>aW [a83] [a59])/\(af PP (.ld (.c a59) 1 false) h80 fun a84=>aW [a84] [a60])/\True) /\
  vbin .rem a79 a64 fun a85 =>
  vbin .add a63 a85 fun a86 =>
  af PP (.bld [(.int .i64 0),(.int .i64 0)] [(0,1,(.c a78)),(1,1,(.c a86))]) h80 fun a87 =>
  af PP (.bld [(.int .i64 0),(.int .i64 0),(.int .i64 0),(.int .i64 0),(.int .i32 0),(.int .i64 0),(.int .i64 0),(.int .i32 0),(.int .i64 0),(.int .i64 0),(.int .i32 0),(.int .i64 0),(.int .i64 0)] [(0,1,(.c (.int .i64 2))),(5,3,(.c a65)),(11,2,(.c a87))]) h80 fun a88 =>
  af PP (.iadd (.c a60) (.c (f23 6)) 14) h80 fun a89 =>
  af PP (.fadd (.c a89) 1) h80 fun a90 =>
  aa PP (.st (.c a90) (.c a88) 13) h80 fun a91 h92 =>
  aW [a0,a15,(f23 6)] [a0,a15,(f23 6)]/\J47 [] h92) (
  aW [a0,a15,(f23 6)] [a0,a15,(f23 6)]/\J47 [] h54)) (
  aW [a0] [a0]/\J16 [] h24)
def jk (a0:D) (a1:D) (h0:Heap) (K:D->Heap->Prop):Prop :=
  ah PP aQ [a0] h0 fun a3 h4 =>
  aa PP (.fadd (.c a0) 0) h4 fun a5 h6 =>
  aa PP (.fadd (.c a5) 2) h6 fun a7 h8 =>
  aa PP (.fadd (.c a7) 7) h8 fun a9 h10 =>
  aa PP (.ld (.c a9) 1 false) h10 fun a11 h12 =>
  bj a11 h12 fun a13 =>
  vbin .sub a13 (.int .i64 1) fun a14 =>
  vbin .add a14 a1 fun a15 =>
  ∃(J16:List D->Heap->Prop),(∀(f17:Nat->D) (h18:Heap),J16 [] h18 ->
  ah PP bt [a0] h18 fun a19 h20 =>
  K (.tup []) h20) /\
  gd a14 h12 a15 a0 J16
theorem mS (a0:D) (a1:D) (h0:Heap) (K:D->Heap->Prop):jk a0 a1 h0 K=vcC PP eH.code (fun x e h'=>match x with|.exit _=>False|.pan=>False|.jump _=>False|_=>bp PP eH.res K e h') (params [a0,a1] 0) h0:=by kernel_rfl
def gG:Nat->Option (List Nat×List Nat)
  | 1000008=>some ([],[0,2,3,4])|1000016=>some ([],[0,4,119])|_=>none
def iY:Nat->Option (List Nat×List Nat×List Nat)
  | 9=>some ([0,1,3,7,15,0,0,64,192,0,512,0,2048,7680,16320,32767,65535,131071],[17],[])|15=>some ([0,1,3,7,15,0,32,0,128,0,0,1024,3584,8064,16383,32767,65535],[8,16],[999999])|_=>none
noncomputable def fP:aA:=⟨136,de (cFn PP true bR gG (cDr PP 136 iY)),
  []⟩
theorem pC:cFn PP true bR gG (cDr PP 136 iY)=some fP:=by kernel_rfl
def kN (a0:D) (h0:Heap) (K:D->Heap->Prop):Prop :=
  aa PP (.fadd (.c a0) 0) h0 fun a2 h3 =>
  aa PP (.fadd (.c a2) 2) h3 fun a4 h5 =>
  aa PP (.fadd (.c a4) 6) h5 fun a6 h7 =>
  aa PP (.ld (.c a6) 1 false) h7 fun a8 h9 =>
  bj a8 h9 fun a10 =>
  vbin .mul (.int .i64 2) a10 fun a11 =>
  vbin .add (.int .i64 6) a11 fun a12 =>
  ah PP aj [a0] h9 fun a13 h14 =>
  vbin .rem a13 (.int .i64 3) fun a15 =>
  vbin .add (.int .i64 1) a15 fun a16 =>
  vbin .add a12 (.int .i64 2) fun a17 =>
  aa PP (.fadd (.c a0) 0) h14 fun a18 h19 =>
  aa PP (.fadd (.c a18) 2) h19 fun a20 h21 =>
  aa PP (.fadd (.c a20) 2) h21 fun a22 h23 =>
  aa PP (.st (.c a22) (.c a17) 1) h23 fun a24 h25 =>
  aa PP (.fadd (.c a0) 0) h25 fun a26 h27 =>
  aa PP (.fadd (.c a26) 2) h27 fun a28 h29 =>
  aa PP (.fadd (.c a28) 7) h29 fun a30 h31 =>
  aa PP (.ld (.c a30) 1 false) h31 fun a32 h33 =>
  bj a32 h33 fun a34 =>
  ah PP bP [a12] h33 fun a35 h36 =>
  ah PP cu [(.int .i32 0)] h36 fun a37 h38 =>
  aa PP (.bld [(.int .i64 0),(.int .i64 0),(.int .i64 0),(.int .i64 0),(.int .i64 0),(.int .i32 0),(.int .i64 0),(.int .i64 0),(.int .i32 0),(.int .i64 0),(.int .i64 0),(.int .i32 0),(.int .i64 0),(.int .i64 0),(.int .i32 0)] [(0,1,(.c (.int .i64 1))),(3,3,(.c a35)),(6,3,(.c a37))]) h38 fun a39 h40 =>
  ah PP aC [a0,a39] h40 fun a41 h42 =>
  aa PP (.fadd (.c a0) 0) h42 fun a43 h44 =>
  aa PP (.fadd (.c a43) 2) h44 fun a45 h46 =>
  aa PP (.fadd (.c a45) 7) h46 fun a47 h48 =>
  aa PP (.ld (.c a47) 1 false) h48 fun a49 h50 =>
  vbin .sub a34 (.int .i64 1) fun a51 =>
  aa PP (.bld [(.int .i64 0),(.int .i64 0)] [(0,1,(.c a34)),(1,1,(.c (.int .i64 0)))]) h50 fun a52 h53 =>
  aa PP (.bld [(.int .i64 0),(.int .i64 0),(.int .i64 0),(.int .i64 0),(.int .i32 0),(.int .i64 0),(.int .i64 0),(.int .i32 0),(.int .i64 0),(.int .i64 0),(.int .i32 0),(.int .i64 0),(.int .i64 0)] [(0,1,(.c (.int .i64 1))),(11,2,(.c a52))]) h53 fun a54 h55 =>
  aa PP (.iadd (.c a49) (.c a51) 14) h55 fun a56 h57 =>
  aa PP (.fadd (.c a56) 1) h57 fun a58 h59 =>
  aa PP (.st (.c a58) (.c a54) 13) h59 fun a60 h61 =>
  ∃(J62:List D->Heap->Prop),(∀(f63:Nat->D) (h64:Heap),J62 [f63 0,f63 2,f63 3,f63 4] h64 ->
  ah PP aQ [(f63 0)] h64 fun a65 h66 =>
  vbin .add (f63 2) (.int .i64 1) fun a67 =>
  ah PP bP [a67] h66 fun a68 h69 =>
  ah PP bP [(f63 2)] h69 fun a70 h71 =>
  aa PP (.conv .i32 (.c (f63 3))) h71 fun a72 h73 =>
  ah PP cu [a72] h73 fun a74 h75 =>
  aa PP (.bld [(.int .i64 0),(.int .i64 0),(.int .i64 0),(.int .i64 0),(.int .i64 0),(.int .i32 0),(.int .i64 0),(.int .i64 0),(.int .i32 0),(.int .i64 0),(.int .i64 0),(.int .i32 0),(.int .i64 0),(.int .i64 0),(.int .i32 0)] [(0,1,(.c (.int .i64 3))),(1,1,(.c (.int .i64 26))),(3,3,(.c a68)),(6,3,(.c a70)),(9,3,(.c a74))]) h75 fun a76 h77 =>
  ah PP aC [(f63 0),a76] h77 fun a78 h79 =>
  af PP (.fadd (.c (f63 0)) 0) h79 fun a80 =>
  af PP (.fadd (.c a80) 2) h79 fun a81 =>
  af PP (.fadd (.c a81) 7) h79 fun a82 =>
  af PP (.ld (.c a82) 1 false) h79 fun a83 =>
  vbin .add (f63 2) (.int .i64 1) fun a84 =>
  af PP (.call bP [(.c a84)]) h79 fun a85 =>
  vbin .add (f63 4) (.int .i64 1) fun a86 =>
  vbin .add (f63 4) (.int .i64 2) fun a87 =>
  af PP (.bld [(.int .i64 0),(.int .i64 0)] [(0,1,(.c a86)),(1,1,(.c a87))]) h79 fun a88 =>
  af PP (.bld [(.int .i64 0),(.int .i64 0),(.int .i64 0),(.int .i64 0),(.int .i32 0),(.int .i64 0),(.int .i64 0),(.int .i32 0),(.int .i64 0),(.int .i64 0),(.int .i32 0),(.int .i64 0),(.int .i64 0)] [(0,1,(.c (.int .i64 2))),(5,3,(.c a85)),(11,2,(.c a88))]) h79 fun a89 =>
  af PP (.iadd (.c a83) (.c (f63 4)) 14) h79 fun a90 =>
  af PP (.fadd (.c a90) 1) h79 fun a91 =>
  aa PP (.st (.c a91) (.c a89) 13) h79 fun a92 h93 =>
  ah PP aQ [(f63 0)] h93 fun a94 h95 =>
  ah PP bP [(f63 2)] h95 fun a96 h97 =>
  ah PP bP [(f63 2)] h97 fun a98 h99 =>
  ah PP cu [(.int .i32 1)] h99 fun a100 h101 =>
  aa PP (.bld [(.int .i64 0),(.int .i64 0),(.int .i64 0),(.int .i64 0),(.int .i64 0),(.int .i32 0),(.int .i64 0),(.int .i64 0),(.int .i32 0),(.int .i64 0),(.int .i64 0),(.int .i32 0),(.int .i64 0),(.int .i64 0),(.int .i32 0)] [(0,1,(.c (.int .i64 3))),(1,1,(.c (.int .i64 10))),(3,3,(.c a96)),(6,3,(.c a98)),(9,3,(.c a100))]) h101 fun a102 h103 =>
  ah PP aC [(f63 0),a102] h103 fun a104 h105 =>
  ah PP bt [(f63 0)] h105 fun a106 h107 =>
  aa PP (.fadd (.c (f63 0)) 0) h107 fun a108 h109 =>
  aa PP (.fadd (.c a108) 2) h109 fun a110 h111 =>
  aa PP (.fadd (.c a110) 7) h111 fun a112 h113 =>
  aa PP (.ld (.c a112) 1 false) h113 fun a114 h115 =>
  vbin .add (f63 4) (.int .i64 1) fun a116 =>
  aa PP (.bld [(.int .i64 0),(.int .i64 0)] [(0,1,(.c (f63 4))),(1,1,(.c (.int .i64 0)))]) h115 fun a117 h118 =>
  aa PP (.bld [(.int .i64 0),(.int .i64 0),(.int .i64 0),(.int .i64 0),(.int .i32 0),(.int .i64 0),(.int .i64 0),(.int .i32 0),(.int .i64 0),(.int .i64 0),(.int .i32 0),(.int .i64 0),(.int .i64 0)] [(0,1,(.c (.int .i64 1))),(11,2,(.c a117))]) h118 fun a119 h120 =>
  aa PP (.iadd (.c a114) (.c a116) 14) h120 fun a121 h122 =>
  aa PP (.fadd (.c a121) 1) h122 fun a123 h124 =>
  aa PP (.st (.c a123) (.c a119) 13) h124 fun a125 h126 =>
  ∃(J127:List D->Heap->Prop),(∀(f128:Nat->D) (h129:Heap),J127 [f128 0,f128 4,f128 119] h129 ->
  vcond (f128 119) (af PP (.fadd (.c (f128 0)) 0) h129 fun a130 =>
  af PP (.fadd (.c a130) 2) h129 fun a131 =>
  af PP (.fadd (.c a131) 7) h129 fun a132 =>
  af PP (.ld (.c a132) 1 false) h129 fun a133 =>
  vbin .add (f128 4) (.int .i64 1) fun a134 =>
  vbin .add (f128 4) (.int .i64 2) fun a135 =>
  af PP (.bld [(.int .i64 0),(.int .i64 0)] [(0,1,(.c (f128 4))),(1,1,(.c a135))]) h129 fun a136 =>
  ah PP aM [(f128 0)] h129 fun a137 h138 =>
  ((af PP (.fadd (.c (f128 0)) 0) h138 fun a139=>aW [a139] [a130])/\(af PP (.fadd (.c a130) 2) h138 fun a140=>aW [a140] [a131])/\(af PP (.fadd (.c a131) 7) h138 fun a141=>aW [a141] [a132])/\(af PP (.ld (.c a132) 1 false) h138 fun a142=>aW [a142] [a133])/\True) /\
  af PP (.bld [(.int .i64 0),(.int .i64 0),(.int .i64 0),(.int .i64 0),(.int .i32 0),(.int .i64 0),(.int .i64 0),(.int .i32 0),(.int .i64 0),(.int .i64 0),(.int .i32 0),(.int .i64 0),(.int .i64 0)] [(0,1,(.c (.int .i64 2))),(5,3,(.c a137)),(11,2,(.c a136))]) h138 fun a143 =>
  af PP (.iadd (.c a133) (.c a134) 14) h138 fun a144 =>
  af PP (.fadd (.c a144) 1) h138 fun a145 =>
  aa PP (.st (.c a145) (.c a143) 13) h138 fun a146 h147 =>
  K (.tup []) h147) (
  K (.tup []) h129)) /\
  ah PP aj [(f63 0)] h126 fun a148 h149 =>
  vbin .rem a148 (.int .i64 3) fun a150 =>
  vbin .eql a150 (.int .i64 0) fun a151 =>
  aW [] []/\J127 [(f63 0),(f63 4),a151] h149) /\
  aa PP (.fadd (.c a0) 0) h61 fun a152 h153 =>
  aa PP (.fadd (.c a152) 2) h153 fun a154 h155 =>
  aa PP (.fadd (.c a154) 6) h155 fun a156 h157 =>
  aa PP (.ld (.c a156) 1 false) h157 fun a158 h159 =>
  aa PP (.bld [(.int .i64 0),(.int .i64 0),(.int .i64 0)] [(0,1,(.c a34)),(1,1,(.c a12)),(2,1,(.c a16))]) h159 fun a160 h161 =>
  aa PP (.bldS true 3 1 (.agg [(.int .i64 0),(.int .i64 0),(.int .i64 0)]) [(0,(.c a160))]) h161 fun a162 h163 =>
  aa PP (.app (.c a158) (.c a162) 3 24 (.agg [(.int .i64 0),(.int .i64 0),(.int .i64 0)])) h163 fun a164 h165 =>
  aa PP (.fadd (.c a0) 0) h165 fun a166 h167 =>
  aa PP (.fadd (.c a166) 2) h167 fun a168 h169 =>
  aa PP (.fadd (.c a168) 6) h169 fun a170 h171 =>
  aa PP (.st (.c a170) (.c a164) 1) h171 fun a172 h173 =>
  aW [] []/\J62 [a0,a12,a16,a34] h173
theorem pq (a0:D) (h0:Heap) (K:D->Heap->Prop):kN a0 h0 K=vcC PP fP.code (fun x e h'=>match x with|.exit _=>False|.pan=>False|.jump _=>False|_=>bp PP fP.res K e h') (params [a0] 0) h0:=by kernel_rfl
def fY:Nat->Option (List Nat×List Nat)
  | _=>none
def il:Nat->Option (List Nat×List Nat×List Nat)
  | _=>none
noncomputable def fu:aA:=⟨14,de (cFn PP true aQ fY (cDr PP 14 il)),
  []⟩
theorem oi:cFn PP true aQ fY (cDr PP 14 il)=some fu:=by kernel_rfl
def jK (a0:D) (h0:Heap) (K:D->Heap->Prop):Prop :=
  aa PP (.fadd (.c a0) 0) h0 fun a2 h3 =>
  aa PP (.fadd (.c a2) 2) h3 fun a4 h5 =>
  aa PP (.fadd (.c a4) 7) h5 fun a6 h7 =>
  aa PP (.ld (.c a6) 1 false) h7 fun a8 h9 =>
  aa PP (.bld [.nil,(.int .i64 0),(.int .i64 0),(.int .i64 0),(.int .i64 0),(.int .i32 0),(.int .i64 0),(.int .i64 0),(.int .i32 0),(.int .i64 0),(.int .i64 0),(.int .i32 0),(.int .i64 0),(.int .i64 0)] []) h9 fun a10 h11 =>
  aa PP (.bldS true 14 1 (.agg [.nil,(.int .i64 0),(.int .i64 0),(.int .i64 0),(.int .i64 0),(.int .i32 0),(.int .i64 0),(.int .i64 0),(.int .i32 0),(.int .i64 0),(.int .i64 0),(.int .i32 0),(.int .i64 0),(.int .i64 0)]) [(0,(.c a10))]) h11 fun a12 h13 =>
  aa PP (.app (.c a8) (.c a12) 14 128 (.agg [.nil,(.int .i64 0),(.int .i64 0),(.int .i64 0),(.int .i64 0),(.int .i32 0),(.int .i64 0),(.int .i64 0),(.int .i32 0),(.int .i64 0),(.int .i64 0),(.int .i32 0),(.int .i64 0),(.int .i64 0)])) h13 fun a14 h15 =>
  aa PP (.fadd (.c a0) 0) h15 fun a16 h17 =>
  aa PP (.fadd (.c a16) 2) h17 fun a18 h19 =>
  aa PP (.fadd (.c a18) 7) h19 fun a20 h21 =>
  aa PP (.st (.c a20) (.c a14) 1) h21 fun a22 h23 =>
  K (.tup []) h23
theorem nY (a0:D) (h0:Heap) (K:D->Heap->Prop):jK a0 h0 K=vcC PP fu.code (fun x e h'=>match x with|.exit _=>False|.pan=>False|.jump _=>False|_=>bp PP fu.res K e h') (params [a0] 0) h0:=by kernel_rfl
def iq:Nat->Option (List Nat×List Nat)
  | _=>none
def jE:Nat->Option (List Nat×List Nat×List Nat)
  | _=>none
noncomputable def gX:aA:=⟨7,de (cFn PP true aM iq (cDr PP 7 jE)),
  [.cell 2 3 true]⟩
theorem jn:cFn PP true aM iq (cDr PP 7 jE)=some gX:=by kernel_rfl
def gQ (a0:D) (h0:Heap) (K:D->Heap->Prop):Prop :=
  aa PP (.alloc (.agg [(.int .i64 0),(.int .i64 0),(.int .i32 0)])) h0 fun a2 h3 =>
  ah PP aj [a0] h3 fun a4 h5 =>
  vbin .rem a4 (.int .i64 6) fun a6 =>
  ah PP bP [a6] h5 fun a7 h8 =>
  aa PP (.st (.c a2) (.c a7) 3) h8 fun a9 h10 =>
  aa PP (.ld (.c a2) 3 true) h10 fun a11 _ =>
  K a11 h10
theorem jl (a0:D) (h0:Heap) (K:D->Heap->Prop):gQ a0 h0 K=vcC PP gX.code (fun x e h'=>match x with|.exit _=>False|.pan=>False|.jump _=>False|_=>bp PP gX.res K e h') (params [a0] 0) h0:=by kernel_rfl
def im:Nat->Option (List Nat×List Nat)
  | _=>none
def jD:Nat->Option (List Nat×List Nat×List Nat)
  | _=>none
noncomputable def gW:aA:=⟨18,de (cFn PP true aI im (cDr PP 18 jD)),
  [.cell 2 3 true]⟩
theorem jm:cFn PP true aI im (cDr PP 18 jD)=some gW:=by kernel_rfl
def gP (a0:D) (h0:Heap) (K:D->Heap->Prop):Prop :=
  aa PP (.alloc (.agg [(.int .i64 0),(.int .i64 0),(.int .i32 0)])) h0 fun a2 h3 =>
  ah PP aj [a0] h3 fun a4 h5 =>
  vbin .rem a4 (.int .i64 3) fun a6 =>
  vbin .eql a6 (.int .i64 0) fun a7 =>
  vcond a7 (vbin .quo a4 (.int .i64 3) fun a8 =>
  aa PP (.conv .i32 (.c a8)) h5 fun a9 h10 =>
  vbin .sub a9 (.int .i32 20) fun a11 =>
  ah PP cu [a11] h10 fun a12 h13 =>
  aa PP (.st (.c a2) (.c a12) 3) h13 fun a14 h15 =>
  aa PP (.ld (.c a2) 3 true) h15 fun a16 _ =>
  K a16 h15) (
  vbin .quo a4 (.int .i64 3) fun a17 =>
  vbin .rem a17 (.int .i64 6) fun a18 =>
  ah PP bP [a18] h5 fun a19 h20 =>
  aa PP (.st (.c a2) (.c a19) 3) h20 fun a21 h22 =>
  aa PP (.ld (.c a2) 3 true) h22 fun a23 _ =>
  K a23 h22)
theorem jj (a0:D) (h0:Heap) (K:D->Heap->Prop):gP a0 h0 K=vcC PP gW.code (fun x e h'=>match x with|.exit _=>False|.pan=>False|.jump _=>False|_=>bp PP gW.res K e h') (params [a0] 0) h0:=by kernel_rfl
def fX:Nat->Option (List Nat×List Nat)
  | 1=>some ([0],[2])|_=>none
def ik:Nat->Option (List Nat×List Nat×List Nat)
  | _=>none
noncomputable def ft:aA:=⟨12,de (cFn PP true bt fX (cDr PP 12 ik)),
  []⟩
theorem oh:cFn PP true bt fX (cDr PP 12 ik)=some ft:=by kernel_rfl
def gR (a4:D) (h3:Heap) (a0:D) (K:D->Heap->Prop):Prop :=
  ∃(I5:Nat->List D->Heap->Prop) (n₀:Nat),I5 n₀ [a4] h3/\∀(n6:Nat) (f7:Nat->D) (h8:Heap),I5 n6 [f7 2] h8 ->
  vbin .gtr (f7 2) (.int .i64 0) fun a9 =>
  vcond a9 (ah PP dM [a0] h8 fun a10 h11 =>
  vbin .sub (f7 2) (.int .i64 1) fun a12 =>
  aW [a0] [a0]/\∃m,m<n6/\I5 m [a12] h11) (
  K (.tup []) h8)
def jJ (a0:D) (h0:Heap) (K:D->Heap->Prop):Prop :=
  ah PP aj [a0] h0 fun a2 h3 =>
  vbin .rem a2 (.int .i64 5) fun a4 =>
  gR a4 h3 a0 K
theorem nX (a0:D) (h0:Heap) (K:D->Heap->Prop):jJ a0 h0 K=vcC PP ft.code (fun x e h'=>match x with|.exit _=>False|.pan=>False|.jump _=>False|_=>bp PP ft.res K e h') (params [a0] 0) h0:=by kernel_rfl
def mG:Nat->Option (List Nat×List Nat)
  | 1000016=>some ([4,5],[])|3=>some ([2,4,5],[6])|7=>some ([2,4,5,7,30,31],[6,32])|1000015=>some ([2,4,5,7,30,31,32],[6])|_=>none
def pO:Nat->Option (List Nat×List Nat×List Nat)
  | 4=>some ([0,1,0,4,12,31,63,127,0,511],[8,9],[])|_=>none
noncomputable def oo:aA:=⟨56,de (cFn PP true eN mG (cDr PP 56 pO)),
  [.t 4,.t 5]⟩
theorem x6:cFn PP true eN mG (cDr PP 56 pO)=some oo:=by kernel_rfl
def oT (a33:D) (h38:Heap) (a39:D) (a3:D) (a5:D) (a9:D) (a29:D) (a37:D) (n17:Nat) (I16:Nat->List D->Heap->Prop):Prop :=
  ∃(I40:Nat->List D->Heap->Prop) (n₀:Nat),I40 n₀ [a33,(.int .i64 0)] h38/\∀(n41:Nat) (f42:Nat->D) (h43:Heap),I40 n41 [f42 6,f42 32] h43 ->
  vbin .lss (f42 32) a39 fun a44 =>
  vcond a44 (∃(J45:List D->Heap->Prop),(∀(f46:Nat->D) (h47:Heap),J45 [f46 6] h47 ->
  vbin .add (f42 32) (.int .i64 1) fun a48 =>
  aW [a3,a5,a9,a29,a37,a39] [a3,a5,a9,a29,a37,a39]/\∃m,m<n41/\I40 m [(f46 6),a48] h47) /\
  aa PP (.iadd (.c a37) (.c (f42 32)) 1) h43 fun a49 h50 =>
  aa PP (.ld (.c a49) 1 false) h50 fun a51 h52 =>
  aa PP (.fadd (.c a29) 0) h52 fun a53 h54 =>
  aa PP (.ld (.c a53) 1 false) h54 fun a55 h56 =>
  vbin .eql a55 (.int .i64 3) fun a57 =>
  vcond a57 (aa PP (.mupd (.int .i64) (.c a9) (.c a51) (.c (.bool true))) h56 fun a58 h59 =>
  aW [a3,a5,a9,a29,a37,a39,(f42 32)] [a3,a5,a9,a29,a37,a39,(f42 32)]/\J45 [(f42 6)] h59) (
  aa PP (.look (.int .i64) (.c a5) (.c a51) (.bool false) false) h56 fun a60 h61 =>
  vun .not a60 fun a62 =>
  vcond a62 (aa PP (.mupd (.int .i64) (.c a5) (.c a51) (.c (.bool true))) h61 fun a63 h64 =>
  aa PP (.bldS true 1 1 (.int .i64 0) [(0,(.c a51))]) h64 fun a65 h66 =>
  aa PP (.app (.c (f42 6)) (.c a65) 1 8 (.int .i64 0)) h66 fun a67 h68 =>
  aW [a3,a5,a9,a29,a37,a39,(f42 32)] [a3,a5,a9,a29,a37,a39,(f42 32)]/\J45 [a67] h68) (
  aW [a3,a5,a9,a29,a37,a39,(f42 32)] [a3,a5,a9,a29,a37,a39,(f42 32)]/\J45 [(f42 6)] h61))) (
  aW [a3,a5,a9] [a3,a5,a9]/\∃m,m<n17/\I16 m [(f42 6)] h43)
def oS (a11:D) (h12:Heap) (a3:D) (a5:D) (a9:D) (J13:List D->Heap->Prop):Prop :=
  ∃(I16:Nat->List D->Heap->Prop) (n₀:Nat),I16 n₀ [a11] h12/\∀(n17:Nat) (f18:Nat->D) (h19:Heap),I16 n17 [f18 6] h19 ->
  bj (f18 6) h19 fun a20 =>
  vbin .gtr a20 (.int .i64 0) fun a21 =>
  vcond a21 (af PP (.fadd (.c a3) 7) h19 fun a22 =>
  af PP (.ld (.c a22) 1 false) h19 fun a23 =>
  af PP (.iadd (.c (f18 6)) (.c (.int .i64 0)) 1) h19 fun a24 =>
  af PP (.ld (.c a24) 1 false) h19 fun a25 =>
  af PP (.iadd (.c a23) (.c a25) 14) h19 fun a26 =>
  af PP (.fadd (.c a26) 1) h19 fun a27 =>
  af PP (.ld (.c a27) 13 true) h19 fun a28 =>
  aa PP (.alloc (.agg [(.int .i64 0),(.int .i64 0),(.int .i64 0),(.int .i64 0),(.int .i32 0),(.int .i64 0),(.int .i64 0),(.int .i32 0),(.int .i64 0),(.int .i64 0),(.int .i32 0),(.int .i64 0),(.int .i64 0)])) h19 fun a29 h30 =>
  aa PP (.st (.c a29) (.c a28) 13) h30 fun a31 h32 =>
  aa PP (.kY (.c (f18 6)) (some (.c (.int .i64 1))) none none 1) h32 fun a33 h34 =>
  aa PP (.ld (.c a29) 13 true) h34 fun a35 h36 =>
  ah PP dI [a35] h36 fun a37 h38 =>
  bj a37 h38 fun a39 =>
  oT a33 h38 a39 a3 a5 a9 a29 a37 n17 I16) (
  aW [a5,a9] [a5,a9]/\J13 [] h19)
def u6 (a0:D) (a1:D) (h0:Heap) (K:D->Heap->Prop):Prop :=
  aa PP (.box (.c a0)) h0 fun a3 h4 =>
  aa PP (.yi (.int .i64)) h4 fun a5 h6 =>
  aa PP (.mupd (.int .i64) (.c a5) (.c a1) (.c (.bool true))) h6 fun a7 h8 =>
  aa PP (.yi (.int .i64)) h8 fun a9 h10 =>
  aa PP (.bldS true 1 1 (.int .i64 0) [(0,(.c a1))]) h10 fun a11 h12 =>
  ∃(J13:List D->Heap->Prop),(∀(f14:Nat->D) (h15:Heap),J13 [] h15 ->
  K (.tup [a5,a9]) h15) /\
  oS a11 h12 a3 a5 a9 J13
theorem xR (a0:D) (a1:D) (h0:Heap) (K:D->Heap->Prop):u6 a0 a1 h0 K=vcC PP oo.code (fun x e h'=>match x with|.exit _=>False|.pan=>False|.jump _=>False|_=>bp PP oo.res K e h') (params [a0,a1] 0) h0:=by kernel_rfl
def b9:Nat->Option (List Nat×List Nat)
  | _=>none
def ct:Nat->Option (List Nat×List Nat×List Nat)
  | _=>none
noncomputable def bJ:aA:=⟨4,de (cFn PP true aF b9 (cDr PP 4 ct)),
  [.t 2]⟩
theorem fw:cFn PP true aF b9 (cDr PP 4 ct)=some bJ:=by kernel_rfl
def cF (a0:D) (h0:Heap) (K:D->Heap->Prop):Prop :=
  aa PP (.box (.c a0)) h0 fun a2 h3 =>
  aa PP (.mkf ff [] [(.c a2)]) h3 fun a4 h5 =>
  K a4 h5
theorem fj (a0:D) (h0:Heap) (K:D->Heap->Prop):cF a0 h0 K=vcC PP bJ.code (fun x e h'=>match x with|.exit _=>False|.pan=>False|.jump _=>False|_=>bp PP bJ.res K e h') (params [a0] 0) h0:=by kernel_rfl
def b8:Nat->Option (List Nat×List Nat)
  | _=>none
def cr:Nat->Option (List Nat×List Nat×List Nat)
  | _=>none
noncomputable def bI:aA:=⟨4,de (cFn PP true aO b8 (cDr PP 4 cr)),
  [.t 2]⟩
theorem fv:cFn PP true aO b8 (cDr PP 4 cr)=some bI:=by kernel_rfl
def cE (a0:D) (h0:Heap) (K:D->Heap->Prop):Prop :=
  aa PP (.box (.c a0)) h0 fun a2 h3 =>
  aa PP (.mkf fe [] [(.c a2)]) h3 fun a4 h5 =>
  K a4 h5
theorem fh (a0:D) (h0:Heap) (K:D->Heap->Prop):cE a0 h0 K=vcC PP bI.code (fun x e h'=>match x with|.exit _=>False|.pan=>False|.jump _=>False|_=>bp PP bI.res K e h') (params [a0] 0) h0:=by kernel_rfl
def uE:Nat->Option (List Nat×List Nat)
  | 1000015=>some ([3],[])|4=>some ([1,3],[4])|1000006=>some ([1,3,4],[])|7=>some ([1,3,4],[5])|1000009=>some ([1,3,4,5],[])|11=>some ([1,3,4,5,6],[7])|_=>none
def xv:Nat->Option (List Nat×List Nat×List Nat)
  | _=>none
def iR:aA:=⟨54,
  .seq (.reg [⟨(some 1),.box (.t 0),none⟩,
    ⟨(some 2),.mov (.c .nil),none⟩]) <|
  .seq (.reg [⟨(some 8),.fadd (.t 1) 7,none⟩,
    ⟨(some 9),.ld (.t 8) 1 false,none⟩,
    ⟨(some 10),.len (.t 9),none⟩,
    ⟨(some 11),.mk 1 1 (.bool false) (.t 10) (.t 10),none⟩,
    ⟨(some 3),.mov (.t 11),none⟩]) <|
  .seq (.reg [⟨(some 12),.mov (.t 3),none⟩,
    ⟨(some 13),.iadd (.t 12) (.c (.int .i64 0)) 1,none⟩,
    ⟨none,.st (.t 13) (.c (.bool true)) 1,none⟩]) <|
  .seqj [3] [] (.seq (.reg [⟨(some 4),.mov (.c (.int .i64 0)),none⟩]) <|
  .block 0 (.loop [1,3] [4] (.seq (.seq (.reg [⟨(some 14),.mov (.t 4),none⟩,
    ⟨(some 15),.fadd (.t 1) 7,none⟩,
    ⟨(some 16),.ld (.t 15) 1 false,none⟩,
    ⟨(some 17),.len (.t 16),none⟩,
    ⟨(some 18),.bin .lss (.t 14) (.t 17),none⟩]) <|
  .cond (.t 18) (.skip) (.exit 0)) <|
  .seqj [1,3,4] [] (.block 1 (.seq (.reg [⟨(some 5),.mov (.c (.int .i64 0)),none⟩]) <|
  .block 2 (.loop [1,3,4] [5] (.seq (.seq (.reg [⟨(some 21),.mov (.t 5),none⟩,
    ⟨(some 22),.fadd (.t 1) 7,none⟩,
    ⟨(some 23),.ld (.t 22) 1 false,none⟩,
    ⟨(some 24),.len (.t 23),none⟩,
    ⟨(some 25),.bin .lss (.t 21) (.t 24),none⟩]) <|
  .cond (.t 25) (.skip) (.exit 2)) <|
  .seqj [1,3,4,5] [] (.block 3 (.seq (.reg [⟨(some 28),.fadd (.t 1) 7,none⟩,
    ⟨(some 29),.ld (.t 28) 1 false,none⟩,
    ⟨(some 30),.mov (.t 5),none⟩,
    ⟨(some 31),.iadd (.t 29) (.t 30) 14,none⟩,
    ⟨(some 32),.fadd (.t 31) 1,none⟩,
    ⟨(some 33),.ld (.t 32) 13 true,none⟩,
    ⟨(some 34),.call gC [(.t 33)],none⟩,
    ⟨(some 6),.mov (.t 34),none⟩]) <|
  .seq (.reg [⟨(some 7),.mov (.c (.int .i64 0)),none⟩]) <|
  .block 4 (.loop [1,3,4,5,6] [7] (.seq (.seq (.reg [⟨(some 35),.mov (.t 7),none⟩,
    ⟨(some 36),.mov (.t 6),none⟩,
    ⟨(some 37),.len (.t 36),none⟩,
    ⟨(some 38),.bin .lss (.t 35) (.t 37),none⟩,
    ⟨(some 39),.mov (.t 38),none⟩,
    ⟨(some 40),.mov (.t 3),some (39,true)⟩,
    ⟨(some 41),.mov (.t 5),some (39,true)⟩,
    ⟨(some 42),.iadd (.t 40) (.t 41) 1,some (39,true)⟩,
    ⟨(some 43),.ld (.t 42) 1 false,some (39,true)⟩,
    ⟨(some 44),.pick (.t 39) (.t 43) (.c (.bool false)),none⟩]) <|
  .cond (.t 44) (.skip) (.exit 4)) <|
  .seq (.block 5 (.reg [⟨(some 47),.mov (.t 3),none⟩,
    ⟨(some 48),.mov (.t 6),none⟩,
    ⟨(some 49),.mov (.t 7),none⟩,
    ⟨(some 50),.iadd (.t 48) (.t 49) 1,none⟩,
    ⟨(some 51),.ld (.t 50) 1 false,none⟩,
    ⟨(some 52),.iadd (.t 47) (.t 51) 1,none⟩,
    ⟨none,.st (.t 52) (.c (.bool true)) 1,none⟩])) <|
  .reg [⟨(some 45),.mov (.t 7),none⟩,
    ⟨(some 46),.bin .add (.t 45) (.c (.int .i64 1)),none⟩,
    ⟨(some 7),.mov (.t 46),none⟩])))) <|
  .reg [⟨(some 26),.mov (.t 5),none⟩,
    ⟨(some 27),.bin .add (.t 26) (.c (.int .i64 1)),none⟩,
    ⟨(some 5),.mov (.t 27),none⟩])))) <|
  .reg [⟨(some 19),.mov (.t 4),none⟩,
    ⟨(some 20),.bin .add (.t 19) (.c (.int .i64 1)),none⟩,
    ⟨(some 4),.mov (.t 20),none⟩]))) <|
  .seq (.reg [⟨(some 53),.mov (.t 3),none⟩,
    ⟨(some 2),.mov (.t 53),none⟩]) <|
  .ret,
  [.t 2]⟩
theorem ng:cFn PP true iO uE (cDr PP 54 xv)=some iR:=by kernel_rfl
def mV (h57:Heap) (a56:D) (a9:D) (f34:Nat->D) (a2:D) (f20:Nat->D) (J42:List D->Heap->Prop):Prop :=
  ∃(I58:Nat->List D->Heap->Prop) (n₀:Nat),I58 n₀ [(.int .i64 0)] h57/\∀(n59:Nat) (f60:Nat->D) (h61:Heap),I58 n59 [f60 7] h61 ->
  bj a56 h61 fun a62 =>
  vbin .lss (f60 7) a62 fun a63 =>
  vguard a63 true (fun G64 =>
  G64 a9 h61) h61 fun a65 h66 =>
  vguard a63 true (fun G67 =>
  G67 (f34 5) h66) h66 fun a68 h69 =>
  vguard a63 true (fun G70 =>
  aa PP (.iadd (.c a65) (.c a68) 1) h69 fun a73 h74 =>
  G70 a73 h74) h69 fun a71 h72 =>
  vguard a63 true (fun G75 =>
  aa PP (.ld (.c a71) 1 false) h72 fun a78 h79 =>
  G75 a78 h79) h72 fun a76 h77 =>
  aa PP (.pick (.c a63) (.c a76) (.c (.bool false))) h77 fun a80 h81 =>
  vcond a80 (aa PP (.iadd (.c a56) (.c (f60 7)) 1) h81 fun a82 h83 =>
  aa PP (.ld (.c a82) 1 false) h83 fun a84 h85 =>
  aa PP (.iadd (.c a9) (.c a84) 1) h85 fun a86 h87 =>
  aa PP (.st (.c a86) (.c (.bool true)) 1) h87 fun a88 h89 =>
  vbin .add (f60 7) (.int .i64 1) fun a90 =>
  aW [a2,a9,(f20 4),(f34 5),a56] [a2,a9,(f20 4),(f34 5),a56]/\∃m,m<n59/\I58 m [a90] h89) (
  aW [a2,a9,(f20 4),(f34 5)] [a2,a9,(f20 4),(f34 5)]/\J42 [] h81)
def mU (h25:Heap) (a2:D) (a9:D) (f20:Nat->D) (J28:List D->Heap->Prop):Prop :=
  ∃(I32:Nat->List D->Heap->Prop) (n₀:Nat),I32 n₀ [(.int .i64 0)] h25/\∀(n33:Nat) (f34:Nat->D) (h35:Heap),I32 n33 [f34 5] h35 ->
  aa PP (.fadd (.c a2) 7) h35 fun a36 h37 =>
  aa PP (.ld (.c a36) 1 false) h37 fun a38 h39 =>
  bj a38 h39 fun a40 =>
  vbin .lss (f34 5) a40 fun a41 =>
  vcond a41 (∃(J42:List D->Heap->Prop),(∀(f43:Nat->D) (h44:Heap),J42 [] h44 ->
  vbin .add (f34 5) (.int .i64 1) fun a45 =>
  aW [a2,a9,(f20 4)] [a2,a9,(f20 4)]/\∃m,m<n33/\I32 m [a45] h44) /\
  aa PP (.fadd (.c a2) 7) h39 fun a46 h47 =>
  aa PP (.ld (.c a46) 1 false) h47 fun a48 h49 =>
  aa PP (.iadd (.c a48) (.c (f34 5)) 14) h49 fun a50 h51 =>
  aa PP (.fadd (.c a50) 1) h51 fun a52 h53 =>
  aa PP (.ld (.c a52) 13 true) h53 fun a54 h55 =>
  ah PP gC [a54] h55 fun a56 h57 =>
  mV h57 a56 a9 f34 a2 f20 J42) (
  aW [a2,a9,(f20 4)] [a2,a9,(f20 4)]/\J28 [] h39)
def mT (h14:Heap) (a2:D) (a9:D) (J15:List D->Heap->Prop):Prop :=
  ∃(I18:Nat->List D->Heap->Prop) (n₀:Nat),I18 n₀ [(.int .i64 0)] h14/\∀(n19:Nat) (f20:Nat->D) (h21:Heap),I18 n19 [f20 4] h21 ->
  aa PP (.fadd (.c a2) 7) h21 fun a22 h23 =>
  aa PP (.ld (.c a22) 1 false) h23 fun a24 h25 =>
  bj a24 h25 fun a26 =>
  vbin .lss (f20 4) a26 fun a27 =>
  vcond a27 (∃(J28:List D->Heap->Prop),(∀(f29:Nat->D) (h30:Heap),J28 [] h30 ->
  vbin .add (f20 4) (.int .i64 1) fun a31 =>
  aW [a2,a9] [a2,a9]/\∃m,m<n19/\I18 m [a31] h30) /\
  mU h25 a2 a9 f20 J28) (
  aW [a9] [a9]/\J15 [] h25)
def sE (a0:D) (h0:Heap) (K:D->Heap->Prop):Prop :=
  aa PP (.box (.c a0)) h0 fun a2 h3 =>
  aa PP (.fadd (.c a2) 7) h3 fun a4 h5 =>
  aa PP (.ld (.c a4) 1 false) h5 fun a6 h7 =>
  bj a6 h7 fun a8 =>
  aa PP (.mk 1 1 (.bool false) (.c a8) (.c a8)) h7 fun a9 h10 =>
  aa PP (.iadd (.c a9) (.c (.int .i64 0)) 1) h10 fun a11 h12 =>
  aa PP (.st (.c a11) (.c (.bool true)) 1) h12 fun a13 h14 =>
  ∃(J15:List D->Heap->Prop),(∀(f16:Nat->D) (h17:Heap),J15 [] h17 ->
  K a9 h17) /\
  mT h14 a2 a9 J15
theorem wo (a0:D) (h0:Heap) (K:D->Heap->Prop):sE a0 h0 K=vcC PP iR.code (fun x e h'=>match x with|.exit _=>False|.pan=>False|.jump _=>False|_=>bp PP iR.res K e h') (params [a0] 0) h0:=by kernel_rfl
def lC:Nat->Option (List Nat×List Nat)
  | 1000007=>some ([0,1],[5])|4=>some ([0,1],[5])|_=>none
def ox:Nat->Option (List Nat×List Nat×List Nat)
  | 6=>some ([0,0,0,6,15,0,32,127,0,0,768,2047,4095],[0,4,7,11],[999999])|_=>none
noncomputable def me:aA:=⟨36,de (cFn PP true cY lC (cDr PP 36 ox)),
  [.t 4]⟩
theorem wI:cFn PP true cY lC (cDr PP 36 ox)=some me:=by kernel_rfl
def mW (h4:Heap) (a0:D) (a1:D) (J5:List D->Heap->Prop):Prop :=
  ∃(I23:Nat->List D->Heap->Prop) (n₀:Nat),I23 n₀ [(.int .i64 0)] h4/\∀(n24:Nat) (f25:Nat->D) (h26:Heap),I23 n24 [f25 5] h26 ->
  bj a0 h26 fun a27 =>
  vbin .lss (f25 5) a27 fun a28 =>
  vguard a28 true (fun G29 =>
  G29 a0 h26) h26 fun a30 h31 =>
  vguard a28 true (fun G32 =>
  G32 (f25 5) h31) h31 fun a33 h34 =>
  vguard a28 true (fun G35 =>
  aa PP (.iadd (.c a30) (.c a33) 1) h34 fun a38 h39 =>
  G35 a38 h39) h34 fun a36 h37 =>
  vguard a28 true (fun G40 =>
  aa PP (.ld (.c a36) 1 false) h37 fun a43 h44 =>
  G40 a43 h44) h37 fun a41 h42 =>
  vguard a28 true (fun G45 =>
  G45 a1 h42) h42 fun a46 h47 =>
  vguard a28 true (fun G48 =>
  vbin .lss a41 a46 fun a51 =>
  G48 a51 h47) h47 fun a49 h50 =>
  aa PP (.pick (.c a28) (.c a49) (.c (.bool false))) h50 fun a52 h53 =>
  vcond a52 (vbin .add (f25 5) (.int .i64 1) fun a54 =>
  aW [a0,a1] [a0,a1]/\∃m,m<n24/\I23 m [a54] h53) (
  aW [a0,a1] [a0,a1]/\J5 [(f25 5)] h53)
def sG (a0:D) (a1:D) (h0:Heap) (K:D->Heap->Prop):Prop :=
  ah PP fV [a0,a1] h0 fun a3 h4 =>
  vcond a3 (K a0 h4) (
  ∃(J5:List D->Heap->Prop),(∀(f6:Nat->D) (h7:Heap),J5 [f6 5] h7 ->
  af PP (.kY (.c a0) none (some (.c (f6 5))) none 1) h7 fun a8 =>
  af PP (.bldS false 1 1 (.int .i64 0) [(0,(.c a1))]) h7 fun a9 =>
  af PP (.kY (.c a0) (some (.c (f6 5))) none none 1) h7 fun a10 =>
  aa PP (.bldS true 1 0 (.int .i64 0) []) h7 fun a11 h12 =>
  ((af PP (.kY (.c a0) none (some (.c (f6 5))) none 1) h12 fun a13=>aW [a13] [a8])/\(af PP (.kY (.c a0) (some (.c (f6 5))) none none 1) h12 fun a14=>aW [a14] [a10])/\True) /\
  aa PP (.app (.c a11) (.c a8) 1 8 (.int .i64 0)) h12 fun a15 h16 =>
  ((af PP (.kY (.c a0) (some (.c (f6 5))) none none 1) h16 fun a17=>aW [a17] [a10])/\True) /\
  aa PP (.app (.c a15) (.c a9) 1 8 (.int .i64 0)) h16 fun a18 h19 =>
  ((af PP (.kY (.c a0) (some (.c (f6 5))) none none 1) h19 fun a20=>aW [a20] [a10])/\True) /\
  aa PP (.app (.c a18) (.c a10) 1 8 (.int .i64 0)) h19 fun a21 h22 =>
  K a21 h22) /\
  mW h4 a0 a1 J5)
theorem wu (a0:D) (a1:D) (h0:Heap) (K:D->Heap->Prop):sG a0 a1 h0 K=vcC PP me.code (fun x e h'=>match x with|.exit _=>False|.pan=>False|.jump _=>False|_=>bp PP me.res K e h') (params [a0,a1] 0) h0:=by kernel_rfl
def mB:Nat->Option (List Nat×List Nat)
  | 1000014=>some ([],[5])|3=>some ([2],[5,6])|1000005=>some ([2,6],[5])|6=>some ([2,6],[5,7])|1000008=>some ([2,6,7],[5])|10=>some ([2,6,7,8],[5,9])|_=>none
def pJ:Nat->Option (List Nat×List Nat×List Nat)
  | 8=>some ([0,0,0,6,14,31,63],[],[])|_=>none
noncomputable def oc:aA:=⟨44,de (cFn PP true eM mB (cDr PP 44 pJ)),
  [.t 4]⟩
theorem xV:cFn PP true eM mB (cDr PP 44 pJ)=some oc:=by kernel_rfl
def oM (f26:Nat->D) (h27:Heap) (a37:D) (a3:D) (f12:Nat->D) (J30:List D->Heap->Prop):Prop :=
  ∃(I38:Nat->List D->Heap->Prop) (n₀:Nat),I38 n₀ [(f26 5),(.int .i64 0)] h27/\∀(n39:Nat) (f40:Nat->D) (h41:Heap),I38 n39 [f40 5,f40 9] h41 ->
  bj a37 h41 fun a42 =>
  vbin .lss (f40 9) a42 fun a43 =>
  vcond a43 (aa PP (.iadd (.c a37) (.c (f40 9)) 1) h41 fun a44 h45 =>
  aa PP (.ld (.c a44) 1 false) h45 fun a46 h47 =>
  ah PP cY [(f40 5),a46] h47 fun a48 h49 =>
  vbin .add (f40 9) (.int .i64 1) fun a50 =>
  aW [a3,(f12 6),(f26 7),a37] [a3,(f12 6),(f26 7),a37]/\∃m,m<n39/\I38 m [a48,a50] h49) (
  aW [a3,(f12 6),(f26 7)] [a3,(f12 6),(f26 7)]/\J30 [(f40 5)] h41)
def oK (f12:Nat->D) (h17:Heap) (a3:D) (J20:List D->Heap->Prop):Prop :=
  ∃(I24:Nat->List D->Heap->Prop) (n₀:Nat),I24 n₀ [(f12 5),(.int .i64 0)] h17/\∀(n25:Nat) (f26:Nat->D) (h27:Heap),I24 n25 [f26 5,f26 7] h27 ->
  bj (f26 5) h27 fun a28 =>
  vbin .lss (f26 7) a28 fun a29 =>
  vcond a29 (∃(J30:List D->Heap->Prop),(∀(f31:Nat->D) (h32:Heap),J30 [f31 5] h32 ->
  vbin .add (f26 7) (.int .i64 1) fun a33 =>
  aW [a3,(f12 6)] [a3,(f12 6)]/\∃m,m<n25/\I24 m [(f31 5),a33] h32) /\
  af PP (.ld (.c a3) 8 true) h27 fun a34 =>
  af PP (.iadd (.c (f26 5)) (.c (f26 7)) 1) h27 fun a35 =>
  af PP (.ld (.c a35) 1 false) h27 fun a36 =>
  af PP (.call iL [(.c a34),(.c a36)]) h27 fun a37 =>
  oM f26 h27 a37 a3 f12 J30) (
  aW [a3,(f12 6)] [a3,(f12 6)]/\J20 [(f26 5)] h27)
def oJ (a5:D) (h6:Heap) (a3:D) (J7:List D->Heap->Prop):Prop :=
  ∃(I10:Nat->List D->Heap->Prop) (n₀:Nat),I10 n₀ [a5,(.int .i64 0)] h6/\∀(n11:Nat) (f12:Nat->D) (h13:Heap),I10 n11 [f12 5,f12 6] h13 ->
  aa PP (.fadd (.c a3) 7) h13 fun a14 h15 =>
  aa PP (.ld (.c a14) 1 false) h15 fun a16 h17 =>
  bj a16 h17 fun a18 =>
  vbin .lss (f12 6) a18 fun a19 =>
  vcond a19 (∃(J20:List D->Heap->Prop),(∀(f21:Nat->D) (h22:Heap),J20 [f21 5] h22 ->
  vbin .add (f12 6) (.int .i64 1) fun a23 =>
  aW [a3] [a3]/\∃m,m<n11/\I10 m [(f21 5),a23] h22) /\
  oK f12 h17 a3 J20) (
  aW [] []/\J7 [(f12 5)] h17)
def uT (a0:D) (a1:D) (h0:Heap) (K:D->Heap->Prop):Prop :=
  aa PP (.box (.c a0)) h0 fun a3 h4 =>
  aa PP (.bldS true 1 1 (.int .i64 0) [(0,(.c a1))]) h4 fun a5 h6 =>
  ∃(J7:List D->Heap->Prop),(∀(f8:Nat->D) (h9:Heap),J7 [f8 5] h9 ->
  K (f8 5) h9) /\
  oJ a5 h6 a3 J7
theorem xL (a0:D) (a1:D) (h0:Heap) (K:D->Heap->Prop):uT a0 a1 h0 K=vcC PP oc.code (fun x e h'=>match x with|.exit _=>False|.pan=>False|.jump _=>False|_=>bp PP oc.res K e h') (params [a0,a1] 0) h0:=by kernel_rfl
def rK:Nat->Option (List Nat×List Nat)
  | 1000014=>some ([5],[])|4=>some ([1,3,4,5],[6])|1000006=>some ([1,3,4,5,6],[])|7=>some ([1,3,4,5,6],[7])|1000009=>some ([1,3,4,5,6,7],[])|_=>none
def tY:Nat->Option (List Nat×List Nat×List Nat)
  | 1=>some ([0,1,3,0,15,31,63],[1,2,4],[999999])|_=>none
def o0:aA:=⟨92,
  .seq (.reg [⟨(some 1),.box (.t 0),none⟩,
    ⟨(some 2),.mov (.c .nil),none⟩]) <|
  .seq (.seq (.dreg [⟨(some 9),.ld (.t 1) 8 true,none⟩,
    ⟨(some 12),.ld (.t 1) 8 true,none⟩] [⟨(some 10),.call lZ [(.t 9)],none⟩] [⟨(some 12),.ld (.t 1) 8 true,none⟩]) <|
  .seq (.dreg [] [⟨(some 11),.call cR [(.t 10),(.c (.int .i64 0)),(.c (.int .i64 (-1)))],none⟩] [⟨(some 12),.ld (.t 1) 8 true,none⟩]) <|
  .seq (.dreg [] [⟨(some 13),.call sm [(.t 12)],none⟩] []) <|
  .dreg [⟨(some 3),.mov (.t 11),none⟩,
    ⟨(some 4),.mov (.t 13),none⟩] [] []) <|
  .seq (.reg [⟨(some 14),.fadd (.t 1) 7,none⟩,
    ⟨(some 15),.ld (.t 14) 1 false,none⟩,
    ⟨(some 16),.len (.t 15),none⟩,
    ⟨(some 17),.mk 1 24 .nil (.t 16) (.t 16),none⟩,
    ⟨(some 5),.mov (.t 17),none⟩]) <|
  .seqj [5] [] (.seq (.reg [⟨(some 6),.mov (.c (.int .i64 0)),none⟩]) <|
  .block 0 (.loop [1,3,4,5] [6] (.seq (.seq (.reg [⟨(some 18),.mov (.t 6),none⟩,
    ⟨(some 19),.fadd (.t 1) 7,none⟩,
    ⟨(some 20),.ld (.t 19) 1 false,none⟩,
    ⟨(some 21),.len (.t 20),none⟩,
    ⟨(some 22),.bin .lss (.t 18) (.t 21),none⟩]) <|
  .cond (.t 22) (.skip) (.exit 0)) <|
  .seqj [1,3,4,5,6] [] (.block 1 (.seq (.reg [⟨(some 7),.mov (.c (.int .i64 0)),none⟩]) <|
  .block 2 (.loop [1,3,4,5,6] [7] (.seq (.seq (.reg [⟨(some 25),.mov (.t 7),none⟩,
    ⟨(some 26),.fadd (.t 1) 7,none⟩,
    ⟨(some 27),.ld (.t 26) 1 false,none⟩,
    ⟨(some 28),.len (.t 27),none⟩,
    ⟨(some 29),.bin .lss (.t 25) (.t 28),none⟩]) <|
  .cond (.t 29) (.skip) (.exit 2)) <|
  .seqj [1,3,4,5,6,7] [] (.block 3 (.seq (.reg [⟨(some 32),.fadd (.t 1) 7,none⟩,
    ⟨(some 33),.ld (.t 32) 1 false,none⟩,
    ⟨(some 34),.mov (.t 7),none⟩,
    ⟨(some 35),.iadd (.t 33) (.t 34) 14,none⟩,
    ⟨(some 36),.fadd (.t 35) 1,none⟩,
    ⟨(some 37),.ld (.t 36) 13 true,none⟩,
    ⟨(some 38),.call jV [(.t 37)],none⟩,
    ⟨(some 8),.mov (.t 38),none⟩]) <|
  .seq (.seq (.reg [⟨(some 39),.mov (.t 3),none⟩,
    ⟨(some 40),.mov (.t 7),none⟩,
    ⟨(some 41),.iadd (.t 39) (.t 40) 1,none⟩,
    ⟨(some 42),.ld (.t 41) 1 false,none⟩,
    ⟨(some 43),.un .not (.t 42),none⟩,
    ⟨(some 44),.mov (.t 43),none⟩,
    ⟨(some 45),.mov (.t 3),some (44,false)⟩,
    ⟨(some 46),.mov (.t 6),some (44,false)⟩,
    ⟨(some 47),.iadd (.t 45) (.t 46) 1,some (44,false)⟩,
    ⟨(some 48),.ld (.t 47) 1 false,some (44,false)⟩,
    ⟨(some 49),.un .not (.t 48),some (44,false)⟩,
    ⟨(some 50),.pick (.t 44) (.c (.bool true)) (.t 49),none⟩,
    ⟨(some 51),.mov (.t 50),none⟩,
    ⟨(some 52),.mov (.t 8),some (51,false)⟩,
    ⟨(some 53),.len (.t 52),some (51,false)⟩,
    ⟨(some 54),.bin .neq (.t 53) (.c (.int .i64 2)),some (51,false)⟩,
    ⟨(some 55),.pick (.t 51) (.c (.bool true)) (.t 54),none⟩,
    ⟨(some 56),.mov (.t 55),none⟩,
    ⟨(some 57),.mov (.t 7),some (56,false)⟩,
    ⟨(some 58),.mov (.t 6),some (56,false)⟩,
    ⟨(some 59),.bin .neq (.t 57) (.t 58),some (56,false)⟩,
    ⟨(some 60),.mov (.t 59),some (56,false)⟩,
    ⟨(some 61),.mov (.t 4),some (60,true)⟩,
    ⟨(some 62),.mov (.t 7),some (60,true)⟩,
    ⟨(some 63),.mov (.t 6),some (60,true)⟩,
    ⟨(some 64),.call iN [(.t 61),(.t 62),(.t 63)],some (60,true)⟩,
    ⟨(some 65),.pick (.t 60) (.t 64) (.c (.bool false)),some (56,false)⟩,
    ⟨(some 66),.pick (.t 56) (.c (.bool true)) (.t 65),none⟩]) <|
  .cond (.t 66) (.exit 3) (.skip)) <|
  .seq (.reg [⟨(some 67),.mov (.t 4),none⟩,
    ⟨(some 68),.mov (.t 8),none⟩,
    ⟨(some 69),.iadd (.t 68) (.c (.int .i64 0)) 1,none⟩,
    ⟨(some 70),.ld (.t 69) 1 false,none⟩,
    ⟨(some 71),.mov (.t 6),none⟩,
    ⟨(some 72),.call iN [(.t 67),(.t 70),(.t 71)],none⟩,
    ⟨(some 73),.mov (.t 72),none⟩,
    ⟨(some 74),.mov (.t 4),some (73,false)⟩,
    ⟨(some 75),.mov (.t 8),some (73,false)⟩,
    ⟨(some 76),.iadd (.t 75) (.c (.int .i64 1)) 1,some (73,false)⟩,
    ⟨(some 77),.ld (.t 76) 1 false,some (73,false)⟩,
    ⟨(some 78),.mov (.t 6),some (73,false)⟩,
    ⟨(some 79),.call iN [(.t 74),(.t 77),(.t 78)],some (73,false)⟩,
    ⟨(some 80),.pick (.t 73) (.c (.bool true)) (.t 79),none⟩]) <|
  .cond (.t 80) (.reg [⟨(some 81),.mov (.t 5),none⟩,
    ⟨(some 82),.mov (.t 6),none⟩,
    ⟨(some 83),.mov (.t 5),none⟩,
    ⟨(some 84),.mov (.t 6),none⟩,
    ⟨(some 85),.iadd (.t 83) (.t 84) 1,none⟩,
    ⟨(some 86),.ld (.t 85) 1 false,none⟩,
    ⟨(some 87),.mov (.t 7),none⟩,
    ⟨(some 88),.bldS true 1 1 (.int .i64 0) [(0,(.t 87))],none⟩,
    ⟨(some 89),.app (.t 86) (.t 88) 1 8 (.int .i64 0),none⟩,
    ⟨(some 90),.iadd (.t 81) (.t 82) 1,none⟩,
    ⟨none,.st (.t 90) (.t 89) 1,none⟩]) (.skip))) <|
  .reg [⟨(some 30),.mov (.t 7),none⟩,
    ⟨(some 31),.bin .add (.t 30) (.c (.int .i64 1)),none⟩,
    ⟨(some 7),.mov (.t 31),none⟩])))) <|
  .reg [⟨(some 23),.mov (.t 6),none⟩,
    ⟨(some 24),.bin .add (.t 23) (.c (.int .i64 1)),none⟩,
    ⟨(some 6),.mov (.t 24),none⟩]))) <|
  .seq (.reg [⟨(some 91),.mov (.t 5),none⟩,
    ⟨(some 2),.mov (.t 91),none⟩]) <|
  .ret,
  [.t 2]⟩
theorem tJ:cFn PP true cL rK (cDr PP 92 tY)=some o0:=by kernel_rfl
def uy:Nat->Option (List Nat×List Nat)
  | 1000010=>some ([],[])|4=>some ([2,4,5,8],[11])|_=>none
def xo:Nat->Option (List Nat×List Nat×List Nat)
  | 7=>some ([0,1,0,7,15,31,63,127,127,383,127,1919,3967,8063,16255,32767,65535,131071],[],[])|_=>none
def sI:aA:=⟨52,
  .seq (.reg [⟨(some 5),.box (.t 0),none⟩,
    ⟨(some 8),.box (.t 3),none⟩,
    ⟨(some 10),.mov (.c (.bool false)),none⟩]) <|
  .seq (.seq (.reg [⟨(some 13),.mov (.t 1),none⟩,
    ⟨(some 14),.mov (.t 4),none⟩,
    ⟨(some 15),.iadd (.t 13) (.t 14) 1,none⟩,
    ⟨(some 16),.ld (.t 15) 1 false,none⟩,
    ⟨(some 17),.un .not (.t 16),none⟩]) <|
  .cond (.t 17) (.seq (.reg [⟨(some 10),.mov (.c (.bool false)),none⟩]) <|
  .ret) (.skip)) <|
  .seqj [] [] (.seq (.reg [⟨(some 11),.mov (.c (.int .i64 0)),none⟩]) <|
  .block 0 (.loop [2,4,5,8] [11] (.seq (.seq (.reg [⟨(some 18),.mov (.t 11),none⟩,
    ⟨(some 19),.mov (.t 2),none⟩,
    ⟨(some 20),.mov (.t 4),none⟩,
    ⟨(some 21),.iadd (.t 19) (.t 20) 1,none⟩,
    ⟨(some 22),.ld (.t 21) 1 false,none⟩,
    ⟨(some 23),.len (.t 22),none⟩,
    ⟨(some 24),.bin .lss (.t 18) (.t 23),none⟩]) <|
  .cond (.t 24) (.skip) (.exit 0)) <|
  .seq (.block 1 (.seq (.reg [⟨(some 27),.mov (.t 2),none⟩,
    ⟨(some 28),.mov (.t 4),none⟩,
    ⟨(some 29),.iadd (.t 27) (.t 28) 1,none⟩,
    ⟨(some 30),.ld (.t 29) 1 false,none⟩,
    ⟨(some 31),.mov (.t 11),none⟩,
    ⟨(some 32),.iadd (.t 30) (.t 31) 1,none⟩,
    ⟨(some 33),.ld (.t 32) 1 false,none⟩,
    ⟨(some 12),.mov (.t 33),none⟩]) <|
  .seq (.dreg [⟨(some 34),.fadd (.t 8) 0,none⟩,
    ⟨(some 35),.ld (.t 34) 1 false,none⟩,
    ⟨(some 36),.mov (.t 12),none⟩,
    ⟨(some 37),.iadd (.t 35) (.t 36) 1,none⟩,
    ⟨(some 38),.ld (.t 37) 1 false,none⟩,
    ⟨(some 39),.un .not (.t 38),none⟩,
    ⟨(some 40),.mov (.t 39),none⟩,
    ⟨(some 41),.ld (.t 8) 2 true,some (40,false)⟩,
    ⟨(some 42),.fadd (.t 5) 7,some (40,false)⟩,
    ⟨(some 43),.ld (.t 42) 1 false,some (40,false)⟩,
    ⟨(some 44),.mov (.t 12),some (40,false)⟩,
    ⟨(some 45),.iadd (.t 43) (.t 44) 14,some (40,false)⟩,
    ⟨(some 46),.fadd (.t 45) 1,some (40,false)⟩,
    ⟨(some 47),.fadd (.t 46) 5,some (40,false)⟩,
    ⟨(some 48),.ld (.t 47) 3 true,some (40,false)⟩,
    ⟨(some 49),.call dn [(.t 41),(.t 48)],some (40,false)⟩,
    ⟨(some 50),.un .not (.t 49),some (40,false)⟩,
    ⟨(some 51),.pick (.t 40) (.c (.bool true)) (.t 50),none⟩] [] []) <|
  .cond (.t 51) (.seq (.reg [⟨(some 10),.mov (.c (.bool false)),none⟩]) <|
  .ret) (.skip))) <|
  .reg [⟨(some 25),.mov (.t 11),none⟩,
    ⟨(some 26),.bin .add (.t 25) (.c (.int .i64 1)),none⟩,
    ⟨(some 11),.mov (.t 26),none⟩]))) <|
  .seq (.reg [⟨(some 10),.mov (.c (.bool true)),none⟩]) <|
  .ret,
  [.t 10]⟩
theorem wB:cFn PP true sj uy (cDr PP 52 xo)=some sI:=by kernel_rfl
def p6:Nat->Option (List Nat×List Nat)
  | 1000014=>some ([],[])|2=>some ([1,3,4,6],[9])|1000004=>some ([1,3,4,6,9],[])|8=>some ([1,3,4,6,9],[10])|_=>none
def sW:Nat->Option (List Nat×List Nat×List Nat)
  | _=>none
def m8:aA:=⟨91,
  .seq (.reg [⟨(some 4),.box (.t 0),none⟩,
    ⟨(some 6),.box (.t 2),none⟩,
    ⟨(some 8),.mov (.c (.bool false)),none⟩]) <|
  .seqj [] [] (.seq (.reg [⟨(some 9),.mov (.c (.int .i64 0)),none⟩]) <|
  .block 0 (.loop [1,3,4,6] [9] (.seq (.seq (.reg [⟨(some 12),.mov (.t 9),none⟩,
    ⟨(some 13),.fadd (.t 4) 7,none⟩,
    ⟨(some 14),.ld (.t 13) 1 false,none⟩,
    ⟨(some 15),.len (.t 14),none⟩,
    ⟨(some 16),.bin .lss (.t 12) (.t 15),none⟩]) <|
  .cond (.t 16) (.skip) (.exit 0)) <|
  .seqj [1,3,4,6,9] [] (.block 1 (.seq (.seq (.reg [⟨(some 19),.mov (.t 1),none⟩,
    ⟨(some 20),.mov (.t 9),none⟩,
    ⟨(some 21),.iadd (.t 19) (.t 20) 1,none⟩,
    ⟨(some 22),.ld (.t 21) 1 false,none⟩,
    ⟨(some 23),.un .not (.t 22),none⟩]) <|
  .cond (.t 23) (.exit 1) (.skip)) <|
  .seq (.seq (.reg [⟨(some 24),.fadd (.t 4) 7,none⟩,
    ⟨(some 25),.ld (.t 24) 1 false,none⟩,
    ⟨(some 26),.mov (.t 9),none⟩,
    ⟨(some 27),.iadd (.t 25) (.t 26) 14,none⟩,
    ⟨(some 28),.fadd (.t 27) 1,none⟩,
    ⟨(some 29),.ld (.t 28) 13 true,none⟩,
    ⟨(some 30),.call um [(.t 29)],none⟩,
    ⟨(some 31),.mov (.t 3),none⟩,
    ⟨(some 32),.bin .eql (.t 30) (.t 31),none⟩]) <|
  .cond (.t 32) (.seq (.reg [⟨(some 8),.mov (.c (.bool false)),none⟩]) <|
  .ret) (.skip)) <|
  .seq (.reg [⟨(some 10),.mov (.c (.int .i64 0)),none⟩]) <|
  .block 2 (.loop [1,3,4,6,9] [10] (.seq (.seq (.reg [⟨(some 33),.mov (.t 10),none⟩,
    ⟨(some 34),.fadd (.t 4) 7,none⟩,
    ⟨(some 35),.ld (.t 34) 1 false,none⟩,
    ⟨(some 36),.mov (.t 9),none⟩,
    ⟨(some 37),.iadd (.t 35) (.t 36) 14,none⟩,
    ⟨(some 38),.fadd (.t 37) 0,none⟩,
    ⟨(some 39),.ld (.t 38) 1 false,none⟩,
    ⟨(some 40),.len (.t 39),none⟩,
    ⟨(some 41),.bin .lss (.t 33) (.t 40),none⟩]) <|
  .cond (.t 41) (.skip) (.exit 2)) <|
  .seq (.block 3 (.seq (.reg [⟨(some 44),.fadd (.t 4) 7,none⟩,
    ⟨(some 45),.ld (.t 44) 1 false,none⟩,
    ⟨(some 46),.mov (.t 9),none⟩,
    ⟨(some 47),.iadd (.t 45) (.t 46) 14,none⟩,
    ⟨(some 48),.fadd (.t 47) 0,none⟩,
    ⟨(some 49),.ld (.t 48) 1 false,none⟩,
    ⟨(some 50),.mov (.t 10),none⟩,
    ⟨(some 51),.iadd (.t 49) (.t 50) 15,none⟩,
    ⟨(some 52),.ld (.t 51) 15 true,none⟩,
    ⟨(some 11),.alloc (.agg [(.int .i64 0),(.int .i64 0),(.int .i64 0),(.int .i64 0),(.int .i64 0),(.int .i32 0),(.int .i64 0),(.int .i64 0),(.int .i32 0),(.int .i64 0),(.int .i64 0),(.int .i32 0),(.int .i64 0),(.int .i64 0),(.int .i32 0)]),none⟩,
    ⟨none,.st (.t 11) (.t 52) 15,none⟩]) <|
  .seq (.reg [⟨(some 53),.ld (.t 11) 15 true,none⟩,
    ⟨(some 54),.call wX [(.t 53)],none⟩,
    ⟨(some 55),.mov (.t 3),none⟩,
    ⟨(some 56),.bin .eql (.t 54) (.t 55),none⟩,
    ⟨(some 57),.mov (.t 56),none⟩,
    ⟨(some 58),.fadd (.t 6) 0,some (57,true)⟩,
    ⟨(some 59),.ld (.t 58) 1 false,some (57,true)⟩,
    ⟨(some 60),.mov (.t 9),some (57,true)⟩,
    ⟨(some 61),.iadd (.t 59) (.t 60) 1,some (57,true)⟩,
    ⟨(some 62),.ld (.t 61) 1 false,some (57,true)⟩,
    ⟨(some 63),.un .not (.t 62),some (57,true)⟩,
    ⟨(some 64),.mov (.t 63),some (57,true)⟩,
    ⟨(some 65),.ld (.t 11) 15 true,some (64,false)⟩,
    ⟨(some 66),.call pX [(.t 65)],some (64,false)⟩,
    ⟨(some 67),.un .not (.t 66),some (64,false)⟩,
    ⟨(some 68),.pick (.t 64) (.c (.bool true)) (.t 67),some (57,true)⟩,
    ⟨(some 69),.mov (.t 68),some (57,true)⟩,
    ⟨(some 70),.ld (.t 6) 2 true,some (69,false)⟩,
    ⟨(some 71),.fadd (.t 11) 6,some (69,false)⟩,
    ⟨(some 72),.ld (.t 71) 3 true,some (69,false)⟩,
    ⟨(some 73),.call dn [(.t 70),(.t 72)],some (69,false)⟩,
    ⟨(some 74),.un .not (.t 73),some (69,false)⟩,
    ⟨(some 75),.pick (.t 69) (.c (.bool true)) (.t 74),some (57,true)⟩,
    ⟨(some 76),.mov (.t 75),some (57,true)⟩,
    ⟨(some 77),.ld (.t 6) 2 true,some (76,false)⟩,
    ⟨(some 78),.fadd (.t 11) 9,some (76,false)⟩,
    ⟨(some 79),.ld (.t 78) 3 true,some (76,false)⟩,
    ⟨(some 80),.call dn [(.t 77),(.t 79)],some (76,false)⟩,
    ⟨(some 81),.un .not (.t 80),some (76,false)⟩,
    ⟨(some 82),.pick (.t 76) (.c (.bool true)) (.t 81),some (57,true)⟩,
    ⟨(some 83),.mov (.t 82),some (57,true)⟩,
    ⟨(some 84),.ld (.t 6) 2 true,some (83,false)⟩,
    ⟨(some 85),.fadd (.t 11) 12,some (83,false)⟩,
    ⟨(some 86),.ld (.t 85) 3 true,some (83,false)⟩,
    ⟨(some 87),.call dn [(.t 84),(.t 86)],some (83,false)⟩,
    ⟨(some 88),.un .not (.t 87),some (83,false)⟩,
    ⟨(some 89),.pick (.t 83) (.c (.bool true)) (.t 88),some (57,true)⟩,
    ⟨(some 90),.pick (.t 57) (.t 89) (.c (.bool false)),none⟩]) <|
  .cond (.t 90) (.seq (.reg [⟨(some 8),.mov (.c (.bool false)),none⟩]) <|
  .ret) (.skip))) <|
  .reg [⟨(some 42),.mov (.t 10),none⟩,
    ⟨(some 43),.bin .add (.t 42) (.c (.int .i64 1)),none⟩,
    ⟨(some 10),.mov (.t 43),none⟩])))) <|
  .reg [⟨(some 17),.mov (.t 9),none⟩,
    ⟨(some 18),.bin .add (.t 17) (.c (.int .i64 1)),none⟩,
    ⟨(some 9),.mov (.t 18),none⟩]))) <|
  .seq (.reg [⟨(some 8),.mov (.c (.bool true)),none⟩]) <|
  .ret,
  [.t 8]⟩
theorem rS:cFn PP true mz p6 (cDr PP 91 sW)=some m8:=by kernel_rfl
def p8:Nat->Option (List Nat×List Nat)
  | 1000009=>some ([],[])|4=>some ([0,1],[5])|_=>none
def sY:Nat->Option (List Nat×List Nat×List Nat)
  | 6=>some ([0,0,3,7,0,0,48,112,255],[],[])|_=>none
def nc:aA:=⟨26,
  .seq (.reg [⟨(some 4),.mov (.c (.bool false)),none⟩]) <|
  .seq (.seq (.reg [⟨(some 6),.mov (.t 0),none⟩,
    ⟨(some 7),.len (.t 6),none⟩,
    ⟨(some 8),.mov (.t 1),none⟩,
    ⟨(some 9),.len (.t 8),none⟩,
    ⟨(some 10),.bin .neq (.t 7) (.t 9),none⟩]) <|
  .cond (.t 10) (.seq (.reg [⟨(some 4),.mov (.c (.bool false)),none⟩]) <|
  .ret) (.skip)) <|
  .seqj [] [] (.seq (.reg [⟨(some 5),.mov (.c (.int .i64 0)),none⟩]) <|
  .block 0 (.loop [0,1] [5] (.seq (.seq (.reg [⟨(some 11),.mov (.t 5),none⟩,
    ⟨(some 12),.mov (.t 0),none⟩,
    ⟨(some 13),.len (.t 12),none⟩,
    ⟨(some 14),.bin .lss (.t 11) (.t 13),none⟩]) <|
  .cond (.t 14) (.skip) (.exit 0)) <|
  .seq (.block 1 (.seq (.dreg [⟨(some 17),.mov (.t 0),none⟩,
    ⟨(some 18),.mov (.t 5),none⟩,
    ⟨(some 19),.iadd (.t 17) (.t 18) 1,none⟩,
    ⟨(some 20),.ld (.t 19) 1 false,none⟩,
    ⟨(some 21),.mov (.t 1),none⟩,
    ⟨(some 22),.mov (.t 5),none⟩,
    ⟨(some 23),.iadd (.t 21) (.t 22) 1,none⟩,
    ⟨(some 24),.ld (.t 23) 1 false,none⟩,
    ⟨(some 25),.bin .neq (.t 20) (.t 24),none⟩] [] []) <|
  .cond (.t 25) (.seq (.reg [⟨(some 4),.mov (.c (.bool false)),none⟩]) <|
  .ret) (.skip))) <|
  .reg [⟨(some 15),.mov (.t 5),none⟩,
    ⟨(some 16),.bin .add (.t 15) (.c (.int .i64 1)),none⟩,
    ⟨(some 5),.mov (.t 16),none⟩]))) <|
  .seq (.reg [⟨(some 4),.mov (.c (.bool true)),none⟩]) <|
  .ret,
  [.t 4]⟩
theorem rU:cFn PP true iC p8 (cDr PP 26 sY)=some nc:=by kernel_rfl
def tq:Nat->Option (List Nat×List Nat)
  | 1000008=>some ([1,2],[])|2=>some ([1,2,3,9,10],[11])|_=>none
def vG:Nat->Option (List Nat×List Nat×List Nat)
  | _=>none
def gZ:aA:=⟨42,
  .seq (.reg [⟨(some 3),.box (.t 0),none⟩,
    ⟨(some 6),.mov (.c (.bool false)),none⟩]) <|
  .seqj [1,2] [] (.seq (.reg [⟨(some 9),.mov (.t 1),none⟩,
    ⟨(some 10),.len (.t 9),none⟩,
    ⟨(some 11),.mov (.c (.int .i64 0)),none⟩]) <|
  .block 0 (.loop [1,2,3,9,10] [11] (.seq (.reg [⟨(some 12),.bin .lss (.t 11) (.t 10),none⟩]) <|
  .seq (.cond (.t 12) (.skip) (.exit 0)) <|
  .seq (.block 1 (.seq (.reg [⟨(some 13),.mov (.t 11),none⟩,
    ⟨(some 14),.iadd (.t 9) (.t 11) 1,none⟩,
    ⟨(some 15),.ld (.t 14) 1 false,none⟩,
    ⟨(some 7),.mov (.t 13),none⟩,
    ⟨(some 8),.mov (.t 15),none⟩]) <|
  .seq (.reg [⟨(some 16),.mov (.t 8),none⟩,
    ⟨(some 17),.bin .lss (.t 16) (.c (.int .i64 0)),none⟩,
    ⟨(some 18),.mov (.t 17),none⟩,
    ⟨(some 19),.mov (.t 8),some (18,false)⟩,
    ⟨(some 20),.fadd (.t 3) 7,some (18,false)⟩,
    ⟨(some 21),.ld (.t 20) 1 false,some (18,false)⟩,
    ⟨(some 22),.len (.t 21),some (18,false)⟩,
    ⟨(some 23),.bin .geq (.t 19) (.t 22),some (18,false)⟩,
    ⟨(some 24),.pick (.t 18) (.c (.bool true)) (.t 23),none⟩,
    ⟨(some 25),.mov (.t 24),none⟩,
    ⟨(some 26),.mov (.t 7),some (25,false)⟩,
    ⟨(some 27),.bin .gtr (.t 26) (.c (.int .i64 0)),some (25,false)⟩,
    ⟨(some 28),.mov (.t 27),some (25,false)⟩,
    ⟨(some 29),.mov (.t 1),some (28,true)⟩,
    ⟨(some 30),.mov (.t 7),some (28,true)⟩,
    ⟨(some 31),.bin .sub (.t 30) (.c (.int .i64 1)),some (28,true)⟩,
    ⟨(some 32),.iadd (.t 29) (.t 31) 1,some (28,true)⟩,
    ⟨(some 33),.ld (.t 32) 1 false,some (28,true)⟩,
    ⟨(some 34),.mov (.t 8),some (28,true)⟩,
    ⟨(some 35),.bin .geq (.t 33) (.t 34),some (28,true)⟩,
    ⟨(some 36),.pick (.t 28) (.t 35) (.c (.bool false)),some (25,false)⟩,
    ⟨(some 37),.pick (.t 25) (.c (.bool true)) (.t 36),none⟩]) <|
  .cond (.t 37) (.seq (.reg [⟨(some 6),.mov (.c (.bool false)),none⟩]) <|
  .ret) (.skip))) <|
  .reg [⟨(some 38),.bin .add (.t 11) (.c (.int .i64 1)),none⟩,
    ⟨(some 11),.mov (.t 38),none⟩]))) <|
  .seq (.reg [⟨(some 39),.mov (.t 1),none⟩,
    ⟨(some 40),.mov (.t 2),none⟩,
    ⟨(some 41),.call aP [(.t 39),(.t 40)],none⟩,
    ⟨(some 6),.mov (.t 41),none⟩]) <|
  .ret,
  [.t 6]⟩
theorem lP:cFn PP true dq tq (cDr PP 42 vG)=some gZ:=by kernel_rfl
def lK (h5:Heap) (a11:D) (a1:D) (a4:D) (a2:D) (J6:List D->Heap->Prop) (K:D->Heap->Prop):Prop :=
  ∃(I12:Nat->List D->Heap->Prop) (n₀:Nat),I12 n₀ [(.int .i64 0)] h5/\∀(n13:Nat) (f14:Nat->D) (h15:Heap),I12 n13 [f14 11] h15 ->
  vbin .lss (f14 11) a11 fun a16 =>
  vcond a16 (aa PP (.iadd (.c a1) (.c (f14 11)) 1) h15 fun a17 h18 =>
  aa PP (.ld (.c a17) 1 false) h18 fun a19 h20 =>
  vbin .lss a19 (.int .i64 0) fun a21 =>
  vguard a21 false (fun G22 =>
  G22 a19 h20) h20 fun a23 h24 =>
  vguard a21 false (fun G25 =>
  aa PP (.fadd (.c a4) 7) h24 fun a28 h29 =>
  G25 a28 h29) h24 fun a26 h27 =>
  vguard a21 false (fun G30 =>
  aa PP (.ld (.c a26) 1 false) h27 fun a33 h34 =>
  G30 a33 h34) h27 fun a31 h32 =>
  vguard a21 false (fun G35 =>
  bj a31 h32 fun a38 =>
  G35 a38 h32) h32 fun a36 h37 =>
  vguard a21 false (fun G39 =>
  vbin .geq a23 a36 fun a42 =>
  G39 a42 h37) h37 fun a40 h41 =>
  aa PP (.pick (.c a21) (.c (.bool true)) (.c a40)) h41 fun a43 h44 =>
  vguard a43 false (fun G45 =>
  G45 (f14 11) h44) h44 fun a46 h47 =>
  vguard a43 false (fun G48 =>
  vbin .gtr a46 (.int .i64 0) fun a51 =>
  G48 a51 h47) h47 fun a49 h50 =>
  vguard a43 false (fun G52 =>
  G52 a49 h50) h50 fun a53 h54 =>
  vguard a53 true (fun G55 =>
  G55 a1 h54) h54 fun a56 h57 =>
  vguard a53 true (fun G58 =>
  G58 (f14 11) h57) h57 fun a59 h60 =>
  vguard a53 true (fun G61 =>
  vbin .sub a59 (.int .i64 1) fun a64 =>
  G61 a64 h60) h60 fun a62 h63 =>
  vguard a53 true (fun G65 =>
  aa PP (.iadd (.c a56) (.c a62) 1) h63 fun a68 h69 =>
  G65 a68 h69) h63 fun a66 h67 =>
  vguard a53 true (fun G70 =>
  aa PP (.ld (.c a66) 1 false) h67 fun a73 h74 =>
  G70 a73 h74) h67 fun a71 h72 =>
  vguard a53 true (fun G75 =>
  G75 a19 h72) h72 fun a76 h77 =>
  vguard a53 true (fun G78 =>
  vbin .geq a71 a76 fun a81 =>
  G78 a81 h77) h77 fun a79 h80 =>
  vguard a43 false (fun G82 =>
  aa PP (.pick (.c a53) (.c a79) (.c (.bool false))) h80 fun a85 h86 =>
  G82 a85 h86) h80 fun a83 h84 =>
  aa PP (.pick (.c a43) (.c (.bool true)) (.c a83)) h84 fun a87 h88 =>
  vcond a87 (K (.bool false) h88) (
  vbin .add (f14 11) (.int .i64 1) fun a89 =>
  aW [a1,a2,a4,a1,a11] [a1,a2,a4,a1,a11]/\∃m,m<n13/\I12 m [a89] h88)) (
  aW [a1,a2] [a1,a2]/\J6 [] h15)
def qA (a0:D) (a1:D) (a2:D) (h0:Heap) (K:D->Heap->Prop):Prop :=
  aa PP (.box (.c a0)) h0 fun a4 h5 =>
  ∃(J6:List D->Heap->Prop),(∀(f7:Nat->D) (h8:Heap),J6 [] h8 ->
  ah PP aP [a1,a2] h8 fun a9 h10 =>
  K a9 h10) /\
  bj a1 h5 fun a11 =>
  lK h5 a11 a1 a4 a2 J6 K
theorem u5 (a0:D) (a1:D) (a2:D) (h0:Heap) (K:D->Heap->Prop):qA a0 a1 a2 h0 K=vcC PP gZ.code (fun x e h'=>match x with|.exit _=>False|.pan=>False|.jump _=>False|_=>bp PP gZ.res K e h') (params [a0,a1,a2] 0) h0:=by kernel_rfl
end Go.Am
namespace Go.Am
open Go Go.Proofs
def fM:Nat->Option (List Nat×List Nat)
  | 1000009=>some ([0,1,6],[7])|3=>some ([0,1,6],[7,8])|_=>none
def gr:Nat->Option (List Nat×List Nat×List Nat)
  | _=>none
def bo:aA:=⟨54,
  .seq (.reg [⟨(some 4),.mov (.c (.int .i64 0)),none⟩,
    ⟨(some 5),.mov (.c (.bool false)),none⟩]) <|
  .seq (.reg [⟨(some 10),.mov (.t 0),none⟩,
    ⟨(some 11),.len (.t 10),none⟩,
    ⟨(some 6),.mov (.t 11),none⟩]) <|
  .seq (.reg [⟨(some 12),.mov (.t 6),none⟩,
    ⟨(some 7),.mov (.c (.int .i64 0)),none⟩,
    ⟨(some 8),.mov (.t 12),none⟩]) <|
  .seqj [0,1,6] [7] (.block 0 (.loop [0,1,6] [7,8] (.seq (.seq (.reg [⟨(some 13),.mov (.t 7),none⟩,
    ⟨(some 14),.mov (.t 8),none⟩,
    ⟨(some 15),.bin .lss (.t 13) (.t 14),none⟩]) <|
  .cond (.t 15) (.skip) (.exit 0)) <|
  .block 1 (.seq (.reg [⟨(some 16),.mov (.t 7),none⟩,
    ⟨(some 17),.mov (.t 8),none⟩,
    ⟨(some 18),.bin .add (.t 16) (.t 17),none⟩,
    ⟨(some 19),.conv .u64 (.t 18),none⟩,
    ⟨(some 20),.bin .shr (.t 19) (.c (.int .u64 1)),none⟩,
    ⟨(some 21),.conv .i64 (.t 20),none⟩,
    ⟨(some 9),.mov (.t 21),none⟩]) <|
  .seq (.reg [⟨(some 22),.mov (.t 0),none⟩,
    ⟨(some 23),.mov (.t 9),none⟩,
    ⟨(some 24),.iadd (.t 22) (.t 23) 1,none⟩,
    ⟨(some 25),.ld (.t 24) 1 false,none⟩,
    ⟨(some 26),.mov (.t 1),none⟩,
    ⟨(some 27),.call dt [(.t 25),(.t 26)],none⟩]) <|
  .cond (.t 27) (.reg [⟨(some 28),.mov (.t 9),none⟩,
    ⟨(some 29),.bin .add (.t 28) (.c (.int .i64 1)),none⟩,
    ⟨(some 7),.mov (.t 29),none⟩]) (.reg [⟨(some 30),.mov (.t 9),none⟩,
    ⟨(some 8),.mov (.t 30),none⟩]))))) <|
  .seq (.reg [⟨(some 31),.mov (.t 7),none⟩,
    ⟨(some 32),.mov (.t 7),none⟩,
    ⟨(some 33),.mov (.t 6),none⟩,
    ⟨(some 34),.bin .lss (.t 32) (.t 33),none⟩,
    ⟨(some 35),.mov (.t 34),none⟩,
    ⟨(some 36),.mov (.t 0),some (35,true)⟩,
    ⟨(some 37),.mov (.t 7),some (35,true)⟩,
    ⟨(some 38),.iadd (.t 36) (.t 37) 1,some (35,true)⟩,
    ⟨(some 39),.ld (.t 38) 1 false,some (35,true)⟩,
    ⟨(some 40),.mov (.t 1),some (35,true)⟩,
    ⟨(some 41),.bin .eql (.t 39) (.t 40),some (35,true)⟩,
    ⟨(some 42),.mov (.t 41),some (35,true)⟩,
    ⟨(some 43),.mov (.t 0),some (42,false)⟩,
    ⟨(some 44),.mov (.t 7),some (42,false)⟩,
    ⟨(some 45),.iadd (.t 43) (.t 44) 1,some (42,false)⟩,
    ⟨(some 46),.ld (.t 45) 1 false,some (42,false)⟩,
    ⟨(some 47),.call bF [(.t 46)],some (42,false)⟩,
    ⟨(some 48),.mov (.t 47),some (42,false)⟩,
    ⟨(some 49),.mov (.t 1),some (48,true)⟩,
    ⟨(some 50),.call bF [(.t 49)],some (48,true)⟩,
    ⟨(some 51),.pick (.t 48) (.t 50) (.c (.bool false)),some (42,false)⟩,
    ⟨(some 52),.pick (.t 42) (.c (.bool true)) (.t 51),some (35,true)⟩,
    ⟨(some 53),.pick (.t 35) (.t 52) (.c (.bool false)),none⟩,
    ⟨(some 4),.mov (.t 31),none⟩,
    ⟨(some 5),.mov (.t 53),none⟩]) <|
  .ret,
  [.t 4,.t 5]⟩
theorem cH:cFn PP true bm fM (cDr PP 54 gr)=some bo:=by kernel_rfl
def cD (a3:D) (h0:Heap) (a0:D) (a1:D) (J4:List D->Heap->Prop):Prop :=
  ∃(I78:Nat->List D->Heap->Prop) (n₀:Nat),I78 n₀ [(.int .i64 0),a3] h0/\∀(n79:Nat) (f80:Nat->D) (h81:Heap),I78 n79 [f80 7,f80 8] h81 ->
  vbin .lss (f80 7) (f80 8) fun a82 =>
  vcond a82 (vbin .add (f80 7) (f80 8) fun a83 =>
  aa PP (.conv .u64 (.c a83)) h81 fun a84 h85 =>
  vbin .shr a84 (.int .u64 1) fun a86 =>
  aa PP (.conv .i64 (.c a86)) h85 fun a87 h88 =>
  aa PP (.iadd (.c a0) (.c a87) 1) h88 fun a89 h90 =>
  aa PP (.ld (.c a89) 1 false) h90 fun a91 h92 =>
  ah PP dt [a91,a1] h92 fun a93 h94 =>
  vcond a93 (vbin .add a87 (.int .i64 1) fun a95 =>
  aW [a0,a1,a3] [a0,a1,a3]/\∃m,m<n79/\I78 m [a95,(f80 8)] h94) (
  aW [a0,a1,a3] [a0,a1,a3]/\∃m,m<n79/\I78 m [(f80 7),a87] h94)) (
  aW [a0,a1,a3] [a0,a1,a3]/\J4 [(f80 7)] h81)
def dC (a0:D) (a1:D) (h0:Heap) (K:D->Heap->Prop):Prop :=
  bj a0 h0 fun a3 =>
  ∃(J4:List D->Heap->Prop),(∀(f5:Nat->D) (h6:Heap),J4 [f5 7] h6 ->
  vbin .lss (f5 7) a3 fun a7 =>
  vguard a7 true (fun G8 =>
  G8 a0 h6) h6 fun a9 h10 =>
  vguard a7 true (fun G11 =>
  G11 (f5 7) h10) h10 fun a12 h13 =>
  vguard a7 true (fun G14 =>
  aa PP (.iadd (.c a9) (.c a12) 1) h13 fun a17 h18 =>
  G14 a17 h18) h13 fun a15 h16 =>
  vguard a7 true (fun G19 =>
  aa PP (.ld (.c a15) 1 false) h16 fun a22 h23 =>
  G19 a22 h23) h16 fun a20 h21 =>
  vguard a7 true (fun G24 =>
  G24 a1 h21) h21 fun a25 h26 =>
  vguard a7 true (fun G27 =>
  vbin .eql a20 a25 fun a30 =>
  G27 a30 h26) h26 fun a28 h29 =>
  vguard a7 true (fun G31 =>
  G31 a28 h29) h29 fun a32 h33 =>
  vguard a32 false (fun G34 =>
  G34 a0 h33) h33 fun a35 h36 =>
  vguard a32 false (fun G37 =>
  G37 (f5 7) h36) h36 fun a38 h39 =>
  vguard a32 false (fun G40 =>
  aa PP (.iadd (.c a35) (.c a38) 1) h39 fun a43 h44 =>
  G40 a43 h44) h39 fun a41 h42 =>
  vguard a32 false (fun G45 =>
  aa PP (.ld (.c a41) 1 false) h42 fun a48 h49 =>
  G45 a48 h49) h42 fun a46 h47 =>
  vguard a32 false (fun G50 =>
  ah PP bF [a46] h47 fun a53 h54 =>
  G50 a53 h54) h47 fun a51 h52 =>
  vguard a32 false (fun G55 =>
  G55 a51 h52) h52 fun a56 h57 =>
  vguard a56 true (fun G58 =>
  G58 a1 h57) h57 fun a59 h60 =>
  vguard a56 true (fun G61 =>
  ah PP bF [a59] h60 fun a64 h65 =>
  G61 a64 h65) h60 fun a62 h63 =>
  vguard a32 false (fun G66 =>
  aa PP (.pick (.c a56) (.c a62) (.c (.bool false))) h63 fun a69 h70 =>
  G66 a69 h70) h63 fun a67 h68 =>
  vguard a7 true (fun G71 =>
  aa PP (.pick (.c a32) (.c (.bool true)) (.c a67)) h68 fun a74 h75 =>
  G71 a74 h75) h68 fun a72 h73 =>
  aa PP (.pick (.c a7) (.c a72) (.c (.bool false))) h73 fun a76 h77 =>
  K (.tup [(f5 7),a76]) h77) /\
  cD a3 h0 a0 a1 J4
theorem gl (a0:D) (a1:D) (h0:Heap) (K:D->Heap->Prop):dC a0 a1 h0 K=vcC PP bo.code (fun x e h'=>match x with|.exit _=>False|.pan=>False|.jump _=>False|_=>bp PP bo.res K e h') (params [a0,a1] 0) h0:=by kernel_rfl
def rJ:Nat->Option (List Nat×List Nat)
  | 1000008=>some ([4],[])|4000006=>some ([3,4],[1000000])|_=>none
def tX:Nat->Option (List Nat×List Nat×List Nat)
  | _=>none
def oZ:aA:=⟨28,
  .seq (.reg [⟨(some 2),.box (.t 0),none⟩,
    ⟨(some 3),.box (.t 1),none⟩,
    ⟨(some 4),.alloc (.int .i64 0),none⟩]) <|
  .seq (.seq (.reg [⟨(some 6),.fadd (.t 3) 0,none⟩,
    ⟨(some 7),.ld (.t 6) 1 false,none⟩,
    ⟨(some 8),.len (.t 7),none⟩,
    ⟨(some 9),.fadd (.t 2) 7,none⟩,
    ⟨(some 10),.ld (.t 9) 1 false,none⟩,
    ⟨(some 11),.len (.t 10),none⟩,
    ⟨(some 12),.bin .neq (.t 8) (.t 11),none⟩,
    ⟨(some 13),.mov (.t 12),none⟩,
    ⟨(some 14),.fadd (.t 3) 1,some (13,false)⟩,
    ⟨(some 15),.ld (.t 14) 1 false,some (13,false)⟩,
    ⟨(some 16),.len (.t 15),some (13,false)⟩,
    ⟨(some 17),.fadd (.t 2) 2,some (13,false)⟩,
    ⟨(some 18),.ld (.t 17) 1 false,some (13,false)⟩,
    ⟨(some 19),.bin .neq (.t 16) (.t 18),some (13,false)⟩,
    ⟨(some 20),.pick (.t 13) (.c (.bool true)) (.t 19),none⟩]) <|
  .cond (.t 20) (.seq (.reg [⟨none,.st (.t 4) (.c (.int .i64 100)) 1,none⟩]) <|
  .ret) (.skip)) <|
  .seqj [4] [] (.seq (.reg [⟨(some 21),.ld (.t 2) 8 true,none⟩,
    ⟨(some 22),.call oz [(.t 21)],none⟩]) <|
  .block 0 (.range (.t 22) [23] [3,4] [1000000] (.reg [⟨(some 5),.alloc (.agg [(.bool false),(.int .i64 0),.nil,(.bool false)]),none⟩,
    ⟨none,.st (.t 5) (.t 23) 4,none⟩]) (.block 1 (.seq (.reg [⟨(some 24),.ld (.t 3) 2 true,none⟩,
    ⟨(some 25),.ld (.t 5) 4 true,none⟩,
    ⟨(some 26),.call pW [(.t 24),(.t 25)],none⟩,
    ⟨(some 27),.un .not (.t 26),none⟩]) <|
  .cond (.t 27) (.seq (.reg [⟨none,.st (.t 4) (.c (.int .i64 100)) 1,none⟩]) <|
  .ret) (.skip))))) <|
  .seq (.reg [⟨none,.st (.t 4) (.c (.int .i64 0)) 1,none⟩]) <|
  .ret,
  [.cell 4 1 false]⟩
theorem tI:cFn PP true oA rJ (cDr PP 28 tX)=some oZ:=by kernel_rfl
def iG:Nat->Option (List Nat×List Nat)
  | _=>none
def jr:Nat->Option (List Nat×List Nat×List Nat)
  | _=>none
def bN:aA:=⟨9,
  .seq (.reg [⟨(some 4),.mov (.c (.bool false)),none⟩]) <|
  .seq (.reg [⟨(some 5),.mov (.t 0),none⟩,
    ⟨(some 6),.mov (.t 1),none⟩,
    ⟨(some 7),.call bZ [(.t 5),(.t 6)],none⟩,
    ⟨(some 8),.bin .geq (.t 7) (.c (.int .i64 0)),none⟩,
    ⟨(some 4),.mov (.t 8),none⟩]) <|
  .ret,
  [.t 4]⟩
theorem dK:cFn PP true aP iG (cDr PP 9 jr)=some bN:=by kernel_rfl
def eF (a0:D) (a1:D) (h0:Heap) (K:D->Heap->Prop):Prop :=
  ah PP bZ [a0,a1] h0 fun a3 h4 =>
  vbin .geq a3 (.int .i64 0) fun a5 =>
  K a5 h4
theorem ji (a0:D) (a1:D) (h0:Heap) (K:D->Heap->Prop):eF a0 a1 h0 K=vcC PP bN.code (fun x e h'=>match x with|.exit _=>False|.pan=>False|.jump _=>False|_=>bp PP bN.res K e h') (params [a0,a1] 0) h0:=by kernel_rfl
def fg:Nat->Option (List Nat×List Nat)
  | _=>none
def fI:Nat->Option (List Nat×List Nat×List Nat)
  | _=>none
def cV:aA:=⟨9,
  .seq (.reg [⟨(some 4),.mov (.c (.bool false)),none⟩]) <|
  .seq (.reg [⟨(some 5),.mov (.t 0),none⟩,
    ⟨(some 6),.mov (.t 1),none⟩,
    ⟨(some 7),.call dH [(.t 5),(.t 6)],none⟩,
    ⟨(some 8),.bin .geq (.t 7) (.c (.int .i64 0)),none⟩,
    ⟨(some 4),.mov (.t 8),none⟩]) <|
  .ret,
  [.t 4]⟩
theorem fB:cFn PP true cQ fg (cDr PP 9 fI)=some cV:=by kernel_rfl
def mH:Nat->Option (List Nat×List Nat)
  | _=>none
def pb:Nat->Option (List Nat×List Nat×List Nat)
  | _=>none
def jM:aA:=⟨13,
  .seq (.reg [⟨(some 4),.mov (.c (.bool false)),none⟩]) <|
  .seq (.reg [⟨(some 5),.mov (.t 0),none⟩,
    ⟨(some 6),.ld (.t 1) 1 false,none⟩,
    ⟨(some 7),.call aP [(.t 5),(.t 6)],none⟩,
    ⟨(some 8),.mov (.t 7),none⟩,
    ⟨(some 9),.mov (.t 0),some (8,true)⟩,
    ⟨(some 10),.ld (.t 2) 1 false,some (8,true)⟩,
    ⟨(some 11),.call aP [(.t 9),(.t 10)],some (8,true)⟩,
    ⟨(some 12),.pick (.t 8) (.t 11) (.c (.bool false)),none⟩,
    ⟨(some 4),.mov (.t 12),none⟩]) <|
  .ret,
  [.t 4]⟩
theorem oq:cFn PP true jG mH (cDr PP 13 pb)=some jM:=by kernel_rfl
def xD:Nat->Option (List Nat×List Nat)
  | _=>none
def zL:Nat->Option (List Nat×List Nat×List Nat)
  | _=>none
def lO:aA:=⟨5,
  .seq (.reg [⟨(some 2),.alloc (.agg [(.int .i64 0),(.int .i64 0),(.int .i32 0)]),none⟩]) <|
  .seq (.reg [⟨(some 3),.mov (.t 0),none⟩,
    ⟨(some 4),.bld [(.int .i64 0),(.int .i64 0),(.int .i32 0)] [(0,1,(.c (.int .i64 2))),(1,1,(.t 3))],none⟩,
    ⟨none,.st (.t 2) (.t 4) 3,none⟩]) <|
  .ret,
  [.cell 2 3 true]⟩
theorem qJ:cFn PP true bP xD (cDr PP 5 zL)=some lO:=by kernel_rfl
def xg (a0:D) (h0:Heap) (K:D->Heap->Prop):Prop :=
  aa PP (.alloc (.agg [(.int .i64 0),(.int .i64 0),(.int .i32 0)])) h0 fun a2 h3 =>
  aa PP (.bld [(.int .i64 0),(.int .i64 0),(.int .i32 0)] [(0,1,(.c (.int .i64 2))),(1,1,(.c a0))]) h3 fun a4 h5 =>
  aa PP (.st (.c a2) (.c a4) 3) h5 fun a6 h7 =>
  aa PP (.ld (.c a2) 3 true) h7 fun a8 _ =>
  K a8 h7
theorem zu (a0:D) (h0:Heap) (K:D->Heap->Prop):xg a0 h0 K=vcC PP lO.code (fun x e h'=>match x with|.exit _=>False|.pan=>False|.jump _=>False|_=>bp PP lO.res K e h') (params [a0] 0) h0:=by kernel_rfl
def ir:Nat->Option (List Nat×List Nat)
  | _=>none
def jF:Nat->Option (List Nat×List Nat×List Nat)
  | 2=>some ([0,1,3,7,15,0,0,64,192,448,960,0,4032,8128,16320,0,32768,131008,262143,524287,1048575],[17,20],[4,18])|_=>none
noncomputable def gY:aA:=⟨32,de (cFn PP true aC ir (cDr PP 32 jF)),
  []⟩
theorem qH:cFn PP true aC ir (cDr PP 32 jF)=some gY:=by kernel_rfl
def lJ (a0:D) (a1:D) (h0:Heap) (K:D->Heap->Prop):Prop :=
  aa PP (.box (.c a1)) h0 fun a3 h4 =>
  aa PP (.fadd (.c a0) 0) h4 fun a5 h6 =>
  aa PP (.fadd (.c a5) 2) h6 fun a7 h8 =>
  aa PP (.fadd (.c a7) 7) h8 fun a9 h10 =>
  aa PP (.ld (.c a9) 1 false) h10 fun a11 h12 =>
  bj a11 h12 fun a13 =>
  vbin .sub a13 (.int .i64 1) fun a14 =>
  af PP (.fadd (.c a0) 0) h12 fun a15 =>
  af PP (.fadd (.c a15) 2) h12 fun a16 =>
  af PP (.fadd (.c a16) 7) h12 fun a17 =>
  af PP (.ld (.c a17) 1 false) h12 fun a18 =>
  af PP (.fadd (.c a0) 0) h12 fun a19 =>
  af PP (.fadd (.c a19) 2) h12 fun a20 =>
  af PP (.fadd (.c a20) 7) h12 fun a21 =>
  af PP (.ld (.c a21) 1 false) h12 fun a22 =>
  af PP (.iadd (.c a22) (.c a14) 14) h12 fun a23 =>
  af PP (.fadd (.c a23) 0) h12 fun a24 =>
  af PP (.ld (.c a24) 1 false) h12 fun a25 =>
  af PP (.ld (.c a3) 15 true) h12 fun a26 =>
  af PP (.bldS false 15 1 (.agg [(.int .i64 0),(.int .i64 0),(.int .i64 0),(.int .i64 0),(.int .i64 0),(.int .i32 0),(.int .i64 0),(.int .i64 0),(.int .i32 0),(.int .i64 0),(.int .i64 0),(.int .i32 0),(.int .i64 0),(.int .i64 0),(.int .i32 0)]) [(0,(.c a26))]) h12 fun a27 =>
  af PP (.iadd (.c a18) (.c a14) 14) h12 fun a28 =>
  af PP (.fadd (.c a28) 0) h12 fun a29 =>
  aa PP (.app (.c a25) (.c a27) 15 120 (.agg [(.int .i64 0),(.int .i64 0),(.int .i64 0),(.int .i64 0),(.int .i64 0),(.int .i32 0),(.int .i64 0),(.int .i64 0),(.int .i32 0),(.int .i64 0),(.int .i64 0),(.int .i32 0),(.int .i64 0),(.int .i64 0),(.int .i32 0)])) h12 fun a30 h31 =>
  ((af PP (.ld (.c a17) 1 false) h31 fun a32=>aW [a32] [a18])/\(af PP (.iadd (.c a18) (.c a14) 14) h31 fun a33=>aW [a33] [a28])/\True) /\
  aa PP (.st (.c a29) (.c a30) 1) h31 fun a34 h35 =>
  ((af PP (.ld (.c a17) 1 false) h35 fun a36=>aW [a36] [a18])/\(af PP (.iadd (.c a18) (.c a14) 14) h35 fun a37=>aW [a37] [a28])/\True) /\
  K (.tup []) h35
theorem qv (a0:D) (a1:D) (h0:Heap) (K:D->Heap->Prop):lJ a0 a1 h0 K=vcC PP gY.code (fun x e h'=>match x with|.exit _=>False|.pan=>False|.jump _=>False|_=>bp PP gY.res K e h') (params [a0,a1] 0) h0:=by kernel_rfl
def lB:Nat->Option (List Nat×List Nat)
  | _=>none
def ow:Nat->Option (List Nat×List Nat×List Nat)
  | _=>none
noncomputable def mc:aA:=⟨5,de (cFn PP true cu lB (cDr PP 5 ow)),
  [.cell 2 3 true]⟩
theorem wH:cFn PP true cu lB (cDr PP 5 ow)=some mc:=by kernel_rfl
def sF (a0:D) (h0:Heap) (K:D->Heap->Prop):Prop :=
  aa PP (.alloc (.agg [(.int .i64 0),(.int .i64 0),(.int .i32 0)])) h0 fun a2 h3 =>
  aa PP (.bld [(.int .i64 0),(.int .i64 0),(.int .i32 0)] [(0,1,(.c (.int .i64 1))),(2,1,(.c a0))]) h3 fun a4 h5 =>
  aa PP (.st (.c a2) (.c a4) 3) h5 fun a6 h7 =>
  aa PP (.ld (.c a2) 3 true) h7 fun a8 _ =>
  K a8 h7
theorem wq (a0:D) (h0:Heap) (K:D->Heap->Prop):sF a0 h0 K=vcC PP mc.code (fun x e h'=>match x with|.exit _=>False|.pan=>False|.jump _=>False|_=>bp PP mc.res K e h') (params [a0] 0) h0:=by kernel_rfl
def gH:Nat->Option (List Nat×List Nat)
  | _=>none
def iZ:Nat->Option (List Nat×List Nat×List Nat)
  | 18=>some ([0,0,0,4,12,30,62,0,0,0,524,2046,4095],[3,10,12],[999999])|21=>some ([0,0,0,4,0,30,63],[3,6],[999999])|22=>some ([0,0,0,0,8,30,63],[4,6],[999999])|_=>none
noncomputable def fQ:aA:=⟨133,de (cFn PP true dM gH (cDr PP 133 iZ)),
  []⟩
theorem pD:cFn PP true dM gH (cDr PP 133 iZ)=some fQ:=by kernel_rfl
def kO (a0:D) (h0:Heap) (K:D->Heap->Prop):Prop :=
  ah PP aj [a0] h0 fun a2 h3 =>
  vbin .rem a2 (.int .i64 16) fun a4 =>
  vbin .lss a4 (.int .i64 3) fun a5 =>
  vcond a5 (ah PP aj [a0] h3 fun a6 h7 =>
  vbin .rem a6 (.int .i64 7) fun a8 =>
  vbin .add (.int .i64 1) a8 fun a9 =>
  ah PP aM [a0] h7 fun a10 h11 =>
  aa PP (.bld [(.int .i64 0),(.int .i64 0),(.int .i64 0),(.int .i64 0),(.int .i64 0),(.int .i32 0),(.int .i64 0),(.int .i64 0),(.int .i32 0),(.int .i64 0),(.int .i64 0),(.int .i32 0),(.int .i64 0),(.int .i64 0),(.int .i32 0)] [(0,1,(.c (.int .i64 5))),(1,1,(.c a9)),(3,3,(.c a10))]) h11 fun a12 h13 =>
  ah PP aC [a0,a12] h13 fun a14 h15 =>
  K (.tup []) h15) (
  vbin .lss a4 (.int .i64 7) fun a16 =>
  vcond a16 (ah PP aj [a0] h3 fun a17 h18 =>
  vbin .rem a17 (.int .i64 20) fun a19 =>
  vbin .add (.int .i64 10) a19 fun a20 =>
  ah PP aM [a0] h18 fun a21 h22 =>
  ah PP aI [a0] h22 fun a23 h24 =>
  ah PP aI [a0] h24 fun a25 h26 =>
  aa PP (.bld [(.int .i64 0),(.int .i64 0),(.int .i64 0),(.int .i64 0),(.int .i64 0),(.int .i32 0),(.int .i64 0),(.int .i64 0),(.int .i32 0),(.int .i64 0),(.int .i64 0),(.int .i32 0),(.int .i64 0),(.int .i64 0),(.int .i32 0)] [(0,1,(.c (.int .i64 3))),(1,1,(.c a20)),(3,3,(.c a21)),(6,3,(.c a23)),(9,3,(.c a25))]) h26 fun a27 h28 =>
  ah PP aC [a0,a27] h28 fun a29 h30 =>
  K (.tup []) h30) (
  vbin .eql a4 (.int .i64 7) fun a31 =>
  vcond a31 (ah PP aj [a0] h3 fun a32 h33 =>
  vbin .rem a32 (.int .i64 5) fun a34 =>
  vbin .add (.int .i64 1) a34 fun a35 =>
  ah PP aM [a0] h33 fun a36 h37 =>
  ah PP aI [a0] h37 fun a38 h39 =>
  aa PP (.bld [(.int .i64 0),(.int .i64 0),(.int .i64 0),(.int .i64 0),(.int .i64 0),(.int .i32 0),(.int .i64 0),(.int .i64 0),(.int .i32 0),(.int .i64 0),(.int .i64 0),(.int .i32 0),(.int .i64 0),(.int .i64 0),(.int .i32 0)] [(0,1,(.c (.int .i64 2))),(1,1,(.c a35)),(3,3,(.c a36)),(6,3,(.c a38))]) h39 fun a40 h41 =>
  ah PP aC [a0,a40] h41 fun a42 h43 =>
  K (.tup []) h43) (
  vbin .eql a4 (.int .i64 8) fun a44 =>
  vcond a44 (ah PP aM [a0] h3 fun a45 h46 =>
  ah PP aI [a0] h46 fun a47 h48 =>
  ah PP aI [a0] h48 fun a49 h50 =>
  ah PP aI [a0] h50 fun a51 h52 =>
  aa PP (.bld [(.int .i64 0),(.int .i64 0),(.int .i64 0),(.int .i64 0),(.int .i64 0),(.int .i32 0),(.int .i64 0),(.int .i64 0),(.int .i32 0),(.int .i64 0),(.int .i64 0),(.int .i32 0),(.int .i64 0),(.int .i64 0),(.int .i32 0)] [(0,1,(.c (.int .i64 4))),(3,3,(.c a45)),(6,3,(.c a47)),(9,3,(.c a49)),(12,3,(.c a51))]) h52 fun a53 h54 =>
  ah PP aC [a0,a53] h54 fun a55 h56 =>
  K (.tup []) h56) (
  vbin .eql a4 (.int .i64 9) fun a57 =>
  vcond a57 (ah PP aM [a0] h3 fun a58 h59 =>
  ah PP aI [a0] h59 fun a60 h61 =>
  aa PP (.bld [(.int .i64 0),(.int .i64 0),(.int .i64 0),(.int .i64 0),(.int .i64 0),(.int .i32 0),(.int .i64 0),(.int .i64 0),(.int .i32 0),(.int .i64 0),(.int .i64 0),(.int .i32 0),(.int .i64 0),(.int .i64 0),(.int .i32 0)] [(0,1,(.c (.int .i64 1))),(3,3,(.c a58)),(6,3,(.c a60))]) h61 fun a62 h63 =>
  ah PP aC [a0,a62] h63 fun a64 h65 =>
  K (.tup []) h65) (
  vbin .eql a4 (.int .i64 10) fun a66 =>
  vcond a66 (ah PP aj [a0] h3 fun a67 h68 =>
  vbin .rem a67 (.int .i64 3) fun a69 =>
  ah PP aM [a0] h68 fun a70 h71 =>
  aa PP (.bld [(.int .i64 0),(.int .i64 0),(.int .i64 0),(.int .i64 0),(.int .i64 0),(.int .i32 0),(.int .i64 0),(.int .i64 0),(.int .i32 0),(.int .i64 0),(.int .i64 0),(.int .i32 0),(.int .i64 0),(.int .i64 0),(.int .i32 0)] [(0,1,(.c (.int .i64 6))),(2,1,(.c a69)),(3,3,(.c a70))]) h71 fun a72 h73 =>
  ah PP aC [a0,a72] h73 fun a74 h75 =>
  K (.tup []) h75) (
  vbin .eql a4 (.int .i64 11) fun a76 =>
  vcond a76 (ah PP aj [a0] h3 fun a77 h78 =>
  vbin .rem a77 (.int .i64 2) fun a79 =>
  vbin .add (.int .i64 1) a79 fun a80 =>
  aa PP (.bld [(.int .i64 0),(.int .i64 0),(.int .i64 0),(.int .i64 0),(.int .i64 0),(.int .i32 0),(.int .i64 0),(.int .i64 0),(.int .i32 0),(.int .i64 0),(.int .i64 0),(.int .i32 0),(.int .i64 0),(.int .i64 0),(.int .i32 0)] [(0,1,(.c (.int .i64 10))),(1,1,(.c a80))]) h78 fun a81 h82 =>
  ah PP aC [a0,a81] h82 fun a83 h84 =>
  K (.tup []) h84) (
  vbin .eql a4 (.int .i64 12) fun a85 =>
  vcond a85 (ah PP cj [a0,(.bool false)] h3 fun a86 h87 =>
  aa PP (.ext (.c a86) 0) h87 fun a88 h89 =>
  aa PP (.ext (.c a86) 1) h89 fun a90 h91 =>
  aa PP (.alloc (.agg [(.int .i64 0),(.int .i64 0),(.int .i32 0)])) h91 fun a92 h93 =>
  aa PP (.st (.c a92) (.c a90) 3) h93 fun a94 h95 =>
  af PP (.bldS false 1 6 (.int .i64 0) [(0,(.c (.int .i64 10))),(1,(.c (.int .i64 22))),(2,(.c (.int .i64 23))),(3,(.c (.int .i64 17))),(4,(.c (.int .i64 18))),(5,(.c (.int .i64 19)))]) h95 fun a96 =>
  af PP (.ld (.c a92) 3 true) h95 fun a97 =>
  ah PP aj [a0] h95 fun a98 h99 =>
  ((af PP (.ld (.c a92) 3 true) h99 fun a100=>aW [a100] [a97])/\True) /\
  vbin .rem a98 (.int .i64 6) fun a101 =>
  af PP (.iadd (.c a96) (.c a101) 1) h99 fun a102 =>
  af PP (.ld (.c a102) 1 false) h99 fun a103 =>
  ah PP aI [a0] h99 fun a104 h105 =>
  ((af PP (.iadd (.c a96) (.c a101) 1) h105 fun a106=>aW [a106] [a102])/\(af PP (.ld (.c a102) 1 false) h105 fun a107=>aW [a107] [a103])/\(af PP (.ld (.c a92) 3 true) h105 fun a108=>aW [a108] [a97])/\True) /\
  af PP (.bld [(.int .i64 0),(.int .i64 0),(.int .i64 0),(.int .i64 0),(.int .i64 0),(.int .i32 0),(.int .i64 0),(.int .i64 0),(.int .i32 0),(.int .i64 0),(.int .i64 0),(.int .i32 0),(.int .i64 0),(.int .i64 0),(.int .i32 0)] [(0,1,(.c (.int .i64 9))),(1,1,(.c a103)),(2,1,(.c a88)),(6,3,(.c a97)),(9,3,(.c a104))]) h105 fun a109 =>
  ah PP aC [a0,a109] h105 fun a110 h111 =>
  K (.tup []) h111) (
  ah PP cj [a0,(.bool true)] h3 fun a112 h113 =>
  aa PP (.ext (.c a112) 0) h113 fun a114 h115 =>
  aa PP (.ext (.c a112) 1) h115 fun a116 h117 =>
  aa PP (.alloc (.agg [(.int .i64 0),(.int .i64 0),(.int .i32 0)])) h117 fun a118 h119 =>
  aa PP (.st (.c a118) (.c a116) 3) h119 fun a120 h121 =>
  vbin .eql a4 (.int .i64 13) fun a122 =>
  vcond a122 (af PP (.ld (.c a118) 3 true) h121 fun a123 =>
  ah PP aM [a0] h121 fun a124 h125 =>
  ((af PP (.ld (.c a118) 3 true) h125 fun a126=>aW [a126] [a123])/\True) /\
  af PP (.bld [(.int .i64 0),(.int .i64 0),(.int .i64 0),(.int .i64 0),(.int .i64 0),(.int .i32 0),(.int .i64 0),(.int .i64 0),(.int .i32 0),(.int .i64 0),(.int .i64 0),(.int .i32 0),(.int .i64 0),(.int .i64 0),(.int .i32 0)] [(0,1,(.c (.int .i64 7))),(2,1,(.c a114)),(3,3,(.c a124)),(6,3,(.c a123))]) h125 fun a127 =>
  ah PP aC [a0,a127] h125 fun a128 h129 =>
  K (.tup []) h129) (
  af PP (.ld (.c a118) 3 true) h121 fun a130 =>
  ah PP aI [a0] h121 fun a131 h132 =>
  ((af PP (.ld (.c a118) 3 true) h132 fun a133=>aW [a133] [a130])/\True) /\
  af PP (.bld [(.int .i64 0),(.int .i64 0),(.int .i64 0),(.int .i64 0),(.int .i64 0),(.int .i32 0),(.int .i64 0),(.int .i64 0),(.int .i32 0),(.int .i64 0),(.int .i64 0),(.int .i32 0),(.int .i64 0),(.int .i64 0),(.int .i32 0)] [(0,1,(.c (.int .i64 8))),(2,1,(.c a114)),(6,3,(.c a130)),(9,3,(.c a131))]) h132 fun a134 =>
  ah PP aC [a0,a134] h132 fun a135 h136 =>
  K (.tup []) h136)))))))))
theorem pr (a0:D) (h0:Heap) (K:D->Heap->Prop):kO a0 h0 K=vcC PP fQ.code (fun x e h'=>match x with|.exit _=>False|.pan=>False|.jump _=>False|_=>bp PP fQ.res K e h') (params [a0] 0) h0:=by kernel_rfl
def kB:Nat->Option (List Nat×List Nat)
  | _=>none
def lX:Nat->Option (List Nat×List Nat×List Nat)
  | _=>none
def gT:aA:=⟨11,
  .seq (.reg [⟨(some 3),.mov (.t 0),none⟩,
    ⟨(some 4),.len (.t 3),none⟩,
    ⟨(some 2),.mov (.t 4),none⟩]) <|
  .reg [⟨(some 5),.mov (.t 0),none⟩,
    ⟨(some 6),.mov (.t 2),none⟩,
    ⟨(some 7),.mov (.t 2),none⟩,
    ⟨(some 8),.conv .u64 (.t 7),none⟩,
    ⟨(some 9),.call oD [(.t 8)],none⟩,
    ⟨(some 10),.call bH [(.t 5),(.c (.int .i64 0)),(.t 6),(.t 9)],none⟩],
  []⟩
theorem la:cFn PP true gA kB (cDr PP 11 lX)=some gT:=by kernel_rfl
def vW:Nat->Option (List Nat×List Nat)
  | _=>none
def yw:Nat->Option (List Nat×List Nat×List Nat)
  | _=>none
def kh:aA:=⟨30,
  .seq (.reg [⟨(some 1),.box (.t 0),none⟩,
    ⟨(some 2),.mov (.c .nil),none⟩]) <|
  .seq (.seq (.reg [⟨(some 3),.fadd (.t 1) 0,none⟩,
    ⟨(some 4),.ld (.t 3) 1 false,none⟩,
    ⟨(some 5),.bin .eql (.t 4) (.c (.int .i64 5)),none⟩]) <|
  .cond (.t 5) (.seq (.reg [⟨(some 6),.bldS true 1 0 (.int .i64 0) [],none⟩,
    ⟨(some 2),.mov (.t 6),none⟩]) <|
  .ret) (.skip)) <|
  .seq (.seq (.reg [⟨(some 7),.fadd (.t 1) 0,none⟩,
    ⟨(some 8),.ld (.t 7) 1 false,none⟩,
    ⟨(some 9),.bin .eql (.t 8) (.c (.int .i64 2)),none⟩,
    ⟨(some 10),.mov (.t 9),none⟩,
    ⟨(some 11),.fadd (.t 1) 11,some (10,true)⟩,
    ⟨(some 12),.iadda (.t 11) (.c (.int .i64 0)) 2 1,some (10,true)⟩,
    ⟨(some 13),.ld (.t 12) 1 false,some (10,true)⟩,
    ⟨(some 14),.fadd (.t 1) 11,some (10,true)⟩,
    ⟨(some 15),.iadda (.t 14) (.c (.int .i64 1)) 2 1,some (10,true)⟩,
    ⟨(some 16),.ld (.t 15) 1 false,some (10,true)⟩,
    ⟨(some 17),.bin .neq (.t 13) (.t 16),some (10,true)⟩,
    ⟨(some 18),.pick (.t 10) (.t 17) (.c (.bool false)),none⟩]) <|
  .cond (.t 18) (.seq (.reg [⟨(some 19),.fadd (.t 1) 11,none⟩,
    ⟨(some 20),.iadda (.t 19) (.c (.int .i64 0)) 2 1,none⟩,
    ⟨(some 21),.ld (.t 20) 1 false,none⟩,
    ⟨(some 22),.fadd (.t 1) 11,none⟩,
    ⟨(some 23),.iadda (.t 22) (.c (.int .i64 1)) 2 1,none⟩,
    ⟨(some 24),.ld (.t 23) 1 false,none⟩,
    ⟨(some 25),.bldS true 1 2 (.int .i64 0) [(0,(.t 21)),(1,(.t 24))],none⟩,
    ⟨(some 2),.mov (.t 25),none⟩]) <|
  .ret) (.skip)) <|
  .seq (.reg [⟨(some 26),.fadd (.t 1) 11,none⟩,
    ⟨(some 27),.iadda (.t 26) (.c (.int .i64 0)) 2 1,none⟩,
    ⟨(some 28),.ld (.t 27) 1 false,none⟩,
    ⟨(some 29),.bldS true 1 1 (.int .i64 0) [(0,(.t 28))],none⟩,
    ⟨(some 2),.mov (.t 29),none⟩]) <|
  .ret,
  [.t 2]⟩
theorem o4:cFn PP true gC vW (cDr PP 30 yw)=some kh:=by kernel_rfl
def uX (a0:D) (h0:Heap) (K:D->Heap->Prop):Prop :=
  aa PP (.box (.c a0)) h0 fun a2 h3 =>
  aa PP (.fadd (.c a2) 0) h3 fun a4 h5 =>
  aa PP (.ld (.c a4) 1 false) h5 fun a6 h7 =>
  vbin .eql a6 (.int .i64 5) fun a8 =>
  vcond a8 (aa PP (.bldS true 1 0 (.int .i64 0) []) h7 fun a9 h10 =>
  K a9 h10) (
  aa PP (.fadd (.c a2) 0) h7 fun a11 h12 =>
  aa PP (.ld (.c a11) 1 false) h12 fun a13 h14 =>
  vbin .eql a13 (.int .i64 2) fun a15 =>
  vguard a15 true (fun G16 =>
  aa PP (.fadd (.c a2) 11) h14 fun a19 h20 =>
  G16 a19 h20) h14 fun a17 h18 =>
  vguard a15 true (fun G21 =>
  aa PP (.iadda (.c a17) (.c (.int .i64 0)) 2 1) h18 fun a24 h25 =>
  G21 a24 h25) h18 fun a22 h23 =>
  vguard a15 true (fun G26 =>
  aa PP (.ld (.c a22) 1 false) h23 fun a29 h30 =>
  G26 a29 h30) h23 fun a27 h28 =>
  vguard a15 true (fun G31 =>
  aa PP (.fadd (.c a2) 11) h28 fun a34 h35 =>
  G31 a34 h35) h28 fun a32 h33 =>
  vguard a15 true (fun G36 =>
  aa PP (.iadda (.c a32) (.c (.int .i64 1)) 2 1) h33 fun a39 h40 =>
  G36 a39 h40) h33 fun a37 h38 =>
  vguard a15 true (fun G41 =>
  aa PP (.ld (.c a37) 1 false) h38 fun a44 h45 =>
  G41 a44 h45) h38 fun a42 h43 =>
  vguard a15 true (fun G46 =>
  vbin .neq a27 a42 fun a49 =>
  G46 a49 h43) h43 fun a47 h48 =>
  aa PP (.pick (.c a15) (.c a47) (.c (.bool false))) h48 fun a50 h51 =>
  vcond a50 (aa PP (.fadd (.c a2) 11) h51 fun a52 h53 =>
  aa PP (.iadda (.c a52) (.c (.int .i64 0)) 2 1) h53 fun a54 h55 =>
  aa PP (.ld (.c a54) 1 false) h55 fun a56 h57 =>
  aa PP (.fadd (.c a2) 11) h57 fun a58 h59 =>
  aa PP (.iadda (.c a58) (.c (.int .i64 1)) 2 1) h59 fun a60 h61 =>
  aa PP (.ld (.c a60) 1 false) h61 fun a62 h63 =>
  aa PP (.bldS true 1 2 (.int .i64 0) [(0,(.c a56)),(1,(.c a62))]) h63 fun a64 h65 =>
  K a64 h65) (
  aa PP (.fadd (.c a2) 11) h51 fun a66 h67 =>
  aa PP (.iadda (.c a66) (.c (.int .i64 0)) 2 1) h67 fun a68 h69 =>
  aa PP (.ld (.c a68) 1 false) h69 fun a70 h71 =>
  aa PP (.bldS true 1 1 (.int .i64 0) [(0,(.c a70))]) h71 fun a72 h73 =>
  K a72 h73))
theorem xO (a0:D) (h0:Heap) (K:D->Heap->Prop):uX a0 h0 K=vcC PP kh.code (fun x e h'=>match x with|.exit _=>False|.pan=>False|.jump _=>False|_=>bp PP kh.res K e h') (params [a0] 0) h0:=by kernel_rfl
def lz:Nat->Option (List Nat×List Nat)
  | _=>none
def ou:Nat->Option (List Nat×List Nat×List Nat)
  | _=>none
noncomputable def ma:aA:=⟨21,de (cFn PP true iL lz (cDr PP 21 ou)),
  [.t 4]⟩
theorem wz:cFn PP true iL lz (cDr PP 21 ou)=some ma:=by kernel_rfl
def sC (a0:D) (a1:D) (h0:Heap) (K:D->Heap->Prop):Prop :=
  aa PP (.box (.c a0)) h0 fun a3 h4 =>
  aa PP (.fadd (.c a3) 7) h4 fun a5 h6 =>
  aa PP (.ld (.c a5) 1 false) h6 fun a7 h8 =>
  aa PP (.iadd (.c a7) (.c a1) 14) h8 fun a9 h10 =>
  aa PP (.fadd (.c a9) 1) h10 fun a11 h12 =>
  aa PP (.fadd (.c a11) 0) h12 fun a13 h14 =>
  aa PP (.ld (.c a13) 1 false) h14 fun a15 h16 =>
  vbin .eql a15 (.int .i64 3) fun a17 =>
  vcond a17 (aa PP (.bldS true 1 0 (.int .i64 0) []) h16 fun a18 h19 =>
  K a18 h19) (
  aa PP (.fadd (.c a3) 7) h16 fun a20 h21 =>
  aa PP (.ld (.c a20) 1 false) h21 fun a22 h23 =>
  aa PP (.iadd (.c a22) (.c a1) 14) h23 fun a24 h25 =>
  aa PP (.fadd (.c a24) 1) h25 fun a26 h27 =>
  aa PP (.ld (.c a26) 13 true) h27 fun a28 h29 =>
  ah PP gC [a28] h29 fun a30 h31 =>
  K a30 h31)
theorem wg (a0:D) (a1:D) (h0:Heap) (K:D->Heap->Prop):sC a0 a1 h0 K=vcC PP ma.code (fun x e h'=>match x with|.exit _=>False|.pan=>False|.jump _=>False|_=>bp PP ma.res K e h') (params [a0,a1] 0) h0:=by kernel_rfl
def mD:Nat->Option (List Nat×List Nat)
  | 1000017=>some ([7],[])|6=>some ([0,2,7],[8])|10=>some ([0,2,7,9],[8,10])|1000012=>some ([0,2,7,9,10],[8])|_=>none
def pL:Nat->Option (List Nat×List Nat×List Nat)
  | _=>none
noncomputable def oe:aA:=⟨66,de (cFn PP true cR mD (cDr PP 66 pL)),
  [.t 6]⟩
theorem xZ:cFn PP true cR mD (cDr PP 66 pL)=some oe:=by kernel_rfl
def oQ (a27:D) (h28:Heap) (a0:D) (a25:D) (a2:D) (a5:D) (n18:Nat) (I17:Nat->List D->Heap->Prop):Prop :=
  ∃(I29:Nat->List D->Heap->Prop) (n₀:Nat),I29 n₀ [a27,(.int .i64 0)] h28/\∀(n30:Nat) (f31:Nat->D) (h32:Heap),I29 n30 [f31 8,f31 10] h32 ->
  aa PP (.iadd (.c a0) (.c a25) 1) h32 fun a33 h34 =>
  aa PP (.ld (.c a33) 1 false) h34 fun a35 h36 =>
  bj a35 h36 fun a37 =>
  vbin .lss (f31 10) a37 fun a38 =>
  vcond a38 (∃(J39:List D->Heap->Prop),(∀(f40:Nat->D) (h41:Heap),J39 [f40 8] h41 ->
  vbin .add (f31 10) (.int .i64 1) fun a42 =>
  aW [a0,a2,a5,a25] [a0,a2,a5,a25]/\∃m,m<n30/\I29 m [(f40 8),a42] h41) /\
  aa PP (.iadd (.c a0) (.c a25) 1) h36 fun a43 h44 =>
  aa PP (.ld (.c a43) 1 false) h44 fun a45 h46 =>
  aa PP (.iadd (.c a45) (.c (f31 10)) 1) h46 fun a47 h48 =>
  aa PP (.ld (.c a47) 1 false) h48 fun a49 h50 =>
  aa PP (.iadd (.c a5) (.c a49) 1) h50 fun a51 h52 =>
  aa PP (.ld (.c a51) 1 false) h52 fun a53 h54 =>
  vun .not a53 fun a55 =>
  vguard a55 true (fun G56 =>
  G56 a49 h54) h54 fun a57 h58 =>
  vguard a55 true (fun G59 =>
  G59 a2 h58) h58 fun a60 h61 =>
  vguard a55 true (fun G62 =>
  vbin .neq a57 a60 fun a65 =>
  G62 a65 h61) h61 fun a63 h64 =>
  aa PP (.pick (.c a55) (.c a63) (.c (.bool false))) h64 fun a66 h67 =>
  vcond a66 (aa PP (.iadd (.c a5) (.c a49) 1) h67 fun a68 h69 =>
  aa PP (.st (.c a68) (.c (.bool true)) 1) h69 fun a70 h71 =>
  aa PP (.bldS true 1 1 (.int .i64 0) [(0,(.c a49))]) h71 fun a72 h73 =>
  aa PP (.app (.c (f31 8)) (.c a72) 1 8 (.int .i64 0)) h73 fun a74 h75 =>
  aW [a0,a2,a5,a25,(f31 10)] [a0,a2,a5,a25,(f31 10)]/\J39 [a74] h75) (
  aW [a0,a2,a5,a25,(f31 10)] [a0,a2,a5,a25,(f31 10)]/\J39 [(f31 8)] h67)) (
  aW [a0,a2,a5] [a0,a2,a5]/\∃m,m<n18/\I17 m [(f31 8)] h36)
def oP (a12:D) (h13:Heap) (a0:D) (a2:D) (a5:D) (J14:List D->Heap->Prop):Prop :=
  ∃(I17:Nat->List D->Heap->Prop) (n₀:Nat),I17 n₀ [a12] h13/\∀(n18:Nat) (f19:Nat->D) (h20:Heap),I17 n18 [f19 8] h20 ->
  bj (f19 8) h20 fun a21 =>
  vbin .gtr a21 (.int .i64 0) fun a22 =>
  vcond a22 (aa PP (.iadd (.c (f19 8)) (.c (.int .i64 0)) 1) h20 fun a23 h24 =>
  aa PP (.ld (.c a23) 1 false) h24 fun a25 h26 =>
  aa PP (.kY (.c (f19 8)) (some (.c (.int .i64 1))) none none 1) h26 fun a27 h28 =>
  oQ a27 h28 a0 a25 a2 a5 n18 I17) (
  aW [a5] [a5]/\J14 [] h20)
def uW (a0:D) (a1:D) (a2:D) (h0:Heap) (K:D->Heap->Prop):Prop :=
  bj a0 h0 fun a4 =>
  aa PP (.mk 1 1 (.bool false) (.c a4) (.c a4)) h0 fun a5 h6 =>
  vbin .eql a1 a2 fun a7 =>
  vcond a7 (K a5 h6) (
  aa PP (.iadd (.c a5) (.c a1) 1) h6 fun a8 h9 =>
  aa PP (.st (.c a8) (.c (.bool true)) 1) h9 fun a10 h11 =>
  aa PP (.bldS true 1 1 (.int .i64 0) [(0,(.c a1))]) h11 fun a12 h13 =>
  ∃(J14:List D->Heap->Prop),(∀(f15:Nat->D) (h16:Heap),J14 [] h16 ->
  K a5 h16) /\
  oP a12 h13 a0 a2 a5 J14)
theorem xN (a0:D) (a1:D) (a2:D) (h0:Heap) (K:D->Heap->Prop):uW a0 a1 a2 h0 K=vcC PP oe.code (fun x e h'=>match x with|.exit _=>False|.pan=>False|.jump _=>False|_=>bp PP oe.res K e h') (params [a0,a1,a2] 0) h0:=by kernel_rfl
def uC:Nat->Option (List Nat×List Nat)
  | 1000007=>some ([],[3])|3=>some ([1],[3,4])|_=>none
def xt:Nat->Option (List Nat×List Nat×List Nat)
  | _=>none
def sM:aA:=⟨24,
  .seq (.reg [⟨(some 1),.box (.t 0),none⟩,
    ⟨(some 2),.mov (.c .nil),none⟩]) <|
  .seq (.reg [⟨(some 5),.bldS true 1 0 .nil [],none⟩,
    ⟨(some 3),.mov (.t 5),none⟩]) <|
  .seqj [] [3] (.seq (.reg [⟨(some 4),.mov (.c (.int .i64 0)),none⟩]) <|
  .block 0 (.loop [1] [3,4] (.seq (.seq (.reg [⟨(some 6),.mov (.t 4),none⟩,
    ⟨(some 7),.fadd (.t 1) 7,none⟩,
    ⟨(some 8),.ld (.t 7) 1 false,none⟩,
    ⟨(some 9),.len (.t 8),none⟩,
    ⟨(some 10),.bin .lss (.t 6) (.t 9),none⟩]) <|
  .cond (.t 10) (.skip) (.exit 0)) <|
  .seq (.block 1 (.reg [⟨(some 13),.mov (.t 3),none⟩,
    ⟨(some 14),.fadd (.t 1) 7,none⟩,
    ⟨(some 15),.ld (.t 14) 1 false,none⟩,
    ⟨(some 16),.mov (.t 4),none⟩,
    ⟨(some 17),.iadd (.t 15) (.t 16) 14,none⟩,
    ⟨(some 18),.fadd (.t 17) 1,none⟩,
    ⟨(some 19),.ld (.t 18) 13 true,none⟩,
    ⟨(some 20),.call jV [(.t 19)],none⟩,
    ⟨(some 21),.bldS true 1 1 .nil [(0,(.t 20))],none⟩,
    ⟨(some 22),.app (.t 13) (.t 21) 1 24 .nil,none⟩,
    ⟨(some 3),.mov (.t 22),none⟩])) <|
  .reg [⟨(some 11),.mov (.t 4),none⟩,
    ⟨(some 12),.bin .add (.t 11) (.c (.int .i64 1)),none⟩,
    ⟨(some 4),.mov (.t 12),none⟩]))) <|
  .seq (.reg [⟨(some 23),.mov (.t 3),none⟩,
    ⟨(some 2),.mov (.t 23),none⟩]) <|
  .ret,
  [.t 2]⟩
theorem wF:cFn PP true lZ uC (cDr PP 24 xt)=some sM:=by kernel_rfl
def uB:Nat->Option (List Nat×List Nat)
  | 1000010=>some ([3,4,5],[])|5=>some ([1,3,4,5],[6])|1000007=>some ([1,3,4,5,6],[])|1000015=>some ([3],[])|10=>some ([3,4,5],[7])|1000012=>some ([3,4,5,7],[])|_=>none
def xr:Nat->Option (List Nat×List Nat×List Nat)
  | 13=>some ([0,0,0,6,14,0,0,0,0,384,896,1984,4032,8160,0,16384,65504,131071,262143],[13,16,18],[3,4,17])|_=>none
def sL:aA:=⟨72,
  .seq (.reg [⟨(some 1),.box (.t 0),none⟩,
    ⟨(some 2),.mov (.c .nil),none⟩]) <|
  .seq (.reg [⟨(some 8),.ld (.t 1) 8 true,none⟩,
    ⟨(some 9),.call lZ [(.t 8)],none⟩,
    ⟨(some 10),.bldS true 1 0 (.int .i64 0) [],none⟩,
    ⟨(some 11),.bldS true 1 1 .nil [(0,(.t 10))],none⟩,
    ⟨(some 12),.app (.t 9) (.t 11) 1 24 .nil,none⟩,
    ⟨(some 3),.mov (.t 12),none⟩]) <|
  .seq (.reg [⟨(some 13),.fadd (.t 1) 7,none⟩,
    ⟨(some 14),.ld (.t 13) 1 false,none⟩,
    ⟨(some 15),.len (.t 14),none⟩,
    ⟨(some 4),.mov (.t 15),none⟩]) <|
  .seq (.reg [⟨(some 16),.ld (.t 1) 8 true,none⟩,
    ⟨(some 17),.call sk [(.t 16)],none⟩,
    ⟨(some 5),.mov (.t 17),none⟩]) <|
  .seqj [3,4,5] [] (.seq (.reg [⟨(some 6),.mov (.c (.int .i64 0)),none⟩]) <|
  .block 0 (.loop [1,3,4,5] [6] (.seq (.seq (.reg [⟨(some 18),.mov (.t 6),none⟩,
    ⟨(some 19),.mov (.t 4),none⟩,
    ⟨(some 20),.bin .lss (.t 18) (.t 19),none⟩]) <|
  .cond (.t 20) (.skip) (.exit 0)) <|
  .seqj [1,3,4,5,6] [] (.block 1 (.seq (.reg [⟨(some 23),.fadd (.t 1) 7,none⟩,
    ⟨(some 24),.ld (.t 23) 1 false,none⟩,
    ⟨(some 25),.mov (.t 6),none⟩,
    ⟨(some 26),.iadd (.t 24) (.t 25) 14,none⟩,
    ⟨(some 27),.fadd (.t 26) 1,none⟩,
    ⟨(some 28),.fadd (.t 27) 0,none⟩,
    ⟨(some 29),.ld (.t 28) 1 false,none⟩,
    ⟨(some 30),.bin .eql (.t 29) (.c (.int .i64 5)),none⟩]) <|
  .cond (.t 30) (.reg [⟨(some 31),.mov (.t 3),none⟩,
    ⟨(some 32),.mov (.t 6),none⟩,
    ⟨(some 33),.mov (.t 4),none⟩,
    ⟨(some 34),.bldS true 1 1 (.int .i64 0) [(0,(.t 33))],none⟩,
    ⟨(some 35),.iadd (.t 31) (.t 32) 1,none⟩,
    ⟨none,.st (.t 35) (.t 34) 1,none⟩]) (.skip))) <|
  .reg [⟨(some 21),.mov (.t 6),none⟩,
    ⟨(some 22),.bin .add (.t 21) (.c (.int .i64 1)),none⟩,
    ⟨(some 6),.mov (.t 22),none⟩]))) <|
  .seqj [3] [] (.seq (.reg [⟨(some 36),.mov (.t 5),none⟩,
    ⟨(some 37),.len (.t 36),none⟩,
    ⟨(some 38),.bin .sub (.t 37) (.c (.int .i64 1)),none⟩,
    ⟨(some 7),.mov (.t 38),none⟩]) <|
  .block 2 (.loop [3,4,5] [7] (.seq (.seq (.reg [⟨(some 39),.mov (.t 7),none⟩,
    ⟨(some 40),.bin .geq (.t 39) (.c (.int .i64 0)),none⟩]) <|
  .cond (.t 40) (.skip) (.exit 2)) <|
  .seqj [3,4,5,7] [] (.block 3 (.seq (.reg [⟨(some 43),.mov (.t 3),none⟩,
    ⟨(some 44),.mov (.t 5),none⟩,
    ⟨(some 45),.mov (.t 7),none⟩,
    ⟨(some 46),.iadd (.t 44) (.t 45) 1,none⟩,
    ⟨(some 47),.ld (.t 46) 1 false,none⟩,
    ⟨(some 48),.call cR [(.t 43),(.t 47),(.c (.int .i64 (-1)))],none⟩,
    ⟨(some 49),.mov (.t 4),none⟩,
    ⟨(some 50),.iadd (.t 48) (.t 49) 1,none⟩,
    ⟨(some 51),.ld (.t 50) 1 false,none⟩,
    ⟨(some 52),.un .not (.t 51),none⟩]) <|
  .cond (.t 52) (.dreg [⟨(some 53),.mov (.t 3),none⟩,
    ⟨(some 54),.mov (.t 5),none⟩,
    ⟨(some 55),.mov (.t 7),none⟩,
    ⟨(some 56),.iadd (.t 54) (.t 55) 1,none⟩,
    ⟨(some 57),.ld (.t 56) 1 false,none⟩,
    ⟨(some 58),.bldS false 1 0 (.int .i64 0) [],none⟩,
    ⟨(some 59),.mov (.t 3),none⟩,
    ⟨(some 60),.mov (.t 5),none⟩,
    ⟨(some 61),.mov (.t 7),none⟩,
    ⟨(some 62),.iadd (.t 60) (.t 61) 1,none⟩,
    ⟨(some 63),.ld (.t 62) 1 false,none⟩,
    ⟨(some 64),.iadd (.t 59) (.t 63) 1,none⟩,
    ⟨(some 65),.ld (.t 64) 1 false,none⟩,
    ⟨(some 67),.mov (.t 4),none⟩,
    ⟨(some 68),.bldS false 1 1 (.int .i64 0) [(0,(.t 67))],none⟩,
    ⟨(some 70),.iadd (.t 53) (.t 57) 1,none⟩] [⟨(some 66),.app (.t 58) (.t 65) 1 8 (.int .i64 0),none⟩,
    ⟨(some 69),.app (.t 66) (.t 68) 1 8 (.int .i64 0),none⟩,
    ⟨none,.st (.t 70) (.t 69) 1,none⟩] [⟨(some 56),.iadd (.t 54) (.t 55) 1,none⟩,
    ⟨(some 57),.ld (.t 56) 1 false,none⟩,
    ⟨(some 70),.iadd (.t 53) (.t 57) 1,none⟩]) (.skip))) <|
  .reg [⟨(some 41),.mov (.t 7),none⟩,
    ⟨(some 42),.bin .sub (.t 41) (.c (.int .i64 1)),none⟩,
    ⟨(some 7),.mov (.t 42),none⟩]))) <|
  .seq (.reg [⟨(some 71),.mov (.t 3),none⟩,
    ⟨(some 2),.mov (.t 71),none⟩]) <|
  .ret,
  [.t 2]⟩
theorem wE:cFn PP true sm uB (cDr PP 72 xr)=some sL:=by kernel_rfl
def vV:Nat->Option (List Nat×List Nat)
  | _=>none
def yu:Nat->Option (List Nat×List Nat×List Nat)
  | _=>none
def vr:aA:=⟨30,
  .seq (.reg [⟨(some 1),.box (.t 0),none⟩,
    ⟨(some 2),.mov (.c .nil),none⟩]) <|
  .seq (.seq (.reg [⟨(some 3),.fadd (.t 1) 0,none⟩,
    ⟨(some 4),.ld (.t 3) 1 false,none⟩,
    ⟨(some 5),.bin .eql (.t 4) (.c (.int .i64 5)),none⟩]) <|
  .cond (.t 5) (.seq (.reg [⟨(some 6),.bldS true 1 0 (.int .i64 0) [],none⟩,
    ⟨(some 2),.mov (.t 6),none⟩]) <|
  .ret) (.skip)) <|
  .seq (.seq (.reg [⟨(some 7),.fadd (.t 1) 0,none⟩,
    ⟨(some 8),.ld (.t 7) 1 false,none⟩,
    ⟨(some 9),.bin .eql (.t 8) (.c (.int .i64 2)),none⟩,
    ⟨(some 10),.mov (.t 9),none⟩,
    ⟨(some 11),.fadd (.t 1) 11,some (10,true)⟩,
    ⟨(some 12),.iadda (.t 11) (.c (.int .i64 0)) 2 1,some (10,true)⟩,
    ⟨(some 13),.ld (.t 12) 1 false,some (10,true)⟩,
    ⟨(some 14),.fadd (.t 1) 11,some (10,true)⟩,
    ⟨(some 15),.iadda (.t 14) (.c (.int .i64 1)) 2 1,some (10,true)⟩,
    ⟨(some 16),.ld (.t 15) 1 false,some (10,true)⟩,
    ⟨(some 17),.bin .neq (.t 13) (.t 16),some (10,true)⟩,
    ⟨(some 18),.pick (.t 10) (.t 17) (.c (.bool false)),none⟩]) <|
  .cond (.t 18) (.seq (.reg [⟨(some 19),.fadd (.t 1) 11,none⟩,
    ⟨(some 20),.iadda (.t 19) (.c (.int .i64 0)) 2 1,none⟩,
    ⟨(some 21),.ld (.t 20) 1 false,none⟩,
    ⟨(some 22),.fadd (.t 1) 11,none⟩,
    ⟨(some 23),.iadda (.t 22) (.c (.int .i64 1)) 2 1,none⟩,
    ⟨(some 24),.ld (.t 23) 1 false,none⟩,
    ⟨(some 25),.bldS true 1 2 (.int .i64 0) [(0,(.t 21)),(1,(.t 24))],none⟩,
    ⟨(some 2),.mov (.t 25),none⟩]) <|
  .ret) (.skip)) <|
  .seq (.reg [⟨(some 26),.fadd (.t 1) 11,none⟩,
    ⟨(some 27),.iadda (.t 26) (.c (.int .i64 0)) 2 1,none⟩,
    ⟨(some 28),.ld (.t 27) 1 false,none⟩,
    ⟨(some 29),.bldS true 1 1 (.int .i64 0) [(0,(.t 28))],none⟩,
    ⟨(some 2),.mov (.t 29),none⟩]) <|
  .ret,
  [.t 2]⟩
theorem xY:cFn PP true jV vV (cDr PP 30 yu)=some vr:=by kernel_rfl
def uD:Nat->Option (List Nat×List Nat)
  | _=>none
def xu:Nat->Option (List Nat×List Nat×List Nat)
  | _=>none
def sN:aA:=⟨22,
  .seq (.reg [⟨(some 6),.mov (.c (.bool false)),none⟩]) <|
  .seq (.reg [⟨(some 7),.mov (.t 1),none⟩,
    ⟨(some 8),.mov (.t 2),none⟩,
    ⟨(some 9),.bin .eql (.t 7) (.t 8),none⟩,
    ⟨(some 10),.mov (.t 9),none⟩,
    ⟨(some 11),.mov (.t 0),some (10,false)⟩,
    ⟨(some 12),.mov (.t 1),some (10,false)⟩,
    ⟨(some 13),.mov (.t 2),some (10,false)⟩,
    ⟨(some 14),.call cR [(.t 11),(.t 12),(.t 13)],some (10,false)⟩,
    ⟨(some 15),.mov (.t 0),some (10,false)⟩,
    ⟨(some 16),.len (.t 15),some (10,false)⟩,
    ⟨(some 17),.bin .sub (.t 16) (.c (.int .i64 1)),some (10,false)⟩,
    ⟨(some 18),.iadd (.t 14) (.t 17) 1,some (10,false)⟩,
    ⟨(some 19),.ld (.t 18) 1 false,some (10,false)⟩,
    ⟨(some 20),.un .not (.t 19),some (10,false)⟩,
    ⟨(some 21),.pick (.t 10) (.c (.bool true)) (.t 20),none⟩,
    ⟨(some 6),.mov (.t 21),none⟩]) <|
  .ret,
  [.t 6]⟩
theorem wG:cFn PP true iN uD (cDr PP 22 xu)=some sN:=by kernel_rfl
def p7:Nat->Option (List Nat×List Nat)
  | _=>none
def sX:Nat->Option (List Nat×List Nat×List Nat)
  | _=>none
def m9:aA:=⟨16,
  .seq (.reg [⟨(some 2),.box (.t 0),none⟩,
    ⟨(some 3),.box (.t 1),none⟩,
    ⟨(some 4),.mov (.c (.bool false)),none⟩]) <|
  .seq (.reg [⟨(some 5),.fadd (.t 3) 0,none⟩,
    ⟨(some 6),.ld (.t 5) 1 false,none⟩,
    ⟨(some 7),.bin .neq (.t 6) (.c (.int .i64 2)),none⟩,
    ⟨(some 8),.mov (.t 7),none⟩,
    ⟨(some 9),.fadd (.t 2) 1,some (8,false)⟩,
    ⟨(some 10),.ld (.t 9) 1 false,some (8,false)⟩,
    ⟨(some 11),.fadd (.t 3) 1,some (8,false)⟩,
    ⟨(some 12),.ld (.t 11) 1 false,some (8,false)⟩,
    ⟨(some 13),.iadd (.t 10) (.t 12) 1,some (8,false)⟩,
    ⟨(some 14),.ld (.t 13) 1 false,some (8,false)⟩,
    ⟨(some 15),.pick (.t 8) (.c (.bool true)) (.t 14),none⟩,
    ⟨(some 4),.mov (.t 15),none⟩]) <|
  .ret,
  [.t 4]⟩
theorem rT:cFn PP true dn p7 (cDr PP 16 sX)=some m9:=by kernel_rfl
def vX:Nat->Option (List Nat×List Nat)
  | _=>none
def yx:Nat->Option (List Nat×List Nat×List Nat)
  | _=>none
def vt:aA:=⟨10,
  .seq (.reg [⟨(some 1),.box (.t 0),none⟩,
    ⟨(some 2),.mov (.c (.int .i64 0)),none⟩]) <|
  .seq (.seq (.reg [⟨(some 3),.fadd (.t 1) 2,none⟩,
    ⟨(some 4),.fadd (.t 3) 0,none⟩,
    ⟨(some 5),.ld (.t 4) 1 false,none⟩,
    ⟨(some 6),.bin .eql (.t 5) (.c (.int .i64 2)),none⟩]) <|
  .cond (.t 6) (.seq (.reg [⟨(some 7),.fadd (.t 1) 2,none⟩,
    ⟨(some 8),.fadd (.t 7) 1,none⟩,
    ⟨(some 9),.ld (.t 8) 1 false,none⟩,
    ⟨(some 2),.mov (.t 9),none⟩]) <|
  .ret) (.skip)) <|
  .seq (.reg [⟨(some 2),.mov (.c (.int .i64 (-1))),none⟩]) <|
  .ret,
  [.t 2]⟩
theorem x4:cFn PP true um vX (cDr PP 10 yx)=some vt:=by kernel_rfl
def xE:Nat->Option (List Nat×List Nat)
  | _=>none
def zM:Nat->Option (List Nat×List Nat×List Nat)
  | _=>none
def xk:aA:=⟨10,
  .seq (.reg [⟨(some 1),.box (.t 0),none⟩,
    ⟨(some 2),.mov (.c (.int .i64 0)),none⟩]) <|
  .seq (.seq (.reg [⟨(some 3),.fadd (.t 1) 3,none⟩,
    ⟨(some 4),.fadd (.t 3) 0,none⟩,
    ⟨(some 5),.ld (.t 4) 1 false,none⟩,
    ⟨(some 6),.bin .eql (.t 5) (.c (.int .i64 2)),none⟩]) <|
  .cond (.t 6) (.seq (.reg [⟨(some 7),.fadd (.t 1) 3,none⟩,
    ⟨(some 8),.fadd (.t 7) 1,none⟩,
    ⟨(some 9),.ld (.t 8) 1 false,none⟩,
    ⟨(some 2),.mov (.t 9),none⟩]) <|
  .ret) (.skip)) <|
  .seq (.reg [⟨(some 2),.mov (.c (.int .i64 (-1))),none⟩]) <|
  .ret,
  [.t 2]⟩
theorem zD:cFn PP true wX xE (cDr PP 10 zM)=some xk:=by kernel_rfl
def tp:Nat->Option (List Nat×List Nat)
  | 1000008=>some ([1,4],[5])|_=>none
def vF:Nat->Option (List Nat×List Nat×List Nat)
  | _=>none
def qG:aA:=⟨26,
  .seq (.reg [⟨(some 1),.box (.t 0),none⟩,
    ⟨(some 2),.mov (.c (.bool false)),none⟩]) <|
  .seq (.seq (.reg [⟨(some 3),.fadd (.t 1) 0,none⟩,
    ⟨(some 4),.ld (.t 3) 1 false,none⟩]) <|
  .block 0 (.seqj [1,4] [5] (.seq (.reg [⟨(some 6),.bin .eql (.t 4) (.c (.int .i64 1)),none⟩,
    ⟨(some 5),.mov (.t 6),none⟩]) <|
  .cond (.t 5) (.skip) (.seq (.reg [⟨(some 7),.bin .eql (.t 4) (.c (.int .i64 2)),none⟩,
    ⟨(some 5),.mov (.t 7),none⟩]) <|
  .cond (.t 5) (.skip) (.seq (.reg [⟨(some 8),.bin .eql (.t 4) (.c (.int .i64 3)),none⟩,
    ⟨(some 5),.mov (.t 8),none⟩]) <|
  .cond (.t 5) (.skip) (.seq (.reg [⟨(some 9),.bin .eql (.t 4) (.c (.int .i64 4)),none⟩,
    ⟨(some 5),.mov (.t 9),none⟩]) <|
  .cond (.t 5) (.skip) (.reg [⟨(some 10),.bin .eql (.t 4) (.c (.int .i64 6)),none⟩,
    ⟨(some 5),.mov (.t 10),none⟩]))))) <|
  .cond (.t 5) (.seq (.reg [⟨(some 2),.mov (.c (.bool true)),none⟩]) <|
  .ret) (.seq (.reg [⟨(some 12),.bin .eql (.t 4) (.c (.int .i64 5)),none⟩,
    ⟨(some 11),.mov (.t 12),none⟩]) <|
  .cond (.t 11) (.seq (.reg [⟨(some 13),.fadd (.t 1) 1,none⟩,
    ⟨(some 14),.ld (.t 13) 1 false,none⟩,
    ⟨(some 15),.bin .eql (.t 14) (.c (.int .i64 3)),none⟩,
    ⟨(some 16),.mov (.t 15),none⟩,
    ⟨(some 17),.fadd (.t 1) 1,some (16,false)⟩,
    ⟨(some 18),.ld (.t 17) 1 false,some (16,false)⟩,
    ⟨(some 19),.bin .eql (.t 18) (.c (.int .i64 4)),some (16,false)⟩,
    ⟨(some 20),.pick (.t 16) (.c (.bool true)) (.t 19),none⟩,
    ⟨(some 21),.mov (.t 20),none⟩,
    ⟨(some 22),.fadd (.t 1) 1,some (21,false)⟩,
    ⟨(some 23),.ld (.t 22) 1 false,some (21,false)⟩,
    ⟨(some 24),.bin .eql (.t 23) (.c (.int .i64 5)),some (21,false)⟩,
    ⟨(some 25),.pick (.t 21) (.c (.bool true)) (.t 24),none⟩,
    ⟨(some 2),.mov (.t 25),none⟩]) <|
  .ret) (.skip)))) <|
  .seq (.reg [⟨(some 2),.mov (.c (.bool false)),none⟩]) <|
  .ret,
  [.t 2]⟩
theorem vo:cFn PP true pX tp (cDr PP 26 vF)=some qG:=by kernel_rfl
def tv:Nat->Option (List Nat×List Nat)
  | _=>none
def vJ:Nat->Option (List Nat×List Nat×List Nat)
  | _=>none
def g9:aA:=⟨17,
  .seq (.reg [⟨(some 4),.mov (.c (.bool false)),none⟩]) <|
  .seq (.reg [⟨(some 5),.mov (.t 0),none⟩,
    ⟨(some 6),.call cM [(.t 5)],none⟩,
    ⟨(some 7),.mov (.t 6),none⟩,
    ⟨(some 8),.mov (.t 1),some (7,true)⟩,
    ⟨(some 9),.call cM [(.t 8)],some (7,true)⟩,
    ⟨(some 10),.un .not (.t 9),some (7,true)⟩,
    ⟨(some 11),.pick (.t 7) (.t 10) (.c (.bool false)),none⟩,
    ⟨(some 12),.mov (.t 11),none⟩,
    ⟨(some 13),.mov (.t 0),some (12,false)⟩,
    ⟨(some 14),.mov (.t 1),some (12,false)⟩,
    ⟨(some 15),.bin .lss (.t 13) (.t 14),some (12,false)⟩,
    ⟨(some 16),.pick (.t 12) (.c (.bool true)) (.t 15),none⟩,
    ⟨(some 4),.mov (.t 16),none⟩]) <|
  .ret,
  [.t 4]⟩
theorem lV:cFn PP true dt tv (cDr PP 17 vJ)=some g9:=by kernel_rfl
def qB (a0:D) (a1:D) (h0:Heap) (K:D->Heap->Prop):Prop :=
  ah PP cM [a0] h0 fun a3 h4 =>
  vguard a3 true (fun G5 =>
  G5 a1 h4) h4 fun a6 h7 =>
  vguard a3 true (fun G8 =>
  ah PP cM [a6] h7 fun a11 h12 =>
  G8 a11 h12) h7 fun a9 h10 =>
  vguard a3 true (fun G13 =>
  vun .not a9 fun a16 =>
  G13 a16 h10) h10 fun a14 h15 =>
  aa PP (.pick (.c a3) (.c a14) (.c (.bool false))) h15 fun a17 h18 =>
  vguard a17 false (fun G19 =>
  G19 a0 h18) h18 fun a20 h21 =>
  vguard a17 false (fun G22 =>
  G22 a1 h21) h21 fun a23 h24 =>
  vguard a17 false (fun G25 =>
  vbin .lss a20 a23 fun a28 =>
  G25 a28 h24) h24 fun a26 h27 =>
  aa PP (.pick (.c a17) (.c (.bool true)) (.c a26)) h27 fun a29 h30 =>
  K a29 h30
theorem u9 (a0:D) (a1:D) (h0:Heap) (K:D->Heap->Prop):qB a0 a1 h0 K=vcC PP g9.code (fun x e h'=>match x with|.exit _=>False|.pan=>False|.jump _=>False|_=>bp PP g9.res K e h') (params [a0,a1] 0) h0:=by kernel_rfl
def gE:Nat->Option (List Nat×List Nat)
  | _=>none
def iW:Nat->Option (List Nat×List Nat×List Nat)
  | _=>none
noncomputable def fN:aA:=⟨6,de (cFn PP true bF gE (cDr PP 6 iW)),
  [.t 2]⟩
theorem pA:cFn PP true bF gE (cDr PP 6 iW)=some fN:=by kernel_rfl
def kK (a0:D) (h0:Heap) (K:D->Heap->Prop):Prop :=
  vbin .neq a0 a0 fun a2 =>
  K a2 h0
theorem pn (a0:D) (h0:Heap) (K:D->Heap->Prop):kK a0 h0 K=vcC PP fN.code (fun x e h'=>match x with|.exit _=>False|.pan=>False|.jump _=>False|_=>bp PP fN.res K e h') (params [a0] 0) h0:=by kernel_rfl
def rI:Nat->Option (List Nat×List Nat)
  | _=>none
def tW:Nat->Option (List Nat×List Nat×List Nat)
  | 1=>some ([0,1,0,7,0,0,63,127],[4,5,6,7],[])|_=>none
def oY:aA:=⟨10,
  .seq (.reg [⟨(some 1),.box (.t 0),none⟩,
    ⟨(some 2),.mov (.c .nilfn),none⟩]) <|
  .seq (.dreg [⟨(some 5),.ld (.t 1) 8 true,none⟩,
    ⟨(some 6),.call nK [(.t 5)],none⟩,
    ⟨(some 7),.ld (.t 1) 8 true,none⟩,
    ⟨(some 8),.call dX [(.t 7)],none⟩] [⟨(some 3),.alloc .nil,none⟩,
    ⟨(some 4),.alloc .nil,none⟩,
    ⟨none,.st (.t 3) (.t 6) 1,none⟩,
    ⟨none,.st (.t 4) (.t 8) 1,none⟩] []) <|
  .seq (.reg [⟨(some 9),.mkf kz [] [(.t 1),(.t 3),(.t 4)],none⟩,
    ⟨(some 2),.mov (.t 9),none⟩]) <|
  .ret,
  [.t 2]⟩
theorem tH:cFn PP true oz rI (cDr PP 10 tW)=some oY:=by kernel_rfl
def tm:Nat->Option (List Nat×List Nat)
  | _=>none
def vE:Nat->Option (List Nat×List Nat×List Nat)
  | _=>none
def qF:aA:=⟨22,
  .seq (.reg [⟨(some 2),.box (.t 0),none⟩,
    ⟨(some 3),.box (.t 1),none⟩,
    ⟨(some 4),.mov (.c (.bool false)),none⟩]) <|
  .seq (.seq (.reg [⟨(some 5),.ld (.t 2) 2 true,none⟩,
    ⟨(some 6),.fadd (.t 3) 0,none⟩,
    ⟨(some 7),.ld (.t 6) 2 true,none⟩,
    ⟨(some 8),.call nH [(.t 5),(.t 7)],none⟩,
    ⟨(some 9),.fadd (.t 8) 0,none⟩,
    ⟨(some 10),.ld (.t 9) 1 false,none⟩,
    ⟨(some 11),.un .not (.t 10),none⟩]) <|
  .cond (.t 11) (.seq (.reg [⟨(some 4),.mov (.c (.bool true)),none⟩]) <|
  .ret) (.skip)) <|
  .seq (.reg [⟨(some 12),.fadd (.t 3) 3,none⟩,
    ⟨(some 13),.ld (.t 12) 1 false,none⟩,
    ⟨(some 14),.un .not (.t 13),none⟩,
    ⟨(some 15),.mov (.t 14),none⟩,
    ⟨(some 16),.fadd (.t 3) 2,some (15,true)⟩,
    ⟨(some 17),.ld (.t 16) 1 false,some (15,true)⟩,
    ⟨(some 18),.mkf lh [] [(.t 2)],some (15,true)⟩,
    ⟨(some 19),.call bq [(.t 17),(.t 18)],some (15,true)⟩,
    ⟨(some 20),.un .not (.t 19),some (15,true)⟩,
    ⟨(some 21),.pick (.t 15) (.t 20) (.c (.bool false)),none⟩,
    ⟨(some 4),.mov (.t 21),none⟩]) <|
  .ret,
  [.t 4]⟩
theorem ve:cFn PP true pW tm (cDr PP 22 vE)=some qF:=by kernel_rfl
def jY:Nat->Option (List Nat×List Nat)
  | 1000008=>some ([],[])|2=>some ([0,1,7],[8])|_=>none
def kZ:Nat->Option (List Nat×List Nat×List Nat)
  | _=>none
def cb:aA:=⟨19,
  .seq (.reg [⟨(some 4),.mov (.c (.int .i64 0)),none⟩]) <|
  .seqj [] [] (.seq (.reg [⟨(some 6),.mov (.t 0),none⟩,
    ⟨(some 7),.len (.t 6),none⟩,
    ⟨(some 8),.mov (.c (.int .i64 0)),none⟩]) <|
  .block 0 (.loop [0,1,7] [8] (.seq (.reg [⟨(some 9),.bin .lss (.t 8) (.t 7),none⟩]) <|
  .seq (.cond (.t 9) (.skip) (.exit 0)) <|
  .seq (.block 1 (.seq (.reg [⟨(some 10),.mov (.t 8),none⟩,
    ⟨(some 5),.mov (.t 10),none⟩]) <|
  .seq (.reg [⟨(some 11),.mov (.t 1),none⟩,
    ⟨(some 12),.mov (.t 0),none⟩,
    ⟨(some 13),.mov (.t 5),none⟩,
    ⟨(some 14),.iadd (.t 12) (.t 13) 1,none⟩,
    ⟨(some 15),.ld (.t 14) 1 false,none⟩,
    ⟨(some 16),.bin .eql (.t 11) (.t 15),none⟩]) <|
  .cond (.t 16) (.seq (.reg [⟨(some 17),.mov (.t 5),none⟩,
    ⟨(some 4),.mov (.t 17),none⟩]) <|
  .ret) (.skip))) <|
  .reg [⟨(some 18),.bin .add (.t 8) (.c (.int .i64 1)),none⟩,
    ⟨(some 8),.mov (.t 18),none⟩]))) <|
  .seq (.reg [⟨(some 4),.mov (.c (.int .i64 (-1))),none⟩]) <|
  .ret,
  [.t 4]⟩
theorem eG:cFn PP true bZ jY (cDr PP 19 kZ)=some cb:=by kernel_rfl
def eE (h0:Heap) (a6:D) (a0:D) (a1:D) (J3:List D->Heap->Prop) (K:D->Heap->Prop):Prop :=
  ∃(I7:Nat->List D->Heap->Prop) (n₀:Nat),I7 n₀ [(.int .i64 0)] h0/\∀(n8:Nat) (f9:Nat->D) (h10:Heap),I7 n8 [f9 8] h10 ->
  vbin .lss (f9 8) a6 fun a11 =>
  vcond a11 (aa PP (.iadd (.c a0) (.c (f9 8)) 1) h10 fun a12 h13 =>
  aa PP (.ld (.c a12) 1 false) h13 fun a14 h15 =>
  vbin .eql a1 a14 fun a16 =>
  vcond a16 (K (f9 8) h15) (
  vbin .add (f9 8) (.int .i64 1) fun a17 =>
  aW [a0,a1,a6] [a0,a1,a6]/\∃m,m<n8/\I7 m [a17] h15)) (
  aW [] []/\J3 [] h10)
def gb (a0:D) (a1:D) (h0:Heap) (K:D->Heap->Prop):Prop :=
  ∃(J3:List D->Heap->Prop),(∀(f4:Nat->D) (h5:Heap),J3 [] h5 ->
  K (.int .i64 (-1)) h5) /\
  bj a0 h0 fun a6 =>
  eE h0 a6 a0 a1 J3 K
theorem kL (a0:D) (a1:D) (h0:Heap) (K:D->Heap->Prop):gb a0 a1 h0 K=vcC PP cb.code (fun x e h'=>match x with|.exit _=>False|.pan=>False|.jump _=>False|_=>bp PP cb.res K e h') (params [a0,a1] 0) h0:=by kernel_rfl
def gj:Nat->Option (List Nat×List Nat)
  | 1000008=>some ([],[])|2=>some ([0,1,7],[8])|_=>none
def hQ:Nat->Option (List Nat×List Nat×List Nat)
  | _=>none
def dJ:aA:=⟨19,
  .seq (.reg [⟨(some 4),.mov (.c (.int .i64 0)),none⟩]) <|
  .seqj [] [] (.seq (.reg [⟨(some 6),.mov (.t 0),none⟩,
    ⟨(some 7),.len (.t 6),none⟩,
    ⟨(some 8),.mov (.c (.int .i64 0)),none⟩]) <|
  .block 0 (.loop [0,1,7] [8] (.seq (.reg [⟨(some 9),.bin .lss (.t 8) (.t 7),none⟩]) <|
  .seq (.cond (.t 9) (.skip) (.exit 0)) <|
  .seq (.block 1 (.seq (.reg [⟨(some 10),.mov (.t 8),none⟩,
    ⟨(some 5),.mov (.t 10),none⟩]) <|
  .seq (.reg [⟨(some 11),.mov (.t 1),none⟩,
    ⟨(some 12),.mov (.t 0),none⟩,
    ⟨(some 13),.mov (.t 5),none⟩,
    ⟨(some 14),.iadd (.t 12) (.t 13) 1,none⟩,
    ⟨(some 15),.ld (.t 14) 1 false,none⟩,
    ⟨(some 16),.callv (.t 11) [(.t 15)],none⟩]) <|
  .cond (.t 16) (.seq (.reg [⟨(some 17),.mov (.t 5),none⟩,
    ⟨(some 4),.mov (.t 17),none⟩]) <|
  .ret) (.skip))) <|
  .reg [⟨(some 18),.bin .add (.t 8) (.c (.int .i64 1)),none⟩,
    ⟨(some 8),.mov (.t 18),none⟩]))) <|
  .seq (.reg [⟨(some 4),.mov (.c (.int .i64 (-1))),none⟩]) <|
  .ret,
  [.t 4]⟩
theorem gV:cFn PP true dH gj (cDr PP 19 hQ)=some dJ:=by kernel_rfl
def fW:Nat->Option (List Nat×List Nat)
  | 1000005=>some ([0,5],[6])|_=>none
def ij:Nat->Option (List Nat×List Nat×List Nat)
  | 5=>some ([0,0,0,4,0,16,48,112,240,0,1008,2032,4080,8176,16368,32764,65534,131071],[3,17],[999999])|6=>some ([0,0,1,7],[3],[])|_=>none
noncomputable def fq:aA:=⟨39,de (cFn PP true cj fW (cDr PP 39 ij)),
  [.t 4,.cell 5 3 true]⟩
theorem og:cFn PP true cj fW (cDr PP 39 ij)=some fq:=by kernel_rfl
def jI (a0:D) (a1:D) (h0:Heap) (K:D->Heap->Prop):Prop :=
  aa PP (.alloc (.agg [(.int .i64 0),(.int .i64 0),(.int .i32 0)])) h0 fun a3 h4 =>
  ah PP aj [a0] h4 fun a5 h6 =>
  vbin .rem a5 (.int .i64 5) fun a7 =>
  ∃(J8:List D->Heap->Prop),(∀(f9:Nat->D) (h10:Heap),J8 [f9 6] h10 ->
  ah PP aM [a0] h10 fun a11 h12 =>
  aa PP (.alloc (.agg [(.int .i64 0),(.int .i64 0),(.int .i32 0)])) h12 fun a13 h14 =>
  aa PP (.st (.c a13) (.c a11) 3) h14 fun a15 h16 =>
  af PP (.ld (.c a13) 3 true) h16 fun a17 =>
  af PP (.fadd (.c a0) 0) h16 fun a18 =>
  af PP (.fadd (.c a18) 2) h16 fun a19 =>
  af PP (.fadd (.c a19) 5) h16 fun a20 =>
  af PP (.ld (.c a20) 1 false) h16 fun a21 =>
  af PP (.iadd (.c a21) (.c (f9 6)) 4) h16 fun a22 =>
  af PP (.fadd (.c a22) 3) h16 fun a23 =>
  af PP (.ld (.c a23) 1 false) h16 fun a24 =>
  vbin .sub a24 (.int .i64 1) fun a25 =>
  af PP (.conv .i32 (.c a25)) h16 fun a26 =>
  ah PP aI [a0] h16 fun a27 h28 =>
  ((af PP (.ld (.c a13) 3 true) h28 fun a29=>aW [a29] [a17])/\(af PP (.fadd (.c a0) 0) h28 fun a30=>aW [a30] [a18])/\(af PP (.fadd (.c a18) 2) h28 fun a31=>aW [a31] [a19])/\(af PP (.fadd (.c a19) 5) h28 fun a32=>aW [a32] [a20])/\(af PP (.ld (.c a20) 1 false) h28 fun a33=>aW [a33] [a21])/\(af PP (.iadd (.c a21) (.c (f9 6)) 4) h28 fun a34=>aW [a34] [a22])/\(af PP (.fadd (.c a22) 3) h28 fun a35=>aW [a35] [a23])/\(af PP (.ld (.c a23) 1 false) h28 fun a36=>aW [a36] [a24])/\True) /\
  af PP (.call cu [(.c a26)]) h28 fun a37 =>
  af PP (.bld [(.int .i64 0),(.int .i64 0),(.int .i64 0),(.int .i64 0),(.int .i64 0),(.int .i32 0),(.int .i64 0),(.int .i64 0),(.int .i32 0),(.int .i64 0),(.int .i64 0),(.int .i32 0),(.int .i64 0),(.int .i64 0),(.int .i32 0)] [(0,1,(.c (.int .i64 3))),(1,1,(.c (.int .i64 17))),(3,3,(.c a17)),(6,3,(.c a27)),(9,3,(.c a37))]) h28 fun a38 =>
  ah PP aC [a0,a38] h28 fun a39 h40 =>
  af PP (.ld (.c a13) 3 true) h40 fun a41 =>
  aa PP (.st (.c a3) (.c a41) 3) h40 fun a42 h43 =>
  aa PP (.ld (.c a3) 3 true) h43 fun a44 _ =>
  K (.tup [(f9 6),a44]) h43) /\
  vbin .eql a7 (.int .i64 3) fun a45 =>
  vguard a45 true (fun G46 =>
  G46 a1 h6) h6 fun a47 h48 =>
  vguard a45 true (fun G49 =>
  vun .not a47 fun a52 =>
  G49 a52 h48) h48 fun a50 h51 =>
  aa PP (.pick (.c a45) (.c a50) (.c (.bool false))) h51 fun a53 h54 =>
  vcond a53 (aW [a0,a3] [a0,a3]/\J8 [(.int .i64 0)] h54) (
  aW [a0,a3] [a0,a3]/\J8 [a7] h54)
theorem nW (a0:D) (a1:D) (h0:Heap) (K:D->Heap->Prop):jI a0 a1 h0 K=vcC PP fq.code (fun x e h'=>match x with|.exit _=>False|.pan=>False|.jump _=>False|_=>bp PP fq.res K e h') (params [a0,a1] 0) h0:=by kernel_rfl
def ic:Nat->Option (List Nat×List Nat)
  | 2=>some ([0],[1,2,3,8,9])|1000011=>some ([0,1,2,8,9,10],[3])|1000016=>some ([0,1,2,3,8,9,10],[11,12])|1000018=>some ([0,1,2,3,8,9,10,11],[])|_=>none
def iV:Nat->Option (List Nat×List Nat×List Nat)
  | 17=>some ([0,1,3,7,7,23,63,127,7,7,775,1799,4095,8191,16383],[],[])|_=>none
def eg:aA:=⟨134,
  .seq (.reg [⟨(some 8),.mov (.c (.bool true)),none⟩]) <|
  .seq (.reg [⟨(some 9),.mov (.c (.bool true)),none⟩]) <|
  .block 0 (.loop [0] [1,2,3,8,9] (.block 1 (.seq (.reg [⟨(some 19),.mov (.t 2),none⟩,
    ⟨(some 20),.mov (.t 1),none⟩,
    ⟨(some 21),.bin .sub (.t 19) (.t 20),none⟩,
    ⟨(some 10),.mov (.t 21),none⟩]) <|
  .seq (.seq (.reg [⟨(some 22),.mov (.t 10),none⟩,
    ⟨(some 23),.bin .leq (.t 22) (.c (.int .i64 12)),none⟩]) <|
  .cond (.t 23) (.seq (.reg [⟨(some 24),.mov (.t 0),none⟩,
    ⟨(some 25),.mov (.t 1),none⟩,
    ⟨(some 26),.mov (.t 2),none⟩,
    ⟨(some 27),.call cC [(.t 24),(.t 25),(.t 26)],none⟩]) <|
  .ret) (.skip)) <|
  .seq (.seq (.reg [⟨(some 28),.mov (.t 3),none⟩,
    ⟨(some 29),.bin .eql (.t 28) (.c (.int .i64 0)),none⟩]) <|
  .cond (.t 29) (.seq (.reg [⟨(some 30),.mov (.t 0),none⟩,
    ⟨(some 31),.mov (.t 1),none⟩,
    ⟨(some 32),.mov (.t 2),none⟩,
    ⟨(some 33),.call jt [(.t 30),(.t 31),(.t 32)],none⟩]) <|
  .ret) (.skip)) <|
  .seqj [0,1,2,8,9,10] [3] (.seq (.reg [⟨(some 34),.mov (.t 8),none⟩,
    ⟨(some 35),.un .not (.t 34),none⟩]) <|
  .cond (.t 35) (.seq (.reg [⟨(some 36),.mov (.t 0),none⟩,
    ⟨(some 37),.mov (.t 1),none⟩,
    ⟨(some 38),.mov (.t 2),none⟩,
    ⟨(some 39),.call gi [(.t 36),(.t 37),(.t 38)],none⟩]) <|
  .reg [⟨(some 40),.mov (.t 3),none⟩,
    ⟨(some 41),.bin .sub (.t 40) (.c (.int .i64 1)),none⟩,
    ⟨(some 3),.mov (.t 41),none⟩]) (.skip)) <|
  .seq (.reg [⟨(some 43),.mov (.t 0),none⟩,
    ⟨(some 44),.mov (.t 1),none⟩,
    ⟨(some 45),.mov (.t 2),none⟩,
    ⟨(some 46),.call hZ [(.t 43),(.t 44),(.t 45)],none⟩,
    ⟨(some 42),.mov (.t 46),none⟩,
    ⟨(some 47),.ext (.t 42) 0,none⟩,
    ⟨(some 48),.ext (.t 42) 1,none⟩,
    ⟨(some 11),.mov (.t 47),none⟩,
    ⟨(some 12),.mov (.t 48),none⟩]) <|
  .seqj [0,1,2,3,8,9,10] [11,12] (.seq (.reg [⟨(some 49),.mov (.t 12),none⟩,
    ⟨(some 50),.bin .eql (.t 49) (.c (.int .i64 2)),none⟩]) <|
  .cond (.t 50) (.seq (.reg [⟨(some 51),.mov (.t 0),none⟩,
    ⟨(some 52),.mov (.t 1),none⟩,
    ⟨(some 53),.mov (.t 2),none⟩,
    ⟨(some 54),.call gz [(.t 51),(.t 52),(.t 53)],none⟩]) <|
  .seq (.reg [⟨(some 55),.mov (.t 2),none⟩,
    ⟨(some 56),.bin .sub (.t 55) (.c (.int .i64 1)),none⟩,
    ⟨(some 57),.mov (.t 11),none⟩,
    ⟨(some 58),.mov (.t 1),none⟩,
    ⟨(some 59),.bin .sub (.t 57) (.t 58),none⟩,
    ⟨(some 60),.bin .sub (.t 56) (.t 59),none⟩,
    ⟨(some 11),.mov (.t 60),none⟩]) <|
  .reg [⟨(some 12),.mov (.c (.int .i64 1)),none⟩]) (.skip)) <|
  .seqj [0,1,2,3,8,9,10,11] [] (.seq (.reg [⟨(some 61),.mov (.t 8),none⟩,
    ⟨(some 62),.mov (.t 61),none⟩,
    ⟨(some 63),.mov (.t 9),some (62,true)⟩,
    ⟨(some 64),.pick (.t 62) (.t 63) (.c (.bool false)),none⟩,
    ⟨(some 65),.mov (.t 64),none⟩,
    ⟨(some 66),.mov (.t 12),some (65,true)⟩,
    ⟨(some 67),.bin .eql (.t 66) (.c (.int .i64 1)),some (65,true)⟩,
    ⟨(some 68),.pick (.t 65) (.t 67) (.c (.bool false)),none⟩]) <|
  .cond (.t 68) (.seq (.reg [⟨(some 69),.mov (.t 0),none⟩,
    ⟨(some 70),.mov (.t 1),none⟩,
    ⟨(some 71),.mov (.t 2),none⟩,
    ⟨(some 72),.call dZ [(.t 69),(.t 70),(.t 71)],none⟩]) <|
  .cond (.t 72) (.ret) (.skip)) (.skip)) <|
  .seq (.seq (.dreg [⟨(some 73),.mov (.t 1),none⟩,
    ⟨(some 74),.bin .gtr (.t 73) (.c (.int .i64 0)),none⟩,
    ⟨(some 75),.mov (.t 74),none⟩,
    ⟨(some 76),.mov (.t 0),some (75,true)⟩,
    ⟨(some 77),.mov (.t 1),some (75,true)⟩,
    ⟨(some 78),.bin .sub (.t 77) (.c (.int .i64 1)),some (75,true)⟩,
    ⟨(some 79),.iadd (.t 76) (.t 78) 1,some (75,true)⟩,
    ⟨(some 80),.ld (.t 79) 1 false,some (75,true)⟩,
    ⟨(some 81),.mov (.t 0),some (75,true)⟩,
    ⟨(some 82),.mov (.t 11),some (75,true)⟩,
    ⟨(some 83),.iadd (.t 81) (.t 82) 1,some (75,true)⟩,
    ⟨(some 84),.ld (.t 83) 1 false,some (75,true)⟩,
    ⟨(some 85),.call dt [(.t 80),(.t 84)],some (75,true)⟩,
    ⟨(some 86),.un .not (.t 85),some (75,true)⟩,
    ⟨(some 87),.pick (.t 75) (.t 86) (.c (.bool false)),none⟩] [] []) <|
  .cond (.t 87) (.seq (.reg [⟨(some 88),.mov (.t 0),none⟩,
    ⟨(some 89),.mov (.t 1),none⟩,
    ⟨(some 90),.mov (.t 2),none⟩,
    ⟨(some 91),.mov (.t 11),none⟩,
    ⟨(some 92),.call fJ [(.t 88),(.t 89),(.t 90),(.t 91)],none⟩,
    ⟨(some 13),.mov (.t 92),none⟩]) <|
  .seq (.reg [⟨(some 93),.mov (.t 13),none⟩,
    ⟨(some 1),.mov (.t 93),none⟩]) <|
  .exit 1) (.skip)) <|
  .seq (.reg [⟨(some 95),.mov (.t 0),none⟩,
    ⟨(some 96),.mov (.t 1),none⟩,
    ⟨(some 97),.mov (.t 2),none⟩,
    ⟨(some 98),.mov (.t 11),none⟩,
    ⟨(some 99),.call jc [(.t 95),(.t 96),(.t 97),(.t 98)],none⟩,
    ⟨(some 94),.mov (.t 99),none⟩,
    ⟨(some 100),.ext (.t 94) 0,none⟩,
    ⟨(some 101),.ext (.t 94) 1,none⟩,
    ⟨(some 14),.mov (.t 100),none⟩,
    ⟨(some 15),.mov (.t 101),none⟩]) <|
  .seq (.reg [⟨(some 102),.mov (.t 15),none⟩,
    ⟨(some 9),.mov (.t 102),none⟩]) <|
  .seq (.reg [⟨(some 103),.mov (.t 14),none⟩,
    ⟨(some 104),.mov (.t 1),none⟩,
    ⟨(some 105),.bin .sub (.t 103) (.t 104),none⟩,
    ⟨(some 106),.mov (.t 2),none⟩,
    ⟨(some 107),.mov (.t 14),none⟩,
    ⟨(some 108),.bin .sub (.t 106) (.t 107),none⟩,
    ⟨(some 16),.mov (.t 105),none⟩,
    ⟨(some 17),.mov (.t 108),none⟩]) <|
  .seq (.reg [⟨(some 109),.mov (.t 10),none⟩,
    ⟨(some 110),.bin .quo (.t 109) (.c (.int .i64 8)),none⟩,
    ⟨(some 18),.mov (.t 110),none⟩]) <|
  .seq (.reg [⟨(some 111),.mov (.t 16),none⟩,
    ⟨(some 112),.mov (.t 17),none⟩,
    ⟨(some 113),.bin .lss (.t 111) (.t 112),none⟩]) <|
  .cond (.t 113) (.seq (.reg [⟨(some 114),.mov (.t 16),none⟩,
    ⟨(some 115),.mov (.t 18),none⟩,
    ⟨(some 116),.bin .geq (.t 114) (.t 115),none⟩,
    ⟨(some 8),.mov (.t 116),none⟩]) <|
  .seq (.reg [⟨(some 117),.mov (.t 0),none⟩,
    ⟨(some 118),.mov (.t 1),none⟩,
    ⟨(some 119),.mov (.t 14),none⟩,
    ⟨(some 120),.mov (.t 3),none⟩,
    ⟨(some 121),.call bH [(.t 117),(.t 118),(.t 119),(.t 120)],none⟩]) <|
  .reg [⟨(some 122),.mov (.t 14),none⟩,
    ⟨(some 123),.bin .add (.t 122) (.c (.int .i64 1)),none⟩,
    ⟨(some 1),.mov (.t 123),none⟩]) (.seq (.reg [⟨(some 124),.mov (.t 17),none⟩,
    ⟨(some 125),.mov (.t 18),none⟩,
    ⟨(some 126),.bin .geq (.t 124) (.t 125),none⟩,
    ⟨(some 8),.mov (.t 126),none⟩]) <|
  .seq (.reg [⟨(some 127),.mov (.t 0),none⟩,
    ⟨(some 128),.mov (.t 14),none⟩,
    ⟨(some 129),.bin .add (.t 128) (.c (.int .i64 1)),none⟩,
    ⟨(some 130),.mov (.t 2),none⟩,
    ⟨(some 131),.mov (.t 3),none⟩,
    ⟨(some 132),.call bH [(.t 127),(.t 129),(.t 130),(.t 131)],none⟩]) <|
  .reg [⟨(some 133),.mov (.t 14),none⟩,
    ⟨(some 2),.mov (.t 133),none⟩])))),
  []⟩
theorem iK:cFn PP true bH ic (cDr PP 134 iV)=some eg:=by kernel_rfl
def rN:Nat->Option (List Nat×List Nat)
  | _=>none
def ua:Nat->Option (List Nat×List Nat×List Nat)
  | _=>none
def o6:aA:=⟨8,
  .seq (.reg [⟨(some 2),.mov (.c (.int .i64 0)),none⟩]) <|
  .seq (.cond (.c (.bool false)) (.seq (.reg [⟨(some 3),.mov (.t 0),none⟩,
    ⟨(some 4),.conv .u32 (.t 3),none⟩,
    ⟨(some 5),.call uq [(.t 4)],none⟩,
    ⟨(some 2),.mov (.t 5),none⟩]) <|
  .ret) (.skip)) <|
  .seq (.reg [⟨(some 6),.mov (.t 0),none⟩,
    ⟨(some 7),.call ll [(.t 6)],none⟩,
    ⟨(some 2),.mov (.t 7),none⟩]) <|
  .ret,
  [.t 2]⟩
theorem tL:cFn PP true oD rN (cDr PP 8 ua)=some o6:=by kernel_rfl
def uA:Nat->Option (List Nat×List Nat)
  | _=>none
def xq:Nat->Option (List Nat×List Nat×List Nat)
  | 1=>some ([0,0,2,6,14,30,63,127,255],[4,6],[999999])|_=>none
def sK:aA:=⟨11,
  .seq (.reg [⟨(some 1),.box (.t 0),none⟩,
    ⟨(some 2),.mov (.c .nil),none⟩]) <|
  .seq (.seq (.dreg [⟨(some 3),.ld (.t 1) 8 true,none⟩,
    ⟨(some 4),.fadd (.t 1) 7,none⟩,
    ⟨(some 5),.ld (.t 4) 1 false,none⟩,
    ⟨(some 6),.len (.t 5),none⟩] [⟨(some 7),.mk 1 1 (.bool false) (.t 6) (.t 6),none⟩] [⟨(some 3),.ld (.t 1) 8 true,none⟩]) <|
  .seq (.dreg [⟨(some 8),.bld [.nil,.nil] [(0,1,(.t 7))],none⟩] [⟨(some 9),.call lY [(.t 3),(.t 8),(.c (.int .i64 0))],none⟩] []) <|
  .dreg [⟨(some 10),.fld (.t 9) 1 1 false,none⟩,
    ⟨(some 2),.mov (.t 10),none⟩] [] []) <|
  .ret,
  [.t 2]⟩
theorem wD:cFn PP true sk uA (cDr PP 11 xq)=some sK:=by kernel_rfl
def rQ:Nat->Option (List Nat×List Nat)
  | _=>none
def ud:Nat->Option (List Nat×List Nat×List Nat)
  | _=>none
def fH:aA:=⟨6,
  .seq (.reg [⟨(some 2),.mov (.c (.bool false)),none⟩]) <|
  .seq (.reg [⟨(some 3),.mov (.t 0),none⟩,
    ⟨(some 4),.mov (.t 0),none⟩,
    ⟨(some 5),.bin .neq (.t 3) (.t 4),none⟩,
    ⟨(some 2),.mov (.t 5),none⟩]) <|
  .ret,
  [.t 2]⟩
theorem kX:cFn PP true cM rQ (cDr PP 6 ud)=some fH:=by kernel_rfl
def oW (a0:D) (h0:Heap) (K:D->Heap->Prop):Prop :=
  vbin .neq a0 a0 fun a2 =>
  K a2 h0
theorem tF (a0:D) (h0:Heap) (K:D->Heap->Prop):oW a0 h0 K=vcC PP fH.code (fun x e h'=>match x with|.exit _=>False|.pan=>False|.jump _=>False|_=>bp PP fH.res K e h') (params [a0] 0) h0:=by kernel_rfl
end Go.Am
