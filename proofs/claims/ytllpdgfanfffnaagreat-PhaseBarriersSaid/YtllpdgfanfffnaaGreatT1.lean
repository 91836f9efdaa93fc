/- The texts of the functions of this chapter, as the abstract machine has them. No condition. -/
import Derived.Test.YtllpdgfanfffnaaGreatProg
import Derived.KernelRfl
import Derived.Test.YtllpdgfanfffnaaGreatA3
set_option linter.unnecessarySimpa false
set_option linter.defProp false
set_option linter.unusedSectionVars false
set_option linter.unusedSimpArgs false
set_option linter.unusedVariables false
namespace Go.Am
open Go Go.Proofs
noncomputable abbrev PP:Program:=Tryz.prog
abbrev dN:FuncId:=6
abbrev ew:FuncId:=8
abbrev dY:FuncId:=9
abbrev ju:FuncId:=10
abbrev bD:FuncId:=12
abbrev mb:FuncId:=15
abbrev ma:FuncId:=17
abbrev fo:FuncId:=18
abbrev il:FuncId:=20
abbrev uz:FuncId:=22
abbrev bM:FuncId:=23
abbrev mc:FuncId:=27
abbrev dZ:FuncId:=28
abbrev iR:FuncId:=30
abbrev jv:FuncId:=31
abbrev ah:FuncId:=32
abbrev gj:FuncId:=33
abbrev bP:FuncId:=34
abbrev bK:FuncId:=35
abbrev aN:FuncId:=36
abbrev aK:FuncId:=37
abbrev aG:FuncId:=38
abbrev bl:FuncId:=39
abbrev et:FuncId:=40
abbrev aR:FuncId:=41
abbrev aB:FuncId:=42
abbrev aM:FuncId:=43
abbrev p6:FuncId:=44
abbrev cE:FuncId:=47
abbrev pZ:FuncId:=48
abbrev ly:FuncId:=49
abbrev g9:FuncId:=50
abbrev jK:FuncId:=51
abbrev db:FuncId:=52
abbrev mM:FuncId:=55
abbrev aJ:FuncId:=56
abbrev aW:FuncId:=58
abbrev eS:FuncId:=59
abbrev bI:FuncId:=60
abbrev aw:FuncId:=61
abbrev cj:FuncId:=62
abbrev dA:FuncId:=63
abbrev gi:FuncId:=65
abbrev eU:FuncId:=66
abbrev eT:FuncId:=67
abbrev sj:FuncId:=68
abbrev cI:FuncId:=70
abbrev kU:FuncId:=71
abbrev p5:FuncId:=72
abbrev jt:FuncId:=73
abbrev ik:FuncId:=74
abbrev de:FuncId:=75
abbrev sk:FuncId:=76
abbrev uA:FuncId:=77
abbrev nX:FuncId:=78
abbrev gk:FuncId:=79
abbrev jJ:FuncId:=80
abbrev mL:FuncId:=81
abbrev nW:FuncId:=82
abbrev bU:FuncId:=83
abbrev bm:FuncId:=84
abbrev cb:FuncId:=85
abbrev bx:FuncId:=87
abbrev mO:FuncId:=88
abbrev p0:FuncId:=89
abbrev iS:FuncId:=90
abbrev dK:FuncId:=91
abbrev jI:FuncId:=92
abbrev eR:FuncId:=93
abbrev wV:FuncId:=94
abbrev lx:FuncId:=95
abbrev uD:FuncId:=96
abbrev l9:FuncId:=97
abbrev bj:FuncId:=98
abbrev ku:FuncId:=99
abbrev cx:FuncId:=100
abbrev iQ:FuncId:=101
abbrev fU:FuncId:=102
abbrev gM:FuncId:=103
abbrev gh:FuncId:=104
abbrev dM:FuncId:=105
abbrev fy:FuncId:=106
abbrev iy:FuncId:=107
abbrev so:FuncId:=108
abbrev ky:FuncId:=109
abbrev kT:FuncId:=110
abbrev wU:FuncId:=111
abbrev mP:FuncId:=112
abbrev uC:FuncId:=113
abbrev eM:FuncId:=114
abbrev qJ:FuncId:=115
abbrev br:FuncId:=116
abbrev jL:FuncId:=122
abbrev uB:FuncId:=123
abbrev fA:FuncId:=124
abbrev cP:FuncId:=125
abbrev hO:FuncId:=126
abbrev nY:FuncId:=127
abbrev kz:FuncId:=129
abbrev eL:FuncId:=130
abbrev mN:FuncId:=131
abbrev sm:FuncId:=132
abbrev kx:FuncId:=133
def fq:Option av->ACode
  | some F=>F.code
  | none=>.skip
end Go.Am
namespace Go.Am
open Go Go.Proofs
def eN:Nat->Option (List Nat×List Nat)
  | _=>none
def fJ:Nat->Option (List Nat×List Nat×List Nat)
  | 4=>some ([0,1,0,4,15,0,63],[1,4,5,6],[999998,2])|_=>none
noncomputable def dO:av:=⟨54,fq (cFn PP true dN eN (cDr PP 54 fJ)),
  [.t 6]⟩
theorem kZ:cFn PP true dN eN (cDr PP 54 fJ)=some dO:=by kernel_rfl
def gW (a0:D) (a1:D) (a2:D) (h0:Heap) (K:D->Heap->Prop):Prop :=
  aa PP (.box (.c a0)) h0 fun a4 h5 =>
  aa PP (.box (.c a1)) h5 fun a6 h7 =>
  aa PP (.box (.c a2)) h7 fun a8 h9 =>
  ae PP ew [] h9 fun a10 h11 =>
  vun .not a10 fun a12 =>
  vcond a12 (K (.bool false) h11) (
  af PP (.ld (.c a4) 1 true) h11 fun a13 =>
  af PP (.iadda (.c a6) (.c (.int .i64 0)) 2 1) h11 fun a14 =>
  af PP (.ld (.c a14) 1 false) h11 fun a15 =>
  ae PP ju [a13] h11 fun a16 h17 =>
  ((af PP (.iadda (.c a6) (.c (.int .i64 0)) 2 1) h17 fun a18=>bw [a18] [a14])/\(af PP (.ld (.c a14) 1 false) h17 fun a19=>bw [a19] [a15])/\True) /\
  ae PP dY [a16,a15] h17 fun a20 h21 =>
  aa PP (.alloc (.agg [(.int .i64 0),(.int .i64 0),(.int .i64 0),(.int .i64 0),(.int .i64 0),.nil,.nil,.nil])) h21 fun a22 h23 =>
  ((af PP (.ld (.c a4) 1 true) h23 fun a24=>bw [a24] [a13])/\(af PP (.iadda (.c a6) (.c (.int .i64 0)) 2 1) h23 fun a25=>bw [a25] [a14])/\(af PP (.ld (.c a14) 1 false) h23 fun a26=>bw [a26] [a15])/\True) /\
  aa PP (.st (.c a22) (.c a20) 8) h23 fun a27 h28 =>
  aa PP (.ld (.c a22) 8 true) h28 fun a29 h30 =>
  aa PP (.iadda (.c a6) (.c (.int .i64 1)) 2 1) h30 fun a31 h32 =>
  aa PP (.ld (.c a31) 1 false) h32 fun a33 h34 =>
  ae PP dY [a29,a33] h34 fun a35 h36 =>
  aa PP (.alloc (.agg [(.int .i64 0),(.int .i64 0),(.int .i64 0),(.int .i64 0),(.int .i64 0),.nil,.nil,.nil])) h36 fun a37 h38 =>
  aa PP (.st (.c a37) (.c a35) 8) h38 fun a39 h40 =>
  aa PP (.iadda (.c a8) (.c (.int .i64 0)) 2 1) h40 fun a41 h42 =>
  aa PP (.ld (.c a41) 1 false) h42 fun a43 h44 =>
  aa PP (.conv .i64 (.c a43)) h44 fun a45 h46 =>
  aa PP (.fadd (.c a22) 7) h46 fun a47 h48 =>
  aa PP (.ld (.c a47) 1 false) h48 fun a49 h50 =>
  cN a49 h50 fun a51 =>
  vbin .rem a45 a51 fun a52 =>
  aa PP (.iadda (.c a8) (.c (.int .i64 1)) 2 1) h50 fun a53 h54 =>
  aa PP (.ld (.c a53) 1 false) h54 fun a55 h56 =>
  aa PP (.conv .i64 (.c a55)) h56 fun a57 h58 =>
  aa PP (.fadd (.c a22) 7) h58 fun a59 h60 =>
  aa PP (.ld (.c a59) 1 false) h60 fun a61 h62 =>
  cN a61 h62 fun a63 =>
  vbin .rem a57 a63 fun a64 =>
  vguard a10 true (fun G65 =>
  aa PP (.ld (.c a37) 8 true) h62 fun a68 h69 =>
  G65 a68 h69) h62 fun a66 h67 =>
  vguard a10 true (fun G70 =>
  ae PP bD [a66] h67 fun a73 h74 =>
  G70 a73 h74) h67 fun a71 h72 =>
  vguard a10 true (fun G75 =>
  G75 a52 h72) h72 fun a76 h77 =>
  vguard a10 true (fun G78 =>
  G78 a64 h77) h77 fun a79 h80 =>
  vguard a10 true (fun G81 =>
  ae PP bM [a71,a76,a79] h80 fun a84 h85 =>
  G81 a84 h85) h80 fun a82 h83 =>
  vguard a10 true (fun G86 =>
  vun .not a82 fun a89 =>
  G86 a89 h83) h83 fun a87 h88 =>
  vguard a10 true (fun G90 =>
  G90 a87 h88) h88 fun a91 h92 =>
  vguard a91 false (fun G93 =>
  aa PP (.ld (.c a22) 8 true) h92 fun a96 h97 =>
  G93 a96 h97) h92 fun a94 h95 =>
  vguard a91 false (fun G98 =>
  ae PP bD [a94] h95 fun a101 h102 =>
  G98 a101 h102) h95 fun a99 h100 =>
  vguard a91 false (fun G103 =>
  G103 a52 h100) h100 fun a104 h105 =>
  vguard a91 false (fun G106 =>
  G106 a64 h105) h105 fun a107 h108 =>
  vguard a91 false (fun G109 =>
  ae PP bM [a99,a104,a107] h108 fun a112 h113 =>
  G109 a112 h113) h108 fun a110 h111 =>
  vguard a10 true (fun G114 =>
  aa PP (.pick (.c a91) (.c (.bool true)) (.c a110)) h111 fun a117 h118 =>
  G114 a117 h118) h111 fun a115 h116 =>
  aa PP (.pick (.c a10) (.c a115) (.c (.bool false))) h116 fun a119 h120 =>
  K a119 h120)
theorem kX (a0:D) (a1:D) (a2:D) (h0:Heap) (K:D->Heap->Prop):gW a0 a1 a2 h0 K=vcC PP dO.code (fun x e h'=>match x with|.exit _=>False|.pan=>False|.jump _=>False|_=>bO PP dO.res K e h') (params [a0,a1,a2] 0) h0:=by kernel_rfl
def oj:Nat->Option (List Nat×List Nat)
  | 6000008=>some ([],[])|_=>none
def qD:Nat->Option (List Nat×List Nat×List Nat)
  | 7=>some ([0,0,2,7,15,31,63,63,191,511,1023,2047,4095,8191,8191,32767,65535,131071],[],[])|_=>none
def lS:av:=⟨76,
  .seq (.reg [⟨(some 0),.mov (.c (.bool false)),none⟩]) <|
  .seq (.reg [⟨(some 5),.call iR [(.c (.int .i64 3)),(.c (.bool false))],none⟩,
    ⟨(some 1),.alloc (.agg [(.int .i64 0),(.int .i64 0),(.int .i64 0),(.int .i64 0),(.int .i64 0),.nil,.nil,.nil]),none⟩,
    ⟨none,.st (.t 1) (.t 5) 8,none⟩]) <|
  .seq (.reg [⟨(some 6),.call iR [(.c (.int .i64 2)),(.c (.bool true))],none⟩,
    ⟨(some 2),.alloc (.agg [(.int .i64 0),(.int .i64 0),(.int .i64 0),(.int .i64 0),(.int .i64 0),.nil,.nil,.nil]),none⟩,
    ⟨none,.st (.t 2) (.t 6) 8,none⟩]) <|
  .seq (.reg [⟨(some 7),.ld (.t 1) 8 true,none⟩,
    ⟨(some 8),.call bD [(.t 7)],none⟩,
    ⟨(some 3),.alloc (.agg [.nil,.nil]),none⟩,
    ⟨none,.st (.t 3) (.t 8) 2,none⟩]) <|
  .seq (.reg [⟨(some 9),.ld (.t 2) 8 true,none⟩,
    ⟨(some 10),.call bD [(.t 9)],none⟩,
    ⟨(some 4),.alloc (.agg [.nil,.nil]),none⟩,
    ⟨none,.st (.t 4) (.t 10) 2,none⟩]) <|
  .seq (.seq (.reg [⟨(some 11),.ld (.t 1) 8 true,none⟩,
    ⟨(some 12),.ld (.t 3) 2 true,none⟩,
    ⟨(some 13),.call fo [(.t 11),(.t 12)],none⟩,
    ⟨(some 14),.bin .neq (.t 13) (.c (.int .i64 0)),none⟩,
    ⟨(some 15),.mov (.t 14),none⟩,
    ⟨(some 16),.ld (.t 2) 8 true,some (15,false)⟩,
    ⟨(some 17),.ld (.t 3) 2 true,some (15,false)⟩,
    ⟨(some 18),.call fo [(.t 16),(.t 17)],some (15,false)⟩,
    ⟨(some 19),.bin .neq (.t 18) (.c (.int .i64 0)),some (15,false)⟩,
    ⟨(some 20),.pick (.t 15) (.c (.bool true)) (.t 19),none⟩,
    ⟨(some 21),.mov (.t 20),none⟩,
    ⟨(some 22),.ld (.t 1) 8 true,some (21,false)⟩,
    ⟨(some 23),.ld (.t 4) 2 true,some (21,false)⟩,
    ⟨(some 24),.call fo [(.t 22),(.t 23)],some (21,false)⟩,
    ⟨(some 25),.bin .neq (.t 24) (.c (.int .i64 100)),some (21,false)⟩,
    ⟨(some 26),.pick (.t 21) (.c (.bool true)) (.t 25),none⟩,
    ⟨(some 27),.mov (.t 26),none⟩,
    ⟨(some 28),.ld (.t 1) 8 true,some (27,false)⟩,
    ⟨(some 29),.bld [.nil,.nil] [],some (27,false)⟩,
    ⟨(some 30),.call fo [(.t 28),(.t 29)],some (27,false)⟩,
    ⟨(some 31),.bin .neq (.t 30) (.c (.int .i64 100)),some (27,false)⟩,
    ⟨(some 32),.pick (.t 27) (.c (.bool true)) (.t 31),none⟩]) <|
  .cond (.t 32) (.seq (.reg [⟨(some 0),.mov (.c (.bool false)),none⟩]) <|
  .ret) (.skip)) <|
  .seq (.seq (.frz (.dreg [⟨(some 33),.ld (.t 1) 8 true,none⟩,
    ⟨(some 34),.ld (.t 1) 8 true,none⟩,
    ⟨(some 35),.call mb [(.t 34)],none⟩,
    ⟨(some 36),.call il [(.t 33),(.t 35)],none⟩,
    ⟨(some 37),.bin .neq (.t 36) (.c (.int .i64 0)),none⟩,
    ⟨(some 38),.mov (.t 37),none⟩,
    ⟨(some 39),.ld (.t 2) 8 true,some (38,false)⟩,
    ⟨(some 40),.ld (.t 2) 8 true,some (38,false)⟩,
    ⟨(some 41),.call mb [(.t 40)],some (38,false)⟩,
    ⟨(some 42),.call il [(.t 39),(.t 41)],some (38,false)⟩,
    ⟨(some 43),.bin .neq (.t 42) (.c (.int .i64 90)),some (38,false)⟩,
    ⟨(some 44),.pick (.t 38) (.c (.bool true)) (.t 43),none⟩,
    ⟨(some 45),.mov (.t 44),none⟩,
    ⟨(some 46),.ld (.t 1) 8 true,some (45,false)⟩,
    ⟨(some 47),.bld [.nil,.nil] [],some (45,false)⟩,
    ⟨(some 48),.call il [(.t 46),(.t 47)],some (45,false)⟩,
    ⟨(some 49),.bin .neq (.t 48) (.c (.int .i64 100)),some (45,false)⟩,
    ⟨(some 50),.pick (.t 45) (.c (.bool true)) (.t 49),none⟩] [] [])) <|
  .cond (.t 50) (.seq (.reg [⟨(some 0),.mov (.c (.bool false)),none⟩]) <|
  .ret) (.skip)) <|
  .seq (.reg [⟨(some 51),.ld (.t 3) 2 true,none⟩,
    ⟨(some 52),.bldS true 1 2 (.int .i64 0) [(0,(.c (.int .i64 0))),(1,(.c (.int .i64 1)))],none⟩,
    ⟨(some 53),.bldS true 1 4 (.int .i64 0) [(0,(.c (.int .i64 0))),(1,(.c (.int .i64 1))),(2,(.c (.int .i64 2))),(3,(.c (.int .i64 3)))],none⟩,
    ⟨(some 54),.bldS true 1 3 (.int .i64 0) [(0,(.c (.int .i64 1))),(1,(.c (.int .i64 2))),(2,(.c (.int .i64 3)))],none⟩,
    ⟨(some 55),.bldS true 1 2 .nil [(0,(.t 53)),(1,(.t 54))],none⟩,
    ⟨(some 56),.bld [.nil,.nil] [(0,1,(.t 52)),(1,1,(.t 55))],none⟩,
    ⟨(some 57),.call ma [(.t 51),(.t 56)],none⟩,
    ⟨(some 58),.mov (.t 57),none⟩,
    ⟨(some 59),.ld (.t 4) 2 true,some (58,true)⟩,
    ⟨(some 60),.bldS true 1 2 (.int .i64 0) [(0,(.c (.int .i64 0))),(1,(.c (.int .i64 1)))],some (58,true)⟩,
    ⟨(some 61),.bldS true 1 1 (.int .i64 0) [(0,(.c (.int .i64 0)))],some (58,true)⟩,
    ⟨(some 62),.bldS true 1 3 (.int .i64 0) [(0,(.c (.int .i64 1))),(1,(.c (.int .i64 2))),(2,(.c (.int .i64 3)))],some (58,true)⟩,
    ⟨(some 63),.bldS true 1 2 .nil [(0,(.t 61)),(1,(.t 62))],some (58,true)⟩,
    ⟨(some 64),.bld [.nil,.nil] [(0,1,(.t 60)),(1,1,(.t 63))],some (58,true)⟩,
    ⟨(some 65),.call ma [(.t 59),(.t 64)],some (58,true)⟩,
    ⟨(some 66),.pick (.t 58) (.t 65) (.c (.bool false)),none⟩,
    ⟨(some 67),.mov (.t 66),none⟩,
    ⟨(some 68),.ld (.t 3) 2 true,some (67,true)⟩,
    ⟨(some 69),.call bM [(.t 68),(.c (.int .i64 0)),(.c (.int .i64 3))],some (67,true)⟩,
    ⟨(some 70),.pick (.t 67) (.t 69) (.c (.bool false)),none⟩,
    ⟨(some 71),.mov (.t 70),none⟩,
    ⟨(some 72),.ld (.t 4) 2 true,some (71,true)⟩,
    ⟨(some 73),.call bM [(.t 72),(.c (.int .i64 0)),(.c (.int .i64 3))],some (71,true)⟩,
    ⟨(some 74),.un .not (.t 73),some (71,true)⟩,
    ⟨(some 75),.pick (.t 71) (.t 74) (.c (.bool false)),none⟩,
    ⟨(some 0),.mov (.t 75),none⟩]) <|
  .ret,
  [.t 0]⟩
theorem pS:cFn PP true ew oj (cDr PP 76 qD)=some lS:=by kernel_rfl
def jN:Nat->Option (List Nat×List Nat)
  | 1000008=>some ([4,5],[])|3=>some ([1,4,5],[6])|1000005=>some ([1,4,5,6],[])|_=>none
def lj:Nat->Option (List Nat×List Nat×List Nat)
  | _=>none
noncomputable def jY:av:=⟨40,fq (cFn PP true dY jN (cDr PP 40 lj)),
  [.cell 4 8 true]⟩
theorem s7:cFn PP true dY jN (cDr PP 40 lj)=some jY:=by kernel_rfl
def kG (h14:Heap) (a11:D) (a1:D) (a5:D) (J15:List D->Heap->Prop):Prop :=
  ∃(I23:Nat->List D->Heap->Prop) (n₀:Nat),I23 n₀ [(.int .i64 0)] h14/\∀(n24:Nat) (f25:Nat->D) (h26:Heap),I23 n24 [f25 6] h26 ->
  aa PP (.fadd (.c a11) 7) h26 fun a27 h28 =>
  aa PP (.ld (.c a27) 1 false) h28 fun a29 h30 =>
  cN a29 h30 fun a31 =>
  vbin .lss (f25 6) a31 fun a32 =>
  vcond a32 (∃(J33:List D->Heap->Prop),(∀(f34:Nat->D) (h35:Heap),J33 [] h35 ->
  vbin .add (f25 6) (.int .i64 1) fun a36 =>
  bw [a1,a5,a11] [a1,a5,a11]/\∃m,m<n24/\I23 m [a36] h35) /\
  vbin .rem (f25 6) (.int .i64 32) fun a37 =>
  aa PP (.conv .u64 (.c a37)) h30 fun a38 h39 =>
  vbin .shr a1 a38 fun a40 =>
  vbin .and a40 (.int .u32 1) fun a41 =>
  vbin .eql a41 (.int .u32 1) fun a42 =>
  vguard a42 true (fun G43 =>
  aa PP (.fadd (.c a11) 7) h39 fun a46 h47 =>
  G43 a46 h47) h39 fun a44 h45 =>
  vguard a42 true (fun G48 =>
  aa PP (.ld (.c a44) 1 false) h45 fun a51 h52 =>
  G48 a51 h52) h45 fun a49 h50 =>
  vguard a42 true (fun G53 =>
  G53 (f25 6) h50) h50 fun a54 h55 =>
  vguard a42 true (fun G56 =>
  aa PP (.iadd (.c a49) (.c a54) 14) h55 fun a59 h60 =>
  G56 a59 h60) h55 fun a57 h58 =>
  vguard a42 true (fun G61 =>
  aa PP (.fadd (.c a57) 1) h58 fun a64 h65 =>
  G61 a64 h65) h58 fun a62 h63 =>
  vguard a42 true (fun G66 =>
  aa PP (.fadd (.c a62) 0) h63 fun a69 h70 =>
  G66 a69 h70) h63 fun a67 h68 =>
  vguard a42 true (fun G71 =>
  aa PP (.ld (.c a67) 1 false) h68 fun a74 h75 =>
  G71 a74 h75) h68 fun a72 h73 =>
  vguard a42 true (fun G76 =>
  vbin .eql a72 (.int .i64 1) fun a79 =>
  G76 a79 h73) h73 fun a77 h78 =>
  aa PP (.pick (.c a42) (.c a77) (.c (.bool false))) h78 fun a80 h81 =>
  vcond a80 (aa PP (.fadd (.c a11) 7) h81 fun a82 h83 =>
  aa PP (.ld (.c a82) 1 false) h83 fun a84 h85 =>
  aa PP (.iadd (.c a84) (.c (f25 6)) 14) h85 fun a86 h87 =>
  aa PP (.fadd (.c a86) 1) h87 fun a88 h89 =>
  aa PP (.fadd (.c a88) 0) h89 fun a90 h91 =>
  aa PP (.st (.c a90) (.c (.int .i64 3)) 1) h91 fun a92 h93 =>
  bw [a1,a5,a11,(f25 6)] [a1,a5,a11,(f25 6)]/\J33 [] h93) (
  bw [a1,a5,a11,(f25 6)] [a1,a5,a11,(f25 6)]/\J33 [] h81)) (
  bw [a5,a11] [a5,a11]/\J15 [] h30)
def oJ (a0:D) (a1:D) (h0:Heap) (K:D->Heap->Prop):Prop :=
  aa PP (.box (.c a0)) h0 fun a3 h4 =>
  aa PP (.alloc (.agg [(.int .i64 0),(.int .i64 0),(.int .i64 0),(.int .i64 0),(.int .i64 0),.nil,.nil,.nil])) h4 fun a5 h6 =>
  aa PP (.ld (.c a3) 8 true) h6 fun a7 h8 =>
  ae PP jv [a7] h8 fun a9 h10 =>
  aa PP (.alloc (.agg [(.int .i64 0),(.int .i64 0),(.int .i64 0),(.int .i64 0),(.int .i64 0),.nil,.nil,.nil])) h10 fun a11 h12 =>
  aa PP (.st (.c a11) (.c a9) 8) h12 fun a13 h14 =>
  ∃(J15:List D->Heap->Prop),(∀(f16:Nat->D) (h17:Heap),J15 [] h17 ->
  aa PP (.ld (.c a11) 8 true) h17 fun a18 h19 =>
  aa PP (.st (.c a5) (.c a18) 8) h19 fun a20 h21 =>
  aa PP (.ld (.c a5) 8 true) h21 fun a22 _ =>
  K a22 h21) /\
  kG h14 a11 a1 a5 J15
theorem sP (a0:D) (a1:D) (h0:Heap) (K:D->Heap->Prop):oJ a0 a1 h0 K=vcC PP jY.code (fun x e h'=>match x with|.exit _=>False|.pan=>False|.jump _=>False|_=>bO PP jY.res K e h') (params [a0,a1] 0) h0:=by kernel_rfl
def lB:Nat->Option (List Nat×List Nat)
  | 1000008=>some ([2,3],[])|4=>some ([2,3],[4])|1000019=>some ([2,3],[])|8=>some ([2,3],[5])|1000010=>some ([2,3,5],[])|1000015=>some ([2,3,5],[])|1000024=>some ([2,3],[])|_=>none
def nN:Nat->Option (List Nat×List Nat×List Nat)
  | 2=>some ([0,0,0,4,12,30,62,12,254,511,1023,2047],[3,11],[999999])|4=>some ([0,1,3,7,15,31,63,127,7,263,775,1799,3847,7943,16383,32767,65535],[],[])|17=>some ([0,1,3,7,15,0,0,64,192,448,0,1216,0,7360,0,31936,0,65536,196608,524224,1048575,2097151,4194303],[7,11,13,15,22],[999999])|23=>some ([0,1,3,7,15,0,32,96,224,480,992,2016,0,8191,16383,32767],[15],[])|_=>none
noncomputable def mE:av:=⟨153,fq (cFn PP true ju lB (cDr PP 153 nN)),
  [.cell 2 8 true]⟩
theorem vJ:cFn PP true ju lB (cDr PP 153 nN)=some mE:=by kernel_rfl
def iY (a76:D) (h75:Heap) (a4:D) (a12:D) (J29:List D->Heap->Prop):Prop :=
  ∃(I77:Nat->List D->Heap->Prop) (n₀:Nat),I77 n₀ [a76] h75/\∀(n78:Nat) (f79:Nat->D) (h80:Heap),I77 n78 [f79 5] h80 ->
  vbin .gtr (f79 5) (.int .i64 0) fun a81 =>
  vcond a81 (∃(J82:List D->Heap->Prop),(∀(f83:Nat->D) (h84:Heap),J82 [] h84 ->
  vbin .sub (f79 5) (.int .i64 1) fun a85 =>
  bw [a4,a12] [a4,a12]/\∃m,m<n78/\I77 m [a85] h84) /\
  ae PP ah [a12] h80 fun a86 h87 =>
  vbin .rem a86 (.int .i64 3) fun a88 =>
  ae PP bP [a12,a88] h87 fun a89 h90 =>
  ∃(J91:List D->Heap->Prop),(∀(f92:Nat->D) (h93:Heap),J91 [] h93 ->
  aa PP (.fadd (.c a12) 0) h93 fun a94 h95 =>
  aa PP (.fadd (.c a94) 2) h95 fun a96 h97 =>
  aa PP (.fadd (.c a96) 7) h97 fun a98 h99 =>
  aa PP (.ld (.c a98) 1 false) h99 fun a100 h101 =>
  cN a100 h101 fun a102 =>
  vbin .sub a102 (.int .i64 1) fun a103 =>
  aa PP (.fadd (.c a12) 0) h101 fun a104 h105 =>
  aa PP (.fadd (.c a104) 2) h105 fun a106 h107 =>
  aa PP (.fadd (.c a106) 7) h107 fun a108 h109 =>
  aa PP (.ld (.c a108) 1 false) h109 fun a110 h111 =>
  vbin .add a103 (.int .i64 1) fun a112 =>
  aa PP (.bld [(.int .i64 0),(.int .i64 0)] [(0,1,(.c a112)),(1,1,(.c (.int .i64 0)))]) h111 fun a113 h114 =>
  aa PP (.bld [(.int .i64 0),(.int .i64 0),(.int .i64 0),(.int .i64 0),(.int .i32 0),(.int .i64 0),(.int .i64 0),(.int .i32 0),(.int .i64 0),(.int .i64 0),(.int .i32 0),(.int .i64 0),(.int .i64 0)] [(0,1,(.c (.int .i64 3))),(11,2,(.c a113))]) h114 fun a115 h116 =>
  aa PP (.iadd (.c a110) (.c a103) 14) h116 fun a117 h118 =>
  aa PP (.fadd (.c a117) 1) h118 fun a119 h120 =>
  aa PP (.st (.c a119) (.c a115) 13) h120 fun a121 h122 =>
  ae PP ah [a12] h122 fun a123 h124 =>
  vbin .rem a123 (.int .i64 3) fun a125 =>
  vbin .eql a125 (.int .i64 0) fun a126 =>
  vcond a126 (af PP (.fadd (.c a12) 0) h124 fun a127 =>
  af PP (.fadd (.c a127) 2) h124 fun a128 =>
  af PP (.fadd (.c a128) 7) h124 fun a129 =>
  af PP (.ld (.c a129) 1 false) h124 fun a130 =>
  vbin .add a103 (.int .i64 1) fun a131 =>
  af PP (.bld [(.int .i64 0),(.int .i64 0)] [(0,1,(.c a131)),(1,1,(.c (.int .i64 0)))]) h124 fun a132 =>
  ae PP ah [a12] h124 fun a133 h134 =>
  ((af PP (.fadd (.c a12) 0) h134 fun a135=>bw [a135] [a127])/\(af PP (.fadd (.c a127) 2) h134 fun a136=>bw [a136] [a128])/\(af PP (.fadd (.c a128) 7) h134 fun a137=>bw [a137] [a129])/\(af PP (.ld (.c a129) 1 false) h134 fun a138=>bw [a138] [a130])/\True) /\
  vbin .rem a133 (.int .i64 6) fun a139 =>
  vbin .add (.int .i64 1) a139 fun a140 =>
  ae PP aK [a12] h134 fun a141 h142 =>
  ((af PP (.fadd (.c a12) 0) h142 fun a143=>bw [a143] [a127])/\(af PP (.fadd (.c a127) 2) h142 fun a144=>bw [a144] [a128])/\(af PP (.fadd (.c a128) 7) h142 fun a145=>bw [a145] [a129])/\(af PP (.ld (.c a129) 1 false) h142 fun a146=>bw [a146] [a130])/\True) /\
  ae PP aG [a12] h142 fun a147 h148 =>
  ((af PP (.fadd (.c a12) 0) h148 fun a149=>bw [a149] [a127])/\(af PP (.fadd (.c a127) 2) h148 fun a150=>bw [a150] [a128])/\(af PP (.fadd (.c a128) 7) h148 fun a151=>bw [a151] [a129])/\(af PP (.ld (.c a129) 1 false) h148 fun a152=>bw [a152] [a130])/\True) /\
  ae PP aG [a12] h148 fun a153 h154 =>
  ((af PP (.fadd (.c a12) 0) h154 fun a155=>bw [a155] [a127])/\(af PP (.fadd (.c a127) 2) h154 fun a156=>bw [a156] [a128])/\(af PP (.fadd (.c a128) 7) h154 fun a157=>bw [a157] [a129])/\(af PP (.ld (.c a129) 1 false) h154 fun a158=>bw [a158] [a130])/\True) /\
  af PP (.bld [(.int .i64 0),(.int .i64 0),(.int .i64 0),(.int .i64 0),(.int .i32 0),(.int .i64 0),(.int .i64 0),(.int .i32 0),(.int .i64 0),(.int .i64 0),(.int .i32 0),(.int .i64 0),(.int .i64 0)] [(0,1,(.c (.int .i64 4))),(1,1,(.c a140)),(2,3,(.c a141)),(5,3,(.c a147)),(8,3,(.c a153)),(11,2,(.c a132))]) h154 fun a159 =>
  af PP (.iadd (.c a130) (.c a103) 14) h154 fun a160 =>
  af PP (.fadd (.c a160) 1) h154 fun a161 =>
  aa PP (.st (.c a161) (.c a159) 13) h154 fun a162 h163 =>
  bw [a4,a12,(f79 5)] [a4,a12,(f79 5)]/\J82 [] h163) (
  bw [a4,a12,(f79 5)] [a4,a12,(f79 5)]/\J82 [] h124)) /\
  ae PP ah [a12] h90 fun a164 h165 =>
  vbin .rem a164 (.int .i64 3) fun a166 =>
  vbin .eql a166 (.int .i64 0) fun a167 =>
  vcond a167 (ae PP bK [a12] h165 fun a168 h169 =>
  ae PP aN [a12] h169 fun a170 h171 =>
  bw [a4,a12,(f79 5)] [a4,a12,(f79 5)]/\J91 [] h171) (
  bw [a4,a12,(f79 5)] [a4,a12,(f79 5)]/\J91 [] h165)) (
  bw [a4,a12] [a4,a12]/\J29 [] h80)
def iX (a174:D) (h173:Heap) (a12:D) (a4:D) (J26:List D->Heap->Prop):Prop :=
  ∃(I175:Nat->List D->Heap->Prop) (n₀:Nat),I175 n₀ [a174] h173/\∀(n176:Nat) (f177:Nat->D) (h178:Heap),I175 n176 [f177 4] h178 ->
  vbin .gtr (f177 4) (.int .i64 0) fun a179 =>
  ba a179 true (fun G180 =>
  G180 a12) fun a181 =>
  ba a179 true (fun G183 =>
  af PP (.fadd (.c a181) 0) h178 fun a259 =>
  G183 a259) fun a184 =>
  ba a179 true (fun G187 =>
  af PP (.fadd (.c a184) 2) h178 fun a258 =>
  G187 a258) fun a188 =>
  ba a179 true (fun G191 =>
  af PP (.fadd (.c a188) 0) h178 fun a257 =>
  G191 a257) fun a192 =>
  ba a179 true (fun G195 =>
  af PP (.ld (.c a192) 1 false) h178 fun a256 =>
  G195 a256) fun a196 =>
  ba a179 true (fun G199 =>
  G199 a12) fun a200 =>
  ba a179 true (fun G202 =>
  af PP (.fadd (.c a200) 0) h178 fun a255 =>
  G202 a255) fun a203 =>
  ba a179 true (fun G206 =>
  af PP (.fadd (.c a203) 2) h178 fun a254 =>
  G206 a254) fun a207 =>
  ba a179 true (fun G210 =>
  af PP (.fadd (.c a207) 1) h178 fun a253 =>
  G210 a253) fun a211 =>
  ba a179 true (fun G214 =>
  af PP (.ld (.c a211) 1 false) h178 fun a252 =>
  G214 a252) fun a215 =>
  ba a179 true (fun G218 =>
  vbin .mul (.int .i64 2) a215 fun a251 =>
  G218 a251) fun a219 =>
  ba a179 true (fun G222 =>
  vbin .rem a196 a219 fun a250 =>
  G222 a250) fun a223 =>
  ba a179 true (fun G226 =>
  vbin .eql a223 (.int .i64 0) fun a249 =>
  G226 a249) fun a227 =>
  af PP (.pick (.c a179) (.c a227) (.c (.bool false))) h178 fun a230 =>
  vcond a230 (aa PP (.fadd (.c a12) 0) h178 fun a231 h232 =>
  aa PP (.fadd (.c a231) 2) h232 fun a233 h234 =>
  aa PP (.fadd (.c a233) 1) h234 fun a235 h236 =>
  aa PP (.ld (.c a235) 1 false) h236 fun a237 h238 =>
  vbin .mul (.int .i64 2) a237 fun a239 =>
  aa PP (.fadd (.c a12) 0) h238 fun a240 h241 =>
  aa PP (.fadd (.c a240) 2) h241 fun a242 h243 =>
  aa PP (.fadd (.c a242) 1) h243 fun a244 h245 =>
  aa PP (.st (.c a244) (.c a239) 1) h245 fun a246 h247 =>
  vbin .sub (f177 4) (.int .i64 1) fun a248 =>
  bw [a4,a12] [a4,a12]/\∃m,m<n176/\I175 m [a248] h247) (
  bw [a4,a12] [a4,a12]/\J26 [] h178)
def sR (a0:D) (h0:Heap) (K:D->Heap->Prop):Prop :=
  aa PP (.box (.c a0)) h0 fun a2 h3 =>
  aa PP (.alloc (.agg [(.int .i64 0),(.int .i64 0),(.int .i64 0),(.int .i64 0),(.int .i64 0),.nil,.nil,.nil])) h3 fun a4 h5 =>
  aa PP (.fadd (.c a2) 0) h5 fun a6 h7 =>
  aa PP (.ld (.c a6) 1 false) h7 fun a8 h9 =>
  aa PP (.bld [.nil,(.int .i64 0),(.int .i64 0),(.int .i64 0),(.int .i64 0),(.int .i64 0),(.int .i64 0),.nil,.nil,.nil] [(0,1,(.c a8))]) h9 fun a10 h11 =>
  aa PP (.box (.c a10)) h11 fun a12 h13 =>
  af PP (.bldS false 1 5 (.int .i64 0) [(0,(.c (.int .i64 4))),(1,(.c (.int .i64 1))),(2,(.c (.int .i64 2))),(3,(.c (.int .i64 8))),(4,(.c (.int .i64 6)))]) h13 fun a14 =>
  ae PP ah [a12] h13 fun a15 h16 =>
  vbin .rem a15 (.int .i64 5) fun a17 =>
  af PP (.iadd (.c a14) (.c a17) 1) h16 fun a18 =>
  af PP (.ld (.c a18) 1 false) h16 fun a19 =>
  af PP (.call gj []) h16 fun a20 =>
  af PP (.bld [(.int .i64 0),(.int .i64 0),(.int .i64 0),(.int .i64 0),(.int .i64 0),.nil,.nil,.nil] [(0,1,(.c a19)),(1,1,(.c (.int .i64 1))),(2,1,(.c (.int .i64 6))),(4,1,(.c (.int .i64 3))),(5,1,(.c a20))]) h16 fun a21 =>
  af PP (.fadd (.c a12) 0) h16 fun a22 =>
  af PP (.fadd (.c a22) 2) h16 fun a23 =>
  aa PP (.st (.c a23) (.c a21) 8) h16 fun a24 h25 =>
  ∃(J26:List D->Heap->Prop),(∀(f27:Nat->D) (h28:Heap),J26 [] h28 ->
  ∃(J29:List D->Heap->Prop),(∀(f30:Nat->D) (h31:Heap),J29 [] h31 ->
  ae PP ah [a12] h31 fun a32 h33 =>
  vbin .rem a32 (.int .i64 3) fun a34 =>
  ae PP bP [a12,a34] h33 fun a35 h36 =>
  ∃(J37:List D->Heap->Prop),(∀(f38:Nat->D) (h39:Heap),J37 [] h39 ->
  af PP (.fadd (.c a12) 0) h39 fun a40 =>
  af PP (.fadd (.c a40) 2) h39 fun a41 =>
  af PP (.fadd (.c a41) 7) h39 fun a42 =>
  af PP (.ld (.c a42) 1 false) h39 fun a43 =>
  af PP (.fadd (.c a12) 0) h39 fun a44 =>
  af PP (.fadd (.c a44) 2) h39 fun a45 =>
  af PP (.fadd (.c a45) 7) h39 fun a46 =>
  af PP (.ld (.c a46) 1 false) h39 fun a47 =>
  cN a47 h39 fun a48 =>
  vbin .sub a48 (.int .i64 1) fun a49 =>
  af PP (.bld [(.int .i64 0),(.int .i64 0),(.int .i64 0),(.int .i64 0),(.int .i32 0),(.int .i64 0),(.int .i64 0),(.int .i32 0),(.int .i64 0),(.int .i64 0),(.int .i32 0),(.int .i64 0),(.int .i64 0)] [(0,1,(.c (.int .i64 5)))]) h39 fun a50 =>
  af PP (.iadd (.c a43) (.c a49) 14) h39 fun a51 =>
  af PP (.fadd (.c a51) 1) h39 fun a52 =>
  aa PP (.st (.c a52) (.c a50) 13) h39 fun a53 h54 =>
  aa PP (.fadd (.c a12) 0) h54 fun a55 h56 =>
  aa PP (.fadd (.c a55) 2) h56 fun a57 h58 =>
  aa PP (.ld (.c a57) 8 true) h58 fun a59 h60 =>
  aa PP (.st (.c a4) (.c a59) 8) h60 fun a61 h62 =>
  aa PP (.ld (.c a4) 8 true) h62 fun a63 _ =>
  K a63 h62) /\
  ae PP ah [a12] h36 fun a64 h65 =>
  vbin .rem a64 (.int .i64 3) fun a66 =>
  vbin .eql a66 (.int .i64 0) fun a67 =>
  vcond a67 (ae PP bK [a12] h65 fun a68 h69 =>
  ae PP aN [a12] h69 fun a70 h71 =>
  ae PP bl [a12] h71 fun a72 h73 =>
  bw [a4,a12] [a4,a12]/\J37 [] h73) (
  bw [a4,a12] [a4,a12]/\J37 [] h65)) /\
  ae PP ah [a12] h28 fun a74 h75 =>
  vbin .rem a74 (.int .i64 3) fun a76 =>
  iY a76 h75 a4 a12 J29) /\
  ae PP ah [a12] h25 fun a172 h173 =>
  vbin .rem a172 (.int .i64 3) fun a174 =>
  iX a174 h173 a12 a4 J26
theorem vv (a0:D) (h0:Heap) (K:D->Heap->Prop):sR a0 h0 K=vcC PP mE.code (fun x e h'=>match x with|.exit _=>False|.pan=>False|.jump _=>False|_=>bO PP mE.res K e h') (params [a0] 0) h0:=by kernel_rfl
end Go.Am
namespace Go.Am
open Go Go.Proofs
def lF:Nat->Option (List Nat×List Nat)
  | 9000002=>some ([1,2],[3,4,5])|1000009=>some ([1,2,3],[5])|1000017=>some ([2,8],[])|12=>some ([2,3,8,45,46],[47])|_=>none
def nQ:Nat->Option (List Nat×List Nat×List Nat)
  | 9=>some ([0,1,3,0,8,7,63],[6],[])|_=>none
noncomputable def mH:av:=⟨61,fq (cFn PP true bD lF (cDr PP 61 nQ)),
  [.cell 2 2 true]⟩
theorem vP:cFn PP true bD lF (cDr PP 61 nQ)=some mH:=by kernel_rfl
def dH (h41:Heap) (a42:D) (a40:D) (a26:D) (a10:D) (a4:D) (J30:List D->Heap->Prop):Prop :=
  ∃(I43:Nat->List D->Heap->Prop) (n₀:Nat),I43 n₀ [(.int .i64 0)] h41/\∀(n44:Nat) (f45:Nat->D) (h46:Heap),I43 n44 [f45 47] h46 ->
  vbin .lss (f45 47) a42 fun a47 =>
  vcond a47 (aa PP (.iadd (.c a40) (.c (f45 47)) 1) h46 fun a48 h49 =>
  aa PP (.ld (.c a48) 1 false) h49 fun a50 h51 =>
  aa PP (.fadd (.c a26) 1) h51 fun a52 h53 =>
  aa PP (.ld (.c a52) 1 false) h53 fun a54 h55 =>
  aa PP (.look (.int .i64) (.c a10) (.c a50) .nil false) h55 fun a56 h57 =>
  aa PP (.bldS true 1 1 .nil [(0,(.c a56))]) h57 fun a58 h59 =>
  aa PP (.app (.c a54) (.c a58) 1 24 .nil) h59 fun a60 h61 =>
  aa PP (.fadd (.c a26) 1) h61 fun a62 h63 =>
  aa PP (.st (.c a62) (.c a60) 1) h63 fun a64 h65 =>
  vbin .add (f45 47) (.int .i64 1) fun a66 =>
  bw [a4,a10,a26,a40,a42] [a4,a10,a26,a40,a42]/\∃m,m<n44/\I43 m [a66] h65) (
  bw [a4,a26] [a4,a26]/\J30 [] h46)
def mW (h120:Heap) (a121:D) (a119:D) (a105:D) (f8:Nat->D) (a4:D) (J109:List D->Heap->Prop):Prop :=
  ∃(I122:Nat->List D->Heap->Prop) (n₀:Nat),I122 n₀ [(.int .i64 0)] h120/\∀(n123:Nat) (f124:Nat->D) (h125:Heap),I122 n123 [f124 47] h125 ->
  vbin .lss (f124 47) a121 fun a126 =>
  vcond a126 (aa PP (.iadd (.c a119) (.c (f124 47)) 1) h125 fun a127 h128 =>
  aa PP (.ld (.c a127) 1 false) h128 fun a129 h130 =>
  aa PP (.fadd (.c a105) 1) h130 fun a131 h132 =>
  aa PP (.ld (.c a131) 1 false) h132 fun a133 h134 =>
  aa PP (.look (.int .i64) (.c (f8 3)) (.c a129) .nil false) h134 fun a135 h136 =>
  aa PP (.bldS true 1 1 .nil [(0,(.c a135))]) h136 fun a137 h138 =>
  aa PP (.app (.c a133) (.c a137) 1 24 .nil) h138 fun a139 h140 =>
  aa PP (.fadd (.c a105) 1) h140 fun a141 h142 =>
  aa PP (.st (.c a141) (.c a139) 1) h142 fun a143 h144 =>
  vbin .add (f124 47) (.int .i64 1) fun a145 =>
  bw [a4,(f8 3),a105,a119,a121] [a4,(f8 3),a105,a119,a121]/\∃m,m<n123/\I122 m [a145] h144) (
  bw [a4,a105] [a4,a105]/\J109 [] h125)
def sV (a0:D) (h0:Heap) (K:D->Heap->Prop):Prop :=
  aa PP (.box (.c a0)) h0 fun a2 h3 =>
  aa PP (.alloc (.agg [.nil,.nil])) h3 fun a4 h5 =>
  ∃(I6:Nat->List D->Heap->Prop),(aa PP (.v8 (.int .i64)) h5 fun a10 h11 =>
  ∃(J12:List D->Heap->Prop),(∀(f13:Nat->D) (h14:Heap),J12 [f13 5] h14 ->
  cN (f13 5) h14 fun a15 =>
  vbin .gtr a15 (.int .i64 0) fun a16 =>
  vcond a16 (af PP (.iadd (.c (f13 5)) (.c (.int .i64 0)) 1) h14 fun a17 =>
  af PP (.ld (.c a17) 1 false) h14 fun a18 =>
  af PP (.pB (.c (f13 5)) (some (.c (.int .i64 1))) none none 1) h14 fun a19 =>
  0=0/\bw [a2,a4] [a2,a4]/\∃m,I6 m [a10,a18,a19] h14) (
  ae PP aM [a10] h14 fun a20 h21 =>
  ae PP aR [a20] h21 fun a22 h23 =>
  aa PP (.bld [.nil,.nil] [(0,1,(.c a22))]) h23 fun a24 h25 =>
  aa PP (.alloc (.agg [.nil,.nil])) h25 fun a26 h27 =>
  aa PP (.st (.c a26) (.c a24) 2) h27 fun a28 h29 =>
  ∃(J30:List D->Heap->Prop),(∀(f31:Nat->D) (h32:Heap),J30 [] h32 ->
  aa PP (.ld (.c a26) 2 true) h32 fun a33 h34 =>
  aa PP (.st (.c a4) (.c a33) 2) h34 fun a35 h36 =>
  aa PP (.ld (.c a4) 2 true) h36 fun a37 _ =>
  K a37 h36) /\
  aa PP (.fadd (.c a26) 0) h29 fun a38 h39 =>
  aa PP (.ld (.c a38) 1 false) h39 fun a40 h41 =>
  cN a40 h41 fun a42 =>
  dH h41 a42 a40 a26 a10 a4 J30)) /\
  aa PP (.look (.int .i64) (.c a10) (.c (.int .i64 0)) .nil false) h11 fun a67 h68 =>
  aa PP (.nilq false (.c a67)) h68 fun a69 h70 =>
  vcond a69 (aa PP (.ld (.c a2) 8 true) h70 fun a71 h72 =>
  ae PP et [a71,(.int .i64 0)] h72 fun a73 h74 =>
  aa PP (.ext (.c a73) 0) h74 fun a75 h76 =>
  aa PP (.ext (.c a73) 1) h76 fun a77 h78 =>
  ae PP aB [a75] h78 fun a79 h80 =>
  ae PP aR [a79] h80 fun a81 h82 =>
  aa PP (.mupd (.int .i64) (.c a10) (.c (.int .i64 0)) (.c a81)) h82 fun a83 h84 =>
  ae PP aB [a77] h84 fun a85 h86 =>
  ae PP aR [a85] h86 fun a87 h88 =>
  aa PP (.app (.c .nil) (.c a87) 1 8 (.int .i64 0)) h88 fun a89 h90 =>
  bw [a2,a4,a10] [a2,a4,a10]/\J12 [a89] h90) (
  bw [a2,a4,a10] [a2,a4,a10]/\J12 [.nil] h70))/\∀(n7:Nat) (f8:Nat->D) (h9:Heap),I6 n7 [f8 3,f8 4,f8 5] h9 ->
  ∃(J91:List D->Heap->Prop),(∀(f92:Nat->D) (h93:Heap),J91 [f92 5] h93 ->
  cN (f92 5) h93 fun a94 =>
  vbin .gtr a94 (.int .i64 0) fun a95 =>
  vcond a95 (af PP (.iadd (.c (f92 5)) (.c (.int .i64 0)) 1) h93 fun a96 =>
  af PP (.ld (.c a96) 1 false) h93 fun a97 =>
  af PP (.pB (.c (f92 5)) (some (.c (.int .i64 1))) none none 1) h93 fun a98 =>
  0=0/\bw [a2,a4] [a2,a4]/\∃m,m<n7/\I6 m [(f8 3),a97,a98] h93) (
  ae PP aM [(f8 3)] h93 fun a99 h100 =>
  ae PP aR [a99] h100 fun a101 h102 =>
  aa PP (.bld [.nil,.nil] [(0,1,(.c a101))]) h102 fun a103 h104 =>
  aa PP (.alloc (.agg [.nil,.nil])) h104 fun a105 h106 =>
  aa PP (.st (.c a105) (.c a103) 2) h106 fun a107 h108 =>
  ∃(J109:List D->Heap->Prop),(∀(f110:Nat->D) (h111:Heap),J109 [] h111 ->
  aa PP (.ld (.c a105) 2 true) h111 fun a112 h113 =>
  aa PP (.st (.c a4) (.c a112) 2) h113 fun a114 h115 =>
  aa PP (.ld (.c a4) 2 true) h115 fun a116 _ =>
  K a116 h115) /\
  aa PP (.fadd (.c a105) 0) h108 fun a117 h118 =>
  aa PP (.ld (.c a117) 1 false) h118 fun a119 h120 =>
  cN a119 h120 fun a121 =>
  mW h120 a121 a119 a105 f8 a4 J109)) /\
  aa PP (.look (.int .i64) (.c (f8 3)) (.c (f8 4)) .nil false) h9 fun a146 h147 =>
  aa PP (.nilq false (.c a146)) h147 fun a148 h149 =>
  vcond a148 (aa PP (.ld (.c a2) 8 true) h149 fun a150 h151 =>
  ae PP et [a150,(f8 4)] h151 fun a152 h153 =>
  aa PP (.ext (.c a152) 0) h153 fun a154 h155 =>
  aa PP (.ext (.c a152) 1) h155 fun a156 h157 =>
  ae PP aB [a154] h157 fun a158 h159 =>
  ae PP aR [a158] h159 fun a160 h161 =>
  aa PP (.mupd (.int .i64) (.c (f8 3)) (.c (f8 4)) (.c a160)) h161 fun a162 h163 =>
  ae PP aB [a156] h163 fun a164 h165 =>
  ae PP aR [a164] h165 fun a166 h167 =>
  aa PP (.app (.c (f8 5)) (.c a166) 1 8 (.int .i64 0)) h167 fun a168 h169 =>
  bw [a2,a4,(f8 3)] [a2,a4,(f8 3)]/\J91 [a168] h169) (
  bw [a2,a4,(f8 3)] [a2,a4,(f8 3)]/\J91 [(f8 5)] h149)
theorem vC (a0:D) (h0:Heap) (K:D->Heap->Prop):sV a0 h0 K=vcC PP mH.code (fun x e h'=>match x with|.exit _=>False|.pan=>False|.jump _=>False|_=>bO PP mH.res K e h') (params [a0] 0) h0:=by kernel_rfl
def tM:Nat->Option (List Nat×List Nat)
  | 1000020=>some ([2,3],[])|5=>some ([1,2,3,4,5],[6])|1000014=>some ([1,2,3,4,5],[6])|8=>some ([1,2,3,4,5],[6,7])|1000010=>some ([1,2,3,4,5,7],[6])|14=>some ([1,2,3,4,5],[6,8])|1000016=>some ([1,2,3,4,5,8],[6])|_=>none
def wx:Nat->Option (List Nat×List Nat×List Nat)
  | _=>none
def s9:av:=⟨66,
  .seq (.reg [⟨(some 1),.box (.t 0),none⟩,
    ⟨(some 2),.alloc (.agg [.nil,.nil]),none⟩]) <|
  .seq (.reg [⟨(some 9),.ld (.t 1) 8 true,none⟩,
    ⟨(some 10),.call uz [(.t 9),(.c (.bool true))],none⟩,
    ⟨(some 3),.alloc (.agg [.nil,.nil]),none⟩,
    ⟨none,.st (.t 3) (.t 10) 2,none⟩]) <|
  .seq (.reg [⟨(some 11),.ld (.t 1) 8 true,none⟩,
    ⟨(some 12),.call p6 [(.t 11)],none⟩,
    ⟨(some 4),.mov (.t 12),none⟩]) <|
  .seq (.reg [⟨(some 13),.ld (.t 1) 8 true,none⟩,
    ⟨(some 14),.call cE [(.t 13)],none⟩,
    ⟨(some 5),.mov (.t 14),none⟩]) <|
  .seq (.reg [⟨(some 6),.mov (.c (.bool true)),none⟩]) <|
  .seqj [2,3] [] (.block 0 (.loop [1,2,3,4,5] [6] (.seq (.seq (.reg [⟨(some 15),.mov (.t 6),none⟩]) <|
  .cond (.t 15) (.skip) (.exit 0)) <|
  .block 1 (.seq (.reg [⟨(some 6),.mov (.c (.bool false)),none⟩]) <|
  .seqj [1,2,3,4,5] [6] (.seq (.reg [⟨(some 7),.mov (.c (.int .i64 0)),none⟩]) <|
  .block 2 (.loop [1,2,3,4,5] [6,7] (.seq (.seq (.reg [⟨(some 16),.mov (.t 7),none⟩,
    ⟨(some 17),.fadd (.t 3) 0,none⟩,
    ⟨(some 18),.ld (.t 17) 1 false,none⟩,
    ⟨(some 19),.len (.t 18),none⟩,
    ⟨(some 20),.bin .lss (.t 16) (.t 19),none⟩]) <|
  .cond (.t 20) (.skip) (.exit 2)) <|
  .seqj [1,2,3,4,5,7] [6] (.block 3 (.seq (.reg [⟨(some 23),.fadd (.t 3) 0,none⟩,
    ⟨(some 24),.ld (.t 23) 1 false,none⟩,
    ⟨(some 25),.mov (.t 7),none⟩,
    ⟨(some 26),.iadd (.t 24) (.t 25) 1,none⟩,
    ⟨(some 27),.ld (.t 26) 1 false,none⟩,
    ⟨(some 28),.mov (.t 27),none⟩,
    ⟨(some 29),.ld (.t 1) 8 true,some (28,true)⟩,
    ⟨(some 30),.mov (.t 4),some (28,true)⟩,
    ⟨(some 31),.mov (.t 5),some (28,true)⟩,
    ⟨(some 32),.ld (.t 3) 2 true,some (28,true)⟩,
    ⟨(some 33),.mov (.t 7),some (28,true)⟩,
    ⟨(some 34),.call pZ [(.t 29),(.t 30),(.t 31),(.t 32),(.t 33)],some (28,true)⟩,
    ⟨(some 35),.un .not (.t 34),some (28,true)⟩,
    ⟨(some 36),.pick (.t 28) (.t 35) (.c (.bool false)),none⟩]) <|
  .cond (.t 36) (.seq (.reg [⟨(some 37),.fadd (.t 3) 0,none⟩,
    ⟨(some 38),.ld (.t 37) 1 false,none⟩,
    ⟨(some 39),.mov (.t 7),none⟩,
    ⟨(some 40),.iadd (.t 38) (.t 39) 1,none⟩,
    ⟨none,.st (.t 40) (.c (.bool false)) 1,none⟩]) <|
  .reg [⟨(some 6),.mov (.c (.bool true)),none⟩]) (.skip))) <|
  .reg [⟨(some 21),.mov (.t 7),none⟩,
    ⟨(some 22),.bin .add (.t 21) (.c (.int .i64 1)),none⟩,
    ⟨(some 7),.mov (.t 22),none⟩]))) <|
  .seq (.reg [⟨(some 8),.mov (.c (.int .i64 0)),none⟩]) <|
  .block 4 (.loop [1,2,3,4,5] [6,8] (.seq (.seq (.reg [⟨(some 41),.mov (.t 8),none⟩,
    ⟨(some 42),.fadd (.t 3) 1,none⟩,
    ⟨(some 43),.ld (.t 42) 1 false,none⟩,
    ⟨(some 44),.len (.t 43),none⟩,
    ⟨(some 45),.bin .lss (.t 41) (.t 44),none⟩]) <|
  .cond (.t 45) (.skip) (.exit 4)) <|
  .seqj [1,2,3,4,5,8] [6] (.block 5 (.seq (.reg [⟨(some 48),.fadd (.t 3) 1,none⟩,
    ⟨(some 49),.ld (.t 48) 1 false,none⟩,
    ⟨(some 50),.mov (.t 8),none⟩,
    ⟨(some 51),.iadd (.t 49) (.t 50) 1,none⟩,
    ⟨(some 52),.ld (.t 51) 1 false,none⟩,
    ⟨(some 53),.mov (.t 52),none⟩,
    ⟨(some 54),.ld (.t 1) 8 true,some (53,true)⟩,
    ⟨(some 55),.mov (.t 4),some (53,true)⟩,
    ⟨(some 56),.ld (.t 3) 2 true,some (53,true)⟩,
    ⟨(some 57),.mov (.t 8),some (53,true)⟩,
    ⟨(some 58),.call ly [(.t 54),(.t 55),(.t 56),(.t 57)],some (53,true)⟩,
    ⟨(some 59),.un .not (.t 58),some (53,true)⟩,
    ⟨(some 60),.pick (.t 53) (.t 59) (.c (.bool false)),none⟩]) <|
  .cond (.t 60) (.seq (.reg [⟨(some 61),.fadd (.t 3) 1,none⟩,
    ⟨(some 62),.ld (.t 61) 1 false,none⟩,
    ⟨(some 63),.mov (.t 8),none⟩,
    ⟨(some 64),.iadd (.t 62) (.t 63) 1,none⟩,
    ⟨none,.st (.t 64) (.c (.bool false)) 1,none⟩]) <|
  .reg [⟨(some 6),.mov (.c (.bool true)),none⟩]) (.skip))) <|
  .reg [⟨(some 46),.mov (.t 8),none⟩,
    ⟨(some 47),.bin .add (.t 46) (.c (.int .i64 1)),none⟩,
    ⟨(some 8),.mov (.t 47),none⟩])))))) <|
  .seq (.reg [⟨(some 65),.ld (.t 3) 2 true,none⟩,
    ⟨none,.st (.t 2) (.t 65) 2,none⟩]) <|
  .ret,
  [.cell 2 2 true]⟩
theorem vF:cFn PP true mb tM (cDr PP 66 wx)=some s9:=by kernel_rfl
def tL:Nat->Option (List Nat×List Nat)
  | 1000009=>some ([],[])|4=>some ([2,3],[5])|_=>none
def wv:Nat->Option (List Nat×List Nat×List Nat)
  | 6=>some ([0,1,0,7,15,0,32,0,224,480,1023,2047],[],[])|_=>none
def sZ:av:=⟨40,
  .seq (.reg [⟨(some 2),.box (.t 0),none⟩,
    ⟨(some 3),.box (.t 1),none⟩,
    ⟨(some 4),.mov (.c (.bool false)),none⟩]) <|
  .seq (.seq (.reg [⟨(some 6),.fadd (.t 2) 0,none⟩,
    ⟨(some 7),.ld (.t 6) 1 false,none⟩,
    ⟨(some 8),.fadd (.t 3) 0,none⟩,
    ⟨(some 9),.ld (.t 8) 1 false,none⟩,
    ⟨(some 10),.call g9 [(.t 7),(.t 9)],none⟩,
    ⟨(some 11),.un .not (.t 10),none⟩,
    ⟨(some 12),.mov (.t 11),none⟩,
    ⟨(some 13),.fadd (.t 2) 1,some (12,false)⟩,
    ⟨(some 14),.ld (.t 13) 1 false,some (12,false)⟩,
    ⟨(some 15),.len (.t 14),some (12,false)⟩,
    ⟨(some 16),.fadd (.t 3) 1,some (12,false)⟩,
    ⟨(some 17),.ld (.t 16) 1 false,some (12,false)⟩,
    ⟨(some 18),.len (.t 17),some (12,false)⟩,
    ⟨(some 19),.bin .neq (.t 15) (.t 18),some (12,false)⟩,
    ⟨(some 20),.pick (.t 12) (.c (.bool true)) (.t 19),none⟩]) <|
  .cond (.t 20) (.seq (.reg [⟨(some 4),.mov (.c (.bool false)),none⟩]) <|
  .ret) (.skip)) <|
  .seqj [] [] (.seq (.reg [⟨(some 5),.mov (.c (.int .i64 0)),none⟩]) <|
  .block 0 (.loop [2,3] [5] (.seq (.seq (.reg [⟨(some 21),.mov (.t 5),none⟩,
    ⟨(some 22),.fadd (.t 2) 1,none⟩,
    ⟨(some 23),.ld (.t 22) 1 false,none⟩,
    ⟨(some 24),.len (.t 23),none⟩,
    ⟨(some 25),.bin .lss (.t 21) (.t 24),none⟩]) <|
  .cond (.t 25) (.skip) (.exit 0)) <|
  .seq (.block 1 (.seq (.dreg [⟨(some 28),.fadd (.t 2) 1,none⟩,
    ⟨(some 29),.ld (.t 28) 1 false,none⟩,
    ⟨(some 30),.mov (.t 5),none⟩,
    ⟨(some 31),.iadd (.t 29) (.t 30) 1,none⟩,
    ⟨(some 32),.ld (.t 31) 1 false,none⟩,
    ⟨(some 33),.fadd (.t 3) 1,none⟩,
    ⟨(some 34),.ld (.t 33) 1 false,none⟩,
    ⟨(some 35),.mov (.t 5),none⟩,
    ⟨(some 36),.iadd (.t 34) (.t 35) 1,none⟩,
    ⟨(some 37),.ld (.t 36) 1 false,none⟩,
    ⟨(some 38),.call g9 [(.t 32),(.t 37)],none⟩,
    ⟨(some 39),.un .not (.t 38),none⟩] [] []) <|
  .cond (.t 39) (.seq (.reg [⟨(some 4),.mov (.c (.bool false)),none⟩]) <|
  .ret) (.skip))) <|
  .reg [⟨(some 26),.mov (.t 5),none⟩,
    ⟨(some 27),.bin .add (.t 26) (.c (.int .i64 1)),none⟩,
    ⟨(some 5),.mov (.t 27),none⟩]))) <|
  .seq (.reg [⟨(some 4),.mov (.c (.bool true)),none⟩]) <|
  .ret,
  [.t 4]⟩
theorem vE:cFn PP true ma tL (cDr PP 40 wv)=some sZ:=by kernel_rfl
def sF:Nat->Option (List Nat×List Nat)
  | 1000024=>some ([],[])|4=>some ([2,3,29,30],[31])|1000023=>some ([2,3,29,30,31],[])|9=>some ([2,3,6,29,30,31,45,46],[47])|1000022=>some ([2,3,6,29,30,31,45,46,47],[])|1000015=>some ([2,3,6,8,29,30,31,45,46,47],[9])|15=>some ([2,3,6,9,29,30,31,45,46,47,68,69],[70])|_=>none
def u5:Nat->Option (List Nat×List Nat×List Nat)
  | 6=>some ([0,0,0,4,0,28,60,127,255],[],[])|_=>none
def qo:av:=⟨85,
  .seq (.reg [⟨(some 2),.box (.t 0),none⟩,
    ⟨(some 3),.box (.t 1),none⟩,
    ⟨(some 4),.mov (.c (.int .i64 0)),none⟩]) <|
  .seq (.seq (.reg [⟨(some 14),.ld (.t 2) 8 true,none⟩,
    ⟨(some 15),.fadd (.t 3) 0,none⟩,
    ⟨(some 16),.ld (.t 15) 1 false,none⟩,
    ⟨(some 17),.call jK [(.t 14),(.t 16),(.c (.int .i64 0))],none⟩,
    ⟨(some 18),.un .not (.t 17),none⟩,
    ⟨(some 19),.mov (.t 18),none⟩,
    ⟨(some 20),.fadd (.t 3) 1,some (19,false)⟩,
    ⟨(some 21),.ld (.t 20) 1 false,some (19,false)⟩,
    ⟨(some 22),.len (.t 21),some (19,false)⟩,
    ⟨(some 23),.fadd (.t 3) 0,some (19,false)⟩,
    ⟨(some 24),.ld (.t 23) 1 false,some (19,false)⟩,
    ⟨(some 25),.len (.t 24),some (19,false)⟩,
    ⟨(some 26),.bin .neq (.t 22) (.t 25),some (19,false)⟩,
    ⟨(some 27),.pick (.t 19) (.c (.bool true)) (.t 26),none⟩]) <|
  .cond (.t 27) (.seq (.reg [⟨(some 4),.mov (.c (.int .i64 100)),none⟩]) <|
  .ret) (.skip)) <|
  .seqj [] [] (.seq (.reg [⟨(some 28),.fadd (.t 3) 1,none⟩,
    ⟨(some 29),.ld (.t 28) 1 false,none⟩,
    ⟨(some 30),.len (.t 29),none⟩,
    ⟨(some 31),.mov (.c (.int .i64 0)),none⟩]) <|
  .block 0 (.loop [2,3,29,30] [31] (.seq (.reg [⟨(some 32),.bin .lss (.t 31) (.t 30),none⟩]) <|
  .seq (.cond (.t 32) (.skip) (.exit 0)) <|
  .seqj [2,3,29,30,31] [] (.block 1 (.seq (.reg [⟨(some 33),.mov (.t 31),none⟩,
    ⟨(some 34),.iadd (.t 29) (.t 31) 1,none⟩,
    ⟨(some 35),.ld (.t 34) 1 false,none⟩,
    ⟨(some 5),.mov (.t 33),none⟩,
    ⟨(some 6),.mov (.t 35),none⟩]) <|
  .seq (.seq (.dreg [⟨(some 36),.ld (.t 2) 8 true,none⟩,
    ⟨(some 37),.mov (.t 6),none⟩,
    ⟨(some 38),.fadd (.t 3) 0,none⟩,
    ⟨(some 39),.ld (.t 38) 1 false,none⟩,
    ⟨(some 40),.mov (.t 5),none⟩,
    ⟨(some 41),.iadd (.t 39) (.t 40) 1,none⟩,
    ⟨(some 42),.ld (.t 41) 1 false,none⟩,
    ⟨(some 43),.call jK [(.t 36),(.t 37),(.t 42)],none⟩,
    ⟨(some 44),.un .not (.t 43),none⟩] [] []) <|
  .cond (.t 44) (.seq (.reg [⟨(some 4),.mov (.c (.int .i64 100)),none⟩]) <|
  .ret) (.skip)) <|
  .seq (.reg [⟨(some 45),.mov (.t 6),none⟩,
    ⟨(some 46),.len (.t 45),none⟩,
    ⟨(some 47),.mov (.c (.int .i64 0)),none⟩]) <|
  .block 2 (.loop [2,3,6,29,30,31,45,46] [47] (.seq (.reg [⟨(some 48),.bin .lss (.t 47) (.t 46),none⟩]) <|
  .seq (.cond (.t 48) (.skip) (.exit 2)) <|
  .seqj [2,3,6,29,30,31,45,46,47] [] (.block 3 (.seq (.reg [⟨(some 49),.iadd (.t 45) (.t 47) 1,none⟩,
    ⟨(some 50),.ld (.t 49) 1 false,none⟩,
    ⟨(some 8),.mov (.t 50),none⟩]) <|
  .seq (.reg [⟨(some 51),.mov (.t 6),none⟩,
    ⟨(some 9),.mov (.t 51),none⟩]) <|
  .seqj [2,3,6,8,29,30,31,45,46,47] [9] (.seq (.reg [⟨(some 52),.fadd (.t 2) 7,none⟩,
    ⟨(some 53),.ld (.t 52) 1 false,none⟩,
    ⟨(some 54),.mov (.t 8),none⟩,
    ⟨(some 55),.iadd (.t 53) (.t 54) 14,none⟩,
    ⟨(some 56),.fadd (.t 55) 1,none⟩,
    ⟨(some 57),.fadd (.t 56) 0,none⟩,
    ⟨(some 58),.ld (.t 57) 1 false,none⟩,
    ⟨(some 59),.bin .eql (.t 58) (.c (.int .i64 3)),none⟩]) <|
  .cond (.t 59) (.reg [⟨(some 60),.fadd (.t 3) 0,none⟩,
    ⟨(some 61),.ld (.t 60) 1 false,none⟩,
    ⟨(some 9),.mov (.t 61),none⟩]) (.skip)) <|
  .seq (.reg [⟨(some 62),.fadd (.t 2) 7,none⟩,
    ⟨(some 63),.ld (.t 62) 1 false,none⟩,
    ⟨(some 64),.mov (.t 8),none⟩,
    ⟨(some 65),.iadd (.t 63) (.t 64) 14,none⟩,
    ⟨(some 66),.fadd (.t 65) 1,none⟩,
    ⟨(some 67),.ld (.t 66) 13 true,none⟩,
    ⟨(some 68),.call dZ [(.t 67)],none⟩,
    ⟨(some 69),.len (.t 68),none⟩,
    ⟨(some 70),.mov (.c (.int .i64 0)),none⟩]) <|
  .block 4 (.loop [2,3,6,9,29,30,31,45,46,47,68,69] [70] (.seq (.reg [⟨(some 71),.bin .lss (.t 70) (.t 69),none⟩]) <|
  .seq (.cond (.t 71) (.skip) (.exit 4)) <|
  .seq (.block 5 (.seq (.reg [⟨(some 72),.iadd (.t 68) (.t 70) 1,none⟩,
    ⟨(some 73),.ld (.t 72) 1 false,none⟩,
    ⟨(some 11),.mov (.t 73),none⟩]) <|
  .seq (.reg [⟨(some 75),.mov (.t 9),none⟩,
    ⟨(some 76),.mov (.t 11),none⟩,
    ⟨(some 77),.call db [(.t 75),(.t 76)],none⟩,
    ⟨(some 74),.mov (.t 77),none⟩,
    ⟨(some 78),.ext (.t 74) 0,none⟩,
    ⟨(some 79),.ext (.t 74) 1,none⟩,
    ⟨(some 12),.mov (.t 78),none⟩,
    ⟨(some 13),.mov (.t 79),none⟩]) <|
  .seq (.reg [⟨(some 80),.mov (.t 13),none⟩,
    ⟨(some 81),.un .not (.t 80),none⟩]) <|
  .cond (.t 81) (.seq (.reg [⟨(some 4),.mov (.c (.int .i64 100)),none⟩]) <|
  .ret) (.skip))) <|
  .reg [⟨(some 82),.bin .add (.t 70) (.c (.int .i64 1)),none⟩,
    ⟨(some 70),.mov (.t 82),none⟩])))) <|
  .reg [⟨(some 83),.bin .add (.t 47) (.c (.int .i64 1)),none⟩,
    ⟨(some 47),.mov (.t 83),none⟩])))) <|
  .reg [⟨(some 84),.bin .add (.t 31) (.c (.int .i64 1)),none⟩,
    ⟨(some 31),.mov (.t 84),none⟩]))) <|
  .seq (.reg [⟨(some 4),.mov (.c (.int .i64 0)),none⟩]) <|
  .ret,
  [.t 4]⟩
theorem ui:cFn PP true fo sF (cDr PP 85 u5)=some qo:=by kernel_rfl
def sE:Nat->Option (List Nat×List Nat)
  | 1000012=>some ([],[])|5=>some ([2,3,16,17],[18])|_=>none
def u4:Nat->Option (List Nat×List Nat×List Nat)
  | _=>none
def qn:av:=⟨45,
  .seq (.reg [⟨(some 2),.box (.t 0),none⟩,
    ⟨(some 3),.box (.t 1),none⟩,
    ⟨(some 4),.mov (.c (.int .i64 0)),none⟩]) <|
  .seq (.seq (.reg [⟨(some 9),.ld (.t 2) 8 true,none⟩,
    ⟨(some 10),.ld (.t 3) 2 true,none⟩,
    ⟨(some 11),.call mM [(.t 9),(.t 10)],none⟩,
    ⟨(some 5),.mov (.t 11),none⟩]) <|
  .seq (.reg [⟨(some 12),.mov (.t 5),none⟩,
    ⟨(some 13),.bin .neq (.t 12) (.c (.int .i64 0)),none⟩]) <|
  .cond (.t 13) (.seq (.reg [⟨(some 14),.mov (.t 5),none⟩,
    ⟨(some 4),.mov (.t 14),none⟩]) <|
  .ret) (.skip)) <|
  .seqj [] [] (.seq (.reg [⟨(some 15),.ld (.t 2) 8 true,none⟩,
    ⟨(some 16),.call mc [(.t 15)],none⟩,
    ⟨(some 17),.len (.t 16),none⟩,
    ⟨(some 18),.mov (.c (.int .i64 0)),none⟩]) <|
  .block 0 (.loop [2,3,16,17] [18] (.seq (.reg [⟨(some 19),.bin .lss (.t 18) (.t 17),none⟩]) <|
  .seq (.cond (.t 19) (.skip) (.exit 0)) <|
  .seq (.block 1 (.seq (.reg [⟨(some 20),.mov (.t 18),none⟩,
    ⟨(some 21),.iadd (.t 16) (.t 18) 1,none⟩,
    ⟨(some 22),.ld (.t 21) 1 false,none⟩,
    ⟨(some 6),.mov (.t 20),none⟩,
    ⟨(some 7),.mov (.t 22),none⟩]) <|
  .seq (.reg [⟨(some 23),.bldS true 1 2 (.int .i64 0) [(0,(.c (.int .i64 3))),(1,(.c (.int .i64 4)))],none⟩,
    ⟨(some 24),.fadd (.t 2) 7,none⟩,
    ⟨(some 25),.ld (.t 24) 1 false,none⟩,
    ⟨(some 26),.mov (.t 6),none⟩,
    ⟨(some 27),.iadd (.t 25) (.t 26) 14,none⟩,
    ⟨(some 28),.fadd (.t 27) 1,none⟩,
    ⟨(some 29),.fadd (.t 28) 0,none⟩,
    ⟨(some 30),.ld (.t 29) 1 false,none⟩,
    ⟨(some 31),.call aJ [(.t 23),(.t 30)],none⟩,
    ⟨(some 8),.mov (.t 31),none⟩]) <|
  .seq (.reg [⟨(some 32),.mov (.t 7),none⟩,
    ⟨(some 33),.mov (.t 32),none⟩,
    ⟨(some 34),.mov (.t 8),some (33,true)⟩,
    ⟨(some 35),.pick (.t 33) (.t 34) (.c (.bool false)),none⟩,
    ⟨(some 36),.mov (.t 35),none⟩,
    ⟨(some 37),.fadd (.t 3) 0,some (36,true)⟩,
    ⟨(some 38),.ld (.t 37) 1 false,some (36,true)⟩,
    ⟨(some 39),.mov (.t 6),some (36,true)⟩,
    ⟨(some 40),.iadd (.t 38) (.t 39) 1,some (36,true)⟩,
    ⟨(some 41),.ld (.t 40) 1 false,some (36,true)⟩,
    ⟨(some 42),.un .not (.t 41),some (36,true)⟩,
    ⟨(some 43),.pick (.t 36) (.t 42) (.c (.bool false)),none⟩]) <|
  .cond (.t 43) (.seq (.reg [⟨(some 4),.mov (.c (.int .i64 90)),none⟩]) <|
  .ret) (.skip))) <|
  .reg [⟨(some 44),.bin .add (.t 18) (.c (.int .i64 1)),none⟩,
    ⟨(some 18),.mov (.t 44),none⟩]))) <|
  .seq (.reg [⟨(some 4),.mov (.c (.int .i64 0)),none⟩]) <|
  .ret,
  [.t 4]⟩
theorem uh:cFn PP true il sE (cDr PP 45 u4)=some qn:=by kernel_rfl
def vc:Nat->Option (List Nat×List Nat)
  | 1000007=>some ([1,4,5],[])|3=>some ([1,4,5],[6])|1000011=>some ([4,5],[])|7=>some ([1,4,5],[7])|_=>none
def xN:Nat->Option (List Nat×List Nat×List Nat)
  | 1=>some ([0,1,3,7,0,16,48,127,0,511],[3,6,8,9],[999996,0,1,2])|_=>none
def uP:av:=⟨41,
  .seq (.reg [⟨(some 2),.box (.t 0),none⟩,
    ⟨(some 4),.alloc (.agg [.nil,.nil]),none⟩]) <|
  .seq (.seq (.dreg [⟨(some 11),.mov (.c .undef),none⟩,
    ⟨(some 14),.mov (.c .undef),none⟩,
    ⟨(some 5),.mov (.c .undef),none⟩] [] []) <|
  .seq (.dreg [⟨(some 8),.fadd (.t 2) 7,none⟩,
    ⟨(some 9),.ld (.t 8) 1 false,none⟩,
    ⟨(some 10),.len (.t 9),none⟩,
    ⟨(some 12),.fadd (.t 2) 2,none⟩,
    ⟨(some 13),.ld (.t 12) 1 false,none⟩] [] []) <|
  .seq (.dreg [] [⟨none,.mkc 1 (.t 10) (.t 10),none⟩] []) <|
  .seq (.dreg [] [⟨none,.mkc 1 (.t 13) (.t 13),none⟩] []) <|
  .seq (.dreg [] [⟨(some 11),.mk 1 1 (.bool false) (.t 10) (.t 10),none⟩] [⟨(some 12),.fadd (.t 2) 2,none⟩,
    ⟨(some 13),.ld (.t 12) 1 false,none⟩]) <|
  .seq (.dreg [] [⟨(some 14),.mk 1 1 (.bool false) (.t 13) (.t 13),none⟩] [⟨(some 8),.fadd (.t 2) 7,none⟩,
    ⟨(some 9),.ld (.t 8) 1 false,none⟩,
    ⟨(some 10),.len (.t 9),none⟩]) <|
  .seq (.dreg [⟨(some 15),.bld [.nil,.nil] [(0,1,(.t 11)),(1,1,(.t 14))],none⟩] [⟨(some 5),.alloc (.agg [.nil,.nil]),none⟩] [⟨(some 8),.fadd (.t 2) 7,none⟩,
    ⟨(some 9),.ld (.t 8) 1 false,none⟩,
    ⟨(some 10),.len (.t 9),none⟩,
    ⟨(some 12),.fadd (.t 2) 2,none⟩,
    ⟨(some 13),.ld (.t 12) 1 false,none⟩]) <|
  .seq (.dreg [] [⟨none,.st (.t 5) (.t 15) 2,none⟩] []) <|
  .dreg [] [] []) <|
  .seqj [1,4,5] [] (.seq (.reg [⟨(some 6),.mov (.c (.int .i64 0)),none⟩]) <|
  .block 0 (.loop [1,4,5] [6] (.seq (.seq (.reg [⟨(some 16),.mov (.t 6),none⟩,
    ⟨(some 17),.fadd (.t 5) 0,none⟩,
    ⟨(some 18),.ld (.t 17) 1 false,none⟩,
    ⟨(some 19),.len (.t 18),none⟩,
    ⟨(some 20),.bin .lss (.t 16) (.t 19),none⟩]) <|
  .cond (.t 20) (.skip) (.exit 0)) <|
  .seq (.block 1 (.reg [⟨(some 23),.fadd (.t 5) 0,none⟩,
    ⟨(some 24),.ld (.t 23) 1 false,none⟩,
    ⟨(some 25),.mov (.t 6),none⟩,
    ⟨(some 26),.mov (.t 1),none⟩,
    ⟨(some 27),.iadd (.t 24) (.t 25) 1,none⟩,
    ⟨none,.st (.t 27) (.t 26) 1,none⟩])) <|
  .reg [⟨(some 21),.mov (.t 6),none⟩,
    ⟨(some 22),.bin .add (.t 21) (.c (.int .i64 1)),none⟩,
    ⟨(some 6),.mov (.t 22),none⟩]))) <|
  .seqj [4,5] [] (.seq (.reg [⟨(some 7),.mov (.c (.int .i64 0)),none⟩]) <|
  .block 2 (.loop [1,4,5] [7] (.seq (.seq (.reg [⟨(some 28),.mov (.t 7),none⟩,
    ⟨(some 29),.fadd (.t 5) 1,none⟩,
    ⟨(some 30),.ld (.t 29) 1 false,none⟩,
    ⟨(some 31),.len (.t 30),none⟩,
    ⟨(some 32),.bin .lss (.t 28) (.t 31),none⟩]) <|
  .cond (.t 32) (.skip) (.exit 2)) <|
  .seq (.block 3 (.reg [⟨(some 35),.fadd (.t 5) 1,none⟩,
    ⟨(some 36),.ld (.t 35) 1 false,none⟩,
    ⟨(some 37),.mov (.t 7),none⟩,
    ⟨(some 38),.mov (.t 1),none⟩,
    ⟨(some 39),.iadd (.t 36) (.t 37) 1,none⟩,
    ⟨none,.st (.t 39) (.t 38) 1,none⟩])) <|
  .reg [⟨(some 33),.mov (.t 7),none⟩,
    ⟨(some 34),.bin .add (.t 33) (.c (.int .i64 1)),none⟩,
    ⟨(some 7),.mov (.t 34),none⟩]))) <|
  .seq (.reg [⟨(some 40),.ld (.t 5) 2 true,none⟩,
    ⟨none,.st (.t 4) (.t 40) 2,none⟩]) <|
  .ret,
  [.cell 4 2 true]⟩
theorem xF:cFn PP true uz vc (cDr PP 41 xN)=some uP:=by kernel_rfl
def oi:Nat->Option (List Nat×List Nat)
  | _=>none
def qC:Nat->Option (List Nat×List Nat×List Nat)
  | _=>none
def eK:av:=⟨11,
  .seq (.reg [⟨(some 3),.box (.t 0),none⟩,
    ⟨(some 4),.box (.t 1),none⟩,
    ⟨(some 5),.box (.t 2),none⟩,
    ⟨(some 6),.mov (.c (.bool false)),none⟩]) <|
  .seq (.reg [⟨(some 7),.fadd (.t 3) 1,none⟩,
    ⟨(some 8),.ld (.t 7) 1 false,none⟩,
    ⟨(some 9),.mkf eS [] [(.t 4),(.t 5)],none⟩,
    ⟨(some 10),.call aW [(.t 8),(.t 9)],none⟩,
    ⟨(some 6),.mov (.t 10),none⟩]) <|
  .ret,
  [.t 6]⟩
theorem jk:cFn PP true bM oi (cDr PP 11 qC)=some eK:=by kernel_rfl
def lM (a0:D) (a1:D) (a2:D) (h0:Heap) (K:D->Heap->Prop):Prop :=
  aa PP (.box (.c a0)) h0 fun a4 h5 =>
  aa PP (.box (.c a1)) h5 fun a6 h7 =>
  aa PP (.box (.c a2)) h7 fun a8 h9 =>
  aa PP (.fadd (.c a4) 1) h9 fun a10 h11 =>
  aa PP (.ld (.c a10) 1 false) h11 fun a12 h13 =>
  aa PP (.mkf eS [] [(.c a6),(.c a8)]) h13 fun a14 h15 =>
  ae PP aW [a12,a14] h15 fun a16 h17 =>
  K a16 h17
theorem pN (a0:D) (a1:D) (a2:D) (h0:Heap) (K:D->Heap->Prop):lM a0 a1 a2 h0 K=vcC PP eK.code (fun x e h'=>match x with|.exit _=>False|.pan=>False|.jump _=>False|_=>bO PP eK.res K e h') (params [a0,a1,a2] 0) h0:=by kernel_rfl
def tQ:Nat->Option (List Nat×List Nat)
  | 1000015=>some ([3],[])|4=>some ([1,3],[4])|8=>some ([1,3,35,36],[4,37])|1000014=>some ([1,3,35,36,37],[4])|_=>none
def wB:Nat->Option (List Nat×List Nat×List Nat)
  | _=>none
def tm:av:=⟨55,
  .seq (.reg [⟨(some 1),.box (.t 0),none⟩,
    ⟨(some 2),.mov (.c .nil),none⟩]) <|
  .seq (.reg [⟨(some 8),.fadd (.t 1) 7,none⟩,
    ⟨(some 9),.ld (.t 8) 1 false,none⟩,
    ⟨(some 10),.len (.t 9),none⟩,
    ⟨(some 11),.mk 1 1 (.bool false) (.t 10) (.t 10),none⟩,
    ⟨(some 3),.mov (.t 11),none⟩]) <|
  .seq (.reg [⟨(some 12),.mov (.t 3),none⟩,
    ⟨(some 13),.iadd (.t 12) (.c (.int .i64 0)) 1,none⟩,
    ⟨none,.st (.t 13) (.c (.bool true)) 1,none⟩]) <|
  .seqj [3] [] (.seq (.reg [⟨(some 14),.bldS true 1 1 (.int .i64 0) [(0,(.c (.int .i64 0)))],none⟩,
    ⟨(some 4),.mov (.t 14),none⟩]) <|
  .block 0 (.loop [1,3] [4] (.seq (.seq (.reg [⟨(some 15),.mov (.t 4),none⟩,
    ⟨(some 16),.len (.t 15),none⟩,
    ⟨(some 17),.bin .gtr (.t 16) (.c (.int .i64 0)),none⟩]) <|
  .cond (.t 17) (.skip) (.exit 0)) <|
  .block 1 (.seq (.reg [⟨(some 18),.mov (.t 4),none⟩,
    ⟨(some 19),.mov (.t 4),none⟩,
    ⟨(some 20),.len (.t 19),none⟩,
    ⟨(some 21),.bin .sub (.t 20) (.c (.int .i64 1)),none⟩,
    ⟨(some 22),.iadd (.t 18) (.t 21) 1,none⟩,
    ⟨(some 23),.ld (.t 22) 1 false,none⟩,
    ⟨(some 5),.mov (.t 23),none⟩]) <|
  .seq (.reg [⟨(some 24),.mov (.t 4),none⟩,
    ⟨(some 25),.mov (.t 4),none⟩,
    ⟨(some 26),.len (.t 25),none⟩,
    ⟨(some 27),.bin .sub (.t 26) (.c (.int .i64 1)),none⟩,
    ⟨(some 28),.pB (.t 24) none (some (.t 27)) none 1,none⟩,
    ⟨(some 4),.mov (.t 28),none⟩]) <|
  .seq (.reg [⟨(some 29),.fadd (.t 1) 7,none⟩,
    ⟨(some 30),.ld (.t 29) 1 false,none⟩,
    ⟨(some 31),.mov (.t 5),none⟩,
    ⟨(some 32),.iadd (.t 30) (.t 31) 14,none⟩,
    ⟨(some 33),.fadd (.t 32) 1,none⟩,
    ⟨(some 34),.ld (.t 33) 13 true,none⟩,
    ⟨(some 35),.call dZ [(.t 34)],none⟩,
    ⟨(some 36),.len (.t 35),none⟩,
    ⟨(some 37),.mov (.c (.int .i64 0)),none⟩]) <|
  .block 2 (.loop [1,3,35,36] [4,37] (.seq (.reg [⟨(some 38),.bin .lss (.t 37) (.t 36),none⟩]) <|
  .seq (.cond (.t 38) (.skip) (.exit 2)) <|
  .seqj [1,3,35,36,37] [4] (.block 3 (.seq (.reg [⟨(some 39),.iadd (.t 35) (.t 37) 1,none⟩,
    ⟨(some 40),.ld (.t 39) 1 false,none⟩,
    ⟨(some 7),.mov (.t 40),none⟩]) <|
  .seq (.reg [⟨(some 41),.mov (.t 3),none⟩,
    ⟨(some 42),.mov (.t 7),none⟩,
    ⟨(some 43),.iadd (.t 41) (.t 42) 1,none⟩,
    ⟨(some 44),.ld (.t 43) 1 false,none⟩,
    ⟨(some 45),.un .not (.t 44),none⟩]) <|
  .cond (.t 45) (.seq (.reg [⟨(some 46),.mov (.t 3),none⟩,
    ⟨(some 47),.mov (.t 7),none⟩,
    ⟨(some 48),.iadd (.t 46) (.t 47) 1,none⟩,
    ⟨none,.st (.t 48) (.c (.bool true)) 1,none⟩]) <|
  .reg [⟨(some 49),.mov (.t 4),none⟩,
    ⟨(some 50),.mov (.t 7),none⟩,
    ⟨(some 51),.bldS true 1 1 (.int .i64 0) [(0,(.t 50))],none⟩,
    ⟨(some 52),.app (.t 49) (.t 51) 1 8 (.int .i64 0),none⟩,
    ⟨(some 4),.mov (.t 52),none⟩]) (.skip))) <|
  .reg [⟨(some 53),.bin .add (.t 37) (.c (.int .i64 1)),none⟩,
    ⟨(some 37),.mov (.t 53),none⟩])))))) <|
  .seq (.reg [⟨(some 54),.mov (.t 3),none⟩,
    ⟨(some 2),.mov (.t 54),none⟩]) <|
  .ret,
  [.t 2]⟩
theorem vQ:cFn PP true mc tQ (cDr PP 55 wB)=some tm:=by kernel_rfl
def vo:Nat->Option (List Nat×List Nat)
  | _=>none
def xS:Nat->Option (List Nat×List Nat×List Nat)
  | _=>none
def kQ:av:=⟨26,
  .seq (.reg [⟨(some 1),.box (.t 0),none⟩,
    ⟨(some 2),.mov (.c .nil),none⟩]) <|
  .seq (.block 0 (.seq (.reg [⟨(some 4),.fadd (.t 1) 0,none⟩,
    ⟨(some 5),.ld (.t 4) 1 false,none⟩,
    ⟨(some 6),.bin .eql (.t 5) (.c (.int .i64 5)),none⟩,
    ⟨(some 3),.mov (.t 6),none⟩]) <|
  .cond (.t 3) (.seq (.reg [⟨(some 2),.mov (.c .nil),none⟩]) <|
  .ret) (.seq (.reg [⟨(some 8),.fadd (.t 1) 0,none⟩,
    ⟨(some 9),.ld (.t 8) 1 false,none⟩,
    ⟨(some 10),.bin .eql (.t 9) (.c (.int .i64 2)),none⟩,
    ⟨(some 11),.mov (.t 10),none⟩,
    ⟨(some 12),.fadd (.t 1) 11,some (11,true)⟩,
    ⟨(some 13),.iadda (.t 12) (.c (.int .i64 0)) 2 1,some (11,true)⟩,
    ⟨(some 14),.ld (.t 13) 1 false,some (11,true)⟩,
    ⟨(some 15),.fadd (.t 1) 11,some (11,true)⟩,
    ⟨(some 16),.iadda (.t 15) (.c (.int .i64 1)) 2 1,some (11,true)⟩,
    ⟨(some 17),.ld (.t 16) 1 false,some (11,true)⟩,
    ⟨(some 18),.bin .neq (.t 14) (.t 17),some (11,true)⟩,
    ⟨(some 19),.pick (.t 11) (.t 18) (.c (.bool false)),none⟩,
    ⟨(some 7),.mov (.t 19),none⟩]) <|
  .cond (.t 7) (.seq (.reg [⟨(some 20),.fadd (.t 1) 11,none⟩,
    ⟨(some 21),.Bc (.t 20) 2,none⟩,
    ⟨(some 2),.mov (.t 21),none⟩]) <|
  .ret) (.skip)))) <|
  .seq (.reg [⟨(some 22),.fadd (.t 1) 11,none⟩,
    ⟨(some 23),.iadda (.t 22) (.c (.int .i64 0)) 2 1,none⟩,
    ⟨(some 24),.ld (.t 23) 1 false,none⟩,
    ⟨(some 25),.bldS true 1 1 (.int .i64 0) [(0,(.t 24))],none⟩,
    ⟨(some 2),.mov (.t 25),none⟩]) <|
  .ret,
  [.t 2]⟩
theorem o4:cFn PP true dZ vo (cDr PP 26 xS)=some kQ:=by kernel_rfl
def uO (a0:D) (h0:Heap) (K:D->Heap->Prop):Prop :=
  aa PP (.box (.c a0)) h0 fun a2 h3 =>
  aa PP (.fadd (.c a2) 0) h3 fun a4 h5 =>
  aa PP (.ld (.c a4) 1 false) h5 fun a6 h7 =>
  vbin .eql a6 (.int .i64 5) fun a8 =>
  vcond a8 (K .nil h7) (
  aa PP (.fadd (.c a2) 0) h7 fun a9 h10 =>
  aa PP (.ld (.c a9) 1 false) h10 fun a11 h12 =>
  vbin .eql a11 (.int .i64 2) fun a13 =>
  vguard a13 true (fun G14 =>
  aa PP (.fadd (.c a2) 11) h12 fun a17 h18 =>
  G14 a17 h18) h12 fun a15 h16 =>
  vguard a13 true (fun G19 =>
  aa PP (.iadda (.c a15) (.c (.int .i64 0)) 2 1) h16 fun a22 h23 =>
  G19 a22 h23) h16 fun a20 h21 =>
  vguard a13 true (fun G24 =>
  aa PP (.ld (.c a20) 1 false) h21 fun a27 h28 =>
  G24 a27 h28) h21 fun a25 h26 =>
  vguard a13 true (fun G29 =>
  aa PP (.fadd (.c a2) 11) h26 fun a32 h33 =>
  G29 a32 h33) h26 fun a30 h31 =>
  vguard a13 true (fun G34 =>
  aa PP (.iadda (.c a30) (.c (.int .i64 1)) 2 1) h31 fun a37 h38 =>
  G34 a37 h38) h31 fun a35 h36 =>
  vguard a13 true (fun G39 =>
  aa PP (.ld (.c a35) 1 false) h36 fun a42 h43 =>
  G39 a42 h43) h36 fun a40 h41 =>
  vguard a13 true (fun G44 =>
  vbin .neq a25 a40 fun a47 =>
  G44 a47 h41) h41 fun a45 h46 =>
  aa PP (.pick (.c a13) (.c a45) (.c (.bool false))) h46 fun a48 h49 =>
  vcond a48 (aa PP (.fadd (.c a2) 11) h49 fun a50 h51 =>
  aa PP (.Bc (.c a50) 2) h51 fun a52 h53 =>
  K a52 h53) (
  aa PP (.fadd (.c a2) 11) h49 fun a54 h55 =>
  aa PP (.iadda (.c a54) (.c (.int .i64 0)) 2 1) h55 fun a56 h57 =>
  aa PP (.ld (.c a56) 1 false) h57 fun a58 h59 =>
  aa PP (.bldS true 1 1 (.int .i64 0) [(0,(.c a58))]) h59 fun a60 h61 =>
  K a60 h61))
theorem xA (a0:D) (h0:Heap) (K:D->Heap->Prop):uO a0 h0 K=vcC PP kQ.code (fun x e h'=>match x with|.exit _=>False|.pan=>False|.jump _=>False|_=>bO PP kQ.res K e h') (params [a0] 0) h0:=by kernel_rfl
end Go.Am
namespace Go.Am
open Go Go.Proofs
def pJ:Nat->Option (List Nat×List Nat)
  | 1000005=>some ([4,5],[])|_=>none
def rT:Nat->Option (List Nat×List Nat×List Nat)
  | _=>none
def m8:av:=⟨31,
  .seq (.reg [⟨(some 4),.alloc (.agg [(.int .i64 0),(.int .i64 0),(.int .i64 0),(.int .i64 0),(.int .i64 0),.nil,.nil,.nil]),none⟩]) <|
  .seq (.reg [⟨(some 6),.bld [(.int .i64 0),(.int .i64 0)] [(0,1,(.c (.int .i64 1))),(1,1,(.c (.int .i64 0)))],none⟩,
    ⟨(some 7),.bld [(.int .i64 0),(.int .i64 0),(.int .i64 0),(.int .i64 0),(.int .i32 0),(.int .i64 0),(.int .i64 0),(.int .i32 0),(.int .i64 0),(.int .i64 0),(.int .i32 0),(.int .i64 0),(.int .i64 0)] [(0,1,(.c (.int .i64 1))),(11,2,(.t 6))],none⟩,
    ⟨(some 8),.bld [.nil,(.int .i64 0),(.int .i64 0),(.int .i64 0),(.int .i64 0),(.int .i32 0),(.int .i64 0),(.int .i64 0),(.int .i32 0),(.int .i64 0),(.int .i64 0),(.int .i32 0),(.int .i64 0),(.int .i64 0)] [(1,13,(.t 7))],none⟩,
    ⟨(some 9),.mov (.t 0),none⟩,
    ⟨(some 10),.call bI [(.c (.int .i64 0))],none⟩,
    ⟨(some 11),.bld [(.int .i64 0),(.int .i64 0),(.int .i64 0),(.int .i64 0),(.int .i64 0),(.int .i32 0),(.int .i64 0),(.int .i64 0),(.int .i32 0),(.int .i64 0),(.int .i64 0),(.int .i32 0),(.int .i64 0),(.int .i64 0),(.int .i32 0)] [(0,1,(.c (.int .i64 5))),(1,1,(.t 9)),(3,3,(.t 10))],none⟩,
    ⟨(some 12),.bldS true 15 1 (.agg [(.int .i64 0),(.int .i64 0),(.int .i64 0),(.int .i64 0),(.int .i64 0),(.int .i32 0),(.int .i64 0),(.int .i64 0),(.int .i32 0),(.int .i64 0),(.int .i64 0),(.int .i32 0),(.int .i64 0),(.int .i64 0),(.int .i32 0)]) [(0,(.t 11))],none⟩,
    ⟨(some 13),.call bI [(.c (.int .i64 0))],none⟩,
    ⟨(some 14),.bld [(.int .i64 0),(.int .i64 0)] [(0,1,(.c (.int .i64 2))),(1,1,(.c (.int .i64 3)))],none⟩,
    ⟨(some 15),.bld [(.int .i64 0),(.int .i64 0),(.int .i64 0),(.int .i64 0),(.int .i32 0),(.int .i64 0),(.int .i64 0),(.int .i32 0),(.int .i64 0),(.int .i64 0),(.int .i32 0),(.int .i64 0),(.int .i64 0)] [(0,1,(.c (.int .i64 2))),(5,3,(.t 13)),(11,2,(.t 14))],none⟩,
    ⟨(some 16),.bld [.nil,(.int .i64 0),(.int .i64 0),(.int .i64 0),(.int .i64 0),(.int .i32 0),(.int .i64 0),(.int .i64 0),(.int .i32 0),(.int .i64 0),(.int .i64 0),(.int .i32 0),(.int .i64 0),(.int .i64 0)] [(0,1,(.t 12)),(1,13,(.t 15))],none⟩,
    ⟨(some 17),.bld [(.int .i64 0),(.int .i64 0)] [(0,1,(.c (.int .i64 1))),(1,1,(.c (.int .i64 0)))],none⟩,
    ⟨(some 18),.bld [(.int .i64 0),(.int .i64 0),(.int .i64 0),(.int .i64 0),(.int .i32 0),(.int .i64 0),(.int .i64 0),(.int .i32 0),(.int .i64 0),(.int .i64 0),(.int .i32 0),(.int .i64 0),(.int .i64 0)] [(0,1,(.c (.int .i64 3))),(11,2,(.t 17))],none⟩,
    ⟨(some 19),.bld [.nil,(.int .i64 0),(.int .i64 0),(.int .i64 0),(.int .i64 0),(.int .i32 0),(.int .i64 0),(.int .i64 0),(.int .i32 0),(.int .i64 0),(.int .i64 0),(.int .i32 0),(.int .i64 0),(.int .i64 0)] [(1,13,(.t 18))],none⟩,
    ⟨(some 20),.bld [(.int .i64 0),(.int .i64 0),(.int .i64 0),(.int .i64 0),(.int .i32 0),(.int .i64 0),(.int .i64 0),(.int .i32 0),(.int .i64 0),(.int .i64 0),(.int .i32 0),(.int .i64 0),(.int .i64 0)] [(0,1,(.c (.int .i64 5)))],none⟩,
    ⟨(some 21),.bld [.nil,(.int .i64 0),(.int .i64 0),(.int .i64 0),(.int .i64 0),(.int .i32 0),(.int .i64 0),(.int .i64 0),(.int .i32 0),(.int .i64 0),(.int .i64 0),(.int .i32 0),(.int .i64 0),(.int .i64 0)] [(1,13,(.t 20))],none⟩,
    ⟨(some 22),.bldS true 14 4 (.agg [.nil,(.int .i64 0),(.int .i64 0),(.int .i64 0),(.int .i64 0),(.int .i32 0),(.int .i64 0),(.int .i64 0),(.int .i32 0),(.int .i64 0),(.int .i64 0),(.int .i32 0),(.int .i64 0),(.int .i64 0)]) [(0,(.t 8)),(1,(.t 16)),(2,(.t 19)),(3,(.t 21))],none⟩,
    ⟨(some 23),.bld [(.int .i64 0),(.int .i64 0),(.int .i64 0),(.int .i64 0),(.int .i64 0),.nil,.nil,.nil] [(0,1,(.c (.int .i64 4))),(1,1,(.c (.int .i64 1))),(2,1,(.c (.int .i64 1))),(7,1,(.t 22))],none⟩,
    ⟨(some 5),.alloc (.agg [(.int .i64 0),(.int .i64 0),(.int .i64 0),(.int .i64 0),(.int .i64 0),.nil,.nil,.nil]),none⟩,
    ⟨none,.st (.t 5) (.t 23) 8,none⟩]) <|
  .seqj [4,5] [] (.seq (.reg [⟨(some 24),.mov (.t 1),none⟩]) <|
  .cond (.t 24) (.reg [⟨(some 25),.fadd (.t 5) 7,none⟩,
    ⟨(some 26),.ld (.t 25) 1 false,none⟩,
    ⟨(some 27),.iadd (.t 26) (.c (.int .i64 0)) 14,none⟩,
    ⟨(some 28),.fadd (.t 27) 1,none⟩,
    ⟨(some 29),.fadd (.t 28) 0,none⟩,
    ⟨none,.st (.t 29) (.c (.int .i64 3)) 1,none⟩]) (.skip)) <|
  .seq (.reg [⟨(some 30),.ld (.t 5) 8 true,none⟩,
    ⟨none,.st (.t 4) (.t 30) 8,none⟩]) <|
  .ret,
  [.cell 4 8 true]⟩
theorem ru:cFn PP true iR pJ (cDr PP 31 rT)=some m8:=by kernel_rfl
def lC:Nat->Option (List Nat×List Nat)
  | 1000009=>some ([1,2],[3])|5=>some ([1,2],[3,4])|_=>none
def nO:Nat->Option (List Nat×List Nat×List Nat)
  | 7=>some ([0,0,0,4,0,28,60,124,254,0,512,0,3584,7680,15872,32766,65534,131071,262143],[1,8,16,17,18],[999999])|_=>none
noncomputable def mF:av:=⟨44,fq (cFn PP true jv lC (cDr PP 44 nO)),
  [.cell 2 8 true]⟩
theorem vM:cFn PP true jv lC (cDr PP 44 nO)=some mF:=by kernel_rfl
def mT (a30:D) (h31:Heap) (a2:D) (a4:D) (J32:List D->Heap->Prop):Prop :=
  ∃(I44:Nat->List D->Heap->Prop) (n₀:Nat),I44 n₀ [a30,(.int .i64 0)] h31/\∀(n45:Nat) (f46:Nat->D) (h47:Heap),I44 n45 [f46 3,f46 4] h47 ->
  aa PP (.fadd (.c a2) 7) h47 fun a48 h49 =>
  aa PP (.ld (.c a48) 1 false) h49 fun a50 h51 =>
  cN a50 h51 fun a52 =>
  vbin .lss (f46 4) a52 fun a53 =>
  vcond a53 (af PP (.fadd (.c a2) 7) h51 fun a54 =>
  af PP (.ld (.c a54) 1 false) h51 fun a55 =>
  af PP (.iadd (.c a55) (.c (f46 4)) 14) h51 fun a56 =>
  af PP (.fadd (.c a56) 0) h51 fun a57 =>
  af PP (.ld (.c a57) 1 false) h51 fun a58 =>
  af PP (.fadd (.c a2) 7) h51 fun a59 =>
  af PP (.ld (.c a59) 1 false) h51 fun a60 =>
  af PP (.iadd (.c a60) (.c (f46 4)) 14) h51 fun a61 =>
  af PP (.fadd (.c a61) 1) h51 fun a62 =>
  af PP (.ld (.c a62) 13 true) h51 fun a63 =>
  aa PP (.bldS true 15 0 (.agg [(.int .i64 0),(.int .i64 0),(.int .i64 0),(.int .i64 0),(.int .i64 0),(.int .i32 0),(.int .i64 0),(.int .i64 0),(.int .i32 0),(.int .i64 0),(.int .i64 0),(.int .i32 0),(.int .i64 0),(.int .i64 0),(.int .i32 0)]) []) h51 fun a64 h65 =>
  ((af PP (.fadd (.c a2) 7) h65 fun a66=>bw [a66] [a54])/\(af PP (.ld (.c a54) 1 false) h65 fun a67=>bw [a67] [a55])/\(af PP (.iadd (.c a55) (.c (f46 4)) 14) h65 fun a68=>bw [a68] [a56])/\(af PP (.fadd (.c a56) 0) h65 fun a69=>bw [a69] [a57])/\(af PP (.ld (.c a57) 1 false) h65 fun a70=>bw [a70] [a58])/\(af PP (.fadd (.c a2) 7) h65 fun a71=>bw [a71] [a59])/\(af PP (.ld (.c a59) 1 false) h65 fun a72=>bw [a72] [a60])/\(af PP (.iadd (.c a60) (.c (f46 4)) 14) h65 fun a73=>bw [a73] [a61])/\(af PP (.fadd (.c a61) 1) h65 fun a74=>bw [a74] [a62])/\(af PP (.ld (.c a62) 13 true) h65 fun a75=>bw [a75] [a63])/\True) /\
  aa PP (.app (.c a64) (.c a58) 15 120 (.agg [(.int .i64 0),(.int .i64 0),(.int .i64 0),(.int .i64 0),(.int .i64 0),(.int .i32 0),(.int .i64 0),(.int .i64 0),(.int .i32 0),(.int .i64 0),(.int .i64 0),(.int .i32 0),(.int .i64 0),(.int .i64 0),(.int .i32 0)])) h65 fun a76 h77 =>
  ((af PP (.fadd (.c a2) 7) h77 fun a78=>bw [a78] [a59])/\(af PP (.ld (.c a59) 1 false) h77 fun a79=>bw [a79] [a60])/\(af PP (.iadd (.c a60) (.c (f46 4)) 14) h77 fun a80=>bw [a80] [a61])/\(af PP (.fadd (.c a61) 1) h77 fun a81=>bw [a81] [a62])/\(af PP (.ld (.c a62) 13 true) h77 fun a82=>bw [a82] [a63])/\True) /\
  af PP (.bld [.nil,(.int .i64 0),(.int .i64 0),(.int .i64 0),(.int .i64 0),(.int .i32 0),(.int .i64 0),(.int .i64 0),(.int .i32 0),(.int .i64 0),(.int .i64 0),(.int .i32 0),(.int .i64 0),(.int .i64 0)] [(0,1,(.c a76)),(1,13,(.c a63))]) h77 fun a83 =>
  aa PP (.bldS true 14 1 (.agg [.nil,(.int .i64 0),(.int .i64 0),(.int .i64 0),(.int .i64 0),(.int .i32 0),(.int .i64 0),(.int .i64 0),(.int .i32 0),(.int .i64 0),(.int .i64 0),(.int .i32 0),(.int .i64 0),(.int .i64 0)]) [(0,(.c a83))]) h77 fun a84 h85 =>
  aa PP (.app (.c (f46 3)) (.c a84) 14 128 (.agg [.nil,(.int .i64 0),(.int .i64 0),(.int .i64 0),(.int .i64 0),(.int .i32 0),(.int .i64 0),(.int .i64 0),(.int .i32 0),(.int .i64 0),(.int .i64 0),(.int .i32 0),(.int .i64 0),(.int .i64 0)])) h85 fun a86 h87 =>
  vbin .add (f46 4) (.int .i64 1) fun a88 =>
  bw [a2,a4] [a2,a4]/\∃m,m<n45/\I44 m [a86,a88] h87) (
  bw [a2,a4] [a2,a4]/\J32 [(f46 3)] h51)
def sS (a0:D) (h0:Heap) (K:D->Heap->Prop):Prop :=
  aa PP (.box (.c a0)) h0 fun a2 h3 =>
  aa PP (.alloc (.agg [(.int .i64 0),(.int .i64 0),(.int .i64 0),(.int .i64 0),(.int .i64 0),.nil,.nil,.nil])) h3 fun a4 h5 =>
  aa PP (.bldS true 4 0 (.agg [(.str ⟨#[]⟩),(.int .i64 0),(.int .i64 0),(.int .i64 0)]) []) h5 fun a6 h7 =>
  aa PP (.fadd (.c a2) 5) h7 fun a8 h9 =>
  aa PP (.ld (.c a8) 1 false) h9 fun a10 h11 =>
  aa PP (.app (.c a6) (.c a10) 4 40 (.agg [(.str ⟨#[]⟩),(.int .i64 0),(.int .i64 0),(.int .i64 0)])) h11 fun a12 h13 =>
  aa PP (.fadd (.c a2) 5) h13 fun a14 h15 =>
  aa PP (.st (.c a14) (.c a12) 1) h15 fun a16 h17 =>
  aa PP (.bldS true 3 0 (.agg [(.int .i64 0),(.int .i64 0),(.int .i64 0)]) []) h17 fun a18 h19 =>
  aa PP (.fadd (.c a2) 6) h19 fun a20 h21 =>
  aa PP (.ld (.c a20) 1 false) h21 fun a22 h23 =>
  aa PP (.app (.c a18) (.c a22) 3 24 (.agg [(.int .i64 0),(.int .i64 0),(.int .i64 0)])) h23 fun a24 h25 =>
  aa PP (.fadd (.c a2) 6) h25 fun a26 h27 =>
  aa PP (.st (.c a26) (.c a24) 1) h27 fun a28 h29 =>
  aa PP (.bldS true 14 0 (.agg [.nil,(.int .i64 0),(.int .i64 0),(.int .i64 0),(.int .i64 0),(.int .i32 0),(.int .i64 0),(.int .i64 0),(.int .i32 0),(.int .i64 0),(.int .i64 0),(.int .i32 0),(.int .i64 0),(.int .i64 0)]) []) h29 fun a30 h31 =>
  ∃(J32:List D->Heap->Prop),(∀(f33:Nat->D) (h34:Heap),J32 [f33 3] h34 ->
  aa PP (.fadd (.c a2) 7) h34 fun a35 h36 =>
  aa PP (.st (.c a35) (.c (f33 3)) 1) h36 fun a37 h38 =>
  aa PP (.ld (.c a2) 8 true) h38 fun a39 h40 =>
  aa PP (.st (.c a4) (.c a39) 8) h40 fun a41 h42 =>
  aa PP (.ld (.c a4) 8 true) h42 fun a43 _ =>
  K a43 h42) /\
  mT a30 h31 a2 a4 J32
theorem vw (a0:D) (h0:Heap) (K:D->Heap->Prop):sS a0 h0 K=vcC PP mF.code (fun x e h'=>match x with|.exit _=>False|.pan=>False|.jump _=>False|_=>bO PP mF.res K e h') (params [a0] 0) h0:=by kernel_rfl
def gl:Nat->Option (List Nat×List Nat)
  | _=>none
def iv:Nat->Option (List Nat×List Nat×List Nat)
  | 2=>some ([0,1,3,7,0,16,48,112,240,511],[],[])|4=>some ([0,1,3,7,0,16,48,112,240,511,1023,2047,4095],[],[])|_=>none
noncomputable def fC:av:=⟨32,fq (cFn PP true ah gl (cDr PP 32 iv)),
  [.t 2]⟩
theorem nC:cFn PP true ah gl (cDr PP 32 iv)=some fC:=by kernel_rfl
def jT (a0:D) (h0:Heap) (K:D->Heap->Prop):Prop :=
  aa PP (.fadd (.c a0) 0) h0 fun a2 h3 =>
  aa PP (.fadd (.c a2) 1) h3 fun a4 h5 =>
  aa PP (.ld (.c a4) 1 false) h5 fun a6 h7 =>
  vbin .add a6 (.int .i64 1) fun a8 =>
  aa PP (.fadd (.c a0) 0) h7 fun a9 h10 =>
  aa PP (.fadd (.c a9) 1) h10 fun a11 h12 =>
  aa PP (.st (.c a11) (.c a8) 1) h12 fun a13 h14 =>
  af PP (.fadd (.c a0) 0) h14 fun a15 =>
  af PP (.fadd (.c a15) 1) h14 fun a16 =>
  af PP (.ld (.c a16) 1 false) h14 fun a17 =>
  af PP (.fadd (.c a0) 0) h14 fun a18 =>
  af PP (.fadd (.c a18) 0) h14 fun a19 =>
  af PP (.ld (.c a19) 1 false) h14 fun a20 =>
  cN a20 h14 fun a21 =>
  vbin .gtr a17 a21 fun a22 =>
  vcond a22 (K (.int .i64 0) h14) (
  af PP (.fadd (.c a0) 0) h14 fun a23 =>
  af PP (.fadd (.c a23) 0) h14 fun a24 =>
  af PP (.ld (.c a24) 1 false) h14 fun a25 =>
  af PP (.fadd (.c a0) 0) h14 fun a26 =>
  af PP (.fadd (.c a26) 1) h14 fun a27 =>
  af PP (.ld (.c a27) 1 false) h14 fun a28 =>
  vbin .sub a28 (.int .i64 1) fun a29 =>
  af PP (.iadd (.c a25) (.c a29) 1) h14 fun a30 =>
  af PP (.ld (.c a30) 1 false) h14 fun a31 =>
  af PP (.conv .i64 (.c a31)) h14 fun a32 =>
  K a32 h14)
theorem nr (a0:D) (h0:Heap) (K:D->Heap->Prop):jT a0 h0 K=vcC PP fC.code (fun x e h'=>match x with|.exit _=>False|.pan=>False|.jump _=>False|_=>bO PP fC.res K e h') (params [a0] 0) h0:=by kernel_rfl
def jO:Nat->Option (List Nat×List Nat)
  | _=>none
def ll:Nat->Option (List Nat×List Nat×List Nat)
  | _=>none
noncomputable def jZ:av:=⟨7,fq (cFn PP true gj jO (cDr PP 7 ll)),
  [.t 0]⟩
theorem tg:cFn PP true gj jO (cDr PP 7 ll)=some jZ:=by kernel_rfl
def oM (h0:Heap) (K:D->Heap->Prop):Prop :=
  aa PP (.bld [(.str ⟨#[]⟩),(.int .i64 0),(.int .i64 0),(.int .i64 0)] [(0,1,(.c (.str ⟨#[97]⟩))),(1,1,(.c (.int .i64 1))),(2,1,(.c (.int .i64 1))),(3,1,(.c (.int .i64 8)))]) h0 fun a1 h2 =>
  aa PP (.bld [(.str ⟨#[]⟩),(.int .i64 0),(.int .i64 0),(.int .i64 0)] [(0,1,(.c (.str ⟨#[102]⟩))),(1,1,(.c (.int .i64 1))),(2,1,(.c (.int .i64 2))),(3,1,(.c (.int .i64 4)))]) h2 fun a3 h4 =>
  aa PP (.bld [(.str ⟨#[]⟩),(.int .i64 0),(.int .i64 0),(.int .i64 0)] [(0,1,(.c (.str ⟨#[115]⟩))),(1,1,(.c (.int .i64 2))),(2,1,(.c (.int .i64 1))),(3,1,(.c (.int .i64 8)))]) h4 fun a5 h6 =>
  aa PP (.bld [(.str ⟨#[]⟩),(.int .i64 0),(.int .i64 0),(.int .i64 0)] [(0,1,(.c (.str ⟨#[112]⟩))),(1,1,(.c (.int .i64 3))),(2,1,(.c (.int .i64 1))),(3,1,(.c (.int .i64 4)))]) h6 fun a7 h8 =>
  aa PP (.bld [(.str ⟨#[]⟩),(.int .i64 0),(.int .i64 0),(.int .i64 0)] [(0,1,(.c (.str ⟨#[98]⟩))),(1,1,(.c (.int .i64 2))),(2,1,(.c (.int .i64 3))),(3,1,(.c (.int .i64 4)))]) h8 fun a9 h10 =>
  aa PP (.bldS true 4 5 (.agg [(.str ⟨#[]⟩),(.int .i64 0),(.int .i64 0),(.int .i64 0)]) [(0,(.c a1)),(1,(.c a3)),(2,(.c a5)),(3,(.c a7)),(4,(.c a9))]) h10 fun a11 h12 =>
  K a11 h12
theorem sT (h0:Heap) (K:D->Heap->Prop):oM h0 K=vcC PP jZ.code (fun x e h'=>match x with|.exit _=>False|.pan=>False|.jump _=>False|_=>bO PP jZ.res K e h') (params [] 0) h0:=by kernel_rfl
def fp:Nat->Option (List Nat×List Nat)
  | 1000012=>some ([0],[])|4=>some ([0,5],[6])|1000011=>some ([0,5,6],[])|_=>none
def gb:Nat->Option (List Nat×List Nat×List Nat)
  | 9=>some ([0,1,3,7,15,0,0,64,0,256,0,1216,0,0,12288,31936,65472,0,131072,0,527552,0,0,6291456,16256192,33426624,67108800,134217664,268435455,536870911,1073741823],[7,11,20,30],[999999])|_=>none
noncomputable def eo:av:=⟨77,fq (cFn PP true bP fp (cDr PP 77 gb)),
  []⟩
theorem lQ:cFn PP true bP fp (cDr PP 77 gb)=some eo:=by kernel_rfl
def fR (a14:D) (h12:Heap) (a15:D) (a0:D) (J16:List D->Heap->Prop):Prop :=
  ∃(I21:Nat->List D->Heap->Prop) (n₀:Nat),I21 n₀ [a14] h12/\∀(n22:Nat) (f23:Nat->D) (h24:Heap),I21 n22 [f23 6] h24 ->
  vbin .lss (f23 6) a15 fun a25 =>
  vcond a25 (ae PP bl [a0] h24 fun a26 h27 =>
  aa PP (.fadd (.c a0) 0) h27 fun a28 h29 =>
  aa PP (.fadd (.c a28) 2) h29 fun a30 h31 =>
  aa PP (.fadd (.c a30) 7) h31 fun a32 h33 =>
  aa PP (.ld (.c a32) 1 false) h33 fun a34 h35 =>
  vbin .add (f23 6) (.int .i64 1) fun a36 =>
  aa PP (.bld [(.int .i64 0),(.int .i64 0)] [(0,1,(.c a36)),(1,1,(.c (.int .i64 0)))]) h35 fun a37 h38 =>
  aa PP (.bld [(.int .i64 0),(.int .i64 0),(.int .i64 0),(.int .i64 0),(.int .i32 0),(.int .i64 0),(.int .i64 0),(.int .i32 0),(.int .i64 0),(.int .i64 0),(.int .i32 0),(.int .i64 0),(.int .i64 0)] [(0,1,(.c (.int .i64 1))),(11,2,(.c a37))]) h38 fun a39 h40 =>
  aa PP (.iadd (.c a34) (.c (f23 6)) 14) h40 fun a41 h42 =>
  aa PP (.fadd (.c a41) 1) h42 fun a43 h44 =>
  aa PP (.st (.c a43) (.c a39) 13) h44 fun a45 h46 =>
  ∃(J47:List D->Heap->Prop),(∀(f48:Nat->D) (h49:Heap),J47 [] h49 ->
  ae PP aN [a0] h49 fun a50 h51 =>
  vbin .add (f23 6) (.int .i64 1) fun a52 =>
  bw [a0,a15] [a0,a15]/\∃m,m<n22/\I21 m [a52] h51) /\
  ae PP ah [a0] h46 fun a53 h54 =>
  vbin .rem a53 (.int .i64 2) fun a55 =>
  vbin .eql a55 (.int .i64 0) fun a56 =>
  vcond a56 (af PP (.fadd (.c a0) 0) h54 fun a57 =>
  af PP (.fadd (.c a57) 2) h54 fun a58 =>
  af PP (.fadd (.c a58) 7) h54 fun a59 =>
  af PP (.ld (.c a59) 1 false) h54 fun a60 =>
  vbin .add (f23 6) (.int .i64 1) fun a61 =>
  vbin .sub a15 (f23 6) fun a62 =>
  vbin .add (f23 6) (.int .i64 1) fun a63 =>
  vbin .sub a15 (f23 6) fun a64 =>
  ae PP aK [a0] h54 fun a65 h66 =>
  ((af PP (.fadd (.c a0) 0) h66 fun a67=>bw [a67] [a57])/\(af PP (.fadd (.c a57) 2) h66 fun a68=>bw [a68] [a58])/\(af PP (.fadd (.c a58) 7) h66 fun a69=>bw [a69] [a59])/\(af PP (.ld (.c a59) 1 false) h66 fun a70=>bw [a70] [a60])/\True) /\
  ae PP ah [a0] h66 fun a71 h72 =>
  ((af PP (.fadd (.c a0) 0) h72 fun a73=>bw [a73] [a57])/\(af PP (.fadd (.c a57) 2) h72 fun a74=>bw [a74] [a58])/\(af PP (.fadd (.c a58) 7) h72 fun a75=>bw [a75] [a59])/\(af PP (.ld (.c a59) 1 false) h72 fun a76=>bw [a76] [a60])/\True) /\
  vbin .rem a71 a62 fun a77 =>
  vbin .add a61 a77 fun a78 =>
  ae PP ah [a0] h72 fun a79 h80 =>
  ((af PP (.fadd (.c a0) 0) h80 fun a81=>bw [a81] [a57])/\(af PP (.fadd (.c a57) 2) h80 fun a82=>bw [a82] [a58])/\(af PP (.fadd (.c a58) 7) h80 fun a83=>bw [a83] [a59])/\(af PP (.ld (.c a59) 1 false) h80 fun a84=>bw [a84] [a60])/\True) /\
  vbin .rem a79 a64 fun a85 =>
  vbin .add a63 a85 fun a86 =>
  af PP (.bld [(.int .i64 0),(.int .i64 0)] [(0,1,(.c a78)),(1,1,(.c a86))]) h80 fun a87 =>
  af PP (.bld [(.int .i64 0),(.int .i64 0),(.int .i64 0),(.int .i64 0),(.int .i32 0),(.int .i64 0),(.int .i64 0),(.int .i32 0),(.int .i64 0),(.int .i64 0),(.int .i32 0),(.int .i64 0),(.int .i64 0)] [(0,1,(.c (.int .i64 2))),(5,3,(.c a65)),(11,2,(.c a87))]) h80 fun a88 =>
  af PP (.iadd (.c a60) (.c (f23 6)) 14) h80 fun a89 =>
  af PP (.fadd (.c a89) 1) h80 fun a90 =>
  aa PP (.st (.c a90) (.c a88) 13) h80 fun a91 h92 =>
  bw [a0,a15,(f23 6)] [a0,a15,(f23 6)]/\J47 [] h92) (
  bw [a0,a15,(f23 6)] [a0,a15,(f23 6)]/\J47 [] h54)) (
  bw [a0] [a0]/\J16 [] h24)
def iH (a0:D) (a1:D) (h0:Heap) (K:D->Heap->Prop):Prop :=
  ae PP aN [a0] h0 fun a3 h4 =>
  aa PP (.fadd (.c a0) 0) h4 fun a5 h6 =>
  aa PP (.fadd (.c a5) 2) h6 fun a7 h8 =>
  aa PP (.fadd (.c a7) 7) h8 fun a9 h10 =>
  aa PP (.ld (.c a9) 1 false) h10 fun a11 h12 =>
  cN a11 h12 fun a13 =>
  vbin .sub a13 (.int .i64 1) fun a14 =>
  vbin .add a14 a1 fun a15 =>
  ∃(J16:List D->Heap->Prop),(∀(f17:Nat->D) (h18:Heap),J16 [] h18 ->
  ae PP bl [a0] h18 fun a19 h20 =>
  K (.tup []) h20) /\
  fR a14 h12 a15 a0 J16
theorem lL (a0:D) (a1:D) (h0:Heap) (K:D->Heap->Prop):iH a0 a1 h0 K=vcC PP eo.code (fun x e h'=>match x with|.exit _=>False|.pan=>False|.jump _=>False|_=>bO PP eo.res K e h') (params [a0,a1] 0) h0:=by kernel_rfl
def gp:Nat->Option (List Nat×List Nat)
  | 1000008=>some ([],[0,2,3,4])|1000016=>some ([],[0,4,119])|_=>none
def iw:Nat->Option (List Nat×List Nat×List Nat)
  | 9=>some ([0,1,3,7,15,0,0,64,192,0,512,0,2048,7680,16320,32767,65535,131071],[17],[])|15=>some ([0,1,3,7,15,0,32,0,128,0,0,1024,3584,8064,16383,32767,65535],[8,16],[999999])|_=>none
noncomputable def fF:av:=⟨136,fq (cFn PP true bK gp (cDr PP 136 iw)),
  []⟩
theorem nE:cFn PP true bK gp (cDr PP 136 iw)=some fF:=by kernel_rfl
def jU (a0:D) (h0:Heap) (K:D->Heap->Prop):Prop :=
  aa PP (.fadd (.c a0) 0) h0 fun a2 h3 =>
  aa PP (.fadd (.c a2) 2) h3 fun a4 h5 =>
  aa PP (.fadd (.c a4) 6) h5 fun a6 h7 =>
  aa PP (.ld (.c a6) 1 false) h7 fun a8 h9 =>
  cN a8 h9 fun a10 =>
  vbin .mul (.int .i64 2) a10 fun a11 =>
  vbin .add (.int .i64 6) a11 fun a12 =>
  ae PP ah [a0] h9 fun a13 h14 =>
  vbin .rem a13 (.int .i64 3) fun a15 =>
  vbin .add (.int .i64 1) a15 fun a16 =>
  vbin .add a12 (.int .i64 2) fun a17 =>
  aa PP (.fadd (.c a0) 0) h14 fun a18 h19 =>
  aa PP (.fadd (.c a18) 2) h19 fun a20 h21 =>
  aa PP (.fadd (.c a20) 2) h21 fun a22 h23 =>
  aa PP (.st (.c a22) (.c a17) 1) h23 fun a24 h25 =>
  aa PP (.fadd (.c a0) 0) h25 fun a26 h27 =>
  aa PP (.fadd (.c a26) 2) h27 fun a28 h29 =>
  aa PP (.fadd (.c a28) 7) h29 fun a30 h31 =>
  aa PP (.ld (.c a30) 1 false) h31 fun a32 h33 =>
  cN a32 h33 fun a34 =>
  ae PP bI [a12] h33 fun a35 h36 =>
  ae PP cj [(.int .i32 0)] h36 fun a37 h38 =>
  aa PP (.bld [(.int .i64 0),(.int .i64 0),(.int .i64 0),(.int .i64 0),(.int .i64 0),(.int .i32 0),(.int .i64 0),(.int .i64 0),(.int .i32 0),(.int .i64 0),(.int .i64 0),(.int .i32 0),(.int .i64 0),(.int .i64 0),(.int .i32 0)] [(0,1,(.c (.int .i64 1))),(3,3,(.c a35)),(6,3,(.c a37))]) h38 fun a39 h40 =>
  ae PP aw [a0,a39] h40 fun a41 h42 =>
  aa PP (.fadd (.c a0) 0) h42 fun a43 h44 =>
  aa PP (.fadd (.c a43) 2) h44 fun a45 h46 =>
  aa PP (.fadd (.c a45) 7) h46 fun a47 h48 =>
  aa PP (.ld (.c a47) 1 false) h48 fun a49 h50 =>
  vbin .sub a34 (.int .i64 1) fun a51 =>
  aa PP (.bld [(.int .i64 0),(.int .i64 0)] [(0,1,(.c a34)),(1,1,(.c (.int .i64 0)))]) h50 fun a52 h53 =>
  aa PP (.bld [(.int .i64 0),(.int .i64 0),(.int .i64 0),(.int .i64 0),(.int .i32 0),(.int .i64 0),(.int .i64 0),(.int .i32 0),(.int .i64 0),(.int .i64 0),(.int .i32 0),(.int .i64 0),(.int .i64 0)] [(0,1,(.c (.int .i64 1))),(11,2,(.c a52))]) h53 fun a54 h55 =>
  aa PP (.iadd (.c a49) (.c a51) 14) h55 fun a56 h57 =>
  aa PP (.fadd (.c a56) 1) h57 fun a58 h59 =>
  aa PP (.st (.c a58) (.c a54) 13) h59 fun a60 h61 =>
  ∃(J62:List D->Heap->Prop),(∀(f63:Nat->D) (h64:Heap),J62 [f63 0,f63 2,f63 3,f63 4] h64 ->
  ae PP aN [(f63 0)] h64 fun a65 h66 =>
  vbin .add (f63 2) (.int .i64 1) fun a67 =>
  ae PP bI [a67] h66 fun a68 h69 =>
  ae PP bI [(f63 2)] h69 fun a70 h71 =>
  aa PP (.conv .i32 (.c (f63 3))) h71 fun a72 h73 =>
  ae PP cj [a72] h73 fun a74 h75 =>
  aa PP (.bld [(.int .i64 0),(.int .i64 0),(.int .i64 0),(.int .i64 0),(.int .i64 0),(.int .i32 0),(.int .i64 0),(.int .i64 0),(.int .i32 0),(.int .i64 0),(.int .i64 0),(.int .i32 0),(.int .i64 0),(.int .i64 0),(.int .i32 0)] [(0,1,(.c (.int .i64 3))),(1,1,(.c (.int .i64 26))),(3,3,(.c a68)),(6,3,(.c a70)),(9,3,(.c a74))]) h75 fun a76 h77 =>
  ae PP aw [(f63 0),a76] h77 fun a78 h79 =>
  af PP (.fadd (.c (f63 0)) 0) h79 fun a80 =>
  af PP (.fadd (.c a80) 2) h79 fun a81 =>
  af PP (.fadd (.c a81) 7) h79 fun a82 =>
  af PP (.ld (.c a82) 1 false) h79 fun a83 =>
  vbin .add (f63 2) (.int .i64 1) fun a84 =>
  af PP (.call bI [(.c a84)]) h79 fun a85 =>
  vbin .add (f63 4) (.int .i64 1) fun a86 =>
  vbin .add (f63 4) (.int .i64 2) fun a87 =>
  af PP (.bld [(.int .i64 0),(.int .i64 0)] [(0,1,(.c a86)),(1,1,(.c a87))]) h79 fun a88 =>
  af PP (.bld [(.int .i64 0),(.int .i64 0),(.int .i64 0),(.int .i64 0),(.int .i32 0),(.int .i64 0),(.int .i64 0),(.int .i32 0),(.int .i64 0),(.int .i64 0),(.int .i32 0),(.int .i64 0),(.int .i64 0)] [(0,1,(.c (.int .i64 2))),(5,3,(.c a85)),(11,2,(.c a88))]) h79 fun a89 =>
  af PP (.iadd (.c a83) (.c (f63 4)) 14) h79 fun a90 =>
  af PP (.fadd (.c a90) 1) h79 fun a91 =>
  aa PP (.st (.c a91) (.c a89) 13) h79 fun a92 h93 =>
  ae PP aN [(f63 0)] h93 fun a94 h95 =>
  ae PP bI [(f63 2)] h95 fun a96 h97 =>
  ae PP bI [(f63 2)] h97 fun a98 h99 =>
  ae PP cj [(.int .i32 1)] h99 fun a100 h101 =>
  aa PP (.bld [(.int .i64 0),(.int .i64 0),(.int .i64 0),(.int .i64 0),(.int .i64 0),(.int .i32 0),(.int .i64 0),(.int .i64 0),(.int .i32 0),(.int .i64 0),(.int .i64 0),(.int .i32 0),(.int .i64 0),(.int .i64 0),(.int .i32 0)] [(0,1,(.c (.int .i64 3))),(1,1,(.c (.int .i64 10))),(3,3,(.c a96)),(6,3,(.c a98)),(9,3,(.c a100))]) h101 fun a102 h103 =>
  ae PP aw [(f63 0),a102] h103 fun a104 h105 =>
  ae PP bl [(f63 0)] h105 fun a106 h107 =>
  aa PP (.fadd (.c (f63 0)) 0) h107 fun a108 h109 =>
  aa PP (.fadd (.c a108) 2) h109 fun a110 h111 =>
  aa PP (.fadd (.c a110) 7) h111 fun a112 h113 =>
  aa PP (.ld (.c a112) 1 false) h113 fun a114 h115 =>
  vbin .add (f63 4) (.int .i64 1) fun a116 =>
  aa PP (.bld [(.int .i64 0),(.int .i64 0)] [(0,1,(.c (f63 4))),(1,1,(.c (.int .i64 0)))]) h115 fun a117 h118 =>
  aa PP (.bld [(.int .i64 0),(.int .i64 0),(.int .i64 0),(.int .i64 0),(.int .i32 0),(.int .i64 0),(.int .i64 0),(.int .i32 0),(.int .i64 0),(.int .i64 0),(.int .i32 0),(.int .i64 0),(.int .i64 0)] [(0,1,(.c (.int .i64 1))),(11,2,(.c a117))]) h118 fun a119 h120 =>
  aa PP (.iadd (.c a114) (.c a116) 14) h120 fun a121 h122 =>
  aa PP (.fadd (.c a121) 1) h122 fun a123 h124 =>
  aa PP (.st (.c a123) (.c a119) 13) h124 fun a125 h126 =>
  ∃(J127:List D->Heap->Prop),(∀(f128:Nat->D) (h129:Heap),J127 [f128 0,f128 4,f128 119] h129 ->
  vcond (f128 119) (af PP (.fadd (.c (f128 0)) 0) h129 fun a130 =>
  af PP (.fadd (.c a130) 2) h129 fun a131 =>
  af PP (.fadd (.c a131) 7) h129 fun a132 =>
  af PP (.ld (.c a132) 1 false) h129 fun a133 =>
  vbin .add (f128 4) (.int .i64 1) fun a134 =>
  vbin .add (f128 4) (.int .i64 2) fun a135 =>
  af PP (.bld [(.int .i64 0),(.int .i64 0)] [(0,1,(.c (f128 4))),(1,1,(.c a135))]) h129 fun a136 =>
  ae PP aK [(f128 0)] h129 fun a137 h138 =>
  ((af PP (.fadd (.c (f128 0)) 0) h138 fun a139=>bw [a139] [a130])/\(af PP (.fadd (.c a130) 2) h138 fun a140=>bw [a140] [a131])/\(af PP (.fadd (.c a131) 7) h138 fun a141=>bw [a141] [a132])/\(af PP (.ld (.c a132) 1 false) h138 fun a142=>bw [a142] [a133])/\True) /\
  af PP (.bld [(.int .i64 0),(.int .i64 0),(.int .i64 0),(.int .i64 0),(.int .i32 0),(.int .i64 0),(.int .i64 0),(.int .i32 0),(.int .i64 0),(.int .i64 0),(.int .i32 0),(.int .i64 0),(.int .i64 0)] [(0,1,(.c (.int .i64 2))),(5,3,(.c a137)),(11,2,(.c a136))]) h138 fun a143 =>
  af PP (.iadd (.c a133) (.c a134) 14) h138 fun a144 =>
  af PP (.fadd (.c a144) 1) h138 fun a145 =>
  aa PP (.st (.c a145) (.c a143) 13) h138 fun a146 h147 =>
  K (.tup []) h147) (
  K (.tup []) h129)) /\
  ae PP ah [(f63 0)] h126 fun a148 h149 =>
  vbin .rem a148 (.int .i64 3) fun a150 =>
  vbin .eql a150 (.int .i64 0) fun a151 =>
  bw [] []/\J127 [(f63 0),(f63 4),a151] h149) /\
  aa PP (.fadd (.c a0) 0) h61 fun a152 h153 =>
  aa PP (.fadd (.c a152) 2) h153 fun a154 h155 =>
  aa PP (.fadd (.c a154) 6) h155 fun a156 h157 =>
  aa PP (.ld (.c a156) 1 false) h157 fun a158 h159 =>
  aa PP (.bld [(.int .i64 0),(.int .i64 0),(.int .i64 0)] [(0,1,(.c a34)),(1,1,(.c a12)),(2,1,(.c a16))]) h159 fun a160 h161 =>
  aa PP (.bldS true 3 1 (.agg [(.int .i64 0),(.int .i64 0),(.int .i64 0)]) [(0,(.c a160))]) h161 fun a162 h163 =>
  aa PP (.app (.c a158) (.c a162) 3 24 (.agg [(.int .i64 0),(.int .i64 0),(.int .i64 0)])) h163 fun a164 h165 =>
  aa PP (.fadd (.c a0) 0) h165 fun a166 h167 =>
  aa PP (.fadd (.c a166) 2) h167 fun a168 h169 =>
  aa PP (.fadd (.c a168) 6) h169 fun a170 h171 =>
  aa PP (.st (.c a170) (.c a164) 1) h171 fun a172 h173 =>
  bw [] []/\J62 [a0,a12,a16,a34] h173
theorem nu (a0:D) (h0:Heap) (K:D->Heap->Prop):jU a0 h0 K=vcC PP fF.code (fun x e h'=>match x with|.exit _=>False|.pan=>False|.jump _=>False|_=>bO PP fF.res K e h') (params [a0] 0) h0:=by kernel_rfl
def fN:Nat->Option (List Nat×List Nat)
  | _=>none
def gQ:Nat->Option (List Nat×List Nat×List Nat)
  | _=>none
noncomputable def ff:av:=⟨14,fq (cFn PP true aN fN (cDr PP 14 gQ)),
  []⟩
theorem mD:cFn PP true aN fN (cDr PP 14 gQ)=some ff:=by kernel_rfl
def jh (a0:D) (h0:Heap) (K:D->Heap->Prop):Prop :=
  aa PP (.fadd (.c a0) 0) h0 fun a2 h3 =>
  aa PP (.fadd (.c a2) 2) h3 fun a4 h5 =>
  aa PP (.fadd (.c a4) 7) h5 fun a6 h7 =>
  aa PP (.ld (.c a6) 1 false) h7 fun a8 h9 =>
  aa PP (.bld [.nil,(.int .i64 0),(.int .i64 0),(.int .i64 0),(.int .i64 0),(.int .i32 0),(.int .i64 0),(.int .i64 0),(.int .i32 0),(.int .i64 0),(.int .i64 0),(.int .i32 0),(.int .i64 0),(.int .i64 0)] []) h9 fun a10 h11 =>
  aa PP (.bldS true 14 1 (.agg [.nil,(.int .i64 0),(.int .i64 0),(.int .i64 0),(.int .i64 0),(.int .i32 0),(.int .i64 0),(.int .i64 0),(.int .i32 0),(.int .i64 0),(.int .i64 0),(.int .i32 0),(.int .i64 0),(.int .i64 0)]) [(0,(.c a10))]) h11 fun a12 h13 =>
  aa PP (.app (.c a8) (.c a12) 14 128 (.agg [.nil,(.int .i64 0),(.int .i64 0),(.int .i64 0),(.int .i64 0),(.int .i32 0),(.int .i64 0),(.int .i64 0),(.int .i32 0),(.int .i64 0),(.int .i64 0),(.int .i32 0),(.int .i64 0),(.int .i64 0)])) h13 fun a14 h15 =>
  aa PP (.fadd (.c a0) 0) h15 fun a16 h17 =>
  aa PP (.fadd (.c a16) 2) h17 fun a18 h19 =>
  aa PP (.fadd (.c a18) 7) h19 fun a20 h21 =>
  aa PP (.st (.c a20) (.c a14) 1) h21 fun a22 h23 =>
  K (.tup []) h23
theorem mw (a0:D) (h0:Heap) (K:D->Heap->Prop):jh a0 h0 K=vcC PP ff.code (fun x e h'=>match x with|.exit _=>False|.pan=>False|.jump _=>False|_=>bO PP ff.res K e h') (params [a0] 0) h0:=by kernel_rfl
def gT:Nat->Option (List Nat×List Nat)
  | _=>none
def jc:Nat->Option (List Nat×List Nat×List Nat)
  | _=>none
noncomputable def gH:av:=⟨7,fq (cFn PP true aK gT (cDr PP 7 jc)),
  [.cell 2 3 true]⟩
theorem iK:cFn PP true aK gT (cDr PP 7 jc)=some gH:=by kernel_rfl
def gD (a0:D) (h0:Heap) (K:D->Heap->Prop):Prop :=
  aa PP (.alloc (.agg [(.int .i64 0),(.int .i64 0),(.int .i32 0)])) h0 fun a2 h3 =>
  ae PP ah [a0] h3 fun a4 h5 =>
  vbin .rem a4 (.int .i64 6) fun a6 =>
  ae PP bI [a6] h5 fun a7 h8 =>
  aa PP (.st (.c a2) (.c a7) 3) h8 fun a9 h10 =>
  aa PP (.ld (.c a2) 3 true) h10 fun a11 _ =>
  K a11 h10
theorem iI (a0:D) (h0:Heap) (K:D->Heap->Prop):gD a0 h0 K=vcC PP gH.code (fun x e h'=>match x with|.exit _=>False|.pan=>False|.jump _=>False|_=>bO PP gH.res K e h') (params [a0] 0) h0:=by kernel_rfl
def gR:Nat->Option (List Nat×List Nat)
  | _=>none
def jb:Nat->Option (List Nat×List Nat×List Nat)
  | _=>none
noncomputable def gG:av:=⟨18,fq (cFn PP true aG gR (cDr PP 18 jb)),
  [.cell 2 3 true]⟩
theorem iJ:cFn PP true aG gR (cDr PP 18 jb)=some gG:=by kernel_rfl
def gC (a0:D) (h0:Heap) (K:D->Heap->Prop):Prop :=
  aa PP (.alloc (.agg [(.int .i64 0),(.int .i64 0),(.int .i32 0)])) h0 fun a2 h3 =>
  ae PP ah [a0] h3 fun a4 h5 =>
  vbin .rem a4 (.int .i64 3) fun a6 =>
  vbin .eql a6 (.int .i64 0) fun a7 =>
  vcond a7 (vbin .quo a4 (.int .i64 3) fun a8 =>
  aa PP (.conv .i32 (.c a8)) h5 fun a9 h10 =>
  vbin .sub a9 (.int .i32 20) fun a11 =>
  ae PP cj [a11] h10 fun a12 h13 =>
  aa PP (.st (.c a2) (.c a12) 3) h13 fun a14 h15 =>
  aa PP (.ld (.c a2) 3 true) h15 fun a16 _ =>
  K a16 h15) (
  vbin .quo a4 (.int .i64 3) fun a17 =>
  vbin .rem a17 (.int .i64 6) fun a18 =>
  ae PP bI [a18] h5 fun a19 h20 =>
  aa PP (.st (.c a2) (.c a19) 3) h20 fun a21 h22 =>
  aa PP (.ld (.c a2) 3 true) h22 fun a23 _ =>
  K a23 h22)
theorem iG (a0:D) (h0:Heap) (K:D->Heap->Prop):gC a0 h0 K=vcC PP gG.code (fun x e h'=>match x with|.exit _=>False|.pan=>False|.jump _=>False|_=>bO PP gG.res K e h') (params [a0] 0) h0:=by kernel_rfl
def fM:Nat->Option (List Nat×List Nat)
  | 1=>some ([0],[2])|_=>none
def gP:Nat->Option (List Nat×List Nat×List Nat)
  | _=>none
noncomputable def fe:av:=⟨12,fq (cFn PP true bl fM (cDr PP 12 gP)),
  []⟩
theorem mC:cFn PP true bl fM (cDr PP 12 gP)=some fe:=by kernel_rfl
def gE (a4:D) (h3:Heap) (a0:D) (K:D->Heap->Prop):Prop :=
  ∃(I5:Nat->List D->Heap->Prop) (n₀:Nat),I5 n₀ [a4] h3/\∀(n6:Nat) (f7:Nat->D) (h8:Heap),I5 n6 [f7 2] h8 ->
  vbin .gtr (f7 2) (.int .i64 0) fun a9 =>
  vcond a9 (ae PP dA [a0] h8 fun a10 h11 =>
  vbin .sub (f7 2) (.int .i64 1) fun a12 =>
  bw [a0] [a0]/\∃m,m<n6/\I5 m [a12] h11) (
  K (.tup []) h8)
def jg (a0:D) (h0:Heap) (K:D->Heap->Prop):Prop :=
  ae PP ah [a0] h0 fun a2 h3 =>
  vbin .rem a2 (.int .i64 5) fun a4 =>
  gE a4 h3 a0 K
theorem mv (a0:D) (h0:Heap) (K:D->Heap->Prop):jg a0 h0 K=vcC PP fe.code (fun x e h'=>match x with|.exit _=>False|.pan=>False|.jump _=>False|_=>bO PP fe.res K e h') (params [a0] 0) h0:=by kernel_rfl
def lD:Nat->Option (List Nat×List Nat)
  | 1000016=>some ([4,5],[])|3=>some ([2,4,5],[6])|7=>some ([2,4,5,7,30,31],[6,32])|1000015=>some ([2,4,5,7,30,31,32],[6])|_=>none
def nP:Nat->Option (List Nat×List Nat×List Nat)
  | 4=>some ([0,1,0,4,12,31,63,127,0,511],[8,9],[])|_=>none
noncomputable def mG:av:=⟨56,fq (cFn PP true et lD (cDr PP 56 nP)),
  [.t 4,.t 5]⟩
theorem vO:cFn PP true et lD (cDr PP 56 nP)=some mG:=by kernel_rfl
def mV (a33:D) (h38:Heap) (a39:D) (a3:D) (a5:D) (a9:D) (a29:D) (a37:D) (n17:Nat) (I16:Nat->List D->Heap->Prop):Prop :=
  ∃(I40:Nat->List D->Heap->Prop) (n₀:Nat),I40 n₀ [a33,(.int .i64 0)] h38/\∀(n41:Nat) (f42:Nat->D) (h43:Heap),I40 n41 [f42 6,f42 32] h43 ->
  vbin .lss (f42 32) a39 fun a44 =>
  vcond a44 (∃(J45:List D->Heap->Prop),(∀(f46:Nat->D) (h47:Heap),J45 [f46 6] h47 ->
  vbin .add (f42 32) (.int .i64 1) fun a48 =>
  bw [a3,a5,a9,a29,a37,a39] [a3,a5,a9,a29,a37,a39]/\∃m,m<n41/\I40 m [(f46 6),a48] h47) /\
  aa PP (.iadd (.c a37) (.c (f42 32)) 1) h43 fun a49 h50 =>
  aa PP (.ld (.c a49) 1 false) h50 fun a51 h52 =>
  aa PP (.fadd (.c a29) 0) h52 fun a53 h54 =>
  aa PP (.ld (.c a53) 1 false) h54 fun a55 h56 =>
  vbin .eql a55 (.int .i64 3) fun a57 =>
  vcond a57 (aa PP (.mupd (.int .i64) (.c a9) (.c a51) (.c (.bool true))) h56 fun a58 h59 =>
  bw [a3,a5,a9,a29,a37,a39,(f42 32)] [a3,a5,a9,a29,a37,a39,(f42 32)]/\J45 [(f42 6)] h59) (
  aa PP (.look (.int .i64) (.c a5) (.c a51) (.bool false) false) h56 fun a60 h61 =>
  vun .not a60 fun a62 =>
  vcond a62 (aa PP (.mupd (.int .i64) (.c a5) (.c a51) (.c (.bool true))) h61 fun a63 h64 =>
  aa PP (.bldS true 1 1 (.int .i64 0) [(0,(.c a51))]) h64 fun a65 h66 =>
  aa PP (.app (.c (f42 6)) (.c a65) 1 8 (.int .i64 0)) h66 fun a67 h68 =>
  bw [a3,a5,a9,a29,a37,a39,(f42 32)] [a3,a5,a9,a29,a37,a39,(f42 32)]/\J45 [a67] h68) (
  bw [a3,a5,a9,a29,a37,a39,(f42 32)] [a3,a5,a9,a29,a37,a39,(f42 32)]/\J45 [(f42 6)] h61))) (
  bw [a3,a5,a9] [a3,a5,a9]/\∃m,m<n17/\I16 m [(f42 6)] h43)
def mU (a11:D) (h12:Heap) (a3:D) (a5:D) (a9:D) (J13:List D->Heap->Prop):Prop :=
  ∃(I16:Nat->List D->Heap->Prop) (n₀:Nat),I16 n₀ [a11] h12/\∀(n17:Nat) (f18:Nat->D) (h19:Heap),I16 n17 [f18 6] h19 ->
  cN (f18 6) h19 fun a20 =>
  vbin .gtr a20 (.int .i64 0) fun a21 =>
  vcond a21 (af PP (.fadd (.c a3) 7) h19 fun a22 =>
  af PP (.ld (.c a22) 1 false) h19 fun a23 =>
  af PP (.iadd (.c (f18 6)) (.c (.int .i64 0)) 1) h19 fun a24 =>
  af PP (.ld (.c a24) 1 false) h19 fun a25 =>
  af PP (.iadd (.c a23) (.c a25) 14) h19 fun a26 =>
  af PP (.fadd (.c a26) 1) h19 fun a27 =>
  af PP (.ld (.c a27) 13 true) h19 fun a28 =>
  aa PP (.alloc (.agg [(.int .i64 0),(.int .i64 0),(.int .i64 0),(.int .i64 0),(.int .i32 0),(.int .i64 0),(.int .i64 0),(.int .i32 0),(.int .i64 0),(.int .i64 0),(.int .i32 0),(.int .i64 0),(.int .i64 0)])) h19 fun a29 h30 =>
  aa PP (.st (.c a29) (.c a28) 13) h30 fun a31 h32 =>
  aa PP (.pB (.c (f18 6)) (some (.c (.int .i64 1))) none none 1) h32 fun a33 h34 =>
  aa PP (.ld (.c a29) 13 true) h34 fun a35 h36 =>
  ae PP dZ [a35] h36 fun a37 h38 =>
  cN a37 h38 fun a39 =>
  mV a33 h38 a39 a3 a5 a9 a29 a37 n17 I16) (
  bw [a5,a9] [a5,a9]/\J13 [] h19)
def sU (a0:D) (a1:D) (h0:Heap) (K:D->Heap->Prop):Prop :=
  aa PP (.box (.c a0)) h0 fun a3 h4 =>
  aa PP (.v8 (.int .i64)) h4 fun a5 h6 =>
  aa PP (.mupd (.int .i64) (.c a5) (.c a1) (.c (.bool true))) h6 fun a7 h8 =>
  aa PP (.v8 (.int .i64)) h8 fun a9 h10 =>
  aa PP (.bldS true 1 1 (.int .i64 0) [(0,(.c a1))]) h10 fun a11 h12 =>
  ∃(J13:List D->Heap->Prop),(∀(f14:Nat->D) (h15:Heap),J13 [] h15 ->
  K (.tup [a5,a9]) h15) /\
  mU a11 h12 a3 a5 a9 J13
theorem vz (a0:D) (a1:D) (h0:Heap) (K:D->Heap->Prop):sU a0 a1 h0 K=vcC PP mG.code (fun x e h'=>match x with|.exit _=>False|.pan=>False|.jump _=>False|_=>bO PP mG.res K e h') (params [a0,a1] 0) h0:=by kernel_rfl
def bX:Nat->Option (List Nat×List Nat)
  | _=>none
def cg:Nat->Option (List Nat×List Nat×List Nat)
  | _=>none
noncomputable def bB:av:=⟨4,fq (cFn PP true aB bX (cDr PP 4 cg)),
  [.t 2]⟩
theorem fh:cFn PP true aB bX (cDr PP 4 cg)=some bB:=by kernel_rfl
def cA (a0:D) (h0:Heap) (K:D->Heap->Prop):Prop :=
  aa PP (.box (.c a0)) h0 fun a2 h3 =>
  aa PP (.mkf eU [] [(.c a2)]) h3 fun a4 h5 =>
  K a4 h5
theorem eX (a0:D) (h0:Heap) (K:D->Heap->Prop):cA a0 h0 K=vcC PP bB.code (fun x e h'=>match x with|.exit _=>False|.pan=>False|.jump _=>False|_=>bO PP bB.res K e h') (params [a0] 0) h0:=by kernel_rfl
def bW:Nat->Option (List Nat×List Nat)
  | _=>none
def cf:Nat->Option (List Nat×List Nat×List Nat)
  | _=>none
noncomputable def bA:av:=⟨4,fq (cFn PP true aM bW (cDr PP 4 cf)),
  [.t 2]⟩
theorem fg:cFn PP true aM bW (cDr PP 4 cf)=some bA:=by kernel_rfl
def cy (a0:D) (h0:Heap) (K:D->Heap->Prop):Prop :=
  aa PP (.box (.c a0)) h0 fun a2 h3 =>
  aa PP (.mkf eT [] [(.c a2)]) h3 fun a4 h5 =>
  K a4 h5
theorem eW (a0:D) (h0:Heap) (K:D->Heap->Prop):cy a0 h0 K=vcC PP bA.code (fun x e h'=>match x with|.exit _=>False|.pan=>False|.jump _=>False|_=>bO PP bA.res K e h') (params [a0] 0) h0:=by kernel_rfl
def sD:Nat->Option (List Nat×List Nat)
  | 1000015=>some ([3],[])|4=>some ([1,3],[4])|1000006=>some ([1,3,4],[])|7=>some ([1,3,4],[5])|1000009=>some ([1,3,4,5],[])|11=>some ([1,3,4,5,6],[7])|_=>none
def u0:Nat->Option (List Nat×List Nat×List Nat)
  | _=>none
def qm:av:=⟨54,
  .seq (.reg [⟨(some 1),.box (.t 0),none⟩,
    ⟨(some 2),.mov (.c .nil),none⟩]) <|
  .seq (.reg [⟨(some 8),.fadd (.t 1) 7,none⟩,
    ⟨(some 9),.ld (.t 8) 1 false,none⟩,
    ⟨(some 10),.len (.t 9),none⟩,
    ⟨(some 11),.mk 1 1 (.bool false) (.t 10) (.t 10),none⟩,
    ⟨(some 3),.mov (.t 11),none⟩]) <|
  .seq (.reg [⟨(some 12),.mov (.t 3),none⟩,
    ⟨(some 13),.iadd (.t 12) (.c (.int .i64 0)) 1,none⟩,
    ⟨none,.st (.t 13) (.c (.bool true)) 1,none⟩]) <|
  .seqj [3] [] (.seq (.reg [⟨(some 4),.mov (.c (.int .i64 0)),none⟩]) <|
  .block 0 (.loop [1,3] [4] (.seq (.seq (.reg [⟨(some 14),.mov (.t 4),none⟩,
    ⟨(some 15),.fadd (.t 1) 7,none⟩,
    ⟨(some 16),.ld (.t 15) 1 false,none⟩,
    ⟨(some 17),.len (.t 16),none⟩,
    ⟨(some 18),.bin .lss (.t 14) (.t 17),none⟩]) <|
  .cond (.t 18) (.skip) (.exit 0)) <|
  .seqj [1,3,4] [] (.block 1 (.seq (.reg [⟨(some 5),.mov (.c (.int .i64 0)),none⟩]) <|
  .block 2 (.loop [1,3,4] [5] (.seq (.seq (.reg [⟨(some 21),.mov (.t 5),none⟩,
    ⟨(some 22),.fadd (.t 1) 7,none⟩,
    ⟨(some 23),.ld (.t 22) 1 false,none⟩,
    ⟨(some 24),.len (.t 23),none⟩,
    ⟨(some 25),.bin .lss (.t 21) (.t 24),none⟩]) <|
  .cond (.t 25) (.skip) (.exit 2)) <|
  .seqj [1,3,4,5] [] (.block 3 (.seq (.reg [⟨(some 28),.fadd (.t 1) 7,none⟩,
    ⟨(some 29),.ld (.t 28) 1 false,none⟩,
    ⟨(some 30),.mov (.t 5),none⟩,
    ⟨(some 31),.iadd (.t 29) (.t 30) 14,none⟩,
    ⟨(some 32),.fadd (.t 31) 1,none⟩,
    ⟨(some 33),.ld (.t 32) 13 true,none⟩,
    ⟨(some 34),.call sj [(.t 33)],none⟩,
    ⟨(some 6),.mov (.t 34),none⟩]) <|
  .seq (.reg [⟨(some 7),.mov (.c (.int .i64 0)),none⟩]) <|
  .block 4 (.loop [1,3,4,5,6] [7] (.seq (.seq (.reg [⟨(some 35),.mov (.t 7),none⟩,
    ⟨(some 36),.mov (.t 6),none⟩,
    ⟨(some 37),.len (.t 36),none⟩,
    ⟨(some 38),.bin .lss (.t 35) (.t 37),none⟩,
    ⟨(some 39),.mov (.t 38),none⟩,
    ⟨(some 40),.mov (.t 3),some (39,true)⟩,
    ⟨(some 41),.mov (.t 5),some (39,true)⟩,
    ⟨(some 42),.iadd (.t 40) (.t 41) 1,some (39,true)⟩,
    ⟨(some 43),.ld (.t 42) 1 false,some (39,true)⟩,
    ⟨(some 44),.pick (.t 39) (.t 43) (.c (.bool false)),none⟩]) <|
  .cond (.t 44) (.skip) (.exit 4)) <|
  .seq (.block 5 (.reg [⟨(some 47),.mov (.t 3),none⟩,
    ⟨(some 48),.mov (.t 6),none⟩,
    ⟨(some 49),.mov (.t 7),none⟩,
    ⟨(some 50),.iadd (.t 48) (.t 49) 1,none⟩,
    ⟨(some 51),.ld (.t 50) 1 false,none⟩,
    ⟨(some 52),.iadd (.t 47) (.t 51) 1,none⟩,
    ⟨none,.st (.t 52) (.c (.bool true)) 1,none⟩])) <|
  .reg [⟨(some 45),.mov (.t 7),none⟩,
    ⟨(some 46),.bin .add (.t 45) (.c (.int .i64 1)),none⟩,
    ⟨(some 7),.mov (.t 46),none⟩])))) <|
  .reg [⟨(some 26),.mov (.t 5),none⟩,
    ⟨(some 27),.bin .add (.t 26) (.c (.int .i64 1)),none⟩,
    ⟨(some 5),.mov (.t 27),none⟩])))) <|
  .reg [⟨(some 19),.mov (.t 4),none⟩,
    ⟨(some 20),.bin .add (.t 19) (.c (.int .i64 1)),none⟩,
    ⟨(some 4),.mov (.t 20),none⟩]))) <|
  .seq (.reg [⟨(some 53),.mov (.t 3),none⟩,
    ⟨(some 2),.mov (.t 53),none⟩]) <|
  .ret,
  [.t 2]⟩
theorem uf:cFn PP true p6 sD (cDr PP 54 u0)=some qm:=by kernel_rfl
def pG:Nat->Option (List Nat×List Nat)
  | 1000014=>some ([5],[])|4=>some ([1,3,4,5],[6])|1000006=>some ([1,3,4,5,6],[])|7=>some ([1,3,4,5,6],[7])|1000009=>some ([1,3,4,5,6,7],[])|_=>none
def rQ:Nat->Option (List Nat×List Nat×List Nat)
  | 1=>some ([0,1,3,0,15,31,63],[1,2,4],[999999])|_=>none
def m4:av:=⟨92,
  .seq (.reg [⟨(some 1),.box (.t 0),none⟩,
    ⟨(some 2),.mov (.c .nil),none⟩]) <|
  .seq (.seq (.dreg [⟨(some 9),.ld (.t 1) 8 true,none⟩,
    ⟨(some 12),.ld (.t 1) 8 true,none⟩] [⟨(some 10),.call kU [(.t 9)],none⟩] [⟨(some 12),.ld (.t 1) 8 true,none⟩]) <|
  .seq (.dreg [] [⟨(some 11),.call cI [(.t 10),(.c (.int .i64 0)),(.c (.int .i64 (-1)))],none⟩] [⟨(some 12),.ld (.t 1) 8 true,none⟩]) <|
  .seq (.dreg [] [⟨(some 13),.call p5 [(.t 12)],none⟩] []) <|
  .dreg [⟨(some 3),.mov (.t 11),none⟩,
    ⟨(some 4),.mov (.t 13),none⟩] [] []) <|
  .seq (.reg [⟨(some 14),.fadd (.t 1) 7,none⟩,
    ⟨(some 15),.ld (.t 14) 1 false,none⟩,
    ⟨(some 16),.len (.t 15),none⟩,
    ⟨(some 17),.mk 1 24 .nil (.t 16) (.t 16),none⟩,
    ⟨(some 5),.mov (.t 17),none⟩]) <|
  .seqj [5] [] (.seq (.reg [⟨(some 6),.mov (.c (.int .i64 0)),none⟩]) <|
  .block 0 (.loop [1,3,4,5] [6] (.seq (.seq (.reg [⟨(some 18),.mov (.t 6),none⟩,
    ⟨(some 19),.fadd (.t 1) 7,none⟩,
    ⟨(some 20),.ld (.t 19) 1 false,none⟩,
    ⟨(some 21),.len (.t 20),none⟩,
    ⟨(some 22),.bin .lss (.t 18) (.t 21),none⟩]) <|
  .cond (.t 22) (.skip) (.exit 0)) <|
  .seqj [1,3,4,5,6] [] (.block 1 (.seq (.reg [⟨(some 7),.mov (.c (.int .i64 0)),none⟩]) <|
  .block 2 (.loop [1,3,4,5,6] [7] (.seq (.seq (.reg [⟨(some 25),.mov (.t 7),none⟩,
    ⟨(some 26),.fadd (.t 1) 7,none⟩,
    ⟨(some 27),.ld (.t 26) 1 false,none⟩,
    ⟨(some 28),.len (.t 27),none⟩,
    ⟨(some 29),.bin .lss (.t 25) (.t 28),none⟩]) <|
  .cond (.t 29) (.skip) (.exit 2)) <|
  .seqj [1,3,4,5,6,7] [] (.block 3 (.seq (.reg [⟨(some 32),.fadd (.t 1) 7,none⟩,
    ⟨(some 33),.ld (.t 32) 1 false,none⟩,
    ⟨(some 34),.mov (.t 7),none⟩,
    ⟨(some 35),.iadd (.t 33) (.t 34) 14,none⟩,
    ⟨(some 36),.fadd (.t 35) 1,none⟩,
    ⟨(some 37),.ld (.t 36) 13 true,none⟩,
    ⟨(some 38),.call jt [(.t 37)],none⟩,
    ⟨(some 8),.mov (.t 38),none⟩]) <|
  .seq (.seq (.reg [⟨(some 39),.mov (.t 3),none⟩,
    ⟨(some 40),.mov (.t 7),none⟩,
    ⟨(some 41),.iadd (.t 39) (.t 40) 1,none⟩,
    ⟨(some 42),.ld (.t 41) 1 false,none⟩,
    ⟨(some 43),.un .not (.t 42),none⟩,
    ⟨(some 44),.mov (.t 43),none⟩,
    ⟨(some 45),.mov (.t 3),some (44,false)⟩,
    ⟨(some 46),.mov (.t 6),some (44,false)⟩,
    ⟨(some 47),.iadd (.t 45) (.t 46) 1,some (44,false)⟩,
    ⟨(some 48),.ld (.t 47) 1 false,some (44,false)⟩,
    ⟨(some 49),.un .not (.t 48),some (44,false)⟩,
    ⟨(some 50),.pick (.t 44) (.c (.bool true)) (.t 49),none⟩,
    ⟨(some 51),.mov (.t 50),none⟩,
    ⟨(some 52),.mov (.t 8),some (51,false)⟩,
    ⟨(some 53),.len (.t 52),some (51,false)⟩,
    ⟨(some 54),.bin .neq (.t 53) (.c (.int .i64 2)),some (51,false)⟩,
    ⟨(some 55),.pick (.t 51) (.c (.bool true)) (.t 54),none⟩,
    ⟨(some 56),.mov (.t 55),none⟩,
    ⟨(some 57),.mov (.t 7),some (56,false)⟩,
    ⟨(some 58),.mov (.t 6),some (56,false)⟩,
    ⟨(some 59),.bin .neq (.t 57) (.t 58),some (56,false)⟩,
    ⟨(some 60),.mov (.t 59),some (56,false)⟩,
    ⟨(some 61),.mov (.t 4),some (60,true)⟩,
    ⟨(some 62),.mov (.t 7),some (60,true)⟩,
    ⟨(some 63),.mov (.t 6),some (60,true)⟩,
    ⟨(some 64),.call ik [(.t 61),(.t 62),(.t 63)],some (60,true)⟩,
    ⟨(some 65),.pick (.t 60) (.t 64) (.c (.bool false)),some (56,false)⟩,
    ⟨(some 66),.pick (.t 56) (.c (.bool true)) (.t 65),none⟩]) <|
  .cond (.t 66) (.exit 3) (.skip)) <|
  .seq (.reg [⟨(some 67),.mov (.t 4),none⟩,
    ⟨(some 68),.mov (.t 8),none⟩,
    ⟨(some 69),.iadd (.t 68) (.c (.int .i64 0)) 1,none⟩,
    ⟨(some 70),.ld (.t 69) 1 false,none⟩,
    ⟨(some 71),.mov (.t 6),none⟩,
    ⟨(some 72),.call ik [(.t 67),(.t 70),(.t 71)],none⟩,
    ⟨(some 73),.mov (.t 72),none⟩,
    ⟨(some 74),.mov (.t 4),some (73,false)⟩,
    ⟨(some 75),.mov (.t 8),some (73,false)⟩,
    ⟨(some 76),.iadd (.t 75) (.c (.int .i64 1)) 1,some (73,false)⟩,
    ⟨(some 77),.ld (.t 76) 1 false,some (73,false)⟩,
    ⟨(some 78),.mov (.t 6),some (73,false)⟩,
    ⟨(some 79),.call ik [(.t 74),(.t 77),(.t 78)],some (73,false)⟩,
    ⟨(some 80),.pick (.t 73) (.c (.bool true)) (.t 79),none⟩]) <|
  .cond (.t 80) (.reg [⟨(some 81),.mov (.t 5),none⟩,
    ⟨(some 82),.mov (.t 6),none⟩,
    ⟨(some 83),.mov (.t 5),none⟩,
    ⟨(some 84),.mov (.t 6),none⟩,
    ⟨(some 85),.iadd (.t 83) (.t 84) 1,none⟩,
    ⟨(some 86),.ld (.t 85) 1 false,none⟩,
    ⟨(some 87),.mov (.t 7),none⟩,
    ⟨(some 88),.bldS true 1 1 (.int .i64 0) [(0,(.t 87))],none⟩,
    ⟨(some 89),.app (.t 86) (.t 88) 1 8 (.int .i64 0),none⟩,
    ⟨(some 90),.iadd (.t 81) (.t 82) 1,none⟩,
    ⟨none,.st (.t 90) (.t 89) 1,none⟩]) (.skip))) <|
  .reg [⟨(some 30),.mov (.t 7),none⟩,
    ⟨(some 31),.bin .add (.t 30) (.c (.int .i64 1)),none⟩,
    ⟨(some 7),.mov (.t 31),none⟩])))) <|
  .reg [⟨(some 23),.mov (.t 6),none⟩,
    ⟨(some 24),.bin .add (.t 23) (.c (.int .i64 1)),none⟩,
    ⟨(some 6),.mov (.t 24),none⟩]))) <|
  .seq (.reg [⟨(some 91),.mov (.t 5),none⟩,
    ⟨(some 2),.mov (.t 91),none⟩]) <|
  .ret,
  [.t 2]⟩
theorem rf:cFn PP true cE pG (cDr PP 92 rQ)=some m4:=by kernel_rfl
def sw:Nat->Option (List Nat×List Nat)
  | 1000010=>some ([],[])|4=>some ([2,4,5,8],[11])|_=>none
def uU:Nat->Option (List Nat×List Nat×List Nat)
  | 7=>some ([0,1,0,7,15,31,63,127,127,383,127,1919,3967,8063,16255,32767,65535,131071],[],[])|_=>none
def qg:av:=⟨52,
  .seq (.reg [⟨(some 5),.box (.t 0),none⟩,
    ⟨(some 8),.box (.t 3),none⟩,
    ⟨(some 10),.mov (.c (.bool false)),none⟩]) <|
  .seq (.seq (.reg [⟨(some 13),.mov (.t 1),none⟩,
    ⟨(some 14),.mov (.t 4),none⟩,
    ⟨(some 15),.iadd (.t 13) (.t 14) 1,none⟩,
    ⟨(some 16),.ld (.t 15) 1 false,none⟩,
    ⟨(some 17),.un .not (.t 16),none⟩]) <|
  .cond (.t 17) (.seq (.reg [⟨(some 10),.mov (.c (.bool false)),none⟩]) <|
  .ret) (.skip)) <|
  .seqj [] [] (.seq (.reg [⟨(some 11),.mov (.c (.int .i64 0)),none⟩]) <|
  .block 0 (.loop [2,4,5,8] [11] (.seq (.seq (.reg [⟨(some 18),.mov (.t 11),none⟩,
    ⟨(some 19),.mov (.t 2),none⟩,
    ⟨(some 20),.mov (.t 4),none⟩,
    ⟨(some 21),.iadd (.t 19) (.t 20) 1,none⟩,
    ⟨(some 22),.ld (.t 21) 1 false,none⟩,
    ⟨(some 23),.len (.t 22),none⟩,
    ⟨(some 24),.bin .lss (.t 18) (.t 23),none⟩]) <|
  .cond (.t 24) (.skip) (.exit 0)) <|
  .seq (.block 1 (.seq (.reg [⟨(some 27),.mov (.t 2),none⟩,
    ⟨(some 28),.mov (.t 4),none⟩,
    ⟨(some 29),.iadd (.t 27) (.t 28) 1,none⟩,
    ⟨(some 30),.ld (.t 29) 1 false,none⟩,
    ⟨(some 31),.mov (.t 11),none⟩,
    ⟨(some 32),.iadd (.t 30) (.t 31) 1,none⟩,
    ⟨(some 33),.ld (.t 32) 1 false,none⟩,
    ⟨(some 12),.mov (.t 33),none⟩]) <|
  .seq (.dreg [⟨(some 34),.fadd (.t 8) 0,none⟩,
    ⟨(some 35),.ld (.t 34) 1 false,none⟩,
    ⟨(some 36),.mov (.t 12),none⟩,
    ⟨(some 37),.iadd (.t 35) (.t 36) 1,none⟩,
    ⟨(some 38),.ld (.t 37) 1 false,none⟩,
    ⟨(some 39),.un .not (.t 38),none⟩,
    ⟨(some 40),.mov (.t 39),none⟩,
    ⟨(some 41),.ld (.t 8) 2 true,some (40,false)⟩,
    ⟨(some 42),.fadd (.t 5) 7,some (40,false)⟩,
    ⟨(some 43),.ld (.t 42) 1 false,some (40,false)⟩,
    ⟨(some 44),.mov (.t 12),some (40,false)⟩,
    ⟨(some 45),.iadd (.t 43) (.t 44) 14,some (40,false)⟩,
    ⟨(some 46),.fadd (.t 45) 1,some (40,false)⟩,
    ⟨(some 47),.fadd (.t 46) 5,some (40,false)⟩,
    ⟨(some 48),.ld (.t 47) 3 true,some (40,false)⟩,
    ⟨(some 49),.call de [(.t 41),(.t 48)],some (40,false)⟩,
    ⟨(some 50),.un .not (.t 49),some (40,false)⟩,
    ⟨(some 51),.pick (.t 40) (.c (.bool true)) (.t 50),none⟩] [] []) <|
  .cond (.t 51) (.seq (.reg [⟨(some 10),.mov (.c (.bool false)),none⟩]) <|
  .ret) (.skip))) <|
  .reg [⟨(some 25),.mov (.t 11),none⟩,
    ⟨(some 26),.bin .add (.t 25) (.c (.int .i64 1)),none⟩,
    ⟨(some 11),.mov (.t 26),none⟩]))) <|
  .seq (.reg [⟨(some 10),.mov (.c (.bool true)),none⟩]) <|
  .ret,
  [.t 10]⟩
theorem tZ:cFn PP true pZ sw (cDr PP 52 uU)=some qg:=by kernel_rfl
def oe:Nat->Option (List Nat×List Nat)
  | 1000014=>some ([],[])|2=>some ([1,3,4,6],[9])|1000004=>some ([1,3,4,6,9],[])|8=>some ([1,3,4,6,9],[10])|_=>none
def qz:Nat->Option (List Nat×List Nat×List Nat)
  | _=>none
def lO:av:=⟨91,
  .seq (.reg [⟨(some 4),.box (.t 0),none⟩,
    ⟨(some 6),.box (.t 2),none⟩,
    ⟨(some 8),.mov (.c (.bool false)),none⟩]) <|
  .seqj [] [] (.seq (.reg [⟨(some 9),.mov (.c (.int .i64 0)),none⟩]) <|
  .block 0 (.loop [1,3,4,6] [9] (.seq (.seq (.reg [⟨(some 12),.mov (.t 9),none⟩,
    ⟨(some 13),.fadd (.t 4) 7,none⟩,
    ⟨(some 14),.ld (.t 13) 1 false,none⟩,
    ⟨(some 15),.len (.t 14),none⟩,
    ⟨(some 16),.bin .lss (.t 12) (.t 15),none⟩]) <|
  .cond (.t 16) (.skip) (.exit 0)) <|
  .seqj [1,3,4,6,9] [] (.block 1 (.seq (.seq (.reg [⟨(some 19),.mov (.t 1),none⟩,
    ⟨(some 20),.mov (.t 9),none⟩,
    ⟨(some 21),.iadd (.t 19) (.t 20) 1,none⟩,
    ⟨(some 22),.ld (.t 21) 1 false,none⟩,
    ⟨(some 23),.un .not (.t 22),none⟩]) <|
  .cond (.t 23) (.exit 1) (.skip)) <|
  .seq (.seq (.reg [⟨(some 24),.fadd (.t 4) 7,none⟩,
    ⟨(some 25),.ld (.t 24) 1 false,none⟩,
    ⟨(some 26),.mov (.t 9),none⟩,
    ⟨(some 27),.iadd (.t 25) (.t 26) 14,none⟩,
    ⟨(some 28),.fadd (.t 27) 1,none⟩,
    ⟨(some 29),.ld (.t 28) 13 true,none⟩,
    ⟨(some 30),.call sk [(.t 29)],none⟩,
    ⟨(some 31),.mov (.t 3),none⟩,
    ⟨(some 32),.bin .eql (.t 30) (.t 31),none⟩]) <|
  .cond (.t 32) (.seq (.reg [⟨(some 8),.mov (.c (.bool false)),none⟩]) <|
  .ret) (.skip)) <|
  .seq (.reg [⟨(some 10),.mov (.c (.int .i64 0)),none⟩]) <|
  .block 2 (.loop [1,3,4,6,9] [10] (.seq (.seq (.reg [⟨(some 33),.mov (.t 10),none⟩,
    ⟨(some 34),.fadd (.t 4) 7,none⟩,
    ⟨(some 35),.ld (.t 34) 1 false,none⟩,
    ⟨(some 36),.mov (.t 9),none⟩,
    ⟨(some 37),.iadd (.t 35) (.t 36) 14,none⟩,
    ⟨(some 38),.fadd (.t 37) 0,none⟩,
    ⟨(some 39),.ld (.t 38) 1 false,none⟩,
    ⟨(some 40),.len (.t 39),none⟩,
    ⟨(some 41),.bin .lss (.t 33) (.t 40),none⟩]) <|
  .cond (.t 41) (.skip) (.exit 2)) <|
  .seq (.block 3 (.seq (.reg [⟨(some 44),.fadd (.t 4) 7,none⟩,
    ⟨(some 45),.ld (.t 44) 1 false,none⟩,
    ⟨(some 46),.mov (.t 9),none⟩,
    ⟨(some 47),.iadd (.t 45) (.t 46) 14,none⟩,
    ⟨(some 48),.fadd (.t 47) 0,none⟩,
    ⟨(some 49),.ld (.t 48) 1 false,none⟩,
    ⟨(some 50),.mov (.t 10),none⟩,
    ⟨(some 51),.iadd (.t 49) (.t 50) 15,none⟩,
    ⟨(some 52),.ld (.t 51) 15 true,none⟩,
    ⟨(some 11),.alloc (.agg [(.int .i64 0),(.int .i64 0),(.int .i64 0),(.int .i64 0),(.int .i64 0),(.int .i32 0),(.int .i64 0),(.int .i64 0),(.int .i32 0),(.int .i64 0),(.int .i64 0),(.int .i32 0),(.int .i64 0),(.int .i64 0),(.int .i32 0)]),none⟩,
    ⟨none,.st (.t 11) (.t 52) 15,none⟩]) <|
  .seq (.reg [⟨(some 53),.ld (.t 11) 15 true,none⟩,
    ⟨(some 54),.call uA [(.t 53)],none⟩,
    ⟨(some 55),.mov (.t 3),none⟩,
    ⟨(some 56),.bin .eql (.t 54) (.t 55),none⟩,
    ⟨(some 57),.mov (.t 56),none⟩,
    ⟨(some 58),.fadd (.t 6) 0,some (57,true)⟩,
    ⟨(some 59),.ld (.t 58) 1 false,some (57,true)⟩,
    ⟨(some 60),.mov (.t 9),some (57,true)⟩,
    ⟨(some 61),.iadd (.t 59) (.t 60) 1,some (57,true)⟩,
    ⟨(some 62),.ld (.t 61) 1 false,some (57,true)⟩,
    ⟨(some 63),.un .not (.t 62),some (57,true)⟩,
    ⟨(some 64),.mov (.t 63),some (57,true)⟩,
    ⟨(some 65),.ld (.t 11) 15 true,some (64,false)⟩,
    ⟨(some 66),.call nX [(.t 65)],some (64,false)⟩,
    ⟨(some 67),.un .not (.t 66),some (64,false)⟩,
    ⟨(some 68),.pick (.t 64) (.c (.bool true)) (.t 67),some (57,true)⟩,
    ⟨(some 69),.mov (.t 68),some (57,true)⟩,
    ⟨(some 70),.ld (.t 6) 2 true,some (69,false)⟩,
    ⟨(some 71),.fadd (.t 11) 6,some (69,false)⟩,
    ⟨(some 72),.ld (.t 71) 3 true,some (69,false)⟩,
    ⟨(some 73),.call de [(.t 70),(.t 72)],some (69,false)⟩,
    ⟨(some 74),.un .not (.t 73),some (69,false)⟩,
    ⟨(some 75),.pick (.t 69) (.c (.bool true)) (.t 74),some (57,true)⟩,
    ⟨(some 76),.mov (.t 75),some (57,true)⟩,
    ⟨(some 77),.ld (.t 6) 2 true,some (76,false)⟩,
    ⟨(some 78),.fadd (.t 11) 9,some (76,false)⟩,
    ⟨(some 79),.ld (.t 78) 3 true,some (76,false)⟩,
    ⟨(some 80),.call de [(.t 77),(.t 79)],some (76,false)⟩,
    ⟨(some 81),.un .not (.t 80),some (76,false)⟩,
    ⟨(some 82),.pick (.t 76) (.c (.bool true)) (.t 81),some (57,true)⟩,
    ⟨(some 83),.mov (.t 82),some (57,true)⟩,
    ⟨(some 84),.ld (.t 6) 2 true,some (83,false)⟩,
    ⟨(some 85),.fadd (.t 11) 12,some (83,false)⟩,
    ⟨(some 86),.ld (.t 85) 3 true,some (83,false)⟩,
    ⟨(some 87),.call de [(.t 84),(.t 86)],some (83,false)⟩,
    ⟨(some 88),.un .not (.t 87),some (83,false)⟩,
    ⟨(some 89),.pick (.t 83) (.c (.bool true)) (.t 88),some (57,true)⟩,
    ⟨(some 90),.pick (.t 57) (.t 89) (.c (.bool false)),none⟩]) <|
  .cond (.t 90) (.seq (.reg [⟨(some 8),.mov (.c (.bool false)),none⟩]) <|
  .ret) (.skip))) <|
  .reg [⟨(some 42),.mov (.t 10),none⟩,
    ⟨(some 43),.bin .add (.t 42) (.c (.int .i64 1)),none⟩,
    ⟨(some 10),.mov (.t 43),none⟩])))) <|
  .reg [⟨(some 17),.mov (.t 9),none⟩,
    ⟨(some 18),.bin .add (.t 17) (.c (.int .i64 1)),none⟩,
    ⟨(some 9),.mov (.t 18),none⟩]))) <|
  .seq (.reg [⟨(some 8),.mov (.c (.bool true)),none⟩]) <|
  .ret,
  [.t 8]⟩
theorem pP:cFn PP true ly oe (cDr PP 91 qz)=some lO:=by kernel_rfl
def oh:Nat->Option (List Nat×List Nat)
  | 1000009=>some ([],[])|4=>some ([0,1],[5])|_=>none
def qB:Nat->Option (List Nat×List Nat×List Nat)
  | 6=>some ([0,0,3,7,0,0,48,112,255],[],[])|_=>none
def lR:av:=⟨26,
  .seq (.reg [⟨(some 4),.mov (.c (.bool false)),none⟩]) <|
  .seq (.seq (.reg [⟨(some 6),.mov (.t 0),none⟩,
    ⟨(some 7),.len (.t 6),none⟩,
    ⟨(some 8),.mov (.t 1),none⟩,
    ⟨(some 9),.len (.t 8),none⟩,
    ⟨(some 10),.bin .neq (.t 7) (.t 9),none⟩]) <|
  .cond (.t 10) (.seq (.reg [⟨(some 4),.mov (.c (.bool false)),none⟩]) <|
  .ret) (.skip)) <|
  .seqj [] [] (.seq (.reg [⟨(some 5),.mov (.c (.int .i64 0)),none⟩]) <|
  .block 0 (.loop [0,1] [5] (.seq (.seq (.reg [⟨(some 11),.mov (.t 5),none⟩,
    ⟨(some 12),.mov (.t 0),none⟩,
    ⟨(some 13),.len (.t 12),none⟩,
    ⟨(some 14),.bin .lss (.t 11) (.t 13),none⟩]) <|
  .cond (.t 14) (.skip) (.exit 0)) <|
  .seq (.block 1 (.seq (.dreg [⟨(some 17),.mov (.t 0),none⟩,
    ⟨(some 18),.mov (.t 5),none⟩,
    ⟨(some 19),.iadd (.t 17) (.t 18) 1,none⟩,
    ⟨(some 20),.ld (.t 19) 1 false,none⟩,
    ⟨(some 21),.mov (.t 1),none⟩,
    ⟨(some 22),.mov (.t 5),none⟩,
    ⟨(some 23),.iadd (.t 21) (.t 22) 1,none⟩,
    ⟨(some 24),.ld (.t 23) 1 false,none⟩,
    ⟨(some 25),.bin .neq (.t 20) (.t 24),none⟩] [] []) <|
  .cond (.t 25) (.seq (.reg [⟨(some 4),.mov (.c (.bool false)),none⟩]) <|
  .ret) (.skip))) <|
  .reg [⟨(some 15),.mov (.t 5),none⟩,
    ⟨(some 16),.bin .add (.t 15) (.c (.int .i64 1)),none⟩,
    ⟨(some 5),.mov (.t 16),none⟩]))) <|
  .seq (.reg [⟨(some 4),.mov (.c (.bool true)),none⟩]) <|
  .ret,
  [.t 4]⟩
theorem pR:cFn PP true g9 oh (cDr PP 26 qB)=some lR:=by kernel_rfl
def qN:Nat->Option (List Nat×List Nat)
  | 1000008=>some ([1,2],[])|2=>some ([1,2,3,9,10],[11])|_=>none
def tx:Nat->Option (List Nat×List Nat×List Nat)
  | _=>none
def oU:av:=⟨42,
  .seq (.reg [⟨(some 3),.box (.t 0),none⟩,
    ⟨(some 6),.mov (.c (.bool false)),none⟩]) <|
  .seqj [1,2] [] (.seq (.reg [⟨(some 9),.mov (.t 1),none⟩,
    ⟨(some 10),.len (.t 9),none⟩,
    ⟨(some 11),.mov (.c (.int .i64 0)),none⟩]) <|
  .block 0 (.loop [1,2,3,9,10] [11] (.seq (.reg [⟨(some 12),.bin .lss (.t 11) (.t 10),none⟩]) <|
  .seq (.cond (.t 12) (.skip) (.exit 0)) <|
  .seq (.block 1 (.seq (.reg [⟨(some 13),.mov (.t 11),none⟩,
    ⟨(some 14),.iadd (.t 9) (.t 11) 1,none⟩,
    ⟨(some 15),.ld (.t 14) 1 false,none⟩,
    ⟨(some 7),.mov (.t 13),none⟩,
    ⟨(some 8),.mov (.t 15),none⟩]) <|
  .seq (.reg [⟨(some 16),.mov (.t 8),none⟩,
    ⟨(some 17),.bin .lss (.t 16) (.c (.int .i64 0)),none⟩,
    ⟨(some 18),.mov (.t 17),none⟩,
    ⟨(some 19),.mov (.t 8),some (18,false)⟩,
    ⟨(some 20),.fadd (.t 3) 7,some (18,false)⟩,
    ⟨(some 21),.ld (.t 20) 1 false,some (18,false)⟩,
    ⟨(some 22),.len (.t 21),some (18,false)⟩,
    ⟨(some 23),.bin .geq (.t 19) (.t 22),some (18,false)⟩,
    ⟨(some 24),.pick (.t 18) (.c (.bool true)) (.t 23),none⟩,
    ⟨(some 25),.mov (.t 24),none⟩,
    ⟨(some 26),.mov (.t 7),some (25,false)⟩,
    ⟨(some 27),.bin .gtr (.t 26) (.c (.int .i64 0)),some (25,false)⟩,
    ⟨(some 28),.mov (.t 27),some (25,false)⟩,
    ⟨(some 29),.mov (.t 1),some (28,true)⟩,
    ⟨(some 30),.mov (.t 7),some (28,true)⟩,
    ⟨(some 31),.bin .sub (.t 30) (.c (.int .i64 1)),some (28,true)⟩,
    ⟨(some 32),.iadd (.t 29) (.t 31) 1,some (28,true)⟩,
    ⟨(some 33),.ld (.t 32) 1 false,some (28,true)⟩,
    ⟨(some 34),.mov (.t 8),some (28,true)⟩,
    ⟨(some 35),.bin .geq (.t 33) (.t 34),some (28,true)⟩,
    ⟨(some 36),.pick (.t 28) (.t 35) (.c (.bool false)),some (25,false)⟩,
    ⟨(some 37),.pick (.t 25) (.c (.bool true)) (.t 36),none⟩]) <|
  .cond (.t 37) (.seq (.reg [⟨(some 6),.mov (.c (.bool false)),none⟩]) <|
  .ret) (.skip))) <|
  .reg [⟨(some 38),.bin .add (.t 11) (.c (.int .i64 1)),none⟩,
    ⟨(some 11),.mov (.t 38),none⟩]))) <|
  .seq (.reg [⟨(some 39),.mov (.t 1),none⟩,
    ⟨(some 40),.mov (.t 2),none⟩,
    ⟨(some 41),.call aJ [(.t 39),(.t 40)],none⟩,
    ⟨(some 6),.mov (.t 41),none⟩]) <|
  .ret,
  [.t 6]⟩
theorem th:cFn PP true jK qN (cDr PP 42 tx)=some oU:=by kernel_rfl
end Go.Am
namespace Go.Am
open Go Go.Proofs
def fB:Nat->Option (List Nat×List Nat)
  | 1000009=>some ([0,1,6],[7])|3=>some ([0,1,6],[7,8])|_=>none
def ga:Nat->Option (List Nat×List Nat×List Nat)
  | _=>none
def dn:av:=⟨54,
  .seq (.reg [⟨(some 4),.mov (.c (.int .i64 0)),none⟩,
    ⟨(some 5),.mov (.c (.bool false)),none⟩]) <|
  .seq (.reg [⟨(some 10),.mov (.t 0),none⟩,
    ⟨(some 11),.len (.t 10),none⟩,
    ⟨(some 6),.mov (.t 11),none⟩]) <|
  .seq (.reg [⟨(some 12),.mov (.t 6),none⟩,
    ⟨(some 7),.mov (.c (.int .i64 0)),none⟩,
    ⟨(some 8),.mov (.t 12),none⟩]) <|
  .seqj [0,1,6] [7] (.block 0 (.loop [0,1,6] [7,8] (.seq (.seq (.reg [⟨(some 13),.mov (.t 7),none⟩,
    ⟨(some 14),.mov (.t 8),none⟩,
    ⟨(some 15),.bin .lss (.t 13) (.t 14),none⟩]) <|
  .cond (.t 15) (.skip) (.exit 0)) <|
  .block 1 (.seq (.reg [⟨(some 16),.mov (.t 7),none⟩,
    ⟨(some 17),.mov (.t 8),none⟩,
    ⟨(some 18),.bin .add (.t 16) (.t 17),none⟩,
    ⟨(some 19),.conv .u64 (.t 18),none⟩,
    ⟨(some 20),.bin .shr (.t 19) (.c (.int .u64 1)),none⟩,
    ⟨(some 21),.conv .i64 (.t 20),none⟩,
    ⟨(some 9),.mov (.t 21),none⟩]) <|
  .seq (.reg [⟨(some 22),.mov (.t 0),none⟩,
    ⟨(some 23),.mov (.t 9),none⟩,
    ⟨(some 24),.iadd (.t 22) (.t 23) 1,none⟩,
    ⟨(some 25),.ld (.t 24) 1 false,none⟩,
    ⟨(some 26),.mov (.t 1),none⟩,
    ⟨(some 27),.call gk [(.t 25),(.t 26)],none⟩]) <|
  .cond (.t 27) (.reg [⟨(some 28),.mov (.t 9),none⟩,
    ⟨(some 29),.bin .add (.t 28) (.c (.int .i64 1)),none⟩,
    ⟨(some 7),.mov (.t 29),none⟩]) (.reg [⟨(some 30),.mov (.t 9),none⟩,
    ⟨(some 8),.mov (.t 30),none⟩]))))) <|
  .seq (.reg [⟨(some 31),.mov (.t 7),none⟩,
    ⟨(some 32),.mov (.t 7),none⟩,
    ⟨(some 33),.mov (.t 6),none⟩,
    ⟨(some 34),.bin .lss (.t 32) (.t 33),none⟩,
    ⟨(some 35),.mov (.t 34),none⟩,
    ⟨(some 36),.mov (.t 0),some (35,true)⟩,
    ⟨(some 37),.mov (.t 7),some (35,true)⟩,
    ⟨(some 38),.iadd (.t 36) (.t 37) 1,some (35,true)⟩,
    ⟨(some 39),.ld (.t 38) 1 false,some (35,true)⟩,
    ⟨(some 40),.mov (.t 1),some (35,true)⟩,
    ⟨(some 41),.bin .eql (.t 39) (.t 40),some (35,true)⟩,
    ⟨(some 42),.mov (.t 41),some (35,true)⟩,
    ⟨(some 43),.mov (.t 0),some (42,false)⟩,
    ⟨(some 44),.mov (.t 7),some (42,false)⟩,
    ⟨(some 45),.iadd (.t 43) (.t 44) 1,some (42,false)⟩,
    ⟨(some 46),.ld (.t 45) 1 false,some (42,false)⟩,
    ⟨(some 47),.call jJ [(.t 46)],some (42,false)⟩,
    ⟨(some 48),.mov (.t 47),some (42,false)⟩,
    ⟨(some 49),.mov (.t 1),some (48,true)⟩,
    ⟨(some 50),.call jJ [(.t 49)],some (48,true)⟩,
    ⟨(some 51),.pick (.t 48) (.t 50) (.c (.bool false)),some (42,false)⟩,
    ⟨(some 52),.pick (.t 42) (.c (.bool true)) (.t 51),some (35,true)⟩,
    ⟨(some 53),.pick (.t 35) (.t 52) (.c (.bool false)),none⟩,
    ⟨(some 4),.mov (.t 31),none⟩,
    ⟨(some 5),.mov (.t 53),none⟩]) <|
  .ret,
  [.t 4,.t 5]⟩
theorem fW:cFn PP true db fB (cDr PP 54 ga)=some dn:=by kernel_rfl
def pF:Nat->Option (List Nat×List Nat)
  | 1000008=>some ([4],[])|4000006=>some ([3,4],[1000000])|_=>none
def rP:Nat->Option (List Nat×List Nat×List Nat)
  | _=>none
def mZ:av:=⟨28,
  .seq (.reg [⟨(some 2),.box (.t 0),none⟩,
    ⟨(some 3),.box (.t 1),none⟩,
    ⟨(some 4),.alloc (.int .i64 0),none⟩]) <|
  .seq (.seq (.reg [⟨(some 6),.fadd (.t 3) 0,none⟩,
    ⟨(some 7),.ld (.t 6) 1 false,none⟩,
    ⟨(some 8),.len (.t 7),none⟩,
    ⟨(some 9),.fadd (.t 2) 7,none⟩,
    ⟨(some 10),.ld (.t 9) 1 false,none⟩,
    ⟨(some 11),.len (.t 10),none⟩,
    ⟨(some 12),.bin .neq (.t 8) (.t 11),none⟩,
    ⟨(some 13),.mov (.t 12),none⟩,
    ⟨(some 14),.fadd (.t 3) 1,some (13,false)⟩,
    ⟨(some 15),.ld (.t 14) 1 false,some (13,false)⟩,
    ⟨(some 16),.len (.t 15),some (13,false)⟩,
    ⟨(some 17),.fadd (.t 2) 2,some (13,false)⟩,
    ⟨(some 18),.ld (.t 17) 1 false,some (13,false)⟩,
    ⟨(some 19),.bin .neq (.t 16) (.t 18),some (13,false)⟩,
    ⟨(some 20),.pick (.t 13) (.c (.bool true)) (.t 19),none⟩]) <|
  .cond (.t 20) (.seq (.reg [⟨none,.st (.t 4) (.c (.int .i64 100)) 1,none⟩]) <|
  .ret) (.skip)) <|
  .seqj [4] [] (.seq (.reg [⟨(some 21),.ld (.t 2) 8 true,none⟩,
    ⟨(some 22),.call mL [(.t 21)],none⟩]) <|
  .block 0 (.range (.t 22) [23] [3,4] [1000000] (.reg [⟨(some 5),.alloc (.agg [(.bool false),(.int .i64 0),.nil,(.bool false)]),none⟩,
    ⟨none,.st (.t 5) (.t 23) 4,none⟩]) (.block 1 (.seq (.reg [⟨(some 24),.ld (.t 3) 2 true,none⟩,
    ⟨(some 25),.ld (.t 5) 4 true,none⟩,
    ⟨(some 26),.call nW [(.t 24),(.t 25)],none⟩,
    ⟨(some 27),.un .not (.t 26),none⟩]) <|
  .cond (.t 27) (.seq (.reg [⟨none,.st (.t 4) (.c (.int .i64 100)) 1,none⟩]) <|
  .ret) (.skip))))) <|
  .seq (.reg [⟨none,.st (.t 4) (.c (.int .i64 0)) 1,none⟩]) <|
  .ret,
  [.cell 4 1 false]⟩
theorem re:cFn PP true mM pF (cDr PP 28 rP)=some mZ:=by kernel_rfl
def hQ:Nat->Option (List Nat×List Nat)
  | _=>none
def iN:Nat->Option (List Nat×List Nat×List Nat)
  | _=>none
def bG:av:=⟨9,
  .seq (.reg [⟨(some 4),.mov (.c (.bool false)),none⟩]) <|
  .seq (.reg [⟨(some 5),.mov (.t 0),none⟩,
    ⟨(some 6),.mov (.t 1),none⟩,
    ⟨(some 7),.call bU [(.t 5),(.t 6)],none⟩,
    ⟨(some 8),.bin .geq (.t 7) (.c (.int .i64 0)),none⟩,
    ⟨(some 4),.mov (.t 8),none⟩]) <|
  .ret,
  [.t 4]⟩
theorem du:cFn PP true aJ hQ (cDr PP 9 iN)=some bG:=by kernel_rfl
def eg (a0:D) (a1:D) (h0:Heap) (K:D->Heap->Prop):Prop :=
  ae PP bU [a0,a1] h0 fun a3 h4 =>
  vbin .geq a3 (.int .i64 0) fun a5 =>
  K a5 h4
theorem iF (a0:D) (a1:D) (h0:Heap) (K:D->Heap->Prop):eg a0 a1 h0 K=vcC PP bG.code (fun x e h'=>match x with|.exit _=>False|.pan=>False|.jump _=>False|_=>bO PP bG.res K e h') (params [a0,a1] 0) h0:=by kernel_rfl
def eV:Nat->Option (List Nat×List Nat)
  | _=>none
def fx:Nat->Option (List Nat×List Nat×List Nat)
  | _=>none
def aY:av:=⟨9,
  .seq (.reg [⟨(some 4),.mov (.c (.bool false)),none⟩]) <|
  .seq (.reg [⟨(some 5),.mov (.t 0),none⟩,
    ⟨(some 6),.mov (.t 1),none⟩,
    ⟨(some 7),.call bm [(.t 5),(.t 6)],none⟩,
    ⟨(some 8),.bin .geq (.t 7) (.c (.int .i64 0)),none⟩,
    ⟨(some 4),.mov (.t 8),none⟩]) <|
  .ret,
  [.t 4]⟩
theorem ck:cFn PP true aW eV (cDr PP 9 fx)=some aY:=by kernel_rfl
def cL (a0:D) (a1:D) (h0:Heap) (K:D->Heap->Prop):Prop :=
  ae PP bm [a0,a1] h0 fun a3 h4 =>
  vbin .geq a3 (.int .i64 0) fun a5 =>
  K a5 h4
theorem ft (a0:D) (a1:D) (h0:Heap) (K:D->Heap->Prop):cL a0 a1 h0 K=vcC PP aY.code (fun x e h'=>match x with|.exit _=>False|.pan=>False|.jump _=>False|_=>bO PP aY.res K e h') (params [a0,a1] 0) h0:=by kernel_rfl
def lE:Nat->Option (List Nat×List Nat)
  | _=>none
def ng:Nat->Option (List Nat×List Nat×List Nat)
  | _=>none
def cX:av:=⟨13,
  .seq (.reg [⟨(some 4),.mov (.c (.bool false)),none⟩]) <|
  .seq (.reg [⟨(some 5),.mov (.t 0),none⟩,
    ⟨(some 6),.ld (.t 1) 1 false,none⟩,
    ⟨(some 7),.call aJ [(.t 5),(.t 6)],none⟩,
    ⟨(some 8),.mov (.t 7),none⟩,
    ⟨(some 9),.mov (.t 0),some (8,true)⟩,
    ⟨(some 10),.ld (.t 2) 1 false,some (8,true)⟩,
    ⟨(some 11),.call aJ [(.t 9),(.t 10)],some (8,true)⟩,
    ⟨(some 12),.pick (.t 8) (.t 11) (.c (.bool false)),none⟩,
    ⟨(some 4),.mov (.t 12),none⟩]) <|
  .ret,
  [.t 4]⟩
theorem gJ:cFn PP true eS lE (cDr PP 13 ng)=some cX:=by kernel_rfl
def ji (a0:D) (a1:D) (a2:D) (h0:Heap) (K:D->Heap->Prop):Prop :=
  aa PP (.ld (.c a1) 1 false) h0 fun a4 h5 =>
  ae PP aJ [a0,a4] h5 fun a6 h7 =>
  vguard a6 true (fun G8 =>
  G8 a0 h7) h7 fun a9 h10 =>
  vguard a6 true (fun G11 =>
  aa PP (.ld (.c a2) 1 false) h10 fun a14 h15 =>
  G11 a14 h15) h10 fun a12 h13 =>
  vguard a6 true (fun G16 =>
  ae PP aJ [a9,a12] h13 fun a19 h20 =>
  G16 a19 h20) h13 fun a17 h18 =>
  aa PP (.pick (.c a6) (.c a17) (.c (.bool false))) h18 fun a21 h22 =>
  K a21 h22
theorem my (a0:D) (a1:D) (a2:D) (h0:Heap) (K:D->Heap->Prop):ji a0 a1 a2 h0 K=vcC PP cX.code (fun x e h'=>match x with|.exit _=>False|.pan=>False|.jump _=>False|_=>bO PP cX.res K e h') (params [a0,a1,a2] 0) h0:=by kernel_rfl
def ve:Nat->Option (List Nat×List Nat)
  | _=>none
def xO:Nat->Option (List Nat×List Nat×List Nat)
  | _=>none
def kM:av:=⟨5,
  .seq (.reg [⟨(some 2),.alloc (.agg [(.int .i64 0),(.int .i64 0),(.int .i32 0)]),none⟩]) <|
  .seq (.reg [⟨(some 3),.mov (.t 0),none⟩,
    ⟨(some 4),.bld [(.int .i64 0),(.int .i64 0),(.int .i32 0)] [(0,1,(.c (.int .i64 2))),(1,1,(.t 3))],none⟩,
    ⟨none,.st (.t 2) (.t 4) 3,none⟩]) <|
  .ret,
  [.cell 2 3 true]⟩
theorem oT:cFn PP true bI ve (cDr PP 5 xO)=some kM:=by kernel_rfl
def uN (a0:D) (h0:Heap) (K:D->Heap->Prop):Prop :=
  aa PP (.alloc (.agg [(.int .i64 0),(.int .i64 0),(.int .i32 0)])) h0 fun a2 h3 =>
  aa PP (.bld [(.int .i64 0),(.int .i64 0),(.int .i32 0)] [(0,1,(.c (.int .i64 2))),(1,1,(.c a0))]) h3 fun a4 h5 =>
  aa PP (.st (.c a2) (.c a4) 3) h5 fun a6 h7 =>
  aa PP (.ld (.c a2) 3 true) h7 fun a8 _ =>
  K a8 h7
theorem xz (a0:D) (h0:Heap) (K:D->Heap->Prop):uN a0 h0 K=vcC PP kM.code (fun x e h'=>match x with|.exit _=>False|.pan=>False|.jump _=>False|_=>bO PP kM.res K e h') (params [a0] 0) h0:=by kernel_rfl
def gV:Nat->Option (List Nat×List Nat)
  | _=>none
def jd:Nat->Option (List Nat×List Nat×List Nat)
  | 2=>some ([0,1,3,7,15,0,0,64,192,448,960,0,4032,8128,16320,0,32768,131008,262143,524287,1048575],[17,20],[4,18])|_=>none
noncomputable def gI:av:=⟨32,fq (cFn PP true aw gV (cDr PP 32 jd)),
  []⟩
theorem oS:cFn PP true aw gV (cDr PP 32 jd)=some gI:=by kernel_rfl
def kH (a0:D) (a1:D) (h0:Heap) (K:D->Heap->Prop):Prop :=
  aa PP (.box (.c a1)) h0 fun a3 h4 =>
  aa PP (.fadd (.c a0) 0) h4 fun a5 h6 =>
  aa PP (.fadd (.c a5) 2) h6 fun a7 h8 =>
  aa PP (.fadd (.c a7) 7) h8 fun a9 h10 =>
  aa PP (.ld (.c a9) 1 false) h10 fun a11 h12 =>
  cN a11 h12 fun a13 =>
  vbin .sub a13 (.int .i64 1) fun a14 =>
  af PP (.fadd (.c a0) 0) h12 fun a15 =>
  af PP (.fadd (.c a15) 2) h12 fun a16 =>
  af PP (.fadd (.c a16) 7) h12 fun a17 =>
  af PP (.ld (.c a17) 1 false) h12 fun a18 =>
  af PP (.fadd (.c a0) 0) h12 fun a19 =>
  af PP (.fadd (.c a19) 2) h12 fun a20 =>
  af PP (.fadd (.c a20) 7) h12 fun a21 =>
  af PP (.ld (.c a21) 1 false) h12 fun a22 =>
  af PP (.iadd (.c a22) (.c a14) 14) h12 fun a23 =>
  af PP (.fadd (.c a23) 0) h12 fun a24 =>
  af PP (.ld (.c a24) 1 false) h12 fun a25 =>
  af PP (.ld (.c a3) 15 true) h12 fun a26 =>
  af PP (.bldS false 15 1 (.agg [(.int .i64 0),(.int .i64 0),(.int .i64 0),(.int .i64 0),(.int .i64 0),(.int .i32 0),(.int .i64 0),(.int .i64 0),(.int .i32 0),(.int .i64 0),(.int .i64 0),(.int .i32 0),(.int .i64 0),(.int .i64 0),(.int .i32 0)]) [(0,(.c a26))]) h12 fun a27 =>
  af PP (.iadd (.c a18) (.c a14) 14) h12 fun a28 =>
  af PP (.fadd (.c a28) 0) h12 fun a29 =>
  aa PP (.app (.c a25) (.c a27) 15 120 (.agg [(.int .i64 0),(.int .i64 0),(.int .i64 0),(.int .i64 0),(.int .i64 0),(.int .i32 0),(.int .i64 0),(.int .i64 0),(.int .i32 0),(.int .i64 0),(.int .i64 0),(.int .i32 0),(.int .i64 0),(.int .i64 0),(.int .i32 0)])) h12 fun a30 h31 =>
  ((af PP (.ld (.c a17) 1 false) h31 fun a32=>bw [a32] [a18])/\(af PP (.iadd (.c a18) (.c a14) 14) h31 fun a33=>bw [a33] [a28])/\True) /\
  aa PP (.st (.c a29) (.c a30) 1) h31 fun a34 h35 =>
  ((af PP (.ld (.c a17) 1 false) h35 fun a36=>bw [a36] [a18])/\(af PP (.iadd (.c a18) (.c a14) 14) h35 fun a37=>bw [a37] [a28])/\True) /\
  K (.tup []) h35
theorem oK (a0:D) (a1:D) (h0:Heap) (K:D->Heap->Prop):kH a0 a1 h0 K=vcC PP gI.code (fun x e h'=>match x with|.exit _=>False|.pan=>False|.jump _=>False|_=>bO PP gI.res K e h') (params [a0,a1] 0) h0:=by kernel_rfl
def kA:Nat->Option (List Nat×List Nat)
  | _=>none
def mJ:Nat->Option (List Nat×List Nat×List Nat)
  | _=>none
noncomputable def kY:av:=⟨5,fq (cFn PP true cj kA (cDr PP 5 mJ)),
  [.cell 2 3 true]⟩
theorem ug:cFn PP true cj kA (cDr PP 5 mJ)=some kY:=by kernel_rfl
def qf (a0:D) (h0:Heap) (K:D->Heap->Prop):Prop :=
  aa PP (.alloc (.agg [(.int .i64 0),(.int .i64 0),(.int .i32 0)])) h0 fun a2 h3 =>
  aa PP (.bld [(.int .i64 0),(.int .i64 0),(.int .i32 0)] [(0,1,(.c (.int .i64 1))),(2,1,(.c a0))]) h3 fun a4 h5 =>
  aa PP (.st (.c a2) (.c a4) 3) h5 fun a6 h7 =>
  aa PP (.ld (.c a2) 3 true) h7 fun a8 _ =>
  K a8 h7
theorem tW (a0:D) (h0:Heap) (K:D->Heap->Prop):qf a0 h0 K=vcC PP kY.code (fun x e h'=>match x with|.exit _=>False|.pan=>False|.jump _=>False|_=>bO PP kY.res K e h') (params [a0] 0) h0:=by kernel_rfl
def gq:Nat->Option (List Nat×List Nat)
  | _=>none
def ix:Nat->Option (List Nat×List Nat×List Nat)
  | 18=>some ([0,0,0,4,12,30,62,0,0,0,524,2046,4095],[3,10,12],[999999])|21=>some ([0,0,0,4,0,30,63],[3,6],[999999])|22=>some ([0,0,0,0,8,30,63],[4,6],[999999])|_=>none
noncomputable def fG:av:=⟨133,fq (cFn PP true dA gq (cDr PP 133 ix)),
  []⟩
theorem nF:cFn PP true dA gq (cDr PP 133 ix)=some fG:=by kernel_rfl
def jV (a0:D) (h0:Heap) (K:D->Heap->Prop):Prop :=
  ae PP ah [a0] h0 fun a2 h3 =>
  vbin .rem a2 (.int .i64 16) fun a4 =>
  vbin .lss a4 (.int .i64 3) fun a5 =>
  vcond a5 (ae PP ah [a0] h3 fun a6 h7 =>
  vbin .rem a6 (.int .i64 7) fun a8 =>
  vbin .add (.int .i64 1) a8 fun a9 =>
  ae PP aK [a0] h7 fun a10 h11 =>
  aa PP (.bld [(.int .i64 0),(.int .i64 0),(.int .i64 0),(.int .i64 0),(.int .i64 0),(.int .i32 0),(.int .i64 0),(.int .i64 0),(.int .i32 0),(.int .i64 0),(.int .i64 0),(.int .i32 0),(.int .i64 0),(.int .i64 0),(.int .i32 0)] [(0,1,(.c (.int .i64 5))),(1,1,(.c a9)),(3,3,(.c a10))]) h11 fun a12 h13 =>
  ae PP aw [a0,a12] h13 fun a14 h15 =>
  K (.tup []) h15) (
  vbin .lss a4 (.int .i64 7) fun a16 =>
  vcond a16 (ae PP ah [a0] h3 fun a17 h18 =>
  vbin .rem a17 (.int .i64 20) fun a19 =>
  vbin .add (.int .i64 10) a19 fun a20 =>
  ae PP aK [a0] h18 fun a21 h22 =>
  ae PP aG [a0] h22 fun a23 h24 =>
  ae PP aG [a0] h24 fun a25 h26 =>
  aa PP (.bld [(.int .i64 0),(.int .i64 0),(.int .i64 0),(.int .i64 0),(.int .i64 0),(.int .i32 0),(.int .i64 0),(.int .i64 0),(.int .i32 0),(.int .i64 0),(.int .i64 0),(.int .i32 0),(.int .i64 0),(.int .i64 0),(.int .i32 0)] [(0,1,(.c (.int .i64 3))),(1,1,(.c a20)),(3,3,(.c a21)),(6,3,(.c a23)),(9,3,(.c a25))]) h26 fun a27 h28 =>
  ae PP aw [a0,a27] h28 fun a29 h30 =>
  K (.tup []) h30) (
  vbin .eql a4 (.int .i64 7) fun a31 =>
  vcond a31 (ae PP ah [a0] h3 fun a32 h33 =>
  vbin .rem a32 (.int .i64 5) fun a34 =>
  vbin .add (.int .i64 1) a34 fun a35 =>
  ae PP aK [a0] h33 fun a36 h37 =>
  ae PP aG [a0] h37 fun a38 h39 =>
  aa PP (.bld [(.int .i64 0),(.int .i64 0),(.int .i64 0),(.int .i64 0),(.int .i64 0),(.int .i32 0),(.int .i64 0),(.int .i64 0),(.int .i32 0),(.int .i64 0),(.int .i64 0),(.int .i32 0),(.int .i64 0),(.int .i64 0),(.int .i32 0)] [(0,1,(.c (.int .i64 2))),(1,1,(.c a35)),(3,3,(.c a36)),(6,3,(.c a38))]) h39 fun a40 h41 =>
  ae PP aw [a0,a40] h41 fun a42 h43 =>
  K (.tup []) h43) (
  vbin .eql a4 (.int .i64 8) fun a44 =>
  vcond a44 (ae PP aK [a0] h3 fun a45 h46 =>
  ae PP aG [a0] h46 fun a47 h48 =>
  ae PP aG [a0] h48 fun a49 h50 =>
  ae PP aG [a0] h50 fun a51 h52 =>
  aa PP (.bld [(.int .i64 0),(.int .i64 0),(.int .i64 0),(.int .i64 0),(.int .i64 0),(.int .i32 0),(.int .i64 0),(.int .i64 0),(.int .i32 0),(.int .i64 0),(.int .i64 0),(.int .i32 0),(.int .i64 0),(.int .i64 0),(.int .i32 0)] [(0,1,(.c (.int .i64 4))),(3,3,(.c a45)),(6,3,(.c a47)),(9,3,(.c a49)),(12,3,(.c a51))]) h52 fun a53 h54 =>
  ae PP aw [a0,a53] h54 fun a55 h56 =>
  K (.tup []) h56) (
  vbin .eql a4 (.int .i64 9) fun a57 =>
  vcond a57 (ae PP aK [a0] h3 fun a58 h59 =>
  ae PP aG [a0] h59 fun a60 h61 =>
  aa PP (.bld [(.int .i64 0),(.int .i64 0),(.int .i64 0),(.int .i64 0),(.int .i64 0),(.int .i32 0),(.int .i64 0),(.int .i64 0),(.int .i32 0),(.int .i64 0),(.int .i64 0),(.int .i32 0),(.int .i64 0),(.int .i64 0),(.int .i32 0)] [(0,1,(.c (.int .i64 1))),(3,3,(.c a58)),(6,3,(.c a60))]) h61 fun a62 h63 =>
  ae PP aw [a0,a62] h63 fun a64 h65 =>
  K (.tup []) h65) (
  vbin .eql a4 (.int .i64 10) fun a66 =>
  vcond a66 (ae PP ah [a0] h3 fun a67 h68 =>
  vbin .rem a67 (.int .i64 3) fun a69 =>
  ae PP aK [a0] h68 fun a70 h71 =>
  aa PP (.bld [(.int .i64 0),(.int .i64 0),(.int .i64 0),(.int .i64 0),(.int .i64 0),(.int .i32 0),(.int .i64 0),(.int .i64 0),(.int .i32 0),(.int .i64 0),(.int .i64 0),(.int .i32 0),(.int .i64 0),(.int .i64 0),(.int .i32 0)] [(0,1,(.c (.int .i64 6))),(2,1,(.c a69)),(3,3,(.c a70))]) h71 fun a72 h73 =>
  ae PP aw [a0,a72] h73 fun a74 h75 =>
  K (.tup []) h75) (
  vbin .eql a4 (.int .i64 11) fun a76 =>
  vcond a76 (ae PP ah [a0] h3 fun a77 h78 =>
  vbin .rem a77 (.int .i64 2) fun a79 =>
  vbin .add (.int .i64 1) a79 fun a80 =>
  aa PP (.bld [(.int .i64 0),(.int .i64 0),(.int .i64 0),(.int .i64 0),(.int .i64 0),(.int .i32 0),(.int .i64 0),(.int .i64 0),(.int .i32 0),(.int .i64 0),(.int .i64 0),(.int .i32 0),(.int .i64 0),(.int .i64 0),(.int .i32 0)] [(0,1,(.c (.int .i64 10))),(1,1,(.c a80))]) h78 fun a81 h82 =>
  ae PP aw [a0,a81] h82 fun a83 h84 =>
  K (.tup []) h84) (
  vbin .eql a4 (.int .i64 12) fun a85 =>
  vcond a85 (ae PP cb [a0,(.bool false)] h3 fun a86 h87 =>
  aa PP (.ext (.c a86) 0) h87 fun a88 h89 =>
  aa PP (.ext (.c a86) 1) h89 fun a90 h91 =>
  aa PP (.alloc (.agg [(.int .i64 0),(.int .i64 0),(.int .i32 0)])) h91 fun a92 h93 =>
  aa PP (.st (.c a92) (.c a90) 3) h93 fun a94 h95 =>
  af PP (.bldS false 1 6 (.int .i64 0) [(0,(.c (.int .i64 10))),(1,(.c (.int .i64 22))),(2,(.c (.int .i64 23))),(3,(.c (.int .i64 17))),(4,(.c (.int .i64 18))),(5,(.c (.int .i64 19)))]) h95 fun a96 =>
  af PP (.ld (.c a92) 3 true) h95 fun a97 =>
  ae PP ah [a0] h95 fun a98 h99 =>
  ((af PP (.ld (.c a92) 3 true) h99 fun a100=>bw [a100] [a97])/\True) /\
  vbin .rem a98 (.int .i64 6) fun a101 =>
  af PP (.iadd (.c a96) (.c a101) 1) h99 fun a102 =>
  af PP (.ld (.c a102) 1 false) h99 fun a103 =>
  ae PP aG [a0] h99 fun a104 h105 =>
  ((af PP (.iadd (.c a96) (.c a101) 1) h105 fun a106=>bw [a106] [a102])/\(af PP (.ld (.c a102) 1 false) h105 fun a107=>bw [a107] [a103])/\(af PP (.ld (.c a92) 3 true) h105 fun a108=>bw [a108] [a97])/\True) /\
  af PP (.bld [(.int .i64 0),(.int .i64 0),(.int .i64 0),(.int .i64 0),(.int .i64 0),(.int .i32 0),(.int .i64 0),(.int .i64 0),(.int .i32 0),(.int .i64 0),(.int .i64 0),(.int .i32 0),(.int .i64 0),(.int .i64 0),(.int .i32 0)] [(0,1,(.c (.int .i64 9))),(1,1,(.c a103)),(2,1,(.c a88)),(6,3,(.c a97)),(9,3,(.c a104))]) h105 fun a109 =>
  ae PP aw [a0,a109] h105 fun a110 h111 =>
  K (.tup []) h111) (
  ae PP cb [a0,(.bool true)] h3 fun a112 h113 =>
  aa PP (.ext (.c a112) 0) h113 fun a114 h115 =>
  aa PP (.ext (.c a112) 1) h115 fun a116 h117 =>
  aa PP (.alloc (.agg [(.int .i64 0),(.int .i64 0),(.int .i32 0)])) h117 fun a118 h119 =>
  aa PP (.st (.c a118) (.c a116) 3) h119 fun a120 h121 =>
  vbin .eql a4 (.int .i64 13) fun a122 =>
  vcond a122 (af PP (.ld (.c a118) 3 true) h121 fun a123 =>
  ae PP aK [a0] h121 fun a124 h125 =>
  ((af PP (.ld (.c a118) 3 true) h125 fun a126=>bw [a126] [a123])/\True) /\
  af PP (.bld [(.int .i64 0),(.int .i64 0),(.int .i64 0),(.int .i64 0),(.int .i64 0),(.int .i32 0),(.int .i64 0),(.int .i64 0),(.int .i32 0),(.int .i64 0),(.int .i64 0),(.int .i32 0),(.int .i64 0),(.int .i64 0),(.int .i32 0)] [(0,1,(.c (.int .i64 7))),(2,1,(.c a114)),(3,3,(.c a124)),(6,3,(.c a123))]) h125 fun a127 =>
  ae PP aw [a0,a127] h125 fun a128 h129 =>
  K (.tup []) h129) (
  af PP (.ld (.c a118) 3 true) h121 fun a130 =>
  ae PP aG [a0] h121 fun a131 h132 =>
  ((af PP (.ld (.c a118) 3 true) h132 fun a133=>bw [a133] [a130])/\True) /\
  af PP (.bld [(.int .i64 0),(.int .i64 0),(.int .i64 0),(.int .i64 0),(.int .i64 0),(.int .i32 0),(.int .i64 0),(.int .i64 0),(.int .i32 0),(.int .i64 0),(.int .i64 0),(.int .i32 0),(.int .i64 0),(.int .i64 0),(.int .i32 0)] [(0,1,(.c (.int .i64 8))),(2,1,(.c a114)),(6,3,(.c a130)),(9,3,(.c a131))]) h132 fun a134 =>
  ae PP aw [a0,a134] h132 fun a135 h136 =>
  K (.tup []) h136)))))))))
theorem nv (a0:D) (h0:Heap) (K:D->Heap->Prop):jV a0 h0 K=vcC PP fG.code (fun x e h'=>match x with|.exit _=>False|.pan=>False|.jump _=>False|_=>bO PP fG.res K e h') (params [a0] 0) h0:=by kernel_rfl
def jM:Nat->Option (List Nat×List Nat)
  | _=>none
def kS:Nat->Option (List Nat×List Nat×List Nat)
  | _=>none
def gF:av:=⟨11,
  .seq (.reg [⟨(some 3),.mov (.t 0),none⟩,
    ⟨(some 4),.len (.t 3),none⟩,
    ⟨(some 2),.mov (.t 4),none⟩]) <|
  .reg [⟨(some 5),.mov (.t 0),none⟩,
    ⟨(some 6),.mov (.t 2),none⟩,
    ⟨(some 7),.mov (.t 2),none⟩,
    ⟨(some 8),.conv .u64 (.t 7),none⟩,
    ⟨(some 9),.call mO [(.t 8)],none⟩,
    ⟨(some 10),.call bx [(.t 5),(.c (.int .i64 0)),(.t 6),(.t 9)],none⟩],
  []⟩
theorem ko:cFn PP true gi jM (cDr PP 11 kS)=some gF:=by kernel_rfl
def tO:Nat->Option (List Nat×List Nat)
  | _=>none
def wz:Nat->Option (List Nat×List Nat×List Nat)
  | _=>none
def te:av:=⟨30,
  .seq (.reg [⟨(some 1),.box (.t 0),none⟩,
    ⟨(some 2),.mov (.c .nil),none⟩]) <|
  .seq (.seq (.reg [⟨(some 3),.fadd (.t 1) 0,none⟩,
    ⟨(some 4),.ld (.t 3) 1 false,none⟩,
    ⟨(some 5),.bin .eql (.t 4) (.c (.int .i64 5)),none⟩]) <|
  .cond (.t 5) (.seq (.reg [⟨(some 6),.bldS true 1 0 (.int .i64 0) [],none⟩,
    ⟨(some 2),.mov (.t 6),none⟩]) <|
  .ret) (.skip)) <|
  .seq (.seq (.reg [⟨(some 7),.fadd (.t 1) 0,none⟩,
    ⟨(some 8),.ld (.t 7) 1 false,none⟩,
    ⟨(some 9),.bin .eql (.t 8) (.c (.int .i64 2)),none⟩,
    ⟨(some 10),.mov (.t 9),none⟩,
    ⟨(some 11),.fadd (.t 1) 11,some (10,true)⟩,
    ⟨(some 12),.iadda (.t 11) (.c (.int .i64 0)) 2 1,some (10,true)⟩,
    ⟨(some 13),.ld (.t 12) 1 false,some (10,true)⟩,
    ⟨(some 14),.fadd (.t 1) 11,some (10,true)⟩,
    ⟨(some 15),.iadda (.t 14) (.c (.int .i64 1)) 2 1,some (10,true)⟩,
    ⟨(some 16),.ld (.t 15) 1 false,some (10,true)⟩,
    ⟨(some 17),.bin .neq (.t 13) (.t 16),some (10,true)⟩,
    ⟨(some 18),.pick (.t 10) (.t 17) (.c (.bool false)),none⟩]) <|
  .cond (.t 18) (.seq (.reg [⟨(some 19),.fadd (.t 1) 11,none⟩,
    ⟨(some 20),.iadda (.t 19) (.c (.int .i64 0)) 2 1,none⟩,
    ⟨(some 21),.ld (.t 20) 1 false,none⟩,
    ⟨(some 22),.fadd (.t 1) 11,none⟩,
    ⟨(some 23),.iadda (.t 22) (.c (.int .i64 1)) 2 1,none⟩,
    ⟨(some 24),.ld (.t 23) 1 false,none⟩,
    ⟨(some 25),.bldS true 1 2 (.int .i64 0) [(0,(.t 21)),(1,(.t 24))],none⟩,
    ⟨(some 2),.mov (.t 25),none⟩]) <|
  .ret) (.skip)) <|
  .seq (.reg [⟨(some 26),.fadd (.t 1) 11,none⟩,
    ⟨(some 27),.iadda (.t 26) (.c (.int .i64 0)) 2 1,none⟩,
    ⟨(some 28),.ld (.t 27) 1 false,none⟩,
    ⟨(some 29),.bldS true 1 1 (.int .i64 0) [(0,(.t 28))],none⟩,
    ⟨(some 2),.mov (.t 29),none⟩]) <|
  .ret,
  [.t 2]⟩
theorem vI:cFn PP true sj tO (cDr PP 30 wz)=some te:=by kernel_rfl
def lA:Nat->Option (List Nat×List Nat)
  | 1000017=>some ([7],[])|6=>some ([0,2,7],[8])|10=>some ([0,2,7,9],[8,10])|1000012=>some ([0,2,7,9,10],[8])|_=>none
def nM:Nat->Option (List Nat×List Nat×List Nat)
  | _=>none
noncomputable def mA:av:=⟨66,fq (cFn PP true cI lA (cDr PP 66 nM)),
  [.t 6]⟩
theorem vH:cFn PP true cI lA (cDr PP 66 nM)=some mA:=by kernel_rfl
def mS (a27:D) (h28:Heap) (a0:D) (a25:D) (a2:D) (a5:D) (n18:Nat) (I17:Nat->List D->Heap->Prop):Prop :=
  ∃(I29:Nat->List D->Heap->Prop) (n₀:Nat),I29 n₀ [a27,(.int .i64 0)] h28/\∀(n30:Nat) (f31:Nat->D) (h32:Heap),I29 n30 [f31 8,f31 10] h32 ->
  aa PP (.iadd (.c a0) (.c a25) 1) h32 fun a33 h34 =>
  aa PP (.ld (.c a33) 1 false) h34 fun a35 h36 =>
  cN a35 h36 fun a37 =>
  vbin .lss (f31 10) a37 fun a38 =>
  vcond a38 (∃(J39:List D->Heap->Prop),(∀(f40:Nat->D) (h41:Heap),J39 [f40 8] h41 ->
  vbin .add (f31 10) (.int .i64 1) fun a42 =>
  bw [a0,a2,a5,a25] [a0,a2,a5,a25]/\∃m,m<n30/\I29 m [(f40 8),a42] h41) /\
  aa PP (.iadd (.c a0) (.c a25) 1) h36 fun a43 h44 =>
  aa PP (.ld (.c a43) 1 false) h44 fun a45 h46 =>
  aa PP (.iadd (.c a45) (.c (f31 10)) 1) h46 fun a47 h48 =>
  aa PP (.ld (.c a47) 1 false) h48 fun a49 h50 =>
  aa PP (.iadd (.c a5) (.c a49) 1) h50 fun a51 h52 =>
  aa PP (.ld (.c a51) 1 false) h52 fun a53 h54 =>
  vun .not a53 fun a55 =>
  vguard a55 true (fun G56 =>
  G56 a49 h54) h54 fun a57 h58 =>
  vguard a55 true (fun G59 =>
  G59 a2 h58) h58 fun a60 h61 =>
  vguard a55 true (fun G62 =>
  vbin .neq a57 a60 fun a65 =>
  G62 a65 h61) h61 fun a63 h64 =>
  aa PP (.pick (.c a55) (.c a63) (.c (.bool false))) h64 fun a66 h67 =>
  vcond a66 (aa PP (.iadd (.c a5) (.c a49) 1) h67 fun a68 h69 =>
  aa PP (.st (.c a68) (.c (.bool true)) 1) h69 fun a70 h71 =>
  aa PP (.bldS true 1 1 (.int .i64 0) [(0,(.c a49))]) h71 fun a72 h73 =>
  aa PP (.app (.c (f31 8)) (.c a72) 1 8 (.int .i64 0)) h73 fun a74 h75 =>
  bw [a0,a2,a5,a25,(f31 10)] [a0,a2,a5,a25,(f31 10)]/\J39 [a74] h75) (
  bw [a0,a2,a5,a25,(f31 10)] [a0,a2,a5,a25,(f31 10)]/\J39 [(f31 8)] h67)) (
  bw [a0,a2,a5] [a0,a2,a5]/\∃m,m<n18/\I17 m [(f31 8)] h36)
def mR (a12:D) (h13:Heap) (a0:D) (a2:D) (a5:D) (J14:List D->Heap->Prop):Prop :=
  ∃(I17:Nat->List D->Heap->Prop) (n₀:Nat),I17 n₀ [a12] h13/\∀(n18:Nat) (f19:Nat->D) (h20:Heap),I17 n18 [f19 8] h20 ->
  cN (f19 8) h20 fun a21 =>
  vbin .gtr a21 (.int .i64 0) fun a22 =>
  vcond a22 (aa PP (.iadd (.c (f19 8)) (.c (.int .i64 0)) 1) h20 fun a23 h24 =>
  aa PP (.ld (.c a23) 1 false) h24 fun a25 h26 =>
  aa PP (.pB (.c (f19 8)) (some (.c (.int .i64 1))) none none 1) h26 fun a27 h28 =>
  mS a27 h28 a0 a25 a2 a5 n18 I17) (
  bw [a5] [a5]/\J14 [] h20)
def sQ (a0:D) (a1:D) (a2:D) (h0:Heap) (K:D->Heap->Prop):Prop :=
  cN a0 h0 fun a4 =>
  aa PP (.mk 1 1 (.bool false) (.c a4) (.c a4)) h0 fun a5 h6 =>
  vbin .eql a1 a2 fun a7 =>
  vcond a7 (K a5 h6) (
  aa PP (.iadd (.c a5) (.c a1) 1) h6 fun a8 h9 =>
  aa PP (.st (.c a8) (.c (.bool true)) 1) h9 fun a10 h11 =>
  aa PP (.bldS true 1 1 (.int .i64 0) [(0,(.c a1))]) h11 fun a12 h13 =>
  ∃(J14:List D->Heap->Prop),(∀(f15:Nat->D) (h16:Heap),J14 [] h16 ->
  K a5 h16) /\
  mR a12 h13 a0 a2 a5 J14)
theorem vu (a0:D) (a1:D) (a2:D) (h0:Heap) (K:D->Heap->Prop):sQ a0 a1 a2 h0 K=vcC PP mA.code (fun x e h'=>match x with|.exit _=>False|.pan=>False|.jump _=>False|_=>bO PP mA.res K e h') (params [a0,a1,a2] 0) h0:=by kernel_rfl
def sB:Nat->Option (List Nat×List Nat)
  | 1000007=>some ([],[3])|3=>some ([1],[3,4])|_=>none
def uY:Nat->Option (List Nat×List Nat×List Nat)
  | _=>none
def qk:av:=⟨24,
  .seq (.reg [⟨(some 1),.box (.t 0),none⟩,
    ⟨(some 2),.mov (.c .nil),none⟩]) <|
  .seq (.reg [⟨(some 5),.bldS true 1 0 .nil [],none⟩,
    ⟨(some 3),.mov (.t 5),none⟩]) <|
  .seqj [] [3] (.seq (.reg [⟨(some 4),.mov (.c (.int .i64 0)),none⟩]) <|
  .block 0 (.loop [1] [3,4] (.seq (.seq (.reg [⟨(some 6),.mov (.t 4),none⟩,
    ⟨(some 7),.fadd (.t 1) 7,none⟩,
    ⟨(some 8),.ld (.t 7) 1 false,none⟩,
    ⟨(some 9),.len (.t 8),none⟩,
    ⟨(some 10),.bin .lss (.t 6) (.t 9),none⟩]) <|
  .cond (.t 10) (.skip) (.exit 0)) <|
  .seq (.block 1 (.reg [⟨(some 13),.mov (.t 3),none⟩,
    ⟨(some 14),.fadd (.t 1) 7,none⟩,
    ⟨(some 15),.ld (.t 14) 1 false,none⟩,
    ⟨(some 16),.mov (.t 4),none⟩,
    ⟨(some 17),.iadd (.t 15) (.t 16) 14,none⟩,
    ⟨(some 18),.fadd (.t 17) 1,none⟩,
    ⟨(some 19),.ld (.t 18) 13 true,none⟩,
    ⟨(some 20),.call jt [(.t 19)],none⟩,
    ⟨(some 21),.bldS true 1 1 .nil [(0,(.t 20))],none⟩,
    ⟨(some 22),.app (.t 13) (.t 21) 1 24 .nil,none⟩,
    ⟨(some 3),.mov (.t 22),none⟩])) <|
  .reg [⟨(some 11),.mov (.t 4),none⟩,
    ⟨(some 12),.bin .add (.t 11) (.c (.int .i64 1)),none⟩,
    ⟨(some 4),.mov (.t 12),none⟩]))) <|
  .seq (.reg [⟨(some 23),.mov (.t 3),none⟩,
    ⟨(some 2),.mov (.t 23),none⟩]) <|
  .ret,
  [.t 2]⟩
theorem ud:cFn PP true kU sB (cDr PP 24 uY)=some qk:=by kernel_rfl
def sA:Nat->Option (List Nat×List Nat)
  | 1000010=>some ([3,4,5],[])|5=>some ([1,3,4,5],[6])|1000007=>some ([1,3,4,5,6],[])|1000015=>some ([3],[])|10=>some ([3,4,5],[7])|1000012=>some ([3,4,5,7],[])|_=>none
def uX:Nat->Option (List Nat×List Nat×List Nat)
  | 13=>some ([0,0,0,6,14,0,0,0,0,384,896,1984,4032,8160,0,16384,65504,131071,262143],[13,16,18],[3,4,17])|_=>none
def qj:av:=⟨72,
  .seq (.reg [⟨(some 1),.box (.t 0),none⟩,
    ⟨(some 2),.mov (.c .nil),none⟩]) <|
  .seq (.reg [⟨(some 8),.ld (.t 1) 8 true,none⟩,
    ⟨(some 9),.call kU [(.t 8)],none⟩,
    ⟨(some 10),.bldS true 1 0 (.int .i64 0) [],none⟩,
    ⟨(some 11),.bldS true 1 1 .nil [(0,(.t 10))],none⟩,
    ⟨(some 12),.app (.t 9) (.t 11) 1 24 .nil,none⟩,
    ⟨(some 3),.mov (.t 12),none⟩]) <|
  .seq (.reg [⟨(some 13),.fadd (.t 1) 7,none⟩,
    ⟨(some 14),.ld (.t 13) 1 false,none⟩,
    ⟨(some 15),.len (.t 14),none⟩,
    ⟨(some 4),.mov (.t 15),none⟩]) <|
  .seq (.reg [⟨(some 16),.ld (.t 1) 8 true,none⟩,
    ⟨(some 17),.call p0 [(.t 16)],none⟩,
    ⟨(some 5),.mov (.t 17),none⟩]) <|
  .seqj [3,4,5] [] (.seq (.reg [⟨(some 6),.mov (.c (.int .i64 0)),none⟩]) <|
  .block 0 (.loop [1,3,4,5] [6] (.seq (.seq (.reg [⟨(some 18),.mov (.t 6),none⟩,
    ⟨(some 19),.mov (.t 4),none⟩,
    ⟨(some 20),.bin .lss (.t 18) (.t 19),none⟩]) <|
  .cond (.t 20) (.skip) (.exit 0)) <|
  .seqj [1,3,4,5,6] [] (.block 1 (.seq (.reg [⟨(some 23),.fadd (.t 1) 7,none⟩,
    ⟨(some 24),.ld (.t 23) 1 false,none⟩,
    ⟨(some 25),.mov (.t 6),none⟩,
    ⟨(some 26),.iadd (.t 24) (.t 25) 14,none⟩,
    ⟨(some 27),.fadd (.t 26) 1,none⟩,
    ⟨(some 28),.fadd (.t 27) 0,none⟩,
    ⟨(some 29),.ld (.t 28) 1 false,none⟩,
    ⟨(some 30),.bin .eql (.t 29) (.c (.int .i64 5)),none⟩]) <|
  .cond (.t 30) (.reg [⟨(some 31),.mov (.t 3),none⟩,
    ⟨(some 32),.mov (.t 6),none⟩,
    ⟨(some 33),.mov (.t 4),none⟩,
    ⟨(some 34),.bldS true 1 1 (.int .i64 0) [(0,(.t 33))],none⟩,
    ⟨(some 35),.iadd (.t 31) (.t 32) 1,none⟩,
    ⟨none,.st (.t 35) (.t 34) 1,none⟩]) (.skip))) <|
  .reg [⟨(some 21),.mov (.t 6),none⟩,
    ⟨(some 22),.bin .add (.t 21) (.c (.int .i64 1)),none⟩,
    ⟨(some 6),.mov (.t 22),none⟩]))) <|
  .seqj [3] [] (.seq (.reg [⟨(some 36),.mov (.t 5),none⟩,
    ⟨(some 37),.len (.t 36),none⟩,
    ⟨(some 38),.bin .sub (.t 37) (.c (.int .i64 1)),none⟩,
    ⟨(some 7),.mov (.t 38),none⟩]) <|
  .block 2 (.loop [3,4,5] [7] (.seq (.seq (.reg [⟨(some 39),.mov (.t 7),none⟩,
    ⟨(some 40),.bin .geq (.t 39) (.c (.int .i64 0)),none⟩]) <|
  .cond (.t 40) (.skip) (.exit 2)) <|
  .seqj [3,4,5,7] [] (.block 3 (.seq (.reg [⟨(some 43),.mov (.t 3),none⟩,
    ⟨(some 44),.mov (.t 5),none⟩,
    ⟨(some 45),.mov (.t 7),none⟩,
    ⟨(some 46),.iadd (.t 44) (.t 45) 1,none⟩,
    ⟨(some 47),.ld (.t 46) 1 false,none⟩,
    ⟨(some 48),.call cI [(.t 43),(.t 47),(.c (.int .i64 (-1)))],none⟩,
    ⟨(some 49),.mov (.t 4),none⟩,
    ⟨(some 50),.iadd (.t 48) (.t 49) 1,none⟩,
    ⟨(some 51),.ld (.t 50) 1 false,none⟩,
    ⟨(some 52),.un .not (.t 51),none⟩]) <|
  .cond (.t 52) (.dreg [⟨(some 53),.mov (.t 3),none⟩,
    ⟨(some 54),.mov (.t 5),none⟩,
    ⟨(some 55),.mov (.t 7),none⟩,
    ⟨(some 56),.iadd (.t 54) (.t 55) 1,none⟩,
    ⟨(some 57),.ld (.t 56) 1 false,none⟩,
    ⟨(some 58),.bldS false 1 0 (.int .i64 0) [],none⟩,
    ⟨(some 59),.mov (.t 3),none⟩,
    ⟨(some 60),.mov (.t 5),none⟩,
    ⟨(some 61),.mov (.t 7),none⟩,
    ⟨(some 62),.iadd (.t 60) (.t 61) 1,none⟩,
    ⟨(some 63),.ld (.t 62) 1 false,none⟩,
    ⟨(some 64),.iadd (.t 59) (.t 63) 1,none⟩,
    ⟨(some 65),.ld (.t 64) 1 false,none⟩,
    ⟨(some 67),.mov (.t 4),none⟩,
    ⟨(some 68),.bldS false 1 1 (.int .i64 0) [(0,(.t 67))],none⟩,
    ⟨(some 70),.iadd (.t 53) (.t 57) 1,none⟩] [⟨(some 66),.app (.t 58) (.t 65) 1 8 (.int .i64 0),none⟩,
    ⟨(some 69),.app (.t 66) (.t 68) 1 8 (.int .i64 0),none⟩,
    ⟨none,.st (.t 70) (.t 69) 1,none⟩] [⟨(some 56),.iadd (.t 54) (.t 55) 1,none⟩,
    ⟨(some 57),.ld (.t 56) 1 false,none⟩,
    ⟨(some 70),.iadd (.t 53) (.t 57) 1,none⟩]) (.skip))) <|
  .reg [⟨(some 41),.mov (.t 7),none⟩,
    ⟨(some 42),.bin .sub (.t 41) (.c (.int .i64 1)),none⟩,
    ⟨(some 7),.mov (.t 42),none⟩]))) <|
  .seq (.reg [⟨(some 71),.mov (.t 3),none⟩,
    ⟨(some 2),.mov (.t 71),none⟩]) <|
  .ret,
  [.t 2]⟩
theorem uc:cFn PP true p5 sA (cDr PP 72 uX)=some qj:=by kernel_rfl
def tN:Nat->Option (List Nat×List Nat)
  | _=>none
def wy:Nat->Option (List Nat×List Nat×List Nat)
  | _=>none
def tc:av:=⟨30,
  .seq (.reg [⟨(some 1),.box (.t 0),none⟩,
    ⟨(some 2),.mov (.c .nil),none⟩]) <|
  .seq (.seq (.reg [⟨(some 3),.fadd (.t 1) 0,none⟩,
    ⟨(some 4),.ld (.t 3) 1 false,none⟩,
    ⟨(some 5),.bin .eql (.t 4) (.c (.int .i64 5)),none⟩]) <|
  .cond (.t 5) (.seq (.reg [⟨(some 6),.bldS true 1 0 (.int .i64 0) [],none⟩,
    ⟨(some 2),.mov (.t 6),none⟩]) <|
  .ret) (.skip)) <|
  .seq (.seq (.reg [⟨(some 7),.fadd (.t 1) 0,none⟩,
    ⟨(some 8),.ld (.t 7) 1 false,none⟩,
    ⟨(some 9),.bin .eql (.t 8) (.c (.int .i64 2)),none⟩,
    ⟨(some 10),.mov (.t 9),none⟩,
    ⟨(some 11),.fadd (.t 1) 11,some (10,true)⟩,
    ⟨(some 12),.iadda (.t 11) (.c (.int .i64 0)) 2 1,some (10,true)⟩,
    ⟨(some 13),.ld (.t 12) 1 false,some (10,true)⟩,
    ⟨(some 14),.fadd (.t 1) 11,some (10,true)⟩,
    ⟨(some 15),.iadda (.t 14) (.c (.int .i64 1)) 2 1,some (10,true)⟩,
    ⟨(some 16),.ld (.t 15) 1 false,some (10,true)⟩,
    ⟨(some 17),.bin .neq (.t 13) (.t 16),some (10,true)⟩,
    ⟨(some 18),.pick (.t 10) (.t 17) (.c (.bool false)),none⟩]) <|
  .cond (.t 18) (.seq (.reg [⟨(some 19),.fadd (.t 1) 11,none⟩,
    ⟨(some 20),.iadda (.t 19) (.c (.int .i64 0)) 2 1,none⟩,
    ⟨(some 21),.ld (.t 20) 1 false,none⟩,
    ⟨(some 22),.fadd (.t 1) 11,none⟩,
    ⟨(some 23),.iadda (.t 22) (.c (.int .i64 1)) 2 1,none⟩,
    ⟨(some 24),.ld (.t 23) 1 false,none⟩,
    ⟨(some 25),.bldS true 1 2 (.int .i64 0) [(0,(.t 21)),(1,(.t 24))],none⟩,
    ⟨(some 2),.mov (.t 25),none⟩]) <|
  .ret) (.skip)) <|
  .seq (.reg [⟨(some 26),.fadd (.t 1) 11,none⟩,
    ⟨(some 27),.iadda (.t 26) (.c (.int .i64 0)) 2 1,none⟩,
    ⟨(some 28),.ld (.t 27) 1 false,none⟩,
    ⟨(some 29),.bldS true 1 1 (.int .i64 0) [(0,(.t 28))],none⟩,
    ⟨(some 2),.mov (.t 29),none⟩]) <|
  .ret,
  [.t 2]⟩
theorem vG:cFn PP true jt tN (cDr PP 30 wy)=some tc:=by kernel_rfl
def sC:Nat->Option (List Nat×List Nat)
  | _=>none
def uZ:Nat->Option (List Nat×List Nat×List Nat)
  | _=>none
def ql:av:=⟨22,
  .seq (.reg [⟨(some 6),.mov (.c (.bool false)),none⟩]) <|
  .seq (.reg [⟨(some 7),.mov (.t 1),none⟩,
    ⟨(some 8),.mov (.t 2),none⟩,
    ⟨(some 9),.bin .eql (.t 7) (.t 8),none⟩,
    ⟨(some 10),.mov (.t 9),none⟩,
    ⟨(some 11),.mov (.t 0),some (10,false)⟩,
    ⟨(some 12),.mov (.t 1),some (10,false)⟩,
    ⟨(some 13),.mov (.t 2),some (10,false)⟩,
    ⟨(some 14),.call cI [(.t 11),(.t 12),(.t 13)],some (10,false)⟩,
    ⟨(some 15),.mov (.t 0),some (10,false)⟩,
    ⟨(some 16),.len (.t 15),some (10,false)⟩,
    ⟨(some 17),.bin .sub (.t 16) (.c (.int .i64 1)),some (10,false)⟩,
    ⟨(some 18),.iadd (.t 14) (.t 17) 1,some (10,false)⟩,
    ⟨(some 19),.ld (.t 18) 1 false,some (10,false)⟩,
    ⟨(some 20),.un .not (.t 19),some (10,false)⟩,
    ⟨(some 21),.pick (.t 10) (.c (.bool true)) (.t 20),none⟩,
    ⟨(some 6),.mov (.t 21),none⟩]) <|
  .ret,
  [.t 6]⟩
theorem ue:cFn PP true ik sC (cDr PP 22 uZ)=some ql:=by kernel_rfl
def og:Nat->Option (List Nat×List Nat)
  | _=>none
def qA:Nat->Option (List Nat×List Nat×List Nat)
  | _=>none
def lP:av:=⟨16,
  .seq (.reg [⟨(some 2),.box (.t 0),none⟩,
    ⟨(some 3),.box (.t 1),none⟩,
    ⟨(some 4),.mov (.c (.bool false)),none⟩]) <|
  .seq (.reg [⟨(some 5),.fadd (.t 3) 0,none⟩,
    ⟨(some 6),.ld (.t 5) 1 false,none⟩,
    ⟨(some 7),.bin .neq (.t 6) (.c (.int .i64 2)),none⟩,
    ⟨(some 8),.mov (.t 7),none⟩,
    ⟨(some 9),.fadd (.t 2) 1,some (8,false)⟩,
    ⟨(some 10),.ld (.t 9) 1 false,some (8,false)⟩,
    ⟨(some 11),.fadd (.t 3) 1,some (8,false)⟩,
    ⟨(some 12),.ld (.t 11) 1 false,some (8,false)⟩,
    ⟨(some 13),.iadd (.t 10) (.t 12) 1,some (8,false)⟩,
    ⟨(some 14),.ld (.t 13) 1 false,some (8,false)⟩,
    ⟨(some 15),.pick (.t 8) (.c (.bool true)) (.t 14),none⟩,
    ⟨(some 4),.mov (.t 15),none⟩]) <|
  .ret,
  [.t 4]⟩
theorem pQ:cFn PP true de og (cDr PP 16 qA)=some lP:=by kernel_rfl
def tP:Nat->Option (List Nat×List Nat)
  | _=>none
def wA:Nat->Option (List Nat×List Nat×List Nat)
  | _=>none
def tf:av:=⟨10,
  .seq (.reg [⟨(some 1),.box (.t 0),none⟩,
    ⟨(some 2),.mov (.c (.int .i64 0)),none⟩]) <|
  .seq (.seq (.reg [⟨(some 3),.fadd (.t 1) 2,none⟩,
    ⟨(some 4),.fadd (.t 3) 0,none⟩,
    ⟨(some 5),.ld (.t 4) 1 false,none⟩,
    ⟨(some 6),.bin .eql (.t 5) (.c (.int .i64 2)),none⟩]) <|
  .cond (.t 6) (.seq (.reg [⟨(some 7),.fadd (.t 1) 2,none⟩,
    ⟨(some 8),.fadd (.t 7) 1,none⟩,
    ⟨(some 9),.ld (.t 8) 1 false,none⟩,
    ⟨(some 2),.mov (.t 9),none⟩]) <|
  .ret) (.skip)) <|
  .seq (.reg [⟨(some 2),.mov (.c (.int .i64 (-1))),none⟩]) <|
  .ret,
  [.t 2]⟩
theorem vK:cFn PP true sk tP (cDr PP 10 wA)=some tf:=by kernel_rfl
def vj:Nat->Option (List Nat×List Nat)
  | _=>none
def xP:Nat->Option (List Nat×List Nat×List Nat)
  | _=>none
def uQ:av:=⟨10,
  .seq (.reg [⟨(some 1),.box (.t 0),none⟩,
    ⟨(some 2),.mov (.c (.int .i64 0)),none⟩]) <|
  .seq (.seq (.reg [⟨(some 3),.fadd (.t 1) 3,none⟩,
    ⟨(some 4),.fadd (.t 3) 0,none⟩,
    ⟨(some 5),.ld (.t 4) 1 false,none⟩,
    ⟨(some 6),.bin .eql (.t 5) (.c (.int .i64 2)),none⟩]) <|
  .cond (.t 6) (.seq (.reg [⟨(some 7),.fadd (.t 1) 3,none⟩,
    ⟨(some 8),.fadd (.t 7) 1,none⟩,
    ⟨(some 9),.ld (.t 8) 1 false,none⟩,
    ⟨(some 2),.mov (.t 9),none⟩]) <|
  .ret) (.skip)) <|
  .seq (.reg [⟨(some 2),.mov (.c (.int .i64 (-1))),none⟩]) <|
  .ret,
  [.t 2]⟩
theorem xG:cFn PP true uA vj (cDr PP 10 xP)=some uQ:=by kernel_rfl
def qM:Nat->Option (List Nat×List Nat)
  | 1000008=>some ([1,4],[5])|_=>none
def tv:Nat->Option (List Nat×List Nat×List Nat)
  | _=>none
def oR:av:=⟨26,
  .seq (.reg [⟨(some 1),.box (.t 0),none⟩,
    ⟨(some 2),.mov (.c (.bool false)),none⟩]) <|
  .seq (.seq (.reg [⟨(some 3),.fadd (.t 1) 0,none⟩,
    ⟨(some 4),.ld (.t 3) 1 false,none⟩]) <|
  .block 0 (.seqj [1,4] [5] (.seq (.reg [⟨(some 6),.bin .eql (.t 4) (.c (.int .i64 1)),none⟩,
    ⟨(some 5),.mov (.t 6),none⟩]) <|
  .cond (.t 5) (.skip) (.seq (.reg [⟨(some 7),.bin .eql (.t 4) (.c (.int .i64 2)),none⟩,
    ⟨(some 5),.mov (.t 7),none⟩]) <|
  .cond (.t 5) (.skip) (.seq (.reg [⟨(some 8),.bin .eql (.t 4) (.c (.int .i64 3)),none⟩,
    ⟨(some 5),.mov (.t 8),none⟩]) <|
  .cond (.t 5) (.skip) (.seq (.reg [⟨(some 9),.bin .eql (.t 4) (.c (.int .i64 4)),none⟩,
    ⟨(some 5),.mov (.t 9),none⟩]) <|
  .cond (.t 5) (.skip) (.reg [⟨(some 10),.bin .eql (.t 4) (.c (.int .i64 6)),none⟩,
    ⟨(some 5),.mov (.t 10),none⟩]))))) <|
  .cond (.t 5) (.seq (.reg [⟨(some 2),.mov (.c (.bool true)),none⟩]) <|
  .ret) (.seq (.reg [⟨(some 12),.bin .eql (.t 4) (.c (.int .i64 5)),none⟩,
    ⟨(some 11),.mov (.t 12),none⟩]) <|
  .cond (.t 11) (.seq (.reg [⟨(some 13),.fadd (.t 1) 1,none⟩,
    ⟨(some 14),.ld (.t 13) 1 false,none⟩,
    ⟨(some 15),.bin .eql (.t 14) (.c (.int .i64 3)),none⟩,
    ⟨(some 16),.mov (.t 15),none⟩,
    ⟨(some 17),.fadd (.t 1) 1,some (16,false)⟩,
    ⟨(some 18),.ld (.t 17) 1 false,some (16,false)⟩,
    ⟨(some 19),.bin .eql (.t 18) (.c (.int .i64 4)),some (16,false)⟩,
    ⟨(some 20),.pick (.t 16) (.c (.bool true)) (.t 19),none⟩,
    ⟨(some 21),.mov (.t 20),none⟩,
    ⟨(some 22),.fadd (.t 1) 1,some (21,false)⟩,
    ⟨(some 23),.ld (.t 22) 1 false,some (21,false)⟩,
    ⟨(some 24),.bin .eql (.t 23) (.c (.int .i64 5)),some (21,false)⟩,
    ⟨(some 25),.pick (.t 21) (.c (.bool true)) (.t 24),none⟩,
    ⟨(some 2),.mov (.t 25),none⟩]) <|
  .ret) (.skip)))) <|
  .seq (.reg [⟨(some 2),.mov (.c (.bool false)),none⟩]) <|
  .ret,
  [.t 2]⟩
theorem s8:cFn PP true nX qM (cDr PP 26 tv)=some oR:=by kernel_rfl
def qR:Nat->Option (List Nat×List Nat)
  | _=>none
def tC:Nat->Option (List Nat×List Nat×List Nat)
  | _=>none
def o5:av:=⟨17,
  .seq (.reg [⟨(some 4),.mov (.c (.bool false)),none⟩]) <|
  .seq (.reg [⟨(some 5),.mov (.t 0),none⟩,
    ⟨(some 6),.call iS [(.t 5)],none⟩,
    ⟨(some 7),.mov (.t 6),none⟩,
    ⟨(some 8),.mov (.t 1),some (7,true)⟩,
    ⟨(some 9),.call iS [(.t 8)],some (7,true)⟩,
    ⟨(some 10),.un .not (.t 9),some (7,true)⟩,
    ⟨(some 11),.pick (.t 7) (.t 10) (.c (.bool false)),none⟩,
    ⟨(some 12),.mov (.t 11),none⟩,
    ⟨(some 13),.mov (.t 0),some (12,false)⟩,
    ⟨(some 14),.mov (.t 1),some (12,false)⟩,
    ⟨(some 15),.bin .lss (.t 13) (.t 14),some (12,false)⟩,
    ⟨(some 16),.pick (.t 12) (.c (.bool true)) (.t 15),none⟩,
    ⟨(some 4),.mov (.t 16),none⟩]) <|
  .ret,
  [.t 4]⟩
theorem tp:cFn PP true gk qR (cDr PP 17 tC)=some o5:=by kernel_rfl
def pE:Nat->Option (List Nat×List Nat)
  | _=>none
def rO:Nat->Option (List Nat×List Nat×List Nat)
  | 1=>some ([0,1,0,7,0,0,63,127],[4,5,6,7],[])|_=>none
def mY:av:=⟨10,
  .seq (.reg [⟨(some 1),.box (.t 0),none⟩,
    ⟨(some 2),.mov (.c .nilfn),none⟩]) <|
  .seq (.dreg [⟨(some 5),.ld (.t 1) 8 true,none⟩,
    ⟨(some 6),.call mc [(.t 5)],none⟩,
    ⟨(some 7),.ld (.t 1) 8 true,none⟩,
    ⟨(some 8),.call dK [(.t 7)],none⟩] [⟨(some 3),.alloc .nil,none⟩,
    ⟨(some 4),.alloc .nil,none⟩,
    ⟨none,.st (.t 3) (.t 6) 1,none⟩,
    ⟨none,.st (.t 4) (.t 8) 1,none⟩] []) <|
  .seq (.reg [⟨(some 9),.mkf jI [] [(.t 1),(.t 3),(.t 4)],none⟩,
    ⟨(some 2),.mov (.t 9),none⟩]) <|
  .ret,
  [.t 2]⟩
theorem ra:cFn PP true mL pE (cDr PP 10 rO)=some mY:=by kernel_rfl
def qL:Nat->Option (List Nat×List Nat)
  | _=>none
def tu:Nat->Option (List Nat×List Nat×List Nat)
  | _=>none
def oQ:av:=⟨22,
  .seq (.reg [⟨(some 2),.box (.t 0),none⟩,
    ⟨(some 3),.box (.t 1),none⟩,
    ⟨(some 4),.mov (.c (.bool false)),none⟩]) <|
  .seq (.seq (.reg [⟨(some 5),.ld (.t 2) 2 true,none⟩,
    ⟨(some 6),.fadd (.t 3) 0,none⟩,
    ⟨(some 7),.ld (.t 6) 2 true,none⟩,
    ⟨(some 8),.call l9 [(.t 5),(.t 7)],none⟩,
    ⟨(some 9),.fadd (.t 8) 0,none⟩,
    ⟨(some 10),.ld (.t 9) 1 false,none⟩,
    ⟨(some 11),.un .not (.t 10),none⟩]) <|
  .cond (.t 11) (.seq (.reg [⟨(some 4),.mov (.c (.bool true)),none⟩]) <|
  .ret) (.skip)) <|
  .seq (.reg [⟨(some 12),.fadd (.t 3) 3,none⟩,
    ⟨(some 13),.ld (.t 12) 1 false,none⟩,
    ⟨(some 14),.un .not (.t 13),none⟩,
    ⟨(some 15),.mov (.t 14),none⟩,
    ⟨(some 16),.fadd (.t 3) 2,some (15,true)⟩,
    ⟨(some 17),.ld (.t 16) 1 false,some (15,true)⟩,
    ⟨(some 18),.mkf ku [] [(.t 2)],some (15,true)⟩,
    ⟨(some 19),.call bj [(.t 17),(.t 18)],some (15,true)⟩,
    ⟨(some 20),.un .not (.t 19),some (15,true)⟩,
    ⟨(some 21),.pick (.t 15) (.t 20) (.c (.bool false)),none⟩,
    ⟨(some 4),.mov (.t 21),none⟩]) <|
  .ret,
  [.t 4]⟩
theorem sX:cFn PP true nW qL (cDr PP 22 tu)=some oQ:=by kernel_rfl
def jw:Nat->Option (List Nat×List Nat)
  | 1000008=>some ([],[])|2=>some ([0,1,7],[8])|_=>none
def kg:Nat->Option (List Nat×List Nat×List Nat)
  | _=>none
def b6:av:=⟨19,
  .seq (.reg [⟨(some 4),.mov (.c (.int .i64 0)),none⟩]) <|
  .seqj [] [] (.seq (.reg [⟨(some 6),.mov (.t 0),none⟩,
    ⟨(some 7),.len (.t 6),none⟩,
    ⟨(some 8),.mov (.c (.int .i64 0)),none⟩]) <|
  .block 0 (.loop [0,1,7] [8] (.seq (.reg [⟨(some 9),.bin .lss (.t 8) (.t 7),none⟩]) <|
  .seq (.cond (.t 9) (.skip) (.exit 0)) <|
  .seq (.block 1 (.seq (.reg [⟨(some 10),.mov (.t 8),none⟩,
    ⟨(some 5),.mov (.t 10),none⟩]) <|
  .seq (.reg [⟨(some 11),.mov (.t 1),none⟩,
    ⟨(some 12),.mov (.t 0),none⟩,
    ⟨(some 13),.mov (.t 5),none⟩,
    ⟨(some 14),.iadd (.t 12) (.t 13) 1,none⟩,
    ⟨(some 15),.ld (.t 14) 1 false,none⟩,
    ⟨(some 16),.bin .eql (.t 11) (.t 15),none⟩]) <|
  .cond (.t 16) (.seq (.reg [⟨(some 17),.mov (.t 5),none⟩,
    ⟨(some 4),.mov (.t 17),none⟩]) <|
  .ret) (.skip))) <|
  .reg [⟨(some 18),.bin .add (.t 8) (.c (.int .i64 1)),none⟩,
    ⟨(some 8),.mov (.t 18),none⟩]))) <|
  .seq (.reg [⟨(some 4),.mov (.c (.int .i64 (-1))),none⟩]) <|
  .ret,
  [.t 4]⟩
theorem eh:cFn PP true bU jw (cDr PP 19 kg)=some b6:=by kernel_rfl
def ec (h0:Heap) (a6:D) (a0:D) (a1:D) (J3:List D->Heap->Prop) (K:D->Heap->Prop):Prop :=
  ∃(I7:Nat->List D->Heap->Prop) (n₀:Nat),I7 n₀ [(.int .i64 0)] h0/\∀(n8:Nat) (f9:Nat->D) (h10:Heap),I7 n8 [f9 8] h10 ->
  vbin .lss (f9 8) a6 fun a11 =>
  vcond a11 (aa PP (.iadd (.c a0) (.c (f9 8)) 1) h10 fun a12 h13 =>
  aa PP (.ld (.c a12) 1 false) h13 fun a14 h15 =>
  vbin .eql a1 a14 fun a16 =>
  vcond a16 (K (f9 8) h15) (
  vbin .add (f9 8) (.int .i64 1) fun a17 =>
  bw [a0,a1,a6] [a0,a1,a6]/\∃m,m<n8/\I7 m [a17] h15)) (
  bw [] []/\J3 [] h10)
def fQ (a0:D) (a1:D) (h0:Heap) (K:D->Heap->Prop):Prop :=
  ∃(J3:List D->Heap->Prop),(∀(f4:Nat->D) (h5:Heap),J3 [] h5 ->
  K (.int .i64 (-1)) h5) /\
  cN a0 h0 fun a6 =>
  ec h0 a6 a0 a1 J3 K
theorem jS (a0:D) (a1:D) (h0:Heap) (K:D->Heap->Prop):fQ a0 a1 h0 K=vcC PP b6.code (fun x e h'=>match x with|.exit _=>False|.pan=>False|.jump _=>False|_=>bO PP b6.res K e h') (params [a0,a1] 0) h0:=by kernel_rfl
def fV:Nat->Option (List Nat×List Nat)
  | 1000008=>some ([],[])|2=>some ([0,1,7],[8])|_=>none
def gL:Nat->Option (List Nat×List Nat×List Nat)
  | _=>none
def bo:av:=⟨19,
  .seq (.reg [⟨(some 4),.mov (.c (.int .i64 0)),none⟩]) <|
  .seqj [] [] (.seq (.reg [⟨(some 6),.mov (.t 0),none⟩,
    ⟨(some 7),.len (.t 6),none⟩,
    ⟨(some 8),.mov (.c (.int .i64 0)),none⟩]) <|
  .block 0 (.loop [0,1,7] [8] (.seq (.reg [⟨(some 9),.bin .lss (.t 8) (.t 7),none⟩]) <|
  .seq (.cond (.t 9) (.skip) (.exit 0)) <|
  .seq (.block 1 (.seq (.reg [⟨(some 10),.mov (.t 8),none⟩,
    ⟨(some 5),.mov (.t 10),none⟩]) <|
  .seq (.reg [⟨(some 11),.mov (.t 1),none⟩,
    ⟨(some 12),.mov (.t 0),none⟩,
    ⟨(some 13),.mov (.t 5),none⟩,
    ⟨(some 14),.iadd (.t 12) (.t 13) 1,none⟩,
    ⟨(some 15),.ld (.t 14) 1 false,none⟩,
    ⟨(some 16),.callv (.t 11) [(.t 15)],none⟩]) <|
  .cond (.t 16) (.seq (.reg [⟨(some 17),.mov (.t 5),none⟩,
    ⟨(some 4),.mov (.t 17),none⟩]) <|
  .ret) (.skip))) <|
  .reg [⟨(some 18),.bin .add (.t 8) (.c (.int .i64 1)),none⟩,
    ⟨(some 8),.mov (.t 18),none⟩]))) <|
  .seq (.reg [⟨(some 4),.mov (.c (.int .i64 (-1))),none⟩]) <|
  .ret,
  [.t 4]⟩
theorem cM:cFn PP true bm fV (cDr PP 19 gL)=some bo:=by kernel_rfl
def cK (h0:Heap) (a6:D) (a0:D) (a1:D) (J3:List D->Heap->Prop) (K:D->Heap->Prop):Prop :=
  ∃(I7:Nat->List D->Heap->Prop) (n₀:Nat),I7 n₀ [(.int .i64 0)] h0/\∀(n8:Nat) (f9:Nat->D) (h10:Heap),I7 n8 [f9 8] h10 ->
  vbin .lss (f9 8) a6 fun a11 =>
  vcond a11 (aa PP (.iadd (.c a0) (.c (f9 8)) 1) h10 fun a12 h13 =>
  aa PP (.ld (.c a12) 1 false) h13 fun a14 h15 =>
  aa PP (.callv (.c a1) [(.c a14)]) h15 fun a16 h17 =>
  vcond a16 (K (f9 8) h17) (
  vbin .add (f9 8) (.int .i64 1) fun a18 =>
  bw [a0,a1,a6] [a0,a1,a6]/\∃m,m<n8/\I7 m [a18] h17)) (
  bw [] []/\J3 [] h10)
def dt (a0:D) (a1:D) (h0:Heap) (K:D->Heap->Prop):Prop :=
  ∃(J3:List D->Heap->Prop),(∀(f4:Nat->D) (h5:Heap),J3 [] h5 ->
  K (.int .i64 (-1)) h5) /\
  cN a0 h0 fun a6 =>
  cK h0 a6 a0 a1 J3 K
theorem gB (a0:D) (a1:D) (h0:Heap) (K:D->Heap->Prop):dt a0 a1 h0 K=vcC PP bo.code (fun x e h'=>match x with|.exit _=>False|.pan=>False|.jump _=>False|_=>bO PP bo.res K e h') (params [a0,a1] 0) h0:=by kernel_rfl
def fL:Nat->Option (List Nat×List Nat)
  | 1000005=>some ([0,5],[6])|_=>none
def gO:Nat->Option (List Nat×List Nat×List Nat)
  | 5=>some ([0,0,0,4,0,16,48,112,240,0,1008,2032,4080,8176,16368,32764,65534,131071],[3,17],[999999])|6=>some ([0,0,1,7],[3],[])|_=>none
noncomputable def fc:av:=⟨39,fq (cFn PP true cb fL (cDr PP 39 gO)),
  [.t 4,.cell 5 3 true]⟩
theorem mB:cFn PP true cb fL (cDr PP 39 gO)=some fc:=by kernel_rfl
def jf (a0:D) (a1:D) (h0:Heap) (K:D->Heap->Prop):Prop :=
  aa PP (.alloc (.agg [(.int .i64 0),(.int .i64 0),(.int .i32 0)])) h0 fun a3 h4 =>
  ae PP ah [a0] h4 fun a5 h6 =>
  vbin .rem a5 (.int .i64 5) fun a7 =>
  ∃(J8:List D->Heap->Prop),(∀(f9:Nat->D) (h10:Heap),J8 [f9 6] h10 ->
  ae PP aK [a0] h10 fun a11 h12 =>
  aa PP (.alloc (.agg [(.int .i64 0),(.int .i64 0),(.int .i32 0)])) h12 fun a13 h14 =>
  aa PP (.st (.c a13) (.c a11) 3) h14 fun a15 h16 =>
  af PP (.ld (.c a13) 3 true) h16 fun a17 =>
  af PP (.fadd (.c a0) 0) h16 fun a18 =>
  af PP (.fadd (.c a18) 2) h16 fun a19 =>
  af PP (.fadd (.c a19) 5) h16 fun a20 =>
  af PP (.ld (.c a20) 1 false) h16 fun a21 =>
  af PP (.iadd (.c a21) (.c (f9 6)) 4) h16 fun a22 =>
  af PP (.fadd (.c a22) 3) h16 fun a23 =>
  af PP (.ld (.c a23) 1 false) h16 fun a24 =>
  vbin .sub a24 (.int .i64 1) fun a25 =>
  af PP (.conv .i32 (.c a25)) h16 fun a26 =>
  ae PP aG [a0] h16 fun a27 h28 =>
  ((af PP (.ld (.c a13) 3 true) h28 fun a29=>bw [a29] [a17])/\(af PP (.fadd (.c a0) 0) h28 fun a30=>bw [a30] [a18])/\(af PP (.fadd (.c a18) 2) h28 fun a31=>bw [a31] [a19])/\(af PP (.fadd (.c a19) 5) h28 fun a32=>bw [a32] [a20])/\(af PP (.ld (.c a20) 1 false) h28 fun a33=>bw [a33] [a21])/\(af PP (.iadd (.c a21) (.c (f9 6)) 4) h28 fun a34=>bw [a34] [a22])/\(af PP (.fadd (.c a22) 3) h28 fun a35=>bw [a35] [a23])/\(af PP (.ld (.c a23) 1 false) h28 fun a36=>bw [a36] [a24])/\True) /\
  af PP (.call cj [(.c a26)]) h28 fun a37 =>
  af PP (.bld [(.int .i64 0),(.int .i64 0),(.int .i64 0),(.int .i64 0),(.int .i64 0),(.int .i32 0),(.int .i64 0),(.int .i64 0),(.int .i32 0),(.int .i64 0),(.int .i64 0),(.int .i32 0),(.int .i64 0),(.int .i64 0),(.int .i32 0)] [(0,1,(.c (.int .i64 3))),(1,1,(.c (.int .i64 17))),(3,3,(.c a17)),(6,3,(.c a27)),(9,3,(.c a37))]) h28 fun a38 =>
  ae PP aw [a0,a38] h28 fun a39 h40 =>
  af PP (.ld (.c a13) 3 true) h40 fun a41 =>
  aa PP (.st (.c a3) (.c a41) 3) h40 fun a42 h43 =>
  aa PP (.ld (.c a3) 3 true) h43 fun a44 _ =>
  K (.tup [(f9 6),a44]) h43) /\
  vbin .eql a7 (.int .i64 3) fun a45 =>
  vguard a45 true (fun G46 =>
  G46 a1 h6) h6 fun a47 h48 =>
  vguard a45 true (fun G49 =>
  vun .not a47 fun a52 =>
  G49 a52 h48) h48 fun a50 h51 =>
  aa PP (.pick (.c a45) (.c a50) (.c (.bool false))) h51 fun a53 h54 =>
  vcond a53 (bw [a0,a3] [a0,a3]/\J8 [(.int .i64 0)] h54) (
  bw [a0,a3] [a0,a3]/\J8 [a7] h54)
theorem mu (a0:D) (a1:D) (h0:Heap) (K:D->Heap->Prop):jf a0 a1 h0 K=vcC PP fc.code (fun x e h'=>match x with|.exit _=>False|.pan=>False|.jump _=>False|_=>bO PP fc.res K e h') (params [a0,a1] 0) h0:=by kernel_rfl
def gN:Nat->Option (List Nat×List Nat)
  | 2=>some ([0],[1,2,3,8,9])|1000011=>some ([0,1,2,8,9,10],[3])|1000016=>some ([0,1,2,3,8,9,10],[11,12])|1000018=>some ([0,1,2,3,8,9,10,11],[])|_=>none
def iu:Nat->Option (List Nat×List Nat×List Nat)
  | 17=>some ([0,1,3,7,7,23,63,127,7,7,775,1799,4095,8191,16383],[],[])|_=>none
def dS:av:=⟨134,
  .seq (.reg [⟨(some 8),.mov (.c (.bool true)),none⟩]) <|
  .seq (.reg [⟨(some 9),.mov (.c (.bool true)),none⟩]) <|
  .block 0 (.loop [0] [1,2,3,8,9] (.block 1 (.seq (.reg [⟨(some 19),.mov (.t 2),none⟩,
    ⟨(some 20),.mov (.t 1),none⟩,
    ⟨(some 21),.bin .sub (.t 19) (.t 20),none⟩,
    ⟨(some 10),.mov (.t 21),none⟩]) <|
  .seq (.seq (.reg [⟨(some 22),.mov (.t 10),none⟩,
    ⟨(some 23),.bin .leq (.t 22) (.c (.int .i64 12)),none⟩]) <|
  .cond (.t 23) (.seq (.reg [⟨(some 24),.mov (.t 0),none⟩,
    ⟨(some 25),.mov (.t 1),none⟩,
    ⟨(some 26),.mov (.t 2),none⟩,
    ⟨(some 27),.call cx [(.t 24),(.t 25),(.t 26)],none⟩]) <|
  .ret) (.skip)) <|
  .seq (.seq (.reg [⟨(some 28),.mov (.t 3),none⟩,
    ⟨(some 29),.bin .eql (.t 28) (.c (.int .i64 0)),none⟩]) <|
  .cond (.t 29) (.seq (.reg [⟨(some 30),.mov (.t 0),none⟩,
    ⟨(some 31),.mov (.t 1),none⟩,
    ⟨(some 32),.mov (.t 2),none⟩,
    ⟨(some 33),.call iQ [(.t 30),(.t 31),(.t 32)],none⟩]) <|
  .ret) (.skip)) <|
  .seqj [0,1,2,8,9,10] [3] (.seq (.reg [⟨(some 34),.mov (.t 8),none⟩,
    ⟨(some 35),.un .not (.t 34),none⟩]) <|
  .cond (.t 35) (.seq (.reg [⟨(some 36),.mov (.t 0),none⟩,
    ⟨(some 37),.mov (.t 1),none⟩,
    ⟨(some 38),.mov (.t 2),none⟩,
    ⟨(some 39),.call fU [(.t 36),(.t 37),(.t 38)],none⟩]) <|
  .reg [⟨(some 40),.mov (.t 3),none⟩,
    ⟨(some 41),.bin .sub (.t 40) (.c (.int .i64 1)),none⟩,
    ⟨(some 3),.mov (.t 41),none⟩]) (.skip)) <|
  .seq (.reg [⟨(some 43),.mov (.t 0),none⟩,
    ⟨(some 44),.mov (.t 1),none⟩,
    ⟨(some 45),.mov (.t 2),none⟩,
    ⟨(some 46),.call gM [(.t 43),(.t 44),(.t 45)],none⟩,
    ⟨(some 42),.mov (.t 46),none⟩,
    ⟨(some 47),.ext (.t 42) 0,none⟩,
    ⟨(some 48),.ext (.t 42) 1,none⟩,
    ⟨(some 11),.mov (.t 47),none⟩,
    ⟨(some 12),.mov (.t 48),none⟩]) <|
  .seqj [0,1,2,3,8,9,10] [11,12] (.seq (.reg [⟨(some 49),.mov (.t 12),none⟩,
    ⟨(some 50),.bin .eql (.t 49) (.c (.int .i64 2)),none⟩]) <|
  .cond (.t 50) (.seq (.reg [⟨(some 51),.mov (.t 0),none⟩,
    ⟨(some 52),.mov (.t 1),none⟩,
    ⟨(some 53),.mov (.t 2),none⟩,
    ⟨(some 54),.call gh [(.t 51),(.t 52),(.t 53)],none⟩]) <|
  .seq (.reg [⟨(some 55),.mov (.t 2),none⟩,
    ⟨(some 56),.bin .sub (.t 55) (.c (.int .i64 1)),none⟩,
    ⟨(some 57),.mov (.t 11),none⟩,
    ⟨(some 58),.mov (.t 1),none⟩,
    ⟨(some 59),.bin .sub (.t 57) (.t 58),none⟩,
    ⟨(some 60),.bin .sub (.t 56) (.t 59),none⟩,
    ⟨(some 11),.mov (.t 60),none⟩]) <|
  .reg [⟨(some 12),.mov (.c (.int .i64 1)),none⟩]) (.skip)) <|
  .seqj [0,1,2,3,8,9,10,11] [] (.seq (.reg [⟨(some 61),.mov (.t 8),none⟩,
    ⟨(some 62),.mov (.t 61),none⟩,
    ⟨(some 63),.mov (.t 9),some (62,true)⟩,
    ⟨(some 64),.pick (.t 62) (.t 63) (.c (.bool false)),none⟩,
    ⟨(some 65),.mov (.t 64),none⟩,
    ⟨(some 66),.mov (.t 12),some (65,true)⟩,
    ⟨(some 67),.bin .eql (.t 66) (.c (.int .i64 1)),some (65,true)⟩,
    ⟨(some 68),.pick (.t 65) (.t 67) (.c (.bool false)),none⟩]) <|
  .cond (.t 68) (.seq (.reg [⟨(some 69),.mov (.t 0),none⟩,
    ⟨(some 70),.mov (.t 1),none⟩,
    ⟨(some 71),.mov (.t 2),none⟩,
    ⟨(some 72),.call dM [(.t 69),(.t 70),(.t 71)],none⟩]) <|
  .cond (.t 72) (.ret) (.skip)) (.skip)) <|
  .seq (.seq (.dreg [⟨(some 73),.mov (.t 1),none⟩,
    ⟨(some 74),.bin .gtr (.t 73) (.c (.int .i64 0)),none⟩,
    ⟨(some 75),.mov (.t 74),none⟩,
    ⟨(some 76),.mov (.t 0),some (75,true)⟩,
    ⟨(some 77),.mov (.t 1),some (75,true)⟩,
    ⟨(some 78),.bin .sub (.t 77) (.c (.int .i64 1)),some (75,true)⟩,
    ⟨(some 79),.iadd (.t 76) (.t 78) 1,some (75,true)⟩,
    ⟨(some 80),.ld (.t 79) 1 false,some (75,true)⟩,
    ⟨(some 81),.mov (.t 0),some (75,true)⟩,
    ⟨(some 82),.mov (.t 11),some (75,true)⟩,
    ⟨(some 83),.iadd (.t 81) (.t 82) 1,some (75,true)⟩,
    ⟨(some 84),.ld (.t 83) 1 false,some (75,true)⟩,
    ⟨(some 85),.call gk [(.t 80),(.t 84)],some (75,true)⟩,
    ⟨(some 86),.un .not (.t 85),some (75,true)⟩,
    ⟨(some 87),.pick (.t 75) (.t 86) (.c (.bool false)),none⟩] [] []) <|
  .cond (.t 87) (.seq (.reg [⟨(some 88),.mov (.t 0),none⟩,
    ⟨(some 89),.mov (.t 1),none⟩,
    ⟨(some 90),.mov (.t 2),none⟩,
    ⟨(some 91),.mov (.t 11),none⟩,
    ⟨(some 92),.call fy [(.t 88),(.t 89),(.t 90),(.t 91)],none⟩,
    ⟨(some 13),.mov (.t 92),none⟩]) <|
  .seq (.reg [⟨(some 93),.mov (.t 13),none⟩,
    ⟨(some 1),.mov (.t 93),none⟩]) <|
  .exit 1) (.skip)) <|
  .seq (.reg [⟨(some 95),.mov (.t 0),none⟩,
    ⟨(some 96),.mov (.t 1),none⟩,
    ⟨(some 97),.mov (.t 2),none⟩,
    ⟨(some 98),.mov (.t 11),none⟩,
    ⟨(some 99),.call iy [(.t 95),(.t 96),(.t 97),(.t 98)],none⟩,
    ⟨(some 94),.mov (.t 99),none⟩,
    ⟨(some 100),.ext (.t 94) 0,none⟩,
    ⟨(some 101),.ext (.t 94) 1,none⟩,
    ⟨(some 14),.mov (.t 100),none⟩,
    ⟨(some 15),.mov (.t 101),none⟩]) <|
  .seq (.reg [⟨(some 102),.mov (.t 15),none⟩,
    ⟨(some 9),.mov (.t 102),none⟩]) <|
  .seq (.reg [⟨(some 103),.mov (.t 14),none⟩,
    ⟨(some 104),.mov (.t 1),none⟩,
    ⟨(some 105),.bin .sub (.t 103) (.t 104),none⟩,
    ⟨(some 106),.mov (.t 2),none⟩,
    ⟨(some 107),.mov (.t 14),none⟩,
    ⟨(some 108),.bin .sub (.t 106) (.t 107),none⟩,
    ⟨(some 16),.mov (.t 105),none⟩,
    ⟨(some 17),.mov (.t 108),none⟩]) <|
  .seq (.reg [⟨(some 109),.mov (.t 10),none⟩,
    ⟨(some 110),.bin .quo (.t 109) (.c (.int .i64 8)),none⟩,
    ⟨(some 18),.mov (.t 110),none⟩]) <|
  .seq (.reg [⟨(some 111),.mov (.t 16),none⟩,
    ⟨(some 112),.mov (.t 17),none⟩,
    ⟨(some 113),.bin .lss (.t 111) (.t 112),none⟩]) <|
  .cond (.t 113) (.seq (.reg [⟨(some 114),.mov (.t 16),none⟩,
    ⟨(some 115),.mov (.t 18),none⟩,
    ⟨(some 116),.bin .geq (.t 114) (.t 115),none⟩,
    ⟨(some 8),.mov (.t 116),none⟩]) <|
  .seq (.reg [⟨(some 117),.mov (.t 0),none⟩,
    ⟨(some 118),.mov (.t 1),none⟩,
    ⟨(some 119),.mov (.t 14),none⟩,
    ⟨(some 120),.mov (.t 3),none⟩,
    ⟨(some 121),.call bx [(.t 117),(.t 118),(.t 119),(.t 120)],none⟩]) <|
  .reg [⟨(some 122),.mov (.t 14),none⟩,
    ⟨(some 123),.bin .add (.t 122) (.c (.int .i64 1)),none⟩,
    ⟨(some 1),.mov (.t 123),none⟩]) (.seq (.reg [⟨(some 124),.mov (.t 17),none⟩,
    ⟨(some 125),.mov (.t 18),none⟩,
    ⟨(some 126),.bin .geq (.t 124) (.t 125),none⟩,
    ⟨(some 8),.mov (.t 126),none⟩]) <|
  .seq (.reg [⟨(some 127),.mov (.t 0),none⟩,
    ⟨(some 128),.mov (.t 14),none⟩,
    ⟨(some 129),.bin .add (.t 128) (.c (.int .i64 1)),none⟩,
    ⟨(some 130),.mov (.t 2),none⟩,
    ⟨(some 131),.mov (.t 3),none⟩,
    ⟨(some 132),.call bx [(.t 127),(.t 129),(.t 130),(.t 131)],none⟩]) <|
  .reg [⟨(some 133),.mov (.t 14),none⟩,
    ⟨(some 2),.mov (.t 133),none⟩])))),
  []⟩
theorem ij:cFn PP true bx gN (cDr PP 134 iu)=some dS:=by kernel_rfl
def pI:Nat->Option (List Nat×List Nat)
  | _=>none
def rS:Nat->Option (List Nat×List Nat×List Nat)
  | _=>none
def m7:av:=⟨8,
  .seq (.reg [⟨(some 2),.mov (.c (.int .i64 0)),none⟩]) <|
  .seq (.cond (.c (.bool false)) (.seq (.reg [⟨(some 3),.mov (.t 0),none⟩,
    ⟨(some 4),.conv .u32 (.t 3),none⟩,
    ⟨(some 5),.call so [(.t 4)],none⟩,
    ⟨(some 2),.mov (.t 5),none⟩]) <|
  .ret) (.skip)) <|
  .seq (.reg [⟨(some 6),.mov (.t 0),none⟩,
    ⟨(some 7),.call ky [(.t 6)],none⟩,
    ⟨(some 2),.mov (.t 7),none⟩]) <|
  .ret,
  [.t 2]⟩
theorem rj:cFn PP true mO pI (cDr PP 8 rS)=some m7:=by kernel_rfl
def sy:Nat->Option (List Nat×List Nat)
  | _=>none
def uW:Nat->Option (List Nat×List Nat×List Nat)
  | 1=>some ([0,0,2,6,14,30,63,127,255],[4,6],[999999])|_=>none
def qi:av:=⟨11,
  .seq (.reg [⟨(some 1),.box (.t 0),none⟩,
    ⟨(some 2),.mov (.c .nil),none⟩]) <|
  .seq (.seq (.dreg [⟨(some 3),.ld (.t 1) 8 true,none⟩,
    ⟨(some 4),.fadd (.t 1) 7,none⟩,
    ⟨(some 5),.ld (.t 4) 1 false,none⟩,
    ⟨(some 6),.len (.t 5),none⟩] [⟨(some 7),.mk 1 1 (.bool false) (.t 6) (.t 6),none⟩] [⟨(some 3),.ld (.t 1) 8 true,none⟩]) <|
  .seq (.dreg [⟨(some 8),.bld [.nil,.nil] [(0,1,(.t 7))],none⟩] [⟨(some 9),.call kT [(.t 3),(.t 8),(.c (.int .i64 0))],none⟩] []) <|
  .dreg [⟨(some 10),.fld (.t 9) 1 1 false,none⟩,
    ⟨(some 2),.mov (.t 10),none⟩] [] []) <|
  .ret,
  [.t 2]⟩
theorem ub:cFn PP true p0 sy (cDr PP 11 uW)=some qi:=by kernel_rfl
def pL:Nat->Option (List Nat×List Nat)
  | _=>none
def rV:Nat->Option (List Nat×List Nat×List Nat)
  | _=>none
def na:av:=⟨6,
  .seq (.reg [⟨(some 2),.mov (.c (.bool false)),none⟩]) <|
  .seq (.reg [⟨(some 3),.mov (.t 0),none⟩,
    ⟨(some 4),.mov (.t 0),none⟩,
    ⟨(some 5),.bin .neq (.t 3) (.t 4),none⟩,
    ⟨(some 2),.mov (.t 5),none⟩]) <|
  .ret,
  [.t 2]⟩
theorem rD:cFn PP true iS pL (cDr PP 6 rV)=some na:=by kernel_rfl
end Go.Am
namespace Go.Am
open Go Go.Proofs
def sG:Nat->Option (List Nat×List Nat)
  | 1000027=>some ([3],[])|5=>some ([1,3,4,5,24,25],[26])|1000026=>some ([1,3,4,5,24,25,26],[])|1000019=>some ([1,3,4,5,6,9,24,25,26],[])|11=>some ([1,3,4,5,6,9,24,25,26,47,48],[49])|1000018=>some ([1,3,4,5,6,9,24,25,26,47,48,49],[])|4000016=>some ([1,3,4,5,6,9,24,25,26,47,48,49],[4])|20=>some ([1,3,4,5,6,24,25,26,71,72],[73])|1000025=>some ([1,3,4,5,6,24,25,26,71,72,73],[])|_=>none
def u6:Nat->Option (List Nat×List Nat×List Nat)
  | 8=>some ([0,1,3,7,0,31,63,127,255,511,1023,2047,4095],[],[])|23=>some ([0,0,0,0,12,28,0,64,252,511,1023],[8,10],[9])|_=>none
def qp:av:=⟨95,
  .seq (.reg [⟨(some 1),.box (.t 0),none⟩,
    ⟨(some 2),.mov (.c .nil),none⟩]) <|
  .seq (.reg [⟨(some 15),.fadd (.t 1) 7,none⟩,
    ⟨(some 16),.ld (.t 15) 1 false,none⟩,
    ⟨(some 17),.len (.t 16),none⟩,
    ⟨(some 18),.mk 1 24 .nil (.t 17) (.t 17),none⟩,
    ⟨(some 3),.mov (.t 18),none⟩]) <|
  .seq (.reg [⟨(some 19),.ld (.t 1) 8 true,none⟩,
    ⟨(some 20),.call wU [(.t 19)],none⟩,
    ⟨(some 4),.mov (.t 20),none⟩]) <|
  .seq (.reg [⟨(some 21),.mov (.t 4),none⟩,
    ⟨(some 22),.call mP [(.t 21)],none⟩,
    ⟨(some 5),.alloc .nil,none⟩,
    ⟨none,.st (.t 5) (.t 22) 1,none⟩]) <|
  .seqj [3] [] (.seq (.reg [⟨(some 23),.fadd (.t 1) 7,none⟩,
    ⟨(some 24),.ld (.t 23) 1 false,none⟩,
    ⟨(some 25),.len (.t 24),none⟩,
    ⟨(some 26),.mov (.c (.int .i64 0)),none⟩]) <|
  .block 0 (.loop [1,3,4,5,24,25] [26] (.seq (.reg [⟨(some 27),.bin .lss (.t 26) (.t 25),none⟩]) <|
  .seq (.cond (.t 27) (.skip) (.exit 0)) <|
  .seqj [1,3,4,5,24,25,26] [] (.block 1 (.seq (.reg [⟨(some 28),.mov (.t 26),none⟩,
    ⟨(some 29),.iadd (.t 24) (.t 26) 14,none⟩,
    ⟨(some 30),.ld (.t 29) 14 true,none⟩,
    ⟨(some 6),.alloc (.int .i64 0),none⟩,
    ⟨(some 7),.alloc (.agg [.nil,(.int .i64 0),(.int .i64 0),(.int .i64 0),(.int .i64 0),(.int .i32 0),(.int .i64 0),(.int .i64 0),(.int .i32 0),(.int .i64 0),(.int .i64 0),(.int .i32 0),(.int .i64 0),(.int .i64 0)]),none⟩,
    ⟨none,.st (.t 6) (.t 28) 1,none⟩,
    ⟨none,.st (.t 7) (.t 30) 14,none⟩]) <|
  .seq (.reg [⟨(some 31),.fadd (.t 7) 1,none⟩,
    ⟨(some 32),.ld (.t 31) 13 true,none⟩,
    ⟨(some 33),.call dZ [(.t 32)],none⟩,
    ⟨(some 8),.mov (.t 33),none⟩]) <|
  .seq (.seq (.dreg [⟨(some 34),.mov (.t 4),none⟩,
    ⟨(some 35),.fadd (.t 34) 0,none⟩,
    ⟨(some 36),.fadd (.t 35) 2,none⟩,
    ⟨(some 37),.ld (.t 36) 1 false,none⟩,
    ⟨(some 38),.ld (.t 6) 1 false,none⟩,
    ⟨(some 39),.iadd (.t 37) (.t 38) 1,none⟩,
    ⟨(some 40),.ld (.t 39) 1 false,none⟩,
    ⟨(some 41),.bin .lss (.t 40) (.c (.int .i64 0)),none⟩,
    ⟨(some 42),.mov (.t 41),none⟩,
    ⟨(some 43),.mov (.t 8),some (42,false)⟩,
    ⟨(some 44),.len (.t 43),some (42,false)⟩,
    ⟨(some 45),.bin .neq (.t 44) (.c (.int .i64 2)),some (42,false)⟩,
    ⟨(some 46),.pick (.t 42) (.c (.bool true)) (.t 45),none⟩] [] []) <|
  .cond (.t 46) (.exit 1) (.skip)) <|
  .seq (.reg [⟨(some 9),.alloc .nil,none⟩]) <|
  .seqj [1,3,4,5,6,9,24,25,26] [] (.seq (.reg [⟨(some 47),.mov (.t 8),none⟩,
    ⟨(some 48),.len (.t 47),none⟩,
    ⟨(some 49),.mov (.c (.int .i64 0)),none⟩]) <|
  .block 2 (.loop [1,3,4,5,6,9,24,25,26,47,48] [49] (.seq (.reg [⟨(some 50),.bin .lss (.t 49) (.t 48),none⟩]) <|
  .seq (.cond (.t 50) (.skip) (.exit 2)) <|
  .seqj [1,3,4,5,6,9,24,25,26,47,48,49] [] (.block 3 (.seq (.reg [⟨(some 51),.iadd (.t 47) (.t 49) 1,none⟩,
    ⟨(some 52),.ld (.t 51) 1 false,none⟩,
    ⟨(some 11),.mov (.t 52),none⟩]) <|
  .seq (.reg [⟨(some 53),.ld (.t 5) 1 false,none⟩,
    ⟨(some 54),.mov (.t 11),none⟩,
    ⟨(some 55),.call uC [(.t 53),(.t 54)],none⟩]) <|
  .block 4 (.range (.t 55) [56] [1,3,4,5,6,9,24,25,26,47,48,49] [4] (.reg [⟨(some 12),.mov (.t 56),none⟩]) (.block 5 (.seq (.seq (.reg [⟨(some 57),.mov (.t 12),none⟩,
    ⟨(some 58),.ld (.t 5) 1 false,none⟩,
    ⟨(some 59),.ld (.t 6) 1 false,none⟩,
    ⟨(some 60),.iadd (.t 58) (.t 59) 1,none⟩,
    ⟨(some 61),.ld (.t 60) 1 false,none⟩,
    ⟨(some 62),.bin .eql (.t 57) (.t 61),none⟩]) <|
  .cond (.t 62) (.exit 4) (.skip)) <|
  .reg [⟨(some 63),.ld (.t 9) 1 false,none⟩,
    ⟨(some 64),.mov (.t 12),none⟩,
    ⟨(some 65),.bldS true 1 1 (.int .i64 0) [(0,(.t 64))],none⟩,
    ⟨(some 66),.app (.t 63) (.t 65) 1 8 (.int .i64 0),none⟩,
    ⟨none,.st (.t 9) (.t 66) 1,none⟩]))))) <|
  .reg [⟨(some 67),.bin .add (.t 49) (.c (.int .i64 1)),none⟩,
    ⟨(some 49),.mov (.t 67),none⟩]))) <|
  .seq (.reg [⟨(some 68),.ld (.t 9) 1 false,none⟩,
    ⟨(some 69),.call gi [(.t 68)],none⟩]) <|
  .seq (.reg [⟨(some 70),.ld (.t 9) 1 false,none⟩,
    ⟨(some 71),.call eM [(.t 70)],none⟩,
    ⟨(some 72),.len (.t 71),none⟩,
    ⟨(some 73),.mov (.c (.int .i64 0)),none⟩]) <|
  .block 6 (.loop [1,3,4,5,6,24,25,26,71,72] [73] (.seq (.reg [⟨(some 74),.bin .lss (.t 73) (.t 72),none⟩]) <|
  .seq (.cond (.t 74) (.skip) (.exit 6)) <|
  .seqj [1,3,4,5,6,24,25,26,71,72,73] [] (.block 7 (.seq (.reg [⟨(some 75),.iadd (.t 71) (.t 73) 1,none⟩,
    ⟨(some 76),.ld (.t 75) 1 false,none⟩,
    ⟨(some 14),.mov (.t 76),none⟩]) <|
  .seq (.reg [⟨(some 77),.mov (.t 14),none⟩,
    ⟨(some 78),.fadd (.t 1) 7,none⟩,
    ⟨(some 79),.ld (.t 78) 1 false,none⟩,
    ⟨(some 80),.len (.t 79),none⟩,
    ⟨(some 81),.bin .lss (.t 77) (.t 80),none⟩]) <|
  .cond (.t 81) (.dreg [⟨(some 82),.mov (.t 3),none⟩,
    ⟨(some 83),.mov (.t 14),none⟩,
    ⟨(some 84),.mov (.t 3),none⟩,
    ⟨(some 85),.mov (.t 14),none⟩,
    ⟨(some 86),.iadd (.t 84) (.t 85) 1,none⟩,
    ⟨(some 87),.ld (.t 86) 1 false,none⟩,
    ⟨(some 88),.ld (.t 6) 1 false,none⟩,
    ⟨(some 89),.bldS false 1 1 (.int .i64 0) [(0,(.t 88))],none⟩,
    ⟨(some 91),.iadd (.t 82) (.t 83) 1,none⟩] [⟨(some 90),.app (.t 87) (.t 89) 1 8 (.int .i64 0),none⟩,
    ⟨none,.st (.t 91) (.t 90) 1,none⟩] [⟨(some 91),.iadd (.t 82) (.t 83) 1,none⟩]) (.skip))) <|
  .reg [⟨(some 92),.bin .add (.t 73) (.c (.int .i64 1)),none⟩,
    ⟨(some 73),.mov (.t 92),none⟩])))) <|
  .reg [⟨(some 93),.bin .add (.t 26) (.c (.int .i64 1)),none⟩,
    ⟨(some 26),.mov (.t 93),none⟩]))) <|
  .seq (.reg [⟨(some 94),.mov (.t 3),none⟩,
    ⟨(some 2),.mov (.t 94),none⟩]) <|
  .ret,
  [.t 2]⟩
theorem uj:cFn PP true dK sG (cDr PP 95 u6)=some qp:=by kernel_rfl
def mf:Nat->Option (List Nat×List Nat)
  | 1=>some ([0,1,2,3,16,17],[18])|1000021=>some ([0,1,2,3,16,17,18],[])|1000013=>some ([0,1,2,3,6,7,16,17,18],[])|7=>some ([0,1,2,3,6,7,16,17,18,38,39],[40])|1000019=>some ([0,1,2,3,6,16,17,18],[])|13=>some ([0,1,2,3,6,7,16,17,18,65,66],[67])|_=>none
def nK:Nat->Option (List Nat×List Nat×List Nat)
  | 15=>some ([0,1,3,0,8,0,32,0,128,504,1019,0,2048,8187,0,32763,65535,0,262143],[1,10,13,15,17,18],[999998,4])|_=>none
def jX:av:=⟨113,
  .seq (.reg [⟨(some 15),.fadd (.t 1) 7,none⟩,
    ⟨(some 16),.ld (.t 15) 1 false,none⟩,
    ⟨(some 17),.len (.t 16),none⟩,
    ⟨(some 18),.mov (.c (.int .i64 0)),none⟩]) <|
  .block 0 (.loop [0,1,2,3,16,17] [18] (.seq (.reg [⟨(some 19),.bin .lss (.t 18) (.t 17),none⟩]) <|
  .seq (.cond (.t 19) (.skip) (.exit 0)) <|
  .seqj [0,1,2,3,16,17,18] [] (.block 1 (.seq (.reg [⟨(some 20),.mov (.t 18),none⟩,
    ⟨(some 21),.iadd (.t 16) (.t 18) 14,none⟩,
    ⟨(some 22),.ld (.t 21) 14 true,none⟩,
    ⟨(some 6),.alloc (.agg [.nil,(.int .i64 0),(.int .i64 0),(.int .i64 0),(.int .i64 0),(.int .i32 0),(.int .i64 0),(.int .i64 0),(.int .i32 0),(.int .i64 0),(.int .i64 0),(.int .i32 0),(.int .i64 0),(.int .i64 0)]),none⟩,
    ⟨(some 5),.mov (.t 20),none⟩,
    ⟨none,.st (.t 6) (.t 22) 14,none⟩]) <|
  .seq (.reg [⟨(some 23),.mov (.t 5),none⟩,
    ⟨(some 24),.bld [(.bool false),(.int .i64 0)] [(0,1,(.c (.bool true))),(1,1,(.t 23))],none⟩,
    ⟨(some 7),.alloc (.agg [(.bool false),(.int .i64 0)]),none⟩,
    ⟨none,.st (.t 7) (.t 24) 2,none⟩]) <|
  .seq (.seq (.reg [⟨(some 25),.ld (.t 2) 1 false,none⟩,
    ⟨(some 26),.mov (.t 5),none⟩,
    ⟨(some 27),.iadd (.t 25) (.t 26) 1,none⟩,
    ⟨(some 28),.ld (.t 27) 1 false,none⟩,
    ⟨(some 29),.un .not (.t 28),none⟩]) <|
  .cond (.t 29) (.seq (.seq (.reg [⟨(some 30),.mov (.t 0),none⟩,
    ⟨(some 31),.ld (.t 7) 2 true,none⟩,
    ⟨(some 32),.bld [(.bool false),(.int .i64 0),.nil,(.bool false)] [(0,2,(.t 31)),(3,1,(.c (.bool true)))],none⟩,
    ⟨(some 33),.callv (.t 30) [(.t 32)],none⟩,
    ⟨(some 34),.un .not (.t 33),none⟩]) <|
  .cond (.t 34) (.ret) (.skip)) <|
  .exit 1) (.skip)) <|
  .seqj [0,1,2,3,6,7,16,17,18] [] (.seq (.reg [⟨(some 35),.ld (.t 3) 1 false,none⟩,
    ⟨(some 36),.mov (.t 5),none⟩,
    ⟨(some 37),.iadd (.t 35) (.t 36) 1,none⟩,
    ⟨(some 38),.ld (.t 37) 1 false,none⟩,
    ⟨(some 39),.len (.t 38),none⟩,
    ⟨(some 40),.mov (.c (.int .i64 0)),none⟩]) <|
  .block 2 (.loop [0,1,2,3,6,7,16,17,18,38,39] [40] (.seq (.reg [⟨(some 41),.bin .lss (.t 40) (.t 39),none⟩]) <|
  .seq (.cond (.t 41) (.skip) (.exit 2)) <|
  .seq (.block 3 (.seq (.reg [⟨(some 42),.iadd (.t 38) (.t 40) 1,none⟩,
    ⟨(some 43),.ld (.t 42) 1 false,none⟩,
    ⟨(some 9),.mov (.t 43),none⟩]) <|
  .seq (.reg [⟨(some 44),.fadd (.t 1) 7,none⟩,
    ⟨(some 45),.ld (.t 44) 1 false,none⟩,
    ⟨(some 46),.mov (.t 9),none⟩,
    ⟨(some 47),.iadd (.t 45) (.t 46) 14,none⟩,
    ⟨(some 48),.fadd (.t 47) 1,none⟩,
    ⟨(some 49),.fadd (.t 48) 5,none⟩,
    ⟨(some 50),.ld (.t 49) 3 true,none⟩,
    ⟨(some 51),.bldS true 3 1 (.agg [(.int .i64 0),(.int .i64 0),(.int .i32 0)]) [(0,(.t 50))],none⟩,
    ⟨(some 52),.call eR [(.t 51)],none⟩,
    ⟨(some 53),.mov (.t 9),none⟩,
    ⟨(some 54),.bld [(.bool false),(.int .i64 0)] [(0,1,(.c (.bool true))),(1,1,(.t 53))],none⟩,
    ⟨(some 55),.bldS true 2 1 (.agg [(.bool false),(.int .i64 0)]) [(0,(.t 54))],none⟩,
    ⟨(some 56),.app (.t 52) (.t 55) 2 16 (.agg [(.bool false),(.int .i64 0)]),none⟩,
    ⟨(some 10),.mov (.t 56),none⟩]) <|
  .seq (.reg [⟨(some 57),.mov (.t 0),none⟩,
    ⟨(some 58),.ld (.t 7) 2 true,none⟩,
    ⟨(some 59),.mov (.t 10),none⟩,
    ⟨(some 60),.bld [(.bool false),(.int .i64 0),.nil,(.bool false)] [(0,2,(.t 58)),(2,1,(.t 59))],none⟩,
    ⟨(some 61),.callv (.t 57) [(.t 60)],none⟩,
    ⟨(some 62),.un .not (.t 61),none⟩]) <|
  .cond (.t 62) (.ret) (.skip))) <|
  .reg [⟨(some 63),.bin .add (.t 40) (.c (.int .i64 1)),none⟩,
    ⟨(some 40),.mov (.t 63),none⟩]))) <|
  .seqj [0,1,2,3,6,16,17,18] [] (.seq (.reg [⟨(some 64),.fadd (.t 6) 0,none⟩,
    ⟨(some 65),.ld (.t 64) 1 false,none⟩,
    ⟨(some 66),.len (.t 65),none⟩,
    ⟨(some 67),.mov (.c (.int .i64 0)),none⟩]) <|
  .block 4 (.loop [0,1,2,3,6,7,16,17,18,65,66] [67] (.seq (.reg [⟨(some 68),.bin .lss (.t 67) (.t 66),none⟩]) <|
  .seq (.cond (.t 68) (.skip) (.exit 4)) <|
  .seq (.block 5 (.seq (.reg [⟨(some 69),.iadd (.t 65) (.t 67) 15,none⟩,
    ⟨(some 70),.ld (.t 69) 15 true,none⟩,
    ⟨(some 12),.alloc (.agg [(.int .i64 0),(.int .i64 0),(.int .i64 0),(.int .i64 0),(.int .i64 0),(.int .i32 0),(.int .i64 0),(.int .i64 0),(.int .i32 0),(.int .i64 0),(.int .i64 0),(.int .i32 0),(.int .i64 0),(.int .i64 0),(.int .i32 0)]),none⟩,
    ⟨none,.st (.t 12) (.t 70) 15,none⟩]) <|
  .seq (.seq (.dreg [⟨(some 13),.mov (.c .undef),none⟩] [] []) <|
  .seq (.dreg [⟨(some 71),.ld (.t 12) 15 true,none⟩,
    ⟨(some 74),.fadd (.t 12) 6,none⟩,
    ⟨(some 75),.ld (.t 74) 3 true,none⟩,
    ⟨(some 76),.fadd (.t 12) 9,none⟩,
    ⟨(some 77),.ld (.t 76) 3 true,none⟩,
    ⟨(some 78),.fadd (.t 12) 12,none⟩,
    ⟨(some 79),.ld (.t 78) 3 true,none⟩,
    ⟨(some 80),.bldS false 3 3 (.agg [(.int .i64 0),(.int .i64 0),(.int .i32 0)]) [(0,(.t 75)),(1,(.t 77)),(2,(.t 79))],none⟩,
    ⟨(some 82),.ld (.t 7) 2 true,none⟩,
    ⟨(some 83),.bldS false 2 1 (.agg [(.bool false),(.int .i64 0)]) [(0,(.t 82))],none⟩,
    ⟨(some 85),.ld (.t 12) 15 true,none⟩] [⟨(some 72),.call wV [(.t 71)],none⟩] [⟨(some 74),.fadd (.t 12) 6,none⟩,
    ⟨(some 75),.ld (.t 74) 3 true,none⟩,
    ⟨(some 76),.fadd (.t 12) 9,none⟩,
    ⟨(some 77),.ld (.t 76) 3 true,none⟩,
    ⟨(some 78),.fadd (.t 12) 12,none⟩,
    ⟨(some 79),.ld (.t 78) 3 true,none⟩,
    ⟨(some 82),.ld (.t 7) 2 true,none⟩,
    ⟨(some 85),.ld (.t 12) 15 true,none⟩]) <|
  .seq (.dreg [⟨(some 73),.bld [(.bool false),(.int .i64 0)] [(1,1,(.t 72))],none⟩] [⟨(some 81),.call eR [(.t 80)],none⟩] [⟨(some 82),.ld (.t 7) 2 true,none⟩,
    ⟨(some 85),.ld (.t 12) 15 true,none⟩]) <|
  .seq (.dreg [] [⟨(some 84),.app (.t 81) (.t 83) 2 16 (.agg [(.bool false),(.int .i64 0)]),none⟩] [⟨(some 85),.ld (.t 12) 15 true,none⟩]) <|
  .seq (.dreg [] [⟨(some 86),.call lx [(.t 85)],none⟩] []) <|
  .seq (.dreg [⟨(some 87),.bld [(.bool false),(.int .i64 0),.nil,(.bool false)] [(0,2,(.t 73)),(2,1,(.t 84)),(3,1,(.t 86))],none⟩] [⟨(some 13),.alloc (.agg [(.bool false),(.int .i64 0),.nil,(.bool false)]),none⟩] [⟨(some 71),.ld (.t 12) 15 true,none⟩,
    ⟨(some 74),.fadd (.t 12) 6,none⟩,
    ⟨(some 75),.ld (.t 74) 3 true,none⟩,
    ⟨(some 76),.fadd (.t 12) 9,none⟩,
    ⟨(some 77),.ld (.t 76) 3 true,none⟩,
    ⟨(some 78),.fadd (.t 12) 12,none⟩,
    ⟨(some 79),.ld (.t 78) 3 true,none⟩,
    ⟨(some 82),.ld (.t 7) 2 true,none⟩,
    ⟨(some 85),.ld (.t 12) 15 true,none⟩]) <|
  .seq (.dreg [] [⟨none,.st (.t 13) (.t 87) 4,none⟩] []) <|
  .dreg [] [] []) <|
  .seq (.reg [⟨(some 88),.fadd (.t 13) 0,none⟩,
    ⟨(some 89),.fadd (.t 88) 1,none⟩,
    ⟨(some 90),.ld (.t 89) 1 false,none⟩,
    ⟨(some 91),.bin .geq (.t 90) (.c (.int .i64 0)),none⟩,
    ⟨(some 92),.mov (.t 91),none⟩,
    ⟨(some 93),.mov (.t 0),some (92,true)⟩,
    ⟨(some 94),.ld (.t 13) 4 true,some (92,true)⟩,
    ⟨(some 95),.callv (.t 93) [(.t 94)],some (92,true)⟩,
    ⟨(some 96),.un .not (.t 95),some (92,true)⟩,
    ⟨(some 97),.pick (.t 92) (.t 96) (.c (.bool false)),none⟩]) <|
  .cond (.t 97) (.ret) (.skip))) <|
  .reg [⟨(some 98),.bin .add (.t 67) (.c (.int .i64 1)),none⟩,
    ⟨(some 67),.mov (.t 98),none⟩]))) <|
  .seq (.reg [⟨(some 99),.fadd (.t 6) 1,none⟩,
    ⟨(some 100),.ld (.t 99) 13 true,none⟩,
    ⟨(some 101),.call uD [(.t 100)],none⟩,
    ⟨(some 14),.mov (.t 101),none⟩]) <|
  .seq (.reg [⟨(some 102),.mov (.t 14),none⟩,
    ⟨(some 103),.bin .geq (.t 102) (.c (.int .i64 0)),none⟩,
    ⟨(some 104),.mov (.t 103),none⟩,
    ⟨(some 105),.mov (.t 0),some (104,true)⟩,
    ⟨(some 106),.mov (.t 14),some (104,true)⟩,
    ⟨(some 107),.bld [(.bool false),(.int .i64 0)] [(1,1,(.t 106))],some (104,true)⟩,
    ⟨(some 108),.bld [(.bool false),(.int .i64 0),.nil,(.bool false)] [(0,2,(.t 107)),(3,1,(.c (.bool true)))],some (104,true)⟩,
    ⟨(some 109),.callv (.t 105) [(.t 108)],some (104,true)⟩,
    ⟨(some 110),.un .not (.t 109),some (104,true)⟩,
    ⟨(some 111),.pick (.t 104) (.t 110) (.c (.bool false)),none⟩]) <|
  .cond (.t 111) (.ret) (.skip))) <|
  .reg [⟨(some 112),.bin .add (.t 18) (.c (.int .i64 1)),none⟩,
    ⟨(some 18),.mov (.t 112),none⟩])),
  []⟩
theorem ny:cFn PP true jI mf (cDr PP 113 nK)=some jX:=by kernel_rfl
def lz:Nat->Option (List Nat×List Nat)
  | 1000009=>some ([],[3])|3=>some ([6,7],[3,8])|1000008=>some ([6,7,8],[3])|_=>none
def nc:Nat->Option (List Nat×List Nat×List Nat)
  | _=>none
def jj:av:=⟨23,
  .seq (.reg [⟨(some 2),.mov (.c .nil),none⟩]) <|
  .seq (.reg [⟨(some 3),.mov (.c .nil),none⟩]) <|
  .seqj [] [3] (.seq (.reg [⟨(some 6),.mov (.t 0),none⟩,
    ⟨(some 7),.len (.t 6),none⟩,
    ⟨(some 8),.mov (.c (.int .i64 0)),none⟩]) <|
  .block 0 (.loop [6,7] [3,8] (.seq (.reg [⟨(some 9),.bin .lss (.t 8) (.t 7),none⟩]) <|
  .seq (.cond (.t 9) (.skip) (.exit 0)) <|
  .seqj [6,7,8] [3] (.block 1 (.seq (.reg [⟨(some 10),.iadd (.t 6) (.t 8) 3,none⟩,
    ⟨(some 11),.ld (.t 10) 3 true,none⟩,
    ⟨(some 5),.alloc (.agg [(.int .i64 0),(.int .i64 0),(.int .i32 0)]),none⟩,
    ⟨none,.st (.t 5) (.t 11) 3,none⟩]) <|
  .seq (.reg [⟨(some 12),.fadd (.t 5) 0,none⟩,
    ⟨(some 13),.ld (.t 12) 1 false,none⟩,
    ⟨(some 14),.bin .eql (.t 13) (.c (.int .i64 2)),none⟩]) <|
  .cond (.t 14) (.reg [⟨(some 15),.mov (.t 3),none⟩,
    ⟨(some 16),.fadd (.t 5) 1,none⟩,
    ⟨(some 17),.ld (.t 16) 1 false,none⟩,
    ⟨(some 18),.bld [(.bool false),(.int .i64 0)] [(1,1,(.t 17))],none⟩,
    ⟨(some 19),.bldS true 2 1 (.agg [(.bool false),(.int .i64 0)]) [(0,(.t 18))],none⟩,
    ⟨(some 20),.app (.t 15) (.t 19) 2 16 (.agg [(.bool false),(.int .i64 0)]),none⟩,
    ⟨(some 3),.mov (.t 20),none⟩]) (.skip))) <|
  .reg [⟨(some 21),.bin .add (.t 8) (.c (.int .i64 1)),none⟩,
    ⟨(some 8),.mov (.t 21),none⟩]))) <|
  .seq (.reg [⟨(some 22),.mov (.t 3),none⟩,
    ⟨(some 2),.mov (.t 22),none⟩]) <|
  .ret,
  [.t 2]⟩
theorem mz:cFn PP true eR lz (cDr PP 23 nc)=some jj:=by kernel_rfl
def w0:Nat->Option (List Nat×List Nat)
  | _=>none
def yR:Nat->Option (List Nat×List Nat×List Nat)
  | _=>none
def xM:av:=⟨6,
  .seq (.reg [⟨(some 1),.box (.t 0),none⟩,
    ⟨(some 2),.mov (.c (.int .i64 0)),none⟩]) <|
  .seq (.reg [⟨(some 3),.fadd (.t 1) 3,none⟩,
    ⟨(some 4),.ld (.t 3) 3 true,none⟩,
    ⟨(some 5),.call qJ [(.t 4)],none⟩,
    ⟨(some 2),.mov (.t 5),none⟩]) <|
  .ret,
  [.t 2]⟩
theorem x5:cFn PP true wV w0 (cDr PP 6 yR)=some xM:=by kernel_rfl
def od:Nat->Option (List Nat×List Nat)
  | 1000008=>some ([1,4],[5])|_=>none
def qw:Nat->Option (List Nat×List Nat×List Nat)
  | _=>none
def lN:av:=⟨18,
  .seq (.reg [⟨(some 1),.box (.t 0),none⟩,
    ⟨(some 2),.mov (.c (.bool false)),none⟩]) <|
  .seq (.seq (.reg [⟨(some 3),.fadd (.t 1) 0,none⟩,
    ⟨(some 4),.ld (.t 3) 1 false,none⟩]) <|
  .block 0 (.seqj [1,4] [5] (.seq (.reg [⟨(some 6),.bin .eql (.t 4) (.c (.int .i64 1)),none⟩,
    ⟨(some 5),.mov (.t 6),none⟩]) <|
  .cond (.t 5) (.skip) (.seq (.reg [⟨(some 7),.bin .eql (.t 4) (.c (.int .i64 2)),none⟩,
    ⟨(some 5),.mov (.t 7),none⟩]) <|
  .cond (.t 5) (.skip) (.seq (.reg [⟨(some 8),.bin .eql (.t 4) (.c (.int .i64 3)),none⟩,
    ⟨(some 5),.mov (.t 8),none⟩]) <|
  .cond (.t 5) (.skip) (.seq (.reg [⟨(some 9),.bin .eql (.t 4) (.c (.int .i64 4)),none⟩,
    ⟨(some 5),.mov (.t 9),none⟩]) <|
  .cond (.t 5) (.skip) (.reg [⟨(some 10),.bin .eql (.t 4) (.c (.int .i64 6)),none⟩,
    ⟨(some 5),.mov (.t 10),none⟩]))))) <|
  .cond (.t 5) (.seq (.reg [⟨(some 2),.mov (.c (.bool false)),none⟩]) <|
  .ret) (.seq (.reg [⟨(some 12),.bin .eql (.t 4) (.c (.int .i64 5)),none⟩,
    ⟨(some 11),.mov (.t 12),none⟩]) <|
  .cond (.t 11) (.seq (.reg [⟨(some 13),.bldS true 1 3 (.int .i64 0) [(0,(.c (.int .i64 3))),(1,(.c (.int .i64 4))),(2,(.c (.int .i64 5)))],none⟩,
    ⟨(some 14),.fadd (.t 1) 1,none⟩,
    ⟨(some 15),.ld (.t 14) 1 false,none⟩,
    ⟨(some 16),.call aJ [(.t 13),(.t 15)],none⟩,
    ⟨(some 17),.un .not (.t 16),none⟩,
    ⟨(some 2),.mov (.t 17),none⟩]) <|
  .ret) (.skip)))) <|
  .seq (.reg [⟨(some 2),.mov (.c (.bool true)),none⟩]) <|
  .ret,
  [.t 2]⟩
theorem pO:cFn PP true lx od (cDr PP 18 qw)=some lN:=by kernel_rfl
def vq:Nat->Option (List Nat×List Nat)
  | _=>none
def xT:Nat->Option (List Nat×List Nat×List Nat)
  | _=>none
def uT:av:=⟨6,
  .seq (.reg [⟨(some 1),.box (.t 0),none⟩,
    ⟨(some 2),.mov (.c (.int .i64 0)),none⟩]) <|
  .seq (.reg [⟨(some 3),.fadd (.t 1) 2,none⟩,
    ⟨(some 4),.ld (.t 3) 3 true,none⟩,
    ⟨(some 5),.call qJ [(.t 4)],none⟩,
    ⟨(some 2),.mov (.t 5),none⟩]) <|
  .ret,
  [.t 2]⟩
theorem xL:cFn PP true uD vq (cDr PP 6 xT)=some uT:=by kernel_rfl
def tK:Nat->Option (List Nat×List Nat)
  | _=>none
def wu:Nat->Option (List Nat×List Nat×List Nat)
  | _=>none
def sY:av:=⟨17,
  .seq (.reg [⟨(some 2),.box (.t 0),none⟩,
    ⟨(some 3),.box (.t 1),none⟩,
    ⟨(some 4),.mov (.c .nilp),none⟩]) <|
  .seq (.seq (.reg [⟨(some 5),.fadd (.t 3) 0,none⟩,
    ⟨(some 6),.ld (.t 5) 1 false,none⟩]) <|
  .cond (.t 6) (.seq (.reg [⟨(some 7),.fadd (.t 2) 0,none⟩,
    ⟨(some 8),.ld (.t 7) 1 false,none⟩,
    ⟨(some 9),.fadd (.t 3) 1,none⟩,
    ⟨(some 10),.ld (.t 9) 1 false,none⟩,
    ⟨(some 11),.iadd (.t 8) (.t 10) 1,none⟩,
    ⟨(some 4),.mov (.t 11),none⟩]) <|
  .ret) (.skip)) <|
  .seq (.reg [⟨(some 12),.fadd (.t 2) 1,none⟩,
    ⟨(some 13),.ld (.t 12) 1 false,none⟩,
    ⟨(some 14),.fadd (.t 3) 1,none⟩,
    ⟨(some 15),.ld (.t 14) 1 false,none⟩,
    ⟨(some 16),.iadd (.t 13) (.t 15) 1,none⟩,
    ⟨(some 4),.mov (.t 16),none⟩]) <|
  .ret,
  [.t 4]⟩
theorem vD:cFn PP true l9 tK (cDr PP 17 wu)=some sY:=by kernel_rfl
def cc:Nat->Option (List Nat×List Nat)
  | _=>none
def ct:Nat->Option (List Nat×List Nat×List Nat)
  | _=>none
def bk:av:=⟨9,
  .seq (.reg [⟨(some 4),.mov (.c (.bool false)),none⟩]) <|
  .seq (.reg [⟨(some 5),.mov (.t 0),none⟩,
    ⟨(some 6),.mov (.t 1),none⟩,
    ⟨(some 7),.call br [(.t 5),(.t 6)],none⟩,
    ⟨(some 8),.bin .geq (.t 7) (.c (.int .i64 0)),none⟩,
    ⟨(some 4),.mov (.t 8),none⟩]) <|
  .ret,
  [.t 4]⟩
theorem cq:cFn PP true bj cc (cDr PP 9 ct)=some bk:=by kernel_rfl
def nh:Nat->Option (List Nat×List Nat)
  | _=>none
def pt:Nat->Option (List Nat×List Nat×List Nat)
  | _=>none
def kL:av:=⟨10,
  .seq (.reg [⟨(some 2),.box (.t 0),none⟩,
    ⟨(some 3),.mov (.c (.bool false)),none⟩]) <|
  .seq (.reg [⟨(some 4),.ld (.t 1) 2 true,none⟩,
    ⟨(some 5),.ld (.t 2) 2 true,none⟩,
    ⟨(some 6),.call l9 [(.t 4),(.t 5)],none⟩,
    ⟨(some 7),.fadd (.t 6) 0,none⟩,
    ⟨(some 8),.ld (.t 7) 1 false,none⟩,
    ⟨(some 9),.un .not (.t 8),none⟩,
    ⟨(some 3),.mov (.t 9),none⟩]) <|
  .ret,
  [.t 3]⟩
theorem oP:cFn PP true ku nh (cDr PP 10 pt)=some kL:=by kernel_rfl
def eF:Nat->Option (List Nat×List Nat)
  | 1=>some ([0,1,2],[6])|1000003=>some ([0,1,2,6],[])|4=>some ([0,1,2,6],[7])|_=>none
def fj:Nat->Option (List Nat×List Nat×List Nat)
  | 4=>some ([0,0,3,7,15,15,63,127,15,15,527,1807,3855,8191,16383],[],[])|6=>some ([0,0,0,0,8,0,0,64,224,480,0,0,3072,7168,16355,32739,65535,131071],[15,17],[16])|_=>none
def cB:av:=⟨49,
  .seq (.reg [⟨(some 8),.mov (.t 1),none⟩,
    ⟨(some 9),.bin .add (.t 8) (.c (.int .i64 1)),none⟩,
    ⟨(some 6),.mov (.t 9),none⟩]) <|
  .block 0 (.loop [0,1,2] [6] (.seq (.seq (.reg [⟨(some 10),.mov (.t 6),none⟩,
    ⟨(some 11),.mov (.t 2),none⟩,
    ⟨(some 12),.bin .lss (.t 10) (.t 11),none⟩]) <|
  .cond (.t 12) (.skip) (.exit 0)) <|
  .seqj [0,1,2,6] [] (.block 1 (.seq (.reg [⟨(some 15),.mov (.t 6),none⟩,
    ⟨(some 7),.mov (.t 15),none⟩]) <|
  .block 2 (.loop [0,1,2,6] [7] (.seq (.seq (.dreg [⟨(some 16),.mov (.t 7),none⟩,
    ⟨(some 17),.mov (.t 1),none⟩,
    ⟨(some 18),.bin .gtr (.t 16) (.t 17),none⟩,
    ⟨(some 19),.mov (.t 18),none⟩,
    ⟨(some 20),.mov (.t 0),some (19,true)⟩,
    ⟨(some 21),.mov (.t 7),some (19,true)⟩,
    ⟨(some 22),.iadd (.t 20) (.t 21) 1,some (19,true)⟩,
    ⟨(some 23),.ld (.t 22) 1 false,some (19,true)⟩,
    ⟨(some 24),.mov (.t 0),some (19,true)⟩,
    ⟨(some 25),.mov (.t 7),some (19,true)⟩,
    ⟨(some 26),.bin .sub (.t 25) (.c (.int .i64 1)),some (19,true)⟩,
    ⟨(some 27),.iadd (.t 24) (.t 26) 1,some (19,true)⟩,
    ⟨(some 28),.ld (.t 27) 1 false,some (19,true)⟩,
    ⟨(some 29),.call gk [(.t 23),(.t 28)],some (19,true)⟩,
    ⟨(some 30),.pick (.t 19) (.t 29) (.c (.bool false)),none⟩] [] []) <|
  .cond (.t 30) (.skip) (.exit 2)) <|
  .seq (.block 3 (.dreg [⟨(some 33),.mov (.t 0),none⟩,
    ⟨(some 34),.mov (.t 7),none⟩,
    ⟨(some 35),.mov (.t 0),none⟩,
    ⟨(some 36),.mov (.t 7),none⟩,
    ⟨(some 37),.bin .sub (.t 36) (.c (.int .i64 1)),none⟩,
    ⟨(some 38),.mov (.t 0),none⟩,
    ⟨(some 39),.mov (.t 7),none⟩,
    ⟨(some 40),.bin .sub (.t 39) (.c (.int .i64 1)),none⟩,
    ⟨(some 41),.iadd (.t 38) (.t 40) 1,none⟩,
    ⟨(some 42),.ld (.t 41) 1 false,none⟩,
    ⟨(some 43),.mov (.t 0),none⟩,
    ⟨(some 44),.mov (.t 7),none⟩,
    ⟨(some 45),.iadd (.t 43) (.t 44) 1,none⟩,
    ⟨(some 46),.ld (.t 45) 1 false,none⟩,
    ⟨(some 47),.iadd (.t 33) (.t 34) 1,none⟩,
    ⟨(some 48),.iadd (.t 35) (.t 37) 1,none⟩] [⟨none,.st (.t 47) (.t 42) 1,none⟩,
    ⟨none,.st (.t 48) (.t 46) 1,none⟩] [⟨(some 48),.iadd (.t 35) (.t 37) 1,none⟩])) <|
  .reg [⟨(some 31),.mov (.t 7),none⟩,
    ⟨(some 32),.bin .sub (.t 31) (.c (.int .i64 1)),none⟩,
    ⟨(some 7),.mov (.t 32),none⟩])))) <|
  .reg [⟨(some 13),.mov (.t 6),none⟩,
    ⟨(some 14),.bin .add (.t 13) (.c (.int .i64 1)),none⟩,
    ⟨(some 6),.mov (.t 14),none⟩])),
  []⟩
theorem eZ:cFn PP true cx eF (cDr PP 49 fj)=some cB:=by kernel_rfl
def nj:Nat->Option (List Nat×List Nat)
  | 1000005=>some ([],[0,2])|1000008=>some ([],[0,2])|1000011=>some ([],[0,2])|_=>none
def pz:Nat->Option (List Nat×List Nat×List Nat)
  | _=>none
def kO:av:=⟨25,
  .seq (.reg [⟨(some 2),.mov (.c (.int .i64 0)),none⟩]) <|
  .seqj [] [0,2] (.seq (.reg [⟨(some 3),.mov (.t 0),none⟩,
    ⟨(some 4),.bin .geq (.t 3) (.c (.int .u64 4294967296)),none⟩]) <|
  .cond (.t 4) (.seq (.reg [⟨(some 5),.mov (.t 0),none⟩,
    ⟨(some 6),.bin .shr (.t 5) (.c (.int .u64 32)),none⟩,
    ⟨(some 0),.mov (.t 6),none⟩]) <|
  .reg [⟨(some 2),.mov (.c (.int .i64 32)),none⟩]) (.skip)) <|
  .seqj [] [0,2] (.seq (.reg [⟨(some 7),.mov (.t 0),none⟩,
    ⟨(some 8),.bin .geq (.t 7) (.c (.int .u64 65536)),none⟩]) <|
  .cond (.t 8) (.seq (.reg [⟨(some 9),.mov (.t 0),none⟩,
    ⟨(some 10),.bin .shr (.t 9) (.c (.int .u64 16)),none⟩,
    ⟨(some 0),.mov (.t 10),none⟩]) <|
  .reg [⟨(some 11),.mov (.t 2),none⟩,
    ⟨(some 12),.bin .add (.t 11) (.c (.int .i64 16)),none⟩,
    ⟨(some 2),.mov (.t 12),none⟩]) (.skip)) <|
  .seqj [] [0,2] (.seq (.reg [⟨(some 13),.mov (.t 0),none⟩,
    ⟨(some 14),.bin .geq (.t 13) (.c (.int .u64 256)),none⟩]) <|
  .cond (.t 14) (.seq (.reg [⟨(some 15),.mov (.t 0),none⟩,
    ⟨(some 16),.bin .shr (.t 15) (.c (.int .u64 8)),none⟩,
    ⟨(some 0),.mov (.t 16),none⟩]) <|
  .reg [⟨(some 17),.mov (.t 2),none⟩,
    ⟨(some 18),.bin .add (.t 17) (.c (.int .i64 8)),none⟩,
    ⟨(some 2),.mov (.t 18),none⟩]) (.skip)) <|
  .seq (.reg [⟨(some 19),.mov (.t 2),none⟩,
    ⟨(some 20),.mov (.t 0),none⟩,
    ⟨(some 21),.conv .u8 (.t 20),none⟩,
    ⟨(some 22),.sidx (.c (.str ⟨#[0,1,2,2,3,3,3,3,4,4,4,4,4,4,4,4,5,5,5,5,5,5,5,5,5,5,5,5,5,5,5,5,6,6,6,6,6,6,6,6,6,6,6,6,6,6,6,6,6,6,6,6,6,6,6,6,6,6,6,6,6,6,6,6,7,7,7,7,7,7,7,7,7,7,7,7,7,7,7,7,7,7,7,7,7,7,7,7,7,7,7,7,7,7,7,7,7,7,7,7,7,7,7,7,7,7,7,7,7,7,7,7,7,7,7,7,7,7,7,7,7,7,7,7,7,7,7,7,8,8,8,8,8,8,8,8,8,8,8,8,8,8,8,8,8,8,8,8,8,8,8,8,8,8,8,8,8,8,8,8,8,8,8,8,8,8,8,8,8,8,8,8,8,8,8,8,8,8,8,8,8,8,8,8,8,8,8,8,8,8,8,8,8,8,8,8,8,8,8,8,8,8,8,8,8,8,8,8,8,8,8,8,8,8,8,8,8,8,8,8,8,8,8,8,8,8,8,8,8,8,8,8,8,8,8,8,8,8,8,8,8,8,8,8,8,8,8,8,8,8,8,8,8,8,8,8]⟩)) (.t 21) 0 0 false,none⟩,
    ⟨(some 23),.conv .i64 (.t 22),none⟩,
    ⟨(some 24),.bin .add (.t 19) (.t 23),none⟩,
    ⟨(some 2),.mov (.t 24),none⟩]) <|
  .ret,
  [.t 2]⟩
theorem oX:cFn PP true ky nj (cDr PP 25 pz)=some kO:=by kernel_rfl
def sx:Nat->Option (List Nat×List Nat)
  | 1000009=>some ([2,4,6],[])|4=>some ([2,3,4,6,7],[8])|1000006=>some ([2,3,4,6,7,8],[])|_=>none
def uV:Nat->Option (List Nat×List Nat×List Nat)
  | 6=>some ([0,1,0,0,12,28,63,127,255],[],[999999])|7=>some ([0,0,0,0,12,28,63,127],[6,7],[999999])|_=>none
def qh:av:=⟨49,
  .seq (.reg [⟨(some 3),.box (.t 0),none⟩,
    ⟨(some 4),.box (.t 1),none⟩,
    ⟨(some 6),.alloc (.agg [.nil,.nil]),none⟩]) <|
  .seq (.reg [⟨(some 9),.fadd (.t 4) 0,none⟩,
    ⟨(some 10),.ld (.t 9) 1 false,none⟩,
    ⟨(some 11),.mov (.t 2),none⟩,
    ⟨(some 12),.iadd (.t 10) (.t 11) 1,none⟩,
    ⟨none,.st (.t 12) (.c (.bool true)) 1,none⟩]) <|
  .seq (.reg [⟨(some 13),.fadd (.t 3) 7,none⟩,
    ⟨(some 14),.ld (.t 13) 1 false,none⟩,
    ⟨(some 15),.mov (.t 2),none⟩,
    ⟨(some 16),.iadd (.t 14) (.t 15) 14,none⟩,
    ⟨(some 17),.fadd (.t 16) 1,none⟩,
    ⟨(some 18),.ld (.t 17) 13 true,none⟩,
    ⟨(some 19),.call jt [(.t 18)],none⟩,
    ⟨(some 7),.mov (.t 19),none⟩]) <|
  .seqj [2,4,6] [] (.seq (.reg [⟨(some 8),.mov (.c (.int .i64 0)),none⟩]) <|
  .block 0 (.loop [2,3,4,6,7] [8] (.seq (.seq (.reg [⟨(some 20),.mov (.t 8),none⟩,
    ⟨(some 21),.mov (.t 7),none⟩,
    ⟨(some 22),.len (.t 21),none⟩,
    ⟨(some 23),.bin .lss (.t 20) (.t 22),none⟩]) <|
  .cond (.t 23) (.skip) (.exit 0)) <|
  .seqj [2,3,4,6,7,8] [] (.block 1 (.seq (.dreg [⟨(some 26),.fadd (.t 4) 0,none⟩,
    ⟨(some 27),.ld (.t 26) 1 false,none⟩,
    ⟨(some 28),.mov (.t 7),none⟩,
    ⟨(some 29),.mov (.t 8),none⟩,
    ⟨(some 30),.iadd (.t 28) (.t 29) 1,none⟩,
    ⟨(some 31),.ld (.t 30) 1 false,none⟩,
    ⟨(some 32),.iadd (.t 27) (.t 31) 1,none⟩,
    ⟨(some 33),.ld (.t 32) 1 false,none⟩,
    ⟨(some 34),.un .not (.t 33),none⟩] [] []) <|
  .cond (.t 34) (.seq (.dreg [⟨(some 35),.ld (.t 3) 8 true,none⟩,
    ⟨(some 36),.ld (.t 4) 2 true,none⟩,
    ⟨(some 37),.mov (.t 7),none⟩,
    ⟨(some 38),.mov (.t 8),none⟩,
    ⟨(some 39),.iadd (.t 37) (.t 38) 1,none⟩,
    ⟨(some 40),.ld (.t 39) 1 false,none⟩] [⟨(some 41),.call kT [(.t 35),(.t 36),(.t 40)],none⟩] []) <|
  .seq (.dreg [] [⟨none,.st (.t 4) (.t 41) 2,none⟩] []) <|
  .dreg [] [] []) (.skip))) <|
  .reg [⟨(some 24),.mov (.t 8),none⟩,
    ⟨(some 25),.bin .add (.t 24) (.c (.int .i64 1)),none⟩,
    ⟨(some 8),.mov (.t 25),none⟩]))) <|
  .seq (.reg [⟨(some 42),.mov (.t 2),none⟩,
    ⟨(some 43),.bldS true 1 1 (.int .i64 0) [(0,(.t 42))],none⟩,
    ⟨(some 44),.fadd (.t 4) 1,none⟩,
    ⟨(some 45),.ld (.t 44) 1 false,none⟩,
    ⟨(some 46),.app (.t 43) (.t 45) 1 8 (.int .i64 0),none⟩,
    ⟨(some 47),.fadd (.t 4) 1,none⟩,
    ⟨none,.st (.t 47) (.t 46) 1,none⟩]) <|
  .seq (.reg [⟨(some 48),.ld (.t 4) 2 true,none⟩,
    ⟨none,.st (.t 6) (.t 48) 2,none⟩]) <|
  .ret,
  [.cell 6 2 true]⟩
theorem ua:cFn PP true kT sx (cDr PP 49 uV)=some qh:=by kernel_rfl
def wY:Nat->Option (List Nat×List Nat)
  | 1000011=>some ([3,4,5],[])|5=>some ([1,3,4,5,25,26],[27])|1000010=>some ([1,3,4,5,25,26,27],[])|10=>some ([3,4,5],[])|1000019=>some ([3,4,5,8],[9])|13=>some ([3,4,5,8,56,57],[9,58])|1000018=>some ([3,4,5,8,56,57,58],[9])|_=>none
def yP:Nat->Option (List Nat×List Nat×List Nat)
  | _=>none
def xI:av:=⟨85,
  .seq (.reg [⟨(some 1),.box (.t 0),none⟩,
    ⟨(some 2),.mov (.c .nilp),none⟩]) <|
  .seq (.reg [⟨(some 12),.ld (.t 1) 8 true,none⟩,
    ⟨(some 13),.call uB [(.t 12)],none⟩,
    ⟨(some 14),.call jL [(.t 13),(.c (.int .i64 0))],none⟩,
    ⟨(some 3),.mov (.t 14),none⟩]) <|
  .seq (.reg [⟨(some 15),.fadd (.t 1) 7,none⟩,
    ⟨(some 16),.ld (.t 15) 1 false,none⟩,
    ⟨(some 17),.len (.t 16),none⟩,
    ⟨(some 4),.mov (.t 17),none⟩]) <|
  .seq (.reg [⟨(some 18),.mov (.t 3),none⟩,
    ⟨(some 19),.call fA [(.t 18)],none⟩,
    ⟨(some 20),.bldS true 1 1 .nil [(0,(.c .nil))],none⟩,
    ⟨(some 21),.app (.t 19) (.t 20) 1 24 .nil,none⟩,
    ⟨(some 5),.mov (.t 21),none⟩]) <|
  .seqj [3,4,5] [] (.seq (.reg [⟨(some 22),.mov (.t 3),none⟩,
    ⟨(some 23),.fadd (.t 22) 0,none⟩,
    ⟨(some 24),.fadd (.t 23) 1,none⟩,
    ⟨(some 25),.ld (.t 24) 1 false,none⟩,
    ⟨(some 26),.len (.t 25),none⟩,
    ⟨(some 27),.mov (.c (.int .i64 0)),none⟩]) <|
  .block 0 (.loop [1,3,4,5,25,26] [27] (.seq (.reg [⟨(some 28),.bin .lss (.t 27) (.t 26),none⟩]) <|
  .seq (.cond (.t 28) (.skip) (.exit 0)) <|
  .seqj [1,3,4,5,25,26,27] [] (.block 1 (.seq (.reg [⟨(some 29),.iadd (.t 25) (.t 27) 1,none⟩,
    ⟨(some 30),.ld (.t 29) 1 false,none⟩,
    ⟨(some 7),.mov (.t 30),none⟩]) <|
  .seq (.reg [⟨(some 31),.fadd (.t 1) 7,none⟩,
    ⟨(some 32),.ld (.t 31) 1 false,none⟩,
    ⟨(some 33),.mov (.t 7),none⟩,
    ⟨(some 34),.iadd (.t 32) (.t 33) 14,none⟩,
    ⟨(some 35),.fadd (.t 34) 1,none⟩,
    ⟨(some 36),.fadd (.t 35) 0,none⟩,
    ⟨(some 37),.ld (.t 36) 1 false,none⟩,
    ⟨(some 38),.bin .eql (.t 37) (.c (.int .i64 5)),none⟩]) <|
  .cond (.t 38) (.reg [⟨(some 39),.mov (.t 5),none⟩,
    ⟨(some 40),.mov (.t 4),none⟩,
    ⟨(some 41),.mov (.t 5),none⟩,
    ⟨(some 42),.mov (.t 4),none⟩,
    ⟨(some 43),.iadd (.t 41) (.t 42) 1,none⟩,
    ⟨(some 44),.ld (.t 43) 1 false,none⟩,
    ⟨(some 45),.mov (.t 7),none⟩,
    ⟨(some 46),.bldS true 1 1 (.int .i64 0) [(0,(.t 45))],none⟩,
    ⟨(some 47),.app (.t 44) (.t 46) 1 8 (.int .i64 0),none⟩,
    ⟨(some 48),.iadd (.t 39) (.t 40) 1,none⟩,
    ⟨none,.st (.t 48) (.t 47) 1,none⟩]) (.skip))) <|
  .reg [⟨(some 49),.bin .add (.t 27) (.c (.int .i64 1)),none⟩,
    ⟨(some 27),.mov (.t 49),none⟩]))) <|
  .block 2 (.loop [3,4,5] [] (.block 3 (.seq (.reg [⟨(some 50),.mov (.t 5),none⟩,
    ⟨(some 51),.mov (.t 4),none⟩,
    ⟨(some 52),.call jL [(.t 50),(.t 51)],none⟩,
    ⟨(some 8),.mov (.t 52),none⟩]) <|
  .seq (.reg [⟨(some 9),.mov (.c (.int .i64 (-1))),none⟩]) <|
  .seqj [3,4,5,8] [9] (.seq (.reg [⟨(some 53),.mov (.t 3),none⟩,
    ⟨(some 54),.fadd (.t 53) 0,none⟩,
    ⟨(some 55),.fadd (.t 54) 1,none⟩,
    ⟨(some 56),.ld (.t 55) 1 false,none⟩,
    ⟨(some 57),.len (.t 56),none⟩,
    ⟨(some 58),.mov (.c (.int .i64 0)),none⟩]) <|
  .block 4 (.loop [3,4,5,8,56,57] [9,58] (.seq (.reg [⟨(some 59),.bin .lss (.t 58) (.t 57),none⟩]) <|
  .seq (.cond (.t 59) (.skip) (.exit 4)) <|
  .seqj [3,4,5,8,56,57,58] [9] (.block 5 (.seq (.reg [⟨(some 60),.iadd (.t 56) (.t 58) 1,none⟩,
    ⟨(some 61),.ld (.t 60) 1 false,none⟩,
    ⟨(some 11),.mov (.t 61),none⟩]) <|
  .seq (.reg [⟨(some 62),.mov (.t 8),none⟩,
    ⟨(some 63),.fadd (.t 62) 0,none⟩,
    ⟨(some 64),.fadd (.t 63) 2,none⟩,
    ⟨(some 65),.ld (.t 64) 1 false,none⟩,
    ⟨(some 66),.mov (.t 11),none⟩,
    ⟨(some 67),.iadd (.t 65) (.t 66) 1,none⟩,
    ⟨(some 68),.ld (.t 67) 1 false,none⟩,
    ⟨(some 69),.bin .lss (.t 68) (.c (.int .i64 0)),none⟩]) <|
  .cond (.t 69) (.reg [⟨(some 70),.mov (.t 11),none⟩,
    ⟨(some 9),.mov (.t 70),none⟩]) (.skip))) <|
  .reg [⟨(some 71),.bin .add (.t 58) (.c (.int .i64 1)),none⟩,
    ⟨(some 58),.mov (.t 71),none⟩]))) <|
  .seq (.seq (.reg [⟨(some 72),.mov (.t 9),none⟩,
    ⟨(some 73),.bin .lss (.t 72) (.c (.int .i64 0)),none⟩]) <|
  .cond (.t 73) (.seq (.reg [⟨(some 74),.mov (.t 8),none⟩,
    ⟨(some 2),.mov (.t 74),none⟩]) <|
  .ret) (.skip)) <|
  .reg [⟨(some 75),.mov (.t 5),none⟩,
    ⟨(some 76),.mov (.t 4),none⟩,
    ⟨(some 77),.mov (.t 5),none⟩,
    ⟨(some 78),.mov (.t 4),none⟩,
    ⟨(some 79),.iadd (.t 77) (.t 78) 1,none⟩,
    ⟨(some 80),.ld (.t 79) 1 false,none⟩,
    ⟨(some 81),.mov (.t 9),none⟩,
    ⟨(some 82),.bldS true 1 1 (.int .i64 0) [(0,(.t 81))],none⟩,
    ⟨(some 83),.app (.t 80) (.t 82) 1 8 (.int .i64 0),none⟩,
    ⟨(some 84),.iadd (.t 75) (.t 76) 1,none⟩,
    ⟨none,.st (.t 84) (.t 83) 1,none⟩]))),
  [.t 2]⟩
theorem x3:cFn PP true wU wY (cDr PP 85 yP)=some xI:=by kernel_rfl
def pK:Nat->Option (List Nat×List Nat)
  | 9000002=>some ([0],[3,4])|1000020=>some ([3],[])|5=>some ([0,3,4,37,38],[39])|1000017=>some ([0,3,4,6,37,38,39],[7])|9=>some ([0,3,4,6,37,38,39,46,47],[7,48])|1000016=>some ([0,3,4,6,37,38,39,46,47,48],[7])|_=>none
def rU:Nat->Option (List Nat×List Nat×List Nat)
  | 3=>some ([0,0,2,6,14,30,62,0,128,384,896,1920,3968,8191,16383],[14],[])|_=>none
def m9:av:=⟨80,
  .seq (.reg [⟨(some 2),.mov (.c .nil),none⟩]) <|
  .scope 0 [0] [3,4] (.seq (.reg [⟨(some 10),.bldS true 1 1 (.int .i64 0) [(0,(.c (.int .i64 (-1))))],none⟩,
    ⟨(some 11),.mov (.t 0),none⟩,
    ⟨(some 12),.fadd (.t 11) 0,none⟩,
    ⟨(some 13),.fadd (.t 12) 0,none⟩,
    ⟨(some 14),.ld (.t 13) 1 false,none⟩,
    ⟨(some 15),.len (.t 14),none⟩,
    ⟨(some 16),.call cP [(.t 10),(.t 15)],none⟩,
    ⟨(some 3),.mov (.t 16),none⟩]) <|
  .seq (.reg [⟨(some 17),.mov (.t 0),none⟩,
    ⟨(some 18),.call fA [(.t 17)],none⟩,
    ⟨(some 4),.mov (.t 18),none⟩]) <|
  .seq (.dreg [⟨(some 19),.mov (.t 3),none⟩,
    ⟨(some 20),.mov (.t 0),none⟩,
    ⟨(some 21),.fadd (.t 20) 0,none⟩,
    ⟨(some 22),.fadd (.t 21) 1,none⟩,
    ⟨(some 23),.ld (.t 22) 1 false,none⟩,
    ⟨(some 24),.iadd (.t 23) (.c (.int .i64 0)) 1,none⟩,
    ⟨(some 25),.ld (.t 24) 1 false,none⟩,
    ⟨(some 26),.mov (.t 0),none⟩,
    ⟨(some 27),.fadd (.t 26) 0,none⟩,
    ⟨(some 28),.fadd (.t 27) 1,none⟩,
    ⟨(some 29),.ld (.t 28) 1 false,none⟩,
    ⟨(some 30),.iadd (.t 29) (.c (.int .i64 0)) 1,none⟩,
    ⟨(some 31),.ld (.t 30) 1 false,none⟩,
    ⟨(some 32),.iadd (.t 19) (.t 25) 1,none⟩] [⟨none,.st (.t 32) (.t 31) 1,none⟩] []) <|
  .seq (.label 0) <|
  .seqj [3] [] (.seq (.reg [⟨(some 33),.mov (.t 0),none⟩,
    ⟨(some 34),.fadd (.t 33) 0,none⟩,
    ⟨(some 35),.fadd (.t 34) 1,none⟩,
    ⟨(some 36),.ld (.t 35) 1 false,none⟩,
    ⟨(some 37),.pB (.t 36) (some (.c (.int .i64 1))) none none 1,none⟩,
    ⟨(some 38),.len (.t 37),none⟩,
    ⟨(some 39),.mov (.c (.int .i64 0)),none⟩]) <|
  .block 0 (.loop [0,3,4,37,38] [39] (.seq (.reg [⟨(some 40),.bin .lss (.t 39) (.t 38),none⟩]) <|
  .seq (.cond (.t 40) (.skip) (.exit 0)) <|
  .seq (.block 1 (.seq (.reg [⟨(some 41),.iadd (.t 37) (.t 39) 1,none⟩,
    ⟨(some 42),.ld (.t 41) 1 false,none⟩,
    ⟨(some 6),.mov (.t 42),none⟩]) <|
  .seq (.reg [⟨(some 7),.mov (.c (.int .i64 (-1))),none⟩]) <|
  .seqj [0,3,4,6,37,38,39] [7] (.seq (.reg [⟨(some 43),.mov (.t 4),none⟩,
    ⟨(some 44),.mov (.t 6),none⟩,
    ⟨(some 45),.iadd (.t 43) (.t 44) 1,none⟩,
    ⟨(some 46),.ld (.t 45) 1 false,none⟩,
    ⟨(some 47),.len (.t 46),none⟩,
    ⟨(some 48),.mov (.c (.int .i64 0)),none⟩]) <|
  .block 2 (.loop [0,3,4,6,37,38,39,46,47] [7,48] (.seq (.reg [⟨(some 49),.bin .lss (.t 48) (.t 47),none⟩]) <|
  .seq (.cond (.t 49) (.skip) (.exit 2)) <|
  .seqj [0,3,4,6,37,38,39,46,47,48] [7] (.block 3 (.seq (.reg [⟨(some 50),.iadd (.t 46) (.t 48) 1,none⟩,
    ⟨(some 51),.ld (.t 50) 1 false,none⟩,
    ⟨(some 9),.mov (.t 51),none⟩]) <|
  .block 4 (.seq (.reg [⟨(some 58),.mov (.t 3),none⟩,
    ⟨(some 59),.mov (.t 9),none⟩,
    ⟨(some 60),.iadd (.t 58) (.t 59) 1,none⟩,
    ⟨(some 61),.ld (.t 60) 1 false,none⟩,
    ⟨(some 62),.bin .lss (.t 61) (.c (.int .i64 0)),none⟩,
    ⟨(some 57),.mov (.t 62),none⟩]) <|
  .cond (.t 57) (.skip) (.seq (.reg [⟨(some 64),.mov (.t 7),none⟩,
    ⟨(some 65),.bin .lss (.t 64) (.c (.int .i64 0)),none⟩,
    ⟨(some 63),.mov (.t 65),none⟩]) <|
  .cond (.t 63) (.reg [⟨(some 66),.mov (.t 9),none⟩,
    ⟨(some 7),.mov (.t 66),none⟩]) (.reg [⟨(some 52),.mov (.t 0),none⟩,
    ⟨(some 53),.mov (.t 3),none⟩,
    ⟨(some 54),.mov (.t 7),none⟩,
    ⟨(some 55),.mov (.t 9),none⟩,
    ⟨(some 56),.call hO [(.t 52),(.t 53),(.t 54),(.t 55)],none⟩,
    ⟨(some 7),.mov (.t 56),none⟩]))))) <|
  .reg [⟨(some 67),.bin .add (.t 48) (.c (.int .i64 1)),none⟩,
    ⟨(some 48),.mov (.t 67),none⟩]))) <|
  .seq (.reg [⟨(some 68),.mov (.t 7),none⟩,
    ⟨(some 69),.mov (.t 3),none⟩,
    ⟨(some 70),.mov (.t 6),none⟩,
    ⟨(some 71),.iadd (.t 69) (.t 70) 1,none⟩,
    ⟨(some 72),.ld (.t 71) 1 false,none⟩,
    ⟨(some 73),.bin .neq (.t 68) (.t 72),none⟩]) <|
  .cond (.t 73) (.seq (.reg [⟨(some 74),.mov (.t 3),none⟩,
    ⟨(some 75),.mov (.t 6),none⟩,
    ⟨(some 76),.mov (.t 7),none⟩,
    ⟨(some 77),.iadd (.t 74) (.t 75) 1,none⟩,
    ⟨none,.st (.t 77) (.t 76) 1,none⟩]) <|
  .goto 0) (.skip))) <|
  .reg [⟨(some 78),.bin .add (.t 39) (.c (.int .i64 1)),none⟩,
    ⟨(some 39),.mov (.t 78),none⟩]))) <|
  .seq (.reg [⟨(some 79),.mov (.t 3),none⟩,
    ⟨(some 2),.mov (.t 79),none⟩]) <|
  .ret) (.seq (.skip) <|
  .seqj [3] [] (.seq (.reg [⟨(some 33),.mov (.t 0),none⟩,
    ⟨(some 34),.fadd (.t 33) 0,none⟩,
    ⟨(some 35),.fadd (.t 34) 1,none⟩,
    ⟨(some 36),.ld (.t 35) 1 false,none⟩,
    ⟨(some 37),.pB (.t 36) (some (.c (.int .i64 1))) none none 1,none⟩,
    ⟨(some 38),.len (.t 37),none⟩,
    ⟨(some 39),.mov (.c (.int .i64 0)),none⟩]) <|
  .block 0 (.loop [0,3,4,37,38] [39] (.seq (.reg [⟨(some 40),.bin .lss (.t 39) (.t 38),none⟩]) <|
  .seq (.cond (.t 40) (.skip) (.exit 0)) <|
  .seq (.block 1 (.seq (.reg [⟨(some 41),.iadd (.t 37) (.t 39) 1,none⟩,
    ⟨(some 42),.ld (.t 41) 1 false,none⟩,
    ⟨(some 6),.mov (.t 42),none⟩]) <|
  .seq (.reg [⟨(some 7),.mov (.c (.int .i64 (-1))),none⟩]) <|
  .seqj [0,3,4,6,37,38,39] [7] (.seq (.reg [⟨(some 43),.mov (.t 4),none⟩,
    ⟨(some 44),.mov (.t 6),none⟩,
    ⟨(some 45),.iadd (.t 43) (.t 44) 1,none⟩,
    ⟨(some 46),.ld (.t 45) 1 false,none⟩,
    ⟨(some 47),.len (.t 46),none⟩,
    ⟨(some 48),.mov (.c (.int .i64 0)),none⟩]) <|
  .block 2 (.loop [0,3,4,6,37,38,39,46,47] [7,48] (.seq (.reg [⟨(some 49),.bin .lss (.t 48) (.t 47),none⟩]) <|
  .seq (.cond (.t 49) (.skip) (.exit 2)) <|
  .seqj [0,3,4,6,37,38,39,46,47,48] [7] (.block 3 (.seq (.reg [⟨(some 50),.iadd (.t 46) (.t 48) 1,none⟩,
    ⟨(some 51),.ld (.t 50) 1 false,none⟩,
    ⟨(some 9),.mov (.t 51),none⟩]) <|
  .block 4 (.seq (.reg [⟨(some 58),.mov (.t 3),none⟩,
    ⟨(some 59),.mov (.t 9),none⟩,
    ⟨(some 60),.iadd (.t 58) (.t 59) 1,none⟩,
    ⟨(some 61),.ld (.t 60) 1 false,none⟩,
    ⟨(some 62),.bin .lss (.t 61) (.c (.int .i64 0)),none⟩,
    ⟨(some 57),.mov (.t 62),none⟩]) <|
  .cond (.t 57) (.skip) (.seq (.reg [⟨(some 64),.mov (.t 7),none⟩,
    ⟨(some 65),.bin .lss (.t 64) (.c (.int .i64 0)),none⟩,
    ⟨(some 63),.mov (.t 65),none⟩]) <|
  .cond (.t 63) (.reg [⟨(some 66),.mov (.t 9),none⟩,
    ⟨(some 7),.mov (.t 66),none⟩]) (.reg [⟨(some 52),.mov (.t 0),none⟩,
    ⟨(some 53),.mov (.t 3),none⟩,
    ⟨(some 54),.mov (.t 7),none⟩,
    ⟨(some 55),.mov (.t 9),none⟩,
    ⟨(some 56),.call hO [(.t 52),(.t 53),(.t 54),(.t 55)],none⟩,
    ⟨(some 7),.mov (.t 56),none⟩]))))) <|
  .reg [⟨(some 67),.bin .add (.t 48) (.c (.int .i64 1)),none⟩,
    ⟨(some 48),.mov (.t 67),none⟩]))) <|
  .seq (.reg [⟨(some 68),.mov (.t 7),none⟩,
    ⟨(some 69),.mov (.t 3),none⟩,
    ⟨(some 70),.mov (.t 6),none⟩,
    ⟨(some 71),.iadd (.t 69) (.t 70) 1,none⟩,
    ⟨(some 72),.ld (.t 71) 1 false,none⟩,
    ⟨(some 73),.bin .neq (.t 68) (.t 72),none⟩]) <|
  .cond (.t 73) (.seq (.reg [⟨(some 74),.mov (.t 3),none⟩,
    ⟨(some 75),.mov (.t 6),none⟩,
    ⟨(some 76),.mov (.t 7),none⟩,
    ⟨(some 77),.iadd (.t 74) (.t 75) 1,none⟩,
    ⟨none,.st (.t 77) (.t 76) 1,none⟩]) <|
  .goto 0) (.skip))) <|
  .reg [⟨(some 78),.bin .add (.t 39) (.c (.int .i64 1)),none⟩,
    ⟨(some 39),.mov (.t 78),none⟩]))) <|
  .seq (.reg [⟨(some 79),.mov (.t 3),none⟩,
    ⟨(some 2),.mov (.t 79),none⟩]) <|
  .ret),
  [.t 2]⟩
theorem rC:cFn PP true mP pK (cDr PP 80 rU)=some m9:=by kernel_rfl
def vn:Nat->Option (List Nat×List Nat)
  | _=>none
def xR:Nat->Option (List Nat×List Nat×List Nat)
  | _=>none
def uS:av:=⟨6,
  .seq (.reg [⟨(some 2),.box (.t 0),none⟩,
    ⟨(some 3),.box (.t 1),none⟩,
    ⟨(some 4),.mov (.c .nilfn),none⟩]) <|
  .seq (.reg [⟨(some 5),.mkf nY [] [(.t 3),(.t 2)],none⟩,
    ⟨(some 4),.mov (.t 5),none⟩]) <|
  .ret,
  [.t 4]⟩
theorem xJ:cFn PP true uC vn (cDr PP 6 xR)=some uS:=by kernel_rfl
def iA:Nat->Option (List Nat×List Nat)
  | 1000017=>some ([0],[])|4=>some ([0],[3])|1000015=>some ([0],[3])|9=>some ([0,4],[3,5])|1000011=>some ([0,4,5],[3])|_=>none
def jn:Nat->Option (List Nat×List Nat×List Nat)
  | 6=>some ([0,0,3,7,0,0,32,112,240,511],[],[])|11=>some ([0,0,3,7,0,0,32,112,240,511],[],[])|_=>none
def eP:av:=⟨61,
  .seq (.reg [⟨(some 2),.mov (.c .nil),none⟩]) <|
  .seq (.seq (.reg [⟨(some 6),.mov (.t 0),none⟩,
    ⟨(some 7),.len (.t 6),none⟩,
    ⟨(some 8),.bin .lss (.t 7) (.c (.int .i64 2)),none⟩]) <|
  .cond (.t 8) (.seq (.reg [⟨(some 9),.mov (.t 0),none⟩,
    ⟨(some 2),.mov (.t 9),none⟩]) <|
  .ret) (.skip)) <|
  .seqj [0] [] (.seq (.reg [⟨(some 3),.mov (.c (.int .i64 1)),none⟩]) <|
  .block 0 (.loop [0] [3] (.seq (.seq (.reg [⟨(some 10),.mov (.t 3),none⟩,
    ⟨(some 11),.mov (.t 0),none⟩,
    ⟨(some 12),.len (.t 11),none⟩,
    ⟨(some 13),.bin .lss (.t 10) (.t 12),none⟩]) <|
  .cond (.t 13) (.skip) (.exit 0)) <|
  .seq (.block 1 (.seq (.dreg [⟨(some 16),.mov (.t 0),none⟩,
    ⟨(some 17),.mov (.t 3),none⟩,
    ⟨(some 18),.iadd (.t 16) (.t 17) 1,none⟩,
    ⟨(some 19),.ld (.t 18) 1 false,none⟩,
    ⟨(some 20),.mov (.t 0),none⟩,
    ⟨(some 21),.mov (.t 3),none⟩,
    ⟨(some 22),.bin .sub (.t 21) (.c (.int .i64 1)),none⟩,
    ⟨(some 23),.iadd (.t 20) (.t 22) 1,none⟩,
    ⟨(some 24),.ld (.t 23) 1 false,none⟩,
    ⟨(some 25),.bin .eql (.t 19) (.t 24),none⟩] [] []) <|
  .cond (.t 25) (.seq (.reg [⟨(some 26),.mov (.t 0),none⟩,
    ⟨(some 27),.mov (.t 3),none⟩,
    ⟨(some 28),.pB (.t 26) (some (.t 27)) none none 1,none⟩,
    ⟨(some 4),.mov (.t 28),none⟩]) <|
  .seqj [0] [3] (.seq (.reg [⟨(some 5),.mov (.c (.int .i64 1)),none⟩]) <|
  .block 2 (.loop [0,4] [3,5] (.seq (.seq (.reg [⟨(some 29),.mov (.t 5),none⟩,
    ⟨(some 30),.mov (.t 4),none⟩,
    ⟨(some 31),.len (.t 30),none⟩,
    ⟨(some 32),.bin .lss (.t 29) (.t 31),none⟩]) <|
  .cond (.t 32) (.skip) (.exit 2)) <|
  .seqj [0,4,5] [3] (.block 3 (.seq (.dreg [⟨(some 35),.mov (.t 4),none⟩,
    ⟨(some 36),.mov (.t 5),none⟩,
    ⟨(some 37),.iadd (.t 35) (.t 36) 1,none⟩,
    ⟨(some 38),.ld (.t 37) 1 false,none⟩,
    ⟨(some 39),.mov (.t 4),none⟩,
    ⟨(some 40),.mov (.t 5),none⟩,
    ⟨(some 41),.bin .sub (.t 40) (.c (.int .i64 1)),none⟩,
    ⟨(some 42),.iadd (.t 39) (.t 41) 1,none⟩,
    ⟨(some 43),.ld (.t 42) 1 false,none⟩,
    ⟨(some 44),.bin .neq (.t 38) (.t 43),none⟩] [] []) <|
  .cond (.t 44) (.seq (.reg [⟨(some 45),.mov (.t 0),none⟩,
    ⟨(some 46),.mov (.t 3),none⟩,
    ⟨(some 47),.mov (.t 4),none⟩,
    ⟨(some 48),.mov (.t 5),none⟩,
    ⟨(some 49),.iadd (.t 47) (.t 48) 1,none⟩,
    ⟨(some 50),.ld (.t 49) 1 false,none⟩,
    ⟨(some 51),.iadd (.t 45) (.t 46) 1,none⟩,
    ⟨none,.st (.t 51) (.t 50) 1,none⟩]) <|
  .reg [⟨(some 52),.mov (.t 3),none⟩,
    ⟨(some 53),.bin .add (.t 52) (.c (.int .i64 1)),none⟩,
    ⟨(some 3),.mov (.t 53),none⟩]) (.skip))) <|
  .reg [⟨(some 33),.mov (.t 5),none⟩,
    ⟨(some 34),.bin .add (.t 33) (.c (.int .i64 1)),none⟩,
    ⟨(some 5),.mov (.t 34),none⟩]))) <|
  .seq (.reg [⟨(some 54),.mov (.t 0),none⟩,
    ⟨(some 55),.mov (.t 3),none⟩,
    ⟨(some 56),.pB (.t 54) (some (.t 55)) none none 1,none⟩,
    ⟨none,.dead,none⟩]) <|
  .seq (.reg [⟨(some 57),.mov (.t 0),none⟩,
    ⟨(some 58),.mov (.t 3),none⟩,
    ⟨(some 59),.pB (.t 57) none (some (.t 58)) none 1,none⟩,
    ⟨(some 2),.mov (.t 59),none⟩]) <|
  .ret) (.skip))) <|
  .reg [⟨(some 14),.mov (.t 3),none⟩,
    ⟨(some 15),.bin .add (.t 14) (.c (.int .i64 1)),none⟩,
    ⟨(some 3),.mov (.t 15),none⟩]))) <|
  .seq (.reg [⟨(some 60),.mov (.t 0),none⟩,
    ⟨(some 2),.mov (.t 60),none⟩]) <|
  .ret,
  [.t 2]⟩
theorem ja:cFn PP true eM iA (cDr PP 61 jn)=some eP:=by kernel_rfl
def wZ:Nat->Option (List Nat×List Nat)
  | _=>none
def yQ:Nat->Option (List Nat×List Nat×List Nat)
  | _=>none
def xK:av:=⟨8,
  .seq (.reg [⟨(some 1),.box (.t 0),none⟩,
    ⟨(some 2),.mov (.c (.int .i64 0)),none⟩]) <|
  .seq (.seq (.reg [⟨(some 3),.fadd (.t 1) 0,none⟩,
    ⟨(some 4),.ld (.t 3) 1 false,none⟩,
    ⟨(some 5),.bin .neq (.t 4) (.c (.int .i64 2)),none⟩]) <|
  .cond (.t 5) (.seq (.reg [⟨(some 2),.mov (.c (.int .i64 (-1))),none⟩]) <|
  .ret) (.skip)) <|
  .seq (.reg [⟨(some 6),.fadd (.t 1) 1,none⟩,
    ⟨(some 7),.ld (.t 6) 1 false,none⟩,
    ⟨(some 2),.mov (.t 7),none⟩]) <|
  .ret,
  [.t 2]⟩
theorem x4:cFn PP true qJ wZ (cDr PP 8 yQ)=some xK:=by kernel_rfl
def cu:Nat->Option (List Nat×List Nat)
  | 1000008=>some ([],[])|2=>some ([0,1,7],[8])|_=>none
def cF:Nat->Option (List Nat×List Nat×List Nat)
  | _=>none
def bt:av:=⟨19,
  .seq (.reg [⟨(some 4),.mov (.c (.int .i64 0)),none⟩]) <|
  .seqj [] [] (.seq (.reg [⟨(some 6),.mov (.t 0),none⟩,
    ⟨(some 7),.len (.t 6),none⟩,
    ⟨(some 8),.mov (.c (.int .i64 0)),none⟩]) <|
  .block 0 (.loop [0,1,7] [8] (.seq (.reg [⟨(some 9),.bin .lss (.t 8) (.t 7),none⟩]) <|
  .seq (.cond (.t 9) (.skip) (.exit 0)) <|
  .seq (.block 1 (.seq (.reg [⟨(some 10),.mov (.t 8),none⟩,
    ⟨(some 5),.mov (.t 10),none⟩]) <|
  .seq (.reg [⟨(some 11),.mov (.t 1),none⟩,
    ⟨(some 12),.mov (.t 0),none⟩,
    ⟨(some 13),.mov (.t 5),none⟩,
    ⟨(some 14),.iadd (.t 12) (.t 13) 2,none⟩,
    ⟨(some 15),.ld (.t 14) 2 true,none⟩,
    ⟨(some 16),.callv (.t 11) [(.t 15)],none⟩]) <|
  .cond (.t 16) (.seq (.reg [⟨(some 17),.mov (.t 5),none⟩,
    ⟨(some 4),.mov (.t 17),none⟩]) <|
  .ret) (.skip))) <|
  .reg [⟨(some 18),.bin .add (.t 8) (.c (.int .i64 1)),none⟩,
    ⟨(some 8),.mov (.t 18),none⟩]))) <|
  .seq (.reg [⟨(some 4),.mov (.c (.int .i64 (-1))),none⟩]) <|
  .ret,
  [.t 4]⟩
theorem cC:cFn PP true br cu (cDr PP 19 cF)=some bt:=by kernel_rfl
def qO:Nat->Option (List Nat×List Nat)
  | 1000013=>some ([5],[])|8=>some ([5,32,33],[34])|_=>none
def tA:Nat->Option (List Nat×List Nat×List Nat)
  | 1=>some ([0,0,0,4,14,31,63,0,255],[4,6,7,8],[999998,2])|_=>none
def oZ:av:=⟨48,
  .seq (.reg [⟨(some 2),.box (.t 0),none⟩,
    ⟨(some 4),.mov (.c .nilp),none⟩]) <|
  .seq (.seq (.dreg [⟨(some 5),.mov (.c .undef),none⟩] [] []) <|
  .seq (.dreg [⟨(some 10),.ld (.t 2) 1 false,none⟩,
    ⟨(some 11),.bldS false 1 1 (.int .i64 0) [(0,(.c (.int .i64 (-1))))],none⟩,
    ⟨(some 12),.ld (.t 2) 1 false,none⟩,
    ⟨(some 13),.len (.t 12),none⟩] [⟨(some 14),.call cP [(.t 11),(.t 13)],none⟩] [⟨(some 10),.ld (.t 2) 1 false,none⟩]) <|
  .seq (.dreg [⟨(some 15),.bld [.nil,.nil,.nil] [(0,1,(.t 10)),(2,1,(.t 14))],none⟩] [⟨(some 16),.box (.t 15),none⟩] []) <|
  .seq (.dreg [] [⟨(some 5),.alloc .nilp,none⟩] [⟨(some 10),.ld (.t 2) 1 false,none⟩,
    ⟨(some 12),.ld (.t 2) 1 false,none⟩,
    ⟨(some 13),.len (.t 12),none⟩]) <|
  .seq (.dreg [] [⟨none,.st (.t 5) (.t 16) 1,none⟩] []) <|
  .dreg [] [] []) <|
  .seq (.reg [⟨(some 17),.ld (.t 2) 1 false,none⟩,
    ⟨(some 18),.len (.t 17),none⟩,
    ⟨(some 19),.mk 1 1 (.bool false) (.t 18) (.t 18),none⟩,
    ⟨(some 6),.alloc .nil,none⟩,
    ⟨none,.st (.t 6) (.t 19) 1,none⟩]) <|
  .seq (.reg [⟨(some 7),.alloc .nilfn,none⟩]) <|
  .seq (.reg [⟨(some 20),.mkf kz [] [(.t 6),(.t 2),(.t 7),(.t 5)],none⟩,
    ⟨none,.st (.t 7) (.t 20) 1,none⟩]) <|
  .seq (.reg [⟨(some 21),.ld (.t 7) 1 false,none⟩,
    ⟨(some 22),.mov (.t 1),none⟩,
    ⟨(some 23),.callv (.t 21) [(.t 22)],none⟩]) <|
  .seq (.reg [⟨(some 24),.ld (.t 5) 1 false,none⟩,
    ⟨(some 25),.fadd (.t 24) 0,none⟩,
    ⟨(some 26),.fadd (.t 25) 1,none⟩,
    ⟨(some 27),.ld (.t 26) 1 false,none⟩,
    ⟨(some 28),.call eL [(.t 27)],none⟩]) <|
  .seqj [5] [] (.seq (.reg [⟨(some 29),.ld (.t 5) 1 false,none⟩,
    ⟨(some 30),.fadd (.t 29) 0,none⟩,
    ⟨(some 31),.fadd (.t 30) 1,none⟩,
    ⟨(some 32),.ld (.t 31) 1 false,none⟩,
    ⟨(some 33),.len (.t 32),none⟩,
    ⟨(some 34),.mov (.c (.int .i64 0)),none⟩]) <|
  .block 0 (.loop [5,32,33] [34] (.seq (.reg [⟨(some 35),.bin .lss (.t 34) (.t 33),none⟩]) <|
  .seq (.cond (.t 35) (.skip) (.exit 0)) <|
  .seq (.block 1 (.seq (.reg [⟨(some 36),.mov (.t 34),none⟩,
    ⟨(some 37),.iadd (.t 32) (.t 34) 1,none⟩,
    ⟨(some 38),.ld (.t 37) 1 false,none⟩,
    ⟨(some 8),.mov (.t 36),none⟩,
    ⟨(some 9),.mov (.t 38),none⟩]) <|
  .reg [⟨(some 39),.ld (.t 5) 1 false,none⟩,
    ⟨(some 40),.fadd (.t 39) 0,none⟩,
    ⟨(some 41),.fadd (.t 40) 2,none⟩,
    ⟨(some 42),.ld (.t 41) 1 false,none⟩,
    ⟨(some 43),.mov (.t 9),none⟩,
    ⟨(some 44),.mov (.t 8),none⟩,
    ⟨(some 45),.iadd (.t 42) (.t 43) 1,none⟩,
    ⟨none,.st (.t 45) (.t 44) 1,none⟩])) <|
  .reg [⟨(some 46),.bin .add (.t 34) (.c (.int .i64 1)),none⟩,
    ⟨(some 34),.mov (.t 46),none⟩]))) <|
  .seq (.reg [⟨(some 47),.ld (.t 5) 1 false,none⟩,
    ⟨(some 4),.mov (.t 47),none⟩]) <|
  .ret,
  [.t 4]⟩
theorem ti:cFn PP true jL qO (cDr PP 48 tA)=some oZ:=by kernel_rfl
def vk:Nat->Option (List Nat×List Nat)
  | 1000008=>some ([3],[])|3=>some ([3,11,12],[13])|_=>none
def xQ:Nat->Option (List Nat×List Nat×List Nat)
  | _=>none
def uR:av:=⟨26,
  .seq (.reg [⟨(some 1),.box (.t 0),none⟩,
    ⟨(some 2),.mov (.c .nil),none⟩]) <|
  .seq (.reg [⟨(some 6),.fadd (.t 1) 7,none⟩,
    ⟨(some 7),.ld (.t 6) 1 false,none⟩,
    ⟨(some 8),.len (.t 7),none⟩,
    ⟨(some 9),.mk 1 24 .nil (.t 8) (.t 8),none⟩,
    ⟨(some 3),.mov (.t 9),none⟩]) <|
  .seqj [3] [] (.seq (.reg [⟨(some 10),.fadd (.t 1) 7,none⟩,
    ⟨(some 11),.ld (.t 10) 1 false,none⟩,
    ⟨(some 12),.len (.t 11),none⟩,
    ⟨(some 13),.mov (.c (.int .i64 0)),none⟩]) <|
  .block 0 (.loop [3,11,12] [13] (.seq (.reg [⟨(some 14),.bin .lss (.t 13) (.t 12),none⟩]) <|
  .seq (.cond (.t 14) (.skip) (.exit 0)) <|
  .seq (.block 1 (.seq (.reg [⟨(some 15),.mov (.t 13),none⟩,
    ⟨(some 16),.iadd (.t 11) (.t 13) 14,none⟩,
    ⟨(some 17),.ld (.t 16) 14 true,none⟩,
    ⟨(some 5),.alloc (.agg [.nil,(.int .i64 0),(.int .i64 0),(.int .i64 0),(.int .i64 0),(.int .i32 0),(.int .i64 0),(.int .i64 0),(.int .i32 0),(.int .i64 0),(.int .i64 0),(.int .i32 0),(.int .i64 0),(.int .i64 0)]),none⟩,
    ⟨(some 4),.mov (.t 15),none⟩,
    ⟨none,.st (.t 5) (.t 17) 14,none⟩]) <|
  .reg [⟨(some 18),.mov (.t 3),none⟩,
    ⟨(some 19),.mov (.t 4),none⟩,
    ⟨(some 20),.fadd (.t 5) 1,none⟩,
    ⟨(some 21),.ld (.t 20) 13 true,none⟩,
    ⟨(some 22),.call dZ [(.t 21)],none⟩,
    ⟨(some 23),.iadd (.t 18) (.t 19) 1,none⟩,
    ⟨none,.st (.t 23) (.t 22) 1,none⟩])) <|
  .reg [⟨(some 24),.bin .add (.t 13) (.c (.int .i64 1)),none⟩,
    ⟨(some 13),.mov (.t 24),none⟩]))) <|
  .seq (.reg [⟨(some 25),.mov (.t 3),none⟩,
    ⟨(some 2),.mov (.t 25),none⟩]) <|
  .ret,
  [.t 2]⟩
theorem xH:cFn PP true uB vk (cDr PP 26 xQ)=some uR:=by kernel_rfl
def mg:Nat->Option (List Nat×List Nat)
  | 1000012=>some ([3],[])|3=>some ([0,3,17,18],[19])|1000011=>some ([0,3,17,18,19],[])|6=>some ([0,3,5,17,18,19,29,30],[31])|_=>none
def nR:Nat->Option (List Nat×List Nat×List Nat)
  | _=>none
def kd:av:=⟨48,
  .seq (.reg [⟨(some 2),.mov (.c .nil),none⟩]) <|
  .seq (.reg [⟨(some 8),.mov (.t 0),none⟩,
    ⟨(some 9),.fadd (.t 8) 0,none⟩,
    ⟨(some 10),.fadd (.t 9) 0,none⟩,
    ⟨(some 11),.ld (.t 10) 1 false,none⟩,
    ⟨(some 12),.len (.t 11),none⟩,
    ⟨(some 13),.mk 1 24 .nil (.t 12) (.t 12),none⟩,
    ⟨(some 3),.mov (.t 13),none⟩]) <|
  .seqj [3] [] (.seq (.reg [⟨(some 14),.mov (.t 0),none⟩,
    ⟨(some 15),.fadd (.t 14) 0,none⟩,
    ⟨(some 16),.fadd (.t 15) 1,none⟩,
    ⟨(some 17),.ld (.t 16) 1 false,none⟩,
    ⟨(some 18),.len (.t 17),none⟩,
    ⟨(some 19),.mov (.c (.int .i64 0)),none⟩]) <|
  .block 0 (.loop [0,3,17,18] [19] (.seq (.reg [⟨(some 20),.bin .lss (.t 19) (.t 18),none⟩]) <|
  .seq (.cond (.t 20) (.skip) (.exit 0)) <|
  .seqj [0,3,17,18,19] [] (.block 1 (.seq (.reg [⟨(some 21),.iadd (.t 17) (.t 19) 1,none⟩,
    ⟨(some 22),.ld (.t 21) 1 false,none⟩,
    ⟨(some 5),.mov (.t 22),none⟩]) <|
  .seq (.reg [⟨(some 23),.mov (.t 0),none⟩,
    ⟨(some 24),.fadd (.t 23) 0,none⟩,
    ⟨(some 25),.fadd (.t 24) 0,none⟩,
    ⟨(some 26),.ld (.t 25) 1 false,none⟩,
    ⟨(some 27),.mov (.t 5),none⟩,
    ⟨(some 28),.iadd (.t 26) (.t 27) 1,none⟩,
    ⟨(some 29),.ld (.t 28) 1 false,none⟩,
    ⟨(some 30),.len (.t 29),none⟩,
    ⟨(some 31),.mov (.c (.int .i64 0)),none⟩]) <|
  .block 2 (.loop [0,3,5,17,18,19,29,30] [31] (.seq (.reg [⟨(some 32),.bin .lss (.t 31) (.t 30),none⟩]) <|
  .seq (.cond (.t 32) (.skip) (.exit 2)) <|
  .seq (.block 3 (.seq (.reg [⟨(some 33),.iadd (.t 29) (.t 31) 1,none⟩,
    ⟨(some 34),.ld (.t 33) 1 false,none⟩,
    ⟨(some 7),.mov (.t 34),none⟩]) <|
  .reg [⟨(some 35),.mov (.t 3),none⟩,
    ⟨(some 36),.mov (.t 7),none⟩,
    ⟨(some 37),.mov (.t 3),none⟩,
    ⟨(some 38),.mov (.t 7),none⟩,
    ⟨(some 39),.iadd (.t 37) (.t 38) 1,none⟩,
    ⟨(some 40),.ld (.t 39) 1 false,none⟩,
    ⟨(some 41),.mov (.t 5),none⟩,
    ⟨(some 42),.bldS true 1 1 (.int .i64 0) [(0,(.t 41))],none⟩,
    ⟨(some 43),.app (.t 40) (.t 42) 1 8 (.int .i64 0),none⟩,
    ⟨(some 44),.iadd (.t 35) (.t 36) 1,none⟩,
    ⟨none,.st (.t 44) (.t 43) 1,none⟩])) <|
  .reg [⟨(some 45),.bin .add (.t 31) (.c (.int .i64 1)),none⟩,
    ⟨(some 31),.mov (.t 45),none⟩])))) <|
  .reg [⟨(some 46),.bin .add (.t 19) (.c (.int .i64 1)),none⟩,
    ⟨(some 19),.mov (.t 46),none⟩]))) <|
  .seq (.reg [⟨(some 47),.mov (.t 3),none⟩,
    ⟨(some 2),.mov (.t 47),none⟩]) <|
  .ret,
  [.t 2]⟩
theorem nG:cFn PP true fA mg (cDr PP 48 nR)=some kd:=by kernel_rfl
def iU:Nat->Option (List Nat×List Nat)
  | 1000004=>some ([0,1],[])|1000007=>some ([0,6],[])|1000011=>some ([7],[])|8=>some ([7],[8])|_=>none
def jF:Nat->Option (List Nat×List Nat×List Nat)
  | 9=>some ([0,0,0,6,0,0,48,126,255,511],[7,8,9],[])|_=>none
def fu:av:=⟨48,
  .seq (.reg [⟨(some 4),.mov (.c .nil),none⟩]) <|
  .seqj [0,1] [] (.seq (.reg [⟨(some 9),.mov (.t 1),none⟩,
    ⟨(some 10),.bin .lss (.t 9) (.c (.int .i64 0)),none⟩]) <|
  .cond (.t 10) (.reg [⟨(some 11),.dead,none⟩,
    ⟨none,.dead,none⟩]) (.skip)) <|
  .seq (.reg [⟨(some 13),.mov (.t 0),none⟩,
    ⟨(some 14),.len (.t 13),none⟩,
    ⟨(some 15),.conv .u64 (.t 14),none⟩,
    ⟨(some 16),.mov (.t 1),none⟩,
    ⟨(some 17),.conv .u64 (.t 16),none⟩,
    ⟨(some 18),.call mN [(.t 15),(.t 17)],none⟩,
    ⟨(some 12),.mov (.t 18),none⟩,
    ⟨(some 19),.ext (.t 12) 0,none⟩,
    ⟨(some 20),.ext (.t 12) 1,none⟩,
    ⟨(some 5),.mov (.t 19),none⟩,
    ⟨(some 6),.mov (.t 20),none⟩]) <|
  .seqj [0,6] [] (.seq (.reg [⟨(some 21),.mov (.t 5),none⟩,
    ⟨(some 22),.bin .gtr (.t 21) (.c (.int .u64 0)),none⟩,
    ⟨(some 23),.mov (.t 22),none⟩,
    ⟨(some 24),.mov (.t 6),some (23,false)⟩,
    ⟨(some 25),.bin .gtr (.t 24) (.c (.int .u64 9223372036854775807)),some (23,false)⟩,
    ⟨(some 26),.pick (.t 23) (.c (.bool true)) (.t 25),none⟩]) <|
  .cond (.t 26) (.reg [⟨(some 27),.dead,none⟩,
    ⟨none,.dead,none⟩]) (.skip)) <|
  .seq (.reg [⟨(some 28),.mov (.t 6),none⟩,
    ⟨(some 29),.conv .i64 (.t 28),none⟩,
    ⟨(some 30),.mk 1 8 (.int .i64 0) (.t 29) (.t 29),none⟩,
    ⟨(some 7),.mov (.t 30),none⟩]) <|
  .seq (.reg [⟨(some 31),.mov (.t 7),none⟩,
    ⟨(some 32),.mov (.t 0),none⟩,
    ⟨(some 33),.xY (.t 31) (.t 32) 1,none⟩,
    ⟨(some 8),.mov (.t 33),none⟩]) <|
  .seqj [7] [] (.block 0 (.loop [7] [8] (.seq (.seq (.reg [⟨(some 34),.mov (.t 8),none⟩,
    ⟨(some 35),.mov (.t 7),none⟩,
    ⟨(some 36),.len (.t 35),none⟩,
    ⟨(some 37),.bin .lss (.t 34) (.t 36),none⟩]) <|
  .cond (.t 37) (.skip) (.exit 0)) <|
  .block 1 (.dreg [⟨(some 38),.mov (.t 8),none⟩,
    ⟨(some 39),.mov (.t 7),none⟩,
    ⟨(some 40),.mov (.t 8),none⟩,
    ⟨(some 41),.pB (.t 39) (some (.t 40)) none none 1,none⟩,
    ⟨(some 42),.mov (.t 7),none⟩,
    ⟨(some 43),.mov (.t 8),none⟩,
    ⟨(some 44),.pB (.t 42) none (some (.t 43)) none 1,none⟩] [⟨(some 45),.xY (.t 41) (.t 44) 1,none⟩,
    ⟨(some 46),.bin .add (.t 38) (.t 45),none⟩,
    ⟨(some 8),.mov (.t 46),none⟩] [])))) <|
  .seq (.reg [⟨(some 47),.mov (.t 7),none⟩,
    ⟨(some 4),.mov (.t 47),none⟩]) <|
  .ret,
  [.t 4]⟩
theorem jz:cFn PP true cP iU (cDr PP 48 jF)=some fu:=by kernel_rfl
def om:Nat->Option (List Nat×List Nat)
  | 1000006=>some ([],[2])|1=>some ([0,1],[2,3])|_=>none
def qE:Nat->Option (List Nat×List Nat×List Nat)
  | 2=>some ([0,1,3,7,0,31,63,0,128,384,896,0,3968,8064,16383],[],[])|_=>none
def lT:av:=⟨36,
  .seq (.reg [⟨(some 8),.mov (.c (.int .i64 0)),none⟩]) <|
  .seqj [] [2] (.block 0 (.loop [0,1] [2,3] (.seq (.seq (.reg [⟨(some 9),.mov (.t 2),none⟩,
    ⟨(some 10),.mov (.t 3),none⟩,
    ⟨(some 11),.bin .neq (.t 9) (.t 10),none⟩]) <|
  .cond (.t 11) (.skip) (.exit 0)) <|
  .block 1 (.seq (.dreg [⟨(some 12),.mov (.t 0),none⟩,
    ⟨(some 13),.fadd (.t 12) 0,none⟩,
    ⟨(some 14),.fadd (.t 13) 2,none⟩,
    ⟨(some 15),.ld (.t 14) 1 false,none⟩,
    ⟨(some 16),.mov (.t 2),none⟩,
    ⟨(some 17),.iadd (.t 15) (.t 16) 1,none⟩,
    ⟨(some 18),.ld (.t 17) 1 false,none⟩,
    ⟨(some 19),.mov (.t 0),none⟩,
    ⟨(some 20),.fadd (.t 19) 0,none⟩,
    ⟨(some 21),.fadd (.t 20) 2,none⟩,
    ⟨(some 22),.ld (.t 21) 1 false,none⟩,
    ⟨(some 23),.mov (.t 3),none⟩,
    ⟨(some 24),.iadd (.t 22) (.t 23) 1,none⟩,
    ⟨(some 25),.ld (.t 24) 1 false,none⟩,
    ⟨(some 26),.bin .gtr (.t 18) (.t 25),none⟩] [] []) <|
  .cond (.t 26) (.reg [⟨(some 27),.mov (.t 1),none⟩,
    ⟨(some 28),.mov (.t 2),none⟩,
    ⟨(some 29),.iadd (.t 27) (.t 28) 1,none⟩,
    ⟨(some 30),.ld (.t 29) 1 false,none⟩,
    ⟨(some 2),.mov (.t 30),none⟩]) (.reg [⟨(some 31),.mov (.t 1),none⟩,
    ⟨(some 32),.mov (.t 3),none⟩,
    ⟨(some 33),.iadd (.t 31) (.t 32) 1,none⟩,
    ⟨(some 34),.ld (.t 33) 1 false,none⟩,
    ⟨(some 3),.mov (.t 34),none⟩]))))) <|
  .seq (.reg [⟨(some 35),.mov (.t 2),none⟩,
    ⟨(some 8),.mov (.t 35),none⟩]) <|
  .ret,
  [.t 8]⟩
theorem pT:cFn PP true hO om (cDr PP 36 qE)=some lT:=by kernel_rfl
def qQ:Nat->Option (List Nat×List Nat)
  | 0=>some ([0,1,2],[])|_=>none
def tB:Nat->Option (List Nat×List Nat×List Nat)
  | 0=>some ([0,0,3,7,15,15,63,127,15,511,1023],[2],[999999])|_=>none
def o0:av:=⟨19,
  .block 0 (.loop [0,1,2] [] (.seq (.seq (.seq (.dreg [⟨(some 4),.mov (.t 0),none⟩,
    ⟨(some 5),.ld (.t 1) 1 false,none⟩] [⟨(some 6),.callv (.t 4) [(.t 5)],none⟩] []) <|
  .dreg [⟨(some 7),.mov (.t 6),none⟩,
    ⟨(some 8),.ld (.t 2) 1 false,some (7,true)⟩,
    ⟨(some 9),.ld (.t 1) 1 false,some (7,true)⟩,
    ⟨(some 10),.iadd (.t 8) (.t 9) 1,some (7,true)⟩,
    ⟨(some 11),.ld (.t 10) 1 false,some (7,true)⟩,
    ⟨(some 12),.ld (.t 1) 1 false,some (7,true)⟩,
    ⟨(some 13),.bin .neq (.t 11) (.t 12),some (7,true)⟩,
    ⟨(some 14),.pick (.t 7) (.t 13) (.c (.bool false)),none⟩] [] []) <|
  .cond (.t 14) (.skip) (.exit 0)) <|
  .block 1 (.reg [⟨(some 15),.ld (.t 2) 1 false,none⟩,
    ⟨(some 16),.ld (.t 1) 1 false,none⟩,
    ⟨(some 17),.iadd (.t 15) (.t 16) 1,none⟩,
    ⟨(some 18),.ld (.t 17) 1 false,none⟩,
    ⟨none,.st (.t 1) (.t 18) 1,none⟩]))),
  []⟩
theorem tk:cFn PP true nY qQ (cDr PP 19 tB)=some o0:=by kernel_rfl
def np:Nat->Option (List Nat×List Nat)
  | 1000008=>some ([0,4],[])|2=>some ([0,1,3,4,14,15],[16])|1000007=>some ([0,1,3,4,14,15,16],[])|_=>none
def pA:Nat->Option (List Nat×List Nat×List Nat)
  | 7=>some ([0,0,2,6,14,0,32,126,255,511,1023],[7,10],[0])|_=>none
def kP:av:=⟨39,
  .seq (.reg [⟨(some 8),.ld (.t 1) 1 false,none⟩,
    ⟨(some 9),.mov (.t 0),none⟩,
    ⟨(some 10),.iadd (.t 8) (.t 9) 1,none⟩,
    ⟨none,.st (.t 10) (.c (.bool true)) 1,none⟩]) <|
  .seqj [0,4] [] (.seq (.reg [⟨(some 11),.ld (.t 2) 1 false,none⟩,
    ⟨(some 12),.mov (.t 0),none⟩,
    ⟨(some 13),.iadd (.t 11) (.t 12) 1,none⟩,
    ⟨(some 14),.ld (.t 13) 1 false,none⟩,
    ⟨(some 15),.len (.t 14),none⟩,
    ⟨(some 16),.mov (.c (.int .i64 0)),none⟩]) <|
  .block 0 (.loop [0,1,3,4,14,15] [16] (.seq (.reg [⟨(some 17),.bin .lss (.t 16) (.t 15),none⟩]) <|
  .seq (.cond (.t 17) (.skip) (.exit 0)) <|
  .seqj [0,1,3,4,14,15,16] [] (.block 1 (.seq (.reg [⟨(some 18),.iadd (.t 14) (.t 16) 1,none⟩,
    ⟨(some 19),.ld (.t 18) 1 false,none⟩,
    ⟨(some 7),.mov (.t 19),none⟩]) <|
  .seq (.reg [⟨(some 20),.ld (.t 1) 1 false,none⟩,
    ⟨(some 21),.mov (.t 7),none⟩,
    ⟨(some 22),.iadd (.t 20) (.t 21) 1,none⟩,
    ⟨(some 23),.ld (.t 22) 1 false,none⟩,
    ⟨(some 24),.un .not (.t 23),none⟩]) <|
  .cond (.t 24) (.reg [⟨(some 25),.ld (.t 3) 1 false,none⟩,
    ⟨(some 26),.mov (.t 7),none⟩,
    ⟨(some 27),.callv (.t 25) [(.t 26)],none⟩]) (.skip))) <|
  .reg [⟨(some 28),.bin .add (.t 16) (.c (.int .i64 1)),none⟩,
    ⟨(some 16),.mov (.t 28),none⟩]))) <|
  .dreg [⟨(some 29),.ld (.t 4) 1 false,none⟩,
    ⟨(some 30),.ld (.t 4) 1 false,none⟩,
    ⟨(some 31),.fadd (.t 30) 0,none⟩,
    ⟨(some 32),.fadd (.t 31) 1,none⟩,
    ⟨(some 33),.ld (.t 32) 1 false,none⟩,
    ⟨(some 34),.mov (.t 0),none⟩,
    ⟨(some 35),.bldS false 1 1 (.int .i64 0) [(0,(.t 34))],none⟩,
    ⟨(some 37),.fadd (.t 29) 0,none⟩,
    ⟨(some 38),.fadd (.t 37) 1,none⟩] [⟨(some 36),.app (.t 33) (.t 35) 1 8 (.int .i64 0),none⟩,
    ⟨none,.st (.t 38) (.t 36) 1,none⟩] [⟨(some 29),.ld (.t 4) 1 false,none⟩],
  []⟩
theorem oY:cFn PP true kz np (cDr PP 39 pA)=some kP:=by kernel_rfl
def iz:Nat->Option (List Nat×List Nat)
  | 1=>some ([0],[2,3])|_=>none
def jm:Nat->Option (List Nat×List Nat×List Nat)
  | 3=>some ([0,0,0,0,0,0,48,112,0,0,768,1792,4083,8179,16383,32767],[13,15],[14])|_=>none
def eO:av:=⟨28,
  .seq (.reg [⟨(some 4),.mov (.t 0),none⟩,
    ⟨(some 5),.len (.t 4),none⟩,
    ⟨(some 6),.bin .sub (.t 5) (.c (.int .i64 1)),none⟩,
    ⟨(some 2),.mov (.c (.int .i64 0)),none⟩,
    ⟨(some 3),.mov (.t 6),none⟩]) <|
  .block 0 (.loop [0] [2,3] (.seq (.seq (.reg [⟨(some 7),.mov (.t 2),none⟩,
    ⟨(some 8),.mov (.t 3),none⟩,
    ⟨(some 9),.bin .lss (.t 7) (.t 8),none⟩]) <|
  .cond (.t 9) (.skip) (.exit 0)) <|
  .seq (.block 1 (.dreg [⟨(some 14),.mov (.t 0),none⟩,
    ⟨(some 15),.mov (.t 2),none⟩,
    ⟨(some 16),.mov (.t 0),none⟩,
    ⟨(some 17),.mov (.t 3),none⟩,
    ⟨(some 18),.mov (.t 0),none⟩,
    ⟨(some 19),.mov (.t 3),none⟩,
    ⟨(some 20),.iadd (.t 18) (.t 19) 1,none⟩,
    ⟨(some 21),.ld (.t 20) 1 false,none⟩,
    ⟨(some 22),.mov (.t 0),none⟩,
    ⟨(some 23),.mov (.t 2),none⟩,
    ⟨(some 24),.iadd (.t 22) (.t 23) 1,none⟩,
    ⟨(some 25),.ld (.t 24) 1 false,none⟩,
    ⟨(some 26),.iadd (.t 14) (.t 15) 1,none⟩,
    ⟨(some 27),.iadd (.t 16) (.t 17) 1,none⟩] [⟨none,.st (.t 26) (.t 21) 1,none⟩,
    ⟨none,.st (.t 27) (.t 25) 1,none⟩] [⟨(some 27),.iadd (.t 16) (.t 17) 1,none⟩])) <|
  .reg [⟨(some 10),.mov (.t 2),none⟩,
    ⟨(some 11),.bin .add (.t 10) (.c (.int .i64 1)),none⟩,
    ⟨(some 12),.mov (.t 3),none⟩,
    ⟨(some 13),.bin .sub (.t 12) (.c (.int .i64 1)),none⟩,
    ⟨(some 2),.mov (.t 11),none⟩,
    ⟨(some 3),.mov (.t 13),none⟩])),
  []⟩
theorem iZ:cFn PP true eL iz (cDr PP 28 jm)=some eO:=by kernel_rfl
def pH:Nat->Option (List Nat×List Nat)
  | _=>none
def rR:Nat->Option (List Nat×List Nat×List Nat)
  | _=>none
def m6:av:=⟨30,
  .seq (.reg [⟨(some 4),.mov (.c (.int .u64 0)),none⟩,
    ⟨(some 5),.mov (.c (.int .u64 0)),none⟩]) <|
  .seq (.cond (.c (.bool false)) (.seq (.reg [⟨(some 11),.mov (.t 0),none⟩,
    ⟨(some 12),.conv .u32 (.t 11),none⟩,
    ⟨(some 13),.mov (.t 1),none⟩,
    ⟨(some 14),.conv .u32 (.t 13),none⟩,
    ⟨(some 15),.call sm [(.t 12),(.t 14)],none⟩,
    ⟨(some 10),.mov (.t 15),none⟩,
    ⟨(some 16),.ext (.t 10) 0,none⟩,
    ⟨(some 17),.ext (.t 10) 1,none⟩,
    ⟨(some 6),.mov (.t 16),none⟩,
    ⟨(some 7),.mov (.t 17),none⟩]) <|
  .seq (.reg [⟨(some 18),.mov (.t 6),none⟩,
    ⟨(some 19),.conv .u64 (.t 18),none⟩,
    ⟨(some 20),.mov (.t 7),none⟩,
    ⟨(some 21),.conv .u64 (.t 20),none⟩,
    ⟨(some 4),.mov (.t 19),none⟩,
    ⟨(some 5),.mov (.t 21),none⟩]) <|
  .ret) (.skip)) <|
  .seq (.reg [⟨(some 23),.mov (.t 0),none⟩,
    ⟨(some 24),.mov (.t 1),none⟩,
    ⟨(some 25),.call kx [(.t 23),(.t 24)],none⟩,
    ⟨(some 22),.mov (.t 25),none⟩,
    ⟨(some 26),.ext (.t 22) 0,none⟩,
    ⟨(some 27),.ext (.t 22) 1,none⟩,
    ⟨(some 8),.mov (.t 26),none⟩,
    ⟨(some 9),.mov (.t 27),none⟩]) <|
  .seq (.reg [⟨(some 28),.mov (.t 8),none⟩,
    ⟨(some 29),.mov (.t 9),none⟩,
    ⟨(some 4),.mov (.t 28),none⟩,
    ⟨(some 5),.mov (.t 29),none⟩]) <|
  .ret,
  [.t 4,.t 5]⟩
theorem rh:cFn PP true mN pH (cDr PP 30 rR)=some m6:=by kernel_rfl
def ni:Nat->Option (List Nat×List Nat)
  | _=>none
def pw:Nat->Option (List Nat×List Nat×List Nat)
  | _=>none
def kN:av:=⟨51,
  .seq (.reg [⟨(some 4),.mov (.c (.int .u64 0)),none⟩,
    ⟨(some 5),.mov (.c (.int .u64 0)),none⟩]) <|
  .seq (.reg [⟨(some 14),.mov (.t 0),none⟩,
    ⟨(some 15),.bin .and (.t 14) (.c (.int .u64 4294967295)),none⟩,
    ⟨(some 6),.mov (.t 15),none⟩]) <|
  .seq (.reg [⟨(some 16),.mov (.t 0),none⟩,
    ⟨(some 17),.bin .shr (.t 16) (.c (.int .u64 32)),none⟩,
    ⟨(some 7),.mov (.t 17),none⟩]) <|
  .seq (.reg [⟨(some 18),.mov (.t 1),none⟩,
    ⟨(some 19),.bin .and (.t 18) (.c (.int .u64 4294967295)),none⟩,
    ⟨(some 8),.mov (.t 19),none⟩]) <|
  .seq (.reg [⟨(some 20),.mov (.t 1),none⟩,
    ⟨(some 21),.bin .shr (.t 20) (.c (.int .u64 32)),none⟩,
    ⟨(some 9),.mov (.t 21),none⟩]) <|
  .seq (.reg [⟨(some 22),.mov (.t 6),none⟩,
    ⟨(some 23),.mov (.t 8),none⟩,
    ⟨(some 24),.bin .mul (.t 22) (.t 23),none⟩,
    ⟨(some 10),.mov (.t 24),none⟩]) <|
  .seq (.reg [⟨(some 25),.mov (.t 7),none⟩,
    ⟨(some 26),.mov (.t 8),none⟩,
    ⟨(some 27),.bin .mul (.t 25) (.t 26),none⟩,
    ⟨(some 28),.mov (.t 10),none⟩,
    ⟨(some 29),.bin .shr (.t 28) (.c (.int .u64 32)),none⟩,
    ⟨(some 30),.bin .add (.t 27) (.t 29),none⟩,
    ⟨(some 11),.mov (.t 30),none⟩]) <|
  .seq (.reg [⟨(some 31),.mov (.t 11),none⟩,
    ⟨(some 32),.bin .and (.t 31) (.c (.int .u64 4294967295)),none⟩,
    ⟨(some 12),.mov (.t 32),none⟩]) <|
  .seq (.reg [⟨(some 33),.mov (.t 11),none⟩,
    ⟨(some 34),.bin .shr (.t 33) (.c (.int .u64 32)),none⟩,
    ⟨(some 13),.mov (.t 34),none⟩]) <|
  .seq (.reg [⟨(some 35),.mov (.t 12),none⟩,
    ⟨(some 36),.mov (.t 6),none⟩,
    ⟨(some 37),.mov (.t 9),none⟩,
    ⟨(some 38),.bin .mul (.t 36) (.t 37),none⟩,
    ⟨(some 39),.bin .add (.t 35) (.t 38),none⟩,
    ⟨(some 12),.mov (.t 39),none⟩]) <|
  .seq (.reg [⟨(some 40),.mov (.t 7),none⟩,
    ⟨(some 41),.mov (.t 9),none⟩,
    ⟨(some 42),.bin .mul (.t 40) (.t 41),none⟩,
    ⟨(some 43),.mov (.t 13),none⟩,
    ⟨(some 44),.bin .add (.t 42) (.t 43),none⟩,
    ⟨(some 45),.mov (.t 12),none⟩,
    ⟨(some 46),.bin .shr (.t 45) (.c (.int .u64 32)),none⟩,
    ⟨(some 47),.bin .add (.t 44) (.t 46),none⟩,
    ⟨(some 4),.mov (.t 47),none⟩]) <|
  .seq (.reg [⟨(some 48),.mov (.t 0),none⟩,
    ⟨(some 49),.mov (.t 1),none⟩,
    ⟨(some 50),.bin .mul (.t 48) (.t 49),none⟩,
    ⟨(some 5),.mov (.t 50),none⟩]) <|
  .ret,
  [.t 4,.t 5]⟩
theorem oW:cFn PP true kx ni (cDr PP 51 pw)=some kN:=by kernel_rfl
end Go.Am
namespace Go.Am
open Go Go.Proofs
def fsz0 (f:FuncId):Option av:=match f with
  | 8=>some lS
  | 15=>some s9
  | 17=>some sZ
  | 18=>some qo
  | 20=>some qn
  | 22=>some uP
  | 23=>some eK
  | 27=>some tm
  | 28=>some kQ
  | 30=>some m8
  | 44=>some qm
  | 47=>some m4
  | 48=>some qg
  | 49=>some lO
  | 50=>some lR
  | 51=>some oU
  | 52=>some dn
  | 55=>some mZ
  | 56=>some bG
  | 58=>some aY
  | 59=>some cX
  | 60=>some kM
  | 65=>some gF
  | 68=>some te
  | 71=>some qk
  | 72=>some qj
  | 73=>some tc
  | 74=>some ql
  | 75=>some lP
  | 76=>some tf
  | _=>none
theorem GN {f:FuncId}{F:av}(h:fsz0 f=some F):∃fz loops dr,cFn PP fz f loops dr=some F/\o7 PP F.nt dr:=by
  unfold fsz0 at h
  split at h
  · cases h;exact⟨_,_,_,pS,an _ _ _⟩
  · cases h;exact⟨_,_,_,vF,an _ _ _⟩
  · cases h;exact⟨_,_,_,vE,an _ _ _⟩
  · cases h;exact⟨_,_,_,ui,an _ _ _⟩
  · cases h;exact⟨_,_,_,uh,an _ _ _⟩
  · cases h;exact⟨_,_,_,xF,an _ _ _⟩
  · cases h;exact⟨_,_,_,jk,an _ _ _⟩
  · cases h;exact⟨_,_,_,vQ,an _ _ _⟩
  · cases h;exact⟨_,_,_,o4,an _ _ _⟩
  · cases h;exact⟨_,_,_,ru,an _ _ _⟩
  · cases h;exact⟨_,_,_,uf,an _ _ _⟩
  · cases h;exact⟨_,_,_,rf,an _ _ _⟩
  · cases h;exact⟨_,_,_,tZ,an _ _ _⟩
  · cases h;exact⟨_,_,_,pP,an _ _ _⟩
  · cases h;exact⟨_,_,_,pR,an _ _ _⟩
  · cases h;exact⟨_,_,_,th,an _ _ _⟩
  · cases h;exact⟨_,_,_,fW,an _ _ _⟩
  · cases h;exact⟨_,_,_,re,an _ _ _⟩
  · cases h;exact⟨_,_,_,du,an _ _ _⟩
  · cases h;exact⟨_,_,_,ck,an _ _ _⟩
  · cases h;exact⟨_,_,_,gJ,an _ _ _⟩
  · cases h;exact⟨_,_,_,oT,an _ _ _⟩
  · cases h;exact⟨_,_,_,ko,an _ _ _⟩
  · cases h;exact⟨_,_,_,vI,an _ _ _⟩
  · cases h;exact⟨_,_,_,ud,an _ _ _⟩
  · cases h;exact⟨_,_,_,uc,an _ _ _⟩
  · cases h;exact⟨_,_,_,vG,an _ _ _⟩
  · cases h;exact⟨_,_,_,ue,an _ _ _⟩
  · cases h;exact⟨_,_,_,pQ,an _ _ _⟩
  · cases h;exact⟨_,_,_,vK,an _ _ _⟩
  · cases h
def fsz1 (f:FuncId):Option av:=match f with
  | 77=>some uQ
  | 78=>some oR
  | 79=>some o5
  | 81=>some mY
  | 82=>some oQ
  | 83=>some b6
  | 84=>some bo
  | 87=>some dS
  | 88=>some m7
  | 89=>some qi
  | 90=>some na
  | 91=>some qp
  | 92=>some jX
  | 93=>some jj
  | 94=>some xM
  | 95=>some lN
  | 96=>some uT
  | 97=>some sY
  | 98=>some bk
  | 99=>some kL
  | 100=>some cB
  | 109=>some kO
  | 110=>some qh
  | 111=>some xI
  | 112=>some m9
  | 113=>some uS
  | 114=>some eP
  | 115=>some xK
  | 116=>some bt
  | 122=>some oZ
  | _=>none
theorem GM {f:FuncId}{F:av}(h:fsz1 f=some F):∃fz loops dr,cFn PP fz f loops dr=some F/\o7 PP F.nt dr:=by
  unfold fsz1 at h
  split at h
  · cases h;exact⟨_,_,_,xG,an _ _ _⟩
  · cases h;exact⟨_,_,_,s8,an _ _ _⟩
  · cases h;exact⟨_,_,_,tp,an _ _ _⟩
  · cases h;exact⟨_,_,_,ra,an _ _ _⟩
  · cases h;exact⟨_,_,_,sX,an _ _ _⟩
  · cases h;exact⟨_,_,_,eh,an _ _ _⟩
  · cases h;exact⟨_,_,_,cM,an _ _ _⟩
  · cases h;exact⟨_,_,_,ij,an _ _ _⟩
  · cases h;exact⟨_,_,_,rj,an _ _ _⟩
  · cases h;exact⟨_,_,_,ub,an _ _ _⟩
  · cases h;exact⟨_,_,_,rD,an _ _ _⟩
  · cases h;exact⟨_,_,_,uj,an _ _ _⟩
  · cases h;exact⟨_,_,_,ny,an _ _ _⟩
  · cases h;exact⟨_,_,_,mz,an _ _ _⟩
  · cases h;exact⟨_,_,_,x5,an _ _ _⟩
  · cases h;exact⟨_,_,_,pO,an _ _ _⟩
  · cases h;exact⟨_,_,_,xL,an _ _ _⟩
  · cases h;exact⟨_,_,_,vD,an _ _ _⟩
  · cases h;exact⟨_,_,_,cq,an _ _ _⟩
  · cases h;exact⟨_,_,_,oP,an _ _ _⟩
  · cases h;exact⟨_,_,_,eZ,an _ _ _⟩
  · cases h;exact⟨_,_,_,oX,an _ _ _⟩
  · cases h;exact⟨_,_,_,ua,an _ _ _⟩
  · cases h;exact⟨_,_,_,x3,an _ _ _⟩
  · cases h;exact⟨_,_,_,rC,an _ _ _⟩
  · cases h;exact⟨_,_,_,xJ,an _ _ _⟩
  · cases h;exact⟨_,_,_,ja,an _ _ _⟩
  · cases h;exact⟨_,_,_,x4,an _ _ _⟩
  · cases h;exact⟨_,_,_,cC,an _ _ _⟩
  · cases h;exact⟨_,_,_,ti,an _ _ _⟩
  · cases h
def fsz2 (f:FuncId):Option av:=match f with
  | 123=>some uR
  | 124=>some kd
  | 125=>some fu
  | 126=>some lT
  | 127=>some o0
  | 129=>some kP
  | 130=>some eO
  | 131=>some m6
  | 133=>some kN
  | _=>none
theorem GL {f:FuncId}{F:av}(h:fsz2 f=some F):∃fz loops dr,cFn PP fz f loops dr=some F/\o7 PP F.nt dr:=by
  unfold fsz2 at h
  split at h
  · cases h;exact⟨_,_,_,xH,an _ _ _⟩
  · cases h;exact⟨_,_,_,nG,an _ _ _⟩
  · cases h;exact⟨_,_,_,jz,an _ _ _⟩
  · cases h;exact⟨_,_,_,pT,an _ _ _⟩
  · cases h;exact⟨_,_,_,tk,an _ _ _⟩
  · cases h;exact⟨_,_,_,oY,an _ _ _⟩
  · cases h;exact⟨_,_,_,iZ,an _ _ _⟩
  · cases h;exact⟨_,_,_,rh,an _ _ _⟩
  · cases h;exact⟨_,_,_,oW,an _ _ _⟩
  · cases h
def fsz (f:FuncId):Option av:=match fsz0 f with
  | some F=>some F
  | none=>match fsz1 f with
  | some F=>some F
  | none=>match fsz2 f with
  | some F=>some F
  | none=>none
theorem IK {f:FuncId}{F:av}(h:fsz f=some F):∃fz loops dr,cFn PP fz f loops dr=some F/\o7 PP F.nt dr:=by
  unfold fsz at h
  split at h
  · rename_i h1;cases h;exact GN h1
  split at h
  · rename_i h1;cases h;exact GM h1
  split at h
  · rename_i h1;cases h;exact GL h1
  cases h
theorem HD:∀f F,fsz f=some F->∀ds K h,F3 PP F ds K h->ae PP f ds h K:=by
  intro f F hf ds K h hv
  obtain⟨fz,loops,dr,h1,h2⟩:=IK hf
  exact xx h1 h2 hv
end Go.Am
