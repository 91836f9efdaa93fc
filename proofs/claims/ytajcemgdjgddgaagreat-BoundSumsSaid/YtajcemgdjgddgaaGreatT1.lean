/- The texts of the functions of this chapter, as the abstract machine has them. No condition. -/
import Derived.Test.YtajcemgdjgddgaaGreatProg
import Derived.KernelRfl
import Derived.Test.YtajcemgdjgddgaaGreatA3
set_option linter.unnecessarySimpa false
set_option linter.defProp false
set_option linter.unusedSectionVars false
set_option linter.unusedSimpArgs false
set_option linter.unusedVariables false
namespace Go.Am
open Go Go.Proofs
noncomputable abbrev PP:Program:=Tryz.prog
abbrev gg:FuncId:=3
abbrev il:FuncId:=4
abbrev kh:FuncId:=5
abbrev bL:FuncId:=6
abbrev dh:FuncId:=7
abbrev eY:FuncId:=8
abbrev dk:FuncId:=9
abbrev ki:FuncId:=10
abbrev bw:FuncId:=11
abbrev ei:FuncId:=12
abbrev ah:FuncId:=13
abbrev gd:FuncId:=14
abbrev bN:FuncId:=15
abbrev bG:FuncId:=16
abbrev aP:FuncId:=17
abbrev aJ:FuncId:=18
abbrev aG:FuncId:=19
abbrev bl:FuncId:=20
abbrev eS:FuncId:=21
abbrev kg:FuncId:=22
abbrev q9:FuncId:=23
abbrev oC:FuncId:=24
abbrev lJ:FuncId:=25
abbrev tD:FuncId:=26
abbrev iq:FuncId:=27
abbrev dF:FuncId:=28
abbrev eJ:FuncId:=29
abbrev oD:FuncId:=30
abbrev rh:FuncId:=31
abbrev aB:FuncId:=32
abbrev bO:FuncId:=33
abbrev cb:FuncId:=34
abbrev de:FuncId:=35
abbrev du:FuncId:=36
abbrev tF:FuncId:=37
abbrev bc:FuncId:=38
abbrev dS:FuncId:=39
abbrev bM:FuncId:=40
abbrev wv:FuncId:=41
abbrev aV:FuncId:=42
abbrev BY:FuncId:=43
abbrev zw:FuncId:=44
abbrev iR:FuncId:=45
abbrev kJ:FuncId:=46
abbrev pB:FuncId:=47
abbrev eK:FuncId:=48
abbrev eL:FuncId:=49
abbrev dX:FuncId:=50
abbrev bk:FuncId:=51
abbrev rf:FuncId:=52
abbrev bZ:FuncId:=53
abbrev tK:FuncId:=54
abbrev pw:FuncId:=55
abbrev mV:FuncId:=56
abbrev jo:FuncId:=57
abbrev bH:FuncId:=58
abbrev ik:FuncId:=59
abbrev qV:FuncId:=60
abbrev eD:FuncId:=61
abbrev pA:FuncId:=62
abbrev gh:FuncId:=63
abbrev lL:FuncId:=64
abbrev jq:FuncId:=65
abbrev tL:FuncId:=66
abbrev gP:FuncId:=67
abbrev zv:FuncId:=68
abbrev dj:FuncId:=69
abbrev rb:FuncId:=70
abbrev uP:FuncId:=71
abbrev re:FuncId:=72
abbrev iS:FuncId:=73
abbrev gi:FuncId:=74
abbrev pC:FuncId:=75
abbrev fx:FuncId:=76
abbrev dJ:FuncId:=77
abbrev qZ:FuncId:=78
abbrev wi:FuncId:=79
abbrev gO:FuncId:=80
abbrev wj:FuncId:=81
abbrev iy:FuncId:=82
abbrev ij:FuncId:=83
abbrev ej:FuncId:=84
abbrev lH:FuncId:=85
abbrev dU:FuncId:=86
abbrev ba:FuncId:=87
abbrev aK:FuncId:=88
abbrev dT:FuncId:=89
abbrev bA:FuncId:=90
abbrev iO:FuncId:=91
abbrev gM:FuncId:=92
abbrev oy:FuncId:=93
abbrev iN:FuncId:=94
abbrev dE:FuncId:=95
abbrev bC:FuncId:=96
abbrev mU:FuncId:=97
abbrev wu:FuncId:=98
abbrev lI:FuncId:=99
abbrev lK:FuncId:=100
abbrev cn:FuncId:=101
abbrev kH:FuncId:=102
abbrev im:FuncId:=103
abbrev ra:FuncId:=104
abbrev bY:FuncId:=105
abbrev uO:FuncId:=106
abbrev bq:FuncId:=107
abbrev fw:FuncId:=108
abbrev kI:FuncId:=109
abbrev fY:FuncId:=110
abbrev ga:FuncId:=111
abbrev fW:FuncId:=112
abbrev fX:FuncId:=113
abbrev eR:FuncId:=114
abbrev cO:FuncId:=115
abbrev bo:FuncId:=116
abbrev fU:FuncId:=117
abbrev dB:FuncId:=118
abbrev qX:FuncId:=119
abbrev dC:FuncId:=120
abbrev aN:FuncId:=121
abbrev aD:FuncId:=122
abbrev bm:FuncId:=123
abbrev b6:FuncId:=124
abbrev dV:FuncId:=125
abbrev aM:FuncId:=126
abbrev aL:FuncId:=127
abbrev av:FuncId:=128
abbrev qW:FuncId:=129
abbrev uN:FuncId:=130
abbrev bP:FuncId:=131
abbrev aY:FuncId:=132
abbrev fe:FuncId:=133
abbrev cv:FuncId:=134
abbrev cN:FuncId:=135
abbrev qU:FuncId:=136
abbrev qT:FuncId:=137
abbrev dK:FuncId:=138
abbrev Eb:FuncId:=139
abbrev tE:FuncId:=140
abbrev mX:FuncId:=141
abbrev dA:FuncId:=142
abbrev iM:FuncId:=143
abbrev qS:FuncId:=144
abbrev fT:FuncId:=145
abbrev bJ:FuncId:=146
abbrev bD:FuncId:=147
abbrev kj:FuncId:=148
abbrev zt:FuncId:=149
abbrev kG:FuncId:=150
abbrev zu:FuncId:=151
abbrev iz:FuncId:=152
abbrev fV:FuncId:=153
abbrev fZ:FuncId:=154
abbrev ff:FuncId:=155
abbrev oA:FuncId:=156
abbrev dg:FuncId:=157
abbrev tG:FuncId:=158
abbrev tI:FuncId:=159
abbrev iP:FuncId:=160
abbrev aH:FuncId:=161
abbrev gf:FuncId:=162
abbrev eo:FuncId:=163
abbrev tJ:FuncId:=164
abbrev wh:FuncId:=165
abbrev eX:FuncId:=166
abbrev dW:FuncId:=167
abbrev yl:FuncId:=168
abbrev cM:FuncId:=169
abbrev mW:FuncId:=170
abbrev cc:FuncId:=171
abbrev tH:FuncId:=172
abbrev oz:FuncId:=173
abbrev kF:FuncId:=174
abbrev gN:FuncId:=175
abbrev jE:FuncId:=176
abbrev qY:FuncId:=177
abbrev iQ:FuncId:=178
abbrev cF:FuncId:=179
abbrev sW:FuncId:=180
abbrev Ao:FuncId:=181
abbrev pz:FuncId:=182
abbrev wq:FuncId:=183
abbrev De:FuncId:=184
abbrev q8:FuncId:=185
abbrev ma:FuncId:=186
abbrev Ec:FuncId:=187
abbrev wo:FuncId:=188
def gW:Option af->ACode
  | some F=>F.code
  | none=>.skip
end Go.Am
namespace Go.Am
open Go Go.Proofs
def gV:Nat->Option (List Nat×List Nat)
  | 1000024=>some ([7,8,9,10,11],[])|9=>some ([1,2,7,8,9,10,11],[12])|1000014=>some ([1,2,7,8,9,10,11,12],[])|1000017=>some ([1,2,7,8,9,10,11,12],[])|_=>none
def jD:Nat->Option (List Nat×List Nat×List Nat)
  | 15=>some ([0,0,3,7,0,0,0,64,224,496,1008,2032,4095,8191,16383],[14],[])|18=>some ([0,0,0,6,15,0,63],[3,4,5,6],[999998,2])|23=>some ([0,0,0,6,15,0,63],[3,4,5,6],[999998,2])|24=>some ([0,0,0,6,15,0,63],[3,4,5,6],[999998,2])|_=>none
noncomputable def gE:af:=⟨174,gW (cFn PP true gg gV (cDr PP 174 jD)),
  [.t 6]⟩
theorem sy:cFn PP true gg gV (cDr PP 174 jD)=some gE:=by kernel_rfl
def rC:Nat->Option (List Nat×List Nat)
  | _=>none
def uE:Nat->Option (List Nat×List Nat×List Nat)
  | _=>none
def nS:af:=⟨79,
  .seq (.reg [⟨(some 0),.mov (.c (.bool false)),none⟩]) <|
  .seq (.reg [⟨(some 8),.call eY [],none⟩,
    ⟨(some 1),.alloc (.agg [(.int .i64 0),(.int .i64 0),(.int .i64 0),(.int .i64 0),(.int .i64 0),.nil,.nil,.nil]),none⟩,
    ⟨none,.st (.t 1) (.t 8) 8,none⟩]) <|
  .seq (.reg [⟨(some 10),.ld (.t 1) 8 true,none⟩,
    ⟨(some 11),.call dk [(.t 10)],none⟩,
    ⟨(some 9),.mov (.t 11),none⟩,
    ⟨(some 12),.ext (.t 9) 0,none⟩,
    ⟨(some 13),.ext (.t 9) 1,none⟩,
    ⟨(some 2),.alloc (.agg [.nil,(.int .i64 0),(.int .i64 0)]),none⟩,
    ⟨none,.st (.t 2) (.t 12) 3,none⟩,
    ⟨(some 3),.mov (.t 13),none⟩]) <|
  .seq (.reg [⟨(some 14),.ld (.t 1) 8 true,none⟩,
    ⟨(some 15),.call ki [(.t 14)],none⟩,
    ⟨(some 4),.alloc (.agg [(.int .i64 0),(.int .i64 0),(.int .i64 0),(.int .i64 0),(.int .i64 0),.nil,.nil,.nil]),none⟩,
    ⟨none,.st (.t 4) (.t 15) 8,none⟩]) <|
  .seq (.reg [⟨(some 16),.fadd (.t 4) 6,none⟩,
    ⟨none,.st (.t 16) (.c .nil) 1,none⟩]) <|
  .seq (.reg [⟨(some 18),.ld (.t 4) 8 true,none⟩,
    ⟨(some 19),.call dk [(.t 18)],none⟩,
    ⟨(some 17),.mov (.t 19),none⟩,
    ⟨(some 20),.ext (.t 17) 0,none⟩,
    ⟨(some 21),.ext (.t 17) 1,none⟩,
    ⟨(some 5),.alloc (.agg [.nil,(.int .i64 0),(.int .i64 0)]),none⟩,
    ⟨none,.st (.t 5) (.t 20) 3,none⟩,
    ⟨(some 6),.mov (.t 21),none⟩]) <|
  .seq (.seq (.reg [⟨(some 22),.mov (.t 3),none⟩,
    ⟨(some 23),.bin .neq (.t 22) (.c (.int .i64 0)),none⟩,
    ⟨(some 24),.mov (.t 23),none⟩,
    ⟨(some 25),.mov (.t 6),some (24,false)⟩,
    ⟨(some 26),.bin .neq (.t 25) (.c (.int .i64 120)),some (24,false)⟩,
    ⟨(some 27),.pick (.t 24) (.c (.bool true)) (.t 26),none⟩,
    ⟨(some 28),.mov (.t 27),none⟩,
    ⟨(some 29),.ld (.t 1) 8 true,some (28,false)⟩,
    ⟨(some 30),.ld (.t 2) 3 true,some (28,false)⟩,
    ⟨(some 31),.call bw [(.t 29),(.t 30)],some (28,false)⟩,
    ⟨(some 32),.bin .neq (.t 31) (.c (.int .i64 0)),some (28,false)⟩,
    ⟨(some 33),.pick (.t 28) (.c (.bool true)) (.t 32),none⟩,
    ⟨(some 34),.mov (.t 33),none⟩,
    ⟨(some 35),.ld (.t 4) 8 true,some (34,false)⟩,
    ⟨(some 36),.ld (.t 2) 3 true,some (34,false)⟩,
    ⟨(some 37),.call bw [(.t 35),(.t 36)],some (34,false)⟩,
    ⟨(some 38),.bin .neq (.t 37) (.c (.int .i64 100)),some (34,false)⟩,
    ⟨(some 39),.pick (.t 34) (.c (.bool true)) (.t 38),none⟩,
    ⟨(some 40),.mov (.t 39),none⟩,
    ⟨(some 41),.ld (.t 1) 8 true,some (40,false)⟩,
    ⟨(some 42),.bld [.nil,(.int .i64 0),(.int .i64 0)] [],some (40,false)⟩,
    ⟨(some 43),.call bw [(.t 41),(.t 42)],some (40,false)⟩,
    ⟨(some 44),.bin .neq (.t 43) (.c (.int .i64 100)),some (40,false)⟩,
    ⟨(some 45),.pick (.t 40) (.c (.bool true)) (.t 44),none⟩]) <|
  .cond (.t 45) (.seq (.reg [⟨(some 0),.mov (.c (.bool false)),none⟩]) <|
  .ret) (.skip)) <|
  .seq (.reg [⟨(some 46),.ld (.t 1) 8 true,none⟩,
    ⟨(some 47),.ld (.t 2) 3 true,none⟩,
    ⟨(some 48),.call bL [(.t 46),(.t 47)],none⟩,
    ⟨(some 7),.alloc (.agg [(.int .i64 0),(.int .i64 0),(.int .i64 0),(.int .i64 0)]),none⟩,
    ⟨none,.st (.t 7) (.t 48) 4,none⟩]) <|
  .seq (.reg [⟨(some 49),.fadd (.t 2) 0,none⟩,
    ⟨(some 50),.ld (.t 49) 1 false,none⟩,
    ⟨(some 51),.bldS true 1 5 (.int .i64 0) [(0,(.c (.int .i64 1))),(1,(.c (.int .i64 8))),(2,(.c (.int .i64 7))),(3,(.c (.int .i64 7))),(4,(.c (.int .i64 1)))],none⟩,
    ⟨(some 52),.call ei [(.t 50),(.t 51)],none⟩,
    ⟨(some 53),.mov (.t 52),none⟩,
    ⟨(some 54),.fadd (.t 2) 2,some (53,true)⟩,
    ⟨(some 55),.ld (.t 54) 1 false,some (53,true)⟩,
    ⟨(some 56),.bin .eql (.t 55) (.c (.int .i64 0)),some (53,true)⟩,
    ⟨(some 57),.pick (.t 53) (.t 56) (.c (.bool false)),none⟩,
    ⟨(some 58),.mov (.t 57),none⟩,
    ⟨(some 59),.fadd (.t 7) 0,some (58,true)⟩,
    ⟨(some 60),.ld (.t 59) 1 false,some (58,true)⟩,
    ⟨(some 61),.fadd (.t 2) 1,some (58,true)⟩,
    ⟨(some 62),.ld (.t 61) 1 false,some (58,true)⟩,
    ⟨(some 63),.bin .mul (.c (.int .i64 4)) (.t 62),some (58,true)⟩,
    ⟨(some 64),.bin .eql (.t 60) (.t 63),some (58,true)⟩,
    ⟨(some 65),.pick (.t 58) (.t 64) (.c (.bool false)),none⟩,
    ⟨(some 66),.mov (.t 65),none⟩,
    ⟨(some 67),.fadd (.t 7) 3,some (66,true)⟩,
    ⟨(some 68),.ld (.t 67) 1 false,some (66,true)⟩,
    ⟨(some 69),.fadd (.t 2) 1,some (66,true)⟩,
    ⟨(some 70),.ld (.t 69) 1 false,some (66,true)⟩,
    ⟨(some 71),.bin .mul (.c (.int .i64 12)) (.t 70),some (66,true)⟩,
    ⟨(some 72),.bin .eql (.t 68) (.t 71),some (66,true)⟩,
    ⟨(some 73),.pick (.t 66) (.t 72) (.c (.bool false)),none⟩,
    ⟨(some 74),.mov (.t 73),none⟩,
    ⟨(some 75),.fadd (.t 7) 2,some (74,true)⟩,
    ⟨(some 76),.ld (.t 75) 1 false,some (74,true)⟩,
    ⟨(some 77),.bin .eql (.t 76) (.c (.int .i64 0)),some (74,true)⟩,
    ⟨(some 78),.pick (.t 74) (.t 77) (.c (.bool false)),none⟩,
    ⟨(some 0),.mov (.t 78),none⟩]) <|
  .ret,
  [.t 0]⟩
theorem tp:cFn PP true il rC (cDr PP 79 uE)=some nS:=by kernel_rfl
def m6:Nat->Option (List Nat×List Nat)
  | 1000008=>some ([2,3],[])|4=>some ([2,3],[4])|1000019=>some ([2,3],[])|8=>some ([2,3],[5])|1000010=>some ([2,3,5],[])|1000015=>some ([2,3,5],[])|1000024=>some ([2,3],[])|_=>none
def qC:Nat->Option (List Nat×List Nat×List Nat)
  | 2=>some ([0,0,0,4,12,30,62,12,254,511,1023,2047],[3,11],[999999])|4=>some ([0,1,3,7,15,31,63,127,7,263,775,1799,3847,7943,16383,32767,65535],[],[])|17=>some ([0,1,3,7,15,0,0,64,192,448,0,1216,0,7360,0,31936,0,65536,196608,524224,1048575,2097151,4194303],[7,11,13,15,22],[999999])|23=>some ([0,1,3,7,15,0,32,96,224,480,992,2016,0,8191,16383,32767],[15],[])|_=>none
noncomputable def pb:af:=⟨153,gW (cFn PP true kh m6 (cDr PP 153 qC)),
  [.cell 2 8 true]⟩
theorem AJ:cFn PP true kh m6 (cDr PP 153 qC)=some pb:=by kernel_rfl
def wS:Nat->Option (List Nat×List Nat)
  | 1000011=>some ([2,4,5],[])|3=>some ([2,4,5,10,11],[12])|_=>none
def Aj:Nat->Option (List Nat×List Nat×List Nat)
  | _=>none
def iE:af:=⟨63,
  .seq (.reg [⟨(some 2),.box (.t 0),none⟩,
    ⟨(some 3),.box (.t 1),none⟩,
    ⟨(some 4),.alloc (.agg [(.int .i64 0),(.int .i64 0),(.int .i64 0),(.int .i64 0)]),none⟩]) <|
  .seq (.reg [⟨(some 5),.alloc (.agg [(.int .i64 0),(.int .i64 0),(.int .i64 0),(.int .i64 0)]),none⟩]) <|
  .seqj [2,4,5] [] (.seq (.reg [⟨(some 9),.fadd (.t 3) 0,none⟩,
    ⟨(some 10),.ld (.t 9) 1 false,none⟩,
    ⟨(some 11),.len (.t 10),none⟩,
    ⟨(some 12),.mov (.c (.int .i64 0)),none⟩]) <|
  .block 0 (.loop [2,4,5,10,11] [12] (.seq (.reg [⟨(some 13),.bin .lss (.t 12) (.t 11),none⟩]) <|
  .seq (.cond (.t 13) (.skip) (.exit 0)) <|
  .seq (.block 1 (.seq (.reg [⟨(some 14),.mov (.t 12),none⟩,
    ⟨(some 15),.iadd (.t 10) (.t 12) 1,none⟩,
    ⟨(some 16),.ld (.t 15) 1 false,none⟩,
    ⟨(some 6),.mov (.t 14),none⟩,
    ⟨(some 7),.mov (.t 16),none⟩]) <|
  .seq (.reg [⟨(some 17),.ld (.t 2) 8 true,none⟩,
    ⟨(some 18),.mov (.t 6),none⟩,
    ⟨(some 19),.call eS [(.t 17),(.t 18)],none⟩,
    ⟨(some 8),.alloc (.agg [(.int .i64 0),(.int .i64 0),(.int .i64 0)]),none⟩,
    ⟨none,.st (.t 8) (.t 19) 3,none⟩]) <|
  .seq (.reg [⟨(some 20),.fadd (.t 5) 0,none⟩,
    ⟨(some 21),.ld (.t 20) 1 false,none⟩,
    ⟨(some 22),.fadd (.t 2) 0,none⟩,
    ⟨(some 23),.ld (.t 22) 1 false,none⟩,
    ⟨(some 24),.mov (.t 7),none⟩,
    ⟨(some 25),.bin .mul (.t 23) (.t 24),none⟩,
    ⟨(some 26),.fadd (.t 8) 0,none⟩,
    ⟨(some 27),.ld (.t 26) 1 false,none⟩,
    ⟨(some 28),.bin .add (.t 27) (.c (.int .i64 1)),none⟩,
    ⟨(some 29),.bin .mul (.t 25) (.t 28),none⟩,
    ⟨(some 30),.bin .add (.t 21) (.t 29),none⟩,
    ⟨(some 31),.fadd (.t 5) 0,none⟩,
    ⟨none,.st (.t 31) (.t 30) 1,none⟩]) <|
  .seq (.reg [⟨(some 32),.fadd (.t 5) 1,none⟩,
    ⟨(some 33),.ld (.t 32) 1 false,none⟩,
    ⟨(some 34),.fadd (.t 2) 0,none⟩,
    ⟨(some 35),.ld (.t 34) 1 false,none⟩,
    ⟨(some 36),.mov (.t 7),none⟩,
    ⟨(some 37),.bin .mul (.t 35) (.t 36),none⟩,
    ⟨(some 38),.fadd (.t 8) 0,none⟩,
    ⟨(some 39),.ld (.t 38) 1 false,none⟩,
    ⟨(some 40),.bin .mul (.t 37) (.t 39),none⟩,
    ⟨(some 41),.bin .add (.t 33) (.t 40),none⟩,
    ⟨(some 42),.fadd (.t 5) 1,none⟩,
    ⟨none,.st (.t 42) (.t 41) 1,none⟩]) <|
  .reg [⟨(some 43),.fadd (.t 5) 2,none⟩,
    ⟨(some 44),.ld (.t 43) 1 false,none⟩,
    ⟨(some 45),.fadd (.t 2) 0,none⟩,
    ⟨(some 46),.ld (.t 45) 1 false,none⟩,
    ⟨(some 47),.mov (.t 7),none⟩,
    ⟨(some 48),.bin .mul (.t 46) (.t 47),none⟩,
    ⟨(some 49),.fadd (.t 8) 2,none⟩,
    ⟨(some 50),.ld (.t 49) 1 false,none⟩,
    ⟨(some 51),.bin .mul (.t 48) (.t 50),none⟩,
    ⟨(some 52),.bin .add (.t 44) (.t 51),none⟩,
    ⟨(some 53),.fadd (.t 5) 2,none⟩,
    ⟨none,.st (.t 53) (.t 52) 1,none⟩])) <|
  .reg [⟨(some 54),.bin .add (.t 12) (.c (.int .i64 1)),none⟩,
    ⟨(some 12),.mov (.t 54),none⟩]))) <|
  .seq (.reg [⟨(some 55),.fadd (.t 2) 0,none⟩,
    ⟨(some 56),.ld (.t 55) 1 false,none⟩,
    ⟨(some 57),.bin .sub (.t 56) (.c (.int .i64 1)),none⟩,
    ⟨(some 58),.fadd (.t 5) 0,none⟩,
    ⟨(some 59),.ld (.t 58) 1 false,none⟩,
    ⟨(some 60),.bin .mul (.t 57) (.t 59),none⟩,
    ⟨(some 61),.fadd (.t 5) 3,none⟩,
    ⟨none,.st (.t 61) (.t 60) 1,none⟩]) <|
  .seq (.reg [⟨(some 62),.ld (.t 5) 4 true,none⟩,
    ⟨none,.st (.t 4) (.t 62) 4,none⟩]) <|
  .ret,
  [.cell 4 4 true]⟩
theorem nY:cFn PP true bL wS (cDr PP 63 Aj)=some iE:=by kernel_rfl
def ny (h36:Heap) (a37:D) (a35:D) (a3:D) (a9:D) (a7:D) (J11:List D->Heap->Prop):Prop :=
  ∃(I38:Nat->List D->Heap->Prop) (n₀:Nat),I38 n₀ [(.int .i64 0)] h36/\∀(n39:Nat) (f40:Nat->D) (h41:Heap),I38 n39 [f40 12] h41 ->
  vbin .lss (f40 12) a37 fun a42 =>
  vcond a42 (aa PP (.iadd (.c a35) (.c (f40 12)) 1) h41 fun a43 h44 =>
  aa PP (.ld (.c a43) 1 false) h44 fun a45 h46 =>
  aa PP (.ld (.c a3) 8 true) h46 fun a47 h48 =>
  ai PP eS [a47,(f40 12)] h48 fun a49 h50 =>
  aa PP (.alloc (.agg [(.int .i64 0),(.int .i64 0),(.int .i64 0)])) h50 fun a51 h52 =>
  aa PP (.st (.c a51) (.c a49) 3) h52 fun a53 h54 =>
  aa PP (.fadd (.c a9) 0) h54 fun a55 h56 =>
  aa PP (.ld (.c a55) 1 false) h56 fun a57 h58 =>
  aa PP (.fadd (.c a3) 0) h58 fun a59 h60 =>
  aa PP (.ld (.c a59) 1 false) h60 fun a61 h62 =>
  vbin .mul a61 a45 fun a63 =>
  aa PP (.fadd (.c a51) 0) h62 fun a64 h65 =>
  aa PP (.ld (.c a64) 1 false) h65 fun a66 h67 =>
  vbin .add a66 (.int .i64 1) fun a68 =>
  vbin .mul a63 a68 fun a69 =>
  vbin .add a57 a69 fun a70 =>
  aa PP (.fadd (.c a9) 0) h67 fun a71 h72 =>
  aa PP (.st (.c a71) (.c a70) 1) h72 fun a73 h74 =>
  aa PP (.fadd (.c a9) 1) h74 fun a75 h76 =>
  aa PP (.ld (.c a75) 1 false) h76 fun a77 h78 =>
  aa PP (.fadd (.c a3) 0) h78 fun a79 h80 =>
  aa PP (.ld (.c a79) 1 false) h80 fun a81 h82 =>
  vbin .mul a81 a45 fun a83 =>
  aa PP (.fadd (.c a51) 0) h82 fun a84 h85 =>
  aa PP (.ld (.c a84) 1 false) h85 fun a86 h87 =>
  vbin .mul a83 a86 fun a88 =>
  vbin .add a77 a88 fun a89 =>
  aa PP (.fadd (.c a9) 1) h87 fun a90 h91 =>
  aa PP (.st (.c a90) (.c a89) 1) h91 fun a92 h93 =>
  aa PP (.fadd (.c a9) 2) h93 fun a94 h95 =>
  aa PP (.ld (.c a94) 1 false) h95 fun a96 h97 =>
  aa PP (.fadd (.c a3) 0) h97 fun a98 h99 =>
  aa PP (.ld (.c a98) 1 false) h99 fun a100 h101 =>
  vbin .mul a100 a45 fun a102 =>
  aa PP (.fadd (.c a51) 2) h101 fun a103 h104 =>
  aa PP (.ld (.c a103) 1 false) h104 fun a105 h106 =>
  vbin .mul a102 a105 fun a107 =>
  vbin .add a96 a107 fun a108 =>
  aa PP (.fadd (.c a9) 2) h106 fun a109 h110 =>
  aa PP (.st (.c a109) (.c a108) 1) h110 fun a111 h112 =>
  vbin .add (f40 12) (.int .i64 1) fun a113 =>
  bR [a3,a7,a9,a35,a37] [a3,a7,a9,a35,a37]/\∃m,m<n39/\I38 m [a113] h112) (
  bR [a3,a7,a9] [a3,a7,a9]/\J11 [] h41)
def tX (a0:D) (a1:D) (h0:Heap) (K:D->Heap->Prop):Prop :=
  aa PP (.box (.c a0)) h0 fun a3 h4 =>
  aa PP (.box (.c a1)) h4 fun a5 h6 =>
  aa PP (.alloc (.agg [(.int .i64 0),(.int .i64 0),(.int .i64 0),(.int .i64 0)])) h6 fun a7 h8 =>
  aa PP (.alloc (.agg [(.int .i64 0),(.int .i64 0),(.int .i64 0),(.int .i64 0)])) h8 fun a9 h10 =>
  ∃(J11:List D->Heap->Prop),(∀(f12:Nat->D) (h13:Heap),J11 [] h13 ->
  aa PP (.fadd (.c a3) 0) h13 fun a14 h15 =>
  aa PP (.ld (.c a14) 1 false) h15 fun a16 h17 =>
  vbin .sub a16 (.int .i64 1) fun a18 =>
  aa PP (.fadd (.c a9) 0) h17 fun a19 h20 =>
  aa PP (.ld (.c a19) 1 false) h20 fun a21 h22 =>
  vbin .mul a18 a21 fun a23 =>
  aa PP (.fadd (.c a9) 3) h22 fun a24 h25 =>
  aa PP (.st (.c a24) (.c a23) 1) h25 fun a26 h27 =>
  aa PP (.ld (.c a9) 4 true) h27 fun a28 h29 =>
  aa PP (.st (.c a7) (.c a28) 4) h29 fun a30 h31 =>
  aa PP (.ld (.c a7) 4 true) h31 fun a32 _ =>
  K a32 h31) /\
  aa PP (.fadd (.c a5) 0) h10 fun a33 h34 =>
  aa PP (.ld (.c a33) 1 false) h34 fun a35 h36 =>
  cJ a35 h36 fun a37 =>
  ny h36 a37 a35 a3 a9 a7 J11
theorem yR (a0:D) (a1:D) (h0:Heap) (K:D->Heap->Prop):tX a0 a1 h0 K=vcC PP iE.code (fun x e h'=>match x with|.exit _=>False|.pan=>False|.jump _=>False|_=>cY PP iE.res K e h') (params [a0,a1] 0) h0:=by kernel_rfl
def ni:Nat->Option (List Nat×List Nat)
  | _=>none
def qF:Nat->Option (List Nat×List Nat×List Nat)
  | _=>none
noncomputable def pk:af:=⟨15,gW (cFn PP true dh ni (cDr PP 15 qF)),
  [.cell 4 3 true]⟩
theorem A0:cFn PP true dh ni (cDr PP 15 qF)=some pk:=by kernel_rfl
def xc (a0:D) (a1:D) (h0:Heap) (K:D->Heap->Prop):Prop :=
  aa PP (.box (.c a0)) h0 fun a3 h4 =>
  aa PP (.alloc (.agg [.nil,(.int .i64 0),(.int .i64 0)])) h4 fun a5 h6 =>
  aa PP (.ld (.c a3) 8 true) h6 fun a7 h8 =>
  ai PP kg [a7,a1] h8 fun a9 h10 =>
  aa PP (.alloc (.agg [(.int .i64 0),(.int .i64 0),(.int .i64 0),(.int .i64 0)])) h10 fun a11 h12 =>
  aa PP (.st (.c a11) (.c a9) 4) h12 fun a13 h14 =>
  aa PP (.iadda (.c a11) (.c (.int .i64 0)) 4 1) h14 fun a15 h16 =>
  aa PP (.ld (.c a15) 1 false) h16 fun a17 h18 =>
  aa PP (.iadda (.c a11) (.c (.int .i64 2)) 4 1) h18 fun a19 h20 =>
  aa PP (.ld (.c a19) 1 false) h20 fun a21 h22 =>
  aa PP (.bld [.nil,(.int .i64 0),(.int .i64 0)] [(0,1,(.c a1)),(1,1,(.c a17)),(2,1,(.c a21))]) h22 fun a23 h24 =>
  aa PP (.st (.c a5) (.c a23) 3) h24 fun a25 h26 =>
  aa PP (.ld (.c a5) 3 true) h26 fun a27 _ =>
  K a27 h26
theorem AH (a0:D) (a1:D) (h0:Heap) (K:D->Heap->Prop):xc a0 a1 h0 K=vcC PP pk.code (fun x e h'=>match x with|.exit _=>False|.pan=>False|.jump _=>False|_=>cY PP pk.res K e h') (params [a0,a1] 0) h0:=by kernel_rfl
def s9:Nat->Option (List Nat×List Nat)
  | _=>none
def vW:Nat->Option (List Nat×List Nat×List Nat)
  | 2=>some ([0,1,1,5,13,0,32,125,255,511],[],[])|_=>none
def pO:af:=⟨20,
  .seq (.reg [⟨(some 0),.alloc (.agg [(.int .i64 0),(.int .i64 0),(.int .i64 0),(.int .i64 0),(.int .i64 0),.nil,.nil,.nil]),none⟩]) <|
  .seq (.reg [⟨(some 3),.call oC [(.c (.str ⟨#[120]⟩))],none⟩,
    ⟨(some 4),.call lJ [(.c (.int .i32 1))],none⟩,
    ⟨(some 5),.call q9 [(.c (.int .i64 10)),(.t 3),(.t 4)],none⟩,
    ⟨(some 6),.bld [(.int .i64 0),(.int .i64 0),(.int .i64 0),(.int .i64 0),(.str ⟨#[]⟩),(.int .i64 0),(.int .i64 0),(.int .i64 0),(.str ⟨#[]⟩),(.int .i32 0),.nil,(.int .i64 0),(.int .i64 0),(.int .i64 0),(.str ⟨#[]⟩),(.int .i32 0),.nil,.nil,.nil] [(0,1,(.c (.int .i64 2))),(4,1,(.c (.str ⟨#[120]⟩))),(5,6,(.t 5))],none⟩,
    ⟨(some 1),.alloc (.agg [(.int .i64 0),(.int .i64 0),(.int .i64 0),(.int .i64 0),(.str ⟨#[]⟩),(.int .i64 0),(.int .i64 0),(.int .i64 0),(.str ⟨#[]⟩),(.int .i32 0),.nil,(.int .i64 0),(.int .i64 0),(.int .i64 0),(.str ⟨#[]⟩),(.int .i32 0),.nil,.nil,.nil]),none⟩,
    ⟨none,.st (.t 1) (.t 6) 19,none⟩]) <|
  .seq (.dreg [⟨(some 7),.call lJ [(.c (.int .i32 0))],none⟩,
    ⟨(some 8),.bld [(.int .i64 0),(.int .i64 0),(.int .i64 0),(.int .i64 0),(.str ⟨#[]⟩),(.int .i64 0),(.int .i64 0),(.int .i64 0),(.str ⟨#[]⟩),(.int .i32 0),.nil,(.int .i64 0),(.int .i64 0),(.int .i64 0),(.str ⟨#[]⟩),(.int .i32 0),.nil,.nil,.nil] [(0,1,(.c (.int .i64 1))),(4,1,(.c (.str ⟨#[120]⟩))),(2,1,(.c (.int .i64 1))),(5,6,(.t 7))],none⟩,
    ⟨(some 9),.call oC [(.c (.str ⟨#[120]⟩))],none⟩,
    ⟨(some 10),.call lJ [(.c (.int .i32 5))],none⟩,
    ⟨(some 11),.call q9 [(.c (.int .i64 26)),(.t 9),(.t 10)],none⟩,
    ⟨(some 12),.ld (.t 1) 19 true,none⟩,
    ⟨(some 13),.bldS false 19 1 (.agg [(.int .i64 0),(.int .i64 0),(.int .i64 0),(.int .i64 0),(.str ⟨#[]⟩),(.int .i64 0),(.int .i64 0),(.int .i64 0),(.str ⟨#[]⟩),(.int .i32 0),.nil,(.int .i64 0),(.int .i64 0),(.int .i64 0),(.str ⟨#[]⟩),(.int .i32 0),.nil,.nil,.nil]) [(0,(.t 12))],none⟩,
    ⟨(some 14),.bld [(.int .i64 0),(.int .i64 0),(.int .i64 0),(.int .i64 0),(.str ⟨#[]⟩),(.int .i64 0),(.int .i64 0),(.int .i64 0),(.str ⟨#[]⟩),(.int .i32 0),.nil,(.int .i64 0),(.int .i64 0),(.int .i64 0),(.str ⟨#[]⟩),(.int .i32 0),.nil,.nil,.nil] [(0,1,(.c (.int .i64 6))),(5,6,(.t 11)),(3,1,(.c (.int .i64 7))),(17,1,(.t 13))],none⟩,
    ⟨(some 15),.bldS false 19 2 (.agg [(.int .i64 0),(.int .i64 0),(.int .i64 0),(.int .i64 0),(.str ⟨#[]⟩),(.int .i64 0),(.int .i64 0),(.int .i64 0),(.str ⟨#[]⟩),(.int .i32 0),.nil,(.int .i64 0),(.int .i64 0),(.int .i64 0),(.str ⟨#[]⟩),(.int .i32 0),.nil,.nil,.nil]) [(0,(.t 8)),(1,(.t 14))],none⟩,
    ⟨(some 2),.mov (.t 15),none⟩] [] []) <|
  .seq (.reg [⟨(some 16),.mov (.t 2),none⟩,
    ⟨(some 17),.bld [(.str ⟨#[]⟩),(.int .i64 0),(.int .i64 0),.nil,.nil,.nil,.nil] [(0,1,(.c (.str ⟨#[107]⟩))),(1,1,(.c (.int .i64 4))),(2,1,(.c (.int .i64 1))),(6,1,(.t 16))],none⟩,
    ⟨(some 18),.call tD [(.t 17)],none⟩,
    ⟨(some 19),.fld (.t 18) 0 8 true,none⟩,
    ⟨none,.st (.t 0) (.t 19) 8,none⟩]) <|
  .ret,
  [.cell 0 8 true]⟩
theorem vC:cFn PP true eY s9 (cDr PP 20 vW)=some pO:=by kernel_rfl
def yI:Nat->Option (List Nat×List Nat)
  | 1000013=>some ([1,2,5],[])|6=>some ([1,2,4,5,19],[20])|_=>none
def BH:Nat->Option (List Nat×List Nat×List Nat)
  | _=>none
def xR:af:=⟨43,
  .seq (.reg [⟨(some 1),.box (.t 0),none⟩,
    ⟨(some 2),.alloc (.agg [.nil,(.int .i64 0),(.int .i64 0)]),none⟩,
    ⟨(some 3),.mov (.c (.int .i64 0)),none⟩]) <|
  .seq (.reg [⟨(some 8),.ld (.t 1) 8 true,none⟩,
    ⟨(some 9),.call iq [(.t 8)],none⟩,
    ⟨(some 4),.mov (.t 9),none⟩]) <|
  .seq (.seq (.reg [⟨(some 10),.mov (.t 4),none⟩,
    ⟨(some 11),.call dF [(.t 10)],none⟩,
    ⟨(some 12),.un .not (.t 11),none⟩]) <|
  .cond (.t 12) (.seq (.reg [⟨(some 13),.bld [.nil,(.int .i64 0),(.int .i64 0)] [],none⟩,
    ⟨none,.st (.t 2) (.t 13) 3,none⟩,
    ⟨(some 3),.mov (.c (.int .i64 120)),none⟩]) <|
  .ret) (.skip)) <|
  .seq (.reg [⟨(some 14),.fadd (.t 1) 7,none⟩,
    ⟨(some 15),.ld (.t 14) 1 false,none⟩,
    ⟨(some 16),.len (.t 15),none⟩,
    ⟨(some 17),.mk 1 8 (.int .i64 0) (.t 16) (.t 16),none⟩,
    ⟨(some 5),.mov (.t 17),none⟩]) <|
  .seqj [1,2,5] [] (.seq (.reg [⟨(some 18),.mov (.t 5),none⟩,
    ⟨(some 19),.len (.t 18),none⟩,
    ⟨(some 20),.mov (.c (.int .i64 0)),none⟩]) <|
  .block 0 (.loop [1,2,4,5,19] [20] (.seq (.reg [⟨(some 21),.bin .lss (.t 20) (.t 19),none⟩]) <|
  .seq (.cond (.t 21) (.skip) (.exit 0)) <|
  .seq (.block 1 (.seq (.reg [⟨(some 22),.mov (.t 20),none⟩,
    ⟨(some 6),.mov (.t 22),none⟩]) <|
  .seq (.reg [⟨(some 23),.mov (.t 5),none⟩,
    ⟨(some 24),.mov (.t 6),none⟩,
    ⟨(some 25),.mov (.t 4),none⟩,
    ⟨(some 26),.mov (.t 6),none⟩,
    ⟨(some 27),.call eJ [(.t 25),(.t 26)],none⟩,
    ⟨(some 28),.iadd (.t 23) (.t 24) 1,none⟩,
    ⟨none,.st (.t 28) (.t 27) 1,none⟩]) <|
  .seq (.reg [⟨(some 29),.mov (.t 5),none⟩,
    ⟨(some 30),.mov (.t 6),none⟩,
    ⟨(some 31),.iadd (.t 29) (.t 30) 1,none⟩,
    ⟨(some 32),.ld (.t 31) 1 false,none⟩,
    ⟨(some 33),.bin .gtr (.t 32) (.c (.int .i64 1099511627776)),none⟩]) <|
  .cond (.t 33) (.seq (.reg [⟨(some 34),.bld [.nil,(.int .i64 0),(.int .i64 0)] [],none⟩,
    ⟨none,.st (.t 2) (.t 34) 3,none⟩,
    ⟨(some 3),.mov (.c (.int .i64 2)),none⟩]) <|
  .ret) (.skip))) <|
  .reg [⟨(some 35),.bin .add (.t 20) (.c (.int .i64 1)),none⟩,
    ⟨(some 20),.mov (.t 35),none⟩]))) <|
  .seq (.reg [⟨(some 36),.ld (.t 1) 8 true,none⟩,
    ⟨(some 37),.mov (.t 5),none⟩,
    ⟨(some 38),.call oD [(.t 36),(.t 37)],none⟩,
    ⟨(some 7),.alloc (.agg [.nil,(.int .i64 0),(.int .i64 0)]),none⟩,
    ⟨none,.st (.t 7) (.t 38) 3,none⟩]) <|
  .seq (.seq (.reg [⟨(some 39),.ld (.t 7) 3 true,none⟩,
    ⟨(some 40),.call rh [(.t 39)],none⟩]) <|
  .cond (.t 40) (.seq (.reg [⟨(some 41),.bld [.nil,(.int .i64 0),(.int .i64 0)] [],none⟩,
    ⟨none,.st (.t 2) (.t 41) 3,none⟩,
    ⟨(some 3),.mov (.c (.int .i64 2)),none⟩]) <|
  .ret) (.skip)) <|
  .seq (.reg [⟨(some 42),.ld (.t 7) 3 true,none⟩,
    ⟨none,.st (.t 2) (.t 42) 3,none⟩,
    ⟨(some 3),.mov (.c (.int .i64 0)),none⟩]) <|
  .ret,
  [.cell 2 3 true,.t 3]⟩
theorem A7:cFn PP true dk yI (cDr PP 43 BH)=some xR:=by kernel_rfl
def yo:Nat->Option (List Nat×List Nat)
  | 1000009=>some ([1,2],[3])|5=>some ([1,2],[3,4])|_=>none
def Bn:Nat->Option (List Nat×List Nat×List Nat)
  | 7=>some ([0,0,0,4,0,28,60,124,254,0,512,0,3584,7680,15872,32766,65534,131071,262143],[1,8,16,17,18],[999999])|_=>none
def xf:af:=⟨44,
  .seq (.reg [⟨(some 1),.box (.t 0),none⟩,
    ⟨(some 2),.alloc (.agg [(.int .i64 0),(.int .i64 0),(.int .i64 0),(.int .i64 0),(.int .i64 0),.nil,.nil,.nil]),none⟩]) <|
  .seq (.reg [⟨(some 5),.bldS true 4 0 (.agg [(.str ⟨#[]⟩),(.int .i64 0),(.int .i64 0),(.int .i64 0)]) [],none⟩,
    ⟨(some 6),.fadd (.t 1) 5,none⟩,
    ⟨(some 7),.ld (.t 6) 1 false,none⟩,
    ⟨(some 8),.app (.t 5) (.t 7) 4 40 (.agg [(.str ⟨#[]⟩),(.int .i64 0),(.int .i64 0),(.int .i64 0)]),none⟩,
    ⟨(some 9),.fadd (.t 1) 5,none⟩,
    ⟨none,.st (.t 9) (.t 8) 1,none⟩]) <|
  .seq (.reg [⟨(some 10),.bldS true 3 0 (.agg [(.int .i64 0),(.int .i64 0),(.int .i64 0)]) [],none⟩,
    ⟨(some 11),.fadd (.t 1) 6,none⟩,
    ⟨(some 12),.ld (.t 11) 1 false,none⟩,
    ⟨(some 13),.app (.t 10) (.t 12) 3 24 (.agg [(.int .i64 0),(.int .i64 0),(.int .i64 0)]),none⟩,
    ⟨(some 14),.fadd (.t 1) 6,none⟩,
    ⟨none,.st (.t 14) (.t 13) 1,none⟩]) <|
  .seq (.reg [⟨(some 15),.bldS true 14 0 (.agg [.nil,(.int .i64 0),(.int .i64 0),(.int .i64 0),(.int .i64 0),(.int .i32 0),(.int .i64 0),(.int .i64 0),(.int .i32 0),(.int .i64 0),(.int .i64 0),(.int .i32 0),(.int .i64 0),(.int .i64 0)]) [],none⟩,
    ⟨(some 3),.mov (.t 15),none⟩]) <|
  .seqj [1,2] [3] (.seq (.reg [⟨(some 4),.mov (.c (.int .i64 0)),none⟩]) <|
  .block 0 (.loop [1,2] [3,4] (.seq (.seq (.reg [⟨(some 16),.mov (.t 4),none⟩,
    ⟨(some 17),.fadd (.t 1) 7,none⟩,
    ⟨(some 18),.ld (.t 17) 1 false,none⟩,
    ⟨(some 19),.len (.t 18),none⟩,
    ⟨(some 20),.bin .lss (.t 16) (.t 19),none⟩]) <|
  .cond (.t 20) (.skip) (.exit 0)) <|
  .seq (.block 1 (.seq (.dreg [⟨(some 23),.mov (.t 3),none⟩,
    ⟨(some 25),.fadd (.t 1) 7,none⟩,
    ⟨(some 26),.ld (.t 25) 1 false,none⟩,
    ⟨(some 27),.mov (.t 4),none⟩,
    ⟨(some 28),.iadd (.t 26) (.t 27) 14,none⟩,
    ⟨(some 29),.fadd (.t 28) 0,none⟩,
    ⟨(some 30),.ld (.t 29) 1 false,none⟩,
    ⟨(some 32),.fadd (.t 1) 7,none⟩,
    ⟨(some 33),.ld (.t 32) 1 false,none⟩,
    ⟨(some 34),.mov (.t 4),none⟩,
    ⟨(some 35),.iadd (.t 33) (.t 34) 14,none⟩,
    ⟨(some 36),.fadd (.t 35) 1,none⟩,
    ⟨(some 37),.ld (.t 36) 13 true,none⟩] [⟨(some 24),.bldS true 15 0 (.agg [(.int .i64 0),(.int .i64 0),(.int .i64 0),(.int .i64 0),(.int .i64 0),(.int .i32 0),(.int .i64 0),(.int .i64 0),(.int .i32 0),(.int .i64 0),(.int .i64 0),(.int .i32 0),(.int .i64 0),(.int .i64 0),(.int .i32 0)]) [],none⟩] [⟨(some 25),.fadd (.t 1) 7,none⟩,
    ⟨(some 26),.ld (.t 25) 1 false,none⟩,
    ⟨(some 28),.iadd (.t 26) (.t 27) 14,none⟩,
    ⟨(some 29),.fadd (.t 28) 0,none⟩,
    ⟨(some 30),.ld (.t 29) 1 false,none⟩,
    ⟨(some 32),.fadd (.t 1) 7,none⟩,
    ⟨(some 33),.ld (.t 32) 1 false,none⟩,
    ⟨(some 35),.iadd (.t 33) (.t 34) 14,none⟩,
    ⟨(some 36),.fadd (.t 35) 1,none⟩,
    ⟨(some 37),.ld (.t 36) 13 true,none⟩]) <|
  .seq (.dreg [] [⟨(some 31),.app (.t 24) (.t 30) 15 120 (.agg [(.int .i64 0),(.int .i64 0),(.int .i64 0),(.int .i64 0),(.int .i64 0),(.int .i32 0),(.int .i64 0),(.int .i64 0),(.int .i32 0),(.int .i64 0),(.int .i64 0),(.int .i32 0),(.int .i64 0),(.int .i64 0),(.int .i32 0)]),none⟩] [⟨(some 32),.fadd (.t 1) 7,none⟩,
    ⟨(some 33),.ld (.t 32) 1 false,none⟩,
    ⟨(some 35),.iadd (.t 33) (.t 34) 14,none⟩,
    ⟨(some 36),.fadd (.t 35) 1,none⟩,
    ⟨(some 37),.ld (.t 36) 13 true,none⟩]) <|
  .seq (.dreg [⟨(some 38),.bld [.nil,(.int .i64 0),(.int .i64 0),(.int .i64 0),(.int .i64 0),(.int .i32 0),(.int .i64 0),(.int .i64 0),(.int .i32 0),(.int .i64 0),(.int .i64 0),(.int .i32 0),(.int .i64 0),(.int .i64 0)] [(0,1,(.t 31)),(1,13,(.t 37))],none⟩] [⟨(some 39),.bldS true 14 1 (.agg [.nil,(.int .i64 0),(.int .i64 0),(.int .i64 0),(.int .i64 0),(.int .i32 0),(.int .i64 0),(.int .i64 0),(.int .i32 0),(.int .i64 0),(.int .i64 0),(.int .i32 0),(.int .i64 0),(.int .i64 0)]) [(0,(.t 38))],none⟩] []) <|
  .seq (.dreg [] [⟨(some 40),.app (.t 23) (.t 39) 14 128 (.agg [.nil,(.int .i64 0),(.int .i64 0),(.int .i64 0),(.int .i64 0),(.int .i32 0),(.int .i64 0),(.int .i64 0),(.int .i32 0),(.int .i64 0),(.int .i64 0),(.int .i32 0),(.int .i64 0),(.int .i64 0)]),none⟩] []) <|
  .seq (.dreg [] [⟨(some 3),.mov (.t 40),none⟩] []) <|
  .dreg [] [] [])) <|
  .reg [⟨(some 21),.mov (.t 4),none⟩,
    ⟨(some 22),.bin .add (.t 21) (.c (.int .i64 1)),none⟩,
    ⟨(some 4),.mov (.t 22),none⟩]))) <|
  .seq (.reg [⟨(some 41),.mov (.t 3),none⟩,
    ⟨(some 42),.fadd (.t 1) 7,none⟩,
    ⟨none,.st (.t 42) (.t 41) 1,none⟩]) <|
  .seq (.reg [⟨(some 43),.ld (.t 1) 8 true,none⟩,
    ⟨none,.st (.t 2) (.t 43) 8,none⟩]) <|
  .ret,
  [.cell 2 8 true]⟩
theorem AK:cFn PP true ki yo (cDr PP 44 Bn)=some xf:=by kernel_rfl
def wT:Nat->Option (List Nat×List Nat)
  | 1000011=>some ([2,3],[])|5=>some ([2,3,5,24,25],[26])|_=>none
def Ak:Nat->Option (List Nat×List Nat×List Nat)
  | _=>none
def uu:af:=⟨61,
  .seq (.reg [⟨(some 2),.box (.t 0),none⟩,
    ⟨(some 3),.box (.t 1),none⟩,
    ⟨(some 4),.mov (.c (.int .i64 0)),none⟩]) <|
  .seq (.reg [⟨(some 9),.ld (.t 2) 8 true,none⟩,
    ⟨(some 10),.call iq [(.t 9)],none⟩,
    ⟨(some 5),.mov (.t 10),none⟩]) <|
  .seq (.seq (.reg [⟨(some 11),.fadd (.t 3) 0,none⟩,
    ⟨(some 12),.ld (.t 11) 1 false,none⟩,
    ⟨(some 13),.len (.t 12),none⟩,
    ⟨(some 14),.fadd (.t 2) 7,none⟩,
    ⟨(some 15),.ld (.t 14) 1 false,none⟩,
    ⟨(some 16),.len (.t 15),none⟩,
    ⟨(some 17),.bin .neq (.t 13) (.t 16),none⟩,
    ⟨(some 18),.mov (.t 17),none⟩,
    ⟨(some 19),.mov (.t 5),some (18,false)⟩,
    ⟨(some 20),.call dF [(.t 19)],some (18,false)⟩,
    ⟨(some 21),.un .not (.t 20),some (18,false)⟩,
    ⟨(some 22),.pick (.t 18) (.c (.bool true)) (.t 21),none⟩]) <|
  .cond (.t 22) (.seq (.reg [⟨(some 4),.mov (.c (.int .i64 100)),none⟩]) <|
  .ret) (.skip)) <|
  .seqj [2,3] [] (.seq (.reg [⟨(some 23),.fadd (.t 3) 0,none⟩,
    ⟨(some 24),.ld (.t 23) 1 false,none⟩,
    ⟨(some 25),.len (.t 24),none⟩,
    ⟨(some 26),.mov (.c (.int .i64 0)),none⟩]) <|
  .block 0 (.loop [2,3,5,24,25] [26] (.seq (.reg [⟨(some 27),.bin .lss (.t 26) (.t 25),none⟩]) <|
  .seq (.cond (.t 27) (.skip) (.exit 0)) <|
  .seq (.block 1 (.seq (.reg [⟨(some 28),.mov (.t 26),none⟩,
    ⟨(some 29),.iadd (.t 24) (.t 26) 1,none⟩,
    ⟨(some 30),.ld (.t 29) 1 false,none⟩,
    ⟨(some 6),.mov (.t 28),none⟩,
    ⟨(some 7),.mov (.t 30),none⟩]) <|
  .seq (.reg [⟨(some 31),.mov (.t 7),none⟩,
    ⟨(some 32),.mov (.t 5),none⟩,
    ⟨(some 33),.mov (.t 6),none⟩,
    ⟨(some 34),.call eJ [(.t 32),(.t 33)],none⟩,
    ⟨(some 35),.bin .lss (.t 31) (.t 34),none⟩,
    ⟨(some 36),.mov (.t 35),none⟩,
    ⟨(some 37),.mov (.t 7),some (36,false)⟩,
    ⟨(some 38),.bin .gtr (.t 37) (.c (.int .i64 1099511627776)),some (36,false)⟩,
    ⟨(some 39),.pick (.t 36) (.c (.bool true)) (.t 38),none⟩]) <|
  .cond (.t 39) (.seq (.reg [⟨(some 4),.mov (.c (.int .i64 100)),none⟩]) <|
  .ret) (.skip))) <|
  .reg [⟨(some 40),.bin .add (.t 26) (.c (.int .i64 1)),none⟩,
    ⟨(some 26),.mov (.t 40),none⟩]))) <|
  .seq (.reg [⟨(some 41),.ld (.t 2) 8 true,none⟩,
    ⟨(some 42),.fadd (.t 3) 0,none⟩,
    ⟨(some 43),.ld (.t 42) 1 false,none⟩,
    ⟨(some 44),.call oD [(.t 41),(.t 43)],none⟩,
    ⟨(some 8),.alloc (.agg [.nil,(.int .i64 0),(.int .i64 0)]),none⟩,
    ⟨none,.st (.t 8) (.t 44) 3,none⟩]) <|
  .seq (.seq (.reg [⟨(some 45),.ld (.t 8) 3 true,none⟩,
    ⟨(some 46),.call rh [(.t 45)],none⟩,
    ⟨(some 47),.mov (.t 46),none⟩,
    ⟨(some 48),.fadd (.t 3) 1,some (47,false)⟩,
    ⟨(some 49),.ld (.t 48) 1 false,some (47,false)⟩,
    ⟨(some 50),.fadd (.t 8) 1,some (47,false)⟩,
    ⟨(some 51),.ld (.t 50) 1 false,some (47,false)⟩,
    ⟨(some 52),.bin .neq (.t 49) (.t 51),some (47,false)⟩,
    ⟨(some 53),.pick (.t 47) (.c (.bool true)) (.t 52),none⟩,
    ⟨(some 54),.mov (.t 53),none⟩,
    ⟨(some 55),.fadd (.t 3) 2,some (54,false)⟩,
    ⟨(some 56),.ld (.t 55) 1 false,some (54,false)⟩,
    ⟨(some 57),.fadd (.t 8) 2,some (54,false)⟩,
    ⟨(some 58),.ld (.t 57) 1 false,some (54,false)⟩,
    ⟨(some 59),.bin .neq (.t 56) (.t 58),some (54,false)⟩,
    ⟨(some 60),.pick (.t 54) (.c (.bool true)) (.t 59),none⟩]) <|
  .cond (.t 60) (.seq (.reg [⟨(some 4),.mov (.c (.int .i64 100)),none⟩]) <|
  .ret) (.skip)) <|
  .seq (.reg [⟨(some 4),.mov (.c (.int .i64 0)),none⟩]) <|
  .ret,
  [.t 4]⟩
theorem zj:cFn PP true bw wT (cDr PP 61 Ak)=some uu:=by kernel_rfl
def rj:Nat->Option (List Nat×List Nat)
  | 1000009=>some ([],[])|4=>some ([0,1],[5])|_=>none
def uy:Nat->Option (List Nat×List Nat×List Nat)
  | 6=>some ([0,0,3,7,0,0,48,112,255],[],[])|_=>none
def nI:af:=⟨26,
  .seq (.reg [⟨(some 4),.mov (.c (.bool false)),none⟩]) <|
  .seq (.seq (.reg [⟨(some 6),.mov (.t 0),none⟩,
    ⟨(some 7),.len (.t 6),none⟩,
    ⟨(some 8),.mov (.t 1),none⟩,
    ⟨(some 9),.len (.t 8),none⟩,
    ⟨(some 10),.bin .neq (.t 7) (.t 9),none⟩]) <|
  .cond (.t 10) (.seq (.reg [⟨(some 4),.mov (.c (.bool false)),none⟩]) <|
  .ret) (.skip)) <|
  .seqj [] [] (.seq (.reg [⟨(some 5),.mov (.c (.int .i64 0)),none⟩]) <|
  .block 0 (.loop [0,1] [5] (.seq (.seq (.reg [⟨(some 11),.mov (.t 5),none⟩,
    ⟨(some 12),.mov (.t 0),none⟩,
    ⟨(some 13),.len (.t 12),none⟩,
    ⟨(some 14),.bin .lss (.t 11) (.t 13),none⟩]) <|
  .cond (.t 14) (.skip) (.exit 0)) <|
  .seq (.block 1 (.seq (.dreg [⟨(some 17),.mov (.t 0),none⟩,
    ⟨(some 18),.mov (.t 5),none⟩,
    ⟨(some 19),.iadd (.t 17) (.t 18) 1,none⟩,
    ⟨(some 20),.ld (.t 19) 1 false,none⟩,
    ⟨(some 21),.mov (.t 1),none⟩,
    ⟨(some 22),.mov (.t 5),none⟩,
    ⟨(some 23),.iadd (.t 21) (.t 22) 1,none⟩,
    ⟨(some 24),.ld (.t 23) 1 false,none⟩,
    ⟨(some 25),.bin .neq (.t 20) (.t 24),none⟩] [] []) <|
  .cond (.t 25) (.seq (.reg [⟨(some 4),.mov (.c (.bool false)),none⟩]) <|
  .ret) (.skip))) <|
  .reg [⟨(some 15),.mov (.t 5),none⟩,
    ⟨(some 16),.bin .add (.t 15) (.c (.int .i64 1)),none⟩,
    ⟨(some 5),.mov (.t 16),none⟩]))) <|
  .seq (.reg [⟨(some 4),.mov (.c (.bool true)),none⟩]) <|
  .ret,
  [.t 4]⟩
theorem tg:cFn PP true ei rj (cDr PP 26 uy)=some nI:=by kernel_rfl
def gj:Nat->Option (List Nat×List Nat)
  | _=>none
def iI:Nat->Option (List Nat×List Nat×List Nat)
  | 2=>some ([0,1,3,7,0,16,48,112,240,511],[],[])|4=>some ([0,1,3,7,0,16,48,112,240,511,1023,2047,4095],[],[])|_=>none
noncomputable def fj:af:=⟨32,gW (cFn PP true ah gj (cDr PP 32 iI)),
  [.t 2]⟩
theorem ql:cFn PP true ah gj (cDr PP 32 iI)=some fj:=by kernel_rfl
def kT (a0:D) (h0:Heap) (K:D->Heap->Prop):Prop :=
  aa PP (.fadd (.c a0) 0) h0 fun a2 h3 =>
  aa PP (.fadd (.c a2) 1) h3 fun a4 h5 =>
  aa PP (.ld (.c a4) 1 false) h5 fun a6 h7 =>
  vbin .add a6 (.int .i64 1) fun a8 =>
  aa PP (.fadd (.c a0) 0) h7 fun a9 h10 =>
  aa PP (.fadd (.c a9) 1) h10 fun a11 h12 =>
  aa PP (.st (.c a11) (.c a8) 1) h12 fun a13 h14 =>
  ag PP (.fadd (.c a0) 0) h14 fun a15 =>
  ag PP (.fadd (.c a15) 1) h14 fun a16 =>
  ag PP (.ld (.c a16) 1 false) h14 fun a17 =>
  ag PP (.fadd (.c a0) 0) h14 fun a18 =>
  ag PP (.fadd (.c a18) 0) h14 fun a19 =>
  ag PP (.ld (.c a19) 1 false) h14 fun a20 =>
  cJ a20 h14 fun a21 =>
  vbin .gtr a17 a21 fun a22 =>
  vcond a22 (K (.int .i64 0) h14) (
  ag PP (.fadd (.c a0) 0) h14 fun a23 =>
  ag PP (.fadd (.c a23) 0) h14 fun a24 =>
  ag PP (.ld (.c a24) 1 false) h14 fun a25 =>
  ag PP (.fadd (.c a0) 0) h14 fun a26 =>
  ag PP (.fadd (.c a26) 1) h14 fun a27 =>
  ag PP (.ld (.c a27) 1 false) h14 fun a28 =>
  vbin .sub a28 (.int .i64 1) fun a29 =>
  ag PP (.iadd (.c a25) (.c a29) 1) h14 fun a30 =>
  ag PP (.ld (.c a30) 1 false) h14 fun a31 =>
  ag PP (.conv .i64 (.c a31)) h14 fun a32 =>
  K a32 h14)
theorem qh (a0:D) (h0:Heap) (K:D->Heap->Prop):kT a0 h0 K=vcC PP fj.code (fun x e h'=>match x with|.exit _=>False|.pan=>False|.jump _=>False|_=>cY PP fj.res K e h') (params [a0] 0) h0:=by kernel_rfl
def kL:Nat->Option (List Nat×List Nat)
  | _=>none
def mP:Nat->Option (List Nat×List Nat×List Nat)
  | _=>none
noncomputable def kY:af:=⟨7,gW (cFn PP true gd kL (cDr PP 7 mP)),
  [.t 0]⟩
theorem xC:cFn PP true gd kL (cDr PP 7 mP)=some kY:=by kernel_rfl
def rT (h0:Heap) (K:D->Heap->Prop):Prop :=
  aa PP (.bld [(.str ⟨#[]⟩),(.int .i64 0),(.int .i64 0),(.int .i64 0)] [(0,1,(.c (.str ⟨#[97]⟩))),(1,1,(.c (.int .i64 1))),(2,1,(.c (.int .i64 1))),(3,1,(.c (.int .i64 8)))]) h0 fun a1 h2 =>
  aa PP (.bld [(.str ⟨#[]⟩),(.int .i64 0),(.int .i64 0),(.int .i64 0)] [(0,1,(.c (.str ⟨#[102]⟩))),(1,1,(.c (.int .i64 1))),(2,1,(.c (.int .i64 2))),(3,1,(.c (.int .i64 4)))]) h2 fun a3 h4 =>
  aa PP (.bld [(.str ⟨#[]⟩),(.int .i64 0),(.int .i64 0),(.int .i64 0)] [(0,1,(.c (.str ⟨#[115]⟩))),(1,1,(.c (.int .i64 2))),(2,1,(.c (.int .i64 1))),(3,1,(.c (.int .i64 8)))]) h4 fun a5 h6 =>
  aa PP (.bld [(.str ⟨#[]⟩),(.int .i64 0),(.int .i64 0),(.int .i64 0)] [(0,1,(.c (.str ⟨#[112]⟩))),(1,1,(.c (.int .i64 3))),(2,1,(.c (.int .i64 1))),(3,1,(.c (.int .i64 4)))]) h6 fun a7 h8 =>
  aa PP (.bld [(.str ⟨#[]⟩),(.int .i64 0),(.int .i64 0),(.int .i64 0)] [(0,1,(.c (.str ⟨#[98]⟩))),(1,1,(.c (.int .i64 2))),(2,1,(.c (.int .i64 3))),(3,1,(.c (.int .i64 4)))]) h8 fun a9 h10 =>
  aa PP (.bldS true 4 5 (.agg [(.str ⟨#[]⟩),(.int .i64 0),(.int .i64 0),(.int .i64 0)]) [(0,(.c a1)),(1,(.c a3)),(2,(.c a5)),(3,(.c a7)),(4,(.c a9))]) h10 fun a11 h12 =>
  K a11 h12
theorem xb (h0:Heap) (K:D->Heap->Prop):rT h0 K=vcC PP kY.code (fun x e h'=>match x with|.exit _=>False|.pan=>False|.jump _=>False|_=>cY PP kY.res K e h') (params [] 0) h0:=by kernel_rfl
def eT:Nat->Option (List Nat×List Nat)
  | 1000012=>some ([0],[])|4=>some ([0,5],[6])|1000011=>some ([0,5,6],[])|_=>none
def fR:Nat->Option (List Nat×List Nat×List Nat)
  | 9=>some ([0,1,3,7,15,0,0,64,0,256,0,1216,0,0,12288,31936,65472,0,131072,0,527552,0,0,6291456,16256192,33426624,67108800,134217664,268435455,536870911,1073741823],[7,11,20,30],[999999])|_=>none
noncomputable def ec:af:=⟨77,gW (cFn PP true bN eT (cDr PP 77 fR)),
  []⟩
theorem nF:cFn PP true bN eT (cDr PP 77 fR)=some ec:=by kernel_rfl
def fH (a14:D) (h12:Heap) (a15:D) (a0:D) (J16:List D->Heap->Prop):Prop :=
  ∃(I21:Nat->List D->Heap->Prop) (n₀:Nat),I21 n₀ [a14] h12/\∀(n22:Nat) (f23:Nat->D) (h24:Heap),I21 n22 [f23 6] h24 ->
  vbin .lss (f23 6) a15 fun a25 =>
  vcond a25 (ai PP bl [a0] h24 fun a26 h27 =>
  aa PP (.fadd (.c a0) 0) h27 fun a28 h29 =>
  aa PP (.fadd (.c a28) 2) h29 fun a30 h31 =>
  aa PP (.fadd (.c a30) 7) h31 fun a32 h33 =>
  aa PP (.ld (.c a32) 1 false) h33 fun a34 h35 =>
  vbin .add (f23 6) (.int .i64 1) fun a36 =>
  aa PP (.bld [(.int .i64 0),(.int .i64 0)] [(0,1,(.c a36)),(1,1,(.c (.int .i64 0)))]) h35 fun a37 h38 =>
  aa PP (.bld [(.int .i64 0),(.int .i64 0),(.int .i64 0),(.int .i64 0),(.int .i32 0),(.int .i64 0),(.int .i64 0),(.int .i32 0),(.int .i64 0),(.int .i64 0),(.int .i32 0),(.int .i64 0),(.int .i64 0)] [(0,1,(.c (.int .i64 1))),(11,2,(.c a37))]) h38 fun a39 h40 =>
  aa PP (.iadd (.c a34) (.c (f23 6)) 14) h40 fun a41 h42 =>
  aa PP (.fadd (.c a41) 1) h42 fun a43 h44 =>
  aa PP (.st (.c a43) (.c a39) 13) h44 fun a45 h46 =>
  ∃(J47:List D->Heap->Prop),(∀(f48:Nat->D) (h49:Heap),J47 [] h49 ->
  ai PP aP [a0] h49 fun a50 h51 =>
  vbin .add (f23 6) (.int .i64 1) fun a52 =>
  bR [a0,a15] [a0,a15]/\∃m,m<n22/\I21 m [a52] h51) /\
  ai PP ah [a0] h46 fun a53 h54 =>
  vbin .rem a53 (.int .i64 2) fun a55 =>
  vbin .eql a55 (.int .i64 0) fun a56 =>
  vcond a56 (ag PP (.fadd (.c a0) 0) h54 fun a57 =>
  ag PP (.fadd (.c a57) 2) h54 fun a58 =>
  ag PP (.fadd (.c a58) 7) h54 fun a59 =>
  ag PP (.ld (.c a59) 1 false) h54 fun a60 =>
  vbin .add (f23 6) (.int .i64 1) fun a61 =>
  vbin .sub a15 (f23 6) fun a62 =>
  vbin .add (f23 6) (.int .i64 1) fun a63 =>
  vbin .sub a15 (f23 6) fun a64 =>
  ai PP aJ [a0] h54 fun a65 h66 =>
  ((ag PP (.fadd (.c a0) 0) h66 fun a67=>bR [a67] [a57])/\(ag PP (.fadd (.c a57) 2) h66 fun a68=>bR [a68] [a58])/\(ag PP (.fadd (.c a58) 7) h66 fun a69=>bR [a69] [a59])/\(ag PP (.ld (.c a59) 1 false) h66 fun a70=>bR [a70] [a60])/\True) /\
  ai PP ah [a0] h66 fun a71 h72 =>
  ((ag PP (.fadd (.c a0) 0) h72 fun a73=>bR [a73] [a57])/\(ag PP (.fadd (.c a57) 2) h72 fun a74=>bR [a74] [a58])/\(ag PP (.fadd (.c a58) 7) h72 fun a75=>bR [a75] [a59])/\(ag PP (.ld (.c a59) 1 false) h72 fun a76=>bR [a76] [a60])/\True) /\
  vbin .rem a71 a62 fun a77 =>
  vbin .add a61 a77 fun a78 =>
  ai PP ah [a0] h72 fun a79 h80 =>
  ((ag PP (.fadd (.c a0) 0) h80 fun a81=>bR [a81] [a57])/\(ag PP (.fadd (.c a57) 2) h80 fun a82=>bR [a82] [a58])/\(ag PP (.fadd (.c a58) 7) h80 fun a83=>bR [a83] [a59])/\(ag PP (.ld (.c a59) 1 false) h80 fun a84=>bR [a84] [a60])/\True) /\
  vbin .rem a79 a64 fun a85 =>
  vbin .add a63 a85 fun a86 =>
  ag PP (.bld [(.int .i64 0),(.int .i64 0)] [(0,1,(.c a78)),(1,1,(.c a86))]) h80 fun a87 =>
  ag PP (.bld [(.int .i64 0),(.int .i64 0),(.int .i64 0),(.int .i64 0),(.int .i32 0),(.int .i64 0),(.int .i64 0),(.int .i32 0),(.int .i64 0),(.int .i64 0),(.int .i32 0),(.int .i64 0),(.int .i64 0)] [(0,1,(.c (.int .i64 2))),(5,3,(.c a65)),(11,2,(.c a87))]) h80 fun a88 =>
  ag PP (.iadd (.c a60) (.c (f23 6)) 14) h80 fun a89 =>
  ag PP (.fadd (.c a89) 1) h80 fun a90 =>
  aa PP (.st (.c a90) (.c a88) 13) h80 fun a91 h92 =>
  bR [a0,a15,(f23 6)] [a0,a15,(f23 6)]/\J47 [] h92) (
  bR [a0,a15,(f23 6)] [a0,a15,(f23 6)]/\J47 [] h54)) (
  bR [a0] [a0]/\J16 [] h24)
def iY (a0:D) (a1:D) (h0:Heap) (K:D->Heap->Prop):Prop :=
  ai PP aP [a0] h0 fun a3 h4 =>
  aa PP (.fadd (.c a0) 0) h4 fun a5 h6 =>
  aa PP (.fadd (.c a5) 2) h6 fun a7 h8 =>
  aa PP (.fadd (.c a7) 7) h8 fun a9 h10 =>
  aa PP (.ld (.c a9) 1 false) h10 fun a11 h12 =>
  cJ a11 h12 fun a13 =>
  vbin .sub a13 (.int .i64 1) fun a14 =>
  vbin .add a14 a1 fun a15 =>
  ∃(J16:List D->Heap->Prop),(∀(f17:Nat->D) (h18:Heap),J16 [] h18 ->
  ai PP bl [a0] h18 fun a19 h20 =>
  K (.tup []) h20) /\
  fH a14 h12 a15 a0 J16
theorem nw (a0:D) (a1:D) (h0:Heap) (K:D->Heap->Prop):iY a0 a1 h0 K=vcC PP ec.code (fun x e h'=>match x with|.exit _=>False|.pan=>False|.jump _=>False|_=>cY PP ec.res K e h') (params [a0,a1] 0) h0:=by kernel_rfl
def gk:Nat->Option (List Nat×List Nat)
  | 1000008=>some ([],[0,2,3,4])|1000016=>some ([],[0,4,119])|_=>none
def iJ:Nat->Option (List Nat×List Nat×List Nat)
  | 9=>some ([0,1,3,7,15,0,0,64,192,0,512,0,2048,7680,16320,32767,65535,131071],[17],[])|15=>some ([0,1,3,7,15,0,32,0,128,0,0,1024,3584,8064,16383,32767,65535],[8,16],[999999])|_=>none
noncomputable def fo:af:=⟨136,gW (cFn PP true bG gk (cDr PP 136 iJ)),
  []⟩
theorem qm:cFn PP true bG gk (cDr PP 136 iJ)=some fo:=by kernel_rfl
end Go.Am
namespace Go.Am
open Go Go.Proofs
def fB:Nat->Option (List Nat×List Nat)
  | _=>none
def gL:Nat->Option (List Nat×List Nat×List Nat)
  | _=>none
noncomputable def eO:af:=⟨14,gW (cFn PP true aP fB (cDr PP 14 gL)),
  []⟩
theorem pa:cFn PP true aP fB (cDr PP 14 gL)=some eO:=by kernel_rfl
def jJ (a0:D) (h0:Heap) (K:D->Heap->Prop):Prop :=
  aa PP (.fadd (.c a0) 0) h0 fun a2 h3 =>
  aa PP (.fadd (.c a2) 2) h3 fun a4 h5 =>
  aa PP (.fadd (.c a4) 7) h5 fun a6 h7 =>
  aa PP (.ld (.c a6) 1 false) h7 fun a8 h9 =>
  aa PP (.bld [.nil,(.int .i64 0),(.int .i64 0),(.int .i64 0),(.int .i64 0),(.int .i32 0),(.int .i64 0),(.int .i64 0),(.int .i32 0),(.int .i64 0),(.int .i64 0),(.int .i32 0),(.int .i64 0),(.int .i64 0)] []) h9 fun a10 h11 =>
  aa PP (.bldS true 14 1 (.agg [.nil,(.int .i64 0),(.int .i64 0),(.int .i64 0),(.int .i64 0),(.int .i32 0),(.int .i64 0),(.int .i64 0),(.int .i32 0),(.int .i64 0),(.int .i64 0),(.int .i32 0),(.int .i64 0),(.int .i64 0)]) [(0,(.c a10))]) h11 fun a12 h13 =>
  aa PP (.app (.c a8) (.c a12) 14 128 (.agg [.nil,(.int .i64 0),(.int .i64 0),(.int .i64 0),(.int .i64 0),(.int .i32 0),(.int .i64 0),(.int .i64 0),(.int .i32 0),(.int .i64 0),(.int .i64 0),(.int .i32 0),(.int .i64 0),(.int .i64 0)])) h13 fun a14 h15 =>
  aa PP (.fadd (.c a0) 0) h15 fun a16 h17 =>
  aa PP (.fadd (.c a16) 2) h17 fun a18 h19 =>
  aa PP (.fadd (.c a18) 7) h19 fun a20 h21 =>
  aa PP (.st (.c a20) (.c a14) 1) h21 fun a22 h23 =>
  K (.tup []) h23
theorem o4 (a0:D) (h0:Heap) (K:D->Heap->Prop):jJ a0 h0 K=vcC PP eO.code (fun x e h'=>match x with|.exit _=>False|.pan=>False|.jump _=>False|_=>cY PP eO.res K e h') (params [a0] 0) h0:=by kernel_rfl
def gR:Nat->Option (List Nat×List Nat)
  | _=>none
def jB:Nat->Option (List Nat×List Nat×List Nat)
  | _=>none
noncomputable def gC:af:=⟨7,gW (cFn PP true aJ gR (cDr PP 7 jB)),
  [.cell 2 3 true]⟩
theorem jg:cFn PP true aJ gR (cDr PP 7 jB)=some gC:=by kernel_rfl
def gy (a0:D) (h0:Heap) (K:D->Heap->Prop):Prop :=
  aa PP (.alloc (.agg [(.int .i64 0),(.int .i64 0),(.int .i32 0)])) h0 fun a2 h3 =>
  ai PP ah [a0] h3 fun a4 h5 =>
  vbin .rem a4 (.int .i64 6) fun a6 =>
  ai PP bO [a6] h5 fun a7 h8 =>
  aa PP (.st (.c a2) (.c a7) 3) h8 fun a9 h10 =>
  aa PP (.ld (.c a2) 3 true) h10 fun a11 _ =>
  K a11 h10
theorem iZ (a0:D) (h0:Heap) (K:D->Heap->Prop):gy a0 h0 K=vcC PP gC.code (fun x e h'=>match x with|.exit _=>False|.pan=>False|.jump _=>False|_=>cY PP gC.res K e h') (params [a0] 0) h0:=by kernel_rfl
def gQ:Nat->Option (List Nat×List Nat)
  | _=>none
def jA:Nat->Option (List Nat×List Nat×List Nat)
  | _=>none
noncomputable def gB:af:=⟨18,gW (cFn PP true aG gQ (cDr PP 18 jA)),
  [.cell 2 3 true]⟩
theorem jf:cFn PP true aG gQ (cDr PP 18 jA)=some gB:=by kernel_rfl
def gx (a0:D) (h0:Heap) (K:D->Heap->Prop):Prop :=
  aa PP (.alloc (.agg [(.int .i64 0),(.int .i64 0),(.int .i32 0)])) h0 fun a2 h3 =>
  ai PP ah [a0] h3 fun a4 h5 =>
  vbin .rem a4 (.int .i64 3) fun a6 =>
  vbin .eql a6 (.int .i64 0) fun a7 =>
  vcond a7 (vbin .quo a4 (.int .i64 3) fun a8 =>
  aa PP (.conv .i32 (.c a8)) h5 fun a9 h10 =>
  vbin .sub a9 (.int .i32 20) fun a11 =>
  ai PP cb [a11] h10 fun a12 h13 =>
  aa PP (.st (.c a2) (.c a12) 3) h13 fun a14 h15 =>
  aa PP (.ld (.c a2) 3 true) h15 fun a16 _ =>
  K a16 h15) (
  vbin .quo a4 (.int .i64 3) fun a17 =>
  vbin .rem a17 (.int .i64 6) fun a18 =>
  ai PP bO [a18] h5 fun a19 h20 =>
  aa PP (.st (.c a2) (.c a19) 3) h20 fun a21 h22 =>
  aa PP (.ld (.c a2) 3 true) h22 fun a23 _ =>
  K a23 h22)
theorem iX (a0:D) (h0:Heap) (K:D->Heap->Prop):gx a0 h0 K=vcC PP gB.code (fun x e h'=>match x with|.exit _=>False|.pan=>False|.jump _=>False|_=>cY PP gB.res K e h') (params [a0] 0) h0:=by kernel_rfl
def fA:Nat->Option (List Nat×List Nat)
  | 1=>some ([0],[2])|_=>none
def gK:Nat->Option (List Nat×List Nat×List Nat)
  | _=>none
noncomputable def eN:af:=⟨12,gW (cFn PP true bl fA (cDr PP 12 gK)),
  []⟩
theorem o9:cFn PP true bl fA (cDr PP 12 gK)=some eN:=by kernel_rfl
def gz (a4:D) (h3:Heap) (a0:D) (K:D->Heap->Prop):Prop :=
  ∃(I5:Nat->List D->Heap->Prop) (n₀:Nat),I5 n₀ [a4] h3/\∀(n6:Nat) (f7:Nat->D) (h8:Heap),I5 n6 [f7 2] h8 ->
  vbin .gtr (f7 2) (.int .i64 0) fun a9 =>
  vcond a9 (ai PP de [a0] h8 fun a10 h11 =>
  vbin .sub (f7 2) (.int .i64 1) fun a12 =>
  bR [a0] [a0]/\∃m,m<n6/\I5 m [a12] h11) (
  K (.tup []) h8)
def jI (a0:D) (h0:Heap) (K:D->Heap->Prop):Prop :=
  ai PP ah [a0] h0 fun a2 h3 =>
  vbin .rem a2 (.int .i64 5) fun a4 =>
  gz a4 h3 a0 K
theorem o0 (a0:D) (h0:Heap) (K:D->Heap->Prop):jI a0 h0 K=vcC PP eN.code (fun x e h'=>match x with|.exit _=>False|.pan=>False|.jump _=>False|_=>cY PP eN.res K e h') (params [a0] 0) h0:=by kernel_rfl
def wR:Nat->Option (List Nat×List Nat)
  | 1000017=>some ([4,5],[])|3=>some ([2,4,5,21,22],[23])|1000016=>some ([2,4,5,21,22,23],[])|1000010=>some ([2,4,5,7,21,22,23],[29])|_=>none
def Ai:Nat->Option (List Nat×List Nat×List Nat)
  | _=>none
def iD:af:=⟨58,
  .seq (.reg [⟨(some 2),.box (.t 0),none⟩,
    ⟨(some 4),.alloc (.agg [(.int .i64 0),(.int .i64 0),(.int .i64 0)]),none⟩]) <|
  .seq (.reg [⟨(some 8),.fadd (.t 2) 7,none⟩,
    ⟨(some 9),.ld (.t 8) 1 false,none⟩,
    ⟨(some 10),.mov (.t 1),none⟩,
    ⟨(some 11),.iadd (.t 9) (.t 10) 14,none⟩,
    ⟨(some 12),.fadd (.t 11) 0,none⟩,
    ⟨(some 13),.ld (.t 12) 1 false,none⟩,
    ⟨(some 14),.len (.t 13),none⟩,
    ⟨(some 15),.bld [(.int .i64 0),(.int .i64 0),(.int .i64 0)] [(0,1,(.t 14))],none⟩,
    ⟨(some 5),.alloc (.agg [(.int .i64 0),(.int .i64 0),(.int .i64 0)]),none⟩,
    ⟨none,.st (.t 5) (.t 15) 3,none⟩]) <|
  .seqj [4,5] [] (.seq (.reg [⟨(some 16),.fadd (.t 2) 7,none⟩,
    ⟨(some 17),.ld (.t 16) 1 false,none⟩,
    ⟨(some 18),.mov (.t 1),none⟩,
    ⟨(some 19),.iadd (.t 17) (.t 18) 14,none⟩,
    ⟨(some 20),.fadd (.t 19) 0,none⟩,
    ⟨(some 21),.ld (.t 20) 1 false,none⟩,
    ⟨(some 22),.len (.t 21),none⟩,
    ⟨(some 23),.mov (.c (.int .i64 0)),none⟩]) <|
  .block 0 (.loop [2,4,5,21,22] [23] (.seq (.reg [⟨(some 24),.bin .lss (.t 23) (.t 22),none⟩]) <|
  .seq (.cond (.t 24) (.skip) (.exit 0)) <|
  .seqj [2,4,5,21,22,23] [] (.block 1 (.seq (.reg [⟨(some 25),.iadd (.t 21) (.t 23) 15,none⟩,
    ⟨(some 26),.ld (.t 25) 15 true,none⟩,
    ⟨(some 7),.alloc (.agg [(.int .i64 0),(.int .i64 0),(.int .i64 0),(.int .i64 0),(.int .i64 0),(.int .i32 0),(.int .i64 0),(.int .i64 0),(.int .i32 0),(.int .i64 0),(.int .i64 0),(.int .i32 0),(.int .i64 0),(.int .i64 0),(.int .i32 0)]),none⟩,
    ⟨none,.st (.t 7) (.t 26) 15,none⟩]) <|
  .seq (.reg [⟨(some 27),.fadd (.t 7) 0,none⟩,
    ⟨(some 28),.ld (.t 27) 1 false,none⟩]) <|
  .block 2 (.seqj [2,4,5,7,21,22,23] [29] (.seq (.reg [⟨(some 30),.bin .eql (.t 28) (.c (.int .i64 7)),none⟩,
    ⟨(some 29),.mov (.t 30),none⟩]) <|
  .cond (.t 29) (.skip) (.seq (.reg [⟨(some 31),.bin .eql (.t 28) (.c (.int .i64 8)),none⟩,
    ⟨(some 29),.mov (.t 31),none⟩]) <|
  .cond (.t 29) (.skip) (.reg [⟨(some 32),.bin .eql (.t 28) (.c (.int .i64 9)),none⟩,
    ⟨(some 29),.mov (.t 32),none⟩]))) <|
  .cond (.t 29) (.seq (.reg [⟨(some 33),.fadd (.t 2) 5,none⟩,
    ⟨(some 34),.ld (.t 33) 1 false,none⟩,
    ⟨(some 35),.fadd (.t 7) 2,none⟩,
    ⟨(some 36),.ld (.t 35) 1 false,none⟩,
    ⟨(some 37),.iadd (.t 34) (.t 36) 4,none⟩,
    ⟨(some 38),.fadd (.t 37) 1,none⟩,
    ⟨(some 39),.ld (.t 38) 1 false,none⟩]) <|
  .block 3 (.seq (.reg [⟨(some 41),.bin .eql (.t 39) (.c (.int .i64 1)),none⟩,
    ⟨(some 40),.mov (.t 41),none⟩]) <|
  .cond (.t 40) (.seq (.reg [⟨(some 42),.fadd (.t 5) 2,none⟩,
    ⟨(some 43),.ld (.t 42) 1 false,none⟩,
    ⟨(some 44),.bin .add (.t 43) (.c (.int .i64 1)),none⟩,
    ⟨(some 45),.fadd (.t 5) 2,none⟩,
    ⟨none,.st (.t 45) (.t 44) 1,none⟩]) <|
  .reg [⟨(some 46),.fadd (.t 5) 1,none⟩,
    ⟨(some 47),.ld (.t 46) 1 false,none⟩,
    ⟨(some 48),.bin .add (.t 47) (.c (.int .i64 1)),none⟩,
    ⟨(some 49),.fadd (.t 5) 1,none⟩,
    ⟨none,.st (.t 49) (.t 48) 1,none⟩]) (.seq (.reg [⟨(some 51),.bin .eql (.t 39) (.c (.int .i64 2)),none⟩,
    ⟨(some 50),.mov (.t 51),none⟩]) <|
  .cond (.t 50) (.reg [⟨(some 52),.fadd (.t 5) 1,none⟩,
    ⟨(some 53),.ld (.t 52) 1 false,none⟩,
    ⟨(some 54),.bin .add (.t 53) (.c (.int .i64 1)),none⟩,
    ⟨(some 55),.fadd (.t 5) 1,none⟩,
    ⟨none,.st (.t 55) (.t 54) 1,none⟩]) (.skip)))) (.skip)))) <|
  .reg [⟨(some 56),.bin .add (.t 23) (.c (.int .i64 1)),none⟩,
    ⟨(some 23),.mov (.t 56),none⟩]))) <|
  .seq (.reg [⟨(some 57),.ld (.t 5) 3 true,none⟩,
    ⟨none,.st (.t 4) (.t 57) 3,none⟩]) <|
  .ret,
  [.cell 4 3 true]⟩
theorem nU:cFn PP true eS wR (cDr PP 58 Ai)=some iD:=by kernel_rfl
def nx (h41:Heap) (a42:D) (a3:D) (a5:D) (a20:D) (a40:D) (J24:List D->Heap->Prop):Prop :=
  ∃(I43:Nat->List D->Heap->Prop) (n₀:Nat),I43 n₀ [(.int .i64 0)] h41/\∀(n44:Nat) (f45:Nat->D) (h46:Heap),I43 n44 [f45 23] h46 ->
  vbin .lss (f45 23) a42 fun a47 =>
  vcond a47 (∃(J48:List D->Heap->Prop),(∀(f49:Nat->D) (h50:Heap),J48 [] h50 ->
  vbin .add (f45 23) (.int .i64 1) fun a51 =>
  bR [a3,a5,a20,a40,a42] [a3,a5,a20,a40,a42]/\∃m,m<n44/\I43 m [a51] h50) /\
  aa PP (.iadd (.c a40) (.c (f45 23)) 15) h46 fun a52 h53 =>
  aa PP (.ld (.c a52) 15 true) h53 fun a54 h55 =>
  aa PP (.alloc (.agg [(.int .i64 0),(.int .i64 0),(.int .i64 0),(.int .i64 0),(.int .i64 0),(.int .i32 0),(.int .i64 0),(.int .i64 0),(.int .i32 0),(.int .i64 0),(.int .i64 0),(.int .i32 0),(.int .i64 0),(.int .i64 0),(.int .i32 0)])) h55 fun a56 h57 =>
  aa PP (.st (.c a56) (.c a54) 15) h57 fun a58 h59 =>
  aa PP (.fadd (.c a56) 0) h59 fun a60 h61 =>
  aa PP (.ld (.c a60) 1 false) h61 fun a62 h63 =>
  ∃(J64:List D->Heap->Prop),(∀(f65:Nat->D) (h66:Heap),J64 [f65 29] h66 ->
  vcond (f65 29) (aa PP (.fadd (.c a3) 5) h66 fun a67 h68 =>
  aa PP (.ld (.c a67) 1 false) h68 fun a69 h70 =>
  aa PP (.fadd (.c a56) 2) h70 fun a71 h72 =>
  aa PP (.ld (.c a71) 1 false) h72 fun a73 h74 =>
  aa PP (.iadd (.c a69) (.c a73) 4) h74 fun a75 h76 =>
  aa PP (.fadd (.c a75) 1) h76 fun a77 h78 =>
  aa PP (.ld (.c a77) 1 false) h78 fun a79 h80 =>
  vbin .eql a79 (.int .i64 1) fun a81 =>
  vcond a81 (aa PP (.fadd (.c a20) 2) h80 fun a82 h83 =>
  aa PP (.ld (.c a82) 1 false) h83 fun a84 h85 =>
  vbin .add a84 (.int .i64 1) fun a86 =>
  aa PP (.fadd (.c a20) 2) h85 fun a87 h88 =>
  aa PP (.st (.c a87) (.c a86) 1) h88 fun a89 h90 =>
  aa PP (.fadd (.c a20) 1) h90 fun a91 h92 =>
  aa PP (.ld (.c a91) 1 false) h92 fun a93 h94 =>
  vbin .add a93 (.int .i64 1) fun a95 =>
  aa PP (.fadd (.c a20) 1) h94 fun a96 h97 =>
  aa PP (.st (.c a96) (.c a95) 1) h97 fun a98 h99 =>
  bR [a3,a5,a20,a40,a42,(f45 23)] [a3,a5,a20,a40,a42,(f45 23)]/\J48 [] h99) (
  vbin .eql a79 (.int .i64 2) fun a100 =>
  vcond a100 (aa PP (.fadd (.c a20) 1) h80 fun a101 h102 =>
  aa PP (.ld (.c a101) 1 false) h102 fun a103 h104 =>
  vbin .add a103 (.int .i64 1) fun a105 =>
  aa PP (.fadd (.c a20) 1) h104 fun a106 h107 =>
  aa PP (.st (.c a106) (.c a105) 1) h107 fun a108 h109 =>
  bR [a3,a5,a20,a40,a42,(f45 23)] [a3,a5,a20,a40,a42,(f45 23)]/\J48 [] h109) (
  bR [a3,a5,a20,a40,a42,(f45 23)] [a3,a5,a20,a40,a42,(f45 23)]/\J48 [] h80))) (
  bR [a3,a5,a20,a40,a42,(f45 23)] [a3,a5,a20,a40,a42,(f45 23)]/\J48 [] h66)) /\
  vbin .eql a62 (.int .i64 7) fun a110 =>
  vcond a110 (bR [a3,a5,a20,a56,a40,a42,(f45 23)] [a3,a5,a20,a56,a40,a42,(f45 23)]/\J64 [a110] h63) (
  vbin .eql a62 (.int .i64 8) fun a111 =>
  vcond a111 (bR [a3,a5,a20,a56,a40,a42,(f45 23)] [a3,a5,a20,a56,a40,a42,(f45 23)]/\J64 [a111] h63) (
  vbin .eql a62 (.int .i64 9) fun a112 =>
  bR [a3,a5,a20,a56,a40,a42,(f45 23)] [a3,a5,a20,a56,a40,a42,(f45 23)]/\J64 [a112] h63))) (
  bR [a5,a20] [a5,a20]/\J24 [] h46)
def tW (a0:D) (a1:D) (h0:Heap) (K:D->Heap->Prop):Prop :=
  aa PP (.box (.c a0)) h0 fun a3 h4 =>
  aa PP (.alloc (.agg [(.int .i64 0),(.int .i64 0),(.int .i64 0)])) h4 fun a5 h6 =>
  aa PP (.fadd (.c a3) 7) h6 fun a7 h8 =>
  aa PP (.ld (.c a7) 1 false) h8 fun a9 h10 =>
  aa PP (.iadd (.c a9) (.c a1) 14) h10 fun a11 h12 =>
  aa PP (.fadd (.c a11) 0) h12 fun a13 h14 =>
  aa PP (.ld (.c a13) 1 false) h14 fun a15 h16 =>
  cJ a15 h16 fun a17 =>
  aa PP (.bld [(.int .i64 0),(.int .i64 0),(.int .i64 0)] [(0,1,(.c a17))]) h16 fun a18 h19 =>
  aa PP (.alloc (.agg [(.int .i64 0),(.int .i64 0),(.int .i64 0)])) h19 fun a20 h21 =>
  aa PP (.st (.c a20) (.c a18) 3) h21 fun a22 h23 =>
  ∃(J24:List D->Heap->Prop),(∀(f25:Nat->D) (h26:Heap),J24 [] h26 ->
  aa PP (.ld (.c a20) 3 true) h26 fun a27 h28 =>
  aa PP (.st (.c a5) (.c a27) 3) h28 fun a29 h30 =>
  aa PP (.ld (.c a5) 3 true) h30 fun a31 _ =>
  K a31 h30) /\
  aa PP (.fadd (.c a3) 7) h23 fun a32 h33 =>
  aa PP (.ld (.c a32) 1 false) h33 fun a34 h35 =>
  aa PP (.iadd (.c a34) (.c a1) 14) h35 fun a36 h37 =>
  aa PP (.fadd (.c a36) 0) h37 fun a38 h39 =>
  aa PP (.ld (.c a38) 1 false) h39 fun a40 h41 =>
  cJ a40 h41 fun a42 =>
  nx h41 a42 a3 a5 a20 a40 J24
theorem yQ (a0:D) (a1:D) (h0:Heap) (K:D->Heap->Prop):tW a0 a1 h0 K=vcC PP iD.code (fun x e h'=>match x with|.exit _=>False|.pan=>False|.jump _=>False|_=>cY PP iD.res K e h') (params [a0,a1] 0) h0:=by kernel_rfl
def mY:Nat->Option (List Nat×List Nat)
  | 1000011=>some ([4,5],[])|3=>some ([1,2,4,5],[6])|_=>none
def qB:Nat->Option (List Nat×List Nat×List Nat)
  | 6=>some ([0,1,0,0,12,28,0,64,252,511,1023,2047],[11],[])|7=>some ([0,1,0,0,12,28,0,124,255,511,1023],[10],[])|8=>some ([0,1,0,0,12,28,0,0,192,508,1023,2047,4095],[12],[])|9=>some ([0,1,0,0,12,28,0,0,192,508,1023,2047,4095],[12],[])|_=>none
noncomputable def o5:af:=⟨69,gW (cFn PP true kg mY (cDr PP 69 qB)),
  [.cell 4 4 true]⟩
theorem AI:cFn PP true kg mY (cDr PP 69 qB)=some o5:=by kernel_rfl
def pH (h12:Heap) (a3:D) (a9:D) (a1:D) (a5:D) (J13:List D->Heap->Prop):Prop :=
  ∃(I21:Nat->List D->Heap->Prop) (n₀:Nat),I21 n₀ [(.int .i64 0)] h12/\∀(n22:Nat) (f23:Nat->D) (h24:Heap),I21 n22 [f23 6] h24 ->
  aa PP (.fadd (.c a3) 7) h24 fun a25 h26 =>
  aa PP (.ld (.c a25) 1 false) h26 fun a27 h28 =>
  cJ a27 h28 fun a29 =>
  vbin .lss (f23 6) a29 fun a30 =>
  vcond a30 (aa PP (.fadd (.c a3) 7) h28 fun a31 h32 =>
  aa PP (.ld (.c a31) 1 false) h32 fun a33 h34 =>
  aa PP (.iadd (.c a33) (.c (f23 6)) 14) h34 fun a35 h36 =>
  aa PP (.fadd (.c a35) 0) h36 fun a37 h38 =>
  aa PP (.ld (.c a37) 1 false) h38 fun a39 h40 =>
  cJ a39 h40 fun a41 =>
  ag PP (.iadda (.c a9) (.c (.int .i64 0)) 4 1) h40 fun a42 =>
  ag PP (.ld (.c a42) 1 false) h40 fun a43 =>
  ag PP (.iadd (.c a1) (.c (f23 6)) 1) h40 fun a44 =>
  ag PP (.ld (.c a44) 1 false) h40 fun a45 =>
  vbin .add a41 (.int .i64 1) fun a46 =>
  vbin .mul a45 a46 fun a47 =>
  vbin .add a43 a47 fun a48 =>
  ag PP (.iadda (.c a9) (.c (.int .i64 0)) 4 1) h40 fun a49 =>
  aa PP (.st (.c a49) (.c a48) 1) h40 fun a50 h51 =>
  ag PP (.iadda (.c a9) (.c (.int .i64 1)) 4 1) h51 fun a52 =>
  ag PP (.ld (.c a52) 1 false) h51 fun a53 =>
  ag PP (.iadd (.c a1) (.c (f23 6)) 1) h51 fun a54 =>
  ag PP (.ld (.c a54) 1 false) h51 fun a55 =>
  vbin .mul a55 a41 fun a56 =>
  vbin .add a53 a56 fun a57 =>
  ag PP (.iadda (.c a9) (.c (.int .i64 1)) 4 1) h51 fun a58 =>
  aa PP (.st (.c a58) (.c a57) 1) h51 fun a59 h60 =>
  ag PP (.iadda (.c a9) (.c (.int .i64 2)) 4 1) h60 fun a61 =>
  ag PP (.ld (.c a61) 1 false) h60 fun a62 =>
  ag PP (.iadd (.c a1) (.c (f23 6)) 1) h60 fun a63 =>
  ag PP (.ld (.c a63) 1 false) h60 fun a64 =>
  ag PP (.ld (.c a3) 8 true) h60 fun a65 =>
  ag PP (.call du [(.c a65),(.c (f23 6)),(.c (.bool false))]) h60 fun a66 =>
  vbin .mul a64 a66 fun a67 =>
  vbin .add a62 a67 fun a68 =>
  ag PP (.iadda (.c a9) (.c (.int .i64 2)) 4 1) h60 fun a69 =>
  aa PP (.st (.c a69) (.c a68) 1) h60 fun a70 h71 =>
  ag PP (.iadda (.c a9) (.c (.int .i64 3)) 4 1) h71 fun a72 =>
  ag PP (.ld (.c a72) 1 false) h71 fun a73 =>
  ag PP (.iadd (.c a1) (.c (f23 6)) 1) h71 fun a74 =>
  ag PP (.ld (.c a74) 1 false) h71 fun a75 =>
  ag PP (.ld (.c a3) 8 true) h71 fun a76 =>
  ag PP (.call du [(.c a76),(.c (f23 6)),(.c (.bool true))]) h71 fun a77 =>
  vbin .mul a75 a77 fun a78 =>
  vbin .add a73 a78 fun a79 =>
  ag PP (.iadda (.c a9) (.c (.int .i64 3)) 4 1) h71 fun a80 =>
  aa PP (.st (.c a80) (.c a79) 1) h71 fun a81 h82 =>
  vbin .add (f23 6) (.int .i64 1) fun a83 =>
  bR [a1,a3,a5,a9] [a1,a3,a5,a9]/\∃m,m<n22/\I21 m [a83] h82) (
  bR [a5,a9] [a5,a9]/\J13 [] h28)
def w9 (a0:D) (a1:D) (h0:Heap) (K:D->Heap->Prop):Prop :=
  aa PP (.box (.c a0)) h0 fun a3 h4 =>
  aa PP (.alloc (.agg [(.int .i64 0),(.int .i64 0),(.int .i64 0),(.int .i64 0)])) h4 fun a5 h6 =>
  aa PP (.bld [(.int .i64 0),(.int .i64 0),(.int .i64 0),(.int .i64 0)] []) h6 fun a7 h8 =>
  aa PP (.alloc (.agg [(.int .i64 0),(.int .i64 0),(.int .i64 0),(.int .i64 0)])) h8 fun a9 h10 =>
  aa PP (.st (.c a9) (.c a7) 4) h10 fun a11 h12 =>
  ∃(J13:List D->Heap->Prop),(∀(f14:Nat->D) (h15:Heap),J13 [] h15 ->
  aa PP (.ld (.c a9) 4 true) h15 fun a16 h17 =>
  aa PP (.st (.c a5) (.c a16) 4) h17 fun a18 h19 =>
  aa PP (.ld (.c a5) 4 true) h19 fun a20 _ =>
  K a20 h19) /\
  pH h12 a3 a9 a1 a5 J13
theorem AF (a0:D) (a1:D) (h0:Heap) (K:D->Heap->Prop):w9 a0 a1 h0 K=vcC PP o5.code (fun x e h'=>match x with|.exit _=>False|.pan=>False|.jump _=>False|_=>cY PP o5.res K e h') (params [a0,a1] 0) h0:=by kernel_rfl
def At:Nat->Option (List Nat×List Nat)
  | _=>none
def C3:Nat->Option (List Nat×List Nat×List Nat)
  | _=>none
def zM:af:=⟨12,
  .seq (.reg [⟨(some 4),.box (.t 1),none⟩,
    ⟨(some 5),.box (.t 2),none⟩,
    ⟨(some 6),.alloc (.agg [(.int .i64 0),(.int .i64 0),(.int .i64 0),(.str ⟨#[]⟩),(.int .i32 0),.nil]),none⟩]) <|
  .seq (.reg [⟨(some 7),.mov (.t 0),none⟩,
    ⟨(some 8),.ld (.t 4) 6 true,none⟩,
    ⟨(some 9),.ld (.t 5) 6 true,none⟩,
    ⟨(some 10),.bldS true 6 2 (.agg [(.int .i64 0),(.int .i64 0),(.int .i64 0),(.str ⟨#[]⟩),(.int .i32 0),.nil]) [(0,(.t 8)),(1,(.t 9))],none⟩,
    ⟨(some 11),.bld [(.int .i64 0),(.int .i64 0),(.int .i64 0),(.str ⟨#[]⟩),(.int .i32 0),.nil] [(0,1,(.c (.int .i64 5))),(1,1,(.t 7)),(5,1,(.t 10))],none⟩,
    ⟨none,.st (.t 6) (.t 11) 6,none⟩]) <|
  .ret,
  [.cell 6 6 true]⟩
theorem CJ:cFn PP true q9 At (cDr PP 12 C3)=some zM:=by kernel_rfl
def yF:Nat->Option (List Nat×List Nat)
  | _=>none
def BE:Nat->Option (List Nat×List Nat×List Nat)
  | _=>none
def xK:af:=⟨5,
  .seq (.reg [⟨(some 2),.alloc (.agg [(.int .i64 0),(.int .i64 0),(.int .i64 0),(.str ⟨#[]⟩),(.int .i32 0),.nil]),none⟩]) <|
  .seq (.reg [⟨(some 3),.mov (.t 0),none⟩,
    ⟨(some 4),.bld [(.int .i64 0),(.int .i64 0),(.int .i64 0),(.str ⟨#[]⟩),(.int .i32 0),.nil] [(0,1,(.c (.int .i64 2))),(3,1,(.t 3))],none⟩,
    ⟨none,.st (.t 2) (.t 4) 6,none⟩]) <|
  .ret,
  [.cell 2 6 true]⟩
theorem A3:cFn PP true oC yF (cDr PP 5 BE)=some xK:=by kernel_rfl
def Au:Nat->Option (List Nat×List Nat)
  | _=>none
def C4:Nat->Option (List Nat×List Nat×List Nat)
  | _=>none
def zN:af:=⟨5,
  .seq (.reg [⟨(some 2),.alloc (.agg [(.int .i64 0),(.int .i64 0),(.int .i64 0),(.str ⟨#[]⟩),(.int .i32 0),.nil]),none⟩]) <|
  .seq (.reg [⟨(some 3),.mov (.t 0),none⟩,
    ⟨(some 4),.bld [(.int .i64 0),(.int .i64 0),(.int .i64 0),(.str ⟨#[]⟩),(.int .i32 0),.nil] [(0,1,(.c (.int .i64 1))),(2,1,(.c (.int .i64 1))),(4,1,(.t 3))],none⟩,
    ⟨none,.st (.t 2) (.t 4) 6,none⟩]) <|
  .ret,
  [.cell 2 6 true]⟩
theorem CM:cFn PP true lJ Au (cDr PP 5 C4)=some zN:=by kernel_rfl
def wA:Nat->Option (List Nat×List Nat)
  | _=>none
def zU:Nat->Option (List Nat×List Nat×List Nat)
  | _=>none
def tY:af:=⟨41,
  .seq (.reg [⟨(some 1),.box (.t 0),none⟩,
    ⟨(some 2),.alloc (.agg [(.int .i64 0),(.int .i64 0),(.int .i64 0),(.int .i64 0),(.int .i64 0),.nil,.nil,.nil,(.int .i64 0)]),none⟩]) <|
  .seq (.reg [⟨(some 5),.ld (.t 1) 7 true,none⟩,
    ⟨(some 6),.call tF [(.t 5)],none⟩,
    ⟨(some 3),.mov (.t 6),none⟩]) <|
  .seq (.seq (.reg [⟨(some 7),.mov (.t 3),none⟩,
    ⟨(some 8),.bin .neq (.t 7) (.c (.int .i64 0)),none⟩]) <|
  .cond (.t 8) (.seq (.reg [⟨(some 9),.mov (.t 3),none⟩,
    ⟨(some 10),.bld [(.int .i64 0),(.int .i64 0),(.int .i64 0),(.int .i64 0),(.int .i64 0),.nil,.nil,.nil,(.int .i64 0)] [(8,1,(.t 9))],none⟩,
    ⟨none,.st (.t 2) (.t 10) 9,none⟩]) <|
  .ret) (.skip)) <|
  .seq (.reg [⟨(some 11),.ld (.t 1) 7 true,none⟩,
    ⟨(some 12),.fadd (.t 1) 1,none⟩,
    ⟨(some 13),.ld (.t 12) 1 false,none⟩,
    ⟨(some 14),.fadd (.t 1) 2,none⟩,
    ⟨(some 15),.ld (.t 14) 1 false,none⟩,
    ⟨(some 16),.fadd (.t 1) 4,none⟩,
    ⟨(some 17),.ld (.t 16) 1 false,none⟩,
    ⟨(some 18),.len (.t 17),none⟩,
    ⟨(some 19),.fadd (.t 1) 3,none⟩,
    ⟨(some 20),.ld (.t 19) 1 false,none⟩,
    ⟨(some 21),.bld [(.int .i64 0),(.int .i64 0),(.int .i64 0),(.int .i64 0),(.int .i64 0),.nil,.nil,.nil] [(0,1,(.t 13)),(1,1,(.t 15)),(4,1,(.t 18)),(5,1,(.t 20))],none⟩,
    ⟨(some 22),.bld [(.str ⟨#[]⟩),(.int .i64 0),(.int .i64 0),.nil,.nil,.nil,.nil,(.int .i64 0),(.int .i64 0),(.int .i64 0),(.int .i64 0),(.int .i64 0),.nil,.nil,.nil,(.int .i64 0),.nil,(.bool false),(.int .i64 0),(.int .i64 0),(.int .i64 0)] [(0,7,(.t 11)),(7,8,(.t 21))],none⟩,
    ⟨(some 23),.box (.t 22),none⟩,
    ⟨(some 4),.mov (.t 23),none⟩]) <|
  .seq (.reg [⟨(some 24),.mov (.t 4),none⟩,
    ⟨(some 25),.mov (.t 4),none⟩,
    ⟨(some 26),.call bc [(.t 25)],none⟩,
    ⟨(some 27),.fadd (.t 24) 0,none⟩,
    ⟨(some 28),.fadd (.t 27) 15,none⟩,
    ⟨none,.st (.t 28) (.t 26) 1,none⟩]) <|
  .seq (.reg [⟨(some 29),.mov (.t 4),none⟩,
    ⟨(some 30),.fadd (.t 1) 6,none⟩,
    ⟨(some 31),.ld (.t 30) 1 false,none⟩,
    ⟨(some 32),.call dS [(.t 29),(.t 31)],none⟩]) <|
  .seq (.seq (.reg [⟨(some 33),.mov (.t 4),none⟩,
    ⟨(some 34),.call bM [(.t 33)],none⟩]) <|
  .cond (.t 34) (.seq (.reg [⟨(some 35),.bld [(.int .i64 0),(.int .i64 0),(.int .i64 0),(.int .i64 0),(.int .i64 0),.nil,.nil,.nil,(.int .i64 0)] [(8,1,(.c (.int .i64 2)))],none⟩,
    ⟨none,.st (.t 2) (.t 35) 9,none⟩]) <|
  .ret) (.skip)) <|
  .seq (.reg [⟨(some 36),.mov (.t 4),none⟩,
    ⟨(some 37),.fadd (.t 36) 0,none⟩,
    ⟨(some 38),.fadd (.t 37) 7,none⟩,
    ⟨(some 39),.ld (.t 38) 8 true,none⟩,
    ⟨(some 40),.bld [(.int .i64 0),(.int .i64 0),(.int .i64 0),(.int .i64 0),(.int .i64 0),.nil,.nil,.nil,(.int .i64 0)] [(0,8,(.t 39))],none⟩,
    ⟨none,.st (.t 2) (.t 40) 9,none⟩]) <|
  .ret,
  [.cell 2 9 true]⟩
theorem yT:cFn PP true tD wA (cDr PP 41 zU)=some tY:=by kernel_rfl
def rE:Nat->Option (List Nat×List Nat)
  | 1000008=>some ([1,3],[])|3=>some ([1,3,29,30],[31])|1000018=>some ([1,3],[])|8=>some ([1,3,45,46],[47])|1000017=>some ([1,3,45,46,47],[])|12=>some ([1,3,6,45,46,47,62,63],[64])|1000025=>some ([3],[])|18=>some ([3,88],[89])|1000024=>some ([3,88,89],[])|_=>none
def uG:Nat->Option (List Nat×List Nat×List Nat)
  | 1=>some ([0,0,2,0,8,24,56,0,0,256,768,1926,0,8070,16383,32767,65535],[2,11,13,6,15],[999997,3])|14=>some ([0,1,3,7,0,0,32,96,224,0,992,2016,0,4096,16352,32767,65535],[14,16],[3,15])|22=>some ([0,0,2,6,14,0,32,126,255,511,1023],[6,7,10],[999999])|_=>none
def nV:af:=⟨111,
  .seq (.reg [⟨(some 1),.box (.t 0),none⟩,
    ⟨(some 2),.mov (.c .nilp),none⟩]) <|
  .seq (.seq (.dreg [⟨(some 18),.mov (.c .undef),none⟩] [] []) <|
  .seq (.dreg [⟨(some 12),.ld (.t 1) 8 true,none⟩,
    ⟨(some 13),.ld (.t 1) 8 true,none⟩,
    ⟨(some 15),.fadd (.t 1) 7,none⟩,
    ⟨(some 16),.ld (.t 15) 1 false,none⟩,
    ⟨(some 17),.len (.t 16),none⟩,
    ⟨(some 19),.bldS false 1 1 (.int .i64 0) [(0,(.c (.int .i64 (-1))))],none⟩,
    ⟨(some 20),.fadd (.t 1) 7,none⟩,
    ⟨(some 21),.ld (.t 20) 1 false,none⟩,
    ⟨(some 22),.len (.t 21),none⟩,
    ⟨(some 24),.ld (.t 1) 8 true,none⟩] [⟨none,.mkc 24 (.t 17) (.t 17),none⟩] []) <|
  .seq (.dreg [] [⟨(some 14),.call wv [(.t 13)],none⟩] [⟨(some 12),.ld (.t 1) 8 true,none⟩,
    ⟨(some 15),.fadd (.t 1) 7,none⟩,
    ⟨(some 16),.ld (.t 15) 1 false,none⟩,
    ⟨(some 17),.len (.t 16),none⟩,
    ⟨(some 20),.fadd (.t 1) 7,none⟩,
    ⟨(some 21),.ld (.t 20) 1 false,none⟩,
    ⟨(some 22),.len (.t 21),none⟩,
    ⟨(some 24),.ld (.t 1) 8 true,none⟩]) <|
  .seq (.dreg [] [⟨(some 23),.call aV [(.t 19),(.t 22)],none⟩] [⟨(some 12),.ld (.t 1) 8 true,none⟩,
    ⟨(some 15),.fadd (.t 1) 7,none⟩,
    ⟨(some 16),.ld (.t 15) 1 false,none⟩,
    ⟨(some 17),.len (.t 16),none⟩,
    ⟨(some 24),.ld (.t 1) 8 true,none⟩]) <|
  .seq (.dreg [] [⟨(some 25),.call BY [(.t 24)],none⟩] [⟨(some 12),.ld (.t 1) 8 true,none⟩,
    ⟨(some 15),.fadd (.t 1) 7,none⟩,
    ⟨(some 16),.ld (.t 15) 1 false,none⟩,
    ⟨(some 17),.len (.t 16),none⟩]) <|
  .seq (.dreg [] [⟨(some 18),.mk 1 24 .nil (.t 17) (.t 17),none⟩] [⟨(some 12),.ld (.t 1) 8 true,none⟩,
    ⟨(some 13),.ld (.t 1) 8 true,none⟩,
    ⟨(some 20),.fadd (.t 1) 7,none⟩,
    ⟨(some 21),.ld (.t 20) 1 false,none⟩,
    ⟨(some 22),.len (.t 21),none⟩,
    ⟨(some 24),.ld (.t 1) 8 true,none⟩]) <|
  .seq (.dreg [⟨(some 26),.bld [(.int .i64 0),(.int .i64 0),(.int .i64 0),(.int .i64 0),(.int .i64 0),.nil,.nil,.nil,.nil,.nil,.nil,.nil,.nil,.nil,.nil] [(0,8,(.t 12)),(8,1,(.t 14)),(9,1,(.t 18)),(10,1,(.t 23)),(11,3,(.t 25))],none⟩] [⟨(some 27),.box (.t 26),none⟩] []) <|
  .dreg [⟨(some 3),.mov (.t 27),none⟩] [] []) <|
  .seqj [1,3] [] (.seq (.reg [⟨(some 28),.ld (.t 1) 8 true,none⟩,
    ⟨(some 29),.call zw [(.t 28)],none⟩,
    ⟨(some 30),.len (.t 29),none⟩,
    ⟨(some 31),.mov (.c (.int .i64 0)),none⟩]) <|
  .block 0 (.loop [1,3,29,30] [31] (.seq (.reg [⟨(some 32),.bin .lss (.t 31) (.t 30),none⟩]) <|
  .seq (.cond (.t 32) (.skip) (.exit 0)) <|
  .seq (.block 1 (.seq (.reg [⟨(some 33),.mov (.t 31),none⟩,
    ⟨(some 34),.iadd (.t 29) (.t 31) 1,none⟩,
    ⟨(some 35),.ld (.t 34) 1 false,none⟩,
    ⟨(some 4),.mov (.t 33),none⟩,
    ⟨(some 5),.mov (.t 35),none⟩]) <|
  .reg [⟨(some 36),.mov (.t 3),none⟩,
    ⟨(some 37),.fadd (.t 36) 0,none⟩,
    ⟨(some 38),.fadd (.t 37) 10,none⟩,
    ⟨(some 39),.ld (.t 38) 1 false,none⟩,
    ⟨(some 40),.mov (.t 5),none⟩,
    ⟨(some 41),.mov (.t 4),none⟩,
    ⟨(some 42),.iadd (.t 39) (.t 40) 1,none⟩,
    ⟨none,.st (.t 42) (.t 41) 1,none⟩])) <|
  .reg [⟨(some 43),.bin .add (.t 31) (.c (.int .i64 1)),none⟩,
    ⟨(some 31),.mov (.t 43),none⟩]))) <|
  .seqj [1,3] [] (.seq (.reg [⟨(some 44),.fadd (.t 1) 7,none⟩,
    ⟨(some 45),.ld (.t 44) 1 false,none⟩,
    ⟨(some 46),.len (.t 45),none⟩,
    ⟨(some 47),.mov (.c (.int .i64 0)),none⟩]) <|
  .block 2 (.loop [1,3,45,46] [47] (.seq (.reg [⟨(some 48),.bin .lss (.t 47) (.t 46),none⟩]) <|
  .seq (.cond (.t 48) (.skip) (.exit 2)) <|
  .seqj [1,3,45,46,47] [] (.block 3 (.seq (.reg [⟨(some 49),.mov (.t 47),none⟩,
    ⟨(some 50),.iadd (.t 45) (.t 47) 14,none⟩,
    ⟨(some 51),.ld (.t 50) 14 true,none⟩,
    ⟨(some 7),.alloc (.agg [.nil,(.int .i64 0),(.int .i64 0),(.int .i64 0),(.int .i64 0),(.int .i32 0),(.int .i64 0),(.int .i64 0),(.int .i32 0),(.int .i64 0),(.int .i64 0),(.int .i32 0),(.int .i64 0),(.int .i64 0)]),none⟩,
    ⟨(some 6),.mov (.t 49),none⟩,
    ⟨none,.st (.t 7) (.t 51) 14,none⟩]) <|
  .seq (.seq (.reg [⟨(some 52),.mov (.t 3),none⟩,
    ⟨(some 53),.fadd (.t 52) 0,none⟩,
    ⟨(some 54),.fadd (.t 53) 8,none⟩,
    ⟨(some 55),.ld (.t 54) 1 false,none⟩,
    ⟨(some 56),.mov (.t 6),none⟩,
    ⟨(some 57),.iadd (.t 55) (.t 56) 1,none⟩,
    ⟨(some 58),.ld (.t 57) 1 false,none⟩,
    ⟨(some 59),.un .not (.t 58),none⟩]) <|
  .cond (.t 59) (.exit 3) (.skip)) <|
  .seq (.reg [⟨(some 60),.fadd (.t 7) 1,none⟩,
    ⟨(some 61),.ld (.t 60) 13 true,none⟩,
    ⟨(some 62),.call iR [(.t 61)],none⟩,
    ⟨(some 63),.len (.t 62),none⟩,
    ⟨(some 64),.mov (.c (.int .i64 0)),none⟩]) <|
  .block 4 (.loop [1,3,6,45,46,47,62,63] [64] (.seq (.reg [⟨(some 65),.bin .lss (.t 64) (.t 63),none⟩]) <|
  .seq (.cond (.t 65) (.skip) (.exit 4)) <|
  .seq (.block 5 (.seq (.reg [⟨(some 66),.iadd (.t 62) (.t 64) 1,none⟩,
    ⟨(some 67),.ld (.t 66) 1 false,none⟩,
    ⟨(some 9),.mov (.t 67),none⟩]) <|
  .dreg [⟨(some 68),.mov (.t 3),none⟩,
    ⟨(some 69),.fadd (.t 68) 0,none⟩,
    ⟨(some 70),.fadd (.t 69) 9,none⟩,
    ⟨(some 71),.ld (.t 70) 1 false,none⟩,
    ⟨(some 72),.mov (.t 9),none⟩,
    ⟨(some 73),.mov (.t 3),none⟩,
    ⟨(some 74),.fadd (.t 73) 0,none⟩,
    ⟨(some 75),.fadd (.t 74) 9,none⟩,
    ⟨(some 76),.ld (.t 75) 1 false,none⟩,
    ⟨(some 77),.mov (.t 9),none⟩,
    ⟨(some 78),.iadd (.t 76) (.t 77) 1,none⟩,
    ⟨(some 79),.ld (.t 78) 1 false,none⟩,
    ⟨(some 80),.mov (.t 6),none⟩,
    ⟨(some 81),.bldS false 1 1 (.int .i64 0) [(0,(.t 80))],none⟩,
    ⟨(some 83),.iadd (.t 71) (.t 72) 1,none⟩] [⟨(some 82),.app (.t 79) (.t 81) 1 8 (.int .i64 0),none⟩,
    ⟨none,.st (.t 83) (.t 82) 1,none⟩] [⟨(some 71),.ld (.t 70) 1 false,none⟩,
    ⟨(some 83),.iadd (.t 71) (.t 72) 1,none⟩])) <|
  .reg [⟨(some 84),.bin .add (.t 64) (.c (.int .i64 1)),none⟩,
    ⟨(some 64),.mov (.t 84),none⟩])))) <|
  .reg [⟨(some 85),.bin .add (.t 47) (.c (.int .i64 1)),none⟩,
    ⟨(some 47),.mov (.t 85),none⟩]))) <|
  .seqj [3] [] (.seq (.reg [⟨(some 86),.fadd (.t 1) 7,none⟩,
    ⟨(some 87),.ld (.t 86) 1 false,none⟩,
    ⟨(some 88),.len (.t 87),none⟩,
    ⟨(some 89),.mov (.c (.int .i64 0)),none⟩]) <|
  .block 6 (.loop [3,88] [89] (.seq (.reg [⟨(some 90),.bin .lss (.t 89) (.t 88),none⟩]) <|
  .seq (.cond (.t 90) (.skip) (.exit 6)) <|
  .seqj [3,88,89] [] (.block 7 (.seq (.reg [⟨(some 91),.mov (.t 89),none⟩,
    ⟨(some 10),.mov (.t 91),none⟩]) <|
  .seq (.reg [⟨(some 92),.mov (.t 3),none⟩,
    ⟨(some 93),.mov (.t 10),none⟩,
    ⟨(some 94),.call kJ [(.t 92),(.t 93)],none⟩,
    ⟨(some 11),.alloc (.agg [(.int .i64 0),.nil,.nil,(.int .i64 0),(.int .i64 0),(.int .i64 0)]),none⟩,
    ⟨none,.st (.t 11) (.t 94) 6,none⟩]) <|
  .seq (.reg [⟨(some 95),.fadd (.t 11) 1,none⟩,
    ⟨(some 96),.ld (.t 95) 1 false,none⟩,
    ⟨(some 97),.len (.t 96),none⟩,
    ⟨(some 98),.bin .gtr (.t 97) (.c (.int .i64 0)),none⟩]) <|
  .cond (.t 98) (.seq (.dreg [⟨(some 99),.mov (.t 3),none⟩,
    ⟨(some 100),.mov (.t 3),none⟩,
    ⟨(some 101),.fadd (.t 100) 0,none⟩,
    ⟨(some 102),.fadd (.t 101) 14,none⟩,
    ⟨(some 103),.ld (.t 102) 1 false,none⟩,
    ⟨(some 104),.ld (.t 11) 6 true,none⟩] [⟨(some 105),.bldS true 6 1 (.agg [(.int .i64 0),.nil,.nil,(.int .i64 0),(.int .i64 0),(.int .i64 0)]) [(0,(.t 104))],none⟩] [⟨(some 101),.fadd (.t 100) 0,none⟩,
    ⟨(some 102),.fadd (.t 101) 14,none⟩,
    ⟨(some 103),.ld (.t 102) 1 false,none⟩]) <|
  .seq (.dreg [] [⟨(some 106),.app (.t 103) (.t 105) 6 80 (.agg [(.int .i64 0),.nil,.nil,(.int .i64 0),(.int .i64 0),(.int .i64 0)]),none⟩] []) <|
  .seq (.dreg [⟨(some 107),.fadd (.t 99) 0,none⟩,
    ⟨(some 108),.fadd (.t 107) 14,none⟩] [⟨none,.st (.t 108) (.t 106) 1,none⟩] []) <|
  .dreg [] [] []) (.skip))) <|
  .reg [⟨(some 109),.bin .add (.t 89) (.c (.int .i64 1)),none⟩,
    ⟨(some 89),.mov (.t 109),none⟩]))) <|
  .seq (.reg [⟨(some 110),.mov (.t 3),none⟩,
    ⟨(some 2),.mov (.t 110),none⟩]) <|
  .ret,
  [.t 2]⟩
theorem tt:cFn PP true iq rE (cDr PP 111 uG)=some nV:=by kernel_rfl
def lA:Nat->Option (List Nat×List Nat)
  | 9000002=>some ([0],[])|1000018=>some ([],[])|4=>some ([0,17],[18])|1000016=>some ([],[])|8=>some ([0,4,17,18,31,32],[33])|_=>none
def mR:Nat->Option (List Nat×List Nat×List Nat)
  | 10=>some ([0,1,0,4,12,28,63],[],[])|_=>none
def hQ:af:=⟨69,
  .seq (.reg [⟨(some 2),.mov (.c (.bool false)),none⟩]) <|
  .scope 0 [0] [] (.seq (.seq (.reg [⟨(some 7),.mov (.t 0),none⟩,
    ⟨(some 8),.fadd (.t 7) 0,none⟩,
    ⟨(some 9),.fadd (.t 8) 0,none⟩,
    ⟨(some 10),.ld (.t 9) 8 true,none⟩,
    ⟨(some 11),.call pB [(.t 10)],none⟩,
    ⟨(some 12),.un .not (.t 11),none⟩]) <|
  .cond (.t 12) (.seq (.reg [⟨(some 2),.mov (.c (.bool false)),none⟩]) <|
  .ret) (.skip)) <|
  .seq (.label 0) <|
  .seqj [] [] (.seq (.reg [⟨(some 13),.mov (.t 0),none⟩,
    ⟨(some 14),.fadd (.t 13) 0,none⟩,
    ⟨(some 15),.fadd (.t 14) 14,none⟩,
    ⟨(some 16),.ld (.t 15) 1 false,none⟩,
    ⟨(some 17),.len (.t 16),none⟩,
    ⟨(some 18),.mov (.c (.int .i64 0)),none⟩]) <|
  .block 0 (.loop [0,17] [18] (.seq (.reg [⟨(some 19),.bin .lss (.t 18) (.t 17),none⟩]) <|
  .seq (.cond (.t 19) (.skip) (.exit 0)) <|
  .seq (.block 1 (.seq (.reg [⟨(some 20),.mov (.t 18),none⟩,
    ⟨(some 3),.mov (.t 20),none⟩]) <|
  .seq (.reg [⟨(some 21),.mov (.t 0),none⟩,
    ⟨(some 22),.fadd (.t 21) 0,none⟩,
    ⟨(some 23),.fadd (.t 22) 14,none⟩,
    ⟨(some 24),.ld (.t 23) 1 false,none⟩,
    ⟨(some 25),.mov (.t 3),none⟩,
    ⟨(some 26),.iadd (.t 24) (.t 25) 6,none⟩,
    ⟨(some 4),.mov (.t 26),none⟩]) <|
  .seqj [] [] (.seq (.reg [⟨(some 27),.mov (.t 0),none⟩,
    ⟨(some 28),.fadd (.t 27) 0,none⟩,
    ⟨(some 29),.fadd (.t 28) 0,none⟩,
    ⟨(some 30),.fadd (.t 29) 6,none⟩,
    ⟨(some 31),.ld (.t 30) 1 false,none⟩,
    ⟨(some 32),.len (.t 31),none⟩,
    ⟨(some 33),.mov (.c (.int .i64 0)),none⟩]) <|
  .block 2 (.loop [0,4,17,18,31,32] [33] (.seq (.reg [⟨(some 34),.bin .lss (.t 33) (.t 32),none⟩]) <|
  .seq (.cond (.t 34) (.skip) (.exit 2)) <|
  .seq (.block 3 (.seq (.reg [⟨(some 35),.iadd (.t 31) (.t 33) 3,none⟩,
    ⟨(some 36),.ld (.t 35) 3 true,none⟩,
    ⟨(some 6),.alloc (.agg [(.int .i64 0),(.int .i64 0),(.int .i64 0)]),none⟩,
    ⟨none,.st (.t 6) (.t 36) 3,none⟩]) <|
  .seq (.dreg [⟨(some 37),.fadd (.t 6) 0,none⟩,
    ⟨(some 38),.ld (.t 37) 1 false,none⟩,
    ⟨(some 39),.mov (.t 4),none⟩,
    ⟨(some 40),.fadd (.t 39) 0,none⟩,
    ⟨(some 41),.fadd (.t 40) 0,none⟩,
    ⟨(some 42),.ld (.t 41) 1 false,none⟩,
    ⟨(some 43),.bin .eql (.t 38) (.t 42),none⟩] [] []) <|
  .cond (.t 43) (.seq (.seq (.reg [⟨(some 44),.mov (.t 4),none⟩,
    ⟨(some 45),.ld (.t 6) 3 true,none⟩,
    ⟨(some 46),.fadd (.t 44) 0,none⟩,
    ⟨(some 47),.fadd (.t 46) 3,none⟩,
    ⟨none,.st (.t 47) (.t 45) 3,none⟩]) <|
  .seq (.reg [⟨(some 48),.mov (.t 0),none⟩,
    ⟨(some 49),.mov (.t 4),none⟩,
    ⟨(some 50),.fadd (.t 49) 0,none⟩,
    ⟨(some 51),.ld (.t 50) 6 true,none⟩,
    ⟨(some 52),.call eK [(.t 48),(.t 51)],none⟩,
    ⟨(some 53),.mov (.t 52),none⟩,
    ⟨(some 54),.mov (.t 0),some (53,true)⟩,
    ⟨(some 55),.mov (.t 4),some (53,true)⟩,
    ⟨(some 56),.fadd (.t 55) 0,some (53,true)⟩,
    ⟨(some 57),.ld (.t 56) 6 true,some (53,true)⟩,
    ⟨(some 58),.call eL [(.t 54),(.t 57)],some (53,true)⟩,
    ⟨(some 59),.pick (.t 53) (.t 58) (.c (.bool false)),none⟩,
    ⟨(some 60),.mov (.t 59),none⟩,
    ⟨(some 61),.mov (.t 0),some (60,true)⟩,
    ⟨(some 62),.mov (.t 4),some (60,true)⟩,
    ⟨(some 63),.fadd (.t 62) 0,some (60,true)⟩,
    ⟨(some 64),.ld (.t 63) 6 true,some (60,true)⟩,
    ⟨(some 65),.call dX [(.t 61),(.t 64)],some (60,true)⟩,
    ⟨(some 66),.pick (.t 60) (.t 65) (.c (.bool false)),none⟩]) <|
  .cond (.t 66) (.exit 1) (.skip)) <|
  .seq (.reg [⟨(some 2),.mov (.c (.bool false)),none⟩]) <|
  .ret) (.skip))) <|
  .reg [⟨(some 67),.bin .add (.t 33) (.c (.int .i64 1)),none⟩,
    ⟨(some 33),.mov (.t 67),none⟩]))) <|
  .seq (.reg [⟨(some 2),.mov (.c (.bool false)),none⟩]) <|
  .ret)) <|
  .reg [⟨(some 68),.bin .add (.t 18) (.c (.int .i64 1)),none⟩,
    ⟨(some 18),.mov (.t 68),none⟩]))) <|
  .seq (.reg [⟨(some 2),.mov (.c (.bool true)),none⟩]) <|
  .ret) (.seq (.skip) <|
  .seqj [] [] (.seq (.reg [⟨(some 13),.mov (.t 0),none⟩,
    ⟨(some 14),.fadd (.t 13) 0,none⟩,
    ⟨(some 15),.fadd (.t 14) 14,none⟩,
    ⟨(some 16),.ld (.t 15) 1 false,none⟩,
    ⟨(some 17),.len (.t 16),none⟩,
    ⟨(some 18),.mov (.c (.int .i64 0)),none⟩]) <|
  .block 0 (.loop [0,17] [18] (.seq (.reg [⟨(some 19),.bin .lss (.t 18) (.t 17),none⟩]) <|
  .seq (.cond (.t 19) (.skip) (.exit 0)) <|
  .seq (.block 1 (.seq (.reg [⟨(some 20),.mov (.t 18),none⟩,
    ⟨(some 3),.mov (.t 20),none⟩]) <|
  .seq (.reg [⟨(some 21),.mov (.t 0),none⟩,
    ⟨(some 22),.fadd (.t 21) 0,none⟩,
    ⟨(some 23),.fadd (.t 22) 14,none⟩,
    ⟨(some 24),.ld (.t 23) 1 false,none⟩,
    ⟨(some 25),.mov (.t 3),none⟩,
    ⟨(some 26),.iadd (.t 24) (.t 25) 6,none⟩,
    ⟨(some 4),.mov (.t 26),none⟩]) <|
  .seqj [] [] (.seq (.reg [⟨(some 27),.mov (.t 0),none⟩,
    ⟨(some 28),.fadd (.t 27) 0,none⟩,
    ⟨(some 29),.fadd (.t 28) 0,none⟩,
    ⟨(some 30),.fadd (.t 29) 6,none⟩,
    ⟨(some 31),.ld (.t 30) 1 false,none⟩,
    ⟨(some 32),.len (.t 31),none⟩,
    ⟨(some 33),.mov (.c (.int .i64 0)),none⟩]) <|
  .block 2 (.loop [0,4,17,18,31,32] [33] (.seq (.reg [⟨(some 34),.bin .lss (.t 33) (.t 32),none⟩]) <|
  .seq (.cond (.t 34) (.skip) (.exit 2)) <|
  .seq (.block 3 (.seq (.reg [⟨(some 35),.iadd (.t 31) (.t 33) 3,none⟩,
    ⟨(some 36),.ld (.t 35) 3 true,none⟩,
    ⟨(some 6),.alloc (.agg [(.int .i64 0),(.int .i64 0),(.int .i64 0)]),none⟩,
    ⟨none,.st (.t 6) (.t 36) 3,none⟩]) <|
  .seq (.dreg [⟨(some 37),.fadd (.t 6) 0,none⟩,
    ⟨(some 38),.ld (.t 37) 1 false,none⟩,
    ⟨(some 39),.mov (.t 4),none⟩,
    ⟨(some 40),.fadd (.t 39) 0,none⟩,
    ⟨(some 41),.fadd (.t 40) 0,none⟩,
    ⟨(some 42),.ld (.t 41) 1 false,none⟩,
    ⟨(some 43),.bin .eql (.t 38) (.t 42),none⟩] [] []) <|
  .cond (.t 43) (.seq (.seq (.reg [⟨(some 44),.mov (.t 4),none⟩,
    ⟨(some 45),.ld (.t 6) 3 true,none⟩,
    ⟨(some 46),.fadd (.t 44) 0,none⟩,
    ⟨(some 47),.fadd (.t 46) 3,none⟩,
    ⟨none,.st (.t 47) (.t 45) 3,none⟩]) <|
  .seq (.reg [⟨(some 48),.mov (.t 0),none⟩,
    ⟨(some 49),.mov (.t 4),none⟩,
    ⟨(some 50),.fadd (.t 49) 0,none⟩,
    ⟨(some 51),.ld (.t 50) 6 true,none⟩,
    ⟨(some 52),.call eK [(.t 48),(.t 51)],none⟩,
    ⟨(some 53),.mov (.t 52),none⟩,
    ⟨(some 54),.mov (.t 0),some (53,true)⟩,
    ⟨(some 55),.mov (.t 4),some (53,true)⟩,
    ⟨(some 56),.fadd (.t 55) 0,some (53,true)⟩,
    ⟨(some 57),.ld (.t 56) 6 true,some (53,true)⟩,
    ⟨(some 58),.call eL [(.t 54),(.t 57)],some (53,true)⟩,
    ⟨(some 59),.pick (.t 53) (.t 58) (.c (.bool false)),none⟩,
    ⟨(some 60),.mov (.t 59),none⟩,
    ⟨(some 61),.mov (.t 0),some (60,true)⟩,
    ⟨(some 62),.mov (.t 4),some (60,true)⟩,
    ⟨(some 63),.fadd (.t 62) 0,some (60,true)⟩,
    ⟨(some 64),.ld (.t 63) 6 true,some (60,true)⟩,
    ⟨(some 65),.call dX [(.t 61),(.t 64)],some (60,true)⟩,
    ⟨(some 66),.pick (.t 60) (.t 65) (.c (.bool false)),none⟩]) <|
  .cond (.t 66) (.exit 1) (.skip)) <|
  .seq (.reg [⟨(some 2),.mov (.c (.bool false)),none⟩]) <|
  .ret) (.skip))) <|
  .reg [⟨(some 67),.bin .add (.t 33) (.c (.int .i64 1)),none⟩,
    ⟨(some 33),.mov (.t 67),none⟩]))) <|
  .seq (.reg [⟨(some 2),.mov (.c (.bool false)),none⟩]) <|
  .ret)) <|
  .reg [⟨(some 68),.bin .add (.t 18) (.c (.int .i64 1)),none⟩,
    ⟨(some 18),.mov (.t 68),none⟩]))) <|
  .seq (.reg [⟨(some 2),.mov (.c (.bool true)),none⟩]) <|
  .ret),
  [.t 2]⟩
theorem mE:cFn PP true dF lA (cDr PP 69 mR)=some hQ:=by kernel_rfl
def nj:Nat->Option (List Nat×List Nat)
  | 1000013=>some ([],[5])|5=>some ([1,19,20],[5,21])|1000012=>some ([1,19,20,21],[5])|_=>none
def p7:Nat->Option (List Nat×List Nat×List Nat)
  | _=>none
def jT:af:=⟨54,
  .seq (.reg [⟨(some 4),.mov (.c (.int .i64 0)),none⟩]) <|
  .seq (.seq (.reg [⟨(some 8),.mov (.t 0),none⟩,
    ⟨(some 9),.fadd (.t 8) 0,none⟩,
    ⟨(some 10),.fadd (.t 9) 8,none⟩,
    ⟨(some 11),.ld (.t 10) 1 false,none⟩,
    ⟨(some 12),.mov (.t 1),none⟩,
    ⟨(some 13),.iadd (.t 11) (.t 12) 1,none⟩,
    ⟨(some 14),.ld (.t 13) 1 false,none⟩,
    ⟨(some 15),.un .not (.t 14),none⟩]) <|
  .cond (.t 15) (.seq (.reg [⟨(some 4),.mov (.c (.int .i64 0)),none⟩]) <|
  .ret) (.skip)) <|
  .seq (.reg [⟨(some 5),.mov (.c (.int .i64 1)),none⟩]) <|
  .seqj [] [5] (.seq (.reg [⟨(some 16),.mov (.t 0),none⟩,
    ⟨(some 17),.fadd (.t 16) 0,none⟩,
    ⟨(some 18),.fadd (.t 17) 14,none⟩,
    ⟨(some 19),.ld (.t 18) 1 false,none⟩,
    ⟨(some 20),.len (.t 19),none⟩,
    ⟨(some 21),.mov (.c (.int .i64 0)),none⟩]) <|
  .block 0 (.loop [1,19,20] [5,21] (.seq (.reg [⟨(some 22),.bin .lss (.t 21) (.t 20),none⟩]) <|
  .seq (.cond (.t 22) (.skip) (.exit 0)) <|
  .seqj [1,19,20,21] [5] (.block 1 (.seq (.reg [⟨(some 23),.iadd (.t 19) (.t 21) 6,none⟩,
    ⟨(some 24),.ld (.t 23) 6 true,none⟩,
    ⟨(some 7),.alloc (.agg [(.int .i64 0),.nil,.nil,(.int .i64 0),(.int .i64 0),(.int .i64 0)]),none⟩,
    ⟨none,.st (.t 7) (.t 24) 6,none⟩]) <|
  .block 2 (.seq (.reg [⟨(some 31),.fadd (.t 7) 2,none⟩,
    ⟨(some 32),.ld (.t 31) 1 false,none⟩,
    ⟨(some 33),.mov (.t 1),none⟩,
    ⟨(some 34),.iadd (.t 32) (.t 33) 1,none⟩,
    ⟨(some 35),.ld (.t 34) 1 false,none⟩,
    ⟨(some 36),.un .not (.t 35),none⟩,
    ⟨(some 37),.mov (.t 36),none⟩,
    ⟨(some 38),.mov (.t 5),some (37,false)⟩,
    ⟨(some 39),.bin .gtr (.t 38) (.c (.int .i64 1099511627776)),some (37,false)⟩,
    ⟨(some 40),.pick (.t 37) (.c (.bool true)) (.t 39),none⟩,
    ⟨(some 30),.mov (.t 40),none⟩]) <|
  .cond (.t 30) (.skip) (.seq (.reg [⟨(some 42),.mov (.t 1),none⟩,
    ⟨(some 43),.fadd (.t 7) 0,none⟩,
    ⟨(some 44),.ld (.t 43) 1 false,none⟩,
    ⟨(some 45),.bin .eql (.t 42) (.t 44),none⟩,
    ⟨(some 41),.mov (.t 45),none⟩]) <|
  .cond (.t 41) (.reg [⟨(some 46),.mov (.t 5),none⟩,
    ⟨(some 47),.fadd (.t 7) 3,none⟩,
    ⟨(some 48),.fadd (.t 47) 2,none⟩,
    ⟨(some 49),.ld (.t 48) 1 false,none⟩,
    ⟨(some 50),.bin .add (.t 49) (.c (.int .i64 1)),none⟩,
    ⟨(some 51),.bin .mul (.t 46) (.t 50),none⟩,
    ⟨(some 5),.mov (.t 51),none⟩]) (.reg [⟨(some 25),.mov (.t 5),none⟩,
    ⟨(some 26),.fadd (.t 7) 3,none⟩,
    ⟨(some 27),.fadd (.t 26) 2,none⟩,
    ⟨(some 28),.ld (.t 27) 1 false,none⟩,
    ⟨(some 29),.bin .mul (.t 25) (.t 28),none⟩,
    ⟨(some 5),.mov (.t 29),none⟩]))))) <|
  .reg [⟨(some 52),.bin .add (.t 21) (.c (.int .i64 1)),none⟩,
    ⟨(some 21),.mov (.t 52),none⟩]))) <|
  .seq (.reg [⟨(some 53),.mov (.t 5),none⟩,
    ⟨(some 4),.mov (.t 53),none⟩]) <|
  .ret,
  [.t 4]⟩
theorem pn:cFn PP true eJ nj (cDr PP 54 p7)=some jT:=by kernel_rfl
def yH:Nat->Option (List Nat×List Nat)
  | 1000010=>some ([4,5],[])|3=>some ([2,4,5,11,12],[13])|_=>none
def BG:Nat->Option (List Nat×List Nat×List Nat)
  | _=>none
def xO:af:=⟨40,
  .seq (.reg [⟨(some 2),.box (.t 0),none⟩,
    ⟨(some 4),.alloc (.agg [.nil,(.int .i64 0),(.int .i64 0)]),none⟩]) <|
  .seq (.reg [⟨(some 9),.mov (.t 1),none⟩,
    ⟨(some 10),.bld [.nil,(.int .i64 0),(.int .i64 0)] [(0,1,(.t 9))],none⟩,
    ⟨(some 5),.alloc (.agg [.nil,(.int .i64 0),(.int .i64 0)]),none⟩,
    ⟨none,.st (.t 5) (.t 10) 3,none⟩]) <|
  .seqj [4,5] [] (.seq (.reg [⟨(some 11),.mov (.t 1),none⟩,
    ⟨(some 12),.len (.t 11),none⟩,
    ⟨(some 13),.mov (.c (.int .i64 0)),none⟩]) <|
  .block 0 (.loop [2,4,5,11,12] [13] (.seq (.reg [⟨(some 14),.bin .lss (.t 13) (.t 12),none⟩]) <|
  .seq (.cond (.t 14) (.skip) (.exit 0)) <|
  .seq (.block 1 (.seq (.reg [⟨(some 15),.mov (.t 13),none⟩,
    ⟨(some 16),.iadd (.t 11) (.t 13) 1,none⟩,
    ⟨(some 17),.ld (.t 16) 1 false,none⟩,
    ⟨(some 6),.mov (.t 15),none⟩,
    ⟨(some 7),.mov (.t 17),none⟩]) <|
  .seq (.reg [⟨(some 18),.ld (.t 2) 8 true,none⟩,
    ⟨(some 19),.mov (.t 6),none⟩,
    ⟨(some 20),.call eS [(.t 18),(.t 19)],none⟩,
    ⟨(some 8),.alloc (.agg [(.int .i64 0),(.int .i64 0),(.int .i64 0)]),none⟩,
    ⟨none,.st (.t 8) (.t 20) 3,none⟩]) <|
  .seq (.reg [⟨(some 21),.fadd (.t 5) 1,none⟩,
    ⟨(some 22),.ld (.t 21) 1 false,none⟩,
    ⟨(some 23),.mov (.t 7),none⟩,
    ⟨(some 24),.fadd (.t 8) 0,none⟩,
    ⟨(some 25),.ld (.t 24) 1 false,none⟩,
    ⟨(some 26),.bin .add (.t 25) (.c (.int .i64 1)),none⟩,
    ⟨(some 27),.bin .mul (.t 23) (.t 26),none⟩,
    ⟨(some 28),.bin .add (.t 22) (.t 27),none⟩,
    ⟨(some 29),.fadd (.t 5) 1,none⟩,
    ⟨none,.st (.t 29) (.t 28) 1,none⟩]) <|
  .reg [⟨(some 30),.fadd (.t 5) 2,none⟩,
    ⟨(some 31),.ld (.t 30) 1 false,none⟩,
    ⟨(some 32),.mov (.t 7),none⟩,
    ⟨(some 33),.fadd (.t 8) 1,none⟩,
    ⟨(some 34),.ld (.t 33) 1 false,none⟩,
    ⟨(some 35),.bin .mul (.t 32) (.t 34),none⟩,
    ⟨(some 36),.bin .add (.t 31) (.t 35),none⟩,
    ⟨(some 37),.fadd (.t 5) 2,none⟩,
    ⟨none,.st (.t 37) (.t 36) 1,none⟩])) <|
  .reg [⟨(some 38),.bin .add (.t 13) (.c (.int .i64 1)),none⟩,
    ⟨(some 13),.mov (.t 38),none⟩]))) <|
  .seq (.reg [⟨(some 39),.ld (.t 5) 3 true,none⟩,
    ⟨none,.st (.t 4) (.t 39) 3,none⟩]) <|
  .ret,
  [.cell 4 3 true]⟩
theorem A6:cFn PP true oD yH (cDr PP 40 BG)=some xO:=by kernel_rfl
def AA:Nat->Option (List Nat×List Nat)
  | _=>none
def Da:Nat->Option (List Nat×List Nat×List Nat)
  | _=>none
def zT:af:=⟨14,
  .seq (.reg [⟨(some 1),.box (.t 0),none⟩,
    ⟨(some 2),.mov (.c (.bool false)),none⟩]) <|
  .seq (.reg [⟨(some 3),.fadd (.t 1) 1,none⟩,
    ⟨(some 4),.ld (.t 3) 1 false,none⟩,
    ⟨(some 5),.fadd (.t 1) 2,none⟩,
    ⟨(some 6),.ld (.t 5) 1 false,none⟩,
    ⟨(some 7),.mx (.t 4) (.t 6),none⟩,
    ⟨(some 8),.bin .gtr (.t 7) (.c (.int .i64 1099511627776)),none⟩,
    ⟨(some 9),.mov (.t 8),none⟩,
    ⟨(some 10),.fadd (.t 1) 0,some (9,false)⟩,
    ⟨(some 11),.ld (.t 10) 1 false,some (9,false)⟩,
    ⟨(some 12),.call bk [(.t 11),(.c (.fn rf [] []))],some (9,false)⟩,
    ⟨(some 13),.pick (.t 9) (.c (.bool true)) (.t 12),none⟩,
    ⟨(some 2),.mov (.t 13),none⟩]) <|
  .ret,
  [.t 2]⟩
theorem CW:cFn PP true rh AA (cDr PP 14 Da)=some zT:=by kernel_rfl
def gT:Nat->Option (List Nat×List Nat)
  | _=>none
def jC:Nat->Option (List Nat×List Nat×List Nat)
  | 2=>some ([0,1,3,7,15,0,0,64,192,448,960,0,4032,8128,16320,0,32768,131008,262143,524287,1048575],[17,20],[4,18])|_=>none
noncomputable def gD:af:=⟨32,gW (cFn PP true aB gT (cDr PP 32 jC)),
  []⟩
theorem rW:cFn PP true aB gT (cDr PP 32 jC)=some gD:=by kernel_rfl
def lQ (a0:D) (a1:D) (h0:Heap) (K:D->Heap->Prop):Prop :=
  aa PP (.box (.c a1)) h0 fun a3 h4 =>
  aa PP (.fadd (.c a0) 0) h4 fun a5 h6 =>
  aa PP (.fadd (.c a5) 2) h6 fun a7 h8 =>
  aa PP (.fadd (.c a7) 7) h8 fun a9 h10 =>
  aa PP (.ld (.c a9) 1 false) h10 fun a11 h12 =>
  cJ a11 h12 fun a13 =>
  vbin .sub a13 (.int .i64 1) fun a14 =>
  ag PP (.fadd (.c a0) 0) h12 fun a15 =>
  ag PP (.fadd (.c a15) 2) h12 fun a16 =>
  ag PP (.fadd (.c a16) 7) h12 fun a17 =>
  ag PP (.ld (.c a17) 1 false) h12 fun a18 =>
  ag PP (.fadd (.c a0) 0) h12 fun a19 =>
  ag PP (.fadd (.c a19) 2) h12 fun a20 =>
  ag PP (.fadd (.c a20) 7) h12 fun a21 =>
  ag PP (.ld (.c a21) 1 false) h12 fun a22 =>
  ag PP (.iadd (.c a22) (.c a14) 14) h12 fun a23 =>
  ag PP (.fadd (.c a23) 0) h12 fun a24 =>
  ag PP (.ld (.c a24) 1 false) h12 fun a25 =>
  ag PP (.ld (.c a3) 15 true) h12 fun a26 =>
  ag PP (.bldS false 15 1 (.agg [(.int .i64 0),(.int .i64 0),(.int .i64 0),(.int .i64 0),(.int .i64 0),(.int .i32 0),(.int .i64 0),(.int .i64 0),(.int .i32 0),(.int .i64 0),(.int .i64 0),(.int .i32 0),(.int .i64 0),(.int .i64 0),(.int .i32 0)]) [(0,(.c a26))]) h12 fun a27 =>
  ag PP (.iadd (.c a18) (.c a14) 14) h12 fun a28 =>
  ag PP (.fadd (.c a28) 0) h12 fun a29 =>
  aa PP (.app (.c a25) (.c a27) 15 120 (.agg [(.int .i64 0),(.int .i64 0),(.int .i64 0),(.int .i64 0),(.int .i64 0),(.int .i32 0),(.int .i64 0),(.int .i64 0),(.int .i32 0),(.int .i64 0),(.int .i64 0),(.int .i32 0),(.int .i64 0),(.int .i64 0),(.int .i32 0)])) h12 fun a30 h31 =>
  ((ag PP (.ld (.c a17) 1 false) h31 fun a32=>bR [a32] [a18])/\(ag PP (.iadd (.c a18) (.c a14) 14) h31 fun a33=>bR [a33] [a28])/\True) /\
  aa PP (.st (.c a29) (.c a30) 1) h31 fun a34 h35 =>
  ((ag PP (.ld (.c a17) 1 false) h35 fun a36=>bR [a36] [a18])/\(ag PP (.iadd (.c a18) (.c a14) 14) h35 fun a37=>bR [a37] [a28])/\True) /\
  K (.tup []) h35
theorem rS (a0:D) (a1:D) (h0:Heap) (K:D->Heap->Prop):lQ a0 a1 h0 K=vcC PP gD.code (fun x e h'=>match x with|.exit _=>False|.pan=>False|.jump _=>False|_=>cY PP gD.res K e h') (params [a0,a1] 0) h0:=by kernel_rfl
def pD:Nat->Option (List Nat×List Nat)
  | _=>none
def tx:Nat->Option (List Nat×List Nat×List Nat)
  | _=>none
noncomputable def rX:af:=⟨5,gW (cFn PP true bO pD (cDr PP 5 tx)),
  [.cell 2 3 true]⟩
theorem CD:cFn PP true bO pD (cDr PP 5 tx)=some rX:=by kernel_rfl
def zI (a0:D) (h0:Heap) (K:D->Heap->Prop):Prop :=
  aa PP (.alloc (.agg [(.int .i64 0),(.int .i64 0),(.int .i32 0)])) h0 fun a2 h3 =>
  aa PP (.bld [(.int .i64 0),(.int .i64 0),(.int .i32 0)] [(0,1,(.c (.int .i64 2))),(1,1,(.c a0))]) h3 fun a4 h5 =>
  aa PP (.st (.c a2) (.c a4) 3) h5 fun a6 h7 =>
  aa PP (.ld (.c a2) 3 true) h7 fun a8 _ =>
  K a8 h7
theorem Cx (a0:D) (h0:Heap) (K:D->Heap->Prop):zI a0 h0 K=vcC PP rX.code (fun x e h'=>match x with|.exit _=>False|.pan=>False|.jump _=>False|_=>cY PP rX.res K e h') (params [a0] 0) h0:=by kernel_rfl
def lM:Nat->Option (List Nat×List Nat)
  | _=>none
def pt:Nat->Option (List Nat×List Nat×List Nat)
  | _=>none
noncomputable def mz:af:=⟨5,gW (cFn PP true cb lM (cDr PP 5 pt)),
  [.cell 2 3 true]⟩
theorem yV:cFn PP true cb lM (cDr PP 5 pt)=some mz:=by kernel_rfl
def tV (a0:D) (h0:Heap) (K:D->Heap->Prop):Prop :=
  aa PP (.alloc (.agg [(.int .i64 0),(.int .i64 0),(.int .i32 0)])) h0 fun a2 h3 =>
  aa PP (.bld [(.int .i64 0),(.int .i64 0),(.int .i32 0)] [(0,1,(.c (.int .i64 1))),(2,1,(.c a0))]) h3 fun a4 h5 =>
  aa PP (.st (.c a2) (.c a4) 3) h5 fun a6 h7 =>
  aa PP (.ld (.c a2) 3 true) h7 fun a8 _ =>
  K a8 h7
theorem yP (a0:D) (h0:Heap) (K:D->Heap->Prop):tV a0 h0 K=vcC PP mz.code (fun x e h'=>match x with|.exit _=>False|.pan=>False|.jump _=>False|_=>cY PP mz.res K e h') (params [a0] 0) h0:=by kernel_rfl
def gm:Nat->Option (List Nat×List Nat)
  | _=>none
def iK:Nat->Option (List Nat×List Nat×List Nat)
  | 18=>some ([0,0,0,4,12,30,62,0,0,0,524,2046,4095],[3,10,12],[999999])|21=>some ([0,0,0,4,0,30,63],[3,6],[999999])|22=>some ([0,0,0,0,8,30,63],[4,6],[999999])|_=>none
noncomputable def fp:af:=⟨133,gW (cFn PP true de gm (cDr PP 133 iK)),
  []⟩
theorem qn:cFn PP true de gm (cDr PP 133 iK)=some fp:=by kernel_rfl
def kV (a0:D) (h0:Heap) (K:D->Heap->Prop):Prop :=
  ai PP ah [a0] h0 fun a2 h3 =>
  vbin .rem a2 (.int .i64 16) fun a4 =>
  vbin .lss a4 (.int .i64 3) fun a5 =>
  vcond a5 (ai PP ah [a0] h3 fun a6 h7 =>
  vbin .rem a6 (.int .i64 7) fun a8 =>
  vbin .add (.int .i64 1) a8 fun a9 =>
  ai PP aJ [a0] h7 fun a10 h11 =>
  aa PP (.bld [(.int .i64 0),(.int .i64 0),(.int .i64 0),(.int .i64 0),(.int .i64 0),(.int .i32 0),(.int .i64 0),(.int .i64 0),(.int .i32 0),(.int .i64 0),(.int .i64 0),(.int .i32 0),(.int .i64 0),(.int .i64 0),(.int .i32 0)] [(0,1,(.c (.int .i64 5))),(1,1,(.c a9)),(3,3,(.c a10))]) h11 fun a12 h13 =>
  ai PP aB [a0,a12] h13 fun a14 h15 =>
  K (.tup []) h15) (
  vbin .lss a4 (.int .i64 7) fun a16 =>
  vcond a16 (ai PP ah [a0] h3 fun a17 h18 =>
  vbin .rem a17 (.int .i64 20) fun a19 =>
  vbin .add (.int .i64 10) a19 fun a20 =>
  ai PP aJ [a0] h18 fun a21 h22 =>
  ai PP aG [a0] h22 fun a23 h24 =>
  ai PP aG [a0] h24 fun a25 h26 =>
  aa PP (.bld [(.int .i64 0),(.int .i64 0),(.int .i64 0),(.int .i64 0),(.int .i64 0),(.int .i32 0),(.int .i64 0),(.int .i64 0),(.int .i32 0),(.int .i64 0),(.int .i64 0),(.int .i32 0),(.int .i64 0),(.int .i64 0),(.int .i32 0)] [(0,1,(.c (.int .i64 3))),(1,1,(.c a20)),(3,3,(.c a21)),(6,3,(.c a23)),(9,3,(.c a25))]) h26 fun a27 h28 =>
  ai PP aB [a0,a27] h28 fun a29 h30 =>
  K (.tup []) h30) (
  vbin .eql a4 (.int .i64 7) fun a31 =>
  vcond a31 (ai PP ah [a0] h3 fun a32 h33 =>
  vbin .rem a32 (.int .i64 5) fun a34 =>
  vbin .add (.int .i64 1) a34 fun a35 =>
  ai PP aJ [a0] h33 fun a36 h37 =>
  ai PP aG [a0] h37 fun a38 h39 =>
  aa PP (.bld [(.int .i64 0),(.int .i64 0),(.int .i64 0),(.int .i64 0),(.int .i64 0),(.int .i32 0),(.int .i64 0),(.int .i64 0),(.int .i32 0),(.int .i64 0),(.int .i64 0),(.int .i32 0),(.int .i64 0),(.int .i64 0),(.int .i32 0)] [(0,1,(.c (.int .i64 2))),(1,1,(.c a35)),(3,3,(.c a36)),(6,3,(.c a38))]) h39 fun a40 h41 =>
  ai PP aB [a0,a40] h41 fun a42 h43 =>
  K (.tup []) h43) (
  vbin .eql a4 (.int .i64 8) fun a44 =>
  vcond a44 (ai PP aJ [a0] h3 fun a45 h46 =>
  ai PP aG [a0] h46 fun a47 h48 =>
  ai PP aG [a0] h48 fun a49 h50 =>
  ai PP aG [a0] h50 fun a51 h52 =>
  aa PP (.bld [(.int .i64 0),(.int .i64 0),(.int .i64 0),(.int .i64 0),(.int .i64 0),(.int .i32 0),(.int .i64 0),(.int .i64 0),(.int .i32 0),(.int .i64 0),(.int .i64 0),(.int .i32 0),(.int .i64 0),(.int .i64 0),(.int .i32 0)] [(0,1,(.c (.int .i64 4))),(3,3,(.c a45)),(6,3,(.c a47)),(9,3,(.c a49)),(12,3,(.c a51))]) h52 fun a53 h54 =>
  ai PP aB [a0,a53] h54 fun a55 h56 =>
  K (.tup []) h56) (
  vbin .eql a4 (.int .i64 9) fun a57 =>
  vcond a57 (ai PP aJ [a0] h3 fun a58 h59 =>
  ai PP aG [a0] h59 fun a60 h61 =>
  aa PP (.bld [(.int .i64 0),(.int .i64 0),(.int .i64 0),(.int .i64 0),(.int .i64 0),(.int .i32 0),(.int .i64 0),(.int .i64 0),(.int .i32 0),(.int .i64 0),(.int .i64 0),(.int .i32 0),(.int .i64 0),(.int .i64 0),(.int .i32 0)] [(0,1,(.c (.int .i64 1))),(3,3,(.c a58)),(6,3,(.c a60))]) h61 fun a62 h63 =>
  ai PP aB [a0,a62] h63 fun a64 h65 =>
  K (.tup []) h65) (
  vbin .eql a4 (.int .i64 10) fun a66 =>
  vcond a66 (ai PP ah [a0] h3 fun a67 h68 =>
  vbin .rem a67 (.int .i64 3) fun a69 =>
  ai PP aJ [a0] h68 fun a70 h71 =>
  aa PP (.bld [(.int .i64 0),(.int .i64 0),(.int .i64 0),(.int .i64 0),(.int .i64 0),(.int .i32 0),(.int .i64 0),(.int .i64 0),(.int .i32 0),(.int .i64 0),(.int .i64 0),(.int .i32 0),(.int .i64 0),(.int .i64 0),(.int .i32 0)] [(0,1,(.c (.int .i64 6))),(2,1,(.c a69)),(3,3,(.c a70))]) h71 fun a72 h73 =>
  ai PP aB [a0,a72] h73 fun a74 h75 =>
  K (.tup []) h75) (
  vbin .eql a4 (.int .i64 11) fun a76 =>
  vcond a76 (ai PP ah [a0] h3 fun a77 h78 =>
  vbin .rem a77 (.int .i64 2) fun a79 =>
  vbin .add (.int .i64 1) a79 fun a80 =>
  aa PP (.bld [(.int .i64 0),(.int .i64 0),(.int .i64 0),(.int .i64 0),(.int .i64 0),(.int .i32 0),(.int .i64 0),(.int .i64 0),(.int .i32 0),(.int .i64 0),(.int .i64 0),(.int .i32 0),(.int .i64 0),(.int .i64 0),(.int .i32 0)] [(0,1,(.c (.int .i64 10))),(1,1,(.c a80))]) h78 fun a81 h82 =>
  ai PP aB [a0,a81] h82 fun a83 h84 =>
  K (.tup []) h84) (
  vbin .eql a4 (.int .i64 12) fun a85 =>
  vcond a85 (ai PP bZ [a0,(.bool false)] h3 fun a86 h87 =>
  aa PP (.ext (.c a86) 0) h87 fun a88 h89 =>
  aa PP (.ext (.c a86) 1) h89 fun a90 h91 =>
  aa PP (.alloc (.agg [(.int .i64 0),(.int .i64 0),(.int .i32 0)])) h91 fun a92 h93 =>
  aa PP (.st (.c a92) (.c a90) 3) h93 fun a94 h95 =>
  ag PP (.bldS false 1 6 (.int .i64 0) [(0,(.c (.int .i64 10))),(1,(.c (.int .i64 22))),(2,(.c (.int .i64 23))),(3,(.c (.int .i64 17))),(4,(.c (.int .i64 18))),(5,(.c (.int .i64 19)))]) h95 fun a96 =>
  ag PP (.ld (.c a92) 3 true) h95 fun a97 =>
  ai PP ah [a0] h95 fun a98 h99 =>
  ((ag PP (.ld (.c a92) 3 true) h99 fun a100=>bR [a100] [a97])/\True) /\
  vbin .rem a98 (.int .i64 6) fun a101 =>
  ag PP (.iadd (.c a96) (.c a101) 1) h99 fun a102 =>
  ag PP (.ld (.c a102) 1 false) h99 fun a103 =>
  ai PP aG [a0] h99 fun a104 h105 =>
  ((ag PP (.iadd (.c a96) (.c a101) 1) h105 fun a106=>bR [a106] [a102])/\(ag PP (.ld (.c a102) 1 false) h105 fun a107=>bR [a107] [a103])/\(ag PP (.ld (.c a92) 3 true) h105 fun a108=>bR [a108] [a97])/\True) /\
  ag PP (.bld [(.int .i64 0),(.int .i64 0),(.int .i64 0),(.int .i64 0),(.int .i64 0),(.int .i32 0),(.int .i64 0),(.int .i64 0),(.int .i32 0),(.int .i64 0),(.int .i64 0),(.int .i32 0),(.int .i64 0),(.int .i64 0),(.int .i32 0)] [(0,1,(.c (.int .i64 9))),(1,1,(.c a103)),(2,1,(.c a88)),(6,3,(.c a97)),(9,3,(.c a104))]) h105 fun a109 =>
  ai PP aB [a0,a109] h105 fun a110 h111 =>
  K (.tup []) h111) (
  ai PP bZ [a0,(.bool true)] h3 fun a112 h113 =>
  aa PP (.ext (.c a112) 0) h113 fun a114 h115 =>
  aa PP (.ext (.c a112) 1) h115 fun a116 h117 =>
  aa PP (.alloc (.agg [(.int .i64 0),(.int .i64 0),(.int .i32 0)])) h117 fun a118 h119 =>
  aa PP (.st (.c a118) (.c a116) 3) h119 fun a120 h121 =>
  vbin .eql a4 (.int .i64 13) fun a122 =>
  vcond a122 (ag PP (.ld (.c a118) 3 true) h121 fun a123 =>
  ai PP aJ [a0] h121 fun a124 h125 =>
  ((ag PP (.ld (.c a118) 3 true) h125 fun a126=>bR [a126] [a123])/\True) /\
  ag PP (.bld [(.int .i64 0),(.int .i64 0),(.int .i64 0),(.int .i64 0),(.int .i64 0),(.int .i32 0),(.int .i64 0),(.int .i64 0),(.int .i32 0),(.int .i64 0),(.int .i64 0),(.int .i32 0),(.int .i64 0),(.int .i64 0),(.int .i32 0)] [(0,1,(.c (.int .i64 7))),(2,1,(.c a114)),(3,3,(.c a124)),(6,3,(.c a123))]) h125 fun a127 =>
  ai PP aB [a0,a127] h125 fun a128 h129 =>
  K (.tup []) h129) (
  ag PP (.ld (.c a118) 3 true) h121 fun a130 =>
  ai PP aG [a0] h121 fun a131 h132 =>
  ((ag PP (.ld (.c a118) 3 true) h132 fun a133=>bR [a133] [a130])/\True) /\
  ag PP (.bld [(.int .i64 0),(.int .i64 0),(.int .i64 0),(.int .i64 0),(.int .i64 0),(.int .i32 0),(.int .i64 0),(.int .i64 0),(.int .i32 0),(.int .i64 0),(.int .i64 0),(.int .i32 0),(.int .i64 0),(.int .i64 0),(.int .i32 0)] [(0,1,(.c (.int .i64 8))),(2,1,(.c a114)),(6,3,(.c a130)),(9,3,(.c a131))]) h132 fun a134 =>
  ai PP aB [a0,a134] h132 fun a135 h136 =>
  K (.tup []) h136)))))))))
theorem qj (a0:D) (h0:Heap) (K:D->Heap->Prop):kV a0 h0 K=vcC PP fp.code (fun x e h'=>match x with|.exit _=>False|.pan=>False|.jump _=>False|_=>cY PP fp.res K e h') (params [a0] 0) h0:=by kernel_rfl
def jF:Nat->Option (List Nat×List Nat)
  | 1000011=>some ([],[7])|3=>some ([1,2,3],[7,8])|1000005=>some ([1,2,3,8],[7])|_=>none
def lF:Nat->Option (List Nat×List Nat×List Nat)
  | _=>none
noncomputable def jy:af:=⟨64,gW (cFn PP true du jF (cDr PP 64 lF)),
  [.t 6]⟩
theorem vt:cFn PP true du jF (cDr PP 64 lF)=some jy:=by kernel_rfl
def kS (h5:Heap) (a4:D) (a1:D) (a2:D) (J6:List D->Heap->Prop):Prop :=
  ∃(I9:Nat->List D->Heap->Prop) (n₀:Nat),I9 n₀ [(.int .i64 0),(.int .i64 0)] h5/\∀(n10:Nat) (f11:Nat->D) (h12:Heap),I9 n10 [f11 7,f11 8] h12 ->
  aa PP (.fadd (.c a4) 7) h12 fun a13 h14 =>
  aa PP (.ld (.c a13) 1 false) h14 fun a15 h16 =>
  aa PP (.iadd (.c a15) (.c a1) 14) h16 fun a17 h18 =>
  aa PP (.fadd (.c a17) 0) h18 fun a19 h20 =>
  aa PP (.ld (.c a19) 1 false) h20 fun a21 h22 =>
  cJ a21 h22 fun a23 =>
  vbin .lss (f11 8) a23 fun a24 =>
  vcond a24 (∃(J25:List D->Heap->Prop),(∀(f26:Nat->D) (h27:Heap),J25 [f26 7] h27 ->
  vbin .add (f11 8) (.int .i64 1) fun a28 =>
  bR [a1,a2,a4] [a1,a2,a4]/\∃m,m<n10/\I9 m [(f26 7),a28] h27) /\
  aa PP (.fadd (.c a4) 7) h22 fun a29 h30 =>
  aa PP (.ld (.c a29) 1 false) h30 fun a31 h32 =>
  aa PP (.iadd (.c a31) (.c a1) 14) h32 fun a33 h34 =>
  aa PP (.fadd (.c a33) 0) h34 fun a35 h36 =>
  aa PP (.ld (.c a35) 1 false) h36 fun a37 h38 =>
  aa PP (.iadd (.c a37) (.c (f11 8)) 15) h38 fun a39 h40 =>
  aa PP (.ld (.c a39) 15 true) h40 fun a41 h42 =>
  aa PP (.alloc (.agg [(.int .i64 0),(.int .i64 0),(.int .i64 0),(.int .i64 0),(.int .i64 0),(.int .i32 0),(.int .i64 0),(.int .i64 0),(.int .i32 0),(.int .i64 0),(.int .i64 0),(.int .i32 0),(.int .i64 0),(.int .i64 0),(.int .i32 0)])) h42 fun a43 h44 =>
  aa PP (.st (.c a43) (.c a41) 15) h44 fun a45 h46 =>
  aa PP (.fadd (.c a43) 0) h46 fun a47 h48 =>
  aa PP (.ld (.c a47) 1 false) h48 fun a49 h50 =>
  vbin .neq a49 (.int .i64 7) fun a51 =>
  vguard a51 true (fun G52 =>
  aa PP (.fadd (.c a43) 0) h50 fun a55 h56 =>
  G52 a55 h56) h50 fun a53 h54 =>
  vguard a51 true (fun G57 =>
  aa PP (.ld (.c a53) 1 false) h54 fun a60 h61 =>
  G57 a60 h61) h54 fun a58 h59 =>
  vguard a51 true (fun G62 =>
  vbin .neq a58 (.int .i64 8) fun a65 =>
  G62 a65 h59) h59 fun a63 h64 =>
  aa PP (.pick (.c a51) (.c a63) (.c (.bool false))) h64 fun a66 h67 =>
  vguard a66 true (fun G68 =>
  aa PP (.fadd (.c a43) 0) h67 fun a71 h72 =>
  G68 a71 h72) h67 fun a69 h70 =>
  vguard a66 true (fun G73 =>
  aa PP (.ld (.c a69) 1 false) h70 fun a76 h77 =>
  G73 a76 h77) h70 fun a74 h75 =>
  vguard a66 true (fun G78 =>
  vbin .neq a74 (.int .i64 9) fun a81 =>
  G78 a81 h75) h75 fun a79 h80 =>
  aa PP (.pick (.c a66) (.c a79) (.c (.bool false))) h80 fun a82 h83 =>
  vcond a82 (bR [a1,a2,a4,(f11 8)] [a1,a2,a4,(f11 8)]/\J25 [(f11 7)] h83) (
  aa PP (.fadd (.c a4) 5) h83 fun a84 h85 =>
  aa PP (.ld (.c a84) 1 false) h85 fun a86 h87 =>
  aa PP (.fadd (.c a43) 2) h87 fun a88 h89 =>
  aa PP (.ld (.c a88) 1 false) h89 fun a90 h91 =>
  aa PP (.iadd (.c a86) (.c a90) 4) h91 fun a92 h93 =>
  aa PP (.fadd (.c a92) 1) h93 fun a94 h95 =>
  aa PP (.ld (.c a94) 1 false) h95 fun a96 h97 =>
  vbin .eql a96 (.int .i64 1) fun a98 =>
  vguard a98 false (fun G99 =>
  G99 a2 h97) h97 fun a100 h101 =>
  vguard a98 false (fun G102 =>
  vun .not a100 fun a105 =>
  G102 a105 h101) h101 fun a103 h104 =>
  vguard a98 false (fun G106 =>
  G106 a103 h104) h104 fun a107 h108 =>
  vguard a107 true (fun G109 =>
  G109 a96 h108) h108 fun a110 h111 =>
  vguard a107 true (fun G112 =>
  vbin .eql a110 (.int .i64 2) fun a115 =>
  G112 a115 h111) h111 fun a113 h114 =>
  vguard a98 false (fun G116 =>
  aa PP (.pick (.c a107) (.c a113) (.c (.bool false))) h114 fun a119 h120 =>
  G116 a119 h120) h114 fun a117 h118 =>
  aa PP (.pick (.c a98) (.c (.bool true)) (.c a117)) h118 fun a121 h122 =>
  vcond a121 (vbin .add (f11 7) (.int .i64 1) fun a123 =>
  bR [a1,a2,a4,(f11 8)] [a1,a2,a4,(f11 8)]/\J25 [a123] h122) (
  bR [a1,a2,a4,(f11 8)] [a1,a2,a4,(f11 8)]/\J25 [(f11 7)] h122))) (
  bR [] []/\J6 [(f11 7)] h22)
def pG (a0:D) (a1:D) (a2:D) (h0:Heap) (K:D->Heap->Prop):Prop :=
  aa PP (.box (.c a0)) h0 fun a4 h5 =>
  ∃(J6:List D->Heap->Prop),(∀(f7:Nat->D) (h8:Heap),J6 [f7 7] h8 ->
  K (f7 7) h8) /\
  kS h5 a4 a1 a2 J6
theorem vr (a0:D) (a1:D) (a2:D) (h0:Heap) (K:D->Heap->Prop):pG a0 a1 a2 h0 K=vcC PP jy.code (fun x e h'=>match x with|.exit _=>False|.pan=>False|.jump _=>False|_=>cY PP jy.res K e h') (params [a0,a1,a2] 0) h0:=by kernel_rfl
def wE:Nat->Option (List Nat×List Nat)
  | 1000022=>some ([1],[])|6=>some ([1],[3])|1000017=>some ([1,3,4,5],[])|11=>some ([1,3,4,5],[6])|1000020=>some ([1,3,7],[])|_=>none
def zY:Nat->Option (List Nat×List Nat×List Nat)
  | 13=>some ([0,0,2,0,14,30,62,127],[],[])|15=>some ([0,1,0,4,0,28,60,124,0,256,0,1792,3840,7936,16380,32764,65535,131071,262143],[16,18],[])|21=>some ([0,0,2,6,0,16,48,127,0,256,1023,2047,4095],[],[])|_=>none
def uc:af:=⟨99,
  .seq (.reg [⟨(some 1),.box (.t 0),none⟩,
    ⟨(some 2),.mov (.c (.int .i64 0)),none⟩]) <|
  .seq (.seq (.reg [⟨(some 8),.ld (.t 1) 7 true,none⟩,
    ⟨(some 9),.call tK [(.t 8)],none⟩,
    ⟨(some 10),.un .not (.t 9),none⟩,
    ⟨(some 11),.mov (.t 10),none⟩,
    ⟨(some 12),.ld (.t 1) 7 true,some (11,false)⟩,
    ⟨(some 13),.call pw [(.t 12)],some (11,false)⟩,
    ⟨(some 14),.un .not (.t 13),some (11,false)⟩,
    ⟨(some 15),.pick (.t 11) (.c (.bool true)) (.t 14),none⟩]) <|
  .cond (.t 15) (.seq (.reg [⟨(some 2),.mov (.c (.int .i64 1)),none⟩]) <|
  .ret) (.skip)) <|
  .seq (.seq (.reg [⟨(some 16),.ld (.t 1) 7 true,none⟩,
    ⟨(some 17),.call mV [(.t 16)],none⟩,
    ⟨(some 18),.un .not (.t 17),none⟩]) <|
  .cond (.t 18) (.seq (.reg [⟨(some 2),.mov (.c (.int .i64 30)),none⟩]) <|
  .ret) (.skip)) <|
  .seqj [1] [] (.seq (.reg [⟨(some 3),.mov (.c (.int .i64 0)),none⟩]) <|
  .block 0 (.loop [1] [3] (.seq (.seq (.reg [⟨(some 19),.mov (.t 3),none⟩,
    ⟨(some 20),.fadd (.t 1) 5,none⟩,
    ⟨(some 21),.ld (.t 20) 1 false,none⟩,
    ⟨(some 22),.len (.t 21),none⟩,
    ⟨(some 23),.bin .lss (.t 19) (.t 22),none⟩]) <|
  .cond (.t 23) (.skip) (.exit 0)) <|
  .seq (.block 1 (.seq (.reg [⟨(some 26),.fadd (.t 1) 5,none⟩,
    ⟨(some 27),.ld (.t 26) 1 false,none⟩,
    ⟨(some 28),.mov (.t 3),none⟩,
    ⟨(some 29),.iadd (.t 27) (.t 28) 10,none⟩,
    ⟨(some 30),.ld (.t 29) 10 true,none⟩,
    ⟨(some 4),.alloc (.agg [(.str ⟨#[]⟩),.nil,(.int .i64 0),.nil,(.int .i64 0),(.int .i64 0),(.int .i64 0),(.str ⟨#[]⟩),(.int .i32 0),.nil]),none⟩,
    ⟨none,.st (.t 4) (.t 30) 10,none⟩]) <|
  .seq (.reg [⟨(some 31),.ld (.t 1) 7 true,none⟩,
    ⟨(some 32),.mov (.t 3),none⟩,
    ⟨(some 33),.bld [(.str ⟨#[]⟩),(.int .i64 0),(.int .i64 0),.nil,.nil,.nil,.nil,(.int .i64 0),.nil,(.bool false),(.bool false)] [(0,7,(.t 31)),(7,1,(.t 32)),(9,1,(.c (.bool true)))],none⟩,
    ⟨(some 5),.alloc (.agg [(.str ⟨#[]⟩),(.int .i64 0),(.int .i64 0),.nil,.nil,.nil,.nil,(.int .i64 0),.nil,(.bool false),(.bool false)]),none⟩,
    ⟨none,.st (.t 5) (.t 33) 11,none⟩]) <|
  .seqj [1,3,4,5] [] (.seq (.reg [⟨(some 6),.mov (.c (.int .i64 0)),none⟩]) <|
  .block 2 (.loop [1,3,4,5] [6] (.seq (.seq (.reg [⟨(some 34),.mov (.t 6),none⟩,
    ⟨(some 35),.fadd (.t 4) 1,none⟩,
    ⟨(some 36),.ld (.t 35) 1 false,none⟩,
    ⟨(some 37),.len (.t 36),none⟩,
    ⟨(some 38),.bin .lss (.t 34) (.t 37),none⟩]) <|
  .cond (.t 38) (.skip) (.exit 2)) <|
  .seq (.block 3 (.seq (.seq (.dreg [⟨(some 41),.ld (.t 5) 11 true,none⟩,
    ⟨(some 42),.fadd (.t 4) 1,none⟩,
    ⟨(some 43),.ld (.t 42) 1 false,none⟩,
    ⟨(some 44),.mov (.t 6),none⟩,
    ⟨(some 45),.iadd (.t 43) (.t 44) 2,none⟩,
    ⟨(some 46),.fadd (.t 45) 0,none⟩,
    ⟨(some 47),.ld (.t 46) 1 false,none⟩,
    ⟨(some 48),.call jo [(.t 41),(.t 47)],none⟩] [] []) <|
  .cond (.t 48) (.seq (.reg [⟨(some 2),.mov (.c (.int .i64 30)),none⟩]) <|
  .ret) (.skip)) <|
  .dreg [⟨(some 49),.fadd (.t 5) 8,none⟩,
    ⟨(some 50),.ld (.t 49) 1 false,none⟩,
    ⟨(some 51),.fadd (.t 4) 1,none⟩,
    ⟨(some 52),.ld (.t 51) 1 false,none⟩,
    ⟨(some 53),.mov (.t 6),none⟩,
    ⟨(some 54),.iadd (.t 52) (.t 53) 2,none⟩,
    ⟨(some 55),.fadd (.t 54) 0,none⟩,
    ⟨(some 56),.ld (.t 55) 1 false,none⟩,
    ⟨(some 57),.fadd (.t 4) 1,none⟩,
    ⟨(some 58),.ld (.t 57) 1 false,none⟩,
    ⟨(some 59),.mov (.t 6),none⟩,
    ⟨(some 60),.iadd (.t 58) (.t 59) 2,none⟩,
    ⟨(some 61),.fadd (.t 60) 1,none⟩,
    ⟨(some 62),.ld (.t 61) 1 false,none⟩,
    ⟨(some 63),.bld [(.str ⟨#[]⟩),(.int .i64 0),(.bool false)] [(0,1,(.t 56)),(1,1,(.t 62))],none⟩,
    ⟨(some 64),.bldS false 3 1 (.agg [(.str ⟨#[]⟩),(.int .i64 0),(.bool false)]) [(0,(.t 63))],none⟩,
    ⟨(some 66),.fadd (.t 5) 8,none⟩] [⟨(some 65),.app (.t 50) (.t 64) 3 32 (.agg [(.str ⟨#[]⟩),(.int .i64 0),(.bool false)]),none⟩,
    ⟨none,.st (.t 66) (.t 65) 1,none⟩] [])) <|
  .reg [⟨(some 39),.mov (.t 6),none⟩,
    ⟨(some 40),.bin .add (.t 39) (.c (.int .i64 1)),none⟩,
    ⟨(some 6),.mov (.t 40),none⟩]))) <|
  .seq (.reg [⟨(some 67),.ld (.t 5) 11 true,none⟩,
    ⟨(some 68),.fadd (.t 4) 3,none⟩,
    ⟨(some 69),.ld (.t 68) 1 false,none⟩,
    ⟨(some 70),.call bH [(.t 67),(.t 69)],none⟩,
    ⟨(some 7),.alloc (.agg [(.str ⟨#[]⟩),(.int .i64 0),(.int .i64 0),.nil,.nil,.nil,.nil,(.int .i64 0),.nil,(.bool false),(.bool false),(.int .i64 0)]),none⟩,
    ⟨none,.st (.t 7) (.t 70) 12,none⟩]) <|
  .seqj [1,3,7] [] (.seq (.reg [⟨(some 71),.fadd (.t 7) 11,none⟩,
    ⟨(some 72),.ld (.t 71) 1 false,none⟩,
    ⟨(some 73),.bin .eql (.t 72) (.c (.int .i64 0)),none⟩]) <|
  .cond (.t 73) (.reg [⟨(some 74),.fadd (.t 7) 0,none⟩,
    ⟨(some 75),.ld (.t 74) 11 true,none⟩,
    ⟨(some 76),.fadd (.t 4) 4,none⟩,
    ⟨(some 77),.ld (.t 76) 6 true,none⟩,
    ⟨(some 78),.fadd (.t 4) 2,none⟩,
    ⟨(some 79),.ld (.t 78) 1 false,none⟩,
    ⟨(some 80),.call ik [(.t 75),(.t 77),(.t 79)],none⟩,
    ⟨(some 81),.fadd (.t 7) 11,none⟩,
    ⟨none,.st (.t 81) (.t 80) 1,none⟩]) (.skip)) <|
  .seq (.reg [⟨(some 82),.fadd (.t 7) 11,none⟩,
    ⟨(some 83),.ld (.t 82) 1 false,none⟩,
    ⟨(some 84),.bin .neq (.t 83) (.c (.int .i64 0)),none⟩]) <|
  .cond (.t 84) (.seq (.reg [⟨(some 85),.fadd (.t 7) 11,none⟩,
    ⟨(some 86),.ld (.t 85) 1 false,none⟩,
    ⟨(some 2),.mov (.t 86),none⟩]) <|
  .ret) (.skip))) <|
  .reg [⟨(some 24),.mov (.t 3),none⟩,
    ⟨(some 25),.bin .add (.t 24) (.c (.int .i64 1)),none⟩,
    ⟨(some 3),.mov (.t 25),none⟩]))) <|
  .seq (.dreg [⟨(some 87),.ld (.t 1) 7 true,none⟩,
    ⟨(some 88),.fadd (.t 1) 5,none⟩,
    ⟨(some 89),.ld (.t 88) 1 false,none⟩,
    ⟨(some 90),.len (.t 89),none⟩,
    ⟨(some 91),.fadd (.t 1) 4,none⟩,
    ⟨(some 92),.ld (.t 91) 1 false,none⟩,
    ⟨(some 93),.call qV [(.t 92)],none⟩,
    ⟨(some 94),.bld [(.str ⟨#[]⟩),(.int .i64 0),(.int .i64 0),.nil,.nil,.nil,.nil,(.int .i64 0),.nil,(.bool false),(.bool false)] [(0,7,(.t 87)),(7,1,(.t 90)),(8,1,(.t 93))],none⟩,
    ⟨(some 95),.fadd (.t 1) 6,none⟩,
    ⟨(some 96),.ld (.t 95) 1 false,none⟩,
    ⟨(some 97),.call bH [(.t 94),(.t 96)],none⟩,
    ⟨(some 98),.fld (.t 97) 11 1 false,none⟩,
    ⟨(some 2),.mov (.t 98),none⟩] [] []) <|
  .ret,
  [.t 2]⟩
theorem yY:cFn PP true tF wE (cDr PP 99 zY)=some uc:=by kernel_rfl
def lq:Nat->Option (List Nat×List Nat)
  | _=>none
def mL:Nat->Option (List Nat×List Nat×List Nat)
  | _=>none
def gZ:af:=⟨25,
  .seq (.reg [⟨(some 2),.mov (.c (.int .i64 0)),none⟩]) <|
  .seq (.reg [⟨(some 3),.mov (.t 0),none⟩,
    ⟨(some 4),.bldS true 14 0 (.agg [.nil,(.int .i64 0),(.int .i64 0),(.int .i64 0),(.int .i64 0),(.int .i32 0),(.int .i64 0),(.int .i64 0),(.int .i32 0),(.int .i64 0),(.int .i64 0),(.int .i32 0),(.int .i64 0),(.int .i64 0)]) [],none⟩,
    ⟨(some 5),.mov (.t 0),none⟩,
    ⟨(some 6),.fadd (.t 5) 0,none⟩,
    ⟨(some 7),.fadd (.t 6) 7,none⟩,
    ⟨(some 8),.fadd (.t 7) 7,none⟩,
    ⟨(some 9),.ld (.t 8) 1 false,none⟩,
    ⟨(some 10),.app (.t 4) (.t 9) 14 128 (.agg [.nil,(.int .i64 0),(.int .i64 0),(.int .i64 0),(.int .i64 0),(.int .i32 0),(.int .i64 0),(.int .i64 0),(.int .i32 0),(.int .i64 0),(.int .i64 0),(.int .i32 0),(.int .i64 0),(.int .i64 0)]),none⟩,
    ⟨(some 11),.bld [(.int .i64 0),(.int .i64 0),(.int .i64 0),(.int .i64 0),(.int .i32 0),(.int .i64 0),(.int .i64 0),(.int .i32 0),(.int .i64 0),(.int .i64 0),(.int .i32 0),(.int .i64 0),(.int .i64 0)] [(0,1,(.c (.int .i64 5)))],none⟩,
    ⟨(some 12),.bld [.nil,(.int .i64 0),(.int .i64 0),(.int .i64 0),(.int .i64 0),(.int .i32 0),(.int .i64 0),(.int .i64 0),(.int .i32 0),(.int .i64 0),(.int .i64 0),(.int .i32 0),(.int .i64 0),(.int .i64 0)] [(1,13,(.t 11))],none⟩,
    ⟨(some 13),.bldS true 14 1 (.agg [.nil,(.int .i64 0),(.int .i64 0),(.int .i64 0),(.int .i64 0),(.int .i32 0),(.int .i64 0),(.int .i64 0),(.int .i32 0),(.int .i64 0),(.int .i64 0),(.int .i32 0),(.int .i64 0),(.int .i64 0)]) [(0,(.t 12))],none⟩,
    ⟨(some 14),.app (.t 10) (.t 13) 14 128 (.agg [.nil,(.int .i64 0),(.int .i64 0),(.int .i64 0),(.int .i64 0),(.int .i32 0),(.int .i64 0),(.int .i64 0),(.int .i32 0),(.int .i64 0),(.int .i64 0),(.int .i32 0),(.int .i64 0),(.int .i64 0)]),none⟩,
    ⟨(some 15),.fadd (.t 3) 0,none⟩,
    ⟨(some 16),.fadd (.t 15) 7,none⟩,
    ⟨(some 17),.fadd (.t 16) 7,none⟩,
    ⟨none,.st (.t 17) (.t 14) 1,none⟩]) <|
  .seq (.reg [⟨(some 18),.mov (.t 0),none⟩,
    ⟨(some 19),.fadd (.t 18) 0,none⟩,
    ⟨(some 20),.fadd (.t 19) 7,none⟩,
    ⟨(some 21),.fadd (.t 20) 7,none⟩,
    ⟨(some 22),.ld (.t 21) 1 false,none⟩,
    ⟨(some 23),.len (.t 22),none⟩,
    ⟨(some 24),.bin .sub (.t 23) (.c (.int .i64 1)),none⟩,
    ⟨(some 2),.mov (.t 24),none⟩]) <|
  .ret,
  [.t 2]⟩
theorem my:cFn PP true bc lq (cDr PP 25 mL)=some gZ:=by kernel_rfl
def me:Nat->Option (List Nat×List Nat)
  | 1000007=>some ([0,4,5],[])|3=>some ([0,1,4,5],[6])|_=>none
def oe:Nat->Option (List Nat×List Nat×List Nat)
  | 0=>some ([0,1,3,7,0,16,48,112,15,511],[],[])|_=>none
def jc:af:=⟨41,
  .seq (.dreg [⟨(some 7),.mov (.t 0),none⟩,
    ⟨(some 8),.fadd (.t 7) 0,none⟩,
    ⟨(some 9),.fadd (.t 8) 16,none⟩,
    ⟨(some 10),.ld (.t 9) 1 false,none⟩,
    ⟨(some 11),.mov (.t 0),none⟩,
    ⟨(some 12),.fadd (.t 11) 0,none⟩,
    ⟨(some 13),.fadd (.t 12) 17,none⟩,
    ⟨(some 14),.ld (.t 13) 1 false,none⟩,
    ⟨(some 4),.mov (.t 10),none⟩,
    ⟨(some 5),.mov (.t 14),none⟩] [] []) <|
  .seq (.reg [⟨(some 15),.mov (.t 0),none⟩,
    ⟨(some 16),.fadd (.t 15) 0,none⟩,
    ⟨(some 17),.fadd (.t 16) 17,none⟩,
    ⟨none,.st (.t 17) (.c (.bool false)) 1,none⟩]) <|
  .seqj [0,4,5] [] (.seq (.reg [⟨(some 6),.mov (.c (.int .i64 0)),none⟩]) <|
  .block 0 (.loop [0,1,4,5] [6] (.seq (.seq (.reg [⟨(some 18),.mov (.t 6),none⟩,
    ⟨(some 19),.mov (.t 1),none⟩,
    ⟨(some 20),.len (.t 19),none⟩,
    ⟨(some 21),.bin .lss (.t 18) (.t 20),none⟩,
    ⟨(some 22),.mov (.t 21),none⟩,
    ⟨(some 23),.mov (.t 0),some (22,true)⟩,
    ⟨(some 24),.call bM [(.t 23)],some (22,true)⟩,
    ⟨(some 25),.un .not (.t 24),some (22,true)⟩,
    ⟨(some 26),.pick (.t 22) (.t 25) (.c (.bool false)),none⟩]) <|
  .cond (.t 26) (.skip) (.exit 0)) <|
  .seq (.block 1 (.reg [⟨(some 29),.mov (.t 0),none⟩,
    ⟨(some 30),.mov (.t 1),none⟩,
    ⟨(some 31),.mov (.t 6),none⟩,
    ⟨(some 32),.iadd (.t 30) (.t 31) 19,none⟩,
    ⟨(some 33),.ld (.t 32) 19 true,none⟩,
    ⟨(some 34),.call eD [(.t 29),(.t 33)],none⟩])) <|
  .reg [⟨(some 27),.mov (.t 6),none⟩,
    ⟨(some 28),.bin .add (.t 27) (.c (.int .i64 1)),none⟩,
    ⟨(some 6),.mov (.t 28),none⟩]))) <|
  .seq (.reg [⟨(some 35),.mov (.t 5),none⟩,
    ⟨(some 36),.un .not (.t 35),none⟩]) <|
  .cond (.t 36) (.reg [⟨(some 37),.mov (.t 0),none⟩,
    ⟨(some 38),.mov (.t 4),none⟩,
    ⟨(some 39),.fadd (.t 37) 0,none⟩,
    ⟨(some 40),.fadd (.t 39) 16,none⟩,
    ⟨none,.st (.t 40) (.t 38) 1,none⟩]) (.skip),
  []⟩
theorem nC:cFn PP true dS me (cDr PP 41 oe)=some jc:=by kernel_rfl
def mf:Nat->Option (List Nat×List Nat)
  | _=>none
def og:Nat->Option (List Nat×List Nat×List Nat)
  | _=>none
def jd:af:=⟨25,
  .seq (.reg [⟨(some 2),.mov (.c (.bool false)),none⟩]) <|
  .seq (.reg [⟨(some 3),.mov (.t 0),none⟩,
    ⟨(some 4),.fadd (.t 3) 0,none⟩,
    ⟨(some 5),.fadd (.t 4) 20,none⟩,
    ⟨(some 6),.ld (.t 5) 1 false,none⟩,
    ⟨(some 7),.bin .gtr (.t 6) (.c (.int .i64 2000)),none⟩,
    ⟨(some 8),.mov (.t 7),none⟩,
    ⟨(some 9),.mov (.t 0),some (8,false)⟩,
    ⟨(some 10),.fadd (.t 9) 0,some (8,false)⟩,
    ⟨(some 11),.fadd (.t 10) 7,some (8,false)⟩,
    ⟨(some 12),.fadd (.t 11) 7,some (8,false)⟩,
    ⟨(some 13),.ld (.t 12) 1 false,some (8,false)⟩,
    ⟨(some 14),.len (.t 13),some (8,false)⟩,
    ⟨(some 15),.bin .gtr (.t 14) (.c (.int .i64 400)),some (8,false)⟩,
    ⟨(some 16),.pick (.t 8) (.c (.bool true)) (.t 15),none⟩,
    ⟨(some 17),.mov (.t 16),none⟩,
    ⟨(some 18),.mov (.t 0),some (17,false)⟩,
    ⟨(some 19),.fadd (.t 18) 0,some (17,false)⟩,
    ⟨(some 20),.fadd (.t 19) 7,some (17,false)⟩,
    ⟨(some 21),.fadd (.t 20) 2,some (17,false)⟩,
    ⟨(some 22),.ld (.t 21) 1 false,some (17,false)⟩,
    ⟨(some 23),.bin .gtr (.t 22) (.c (.int .i64 256)),some (17,false)⟩,
    ⟨(some 24),.pick (.t 17) (.c (.bool true)) (.t 23),none⟩,
    ⟨(some 2),.mov (.t 24),none⟩]) <|
  .ret,
  [.t 2]⟩
theorem nD:cFn PP true bM mf (cDr PP 25 og)=some jd:=by kernel_rfl
def yG:Nat->Option (List Nat×List Nat)
  | 1000015=>some ([3],[])|4=>some ([1,3],[4])|8=>some ([1,3,35,36],[4,37])|1000014=>some ([1,3,35,36,37],[4])|_=>none
def BF:Nat->Option (List Nat×List Nat×List Nat)
  | _=>none
def xN:af:=⟨55,
  .seq (.reg [⟨(some 1),.box (.t 0),none⟩,
    ⟨(some 2),.mov (.c .nil),none⟩]) <|
  .seq (.reg [⟨(some 8),.fadd (.t 1) 7,none⟩,
    ⟨(some 9),.ld (.t 8) 1 false,none⟩,
    ⟨(some 10),.len (.t 9),none⟩,
    ⟨(some 11),.mk 1 1 (.bool false) (.t 10) (.t 10),none⟩,
    ⟨(some 3),.mov (.t 11),none⟩]) <|
  .seq (.reg [⟨(some 12),.mov (.t 3),none⟩,
    ⟨(some 13),.iadd (.t 12) (.c (.int .i64 0)) 1,none⟩,
    ⟨none,.st (.t 13) (.c (.bool true)) 1,none⟩]) <|
  .seqj [3] [] (.seq (.reg [⟨(some 14),.bldS true 1 1 (.int .i64 0) [(0,(.c (.int .i64 0)))],none⟩,
    ⟨(some 4),.mov (.t 14),none⟩]) <|
  .block 0 (.loop [1,3] [4] (.seq (.seq (.reg [⟨(some 15),.mov (.t 4),none⟩,
    ⟨(some 16),.len (.t 15),none⟩,
    ⟨(some 17),.bin .gtr (.t 16) (.c (.int .i64 0)),none⟩]) <|
  .cond (.t 17) (.skip) (.exit 0)) <|
  .block 1 (.seq (.reg [⟨(some 18),.mov (.t 4),none⟩,
    ⟨(some 19),.mov (.t 4),none⟩,
    ⟨(some 20),.len (.t 19),none⟩,
    ⟨(some 21),.bin .sub (.t 20) (.c (.int .i64 1)),none⟩,
    ⟨(some 22),.iadd (.t 18) (.t 21) 1,none⟩,
    ⟨(some 23),.ld (.t 22) 1 false,none⟩,
    ⟨(some 5),.mov (.t 23),none⟩]) <|
  .seq (.reg [⟨(some 24),.mov (.t 4),none⟩,
    ⟨(some 25),.mov (.t 4),none⟩,
    ⟨(some 26),.len (.t 25),none⟩,
    ⟨(some 27),.bin .sub (.t 26) (.c (.int .i64 1)),none⟩,
    ⟨(some 28),.slc (.t 24) none (some (.t 27)) none 1,none⟩,
    ⟨(some 4),.mov (.t 28),none⟩]) <|
  .seq (.reg [⟨(some 29),.fadd (.t 1) 7,none⟩,
    ⟨(some 30),.ld (.t 29) 1 false,none⟩,
    ⟨(some 31),.mov (.t 5),none⟩,
    ⟨(some 32),.iadd (.t 30) (.t 31) 14,none⟩,
    ⟨(some 33),.fadd (.t 32) 1,none⟩,
    ⟨(some 34),.ld (.t 33) 13 true,none⟩,
    ⟨(some 35),.call iR [(.t 34)],none⟩,
    ⟨(some 36),.len (.t 35),none⟩,
    ⟨(some 37),.mov (.c (.int .i64 0)),none⟩]) <|
  .block 2 (.loop [1,3,35,36] [4,37] (.seq (.reg [⟨(some 38),.bin .lss (.t 37) (.t 36),none⟩]) <|
  .seq (.cond (.t 38) (.skip) (.exit 2)) <|
  .seqj [1,3,35,36,37] [4] (.block 3 (.seq (.reg [⟨(some 39),.iadd (.t 35) (.t 37) 1,none⟩,
    ⟨(some 40),.ld (.t 39) 1 false,none⟩,
    ⟨(some 7),.mov (.t 40),none⟩]) <|
  .seq (.reg [⟨(some 41),.mov (.t 3),none⟩,
    ⟨(some 42),.mov (.t 7),none⟩,
    ⟨(some 43),.iadd (.t 41) (.t 42) 1,none⟩,
    ⟨(some 44),.ld (.t 43) 1 false,none⟩,
    ⟨(some 45),.un .not (.t 44),none⟩]) <|
  .cond (.t 45) (.seq (.reg [⟨(some 46),.mov (.t 3),none⟩,
    ⟨(some 47),.mov (.t 7),none⟩,
    ⟨(some 48),.iadd (.t 46) (.t 47) 1,none⟩,
    ⟨none,.st (.t 48) (.c (.bool true)) 1,none⟩]) <|
  .reg [⟨(some 49),.mov (.t 4),none⟩,
    ⟨(some 50),.mov (.t 7),none⟩,
    ⟨(some 51),.bldS true 1 1 (.int .i64 0) [(0,(.t 50))],none⟩,
    ⟨(some 52),.app (.t 49) (.t 51) 1 8 (.int .i64 0),none⟩,
    ⟨(some 4),.mov (.t 52),none⟩]) (.skip))) <|
  .reg [⟨(some 53),.bin .add (.t 37) (.c (.int .i64 1)),none⟩,
    ⟨(some 37),.mov (.t 53),none⟩])))))) <|
  .seq (.reg [⟨(some 54),.mov (.t 3),none⟩,
    ⟨(some 2),.mov (.t 54),none⟩]) <|
  .ret,
  [.t 2]⟩
theorem A4:cFn PP true wv yG (cDr PP 55 BF)=some xN:=by kernel_rfl
def js:Nat->Option (List Nat×List Nat)
  | 1000004=>some ([0,1],[])|1000007=>some ([0,6],[])|1000011=>some ([7],[])|8=>some ([7],[8])|_=>none
def kB:Nat->Option (List Nat×List Nat×List Nat)
  | 9=>some ([0,0,0,6,0,0,48,126,255,511],[7,8,9],[])|_=>none
def eU:af:=⟨48,
  .seq (.reg [⟨(some 4),.mov (.c .nil),none⟩]) <|
  .seqj [0,1] [] (.seq (.reg [⟨(some 9),.mov (.t 1),none⟩,
    ⟨(some 10),.bin .lss (.t 9) (.c (.int .i64 0)),none⟩]) <|
  .cond (.t 10) (.reg [⟨(some 11),.dead,none⟩,
    ⟨none,.dead,none⟩]) (.skip)) <|
  .seq (.reg [⟨(some 13),.mov (.t 0),none⟩,
    ⟨(some 14),.len (.t 13),none⟩,
    ⟨(some 15),.conv .u64 (.t 14),none⟩,
    ⟨(some 16),.mov (.t 1),none⟩,
    ⟨(some 17),.conv .u64 (.t 16),none⟩,
    ⟨(some 18),.call pA [(.t 15),(.t 17)],none⟩,
    ⟨(some 12),.mov (.t 18),none⟩,
    ⟨(some 19),.ext (.t 12) 0,none⟩,
    ⟨(some 20),.ext (.t 12) 1,none⟩,
    ⟨(some 5),.mov (.t 19),none⟩,
    ⟨(some 6),.mov (.t 20),none⟩]) <|
  .seqj [0,6] [] (.seq (.reg [⟨(some 21),.mov (.t 5),none⟩,
    ⟨(some 22),.bin .gtr (.t 21) (.c (.int .u64 0)),none⟩,
    ⟨(some 23),.mov (.t 22),none⟩,
    ⟨(some 24),.mov (.t 6),some (23,false)⟩,
    ⟨(some 25),.bin .gtr (.t 24) (.c (.int .u64 9223372036854775807)),some (23,false)⟩,
    ⟨(some 26),.pick (.t 23) (.c (.bool true)) (.t 25),none⟩]) <|
  .cond (.t 26) (.reg [⟨(some 27),.dead,none⟩,
    ⟨none,.dead,none⟩]) (.skip)) <|
  .seq (.reg [⟨(some 28),.mov (.t 6),none⟩,
    ⟨(some 29),.conv .i64 (.t 28),none⟩,
    ⟨(some 30),.mk 1 8 (.int .i64 0) (.t 29) (.t 29),none⟩,
    ⟨(some 7),.mov (.t 30),none⟩]) <|
  .seq (.reg [⟨(some 31),.mov (.t 7),none⟩,
    ⟨(some 32),.mov (.t 0),none⟩,
    ⟨(some 33),.cpy (.t 31) (.t 32) 1,none⟩,
    ⟨(some 8),.mov (.t 33),none⟩]) <|
  .seqj [7] [] (.block 0 (.loop [7] [8] (.seq (.seq (.reg [⟨(some 34),.mov (.t 8),none⟩,
    ⟨(some 35),.mov (.t 7),none⟩,
    ⟨(some 36),.len (.t 35),none⟩,
    ⟨(some 37),.bin .lss (.t 34) (.t 36),none⟩]) <|
  .cond (.t 37) (.skip) (.exit 0)) <|
  .block 1 (.dreg [⟨(some 38),.mov (.t 8),none⟩,
    ⟨(some 39),.mov (.t 7),none⟩,
    ⟨(some 40),.mov (.t 8),none⟩,
    ⟨(some 41),.slc (.t 39) (some (.t 40)) none none 1,none⟩,
    ⟨(some 42),.mov (.t 7),none⟩,
    ⟨(some 43),.mov (.t 8),none⟩,
    ⟨(some 44),.slc (.t 42) none (some (.t 43)) none 1,none⟩] [⟨(some 45),.cpy (.t 41) (.t 44) 1,none⟩,
    ⟨(some 46),.bin .add (.t 38) (.t 45),none⟩,
    ⟨(some 8),.mov (.t 46),none⟩] [])))) <|
  .seq (.reg [⟨(some 47),.mov (.t 7),none⟩,
    ⟨(some 4),.mov (.t 47),none⟩]) <|
  .ret,
  [.t 4]⟩
theorem kr:cFn PP true aV js (cDr PP 48 kB)=some eU:=by kernel_rfl
end Go.Am
namespace Go.Am
open Go Go.Proofs
def B8:Nat->Option (List Nat×List Nat)
  | _=>none
def D6:Nat->Option (List Nat×List Nat×List Nat)
  | _=>none
def CQ:af:=⟨28,
  .seq (.reg [⟨(some 1),.box (.t 0),none⟩,
    ⟨(some 2),.alloc (.agg [.nil,.nil,.nil]),none⟩]) <|
  .seq (.reg [⟨(some 7),.fadd (.t 1) 7,none⟩,
    ⟨(some 8),.ld (.t 7) 1 false,none⟩,
    ⟨(some 9),.len (.t 8),none⟩,
    ⟨(some 3),.mov (.t 9),none⟩]) <|
  .seq (.reg [⟨(some 10),.ld (.t 1) 8 true,none⟩,
    ⟨(some 11),.call lL [(.t 10)],none⟩,
    ⟨(some 12),.call gh [(.t 11),(.c (.int .i64 0))],none⟩,
    ⟨(some 13),.call jq [(.t 12)],none⟩,
    ⟨(some 14),.bldS true 1 1 (.int .i64 0) [(0,(.c (.int .i64 (-1))))],none⟩,
    ⟨(some 15),.mov (.t 3),none⟩,
    ⟨(some 16),.call aV [(.t 14),(.t 15)],none⟩,
    ⟨(some 17),.bldS true 1 1 (.int .i64 0) [(0,(.c (.int .i64 (-1))))],none⟩,
    ⟨(some 18),.mov (.t 3),none⟩,
    ⟨(some 19),.call aV [(.t 17),(.t 18)],none⟩,
    ⟨(some 20),.bld [.nil,.nil,.nil] [(0,1,(.t 13)),(1,1,(.t 16)),(2,1,(.t 19))],none⟩,
    ⟨(some 4),.alloc (.agg [.nil,.nil,.nil]),none⟩,
    ⟨none,.st (.t 4) (.t 20) 3,none⟩]) <|
  .seq (.reg [⟨(some 21),.fadd (.t 4) 0,none⟩,
    ⟨(some 22),.ld (.t 21) 1 false,none⟩,
    ⟨(some 23),.iadd (.t 22) (.c (.int .i64 0)) 1,none⟩,
    ⟨none,.st (.t 23) (.c (.int .i64 (-1))) 1,none⟩]) <|
  .seq (.reg [⟨(some 5),.alloc (.int .i64 0),none⟩,
    ⟨none,.st (.t 5) (.c (.int .i64 0)) 1,none⟩]) <|
  .seq (.reg [⟨(some 6),.alloc .nilfn,none⟩]) <|
  .seq (.reg [⟨(some 24),.mkf tL [] [(.t 5),(.t 4),(.t 6)],none⟩,
    ⟨none,.st (.t 6) (.t 24) 1,none⟩]) <|
  .seq (.reg [⟨(some 25),.ld (.t 6) 1 false,none⟩,
    ⟨(some 26),.callv (.t 25) [(.c (.int .i64 0))],none⟩]) <|
  .seq (.reg [⟨(some 27),.ld (.t 4) 3 true,none⟩,
    ⟨none,.st (.t 2) (.t 27) 3,none⟩]) <|
  .ret,
  [.cell 2 3 true]⟩
theorem Dm:cFn PP true BY B8 (cDr PP 28 D6)=some CQ:=by kernel_rfl
def Ax:Nat->Option (List Nat×List Nat)
  | _=>none
def C7:Nat->Option (List Nat×List Nat×List Nat)
  | _=>none
def zQ:af:=⟨9,
  .seq (.reg [⟨(some 1),.box (.t 0),none⟩,
    ⟨(some 2),.mov (.c .nil),none⟩]) <|
  .seq (.reg [⟨(some 3),.ld (.t 1) 8 true,none⟩,
    ⟨(some 4),.call lL [(.t 3)],none⟩,
    ⟨(some 5),.call gh [(.t 4),(.c (.int .i64 0))],none⟩,
    ⟨(some 6),.fadd (.t 5) 0,none⟩,
    ⟨(some 7),.fadd (.t 6) 1,none⟩,
    ⟨(some 8),.ld (.t 7) 1 false,none⟩,
    ⟨(some 2),.mov (.t 8),none⟩]) <|
  .ret,
  [.t 2]⟩
theorem CP:cFn PP true zw Ax (cDr PP 9 C7)=some zQ:=by kernel_rfl
def Ay:Nat->Option (List Nat×List Nat)
  | _=>none
def C8:Nat->Option (List Nat×List Nat×List Nat)
  | _=>none
def zR:af:=⟨26,
  .seq (.reg [⟨(some 1),.box (.t 0),none⟩,
    ⟨(some 2),.mov (.c .nil),none⟩]) <|
  .seq (.block 0 (.seq (.reg [⟨(some 4),.fadd (.t 1) 0,none⟩,
    ⟨(some 5),.ld (.t 4) 1 false,none⟩,
    ⟨(some 6),.bin .eql (.t 5) (.c (.int .i64 5)),none⟩,
    ⟨(some 3),.mov (.t 6),none⟩]) <|
  .cond (.t 3) (.seq (.reg [⟨(some 2),.mov (.c .nil),none⟩]) <|
  .ret) (.seq (.reg [⟨(some 8),.fadd (.t 1) 0,none⟩,
    ⟨(some 9),.ld (.t 8) 1 false,none⟩,
    ⟨(some 10),.bin .eql (.t 9) (.c (.int .i64 2)),none⟩,
    ⟨(some 11),.mov (.t 10),none⟩,
    ⟨(some 12),.fadd (.t 1) 11,some (11,true)⟩,
    ⟨(some 13),.iadda (.t 12) (.c (.int .i64 0)) 2 1,some (11,true)⟩,
    ⟨(some 14),.ld (.t 13) 1 false,some (11,true)⟩,
    ⟨(some 15),.fadd (.t 1) 11,some (11,true)⟩,
    ⟨(some 16),.iadda (.t 15) (.c (.int .i64 1)) 2 1,some (11,true)⟩,
    ⟨(some 17),.ld (.t 16) 1 false,some (11,true)⟩,
    ⟨(some 18),.bin .neq (.t 14) (.t 17),some (11,true)⟩,
    ⟨(some 19),.pick (.t 11) (.t 18) (.c (.bool false)),none⟩,
    ⟨(some 7),.mov (.t 19),none⟩]) <|
  .cond (.t 7) (.seq (.reg [⟨(some 20),.fadd (.t 1) 11,none⟩,
    ⟨(some 21),.sla (.t 20) 2,none⟩,
    ⟨(some 2),.mov (.t 21),none⟩]) <|
  .ret) (.skip)))) <|
  .seq (.reg [⟨(some 22),.fadd (.t 1) 11,none⟩,
    ⟨(some 23),.iadda (.t 22) (.c (.int .i64 0)) 2 1,none⟩,
    ⟨(some 24),.ld (.t 23) 1 false,none⟩,
    ⟨(some 25),.bldS true 1 1 (.int .i64 0) [(0,(.t 24))],none⟩,
    ⟨(some 2),.mov (.t 25),none⟩]) <|
  .ret,
  [.t 2]⟩
theorem CT:cFn PP true iR Ay (cDr PP 26 C8)=some zR:=by kernel_rfl
def oK:Nat->Option (List Nat×List Nat)
  | 1000013=>some ([4,5],[])|6=>some ([1,2,4,5,6,29,30],[31])|1000012=>some ([1,2,4,5,6,29,30,31],[])|_=>none
def qJ:Nat->Option (List Nat×List Nat×List Nat)
  | 8=>some ([0,1,3,7,0,31,63,0,128,384,896,0,3968,8064,16383],[],[])|_=>none
def lb:af:=⟨61,
  .seq (.reg [⟨(some 2),.box (.t 0),none⟩,
    ⟨(some 4),.alloc (.agg [(.int .i64 0),.nil,.nil,(.int .i64 0),(.int .i64 0),(.int .i64 0)]),none⟩]) <|
  .seq (.reg [⟨(some 9),.mov (.t 1),none⟩,
    ⟨(some 10),.ld (.t 2) 1 false,none⟩,
    ⟨(some 11),.fadd (.t 10) 0,none⟩,
    ⟨(some 12),.fadd (.t 11) 0,none⟩,
    ⟨(some 13),.fadd (.t 12) 7,none⟩,
    ⟨(some 14),.ld (.t 13) 1 false,none⟩,
    ⟨(some 15),.len (.t 14),none⟩,
    ⟨(some 16),.mk 1 1 (.bool false) (.t 15) (.t 15),none⟩,
    ⟨(some 17),.bld [(.int .i64 0),.nil,.nil,(.int .i64 0),(.int .i64 0),(.int .i64 0)] [(0,1,(.t 9)),(2,1,(.t 16))],none⟩,
    ⟨(some 5),.alloc (.agg [(.int .i64 0),.nil,.nil,(.int .i64 0),(.int .i64 0),(.int .i64 0)]),none⟩,
    ⟨none,.st (.t 5) (.t 17) 6,none⟩]) <|
  .seq (.reg [⟨(some 18),.fadd (.t 5) 2,none⟩,
    ⟨(some 19),.ld (.t 18) 1 false,none⟩,
    ⟨(some 20),.mov (.t 1),none⟩,
    ⟨(some 21),.iadd (.t 19) (.t 20) 1,none⟩,
    ⟨none,.st (.t 21) (.c (.bool true)) 1,none⟩]) <|
  .seq (.reg [⟨(some 6),.alloc .nilfn,none⟩]) <|
  .seq (.reg [⟨(some 22),.mkf gP [] [(.t 5),(.t 2),(.t 6)],none⟩,
    ⟨none,.st (.t 6) (.t 22) 1,none⟩]) <|
  .seqj [4,5] [] (.seq (.reg [⟨(some 23),.ld (.t 2) 1 false,none⟩,
    ⟨(some 24),.fadd (.t 23) 0,none⟩,
    ⟨(some 25),.fadd (.t 24) 9,none⟩,
    ⟨(some 26),.ld (.t 25) 1 false,none⟩,
    ⟨(some 27),.mov (.t 1),none⟩,
    ⟨(some 28),.iadd (.t 26) (.t 27) 1,none⟩,
    ⟨(some 29),.ld (.t 28) 1 false,none⟩,
    ⟨(some 30),.len (.t 29),none⟩,
    ⟨(some 31),.mov (.c (.int .i64 0)),none⟩]) <|
  .block 0 (.loop [1,2,4,5,6,29,30] [31] (.seq (.reg [⟨(some 32),.bin .lss (.t 31) (.t 30),none⟩]) <|
  .seq (.cond (.t 32) (.skip) (.exit 0)) <|
  .seqj [1,2,4,5,6,29,30,31] [] (.block 1 (.seq (.reg [⟨(some 33),.iadd (.t 29) (.t 31) 1,none⟩,
    ⟨(some 34),.ld (.t 33) 1 false,none⟩,
    ⟨(some 8),.mov (.t 34),none⟩]) <|
  .seq (.dreg [⟨(some 35),.ld (.t 2) 1 false,none⟩,
    ⟨(some 36),.fadd (.t 35) 0,none⟩,
    ⟨(some 37),.fadd (.t 36) 10,none⟩,
    ⟨(some 38),.ld (.t 37) 1 false,none⟩,
    ⟨(some 39),.mov (.t 1),none⟩,
    ⟨(some 40),.iadd (.t 38) (.t 39) 1,none⟩,
    ⟨(some 41),.ld (.t 40) 1 false,none⟩,
    ⟨(some 42),.ld (.t 2) 1 false,none⟩,
    ⟨(some 43),.fadd (.t 42) 0,none⟩,
    ⟨(some 44),.fadd (.t 43) 10,none⟩,
    ⟨(some 45),.ld (.t 44) 1 false,none⟩,
    ⟨(some 46),.mov (.t 8),none⟩,
    ⟨(some 47),.iadd (.t 45) (.t 46) 1,none⟩,
    ⟨(some 48),.ld (.t 47) 1 false,none⟩,
    ⟨(some 49),.bin .leq (.t 41) (.t 48),none⟩] [] []) <|
  .cond (.t 49) (.seq (.reg [⟨(some 50),.fadd (.t 5) 1,none⟩,
    ⟨(some 51),.ld (.t 50) 1 false,none⟩,
    ⟨(some 52),.mov (.t 8),none⟩,
    ⟨(some 53),.bldS true 1 1 (.int .i64 0) [(0,(.t 52))],none⟩,
    ⟨(some 54),.app (.t 51) (.t 53) 1 8 (.int .i64 0),none⟩,
    ⟨(some 55),.fadd (.t 5) 1,none⟩,
    ⟨none,.st (.t 55) (.t 54) 1,none⟩]) <|
  .reg [⟨(some 56),.ld (.t 6) 1 false,none⟩,
    ⟨(some 57),.mov (.t 8),none⟩,
    ⟨(some 58),.callv (.t 56) [(.t 57)],none⟩]) (.skip))) <|
  .reg [⟨(some 59),.bin .add (.t 31) (.c (.int .i64 1)),none⟩,
    ⟨(some 31),.mov (.t 59),none⟩]))) <|
  .seq (.reg [⟨(some 60),.ld (.t 5) 6 true,none⟩,
    ⟨none,.st (.t 4) (.t 60) 6,none⟩]) <|
  .ret,
  [.cell 4 6 true]⟩
theorem qu:cFn PP true kJ oK (cDr PP 61 qJ)=some lb:=by kernel_rfl
def td:Nat->Option (List Nat×List Nat)
  | 1000018=>some ([],[])|4=>some ([3,4,19,20],[21])|1000017=>some ([3,4,19,20,21],[])|7=>some ([3,4,6,19,20,21,31,32],[33])|1000014=>some ([3,4,6,8,9,19,20,21,31,32,33],[])|4000013=>some ([3,4,6,8,9,19,20,21,31,32,33],[])|_=>none
def vY:Nat->Option (List Nat×List Nat×List Nat)
  | 13=>some ([0,1,3,7,0,31,63,0,128,384,896,0,3968,8064,16383,32767,65535,131071,262143],[],[])|_=>none
def pQ:af:=⟨68,
  .seq (.reg [⟨(some 1),.box (.t 0),none⟩,
    ⟨(some 2),.mov (.c (.bool false)),none⟩]) <|
  .seq (.reg [⟨(some 11),.ld (.t 1) 8 true,none⟩,
    ⟨(some 12),.call lL [(.t 11)],none⟩,
    ⟨(some 13),.call gh [(.t 12),(.c (.int .i64 0))],none⟩,
    ⟨(some 3),.mov (.t 13),none⟩]) <|
  .seq (.reg [⟨(some 14),.mov (.t 3),none⟩,
    ⟨(some 15),.call jq [(.t 14)],none⟩,
    ⟨(some 4),.mov (.t 15),none⟩]) <|
  .seqj [] [] (.seq (.reg [⟨(some 16),.mov (.t 3),none⟩,
    ⟨(some 17),.fadd (.t 16) 0,none⟩,
    ⟨(some 18),.fadd (.t 17) 1,none⟩,
    ⟨(some 19),.ld (.t 18) 1 false,none⟩,
    ⟨(some 20),.len (.t 19),none⟩,
    ⟨(some 21),.mov (.c (.int .i64 0)),none⟩]) <|
  .block 0 (.loop [3,4,19,20] [21] (.seq (.reg [⟨(some 22),.bin .lss (.t 21) (.t 20),none⟩]) <|
  .seq (.cond (.t 22) (.skip) (.exit 0)) <|
  .seqj [3,4,19,20,21] [] (.block 1 (.seq (.reg [⟨(some 23),.iadd (.t 19) (.t 21) 1,none⟩,
    ⟨(some 24),.ld (.t 23) 1 false,none⟩,
    ⟨(some 6),.mov (.t 24),none⟩]) <|
  .seq (.reg [⟨(some 25),.mov (.t 3),none⟩,
    ⟨(some 26),.fadd (.t 25) 0,none⟩,
    ⟨(some 27),.fadd (.t 26) 0,none⟩,
    ⟨(some 28),.ld (.t 27) 1 false,none⟩,
    ⟨(some 29),.mov (.t 6),none⟩,
    ⟨(some 30),.iadd (.t 28) (.t 29) 1,none⟩,
    ⟨(some 31),.ld (.t 30) 1 false,none⟩,
    ⟨(some 32),.len (.t 31),none⟩,
    ⟨(some 33),.mov (.c (.int .i64 0)),none⟩]) <|
  .block 2 (.loop [3,4,6,19,20,21,31,32] [33] (.seq (.reg [⟨(some 34),.bin .lss (.t 33) (.t 32),none⟩]) <|
  .seq (.cond (.t 34) (.skip) (.exit 2)) <|
  .seq (.block 3 (.seq (.reg [⟨(some 35),.iadd (.t 31) (.t 33) 1,none⟩,
    ⟨(some 36),.ld (.t 35) 1 false,none⟩,
    ⟨(some 8),.alloc (.int .i64 0),none⟩,
    ⟨none,.st (.t 8) (.t 36) 1,none⟩]) <|
  .seq (.reg [⟨(some 9),.alloc (.bool false),none⟩,
    ⟨none,.st (.t 9) (.c (.bool false)) 1,none⟩]) <|
  .seqj [3,4,6,8,9,19,20,21,31,32,33] [] (.seq (.reg [⟨(some 37),.mov (.t 4),none⟩,
    ⟨(some 38),.mov (.t 6),none⟩,
    ⟨(some 39),.call zv [(.t 37),(.t 38)],none⟩]) <|
  .block 4 (.range (.t 39) [40] [3,4,6,8,9,19,20,21,31,32,33] [] (.reg [⟨(some 10),.mov (.t 40),none⟩]) (.block 5 (.reg [⟨(some 41),.ld (.t 9) 1 false,none⟩,
    ⟨(some 42),.mov (.t 41),none⟩,
    ⟨(some 43),.mov (.t 10),some (42,false)⟩,
    ⟨(some 44),.ld (.t 8) 1 false,some (42,false)⟩,
    ⟨(some 45),.bin .eql (.t 43) (.t 44),some (42,false)⟩,
    ⟨(some 46),.pick (.t 42) (.c (.bool true)) (.t 45),none⟩,
    ⟨none,.st (.t 9) (.t 46) 1,none⟩])))) <|
  .seq (.dreg [⟨(some 47),.mov (.t 3),none⟩,
    ⟨(some 48),.fadd (.t 47) 0,none⟩,
    ⟨(some 49),.fadd (.t 48) 2,none⟩,
    ⟨(some 50),.ld (.t 49) 1 false,none⟩,
    ⟨(some 51),.ld (.t 8) 1 false,none⟩,
    ⟨(some 52),.iadd (.t 50) (.t 51) 1,none⟩,
    ⟨(some 53),.ld (.t 52) 1 false,none⟩,
    ⟨(some 54),.mov (.t 3),none⟩,
    ⟨(some 55),.fadd (.t 54) 0,none⟩,
    ⟨(some 56),.fadd (.t 55) 2,none⟩,
    ⟨(some 57),.ld (.t 56) 1 false,none⟩,
    ⟨(some 58),.mov (.t 6),none⟩,
    ⟨(some 59),.iadd (.t 57) (.t 58) 1,none⟩,
    ⟨(some 60),.ld (.t 59) 1 false,none⟩,
    ⟨(some 61),.bin .leq (.t 53) (.t 60),none⟩,
    ⟨(some 62),.mov (.t 61),none⟩,
    ⟨(some 63),.ld (.t 9) 1 false,some (62,true)⟩,
    ⟨(some 64),.un .not (.t 63),some (62,true)⟩,
    ⟨(some 65),.pick (.t 62) (.t 64) (.c (.bool false)),none⟩] [] []) <|
  .cond (.t 65) (.seq (.reg [⟨(some 2),.mov (.c (.bool false)),none⟩]) <|
  .ret) (.skip))) <|
  .reg [⟨(some 66),.bin .add (.t 33) (.c (.int .i64 1)),none⟩,
    ⟨(some 33),.mov (.t 66),none⟩])))) <|
  .reg [⟨(some 67),.bin .add (.t 21) (.c (.int .i64 1)),none⟩,
    ⟨(some 21),.mov (.t 67),none⟩]))) <|
  .seq (.reg [⟨(some 2),.mov (.c (.bool true)),none⟩]) <|
  .ret,
  [.t 2]⟩
theorem vE:cFn PP true pB td (cDr PP 68 vY)=some pQ:=by kernel_rfl
def nk:Nat->Option (List Nat×List Nat)
  | _=>none
def p8:Nat->Option (List Nat×List Nat×List Nat)
  | 1=>some ([0,1,3,7,15,0,32,127,255,511,0,2047],[10,11],[])|_=>none
def jU:af:=⟨98,
  .seq (.reg [⟨(some 3),.box (.t 1),none⟩,
    ⟨(some 4),.mov (.c (.bool false)),none⟩]) <|
  .seq (.dreg [⟨(some 11),.mov (.t 0),none⟩,
    ⟨(some 12),.fadd (.t 11) 0,none⟩,
    ⟨(some 13),.fadd (.t 12) 0,none⟩,
    ⟨(some 14),.fadd (.t 13) 7,none⟩,
    ⟨(some 15),.ld (.t 14) 1 false,none⟩,
    ⟨(some 16),.fadd (.t 3) 0,none⟩,
    ⟨(some 17),.ld (.t 16) 1 false,none⟩,
    ⟨(some 18),.iadd (.t 15) (.t 17) 14,none⟩,
    ⟨(some 19),.fadd (.t 18) 1,none⟩,
    ⟨(some 20),.ld (.t 19) 13 true,none⟩] [⟨(some 5),.alloc (.agg [(.int .i64 0),(.int .i64 0),(.int .i64 0),(.int .i64 0),(.int .i32 0),(.int .i64 0),(.int .i64 0),(.int .i32 0),(.int .i64 0),(.int .i64 0),(.int .i32 0),(.int .i64 0),(.int .i64 0)]),none⟩,
    ⟨none,.st (.t 5) (.t 20) 13,none⟩] []) <|
  .seq (.seq (.reg [⟨(some 21),.ld (.t 5) 13 true,none⟩,
    ⟨(some 22),.call iR [(.t 21)],none⟩,
    ⟨(some 23),.len (.t 22),none⟩,
    ⟨(some 24),.bin .neq (.t 23) (.c (.int .i64 2)),none⟩,
    ⟨(some 25),.mov (.t 24),none⟩,
    ⟨(some 26),.fadd (.t 5) 5,some (25,false)⟩,
    ⟨(some 27),.fadd (.t 26) 0,some (25,false)⟩,
    ⟨(some 28),.ld (.t 27) 1 false,some (25,false)⟩,
    ⟨(some 29),.bin .neq (.t 28) (.c (.int .i64 2)),some (25,false)⟩,
    ⟨(some 30),.pick (.t 25) (.c (.bool true)) (.t 29),none⟩,
    ⟨(some 31),.mov (.t 30),none⟩,
    ⟨(some 32),.fadd (.t 5) 5,some (31,false)⟩,
    ⟨(some 33),.fadd (.t 32) 1,some (31,false)⟩,
    ⟨(some 34),.ld (.t 33) 1 false,some (31,false)⟩,
    ⟨(some 35),.fadd (.t 3) 3,some (31,false)⟩,
    ⟨(some 36),.fadd (.t 35) 1,some (31,false)⟩,
    ⟨(some 37),.ld (.t 36) 1 false,some (31,false)⟩,
    ⟨(some 38),.bin .eql (.t 34) (.t 37),some (31,false)⟩,
    ⟨(some 39),.pick (.t 31) (.c (.bool true)) (.t 38),none⟩,
    ⟨(some 40),.mov (.t 39),none⟩,
    ⟨(some 41),.fadd (.t 3) 2,some (40,false)⟩,
    ⟨(some 42),.ld (.t 41) 1 false,some (40,false)⟩,
    ⟨(some 43),.fadd (.t 5) 11,some (40,false)⟩,
    ⟨(some 44),.iadda (.t 43) (.c (.int .i64 0)) 2 1,some (40,false)⟩,
    ⟨(some 45),.ld (.t 44) 1 false,some (40,false)⟩,
    ⟨(some 46),.iadd (.t 42) (.t 45) 1,some (40,false)⟩,
    ⟨(some 47),.ld (.t 46) 1 false,some (40,false)⟩,
    ⟨(some 48),.un .not (.t 47),some (40,false)⟩,
    ⟨(some 49),.pick (.t 40) (.c (.bool true)) (.t 48),none⟩,
    ⟨(some 50),.mov (.t 49),none⟩,
    ⟨(some 51),.fadd (.t 3) 2,some (50,false)⟩,
    ⟨(some 52),.ld (.t 51) 1 false,some (50,false)⟩,
    ⟨(some 53),.fadd (.t 5) 11,some (50,false)⟩,
    ⟨(some 54),.iadda (.t 53) (.c (.int .i64 1)) 2 1,some (50,false)⟩,
    ⟨(some 55),.ld (.t 54) 1 false,some (50,false)⟩,
    ⟨(some 56),.iadd (.t 52) (.t 55) 1,some (50,false)⟩,
    ⟨(some 57),.ld (.t 56) 1 false,some (50,false)⟩,
    ⟨(some 58),.pick (.t 50) (.c (.bool true)) (.t 57),none⟩]) <|
  .cond (.t 58) (.seq (.reg [⟨(some 4),.mov (.c (.bool false)),none⟩]) <|
  .ret) (.skip)) <|
  .seq (.seq (.reg [⟨(some 60),.mov (.t 0),none⟩,
    ⟨(some 61),.fadd (.t 3) 0,none⟩,
    ⟨(some 62),.ld (.t 61) 1 false,none⟩,
    ⟨(some 63),.fadd (.t 3) 3,none⟩,
    ⟨(some 64),.fadd (.t 63) 1,none⟩,
    ⟨(some 65),.ld (.t 64) 1 false,none⟩,
    ⟨(some 66),.call dj [(.t 60),(.t 62),(.t 65)],none⟩,
    ⟨(some 59),.mov (.t 66),none⟩,
    ⟨(some 67),.ext (.t 59) 0,none⟩,
    ⟨(some 68),.ext (.t 59) 1,none⟩,
    ⟨(some 6),.alloc (.agg [(.int .i64 0),(.int .i64 0),(.int .i64 0),(.int .i64 0),(.int .i64 0),(.int .i32 0),(.int .i64 0),(.int .i64 0),(.int .i32 0),(.int .i64 0),(.int .i64 0),(.int .i32 0),(.int .i64 0),(.int .i64 0),(.int .i32 0)]),none⟩,
    ⟨none,.st (.t 6) (.t 67) 15,none⟩,
    ⟨(some 7),.mov (.t 68),none⟩]) <|
  .seq (.reg [⟨(some 69),.mov (.t 7),none⟩]) <|
  .cond (.t 69) (.seq (.reg [⟨(some 4),.mov (.c (.bool false)),none⟩]) <|
  .ret) (.skip)) <|
  .seq (.reg [⟨(some 71),.mov (.t 0),none⟩,
    ⟨(some 72),.fadd (.t 3) 0,none⟩,
    ⟨(some 73),.ld (.t 72) 1 false,none⟩,
    ⟨(some 74),.fadd (.t 5) 5,none⟩,
    ⟨(some 75),.fadd (.t 74) 1,none⟩,
    ⟨(some 76),.ld (.t 75) 1 false,none⟩,
    ⟨(some 77),.call dj [(.t 71),(.t 73),(.t 76)],none⟩,
    ⟨(some 70),.mov (.t 77),none⟩,
    ⟨(some 78),.ext (.t 70) 0,none⟩,
    ⟨(some 79),.ext (.t 70) 1,none⟩,
    ⟨(some 8),.alloc (.agg [(.int .i64 0),(.int .i64 0),(.int .i64 0),(.int .i64 0),(.int .i64 0),(.int .i32 0),(.int .i64 0),(.int .i64 0),(.int .i32 0),(.int .i64 0),(.int .i64 0),(.int .i32 0),(.int .i64 0),(.int .i64 0),(.int .i32 0)]),none⟩,
    ⟨none,.st (.t 8) (.t 78) 15,none⟩,
    ⟨(some 9),.mov (.t 79),none⟩]) <|
  .seq (.reg [⟨(some 80),.fadd (.t 5) 5,none⟩,
    ⟨(some 81),.ld (.t 80) 3 true,none⟩,
    ⟨(some 82),.fadd (.t 3) 3,none⟩,
    ⟨(some 83),.fadd (.t 82) 1,none⟩,
    ⟨(some 84),.ld (.t 83) 1 false,none⟩,
    ⟨(some 85),.bld [(.int .i64 0),(.int .i64 0),(.int .i32 0)] [(0,1,(.c (.int .i64 2))),(1,1,(.t 84))],none⟩,
    ⟨(some 86),.fadd (.t 3) 3,none⟩,
    ⟨(some 87),.fadd (.t 86) 2,none⟩,
    ⟨(some 88),.ld (.t 87) 1 false,none⟩,
    ⟨(some 89),.conv .i32 (.t 88),none⟩,
    ⟨(some 90),.bld [(.int .i64 0),(.int .i64 0),(.int .i32 0)] [(0,1,(.c (.int .i64 1))),(2,1,(.t 89))],none⟩,
    ⟨(some 91),.bld [(.int .i64 0),(.int .i64 0),(.int .i64 0),(.int .i64 0),(.int .i64 0),(.int .i32 0),(.int .i64 0),(.int .i64 0),(.int .i32 0),(.int .i64 0),(.int .i64 0),(.int .i32 0),(.int .i64 0),(.int .i64 0),(.int .i32 0)] [(0,1,(.c (.int .i64 3))),(1,1,(.c (.int .i64 26))),(3,3,(.t 81)),(6,3,(.t 85)),(9,3,(.t 90))],none⟩,
    ⟨(some 10),.alloc (.agg [(.int .i64 0),(.int .i64 0),(.int .i64 0),(.int .i64 0),(.int .i64 0),(.int .i32 0),(.int .i64 0),(.int .i64 0),(.int .i32 0),(.int .i64 0),(.int .i64 0),(.int .i32 0),(.int .i64 0),(.int .i64 0),(.int .i32 0)]),none⟩,
    ⟨none,.st (.t 10) (.t 91) 15,none⟩]) <|
  .seq (.reg [⟨(some 92),.mov (.t 9),none⟩,
    ⟨(some 93),.mov (.t 92),none⟩,
    ⟨(some 94),.ld (.t 8) 15 true,some (93,true)⟩,
    ⟨(some 95),.ld (.t 10) 15 true,some (93,true)⟩,
    ⟨(some 96),.eqv false true [.i,.i,.i,.i,.i,.i,.i,.i,.i,.i,.i,.i,.i,.i,.i] (.t 94) (.t 95),some (93,true)⟩,
    ⟨(some 97),.pick (.t 93) (.t 96) (.c (.bool false)),none⟩,
    ⟨(some 4),.mov (.t 97),none⟩]) <|
  .ret,
  [.t 4]⟩
theorem po:cFn PP true eK nk (cDr PP 98 p8)=some jU:=by kernel_rfl
def np:Nat->Option (List Nat×List Nat)
  | 1000018=>some ([],[5])|3=>some ([2,3,14,15],[5,16])|1000017=>some ([2,3,14,15,16],[5])|9=>some ([2,3,6,14,15,16,35,36],[5,37])|1000016=>some ([2,3,6,14,15,16,35,36,37],[5])|_=>none
def p9:Nat->Option (List Nat×List Nat×List Nat)
  | 6=>some ([0,1,3,0,8,24,63],[],[])|11=>some ([0,1,0,4,12,31],[],[])|_=>none
def jV:af:=⟨70,
  .seq (.reg [⟨(some 2),.box (.t 0),none⟩,
    ⟨(some 3),.box (.t 1),none⟩,
    ⟨(some 4),.mov (.c (.bool false)),none⟩]) <|
  .seq (.reg [⟨(some 5),.mov (.c (.bool false)),none⟩]) <|
  .seqj [] [5] (.seq (.reg [⟨(some 10),.ld (.t 2) 1 false,none⟩,
    ⟨(some 11),.fadd (.t 10) 0,none⟩,
    ⟨(some 12),.fadd (.t 11) 0,none⟩,
    ⟨(some 13),.fadd (.t 12) 7,none⟩,
    ⟨(some 14),.ld (.t 13) 1 false,none⟩,
    ⟨(some 15),.len (.t 14),none⟩,
    ⟨(some 16),.mov (.c (.int .i64 0)),none⟩]) <|
  .block 0 (.loop [2,3,14,15] [5,16] (.seq (.reg [⟨(some 17),.bin .lss (.t 16) (.t 15),none⟩]) <|
  .seq (.cond (.t 17) (.skip) (.exit 0)) <|
  .seqj [2,3,14,15,16] [5] (.block 1 (.seq (.reg [⟨(some 18),.mov (.t 16),none⟩,
    ⟨(some 19),.iadd (.t 14) (.t 16) 14,none⟩,
    ⟨(some 20),.ld (.t 19) 14 true,none⟩,
    ⟨(some 6),.alloc (.int .i64 0),none⟩,
    ⟨(some 7),.alloc (.agg [.nil,(.int .i64 0),(.int .i64 0),(.int .i64 0),(.int .i64 0),(.int .i32 0),(.int .i64 0),(.int .i64 0),(.int .i32 0),(.int .i64 0),(.int .i64 0),(.int .i32 0),(.int .i64 0),(.int .i64 0)]),none⟩,
    ⟨none,.st (.t 6) (.t 18) 1,none⟩,
    ⟨none,.st (.t 7) (.t 20) 14,none⟩]) <|
  .seq (.seq (.reg [⟨(some 21),.fadd (.t 3) 2,none⟩,
    ⟨(some 22),.ld (.t 21) 1 false,none⟩,
    ⟨(some 23),.ld (.t 6) 1 false,none⟩,
    ⟨(some 24),.iadd (.t 22) (.t 23) 1,none⟩,
    ⟨(some 25),.ld (.t 24) 1 false,none⟩,
    ⟨(some 26),.un .not (.t 25),none⟩]) <|
  .cond (.t 26) (.exit 1) (.skip)) <|
  .seq (.seq (.dreg [⟨(some 27),.fadd (.t 7) 1,none⟩,
    ⟨(some 28),.ld (.t 27) 13 true,none⟩,
    ⟨(some 29),.call rb [(.t 28)],none⟩,
    ⟨(some 30),.fadd (.t 3) 3,none⟩,
    ⟨(some 31),.fadd (.t 30) 1,none⟩,
    ⟨(some 32),.ld (.t 31) 1 false,none⟩,
    ⟨(some 33),.bin .eql (.t 29) (.t 32),none⟩] [] []) <|
  .cond (.t 33) (.seq (.reg [⟨(some 4),.mov (.c (.bool false)),none⟩]) <|
  .ret) (.skip)) <|
  .seq (.reg [⟨(some 34),.fadd (.t 7) 0,none⟩,
    ⟨(some 35),.ld (.t 34) 1 false,none⟩,
    ⟨(some 36),.len (.t 35),none⟩,
    ⟨(some 37),.mov (.c (.int .i64 0)),none⟩]) <|
  .block 2 (.loop [2,3,6,14,15,16,35,36] [5,37] (.seq (.reg [⟨(some 38),.bin .lss (.t 37) (.t 36),none⟩]) <|
  .seq (.cond (.t 38) (.skip) (.exit 2)) <|
  .seqj [2,3,6,14,15,16,35,36,37] [5] (.block 3 (.seq (.reg [⟨(some 39),.iadd (.t 35) (.t 37) 15,none⟩,
    ⟨(some 40),.ld (.t 39) 15 true,none⟩,
    ⟨(some 9),.alloc (.agg [(.int .i64 0),(.int .i64 0),(.int .i64 0),(.int .i64 0),(.int .i64 0),(.int .i32 0),(.int .i64 0),(.int .i64 0),(.int .i32 0),(.int .i64 0),(.int .i64 0),(.int .i32 0),(.int .i64 0),(.int .i64 0),(.int .i32 0)]),none⟩,
    ⟨none,.st (.t 9) (.t 40) 15,none⟩]) <|
  .seq (.seq (.dreg [⟨(some 41),.ld (.t 9) 15 true,none⟩,
    ⟨(some 42),.call uP [(.t 41)],none⟩,
    ⟨(some 43),.fadd (.t 3) 3,none⟩,
    ⟨(some 44),.fadd (.t 43) 1,none⟩,
    ⟨(some 45),.ld (.t 44) 1 false,none⟩,
    ⟨(some 46),.bin .neq (.t 42) (.t 45),none⟩] [] []) <|
  .cond (.t 46) (.exit 3) (.skip)) <|
  .seq (.seq (.reg [⟨(some 47),.ld (.t 9) 15 true,none⟩,
    ⟨(some 48),.fadd (.t 3) 3,none⟩,
    ⟨(some 49),.fadd (.t 48) 1,none⟩,
    ⟨(some 50),.ld (.t 49) 1 false,none⟩,
    ⟨(some 51),.call re [(.t 47),(.t 50)],none⟩,
    ⟨(some 52),.un .not (.t 51),none⟩,
    ⟨(some 53),.mov (.t 52),none⟩,
    ⟨(some 54),.ld (.t 2) 1 false,some (53,false)⟩,
    ⟨(some 55),.ld (.t 3) 6 true,some (53,false)⟩,
    ⟨(some 56),.ld (.t 6) 1 false,some (53,false)⟩,
    ⟨(some 57),.call iS [(.t 54),(.t 55),(.t 56)],some (53,false)⟩,
    ⟨(some 58),.pick (.t 53) (.c (.bool true)) (.t 57),none⟩]) <|
  .cond (.t 58) (.seq (.reg [⟨(some 4),.mov (.c (.bool false)),none⟩]) <|
  .ret) (.skip)) <|
  .reg [⟨(some 59),.mov (.t 5),none⟩,
    ⟨(some 60),.mov (.t 59),none⟩,
    ⟨(some 61),.fadd (.t 3) 1,some (60,false)⟩,
    ⟨(some 62),.ld (.t 61) 1 false,some (60,false)⟩,
    ⟨(some 63),.mkf gi [] [(.t 2),(.t 6)],some (60,false)⟩,
    ⟨(some 64),.call bk [(.t 62),(.t 63)],some (60,false)⟩,
    ⟨(some 65),.un .not (.t 64),some (60,false)⟩,
    ⟨(some 66),.pick (.t 60) (.c (.bool true)) (.t 65),none⟩,
    ⟨(some 5),.mov (.t 66),none⟩])) <|
  .reg [⟨(some 67),.bin .add (.t 37) (.c (.int .i64 1)),none⟩,
    ⟨(some 37),.mov (.t 67),none⟩])))) <|
  .reg [⟨(some 68),.bin .add (.t 16) (.c (.int .i64 1)),none⟩,
    ⟨(some 16),.mov (.t 68),none⟩]))) <|
  .seq (.reg [⟨(some 69),.mov (.t 5),none⟩,
    ⟨(some 4),.mov (.t 69),none⟩]) <|
  .ret,
  [.t 4]⟩
theorem pq:cFn PP true eL np (cDr PP 70 p9)=some jV:=by kernel_rfl
def mm:Nat->Option (List Nat×List Nat)
  | _=>none
def oq:Nat->Option (List Nat×List Nat×List Nat)
  | 1=>some ([0,1,3,7,0,16,63,127,0,511,1023,2047],[9],[999999])|_=>none
def jl:af:=⟨16,
  .seq (.reg [⟨(some 2),.box (.t 0),none⟩,
    ⟨(some 3),.box (.t 1),none⟩,
    ⟨(some 4),.mov (.c (.bool false)),none⟩]) <|
  .seq (.seq (.dreg [⟨(some 5),.ld (.t 2) 1 false,none⟩,
    ⟨(some 6),.fadd (.t 5) 0,none⟩,
    ⟨(some 7),.fadd (.t 6) 9,none⟩,
    ⟨(some 8),.ld (.t 7) 1 false,none⟩,
    ⟨(some 9),.fadd (.t 3) 0,none⟩,
    ⟨(some 10),.ld (.t 9) 1 false,none⟩,
    ⟨(some 11),.iadd (.t 8) (.t 10) 1,none⟩,
    ⟨(some 12),.ld (.t 11) 1 false,none⟩,
    ⟨(some 13),.mkf fx [] [(.t 3),(.t 2)],none⟩] [⟨(some 14),.call bk [(.t 12),(.t 13)],none⟩] []) <|
  .dreg [⟨(some 15),.un .not (.t 14),none⟩,
    ⟨(some 4),.mov (.t 15),none⟩] [] []) <|
  .ret,
  [.t 4]⟩
theorem nX:cFn PP true dX mm (cDr PP 16 oq)=some jl:=by kernel_rfl
def fg:Nat->Option (List Nat×List Nat)
  | _=>none
def fQ:Nat->Option (List Nat×List Nat×List Nat)
  | _=>none
def cV:af:=⟨9,
  .seq (.reg [⟨(some 4),.mov (.c (.bool false)),none⟩]) <|
  .seq (.reg [⟨(some 5),.mov (.t 0),none⟩,
    ⟨(some 6),.mov (.t 1),none⟩,
    ⟨(some 7),.call dJ [(.t 5),(.t 6)],none⟩,
    ⟨(some 8),.bin .geq (.t 7) (.c (.int .i64 0)),none⟩,
    ⟨(some 4),.mov (.t 8),none⟩]) <|
  .ret,
  [.t 4]⟩
theorem fL:cFn PP true bk fg (cDr PP 9 fQ)=some cV:=by kernel_rfl
def vc:Nat->Option (List Nat×List Nat)
  | _=>none
def yg:Nat->Option (List Nat×List Nat×List Nat)
  | _=>none
def sE:af:=⟨5,
  .seq (.reg [⟨(some 2),.mov (.c (.bool false)),none⟩]) <|
  .seq (.reg [⟨(some 3),.mov (.t 0),none⟩,
    ⟨(some 4),.bin .gtr (.t 3) (.c (.int .i64 1099511627776)),none⟩,
    ⟨(some 2),.mov (.t 4),none⟩]) <|
  .ret,
  [.t 2]⟩
theorem xQ:cFn PP true rf vc (cDr PP 5 yg)=some sE:=by kernel_rfl
def fy:Nat->Option (List Nat×List Nat)
  | 1000005=>some ([0,5],[6])|_=>none
def gJ:Nat->Option (List Nat×List Nat×List Nat)
  | 5=>some ([0,0,0,4,0,16,48,112,240,0,1008,2032,4080,8176,16368,32764,65534,131071],[3,17],[999999])|6=>some ([0,0,1,7],[3],[])|_=>none
noncomputable def eM:af:=⟨39,gW (cFn PP true bZ fy (cDr PP 39 gJ)),
  [.t 4,.cell 5 3 true]⟩
theorem o8:cFn PP true bZ fy (cDr PP 39 gJ)=some eM:=by kernel_rfl
def jH (a0:D) (a1:D) (h0:Heap) (K:D->Heap->Prop):Prop :=
  aa PP (.alloc (.agg [(.int .i64 0),(.int .i64 0),(.int .i32 0)])) h0 fun a3 h4 =>
  ai PP ah [a0] h4 fun a5 h6 =>
  vbin .rem a5 (.int .i64 5) fun a7 =>
  ∃(J8:List D->Heap->Prop),(∀(f9:Nat->D) (h10:Heap),J8 [f9 6] h10 ->
  ai PP aJ [a0] h10 fun a11 h12 =>
  aa PP (.alloc (.agg [(.int .i64 0),(.int .i64 0),(.int .i32 0)])) h12 fun a13 h14 =>
  aa PP (.st (.c a13) (.c a11) 3) h14 fun a15 h16 =>
  ag PP (.ld (.c a13) 3 true) h16 fun a17 =>
  ag PP (.fadd (.c a0) 0) h16 fun a18 =>
  ag PP (.fadd (.c a18) 2) h16 fun a19 =>
  ag PP (.fadd (.c a19) 5) h16 fun a20 =>
  ag PP (.ld (.c a20) 1 false) h16 fun a21 =>
  ag PP (.iadd (.c a21) (.c (f9 6)) 4) h16 fun a22 =>
  ag PP (.fadd (.c a22) 3) h16 fun a23 =>
  ag PP (.ld (.c a23) 1 false) h16 fun a24 =>
  vbin .sub a24 (.int .i64 1) fun a25 =>
  ag PP (.conv .i32 (.c a25)) h16 fun a26 =>
  ai PP aG [a0] h16 fun a27 h28 =>
  ((ag PP (.ld (.c a13) 3 true) h28 fun a29=>bR [a29] [a17])/\(ag PP (.fadd (.c a0) 0) h28 fun a30=>bR [a30] [a18])/\(ag PP (.fadd (.c a18) 2) h28 fun a31=>bR [a31] [a19])/\(ag PP (.fadd (.c a19) 5) h28 fun a32=>bR [a32] [a20])/\(ag PP (.ld (.c a20) 1 false) h28 fun a33=>bR [a33] [a21])/\(ag PP (.iadd (.c a21) (.c (f9 6)) 4) h28 fun a34=>bR [a34] [a22])/\(ag PP (.fadd (.c a22) 3) h28 fun a35=>bR [a35] [a23])/\(ag PP (.ld (.c a23) 1 false) h28 fun a36=>bR [a36] [a24])/\True) /\
  ag PP (.call cb [(.c a26)]) h28 fun a37 =>
  ag PP (.bld [(.int .i64 0),(.int .i64 0),(.int .i64 0),(.int .i64 0),(.int .i64 0),(.int .i32 0),(.int .i64 0),(.int .i64 0),(.int .i32 0),(.int .i64 0),(.int .i64 0),(.int .i32 0),(.int .i64 0),(.int .i64 0),(.int .i32 0)] [(0,1,(.c (.int .i64 3))),(1,1,(.c (.int .i64 17))),(3,3,(.c a17)),(6,3,(.c a27)),(9,3,(.c a37))]) h28 fun a38 =>
  ai PP aB [a0,a38] h28 fun a39 h40 =>
  ag PP (.ld (.c a13) 3 true) h40 fun a41 =>
  aa PP (.st (.c a3) (.c a41) 3) h40 fun a42 h43 =>
  aa PP (.ld (.c a3) 3 true) h43 fun a44 _ =>
  K (.tup [(f9 6),a44]) h43) /\
  vbin .eql a7 (.int .i64 3) fun a45 =>
  vguard a45 true (fun G46 =>
  G46 a1 h6) h6 fun a47 h48 =>
  vguard a45 true (fun G49 =>
  vun .not a47 fun a52 =>
  G49 a52 h48) h48 fun a50 h51 =>
  aa PP (.pick (.c a45) (.c a50) (.c (.bool false))) h51 fun a53 h54 =>
  vcond a53 (bR [a0,a3] [a0,a3]/\J8 [(.int .i64 0)] h54) (
  bR [a0,a3] [a0,a3]/\J8 [a7] h54)
theorem oZ (a0:D) (a1:D) (h0:Heap) (K:D->Heap->Prop):jH a0 a1 h0 K=vcC PP eM.code (fun x e h'=>match x with|.exit _=>False|.pan=>False|.jump _=>False|_=>cY PP eM.res K e h') (params [a0,a1] 0) h0:=by kernel_rfl
def wM:Nat->Option (List Nat×List Nat)
  | _=>none
def Ad:Nat->Option (List Nat×List Nat×List Nat)
  | _=>none
def uk:af:=⟨24,
  .seq (.reg [⟨(some 1),.box (.t 0),none⟩,
    ⟨(some 2),.mov (.c (.bool false)),none⟩]) <|
  .seq (.seq (.reg [⟨(some 5),.ld (.t 1) 7 true,none⟩,
    ⟨(some 6),.call qZ [(.t 5)],none⟩,
    ⟨(some 7),.un .not (.t 6),none⟩]) <|
  .cond (.t 7) (.seq (.reg [⟨(some 2),.mov (.c (.bool false)),none⟩]) <|
  .ret) (.skip)) <|
  .seq (.reg [⟨(some 8),.ld (.t 1) 7 true,none⟩,
    ⟨(some 9),.call wi [(.t 8)],none⟩,
    ⟨(some 10),.bld [(.str ⟨#[]⟩),(.int .i64 0),(.int .i64 0),(.bool false)] [(0,1,(.t 9)),(2,1,(.c (.int .i64 (-1))))],none⟩,
    ⟨(some 11),.box (.t 10),none⟩,
    ⟨(some 3),.mov (.t 11),none⟩]) <|
  .seq (.reg [⟨(some 12),.mov (.t 3),none⟩,
    ⟨(some 13),.call gO [(.t 12)],none⟩,
    ⟨(some 4),.alloc (.agg [(.str ⟨#[]⟩),(.int .i64 0),(.int .i64 0),.nil,.nil,.nil,.nil]),none⟩,
    ⟨none,.st (.t 4) (.t 13) 7,none⟩]) <|
  .seq (.reg [⟨(some 14),.mov (.t 3),none⟩,
    ⟨(some 15),.fadd (.t 14) 0,none⟩,
    ⟨(some 16),.fadd (.t 15) 2,none⟩,
    ⟨(some 17),.ld (.t 16) 1 false,none⟩,
    ⟨(some 18),.bin .lss (.t 17) (.c (.int .i64 0)),none⟩,
    ⟨(some 19),.mov (.t 18),none⟩,
    ⟨(some 20),.ld (.t 1) 7 true,some (19,true)⟩,
    ⟨(some 21),.ld (.t 4) 7 true,some (19,true)⟩,
    ⟨(some 22),.call wj [(.t 20),(.t 21)],some (19,true)⟩,
    ⟨(some 23),.pick (.t 19) (.t 22) (.c (.bool false)),none⟩,
    ⟨(some 2),.mov (.t 23),none⟩]) <|
  .ret,
  [.t 2]⟩
theorem ze:cFn PP true tK wM (cDr PP 24 Ad)=some uk:=by kernel_rfl
def sY:Nat->Option (List Nat×List Nat)
  | 1000009=>some ([],[])|4=>some ([1],[3])|_=>none
def vS:Nat->Option (List Nat×List Nat×List Nat)
  | _=>none
def pK:af:=⟨62,
  .seq (.reg [⟨(some 1),.box (.t 0),none⟩,
    ⟨(some 2),.mov (.c (.bool false)),none⟩]) <|
  .seq (.seq (.reg [⟨(some 4),.fadd (.t 1) 1,none⟩,
    ⟨(some 5),.ld (.t 4) 1 false,none⟩,
    ⟨(some 6),.bin .lss (.t 5) (.c (.int .i64 1)),none⟩,
    ⟨(some 7),.mov (.t 6),none⟩,
    ⟨(some 8),.fadd (.t 1) 1,some (7,false)⟩,
    ⟨(some 9),.ld (.t 8) 1 false,some (7,false)⟩,
    ⟨(some 10),.bin .gtr (.t 9) (.c (.int .i64 256)),some (7,false)⟩,
    ⟨(some 11),.pick (.t 7) (.c (.bool true)) (.t 10),none⟩,
    ⟨(some 12),.mov (.t 11),none⟩,
    ⟨(some 13),.fadd (.t 1) 2,some (12,false)⟩,
    ⟨(some 14),.ld (.t 13) 1 false,some (12,false)⟩,
    ⟨(some 15),.bin .lss (.t 14) (.c (.int .i64 1)),some (12,false)⟩,
    ⟨(some 16),.pick (.t 12) (.c (.bool true)) (.t 15),none⟩,
    ⟨(some 17),.mov (.t 16),none⟩,
    ⟨(some 18),.fadd (.t 1) 2,some (17,false)⟩,
    ⟨(some 19),.ld (.t 18) 1 false,some (17,false)⟩,
    ⟨(some 20),.bin .gtr (.t 19) (.c (.int .i64 32)),some (17,false)⟩,
    ⟨(some 21),.pick (.t 17) (.c (.bool true)) (.t 20),none⟩,
    ⟨(some 22),.mov (.t 21),none⟩,
    ⟨(some 23),.fadd (.t 1) 2,some (22,false)⟩,
    ⟨(some 24),.ld (.t 23) 1 false,some (22,false)⟩,
    ⟨(some 25),.fadd (.t 1) 2,some (22,false)⟩,
    ⟨(some 26),.ld (.t 25) 1 false,some (22,false)⟩,
    ⟨(some 27),.bin .sub (.t 26) (.c (.int .i64 1)),some (22,false)⟩,
    ⟨(some 28),.bin .and (.t 24) (.t 27),some (22,false)⟩,
    ⟨(some 29),.bin .neq (.t 28) (.c (.int .i64 0)),some (22,false)⟩,
    ⟨(some 30),.pick (.t 22) (.c (.bool true)) (.t 29),none⟩,
    ⟨(some 31),.mov (.t 30),none⟩,
    ⟨(some 32),.fadd (.t 1) 1,some (31,false)⟩,
    ⟨(some 33),.ld (.t 32) 1 false,some (31,false)⟩,
    ⟨(some 34),.fadd (.t 1) 2,some (31,false)⟩,
    ⟨(some 35),.ld (.t 34) 1 false,some (31,false)⟩,
    ⟨(some 36),.bin .rem (.t 33) (.t 35),some (31,false)⟩,
    ⟨(some 37),.bin .neq (.t 36) (.c (.int .i64 0)),some (31,false)⟩,
    ⟨(some 38),.pick (.t 31) (.c (.bool true)) (.t 37),none⟩]) <|
  .cond (.t 38) (.seq (.reg [⟨(some 2),.mov (.c (.bool false)),none⟩]) <|
  .ret) (.skip)) <|
  .seqj [] [] (.seq (.reg [⟨(some 3),.mov (.c (.int .i64 0)),none⟩]) <|
  .block 0 (.loop [1] [3] (.seq (.seq (.reg [⟨(some 39),.mov (.t 3),none⟩,
    ⟨(some 40),.fadd (.t 1) 3,none⟩,
    ⟨(some 41),.ld (.t 40) 1 false,none⟩,
    ⟨(some 42),.len (.t 41),none⟩,
    ⟨(some 43),.bin .lss (.t 39) (.t 42),none⟩]) <|
  .cond (.t 43) (.skip) (.exit 0)) <|
  .seq (.block 1 (.seq (.reg [⟨(some 46),.fadd (.t 1) 3,none⟩,
    ⟨(some 47),.ld (.t 46) 1 false,none⟩,
    ⟨(some 48),.mov (.t 3),none⟩,
    ⟨(some 49),.iadd (.t 47) (.t 48) 4,none⟩,
    ⟨(some 50),.fadd (.t 49) 3,none⟩,
    ⟨(some 51),.ld (.t 50) 1 false,none⟩,
    ⟨(some 52),.bin .lss (.t 51) (.c (.int .i64 1)),none⟩,
    ⟨(some 53),.mov (.t 52),none⟩,
    ⟨(some 54),.fadd (.t 1) 3,some (53,false)⟩,
    ⟨(some 55),.ld (.t 54) 1 false,some (53,false)⟩,
    ⟨(some 56),.mov (.t 3),some (53,false)⟩,
    ⟨(some 57),.iadd (.t 55) (.t 56) 4,some (53,false)⟩,
    ⟨(some 58),.fadd (.t 57) 3,some (53,false)⟩,
    ⟨(some 59),.ld (.t 58) 1 false,some (53,false)⟩,
    ⟨(some 60),.bin .gtr (.t 59) (.c (.int .i64 4096)),some (53,false)⟩,
    ⟨(some 61),.pick (.t 53) (.c (.bool true)) (.t 60),none⟩]) <|
  .cond (.t 61) (.seq (.reg [⟨(some 2),.mov (.c (.bool false)),none⟩]) <|
  .ret) (.skip))) <|
  .reg [⟨(some 44),.mov (.t 3),none⟩,
    ⟨(some 45),.bin .add (.t 44) (.c (.int .i64 1)),none⟩,
    ⟨(some 3),.mov (.t 45),none⟩]))) <|
  .seq (.reg [⟨(some 2),.mov (.c (.bool true)),none⟩]) <|
  .ret,
  [.t 2]⟩
theorem vv:cFn PP true pw sY (cDr PP 62 vS)=some pK:=by kernel_rfl
def ru:Nat->Option (List Nat×List Nat)
  | 1000007=>some ([1],[3])|3=>some ([1],[3,4])|1000011=>some ([1],[3])|7=>some ([1],[3,5])|1000015=>some ([],[3])|11=>some ([1],[3,6])|1000023=>some ([],[])|15=>some ([3],[7])|1000017=>some ([3,7],[])|18=>some ([3,7],[8])|_=>none
def uB:Nat->Option (List Nat×List Nat×List Nat)
  | 20=>some ([0,0,3,7,0,0,48,112,255],[],[])|_=>none
def nL:af:=⟨78,
  .seq (.reg [⟨(some 1),.box (.t 0),none⟩,
    ⟨(some 2),.mov (.c (.bool false)),none⟩]) <|
  .seq (.reg [⟨(some 9),.bldS true 1 0 (.str ⟨#[]⟩) [],none⟩,
    ⟨(some 3),.mov (.t 9),none⟩]) <|
  .seqj [1] [3] (.seq (.reg [⟨(some 4),.mov (.c (.int .i64 0)),none⟩]) <|
  .block 0 (.loop [1] [3,4] (.seq (.seq (.reg [⟨(some 10),.mov (.t 4),none⟩,
    ⟨(some 11),.fadd (.t 1) 3,none⟩,
    ⟨(some 12),.ld (.t 11) 1 false,none⟩,
    ⟨(some 13),.len (.t 12),none⟩,
    ⟨(some 14),.bin .lss (.t 10) (.t 13),none⟩]) <|
  .cond (.t 14) (.skip) (.exit 0)) <|
  .seq (.block 1 (.reg [⟨(some 17),.mov (.t 3),none⟩,
    ⟨(some 18),.fadd (.t 1) 3,none⟩,
    ⟨(some 19),.ld (.t 18) 1 false,none⟩,
    ⟨(some 20),.mov (.t 4),none⟩,
    ⟨(some 21),.iadd (.t 19) (.t 20) 4,none⟩,
    ⟨(some 22),.fadd (.t 21) 0,none⟩,
    ⟨(some 23),.ld (.t 22) 1 false,none⟩,
    ⟨(some 24),.bldS true 1 1 (.str ⟨#[]⟩) [(0,(.t 23))],none⟩,
    ⟨(some 25),.app (.t 17) (.t 24) 1 16 (.str ⟨#[]⟩),none⟩,
    ⟨(some 3),.mov (.t 25),none⟩])) <|
  .reg [⟨(some 15),.mov (.t 4),none⟩,
    ⟨(some 16),.bin .add (.t 15) (.c (.int .i64 1)),none⟩,
    ⟨(some 4),.mov (.t 16),none⟩]))) <|
  .seqj [1] [3] (.seq (.reg [⟨(some 5),.mov (.c (.int .i64 0)),none⟩]) <|
  .block 2 (.loop [1] [3,5] (.seq (.seq (.reg [⟨(some 26),.mov (.t 5),none⟩,
    ⟨(some 27),.fadd (.t 1) 4,none⟩,
    ⟨(some 28),.ld (.t 27) 1 false,none⟩,
    ⟨(some 29),.len (.t 28),none⟩,
    ⟨(some 30),.bin .lss (.t 26) (.t 29),none⟩]) <|
  .cond (.t 30) (.skip) (.exit 2)) <|
  .seq (.block 3 (.reg [⟨(some 33),.mov (.t 3),none⟩,
    ⟨(some 34),.fadd (.t 1) 4,none⟩,
    ⟨(some 35),.ld (.t 34) 1 false,none⟩,
    ⟨(some 36),.mov (.t 5),none⟩,
    ⟨(some 37),.iadd (.t 35) (.t 36) 2,none⟩,
    ⟨(some 38),.fadd (.t 37) 0,none⟩,
    ⟨(some 39),.ld (.t 38) 1 false,none⟩,
    ⟨(some 40),.bldS true 1 1 (.str ⟨#[]⟩) [(0,(.t 39))],none⟩,
    ⟨(some 41),.app (.t 33) (.t 40) 1 16 (.str ⟨#[]⟩),none⟩,
    ⟨(some 3),.mov (.t 41),none⟩])) <|
  .reg [⟨(some 31),.mov (.t 5),none⟩,
    ⟨(some 32),.bin .add (.t 31) (.c (.int .i64 1)),none⟩,
    ⟨(some 5),.mov (.t 32),none⟩]))) <|
  .seqj [] [3] (.seq (.reg [⟨(some 6),.mov (.c (.int .i64 0)),none⟩]) <|
  .block 4 (.loop [1] [3,6] (.seq (.seq (.reg [⟨(some 42),.mov (.t 6),none⟩,
    ⟨(some 43),.fadd (.t 1) 5,none⟩,
    ⟨(some 44),.ld (.t 43) 1 false,none⟩,
    ⟨(some 45),.len (.t 44),none⟩,
    ⟨(some 46),.bin .lss (.t 42) (.t 45),none⟩]) <|
  .cond (.t 46) (.skip) (.exit 4)) <|
  .seq (.block 5 (.reg [⟨(some 49),.mov (.t 3),none⟩,
    ⟨(some 50),.fadd (.t 1) 5,none⟩,
    ⟨(some 51),.ld (.t 50) 1 false,none⟩,
    ⟨(some 52),.mov (.t 6),none⟩,
    ⟨(some 53),.iadd (.t 51) (.t 52) 10,none⟩,
    ⟨(some 54),.fadd (.t 53) 0,none⟩,
    ⟨(some 55),.ld (.t 54) 1 false,none⟩,
    ⟨(some 56),.bldS true 1 1 (.str ⟨#[]⟩) [(0,(.t 55))],none⟩,
    ⟨(some 57),.app (.t 49) (.t 56) 1 16 (.str ⟨#[]⟩),none⟩,
    ⟨(some 3),.mov (.t 57),none⟩])) <|
  .reg [⟨(some 47),.mov (.t 6),none⟩,
    ⟨(some 48),.bin .add (.t 47) (.c (.int .i64 1)),none⟩,
    ⟨(some 6),.mov (.t 48),none⟩]))) <|
  .seqj [] [] (.seq (.reg [⟨(some 7),.mov (.c (.int .i64 0)),none⟩]) <|
  .block 6 (.loop [3] [7] (.seq (.seq (.reg [⟨(some 58),.mov (.t 7),none⟩,
    ⟨(some 59),.mov (.t 3),none⟩,
    ⟨(some 60),.len (.t 59),none⟩,
    ⟨(some 61),.bin .lss (.t 58) (.t 60),none⟩]) <|
  .cond (.t 61) (.skip) (.exit 6)) <|
  .seqj [3,7] [] (.block 7 (.seq (.reg [⟨(some 8),.mov (.c (.int .i64 0)),none⟩]) <|
  .block 8 (.loop [3,7] [8] (.seq (.seq (.reg [⟨(some 64),.mov (.t 8),none⟩,
    ⟨(some 65),.mov (.t 7),none⟩,
    ⟨(some 66),.bin .lss (.t 64) (.t 65),none⟩]) <|
  .cond (.t 66) (.skip) (.exit 8)) <|
  .seq (.block 9 (.seq (.dreg [⟨(some 69),.mov (.t 3),none⟩,
    ⟨(some 70),.mov (.t 7),none⟩,
    ⟨(some 71),.iadd (.t 69) (.t 70) 1,none⟩,
    ⟨(some 72),.ld (.t 71) 1 false,none⟩,
    ⟨(some 73),.mov (.t 3),none⟩,
    ⟨(some 74),.mov (.t 8),none⟩,
    ⟨(some 75),.iadd (.t 73) (.t 74) 1,none⟩,
    ⟨(some 76),.ld (.t 75) 1 false,none⟩,
    ⟨(some 77),.bin .eql (.t 72) (.t 76),none⟩] [] []) <|
  .cond (.t 77) (.seq (.reg [⟨(some 2),.mov (.c (.bool false)),none⟩]) <|
  .ret) (.skip))) <|
  .reg [⟨(some 67),.mov (.t 8),none⟩,
    ⟨(some 68),.bin .add (.t 67) (.c (.int .i64 1)),none⟩,
    ⟨(some 8),.mov (.t 68),none⟩])))) <|
  .reg [⟨(some 62),.mov (.t 7),none⟩,
    ⟨(some 63),.bin .add (.t 62) (.c (.int .i64 1)),none⟩,
    ⟨(some 7),.mov (.t 63),none⟩]))) <|
  .seq (.reg [⟨(some 2),.mov (.c (.bool true)),none⟩]) <|
  .ret,
  [.t 2]⟩
theorem tj:cFn PP true mV ru (cDr PP 78 uB)=some nL:=by kernel_rfl
def sX:Nat->Option (List Nat×List Nat)
  | _=>none
def vR:Nat->Option (List Nat×List Nat×List Nat)
  | _=>none
def pJ:af:=⟨21,
  .seq (.reg [⟨(some 2),.box (.t 0),none⟩,
    ⟨(some 4),.mov (.c (.bool false)),none⟩]) <|
  .seq (.reg [⟨(some 5),.ld (.t 2) 11 true,none⟩,
    ⟨(some 6),.mov (.t 1),none⟩,
    ⟨(some 7),.call iy [(.t 5),(.t 6)],none⟩,
    ⟨(some 8),.bin .geq (.t 7) (.c (.int .i64 0)),none⟩,
    ⟨(some 9),.mov (.t 8),none⟩,
    ⟨(some 10),.ld (.t 2) 11 true,some (9,false)⟩,
    ⟨(some 11),.mov (.t 1),some (9,false)⟩,
    ⟨(some 12),.call ij [(.t 10),(.t 11)],some (9,false)⟩,
    ⟨(some 13),.bin .geq (.t 12) (.c (.int .i64 0)),some (9,false)⟩,
    ⟨(some 14),.pick (.t 9) (.c (.bool true)) (.t 13),none⟩,
    ⟨(some 15),.mov (.t 14),none⟩,
    ⟨(some 16),.ld (.t 2) 11 true,some (15,false)⟩,
    ⟨(some 17),.mov (.t 1),some (15,false)⟩,
    ⟨(some 18),.call ej [(.t 16),(.t 17)],some (15,false)⟩,
    ⟨(some 19),.bin .geq (.t 18) (.c (.int .i64 0)),some (15,false)⟩,
    ⟨(some 20),.pick (.t 15) (.c (.bool true)) (.t 19),none⟩,
    ⟨(some 4),.mov (.t 20),none⟩]) <|
  .ret,
  [.t 4]⟩
theorem vu:cFn PP true jo sX (cDr PP 21 vR)=some pJ:=by kernel_rfl
def oF:Nat->Option (List Nat×List Nat)
  | 1000018=>some ([2,4],[])|2=>some ([1,2,4],[5])|1000004=>some ([1,2,4,5],[])|1000013=>some ([1,2,4,5,6,8],[])|1000015=>some ([1,2,4,5,6,8],[])|_=>none
def qD:Nat->Option (List Nat×List Nat×List Nat)
  | 16=>some ([0,0,2,7,0,16,0,64,240,496,1023,2047,4095],[0,3,10,12],[999999])|_=>none
def kW:af:=⟨74,
  .seq (.reg [⟨(some 2),.box (.t 0),none⟩,
    ⟨(some 4),.alloc (.agg [(.str ⟨#[]⟩),(.int .i64 0),(.int .i64 0),.nil,.nil,.nil,.nil,(.int .i64 0),.nil,(.bool false),(.bool false),(.int .i64 0)]),none⟩]) <|
  .seqj [2,4] [] (.seq (.reg [⟨(some 5),.mov (.c (.int .i64 0)),none⟩]) <|
  .block 0 (.loop [1,2,4] [5] (.seq (.seq (.reg [⟨(some 9),.mov (.t 5),none⟩,
    ⟨(some 10),.mov (.t 1),none⟩,
    ⟨(some 11),.len (.t 10),none⟩,
    ⟨(some 12),.bin .lss (.t 9) (.t 11),none⟩]) <|
  .cond (.t 12) (.skip) (.exit 0)) <|
  .seqj [1,2,4,5] [] (.block 1 (.seq (.reg [⟨(some 15),.mov (.t 1),none⟩,
    ⟨(some 16),.mov (.t 5),none⟩,
    ⟨(some 17),.iadd (.t 15) (.t 16) 19,none⟩,
    ⟨(some 18),.ld (.t 17) 19 true,none⟩,
    ⟨(some 6),.alloc (.agg [(.int .i64 0),(.int .i64 0),(.int .i64 0),(.int .i64 0),(.str ⟨#[]⟩),(.int .i64 0),(.int .i64 0),(.int .i64 0),(.str ⟨#[]⟩),(.int .i32 0),.nil,(.int .i64 0),(.int .i64 0),(.int .i64 0),(.str ⟨#[]⟩),(.int .i32 0),.nil,.nil,.nil]),none⟩,
    ⟨none,.st (.t 6) (.t 18) 19,none⟩]) <|
  .seq (.seq (.reg [⟨(some 19),.fadd (.t 6) 0,none⟩,
    ⟨(some 20),.ld (.t 19) 1 false,none⟩,
    ⟨(some 21),.bin .neq (.t 20) (.c (.int .i64 1)),none⟩]) <|
  .cond (.t 21) (.seq (.reg [⟨(some 22),.ld (.t 2) 11 true,none⟩,
    ⟨(some 23),.ld (.t 6) 19 true,none⟩,
    ⟨(some 24),.call lH [(.t 22),(.t 23)],none⟩,
    ⟨(some 7),.mov (.t 24),none⟩]) <|
  .seq (.seq (.reg [⟨(some 25),.mov (.t 7),none⟩,
    ⟨(some 26),.bin .neq (.t 25) (.c (.int .i64 0)),none⟩]) <|
  .cond (.t 26) (.seq (.reg [⟨(some 27),.mov (.t 7),none⟩,
    ⟨(some 28),.bld [(.str ⟨#[]⟩),(.int .i64 0),(.int .i64 0),.nil,.nil,.nil,.nil,(.int .i64 0),.nil,(.bool false),(.bool false),(.int .i64 0)] [(11,1,(.t 27))],none⟩,
    ⟨none,.st (.t 4) (.t 28) 12,none⟩]) <|
  .ret) (.skip)) <|
  .exit 1) (.skip)) <|
  .seq (.reg [⟨(some 29),.ld (.t 2) 11 true,none⟩,
    ⟨(some 30),.fadd (.t 6) 5,none⟩,
    ⟨(some 31),.ld (.t 30) 6 true,none⟩,
    ⟨(some 32),.call dU [(.t 29),(.t 31)],none⟩,
    ⟨(some 8),.alloc (.agg [(.int .i64 0),(.int .i64 0)]),none⟩,
    ⟨none,.st (.t 8) (.t 32) 2,none⟩]) <|
  .seqj [1,2,4,5,6,8] [] (.seq (.reg [⟨(some 33),.fadd (.t 8) 1,none⟩,
    ⟨(some 34),.ld (.t 33) 1 false,none⟩,
    ⟨(some 35),.bin .eql (.t 34) (.c (.int .i64 0)),none⟩,
    ⟨(some 36),.mov (.t 35),none⟩,
    ⟨(some 37),.ld (.t 2) 11 true,some (36,true)⟩,
    ⟨(some 38),.fadd (.t 6) 4,some (36,true)⟩,
    ⟨(some 39),.ld (.t 38) 1 false,some (36,true)⟩,
    ⟨(some 40),.call jo [(.t 37),(.t 39)],some (36,true)⟩,
    ⟨(some 41),.pick (.t 36) (.t 40) (.c (.bool false)),none⟩]) <|
  .cond (.t 41) (.reg [⟨(some 42),.fadd (.t 8) 1,none⟩,
    ⟨none,.st (.t 42) (.c (.int .i64 30)) 1,none⟩]) (.skip)) <|
  .seqj [1,2,4,5,6,8] [] (.seq (.reg [⟨(some 43),.fadd (.t 8) 1,none⟩,
    ⟨(some 44),.ld (.t 43) 1 false,none⟩,
    ⟨(some 45),.bin .eql (.t 44) (.c (.int .i64 0)),none⟩,
    ⟨(some 46),.mov (.t 45),none⟩,
    ⟨(some 47),.fadd (.t 8) 0,some (46,true)⟩,
    ⟨(some 48),.ld (.t 47) 1 false,some (46,true)⟩,
    ⟨(some 49),.fadd (.t 6) 2,some (46,true)⟩,
    ⟨(some 50),.ld (.t 49) 1 false,some (46,true)⟩,
    ⟨(some 51),.bin .neq (.t 48) (.t 50),some (46,true)⟩,
    ⟨(some 52),.pick (.t 46) (.t 51) (.c (.bool false)),none⟩]) <|
  .cond (.t 52) (.reg [⟨(some 53),.fadd (.t 8) 1,none⟩,
    ⟨none,.st (.t 53) (.c (.int .i64 31)) 1,none⟩]) (.skip)) <|
  .seq (.seq (.reg [⟨(some 54),.fadd (.t 8) 1,none⟩,
    ⟨(some 55),.ld (.t 54) 1 false,none⟩,
    ⟨(some 56),.bin .neq (.t 55) (.c (.int .i64 0)),none⟩]) <|
  .cond (.t 56) (.seq (.reg [⟨(some 57),.fadd (.t 8) 1,none⟩,
    ⟨(some 58),.ld (.t 57) 1 false,none⟩,
    ⟨(some 59),.bld [(.str ⟨#[]⟩),(.int .i64 0),(.int .i64 0),.nil,.nil,.nil,.nil,(.int .i64 0),.nil,(.bool false),(.bool false),(.int .i64 0)] [(11,1,(.t 58))],none⟩,
    ⟨none,.st (.t 4) (.t 59) 12,none⟩]) <|
  .ret) (.skip)) <|
  .seq (.dreg [⟨(some 61),.fadd (.t 2) 8,none⟩,
    ⟨(some 62),.ld (.t 61) 1 false,none⟩,
    ⟨(some 64),.fadd (.t 6) 4,none⟩,
    ⟨(some 65),.ld (.t 64) 1 false,none⟩,
    ⟨(some 66),.fadd (.t 6) 2,none⟩,
    ⟨(some 67),.ld (.t 66) 1 false,none⟩,
    ⟨(some 68),.bld [(.str ⟨#[]⟩),(.int .i64 0),(.bool false)] [(0,1,(.t 65)),(1,1,(.t 67)),(2,1,(.c (.bool true)))],none⟩,
    ⟨(some 69),.bldS false 3 1 (.agg [(.str ⟨#[]⟩),(.int .i64 0),(.bool false)]) [(0,(.t 68))],none⟩] [⟨(some 60),.bldS true 3 0 (.agg [(.str ⟨#[]⟩),(.int .i64 0),(.bool false)]) [],none⟩] [⟨(some 61),.fadd (.t 2) 8,none⟩,
    ⟨(some 62),.ld (.t 61) 1 false,none⟩,
    ⟨(some 64),.fadd (.t 6) 4,none⟩,
    ⟨(some 65),.ld (.t 64) 1 false,none⟩,
    ⟨(some 66),.fadd (.t 6) 2,none⟩,
    ⟨(some 67),.ld (.t 66) 1 false,none⟩]) <|
  .seq (.dreg [] [⟨(some 63),.app (.t 60) (.t 62) 3 32 (.agg [(.str ⟨#[]⟩),(.int .i64 0),(.bool false)]),none⟩] [⟨(some 64),.fadd (.t 6) 4,none⟩,
    ⟨(some 65),.ld (.t 64) 1 false,none⟩,
    ⟨(some 66),.fadd (.t 6) 2,none⟩,
    ⟨(some 67),.ld (.t 66) 1 false,none⟩]) <|
  .seq (.dreg [] [⟨(some 70),.app (.t 63) (.t 69) 3 32 (.agg [(.str ⟨#[]⟩),(.int .i64 0),(.bool false)]),none⟩] []) <|
  .seq (.dreg [⟨(some 71),.fadd (.t 2) 8,none⟩] [⟨none,.st (.t 71) (.t 70) 1,none⟩] []) <|
  .dreg [] [] [])) <|
  .reg [⟨(some 13),.mov (.t 5),none⟩,
    ⟨(some 14),.bin .add (.t 13) (.c (.int .i64 1)),none⟩,
    ⟨(some 5),.mov (.t 14),none⟩]))) <|
  .seq (.reg [⟨(some 72),.ld (.t 2) 11 true,none⟩,
    ⟨(some 73),.bld [(.str ⟨#[]⟩),(.int .i64 0),(.int .i64 0),.nil,.nil,.nil,.nil,(.int .i64 0),.nil,(.bool false),(.bool false),(.int .i64 0)] [(0,11,(.t 72))],none⟩,
    ⟨none,.st (.t 4) (.t 73) 12,none⟩]) <|
  .ret,
  [.cell 4 12 true]⟩
theorem qo:cFn PP true bH oF (cDr PP 74 qD)=some kW:=by kernel_rfl
def B5:Nat->Option (List Nat×List Nat)
  | _=>none
def D3:Nat->Option (List Nat×List Nat×List Nat)
  | _=>none
def CF:af:=⟨22,
  .seq (.reg [⟨(some 3),.box (.t 0),none⟩,
    ⟨(some 4),.box (.t 1),none⟩,
    ⟨(some 6),.mov (.c (.int .i64 0)),none⟩]) <|
  .seq (.reg [⟨(some 8),.ld (.t 3) 11 true,none⟩,
    ⟨(some 9),.ld (.t 4) 6 true,none⟩,
    ⟨(some 10),.call dU [(.t 8),(.t 9)],none⟩,
    ⟨(some 7),.alloc (.agg [(.int .i64 0),(.int .i64 0)]),none⟩,
    ⟨none,.st (.t 7) (.t 10) 2,none⟩]) <|
  .seq (.seq (.reg [⟨(some 11),.fadd (.t 7) 1,none⟩,
    ⟨(some 12),.ld (.t 11) 1 false,none⟩,
    ⟨(some 13),.bin .eql (.t 12) (.c (.int .i64 0)),none⟩,
    ⟨(some 14),.mov (.t 13),none⟩,
    ⟨(some 15),.fadd (.t 7) 0,some (14,true)⟩,
    ⟨(some 16),.ld (.t 15) 1 false,some (14,true)⟩,
    ⟨(some 17),.mov (.t 2),some (14,true)⟩,
    ⟨(some 18),.bin .neq (.t 16) (.t 17),some (14,true)⟩,
    ⟨(some 19),.pick (.t 14) (.t 18) (.c (.bool false)),none⟩]) <|
  .cond (.t 19) (.seq (.reg [⟨(some 6),.mov (.c (.int .i64 31)),none⟩]) <|
  .ret) (.skip)) <|
  .seq (.reg [⟨(some 20),.fadd (.t 7) 1,none⟩,
    ⟨(some 21),.ld (.t 20) 1 false,none⟩,
    ⟨(some 6),.mov (.t 21),none⟩]) <|
  .ret,
  [.t 6]⟩
theorem Di:cFn PP true ik B5 (cDr PP 22 D3)=some CF:=by kernel_rfl
def uS:Nat->Option (List Nat×List Nat)
  | 1000007=>some ([],[3])|3=>some ([0],[3,4])|_=>none
def xX:Nat->Option (List Nat×List Nat×List Nat)
  | 5=>some ([0,0,0,6,14,30,0,0,192,448,960,2046,4094,8191,16383],[13,14],[])|_=>none
def sf:af:=⟨27,
  .seq (.reg [⟨(some 2),.mov (.c .nil),none⟩]) <|
  .seq (.reg [⟨(some 5),.bldS true 3 0 (.agg [(.str ⟨#[]⟩),(.int .i64 0),(.bool false)]) [],none⟩,
    ⟨(some 3),.mov (.t 5),none⟩]) <|
  .seqj [] [3] (.seq (.reg [⟨(some 4),.mov (.c (.int .i64 0)),none⟩]) <|
  .block 0 (.loop [0] [3,4] (.seq (.seq (.reg [⟨(some 6),.mov (.t 4),none⟩,
    ⟨(some 7),.mov (.t 0),none⟩,
    ⟨(some 8),.len (.t 7),none⟩,
    ⟨(some 9),.bin .lss (.t 6) (.t 8),none⟩]) <|
  .cond (.t 9) (.skip) (.exit 0)) <|
  .seq (.block 1 (.dreg [⟨(some 12),.mov (.t 3),none⟩,
    ⟨(some 13),.mov (.t 0),none⟩,
    ⟨(some 14),.mov (.t 4),none⟩,
    ⟨(some 15),.iadd (.t 13) (.t 14) 2,none⟩,
    ⟨(some 16),.fadd (.t 15) 0,none⟩,
    ⟨(some 17),.ld (.t 16) 1 false,none⟩,
    ⟨(some 18),.mov (.t 0),none⟩,
    ⟨(some 19),.mov (.t 4),none⟩,
    ⟨(some 20),.iadd (.t 18) (.t 19) 2,none⟩,
    ⟨(some 21),.fadd (.t 20) 1,none⟩,
    ⟨(some 22),.ld (.t 21) 1 false,none⟩,
    ⟨(some 23),.bld [(.str ⟨#[]⟩),(.int .i64 0),(.bool false)] [(0,1,(.t 17)),(1,1,(.t 22))],none⟩,
    ⟨(some 24),.bldS false 3 1 (.agg [(.str ⟨#[]⟩),(.int .i64 0),(.bool false)]) [(0,(.t 23))],none⟩] [⟨(some 25),.app (.t 12) (.t 24) 3 32 (.agg [(.str ⟨#[]⟩),(.int .i64 0),(.bool false)]),none⟩,
    ⟨(some 3),.mov (.t 25),none⟩] [])) <|
  .reg [⟨(some 10),.mov (.t 4),none⟩,
    ⟨(some 11),.bin .add (.t 10) (.c (.int .i64 1)),none⟩,
    ⟨(some 4),.mov (.t 11),none⟩]))) <|
  .seq (.reg [⟨(some 26),.mov (.t 3),none⟩,
    ⟨(some 2),.mov (.t 26),none⟩]) <|
  .ret,
  [.t 2]⟩
theorem xh:cFn PP true qV uS (cDr PP 27 xX)=some sf:=by kernel_rfl
def iU:Nat->Option (List Nat×List Nat)
  | 1000013=>some ([0,3,14],[68])|1000019=>some ([0,11],[])|_=>none
def jY:Nat->Option (List Nat×List Nat×List Nat)
  | 5=>some ([0,0,0,4,12,28,62,0,128,0,512,0,3968,8064,16382,32767,65535,131071],[1,6,14,17],[999999])|9=>some ([0,0,2,6,0,30,63],[6],[999999])|14=>some ([0,0,2,7,0,0,63,0,255],[3,7,8],[999998,1])|_=>none
def eF:af:=⟨155,
  .seq (.reg [⟨(some 3),.box (.t 1),none⟩]) <|
  .seq (.reg [⟨(some 13),.fadd (.t 3) 0,none⟩,
    ⟨(some 14),.ld (.t 13) 1 false,none⟩]) <|
  .block 0 (.seq (.reg [⟨(some 16),.bin .eql (.t 14) (.c (.int .i64 1)),none⟩,
    ⟨(some 15),.mov (.t 16),none⟩]) <|
  .cond (.t 15) (.seq (.reg [⟨(some 17),.mov (.t 0),none⟩,
    ⟨(some 18),.fadd (.t 3) 5,none⟩,
    ⟨(some 19),.ld (.t 18) 6 true,none⟩,
    ⟨(some 20),.call ba [(.t 17),(.t 19)],none⟩,
    ⟨(some 21),.fld (.t 20) 0 3 true,none⟩,
    ⟨(some 4),.alloc (.agg [(.int .i64 0),(.int .i64 0),(.int .i32 0)]),none⟩,
    ⟨none,.st (.t 4) (.t 21) 3,none⟩]) <|
  .seq (.reg [⟨(some 22),.mov (.t 0),none⟩,
    ⟨(some 23),.ld (.t 4) 3 true,none⟩,
    ⟨(some 24),.bld [(.int .i64 0),(.int .i64 0),(.int .i64 0),(.int .i64 0),(.int .i64 0),(.int .i32 0),(.int .i64 0),(.int .i64 0),(.int .i32 0),(.int .i64 0),(.int .i64 0),(.int .i32 0),(.int .i64 0),(.int .i64 0),(.int .i32 0)] [(0,1,(.c (.int .i64 1))),(6,3,(.t 23))],none⟩,
    ⟨(some 25),.fadd (.t 3) 2,none⟩,
    ⟨(some 26),.ld (.t 25) 1 false,none⟩,
    ⟨(some 27),.call aK [(.t 22),(.t 24),(.t 26)],none⟩,
    ⟨(some 28),.fld (.t 27) 0 3 true,none⟩,
    ⟨(some 29),.fld (.t 28) 1 1 false,none⟩,
    ⟨(some 5),.mov (.t 29),none⟩]) <|
  .seq (.dreg [⟨(some 30),.mov (.t 0),none⟩,
    ⟨(some 32),.mov (.t 0),none⟩,
    ⟨(some 33),.fadd (.t 32) 0,none⟩,
    ⟨(some 34),.fadd (.t 33) 16,none⟩,
    ⟨(some 35),.ld (.t 34) 1 false,none⟩,
    ⟨(some 37),.fadd (.t 3) 4,none⟩,
    ⟨(some 38),.ld (.t 37) 1 false,none⟩,
    ⟨(some 39),.fadd (.t 3) 2,none⟩,
    ⟨(some 40),.ld (.t 39) 1 false,none⟩,
    ⟨(some 41),.mov (.t 5),none⟩,
    ⟨(some 42),.bld [(.str ⟨#[]⟩),(.int .i64 0),(.int .i64 0)] [(0,1,(.t 38)),(1,1,(.t 40)),(2,1,(.t 41))],none⟩,
    ⟨(some 43),.bldS false 3 1 (.agg [(.str ⟨#[]⟩),(.int .i64 0),(.int .i64 0)]) [(0,(.t 42))],none⟩] [⟨(some 31),.bldS true 3 0 (.agg [(.str ⟨#[]⟩),(.int .i64 0),(.int .i64 0)]) [],none⟩] [⟨(some 33),.fadd (.t 32) 0,none⟩,
    ⟨(some 34),.fadd (.t 33) 16,none⟩,
    ⟨(some 35),.ld (.t 34) 1 false,none⟩,
    ⟨(some 37),.fadd (.t 3) 4,none⟩,
    ⟨(some 38),.ld (.t 37) 1 false,none⟩,
    ⟨(some 39),.fadd (.t 3) 2,none⟩,
    ⟨(some 40),.ld (.t 39) 1 false,none⟩]) <|
  .seq (.dreg [] [⟨(some 36),.app (.t 31) (.t 35) 3 32 (.agg [(.str ⟨#[]⟩),(.int .i64 0),(.int .i64 0)]),none⟩] [⟨(some 37),.fadd (.t 3) 4,none⟩,
    ⟨(some 38),.ld (.t 37) 1 false,none⟩,
    ⟨(some 39),.fadd (.t 3) 2,none⟩,
    ⟨(some 40),.ld (.t 39) 1 false,none⟩]) <|
  .seq (.dreg [] [⟨(some 44),.app (.t 36) (.t 43) 3 32 (.agg [(.str ⟨#[]⟩),(.int .i64 0),(.int .i64 0)]),none⟩] []) <|
  .seq (.dreg [⟨(some 45),.fadd (.t 30) 0,none⟩,
    ⟨(some 46),.fadd (.t 45) 16,none⟩] [⟨none,.st (.t 46) (.t 44) 1,none⟩] []) <|
  .dreg [] [] []) (.seq (.reg [⟨(some 48),.bin .eql (.t 14) (.c (.int .i64 2)),none⟩,
    ⟨(some 47),.mov (.t 48),none⟩]) <|
  .cond (.t 47) (.seq (.reg [⟨(some 49),.mov (.t 0),none⟩,
    ⟨(some 50),.fadd (.t 3) 5,none⟩,
    ⟨(some 51),.ld (.t 50) 6 true,none⟩,
    ⟨(some 52),.call ba [(.t 49),(.t 51)],none⟩,
    ⟨(some 53),.fld (.t 52) 0 3 true,none⟩,
    ⟨(some 6),.alloc (.agg [(.int .i64 0),(.int .i64 0),(.int .i32 0)]),none⟩,
    ⟨none,.st (.t 6) (.t 53) 3,none⟩]) <|
  .seq (.reg [⟨(some 55),.mov (.t 0),none⟩,
    ⟨(some 56),.fadd (.t 3) 4,none⟩,
    ⟨(some 57),.ld (.t 56) 1 false,none⟩,
    ⟨(some 58),.call dT [(.t 55),(.t 57)],none⟩,
    ⟨(some 54),.mov (.t 58),none⟩,
    ⟨(some 59),.ext (.t 54) 0,none⟩,
    ⟨(some 60),.ext (.t 54) 1,none⟩,
    ⟨(some 7),.alloc (.agg [(.str ⟨#[]⟩),(.int .i64 0),(.int .i64 0)]),none⟩,
    ⟨none,.st (.t 7) (.t 59) 3,none⟩,
    ⟨(some 8),.mov (.t 60),none⟩]) <|
  .seq (.dreg [⟨(some 61),.mov (.t 0),none⟩,
    ⟨(some 62),.fadd (.t 7) 2,none⟩,
    ⟨(some 63),.ld (.t 62) 1 false,none⟩,
    ⟨(some 64),.call iO [(.t 63)],none⟩,
    ⟨(some 65),.ld (.t 6) 3 true,none⟩,
    ⟨(some 66),.bld [(.int .i64 0),(.int .i64 0),(.int .i64 0),(.int .i64 0),(.int .i64 0),(.int .i32 0),(.int .i64 0),(.int .i64 0),(.int .i32 0),(.int .i64 0),(.int .i64 0),(.int .i32 0),(.int .i64 0),(.int .i64 0),(.int .i32 0)] [(0,1,(.c (.int .i64 1))),(3,3,(.t 64)),(6,3,(.t 65))],none⟩] [⟨(some 67),.call bA [(.t 61),(.t 66)],none⟩] []) <|
  .dreg [] [] []) (.seqj [0,3,14] [68] (.seq (.reg [⟨(some 69),.bin .eql (.t 14) (.c (.int .i64 3)),none⟩,
    ⟨(some 68),.mov (.t 69),none⟩]) <|
  .cond (.t 68) (.skip) (.reg [⟨(some 70),.bin .eql (.t 14) (.c (.int .i64 4)),none⟩,
    ⟨(some 68),.mov (.t 70),none⟩])) <|
  .cond (.t 68) (.seq (.reg [⟨(some 71),.mov (.t 0),none⟩,
    ⟨(some 72),.fadd (.t 3) 5,none⟩,
    ⟨(some 73),.ld (.t 72) 6 true,none⟩,
    ⟨(some 74),.call ba [(.t 71),(.t 73)],none⟩,
    ⟨(some 75),.fld (.t 74) 0 3 true,none⟩,
    ⟨(some 9),.alloc (.agg [(.int .i64 0),(.int .i64 0),(.int .i32 0)]),none⟩,
    ⟨none,.st (.t 9) (.t 75) 3,none⟩]) <|
  .seq (.reg [⟨(some 76),.mov (.t 0),none⟩,
    ⟨(some 77),.fadd (.t 3) 11,none⟩,
    ⟨(some 78),.ld (.t 77) 6 true,none⟩,
    ⟨(some 79),.call ba [(.t 76),(.t 78)],none⟩,
    ⟨(some 80),.fld (.t 79) 0 3 true,none⟩,
    ⟨(some 10),.alloc (.agg [(.int .i64 0),(.int .i64 0),(.int .i32 0)]),none⟩,
    ⟨none,.st (.t 10) (.t 80) 3,none⟩]) <|
  .seq (.seq (.dreg [⟨(some 11),.mov (.c .undef),none⟩] [] []) <|
  .seq (.dreg [⟨(some 81),.mov (.t 0),none⟩,
    ⟨(some 82),.fadd (.t 3) 4,none⟩,
    ⟨(some 83),.ld (.t 82) 1 false,none⟩,
    ⟨(some 85),.ld (.t 9) 3 true,none⟩,
    ⟨(some 86),.ld (.t 10) 3 true,none⟩] [⟨(some 84),.call gM [(.t 81),(.t 83)],none⟩] [⟨(some 85),.ld (.t 9) 3 true,none⟩,
    ⟨(some 86),.ld (.t 10) 3 true,none⟩]) <|
  .seq (.dreg [⟨(some 87),.bld [(.int .i64 0),(.int .i64 0),(.int .i64 0),(.int .i64 0),(.int .i64 0),(.int .i32 0),(.int .i64 0),(.int .i64 0),(.int .i32 0),(.int .i64 0),(.int .i64 0),(.int .i32 0),(.int .i64 0),(.int .i64 0),(.int .i32 0)] [(0,1,(.c (.int .i64 8))),(2,1,(.t 84)),(6,3,(.t 85)),(9,3,(.t 86))],none⟩] [⟨(some 11),.alloc (.agg [(.int .i64 0),(.int .i64 0),(.int .i64 0),(.int .i64 0),(.int .i64 0),(.int .i32 0),(.int .i64 0),(.int .i64 0),(.int .i32 0),(.int .i64 0),(.int .i64 0),(.int .i32 0),(.int .i64 0),(.int .i64 0),(.int .i32 0)]),none⟩] [⟨(some 82),.fadd (.t 3) 4,none⟩,
    ⟨(some 83),.ld (.t 82) 1 false,none⟩,
    ⟨(some 85),.ld (.t 9) 3 true,none⟩,
    ⟨(some 86),.ld (.t 10) 3 true,none⟩]) <|
  .seq (.dreg [] [⟨none,.st (.t 11) (.t 87) 15,none⟩] []) <|
  .dreg [] [] []) <|
  .seqj [0,11] [] (.seq (.reg [⟨(some 88),.fadd (.t 3) 0,none⟩,
    ⟨(some 89),.ld (.t 88) 1 false,none⟩,
    ⟨(some 90),.bin .eql (.t 89) (.c (.int .i64 4)),none⟩]) <|
  .cond (.t 90) (.seq (.reg [⟨(some 91),.fadd (.t 11) 0,none⟩,
    ⟨none,.st (.t 91) (.c (.int .i64 9)) 1,none⟩]) <|
  .reg [⟨(some 92),.fadd (.t 3) 1,none⟩,
    ⟨(some 93),.ld (.t 92) 1 false,none⟩,
    ⟨(some 94),.fadd (.t 11) 1,none⟩,
    ⟨none,.st (.t 94) (.t 93) 1,none⟩]) (.skip)) <|
  .reg [⟨(some 95),.mov (.t 0),none⟩,
    ⟨(some 96),.ld (.t 11) 15 true,none⟩,
    ⟨(some 97),.call bA [(.t 95),(.t 96)],none⟩]) (.seq (.reg [⟨(some 99),.bin .eql (.t 14) (.c (.int .i64 11)),none⟩,
    ⟨(some 98),.mov (.t 99),none⟩]) <|
  .cond (.t 98) (.reg [⟨(some 100),.mov (.t 0),none⟩,
    ⟨(some 101),.fadd (.t 3) 1,none⟩,
    ⟨(some 102),.ld (.t 101) 1 false,none⟩,
    ⟨(some 103),.bld [(.int .i64 0),(.int .i64 0),(.int .i64 0),(.int .i64 0),(.int .i64 0),(.int .i32 0),(.int .i64 0),(.int .i64 0),(.int .i32 0),(.int .i64 0),(.int .i64 0),(.int .i32 0),(.int .i64 0),(.int .i64 0),(.int .i32 0)] [(0,1,(.c (.int .i64 10))),(1,1,(.t 102))],none⟩,
    ⟨(some 104),.call bA [(.t 100),(.t 103)],none⟩]) (.seq (.reg [⟨(some 106),.bin .eql (.t 14) (.c (.int .i64 5)),none⟩,
    ⟨(some 105),.mov (.t 106),none⟩]) <|
  .cond (.t 105) (.reg [⟨(some 107),.mov (.t 0),none⟩,
    ⟨(some 108),.ld (.t 3) 19 true,none⟩,
    ⟨(some 109),.call oy [(.t 107),(.t 108)],none⟩]) (.seq (.reg [⟨(some 111),.bin .eql (.t 14) (.c (.int .i64 6)),none⟩,
    ⟨(some 110),.mov (.t 111),none⟩]) <|
  .cond (.t 110) (.reg [⟨(some 112),.mov (.t 0),none⟩,
    ⟨(some 113),.ld (.t 3) 19 true,none⟩,
    ⟨(some 114),.call iN [(.t 112),(.t 113)],none⟩]) (.seq (.reg [⟨(some 116),.bin .eql (.t 14) (.c (.int .i64 7)),none⟩,
    ⟨(some 115),.mov (.t 116),none⟩]) <|
  .cond (.t 115) (.reg [⟨(some 117),.mov (.t 0),none⟩,
    ⟨(some 118),.mov (.t 0),none⟩,
    ⟨(some 119),.fadd (.t 118) 0,none⟩,
    ⟨(some 120),.fadd (.t 119) 18,none⟩,
    ⟨(some 121),.ld (.t 120) 1 false,none⟩,
    ⟨(some 122),.bld [(.int .i64 0),(.int .i64 0)] [(0,1,(.t 121)),(1,1,(.c (.int .i64 0)))],none⟩,
    ⟨(some 123),.bld [(.int .i64 0),(.int .i64 0),(.int .i64 0),(.int .i64 0),(.int .i32 0),(.int .i64 0),(.int .i64 0),(.int .i32 0),(.int .i64 0),(.int .i64 0),(.int .i32 0),(.int .i64 0),(.int .i64 0)] [(0,1,(.c (.int .i64 1))),(11,2,(.t 122))],none⟩,
    ⟨(some 124),.call dE [(.t 117),(.t 123)],none⟩]) (.seq (.reg [⟨(some 126),.bin .eql (.t 14) (.c (.int .i64 8)),none⟩,
    ⟨(some 125),.mov (.t 126),none⟩]) <|
  .cond (.t 125) (.reg [⟨(some 127),.mov (.t 0),none⟩,
    ⟨(some 128),.mov (.t 0),none⟩,
    ⟨(some 129),.fadd (.t 128) 0,none⟩,
    ⟨(some 130),.fadd (.t 129) 19,none⟩,
    ⟨(some 131),.ld (.t 130) 1 false,none⟩,
    ⟨(some 132),.bld [(.int .i64 0),(.int .i64 0)] [(0,1,(.t 131)),(1,1,(.c (.int .i64 0)))],none⟩,
    ⟨(some 133),.bld [(.int .i64 0),(.int .i64 0),(.int .i64 0),(.int .i64 0),(.int .i32 0),(.int .i64 0),(.int .i64 0),(.int .i32 0),(.int .i64 0),(.int .i64 0),(.int .i32 0),(.int .i64 0),(.int .i64 0)] [(0,1,(.c (.int .i64 1))),(11,2,(.t 132))],none⟩,
    ⟨(some 134),.call dE [(.t 127),(.t 133)],none⟩]) (.seq (.reg [⟨(some 136),.bin .eql (.t 14) (.c (.int .i64 9)),none⟩,
    ⟨(some 135),.mov (.t 136),none⟩]) <|
  .cond (.t 135) (.reg [⟨(some 137),.mov (.t 0),none⟩,
    ⟨(some 138),.bld [(.int .i64 0),(.int .i64 0),(.int .i64 0),(.int .i64 0),(.int .i32 0),(.int .i64 0),(.int .i64 0),(.int .i32 0),(.int .i64 0),(.int .i64 0),(.int .i32 0),(.int .i64 0),(.int .i64 0)] [(0,1,(.c (.int .i64 5)))],none⟩,
    ⟨(some 139),.call dE [(.t 137),(.t 138)],none⟩]) (.seq (.reg [⟨(some 141),.bin .eql (.t 14) (.c (.int .i64 10)),none⟩,
    ⟨(some 140),.mov (.t 141),none⟩]) <|
  .cond (.t 140) (.seq (.reg [⟨(some 142),.mov (.t 0),none⟩,
    ⟨(some 143),.call bc [(.t 142)],none⟩,
    ⟨(some 12),.mov (.t 143),none⟩]) <|
  .reg [⟨(some 144),.mov (.t 0),none⟩,
    ⟨(some 145),.mov (.t 12),none⟩,
    ⟨(some 146),.bld [(.int .i64 0),(.int .i64 0)] [(0,1,(.t 145)),(1,1,(.c (.int .i64 0)))],none⟩,
    ⟨(some 147),.bld [(.int .i64 0),(.int .i64 0),(.int .i64 0),(.int .i64 0),(.int .i32 0),(.int .i64 0),(.int .i64 0),(.int .i32 0),(.int .i64 0),(.int .i64 0),(.int .i32 0),(.int .i64 0),(.int .i64 0)] [(0,1,(.c (.int .i64 3))),(11,2,(.t 146))],none⟩,
    ⟨(some 148),.mov (.t 12),none⟩,
    ⟨(some 149),.call bC [(.t 144),(.t 147),(.t 148)],none⟩]) (.seq (.reg [⟨(some 151),.bin .eql (.t 14) (.c (.int .i64 12)),none⟩,
    ⟨(some 150),.mov (.t 151),none⟩]) <|
  .cond (.t 150) (.reg [⟨(some 152),.mov (.t 0),none⟩,
    ⟨(some 153),.ld (.t 3) 19 true,none⟩,
    ⟨(some 154),.call mU [(.t 152),(.t 153)],none⟩]) (.skip)))))))))))),
  []⟩
theorem jz:cFn PP true eD iU (cDr PP 155 jY)=some eF:=by kernel_rfl
def s8:Nat->Option (List Nat×List Nat)
  | _=>none
def vV:Nat->Option (List Nat×List Nat×List Nat)
  | _=>none
def pN:af:=⟨30,
  .seq (.reg [⟨(some 4),.mov (.c (.int .u64 0)),none⟩,
    ⟨(some 5),.mov (.c (.int .u64 0)),none⟩]) <|
  .seq (.cond (.c (.bool false)) (.seq (.reg [⟨(some 11),.mov (.t 0),none⟩,
    ⟨(some 12),.conv .u32 (.t 11),none⟩,
    ⟨(some 13),.mov (.t 1),none⟩,
    ⟨(some 14),.conv .u32 (.t 13),none⟩,
    ⟨(some 15),.call wu [(.t 12),(.t 14)],none⟩,
    ⟨(some 10),.mov (.t 15),none⟩,
    ⟨(some 16),.ext (.t 10) 0,none⟩,
    ⟨(some 17),.ext (.t 10) 1,none⟩,
    ⟨(some 6),.mov (.t 16),none⟩,
    ⟨(some 7),.mov (.t 17),none⟩]) <|
  .seq (.reg [⟨(some 18),.mov (.t 6),none⟩,
    ⟨(some 19),.conv .u64 (.t 18),none⟩,
    ⟨(some 20),.mov (.t 7),none⟩,
    ⟨(some 21),.conv .u64 (.t 20),none⟩,
    ⟨(some 4),.mov (.t 19),none⟩,
    ⟨(some 5),.mov (.t 21),none⟩]) <|
  .ret) (.skip)) <|
  .seq (.reg [⟨(some 23),.mov (.t 0),none⟩,
    ⟨(some 24),.mov (.t 1),none⟩,
    ⟨(some 25),.call lI [(.t 23),(.t 24)],none⟩,
    ⟨(some 22),.mov (.t 25),none⟩,
    ⟨(some 26),.ext (.t 22) 0,none⟩,
    ⟨(some 27),.ext (.t 22) 1,none⟩,
    ⟨(some 8),.mov (.t 26),none⟩,
    ⟨(some 9),.mov (.t 27),none⟩]) <|
  .seq (.reg [⟨(some 28),.mov (.t 8),none⟩,
    ⟨(some 29),.mov (.t 9),none⟩,
    ⟨(some 4),.mov (.t 28),none⟩,
    ⟨(some 5),.mov (.t 29),none⟩]) <|
  .ret,
  [.t 4,.t 5]⟩
theorem vA:cFn PP true pA s8 (cDr PP 30 vV)=some pN:=by kernel_rfl
def u6:Nat->Option (List Nat×List Nat)
  | 1000013=>some ([5],[])|8=>some ([5,32,33],[34])|_=>none
def yd:Nat->Option (List Nat×List Nat×List Nat)
  | 1=>some ([0,0,0,4,14,31,63,0,255],[4,6,7,8],[999998,2])|_=>none
def sB:af:=⟨48,
  .seq (.reg [⟨(some 2),.box (.t 0),none⟩,
    ⟨(some 4),.mov (.c .nilp),none⟩]) <|
  .seq (.seq (.dreg [⟨(some 5),.mov (.c .undef),none⟩] [] []) <|
  .seq (.dreg [⟨(some 10),.ld (.t 2) 1 false,none⟩,
    ⟨(some 11),.bldS false 1 1 (.int .i64 0) [(0,(.c (.int .i64 (-1))))],none⟩,
    ⟨(some 12),.ld (.t 2) 1 false,none⟩,
    ⟨(some 13),.len (.t 12),none⟩] [⟨(some 14),.call aV [(.t 11),(.t 13)],none⟩] [⟨(some 10),.ld (.t 2) 1 false,none⟩]) <|
  .seq (.dreg [⟨(some 15),.bld [.nil,.nil,.nil] [(0,1,(.t 10)),(2,1,(.t 14))],none⟩] [⟨(some 16),.box (.t 15),none⟩] []) <|
  .seq (.dreg [] [⟨(some 5),.alloc .nilp,none⟩] [⟨(some 10),.ld (.t 2) 1 false,none⟩,
    ⟨(some 12),.ld (.t 2) 1 false,none⟩,
    ⟨(some 13),.len (.t 12),none⟩]) <|
  .seq (.dreg [] [⟨none,.st (.t 5) (.t 16) 1,none⟩] []) <|
  .dreg [] [] []) <|
  .seq (.reg [⟨(some 17),.ld (.t 2) 1 false,none⟩,
    ⟨(some 18),.len (.t 17),none⟩,
    ⟨(some 19),.mk 1 1 (.bool false) (.t 18) (.t 18),none⟩,
    ⟨(some 6),.alloc .nil,none⟩,
    ⟨none,.st (.t 6) (.t 19) 1,none⟩]) <|
  .seq (.reg [⟨(some 7),.alloc .nilfn,none⟩]) <|
  .seq (.reg [⟨(some 20),.mkf lK [] [(.t 6),(.t 2),(.t 7),(.t 5)],none⟩,
    ⟨none,.st (.t 7) (.t 20) 1,none⟩]) <|
  .seq (.reg [⟨(some 21),.ld (.t 7) 1 false,none⟩,
    ⟨(some 22),.mov (.t 1),none⟩,
    ⟨(some 23),.callv (.t 21) [(.t 22)],none⟩]) <|
  .seq (.reg [⟨(some 24),.ld (.t 5) 1 false,none⟩,
    ⟨(some 25),.fadd (.t 24) 0,none⟩,
    ⟨(some 26),.fadd (.t 25) 1,none⟩,
    ⟨(some 27),.ld (.t 26) 1 false,none⟩,
    ⟨(some 28),.call cn [(.t 27)],none⟩]) <|
  .seqj [5] [] (.seq (.reg [⟨(some 29),.ld (.t 5) 1 false,none⟩,
    ⟨(some 30),.fadd (.t 29) 0,none⟩,
    ⟨(some 31),.fadd (.t 30) 1,none⟩,
    ⟨(some 32),.ld (.t 31) 1 false,none⟩,
    ⟨(some 33),.len (.t 32),none⟩,
    ⟨(some 34),.mov (.c (.int .i64 0)),none⟩]) <|
  .block 0 (.loop [5,32,33] [34] (.seq (.reg [⟨(some 35),.bin .lss (.t 34) (.t 33),none⟩]) <|
  .seq (.cond (.t 35) (.skip) (.exit 0)) <|
  .seq (.block 1 (.seq (.reg [⟨(some 36),.mov (.t 34),none⟩,
    ⟨(some 37),.iadd (.t 32) (.t 34) 1,none⟩,
    ⟨(some 38),.ld (.t 37) 1 false,none⟩,
    ⟨(some 8),.mov (.t 36),none⟩,
    ⟨(some 9),.mov (.t 38),none⟩]) <|
  .reg [⟨(some 39),.ld (.t 5) 1 false,none⟩,
    ⟨(some 40),.fadd (.t 39) 0,none⟩,
    ⟨(some 41),.fadd (.t 40) 2,none⟩,
    ⟨(some 42),.ld (.t 41) 1 false,none⟩,
    ⟨(some 43),.mov (.t 9),none⟩,
    ⟨(some 44),.mov (.t 8),none⟩,
    ⟨(some 45),.iadd (.t 42) (.t 43) 1,none⟩,
    ⟨none,.st (.t 45) (.t 44) 1,none⟩])) <|
  .reg [⟨(some 46),.bin .add (.t 34) (.c (.int .i64 1)),none⟩,
    ⟨(some 34),.mov (.t 46),none⟩]))) <|
  .seq (.reg [⟨(some 47),.ld (.t 5) 1 false,none⟩,
    ⟨(some 4),.mov (.t 47),none⟩]) <|
  .ret,
  [.t 4]⟩
theorem xL:cFn PP true gh u6 (cDr PP 48 yd)=some sB:=by kernel_rfl
def Av:Nat->Option (List Nat×List Nat)
  | 1000008=>some ([3],[])|3=>some ([3,11,12],[13])|_=>none
def C5:Nat->Option (List Nat×List Nat×List Nat)
  | _=>none
def zO:af:=⟨26,
  .seq (.reg [⟨(some 1),.box (.t 0),none⟩,
    ⟨(some 2),.mov (.c .nil),none⟩]) <|
  .seq (.reg [⟨(some 6),.fadd (.t 1) 7,none⟩,
    ⟨(some 7),.ld (.t 6) 1 false,none⟩,
    ⟨(some 8),.len (.t 7),none⟩,
    ⟨(some 9),.mk 1 24 .nil (.t 8) (.t 8),none⟩,
    ⟨(some 3),.mov (.t 9),none⟩]) <|
  .seqj [3] [] (.seq (.reg [⟨(some 10),.fadd (.t 1) 7,none⟩,
    ⟨(some 11),.ld (.t 10) 1 false,none⟩,
    ⟨(some 12),.len (.t 11),none⟩,
    ⟨(some 13),.mov (.c (.int .i64 0)),none⟩]) <|
  .block 0 (.loop [3,11,12] [13] (.seq (.reg [⟨(some 14),.bin .lss (.t 13) (.t 12),none⟩]) <|
  .seq (.cond (.t 14) (.skip) (.exit 0)) <|
  .seq (.block 1 (.seq (.reg [⟨(some 15),.mov (.t 13),none⟩,
    ⟨(some 16),.iadd (.t 11) (.t 13) 14,none⟩,
    ⟨(some 17),.ld (.t 16) 14 true,none⟩,
    ⟨(some 5),.alloc (.agg [.nil,(.int .i64 0),(.int .i64 0),(.int .i64 0),(.int .i64 0),(.int .i32 0),(.int .i64 0),(.int .i64 0),(.int .i32 0),(.int .i64 0),(.int .i64 0),(.int .i32 0),(.int .i64 0),(.int .i64 0)]),none⟩,
    ⟨(some 4),.mov (.t 15),none⟩,
    ⟨none,.st (.t 5) (.t 17) 14,none⟩]) <|
  .reg [⟨(some 18),.mov (.t 3),none⟩,
    ⟨(some 19),.mov (.t 4),none⟩,
    ⟨(some 20),.fadd (.t 5) 1,none⟩,
    ⟨(some 21),.ld (.t 20) 13 true,none⟩,
    ⟨(some 22),.call iR [(.t 21)],none⟩,
    ⟨(some 23),.iadd (.t 18) (.t 19) 1,none⟩,
    ⟨none,.st (.t 23) (.t 22) 1,none⟩])) <|
  .reg [⟨(some 24),.bin .add (.t 13) (.c (.int .i64 1)),none⟩,
    ⟨(some 13),.mov (.t 24),none⟩]))) <|
  .seq (.reg [⟨(some 25),.mov (.t 3),none⟩,
    ⟨(some 2),.mov (.t 25),none⟩]) <|
  .ret,
  [.t 2]⟩
theorem CN:cFn PP true lL Av (cDr PP 26 C5)=some zO:=by kernel_rfl
def tc:Nat->Option (List Nat×List Nat)
  | 9000002=>some ([0],[3,4])|1000020=>some ([3],[])|5=>some ([0,3,4,37,38],[39])|1000017=>some ([0,3,4,6,37,38,39],[7])|9=>some ([0,3,4,6,37,38,39,46,47],[7,48])|1000016=>some ([0,3,4,6,37,38,39,46,47,48],[7])|_=>none
def vX:Nat->Option (List Nat×List Nat×List Nat)
  | 3=>some ([0,0,2,6,14,30,62,0,128,384,896,1920,3968,8191,16383],[14],[])|_=>none
def pP:af:=⟨80,
  .seq (.reg [⟨(some 2),.mov (.c .nil),none⟩]) <|
  .scope 0 [0] [3,4] (.seq (.reg [⟨(some 10),.bldS true 1 1 (.int .i64 0) [(0,(.c (.int .i64 (-1))))],none⟩,
    ⟨(some 11),.mov (.t 0),none⟩,
    ⟨(some 12),.fadd (.t 11) 0,none⟩,
    ⟨(some 13),.fadd (.t 12) 0,none⟩,
    ⟨(some 14),.ld (.t 13) 1 false,none⟩,
    ⟨(some 15),.len (.t 14),none⟩,
    ⟨(some 16),.call aV [(.t 10),(.t 15)],none⟩,
    ⟨(some 3),.mov (.t 16),none⟩]) <|
  .seq (.reg [⟨(some 17),.mov (.t 0),none⟩,
    ⟨(some 18),.call kH [(.t 17)],none⟩,
    ⟨(some 4),.mov (.t 18),none⟩]) <|
  .seq (.dreg [⟨(some 19),.mov (.t 3),none⟩,
    ⟨(some 20),.mov (.t 0),none⟩,
    ⟨(some 21),.fadd (.t 20) 0,none⟩,
    ⟨(some 22),.fadd (.t 21) 1,none⟩,
    ⟨(some 23),.ld (.t 22) 1 false,none⟩,
    ⟨(some 24),.iadd (.t 23) (.c (.int .i64 0)) 1,none⟩,
    ⟨(some 25),.ld (.t 24) 1 false,none⟩,
    ⟨(some 26),.mov (.t 0),none⟩,
    ⟨(some 27),.fadd (.t 26) 0,none⟩,
    ⟨(some 28),.fadd (.t 27) 1,none⟩,
    ⟨(some 29),.ld (.t 28) 1 false,none⟩,
    ⟨(some 30),.iadd (.t 29) (.c (.int .i64 0)) 1,none⟩,
    ⟨(some 31),.ld (.t 30) 1 false,none⟩,
    ⟨(some 32),.iadd (.t 19) (.t 25) 1,none⟩] [⟨none,.st (.t 32) (.t 31) 1,none⟩] []) <|
  .seq (.label 0) <|
  .seqj [3] [] (.seq (.reg [⟨(some 33),.mov (.t 0),none⟩,
    ⟨(some 34),.fadd (.t 33) 0,none⟩,
    ⟨(some 35),.fadd (.t 34) 1,none⟩,
    ⟨(some 36),.ld (.t 35) 1 false,none⟩,
    ⟨(some 37),.slc (.t 36) (some (.c (.int .i64 1))) none none 1,none⟩,
    ⟨(some 38),.len (.t 37),none⟩,
    ⟨(some 39),.mov (.c (.int .i64 0)),none⟩]) <|
  .block 0 (.loop [0,3,4,37,38] [39] (.seq (.reg [⟨(some 40),.bin .lss (.t 39) (.t 38),none⟩]) <|
  .seq (.cond (.t 40) (.skip) (.exit 0)) <|
  .seq (.block 1 (.seq (.reg [⟨(some 41),.iadd (.t 37) (.t 39) 1,none⟩,
    ⟨(some 42),.ld (.t 41) 1 false,none⟩,
    ⟨(some 6),.mov (.t 42),none⟩]) <|
  .seq (.reg [⟨(some 7),.mov (.c (.int .i64 (-1))),none⟩]) <|
  .seqj [0,3,4,6,37,38,39] [7] (.seq (.reg [⟨(some 43),.mov (.t 4),none⟩,
    ⟨(some 44),.mov (.t 6),none⟩,
    ⟨(some 45),.iadd (.t 43) (.t 44) 1,none⟩,
    ⟨(some 46),.ld (.t 45) 1 false,none⟩,
    ⟨(some 47),.len (.t 46),none⟩,
    ⟨(some 48),.mov (.c (.int .i64 0)),none⟩]) <|
  .block 2 (.loop [0,3,4,6,37,38,39,46,47] [7,48] (.seq (.reg [⟨(some 49),.bin .lss (.t 48) (.t 47),none⟩]) <|
  .seq (.cond (.t 49) (.skip) (.exit 2)) <|
  .seqj [0,3,4,6,37,38,39,46,47,48] [7] (.block 3 (.seq (.reg [⟨(some 50),.iadd (.t 46) (.t 48) 1,none⟩,
    ⟨(some 51),.ld (.t 50) 1 false,none⟩,
    ⟨(some 9),.mov (.t 51),none⟩]) <|
  .block 4 (.seq (.reg [⟨(some 58),.mov (.t 3),none⟩,
    ⟨(some 59),.mov (.t 9),none⟩,
    ⟨(some 60),.iadd (.t 58) (.t 59) 1,none⟩,
    ⟨(some 61),.ld (.t 60) 1 false,none⟩,
    ⟨(some 62),.bin .lss (.t 61) (.c (.int .i64 0)),none⟩,
    ⟨(some 57),.mov (.t 62),none⟩]) <|
  .cond (.t 57) (.skip) (.seq (.reg [⟨(some 64),.mov (.t 7),none⟩,
    ⟨(some 65),.bin .lss (.t 64) (.c (.int .i64 0)),none⟩,
    ⟨(some 63),.mov (.t 65),none⟩]) <|
  .cond (.t 63) (.reg [⟨(some 66),.mov (.t 9),none⟩,
    ⟨(some 7),.mov (.t 66),none⟩]) (.reg [⟨(some 52),.mov (.t 0),none⟩,
    ⟨(some 53),.mov (.t 3),none⟩,
    ⟨(some 54),.mov (.t 7),none⟩,
    ⟨(some 55),.mov (.t 9),none⟩,
    ⟨(some 56),.call im [(.t 52),(.t 53),(.t 54),(.t 55)],none⟩,
    ⟨(some 7),.mov (.t 56),none⟩]))))) <|
  .reg [⟨(some 67),.bin .add (.t 48) (.c (.int .i64 1)),none⟩,
    ⟨(some 48),.mov (.t 67),none⟩]))) <|
  .seq (.reg [⟨(some 68),.mov (.t 7),none⟩,
    ⟨(some 69),.mov (.t 3),none⟩,
    ⟨(some 70),.mov (.t 6),none⟩,
    ⟨(some 71),.iadd (.t 69) (.t 70) 1,none⟩,
    ⟨(some 72),.ld (.t 71) 1 false,none⟩,
    ⟨(some 73),.bin .neq (.t 68) (.t 72),none⟩]) <|
  .cond (.t 73) (.seq (.reg [⟨(some 74),.mov (.t 3),none⟩,
    ⟨(some 75),.mov (.t 6),none⟩,
    ⟨(some 76),.mov (.t 7),none⟩,
    ⟨(some 77),.iadd (.t 74) (.t 75) 1,none⟩,
    ⟨none,.st (.t 77) (.t 76) 1,none⟩]) <|
  .goto 0) (.skip))) <|
  .reg [⟨(some 78),.bin .add (.t 39) (.c (.int .i64 1)),none⟩,
    ⟨(some 39),.mov (.t 78),none⟩]))) <|
  .seq (.reg [⟨(some 79),.mov (.t 3),none⟩,
    ⟨(some 2),.mov (.t 79),none⟩]) <|
  .ret) (.seq (.skip) <|
  .seqj [3] [] (.seq (.reg [⟨(some 33),.mov (.t 0),none⟩,
    ⟨(some 34),.fadd (.t 33) 0,none⟩,
    ⟨(some 35),.fadd (.t 34) 1,none⟩,
    ⟨(some 36),.ld (.t 35) 1 false,none⟩,
    ⟨(some 37),.slc (.t 36) (some (.c (.int .i64 1))) none none 1,none⟩,
    ⟨(some 38),.len (.t 37),none⟩,
    ⟨(some 39),.mov (.c (.int .i64 0)),none⟩]) <|
  .block 0 (.loop [0,3,4,37,38] [39] (.seq (.reg [⟨(some 40),.bin .lss (.t 39) (.t 38),none⟩]) <|
  .seq (.cond (.t 40) (.skip) (.exit 0)) <|
  .seq (.block 1 (.seq (.reg [⟨(some 41),.iadd (.t 37) (.t 39) 1,none⟩,
    ⟨(some 42),.ld (.t 41) 1 false,none⟩,
    ⟨(some 6),.mov (.t 42),none⟩]) <|
  .seq (.reg [⟨(some 7),.mov (.c (.int .i64 (-1))),none⟩]) <|
  .seqj [0,3,4,6,37,38,39] [7] (.seq (.reg [⟨(some 43),.mov (.t 4),none⟩,
    ⟨(some 44),.mov (.t 6),none⟩,
    ⟨(some 45),.iadd (.t 43) (.t 44) 1,none⟩,
    ⟨(some 46),.ld (.t 45) 1 false,none⟩,
    ⟨(some 47),.len (.t 46),none⟩,
    ⟨(some 48),.mov (.c (.int .i64 0)),none⟩]) <|
  .block 2 (.loop [0,3,4,6,37,38,39,46,47] [7,48] (.seq (.reg [⟨(some 49),.bin .lss (.t 48) (.t 47),none⟩]) <|
  .seq (.cond (.t 49) (.skip) (.exit 2)) <|
  .seqj [0,3,4,6,37,38,39,46,47,48] [7] (.block 3 (.seq (.reg [⟨(some 50),.iadd (.t 46) (.t 48) 1,none⟩,
    ⟨(some 51),.ld (.t 50) 1 false,none⟩,
    ⟨(some 9),.mov (.t 51),none⟩]) <|
  .block 4 (.seq (.reg [⟨(some 58),.mov (.t 3),none⟩,
    ⟨(some 59),.mov (.t 9),none⟩,
    ⟨(some 60),.iadd (.t 58) (.t 59) 1,none⟩,
    ⟨(some 61),.ld (.t 60) 1 false,none⟩,
    ⟨(some 62),.bin .lss (.t 61) (.c (.int .i64 0)),none⟩,
    ⟨(some 57),.mov (.t 62),none⟩]) <|
  .cond (.t 57) (.skip) (.seq (.reg [⟨(some 64),.mov (.t 7),none⟩,
    ⟨(some 65),.bin .lss (.t 64) (.c (.int .i64 0)),none⟩,
    ⟨(some 63),.mov (.t 65),none⟩]) <|
  .cond (.t 63) (.reg [⟨(some 66),.mov (.t 9),none⟩,
    ⟨(some 7),.mov (.t 66),none⟩]) (.reg [⟨(some 52),.mov (.t 0),none⟩,
    ⟨(some 53),.mov (.t 3),none⟩,
    ⟨(some 54),.mov (.t 7),none⟩,
    ⟨(some 55),.mov (.t 9),none⟩,
    ⟨(some 56),.call im [(.t 52),(.t 53),(.t 54),(.t 55)],none⟩,
    ⟨(some 7),.mov (.t 56),none⟩]))))) <|
  .reg [⟨(some 67),.bin .add (.t 48) (.c (.int .i64 1)),none⟩,
    ⟨(some 48),.mov (.t 67),none⟩]))) <|
  .seq (.reg [⟨(some 68),.mov (.t 7),none⟩,
    ⟨(some 69),.mov (.t 3),none⟩,
    ⟨(some 70),.mov (.t 6),none⟩,
    ⟨(some 71),.iadd (.t 69) (.t 70) 1,none⟩,
    ⟨(some 72),.ld (.t 71) 1 false,none⟩,
    ⟨(some 73),.bin .neq (.t 68) (.t 72),none⟩]) <|
  .cond (.t 73) (.seq (.reg [⟨(some 74),.mov (.t 3),none⟩,
    ⟨(some 75),.mov (.t 6),none⟩,
    ⟨(some 76),.mov (.t 7),none⟩,
    ⟨(some 77),.iadd (.t 74) (.t 75) 1,none⟩,
    ⟨none,.st (.t 77) (.t 76) 1,none⟩]) <|
  .goto 0) (.skip))) <|
  .reg [⟨(some 78),.bin .add (.t 39) (.c (.int .i64 1)),none⟩,
    ⟨(some 39),.mov (.t 78),none⟩]))) <|
  .seq (.reg [⟨(some 79),.mov (.t 3),none⟩,
    ⟨(some 2),.mov (.t 79),none⟩]) <|
  .ret),
  [.t 2]⟩
theorem vD:cFn PP true jq tc (cDr PP 80 vX)=some pP:=by kernel_rfl
def wQ:Nat->Option (List Nat×List Nat)
  | 1000009=>some ([0,1,2],[])|3=>some ([0,1,2,3,15,16],[17])|1000008=>some ([0,1,2,3,15,16,17],[])|_=>none
def Ah:Nat->Option (List Nat×List Nat×List Nat)
  | _=>none
def ur:af:=⟨36,
  .seq (.reg [⟨(some 7),.fadd (.t 2) 1,none⟩,
    ⟨(some 8),.ld (.t 7) 1 false,none⟩,
    ⟨(some 9),.mov (.t 0),none⟩,
    ⟨(some 10),.ld (.t 1) 1 false,none⟩,
    ⟨(some 11),.iadd (.t 8) (.t 9) 1,none⟩,
    ⟨none,.st (.t 11) (.t 10) 1,none⟩]) <|
  .seq (.reg [⟨(some 12),.ld (.t 1) 1 false,none⟩,
    ⟨(some 13),.bin .add (.t 12) (.c (.int .i64 1)),none⟩,
    ⟨none,.st (.t 1) (.t 13) 1,none⟩]) <|
  .seqj [0,1,2] [] (.seq (.reg [⟨(some 14),.fadd (.t 2) 0,none⟩,
    ⟨(some 15),.ld (.t 14) 1 false,none⟩,
    ⟨(some 16),.len (.t 15),none⟩,
    ⟨(some 17),.mov (.c (.int .i64 0)),none⟩]) <|
  .block 0 (.loop [0,1,2,3,15,16] [17] (.seq (.reg [⟨(some 18),.bin .lss (.t 17) (.t 16),none⟩]) <|
  .seq (.cond (.t 18) (.skip) (.exit 0)) <|
  .seqj [0,1,2,3,15,16,17] [] (.block 1 (.seq (.reg [⟨(some 19),.mov (.t 17),none⟩,
    ⟨(some 20),.iadd (.t 15) (.t 17) 1,none⟩,
    ⟨(some 21),.ld (.t 20) 1 false,none⟩,
    ⟨(some 5),.mov (.t 19),none⟩,
    ⟨(some 6),.mov (.t 21),none⟩]) <|
  .seq (.reg [⟨(some 22),.mov (.t 6),none⟩,
    ⟨(some 23),.mov (.t 0),none⟩,
    ⟨(some 24),.bin .eql (.t 22) (.t 23),none⟩]) <|
  .cond (.t 24) (.reg [⟨(some 25),.ld (.t 3) 1 false,none⟩,
    ⟨(some 26),.mov (.t 5),none⟩,
    ⟨(some 27),.callv (.t 25) [(.t 26)],none⟩]) (.skip))) <|
  .reg [⟨(some 28),.bin .add (.t 17) (.c (.int .i64 1)),none⟩,
    ⟨(some 17),.mov (.t 28),none⟩]))) <|
  .seq (.reg [⟨(some 29),.fadd (.t 2) 2,none⟩,
    ⟨(some 30),.ld (.t 29) 1 false,none⟩,
    ⟨(some 31),.mov (.t 0),none⟩,
    ⟨(some 32),.ld (.t 1) 1 false,none⟩,
    ⟨(some 33),.iadd (.t 30) (.t 31) 1,none⟩,
    ⟨none,.st (.t 33) (.t 32) 1,none⟩]) <|
  .reg [⟨(some 34),.ld (.t 1) 1 false,none⟩,
    ⟨(some 35),.bin .add (.t 34) (.c (.int .i64 1)),none⟩,
    ⟨none,.st (.t 1) (.t 35) 1,none⟩],
  []⟩
theorem zi:cFn PP true tL wQ (cDr PP 36 Ah)=some ur:=by kernel_rfl
def lz:Nat->Option (List Nat×List Nat)
  | 3=>some ([3,22,23],[24])|_=>none
def mQ:Nat->Option (List Nat×List Nat×List Nat)
  | _=>none
def hP:af:=⟨32,
  .seq (.seq (.reg [⟨(some 7),.fadd (.t 1) 2,none⟩,
    ⟨(some 8),.ld (.t 7) 1 false,none⟩,
    ⟨(some 9),.mov (.t 0),none⟩,
    ⟨(some 10),.iadd (.t 8) (.t 9) 1,none⟩,
    ⟨(some 11),.ld (.t 10) 1 false,none⟩]) <|
  .cond (.t 11) (.ret) (.skip)) <|
  .seq (.reg [⟨(some 12),.fadd (.t 1) 2,none⟩,
    ⟨(some 13),.ld (.t 12) 1 false,none⟩,
    ⟨(some 14),.mov (.t 0),none⟩,
    ⟨(some 15),.iadd (.t 13) (.t 14) 1,none⟩,
    ⟨none,.st (.t 15) (.c (.bool true)) 1,none⟩]) <|
  .seq (.reg [⟨(some 16),.ld (.t 2) 1 false,none⟩,
    ⟨(some 17),.fadd (.t 16) 0,none⟩,
    ⟨(some 18),.fadd (.t 17) 9,none⟩,
    ⟨(some 19),.ld (.t 18) 1 false,none⟩,
    ⟨(some 20),.mov (.t 0),none⟩,
    ⟨(some 21),.iadd (.t 19) (.t 20) 1,none⟩,
    ⟨(some 22),.ld (.t 21) 1 false,none⟩,
    ⟨(some 23),.len (.t 22),none⟩,
    ⟨(some 24),.mov (.c (.int .i64 0)),none⟩]) <|
  .block 0 (.loop [3,22,23] [24] (.seq (.reg [⟨(some 25),.bin .lss (.t 24) (.t 23),none⟩]) <|
  .seq (.cond (.t 25) (.skip) (.exit 0)) <|
  .seq (.block 1 (.seq (.reg [⟨(some 26),.iadd (.t 22) (.t 24) 1,none⟩,
    ⟨(some 27),.ld (.t 26) 1 false,none⟩,
    ⟨(some 6),.mov (.t 27),none⟩]) <|
  .reg [⟨(some 28),.ld (.t 3) 1 false,none⟩,
    ⟨(some 29),.mov (.t 6),none⟩,
    ⟨(some 30),.callv (.t 28) [(.t 29)],none⟩])) <|
  .reg [⟨(some 31),.bin .add (.t 24) (.c (.int .i64 1)),none⟩,
    ⟨(some 24),.mov (.t 31),none⟩])),
  []⟩
theorem mD:cFn PP true gP lz (cDr PP 32 mQ)=some hP:=by kernel_rfl
def Aw:Nat->Option (List Nat×List Nat)
  | _=>none
def C6:Nat->Option (List Nat×List Nat×List Nat)
  | _=>none
def zP:af:=⟨6,
  .seq (.reg [⟨(some 2),.box (.t 0),none⟩,
    ⟨(some 3),.box (.t 1),none⟩,
    ⟨(some 4),.mov (.c .nilfn),none⟩]) <|
  .seq (.reg [⟨(some 5),.mkf ra [] [(.t 3),(.t 2)],none⟩,
    ⟨(some 4),.mov (.t 5),none⟩]) <|
  .ret,
  [.t 4]⟩
theorem CO:cFn PP true zv Aw (cDr PP 6 C6)=some zP:=by kernel_rfl
def oM:Nat->Option (List Nat×List Nat)
  | 1000006=>some ([6,7],[])|4000004=>some ([5,6,7],[1000000])|_=>none
def qK:Nat->Option (List Nat×List Nat×List Nat)
  | 3=>some ([0,1,0,7],[],[])|_=>none
def lf:af:=⟨28,
  .seq (.reg [⟨(some 5),.box (.t 2),none⟩,
    ⟨(some 6),.alloc (.agg [(.int .i64 0),(.int .i64 0),(.int .i64 0),(.int .i64 0),(.int .i64 0),(.int .i32 0),(.int .i64 0),(.int .i64 0),(.int .i32 0),(.int .i64 0),(.int .i64 0),(.int .i32 0),(.int .i64 0),(.int .i64 0),(.int .i32 0)]),none⟩,
    ⟨(some 7),.alloc (.bool false),none⟩]) <|
  .seqj [6,7] [] (.seq (.reg [⟨(some 10),.mov (.t 0),none⟩,
    ⟨(some 11),.fadd (.t 10) 0,none⟩,
    ⟨(some 12),.fadd (.t 11) 0,none⟩,
    ⟨(some 13),.fadd (.t 12) 7,none⟩,
    ⟨(some 14),.ld (.t 13) 1 false,none⟩,
    ⟨(some 15),.mov (.t 1),none⟩,
    ⟨(some 16),.iadd (.t 14) (.t 15) 14,none⟩,
    ⟨(some 17),.fadd (.t 16) 0,none⟩,
    ⟨(some 18),.ld (.t 17) 1 false,none⟩,
    ⟨(some 19),.call bY [(.t 18)],none⟩]) <|
  .block 0 (.range (.t 19) [20,21] [5,6,7] [1000000] (.reg [⟨(some 9),.alloc (.agg [(.int .i64 0),(.int .i64 0),(.int .i64 0),(.int .i64 0),(.int .i64 0),(.int .i32 0),(.int .i64 0),(.int .i64 0),(.int .i32 0),(.int .i64 0),(.int .i64 0),(.int .i32 0),(.int .i64 0),(.int .i64 0),(.int .i32 0)]),none⟩,
    ⟨none,.st (.t 9) (.t 21) 15,none⟩]) (.block 1 (.seq (.dreg [⟨(some 22),.ld (.t 9) 15 true,none⟩,
    ⟨(some 23),.call uP [(.t 22)],none⟩,
    ⟨(some 24),.ld (.t 5) 1 false,none⟩,
    ⟨(some 25),.bin .eql (.t 23) (.t 24),none⟩] [] []) <|
  .cond (.t 25) (.seq (.reg [⟨(some 26),.ld (.t 9) 15 true,none⟩,
    ⟨none,.st (.t 6) (.t 26) 15,none⟩,
    ⟨none,.st (.t 7) (.c (.bool true)) 1,none⟩]) <|
  .ret) (.skip))))) <|
  .seq (.reg [⟨(some 27),.bld [(.int .i64 0),(.int .i64 0),(.int .i64 0),(.int .i64 0),(.int .i64 0),(.int .i32 0),(.int .i64 0),(.int .i64 0),(.int .i32 0),(.int .i64 0),(.int .i64 0),(.int .i32 0),(.int .i64 0),(.int .i64 0),(.int .i32 0)] [],none⟩,
    ⟨none,.st (.t 6) (.t 27) 15,none⟩,
    ⟨none,.st (.t 7) (.c (.bool false)) 1,none⟩]) <|
  .ret,
  [.cell 6 15 true,.cell 7 1 false]⟩
theorem qv:cFn PP true dj oM (cDr PP 28 qK)=some lf:=by kernel_rfl
def Az:Nat->Option (List Nat×List Nat)
  | _=>none
def C9:Nat->Option (List Nat×List Nat×List Nat)
  | _=>none
def zS:af:=⟨6,
  .seq (.reg [⟨(some 1),.box (.t 0),none⟩,
    ⟨(some 2),.mov (.c (.int .i64 0)),none⟩]) <|
  .seq (.reg [⟨(some 3),.fadd (.t 1) 2,none⟩,
    ⟨(some 4),.ld (.t 3) 3 true,none⟩,
    ⟨(some 5),.call uO [(.t 4)],none⟩,
    ⟨(some 2),.mov (.t 5),none⟩]) <|
  .ret,
  [.t 2]⟩
theorem CU:cFn PP true rb Az (cDr PP 6 C9)=some zS:=by kernel_rfl
def Ca:Nat->Option (List Nat×List Nat)
  | _=>none
def D8:Nat->Option (List Nat×List Nat×List Nat)
  | _=>none
def CV:af:=⟨6,
  .seq (.reg [⟨(some 1),.box (.t 0),none⟩,
    ⟨(some 2),.mov (.c (.int .i64 0)),none⟩]) <|
  .seq (.reg [⟨(some 3),.fadd (.t 1) 3,none⟩,
    ⟨(some 4),.ld (.t 3) 3 true,none⟩,
    ⟨(some 5),.call uO [(.t 4)],none⟩,
    ⟨(some 2),.mov (.t 5),none⟩]) <|
  .ret,
  [.t 2]⟩
theorem Dp:cFn PP true uP Ca (cDr PP 6 D8)=some CV:=by kernel_rfl
def u9:Nat->Option (List Nat×List Nat)
  | _=>none
def yf:Nat->Option (List Nat×List Nat×List Nat)
  | _=>none
def sD:af:=⟨38,
  .seq (.reg [⟨(some 2),.box (.t 0),none⟩,
    ⟨(some 4),.mov (.c (.bool false)),none⟩]) <|
  .seq (.reg [⟨(some 5),.fadd (.t 2) 0,none⟩,
    ⟨(some 6),.ld (.t 5) 1 false,none⟩,
    ⟨(some 7),.bin .eql (.t 6) (.c (.int .i64 3)),none⟩,
    ⟨(some 8),.mov (.t 7),none⟩,
    ⟨(some 9),.fadd (.t 2) 1,some (8,true)⟩,
    ⟨(some 10),.ld (.t 9) 1 false,some (8,true)⟩,
    ⟨(some 11),.bin .eql (.t 10) (.c (.int .i64 10)),some (8,true)⟩,
    ⟨(some 12),.pick (.t 8) (.t 11) (.c (.bool false)),none⟩,
    ⟨(some 13),.mov (.t 12),none⟩,
    ⟨(some 14),.fadd (.t 2) 6,some (13,true)⟩,
    ⟨(some 15),.ld (.t 14) 3 true,some (13,true)⟩,
    ⟨(some 16),.mov (.t 1),some (13,true)⟩,
    ⟨(some 17),.bld [(.int .i64 0),(.int .i64 0),(.int .i32 0)] [(0,1,(.c (.int .i64 2))),(1,1,(.t 16))],some (13,true)⟩,
    ⟨(some 18),.eqv false true [.i,.i,.i] (.t 15) (.t 17),some (13,true)⟩,
    ⟨(some 19),.pick (.t 13) (.t 18) (.c (.bool false)),none⟩,
    ⟨(some 20),.mov (.t 19),none⟩,
    ⟨(some 21),.fadd (.t 2) 9,some (20,true)⟩,
    ⟨(some 22),.fadd (.t 21) 0,some (20,true)⟩,
    ⟨(some 23),.ld (.t 22) 1 false,some (20,true)⟩,
    ⟨(some 24),.bin .eql (.t 23) (.c (.int .i64 1)),some (20,true)⟩,
    ⟨(some 25),.pick (.t 20) (.t 24) (.c (.bool false)),none⟩,
    ⟨(some 26),.mov (.t 25),none⟩,
    ⟨(some 27),.fadd (.t 2) 9,some (26,true)⟩,
    ⟨(some 28),.fadd (.t 27) 2,some (26,true)⟩,
    ⟨(some 29),.ld (.t 28) 1 false,some (26,true)⟩,
    ⟨(some 30),.bin .leq (.c (.int .i32 1)) (.t 29),some (26,true)⟩,
    ⟨(some 31),.pick (.t 26) (.t 30) (.c (.bool false)),none⟩,
    ⟨(some 32),.mov (.t 31),none⟩,
    ⟨(some 33),.fadd (.t 2) 9,some (32,true)⟩,
    ⟨(some 34),.fadd (.t 33) 2,some (32,true)⟩,
    ⟨(some 35),.ld (.t 34) 1 false,some (32,true)⟩,
    ⟨(some 36),.bin .leq (.t 35) (.c (.int .i32 1024)),some (32,true)⟩,
    ⟨(some 37),.pick (.t 32) (.t 36) (.c (.bool false)),none⟩,
    ⟨(some 4),.mov (.t 37),none⟩]) <|
  .ret,
  [.t 4]⟩
theorem xP:cFn PP true re u9 (cDr PP 38 yf)=some sD:=by kernel_rfl
def ml:Nat->Option (List Nat×List Nat)
  | _=>none
def oo:Nat->Option (List Nat×List Nat×List Nat)
  | _=>none
def jk:af:=⟨13,
  .seq (.reg [⟨(some 4),.box (.t 1),none⟩,
    ⟨(some 5),.box (.t 2),none⟩,
    ⟨(some 6),.mov (.c (.bool false)),none⟩]) <|
  .seq (.reg [⟨(some 7),.mov (.t 0),none⟩,
    ⟨(some 8),.fadd (.t 7) 0,none⟩,
    ⟨(some 9),.fadd (.t 8) 14,none⟩,
    ⟨(some 10),.ld (.t 9) 1 false,none⟩,
    ⟨(some 11),.mkf fw [] [(.t 4),(.t 5)],none⟩,
    ⟨(some 12),.call bq [(.t 10),(.t 11)],none⟩,
    ⟨(some 6),.mov (.t 12),none⟩]) <|
  .ret,
  [.t 6]⟩
theorem nW:cFn PP true iS ml (cDr PP 13 oo)=some jk:=by kernel_rfl
def kM:Nat->Option (List Nat×List Nat)
  | _=>none
def l9:Nat->Option (List Nat×List Nat×List Nat)
  | 1=>some ([0,1,3,7,0,0,63,127,255],[],[])|_=>none
def gF:af:=⟨13,
  .seq (.reg [⟨(some 4),.mov (.c (.bool false)),none⟩]) <|
  .seq (.dreg [⟨(some 5),.ld (.t 1) 1 false,none⟩,
    ⟨(some 6),.fadd (.t 5) 0,none⟩,
    ⟨(some 7),.fadd (.t 6) 11,none⟩,
    ⟨(some 8),.ld (.t 7) 3 true,none⟩,
    ⟨(some 9),.ld (.t 2) 1 false,none⟩,
    ⟨(some 10),.mov (.t 0),none⟩,
    ⟨(some 11),.call pC [(.t 8),(.t 9),(.t 10)],none⟩,
    ⟨(some 12),.un .not (.t 11),none⟩,
    ⟨(some 4),.mov (.t 12),none⟩] [] []) <|
  .ret,
  [.t 4]⟩
theorem lE:cFn PP true gi kM (cDr PP 13 l9)=some gF:=by kernel_rfl
def te:Nat->Option (List Nat×List Nat)
  | _=>none
def vZ:Nat->Option (List Nat×List Nat×List Nat)
  | 2=>some ([0,0,3,7,15,15,63,127,255,511,1023,511,4095,8191,511,16895,511,115199,246271,524287,1048575,2097151,4194303,8388607,4194303,33554431,67108863,4194303,138412031,4194303,943718399,2017460223,4294967295,8589934591,17179869183],[2,6],[999999])|_=>none
def pR:af:=⟨43,
  .seq (.reg [⟨(some 3),.box (.t 0),none⟩,
    ⟨(some 6),.mov (.c (.bool false)),none⟩]) <|
  .seq (.reg [⟨(some 8),.mkf kI [] [(.t 3)],none⟩,
    ⟨(some 7),.mov (.t 8),none⟩]) <|
  .seq (.seq (.dreg [⟨(some 9),.mov (.t 7),none⟩,
    ⟨(some 10),.mov (.t 1),none⟩] [⟨(some 11),.callv (.t 9) [(.t 10)],none⟩] []) <|
  .seq (.dreg [⟨(some 12),.mov (.t 11),none⟩,
    ⟨(some 13),.mov (.t 7),some (12,true)⟩,
    ⟨(some 14),.mov (.t 2),some (12,true)⟩] [⟨(some 15),.callv (.t 13) [(.t 14)],some (12,true)⟩] []) <|
  .dreg [⟨(some 16),.pick (.t 12) (.t 15) (.c (.bool false)),none⟩,
    ⟨(some 17),.mov (.t 16),none⟩,
    ⟨(some 18),.fadd (.t 3) 1,some (17,true)⟩,
    ⟨(some 19),.ld (.t 18) 1 false,some (17,true)⟩,
    ⟨(some 20),.mov (.t 1),some (17,true)⟩,
    ⟨(some 21),.iadd (.t 19) (.t 20) 1,some (17,true)⟩,
    ⟨(some 22),.ld (.t 21) 1 false,some (17,true)⟩,
    ⟨(some 23),.fadd (.t 3) 1,some (17,true)⟩,
    ⟨(some 24),.ld (.t 23) 1 false,some (17,true)⟩,
    ⟨(some 25),.mov (.t 2),some (17,true)⟩,
    ⟨(some 26),.iadd (.t 24) (.t 25) 1,some (17,true)⟩,
    ⟨(some 27),.ld (.t 26) 1 false,some (17,true)⟩,
    ⟨(some 28),.bin .leq (.t 22) (.t 27),some (17,true)⟩,
    ⟨(some 29),.pick (.t 17) (.t 28) (.c (.bool false)),none⟩,
    ⟨(some 30),.mov (.t 29),none⟩,
    ⟨(some 31),.fadd (.t 3) 2,some (30,true)⟩,
    ⟨(some 32),.ld (.t 31) 1 false,some (30,true)⟩,
    ⟨(some 33),.mov (.t 2),some (30,true)⟩,
    ⟨(some 34),.iadd (.t 32) (.t 33) 1,some (30,true)⟩,
    ⟨(some 35),.ld (.t 34) 1 false,some (30,true)⟩,
    ⟨(some 36),.fadd (.t 3) 2,some (30,true)⟩,
    ⟨(some 37),.ld (.t 36) 1 false,some (30,true)⟩,
    ⟨(some 38),.mov (.t 1),some (30,true)⟩,
    ⟨(some 39),.iadd (.t 37) (.t 38) 1,some (30,true)⟩,
    ⟨(some 40),.ld (.t 39) 1 false,some (30,true)⟩,
    ⟨(some 41),.bin .leq (.t 35) (.t 40),some (30,true)⟩,
    ⟨(some 42),.pick (.t 30) (.t 41) (.c (.bool false)),none⟩,
    ⟨(some 6),.mov (.t 42),none⟩] [] []) <|
  .ret,
  [.t 6]⟩
theorem vF:cFn PP true pC te (cDr PP 43 vZ)=some pR:=by kernel_rfl
def kn:Nat->Option (List Nat×List Nat)
  | _=>none
def lk:Nat->Option (List Nat×List Nat×List Nat)
  | 4=>some ([0,1,3,7,15,31,63,127,255,511,1023,2047,4095,8191,16383,32767,65535,131071,262143,524287,1048575,2097151,4194303,8388607,16777215,1048575,67108863,134217727,268435455,536870911,1048575,1074790399,3222274047,8589934591,17179869183,34359738367],[],[])|_=>none
def fK:af:=⟨56,
  .seq (.reg [⟨(some 4),.mov (.c (.bool false)),none⟩]) <|
  .seq (.seq (.reg [⟨(some 7),.fadd (.t 1) 2,none⟩,
    ⟨(some 8),.ld (.t 7) 1 false,none⟩,
    ⟨(some 9),.mov (.t 0),none⟩,
    ⟨(some 10),.iadd (.t 8) (.t 9) 1,none⟩,
    ⟨(some 11),.ld (.t 10) 1 false,none⟩]) <|
  .cond (.t 11) (.seq (.reg [⟨(some 4),.mov (.c (.bool false)),none⟩]) <|
  .ret) (.skip)) <|
  .seq (.reg [⟨(some 13),.ld (.t 2) 1 false,none⟩,
    ⟨(some 14),.mov (.t 0),none⟩,
    ⟨(some 15),.fadd (.t 1) 3,none⟩,
    ⟨(some 16),.fadd (.t 15) 1,none⟩,
    ⟨(some 17),.ld (.t 16) 1 false,none⟩,
    ⟨(some 18),.call dj [(.t 13),(.t 14),(.t 17)],none⟩,
    ⟨(some 12),.mov (.t 18),none⟩,
    ⟨(some 19),.ext (.t 12) 0,none⟩,
    ⟨(some 20),.ext (.t 12) 1,none⟩,
    ⟨(some 5),.alloc (.agg [(.int .i64 0),(.int .i64 0),(.int .i64 0),(.int .i64 0),(.int .i64 0),(.int .i32 0),(.int .i64 0),(.int .i64 0),(.int .i32 0),(.int .i64 0),(.int .i64 0),(.int .i32 0),(.int .i64 0),(.int .i64 0),(.int .i32 0)]),none⟩,
    ⟨none,.st (.t 5) (.t 19) 15,none⟩,
    ⟨(some 6),.mov (.t 20),none⟩]) <|
  .seq (.dreg [⟨(some 21),.mov (.t 6),none⟩,
    ⟨(some 22),.un .not (.t 21),none⟩,
    ⟨(some 23),.mov (.t 22),none⟩,
    ⟨(some 24),.fadd (.t 5) 0,some (23,false)⟩,
    ⟨(some 25),.ld (.t 24) 1 false,some (23,false)⟩,
    ⟨(some 26),.bin .neq (.t 25) (.c (.int .i64 1)),some (23,false)⟩,
    ⟨(some 27),.pick (.t 23) (.c (.bool true)) (.t 26),none⟩,
    ⟨(some 28),.mov (.t 27),none⟩,
    ⟨(some 29),.fadd (.t 5) 6,some (28,false)⟩,
    ⟨(some 30),.fadd (.t 29) 0,some (28,false)⟩,
    ⟨(some 31),.ld (.t 30) 1 false,some (28,false)⟩,
    ⟨(some 32),.bin .neq (.t 31) (.c (.int .i64 1)),some (28,false)⟩,
    ⟨(some 33),.pick (.t 28) (.c (.bool true)) (.t 32),none⟩,
    ⟨(some 34),.mov (.t 33),none⟩,
    ⟨(some 35),.fadd (.t 5) 6,some (34,false)⟩,
    ⟨(some 36),.fadd (.t 35) 2,some (34,false)⟩,
    ⟨(some 37),.ld (.t 36) 1 false,some (34,false)⟩,
    ⟨(some 38),.bin .lss (.t 37) (.c (.int .i32 0)),some (34,false)⟩,
    ⟨(some 39),.pick (.t 34) (.c (.bool true)) (.t 38),none⟩,
    ⟨(some 40),.mov (.t 39),none⟩,
    ⟨(some 41),.ld (.t 2) 1 false,some (40,false)⟩,
    ⟨(some 42),.fadd (.t 41) 0,some (40,false)⟩,
    ⟨(some 43),.fadd (.t 42) 0,some (40,false)⟩,
    ⟨(some 44),.fadd (.t 43) 7,some (40,false)⟩,
    ⟨(some 45),.ld (.t 44) 1 false,some (40,false)⟩,
    ⟨(some 46),.mov (.t 0),some (40,false)⟩,
    ⟨(some 47),.iadd (.t 45) (.t 46) 14,some (40,false)⟩,
    ⟨(some 48),.fadd (.t 47) 1,some (40,false)⟩,
    ⟨(some 49),.ld (.t 48) 13 true,some (40,false)⟩,
    ⟨(some 50),.call rb [(.t 49)],some (40,false)⟩,
    ⟨(some 51),.fadd (.t 1) 3,some (40,false)⟩,
    ⟨(some 52),.fadd (.t 51) 1,some (40,false)⟩,
    ⟨(some 53),.ld (.t 52) 1 false,some (40,false)⟩,
    ⟨(some 54),.bin .eql (.t 50) (.t 53),some (40,false)⟩,
    ⟨(some 55),.pick (.t 40) (.c (.bool true)) (.t 54),none⟩,
    ⟨(some 4),.mov (.t 55),none⟩] [] []) <|
  .ret,
  [.t 4]⟩
theorem lg:cFn PP true fx kn (cDr PP 56 lk)=some fK:=by kernel_rfl
def gH:Nat->Option (List Nat×List Nat)
  | 1000008=>some ([],[])|2=>some ([0,1,7],[8])|_=>none
def iH:Nat->Option (List Nat×List Nat×List Nat)
  | _=>none
def dM:af:=⟨19,
  .seq (.reg [⟨(some 4),.mov (.c (.int .i64 0)),none⟩]) <|
  .seqj [] [] (.seq (.reg [⟨(some 6),.mov (.t 0),none⟩,
    ⟨(some 7),.len (.t 6),none⟩,
    ⟨(some 8),.mov (.c (.int .i64 0)),none⟩]) <|
  .block 0 (.loop [0,1,7] [8] (.seq (.reg [⟨(some 9),.bin .lss (.t 8) (.t 7),none⟩]) <|
  .seq (.cond (.t 9) (.skip) (.exit 0)) <|
  .seq (.block 1 (.seq (.reg [⟨(some 10),.mov (.t 8),none⟩,
    ⟨(some 5),.mov (.t 10),none⟩]) <|
  .seq (.reg [⟨(some 11),.mov (.t 1),none⟩,
    ⟨(some 12),.mov (.t 0),none⟩,
    ⟨(some 13),.mov (.t 5),none⟩,
    ⟨(some 14),.iadd (.t 12) (.t 13) 1,none⟩,
    ⟨(some 15),.ld (.t 14) 1 false,none⟩,
    ⟨(some 16),.callv (.t 11) [(.t 15)],none⟩]) <|
  .cond (.t 16) (.seq (.reg [⟨(some 17),.mov (.t 5),none⟩,
    ⟨(some 4),.mov (.t 17),none⟩]) <|
  .ret) (.skip))) <|
  .reg [⟨(some 18),.bin .add (.t 8) (.c (.int .i64 1)),none⟩,
    ⟨(some 8),.mov (.t 18),none⟩]))) <|
  .seq (.reg [⟨(some 4),.mov (.c (.int .i64 (-1))),none⟩]) <|
  .ret,
  [.t 4]⟩
theorem ix:cFn PP true dJ gH (cDr PP 19 iH)=some dM:=by kernel_rfl
def uY:Nat->Option (List Nat×List Nat)
  | 1000012=>some ([],[3])|5=>some ([1],[3,4])|_=>none
def x8:Nat->Option (List Nat×List Nat×List Nat)
  | 10=>some ([0,0,2,6,0,16,62,126,255,511],[9],[])|_=>none
def sm:af:=⟨76,
  .seq (.reg [⟨(some 1),.box (.t 0),none⟩,
    ⟨(some 2),.mov (.c (.bool false)),none⟩]) <|
  .seq (.seq (.reg [⟨(some 6),.fadd (.t 1) 3,none⟩,
    ⟨(some 7),.ld (.t 6) 1 false,none⟩,
    ⟨(some 8),.len (.t 7),none⟩,
    ⟨(some 9),.bin .gtr (.t 8) (.c (.int .i64 8)),none⟩,
    ⟨(some 10),.mov (.t 9),none⟩,
    ⟨(some 11),.fadd (.t 1) 4,some (10,false)⟩,
    ⟨(some 12),.ld (.t 11) 1 false,some (10,false)⟩,
    ⟨(some 13),.len (.t 12),some (10,false)⟩,
    ⟨(some 14),.bin .gtr (.t 13) (.c (.int .i64 8)),some (10,false)⟩,
    ⟨(some 15),.pick (.t 10) (.c (.bool true)) (.t 14),none⟩,
    ⟨(some 16),.mov (.t 15),none⟩,
    ⟨(some 17),.fadd (.t 1) 5,some (16,false)⟩,
    ⟨(some 18),.ld (.t 17) 1 false,some (16,false)⟩,
    ⟨(some 19),.len (.t 18),some (16,false)⟩,
    ⟨(some 20),.bin .gtr (.t 19) (.c (.int .i64 8)),some (16,false)⟩,
    ⟨(some 21),.pick (.t 16) (.c (.bool true)) (.t 20),none⟩,
    ⟨(some 22),.mov (.t 21),none⟩,
    ⟨(some 23),.fadd (.t 1) 6,some (22,false)⟩,
    ⟨(some 24),.ld (.t 23) 1 false,some (22,false)⟩,
    ⟨(some 25),.call fY [(.t 24)],some (22,false)⟩,
    ⟨(some 26),.bin .gtr (.t 25) (.c (.int .i64 30)),some (22,false)⟩,
    ⟨(some 27),.pick (.t 22) (.c (.bool true)) (.t 26),none⟩]) <|
  .cond (.t 27) (.seq (.reg [⟨(some 2),.mov (.c (.bool false)),none⟩]) <|
  .ret) (.skip)) <|
  .seq (.reg [⟨(some 28),.fadd (.t 1) 6,none⟩,
    ⟨(some 29),.ld (.t 28) 1 false,none⟩,
    ⟨(some 30),.call ga [(.t 29)],none⟩,
    ⟨(some 3),.mov (.t 30),none⟩]) <|
  .seqj [] [3] (.seq (.reg [⟨(some 4),.mov (.c (.int .i64 0)),none⟩]) <|
  .block 0 (.loop [1] [3,4] (.seq (.seq (.reg [⟨(some 31),.mov (.t 4),none⟩,
    ⟨(some 32),.fadd (.t 1) 5,none⟩,
    ⟨(some 33),.ld (.t 32) 1 false,none⟩,
    ⟨(some 34),.len (.t 33),none⟩,
    ⟨(some 35),.bin .lss (.t 31) (.t 34),none⟩]) <|
  .cond (.t 35) (.skip) (.exit 0)) <|
  .seq (.block 1 (.seq (.reg [⟨(some 38),.fadd (.t 1) 5,none⟩,
    ⟨(some 39),.ld (.t 38) 1 false,none⟩,
    ⟨(some 40),.mov (.t 4),none⟩,
    ⟨(some 41),.iadd (.t 39) (.t 40) 10,none⟩,
    ⟨(some 42),.ld (.t 41) 10 true,none⟩,
    ⟨(some 5),.alloc (.agg [(.str ⟨#[]⟩),.nil,(.int .i64 0),.nil,(.int .i64 0),(.int .i64 0),(.int .i64 0),(.str ⟨#[]⟩),(.int .i32 0),.nil]),none⟩,
    ⟨none,.st (.t 5) (.t 42) 10,none⟩]) <|
  .seq (.seq (.reg [⟨(some 43),.fadd (.t 5) 1,none⟩,
    ⟨(some 44),.ld (.t 43) 1 false,none⟩,
    ⟨(some 45),.len (.t 44),none⟩,
    ⟨(some 46),.bin .gtr (.t 45) (.c (.int .i64 8)),none⟩,
    ⟨(some 47),.mov (.t 46),none⟩,
    ⟨(some 48),.fadd (.t 5) 3,some (47,false)⟩,
    ⟨(some 49),.ld (.t 48) 1 false,some (47,false)⟩,
    ⟨(some 50),.call fY [(.t 49)],some (47,false)⟩,
    ⟨(some 51),.bin .gtr (.t 50) (.c (.int .i64 30)),some (47,false)⟩,
    ⟨(some 52),.pick (.t 47) (.c (.bool true)) (.t 51),none⟩,
    ⟨(some 53),.mov (.t 52),none⟩,
    ⟨(some 54),.fadd (.t 5) 4,some (53,false)⟩,
    ⟨(some 55),.ld (.t 54) 6 true,some (53,false)⟩,
    ⟨(some 56),.call fW [(.t 55)],some (53,false)⟩,
    ⟨(some 57),.bin .gtr (.t 56) (.c (.int .i64 30)),some (53,false)⟩,
    ⟨(some 58),.pick (.t 53) (.c (.bool true)) (.t 57),none⟩,
    ⟨(some 59),.mov (.t 58),none⟩,
    ⟨(some 60),.fadd (.t 5) 4,some (59,false)⟩,
    ⟨(some 61),.ld (.t 60) 6 true,some (59,false)⟩,
    ⟨(some 62),.call fX [(.t 61)],some (59,false)⟩,
    ⟨(some 63),.un .not (.t 62),some (59,false)⟩,
    ⟨(some 64),.pick (.t 59) (.c (.bool true)) (.t 63),none⟩]) <|
  .cond (.t 64) (.seq (.reg [⟨(some 2),.mov (.c (.bool false)),none⟩]) <|
  .ret) (.skip)) <|
  .dreg [⟨(some 65),.mov (.t 3),none⟩,
    ⟨(some 66),.fadd (.t 5) 3,none⟩,
    ⟨(some 67),.ld (.t 66) 1 false,none⟩,
    ⟨(some 68),.call ga [(.t 67)],none⟩,
    ⟨(some 69),.fadd (.t 5) 4,none⟩,
    ⟨(some 70),.ld (.t 69) 6 true,none⟩,
    ⟨(some 71),.call eR [(.t 70)],none⟩,
    ⟨(some 72),.bin .add (.t 68) (.t 71),none⟩,
    ⟨(some 73),.bin .add (.t 65) (.t 72),none⟩] [⟨(some 3),.mov (.t 73),none⟩] [])) <|
  .reg [⟨(some 36),.mov (.t 4),none⟩,
    ⟨(some 37),.bin .add (.t 36) (.c (.int .i64 1)),none⟩,
    ⟨(some 4),.mov (.t 37),none⟩]))) <|
  .seq (.reg [⟨(some 74),.mov (.t 3),none⟩,
    ⟨(some 75),.bin .leq (.t 74) (.c (.int .i64 2000)),none⟩,
    ⟨(some 2),.mov (.t 75),none⟩]) <|
  .ret,
  [.t 2]⟩
theorem xv:cFn PP true qZ uY (cDr PP 76 x8)=some sm:=by kernel_rfl
end Go.Am
