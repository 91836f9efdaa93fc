/- The texts of the functions of this chapter, as the abstract machine has them. No condition. -/
import Derived.KernelRfl
import Derived.Test.YtajcemgdjgddgaaGreatT1
set_option linter.unnecessarySimpa false
set_option linter.defProp false
set_option linter.unusedSectionVars false
set_option linter.unusedSimpArgs false
set_option linter.unusedVariables false
namespace Go.Am
open Go Go.Proofs
def yw:Nat->Option (List Nat×List Nat)
  | 1000008=>some ([1],[3])|3=>some ([1],[3,4])|1000012=>some ([1],[3])|8=>some ([1],[3,6])|1000017=>some ([1],[3])|12=>some ([1],[3,7])|_=>none
def Bu:Nat->Option (List Nat×List Nat×List Nat)
  | 1=>some ([0,1,3,7,0,16,48,127,255,0,512,1648,4095,8191,16383],[],[])|6=>some ([0,0,0,4,12,30,62,0,128,510,1022,62,0,4096,12288,30782,65534,131070,0,262144,849982,2097150,4194302,8388607,16777215],[24],[])|15=>some ([0,0,2,6,14,0,32,96,254,510,224,0,2048,6144,15584,32766,65534,0,131072,425184,1048574,2097150,0,4194304,13532384,33554430,67108862,134217727,268435455],[28],[])|_=>none
def xw:af:=⟨124,
  .seq (.reg [⟨(some 1),.box (.t 0),none⟩,
    ⟨(some 2),.mov (.c (.str ⟨#[]⟩)),none⟩]) <|
  .seq (.dreg [⟨(some 9),.fadd (.t 1) 0,none⟩,
    ⟨(some 10),.ld (.t 9) 1 false,none⟩,
    ⟨(some 11),.bin .add (.c (.str ⟨#[107,101,114,110,101,108,32]⟩)) (.t 10),none⟩,
    ⟨(some 12),.bin .add (.t 11) (.c (.str ⟨#[32,103,114,111,117,112,32]⟩)),none⟩,
    ⟨(some 13),.fadd (.t 1) 1,none⟩,
    ⟨(some 14),.ld (.t 13) 1 false,none⟩,
    ⟨(some 15),.call cO [(.t 14)],none⟩,
    ⟨(some 16),.bin .add (.t 12) (.t 15),none⟩,
    ⟨(some 17),.bin .add (.t 16) (.c (.str ⟨#[32,115,117,98,32]⟩)),none⟩,
    ⟨(some 18),.fadd (.t 1) 2,none⟩,
    ⟨(some 19),.ld (.t 18) 1 false,none⟩,
    ⟨(some 20),.call cO [(.t 19)],none⟩,
    ⟨(some 21),.bin .add (.t 17) (.t 20),none⟩,
    ⟨(some 22),.bin .add (.t 21) (.c (.str ⟨#[10]⟩)),none⟩,
    ⟨(some 3),.mov (.t 22),none⟩] [] []) <|
  .seqj [1] [3] (.seq (.reg [⟨(some 4),.mov (.c (.int .i64 0)),none⟩]) <|
  .block 0 (.loop [1] [3,4] (.seq (.seq (.reg [⟨(some 23),.mov (.t 4),none⟩,
    ⟨(some 24),.fadd (.t 1) 3,none⟩,
    ⟨(some 25),.ld (.t 24) 1 false,none⟩,
    ⟨(some 26),.len (.t 25),none⟩,
    ⟨(some 27),.bin .lss (.t 23) (.t 26),none⟩]) <|
  .cond (.t 27) (.skip) (.exit 0)) <|
  .seq (.block 1 (.seq (.reg [⟨(some 30),.fadd (.t 1) 3,none⟩,
    ⟨(some 31),.ld (.t 30) 1 false,none⟩,
    ⟨(some 32),.mov (.t 4),none⟩,
    ⟨(some 33),.iadd (.t 31) (.t 32) 4,none⟩,
    ⟨(some 34),.ld (.t 33) 4 true,none⟩,
    ⟨(some 5),.alloc (.agg [(.str ⟨#[]⟩),(.int .i64 0),(.int .i64 0),(.int .i64 0)]),none⟩,
    ⟨none,.st (.t 5) (.t 34) 4,none⟩]) <|
  .dreg [⟨(some 35),.mov (.t 3),none⟩,
    ⟨(some 36),.call fU [],none⟩,
    ⟨(some 37),.fadd (.t 5) 1,none⟩,
    ⟨(some 38),.ld (.t 37) 1 false,none⟩,
    ⟨(some 39),.bin .sub (.t 38) (.c (.int .i64 1)),none⟩,
    ⟨(some 40),.call bo [(.t 36),(.t 39)],none⟩,
    ⟨(some 41),.bin .add (.t 40) (.c (.str ⟨#[32]⟩)),none⟩,
    ⟨(some 42),.fadd (.t 5) 0,none⟩,
    ⟨(some 43),.ld (.t 42) 1 false,none⟩,
    ⟨(some 44),.bin .add (.t 41) (.t 43),none⟩,
    ⟨(some 45),.bin .add (.t 44) (.c (.str ⟨#[32]⟩)),none⟩,
    ⟨(some 46),.call dB [],none⟩,
    ⟨(some 47),.fadd (.t 5) 2,none⟩,
    ⟨(some 48),.ld (.t 47) 1 false,none⟩,
    ⟨(some 49),.bin .sub (.t 48) (.c (.int .i64 1)),none⟩,
    ⟨(some 50),.call bo [(.t 46),(.t 49)],none⟩,
    ⟨(some 51),.bin .add (.t 45) (.t 50),none⟩,
    ⟨(some 52),.bin .add (.t 51) (.c (.str ⟨#[32]⟩)),none⟩,
    ⟨(some 53),.fadd (.t 5) 3,none⟩,
    ⟨(some 54),.ld (.t 53) 1 false,none⟩,
    ⟨(some 55),.call cO [(.t 54)],none⟩,
    ⟨(some 56),.bin .add (.t 52) (.t 55),none⟩,
    ⟨(some 57),.bin .add (.t 56) (.c (.str ⟨#[10]⟩)),none⟩,
    ⟨(some 58),.bin .add (.t 35) (.t 57),none⟩] [⟨(some 3),.mov (.t 58),none⟩] [])) <|
  .reg [⟨(some 28),.mov (.t 4),none⟩,
    ⟨(some 29),.bin .add (.t 28) (.c (.int .i64 1)),none⟩,
    ⟨(some 4),.mov (.t 29),none⟩]))) <|
  .seqj [1] [3] (.seq (.reg [⟨(some 6),.mov (.c (.int .i64 0)),none⟩]) <|
  .block 2 (.loop [1] [3,6] (.seq (.seq (.reg [⟨(some 59),.mov (.t 6),none⟩,
    ⟨(some 60),.fadd (.t 1) 4,none⟩,
    ⟨(some 61),.ld (.t 60) 1 false,none⟩,
    ⟨(some 62),.len (.t 61),none⟩,
    ⟨(some 63),.bin .lss (.t 59) (.t 62),none⟩]) <|
  .cond (.t 63) (.skip) (.exit 2)) <|
  .seq (.block 3 (.reg [⟨(some 66),.mov (.t 3),none⟩,
    ⟨(some 67),.fadd (.t 1) 4,none⟩,
    ⟨(some 68),.ld (.t 67) 1 false,none⟩,
    ⟨(some 69),.mov (.t 6),none⟩,
    ⟨(some 70),.mov (.t 6),none⟩,
    ⟨(some 71),.bin .add (.t 70) (.c (.int .i64 1)),none⟩,
    ⟨(some 72),.slc (.t 68) (some (.t 69)) (some (.t 71)) none 2,none⟩,
    ⟨(some 73),.call qX [(.t 72)],none⟩,
    ⟨(some 74),.bin .add (.c (.str ⟨#[112,97,114,97,109,32]⟩)) (.t 73),none⟩,
    ⟨(some 75),.bin .add (.t 74) (.c (.str ⟨#[10]⟩)),none⟩,
    ⟨(some 76),.bin .add (.t 66) (.t 75),none⟩,
    ⟨(some 3),.mov (.t 76),none⟩])) <|
  .reg [⟨(some 64),.mov (.t 6),none⟩,
    ⟨(some 65),.bin .add (.t 64) (.c (.int .i64 1)),none⟩,
    ⟨(some 6),.mov (.t 65),none⟩]))) <|
  .seqj [1] [3] (.seq (.reg [⟨(some 7),.mov (.c (.int .i64 0)),none⟩]) <|
  .block 4 (.loop [1] [3,7] (.seq (.seq (.reg [⟨(some 77),.mov (.t 7),none⟩,
    ⟨(some 78),.fadd (.t 1) 5,none⟩,
    ⟨(some 79),.ld (.t 78) 1 false,none⟩,
    ⟨(some 80),.len (.t 79),none⟩,
    ⟨(some 81),.bin .lss (.t 77) (.t 80),none⟩]) <|
  .cond (.t 81) (.skip) (.exit 4)) <|
  .seq (.block 5 (.seq (.reg [⟨(some 84),.fadd (.t 1) 5,none⟩,
    ⟨(some 85),.ld (.t 84) 1 false,none⟩,
    ⟨(some 86),.mov (.t 7),none⟩,
    ⟨(some 87),.iadd (.t 85) (.t 86) 10,none⟩,
    ⟨(some 88),.ld (.t 87) 10 true,none⟩,
    ⟨(some 8),.alloc (.agg [(.str ⟨#[]⟩),.nil,(.int .i64 0),.nil,(.int .i64 0),(.int .i64 0),(.int .i64 0),(.str ⟨#[]⟩),(.int .i32 0),.nil]),none⟩,
    ⟨none,.st (.t 8) (.t 88) 10,none⟩]) <|
  .dreg [⟨(some 89),.mov (.t 3),none⟩,
    ⟨(some 90),.fadd (.t 8) 0,none⟩,
    ⟨(some 91),.ld (.t 90) 1 false,none⟩,
    ⟨(some 92),.bin .add (.c (.str ⟨#[102,117,110,99,32]⟩)) (.t 91),none⟩,
    ⟨(some 93),.bin .add (.t 92) (.c (.str ⟨#[40]⟩)),none⟩,
    ⟨(some 94),.fadd (.t 8) 1,none⟩,
    ⟨(some 95),.ld (.t 94) 1 false,none⟩,
    ⟨(some 96),.call qX [(.t 95)],none⟩,
    ⟨(some 97),.bin .add (.t 93) (.t 96),none⟩,
    ⟨(some 98),.bin .add (.t 97) (.c (.str ⟨#[41,32]⟩)),none⟩,
    ⟨(some 99),.call dB [],none⟩,
    ⟨(some 100),.fadd (.t 8) 2,none⟩,
    ⟨(some 101),.ld (.t 100) 1 false,none⟩,
    ⟨(some 102),.bin .sub (.t 101) (.c (.int .i64 1)),none⟩,
    ⟨(some 103),.call bo [(.t 99),(.t 102)],none⟩,
    ⟨(some 104),.bin .add (.t 98) (.t 103),none⟩,
    ⟨(some 105),.bin .add (.t 104) (.c (.str ⟨#[32,123,10]⟩)),none⟩,
    ⟨(some 106),.fadd (.t 8) 3,none⟩,
    ⟨(some 107),.ld (.t 106) 1 false,none⟩,
    ⟨(some 108),.call dC [(.t 107),(.c (.str ⟨#[32,32]⟩))],none⟩,
    ⟨(some 109),.bin .add (.t 105) (.t 108),none⟩,
    ⟨(some 110),.bin .add (.t 109) (.c (.str ⟨#[32,32,114,101,116,117,114,110,32]⟩)),none⟩,
    ⟨(some 111),.fadd (.t 8) 4,none⟩,
    ⟨(some 112),.ld (.t 111) 6 true,none⟩,
    ⟨(some 113),.call aN [(.t 112)],none⟩,
    ⟨(some 114),.bin .add (.t 110) (.t 113),none⟩,
    ⟨(some 115),.bin .add (.t 114) (.c (.str ⟨#[10,125,10]⟩)),none⟩,
    ⟨(some 116),.bin .add (.t 89) (.t 115),none⟩] [⟨(some 3),.mov (.t 116),none⟩] [])) <|
  .reg [⟨(some 82),.mov (.t 7),none⟩,
    ⟨(some 83),.bin .add (.t 82) (.c (.int .i64 1)),none⟩,
    ⟨(some 7),.mov (.t 83),none⟩]))) <|
  .seq (.reg [⟨(some 117),.mov (.t 3),none⟩,
    ⟨(some 118),.bin .add (.t 117) (.c (.str ⟨#[123,10]⟩)),none⟩,
    ⟨(some 119),.fadd (.t 1) 6,none⟩,
    ⟨(some 120),.ld (.t 119) 1 false,none⟩,
    ⟨(some 121),.call dC [(.t 120),(.c (.str ⟨#[32,32]⟩))],none⟩,
    ⟨(some 122),.bin .add (.t 118) (.t 121),none⟩,
    ⟨(some 123),.bin .add (.t 122) (.c (.str ⟨#[125,10]⟩)),none⟩,
    ⟨(some 2),.mov (.t 123),none⟩]) <|
  .ret,
  [.t 2]⟩
theorem AR:cFn PP true wi yw (cDr PP 124 Bu)=some xw:=by kernel_rfl
def lx:Nat->Option (List Nat×List Nat)
  | 1000014=>some ([0,2,3],[])|7=>some ([0,2,3],[])|1000016=>some ([0,2,3],[])|13=>some ([0,2,3],[])|1000018=>some ([0,2,3],[])|15=>some ([0,2,3],[])|1000021=>some ([2,3],[])|_=>none
def mN:Nat->Option (List Nat×List Nat×List Nat)
  | 14=>some ([0,1,0,4,12,31,63,127],[3,5,7],[999999])|16=>some ([0,1,0,4,12,31,63,127],[3,5,7],[999999])|_=>none
def hH:af:=⟨87,
  .seq (.reg [⟨(some 2),.alloc (.agg [(.str ⟨#[]⟩),(.int .i64 0),(.int .i64 0),.nil,.nil,.nil,.nil]),none⟩]) <|
  .seq (.reg [⟨(some 5),.mov (.t 0),none⟩,
    ⟨(some 6),.call aD [(.t 5),(.c (.str ⟨#[107,101,114,110,101,108]⟩))],none⟩]) <|
  .seq (.reg [⟨(some 7),.mov (.t 0),none⟩,
    ⟨(some 8),.call bm [(.t 7)],none⟩,
    ⟨(some 9),.bld [(.str ⟨#[]⟩),(.int .i64 0),(.int .i64 0),.nil,.nil,.nil,.nil] [(0,1,(.t 8))],none⟩,
    ⟨(some 3),.alloc (.agg [(.str ⟨#[]⟩),(.int .i64 0),(.int .i64 0),.nil,.nil,.nil,.nil]),none⟩,
    ⟨none,.st (.t 3) (.t 9) 7,none⟩]) <|
  .seq (.reg [⟨(some 10),.mov (.t 0),none⟩,
    ⟨(some 11),.call aD [(.t 10),(.c (.str ⟨#[103,114,111,117,112]⟩))],none⟩]) <|
  .seq (.reg [⟨(some 12),.mov (.t 0),none⟩,
    ⟨(some 13),.call b6 [(.t 12)],none⟩,
    ⟨(some 14),.fadd (.t 3) 1,none⟩,
    ⟨none,.st (.t 14) (.t 13) 1,none⟩]) <|
  .seq (.reg [⟨(some 15),.mov (.t 0),none⟩,
    ⟨(some 16),.call aD [(.t 15),(.c (.str ⟨#[115,117,98]⟩))],none⟩]) <|
  .seq (.reg [⟨(some 17),.mov (.t 0),none⟩,
    ⟨(some 18),.call b6 [(.t 17)],none⟩,
    ⟨(some 19),.fadd (.t 3) 2,none⟩,
    ⟨none,.st (.t 19) (.t 18) 1,none⟩]) <|
  .seqj [0,2,3] [] (.block 0 (.loop [0,2,3] [] (.seq (.seq (.reg [⟨(some 20),.mov (.t 0),none⟩,
    ⟨(some 21),.fadd (.t 20) 0,none⟩,
    ⟨(some 22),.fadd (.t 21) 2,none⟩,
    ⟨(some 23),.ld (.t 22) 1 false,none⟩,
    ⟨(some 24),.bin .lss (.t 23) (.c (.int .i64 0)),none⟩,
    ⟨(some 25),.mov (.t 24),none⟩,
    ⟨(some 26),.call fU [],some (25,true)⟩,
    ⟨(some 27),.mov (.t 0),some (25,true)⟩,
    ⟨(some 28),.call aM [(.t 27),(.c (.bool false))],some (25,true)⟩,
    ⟨(some 29),.call dV [(.t 26),(.t 28)],some (25,true)⟩,
    ⟨(some 30),.pick (.t 25) (.t 29) (.c (.bool false)),none⟩]) <|
  .cond (.t 30) (.skip) (.exit 0)) <|
  .block 1 (.seq (.reg [⟨(some 31),.mov (.t 0),none⟩,
    ⟨(some 32),.call fU [],none⟩,
    ⟨(some 33),.call aL [(.t 31),(.t 32)],none⟩,
    ⟨(some 34),.bin .add (.c (.int .i64 1)) (.t 33),none⟩,
    ⟨(some 35),.bld [(.str ⟨#[]⟩),(.int .i64 0),(.int .i64 0),(.int .i64 0)] [(1,1,(.t 34))],none⟩,
    ⟨(some 4),.alloc (.agg [(.str ⟨#[]⟩),(.int .i64 0),(.int .i64 0),(.int .i64 0)]),none⟩,
    ⟨none,.st (.t 4) (.t 35) 4,none⟩]) <|
  .seq (.reg [⟨(some 36),.mov (.t 0),none⟩,
    ⟨(some 37),.call bm [(.t 36)],none⟩,
    ⟨(some 38),.fadd (.t 4) 0,none⟩,
    ⟨none,.st (.t 38) (.t 37) 1,none⟩]) <|
  .seq (.reg [⟨(some 39),.mov (.t 0),none⟩,
    ⟨(some 40),.call dB [],none⟩,
    ⟨(some 41),.call aL [(.t 39),(.t 40)],none⟩,
    ⟨(some 42),.bin .add (.c (.int .i64 1)) (.t 41),none⟩,
    ⟨(some 43),.fadd (.t 4) 2,none⟩,
    ⟨none,.st (.t 43) (.t 42) 1,none⟩]) <|
  .seq (.reg [⟨(some 44),.mov (.t 0),none⟩,
    ⟨(some 45),.call b6 [(.t 44)],none⟩,
    ⟨(some 46),.fadd (.t 4) 3,none⟩,
    ⟨none,.st (.t 46) (.t 45) 1,none⟩]) <|
  .reg [⟨(some 47),.fadd (.t 3) 3,none⟩,
    ⟨(some 48),.ld (.t 47) 1 false,none⟩,
    ⟨(some 49),.ld (.t 4) 4 true,none⟩,
    ⟨(some 50),.bldS true 4 1 (.agg [(.str ⟨#[]⟩),(.int .i64 0),(.int .i64 0),(.int .i64 0)]) [(0,(.t 49))],none⟩,
    ⟨(some 51),.app (.t 48) (.t 50) 4 40 (.agg [(.str ⟨#[]⟩),(.int .i64 0),(.int .i64 0),(.int .i64 0)]),none⟩,
    ⟨(some 52),.fadd (.t 3) 3,none⟩,
    ⟨none,.st (.t 52) (.t 51) 1,none⟩])))) <|
  .seqj [0,2,3] [] (.block 2 (.loop [0,2,3] [] (.seq (.seq (.reg [⟨(some 53),.mov (.t 0),none⟩,
    ⟨(some 54),.call av [(.t 53),(.c (.str ⟨#[112,97,114,97,109]⟩))],none⟩]) <|
  .cond (.t 54) (.skip) (.exit 2)) <|
  .block 3 (.seq (.dreg [⟨(some 55),.fadd (.t 3) 4,none⟩,
    ⟨(some 56),.ld (.t 55) 1 false,none⟩,
    ⟨(some 57),.mov (.t 0),none⟩] [⟨(some 58),.call qW [(.t 57)],none⟩] [⟨(some 55),.fadd (.t 3) 4,none⟩,
    ⟨(some 56),.ld (.t 55) 1 false,none⟩]) <|
  .seq (.dreg [⟨(some 59),.bldS false 2 1 (.agg [(.str ⟨#[]⟩),(.int .i64 0)]) [(0,(.t 58))],none⟩] [⟨(some 60),.app (.t 56) (.t 59) 2 24 (.agg [(.str ⟨#[]⟩),(.int .i64 0)]),none⟩] []) <|
  .seq (.dreg [⟨(some 61),.fadd (.t 3) 4,none⟩] [⟨none,.st (.t 61) (.t 60) 1,none⟩] []) <|
  .dreg [] [] [])))) <|
  .seqj [0,2,3] [] (.block 4 (.loop [0,2,3] [] (.seq (.seq (.reg [⟨(some 62),.mov (.t 0),none⟩,
    ⟨(some 63),.call av [(.t 62),(.c (.str ⟨#[102,117,110,99]⟩))],none⟩]) <|
  .cond (.t 63) (.skip) (.exit 4)) <|
  .block 5 (.seq (.dreg [⟨(some 64),.fadd (.t 3) 5,none⟩,
    ⟨(some 65),.ld (.t 64) 1 false,none⟩,
    ⟨(some 66),.mov (.t 0),none⟩] [⟨(some 67),.call uN [(.t 66)],none⟩] [⟨(some 64),.fadd (.t 3) 5,none⟩,
    ⟨(some 65),.ld (.t 64) 1 false,none⟩]) <|
  .seq (.dreg [⟨(some 68),.bldS false 10 1 (.agg [(.str ⟨#[]⟩),.nil,(.int .i64 0),.nil,(.int .i64 0),(.int .i64 0),(.int .i64 0),(.str ⟨#[]⟩),(.int .i32 0),.nil]) [(0,(.t 67))],none⟩] [⟨(some 69),.app (.t 65) (.t 68) 10 144 (.agg [(.str ⟨#[]⟩),.nil,(.int .i64 0),.nil,(.int .i64 0),(.int .i64 0),(.int .i64 0),(.str ⟨#[]⟩),(.int .i32 0),.nil]),none⟩] []) <|
  .seq (.dreg [⟨(some 70),.fadd (.t 3) 5,none⟩] [⟨none,.st (.t 70) (.t 69) 1,none⟩] []) <|
  .dreg [] [] [])))) <|
  .seq (.reg [⟨(some 71),.mov (.t 0),none⟩,
    ⟨(some 72),.call bP [(.t 71)],none⟩,
    ⟨(some 73),.fadd (.t 3) 6,none⟩,
    ⟨none,.st (.t 73) (.t 72) 1,none⟩]) <|
  .seqj [2,3] [] (.seq (.reg [⟨(some 74),.mov (.t 0),none⟩,
    ⟨(some 75),.fadd (.t 74) 0,none⟩,
    ⟨(some 76),.fadd (.t 75) 2,none⟩,
    ⟨(some 77),.ld (.t 76) 1 false,none⟩,
    ⟨(some 78),.bin .lss (.t 77) (.c (.int .i64 0)),none⟩,
    ⟨(some 79),.mov (.t 78),none⟩,
    ⟨(some 80),.mov (.t 0),some (79,true)⟩,
    ⟨(some 81),.call aM [(.t 80),(.c (.bool false))],some (79,true)⟩,
    ⟨(some 82),.bin .neq (.t 81) (.c (.str ⟨#[]⟩)),some (79,true)⟩,
    ⟨(some 83),.pick (.t 79) (.t 82) (.c (.bool false)),none⟩]) <|
  .cond (.t 83) (.reg [⟨(some 84),.mov (.t 0),none⟩,
    ⟨(some 85),.call aY [(.t 84),(.c (.bool false))],none⟩]) (.skip)) <|
  .seq (.reg [⟨(some 86),.ld (.t 3) 7 true,none⟩,
    ⟨none,.st (.t 2) (.t 86) 7,none⟩]) <|
  .ret,
  [.cell 2 7 true]⟩
theorem mB:cFn PP true gO lx (cDr PP 87 mN)=some hH:=by kernel_rfl
def yy:Nat->Option (List Nat×List Nat)
  | 1000009=>some ([2,3],[])|4=>some ([2,3],[5])|1000016=>some ([],[])|9=>some ([2,3],[6])|_=>none
def Bw:Nat->Option (List Nat×List Nat×List Nat)
  | 6=>some ([0,1,0,7,15,0,32,0,224,480,1023],[],[])|_=>none
def xy:af:=⟨133,
  .seq (.reg [⟨(some 2),.box (.t 0),none⟩,
    ⟨(some 3),.box (.t 1),none⟩,
    ⟨(some 4),.mov (.c (.bool false)),none⟩]) <|
  .seq (.seq (.reg [⟨(some 9),.fadd (.t 2) 0,none⟩,
    ⟨(some 10),.ld (.t 9) 1 false,none⟩,
    ⟨(some 11),.fadd (.t 3) 0,none⟩,
    ⟨(some 12),.ld (.t 11) 1 false,none⟩,
    ⟨(some 13),.bin .neq (.t 10) (.t 12),none⟩,
    ⟨(some 14),.mov (.t 13),none⟩,
    ⟨(some 15),.fadd (.t 2) 1,some (14,false)⟩,
    ⟨(some 16),.ld (.t 15) 1 false,some (14,false)⟩,
    ⟨(some 17),.fadd (.t 3) 1,some (14,false)⟩,
    ⟨(some 18),.ld (.t 17) 1 false,some (14,false)⟩,
    ⟨(some 19),.bin .neq (.t 16) (.t 18),some (14,false)⟩,
    ⟨(some 20),.pick (.t 14) (.c (.bool true)) (.t 19),none⟩,
    ⟨(some 21),.mov (.t 20),none⟩,
    ⟨(some 22),.fadd (.t 2) 2,some (21,false)⟩,
    ⟨(some 23),.ld (.t 22) 1 false,some (21,false)⟩,
    ⟨(some 24),.fadd (.t 3) 2,some (21,false)⟩,
    ⟨(some 25),.ld (.t 24) 1 false,some (21,false)⟩,
    ⟨(some 26),.bin .neq (.t 23) (.t 25),some (21,false)⟩,
    ⟨(some 27),.pick (.t 21) (.c (.bool true)) (.t 26),none⟩,
    ⟨(some 28),.mov (.t 27),none⟩,
    ⟨(some 29),.fadd (.t 2) 3,some (28,false)⟩,
    ⟨(some 30),.ld (.t 29) 1 false,some (28,false)⟩,
    ⟨(some 31),.len (.t 30),some (28,false)⟩,
    ⟨(some 32),.fadd (.t 3) 3,some (28,false)⟩,
    ⟨(some 33),.ld (.t 32) 1 false,some (28,false)⟩,
    ⟨(some 34),.len (.t 33),some (28,false)⟩,
    ⟨(some 35),.bin .neq (.t 31) (.t 34),some (28,false)⟩,
    ⟨(some 36),.pick (.t 28) (.c (.bool true)) (.t 35),none⟩,
    ⟨(some 37),.mov (.t 36),none⟩,
    ⟨(some 38),.fadd (.t 2) 4,some (37,false)⟩,
    ⟨(some 39),.ld (.t 38) 1 false,some (37,false)⟩,
    ⟨(some 40),.fadd (.t 3) 4,some (37,false)⟩,
    ⟨(some 41),.ld (.t 40) 1 false,some (37,false)⟩,
    ⟨(some 42),.call fe [(.t 39),(.t 41)],some (37,false)⟩,
    ⟨(some 43),.un .not (.t 42),some (37,false)⟩,
    ⟨(some 44),.pick (.t 37) (.c (.bool true)) (.t 43),none⟩,
    ⟨(some 45),.mov (.t 44),none⟩,
    ⟨(some 46),.fadd (.t 2) 5,some (45,false)⟩,
    ⟨(some 47),.ld (.t 46) 1 false,some (45,false)⟩,
    ⟨(some 48),.len (.t 47),some (45,false)⟩,
    ⟨(some 49),.fadd (.t 3) 5,some (45,false)⟩,
    ⟨(some 50),.ld (.t 49) 1 false,some (45,false)⟩,
    ⟨(some 51),.len (.t 50),some (45,false)⟩,
    ⟨(some 52),.bin .neq (.t 48) (.t 51),some (45,false)⟩,
    ⟨(some 53),.pick (.t 45) (.c (.bool true)) (.t 52),none⟩,
    ⟨(some 54),.mov (.t 53),none⟩,
    ⟨(some 55),.fadd (.t 2) 6,some (54,false)⟩,
    ⟨(some 56),.ld (.t 55) 1 false,some (54,false)⟩,
    ⟨(some 57),.fadd (.t 3) 6,some (54,false)⟩,
    ⟨(some 58),.ld (.t 57) 1 false,some (54,false)⟩,
    ⟨(some 59),.call cv [(.t 56),(.t 58)],some (54,false)⟩,
    ⟨(some 60),.un .not (.t 59),some (54,false)⟩,
    ⟨(some 61),.pick (.t 54) (.c (.bool true)) (.t 60),none⟩]) <|
  .cond (.t 61) (.seq (.reg [⟨(some 4),.mov (.c (.bool false)),none⟩]) <|
  .ret) (.skip)) <|
  .seqj [2,3] [] (.seq (.reg [⟨(some 5),.mov (.c (.int .i64 0)),none⟩]) <|
  .block 0 (.loop [2,3] [5] (.seq (.seq (.reg [⟨(some 62),.mov (.t 5),none⟩,
    ⟨(some 63),.fadd (.t 2) 3,none⟩,
    ⟨(some 64),.ld (.t 63) 1 false,none⟩,
    ⟨(some 65),.len (.t 64),none⟩,
    ⟨(some 66),.bin .lss (.t 62) (.t 65),none⟩]) <|
  .cond (.t 66) (.skip) (.exit 0)) <|
  .seq (.block 1 (.seq (.dreg [⟨(some 69),.fadd (.t 2) 3,none⟩,
    ⟨(some 70),.ld (.t 69) 1 false,none⟩,
    ⟨(some 71),.mov (.t 5),none⟩,
    ⟨(some 72),.iadd (.t 70) (.t 71) 4,none⟩,
    ⟨(some 73),.ld (.t 72) 4 true,none⟩,
    ⟨(some 74),.fadd (.t 3) 3,none⟩,
    ⟨(some 75),.ld (.t 74) 1 false,none⟩,
    ⟨(some 76),.mov (.t 5),none⟩,
    ⟨(some 77),.iadd (.t 75) (.t 76) 4,none⟩,
    ⟨(some 78),.ld (.t 77) 4 true,none⟩,
    ⟨(some 79),.eqv true true [.s,.i,.i,.i] (.t 73) (.t 78),none⟩] [] []) <|
  .cond (.t 79) (.seq (.reg [⟨(some 4),.mov (.c (.bool false)),none⟩]) <|
  .ret) (.skip))) <|
  .reg [⟨(some 67),.mov (.t 5),none⟩,
    ⟨(some 68),.bin .add (.t 67) (.c (.int .i64 1)),none⟩,
    ⟨(some 5),.mov (.t 68),none⟩]))) <|
  .seqj [] [] (.seq (.reg [⟨(some 6),.mov (.c (.int .i64 0)),none⟩]) <|
  .block 2 (.loop [2,3] [6] (.seq (.seq (.reg [⟨(some 80),.mov (.t 6),none⟩,
    ⟨(some 81),.fadd (.t 2) 5,none⟩,
    ⟨(some 82),.ld (.t 81) 1 false,none⟩,
    ⟨(some 83),.len (.t 82),none⟩,
    ⟨(some 84),.bin .lss (.t 80) (.t 83),none⟩]) <|
  .cond (.t 84) (.skip) (.exit 2)) <|
  .seq (.block 3 (.seq (.reg [⟨(some 87),.fadd (.t 2) 5,none⟩,
    ⟨(some 88),.ld (.t 87) 1 false,none⟩,
    ⟨(some 89),.mov (.t 6),none⟩,
    ⟨(some 90),.iadd (.t 88) (.t 89) 10,none⟩,
    ⟨(some 91),.ld (.t 90) 10 true,none⟩,
    ⟨(some 7),.alloc (.agg [(.str ⟨#[]⟩),.nil,(.int .i64 0),.nil,(.int .i64 0),(.int .i64 0),(.int .i64 0),(.str ⟨#[]⟩),(.int .i32 0),.nil]),none⟩,
    ⟨none,.st (.t 7) (.t 91) 10,none⟩]) <|
  .seq (.reg [⟨(some 92),.fadd (.t 3) 5,none⟩,
    ⟨(some 93),.ld (.t 92) 1 false,none⟩,
    ⟨(some 94),.mov (.t 6),none⟩,
    ⟨(some 95),.iadd (.t 93) (.t 94) 10,none⟩,
    ⟨(some 96),.ld (.t 95) 10 true,none⟩,
    ⟨(some 8),.alloc (.agg [(.str ⟨#[]⟩),.nil,(.int .i64 0),.nil,(.int .i64 0),(.int .i64 0),(.int .i64 0),(.str ⟨#[]⟩),(.int .i32 0),.nil]),none⟩,
    ⟨none,.st (.t 8) (.t 96) 10,none⟩]) <|
  .seq (.reg [⟨(some 97),.fadd (.t 7) 0,none⟩,
    ⟨(some 98),.ld (.t 97) 1 false,none⟩,
    ⟨(some 99),.fadd (.t 8) 0,none⟩,
    ⟨(some 100),.ld (.t 99) 1 false,none⟩,
    ⟨(some 101),.bin .neq (.t 98) (.t 100),none⟩,
    ⟨(some 102),.mov (.t 101),none⟩,
    ⟨(some 103),.fadd (.t 7) 2,some (102,false)⟩,
    ⟨(some 104),.ld (.t 103) 1 false,some (102,false)⟩,
    ⟨(some 105),.fadd (.t 8) 2,some (102,false)⟩,
    ⟨(some 106),.ld (.t 105) 1 false,some (102,false)⟩,
    ⟨(some 107),.bin .neq (.t 104) (.t 106),some (102,false)⟩,
    ⟨(some 108),.pick (.t 102) (.c (.bool true)) (.t 107),none⟩,
    ⟨(some 109),.mov (.t 108),none⟩,
    ⟨(some 110),.fadd (.t 7) 1,some (109,false)⟩,
    ⟨(some 111),.ld (.t 110) 1 false,some (109,false)⟩,
    ⟨(some 112),.fadd (.t 8) 1,some (109,false)⟩,
    ⟨(some 113),.ld (.t 112) 1 false,some (109,false)⟩,
    ⟨(some 114),.call fe [(.t 111),(.t 113)],some (109,false)⟩,
    ⟨(some 115),.un .not (.t 114),some (109,false)⟩,
    ⟨(some 116),.pick (.t 109) (.c (.bool true)) (.t 115),none⟩,
    ⟨(some 117),.mov (.t 116),none⟩,
    ⟨(some 118),.fadd (.t 7) 3,some (117,false)⟩,
    ⟨(some 119),.ld (.t 118) 1 false,some (117,false)⟩,
    ⟨(some 120),.fadd (.t 8) 3,some (117,false)⟩,
    ⟨(some 121),.ld (.t 120) 1 false,some (117,false)⟩,
    ⟨(some 122),.call cv [(.t 119),(.t 121)],some (117,false)⟩,
    ⟨(some 123),.un .not (.t 122),some (117,false)⟩,
    ⟨(some 124),.pick (.t 117) (.c (.bool true)) (.t 123),none⟩,
    ⟨(some 125),.mov (.t 124),none⟩,
    ⟨(some 126),.fadd (.t 7) 4,some (125,false)⟩,
    ⟨(some 127),.ld (.t 126) 6 true,some (125,false)⟩,
    ⟨(some 128),.fadd (.t 8) 4,some (125,false)⟩,
    ⟨(some 129),.ld (.t 128) 6 true,some (125,false)⟩,
    ⟨(some 130),.call cN [(.t 127),(.t 129)],some (125,false)⟩,
    ⟨(some 131),.un .not (.t 130),some (125,false)⟩,
    ⟨(some 132),.pick (.t 125) (.c (.bool true)) (.t 131),none⟩]) <|
  .cond (.t 132) (.seq (.reg [⟨(some 4),.mov (.c (.bool false)),none⟩]) <|
  .ret) (.skip))) <|
  .reg [⟨(some 85),.mov (.t 6),none⟩,
    ⟨(some 86),.bin .add (.t 85) (.c (.int .i64 1)),none⟩,
    ⟨(some 6),.mov (.t 86),none⟩]))) <|
  .seq (.reg [⟨(some 4),.mov (.c (.bool true)),none⟩]) <|
  .ret,
  [.t 4]⟩
theorem AT:cFn PP true wj yy (cDr PP 133 Bw)=some xy:=by kernel_rfl
def wD:Nat->Option (List Nat×List Nat)
  | 1000007=>some ([],[])|2=>some ([1,2],[5])|_=>none
def zX:Nat->Option (List Nat×List Nat×List Nat)
  | _=>none
def ub:af:=⟨24,
  .seq (.reg [⟨(some 2),.box (.t 0),none⟩,
    ⟨(some 4),.mov (.c (.int .i64 0)),none⟩]) <|
  .seqj [] [] (.seq (.reg [⟨(some 5),.mov (.c (.int .i64 0)),none⟩]) <|
  .block 0 (.loop [1,2] [5] (.seq (.seq (.reg [⟨(some 6),.mov (.t 5),none⟩,
    ⟨(some 7),.fadd (.t 2) 0,none⟩,
    ⟨(some 8),.fadd (.t 7) 3,none⟩,
    ⟨(some 9),.ld (.t 8) 1 false,none⟩,
    ⟨(some 10),.len (.t 9),none⟩,
    ⟨(some 11),.bin .lss (.t 6) (.t 10),none⟩]) <|
  .cond (.t 11) (.skip) (.exit 0)) <|
  .seq (.block 1 (.seq (.reg [⟨(some 14),.fadd (.t 2) 0,none⟩,
    ⟨(some 15),.fadd (.t 14) 3,none⟩,
    ⟨(some 16),.ld (.t 15) 1 false,none⟩,
    ⟨(some 17),.mov (.t 5),none⟩,
    ⟨(some 18),.iadd (.t 16) (.t 17) 4,none⟩,
    ⟨(some 19),.fadd (.t 18) 0,none⟩,
    ⟨(some 20),.ld (.t 19) 1 false,none⟩,
    ⟨(some 21),.mov (.t 1),none⟩,
    ⟨(some 22),.bin .eql (.t 20) (.t 21),none⟩]) <|
  .cond (.t 22) (.seq (.reg [⟨(some 23),.mov (.t 5),none⟩,
    ⟨(some 4),.mov (.t 23),none⟩]) <|
  .ret) (.skip))) <|
  .reg [⟨(some 12),.mov (.t 5),none⟩,
    ⟨(some 13),.bin .add (.t 12) (.c (.int .i64 1)),none⟩,
    ⟨(some 5),.mov (.t 13),none⟩]))) <|
  .seq (.reg [⟨(some 4),.mov (.c (.int .i64 (-1))),none⟩]) <|
  .ret,
  [.t 4]⟩
theorem yX:cFn PP true iy wD (cDr PP 24 zX)=some ub:=by kernel_rfl
def rm:Nat->Option (List Nat×List Nat)
  | 1000007=>some ([],[])|2=>some ([1,2],[5])|_=>none
def uA:Nat->Option (List Nat×List Nat×List Nat)
  | _=>none
def nK:af:=⟨22,
  .seq (.reg [⟨(some 2),.box (.t 0),none⟩,
    ⟨(some 4),.mov (.c (.int .i64 0)),none⟩]) <|
  .seqj [] [] (.seq (.reg [⟨(some 5),.mov (.c (.int .i64 0)),none⟩]) <|
  .block 0 (.loop [1,2] [5] (.seq (.seq (.reg [⟨(some 6),.mov (.t 5),none⟩,
    ⟨(some 7),.fadd (.t 2) 7,none⟩,
    ⟨(some 8),.ld (.t 7) 1 false,none⟩,
    ⟨(some 9),.bin .lss (.t 6) (.t 8),none⟩]) <|
  .cond (.t 9) (.skip) (.exit 0)) <|
  .seq (.block 1 (.seq (.reg [⟨(some 12),.fadd (.t 2) 0,none⟩,
    ⟨(some 13),.fadd (.t 12) 5,none⟩,
    ⟨(some 14),.ld (.t 13) 1 false,none⟩,
    ⟨(some 15),.mov (.t 5),none⟩,
    ⟨(some 16),.iadd (.t 14) (.t 15) 10,none⟩,
    ⟨(some 17),.fadd (.t 16) 0,none⟩,
    ⟨(some 18),.ld (.t 17) 1 false,none⟩,
    ⟨(some 19),.mov (.t 1),none⟩,
    ⟨(some 20),.bin .eql (.t 18) (.t 19),none⟩]) <|
  .cond (.t 20) (.seq (.reg [⟨(some 21),.mov (.t 5),none⟩,
    ⟨(some 4),.mov (.t 21),none⟩]) <|
  .ret) (.skip))) <|
  .reg [⟨(some 10),.mov (.t 5),none⟩,
    ⟨(some 11),.bin .add (.t 10) (.c (.int .i64 1)),none⟩,
    ⟨(some 5),.mov (.t 11),none⟩]))) <|
  .seq (.reg [⟨(some 4),.mov (.c (.int .i64 (-1))),none⟩]) <|
  .ret,
  [.t 4]⟩
theorem ti:cFn PP true ij rm (cDr PP 22 uA)=some nK:=by kernel_rfl
def rl:Nat->Option (List Nat×List Nat)
  | 1000007=>some ([],[])|2=>some ([1,2],[5])|_=>none
def uz:Nat->Option (List Nat×List Nat×List Nat)
  | _=>none
def nJ:af:=⟨22,
  .seq (.reg [⟨(some 2),.box (.t 0),none⟩,
    ⟨(some 4),.mov (.c (.int .i64 0)),none⟩]) <|
  .seqj [] [] (.seq (.reg [⟨(some 5),.mov (.c (.int .i64 0)),none⟩]) <|
  .block 0 (.loop [1,2] [5] (.seq (.seq (.reg [⟨(some 6),.mov (.t 5),none⟩,
    ⟨(some 7),.fadd (.t 2) 8,none⟩,
    ⟨(some 8),.ld (.t 7) 1 false,none⟩,
    ⟨(some 9),.len (.t 8),none⟩,
    ⟨(some 10),.bin .lss (.t 6) (.t 9),none⟩]) <|
  .cond (.t 10) (.skip) (.exit 0)) <|
  .seq (.block 1 (.seq (.reg [⟨(some 13),.fadd (.t 2) 8,none⟩,
    ⟨(some 14),.ld (.t 13) 1 false,none⟩,
    ⟨(some 15),.mov (.t 5),none⟩,
    ⟨(some 16),.iadd (.t 14) (.t 15) 3,none⟩,
    ⟨(some 17),.fadd (.t 16) 0,none⟩,
    ⟨(some 18),.ld (.t 17) 1 false,none⟩,
    ⟨(some 19),.mov (.t 1),none⟩,
    ⟨(some 20),.bin .eql (.t 18) (.t 19),none⟩]) <|
  .cond (.t 20) (.seq (.reg [⟨(some 21),.mov (.t 5),none⟩,
    ⟨(some 4),.mov (.t 21),none⟩]) <|
  .ret) (.skip))) <|
  .reg [⟨(some 11),.mov (.t 5),none⟩,
    ⟨(some 12),.bin .add (.t 11) (.c (.int .i64 1)),none⟩,
    ⟨(some 5),.mov (.t 12),none⟩]))) <|
  .seq (.reg [⟨(some 4),.mov (.c (.int .i64 (-1))),none⟩]) <|
  .ret,
  [.t 4]⟩
theorem th:cFn PP true ej rl (cDr PP 22 uz)=some nJ:=by kernel_rfl
def qb:Nat->Option (List Nat×List Nat)
  | 1000025=>some ([3,5],[9])|1000027=>some ([],[9])|1000032=>some ([3,5],[10])|1000035=>some ([],[10])|1000038=>some ([2,3,42],[144])|1000048=>some ([3,11,12],[])|1000050=>some ([12],[])|_=>none
def sR:Nat->Option (List Nat×List Nat×List Nat)
  | 17=>some ([0,1,3,0,0,16,56,127,255,511,1023],[],[])|_=>none
def lW:af:=⟨194,
  .seq (.reg [⟨(some 2),.box (.t 0),none⟩,
    ⟨(some 3),.box (.t 1),none⟩,
    ⟨(some 4),.mov (.c (.int .i64 0)),none⟩]) <|
  .seq (.reg [⟨(some 13),.ld (.t 2) 11 true,none⟩,
    ⟨(some 5),.alloc (.agg [(.str ⟨#[]⟩),(.int .i64 0),(.int .i64 0),.nil,.nil,.nil,.nil,(.int .i64 0),.nil,(.bool false),(.bool false)]),none⟩,
    ⟨none,.st (.t 5) (.t 13) 11,none⟩]) <|
  .seq (.seq (.reg [⟨(some 14),.fadd (.t 2) 9,none⟩,
    ⟨(some 15),.ld (.t 14) 1 false,none⟩,
    ⟨(some 16),.mov (.t 15),none⟩,
    ⟨(some 17),.fadd (.t 3) 0,some (16,true)⟩,
    ⟨(some 18),.ld (.t 17) 1 false,some (16,true)⟩,
    ⟨(some 19),.bin .neq (.t 18) (.c (.int .i64 2)),some (16,true)⟩,
    ⟨(some 20),.pick (.t 16) (.t 19) (.c (.bool false)),none⟩,
    ⟨(some 21),.mov (.t 20),none⟩,
    ⟨(some 22),.fadd (.t 3) 0,some (21,true)⟩,
    ⟨(some 23),.ld (.t 22) 1 false,some (21,true)⟩,
    ⟨(some 24),.bin .neq (.t 23) (.c (.int .i64 5)),some (21,true)⟩,
    ⟨(some 25),.pick (.t 21) (.t 24) (.c (.bool false)),none⟩,
    ⟨(some 26),.mov (.t 25),none⟩,
    ⟨(some 27),.fadd (.t 3) 0,some (26,true)⟩,
    ⟨(some 28),.ld (.t 27) 1 false,some (26,true)⟩,
    ⟨(some 29),.bin .neq (.t 28) (.c (.int .i64 6)),some (26,true)⟩,
    ⟨(some 30),.pick (.t 26) (.t 29) (.c (.bool false)),none⟩,
    ⟨(some 31),.mov (.t 30),none⟩,
    ⟨(some 32),.fadd (.t 3) 0,some (31,true)⟩,
    ⟨(some 33),.ld (.t 32) 1 false,some (31,true)⟩,
    ⟨(some 34),.bin .neq (.t 33) (.c (.int .i64 7)),some (31,true)⟩,
    ⟨(some 35),.pick (.t 31) (.t 34) (.c (.bool false)),none⟩,
    ⟨(some 36),.mov (.t 35),none⟩,
    ⟨(some 37),.fadd (.t 3) 0,some (36,true)⟩,
    ⟨(some 38),.ld (.t 37) 1 false,some (36,true)⟩,
    ⟨(some 39),.bin .neq (.t 38) (.c (.int .i64 8)),some (36,true)⟩,
    ⟨(some 40),.pick (.t 36) (.t 39) (.c (.bool false)),none⟩]) <|
  .cond (.t 40) (.seq (.reg [⟨(some 4),.mov (.c (.int .i64 31)),none⟩]) <|
  .ret) (.skip)) <|
  .seq (.seq (.reg [⟨(some 41),.fadd (.t 3) 0,none⟩,
    ⟨(some 42),.ld (.t 41) 1 false,none⟩]) <|
  .block 0 (.seq (.reg [⟨(some 44),.bin .eql (.t 42) (.c (.int .i64 2)),none⟩,
    ⟨(some 43),.mov (.t 44),none⟩]) <|
  .cond (.t 43) (.seq (.reg [⟨(some 45),.ld (.t 2) 11 true,none⟩,
    ⟨(some 46),.fadd (.t 3) 4,none⟩,
    ⟨(some 47),.ld (.t 46) 1 false,none⟩,
    ⟨(some 48),.call qU [(.t 45),(.t 47)],none⟩,
    ⟨(some 6),.alloc (.agg [(.int .i64 0),(.int .i64 0)]),none⟩,
    ⟨none,.st (.t 6) (.t 48) 2,none⟩]) <|
  .seq (.seq (.reg [⟨(some 49),.fadd (.t 6) 1,none⟩,
    ⟨(some 50),.ld (.t 49) 1 false,none⟩,
    ⟨(some 51),.bin .neq (.t 50) (.c (.int .i64 0)),none⟩]) <|
  .cond (.t 51) (.seq (.reg [⟨(some 52),.fadd (.t 6) 1,none⟩,
    ⟨(some 53),.ld (.t 52) 1 false,none⟩,
    ⟨(some 4),.mov (.t 53),none⟩]) <|
  .ret) (.skip)) <|
  .seq (.reg [⟨(some 54),.ld (.t 2) 11 true,none⟩,
    ⟨(some 55),.fadd (.t 3) 5,none⟩,
    ⟨(some 56),.ld (.t 55) 6 true,none⟩,
    ⟨(some 57),.fadd (.t 6) 0,none⟩,
    ⟨(some 58),.ld (.t 57) 1 false,none⟩,
    ⟨(some 59),.call ik [(.t 54),(.t 56),(.t 58)],none⟩,
    ⟨(some 4),.mov (.t 59),none⟩]) <|
  .ret) (.seq (.reg [⟨(some 61),.bin .eql (.t 42) (.c (.int .i64 3)),none⟩,
    ⟨(some 60),.mov (.t 61),none⟩]) <|
  .cond (.t 60) (.seq (.reg [⟨(some 62),.ld (.t 2) 11 true,none⟩,
    ⟨(some 63),.ld (.t 3) 19 true,none⟩,
    ⟨(some 64),.call qT [(.t 62),(.t 63)],none⟩,
    ⟨(some 65),.fld (.t 64) 1 1 false,none⟩,
    ⟨(some 4),.mov (.t 65),none⟩]) <|
  .ret) (.seq (.reg [⟨(some 67),.bin .eql (.t 42) (.c (.int .i64 4)),none⟩,
    ⟨(some 66),.mov (.t 67),none⟩]) <|
  .cond (.t 66) (.seq (.reg [⟨(some 68),.ld (.t 2) 11 true,none⟩,
    ⟨(some 69),.ld (.t 3) 19 true,none⟩,
    ⟨(some 70),.call qT [(.t 68),(.t 69)],none⟩,
    ⟨(some 7),.alloc (.agg [(.int .i64 0),(.int .i64 0)]),none⟩,
    ⟨none,.st (.t 7) (.t 70) 2,none⟩]) <|
  .seq (.seq (.reg [⟨(some 71),.fadd (.t 7) 1,none⟩,
    ⟨(some 72),.ld (.t 71) 1 false,none⟩,
    ⟨(some 73),.bin .neq (.t 72) (.c (.int .i64 0)),none⟩]) <|
  .cond (.t 73) (.seq (.reg [⟨(some 74),.fadd (.t 7) 1,none⟩,
    ⟨(some 75),.ld (.t 74) 1 false,none⟩,
    ⟨(some 4),.mov (.t 75),none⟩]) <|
  .ret) (.skip)) <|
  .seq (.reg [⟨(some 76),.fadd (.t 3) 1,none⟩,
    ⟨(some 77),.ld (.t 76) 1 false,none⟩,
    ⟨(some 78),.fadd (.t 7) 0,none⟩,
    ⟨(some 79),.ld (.t 78) 1 false,none⟩,
    ⟨(some 80),.fadd (.t 7) 0,none⟩,
    ⟨(some 81),.ld (.t 80) 1 false,none⟩,
    ⟨(some 82),.call dK [(.t 77),(.t 79),(.t 81)],none⟩,
    ⟨(some 83),.fld (.t 82) 1 1 false,none⟩,
    ⟨(some 8),.mov (.t 83),none⟩]) <|
  .seq (.seq (.dreg [⟨(some 84),.fadd (.t 2) 0,none⟩,
    ⟨(some 85),.fadd (.t 84) 3,none⟩,
    ⟨(some 86),.ld (.t 85) 1 false,none⟩,
    ⟨(some 87),.ld (.t 2) 11 true,none⟩,
    ⟨(some 88),.fadd (.t 3) 4,none⟩,
    ⟨(some 89),.ld (.t 88) 1 false,none⟩,
    ⟨(some 90),.call iy [(.t 87),(.t 89)],none⟩,
    ⟨(some 91),.iadd (.t 86) (.t 90) 4,none⟩,
    ⟨(some 92),.fadd (.t 91) 1,none⟩,
    ⟨(some 93),.ld (.t 92) 1 false,none⟩,
    ⟨(some 94),.bin .eql (.t 93) (.c (.int .i64 3)),none⟩] [] []) <|
  .cond (.t 94) (.seq (.reg [⟨(some 4),.mov (.c (.int .i64 31)),none⟩]) <|
  .ret) (.skip)) <|
  .seq (.reg [⟨(some 95),.mov (.t 8),none⟩,
    ⟨(some 4),.mov (.t 95),none⟩]) <|
  .ret) (.seq (.reg [⟨(some 97),.bin .eql (.t 42) (.c (.int .i64 5)),none⟩,
    ⟨(some 96),.mov (.t 97),none⟩]) <|
  .cond (.t 96) (.seq (.reg [⟨(some 98),.ld (.t 2) 11 true,none⟩,
    ⟨(some 99),.fadd (.t 3) 5,none⟩,
    ⟨(some 100),.ld (.t 99) 6 true,none⟩,
    ⟨(some 101),.call ik [(.t 98),(.t 100),(.c (.int .i64 3))],none⟩,
    ⟨(some 9),.mov (.t 101),none⟩]) <|
  .seqj [3,5] [9] (.seq (.reg [⟨(some 102),.mov (.t 9),none⟩,
    ⟨(some 103),.bin .eql (.t 102) (.c (.int .i64 0)),none⟩]) <|
  .cond (.t 103) (.reg [⟨(some 104),.ld (.t 5) 11 true,none⟩,
    ⟨(some 105),.fadd (.t 3) 17,none⟩,
    ⟨(some 106),.ld (.t 105) 1 false,none⟩,
    ⟨(some 107),.call bH [(.t 104),(.t 106)],none⟩,
    ⟨(some 108),.fld (.t 107) 11 1 false,none⟩,
    ⟨(some 9),.mov (.t 108),none⟩]) (.skip)) <|
  .seqj [] [9] (.seq (.reg [⟨(some 109),.mov (.t 9),none⟩,
    ⟨(some 110),.bin .eql (.t 109) (.c (.int .i64 0)),none⟩]) <|
  .cond (.t 110) (.reg [⟨(some 111),.ld (.t 5) 11 true,none⟩,
    ⟨(some 112),.fadd (.t 3) 18,none⟩,
    ⟨(some 113),.ld (.t 112) 1 false,none⟩,
    ⟨(some 114),.call bH [(.t 111),(.t 113)],none⟩,
    ⟨(some 115),.fld (.t 114) 11 1 false,none⟩,
    ⟨(some 9),.mov (.t 115),none⟩]) (.skip)) <|
  .seq (.reg [⟨(some 116),.mov (.t 9),none⟩,
    ⟨(some 4),.mov (.t 116),none⟩]) <|
  .ret) (.seq (.reg [⟨(some 118),.bin .eql (.t 42) (.c (.int .i64 6)),none⟩,
    ⟨(some 117),.mov (.t 118),none⟩]) <|
  .cond (.t 117) (.seq (.reg [⟨(some 119),.ld (.t 2) 11 true,none⟩,
    ⟨(some 120),.fadd (.t 3) 5,none⟩,
    ⟨(some 121),.ld (.t 120) 6 true,none⟩,
    ⟨(some 122),.call ik [(.t 119),(.t 121),(.c (.int .i64 3))],none⟩,
    ⟨(some 10),.mov (.t 122),none⟩]) <|
  .seqj [3,5] [10] (.seq (.reg [⟨(some 123),.mov (.t 10),none⟩,
    ⟨(some 124),.bin .eql (.t 123) (.c (.int .i64 0)),none⟩,
    ⟨(some 125),.mov (.t 124),none⟩,
    ⟨(some 126),.fadd (.t 3) 3,some (125,true)⟩,
    ⟨(some 127),.ld (.t 126) 1 false,some (125,true)⟩,
    ⟨(some 128),.bin .lss (.t 127) (.c (.int .i64 1)),some (125,true)⟩,
    ⟨(some 129),.mov (.t 128),some (125,true)⟩,
    ⟨(some 130),.fadd (.t 3) 3,some (129,false)⟩,
    ⟨(some 131),.ld (.t 130) 1 false,some (129,false)⟩,
    ⟨(some 132),.bin .gtr (.t 131) (.c (.int .i64 1024)),some (129,false)⟩,
    ⟨(some 133),.pick (.t 129) (.c (.bool true)) (.t 132),some (125,true)⟩,
    ⟨(some 134),.pick (.t 125) (.t 133) (.c (.bool false)),none⟩]) <|
  .cond (.t 134) (.reg [⟨(some 10),.mov (.c (.int .i64 1)),none⟩]) (.skip)) <|
  .seq (.reg [⟨(some 135),.fadd (.t 5) 10,none⟩,
    ⟨none,.st (.t 135) (.c (.bool true)) 1,none⟩]) <|
  .seqj [] [10] (.seq (.reg [⟨(some 136),.mov (.t 10),none⟩,
    ⟨(some 137),.bin .eql (.t 136) (.c (.int .i64 0)),none⟩]) <|
  .cond (.t 137) (.reg [⟨(some 138),.ld (.t 5) 11 true,none⟩,
    ⟨(some 139),.fadd (.t 3) 17,none⟩,
    ⟨(some 140),.ld (.t 139) 1 false,none⟩,
    ⟨(some 141),.call bH [(.t 138),(.t 140)],none⟩,
    ⟨(some 142),.fld (.t 141) 11 1 false,none⟩,
    ⟨(some 10),.mov (.t 142),none⟩]) (.skip)) <|
  .seq (.reg [⟨(some 143),.mov (.t 10),none⟩,
    ⟨(some 4),.mov (.t 143),none⟩]) <|
  .ret) (.seqj [2,3,42] [144] (.seq (.reg [⟨(some 145),.bin .eql (.t 42) (.c (.int .i64 7)),none⟩,
    ⟨(some 144),.mov (.t 145),none⟩]) <|
  .cond (.t 144) (.skip) (.reg [⟨(some 146),.bin .eql (.t 42) (.c (.int .i64 8)),none⟩,
    ⟨(some 144),.mov (.t 146),none⟩])) <|
  .cond (.t 144) (.seq (.seq (.reg [⟨(some 147),.fadd (.t 2) 10,none⟩,
    ⟨(some 148),.ld (.t 147) 1 false,none⟩,
    ⟨(some 149),.un .not (.t 148),none⟩]) <|
  .cond (.t 149) (.seq (.reg [⟨(some 4),.mov (.c (.int .i64 31)),none⟩]) <|
  .ret) (.skip)) <|
  .seq (.reg [⟨(some 4),.mov (.c (.int .i64 0)),none⟩]) <|
  .ret) (.seq (.reg [⟨(some 151),.bin .eql (.t 42) (.c (.int .i64 12)),none⟩,
    ⟨(some 150),.mov (.t 151),none⟩]) <|
  .cond (.t 150) (.seq (.reg [⟨(some 152),.ld (.t 2) 11 true,none⟩,
    ⟨(some 153),.fadd (.t 3) 4,none⟩,
    ⟨(some 154),.ld (.t 153) 1 false,none⟩,
    ⟨(some 155),.call qU [(.t 152),(.t 154)],none⟩,
    ⟨(some 11),.alloc (.agg [(.int .i64 0),(.int .i64 0)]),none⟩,
    ⟨none,.st (.t 11) (.t 155) 2,none⟩]) <|
  .seq (.seq (.reg [⟨(some 156),.fadd (.t 11) 1,none⟩,
    ⟨(some 157),.ld (.t 156) 1 false,none⟩,
    ⟨(some 158),.bin .neq (.t 157) (.c (.int .i64 0)),none⟩]) <|
  .cond (.t 158) (.seq (.reg [⟨(some 159),.fadd (.t 11) 1,none⟩,
    ⟨(some 160),.ld (.t 159) 1 false,none⟩,
    ⟨(some 4),.mov (.t 160),none⟩]) <|
  .ret) (.skip)) <|
  .seq (.reg [⟨(some 161),.ld (.t 2) 11 true,none⟩,
    ⟨(some 162),.fadd (.t 3) 5,none⟩,
    ⟨(some 163),.ld (.t 162) 6 true,none⟩,
    ⟨(some 164),.call dU [(.t 161),(.t 163)],none⟩,
    ⟨(some 12),.alloc (.agg [(.int .i64 0),(.int .i64 0)]),none⟩,
    ⟨none,.st (.t 12) (.t 164) 2,none⟩]) <|
  .seqj [3,11,12] [] (.seq (.reg [⟨(some 165),.fadd (.t 12) 1,none⟩,
    ⟨(some 166),.ld (.t 165) 1 false,none⟩,
    ⟨(some 167),.bin .eql (.t 166) (.c (.int .i64 0)),none⟩,
    ⟨(some 168),.mov (.t 167),none⟩,
    ⟨(some 169),.fadd (.t 3) 1,some (168,true)⟩,
    ⟨(some 170),.ld (.t 169) 1 false,some (168,true)⟩,
    ⟨(some 171),.bin .eql (.t 170) (.c (.int .i64 4)),some (168,true)⟩,
    ⟨(some 172),.pick (.t 168) (.t 171) (.c (.bool false)),none⟩]) <|
  .cond (.t 172) (.reg [⟨(some 173),.ld (.t 2) 11 true,none⟩,
    ⟨(some 174),.fadd (.t 3) 11,none⟩,
    ⟨(some 175),.ld (.t 174) 6 true,none⟩,
    ⟨(some 176),.call ik [(.t 173),(.t 175),(.c (.int .i64 1))],none⟩,
    ⟨(some 177),.fadd (.t 12) 1,none⟩,
    ⟨none,.st (.t 177) (.t 176) 1,none⟩]) (.skip)) <|
  .seqj [12] [] (.seq (.reg [⟨(some 178),.fadd (.t 12) 1,none⟩,
    ⟨(some 179),.ld (.t 178) 1 false,none⟩,
    ⟨(some 180),.bin .eql (.t 179) (.c (.int .i64 0)),none⟩,
    ⟨(some 181),.mov (.t 180),none⟩,
    ⟨(some 182),.fadd (.t 3) 1,some (181,true)⟩,
    ⟨(some 183),.ld (.t 182) 1 false,some (181,true)⟩,
    ⟨(some 184),.fadd (.t 12) 0,some (181,true)⟩,
    ⟨(some 185),.ld (.t 184) 1 false,some (181,true)⟩,
    ⟨(some 186),.fadd (.t 11) 0,some (181,true)⟩,
    ⟨(some 187),.ld (.t 186) 1 false,some (181,true)⟩,
    ⟨(some 188),.call Eb [(.t 183),(.t 185),(.t 187)],some (181,true)⟩,
    ⟨(some 189),.un .not (.t 188),some (181,true)⟩,
    ⟨(some 190),.pick (.t 181) (.t 189) (.c (.bool false)),none⟩]) <|
  .cond (.t 190) (.reg [⟨(some 191),.fadd (.t 12) 1,none⟩,
    ⟨none,.st (.t 191) (.c (.int .i64 31)) 1,none⟩]) (.skip)) <|
  .seq (.reg [⟨(some 192),.fadd (.t 12) 1,none⟩,
    ⟨(some 193),.ld (.t 192) 1 false,none⟩,
    ⟨(some 4),.mov (.t 193),none⟩]) <|
  .ret) (.skip))))))))) <|
  .seq (.reg [⟨(some 4),.mov (.c (.int .i64 0)),none⟩]) <|
  .ret,
  [.t 4]⟩
theorem rZ:cFn PP true lH qb (cDr PP 194 sR)=some lW:=by kernel_rfl
def uR:Nat->Option (List Nat×List Nat)
  | 1000043=>some ([2,4,11],[])|38=>some ([2,4,5,11,12],[13])|_=>none
def xW:Nat->Option (List Nat×List Nat×List Nat)
  | 15=>some ([0,1,0,4,12,31,0,127],[6,7],[])|18=>some ([0,1,0,4,12,0,32,96,255,0,1023],[9,10],[])|21=>some ([0,1,3,7,15,31,63,127,31,287,799,2047,4095],[],[])|40=>some ([0,0,3,7,15,0,0,96,224,511],[],[])|_=>none
def rY:af:=⟨167,
  .seq (.reg [⟨(some 2),.box (.t 0),none⟩,
    ⟨(some 3),.box (.t 1),none⟩,
    ⟨(some 4),.alloc (.agg [(.int .i64 0),(.int .i64 0)]),none⟩]) <|
  .seq (.reg [⟨(some 15),.ld (.t 2) 11 true,none⟩,
    ⟨(some 16),.fadd (.t 3) 5,none⟩,
    ⟨(some 17),.ld (.t 16) 1 false,none⟩,
    ⟨(some 18),.call tE [(.t 15),(.t 17)],none⟩,
    ⟨(some 14),.mov (.t 18),none⟩,
    ⟨(some 19),.ext (.t 14) 0,none⟩,
    ⟨(some 20),.ext (.t 14) 1,none⟩,
    ⟨(some 5),.mov (.t 19),none⟩,
    ⟨(some 6),.mov (.t 20),none⟩]) <|
  .seq (.seq (.reg [⟨(some 21),.mov (.t 6),none⟩,
    ⟨(some 22),.bin .neq (.t 21) (.c (.int .i64 0)),none⟩]) <|
  .cond (.t 22) (.seq (.reg [⟨(some 23),.mov (.t 6),none⟩,
    ⟨(some 24),.bld [(.int .i64 0),(.int .i64 0)] [(1,1,(.t 23))],none⟩,
    ⟨none,.st (.t 4) (.t 24) 2,none⟩]) <|
  .ret) (.skip)) <|
  .seq (.seq (.reg [⟨(some 25),.fadd (.t 3) 0,none⟩,
    ⟨(some 26),.ld (.t 25) 1 false,none⟩]) <|
  .block 0 (.seq (.reg [⟨(some 28),.bin .eql (.t 26) (.c (.int .i64 1)),none⟩,
    ⟨(some 27),.mov (.t 28),none⟩]) <|
  .cond (.t 27) (.seq (.reg [⟨(some 29),.fadd (.t 3) 2,none⟩,
    ⟨(some 30),.ld (.t 29) 1 false,none⟩,
    ⟨(some 31),.bld [(.int .i64 0),(.int .i64 0)] [(0,1,(.t 30))],none⟩,
    ⟨none,.st (.t 4) (.t 31) 2,none⟩]) <|
  .ret) (.seq (.reg [⟨(some 33),.bin .eql (.t 26) (.c (.int .i64 3)),none⟩,
    ⟨(some 32),.mov (.t 33),none⟩]) <|
  .cond (.t 32) (.seq (.reg [⟨(some 34),.bld [(.int .i64 0),(.int .i64 0)] [(0,1,(.c (.int .i64 1)))],none⟩,
    ⟨none,.st (.t 4) (.t 34) 2,none⟩]) <|
  .ret) (.seq (.reg [⟨(some 36),.bin .eql (.t 26) (.c (.int .i64 2)),none⟩,
    ⟨(some 35),.mov (.t 36),none⟩]) <|
  .cond (.t 35) (.seq (.reg [⟨(some 37),.ld (.t 2) 11 true,none⟩,
    ⟨(some 38),.fadd (.t 3) 3,none⟩,
    ⟨(some 39),.ld (.t 38) 1 false,none⟩,
    ⟨(some 40),.call ej [(.t 37),(.t 39)],none⟩,
    ⟨(some 7),.mov (.t 40),none⟩]) <|
  .seq (.seq (.reg [⟨(some 41),.mov (.t 7),none⟩,
    ⟨(some 42),.bin .lss (.t 41) (.c (.int .i64 0)),none⟩]) <|
  .cond (.t 42) (.seq (.reg [⟨(some 43),.bld [(.int .i64 0),(.int .i64 0)] [(1,1,(.c (.int .i64 30)))],none⟩,
    ⟨none,.st (.t 4) (.t 43) 2,none⟩]) <|
  .ret) (.skip)) <|
  .seq (.reg [⟨(some 44),.fadd (.t 2) 8,none⟩,
    ⟨(some 45),.ld (.t 44) 1 false,none⟩,
    ⟨(some 46),.mov (.t 7),none⟩,
    ⟨(some 47),.iadd (.t 45) (.t 46) 3,none⟩,
    ⟨(some 48),.fadd (.t 47) 1,none⟩,
    ⟨(some 49),.ld (.t 48) 1 false,none⟩,
    ⟨(some 50),.bld [(.int .i64 0),(.int .i64 0)] [(0,1,(.t 49))],none⟩,
    ⟨none,.st (.t 4) (.t 50) 2,none⟩]) <|
  .ret) (.seq (.reg [⟨(some 52),.bin .eql (.t 26) (.c (.int .i64 4)),none⟩,
    ⟨(some 51),.mov (.t 52),none⟩]) <|
  .cond (.t 51) (.seq (.dreg [⟨(some 53),.fadd (.t 3) 1,none⟩,
    ⟨(some 54),.ld (.t 53) 1 false,none⟩,
    ⟨(some 55),.mov (.t 5),none⟩,
    ⟨(some 56),.iadd (.t 55) (.c (.int .i64 0)) 1,none⟩,
    ⟨(some 57),.ld (.t 56) 1 false,none⟩,
    ⟨(some 58),.call mX [(.t 54),(.t 57)],none⟩] [⟨(some 8),.alloc (.agg [(.int .i64 0),(.int .i64 0)]),none⟩,
    ⟨none,.st (.t 8) (.t 58) 2,none⟩] []) <|
  .seq (.reg [⟨(some 59),.fadd (.t 8) 0,none⟩,
    ⟨(some 60),.ld (.t 59) 1 false,none⟩,
    ⟨(some 61),.fadd (.t 8) 1,none⟩,
    ⟨(some 62),.ld (.t 61) 1 false,none⟩,
    ⟨(some 63),.bld [(.int .i64 0),(.int .i64 0)] [(0,1,(.t 60)),(1,1,(.t 62))],none⟩,
    ⟨none,.st (.t 4) (.t 63) 2,none⟩]) <|
  .ret) (.seq (.reg [⟨(some 65),.bin .eql (.t 26) (.c (.int .i64 5)),none⟩,
    ⟨(some 64),.mov (.t 65),none⟩]) <|
  .cond (.t 64) (.seq (.dreg [⟨(some 66),.fadd (.t 3) 1,none⟩,
    ⟨(some 67),.ld (.t 66) 1 false,none⟩,
    ⟨(some 68),.mov (.t 5),none⟩,
    ⟨(some 69),.iadd (.t 68) (.c (.int .i64 0)) 1,none⟩,
    ⟨(some 70),.ld (.t 69) 1 false,none⟩,
    ⟨(some 71),.mov (.t 5),none⟩,
    ⟨(some 72),.iadd (.t 71) (.c (.int .i64 1)) 1,none⟩,
    ⟨(some 73),.ld (.t 72) 1 false,none⟩,
    ⟨(some 74),.call dK [(.t 67),(.t 70),(.t 73)],none⟩] [⟨(some 9),.alloc (.agg [(.int .i64 0),(.int .i64 0)]),none⟩,
    ⟨none,.st (.t 9) (.t 74) 2,none⟩] []) <|
  .seq (.reg [⟨(some 75),.fadd (.t 9) 0,none⟩,
    ⟨(some 76),.ld (.t 75) 1 false,none⟩,
    ⟨(some 77),.fadd (.t 9) 1,none⟩,
    ⟨(some 78),.ld (.t 77) 1 false,none⟩,
    ⟨(some 79),.bld [(.int .i64 0),(.int .i64 0)] [(0,1,(.t 76)),(1,1,(.t 78))],none⟩,
    ⟨none,.st (.t 4) (.t 79) 2,none⟩]) <|
  .ret) (.seq (.reg [⟨(some 81),.bin .eql (.t 26) (.c (.int .i64 6)),none⟩,
    ⟨(some 80),.mov (.t 81),none⟩]) <|
  .cond (.t 80) (.seq (.seq (.dreg [⟨(some 82),.mov (.t 5),none⟩,
    ⟨(some 83),.iadd (.t 82) (.c (.int .i64 0)) 1,none⟩,
    ⟨(some 84),.ld (.t 83) 1 false,none⟩,
    ⟨(some 85),.bin .neq (.t 84) (.c (.int .i64 3)),none⟩,
    ⟨(some 86),.mov (.t 85),none⟩,
    ⟨(some 87),.mov (.t 5),some (86,false)⟩,
    ⟨(some 88),.iadd (.t 87) (.c (.int .i64 1)) 1,some (86,false)⟩,
    ⟨(some 89),.ld (.t 88) 1 false,some (86,false)⟩,
    ⟨(some 90),.mov (.t 5),some (86,false)⟩,
    ⟨(some 91),.iadd (.t 90) (.c (.int .i64 2)) 1,some (86,false)⟩,
    ⟨(some 92),.ld (.t 91) 1 false,some (86,false)⟩,
    ⟨(some 93),.bin .neq (.t 89) (.t 92),some (86,false)⟩,
    ⟨(some 94),.pick (.t 86) (.c (.bool true)) (.t 93),none⟩] [] []) <|
  .cond (.t 94) (.seq (.reg [⟨(some 95),.bld [(.int .i64 0),(.int .i64 0)] [(1,1,(.c (.int .i64 31)))],none⟩,
    ⟨none,.st (.t 4) (.t 95) 2,none⟩]) <|
  .ret) (.skip)) <|
  .seq (.reg [⟨(some 96),.mov (.t 5),none⟩,
    ⟨(some 97),.iadd (.t 96) (.c (.int .i64 1)) 1,none⟩,
    ⟨(some 98),.ld (.t 97) 1 false,none⟩,
    ⟨(some 99),.bld [(.int .i64 0),(.int .i64 0)] [(0,1,(.t 98))],none⟩,
    ⟨none,.st (.t 4) (.t 99) 2,none⟩]) <|
  .ret) (.seq (.reg [⟨(some 101),.bin .eql (.t 26) (.c (.int .i64 7)),none⟩,
    ⟨(some 100),.mov (.t 101),none⟩]) <|
  .cond (.t 100) (.seq (.reg [⟨(some 102),.ld (.t 2) 11 true,none⟩,
    ⟨(some 103),.fadd (.t 3) 3,none⟩,
    ⟨(some 104),.ld (.t 103) 1 false,none⟩,
    ⟨(some 105),.call iy [(.t 102),(.t 104)],none⟩,
    ⟨(some 10),.mov (.t 105),none⟩]) <|
  .seq (.seq (.reg [⟨(some 106),.mov (.t 10),none⟩,
    ⟨(some 107),.bin .lss (.t 106) (.c (.int .i64 0)),none⟩]) <|
  .cond (.t 107) (.seq (.reg [⟨(some 108),.bld [(.int .i64 0),(.int .i64 0)] [(1,1,(.c (.int .i64 30)))],none⟩,
    ⟨none,.st (.t 4) (.t 108) 2,none⟩]) <|
  .ret) (.skip)) <|
  .seq (.seq (.reg [⟨(some 109),.mov (.t 5),none⟩,
    ⟨(some 110),.iadd (.t 109) (.c (.int .i64 0)) 1,none⟩,
    ⟨(some 111),.ld (.t 110) 1 false,none⟩,
    ⟨(some 112),.bin .neq (.t 111) (.c (.int .i64 1)),none⟩]) <|
  .cond (.t 112) (.seq (.reg [⟨(some 113),.bld [(.int .i64 0),(.int .i64 0)] [(1,1,(.c (.int .i64 31)))],none⟩,
    ⟨none,.st (.t 4) (.t 113) 2,none⟩]) <|
  .ret) (.skip)) <|
  .seq (.reg [⟨(some 114),.fadd (.t 2) 0,none⟩,
    ⟨(some 115),.fadd (.t 114) 3,none⟩,
    ⟨(some 116),.ld (.t 115) 1 false,none⟩,
    ⟨(some 117),.mov (.t 10),none⟩,
    ⟨(some 118),.iadd (.t 116) (.t 117) 4,none⟩,
    ⟨(some 119),.fadd (.t 118) 2,none⟩,
    ⟨(some 120),.ld (.t 119) 1 false,none⟩,
    ⟨(some 121),.bld [(.int .i64 0),(.int .i64 0)] [(0,1,(.t 120))],none⟩,
    ⟨none,.st (.t 4) (.t 121) 2,none⟩]) <|
  .ret) (.skip))))))))) <|
  .seq (.reg [⟨(some 122),.ld (.t 2) 11 true,none⟩,
    ⟨(some 123),.fadd (.t 3) 3,none⟩,
    ⟨(some 124),.ld (.t 123) 1 false,none⟩,
    ⟨(some 125),.call ij [(.t 122),(.t 124)],none⟩,
    ⟨(some 11),.mov (.t 125),none⟩]) <|
  .seq (.seq (.reg [⟨(some 126),.mov (.t 11),none⟩,
    ⟨(some 127),.bin .lss (.t 126) (.c (.int .i64 0)),none⟩]) <|
  .cond (.t 127) (.seq (.reg [⟨(some 128),.bld [(.int .i64 0),(.int .i64 0)] [(1,1,(.c (.int .i64 30)))],none⟩,
    ⟨none,.st (.t 4) (.t 128) 2,none⟩]) <|
  .ret) (.skip)) <|
  .seq (.reg [⟨(some 129),.fadd (.t 2) 0,none⟩,
    ⟨(some 130),.fadd (.t 129) 5,none⟩,
    ⟨(some 131),.ld (.t 130) 1 false,none⟩,
    ⟨(some 132),.mov (.t 11),none⟩,
    ⟨(some 133),.iadd (.t 131) (.t 132) 10,none⟩,
    ⟨(some 134),.fadd (.t 133) 1,none⟩,
    ⟨(some 135),.ld (.t 134) 1 false,none⟩,
    ⟨(some 12),.mov (.t 135),none⟩]) <|
  .seq (.seq (.reg [⟨(some 136),.mov (.t 12),none⟩,
    ⟨(some 137),.len (.t 136),none⟩,
    ⟨(some 138),.mov (.t 5),none⟩,
    ⟨(some 139),.len (.t 138),none⟩,
    ⟨(some 140),.bin .neq (.t 137) (.t 139),none⟩]) <|
  .cond (.t 140) (.seq (.reg [⟨(some 141),.bld [(.int .i64 0),(.int .i64 0)] [(1,1,(.c (.int .i64 31)))],none⟩,
    ⟨none,.st (.t 4) (.t 141) 2,none⟩]) <|
  .ret) (.skip)) <|
  .seqj [2,4,11] [] (.seq (.reg [⟨(some 13),.mov (.c (.int .i64 0)),none⟩]) <|
  .block 1 (.loop [2,4,5,11,12] [13] (.seq (.seq (.reg [⟨(some 142),.mov (.t 13),none⟩,
    ⟨(some 143),.mov (.t 12),none⟩,
    ⟨(some 144),.len (.t 143),none⟩,
    ⟨(some 145),.bin .lss (.t 142) (.t 144),none⟩]) <|
  .cond (.t 145) (.skip) (.exit 1)) <|
  .seq (.block 2 (.seq (.dreg [⟨(some 148),.mov (.t 12),none⟩,
    ⟨(some 149),.mov (.t 13),none⟩,
    ⟨(some 150),.iadd (.t 148) (.t 149) 2,none⟩,
    ⟨(some 151),.fadd (.t 150) 1,none⟩,
    ⟨(some 152),.ld (.t 151) 1 false,none⟩,
    ⟨(some 153),.mov (.t 5),none⟩,
    ⟨(some 154),.mov (.t 13),none⟩,
    ⟨(some 155),.iadd (.t 153) (.t 154) 1,none⟩,
    ⟨(some 156),.ld (.t 155) 1 false,none⟩,
    ⟨(some 157),.bin .neq (.t 152) (.t 156),none⟩] [] []) <|
  .cond (.t 157) (.seq (.reg [⟨(some 158),.bld [(.int .i64 0),(.int .i64 0)] [(1,1,(.c (.int .i64 31)))],none⟩,
    ⟨none,.st (.t 4) (.t 158) 2,none⟩]) <|
  .ret) (.skip))) <|
  .reg [⟨(some 146),.mov (.t 13),none⟩,
    ⟨(some 147),.bin .add (.t 146) (.c (.int .i64 1)),none⟩,
    ⟨(some 13),.mov (.t 147),none⟩]))) <|
  .seq (.reg [⟨(some 159),.fadd (.t 2) 0,none⟩,
    ⟨(some 160),.fadd (.t 159) 5,none⟩,
    ⟨(some 161),.ld (.t 160) 1 false,none⟩,
    ⟨(some 162),.mov (.t 11),none⟩,
    ⟨(some 163),.iadd (.t 161) (.t 162) 10,none⟩,
    ⟨(some 164),.fadd (.t 163) 2,none⟩,
    ⟨(some 165),.ld (.t 164) 1 false,none⟩,
    ⟨(some 166),.bld [(.int .i64 0),(.int .i64 0)] [(0,1,(.t 165))],none⟩,
    ⟨none,.st (.t 4) (.t 166) 2,none⟩]) <|
  .ret,
  [.cell 4 2 true]⟩
theorem xg:cFn PP true dU uR (cDr PP 167 xW)=some rY:=by kernel_rfl
def ll:Nat->Option (List Nat×List Nat)
  | 1000008=>some ([0,3,4],[5])|3=>some ([0,3,4],[5,6])|_=>none
def mJ:Nat->Option (List Nat×List Nat×List Nat)
  | 11=>some ([0,1,3,0,8,31,63],[6],[])|17=>some ([0,1,0,4,12,28,63,127,255],[],[])|19=>some ([0,0,2,6,14,0,62,0,255,511],[8,9],[999999])|20=>some ([0,0,2,0,8,24,56,126,0,511,1023],[9,10],[999999])|22=>some ([0,1,0,4,12,28,0,64,192,448,1023,2047,4095],[],[])|23=>some ([0,0,2,0,8,24,56,0,128,384,896,2046,0,8191,16383],[13,14],[999999])|25=>some ([0,0,2,6,14,0,32,96,224,0,512,1536,3584,8190,0,16384,49152,114688,262143,524287],[18,19],[999999])|28=>some ([0,0,0,4,12,28,62,0,128,384,896,1920,0,8064,16256,32640,65535,131071],[16,17],[999999])|_=>none
def gX:af:=⟨177,
  .seq (.reg [⟨(some 3),.box (.t 1),none⟩,
    ⟨(some 4),.alloc (.agg [(.int .i64 0),(.int .i64 0),(.int .i32 0),(.int .i64 0)]),none⟩]) <|
  .seq (.reg [⟨(some 11),.bldS true 4 0 (.agg [(.int .i64 0),(.int .i64 0),(.int .i32 0),(.int .i64 0)]) [],none⟩,
    ⟨(some 5),.mov (.t 11),none⟩]) <|
  .seqj [0,3,4] [5] (.seq (.reg [⟨(some 6),.mov (.c (.int .i64 0)),none⟩]) <|
  .block 0 (.loop [0,3,4] [5,6] (.seq (.seq (.reg [⟨(some 12),.mov (.t 6),none⟩,
    ⟨(some 13),.fadd (.t 3) 5,none⟩,
    ⟨(some 14),.ld (.t 13) 1 false,none⟩,
    ⟨(some 15),.len (.t 14),none⟩,
    ⟨(some 16),.bin .lss (.t 12) (.t 15),none⟩,
    ⟨(some 17),.mov (.t 16),none⟩,
    ⟨(some 18),.mov (.t 0),some (17,true)⟩,
    ⟨(some 19),.call bM [(.t 18)],some (17,true)⟩,
    ⟨(some 20),.un .not (.t 19),some (17,true)⟩,
    ⟨(some 21),.pick (.t 17) (.t 20) (.c (.bool false)),none⟩]) <|
  .cond (.t 21) (.skip) (.exit 0)) <|
  .seq (.block 1 (.seq (.reg [⟨(some 24),.mov (.t 0),none⟩,
    ⟨(some 25),.fadd (.t 3) 5,none⟩,
    ⟨(some 26),.ld (.t 25) 1 false,none⟩,
    ⟨(some 27),.mov (.t 6),none⟩,
    ⟨(some 28),.iadd (.t 26) (.t 27) 6,none⟩,
    ⟨(some 29),.ld (.t 28) 6 true,none⟩,
    ⟨(some 30),.call ba [(.t 24),(.t 29)],none⟩,
    ⟨(some 7),.alloc (.agg [(.int .i64 0),(.int .i64 0),(.int .i32 0),(.int .i64 0)]),none⟩,
    ⟨none,.st (.t 7) (.t 30) 4,none⟩]) <|
  .reg [⟨(some 31),.mov (.t 5),none⟩,
    ⟨(some 32),.ld (.t 7) 4 true,none⟩,
    ⟨(some 33),.bldS true 4 1 (.agg [(.int .i64 0),(.int .i64 0),(.int .i32 0),(.int .i64 0)]) [(0,(.t 32))],none⟩,
    ⟨(some 34),.app (.t 31) (.t 33) 4 32 (.agg [(.int .i64 0),(.int .i64 0),(.int .i32 0),(.int .i64 0)]),none⟩,
    ⟨(some 5),.mov (.t 34),none⟩])) <|
  .reg [⟨(some 22),.mov (.t 6),none⟩,
    ⟨(some 23),.bin .add (.t 22) (.c (.int .i64 1)),none⟩,
    ⟨(some 6),.mov (.t 23),none⟩]))) <|
  .seq (.seq (.reg [⟨(some 35),.mov (.t 0),none⟩,
    ⟨(some 36),.call bM [(.t 35)],none⟩]) <|
  .cond (.t 36) (.seq (.reg [⟨(some 37),.bld [(.int .i64 0),(.int .i64 0),(.int .i32 0),(.int .i64 0)] [],none⟩,
    ⟨none,.st (.t 4) (.t 37) 4,none⟩]) <|
  .ret) (.skip)) <|
  .seq (.seq (.reg [⟨(some 38),.fadd (.t 3) 0,none⟩,
    ⟨(some 39),.ld (.t 38) 1 false,none⟩]) <|
  .block 2 (.seq (.reg [⟨(some 41),.bin .eql (.t 39) (.c (.int .i64 1)),none⟩,
    ⟨(some 40),.mov (.t 41),none⟩]) <|
  .cond (.t 40) (.seq (.dreg [⟨(some 42),.fadd (.t 3) 4,none⟩,
    ⟨(some 43),.ld (.t 42) 1 false,none⟩,
    ⟨(some 44),.call dA [(.t 43)],none⟩,
    ⟨(some 45),.fadd (.t 3) 2,none⟩,
    ⟨(some 46),.ld (.t 45) 1 false,none⟩,
    ⟨(some 47),.bld [(.int .i64 0),(.int .i64 0),(.int .i32 0),(.int .i64 0)] [(0,3,(.t 44)),(3,1,(.t 46))],none⟩] [⟨none,.st (.t 4) (.t 47) 4,none⟩] []) <|
  .ret) (.seq (.reg [⟨(some 49),.bin .eql (.t 39) (.c (.int .i64 2)),none⟩,
    ⟨(some 48),.mov (.t 49),none⟩]) <|
  .cond (.t 48) (.seq (.reg [⟨(some 50),.mov (.t 0),none⟩,
    ⟨(some 51),.fadd (.t 3) 3,none⟩,
    ⟨(some 52),.ld (.t 51) 1 false,none⟩,
    ⟨(some 53),.call iM [(.t 50),(.t 52)],none⟩,
    ⟨none,.st (.t 4) (.t 53) 4,none⟩]) <|
  .ret) (.seq (.reg [⟨(some 55),.bin .eql (.t 39) (.c (.int .i64 3)),none⟩,
    ⟨(some 54),.mov (.t 55),none⟩]) <|
  .cond (.t 54) (.seq (.reg [⟨(some 56),.mov (.t 0),none⟩,
    ⟨(some 57),.fadd (.t 3) 1,none⟩,
    ⟨(some 58),.ld (.t 57) 1 false,none⟩,
    ⟨(some 59),.bld [(.int .i64 0),(.int .i64 0),(.int .i64 0),(.int .i64 0),(.int .i64 0),(.int .i32 0),(.int .i64 0),(.int .i64 0),(.int .i32 0),(.int .i64 0),(.int .i64 0),(.int .i32 0),(.int .i64 0),(.int .i64 0),(.int .i32 0)] [(0,1,(.c (.int .i64 5))),(1,1,(.t 58))],none⟩,
    ⟨(some 60),.call aK [(.t 56),(.t 59),(.c (.int .i64 1))],none⟩,
    ⟨none,.st (.t 4) (.t 60) 4,none⟩]) <|
  .ret) (.seq (.reg [⟨(some 62),.bin .eql (.t 39) (.c (.int .i64 4)),none⟩,
    ⟨(some 61),.mov (.t 62),none⟩]) <|
  .cond (.t 61) (.seq (.dreg [⟨(some 63),.fadd (.t 3) 1,none⟩,
    ⟨(some 64),.ld (.t 63) 1 false,none⟩,
    ⟨(some 65),.mov (.t 5),none⟩,
    ⟨(some 66),.iadd (.t 65) (.c (.int .i64 0)) 4,none⟩,
    ⟨(some 67),.fadd (.t 66) 3,none⟩,
    ⟨(some 68),.ld (.t 67) 1 false,none⟩,
    ⟨(some 69),.call mX [(.t 64),(.t 68)],none⟩,
    ⟨(some 70),.fld (.t 69) 0 1 false,none⟩,
    ⟨(some 8),.mov (.t 70),none⟩] [] []) <|
  .seq (.seq (.reg [⟨(some 71),.fadd (.t 3) 1,none⟩,
    ⟨(some 72),.ld (.t 71) 1 false,none⟩,
    ⟨(some 73),.bin .eql (.t 72) (.c (.int .i64 2)),none⟩,
    ⟨(some 74),.mov (.t 73),none⟩,
    ⟨(some 75),.mov (.t 5),some (74,true)⟩,
    ⟨(some 76),.iadd (.t 75) (.c (.int .i64 0)) 4,some (74,true)⟩,
    ⟨(some 77),.fadd (.t 76) 3,some (74,true)⟩,
    ⟨(some 78),.ld (.t 77) 1 false,some (74,true)⟩,
    ⟨(some 79),.bin .eql (.t 78) (.c (.int .i64 3)),some (74,true)⟩,
    ⟨(some 80),.pick (.t 74) (.t 79) (.c (.bool false)),none⟩]) <|
  .cond (.t 80) (.seq (.seq (.dreg [⟨(some 81),.mov (.t 0),none⟩,
    ⟨(some 82),.mov (.t 5),none⟩,
    ⟨(some 83),.iadd (.t 82) (.c (.int .i64 0)) 4,none⟩,
    ⟨(some 84),.fadd (.t 83) 0,none⟩,
    ⟨(some 85),.ld (.t 84) 3 true,none⟩,
    ⟨(some 86),.call dA [(.c (.int .i32 1))],none⟩,
    ⟨(some 87),.bld [(.int .i64 0),(.int .i64 0),(.int .i64 0),(.int .i64 0),(.int .i64 0),(.int .i32 0),(.int .i64 0),(.int .i64 0),(.int .i32 0),(.int .i64 0),(.int .i64 0),(.int .i32 0),(.int .i64 0),(.int .i64 0),(.int .i32 0)] [(0,1,(.c (.int .i64 3))),(1,1,(.c (.int .i64 19))),(6,3,(.t 85)),(9,3,(.t 86))],none⟩,
    ⟨(some 88),.mov (.t 8),none⟩] [⟨(some 89),.call aK [(.t 81),(.t 87),(.t 88)],none⟩] []) <|
  .seq (.dreg [] [⟨none,.st (.t 4) (.t 89) 4,none⟩] []) <|
  .dreg [] [] []) <|
  .ret) (.skip)) <|
  .seq (.seq (.dreg [⟨(some 90),.mov (.t 0),none⟩,
    ⟨(some 91),.fadd (.t 3) 1,none⟩,
    ⟨(some 92),.ld (.t 91) 1 false,none⟩,
    ⟨(some 93),.mov (.t 5),none⟩,
    ⟨(some 94),.iadd (.t 93) (.c (.int .i64 0)) 4,none⟩,
    ⟨(some 95),.fadd (.t 94) 0,none⟩,
    ⟨(some 96),.ld (.t 95) 3 true,none⟩,
    ⟨(some 97),.bld [(.int .i64 0),(.int .i64 0),(.int .i64 0),(.int .i64 0),(.int .i64 0),(.int .i32 0),(.int .i64 0),(.int .i64 0),(.int .i32 0),(.int .i64 0),(.int .i64 0),(.int .i32 0),(.int .i64 0),(.int .i64 0),(.int .i32 0)] [(0,1,(.c (.int .i64 2))),(1,1,(.t 92)),(6,3,(.t 96))],none⟩,
    ⟨(some 98),.mov (.t 8),none⟩] [⟨(some 99),.call aK [(.t 90),(.t 97),(.t 98)],none⟩] []) <|
  .seq (.dreg [] [⟨none,.st (.t 4) (.t 99) 4,none⟩] []) <|
  .dreg [] [] []) <|
  .ret) (.seq (.reg [⟨(some 101),.bin .eql (.t 39) (.c (.int .i64 5)),none⟩,
    ⟨(some 100),.mov (.t 101),none⟩]) <|
  .cond (.t 100) (.seq (.dreg [⟨(some 102),.fadd (.t 3) 1,none⟩,
    ⟨(some 103),.ld (.t 102) 1 false,none⟩,
    ⟨(some 104),.mov (.t 5),none⟩,
    ⟨(some 105),.iadd (.t 104) (.c (.int .i64 0)) 4,none⟩,
    ⟨(some 106),.fadd (.t 105) 3,none⟩,
    ⟨(some 107),.ld (.t 106) 1 false,none⟩,
    ⟨(some 108),.mov (.t 5),none⟩,
    ⟨(some 109),.iadd (.t 108) (.c (.int .i64 1)) 4,none⟩,
    ⟨(some 110),.fadd (.t 109) 3,none⟩,
    ⟨(some 111),.ld (.t 110) 1 false,none⟩,
    ⟨(some 112),.call dK [(.t 103),(.t 107),(.t 111)],none⟩,
    ⟨(some 113),.fld (.t 112) 0 1 false,none⟩,
    ⟨(some 9),.mov (.t 113),none⟩] [] []) <|
  .seq (.seq (.dreg [⟨(some 114),.mov (.t 0),none⟩,
    ⟨(some 115),.fadd (.t 3) 1,none⟩,
    ⟨(some 116),.ld (.t 115) 1 false,none⟩,
    ⟨(some 117),.mov (.t 5),none⟩,
    ⟨(some 118),.iadd (.t 117) (.c (.int .i64 0)) 4,none⟩,
    ⟨(some 119),.fadd (.t 118) 0,none⟩,
    ⟨(some 120),.ld (.t 119) 3 true,none⟩,
    ⟨(some 121),.mov (.t 5),none⟩,
    ⟨(some 122),.iadd (.t 121) (.c (.int .i64 1)) 4,none⟩,
    ⟨(some 123),.fadd (.t 122) 0,none⟩,
    ⟨(some 124),.ld (.t 123) 3 true,none⟩,
    ⟨(some 125),.bld [(.int .i64 0),(.int .i64 0),(.int .i64 0),(.int .i64 0),(.int .i64 0),(.int .i32 0),(.int .i64 0),(.int .i64 0),(.int .i32 0),(.int .i64 0),(.int .i64 0),(.int .i32 0),(.int .i64 0),(.int .i64 0),(.int .i32 0)] [(0,1,(.c (.int .i64 3))),(1,1,(.t 116)),(6,3,(.t 120)),(9,3,(.t 124))],none⟩,
    ⟨(some 126),.mov (.t 9),none⟩] [⟨(some 127),.call aK [(.t 114),(.t 125),(.t 126)],none⟩] []) <|
  .seq (.dreg [] [⟨none,.st (.t 4) (.t 127) 4,none⟩] []) <|
  .dreg [] [] []) <|
  .ret) (.seq (.reg [⟨(some 129),.bin .eql (.t 39) (.c (.int .i64 6)),none⟩,
    ⟨(some 128),.mov (.t 129),none⟩]) <|
  .cond (.t 128) (.seq (.seq (.dreg [⟨(some 130),.mov (.t 0),none⟩,
    ⟨(some 131),.mov (.t 5),none⟩,
    ⟨(some 132),.iadd (.t 131) (.c (.int .i64 0)) 4,none⟩,
    ⟨(some 133),.fadd (.t 132) 0,none⟩,
    ⟨(some 134),.ld (.t 133) 3 true,none⟩,
    ⟨(some 135),.mov (.t 5),none⟩,
    ⟨(some 136),.iadd (.t 135) (.c (.int .i64 1)) 4,none⟩,
    ⟨(some 137),.fadd (.t 136) 0,none⟩,
    ⟨(some 138),.ld (.t 137) 3 true,none⟩,
    ⟨(some 139),.mov (.t 5),none⟩,
    ⟨(some 140),.iadd (.t 139) (.c (.int .i64 2)) 4,none⟩,
    ⟨(some 141),.fadd (.t 140) 0,none⟩,
    ⟨(some 142),.ld (.t 141) 3 true,none⟩,
    ⟨(some 143),.bld [(.int .i64 0),(.int .i64 0),(.int .i64 0),(.int .i64 0),(.int .i64 0),(.int .i32 0),(.int .i64 0),(.int .i64 0),(.int .i32 0),(.int .i64 0),(.int .i64 0),(.int .i32 0),(.int .i64 0),(.int .i64 0),(.int .i32 0)] [(0,1,(.c (.int .i64 4))),(6,3,(.t 134)),(9,3,(.t 138)),(12,3,(.t 142))],none⟩,
    ⟨(some 144),.mov (.t 5),none⟩,
    ⟨(some 145),.iadd (.t 144) (.c (.int .i64 1)) 4,none⟩,
    ⟨(some 146),.fadd (.t 145) 3,none⟩,
    ⟨(some 147),.ld (.t 146) 1 false,none⟩] [⟨(some 148),.call aK [(.t 130),(.t 143),(.t 147)],none⟩] []) <|
  .seq (.dreg [] [⟨none,.st (.t 4) (.t 148) 4,none⟩] []) <|
  .dreg [] [] []) <|
  .ret) (.seq (.reg [⟨(some 150),.bin .eql (.t 39) (.c (.int .i64 7)),none⟩,
    ⟨(some 149),.mov (.t 150),none⟩]) <|
  .cond (.t 149) (.seq (.reg [⟨(some 151),.mov (.t 0),none⟩,
    ⟨(some 152),.fadd (.t 3) 3,none⟩,
    ⟨(some 153),.ld (.t 152) 1 false,none⟩,
    ⟨(some 154),.call gM [(.t 151),(.t 153)],none⟩,
    ⟨(some 10),.mov (.t 154),none⟩]) <|
  .seq (.seq (.dreg [⟨(some 155),.mov (.t 0),none⟩,
    ⟨(some 156),.mov (.t 10),none⟩,
    ⟨(some 157),.mov (.t 5),none⟩,
    ⟨(some 158),.iadd (.t 157) (.c (.int .i64 0)) 4,none⟩,
    ⟨(some 159),.fadd (.t 158) 0,none⟩,
    ⟨(some 160),.ld (.t 159) 3 true,none⟩,
    ⟨(some 161),.bld [(.int .i64 0),(.int .i64 0),(.int .i64 0),(.int .i64 0),(.int .i64 0),(.int .i32 0),(.int .i64 0),(.int .i64 0),(.int .i32 0),(.int .i64 0),(.int .i64 0),(.int .i32 0),(.int .i64 0),(.int .i64 0),(.int .i32 0)] [(0,1,(.c (.int .i64 7))),(2,1,(.t 156)),(6,3,(.t 160))],none⟩,
    ⟨(some 162),.mov (.t 0),none⟩,
    ⟨(some 163),.fadd (.t 162) 0,none⟩,
    ⟨(some 164),.fadd (.t 163) 0,none⟩,
    ⟨(some 165),.fadd (.t 164) 3,none⟩,
    ⟨(some 166),.ld (.t 165) 1 false,none⟩,
    ⟨(some 167),.mov (.t 10),none⟩,
    ⟨(some 168),.iadd (.t 166) (.t 167) 4,none⟩,
    ⟨(some 169),.fadd (.t 168) 2,none⟩,
    ⟨(some 170),.ld (.t 169) 1 false,none⟩] [⟨(some 171),.call aK [(.t 155),(.t 161),(.t 170)],none⟩] []) <|
  .seq (.dreg [] [⟨none,.st (.t 4) (.t 171) 4,none⟩] []) <|
  .dreg [] [] []) <|
  .ret) (.skip))))))))) <|
  .seq (.reg [⟨(some 172),.mov (.t 0),none⟩,
    ⟨(some 173),.fadd (.t 3) 3,none⟩,
    ⟨(some 174),.ld (.t 173) 1 false,none⟩,
    ⟨(some 175),.mov (.t 5),none⟩,
    ⟨(some 176),.call qS [(.t 172),(.t 174),(.t 175)],none⟩,
    ⟨none,.st (.t 4) (.t 176) 4,none⟩]) <|
  .ret,
  [.cell 4 4 true]⟩
theorem mv:cFn PP true ba ll (cDr PP 177 mJ)=some gX:=by kernel_rfl
def ln:Nat->Option (List Nat×List Nat)
  | _=>none
def mK:Nat->Option (List Nat×List Nat×List Nat)
  | _=>none
def gY:af:=⟨20,
  .seq (.reg [⟨(some 4),.box (.t 1),none⟩,
    ⟨(some 6),.alloc (.agg [(.int .i64 0),(.int .i64 0),(.int .i32 0),(.int .i64 0)]),none⟩]) <|
  .seq (.reg [⟨(some 8),.mov (.t 0),none⟩,
    ⟨(some 9),.call fT [(.t 8)],none⟩,
    ⟨(some 7),.mov (.t 9),none⟩]) <|
  .seq (.reg [⟨(some 10),.mov (.t 7),none⟩,
    ⟨(some 11),.call iO [(.t 10)],none⟩,
    ⟨(some 12),.fadd (.t 4) 3,none⟩,
    ⟨none,.st (.t 12) (.t 11) 3,none⟩]) <|
  .seq (.reg [⟨(some 13),.mov (.t 0),none⟩,
    ⟨(some 14),.ld (.t 4) 15 true,none⟩,
    ⟨(some 15),.call bA [(.t 13),(.t 14)],none⟩]) <|
  .seq (.reg [⟨(some 16),.mov (.t 7),none⟩,
    ⟨(some 17),.call iO [(.t 16)],none⟩,
    ⟨(some 18),.mov (.t 2),none⟩,
    ⟨(some 19),.bld [(.int .i64 0),(.int .i64 0),(.int .i32 0),(.int .i64 0)] [(0,3,(.t 17)),(3,1,(.t 18))],none⟩,
    ⟨none,.st (.t 6) (.t 19) 4,none⟩]) <|
  .ret,
  [.cell 6 4 true]⟩
theorem mw:cFn PP true aK ln (cDr PP 20 mK)=some gY:=by kernel_rfl
def mg:Nat->Option (List Nat×List Nat)
  | 1000007=>some ([4],[])|2=>some ([0,1,4],[6])|_=>none
def oh:Nat->Option (List Nat×List Nat×List Nat)
  | _=>none
def je:af:=⟨34,
  .seq (.reg [⟨(some 4),.alloc (.agg [(.str ⟨#[]⟩),(.int .i64 0),(.int .i64 0)]),none⟩,
    ⟨(some 5),.mov (.c (.bool false)),none⟩]) <|
  .seqj [4] [] (.seq (.reg [⟨(some 6),.mov (.c (.int .i64 0)),none⟩]) <|
  .block 0 (.loop [0,1,4] [6] (.seq (.seq (.reg [⟨(some 7),.mov (.t 6),none⟩,
    ⟨(some 8),.mov (.t 0),none⟩,
    ⟨(some 9),.fadd (.t 8) 0,none⟩,
    ⟨(some 10),.fadd (.t 9) 16,none⟩,
    ⟨(some 11),.ld (.t 10) 1 false,none⟩,
    ⟨(some 12),.len (.t 11),none⟩,
    ⟨(some 13),.bin .lss (.t 7) (.t 12),none⟩]) <|
  .cond (.t 13) (.skip) (.exit 0)) <|
  .seq (.block 1 (.seq (.reg [⟨(some 16),.mov (.t 0),none⟩,
    ⟨(some 17),.fadd (.t 16) 0,none⟩,
    ⟨(some 18),.fadd (.t 17) 16,none⟩,
    ⟨(some 19),.ld (.t 18) 1 false,none⟩,
    ⟨(some 20),.mov (.t 6),none⟩,
    ⟨(some 21),.iadd (.t 19) (.t 20) 3,none⟩,
    ⟨(some 22),.fadd (.t 21) 0,none⟩,
    ⟨(some 23),.ld (.t 22) 1 false,none⟩,
    ⟨(some 24),.mov (.t 1),none⟩,
    ⟨(some 25),.bin .eql (.t 23) (.t 24),none⟩]) <|
  .cond (.t 25) (.seq (.reg [⟨(some 26),.mov (.t 0),none⟩,
    ⟨(some 27),.fadd (.t 26) 0,none⟩,
    ⟨(some 28),.fadd (.t 27) 16,none⟩,
    ⟨(some 29),.ld (.t 28) 1 false,none⟩,
    ⟨(some 30),.mov (.t 6),none⟩,
    ⟨(some 31),.iadd (.t 29) (.t 30) 3,none⟩,
    ⟨(some 32),.ld (.t 31) 3 true,none⟩,
    ⟨none,.st (.t 4) (.t 32) 3,none⟩,
    ⟨(some 5),.mov (.c (.bool true)),none⟩]) <|
  .ret) (.skip))) <|
  .reg [⟨(some 14),.mov (.t 6),none⟩,
    ⟨(some 15),.bin .add (.t 14) (.c (.int .i64 1)),none⟩,
    ⟨(some 6),.mov (.t 15),none⟩]))) <|
  .seq (.reg [⟨(some 33),.bld [(.str ⟨#[]⟩),(.int .i64 0),(.int .i64 0)] [],none⟩,
    ⟨none,.st (.t 4) (.t 33) 3,none⟩,
    ⟨(some 5),.mov (.c (.bool false)),none⟩]) <|
  .ret,
  [.cell 4 3 true,.t 5]⟩
theorem nE:cFn PP true dT mg (cDr PP 34 oh)=some je:=by kernel_rfl
def mZ:Nat->Option (List Nat×List Nat)
  | _=>none
def pT:Nat->Option (List Nat×List Nat×List Nat)
  | 1=>some ([0,1,3,7,15,0,32,96,224,511,1023,0,4095],[11,12],[])|2=>some ([0,0,2,7,0,16,63,127,255],[0,3,6,8],[999999])|3=>some ([0,1,3,7,15,0,32,96,224,0,1023,2047],[11],[])|_=>none
def jK:af:=⟨42,
  .seq (.reg [⟨(some 3),.box (.t 1),none⟩]) <|
  .seq (.dreg [⟨(some 5),.mov (.t 0),none⟩,
    ⟨(some 6),.fadd (.t 5) 0,none⟩,
    ⟨(some 7),.fadd (.t 6) 7,none⟩,
    ⟨(some 8),.fadd (.t 7) 7,none⟩,
    ⟨(some 9),.ld (.t 8) 1 false,none⟩,
    ⟨(some 10),.mov (.t 0),none⟩,
    ⟨(some 11),.fadd (.t 10) 0,none⟩,
    ⟨(some 12),.fadd (.t 11) 15,none⟩,
    ⟨(some 13),.ld (.t 12) 1 false,none⟩,
    ⟨(some 14),.iadd (.t 9) (.t 13) 14,none⟩,
    ⟨(some 15),.ld (.t 14) 14 true,none⟩] [⟨(some 4),.alloc (.agg [.nil,(.int .i64 0),(.int .i64 0),(.int .i64 0),(.int .i64 0),(.int .i32 0),(.int .i64 0),(.int .i64 0),(.int .i32 0),(.int .i64 0),(.int .i64 0),(.int .i32 0),(.int .i64 0),(.int .i64 0)]),none⟩,
    ⟨none,.st (.t 4) (.t 15) 14,none⟩] []) <|
  .seq (.seq (.dreg [⟨(some 17),.fadd (.t 4) 0,none⟩,
    ⟨(some 18),.ld (.t 17) 1 false,none⟩,
    ⟨(some 20),.ld (.t 3) 15 true,none⟩,
    ⟨(some 21),.bldS false 15 1 (.agg [(.int .i64 0),(.int .i64 0),(.int .i64 0),(.int .i64 0),(.int .i64 0),(.int .i32 0),(.int .i64 0),(.int .i64 0),(.int .i32 0),(.int .i64 0),(.int .i64 0),(.int .i32 0),(.int .i64 0),(.int .i64 0),(.int .i32 0)]) [(0,(.t 20))],none⟩] [⟨(some 16),.bldS true 15 0 (.agg [(.int .i64 0),(.int .i64 0),(.int .i64 0),(.int .i64 0),(.int .i64 0),(.int .i32 0),(.int .i64 0),(.int .i64 0),(.int .i32 0),(.int .i64 0),(.int .i64 0),(.int .i32 0),(.int .i64 0),(.int .i64 0),(.int .i32 0)]) [],none⟩] [⟨(some 17),.fadd (.t 4) 0,none⟩,
    ⟨(some 18),.ld (.t 17) 1 false,none⟩,
    ⟨(some 20),.ld (.t 3) 15 true,none⟩]) <|
  .seq (.dreg [] [⟨(some 19),.app (.t 16) (.t 18) 15 120 (.agg [(.int .i64 0),(.int .i64 0),(.int .i64 0),(.int .i64 0),(.int .i64 0),(.int .i32 0),(.int .i64 0),(.int .i64 0),(.int .i32 0),(.int .i64 0),(.int .i64 0),(.int .i32 0),(.int .i64 0),(.int .i64 0),(.int .i32 0)]),none⟩] [⟨(some 20),.ld (.t 3) 15 true,none⟩]) <|
  .seq (.dreg [] [⟨(some 22),.app (.t 19) (.t 21) 15 120 (.agg [(.int .i64 0),(.int .i64 0),(.int .i64 0),(.int .i64 0),(.int .i64 0),(.int .i32 0),(.int .i64 0),(.int .i64 0),(.int .i32 0),(.int .i64 0),(.int .i64 0),(.int .i32 0),(.int .i64 0),(.int .i64 0),(.int .i32 0)]),none⟩] []) <|
  .seq (.dreg [⟨(some 23),.fadd (.t 4) 0,none⟩] [⟨none,.st (.t 23) (.t 22) 1,none⟩] []) <|
  .dreg [] [] []) <|
  .seq (.dreg [⟨(some 24),.mov (.t 0),none⟩,
    ⟨(some 25),.fadd (.t 24) 0,none⟩,
    ⟨(some 26),.fadd (.t 25) 7,none⟩,
    ⟨(some 27),.fadd (.t 26) 7,none⟩,
    ⟨(some 28),.ld (.t 27) 1 false,none⟩,
    ⟨(some 29),.mov (.t 0),none⟩,
    ⟨(some 30),.fadd (.t 29) 0,none⟩,
    ⟨(some 31),.fadd (.t 30) 15,none⟩,
    ⟨(some 32),.ld (.t 31) 1 false,none⟩,
    ⟨(some 33),.ld (.t 4) 14 true,none⟩,
    ⟨(some 34),.iadd (.t 28) (.t 32) 14,none⟩] [⟨none,.st (.t 34) (.t 33) 14,none⟩] []) <|
  .reg [⟨(some 35),.mov (.t 0),none⟩,
    ⟨(some 36),.fadd (.t 35) 0,none⟩,
    ⟨(some 37),.fadd (.t 36) 20,none⟩,
    ⟨(some 38),.ld (.t 37) 1 false,none⟩,
    ⟨(some 39),.bin .add (.t 38) (.c (.int .i64 1)),none⟩,
    ⟨(some 40),.fadd (.t 35) 0,none⟩,
    ⟨(some 41),.fadd (.t 40) 20,none⟩,
    ⟨none,.st (.t 41) (.t 39) 1,none⟩],
  []⟩
theorem o6:cFn PP true bA mZ (cDr PP 42 pT)=some jK:=by kernel_rfl
def Aq:Nat->Option (List Nat×List Nat)
  | _=>none
def CZ:Nat->Option (List Nat×List Nat×List Nat)
  | _=>none
def zJ:af:=⟨5,
  .seq (.reg [⟨(some 2),.alloc (.agg [(.int .i64 0),(.int .i64 0),(.int .i32 0)]),none⟩]) <|
  .seq (.reg [⟨(some 3),.mov (.t 0),none⟩,
    ⟨(some 4),.bld [(.int .i64 0),(.int .i64 0),(.int .i32 0)] [(0,1,(.c (.int .i64 2))),(1,1,(.t 3))],none⟩,
    ⟨none,.st (.t 2) (.t 4) 3,none⟩]) <|
  .ret,
  [.cell 2 3 true]⟩
theorem CC:cFn PP true iO Aq (cDr PP 5 CZ)=some zJ:=by kernel_rfl
def mc:Nat->Option (List Nat×List Nat)
  | _=>none
def od:Nat->Option (List Nat×List Nat×List Nat)
  | 6=>some ([0,0,0,4,12,28,60,126,0,0,512,0,2048,7936,16128,32766,65535,131071,262143,524287],[1,7,15,19],[999999])|8=>some ([0,0,0,4,12,28,62,127,255,0,1023],[5,7,9,10],[999998,2])|10=>some ([0,0,0,0,14,31],[5],[999999])|13=>some ([0,1,3,7,0,16,48,112,15,511],[],[])|_=>none
def jb:af:=⟨121,
  .seq (.reg [⟨(some 3),.box (.t 1),none⟩]) <|
  .seq (.reg [⟨(some 13),.mov (.t 0),none⟩,
    ⟨(some 14),.call dA [(.c (.int .i32 0))],none⟩,
    ⟨(some 15),.bld [(.int .i64 0),(.int .i64 0),(.int .i64 0),(.int .i64 0),(.int .i64 0),(.int .i32 0),(.int .i64 0),(.int .i64 0),(.int .i32 0),(.int .i64 0),(.int .i64 0),(.int .i32 0),(.int .i64 0),(.int .i64 0),(.int .i32 0)] [(0,1,(.c (.int .i64 1))),(6,3,(.t 14))],none⟩,
    ⟨(some 16),.call aK [(.t 13),(.t 15),(.c (.int .i64 1))],none⟩,
    ⟨(some 17),.fld (.t 16) 0 3 true,none⟩,
    ⟨(some 4),.alloc (.agg [(.int .i64 0),(.int .i64 0),(.int .i32 0)]),none⟩,
    ⟨none,.st (.t 4) (.t 17) 3,none⟩]) <|
  .seq (.reg [⟨(some 18),.mov (.t 0),none⟩,
    ⟨(some 19),.call bc [(.t 18)],none⟩,
    ⟨(some 5),.mov (.t 19),none⟩]) <|
  .seq (.reg [⟨(some 20),.mov (.t 0),none⟩,
    ⟨(some 21),.call bc [(.t 20)],none⟩,
    ⟨(some 6),.mov (.t 21),none⟩]) <|
  .seq (.reg [⟨(some 22),.mov (.t 0),none⟩,
    ⟨(some 23),.call bc [(.t 22)],none⟩,
    ⟨(some 7),.mov (.t 23),none⟩]) <|
  .seq (.reg [⟨(some 24),.mov (.t 0),none⟩,
    ⟨(some 25),.call bc [(.t 24)],none⟩,
    ⟨(some 8),.mov (.t 25),none⟩]) <|
  .seq (.seq (.dreg [⟨(some 26),.mov (.t 0),none⟩,
    ⟨(some 28),.mov (.t 0),none⟩,
    ⟨(some 29),.fadd (.t 28) 0,none⟩,
    ⟨(some 30),.fadd (.t 29) 7,none⟩,
    ⟨(some 31),.fadd (.t 30) 6,none⟩,
    ⟨(some 32),.ld (.t 31) 1 false,none⟩,
    ⟨(some 34),.mov (.t 5),none⟩,
    ⟨(some 35),.fadd (.t 4) 1,none⟩,
    ⟨(some 36),.ld (.t 35) 1 false,none⟩,
    ⟨(some 37),.fadd (.t 3) 3,none⟩,
    ⟨(some 38),.ld (.t 37) 1 false,none⟩,
    ⟨(some 39),.bld [(.int .i64 0),(.int .i64 0),(.int .i64 0)] [(0,1,(.t 34)),(1,1,(.t 36)),(2,1,(.t 38))],none⟩,
    ⟨(some 40),.bldS false 3 1 (.agg [(.int .i64 0),(.int .i64 0),(.int .i64 0)]) [(0,(.t 39))],none⟩] [⟨(some 27),.bldS true 3 0 (.agg [(.int .i64 0),(.int .i64 0),(.int .i64 0)]) [],none⟩] [⟨(some 29),.fadd (.t 28) 0,none⟩,
    ⟨(some 30),.fadd (.t 29) 7,none⟩,
    ⟨(some 31),.fadd (.t 30) 6,none⟩,
    ⟨(some 32),.ld (.t 31) 1 false,none⟩,
    ⟨(some 35),.fadd (.t 4) 1,none⟩,
    ⟨(some 36),.ld (.t 35) 1 false,none⟩,
    ⟨(some 37),.fadd (.t 3) 3,none⟩,
    ⟨(some 38),.ld (.t 37) 1 false,none⟩]) <|
  .seq (.dreg [] [⟨(some 33),.app (.t 27) (.t 32) 3 24 (.agg [(.int .i64 0),(.int .i64 0),(.int .i64 0)]),none⟩] [⟨(some 35),.fadd (.t 4) 1,none⟩,
    ⟨(some 36),.ld (.t 35) 1 false,none⟩,
    ⟨(some 37),.fadd (.t 3) 3,none⟩,
    ⟨(some 38),.ld (.t 37) 1 false,none⟩]) <|
  .seq (.dreg [] [⟨(some 41),.app (.t 33) (.t 40) 3 24 (.agg [(.int .i64 0),(.int .i64 0),(.int .i64 0)]),none⟩] []) <|
  .seq (.dreg [⟨(some 42),.fadd (.t 26) 0,none⟩,
    ⟨(some 43),.fadd (.t 42) 7,none⟩,
    ⟨(some 44),.fadd (.t 43) 6,none⟩] [⟨none,.st (.t 44) (.t 41) 1,none⟩] []) <|
  .dreg [] [] []) <|
  .seq (.reg [⟨(some 45),.mov (.t 0),none⟩,
    ⟨(some 46),.mov (.t 5),none⟩,
    ⟨(some 47),.bld [(.int .i64 0),(.int .i64 0)] [(0,1,(.t 46)),(1,1,(.c (.int .i64 0)))],none⟩,
    ⟨(some 48),.bld [(.int .i64 0),(.int .i64 0),(.int .i64 0),(.int .i64 0),(.int .i32 0),(.int .i64 0),(.int .i64 0),(.int .i32 0),(.int .i64 0),(.int .i64 0),(.int .i32 0),(.int .i64 0),(.int .i64 0)] [(0,1,(.c (.int .i64 1))),(11,2,(.t 47))],none⟩,
    ⟨(some 49),.mov (.t 5),none⟩,
    ⟨(some 50),.call bC [(.t 45),(.t 48),(.t 49)],none⟩]) <|
  .seq (.seq (.dreg [⟨(some 9),.mov (.c .undef),none⟩] [] []) <|
  .seq (.dreg [⟨(some 51),.mov (.t 0),none⟩,
    ⟨(some 52),.ld (.t 4) 3 true,none⟩,
    ⟨(some 53),.fadd (.t 3) 3,none⟩,
    ⟨(some 54),.ld (.t 53) 1 false,none⟩,
    ⟨(some 55),.conv .i32 (.t 54),none⟩] [⟨(some 56),.call dA [(.t 55)],none⟩] [⟨(some 52),.ld (.t 4) 3 true,none⟩]) <|
  .seq (.dreg [⟨(some 57),.bld [(.int .i64 0),(.int .i64 0),(.int .i64 0),(.int .i64 0),(.int .i64 0),(.int .i32 0),(.int .i64 0),(.int .i64 0),(.int .i32 0),(.int .i64 0),(.int .i64 0),(.int .i32 0),(.int .i64 0),(.int .i64 0),(.int .i32 0)] [(0,1,(.c (.int .i64 3))),(1,1,(.c (.int .i64 26))),(6,3,(.t 52)),(9,3,(.t 56))],none⟩] [⟨(some 58),.call aK [(.t 51),(.t 57),(.c (.int .i64 3))],none⟩] []) <|
  .seq (.dreg [⟨(some 59),.fld (.t 58) 0 3 true,none⟩] [⟨(some 9),.alloc (.agg [(.int .i64 0),(.int .i64 0),(.int .i32 0)]),none⟩] [⟨(some 52),.ld (.t 4) 3 true,none⟩,
    ⟨(some 53),.fadd (.t 3) 3,none⟩,
    ⟨(some 54),.ld (.t 53) 1 false,none⟩]) <|
  .seq (.dreg [] [⟨none,.st (.t 9) (.t 59) 3,none⟩] []) <|
  .dreg [] [] []) <|
  .seq (.reg [⟨(some 60),.mov (.t 0),none⟩,
    ⟨(some 61),.ld (.t 9) 3 true,none⟩,
    ⟨(some 62),.mov (.t 6),none⟩,
    ⟨(some 63),.mov (.t 8),none⟩,
    ⟨(some 64),.bld [(.int .i64 0),(.int .i64 0)] [(0,1,(.t 62)),(1,1,(.t 63))],none⟩,
    ⟨(some 65),.bld [(.int .i64 0),(.int .i64 0),(.int .i64 0),(.int .i64 0),(.int .i32 0),(.int .i64 0),(.int .i64 0),(.int .i32 0),(.int .i64 0),(.int .i64 0),(.int .i32 0),(.int .i64 0),(.int .i64 0)] [(0,1,(.c (.int .i64 2))),(5,3,(.t 61)),(11,2,(.t 64))],none⟩,
    ⟨(some 66),.mov (.t 6),none⟩,
    ⟨(some 67),.call bC [(.t 60),(.t 65),(.t 66)],none⟩]) <|
  .seq (.seq (.dreg [⟨(some 68),.mov (.t 0),none⟩,
    ⟨(some 69),.ld (.t 4) 3 true,none⟩,
    ⟨(some 70),.ld (.t 4) 3 true,none⟩,
    ⟨(some 71),.call dA [(.c (.int .i32 1))],none⟩,
    ⟨(some 72),.bld [(.int .i64 0),(.int .i64 0),(.int .i64 0),(.int .i64 0),(.int .i64 0),(.int .i32 0),(.int .i64 0),(.int .i64 0),(.int .i32 0),(.int .i64 0),(.int .i64 0),(.int .i32 0),(.int .i64 0),(.int .i64 0),(.int .i32 0)] [(0,1,(.c (.int .i64 3))),(1,1,(.c (.int .i64 10))),(3,3,(.t 69)),(6,3,(.t 70)),(9,3,(.t 71))],none⟩] [⟨(some 73),.call bA [(.t 68),(.t 72)],none⟩] []) <|
  .dreg [] [] []) <|
  .seq (.reg [⟨(some 74),.mov (.t 0),none⟩,
    ⟨(some 75),.fadd (.t 3) 5,none⟩,
    ⟨(some 76),.ld (.t 75) 6 true,none⟩,
    ⟨(some 77),.call ba [(.t 74),(.t 76)],none⟩,
    ⟨(some 78),.fld (.t 77) 0 3 true,none⟩,
    ⟨(some 10),.alloc (.agg [(.int .i64 0),(.int .i64 0),(.int .i32 0)]),none⟩,
    ⟨none,.st (.t 10) (.t 78) 3,none⟩]) <|
  .seq (.reg [⟨(some 79),.mov (.t 0),none⟩,
    ⟨(some 80),.ld (.t 10) 3 true,none⟩,
    ⟨(some 81),.mov (.t 7),none⟩,
    ⟨(some 82),.mov (.t 8),none⟩,
    ⟨(some 83),.bld [(.int .i64 0),(.int .i64 0)] [(0,1,(.t 81)),(1,1,(.t 82))],none⟩,
    ⟨(some 84),.bld [(.int .i64 0),(.int .i64 0),(.int .i64 0),(.int .i64 0),(.int .i32 0),(.int .i64 0),(.int .i64 0),(.int .i32 0),(.int .i64 0),(.int .i64 0),(.int .i32 0),(.int .i64 0),(.int .i64 0)] [(0,1,(.c (.int .i64 2))),(5,3,(.t 80)),(11,2,(.t 83))],none⟩,
    ⟨(some 85),.mov (.t 7),none⟩,
    ⟨(some 86),.call bC [(.t 79),(.t 84),(.t 85)],none⟩]) <|
  .seq (.dreg [⟨(some 87),.mov (.t 0),none⟩,
    ⟨(some 88),.fadd (.t 87) 0,none⟩,
    ⟨(some 89),.fadd (.t 88) 18,none⟩,
    ⟨(some 90),.ld (.t 89) 1 false,none⟩,
    ⟨(some 91),.mov (.t 0),none⟩,
    ⟨(some 92),.fadd (.t 91) 0,none⟩,
    ⟨(some 93),.fadd (.t 92) 19,none⟩,
    ⟨(some 94),.ld (.t 93) 1 false,none⟩,
    ⟨(some 11),.mov (.t 90),none⟩,
    ⟨(some 12),.mov (.t 94),none⟩] [] []) <|
  .seq (.reg [⟨(some 95),.mov (.t 0),none⟩,
    ⟨(some 96),.mov (.t 8),none⟩,
    ⟨(some 97),.fadd (.t 95) 0,none⟩,
    ⟨(some 98),.fadd (.t 97) 18,none⟩,
    ⟨none,.st (.t 98) (.t 96) 1,none⟩]) <|
  .seq (.reg [⟨(some 99),.mov (.t 0),none⟩,
    ⟨(some 100),.mov (.t 5),none⟩,
    ⟨(some 101),.fadd (.t 99) 0,none⟩,
    ⟨(some 102),.fadd (.t 101) 19,none⟩,
    ⟨none,.st (.t 102) (.t 100) 1,none⟩]) <|
  .seq (.reg [⟨(some 103),.mov (.t 0),none⟩,
    ⟨(some 104),.fadd (.t 3) 17,none⟩,
    ⟨(some 105),.ld (.t 104) 1 false,none⟩,
    ⟨(some 106),.call dS [(.t 103),(.t 105)],none⟩]) <|
  .seq (.reg [⟨(some 107),.mov (.t 0),none⟩,
    ⟨(some 108),.mov (.t 11),none⟩,
    ⟨(some 109),.fadd (.t 107) 0,none⟩,
    ⟨(some 110),.fadd (.t 109) 18,none⟩,
    ⟨none,.st (.t 110) (.t 108) 1,none⟩]) <|
  .seq (.reg [⟨(some 111),.mov (.t 0),none⟩,
    ⟨(some 112),.mov (.t 12),none⟩,
    ⟨(some 113),.fadd (.t 111) 0,none⟩,
    ⟨(some 114),.fadd (.t 113) 19,none⟩,
    ⟨none,.st (.t 114) (.t 112) 1,none⟩]) <|
  .reg [⟨(some 115),.mov (.t 0),none⟩,
    ⟨(some 116),.mov (.t 5),none⟩,
    ⟨(some 117),.bld [(.int .i64 0),(.int .i64 0)] [(0,1,(.t 116)),(1,1,(.c (.int .i64 0)))],none⟩,
    ⟨(some 118),.bld [(.int .i64 0),(.int .i64 0),(.int .i64 0),(.int .i64 0),(.int .i32 0),(.int .i64 0),(.int .i64 0),(.int .i32 0),(.int .i64 0),(.int .i64 0),(.int .i32 0),(.int .i64 0),(.int .i64 0)] [(0,1,(.c (.int .i64 1))),(11,2,(.t 117))],none⟩,
    ⟨(some 119),.mov (.t 8),none⟩,
    ⟨(some 120),.call bC [(.t 115),(.t 118),(.t 119)],none⟩],
  []⟩
theorem nB:cFn PP true iN mc (cDr PP 121 od)=some jb:=by kernel_rfl
def m4:Nat->Option (List Nat×List Nat)
  | _=>none
def pU:Nat->Option (List Nat×List Nat×List Nat)
  | 1=>some ([0,1,3,7,15,0,32,96,224,511,1023,0,4095],[11,12],[])|3=>some ([0,1,3,7,15,0,32,96,224,0,1023,2047],[11],[])|_=>none
def jL:af:=⟨35,
  .seq (.reg [⟨(some 4),.box (.t 1),none⟩]) <|
  .seq (.dreg [⟨(some 7),.mov (.t 0),none⟩,
    ⟨(some 8),.fadd (.t 7) 0,none⟩,
    ⟨(some 9),.fadd (.t 8) 7,none⟩,
    ⟨(some 10),.fadd (.t 9) 7,none⟩,
    ⟨(some 11),.ld (.t 10) 1 false,none⟩,
    ⟨(some 12),.mov (.t 0),none⟩,
    ⟨(some 13),.fadd (.t 12) 0,none⟩,
    ⟨(some 14),.fadd (.t 13) 15,none⟩,
    ⟨(some 15),.ld (.t 14) 1 false,none⟩,
    ⟨(some 16),.iadd (.t 11) (.t 15) 14,none⟩,
    ⟨(some 17),.ld (.t 16) 14 true,none⟩] [⟨(some 6),.alloc (.agg [.nil,(.int .i64 0),(.int .i64 0),(.int .i64 0),(.int .i64 0),(.int .i32 0),(.int .i64 0),(.int .i64 0),(.int .i32 0),(.int .i64 0),(.int .i64 0),(.int .i32 0),(.int .i64 0),(.int .i64 0)]),none⟩,
    ⟨none,.st (.t 6) (.t 17) 14,none⟩] []) <|
  .seq (.reg [⟨(some 18),.ld (.t 4) 13 true,none⟩,
    ⟨(some 19),.fadd (.t 6) 1,none⟩,
    ⟨none,.st (.t 19) (.t 18) 13,none⟩]) <|
  .seq (.dreg [⟨(some 20),.mov (.t 0),none⟩,
    ⟨(some 21),.fadd (.t 20) 0,none⟩,
    ⟨(some 22),.fadd (.t 21) 7,none⟩,
    ⟨(some 23),.fadd (.t 22) 7,none⟩,
    ⟨(some 24),.ld (.t 23) 1 false,none⟩,
    ⟨(some 25),.mov (.t 0),none⟩,
    ⟨(some 26),.fadd (.t 25) 0,none⟩,
    ⟨(some 27),.fadd (.t 26) 15,none⟩,
    ⟨(some 28),.ld (.t 27) 1 false,none⟩,
    ⟨(some 29),.ld (.t 6) 14 true,none⟩,
    ⟨(some 30),.iadd (.t 24) (.t 28) 14,none⟩] [⟨none,.st (.t 30) (.t 29) 14,none⟩] []) <|
  .reg [⟨(some 31),.mov (.t 0),none⟩,
    ⟨(some 32),.mov (.t 2),none⟩,
    ⟨(some 33),.fadd (.t 31) 0,none⟩,
    ⟨(some 34),.fadd (.t 33) 15,none⟩,
    ⟨none,.st (.t 34) (.t 32) 1,none⟩],
  []⟩
theorem o7:cFn PP true bC m4 (cDr PP 35 pU)=some jL:=by kernel_rfl
def qe:Nat->Option (List Nat×List Nat)
  | _=>none
def sU:Nat->Option (List Nat×List Nat×List Nat)
  | _=>none
def lZ:af:=⟨51,
  .seq (.reg [⟨(some 4),.mov (.c (.int .u64 0)),none⟩,
    ⟨(some 5),.mov (.c (.int .u64 0)),none⟩]) <|
  .seq (.reg [⟨(some 14),.mov (.t 0),none⟩,
    ⟨(some 15),.bin .and (.t 14) (.c (.int .u64 4294967295)),none⟩,
    ⟨(some 6),.mov (.t 15),none⟩]) <|
  .seq (.reg [⟨(some 16),.mov (.t 0),none⟩,
    ⟨(some 17),.bin .shr (.t 16) (.c (.int .u64 32)),none⟩,
    ⟨(some 7),.mov (.t 17),none⟩]) <|
  .seq (.reg [⟨(some 18),.mov (.t 1),none⟩,
    ⟨(some 19),.bin .and (.t 18) (.c (.int .u64 4294967295)),none⟩,
    ⟨(some 8),.mov (.t 19),none⟩]) <|
  .seq (.reg [⟨(some 20),.mov (.t 1),none⟩,
    ⟨(some 21),.bin .shr (.t 20) (.c (.int .u64 32)),none⟩,
    ⟨(some 9),.mov (.t 21),none⟩]) <|
  .seq (.reg [⟨(some 22),.mov (.t 6),none⟩,
    ⟨(some 23),.mov (.t 8),none⟩,
    ⟨(some 24),.bin .mul (.t 22) (.t 23),none⟩,
    ⟨(some 10),.mov (.t 24),none⟩]) <|
  .seq (.reg [⟨(some 25),.mov (.t 7),none⟩,
    ⟨(some 26),.mov (.t 8),none⟩,
    ⟨(some 27),.bin .mul (.t 25) (.t 26),none⟩,
    ⟨(some 28),.mov (.t 10),none⟩,
    ⟨(some 29),.bin .shr (.t 28) (.c (.int .u64 32)),none⟩,
    ⟨(some 30),.bin .add (.t 27) (.t 29),none⟩,
    ⟨(some 11),.mov (.t 30),none⟩]) <|
  .seq (.reg [⟨(some 31),.mov (.t 11),none⟩,
    ⟨(some 32),.bin .and (.t 31) (.c (.int .u64 4294967295)),none⟩,
    ⟨(some 12),.mov (.t 32),none⟩]) <|
  .seq (.reg [⟨(some 33),.mov (.t 11),none⟩,
    ⟨(some 34),.bin .shr (.t 33) (.c (.int .u64 32)),none⟩,
    ⟨(some 13),.mov (.t 34),none⟩]) <|
  .seq (.reg [⟨(some 35),.mov (.t 12),none⟩,
    ⟨(some 36),.mov (.t 6),none⟩,
    ⟨(some 37),.mov (.t 9),none⟩,
    ⟨(some 38),.bin .mul (.t 36) (.t 37),none⟩,
    ⟨(some 39),.bin .add (.t 35) (.t 38),none⟩,
    ⟨(some 12),.mov (.t 39),none⟩]) <|
  .seq (.reg [⟨(some 40),.mov (.t 7),none⟩,
    ⟨(some 41),.mov (.t 9),none⟩,
    ⟨(some 42),.bin .mul (.t 40) (.t 41),none⟩,
    ⟨(some 43),.mov (.t 13),none⟩,
    ⟨(some 44),.bin .add (.t 42) (.t 43),none⟩,
    ⟨(some 45),.mov (.t 12),none⟩,
    ⟨(some 46),.bin .shr (.t 45) (.c (.int .u64 32)),none⟩,
    ⟨(some 47),.bin .add (.t 44) (.t 46),none⟩,
    ⟨(some 4),.mov (.t 47),none⟩]) <|
  .seq (.reg [⟨(some 48),.mov (.t 0),none⟩,
    ⟨(some 49),.mov (.t 1),none⟩,
    ⟨(some 50),.bin .mul (.t 48) (.t 49),none⟩,
    ⟨(some 5),.mov (.t 50),none⟩]) <|
  .ret,
  [.t 4,.t 5]⟩
theorem sx:cFn PP true lI qe (cDr PP 51 sU)=some lZ:=by kernel_rfl
def qf:Nat->Option (List Nat×List Nat)
  | 1000008=>some ([0,4],[])|2=>some ([0,1,3,4,14,15],[16])|1000007=>some ([0,1,3,4,14,15,16],[])|_=>none
def sV:Nat->Option (List Nat×List Nat×List Nat)
  | 7=>some ([0,0,2,6,14,0,32,126,255,511,1023],[7,10],[0])|_=>none
def l7:af:=⟨39,
  .seq (.reg [⟨(some 8),.ld (.t 1) 1 false,none⟩,
    ⟨(some 9),.mov (.t 0),none⟩,
    ⟨(some 10),.iadd (.t 8) (.t 9) 1,none⟩,
    ⟨none,.st (.t 10) (.c (.bool true)) 1,none⟩]) <|
  .seqj [0,4] [] (.seq (.reg [⟨(some 11),.ld (.t 2) 1 false,none⟩,
    ⟨(some 12),.mov (.t 0),none⟩,
    ⟨(some 13),.iadd (.t 11) (.t 12) 1,none⟩,
    ⟨(some 14),.ld (.t 13) 1 false,none⟩,
    ⟨(some 15),.len (.t 14),none⟩,
    ⟨(some 16),.mov (.c (.int .i64 0)),none⟩]) <|
  .block 0 (.loop [0,1,3,4,14,15] [16] (.seq (.reg [⟨(some 17),.bin .lss (.t 16) (.t 15),none⟩]) <|
  .seq (.cond (.t 17) (.skip) (.exit 0)) <|
  .seqj [0,1,3,4,14,15,16] [] (.block 1 (.seq (.reg [⟨(some 18),.iadd (.t 14) (.t 16) 1,none⟩,
    ⟨(some 19),.ld (.t 18) 1 false,none⟩,
    ⟨(some 7),.mov (.t 19),none⟩]) <|
  .seq (.reg [⟨(some 20),.ld (.t 1) 1 false,none⟩,
    ⟨(some 21),.mov (.t 7),none⟩,
    ⟨(some 22),.iadd (.t 20) (.t 21) 1,none⟩,
    ⟨(some 23),.ld (.t 22) 1 false,none⟩,
    ⟨(some 24),.un .not (.t 23),none⟩]) <|
  .cond (.t 24) (.reg [⟨(some 25),.ld (.t 3) 1 false,none⟩,
    ⟨(some 26),.mov (.t 7),none⟩,
    ⟨(some 27),.callv (.t 25) [(.t 26)],none⟩]) (.skip))) <|
  .reg [⟨(some 28),.bin .add (.t 16) (.c (.int .i64 1)),none⟩,
    ⟨(some 16),.mov (.t 28),none⟩]))) <|
  .dreg [⟨(some 29),.ld (.t 4) 1 false,none⟩,
    ⟨(some 30),.ld (.t 4) 1 false,none⟩,
    ⟨(some 31),.fadd (.t 30) 0,none⟩,
    ⟨(some 32),.fadd (.t 31) 1,none⟩,
    ⟨(some 33),.ld (.t 32) 1 false,none⟩,
    ⟨(some 34),.mov (.t 0),none⟩,
    ⟨(some 35),.bldS false 1 1 (.int .i64 0) [(0,(.t 34))],none⟩,
    ⟨(some 37),.fadd (.t 29) 0,none⟩,
    ⟨(some 38),.fadd (.t 37) 1,none⟩] [⟨(some 36),.app (.t 33) (.t 35) 1 8 (.int .i64 0),none⟩,
    ⟨none,.st (.t 38) (.t 36) 1,none⟩] [⟨(some 29),.ld (.t 4) 1 false,none⟩],
  []⟩
theorem sA:cFn PP true lK qf (cDr PP 39 sV)=some l7:=by kernel_rfl
def iT:Nat->Option (List Nat×List Nat)
  | 1=>some ([0],[2,3])|_=>none
def jX:Nat->Option (List Nat×List Nat×List Nat)
  | 3=>some ([0,0,0,0,0,0,48,112,0,0,768,1792,4083,8179,16383,32767],[13,15],[14])|_=>none
def eE:af:=⟨28,
  .seq (.reg [⟨(some 4),.mov (.t 0),none⟩,
    ⟨(some 5),.len (.t 4),none⟩,
    ⟨(some 6),.bin .sub (.t 5) (.c (.int .i64 1)),none⟩,
    ⟨(some 2),.mov (.c (.int .i64 0)),none⟩,
    ⟨(some 3),.mov (.t 6),none⟩]) <|
  .block 0 (.loop [0] [2,3] (.seq (.seq (.reg [⟨(some 7),.mov (.t 2),none⟩,
    ⟨(some 8),.mov (.t 3),none⟩,
    ⟨(some 9),.bin .lss (.t 7) (.t 8),none⟩]) <|
  .cond (.t 9) (.skip) (.exit 0)) <|
  .seq (.block 1 (.dreg [⟨(some 14),.mov (.t 0),none⟩,
    ⟨(some 15),.mov (.t 2),none⟩,
    ⟨(some 16),.mov (.t 0),none⟩,
    ⟨(some 17),.mov (.t 3),none⟩,
    ⟨(some 18),.mov (.t 0),none⟩,
    ⟨(some 19),.mov (.t 3),none⟩,
    ⟨(some 20),.iadd (.t 18) (.t 19) 1,none⟩,
    ⟨(some 21),.ld (.t 20) 1 false,none⟩,
    ⟨(some 22),.mov (.t 0),none⟩,
    ⟨(some 23),.mov (.t 2),none⟩,
    ⟨(some 24),.iadd (.t 22) (.t 23) 1,none⟩,
    ⟨(some 25),.ld (.t 24) 1 false,none⟩,
    ⟨(some 26),.iadd (.t 14) (.t 15) 1,none⟩,
    ⟨(some 27),.iadd (.t 16) (.t 17) 1,none⟩] [⟨none,.st (.t 26) (.t 21) 1,none⟩,
    ⟨none,.st (.t 27) (.t 25) 1,none⟩] [⟨(some 27),.iadd (.t 16) (.t 17) 1,none⟩])) <|
  .reg [⟨(some 10),.mov (.t 2),none⟩,
    ⟨(some 11),.bin .add (.t 10) (.c (.int .i64 1)),none⟩,
    ⟨(some 12),.mov (.t 3),none⟩,
    ⟨(some 13),.bin .sub (.t 12) (.c (.int .i64 1)),none⟩,
    ⟨(some 2),.mov (.t 11),none⟩,
    ⟨(some 3),.mov (.t 13),none⟩])),
  []⟩
theorem jx:cFn PP true cn iT (cDr PP 28 jX)=some eE:=by kernel_rfl
def oH:Nat->Option (List Nat×List Nat)
  | 1000012=>some ([3],[])|3=>some ([0,3,17,18],[19])|1000011=>some ([0,3,17,18,19],[])|6=>some ([0,3,5,17,18,19,29,30],[31])|_=>none
def qG:Nat->Option (List Nat×List Nat×List Nat)
  | _=>none
def kZ:af:=⟨48,
  .seq (.reg [⟨(some 2),.mov (.c .nil),none⟩]) <|
  .seq (.reg [⟨(some 8),.mov (.t 0),none⟩,
    ⟨(some 9),.fadd (.t 8) 0,none⟩,
    ⟨(some 10),.fadd (.t 9) 0,none⟩,
    ⟨(some 11),.ld (.t 10) 1 false,none⟩,
    ⟨(some 12),.len (.t 11),none⟩,
    ⟨(some 13),.mk 1 24 .nil (.t 12) (.t 12),none⟩,
    ⟨(some 3),.mov (.t 13),none⟩]) <|
  .seqj [3] [] (.seq (.reg [⟨(some 14),.mov (.t 0),none⟩,
    ⟨(some 15),.fadd (.t 14) 0,none⟩,
    ⟨(some 16),.fadd (.t 15) 1,none⟩,
    ⟨(some 17),.ld (.t 16) 1 false,none⟩,
    ⟨(some 18),.len (.t 17),none⟩,
    ⟨(some 19),.mov (.c (.int .i64 0)),none⟩]) <|
  .block 0 (.loop [0,3,17,18] [19] (.seq (.reg [⟨(some 20),.bin .lss (.t 19) (.t 18),none⟩]) <|
  .seq (.cond (.t 20) (.skip) (.exit 0)) <|
  .seqj [0,3,17,18,19] [] (.block 1 (.seq (.reg [⟨(some 21),.iadd (.t 17) (.t 19) 1,none⟩,
    ⟨(some 22),.ld (.t 21) 1 false,none⟩,
    ⟨(some 5),.mov (.t 22),none⟩]) <|
  .seq (.reg [⟨(some 23),.mov (.t 0),none⟩,
    ⟨(some 24),.fadd (.t 23) 0,none⟩,
    ⟨(some 25),.fadd (.t 24) 0,none⟩,
    ⟨(some 26),.ld (.t 25) 1 false,none⟩,
    ⟨(some 27),.mov (.t 5),none⟩,
    ⟨(some 28),.iadd (.t 26) (.t 27) 1,none⟩,
    ⟨(some 29),.ld (.t 28) 1 false,none⟩,
    ⟨(some 30),.len (.t 29),none⟩,
    ⟨(some 31),.mov (.c (.int .i64 0)),none⟩]) <|
  .block 2 (.loop [0,3,5,17,18,19,29,30] [31] (.seq (.reg [⟨(some 32),.bin .lss (.t 31) (.t 30),none⟩]) <|
  .seq (.cond (.t 32) (.skip) (.exit 2)) <|
  .seq (.block 3 (.seq (.reg [⟨(some 33),.iadd (.t 29) (.t 31) 1,none⟩,
    ⟨(some 34),.ld (.t 33) 1 false,none⟩,
    ⟨(some 7),.mov (.t 34),none⟩]) <|
  .reg [⟨(some 35),.mov (.t 3),none⟩,
    ⟨(some 36),.mov (.t 7),none⟩,
    ⟨(some 37),.mov (.t 3),none⟩,
    ⟨(some 38),.mov (.t 7),none⟩,
    ⟨(some 39),.iadd (.t 37) (.t 38) 1,none⟩,
    ⟨(some 40),.ld (.t 39) 1 false,none⟩,
    ⟨(some 41),.mov (.t 5),none⟩,
    ⟨(some 42),.bldS true 1 1 (.int .i64 0) [(0,(.t 41))],none⟩,
    ⟨(some 43),.app (.t 40) (.t 42) 1 8 (.int .i64 0),none⟩,
    ⟨(some 44),.iadd (.t 35) (.t 36) 1,none⟩,
    ⟨none,.st (.t 44) (.t 43) 1,none⟩])) <|
  .reg [⟨(some 45),.bin .add (.t 31) (.c (.int .i64 1)),none⟩,
    ⟨(some 31),.mov (.t 45),none⟩])))) <|
  .reg [⟨(some 46),.bin .add (.t 19) (.c (.int .i64 1)),none⟩,
    ⟨(some 19),.mov (.t 46),none⟩]))) <|
  .seq (.reg [⟨(some 47),.mov (.t 3),none⟩,
    ⟨(some 2),.mov (.t 47),none⟩]) <|
  .ret,
  [.t 2]⟩
theorem qq:cFn PP true kH oH (cDr PP 48 qG)=some kZ:=by kernel_rfl
def rD:Nat->Option (List Nat×List Nat)
  | 1000006=>some ([],[2])|1=>some ([0,1],[2,3])|_=>none
def uF:Nat->Option (List Nat×List Nat×List Nat)
  | 2=>some ([0,1,3,7,0,31,63,0,128,384,896,0,3968,8064,16383],[],[])|_=>none
def nT:af:=⟨36,
  .seq (.reg [⟨(some 8),.mov (.c (.int .i64 0)),none⟩]) <|
  .seqj [] [2] (.block 0 (.loop [0,1] [2,3] (.seq (.seq (.reg [⟨(some 9),.mov (.t 2),none⟩,
    ⟨(some 10),.mov (.t 3),none⟩,
    ⟨(some 11),.bin .neq (.t 9) (.t 10),none⟩]) <|
  .cond (.t 11) (.skip) (.exit 0)) <|
  .block 1 (.seq (.dreg [⟨(some 12),.mov (.t 0),none⟩,
    ⟨(some 13),.fadd (.t 12) 0,none⟩,
    ⟨(some 14),.fadd (.t 13) 2,none⟩,
    ⟨(some 15),.ld (.t 14) 1 false,none⟩,
    ⟨(some 16),.mov (.t 2),none⟩,
    ⟨(some 17),.iadd (.t 15) (.t 16) 1,none⟩,
    ⟨(some 18),.ld (.t 17) 1 false,none⟩,
    ⟨(some 19),.mov (.t 0),none⟩,
    ⟨(some 20),.fadd (.t 19) 0,none⟩,
    ⟨(some 21),.fadd (.t 20) 2,none⟩,
    ⟨(some 22),.ld (.t 21) 1 false,none⟩,
    ⟨(some 23),.mov (.t 3),none⟩,
    ⟨(some 24),.iadd (.t 22) (.t 23) 1,none⟩,
    ⟨(some 25),.ld (.t 24) 1 false,none⟩,
    ⟨(some 26),.bin .gtr (.t 18) (.t 25),none⟩] [] []) <|
  .cond (.t 26) (.reg [⟨(some 27),.mov (.t 1),none⟩,
    ⟨(some 28),.mov (.t 2),none⟩,
    ⟨(some 29),.iadd (.t 27) (.t 28) 1,none⟩,
    ⟨(some 30),.ld (.t 29) 1 false,none⟩,
    ⟨(some 2),.mov (.t 30),none⟩]) (.reg [⟨(some 31),.mov (.t 1),none⟩,
    ⟨(some 32),.mov (.t 3),none⟩,
    ⟨(some 33),.iadd (.t 31) (.t 32) 1,none⟩,
    ⟨(some 34),.ld (.t 33) 1 false,none⟩,
    ⟨(some 3),.mov (.t 34),none⟩]))))) <|
  .seq (.reg [⟨(some 35),.mov (.t 2),none⟩,
    ⟨(some 8),.mov (.t 35),none⟩]) <|
  .ret,
  [.t 8]⟩
theorem tq:cFn PP true im rD (cDr PP 36 uF)=some nT:=by kernel_rfl
def u7:Nat->Option (List Nat×List Nat)
  | 0=>some ([0,1,2],[])|_=>none
def ye:Nat->Option (List Nat×List Nat×List Nat)
  | 0=>some ([0,0,3,7,15,15,63,127,15,511,1023],[2],[999999])|_=>none
def sC:af:=⟨19,
  .block 0 (.loop [0,1,2] [] (.seq (.seq (.seq (.dreg [⟨(some 4),.mov (.t 0),none⟩,
    ⟨(some 5),.ld (.t 1) 1 false,none⟩] [⟨(some 6),.callv (.t 4) [(.t 5)],none⟩] []) <|
  .dreg [⟨(some 7),.mov (.t 6),none⟩,
    ⟨(some 8),.ld (.t 2) 1 false,some (7,true)⟩,
    ⟨(some 9),.ld (.t 1) 1 false,some (7,true)⟩,
    ⟨(some 10),.iadd (.t 8) (.t 9) 1,some (7,true)⟩,
    ⟨(some 11),.ld (.t 10) 1 false,some (7,true)⟩,
    ⟨(some 12),.ld (.t 1) 1 false,some (7,true)⟩,
    ⟨(some 13),.bin .neq (.t 11) (.t 12),some (7,true)⟩,
    ⟨(some 14),.pick (.t 7) (.t 13) (.c (.bool false)),none⟩] [] []) <|
  .cond (.t 14) (.skip) (.exit 0)) <|
  .block 1 (.reg [⟨(some 15),.ld (.t 2) 1 false,none⟩,
    ⟨(some 16),.ld (.t 1) 1 false,none⟩,
    ⟨(some 17),.iadd (.t 15) (.t 16) 1,none⟩,
    ⟨(some 18),.ld (.t 17) 1 false,none⟩,
    ⟨none,.st (.t 1) (.t 18) 1,none⟩]))),
  []⟩
theorem xM:cFn PP true ra u7 (cDr PP 19 ye)=some sC:=by kernel_rfl
def dG:Nat->Option (List Nat×List Nat)
  | _=>none
def dR:Nat->Option (List Nat×List Nat×List Nat)
  | _=>none
def b8:af:=⟨4,
  .seq (.reg [⟨(some 1),.box (.t 0),none⟩,
    ⟨(some 2),.mov (.c .nilfn),none⟩]) <|
  .seq (.reg [⟨(some 3),.mkf bJ [] [(.t 1)],none⟩,
    ⟨(some 2),.mov (.t 3),none⟩]) <|
  .ret,
  [.t 2]⟩
theorem dN:cFn PP true bY dG (cDr PP 4 dR)=some b8:=by kernel_rfl
def B9:Nat->Option (List Nat×List Nat)
  | _=>none
def D7:Nat->Option (List Nat×List Nat×List Nat)
  | _=>none
def CR:af:=⟨8,
  .seq (.reg [⟨(some 1),.box (.t 0),none⟩,
    ⟨(some 2),.mov (.c (.int .i64 0)),none⟩]) <|
  .seq (.seq (.reg [⟨(some 3),.fadd (.t 1) 0,none⟩,
    ⟨(some 4),.ld (.t 3) 1 false,none⟩,
    ⟨(some 5),.bin .neq (.t 4) (.c (.int .i64 2)),none⟩]) <|
  .cond (.t 5) (.seq (.reg [⟨(some 2),.mov (.c (.int .i64 (-1))),none⟩]) <|
  .ret) (.skip)) <|
  .seq (.reg [⟨(some 6),.fadd (.t 1) 1,none⟩,
    ⟨(some 7),.ld (.t 6) 1 false,none⟩,
    ⟨(some 2),.mov (.t 7),none⟩]) <|
  .ret,
  [.t 2]⟩
theorem Dn:cFn PP true uO B9 (cDr PP 8 D7)=some CR:=by kernel_rfl
end Go.Am
namespace Go.Am
open Go Go.Proofs
def cq:Nat->Option (List Nat×List Nat)
  | _=>none
def cx:Nat->Option (List Nat×List Nat×List Nat)
  | _=>none
def bt:af:=⟨9,
  .seq (.reg [⟨(some 4),.mov (.c (.bool false)),none⟩]) <|
  .seq (.reg [⟨(some 5),.mov (.t 0),none⟩,
    ⟨(some 6),.mov (.t 1),none⟩,
    ⟨(some 7),.call bD [(.t 5),(.t 6)],none⟩,
    ⟨(some 8),.bin .geq (.t 7) (.c (.int .i64 0)),none⟩,
    ⟨(some 4),.mov (.t 8),none⟩]) <|
  .ret,
  [.t 4]⟩
theorem cw:cFn PP true bq cq (cDr PP 9 cx)=some bt:=by kernel_rfl
def km:Nat->Option (List Nat×List Nat)
  | _=>none
def lj:Nat->Option (List Nat×List Nat×List Nat)
  | _=>none
def fJ:af:=⟨25,
  .seq (.reg [⟨(some 3),.box (.t 0),none⟩,
    ⟨(some 4),.mov (.c (.bool false)),none⟩]) <|
  .seq (.reg [⟨(some 5),.fadd (.t 3) 0,none⟩,
    ⟨(some 6),.ld (.t 5) 1 false,none⟩,
    ⟨(some 7),.fadd (.t 1) 0,none⟩,
    ⟨(some 8),.ld (.t 7) 1 false,none⟩,
    ⟨(some 9),.bin .neq (.t 6) (.t 8),none⟩,
    ⟨(some 10),.mov (.t 9),none⟩,
    ⟨(some 11),.fadd (.t 1) 2,some (10,true)⟩,
    ⟨(some 12),.ld (.t 11) 1 false,some (10,true)⟩,
    ⟨(some 13),.fadd (.t 3) 0,some (10,true)⟩,
    ⟨(some 14),.ld (.t 13) 1 false,some (10,true)⟩,
    ⟨(some 15),.iadd (.t 12) (.t 14) 1,some (10,true)⟩,
    ⟨(some 16),.ld (.t 15) 1 false,some (10,true)⟩,
    ⟨(some 17),.pick (.t 10) (.t 16) (.c (.bool false)),none⟩,
    ⟨(some 18),.mov (.t 17),none⟩,
    ⟨(some 19),.fadd (.t 3) 2,some (18,true)⟩,
    ⟨(some 20),.ld (.t 19) 1 false,some (18,true)⟩,
    ⟨(some 21),.ld (.t 2) 1 false,some (18,true)⟩,
    ⟨(some 22),.iadd (.t 20) (.t 21) 1,some (18,true)⟩,
    ⟨(some 23),.ld (.t 22) 1 false,some (18,true)⟩,
    ⟨(some 24),.pick (.t 18) (.t 23) (.c (.bool false)),none⟩,
    ⟨(some 4),.mov (.t 24),none⟩]) <|
  .ret,
  [.t 4]⟩
theorem la:cFn PP true fw km (cDr PP 25 lj)=some fJ:=by kernel_rfl
def oJ:Nat->Option (List Nat×List Nat)
  | _=>none
def qH:Nat->Option (List Nat×List Nat×List Nat)
  | _=>none
def k0:af:=⟨21,
  .seq (.reg [⟨(some 3),.mov (.c (.bool false)),none⟩]) <|
  .seq (.reg [⟨(some 4),.mov (.t 0),none⟩,
    ⟨(some 5),.bin .geq (.t 4) (.c (.int .i64 0)),none⟩,
    ⟨(some 6),.mov (.t 5),none⟩,
    ⟨(some 7),.mov (.t 0),some (6,true)⟩,
    ⟨(some 8),.fadd (.t 1) 1,some (6,true)⟩,
    ⟨(some 9),.ld (.t 8) 1 false,some (6,true)⟩,
    ⟨(some 10),.len (.t 9),some (6,true)⟩,
    ⟨(some 11),.bin .lss (.t 7) (.t 10),some (6,true)⟩,
    ⟨(some 12),.pick (.t 6) (.t 11) (.c (.bool false)),none⟩,
    ⟨(some 13),.mov (.t 12),none⟩,
    ⟨(some 14),.fadd (.t 1) 1,some (13,true)⟩,
    ⟨(some 15),.ld (.t 14) 1 false,some (13,true)⟩,
    ⟨(some 16),.mov (.t 0),some (13,true)⟩,
    ⟨(some 17),.iadd (.t 15) (.t 16) 1,some (13,true)⟩,
    ⟨(some 18),.ld (.t 17) 1 false,some (13,true)⟩,
    ⟨(some 19),.bin .geq (.t 18) (.c (.int .i64 0)),some (13,true)⟩,
    ⟨(some 20),.pick (.t 13) (.t 19) (.c (.bool false)),none⟩,
    ⟨(some 3),.mov (.t 20),none⟩]) <|
  .ret,
  [.t 3]⟩
theorem qt:cFn PP true kI oJ (cDr PP 21 qH)=some k0:=by kernel_rfl
def yv:Nat->Option (List Nat×List Nat)
  | 1000009=>some ([],[3])|3=>some ([0],[3,4])|_=>none
def Bt:Nat->Option (List Nat×List Nat×List Nat)
  | 7=>some ([0,0,0,6,14,30,62,0,0,384,896,1920,4094,8190,16382,32767,65535],[16],[])|_=>none
def xt:af:=⟨62,
  .seq (.reg [⟨(some 2),.mov (.c (.int .i64 0)),none⟩]) <|
  .seq (.reg [⟨(some 3),.mov (.c (.int .i64 0)),none⟩]) <|
  .seqj [] [3] (.seq (.reg [⟨(some 4),.mov (.c (.int .i64 0)),none⟩]) <|
  .block 0 (.loop [0] [3,4] (.seq (.seq (.reg [⟨(some 5),.mov (.t 4),none⟩,
    ⟨(some 6),.mov (.t 0),none⟩,
    ⟨(some 7),.len (.t 6),none⟩,
    ⟨(some 8),.bin .lss (.t 5) (.t 7),none⟩]) <|
  .cond (.t 8) (.skip) (.exit 0)) <|
  .seq (.block 1 (.seq (.seq (.reg [⟨(some 11),.mov (.t 0),none⟩,
    ⟨(some 12),.mov (.t 4),none⟩,
    ⟨(some 13),.iadd (.t 11) (.t 12) 19,none⟩,
    ⟨(some 14),.fadd (.t 13) 5,none⟩,
    ⟨(some 15),.ld (.t 14) 6 true,none⟩,
    ⟨(some 16),.call fW [(.t 15)],none⟩,
    ⟨(some 17),.bin .gtr (.t 16) (.c (.int .i64 30)),none⟩,
    ⟨(some 18),.mov (.t 17),none⟩,
    ⟨(some 19),.mov (.t 0),some (18,false)⟩,
    ⟨(some 20),.mov (.t 4),some (18,false)⟩,
    ⟨(some 21),.iadd (.t 19) (.t 20) 19,some (18,false)⟩,
    ⟨(some 22),.fadd (.t 21) 11,some (18,false)⟩,
    ⟨(some 23),.ld (.t 22) 6 true,some (18,false)⟩,
    ⟨(some 24),.call fW [(.t 23)],some (18,false)⟩,
    ⟨(some 25),.bin .gtr (.t 24) (.c (.int .i64 30)),some (18,false)⟩,
    ⟨(some 26),.pick (.t 18) (.c (.bool true)) (.t 25),none⟩,
    ⟨(some 27),.mov (.t 26),none⟩,
    ⟨(some 28),.mov (.t 0),some (27,false)⟩,
    ⟨(some 29),.mov (.t 4),some (27,false)⟩,
    ⟨(some 30),.iadd (.t 28) (.t 29) 19,some (27,false)⟩,
    ⟨(some 31),.fadd (.t 30) 5,some (27,false)⟩,
    ⟨(some 32),.ld (.t 31) 6 true,some (27,false)⟩,
    ⟨(some 33),.call fX [(.t 32)],some (27,false)⟩,
    ⟨(some 34),.un .not (.t 33),some (27,false)⟩,
    ⟨(some 35),.pick (.t 27) (.c (.bool true)) (.t 34),none⟩,
    ⟨(some 36),.mov (.t 35),none⟩,
    ⟨(some 37),.mov (.t 0),some (36,false)⟩,
    ⟨(some 38),.mov (.t 4),some (36,false)⟩,
    ⟨(some 39),.iadd (.t 37) (.t 38) 19,some (36,false)⟩,
    ⟨(some 40),.fadd (.t 39) 11,some (36,false)⟩,
    ⟨(some 41),.ld (.t 40) 6 true,some (36,false)⟩,
    ⟨(some 42),.call fX [(.t 41)],some (36,false)⟩,
    ⟨(some 43),.un .not (.t 42),some (36,false)⟩,
    ⟨(some 44),.pick (.t 36) (.c (.bool true)) (.t 43),none⟩]) <|
  .cond (.t 44) (.seq (.reg [⟨(some 2),.mov (.c (.int .i64 31)),none⟩]) <|
  .ret) (.skip)) <|
  .dreg [⟨(some 45),.mov (.t 3),none⟩,
    ⟨(some 46),.mov (.t 0),none⟩,
    ⟨(some 47),.mov (.t 4),none⟩,
    ⟨(some 48),.iadd (.t 46) (.t 47) 19,none⟩,
    ⟨(some 49),.fadd (.t 48) 17,none⟩,
    ⟨(some 50),.ld (.t 49) 1 false,none⟩,
    ⟨(some 51),.call fY [(.t 50)],none⟩,
    ⟨(some 52),.mov (.t 0),none⟩,
    ⟨(some 53),.mov (.t 4),none⟩,
    ⟨(some 54),.iadd (.t 52) (.t 53) 19,none⟩,
    ⟨(some 55),.fadd (.t 54) 18,none⟩,
    ⟨(some 56),.ld (.t 55) 1 false,none⟩,
    ⟨(some 57),.call fY [(.t 56)],none⟩,
    ⟨(some 58),.mx (.t 51) (.t 57),none⟩,
    ⟨(some 59),.bin .add (.c (.int .i64 1)) (.t 58),none⟩,
    ⟨(some 60),.mx (.t 45) (.t 59),none⟩] [⟨(some 3),.mov (.t 60),none⟩] [])) <|
  .reg [⟨(some 9),.mov (.t 4),none⟩,
    ⟨(some 10),.bin .add (.t 9) (.c (.int .i64 1)),none⟩,
    ⟨(some 4),.mov (.t 10),none⟩]))) <|
  .seq (.reg [⟨(some 61),.mov (.t 3),none⟩,
    ⟨(some 2),.mov (.t 61),none⟩]) <|
  .ret,
  [.t 2]⟩
theorem AQ:cFn PP true fY yv (cDr PP 62 Bt)=some xt:=by kernel_rfl
def yx:Nat->Option (List Nat×List Nat)
  | 1000007=>some ([],[3])|3=>some ([0],[3,4])|_=>none
def Bv:Nat->Option (List Nat×List Nat×List Nat)
  | 5=>some ([0,0,0,6,14,30,62,126,0,0,768,1792,3840,8062,16382,0,0,98304,229376,491520,1032062,2097150,0,0,12582912,29360128,62914560,132104062,268435454,536870911,1073741823],[30],[])|_=>none
def xx:af:=⟨42,
  .seq (.reg [⟨(some 2),.mov (.c (.int .i64 0)),none⟩]) <|
  .seq (.reg [⟨(some 3),.mov (.c (.int .i64 0)),none⟩]) <|
  .seqj [] [3] (.seq (.reg [⟨(some 4),.mov (.c (.int .i64 0)),none⟩]) <|
  .block 0 (.loop [0] [3,4] (.seq (.seq (.reg [⟨(some 5),.mov (.t 4),none⟩,
    ⟨(some 6),.mov (.t 0),none⟩,
    ⟨(some 7),.len (.t 6),none⟩,
    ⟨(some 8),.bin .lss (.t 5) (.t 7),none⟩]) <|
  .cond (.t 8) (.skip) (.exit 0)) <|
  .seq (.block 1 (.dreg [⟨(some 11),.mov (.t 3),none⟩,
    ⟨(some 12),.mov (.t 0),none⟩,
    ⟨(some 13),.mov (.t 4),none⟩,
    ⟨(some 14),.iadd (.t 12) (.t 13) 19,none⟩,
    ⟨(some 15),.fadd (.t 14) 5,none⟩,
    ⟨(some 16),.ld (.t 15) 6 true,none⟩,
    ⟨(some 17),.call eR [(.t 16)],none⟩,
    ⟨(some 18),.bin .add (.c (.int .i64 1)) (.t 17),none⟩,
    ⟨(some 19),.mov (.t 0),none⟩,
    ⟨(some 20),.mov (.t 4),none⟩,
    ⟨(some 21),.iadd (.t 19) (.t 20) 19,none⟩,
    ⟨(some 22),.fadd (.t 21) 11,none⟩,
    ⟨(some 23),.ld (.t 22) 6 true,none⟩,
    ⟨(some 24),.call eR [(.t 23)],none⟩,
    ⟨(some 25),.bin .add (.t 18) (.t 24),none⟩,
    ⟨(some 26),.mov (.t 0),none⟩,
    ⟨(some 27),.mov (.t 4),none⟩,
    ⟨(some 28),.iadd (.t 26) (.t 27) 19,none⟩,
    ⟨(some 29),.fadd (.t 28) 17,none⟩,
    ⟨(some 30),.ld (.t 29) 1 false,none⟩,
    ⟨(some 31),.call ga [(.t 30)],none⟩,
    ⟨(some 32),.bin .add (.t 25) (.t 31),none⟩,
    ⟨(some 33),.mov (.t 0),none⟩,
    ⟨(some 34),.mov (.t 4),none⟩,
    ⟨(some 35),.iadd (.t 33) (.t 34) 19,none⟩,
    ⟨(some 36),.fadd (.t 35) 18,none⟩,
    ⟨(some 37),.ld (.t 36) 1 false,none⟩,
    ⟨(some 38),.call ga [(.t 37)],none⟩,
    ⟨(some 39),.bin .add (.t 32) (.t 38),none⟩,
    ⟨(some 40),.bin .add (.t 11) (.t 39),none⟩] [⟨(some 3),.mov (.t 40),none⟩] [])) <|
  .reg [⟨(some 9),.mov (.t 4),none⟩,
    ⟨(some 10),.bin .add (.t 9) (.c (.int .i64 1)),none⟩,
    ⟨(some 4),.mov (.t 10),none⟩]))) <|
  .seq (.reg [⟨(some 41),.mov (.t 3),none⟩,
    ⟨(some 2),.mov (.t 41),none⟩]) <|
  .ret,
  [.t 2]⟩
theorem AS:cFn PP true ga yx (cDr PP 42 Bv)=some xx:=by kernel_rfl
def yt:Nat->Option (List Nat×List Nat)
  | 1000007=>some ([],[3])|3=>some ([1],[3,4])|_=>none
def Br:Nat->Option (List Nat×List Nat×List Nat)
  | _=>none
def xp:af:=⟨22,
  .seq (.reg [⟨(some 1),.box (.t 0),none⟩,
    ⟨(some 2),.mov (.c (.int .i64 0)),none⟩]) <|
  .seq (.reg [⟨(some 3),.mov (.c (.int .i64 0)),none⟩]) <|
  .seqj [] [3] (.seq (.reg [⟨(some 4),.mov (.c (.int .i64 0)),none⟩]) <|
  .block 0 (.loop [1] [3,4] (.seq (.seq (.reg [⟨(some 5),.mov (.t 4),none⟩,
    ⟨(some 6),.fadd (.t 1) 5,none⟩,
    ⟨(some 7),.ld (.t 6) 1 false,none⟩,
    ⟨(some 8),.len (.t 7),none⟩,
    ⟨(some 9),.bin .lss (.t 5) (.t 8),none⟩]) <|
  .cond (.t 9) (.skip) (.exit 0)) <|
  .seq (.block 1 (.reg [⟨(some 12),.mov (.t 3),none⟩,
    ⟨(some 13),.fadd (.t 1) 5,none⟩,
    ⟨(some 14),.ld (.t 13) 1 false,none⟩,
    ⟨(some 15),.mov (.t 4),none⟩,
    ⟨(some 16),.iadd (.t 14) (.t 15) 6,none⟩,
    ⟨(some 17),.ld (.t 16) 6 true,none⟩,
    ⟨(some 18),.call fW [(.t 17)],none⟩,
    ⟨(some 19),.mx (.t 12) (.t 18),none⟩,
    ⟨(some 3),.mov (.t 19),none⟩])) <|
  .reg [⟨(some 10),.mov (.t 4),none⟩,
    ⟨(some 11),.bin .add (.t 10) (.c (.int .i64 1)),none⟩,
    ⟨(some 4),.mov (.t 11),none⟩]))) <|
  .seq (.reg [⟨(some 20),.mov (.t 3),none⟩,
    ⟨(some 21),.bin .add (.t 20) (.c (.int .i64 1)),none⟩,
    ⟨(some 2),.mov (.t 21),none⟩]) <|
  .ret,
  [.t 2]⟩
theorem AO:cFn PP true fW yt (cDr PP 22 Br)=some xp:=by kernel_rfl
def yu:Nat->Option (List Nat×List Nat)
  | 1000009=>some ([],[])|4=>some ([1],[3])|_=>none
def Bs:Nat->Option (List Nat×List Nat×List Nat)
  | _=>none
def xq:af:=⟨27,
  .seq (.reg [⟨(some 1),.box (.t 0),none⟩,
    ⟨(some 2),.mov (.c (.bool false)),none⟩]) <|
  .seq (.seq (.reg [⟨(some 4),.fadd (.t 1) 0,none⟩,
    ⟨(some 5),.ld (.t 4) 1 false,none⟩,
    ⟨(some 6),.bin .eql (.t 5) (.c (.int .i64 8)),none⟩,
    ⟨(some 7),.mov (.t 6),none⟩,
    ⟨(some 8),.fadd (.t 1) 5,some (7,true)⟩,
    ⟨(some 9),.ld (.t 8) 1 false,some (7,true)⟩,
    ⟨(some 10),.len (.t 9),some (7,true)⟩,
    ⟨(some 11),.bin .gtr (.t 10) (.c (.int .i64 8)),some (7,true)⟩,
    ⟨(some 12),.pick (.t 7) (.t 11) (.c (.bool false)),none⟩]) <|
  .cond (.t 12) (.seq (.reg [⟨(some 2),.mov (.c (.bool false)),none⟩]) <|
  .ret) (.skip)) <|
  .seqj [] [] (.seq (.reg [⟨(some 3),.mov (.c (.int .i64 0)),none⟩]) <|
  .block 0 (.loop [1] [3] (.seq (.seq (.reg [⟨(some 13),.mov (.t 3),none⟩,
    ⟨(some 14),.fadd (.t 1) 5,none⟩,
    ⟨(some 15),.ld (.t 14) 1 false,none⟩,
    ⟨(some 16),.len (.t 15),none⟩,
    ⟨(some 17),.bin .lss (.t 13) (.t 16),none⟩]) <|
  .cond (.t 17) (.skip) (.exit 0)) <|
  .seq (.block 1 (.seq (.reg [⟨(some 20),.fadd (.t 1) 5,none⟩,
    ⟨(some 21),.ld (.t 20) 1 false,none⟩,
    ⟨(some 22),.mov (.t 3),none⟩,
    ⟨(some 23),.iadd (.t 21) (.t 22) 6,none⟩,
    ⟨(some 24),.ld (.t 23) 6 true,none⟩,
    ⟨(some 25),.call fX [(.t 24)],none⟩,
    ⟨(some 26),.un .not (.t 25),none⟩]) <|
  .cond (.t 26) (.seq (.reg [⟨(some 2),.mov (.c (.bool false)),none⟩]) <|
  .ret) (.skip))) <|
  .reg [⟨(some 18),.mov (.t 3),none⟩,
    ⟨(some 19),.bin .add (.t 18) (.c (.int .i64 1)),none⟩,
    ⟨(some 3),.mov (.t 19),none⟩]))) <|
  .seq (.reg [⟨(some 2),.mov (.c (.bool true)),none⟩]) <|
  .ret,
  [.t 2]⟩
theorem AP:cFn PP true fX yu (cDr PP 27 Bs)=some xq:=by kernel_rfl
def wO:Nat->Option (List Nat×List Nat)
  | 1000009=>some ([],[3])|5=>some ([1],[3,4])|_=>none
def Af:Nat->Option (List Nat×List Nat×List Nat)
  | _=>none
def uo:af:=⟨24,
  .seq (.reg [⟨(some 1),.box (.t 0),none⟩,
    ⟨(some 2),.mov (.c (.int .i64 0)),none⟩]) <|
  .seq (.seq (.reg [⟨(some 5),.fadd (.t 1) 0,none⟩,
    ⟨(some 6),.ld (.t 5) 1 false,none⟩,
    ⟨(some 7),.bin .eql (.t 6) (.c (.int .i64 0)),none⟩]) <|
  .cond (.t 7) (.seq (.reg [⟨(some 2),.mov (.c (.int .i64 0)),none⟩]) <|
  .ret) (.skip)) <|
  .seq (.reg [⟨(some 3),.mov (.c (.int .i64 1)),none⟩]) <|
  .seqj [] [3] (.seq (.reg [⟨(some 4),.mov (.c (.int .i64 0)),none⟩]) <|
  .block 0 (.loop [1] [3,4] (.seq (.seq (.reg [⟨(some 8),.mov (.t 4),none⟩,
    ⟨(some 9),.fadd (.t 1) 5,none⟩,
    ⟨(some 10),.ld (.t 9) 1 false,none⟩,
    ⟨(some 11),.len (.t 10),none⟩,
    ⟨(some 12),.bin .lss (.t 8) (.t 11),none⟩]) <|
  .cond (.t 12) (.skip) (.exit 0)) <|
  .seq (.block 1 (.reg [⟨(some 15),.mov (.t 3),none⟩,
    ⟨(some 16),.fadd (.t 1) 5,none⟩,
    ⟨(some 17),.ld (.t 16) 1 false,none⟩,
    ⟨(some 18),.mov (.t 4),none⟩,
    ⟨(some 19),.iadd (.t 17) (.t 18) 6,none⟩,
    ⟨(some 20),.ld (.t 19) 6 true,none⟩,
    ⟨(some 21),.call eR [(.t 20)],none⟩,
    ⟨(some 22),.bin .add (.t 15) (.t 21),none⟩,
    ⟨(some 3),.mov (.t 22),none⟩])) <|
  .reg [⟨(some 13),.mov (.t 4),none⟩,
    ⟨(some 14),.bin .add (.t 13) (.c (.int .i64 1)),none⟩,
    ⟨(some 4),.mov (.t 14),none⟩]))) <|
  .seq (.reg [⟨(some 23),.mov (.t 3),none⟩,
    ⟨(some 2),.mov (.t 23),none⟩]) <|
  .ret,
  [.t 2]⟩
theorem zg:cFn PP true eR wO (cDr PP 24 Af)=some uo:=by kernel_rfl
def uZ:Nat->Option (List Nat×List Nat)
  | _=>none
def x9:Nat->Option (List Nat×List Nat×List Nat)
  | _=>none
def sq:af:=⟨10,
  .seq (.reg [⟨(some 2),.mov (.c (.str ⟨#[]⟩)),none⟩]) <|
  .seq (.seq (.reg [⟨(some 3),.mov (.t 0),none⟩,
    ⟨(some 4),.bin .lss (.t 3) (.c (.int .i64 0)),none⟩]) <|
  .cond (.t 4) (.seq (.reg [⟨(some 5),.mov (.t 0),none⟩,
    ⟨(some 6),.call kj [(.t 5)],none⟩,
    ⟨(some 7),.bin .add (.c (.str ⟨#[45]⟩)) (.t 6),none⟩,
    ⟨(some 2),.mov (.t 7),none⟩]) <|
  .ret) (.skip)) <|
  .seq (.reg [⟨(some 8),.mov (.t 0),none⟩,
    ⟨(some 9),.call kj [(.t 8)],none⟩,
    ⟨(some 2),.mov (.t 9),none⟩]) <|
  .ret,
  [.t 2]⟩
theorem xz:cFn PP true cO uZ (cDr PP 10 x9)=some sq:=by kernel_rfl
def yr:Nat->Option (List Nat×List Nat)
  | _=>none
def Bq:Nat->Option (List Nat×List Nat×List Nat)
  | _=>none
def xl:af:=⟨17,
  .seq (.reg [⟨(some 4),.mov (.c (.str ⟨#[]⟩)),none⟩]) <|
  .seq (.seq (.reg [⟨(some 5),.mov (.t 1),none⟩,
    ⟨(some 6),.bin .lss (.t 5) (.c (.int .i64 0)),none⟩,
    ⟨(some 7),.mov (.t 6),none⟩,
    ⟨(some 8),.mov (.t 1),some (7,false)⟩,
    ⟨(some 9),.mov (.t 0),some (7,false)⟩,
    ⟨(some 10),.len (.t 9),some (7,false)⟩,
    ⟨(some 11),.bin .geq (.t 8) (.t 10),some (7,false)⟩,
    ⟨(some 12),.pick (.t 7) (.c (.bool true)) (.t 11),none⟩]) <|
  .cond (.t 12) (.seq (.reg [⟨(some 4),.mov (.c (.str ⟨#[]⟩)),none⟩]) <|
  .ret) (.skip)) <|
  .seq (.reg [⟨(some 13),.mov (.t 0),none⟩,
    ⟨(some 14),.mov (.t 1),none⟩,
    ⟨(some 15),.iadd (.t 13) (.t 14) 1,none⟩,
    ⟨(some 16),.ld (.t 15) 1 false,none⟩,
    ⟨(some 4),.mov (.t 16),none⟩]) <|
  .ret,
  [.t 4]⟩
theorem AN:cFn PP true bo yr (cDr PP 17 Bq)=some xl:=by kernel_rfl
def uT:Nat->Option (List Nat×List Nat)
  | _=>none
def xY:Nat->Option (List Nat×List Nat×List Nat)
  | _=>none
def sg:af:=⟨2,
  .seq (.reg [⟨(some 0),.mov (.c .nil),none⟩]) <|
  .seq (.reg [⟨(some 1),.bldS true 1 3 (.str ⟨#[]⟩) [(0,(.c (.str ⟨#[103,108,111,98,97,108]⟩))),(1,(.c (.str ⟨#[115,104,97,114,101,100]⟩))),(2,(.c (.str ⟨#[112,114,105,118,97,116,101]⟩)))],none⟩,
    ⟨(some 0),.mov (.t 1),none⟩]) <|
  .ret,
  [.t 0]⟩
theorem xk:cFn PP true fU uT (cDr PP 2 xY)=some sg:=by kernel_rfl
def wI:Nat->Option (List Nat×List Nat)
  | _=>none
def z9:Nat->Option (List Nat×List Nat×List Nat)
  | _=>none
def ug:af:=⟨2,
  .seq (.reg [⟨(some 0),.mov (.c .nil),none⟩]) <|
  .seq (.reg [⟨(some 1),.bldS true 1 3 (.str ⟨#[]⟩) [(0,(.c (.str ⟨#[105,110,116]⟩))),(1,(.c (.str ⟨#[102,105,120]⟩))),(2,(.c (.str ⟨#[98,111,111,108]⟩)))],none⟩,
    ⟨(some 0),.mov (.t 1),none⟩]) <|
  .ret,
  [.t 0]⟩
theorem y7:cFn PP true dB wI (cDr PP 2 z9)=some ug:=by kernel_rfl
def wJ:Nat->Option (List Nat×List Nat)
  | 1000007=>some ([],[5])|3=>some ([0,1],[5,6])|_=>none
def Aa:Nat->Option (List Nat×List Nat×List Nat)
  | _=>none
def uh:af:=⟨25,
  .seq (.reg [⟨(some 4),.mov (.c (.str ⟨#[]⟩)),none⟩]) <|
  .seq (.reg [⟨(some 5),.mov (.c (.str ⟨#[]⟩)),none⟩]) <|
  .seqj [] [5] (.seq (.reg [⟨(some 6),.mov (.c (.int .i64 0)),none⟩]) <|
  .block 0 (.loop [0,1] [5,6] (.seq (.seq (.reg [⟨(some 7),.mov (.t 6),none⟩,
    ⟨(some 8),.mov (.t 0),none⟩,
    ⟨(some 9),.len (.t 8),none⟩,
    ⟨(some 10),.bin .lss (.t 7) (.t 9),none⟩]) <|
  .cond (.t 10) (.skip) (.exit 0)) <|
  .seq (.block 1 (.reg [⟨(some 13),.mov (.t 5),none⟩,
    ⟨(some 14),.mov (.t 1),none⟩,
    ⟨(some 15),.mov (.t 0),none⟩,
    ⟨(some 16),.mov (.t 6),none⟩,
    ⟨(some 17),.iadd (.t 15) (.t 16) 19,none⟩,
    ⟨(some 18),.ld (.t 17) 19 true,none⟩,
    ⟨(some 19),.mov (.t 1),none⟩,
    ⟨(some 20),.call zt [(.t 18),(.t 19)],none⟩,
    ⟨(some 21),.bin .add (.t 14) (.t 20),none⟩,
    ⟨(some 22),.bin .add (.t 21) (.c (.str ⟨#[10]⟩)),none⟩,
    ⟨(some 23),.bin .add (.t 13) (.t 22),none⟩,
    ⟨(some 5),.mov (.t 23),none⟩])) <|
  .reg [⟨(some 11),.mov (.t 6),none⟩,
    ⟨(some 12),.bin .add (.t 11) (.c (.int .i64 1)),none⟩,
    ⟨(some 6),.mov (.t 12),none⟩]))) <|
  .seq (.reg [⟨(some 24),.mov (.t 5),none⟩,
    ⟨(some 4),.mov (.t 24),none⟩]) <|
  .ret,
  [.t 4]⟩
theorem y8:cFn PP true dC wJ (cDr PP 25 Aa)=some uh:=by kernel_rfl
def wN:Nat->Option (List Nat×List Nat)
  | _=>none
def Ae:Nat->Option (List Nat×List Nat×List Nat)
  | 7=>some ([0,0,2,6,15,31],[],[])|9=>some ([0,0,2,6,15,31,0,64,223,511,1023,2047],[],[])|12=>some ([0,0,2,6,15,31,0,64,223,511,1023,2047],[],[])|13=>some ([0,1,3,7,15,31,15,0,128,384,975,2047,4095,0,8192,26575,59343,131071,262143,524287],[],[])|15=>some ([0,1,3,7,15,31,0,64,207,463,1023,2047,0,4096,13263,29647,65535,131071,262143],[],[])|17=>some ([0,1,3,0,8,24,56,127,255,511],[],[])|19=>some ([0,1,3,0,8,24,63,127,255],[],[])|_=>none
def um:af:=⟨118,
  .seq (.reg [⟨(some 1),.box (.t 0),none⟩,
    ⟨(some 2),.mov (.c (.str ⟨#[]⟩)),none⟩]) <|
  .seq (.seq (.reg [⟨(some 3),.fadd (.t 1) 0,none⟩,
    ⟨(some 4),.ld (.t 3) 1 false,none⟩]) <|
  .block 0 (.seq (.reg [⟨(some 6),.bin .eql (.t 4) (.c (.int .i64 1)),none⟩,
    ⟨(some 5),.mov (.t 6),none⟩]) <|
  .cond (.t 5) (.seq (.reg [⟨(some 7),.fadd (.t 1) 2,none⟩,
    ⟨(some 8),.ld (.t 7) 1 false,none⟩,
    ⟨(some 9),.fadd (.t 1) 4,none⟩,
    ⟨(some 10),.ld (.t 9) 1 false,none⟩,
    ⟨(some 11),.call kG [(.t 8),(.t 10)],none⟩,
    ⟨(some 12),.fld (.t 11) 0 1 false,none⟩,
    ⟨(some 2),.mov (.t 12),none⟩]) <|
  .ret) (.seq (.reg [⟨(some 14),.bin .eql (.t 4) (.c (.int .i64 2)),none⟩,
    ⟨(some 13),.mov (.t 14),none⟩]) <|
  .cond (.t 13) (.seq (.reg [⟨(some 15),.fadd (.t 1) 3,none⟩,
    ⟨(some 16),.ld (.t 15) 1 false,none⟩,
    ⟨(some 2),.mov (.t 16),none⟩]) <|
  .ret) (.seq (.reg [⟨(some 18),.bin .eql (.t 4) (.c (.int .i64 3)),none⟩,
    ⟨(some 17),.mov (.t 18),none⟩]) <|
  .cond (.t 17) (.seq (.dreg [⟨(some 19),.call zu [],none⟩,
    ⟨(some 20),.fadd (.t 1) 1,none⟩,
    ⟨(some 21),.ld (.t 20) 1 false,none⟩,
    ⟨(some 22),.bin .sub (.t 21) (.c (.int .i64 1)),none⟩,
    ⟨(some 23),.call bo [(.t 19),(.t 22)],none⟩,
    ⟨(some 2),.mov (.t 23),none⟩] [] []) <|
  .ret) (.seq (.reg [⟨(some 25),.bin .eql (.t 4) (.c (.int .i64 4)),none⟩,
    ⟨(some 24),.mov (.t 25),none⟩]) <|
  .cond (.t 24) (.seq (.dreg [⟨(some 26),.call iz [],none⟩,
    ⟨(some 27),.fadd (.t 1) 1,none⟩,
    ⟨(some 28),.ld (.t 27) 1 false,none⟩,
    ⟨(some 29),.bin .sub (.t 28) (.c (.int .i64 1)),none⟩,
    ⟨(some 30),.call bo [(.t 26),(.t 29)],none⟩,
    ⟨(some 31),.bin .add (.t 30) (.c (.str ⟨#[40]⟩)),none⟩,
    ⟨(some 32),.fadd (.t 1) 5,none⟩,
    ⟨(some 33),.ld (.t 32) 1 false,none⟩,
    ⟨(some 34),.call fV [(.t 33)],none⟩,
    ⟨(some 35),.bin .add (.t 31) (.t 34),none⟩,
    ⟨(some 36),.bin .add (.t 35) (.c (.str ⟨#[41]⟩)),none⟩,
    ⟨(some 2),.mov (.t 36),none⟩] [] []) <|
  .ret) (.seq (.reg [⟨(some 38),.bin .eql (.t 4) (.c (.int .i64 5)),none⟩,
    ⟨(some 37),.mov (.t 38),none⟩]) <|
  .cond (.t 37) (.seq (.seq (.reg [⟨(some 39),.fadd (.t 1) 1,none⟩,
    ⟨(some 40),.ld (.t 39) 1 false,none⟩,
    ⟨(some 41),.bin .eql (.t 40) (.c (.int .i64 22)),none⟩,
    ⟨(some 42),.mov (.t 41),none⟩,
    ⟨(some 43),.fadd (.t 1) 1,some (42,false)⟩,
    ⟨(some 44),.ld (.t 43) 1 false,some (42,false)⟩,
    ⟨(some 45),.bin .eql (.t 44) (.c (.int .i64 23)),some (42,false)⟩,
    ⟨(some 46),.pick (.t 42) (.c (.bool true)) (.t 45),none⟩]) <|
  .cond (.t 46) (.seq (.dreg [⟨(some 47),.call fZ [],none⟩,
    ⟨(some 48),.fadd (.t 1) 1,none⟩,
    ⟨(some 49),.ld (.t 48) 1 false,none⟩,
    ⟨(some 50),.bin .sub (.t 49) (.c (.int .i64 10)),none⟩,
    ⟨(some 51),.call bo [(.t 47),(.t 50)],none⟩,
    ⟨(some 52),.bin .add (.t 51) (.c (.str ⟨#[40]⟩)),none⟩,
    ⟨(some 53),.fadd (.t 1) 5,none⟩,
    ⟨(some 54),.ld (.t 53) 1 false,none⟩,
    ⟨(some 55),.call fV [(.t 54)],none⟩,
    ⟨(some 56),.bin .add (.t 52) (.t 55),none⟩,
    ⟨(some 57),.bin .add (.t 56) (.c (.str ⟨#[41]⟩)),none⟩,
    ⟨(some 2),.mov (.t 57),none⟩] [] []) <|
  .ret) (.skip)) <|
  .seq (.dreg [⟨(some 58),.fadd (.t 1) 5,none⟩,
    ⟨(some 59),.ld (.t 58) 1 false,none⟩,
    ⟨(some 60),.call ff [(.t 59),(.c (.int .i64 0))],none⟩,
    ⟨(some 61),.call aN [(.t 60)],none⟩,
    ⟨(some 62),.bin .add (.c (.str ⟨#[40]⟩)) (.t 61),none⟩,
    ⟨(some 63),.bin .add (.t 62) (.c (.str ⟨#[32]⟩)),none⟩,
    ⟨(some 64),.call fZ [],none⟩,
    ⟨(some 65),.fadd (.t 1) 1,none⟩,
    ⟨(some 66),.ld (.t 65) 1 false,none⟩,
    ⟨(some 67),.bin .sub (.t 66) (.c (.int .i64 10)),none⟩,
    ⟨(some 68),.call bo [(.t 64),(.t 67)],none⟩,
    ⟨(some 69),.bin .add (.t 63) (.t 68),none⟩,
    ⟨(some 70),.bin .add (.t 69) (.c (.str ⟨#[32]⟩)),none⟩,
    ⟨(some 71),.fadd (.t 1) 5,none⟩,
    ⟨(some 72),.ld (.t 71) 1 false,none⟩,
    ⟨(some 73),.call ff [(.t 72),(.c (.int .i64 1))],none⟩,
    ⟨(some 74),.call aN [(.t 73)],none⟩,
    ⟨(some 75),.bin .add (.t 70) (.t 74),none⟩,
    ⟨(some 76),.bin .add (.t 75) (.c (.str ⟨#[41]⟩)),none⟩,
    ⟨(some 2),.mov (.t 76),none⟩] [] []) <|
  .ret) (.seq (.reg [⟨(some 78),.bin .eql (.t 4) (.c (.int .i64 6)),none⟩,
    ⟨(some 77),.mov (.t 78),none⟩]) <|
  .cond (.t 77) (.seq (.dreg [⟨(some 79),.fadd (.t 1) 5,none⟩,
    ⟨(some 80),.ld (.t 79) 1 false,none⟩,
    ⟨(some 81),.call ff [(.t 80),(.c (.int .i64 0))],none⟩,
    ⟨(some 82),.call aN [(.t 81)],none⟩,
    ⟨(some 83),.bin .add (.c (.str ⟨#[40]⟩)) (.t 82),none⟩,
    ⟨(some 84),.bin .add (.t 83) (.c (.str ⟨#[32,63,32]⟩)),none⟩,
    ⟨(some 85),.fadd (.t 1) 5,none⟩,
    ⟨(some 86),.ld (.t 85) 1 false,none⟩,
    ⟨(some 87),.call ff [(.t 86),(.c (.int .i64 1))],none⟩,
    ⟨(some 88),.call aN [(.t 87)],none⟩,
    ⟨(some 89),.bin .add (.t 84) (.t 88),none⟩,
    ⟨(some 90),.bin .add (.t 89) (.c (.str ⟨#[32,58,32]⟩)),none⟩,
    ⟨(some 91),.fadd (.t 1) 5,none⟩,
    ⟨(some 92),.ld (.t 91) 1 false,none⟩,
    ⟨(some 93),.call ff [(.t 92),(.c (.int .i64 2))],none⟩,
    ⟨(some 94),.call aN [(.t 93)],none⟩,
    ⟨(some 95),.bin .add (.t 90) (.t 94),none⟩,
    ⟨(some 96),.bin .add (.t 95) (.c (.str ⟨#[41]⟩)),none⟩,
    ⟨(some 2),.mov (.t 96),none⟩] [] []) <|
  .ret) (.seq (.reg [⟨(some 98),.bin .eql (.t 4) (.c (.int .i64 7)),none⟩,
    ⟨(some 97),.mov (.t 98),none⟩]) <|
  .cond (.t 97) (.seq (.dreg [⟨(some 99),.fadd (.t 1) 3,none⟩,
    ⟨(some 100),.ld (.t 99) 1 false,none⟩,
    ⟨(some 101),.bin .add (.t 100) (.c (.str ⟨#[91]⟩)),none⟩,
    ⟨(some 102),.fadd (.t 1) 5,none⟩,
    ⟨(some 103),.ld (.t 102) 1 false,none⟩,
    ⟨(some 104),.call ff [(.t 103),(.c (.int .i64 0))],none⟩,
    ⟨(some 105),.call aN [(.t 104)],none⟩,
    ⟨(some 106),.bin .add (.t 101) (.t 105),none⟩,
    ⟨(some 107),.bin .add (.t 106) (.c (.str ⟨#[93]⟩)),none⟩,
    ⟨(some 2),.mov (.t 107),none⟩] [] []) <|
  .ret) (.seq (.reg [⟨(some 109),.bin .eql (.t 4) (.c (.int .i64 8)),none⟩,
    ⟨(some 108),.mov (.t 109),none⟩]) <|
  .cond (.t 108) (.seq (.dreg [⟨(some 110),.fadd (.t 1) 3,none⟩,
    ⟨(some 111),.ld (.t 110) 1 false,none⟩,
    ⟨(some 112),.bin .add (.t 111) (.c (.str ⟨#[40]⟩)),none⟩,
    ⟨(some 113),.fadd (.t 1) 5,none⟩,
    ⟨(some 114),.ld (.t 113) 1 false,none⟩,
    ⟨(some 115),.call fV [(.t 114)],none⟩,
    ⟨(some 116),.bin .add (.t 112) (.t 115),none⟩,
    ⟨(some 117),.bin .add (.t 116) (.c (.str ⟨#[41]⟩)),none⟩,
    ⟨(some 2),.mov (.t 117),none⟩] [] []) <|
  .ret) (.skip)))))))))) <|
  .seq (.reg [⟨(some 2),.mov (.c (.str ⟨#[]⟩)),none⟩]) <|
  .ret,
  [.t 2]⟩
theorem zf:cFn PP true aN wN (cDr PP 118 Ae)=some um:=by kernel_rfl
def m7:Nat->Option (List Nat×List Nat)
  | _=>none
def pV:Nat->Option (List Nat×List Nat×List Nat)
  | _=>none
def jM:af:=⟨10,
  .seq (.reg [⟨(some 4),.mov (.t 0),none⟩,
    ⟨(some 5),.mov (.t 1),none⟩,
    ⟨(some 6),.call av [(.t 4),(.t 5)],none⟩,
    ⟨(some 7),.un .not (.t 6),none⟩]) <|
  .cond (.t 7) (.reg [⟨(some 8),.mov (.t 0),none⟩,
    ⟨(some 9),.call aY [(.t 8),(.c (.bool false))],none⟩]) (.skip),
  []⟩
theorem pc:cFn PP true aD m7 (cDr PP 10 pV)=some jM:=by kernel_rfl
def ng:Nat->Option (List Nat×List Nat)
  | _=>none
def p5:Nat->Option (List Nat×List Nat×List Nat)
  | 5=>some ([0,0,2,6,14,0,32,96,224,510,1022,2047,4095,8191],[13],[])|_=>none
def jR:af:=⟨32,
  .seq (.reg [⟨(some 2),.mov (.c (.str ⟨#[]⟩)),none⟩]) <|
  .seq (.reg [⟨(some 4),.mov (.t 0),none⟩,
    ⟨(some 5),.call aM [(.t 4),(.c (.bool false))],none⟩,
    ⟨(some 3),.mov (.t 5),none⟩]) <|
  .seq (.seq (.reg [⟨(some 6),.mov (.t 0),none⟩,
    ⟨(some 7),.fadd (.t 6) 0,none⟩,
    ⟨(some 8),.fadd (.t 7) 2,none⟩,
    ⟨(some 9),.ld (.t 8) 1 false,none⟩,
    ⟨(some 10),.bin .geq (.t 9) (.c (.int .i64 0)),none⟩,
    ⟨(some 11),.mov (.t 10),none⟩,
    ⟨(some 12),.mov (.t 3),some (11,false)⟩,
    ⟨(some 13),.call oA [(.t 12)],some (11,false)⟩,
    ⟨(some 14),.un .not (.t 13),some (11,false)⟩,
    ⟨(some 15),.pick (.t 11) (.c (.bool true)) (.t 14),none⟩]) <|
  .cond (.t 15) (.seq (.reg [⟨(some 16),.mov (.t 0),none⟩,
    ⟨(some 17),.call aY [(.t 16),(.c (.bool false))],none⟩]) <|
  .seq (.reg [⟨(some 2),.mov (.c (.str ⟨#[]⟩)),none⟩]) <|
  .ret) (.skip)) <|
  .seq (.dreg [⟨(some 18),.mov (.t 0),none⟩,
    ⟨(some 19),.mov (.t 0),none⟩,
    ⟨(some 20),.fadd (.t 19) 0,none⟩,
    ⟨(some 21),.fadd (.t 20) 0,none⟩,
    ⟨(some 22),.ld (.t 21) 1 false,none⟩,
    ⟨(some 23),.mov (.t 0),none⟩,
    ⟨(some 24),.fadd (.t 23) 0,none⟩,
    ⟨(some 25),.fadd (.t 24) 1,none⟩,
    ⟨(some 26),.ld (.t 25) 1 false,none⟩,
    ⟨(some 27),.call dg [(.t 22),(.t 26),(.c (.bool false))],none⟩,
    ⟨(some 28),.fld (.t 27) 1 1 false,none⟩,
    ⟨(some 29),.fadd (.t 18) 0,none⟩,
    ⟨(some 30),.fadd (.t 29) 1,none⟩] [⟨none,.st (.t 30) (.t 28) 1,none⟩] []) <|
  .seq (.reg [⟨(some 31),.mov (.t 3),none⟩,
    ⟨(some 2),.mov (.t 31),none⟩]) <|
  .ret,
  [.t 2]⟩
theorem ph:cFn PP true bm ng (cDr PP 32 p5)=some jR:=by kernel_rfl
def na:Nat->Option (List Nat×List Nat)
  | _=>none
def pY:Nat->Option (List Nat×List Nat×List Nat)
  | 5=>some ([0,0,2,6,14,0,32,96,224,510,1022,2047,4095,8191],[13],[])|_=>none
def jP:af:=⟨36,
  .seq (.reg [⟨(some 2),.mov (.c (.int .i64 0)),none⟩]) <|
  .seq (.reg [⟨(some 6),.mov (.t 0),none⟩,
    ⟨(some 7),.call aM [(.t 6),(.c (.bool true))],none⟩,
    ⟨(some 8),.call tG [(.t 7)],none⟩,
    ⟨(some 5),.mov (.t 8),none⟩,
    ⟨(some 9),.ext (.t 5) 0,none⟩,
    ⟨(some 10),.ext (.t 5) 1,none⟩,
    ⟨(some 3),.mov (.t 9),none⟩,
    ⟨(some 4),.mov (.t 10),none⟩]) <|
  .seq (.seq (.reg [⟨(some 11),.mov (.t 0),none⟩,
    ⟨(some 12),.fadd (.t 11) 0,none⟩,
    ⟨(some 13),.fadd (.t 12) 2,none⟩,
    ⟨(some 14),.ld (.t 13) 1 false,none⟩,
    ⟨(some 15),.bin .geq (.t 14) (.c (.int .i64 0)),none⟩,
    ⟨(some 16),.mov (.t 15),none⟩,
    ⟨(some 17),.mov (.t 4),some (16,false)⟩,
    ⟨(some 18),.un .not (.t 17),some (16,false)⟩,
    ⟨(some 19),.pick (.t 16) (.c (.bool true)) (.t 18),none⟩]) <|
  .cond (.t 19) (.seq (.reg [⟨(some 20),.mov (.t 0),none⟩,
    ⟨(some 21),.call aY [(.t 20),(.c (.bool true))],none⟩]) <|
  .seq (.reg [⟨(some 2),.mov (.c (.int .i64 0)),none⟩]) <|
  .ret) (.skip)) <|
  .seq (.dreg [⟨(some 22),.mov (.t 0),none⟩,
    ⟨(some 23),.mov (.t 0),none⟩,
    ⟨(some 24),.fadd (.t 23) 0,none⟩,
    ⟨(some 25),.fadd (.t 24) 0,none⟩,
    ⟨(some 26),.ld (.t 25) 1 false,none⟩,
    ⟨(some 27),.mov (.t 0),none⟩,
    ⟨(some 28),.fadd (.t 27) 0,none⟩,
    ⟨(some 29),.fadd (.t 28) 1,none⟩,
    ⟨(some 30),.ld (.t 29) 1 false,none⟩,
    ⟨(some 31),.call dg [(.t 26),(.t 30),(.c (.bool true))],none⟩,
    ⟨(some 32),.fld (.t 31) 1 1 false,none⟩,
    ⟨(some 33),.fadd (.t 22) 0,none⟩,
    ⟨(some 34),.fadd (.t 33) 1,none⟩] [⟨none,.st (.t 34) (.t 32) 1,none⟩] []) <|
  .seq (.reg [⟨(some 35),.mov (.t 3),none⟩,
    ⟨(some 2),.mov (.t 35),none⟩]) <|
  .ret,
  [.t 2]⟩
theorem pf:cFn PP true b6 na (cDr PP 36 pY)=some jP:=by kernel_rfl
def B6:Nat->Option (List Nat×List Nat)
  | 1000007=>some ([],[])|2=>some ([0,1],[5])|_=>none
def D4:Nat->Option (List Nat×List Nat×List Nat)
  | _=>none
def CH:af:=⟨18,
  .seq (.reg [⟨(some 4),.mov (.c (.bool false)),none⟩]) <|
  .seqj [] [] (.seq (.reg [⟨(some 5),.mov (.c (.int .i64 0)),none⟩]) <|
  .block 0 (.loop [0,1] [5] (.seq (.seq (.reg [⟨(some 6),.mov (.t 5),none⟩,
    ⟨(some 7),.mov (.t 0),none⟩,
    ⟨(some 8),.len (.t 7),none⟩,
    ⟨(some 9),.bin .lss (.t 6) (.t 8),none⟩]) <|
  .cond (.t 9) (.skip) (.exit 0)) <|
  .seq (.block 1 (.seq (.reg [⟨(some 12),.mov (.t 0),none⟩,
    ⟨(some 13),.mov (.t 5),none⟩,
    ⟨(some 14),.iadd (.t 12) (.t 13) 1,none⟩,
    ⟨(some 15),.ld (.t 14) 1 false,none⟩,
    ⟨(some 16),.mov (.t 1),none⟩,
    ⟨(some 17),.bin .eql (.t 15) (.t 16),none⟩]) <|
  .cond (.t 17) (.seq (.reg [⟨(some 4),.mov (.c (.bool true)),none⟩]) <|
  .ret) (.skip))) <|
  .reg [⟨(some 10),.mov (.t 5),none⟩,
    ⟨(some 11),.bin .add (.t 10) (.c (.int .i64 1)),none⟩,
    ⟨(some 5),.mov (.t 11),none⟩]))) <|
  .seq (.reg [⟨(some 4),.mov (.c (.bool false)),none⟩]) <|
  .ret,
  [.t 4]⟩
theorem Dj:cFn PP true dV B6 (cDr PP 18 D4)=some CH:=by kernel_rfl
def nc:Nat->Option (List Nat×List Nat)
  | _=>none
def pZ:Nat->Option (List Nat×List Nat×List Nat)
  | 1=>some ([0,1,3,7,0,16,48,112,0,511,0,2047],[10,11],[])|2=>some ([0,1,3,7,0,16,0,64,255,511],[],[])|_=>none
def jQ:af:=⟨25,
  .seq (.reg [⟨(some 4),.mov (.c (.str ⟨#[]⟩)),none⟩]) <|
  .seq (.dreg [⟨(some 6),.mov (.t 0),none⟩,
    ⟨(some 7),.fadd (.t 6) 0,none⟩,
    ⟨(some 8),.fadd (.t 7) 0,none⟩,
    ⟨(some 9),.ld (.t 8) 1 false,none⟩,
    ⟨(some 10),.mov (.t 0),none⟩,
    ⟨(some 11),.fadd (.t 10) 0,none⟩,
    ⟨(some 12),.fadd (.t 11) 1,none⟩,
    ⟨(some 13),.ld (.t 12) 1 false,none⟩,
    ⟨(some 14),.mov (.t 1),none⟩,
    ⟨(some 15),.call dg [(.t 9),(.t 13),(.t 14)],none⟩] [⟨(some 5),.alloc (.agg [(.int .i64 0),(.int .i64 0)]),none⟩,
    ⟨none,.st (.t 5) (.t 15) 2,none⟩] []) <|
  .seq (.dreg [⟨(some 16),.mov (.t 0),none⟩,
    ⟨(some 17),.fadd (.t 16) 0,none⟩,
    ⟨(some 18),.fadd (.t 17) 0,none⟩,
    ⟨(some 19),.ld (.t 18) 1 false,none⟩,
    ⟨(some 20),.fadd (.t 5) 0,none⟩,
    ⟨(some 21),.ld (.t 20) 1 false,none⟩,
    ⟨(some 22),.fadd (.t 5) 1,none⟩,
    ⟨(some 23),.ld (.t 22) 1 false,none⟩,
    ⟨(some 24),.sslc (.t 19) (some (.t 21)) (some (.t 23)),none⟩,
    ⟨(some 4),.mov (.t 24),none⟩] [] []) <|
  .ret,
  [.t 4]⟩
theorem pg:cFn PP true aM nc (cDr PP 25 pZ)=some jQ:=by kernel_rfl
def ly:Nat->Option (List Nat×List Nat)
  | _=>none
def mO:Nat->Option (List Nat×List Nat×List Nat)
  | 5=>some ([0,0,2,6,14,0,32,96,224,510,1022,2047,4095,8191],[13],[])|_=>none
def hO:af:=⟨35,
  .seq (.reg [⟨(some 4),.mov (.c (.int .i64 0)),none⟩]) <|
  .seq (.reg [⟨(some 6),.mov (.t 1),none⟩,
    ⟨(some 7),.mov (.t 0),none⟩,
    ⟨(some 8),.call aM [(.t 7),(.c (.bool false))],none⟩,
    ⟨(some 9),.call tI [(.t 6),(.t 8)],none⟩,
    ⟨(some 5),.mov (.t 9),none⟩]) <|
  .seq (.seq (.reg [⟨(some 10),.mov (.t 0),none⟩,
    ⟨(some 11),.fadd (.t 10) 0,none⟩,
    ⟨(some 12),.fadd (.t 11) 2,none⟩,
    ⟨(some 13),.ld (.t 12) 1 false,none⟩,
    ⟨(some 14),.bin .geq (.t 13) (.c (.int .i64 0)),none⟩,
    ⟨(some 15),.mov (.t 14),none⟩,
    ⟨(some 16),.mov (.t 5),some (15,false)⟩,
    ⟨(some 17),.bin .lss (.t 16) (.c (.int .i64 0)),some (15,false)⟩,
    ⟨(some 18),.pick (.t 15) (.c (.bool true)) (.t 17),none⟩]) <|
  .cond (.t 18) (.seq (.reg [⟨(some 19),.mov (.t 0),none⟩,
    ⟨(some 20),.call aY [(.t 19),(.c (.bool false))],none⟩]) <|
  .seq (.reg [⟨(some 4),.mov (.c (.int .i64 0)),none⟩]) <|
  .ret) (.skip)) <|
  .seq (.dreg [⟨(some 21),.mov (.t 0),none⟩,
    ⟨(some 22),.mov (.t 0),none⟩,
    ⟨(some 23),.fadd (.t 22) 0,none⟩,
    ⟨(some 24),.fadd (.t 23) 0,none⟩,
    ⟨(some 25),.ld (.t 24) 1 false,none⟩,
    ⟨(some 26),.mov (.t 0),none⟩,
    ⟨(some 27),.fadd (.t 26) 0,none⟩,
    ⟨(some 28),.fadd (.t 27) 1,none⟩,
    ⟨(some 29),.ld (.t 28) 1 false,none⟩,
    ⟨(some 30),.call dg [(.t 25),(.t 29),(.c (.bool false))],none⟩,
    ⟨(some 31),.fld (.t 30) 1 1 false,none⟩,
    ⟨(some 32),.fadd (.t 21) 0,none⟩,
    ⟨(some 33),.fadd (.t 32) 1,none⟩] [⟨none,.st (.t 33) (.t 31) 1,none⟩] []) <|
  .seq (.reg [⟨(some 34),.mov (.t 5),none⟩,
    ⟨(some 4),.mov (.t 34),none⟩]) <|
  .ret,
  [.t 4]⟩
theorem mC:cFn PP true aL ly (cDr PP 35 mO)=some hO:=by kernel_rfl
def m8:Nat->Option (List Nat×List Nat)
  | _=>none
def pW:Nat->Option (List Nat×List Nat×List Nat)
  | 3=>some ([0,0,2,6,14,0,32,96,224,510,1022,2047,4095,8191],[13],[])|_=>none
def jN:af:=⟨29,
  .seq (.reg [⟨(some 4),.mov (.c (.bool false)),none⟩]) <|
  .seq (.seq (.reg [⟨(some 5),.mov (.t 0),none⟩,
    ⟨(some 6),.fadd (.t 5) 0,none⟩,
    ⟨(some 7),.fadd (.t 6) 2,none⟩,
    ⟨(some 8),.ld (.t 7) 1 false,none⟩,
    ⟨(some 9),.bin .geq (.t 8) (.c (.int .i64 0)),none⟩,
    ⟨(some 10),.mov (.t 9),none⟩,
    ⟨(some 11),.mov (.t 0),some (10,false)⟩,
    ⟨(some 12),.call aM [(.t 11),(.c (.bool false))],some (10,false)⟩,
    ⟨(some 13),.mov (.t 1),some (10,false)⟩,
    ⟨(some 14),.bin .neq (.t 12) (.t 13),some (10,false)⟩,
    ⟨(some 15),.pick (.t 10) (.c (.bool true)) (.t 14),none⟩]) <|
  .cond (.t 15) (.seq (.reg [⟨(some 4),.mov (.c (.bool false)),none⟩]) <|
  .ret) (.skip)) <|
  .seq (.dreg [⟨(some 16),.mov (.t 0),none⟩,
    ⟨(some 17),.mov (.t 0),none⟩,
    ⟨(some 18),.fadd (.t 17) 0,none⟩,
    ⟨(some 19),.fadd (.t 18) 0,none⟩,
    ⟨(some 20),.ld (.t 19) 1 false,none⟩,
    ⟨(some 21),.mov (.t 0),none⟩,
    ⟨(some 22),.fadd (.t 21) 0,none⟩,
    ⟨(some 23),.fadd (.t 22) 1,none⟩,
    ⟨(some 24),.ld (.t 23) 1 false,none⟩,
    ⟨(some 25),.call dg [(.t 20),(.t 24),(.c (.bool false))],none⟩,
    ⟨(some 26),.fld (.t 25) 1 1 false,none⟩,
    ⟨(some 27),.fadd (.t 16) 0,none⟩,
    ⟨(some 28),.fadd (.t 27) 1,none⟩] [⟨none,.st (.t 28) (.t 26) 1,none⟩] []) <|
  .seq (.reg [⟨(some 4),.mov (.c (.bool true)),none⟩]) <|
  .ret,
  [.t 4]⟩
theorem pd:cFn PP true av m8 (cDr PP 29 pW)=some jN:=by kernel_rfl
def mj:Nat->Option (List Nat×List Nat)
  | _=>none
def om:Nat->Option (List Nat×List Nat×List Nat)
  | _=>none
def jj:af:=⟨11,
  .seq (.reg [⟨(some 2),.mov (.c .nil),none⟩]) <|
  .seq (.reg [⟨(some 4),.mov (.t 0),none⟩,
    ⟨(some 5),.call aD [(.t 4),(.c (.str ⟨#[123]⟩))],none⟩]) <|
  .seq (.reg [⟨(some 6),.mov (.t 0),none⟩,
    ⟨(some 7),.call iP [(.t 6)],none⟩,
    ⟨(some 3),.mov (.t 7),none⟩]) <|
  .seq (.reg [⟨(some 8),.mov (.t 0),none⟩,
    ⟨(some 9),.call aD [(.t 8),(.c (.str ⟨#[125]⟩))],none⟩]) <|
  .seq (.reg [⟨(some 10),.mov (.t 3),none⟩,
    ⟨(some 2),.mov (.t 10),none⟩]) <|
  .ret,
  [.t 2]⟩
theorem nP:cFn PP true bP mj (cDr PP 11 om)=some jj:=by kernel_rfl
def oG:Nat->Option (List Nat×List Nat)
  | 1000009=>some ([],[])|4=>some ([0,1],[5])|_=>none
def qE:Nat->Option (List Nat×List Nat×List Nat)
  | 6=>some ([0,0,3,7,0,0,48,112,255],[],[])|_=>none
def kX:af:=⟨26,
  .seq (.reg [⟨(some 4),.mov (.c (.bool false)),none⟩]) <|
  .seq (.seq (.reg [⟨(some 6),.mov (.t 0),none⟩,
    ⟨(some 7),.len (.t 6),none⟩,
    ⟨(some 8),.mov (.t 1),none⟩,
    ⟨(some 9),.len (.t 8),none⟩,
    ⟨(some 10),.bin .neq (.t 7) (.t 9),none⟩]) <|
  .cond (.t 10) (.seq (.reg [⟨(some 4),.mov (.c (.bool false)),none⟩]) <|
  .ret) (.skip)) <|
  .seqj [] [] (.seq (.reg [⟨(some 5),.mov (.c (.int .i64 0)),none⟩]) <|
  .block 0 (.loop [0,1] [5] (.seq (.seq (.reg [⟨(some 11),.mov (.t 5),none⟩,
    ⟨(some 12),.mov (.t 0),none⟩,
    ⟨(some 13),.len (.t 12),none⟩,
    ⟨(some 14),.bin .lss (.t 11) (.t 13),none⟩]) <|
  .cond (.t 14) (.skip) (.exit 0)) <|
  .seq (.block 1 (.seq (.dreg [⟨(some 17),.mov (.t 0),none⟩,
    ⟨(some 18),.mov (.t 5),none⟩,
    ⟨(some 19),.iadd (.t 17) (.t 18) 2,none⟩,
    ⟨(some 20),.ld (.t 19) 2 true,none⟩,
    ⟨(some 21),.mov (.t 1),none⟩,
    ⟨(some 22),.mov (.t 5),none⟩,
    ⟨(some 23),.iadd (.t 21) (.t 22) 2,none⟩,
    ⟨(some 24),.ld (.t 23) 2 true,none⟩,
    ⟨(some 25),.eqv true true [.s,.i] (.t 20) (.t 24),none⟩] [] []) <|
  .cond (.t 25) (.seq (.reg [⟨(some 4),.mov (.c (.bool false)),none⟩]) <|
  .ret) (.skip))) <|
  .reg [⟨(some 15),.mov (.t 5),none⟩,
    ⟨(some 16),.bin .add (.t 15) (.c (.int .i64 1)),none⟩,
    ⟨(some 5),.mov (.t 16),none⟩]))) <|
  .seq (.reg [⟨(some 4),.mov (.c (.bool true)),none⟩]) <|
  .ret,
  [.t 4]⟩
theorem qp:cFn PP true fe oG (cDr PP 26 qE)=some kX:=by kernel_rfl
def qc:Nat->Option (List Nat×List Nat)
  | 1000011=>some ([],[])|4=>some ([0,1],[5])|_=>none
def sS:Nat->Option (List Nat×List Nat×List Nat)
  | _=>none
def lX:af:=⟨92,
  .seq (.reg [⟨(some 4),.mov (.c (.bool false)),none⟩]) <|
  .seq (.seq (.reg [⟨(some 8),.mov (.t 0),none⟩,
    ⟨(some 9),.len (.t 8),none⟩,
    ⟨(some 10),.mov (.t 1),none⟩,
    ⟨(some 11),.len (.t 10),none⟩,
    ⟨(some 12),.bin .neq (.t 9) (.t 11),none⟩]) <|
  .cond (.t 12) (.seq (.reg [⟨(some 4),.mov (.c (.bool false)),none⟩]) <|
  .ret) (.skip)) <|
  .seqj [] [] (.seq (.reg [⟨(some 5),.mov (.c (.int .i64 0)),none⟩]) <|
  .block 0 (.loop [0,1] [5] (.seq (.seq (.reg [⟨(some 13),.mov (.t 5),none⟩,
    ⟨(some 14),.mov (.t 0),none⟩,
    ⟨(some 15),.len (.t 14),none⟩,
    ⟨(some 16),.bin .lss (.t 13) (.t 15),none⟩]) <|
  .cond (.t 16) (.skip) (.exit 0)) <|
  .seq (.block 1 (.seq (.reg [⟨(some 19),.mov (.t 0),none⟩,
    ⟨(some 20),.mov (.t 5),none⟩,
    ⟨(some 21),.iadd (.t 19) (.t 20) 19,none⟩,
    ⟨(some 22),.ld (.t 21) 19 true,none⟩,
    ⟨(some 6),.alloc (.agg [(.int .i64 0),(.int .i64 0),(.int .i64 0),(.int .i64 0),(.str ⟨#[]⟩),(.int .i64 0),(.int .i64 0),(.int .i64 0),(.str ⟨#[]⟩),(.int .i32 0),.nil,(.int .i64 0),(.int .i64 0),(.int .i64 0),(.str ⟨#[]⟩),(.int .i32 0),.nil,.nil,.nil]),none⟩,
    ⟨none,.st (.t 6) (.t 22) 19,none⟩]) <|
  .seq (.reg [⟨(some 23),.mov (.t 1),none⟩,
    ⟨(some 24),.mov (.t 5),none⟩,
    ⟨(some 25),.iadd (.t 23) (.t 24) 19,none⟩,
    ⟨(some 26),.ld (.t 25) 19 true,none⟩,
    ⟨(some 7),.alloc (.agg [(.int .i64 0),(.int .i64 0),(.int .i64 0),(.int .i64 0),(.str ⟨#[]⟩),(.int .i64 0),(.int .i64 0),(.int .i64 0),(.str ⟨#[]⟩),(.int .i32 0),.nil,(.int .i64 0),(.int .i64 0),(.int .i64 0),(.str ⟨#[]⟩),(.int .i32 0),.nil,.nil,.nil]),none⟩,
    ⟨none,.st (.t 7) (.t 26) 19,none⟩]) <|
  .seq (.reg [⟨(some 27),.fadd (.t 6) 0,none⟩,
    ⟨(some 28),.ld (.t 27) 1 false,none⟩,
    ⟨(some 29),.fadd (.t 7) 0,none⟩,
    ⟨(some 30),.ld (.t 29) 1 false,none⟩,
    ⟨(some 31),.bin .neq (.t 28) (.t 30),none⟩,
    ⟨(some 32),.mov (.t 31),none⟩,
    ⟨(some 33),.fadd (.t 6) 1,some (32,false)⟩,
    ⟨(some 34),.ld (.t 33) 1 false,some (32,false)⟩,
    ⟨(some 35),.fadd (.t 7) 1,some (32,false)⟩,
    ⟨(some 36),.ld (.t 35) 1 false,some (32,false)⟩,
    ⟨(some 37),.bin .neq (.t 34) (.t 36),some (32,false)⟩,
    ⟨(some 38),.pick (.t 32) (.c (.bool true)) (.t 37),none⟩,
    ⟨(some 39),.mov (.t 38),none⟩,
    ⟨(some 40),.fadd (.t 6) 2,some (39,false)⟩,
    ⟨(some 41),.ld (.t 40) 1 false,some (39,false)⟩,
    ⟨(some 42),.fadd (.t 7) 2,some (39,false)⟩,
    ⟨(some 43),.ld (.t 42) 1 false,some (39,false)⟩,
    ⟨(some 44),.bin .neq (.t 41) (.t 43),some (39,false)⟩,
    ⟨(some 45),.pick (.t 39) (.c (.bool true)) (.t 44),none⟩,
    ⟨(some 46),.mov (.t 45),none⟩,
    ⟨(some 47),.fadd (.t 6) 3,some (46,false)⟩,
    ⟨(some 48),.ld (.t 47) 1 false,some (46,false)⟩,
    ⟨(some 49),.fadd (.t 7) 3,some (46,false)⟩,
    ⟨(some 50),.ld (.t 49) 1 false,some (46,false)⟩,
    ⟨(some 51),.bin .neq (.t 48) (.t 50),some (46,false)⟩,
    ⟨(some 52),.pick (.t 46) (.c (.bool true)) (.t 51),none⟩,
    ⟨(some 53),.mov (.t 52),none⟩,
    ⟨(some 54),.fadd (.t 6) 4,some (53,false)⟩,
    ⟨(some 55),.ld (.t 54) 1 false,some (53,false)⟩,
    ⟨(some 56),.fadd (.t 7) 4,some (53,false)⟩,
    ⟨(some 57),.ld (.t 56) 1 false,some (53,false)⟩,
    ⟨(some 58),.bin .neq (.t 55) (.t 57),some (53,false)⟩,
    ⟨(some 59),.pick (.t 53) (.c (.bool true)) (.t 58),none⟩,
    ⟨(some 60),.mov (.t 59),none⟩,
    ⟨(some 61),.fadd (.t 6) 5,some (60,false)⟩,
    ⟨(some 62),.ld (.t 61) 6 true,some (60,false)⟩,
    ⟨(some 63),.fadd (.t 7) 5,some (60,false)⟩,
    ⟨(some 64),.ld (.t 63) 6 true,some (60,false)⟩,
    ⟨(some 65),.call cN [(.t 62),(.t 64)],some (60,false)⟩,
    ⟨(some 66),.un .not (.t 65),some (60,false)⟩,
    ⟨(some 67),.pick (.t 60) (.c (.bool true)) (.t 66),none⟩,
    ⟨(some 68),.mov (.t 67),none⟩,
    ⟨(some 69),.fadd (.t 6) 11,some (68,false)⟩,
    ⟨(some 70),.ld (.t 69) 6 true,some (68,false)⟩,
    ⟨(some 71),.fadd (.t 7) 11,some (68,false)⟩,
    ⟨(some 72),.ld (.t 71) 6 true,some (68,false)⟩,
    ⟨(some 73),.call cN [(.t 70),(.t 72)],some (68,false)⟩,
    ⟨(some 74),.un .not (.t 73),some (68,false)⟩,
    ⟨(some 75),.pick (.t 68) (.c (.bool true)) (.t 74),none⟩,
    ⟨(some 76),.mov (.t 75),none⟩,
    ⟨(some 77),.fadd (.t 6) 17,some (76,false)⟩,
    ⟨(some 78),.ld (.t 77) 1 false,some (76,false)⟩,
    ⟨(some 79),.fadd (.t 7) 17,some (76,false)⟩,
    ⟨(some 80),.ld (.t 79) 1 false,some (76,false)⟩,
    ⟨(some 81),.call cv [(.t 78),(.t 80)],some (76,false)⟩,
    ⟨(some 82),.un .not (.t 81),some (76,false)⟩,
    ⟨(some 83),.pick (.t 76) (.c (.bool true)) (.t 82),none⟩,
    ⟨(some 84),.mov (.t 83),none⟩,
    ⟨(some 85),.fadd (.t 6) 18,some (84,false)⟩,
    ⟨(some 86),.ld (.t 85) 1 false,some (84,false)⟩,
    ⟨(some 87),.fadd (.t 7) 18,some (84,false)⟩,
    ⟨(some 88),.ld (.t 87) 1 false,some (84,false)⟩,
    ⟨(some 89),.call cv [(.t 86),(.t 88)],some (84,false)⟩,
    ⟨(some 90),.un .not (.t 89),some (84,false)⟩,
    ⟨(some 91),.pick (.t 84) (.c (.bool true)) (.t 90),none⟩]) <|
  .cond (.t 91) (.seq (.reg [⟨(some 4),.mov (.c (.bool false)),none⟩]) <|
  .ret) (.skip))) <|
  .reg [⟨(some 17),.mov (.t 5),none⟩,
    ⟨(some 18),.bin .add (.t 17) (.c (.int .i64 1)),none⟩,
    ⟨(some 5),.mov (.t 18),none⟩]))) <|
  .seq (.reg [⟨(some 4),.mov (.c (.bool true)),none⟩]) <|
  .ret,
  [.t 4]⟩
theorem so:cFn PP true cv qc (cDr PP 92 sS)=some lX:=by kernel_rfl
def rB:Nat->Option (List Nat×List Nat)
  | 1000009=>some ([],[])|4=>some ([2,3],[5])|_=>none
def uD:Nat->Option (List Nat×List Nat×List Nat)
  | 6=>some ([0,1,0,7,15,0,32,0,224,480,1023,2047],[],[])|_=>none
def nR:af:=⟨67,
  .seq (.reg [⟨(some 2),.box (.t 0),none⟩,
    ⟨(some 3),.box (.t 1),none⟩,
    ⟨(some 4),.mov (.c (.bool false)),none⟩]) <|
  .seq (.seq (.reg [⟨(some 6),.fadd (.t 2) 0,none⟩,
    ⟨(some 7),.ld (.t 6) 1 false,none⟩,
    ⟨(some 8),.fadd (.t 3) 0,none⟩,
    ⟨(some 9),.ld (.t 8) 1 false,none⟩,
    ⟨(some 10),.bin .neq (.t 7) (.t 9),none⟩,
    ⟨(some 11),.mov (.t 10),none⟩,
    ⟨(some 12),.fadd (.t 2) 1,some (11,false)⟩,
    ⟨(some 13),.ld (.t 12) 1 false,some (11,false)⟩,
    ⟨(some 14),.fadd (.t 3) 1,some (11,false)⟩,
    ⟨(some 15),.ld (.t 14) 1 false,some (11,false)⟩,
    ⟨(some 16),.bin .neq (.t 13) (.t 15),some (11,false)⟩,
    ⟨(some 17),.pick (.t 11) (.c (.bool true)) (.t 16),none⟩,
    ⟨(some 18),.mov (.t 17),none⟩,
    ⟨(some 19),.fadd (.t 2) 2,some (18,false)⟩,
    ⟨(some 20),.ld (.t 19) 1 false,some (18,false)⟩,
    ⟨(some 21),.fadd (.t 3) 2,some (18,false)⟩,
    ⟨(some 22),.ld (.t 21) 1 false,some (18,false)⟩,
    ⟨(some 23),.bin .neq (.t 20) (.t 22),some (18,false)⟩,
    ⟨(some 24),.pick (.t 18) (.c (.bool true)) (.t 23),none⟩,
    ⟨(some 25),.mov (.t 24),none⟩,
    ⟨(some 26),.fadd (.t 2) 3,some (25,false)⟩,
    ⟨(some 27),.ld (.t 26) 1 false,some (25,false)⟩,
    ⟨(some 28),.fadd (.t 3) 3,some (25,false)⟩,
    ⟨(some 29),.ld (.t 28) 1 false,some (25,false)⟩,
    ⟨(some 30),.bin .neq (.t 27) (.t 29),some (25,false)⟩,
    ⟨(some 31),.pick (.t 25) (.c (.bool true)) (.t 30),none⟩,
    ⟨(some 32),.mov (.t 31),none⟩,
    ⟨(some 33),.fadd (.t 2) 4,some (32,false)⟩,
    ⟨(some 34),.ld (.t 33) 1 false,some (32,false)⟩,
    ⟨(some 35),.fadd (.t 3) 4,some (32,false)⟩,
    ⟨(some 36),.ld (.t 35) 1 false,some (32,false)⟩,
    ⟨(some 37),.bin .neq (.t 34) (.t 36),some (32,false)⟩,
    ⟨(some 38),.pick (.t 32) (.c (.bool true)) (.t 37),none⟩,
    ⟨(some 39),.mov (.t 38),none⟩,
    ⟨(some 40),.fadd (.t 2) 5,some (39,false)⟩,
    ⟨(some 41),.ld (.t 40) 1 false,some (39,false)⟩,
    ⟨(some 42),.len (.t 41),some (39,false)⟩,
    ⟨(some 43),.fadd (.t 3) 5,some (39,false)⟩,
    ⟨(some 44),.ld (.t 43) 1 false,some (39,false)⟩,
    ⟨(some 45),.len (.t 44),some (39,false)⟩,
    ⟨(some 46),.bin .neq (.t 42) (.t 45),some (39,false)⟩,
    ⟨(some 47),.pick (.t 39) (.c (.bool true)) (.t 46),none⟩]) <|
  .cond (.t 47) (.seq (.reg [⟨(some 4),.mov (.c (.bool false)),none⟩]) <|
  .ret) (.skip)) <|
  .seqj [] [] (.seq (.reg [⟨(some 5),.mov (.c (.int .i64 0)),none⟩]) <|
  .block 0 (.loop [2,3] [5] (.seq (.seq (.reg [⟨(some 48),.mov (.t 5),none⟩,
    ⟨(some 49),.fadd (.t 2) 5,none⟩,
    ⟨(some 50),.ld (.t 49) 1 false,none⟩,
    ⟨(some 51),.len (.t 50),none⟩,
    ⟨(some 52),.bin .lss (.t 48) (.t 51),none⟩]) <|
  .cond (.t 52) (.skip) (.exit 0)) <|
  .seq (.block 1 (.seq (.dreg [⟨(some 55),.fadd (.t 2) 5,none⟩,
    ⟨(some 56),.ld (.t 55) 1 false,none⟩,
    ⟨(some 57),.mov (.t 5),none⟩,
    ⟨(some 58),.iadd (.t 56) (.t 57) 6,none⟩,
    ⟨(some 59),.ld (.t 58) 6 true,none⟩,
    ⟨(some 60),.fadd (.t 3) 5,none⟩,
    ⟨(some 61),.ld (.t 60) 1 false,none⟩,
    ⟨(some 62),.mov (.t 5),none⟩,
    ⟨(some 63),.iadd (.t 61) (.t 62) 6,none⟩,
    ⟨(some 64),.ld (.t 63) 6 true,none⟩,
    ⟨(some 65),.call cN [(.t 59),(.t 64)],none⟩,
    ⟨(some 66),.un .not (.t 65),none⟩] [] []) <|
  .cond (.t 66) (.seq (.reg [⟨(some 4),.mov (.c (.bool false)),none⟩]) <|
  .ret) (.skip))) <|
  .reg [⟨(some 53),.mov (.t 5),none⟩,
    ⟨(some 54),.bin .add (.t 53) (.c (.int .i64 1)),none⟩,
    ⟨(some 5),.mov (.t 54),none⟩]))) <|
  .seq (.reg [⟨(some 4),.mov (.c (.bool true)),none⟩]) <|
  .ret,
  [.t 4]⟩
theorem tm:cFn PP true cN rB (cDr PP 67 uD)=some nR:=by kernel_rfl
def Ar:Nat->Option (List Nat×List Nat)
  | _=>none
def C0:Nat->Option (List Nat×List Nat×List Nat)
  | _=>none
def zK:af:=⟨28,
  .seq (.reg [⟨(some 2),.box (.t 0),none⟩,
    ⟨(some 4),.alloc (.agg [(.int .i64 0),(.int .i64 0)]),none⟩]) <|
  .seq (.reg [⟨(some 6),.ld (.t 2) 11 true,none⟩,
    ⟨(some 7),.mov (.t 1),none⟩,
    ⟨(some 8),.call ej [(.t 6),(.t 7)],none⟩,
    ⟨(some 5),.mov (.t 8),none⟩]) <|
  .seq (.seq (.reg [⟨(some 9),.mov (.t 5),none⟩,
    ⟨(some 10),.bin .lss (.t 9) (.c (.int .i64 0)),none⟩,
    ⟨(some 11),.mov (.t 10),none⟩,
    ⟨(some 12),.fadd (.t 2) 8,some (11,false)⟩,
    ⟨(some 13),.ld (.t 12) 1 false,some (11,false)⟩,
    ⟨(some 14),.mov (.t 5),some (11,false)⟩,
    ⟨(some 15),.iadd (.t 13) (.t 14) 3,some (11,false)⟩,
    ⟨(some 16),.fadd (.t 15) 2,some (11,false)⟩,
    ⟨(some 17),.ld (.t 16) 1 false,some (11,false)⟩,
    ⟨(some 18),.un .not (.t 17),some (11,false)⟩,
    ⟨(some 19),.pick (.t 11) (.c (.bool true)) (.t 18),none⟩]) <|
  .cond (.t 19) (.seq (.reg [⟨(some 20),.bld [(.int .i64 0),(.int .i64 0)] [(1,1,(.c (.int .i64 30)))],none⟩,
    ⟨none,.st (.t 4) (.t 20) 2,none⟩]) <|
  .ret) (.skip)) <|
  .seq (.reg [⟨(some 21),.fadd (.t 2) 8,none⟩,
    ⟨(some 22),.ld (.t 21) 1 false,none⟩,
    ⟨(some 23),.mov (.t 5),none⟩,
    ⟨(some 24),.iadd (.t 22) (.t 23) 3,none⟩,
    ⟨(some 25),.fadd (.t 24) 1,none⟩,
    ⟨(some 26),.ld (.t 25) 1 false,none⟩,
    ⟨(some 27),.bld [(.int .i64 0),(.int .i64 0)] [(0,1,(.t 26))],none⟩,
    ⟨none,.st (.t 4) (.t 27) 2,none⟩]) <|
  .ret,
  [.cell 4 2 true]⟩
theorem CE:cFn PP true qU Ar (cDr PP 28 C0)=some zK:=by kernel_rfl
def qd:Nat->Option (List Nat×List Nat)
  | 1000011=>some ([1,6,28],[29])|1000014=>some ([1,6,28],[38])|1000018=>some ([1,6,28],[45])|1000021=>some ([1,6,28],[53])|1000026=>some ([1,6],[57])|_=>none
def sT:Nat->Option (List Nat×List Nat×List Nat)
  | _=>none
def lY:af:=⟨69,
  .seq (.reg [⟨(some 6),.alloc (.agg [(.int .i64 0),(.int .i64 0)]),none⟩]) <|
  .seq (.seq (.reg [⟨(some 7),.mov (.t 0),none⟩,
    ⟨(some 8),.bin .lss (.t 7) (.c (.int .i64 10)),none⟩,
    ⟨(some 9),.mov (.t 8),none⟩,
    ⟨(some 10),.mov (.t 0),some (9,false)⟩,
    ⟨(some 11),.bin .gtr (.t 10) (.c (.int .i64 29)),some (9,false)⟩,
    ⟨(some 12),.pick (.t 9) (.c (.bool true)) (.t 11),none⟩,
    ⟨(some 13),.mov (.t 12),none⟩,
    ⟨(some 14),.mov (.t 1),some (13,false)⟩,
    ⟨(some 15),.call gf [(.t 14)],some (13,false)⟩,
    ⟨(some 16),.un .not (.t 15),some (13,false)⟩,
    ⟨(some 17),.pick (.t 13) (.c (.bool true)) (.t 16),none⟩,
    ⟨(some 18),.mov (.t 17),none⟩,
    ⟨(some 19),.mov (.t 2),some (18,false)⟩,
    ⟨(some 20),.call gf [(.t 19)],some (18,false)⟩,
    ⟨(some 21),.un .not (.t 20),some (18,false)⟩,
    ⟨(some 22),.pick (.t 18) (.c (.bool true)) (.t 21),none⟩]) <|
  .cond (.t 22) (.seq (.reg [⟨(some 23),.bld [(.int .i64 0),(.int .i64 0)] [(1,1,(.c (.int .i64 1)))],none⟩,
    ⟨none,.st (.t 6) (.t 23) 2,none⟩]) <|
  .ret) (.skip)) <|
  .seq (.seq (.reg [⟨(some 24),.mov (.t 1),none⟩,
    ⟨(some 25),.mov (.t 2),none⟩,
    ⟨(some 26),.bin .neq (.t 24) (.t 25),none⟩]) <|
  .cond (.t 26) (.seq (.reg [⟨(some 27),.bld [(.int .i64 0),(.int .i64 0)] [(1,1,(.c (.int .i64 31)))],none⟩,
    ⟨none,.st (.t 6) (.t 27) 2,none⟩]) <|
  .ret) (.skip)) <|
  .seq (.seq (.reg [⟨(some 28),.mov (.t 0),none⟩]) <|
  .block 0 (.seqj [1,6,28] [29] (.seq (.reg [⟨(some 30),.bin .eql (.t 28) (.c (.int .i64 10)),none⟩,
    ⟨(some 29),.mov (.t 30),none⟩]) <|
  .cond (.t 29) (.skip) (.seq (.reg [⟨(some 31),.bin .eql (.t 28) (.c (.int .i64 11)),none⟩,
    ⟨(some 29),.mov (.t 31),none⟩]) <|
  .cond (.t 29) (.skip) (.seq (.reg [⟨(some 32),.bin .eql (.t 28) (.c (.int .i64 22)),none⟩,
    ⟨(some 29),.mov (.t 32),none⟩]) <|
  .cond (.t 29) (.skip) (.reg [⟨(some 33),.bin .eql (.t 28) (.c (.int .i64 23)),none⟩,
    ⟨(some 29),.mov (.t 33),none⟩])))) <|
  .cond (.t 29) (.seq (.reg [⟨(some 34),.mov (.t 1),none⟩,
    ⟨(some 35),.bin .neq (.t 34) (.c (.int .i64 3)),none⟩,
    ⟨(some 36),.mov (.t 1),none⟩,
    ⟨(some 37),.call eo [(.t 35),(.t 36)],none⟩,
    ⟨none,.st (.t 6) (.t 37) 2,none⟩]) <|
  .ret) (.seqj [1,6,28] [38] (.seq (.reg [⟨(some 39),.bin .eql (.t 28) (.c (.int .i64 15)),none⟩,
    ⟨(some 38),.mov (.t 39),none⟩]) <|
  .cond (.t 38) (.skip) (.reg [⟨(some 40),.bin .eql (.t 28) (.c (.int .i64 16)),none⟩,
    ⟨(some 38),.mov (.t 40),none⟩])) <|
  .cond (.t 38) (.seq (.reg [⟨(some 41),.mov (.t 1),none⟩,
    ⟨(some 42),.bin .eql (.t 41) (.c (.int .i64 2)),none⟩,
    ⟨(some 43),.mov (.t 1),none⟩,
    ⟨(some 44),.call eo [(.t 42),(.t 43)],none⟩,
    ⟨none,.st (.t 6) (.t 44) 2,none⟩]) <|
  .ret) (.seqj [1,6,28] [45] (.seq (.reg [⟨(some 46),.bin .eql (.t 28) (.c (.int .i64 17)),none⟩,
    ⟨(some 45),.mov (.t 46),none⟩]) <|
  .cond (.t 45) (.skip) (.seq (.reg [⟨(some 47),.bin .eql (.t 28) (.c (.int .i64 18)),none⟩,
    ⟨(some 45),.mov (.t 47),none⟩]) <|
  .cond (.t 45) (.skip) (.reg [⟨(some 48),.bin .eql (.t 28) (.c (.int .i64 19)),none⟩,
    ⟨(some 45),.mov (.t 48),none⟩]))) <|
  .cond (.t 45) (.seq (.reg [⟨(some 49),.mov (.t 1),none⟩,
    ⟨(some 50),.bin .neq (.t 49) (.c (.int .i64 2)),none⟩,
    ⟨(some 51),.mov (.t 1),none⟩,
    ⟨(some 52),.call eo [(.t 50),(.t 51)],none⟩,
    ⟨none,.st (.t 6) (.t 52) 2,none⟩]) <|
  .ret) (.seqj [1,6,28] [53] (.seq (.reg [⟨(some 54),.bin .eql (.t 28) (.c (.int .i64 24)),none⟩,
    ⟨(some 53),.mov (.t 54),none⟩]) <|
  .cond (.t 53) (.skip) (.reg [⟨(some 55),.bin .eql (.t 28) (.c (.int .i64 25)),none⟩,
    ⟨(some 53),.mov (.t 55),none⟩])) <|
  .cond (.t 53) (.seq (.reg [⟨(some 56),.bld [(.int .i64 0),(.int .i64 0)] [(0,1,(.c (.int .i64 3)))],none⟩,
    ⟨none,.st (.t 6) (.t 56) 2,none⟩]) <|
  .ret) (.seqj [1,6] [57] (.seq (.reg [⟨(some 58),.bin .eql (.t 28) (.c (.int .i64 26)),none⟩,
    ⟨(some 57),.mov (.t 58),none⟩]) <|
  .cond (.t 57) (.skip) (.seq (.reg [⟨(some 59),.bin .eql (.t 28) (.c (.int .i64 27)),none⟩,
    ⟨(some 57),.mov (.t 59),none⟩]) <|
  .cond (.t 57) (.skip) (.seq (.reg [⟨(some 60),.bin .eql (.t 28) (.c (.int .i64 28)),none⟩,
    ⟨(some 57),.mov (.t 60),none⟩]) <|
  .cond (.t 57) (.skip) (.reg [⟨(some 61),.bin .eql (.t 28) (.c (.int .i64 29)),none⟩,
    ⟨(some 57),.mov (.t 61),none⟩])))) <|
  .cond (.t 57) (.seq (.reg [⟨(some 62),.mov (.t 1),none⟩,
    ⟨(some 63),.bin .neq (.t 62) (.c (.int .i64 3)),none⟩,
    ⟨(some 64),.call eo [(.t 63),(.c (.int .i64 3))],none⟩,
    ⟨none,.st (.t 6) (.t 64) 2,none⟩]) <|
  .ret) (.skip))))))) <|
  .seq (.reg [⟨(some 65),.mov (.t 1),none⟩,
    ⟨(some 66),.bin .eql (.t 65) (.c (.int .i64 1)),none⟩,
    ⟨(some 67),.mov (.t 1),none⟩,
    ⟨(some 68),.call eo [(.t 66),(.t 67)],none⟩,
    ⟨none,.st (.t 6) (.t 68) 2,none⟩]) <|
  .ret,
  [.cell 6 2 true]⟩
theorem sw:cFn PP true dK qd (cDr PP 69 sT)=some lY:=by kernel_rfl
def wC:Nat->Option (List Nat×List Nat)
  | 1000010=>some ([],[6])|3=>some ([1,2],[6,7])|_=>none
def zW:Nat->Option (List Nat×List Nat×List Nat)
  | 5=>some ([0,0,0,6,14,31,0,127],[6,7],[])|7=>some ([0,1,0,7],[],[])|_=>none
def ua:af:=⟨33,
  .seq (.reg [⟨(some 2),.box (.t 0),none⟩,
    ⟨(some 4),.mov (.c .nil),none⟩,
    ⟨(some 5),.mov (.c (.int .i64 0)),none⟩]) <|
  .seq (.reg [⟨(some 9),.bldS true 1 0 (.int .i64 0) [],none⟩,
    ⟨(some 6),.mov (.t 9),none⟩]) <|
  .seqj [] [6] (.seq (.reg [⟨(some 7),.mov (.c (.int .i64 0)),none⟩]) <|
  .block 0 (.loop [1,2] [6,7] (.seq (.seq (.reg [⟨(some 10),.mov (.t 7),none⟩,
    ⟨(some 11),.mov (.t 1),none⟩,
    ⟨(some 12),.len (.t 11),none⟩,
    ⟨(some 13),.bin .lss (.t 10) (.t 12),none⟩]) <|
  .cond (.t 13) (.skip) (.exit 0)) <|
  .seq (.block 1 (.seq (.dreg [⟨(some 16),.ld (.t 2) 11 true,none⟩,
    ⟨(some 17),.mov (.t 1),none⟩,
    ⟨(some 18),.mov (.t 7),none⟩,
    ⟨(some 19),.iadd (.t 17) (.t 18) 6,none⟩,
    ⟨(some 20),.ld (.t 19) 6 true,none⟩,
    ⟨(some 21),.call dU [(.t 16),(.t 20)],none⟩] [⟨(some 8),.alloc (.agg [(.int .i64 0),(.int .i64 0)]),none⟩,
    ⟨none,.st (.t 8) (.t 21) 2,none⟩] []) <|
  .seq (.seq (.reg [⟨(some 22),.fadd (.t 8) 1,none⟩,
    ⟨(some 23),.ld (.t 22) 1 false,none⟩,
    ⟨(some 24),.bin .neq (.t 23) (.c (.int .i64 0)),none⟩]) <|
  .cond (.t 24) (.seq (.dreg [⟨(some 25),.fadd (.t 8) 1,none⟩,
    ⟨(some 26),.ld (.t 25) 1 false,none⟩,
    ⟨(some 4),.mov (.c .nil),none⟩,
    ⟨(some 5),.mov (.t 26),none⟩] [] []) <|
  .ret) (.skip)) <|
  .reg [⟨(some 27),.mov (.t 6),none⟩,
    ⟨(some 28),.fadd (.t 8) 0,none⟩,
    ⟨(some 29),.ld (.t 28) 1 false,none⟩,
    ⟨(some 30),.bldS true 1 1 (.int .i64 0) [(0,(.t 29))],none⟩,
    ⟨(some 31),.app (.t 27) (.t 30) 1 8 (.int .i64 0),none⟩,
    ⟨(some 6),.mov (.t 31),none⟩])) <|
  .reg [⟨(some 14),.mov (.t 7),none⟩,
    ⟨(some 15),.bin .add (.t 14) (.c (.int .i64 1)),none⟩,
    ⟨(some 7),.mov (.t 15),none⟩]))) <|
  .seq (.reg [⟨(some 32),.mov (.t 6),none⟩,
    ⟨(some 4),.mov (.t 32),none⟩,
    ⟨(some 5),.mov (.c (.int .i64 0)),none⟩]) <|
  .ret,
  [.t 4,.t 5]⟩
theorem yW:cFn PP true tE wC (cDr PP 33 zW)=some ua:=by kernel_rfl
def wB:Nat->Option (List Nat×List Nat)
  | _=>none
def zV:Nat->Option (List Nat×List Nat×List Nat)
  | _=>none
def tZ:af:=⟨5,
  .seq (.reg [⟨(some 2),.alloc (.agg [(.int .i64 0),(.int .i64 0),(.int .i32 0)]),none⟩]) <|
  .seq (.reg [⟨(some 3),.mov (.t 0),none⟩,
    ⟨(some 4),.bld [(.int .i64 0),(.int .i64 0),(.int .i32 0)] [(0,1,(.c (.int .i64 1))),(2,1,(.t 3))],none⟩,
    ⟨none,.st (.t 2) (.t 4) 3,none⟩]) <|
  .ret,
  [.cell 2 3 true]⟩
theorem yU:cFn PP true dA wB (cDr PP 5 zV)=some tZ:=by kernel_rfl
def mb:Nat->Option (List Nat×List Nat)
  | 1000010=>some ([4],[])|5=>some ([0,1,4],[7])|_=>none
def oc:Nat->Option (List Nat×List Nat×List Nat)
  | 3=>some ([0,1,3,0,8,31,63],[6],[])|_=>none
def ja:af:=⟨56,
  .seq (.reg [⟨(some 4),.alloc (.agg [(.int .i64 0),(.int .i64 0),(.int .i32 0),(.int .i64 0)]),none⟩]) <|
  .seq (.reg [⟨(some 9),.mov (.t 0),none⟩,
    ⟨(some 10),.mov (.t 1),none⟩,
    ⟨(some 11),.call dT [(.t 9),(.t 10)],none⟩,
    ⟨(some 8),.mov (.t 11),none⟩,
    ⟨(some 12),.ext (.t 8) 0,none⟩,
    ⟨(some 13),.ext (.t 8) 1,none⟩,
    ⟨(some 5),.alloc (.agg [(.str ⟨#[]⟩),(.int .i64 0),(.int .i64 0)]),none⟩,
    ⟨none,.st (.t 5) (.t 12) 3,none⟩,
    ⟨(some 6),.mov (.t 13),none⟩]) <|
  .seq (.seq (.reg [⟨(some 14),.mov (.t 6),none⟩]) <|
  .cond (.t 14) (.seq (.dreg [⟨(some 15),.fadd (.t 5) 2,none⟩,
    ⟨(some 16),.ld (.t 15) 1 false,none⟩,
    ⟨(some 17),.call iO [(.t 16)],none⟩,
    ⟨(some 18),.fadd (.t 5) 1,none⟩,
    ⟨(some 19),.ld (.t 18) 1 false,none⟩,
    ⟨(some 20),.bld [(.int .i64 0),(.int .i64 0),(.int .i32 0),(.int .i64 0)] [(0,3,(.t 17)),(3,1,(.t 19))],none⟩] [⟨none,.st (.t 4) (.t 20) 4,none⟩] []) <|
  .ret) (.skip)) <|
  .seqj [4] [] (.seq (.reg [⟨(some 7),.mov (.c (.int .i64 0)),none⟩]) <|
  .block 0 (.loop [0,1,4] [7] (.seq (.seq (.reg [⟨(some 21),.mov (.t 7),none⟩,
    ⟨(some 22),.mov (.t 0),none⟩,
    ⟨(some 23),.fadd (.t 22) 0,none⟩,
    ⟨(some 24),.fadd (.t 23) 0,none⟩,
    ⟨(some 25),.fadd (.t 24) 4,none⟩,
    ⟨(some 26),.ld (.t 25) 1 false,none⟩,
    ⟨(some 27),.len (.t 26),none⟩,
    ⟨(some 28),.bin .lss (.t 21) (.t 27),none⟩]) <|
  .cond (.t 28) (.skip) (.exit 0)) <|
  .seq (.block 1 (.seq (.reg [⟨(some 31),.mov (.t 0),none⟩,
    ⟨(some 32),.fadd (.t 31) 0,none⟩,
    ⟨(some 33),.fadd (.t 32) 0,none⟩,
    ⟨(some 34),.fadd (.t 33) 4,none⟩,
    ⟨(some 35),.ld (.t 34) 1 false,none⟩,
    ⟨(some 36),.mov (.t 7),none⟩,
    ⟨(some 37),.iadd (.t 35) (.t 36) 2,none⟩,
    ⟨(some 38),.fadd (.t 37) 0,none⟩,
    ⟨(some 39),.ld (.t 38) 1 false,none⟩,
    ⟨(some 40),.mov (.t 1),none⟩,
    ⟨(some 41),.bin .eql (.t 39) (.t 40),none⟩]) <|
  .cond (.t 41) (.seq (.reg [⟨(some 42),.mov (.t 0),none⟩,
    ⟨(some 43),.mov (.t 7),none⟩,
    ⟨(some 44),.bld [(.int .i64 0),(.int .i64 0),(.int .i64 0),(.int .i64 0),(.int .i64 0),(.int .i32 0),(.int .i64 0),(.int .i64 0),(.int .i32 0),(.int .i64 0),(.int .i64 0),(.int .i32 0),(.int .i64 0),(.int .i64 0),(.int .i32 0)] [(0,1,(.c (.int .i64 6))),(2,1,(.t 43))],none⟩,
    ⟨(some 45),.mov (.t 0),none⟩,
    ⟨(some 46),.fadd (.t 45) 0,none⟩,
    ⟨(some 47),.fadd (.t 46) 0,none⟩,
    ⟨(some 48),.fadd (.t 47) 4,none⟩,
    ⟨(some 49),.ld (.t 48) 1 false,none⟩,
    ⟨(some 50),.mov (.t 7),none⟩,
    ⟨(some 51),.iadd (.t 49) (.t 50) 2,none⟩,
    ⟨(some 52),.fadd (.t 51) 1,none⟩,
    ⟨(some 53),.ld (.t 52) 1 false,none⟩,
    ⟨(some 54),.call aK [(.t 42),(.t 44),(.t 53)],none⟩,
    ⟨none,.st (.t 4) (.t 54) 4,none⟩]) <|
  .ret) (.skip))) <|
  .reg [⟨(some 29),.mov (.t 7),none⟩,
    ⟨(some 30),.bin .add (.t 29) (.c (.int .i64 1)),none⟩,
    ⟨(some 7),.mov (.t 30),none⟩]))) <|
  .seq (.reg [⟨(some 55),.bld [(.int .i64 0),(.int .i64 0),(.int .i32 0),(.int .i64 0)] [],none⟩,
    ⟨none,.st (.t 4) (.t 55) 4,none⟩]) <|
  .ret,
  [.cell 4 4 true]⟩
theorem nA:cFn PP true iM mb (cDr PP 56 oc)=some ja:=by kernel_rfl
def kK:Nat->Option (List Nat×List Nat)
  | _=>none
def l8:Nat->Option (List Nat×List Nat×List Nat)
  | _=>none
def gA:af:=⟨18,
  .seq (.reg [⟨(some 2),.mov (.c (.int .i64 0)),none⟩]) <|
  .seq (.reg [⟨(some 3),.mov (.t 0),none⟩,
    ⟨(some 4),.fadd (.t 3) 0,none⟩,
    ⟨(some 5),.fadd (.t 4) 7,none⟩,
    ⟨(some 6),.fadd (.t 5) 2,none⟩,
    ⟨(some 7),.ld (.t 6) 1 false,none⟩,
    ⟨(some 8),.bin .add (.t 7) (.c (.int .i64 1)),none⟩,
    ⟨(some 9),.fadd (.t 3) 0,none⟩,
    ⟨(some 10),.fadd (.t 9) 7,none⟩,
    ⟨(some 11),.fadd (.t 10) 2,none⟩,
    ⟨none,.st (.t 11) (.t 8) 1,none⟩]) <|
  .seq (.reg [⟨(some 12),.mov (.t 0),none⟩,
    ⟨(some 13),.fadd (.t 12) 0,none⟩,
    ⟨(some 14),.fadd (.t 13) 7,none⟩,
    ⟨(some 15),.fadd (.t 14) 2,none⟩,
    ⟨(some 16),.ld (.t 15) 1 false,none⟩,
    ⟨(some 17),.bin .sub (.t 16) (.c (.int .i64 1)),none⟩,
    ⟨(some 2),.mov (.t 17),none⟩]) <|
  .ret,
  [.t 2]⟩
theorem lD:cFn PP true fT kK (cDr PP 18 l8)=some gA:=by kernel_rfl
def cX:Nat->Option (List Nat×List Nat)
  | 1=>some ([0,1],[3])|_=>none
def dq:Nat->Option (List Nat×List Nat×List Nat)
  | _=>none
def bK:af:=⟨19,
  .seq (.reg [⟨(some 4),.ld (.t 1) 1 false,none⟩,
    ⟨(some 5),.len (.t 4),none⟩,
    ⟨(some 6),.bin .sub (.t 5) (.c (.int .i64 1)),none⟩,
    ⟨(some 3),.mov (.t 6),none⟩]) <|
  .block 0 (.loop [0,1] [3] (.seq (.seq (.reg [⟨(some 7),.mov (.t 3),none⟩,
    ⟨(some 8),.bin .geq (.t 7) (.c (.int .i64 0)),none⟩]) <|
  .cond (.t 8) (.skip) (.exit 0)) <|
  .seq (.block 1 (.seq (.reg [⟨(some 11),.mov (.t 0),none⟩,
    ⟨(some 12),.mov (.t 3),none⟩,
    ⟨(some 13),.ld (.t 1) 1 false,none⟩,
    ⟨(some 14),.mov (.t 3),none⟩,
    ⟨(some 15),.iadd (.t 13) (.t 14) 15,none⟩,
    ⟨(some 16),.ld (.t 15) 15 true,none⟩,
    ⟨(some 17),.callv (.t 11) [(.t 12),(.t 16)],none⟩,
    ⟨(some 18),.un .not (.t 17),none⟩]) <|
  .cond (.t 18) (.ret) (.skip))) <|
  .reg [⟨(some 9),.mov (.t 3),none⟩,
    ⟨(some 10),.bin .sub (.t 9) (.c (.int .i64 1)),none⟩,
    ⟨(some 3),.mov (.t 10),none⟩])),
  []⟩
theorem dp:cFn PP true bJ cX (cDr PP 19 dq)=some bK:=by kernel_rfl
def cC:Nat->Option (List Nat×List Nat)
  | 1000008=>some ([],[])|2=>some ([0,1,7],[8])|_=>none
def cW:Nat->Option (List Nat×List Nat×List Nat)
  | _=>none
def bF:af:=⟨19,
  .seq (.reg [⟨(some 4),.mov (.c (.int .i64 0)),none⟩]) <|
  .seqj [] [] (.seq (.reg [⟨(some 6),.mov (.t 0),none⟩,
    ⟨(some 7),.len (.t 6),none⟩,
    ⟨(some 8),.mov (.c (.int .i64 0)),none⟩]) <|
  .block 0 (.loop [0,1,7] [8] (.seq (.reg [⟨(some 9),.bin .lss (.t 8) (.t 7),none⟩]) <|
  .seq (.cond (.t 9) (.skip) (.exit 0)) <|
  .seq (.block 1 (.seq (.reg [⟨(some 10),.mov (.t 8),none⟩,
    ⟨(some 5),.mov (.t 10),none⟩]) <|
  .seq (.reg [⟨(some 11),.mov (.t 1),none⟩,
    ⟨(some 12),.mov (.t 0),none⟩,
    ⟨(some 13),.mov (.t 5),none⟩,
    ⟨(some 14),.iadd (.t 12) (.t 13) 6,none⟩,
    ⟨(some 15),.ld (.t 14) 6 true,none⟩,
    ⟨(some 16),.callv (.t 11) [(.t 15)],none⟩]) <|
  .cond (.t 16) (.seq (.reg [⟨(some 17),.mov (.t 5),none⟩,
    ⟨(some 4),.mov (.t 17),none⟩]) <|
  .ret) (.skip))) <|
  .reg [⟨(some 18),.bin .add (.t 8) (.c (.int .i64 1)),none⟩,
    ⟨(some 8),.mov (.t 18),none⟩]))) <|
  .seq (.reg [⟨(some 4),.mov (.c (.int .i64 (-1))),none⟩]) <|
  .ret,
  [.t 4]⟩
theorem cU:cFn PP true bD cC (cDr PP 19 cW)=some bF:=by kernel_rfl
def yq:Nat->Option (List Nat×List Nat)
  | 1000005=>some ([0],[3])|_=>none
def Bp:Nat->Option (List Nat×List Nat×List Nat)
  | _=>none
def xj:af:=⟨25,
  .seq (.reg [⟨(some 2),.mov (.c (.str ⟨#[]⟩)),none⟩]) <|
  .seq (.reg [⟨(some 5),.mov (.t 0),none⟩,
    ⟨(some 6),.bin .rem (.t 5) (.c (.int .i64 10)),none⟩,
    ⟨(some 3),.mov (.t 6),none⟩]) <|
  .seqj [0] [3] (.seq (.reg [⟨(some 7),.mov (.t 3),none⟩,
    ⟨(some 8),.bin .lss (.t 7) (.c (.int .i64 0)),none⟩]) <|
  .cond (.t 8) (.reg [⟨(some 9),.mov (.t 3),none⟩,
    ⟨(some 10),.un .neg (.t 9),none⟩,
    ⟨(some 3),.mov (.t 10),none⟩]) (.skip)) <|
  .seq (.reg [⟨(some 11),.mov (.t 3),none⟩,
    ⟨(some 12),.bin .add (.c (.int .i64 48)) (.t 11),none⟩,
    ⟨(some 13),.conv .u8 (.t 12),none⟩,
    ⟨(some 14),.bldS true 1 1 (.int .u8 0) [(0,(.t 13))],none⟩,
    ⟨(some 15),.b2s (.t 14),none⟩,
    ⟨(some 4),.mov (.t 15),none⟩]) <|
  .seq (.seq (.reg [⟨(some 16),.mov (.t 0),none⟩,
    ⟨(some 17),.bin .quo (.t 16) (.c (.int .i64 10)),none⟩,
    ⟨(some 18),.bin .neq (.t 17) (.c (.int .i64 0)),none⟩]) <|
  .cond (.t 18) (.seq (.reg [⟨(some 19),.mov (.t 0),none⟩,
    ⟨(some 20),.bin .quo (.t 19) (.c (.int .i64 10)),none⟩,
    ⟨(some 21),.call kj [(.t 20)],none⟩,
    ⟨(some 22),.mov (.t 4),none⟩,
    ⟨(some 23),.bin .add (.t 21) (.t 22),none⟩,
    ⟨(some 2),.mov (.t 23),none⟩]) <|
  .ret) (.skip)) <|
  .seq (.reg [⟨(some 24),.mov (.t 4),none⟩,
    ⟨(some 2),.mov (.t 24),none⟩]) <|
  .ret,
  [.t 2]⟩
theorem AM:cFn PP true kj yq (cDr PP 25 Bp)=some xj:=by kernel_rfl
end Go.Am
namespace Go.Am
open Go Go.Proofs
def As:Nat->Option (List Nat×List Nat)
  | 1000015=>some ([],[5])|_=>none
def C2:Nat->Option (List Nat×List Nat×List Nat)
  | 3=>some ([0,1,3,7,0,0,32,96,240,511,1023,0,2048,6640,16383,32767],[],[])|5=>some ([0,1,3,0,8,24,63,127],[],[])|7=>some ([0,1,3,0,8,24,63,127,0,256,824,2047,4095],[],[])|9=>some ([0,1,3,7,0,16,48,127,255,112,0,1024,3696,7792,16383,32767,0,65536,212592,524287,1048575],[],[])|11=>some ([0,1,3,7,15,0,32,0,128,487,1023,0,4095,8191,16383],[],[])|16=>some ([0,1,3,7,15,0,32,103,255,511,0,1024,0,4096,15591,32767,0,131071,262143,524287],[],[])|29=>some ([0,1,3,0,8,24,63,127,0,256,824,2047,4095,8191],[],[])|30=>some ([0,1,3,0,0,16,48,120,255,511,0,1024,3320,8191,16383,32767],[],[])|_=>none
def zL:af:=⟨172,
  .seq (.reg [⟨(some 2),.box (.t 0),none⟩,
    ⟨(some 4),.mov (.c (.str ⟨#[]⟩)),none⟩]) <|
  .seq (.seq (.reg [⟨(some 6),.fadd (.t 2) 0,none⟩,
    ⟨(some 7),.ld (.t 6) 1 false,none⟩]) <|
  .block 0 (.seq (.reg [⟨(some 9),.bin .eql (.t 7) (.c (.int .i64 1)),none⟩,
    ⟨(some 8),.mov (.t 9),none⟩]) <|
  .cond (.t 8) (.seq (.dreg [⟨(some 10),.fadd (.t 2) 4,none⟩,
    ⟨(some 11),.ld (.t 10) 1 false,none⟩,
    ⟨(some 12),.bin .add (.c (.str ⟨#[118,97,114,32]⟩)) (.t 11),none⟩,
    ⟨(some 13),.bin .add (.t 12) (.c (.str ⟨#[32]⟩)),none⟩,
    ⟨(some 14),.call dB [],none⟩,
    ⟨(some 15),.fadd (.t 2) 2,none⟩,
    ⟨(some 16),.ld (.t 15) 1 false,none⟩,
    ⟨(some 17),.bin .sub (.t 16) (.c (.int .i64 1)),none⟩,
    ⟨(some 18),.call bo [(.t 14),(.t 17)],none⟩,
    ⟨(some 19),.bin .add (.t 13) (.t 18),none⟩,
    ⟨(some 20),.bin .add (.t 19) (.c (.str ⟨#[32,61,32]⟩)),none⟩,
    ⟨(some 21),.fadd (.t 2) 5,none⟩,
    ⟨(some 22),.ld (.t 21) 6 true,none⟩,
    ⟨(some 23),.call aN [(.t 22)],none⟩,
    ⟨(some 24),.bin .add (.t 20) (.t 23),none⟩,
    ⟨(some 4),.mov (.t 24),none⟩] [] []) <|
  .ret) (.seq (.reg [⟨(some 26),.bin .eql (.t 7) (.c (.int .i64 2)),none⟩,
    ⟨(some 25),.mov (.t 26),none⟩]) <|
  .cond (.t 25) (.seq (.dreg [⟨(some 27),.fadd (.t 2) 4,none⟩,
    ⟨(some 28),.ld (.t 27) 1 false,none⟩,
    ⟨(some 29),.bin .add (.t 28) (.c (.str ⟨#[32,61,32]⟩)),none⟩,
    ⟨(some 30),.fadd (.t 2) 5,none⟩,
    ⟨(some 31),.ld (.t 30) 6 true,none⟩,
    ⟨(some 32),.call aN [(.t 31)],none⟩,
    ⟨(some 33),.bin .add (.t 29) (.t 32),none⟩,
    ⟨(some 4),.mov (.t 33),none⟩] [] []) <|
  .ret) (.seq (.reg [⟨(some 35),.bin .eql (.t 7) (.c (.int .i64 3)),none⟩,
    ⟨(some 34),.mov (.t 35),none⟩]) <|
  .cond (.t 34) (.seq (.dreg [⟨(some 36),.fadd (.t 2) 4,none⟩,
    ⟨(some 37),.ld (.t 36) 1 false,none⟩,
    ⟨(some 38),.bin .add (.t 37) (.c (.str ⟨#[91]⟩)),none⟩,
    ⟨(some 39),.fadd (.t 2) 5,none⟩,
    ⟨(some 40),.ld (.t 39) 6 true,none⟩,
    ⟨(some 41),.call aN [(.t 40)],none⟩,
    ⟨(some 42),.bin .add (.t 38) (.t 41),none⟩,
    ⟨(some 43),.bin .add (.t 42) (.c (.str ⟨#[93,32,61,32]⟩)),none⟩,
    ⟨(some 44),.fadd (.t 2) 11,none⟩,
    ⟨(some 45),.ld (.t 44) 6 true,none⟩,
    ⟨(some 46),.call aN [(.t 45)],none⟩,
    ⟨(some 47),.bin .add (.t 43) (.t 46),none⟩,
    ⟨(some 4),.mov (.t 47),none⟩] [] []) <|
  .ret) (.seq (.reg [⟨(some 49),.bin .eql (.t 7) (.c (.int .i64 4)),none⟩,
    ⟨(some 48),.mov (.t 49),none⟩]) <|
  .cond (.t 48) (.seq (.dreg [⟨(some 50),.fadd (.t 2) 4,none⟩,
    ⟨(some 51),.ld (.t 50) 1 false,none⟩,
    ⟨(some 52),.bin .add (.c (.str ⟨#[97,116,111,109,105,99,32]⟩)) (.t 51),none⟩,
    ⟨(some 53),.bin .add (.t 52) (.c (.str ⟨#[91]⟩)),none⟩,
    ⟨(some 54),.fadd (.t 2) 5,none⟩,
    ⟨(some 55),.ld (.t 54) 6 true,none⟩,
    ⟨(some 56),.call aN [(.t 55)],none⟩,
    ⟨(some 57),.bin .add (.t 53) (.t 56),none⟩,
    ⟨(some 58),.bin .add (.t 57) (.c (.str ⟨#[93,32]⟩)),none⟩,
    ⟨(some 59),.call tJ [],none⟩,
    ⟨(some 60),.fadd (.t 2) 1,none⟩,
    ⟨(some 61),.ld (.t 60) 1 false,none⟩,
    ⟨(some 62),.call wh [(.t 61)],none⟩,
    ⟨(some 63),.call bo [(.t 59),(.t 62)],none⟩,
    ⟨(some 64),.bin .add (.t 58) (.t 63),none⟩,
    ⟨(some 65),.bin .add (.t 64) (.c (.str ⟨#[32]⟩)),none⟩,
    ⟨(some 66),.fadd (.t 2) 11,none⟩,
    ⟨(some 67),.ld (.t 66) 6 true,none⟩,
    ⟨(some 68),.call aN [(.t 67)],none⟩,
    ⟨(some 69),.bin .add (.t 65) (.t 68),none⟩,
    ⟨(some 4),.mov (.t 69),none⟩] [] []) <|
  .ret) (.seq (.reg [⟨(some 71),.bin .eql (.t 7) (.c (.int .i64 5)),none⟩,
    ⟨(some 70),.mov (.t 71),none⟩]) <|
  .cond (.t 70) (.seq (.dreg [⟨(some 72),.fadd (.t 2) 5,none⟩,
    ⟨(some 73),.ld (.t 72) 6 true,none⟩,
    ⟨(some 74),.call aN [(.t 73)],none⟩,
    ⟨(some 75),.bin .add (.c (.str ⟨#[105,102,32]⟩)) (.t 74),none⟩,
    ⟨(some 76),.bin .add (.t 75) (.c (.str ⟨#[32,123,10]⟩)),none⟩,
    ⟨(some 77),.fadd (.t 2) 17,none⟩,
    ⟨(some 78),.ld (.t 77) 1 false,none⟩,
    ⟨(some 79),.mov (.t 1),none⟩,
    ⟨(some 80),.bin .add (.t 79) (.c (.str ⟨#[32,32]⟩)),none⟩,
    ⟨(some 81),.call dC [(.t 78),(.t 80)],none⟩,
    ⟨(some 82),.bin .add (.t 76) (.t 81),none⟩,
    ⟨(some 83),.mov (.t 1),none⟩,
    ⟨(some 84),.bin .add (.t 82) (.t 83),none⟩,
    ⟨(some 85),.bin .add (.t 84) (.c (.str ⟨#[125]⟩)),none⟩,
    ⟨(some 5),.mov (.t 85),none⟩] [] []) <|
  .seqj [] [5] (.seq (.reg [⟨(some 86),.fadd (.t 2) 18,none⟩,
    ⟨(some 87),.ld (.t 86) 1 false,none⟩,
    ⟨(some 88),.len (.t 87),none⟩,
    ⟨(some 89),.bin .gtr (.t 88) (.c (.int .i64 0)),none⟩]) <|
  .cond (.t 89) (.reg [⟨(some 90),.mov (.t 5),none⟩,
    ⟨(some 91),.fadd (.t 2) 18,none⟩,
    ⟨(some 92),.ld (.t 91) 1 false,none⟩,
    ⟨(some 93),.mov (.t 1),none⟩,
    ⟨(some 94),.bin .add (.t 93) (.c (.str ⟨#[32,32]⟩)),none⟩,
    ⟨(some 95),.call dC [(.t 92),(.t 94)],none⟩,
    ⟨(some 96),.bin .add (.c (.str ⟨#[32,101,108,115,101,32,123,10]⟩)) (.t 95),none⟩,
    ⟨(some 97),.mov (.t 1),none⟩,
    ⟨(some 98),.bin .add (.t 96) (.t 97),none⟩,
    ⟨(some 99),.bin .add (.t 98) (.c (.str ⟨#[125]⟩)),none⟩,
    ⟨(some 100),.bin .add (.t 90) (.t 99),none⟩,
    ⟨(some 5),.mov (.t 100),none⟩]) (.skip)) <|
  .seq (.reg [⟨(some 101),.mov (.t 5),none⟩,
    ⟨(some 4),.mov (.t 101),none⟩]) <|
  .ret) (.seq (.reg [⟨(some 103),.bin .eql (.t 7) (.c (.int .i64 6)),none⟩,
    ⟨(some 102),.mov (.t 103),none⟩]) <|
  .cond (.t 102) (.seq (.dreg [⟨(some 104),.fadd (.t 2) 5,none⟩,
    ⟨(some 105),.ld (.t 104) 6 true,none⟩,
    ⟨(some 106),.call aN [(.t 105)],none⟩,
    ⟨(some 107),.bin .add (.c (.str ⟨#[119,104,105,108,101,32]⟩)) (.t 106),none⟩,
    ⟨(some 108),.bin .add (.t 107) (.c (.str ⟨#[32,109,111,115,116,32]⟩)),none⟩,
    ⟨(some 109),.fadd (.t 2) 3,none⟩,
    ⟨(some 110),.ld (.t 109) 1 false,none⟩,
    ⟨(some 111),.call cO [(.t 110)],none⟩,
    ⟨(some 112),.bin .add (.t 108) (.t 111),none⟩,
    ⟨(some 113),.bin .add (.t 112) (.c (.str ⟨#[32,123,10]⟩)),none⟩,
    ⟨(some 114),.fadd (.t 2) 17,none⟩,
    ⟨(some 115),.ld (.t 114) 1 false,none⟩,
    ⟨(some 116),.mov (.t 1),none⟩,
    ⟨(some 117),.bin .add (.t 116) (.c (.str ⟨#[32,32]⟩)),none⟩,
    ⟨(some 118),.call dC [(.t 115),(.t 117)],none⟩,
    ⟨(some 119),.bin .add (.t 113) (.t 118),none⟩,
    ⟨(some 120),.mov (.t 1),none⟩,
    ⟨(some 121),.bin .add (.t 119) (.t 120),none⟩,
    ⟨(some 122),.bin .add (.t 121) (.c (.str ⟨#[125]⟩)),none⟩,
    ⟨(some 4),.mov (.t 122),none⟩] [] []) <|
  .ret) (.seq (.reg [⟨(some 124),.bin .eql (.t 7) (.c (.int .i64 7)),none⟩,
    ⟨(some 123),.mov (.t 124),none⟩]) <|
  .cond (.t 123) (.seq (.reg [⟨(some 4),.mov (.c (.str ⟨#[98,114,101,97,107]⟩)),none⟩]) <|
  .ret) (.seq (.reg [⟨(some 126),.bin .eql (.t 7) (.c (.int .i64 8)),none⟩,
    ⟨(some 125),.mov (.t 126),none⟩]) <|
  .cond (.t 125) (.seq (.reg [⟨(some 4),.mov (.c (.str ⟨#[99,111,110,116,105,110,117,101]⟩)),none⟩]) <|
  .ret) (.seq (.reg [⟨(some 128),.bin .eql (.t 7) (.c (.int .i64 9)),none⟩,
    ⟨(some 127),.mov (.t 128),none⟩]) <|
  .cond (.t 127) (.seq (.reg [⟨(some 4),.mov (.c (.str ⟨#[114,101,116,117,114,110]⟩)),none⟩]) <|
  .ret) (.seq (.reg [⟨(some 130),.bin .eql (.t 7) (.c (.int .i64 10)),none⟩,
    ⟨(some 129),.mov (.t 130),none⟩]) <|
  .cond (.t 129) (.seq (.reg [⟨(some 4),.mov (.c (.str ⟨#[98,97,114,114,105,101,114]⟩)),none⟩]) <|
  .ret) (.seq (.reg [⟨(some 132),.bin .eql (.t 7) (.c (.int .i64 11)),none⟩,
    ⟨(some 131),.mov (.t 132),none⟩]) <|
  .cond (.t 131) (.seq (.reg [⟨(some 133),.bldS true 1 2 (.str ⟨#[]⟩) [(0,(.c (.str ⟨#[103,114,111,117,112]⟩))),(1,(.c (.str ⟨#[100,101,118,105,99,101]⟩)))],none⟩,
    ⟨(some 134),.fadd (.t 2) 1,none⟩,
    ⟨(some 135),.ld (.t 134) 1 false,none⟩,
    ⟨(some 136),.bin .sub (.t 135) (.c (.int .i64 1)),none⟩,
    ⟨(some 137),.call bo [(.t 133),(.t 136)],none⟩,
    ⟨(some 138),.bin .add (.c (.str ⟨#[102,101,110,99,101,32]⟩)) (.t 137),none⟩,
    ⟨(some 4),.mov (.t 138),none⟩]) <|
  .ret) (.seq (.reg [⟨(some 140),.bin .eql (.t 7) (.c (.int .i64 12)),none⟩,
    ⟨(some 139),.mov (.t 140),none⟩]) <|
  .cond (.t 139) (.seq (.seq (.reg [⟨(some 141),.fadd (.t 2) 1,none⟩,
    ⟨(some 142),.ld (.t 141) 1 false,none⟩,
    ⟨(some 143),.bin .eql (.t 142) (.c (.int .i64 4)),none⟩]) <|
  .cond (.t 143) (.seq (.dreg [⟨(some 144),.fadd (.t 2) 4,none⟩,
    ⟨(some 145),.ld (.t 144) 1 false,none⟩,
    ⟨(some 146),.bin .add (.t 145) (.c (.str ⟨#[32,61,32,115,104,117,102,102,108,101,40]⟩)),none⟩,
    ⟨(some 147),.fadd (.t 2) 5,none⟩,
    ⟨(some 148),.ld (.t 147) 6 true,none⟩,
    ⟨(some 149),.call aN [(.t 148)],none⟩,
    ⟨(some 150),.bin .add (.t 146) (.t 149),none⟩,
    ⟨(some 151),.bin .add (.t 150) (.c (.str ⟨#[44,32]⟩)),none⟩,
    ⟨(some 152),.fadd (.t 2) 11,none⟩,
    ⟨(some 153),.ld (.t 152) 6 true,none⟩,
    ⟨(some 154),.call aN [(.t 153)],none⟩,
    ⟨(some 155),.bin .add (.t 151) (.t 154),none⟩,
    ⟨(some 156),.bin .add (.t 155) (.c (.str ⟨#[41]⟩)),none⟩,
    ⟨(some 4),.mov (.t 156),none⟩] [] []) <|
  .ret) (.skip)) <|
  .seq (.dreg [⟨(some 157),.fadd (.t 2) 4,none⟩,
    ⟨(some 158),.ld (.t 157) 1 false,none⟩,
    ⟨(some 159),.bin .add (.t 158) (.c (.str ⟨#[32,61,32]⟩)),none⟩,
    ⟨(some 160),.call eX [],none⟩,
    ⟨(some 161),.fadd (.t 2) 1,none⟩,
    ⟨(some 162),.ld (.t 161) 1 false,none⟩,
    ⟨(some 163),.bin .sub (.t 162) (.c (.int .i64 1)),none⟩,
    ⟨(some 164),.call bo [(.t 160),(.t 163)],none⟩,
    ⟨(some 165),.bin .add (.t 159) (.t 164),none⟩,
    ⟨(some 166),.bin .add (.t 165) (.c (.str ⟨#[40]⟩)),none⟩,
    ⟨(some 167),.fadd (.t 2) 5,none⟩,
    ⟨(some 168),.ld (.t 167) 6 true,none⟩,
    ⟨(some 169),.call aN [(.t 168)],none⟩,
    ⟨(some 170),.bin .add (.t 166) (.t 169),none⟩,
    ⟨(some 171),.bin .add (.t 170) (.c (.str ⟨#[41]⟩)),none⟩,
    ⟨(some 4),.mov (.t 171),none⟩] [] []) <|
  .ret) (.skip)))))))))))))) <|
  .seq (.reg [⟨(some 4),.mov (.c (.str ⟨#[]⟩)),none⟩]) <|
  .ret,
  [.t 4]⟩
theorem CG:cFn PP true zt As (cDr PP 172 C2)=some zL:=by kernel_rfl
def u4:Nat->Option (List Nat×List Nat)
  | 1000011=>some ([0,4],[5,6])|_=>none
def yb:Nat->Option (List Nat×List Nat×List Nat)
  | _=>none
def ss:af:=⟨53,
  .seq (.reg [⟨(some 4),.alloc (.agg [(.str ⟨#[]⟩),(.int .i64 0)]),none⟩]) <|
  .seq (.seq (.reg [⟨(some 7),.mov (.t 0),none⟩,
    ⟨(some 8),.call gf [(.t 7)],none⟩,
    ⟨(some 9),.un .not (.t 8),none⟩,
    ⟨(some 10),.mov (.t 9),none⟩,
    ⟨(some 11),.mov (.t 0),some (10,false)⟩,
    ⟨(some 12),.bin .eql (.t 11) (.c (.int .i64 3)),some (10,false)⟩,
    ⟨(some 13),.mov (.t 12),some (10,false)⟩,
    ⟨(some 14),.mov (.t 1),some (13,true)⟩,
    ⟨(some 15),.bin .neq (.t 14) (.c (.int .i32 0)),some (13,true)⟩,
    ⟨(some 16),.pick (.t 13) (.t 15) (.c (.bool false)),some (10,false)⟩,
    ⟨(some 17),.mov (.t 16),some (10,false)⟩,
    ⟨(some 18),.mov (.t 1),some (17,true)⟩,
    ⟨(some 19),.bin .neq (.t 18) (.c (.int .i32 1)),some (17,true)⟩,
    ⟨(some 20),.pick (.t 17) (.t 19) (.c (.bool false)),some (10,false)⟩,
    ⟨(some 21),.pick (.t 10) (.c (.bool true)) (.t 20),none⟩]) <|
  .cond (.t 21) (.seq (.reg [⟨(some 22),.bld [(.str ⟨#[]⟩),(.int .i64 0)] [(1,1,(.c (.int .i64 1)))],none⟩,
    ⟨none,.st (.t 4) (.t 22) 2,none⟩]) <|
  .ret) (.skip)) <|
  .seq (.seq (.reg [⟨(some 23),.mov (.t 0),none⟩,
    ⟨(some 24),.bin .eql (.t 23) (.c (.int .i64 3)),none⟩]) <|
  .cond (.t 24) (.seq (.seq (.reg [⟨(some 25),.mov (.t 1),none⟩,
    ⟨(some 26),.bin .eql (.t 25) (.c (.int .i32 1)),none⟩]) <|
  .cond (.t 26) (.seq (.reg [⟨(some 27),.bld [(.str ⟨#[]⟩),(.int .i64 0)] [(0,1,(.c (.str ⟨#[116,114,117,101]⟩)))],none⟩,
    ⟨none,.st (.t 4) (.t 27) 2,none⟩]) <|
  .ret) (.skip)) <|
  .seq (.reg [⟨(some 28),.bld [(.str ⟨#[]⟩),(.int .i64 0)] [(0,1,(.c (.str ⟨#[102,97,108,115,101]⟩)))],none⟩,
    ⟨none,.st (.t 4) (.t 28) 2,none⟩]) <|
  .ret) (.skip)) <|
  .seq (.reg [⟨(some 29),.mov (.t 1),none⟩,
    ⟨(some 30),.conv .i64 (.t 29),none⟩,
    ⟨(some 5),.mov (.c (.str ⟨#[]⟩)),none⟩,
    ⟨(some 6),.mov (.t 30),none⟩]) <|
  .seqj [0,4] [5,6] (.seq (.reg [⟨(some 31),.mov (.t 6),none⟩,
    ⟨(some 32),.bin .lss (.t 31) (.c (.int .i64 0)),none⟩]) <|
  .cond (.t 32) (.reg [⟨(some 33),.mov (.t 6),none⟩,
    ⟨(some 34),.un .neg (.t 33),none⟩,
    ⟨(some 5),.mov (.c (.str ⟨#[45]⟩)),none⟩,
    ⟨(some 6),.mov (.t 34),none⟩]) (.skip)) <|
  .seq (.seq (.reg [⟨(some 35),.mov (.t 0),none⟩,
    ⟨(some 36),.bin .eql (.t 35) (.c (.int .i64 1)),none⟩]) <|
  .cond (.t 36) (.seq (.reg [⟨(some 37),.mov (.t 5),none⟩,
    ⟨(some 38),.mov (.t 6),none⟩,
    ⟨(some 39),.call dW [(.t 38)],none⟩,
    ⟨(some 40),.bin .add (.t 37) (.t 39),none⟩,
    ⟨(some 41),.bld [(.str ⟨#[]⟩),(.int .i64 0)] [(0,1,(.t 40))],none⟩,
    ⟨none,.st (.t 4) (.t 41) 2,none⟩]) <|
  .ret) (.skip)) <|
  .seq (.reg [⟨(some 42),.mov (.t 5),none⟩,
    ⟨(some 43),.mov (.t 6),none⟩,
    ⟨(some 44),.bin .quo (.t 43) (.c (.int .i64 65536)),none⟩,
    ⟨(some 45),.call dW [(.t 44)],none⟩,
    ⟨(some 46),.bin .add (.t 42) (.t 45),none⟩,
    ⟨(some 47),.bin .add (.t 46) (.c (.str ⟨#[46]⟩)),none⟩,
    ⟨(some 48),.mov (.t 6),none⟩,
    ⟨(some 49),.bin .rem (.t 48) (.c (.int .i64 65536)),none⟩,
    ⟨(some 50),.call yl [(.t 49)],none⟩,
    ⟨(some 51),.bin .add (.t 47) (.t 50),none⟩,
    ⟨(some 52),.bld [(.str ⟨#[]⟩),(.int .i64 0)] [(0,1,(.t 51))],none⟩,
    ⟨none,.st (.t 4) (.t 52) 2,none⟩]) <|
  .ret,
  [.cell 4 2 true]⟩
theorem xI:cFn PP true kG u4 (cDr PP 53 yb)=some ss:=by kernel_rfl
def wH:Nat->Option (List Nat×List Nat)
  | _=>none
def z7:Nat->Option (List Nat×List Nat×List Nat)
  | _=>none
def uf:af:=⟨2,
  .seq (.reg [⟨(some 0),.mov (.c .nil),none⟩]) <|
  .seq (.reg [⟨(some 1),.bldS true 1 5 (.str ⟨#[]⟩) [(0,(.c (.str ⟨#[110,101,103]⟩))),(1,(.c (.str ⟨#[110,111,116]⟩))),(2,(.c (.str ⟨#[97,98,115]⟩))),(3,(.c (.str ⟨#[102,105,120]⟩))),(4,(.c (.str ⟨#[105,110,116]⟩)))],none⟩,
    ⟨(some 0),.mov (.t 1),none⟩]) <|
  .ret,
  [.t 0]⟩
theorem y6:cFn PP true iz wH (cDr PP 2 z7)=some uf:=by kernel_rfl
def uX:Nat->Option (List Nat×List Nat)
  | _=>none
def x7:Nat->Option (List Nat×List Nat×List Nat)
  | _=>none
def sk:af:=⟨2,
  .seq (.reg [⟨(some 0),.mov (.c .nil),none⟩]) <|
  .seq (.reg [⟨(some 1),.bldS true 1 20 (.str ⟨#[]⟩) [(0,(.c (.str ⟨#[43]⟩))),(1,(.c (.str ⟨#[45]⟩))),(2,(.c (.str ⟨#[42]⟩))),(3,(.c (.str ⟨#[47]⟩))),(4,(.c (.str ⟨#[37]⟩))),(5,(.c (.str ⟨#[42,46]⟩))),(6,(.c (.str ⟨#[47,46]⟩))),(7,(.c (.str ⟨#[38]⟩))),(8,(.c (.str ⟨#[124]⟩))),(9,(.c (.str ⟨#[94]⟩))),(10,(.c (.str ⟨#[60,60]⟩))),(11,(.c (.str ⟨#[62,62]⟩))),(12,(.c (.str ⟨#[109,105,110]⟩))),(13,(.c (.str ⟨#[109,97,120]⟩))),(14,(.c (.str ⟨#[61,61]⟩))),(15,(.c (.str ⟨#[33,61]⟩))),(16,(.c (.str ⟨#[60]⟩))),(17,(.c (.str ⟨#[60,61]⟩))),(18,(.c (.str ⟨#[62]⟩))),(19,(.c (.str ⟨#[62,61]⟩)))],none⟩,
    ⟨(some 0),.mov (.t 1),none⟩]) <|
  .ret,
  [.t 0]⟩
theorem xu:cFn PP true fZ uX (cDr PP 2 x7)=some sk:=by kernel_rfl
def B7:Nat->Option (List Nat×List Nat)
  | _=>none
def D5:Nat->Option (List Nat×List Nat×List Nat)
  | _=>none
def CI:af:=⟨14,
  .seq (.reg [⟨(some 4),.alloc (.agg [(.int .i64 0),(.int .i64 0),(.int .i64 0),(.str ⟨#[]⟩),(.int .i32 0),.nil]),none⟩]) <|
  .seq (.seq (.reg [⟨(some 5),.mov (.t 1),none⟩,
    ⟨(some 6),.mov (.t 0),none⟩,
    ⟨(some 7),.len (.t 6),none⟩,
    ⟨(some 8),.bin .lss (.t 5) (.t 7),none⟩]) <|
  .cond (.t 8) (.seq (.reg [⟨(some 9),.mov (.t 0),none⟩,
    ⟨(some 10),.mov (.t 1),none⟩,
    ⟨(some 11),.iadd (.t 9) (.t 10) 6,none⟩,
    ⟨(some 12),.ld (.t 11) 6 true,none⟩,
    ⟨none,.st (.t 4) (.t 12) 6,none⟩]) <|
  .ret) (.skip)) <|
  .seq (.reg [⟨(some 13),.bld [(.int .i64 0),(.int .i64 0),(.int .i64 0),(.str ⟨#[]⟩),(.int .i32 0),.nil] [],none⟩,
    ⟨none,.st (.t 4) (.t 13) 6,none⟩]) <|
  .ret,
  [.cell 4 6 true]⟩
theorem Dl:cFn PP true ff B7 (cDr PP 14 D5)=some CI:=by kernel_rfl
def yA:Nat->Option (List Nat×List Nat)
  | 1000009=>some ([],[])|4=>some ([0],[3])|_=>none
def Bz:Nat->Option (List Nat×List Nat×List Nat)
  | _=>none
def xB:af:=⟨40,
  .seq (.reg [⟨(some 2),.mov (.c (.bool false)),none⟩]) <|
  .seq (.seq (.reg [⟨(some 4),.mov (.t 0),none⟩,
    ⟨(some 5),.bin .eql (.t 4) (.c (.str ⟨#[]⟩)),none⟩,
    ⟨(some 6),.mov (.t 5),none⟩,
    ⟨(some 7),.mov (.t 0),some (6,false)⟩,
    ⟨(some 8),.slen (.t 7),some (6,false)⟩,
    ⟨(some 9),.bin .gtr (.t 8) (.c (.int .i64 12)),some (6,false)⟩,
    ⟨(some 10),.pick (.t 6) (.c (.bool true)) (.t 9),none⟩,
    ⟨(some 11),.mov (.t 10),none⟩,
    ⟨(some 12),.mov (.t 0),some (11,false)⟩,
    ⟨(some 13),.sidx (.t 12) (.c (.int .i64 0)) 0 0 false,some (11,false)⟩,
    ⟨(some 14),.call cM [(.t 13)],some (11,false)⟩,
    ⟨(some 15),.un .not (.t 14),some (11,false)⟩,
    ⟨(some 16),.pick (.t 11) (.c (.bool true)) (.t 15),none⟩,
    ⟨(some 17),.mov (.t 16),none⟩,
    ⟨(some 18),.call mW [],some (17,false)⟩,
    ⟨(some 19),.mov (.t 0),some (17,false)⟩,
    ⟨(some 20),.call dV [(.t 18),(.t 19)],some (17,false)⟩,
    ⟨(some 21),.pick (.t 17) (.c (.bool true)) (.t 20),none⟩]) <|
  .cond (.t 21) (.seq (.reg [⟨(some 2),.mov (.c (.bool false)),none⟩]) <|
  .ret) (.skip)) <|
  .seqj [] [] (.seq (.reg [⟨(some 3),.mov (.c (.int .i64 0)),none⟩]) <|
  .block 0 (.loop [0] [3] (.seq (.seq (.reg [⟨(some 22),.mov (.t 3),none⟩,
    ⟨(some 23),.mov (.t 0),none⟩,
    ⟨(some 24),.slen (.t 23),none⟩,
    ⟨(some 25),.bin .lss (.t 22) (.t 24),none⟩]) <|
  .cond (.t 25) (.skip) (.exit 0)) <|
  .seq (.block 1 (.seq (.reg [⟨(some 28),.mov (.t 0),none⟩,
    ⟨(some 29),.mov (.t 3),none⟩,
    ⟨(some 30),.sidx (.t 28) (.t 29) 0 0 false,none⟩,
    ⟨(some 31),.call cM [(.t 30)],none⟩,
    ⟨(some 32),.un .not (.t 31),none⟩,
    ⟨(some 33),.mov (.t 32),none⟩,
    ⟨(some 34),.mov (.t 0),some (33,true)⟩,
    ⟨(some 35),.mov (.t 3),some (33,true)⟩,
    ⟨(some 36),.sidx (.t 34) (.t 35) 0 0 false,some (33,true)⟩,
    ⟨(some 37),.call cc [(.t 36)],some (33,true)⟩,
    ⟨(some 38),.un .not (.t 37),some (33,true)⟩,
    ⟨(some 39),.pick (.t 33) (.t 38) (.c (.bool false)),none⟩]) <|
  .cond (.t 39) (.seq (.reg [⟨(some 2),.mov (.c (.bool false)),none⟩]) <|
  .ret) (.skip))) <|
  .reg [⟨(some 26),.mov (.t 3),none⟩,
    ⟨(some 27),.bin .add (.t 26) (.c (.int .i64 1)),none⟩,
    ⟨(some 3),.mov (.t 27),none⟩]))) <|
  .seq (.reg [⟨(some 2),.mov (.c (.bool true)),none⟩]) <|
  .ret,
  [.t 2]⟩
theorem AV:cFn PP true oA yA (cDr PP 40 Bz)=some xB:=by kernel_rfl
def yz:Nat->Option (List Nat×List Nat)
  | 1000004=>some ([0,2,6],[1])|1=>some ([0,2,6],[1])|1000013=>some ([0,1,6],[7])|1000017=>some ([1,6],[8])|_=>none
def By:Nat->Option (List Nat×List Nat×List Nat)
  | _=>none
def xA:af:=⟨131,
  .seq (.reg [⟨(some 6),.alloc (.agg [(.int .i64 0),(.int .i64 0)]),none⟩]) <|
  .seqj [0,2,6] [1] (.block 0 (.loop [0,2,6] [1] (.seq (.seq (.reg [⟨(some 9),.mov (.t 1),none⟩,
    ⟨(some 10),.mov (.t 0),none⟩,
    ⟨(some 11),.slen (.t 10),none⟩,
    ⟨(some 12),.bin .lss (.t 9) (.t 11),none⟩,
    ⟨(some 13),.mov (.t 12),none⟩,
    ⟨(some 14),.mov (.t 0),some (13,true)⟩,
    ⟨(some 15),.mov (.t 1),some (13,true)⟩,
    ⟨(some 16),.sidx (.t 14) (.t 15) 0 0 false,some (13,true)⟩,
    ⟨(some 17),.call tH [(.t 16)],some (13,true)⟩,
    ⟨(some 18),.pick (.t 13) (.t 17) (.c (.bool false)),none⟩]) <|
  .cond (.t 18) (.skip) (.exit 0)) <|
  .block 1 (.reg [⟨(some 19),.mov (.t 1),none⟩,
    ⟨(some 20),.bin .add (.t 19) (.c (.int .i64 1)),none⟩,
    ⟨(some 1),.mov (.t 20),none⟩])))) <|
  .seq (.seq (.reg [⟨(some 21),.mov (.t 1),none⟩,
    ⟨(some 22),.mov (.t 0),none⟩,
    ⟨(some 23),.slen (.t 22),none⟩,
    ⟨(some 24),.bin .eql (.t 21) (.t 23),none⟩]) <|
  .cond (.t 24) (.seq (.reg [⟨(some 25),.mov (.t 1),none⟩,
    ⟨(some 26),.mov (.t 1),none⟩,
    ⟨(some 27),.bld [(.int .i64 0),(.int .i64 0)] [(0,1,(.t 25)),(1,1,(.t 26))],none⟩,
    ⟨none,.st (.t 6) (.t 27) 2,none⟩]) <|
  .ret) (.skip)) <|
  .seq (.seq (.reg [⟨(some 28),.mov (.t 0),none⟩,
    ⟨(some 29),.mov (.t 1),none⟩,
    ⟨(some 30),.sidx (.t 28) (.t 29) 0 0 false,none⟩,
    ⟨(some 31),.call cM [(.t 30)],none⟩]) <|
  .cond (.t 31) (.seq (.reg [⟨(some 32),.mov (.t 1),none⟩,
    ⟨(some 33),.mov (.t 0),none⟩,
    ⟨(some 34),.mov (.t 1),none⟩,
    ⟨(some 35),.call oz [(.t 33),(.t 34)],none⟩,
    ⟨(some 36),.bld [(.int .i64 0),(.int .i64 0)] [(0,1,(.t 32)),(1,1,(.t 35))],none⟩,
    ⟨none,.st (.t 6) (.t 36) 2,none⟩]) <|
  .ret) (.skip)) <|
  .seq (.seq (.reg [⟨(some 37),.mov (.t 0),none⟩,
    ⟨(some 38),.mov (.t 1),none⟩,
    ⟨(some 39),.sidx (.t 37) (.t 38) 0 0 false,none⟩,
    ⟨(some 40),.bin .eql (.t 39) (.c (.int .u8 64)),none⟩,
    ⟨(some 41),.mov (.t 40),none⟩,
    ⟨(some 42),.mov (.t 1),some (41,true)⟩,
    ⟨(some 43),.bin .add (.t 42) (.c (.int .i64 1)),some (41,true)⟩,
    ⟨(some 44),.mov (.t 0),some (41,true)⟩,
    ⟨(some 45),.slen (.t 44),some (41,true)⟩,
    ⟨(some 46),.bin .lss (.t 43) (.t 45),some (41,true)⟩,
    ⟨(some 47),.pick (.t 41) (.t 46) (.c (.bool false)),none⟩,
    ⟨(some 48),.mov (.t 47),none⟩,
    ⟨(some 49),.mov (.t 0),some (48,true)⟩,
    ⟨(some 50),.mov (.t 1),some (48,true)⟩,
    ⟨(some 51),.bin .add (.t 50) (.c (.int .i64 1)),some (48,true)⟩,
    ⟨(some 52),.sidx (.t 49) (.t 51) 0 0 false,some (48,true)⟩,
    ⟨(some 53),.call cM [(.t 52)],some (48,true)⟩,
    ⟨(some 54),.pick (.t 48) (.t 53) (.c (.bool false)),none⟩]) <|
  .cond (.t 54) (.seq (.reg [⟨(some 55),.mov (.t 1),none⟩,
    ⟨(some 56),.mov (.t 0),none⟩,
    ⟨(some 57),.mov (.t 1),none⟩,
    ⟨(some 58),.bin .add (.t 57) (.c (.int .i64 1)),none⟩,
    ⟨(some 59),.call oz [(.t 56),(.t 58)],none⟩,
    ⟨(some 60),.bld [(.int .i64 0),(.int .i64 0)] [(0,1,(.t 55)),(1,1,(.t 59))],none⟩,
    ⟨none,.st (.t 6) (.t 60) 2,none⟩]) <|
  .ret) (.skip)) <|
  .seq (.reg [⟨(some 61),.mov (.t 1),none⟩,
    ⟨(some 7),.mov (.t 61),none⟩]) <|
  .seqj [0,1,6] [7] (.seq (.reg [⟨(some 62),.mov (.t 2),none⟩,
    ⟨(some 63),.mov (.t 62),none⟩,
    ⟨(some 64),.mov (.t 0),some (63,true)⟩,
    ⟨(some 65),.mov (.t 1),some (63,true)⟩,
    ⟨(some 66),.sidx (.t 64) (.t 65) 0 0 false,some (63,true)⟩,
    ⟨(some 67),.bin .eql (.t 66) (.c (.int .u8 45)),some (63,true)⟩,
    ⟨(some 68),.pick (.t 63) (.t 67) (.c (.bool false)),none⟩]) <|
  .cond (.t 68) (.reg [⟨(some 69),.mov (.t 7),none⟩,
    ⟨(some 70),.bin .add (.t 69) (.c (.int .i64 1)),none⟩,
    ⟨(some 7),.mov (.t 70),none⟩]) (.skip)) <|
  .seq (.seq (.reg [⟨(some 71),.mov (.t 7),none⟩,
    ⟨(some 72),.mov (.t 0),none⟩,
    ⟨(some 73),.slen (.t 72),none⟩,
    ⟨(some 74),.bin .lss (.t 71) (.t 73),none⟩,
    ⟨(some 75),.mov (.t 74),none⟩,
    ⟨(some 76),.mov (.t 0),some (75,true)⟩,
    ⟨(some 77),.mov (.t 7),some (75,true)⟩,
    ⟨(some 78),.sidx (.t 76) (.t 77) 0 0 false,some (75,true)⟩,
    ⟨(some 79),.call cc [(.t 78)],some (75,true)⟩,
    ⟨(some 80),.pick (.t 75) (.t 79) (.c (.bool false)),none⟩]) <|
  .cond (.t 80) (.seq (.reg [⟨(some 81),.mov (.t 0),none⟩,
    ⟨(some 82),.mov (.t 7),none⟩,
    ⟨(some 83),.call kF [(.t 81),(.t 82)],none⟩,
    ⟨(some 8),.mov (.t 83),none⟩]) <|
  .seqj [1,6] [8] (.seq (.reg [⟨(some 84),.mov (.t 8),none⟩,
    ⟨(some 85),.bin .add (.t 84) (.c (.int .i64 1)),none⟩,
    ⟨(some 86),.mov (.t 0),none⟩,
    ⟨(some 87),.slen (.t 86),none⟩,
    ⟨(some 88),.bin .lss (.t 85) (.t 87),none⟩,
    ⟨(some 89),.mov (.t 88),none⟩,
    ⟨(some 90),.mov (.t 0),some (89,true)⟩,
    ⟨(some 91),.mov (.t 8),some (89,true)⟩,
    ⟨(some 92),.sidx (.t 90) (.t 91) 0 0 false,some (89,true)⟩,
    ⟨(some 93),.bin .eql (.t 92) (.c (.int .u8 46)),some (89,true)⟩,
    ⟨(some 94),.pick (.t 89) (.t 93) (.c (.bool false)),none⟩,
    ⟨(some 95),.mov (.t 94),none⟩,
    ⟨(some 96),.mov (.t 0),some (95,true)⟩,
    ⟨(some 97),.mov (.t 8),some (95,true)⟩,
    ⟨(some 98),.bin .add (.t 97) (.c (.int .i64 1)),some (95,true)⟩,
    ⟨(some 99),.sidx (.t 96) (.t 98) 0 0 false,some (95,true)⟩,
    ⟨(some 100),.call cc [(.t 99)],some (95,true)⟩,
    ⟨(some 101),.pick (.t 95) (.t 100) (.c (.bool false)),none⟩]) <|
  .cond (.t 101) (.reg [⟨(some 102),.mov (.t 0),none⟩,
    ⟨(some 103),.mov (.t 8),none⟩,
    ⟨(some 104),.bin .add (.t 103) (.c (.int .i64 1)),none⟩,
    ⟨(some 105),.call kF [(.t 102),(.t 104)],none⟩,
    ⟨(some 8),.mov (.t 105),none⟩]) (.skip)) <|
  .seq (.reg [⟨(some 106),.mov (.t 1),none⟩,
    ⟨(some 107),.mov (.t 8),none⟩,
    ⟨(some 108),.bld [(.int .i64 0),(.int .i64 0)] [(0,1,(.t 106)),(1,1,(.t 107))],none⟩,
    ⟨none,.st (.t 6) (.t 108) 2,none⟩]) <|
  .ret) (.skip)) <|
  .seq (.seq (.reg [⟨(some 109),.mov (.t 1),none⟩,
    ⟨(some 110),.bin .add (.t 109) (.c (.int .i64 1)),none⟩,
    ⟨(some 111),.mov (.t 0),none⟩,
    ⟨(some 112),.slen (.t 111),none⟩,
    ⟨(some 113),.bin .lss (.t 110) (.t 112),none⟩,
    ⟨(some 114),.mov (.t 113),none⟩,
    ⟨(some 115),.bldS true 1 8 (.str ⟨#[]⟩) [(0,(.c (.str ⟨#[42,46]⟩))),(1,(.c (.str ⟨#[47,46]⟩))),(2,(.c (.str ⟨#[60,60]⟩))),(3,(.c (.str ⟨#[62,62]⟩))),(4,(.c (.str ⟨#[61,61]⟩))),(5,(.c (.str ⟨#[33,61]⟩))),(6,(.c (.str ⟨#[60,61]⟩))),(7,(.c (.str ⟨#[62,61]⟩)))],some (114,true)⟩,
    ⟨(some 116),.mov (.t 0),some (114,true)⟩,
    ⟨(some 117),.mov (.t 1),some (114,true)⟩,
    ⟨(some 118),.mov (.t 1),some (114,true)⟩,
    ⟨(some 119),.bin .add (.t 118) (.c (.int .i64 2)),some (114,true)⟩,
    ⟨(some 120),.sslc (.t 116) (some (.t 117)) (some (.t 119)),some (114,true)⟩,
    ⟨(some 121),.call dV [(.t 115),(.t 120)],some (114,true)⟩,
    ⟨(some 122),.pick (.t 114) (.t 121) (.c (.bool false)),none⟩]) <|
  .cond (.t 122) (.seq (.reg [⟨(some 123),.mov (.t 1),none⟩,
    ⟨(some 124),.mov (.t 1),none⟩,
    ⟨(some 125),.bin .add (.t 124) (.c (.int .i64 2)),none⟩,
    ⟨(some 126),.bld [(.int .i64 0),(.int .i64 0)] [(0,1,(.t 123)),(1,1,(.t 125))],none⟩,
    ⟨none,.st (.t 6) (.t 126) 2,none⟩]) <|
  .ret) (.skip)) <|
  .seq (.reg [⟨(some 127),.mov (.t 1),none⟩,
    ⟨(some 128),.mov (.t 1),none⟩,
    ⟨(some 129),.bin .add (.t 128) (.c (.int .i64 1)),none⟩,
    ⟨(some 130),.bld [(.int .i64 0),(.int .i64 0)] [(0,1,(.t 127)),(1,1,(.t 129))],none⟩,
    ⟨none,.st (.t 6) (.t 130) 2,none⟩]) <|
  .ret,
  [.cell 6 2 true]⟩
theorem AU:cFn PP true dg yz (cDr PP 131 By)=some xA:=by kernel_rfl
def wF:Nat->Option (List Nat×List Nat)
  | 1000013=>some ([0],[4])|3=>some ([0],[4,5])|1000005=>some ([0,5],[4])|_=>none
def zZ:Nat->Option (List Nat×List Nat×List Nat)
  | _=>none
def ud:af:=⟨57,
  .seq (.reg [⟨(some 2),.mov (.c (.int .i64 0)),none⟩,
    ⟨(some 3),.mov (.c (.bool false)),none⟩]) <|
  .seq (.reg [⟨(some 4),.mov (.c (.int .i64 0)),none⟩]) <|
  .seqj [0] [4] (.seq (.reg [⟨(some 5),.mov (.c (.int .i64 0)),none⟩]) <|
  .block 0 (.loop [0] [4,5] (.seq (.seq (.reg [⟨(some 6),.mov (.t 5),none⟩,
    ⟨(some 7),.mov (.t 0),none⟩,
    ⟨(some 8),.slen (.t 7),none⟩,
    ⟨(some 9),.bin .lss (.t 6) (.t 8),none⟩]) <|
  .cond (.t 9) (.skip) (.exit 0)) <|
  .seqj [0,5] [4] (.block 1 (.seq (.seq (.reg [⟨(some 12),.mov (.t 5),none⟩,
    ⟨(some 13),.bin .eql (.t 12) (.c (.int .i64 0)),none⟩,
    ⟨(some 14),.mov (.t 13),none⟩,
    ⟨(some 15),.mov (.t 0),some (14,true)⟩,
    ⟨(some 16),.sidx (.t 15) (.c (.int .i64 0)) 0 0 false,some (14,true)⟩,
    ⟨(some 17),.bin .eql (.t 16) (.c (.int .u8 45)),some (14,true)⟩,
    ⟨(some 18),.pick (.t 14) (.t 17) (.c (.bool false)),none⟩]) <|
  .cond (.t 18) (.exit 1) (.skip)) <|
  .seq (.seq (.reg [⟨(some 19),.mov (.t 0),none⟩,
    ⟨(some 20),.mov (.t 5),none⟩,
    ⟨(some 21),.sidx (.t 19) (.t 20) 0 0 false,none⟩,
    ⟨(some 22),.call cc [(.t 21)],none⟩,
    ⟨(some 23),.un .not (.t 22),none⟩,
    ⟨(some 24),.mov (.t 23),none⟩,
    ⟨(some 25),.mov (.t 0),some (24,false)⟩,
    ⟨(some 26),.slen (.t 25),some (24,false)⟩,
    ⟨(some 27),.bin .gtr (.t 26) (.c (.int .i64 20)),some (24,false)⟩,
    ⟨(some 28),.pick (.t 24) (.c (.bool true)) (.t 27),none⟩]) <|
  .cond (.t 28) (.seq (.reg [⟨(some 2),.mov (.c (.int .i64 0)),none⟩,
    ⟨(some 3),.mov (.c (.bool false)),none⟩]) <|
  .ret) (.skip)) <|
  .seq (.reg [⟨(some 29),.mov (.t 4),none⟩,
    ⟨(some 30),.bin .mul (.t 29) (.c (.int .i64 10)),none⟩,
    ⟨(some 4),.mov (.t 30),none⟩]) <|
  .seq (.reg [⟨(some 31),.mov (.t 0),none⟩,
    ⟨(some 32),.sidx (.t 31) (.c (.int .i64 0)) 0 0 false,none⟩,
    ⟨(some 33),.bin .eql (.t 32) (.c (.int .u8 45)),none⟩]) <|
  .cond (.t 33) (.reg [⟨(some 34),.mov (.t 4),none⟩,
    ⟨(some 35),.mov (.t 0),none⟩,
    ⟨(some 36),.mov (.t 5),none⟩,
    ⟨(some 37),.sidx (.t 35) (.t 36) 0 0 false,none⟩,
    ⟨(some 38),.bin .sub (.t 37) (.c (.int .u8 48)),none⟩,
    ⟨(some 39),.conv .i64 (.t 38),none⟩,
    ⟨(some 40),.bin .sub (.t 34) (.t 39),none⟩,
    ⟨(some 4),.mov (.t 40),none⟩]) (.reg [⟨(some 41),.mov (.t 4),none⟩,
    ⟨(some 42),.mov (.t 0),none⟩,
    ⟨(some 43),.mov (.t 5),none⟩,
    ⟨(some 44),.sidx (.t 42) (.t 43) 0 0 false,none⟩,
    ⟨(some 45),.bin .sub (.t 44) (.c (.int .u8 48)),none⟩,
    ⟨(some 46),.conv .i64 (.t 45),none⟩,
    ⟨(some 47),.bin .add (.t 41) (.t 46),none⟩,
    ⟨(some 4),.mov (.t 47),none⟩]))) <|
  .reg [⟨(some 10),.mov (.t 5),none⟩,
    ⟨(some 11),.bin .add (.t 10) (.c (.int .i64 1)),none⟩,
    ⟨(some 5),.mov (.t 11),none⟩]))) <|
  .seq (.reg [⟨(some 48),.mov (.t 4),none⟩,
    ⟨(some 49),.mov (.t 0),none⟩,
    ⟨(some 50),.bin .neq (.t 49) (.c (.str ⟨#[]⟩)),none⟩,
    ⟨(some 51),.mov (.t 50),none⟩,
    ⟨(some 52),.mov (.t 4),some (51,true)⟩,
    ⟨(some 53),.call cO [(.t 52)],some (51,true)⟩,
    ⟨(some 54),.mov (.t 0),some (51,true)⟩,
    ⟨(some 55),.bin .eql (.t 53) (.t 54),some (51,true)⟩,
    ⟨(some 56),.pick (.t 51) (.t 55) (.c (.bool false)),none⟩,
    ⟨(some 2),.mov (.t 48),none⟩,
    ⟨(some 3),.mov (.t 56),none⟩]) <|
  .ret,
  [.t 2,.t 3]⟩
theorem yZ:cFn PP true tG wF (cDr PP 57 zZ)=some ud:=by kernel_rfl
def wK:Nat->Option (List Nat×List Nat)
  | 1000007=>some ([],[])|2=>some ([0,1],[5])|_=>none
def Ab:Nat->Option (List Nat×List Nat×List Nat)
  | _=>none
def ui:af:=⟨19,
  .seq (.reg [⟨(some 4),.mov (.c (.int .i64 0)),none⟩]) <|
  .seqj [] [] (.seq (.reg [⟨(some 5),.mov (.c (.int .i64 0)),none⟩]) <|
  .block 0 (.loop [0,1] [5] (.seq (.seq (.reg [⟨(some 6),.mov (.t 5),none⟩,
    ⟨(some 7),.mov (.t 0),none⟩,
    ⟨(some 8),.len (.t 7),none⟩,
    ⟨(some 9),.bin .lss (.t 6) (.t 8),none⟩]) <|
  .cond (.t 9) (.skip) (.exit 0)) <|
  .seq (.block 1 (.seq (.reg [⟨(some 12),.mov (.t 0),none⟩,
    ⟨(some 13),.mov (.t 5),none⟩,
    ⟨(some 14),.iadd (.t 12) (.t 13) 1,none⟩,
    ⟨(some 15),.ld (.t 14) 1 false,none⟩,
    ⟨(some 16),.mov (.t 1),none⟩,
    ⟨(some 17),.bin .eql (.t 15) (.t 16),none⟩]) <|
  .cond (.t 17) (.seq (.reg [⟨(some 18),.mov (.t 5),none⟩,
    ⟨(some 4),.mov (.t 18),none⟩]) <|
  .ret) (.skip))) <|
  .reg [⟨(some 10),.mov (.t 5),none⟩,
    ⟨(some 11),.bin .add (.t 10) (.c (.int .i64 1)),none⟩,
    ⟨(some 5),.mov (.t 11),none⟩]))) <|
  .seq (.reg [⟨(some 4),.mov (.c (.int .i64 (-1))),none⟩]) <|
  .ret,
  [.t 4]⟩
theorem y9:cFn PP true tI wK (cDr PP 19 Ab)=some ui:=by kernel_rfl
def mh:Nat->Option (List Nat×List Nat)
  | 1000005=>some ([],[3])|2=>some ([0],[3])|_=>none
def oi:Nat->Option (List Nat×List Nat×List Nat)
  | _=>none
def jh:af:=⟨20,
  .seq (.reg [⟨(some 2),.mov (.c .nil),none⟩]) <|
  .seq (.reg [⟨(some 4),.bldS true 19 0 (.agg [(.int .i64 0),(.int .i64 0),(.int .i64 0),(.int .i64 0),(.str ⟨#[]⟩),(.int .i64 0),(.int .i64 0),(.int .i64 0),(.str ⟨#[]⟩),(.int .i32 0),.nil,(.int .i64 0),(.int .i64 0),(.int .i64 0),(.str ⟨#[]⟩),(.int .i32 0),.nil,.nil,.nil]) [],none⟩,
    ⟨(some 3),.mov (.t 4),none⟩]) <|
  .seqj [] [3] (.block 0 (.loop [0] [3] (.seq (.seq (.reg [⟨(some 5),.mov (.t 0),none⟩,
    ⟨(some 6),.fadd (.t 5) 0,none⟩,
    ⟨(some 7),.fadd (.t 6) 2,none⟩,
    ⟨(some 8),.ld (.t 7) 1 false,none⟩,
    ⟨(some 9),.bin .lss (.t 8) (.c (.int .i64 0)),none⟩,
    ⟨(some 10),.mov (.t 9),none⟩,
    ⟨(some 11),.mov (.t 0),some (10,true)⟩,
    ⟨(some 12),.call gN [(.t 11)],some (10,true)⟩,
    ⟨(some 13),.pick (.t 10) (.t 12) (.c (.bool false)),none⟩]) <|
  .cond (.t 13) (.skip) (.exit 0)) <|
  .block 1 (.reg [⟨(some 14),.mov (.t 3),none⟩,
    ⟨(some 15),.mov (.t 0),none⟩,
    ⟨(some 16),.call jE [(.t 15)],none⟩,
    ⟨(some 17),.bldS true 19 1 (.agg [(.int .i64 0),(.int .i64 0),(.int .i64 0),(.int .i64 0),(.str ⟨#[]⟩),(.int .i64 0),(.int .i64 0),(.int .i64 0),(.str ⟨#[]⟩),(.int .i32 0),.nil,(.int .i64 0),(.int .i64 0),(.int .i64 0),(.str ⟨#[]⟩),(.int .i32 0),.nil,.nil,.nil]) [(0,(.t 16))],none⟩,
    ⟨(some 18),.app (.t 14) (.t 17) 19 240 (.agg [(.int .i64 0),(.int .i64 0),(.int .i64 0),(.int .i64 0),(.str ⟨#[]⟩),(.int .i64 0),(.int .i64 0),(.int .i64 0),(.str ⟨#[]⟩),(.int .i32 0),.nil,(.int .i64 0),(.int .i64 0),(.int .i64 0),(.str ⟨#[]⟩),(.int .i32 0),.nil,.nil,.nil]),none⟩,
    ⟨(some 3),.mov (.t 18),none⟩])))) <|
  .seq (.reg [⟨(some 19),.mov (.t 3),none⟩,
    ⟨(some 2),.mov (.t 19),none⟩]) <|
  .ret,
  [.t 2]⟩
theorem nM:cFn PP true iP mh (cDr PP 20 oi)=some jh:=by kernel_rfl
def nh:Nat->Option (List Nat×List Nat)
  | _=>none
def p6:Nat->Option (List Nat×List Nat×List Nat)
  | 10=>some ([0,0,2,6,14,0,32,96,224,510,1022,2047,4095,8191],[13],[])|_=>none
def jS:af:=⟨128,
  .seq (.reg [⟨(some 2),.alloc (.agg [(.int .i64 0),(.int .i64 0),(.int .i64 0),(.str ⟨#[]⟩),(.int .i32 0),.nil]),none⟩]) <|
  .seq (.reg [⟨(some 8),.mov (.t 0),none⟩,
    ⟨(some 9),.call aM [(.t 8),(.c (.bool true))],none⟩,
    ⟨(some 3),.mov (.t 9),none⟩]) <|
  .seq (.seq (.reg [⟨(some 10),.mov (.t 0),none⟩,
    ⟨(some 11),.fadd (.t 10) 0,none⟩,
    ⟨(some 12),.fadd (.t 11) 2,none⟩,
    ⟨(some 13),.ld (.t 12) 1 false,none⟩,
    ⟨(some 14),.bin .geq (.t 13) (.c (.int .i64 0)),none⟩,
    ⟨(some 15),.mov (.t 14),none⟩,
    ⟨(some 16),.mov (.t 3),some (15,false)⟩,
    ⟨(some 17),.bin .eql (.t 16) (.c (.str ⟨#[]⟩)),some (15,false)⟩,
    ⟨(some 18),.pick (.t 15) (.c (.bool true)) (.t 17),none⟩]) <|
  .cond (.t 18) (.seq (.reg [⟨(some 19),.mov (.t 0),none⟩,
    ⟨(some 20),.call aY [(.t 19),(.c (.bool true))],none⟩]) <|
  .seq (.reg [⟨(some 21),.bld [(.int .i64 0),(.int .i64 0),(.int .i64 0),(.str ⟨#[]⟩),(.int .i32 0),.nil] [],none⟩,
    ⟨none,.st (.t 2) (.t 21) 6,none⟩]) <|
  .ret) (.skip)) <|
  .seq (.seq (.reg [⟨(some 22),.mov (.t 3),none⟩,
    ⟨(some 23),.sidx (.t 22) (.c (.int .i64 0)) 0 0 false,none⟩,
    ⟨(some 24),.call cc [(.t 23)],none⟩,
    ⟨(some 25),.mov (.t 24),none⟩,
    ⟨(some 26),.mov (.t 3),some (25,false)⟩,
    ⟨(some 27),.slen (.t 26),some (25,false)⟩,
    ⟨(some 28),.bin .gtr (.t 27) (.c (.int .i64 1)),some (25,false)⟩,
    ⟨(some 29),.mov (.t 28),some (25,false)⟩,
    ⟨(some 30),.mov (.t 3),some (29,true)⟩,
    ⟨(some 31),.sidx (.t 30) (.c (.int .i64 0)) 0 0 false,some (29,true)⟩,
    ⟨(some 32),.bin .eql (.t 31) (.c (.int .u8 45)),some (29,true)⟩,
    ⟨(some 33),.pick (.t 29) (.t 32) (.c (.bool false)),some (25,false)⟩,
    ⟨(some 34),.pick (.t 25) (.c (.bool true)) (.t 33),none⟩]) <|
  .cond (.t 34) (.seq (.reg [⟨(some 36),.mov (.t 3),none⟩,
    ⟨(some 37),.call qY [(.t 36)],none⟩,
    ⟨(some 35),.mov (.t 37),none⟩,
    ⟨(some 38),.ext (.t 35) 0,none⟩,
    ⟨(some 39),.ext (.t 35) 1,none⟩,
    ⟨(some 4),.alloc (.agg [(.int .i64 0),(.int .i64 0),(.int .i64 0),(.str ⟨#[]⟩),(.int .i32 0),.nil]),none⟩,
    ⟨none,.st (.t 4) (.t 38) 6,none⟩,
    ⟨(some 5),.mov (.t 39),none⟩]) <|
  .seq (.seq (.reg [⟨(some 40),.mov (.t 5),none⟩,
    ⟨(some 41),.un .not (.t 40),none⟩]) <|
  .cond (.t 41) (.seq (.reg [⟨(some 42),.mov (.t 0),none⟩,
    ⟨(some 43),.call aY [(.t 42),(.c (.bool true))],none⟩]) <|
  .seq (.reg [⟨(some 44),.bld [(.int .i64 0),(.int .i64 0),(.int .i64 0),(.str ⟨#[]⟩),(.int .i32 0),.nil] [],none⟩,
    ⟨none,.st (.t 2) (.t 44) 6,none⟩]) <|
  .ret) (.skip)) <|
  .seq (.dreg [⟨(some 45),.mov (.t 0),none⟩,
    ⟨(some 46),.mov (.t 0),none⟩,
    ⟨(some 47),.fadd (.t 46) 0,none⟩,
    ⟨(some 48),.fadd (.t 47) 0,none⟩,
    ⟨(some 49),.ld (.t 48) 1 false,none⟩,
    ⟨(some 50),.mov (.t 0),none⟩,
    ⟨(some 51),.fadd (.t 50) 0,none⟩,
    ⟨(some 52),.fadd (.t 51) 1,none⟩,
    ⟨(some 53),.ld (.t 52) 1 false,none⟩,
    ⟨(some 54),.call dg [(.t 49),(.t 53),(.c (.bool true))],none⟩,
    ⟨(some 55),.fld (.t 54) 1 1 false,none⟩,
    ⟨(some 56),.fadd (.t 45) 0,none⟩,
    ⟨(some 57),.fadd (.t 56) 1,none⟩] [⟨none,.st (.t 57) (.t 55) 1,none⟩] []) <|
  .seq (.reg [⟨(some 58),.ld (.t 4) 6 true,none⟩,
    ⟨none,.st (.t 2) (.t 58) 6,none⟩]) <|
  .ret) (.skip)) <|
  .seq (.seq (.reg [⟨(some 59),.mov (.t 0),none⟩,
    ⟨(some 60),.call av [(.t 59),(.c (.str ⟨#[40]⟩))],none⟩]) <|
  .cond (.t 60) (.seq (.reg [⟨(some 61),.mov (.t 0),none⟩,
    ⟨(some 62),.call iQ [(.t 61)],none⟩,
    ⟨none,.st (.t 2) (.t 62) 6,none⟩]) <|
  .ret) (.skip)) <|
  .seq (.seq (.reg [⟨(some 63),.mov (.t 0),none⟩,
    ⟨(some 64),.call av [(.t 63),(.c (.str ⟨#[116,114,117,101]⟩))],none⟩]) <|
  .cond (.t 64) (.seq (.reg [⟨(some 65),.bld [(.int .i64 0),(.int .i64 0),(.int .i64 0),(.str ⟨#[]⟩),(.int .i32 0),.nil] [(0,1,(.c (.int .i64 1))),(2,1,(.c (.int .i64 3))),(4,1,(.c (.int .i32 1)))],none⟩,
    ⟨none,.st (.t 2) (.t 65) 6,none⟩]) <|
  .ret) (.skip)) <|
  .seq (.seq (.reg [⟨(some 66),.mov (.t 0),none⟩,
    ⟨(some 67),.call av [(.t 66),(.c (.str ⟨#[102,97,108,115,101]⟩))],none⟩]) <|
  .cond (.t 67) (.seq (.reg [⟨(some 68),.bld [(.int .i64 0),(.int .i64 0),(.int .i64 0),(.str ⟨#[]⟩),(.int .i32 0),.nil] [(0,1,(.c (.int .i64 1))),(2,1,(.c (.int .i64 3)))],none⟩,
    ⟨none,.st (.t 2) (.t 68) 6,none⟩]) <|
  .ret) (.skip)) <|
  .seq (.seq (.reg [⟨(some 69),.mov (.t 3),none⟩,
    ⟨(some 70),.sidx (.t 69) (.c (.int .i64 0)) 0 0 false,none⟩,
    ⟨(some 71),.bin .eql (.t 70) (.c (.int .u8 64)),none⟩]) <|
  .cond (.t 71) (.seq (.reg [⟨(some 72),.mov (.t 0),none⟩,
    ⟨(some 73),.call zu [],none⟩,
    ⟨(some 74),.call aL [(.t 72),(.t 73)],none⟩,
    ⟨(some 75),.bin .add (.c (.int .i64 1)) (.t 74),none⟩,
    ⟨(some 76),.bld [(.int .i64 0),(.int .i64 0),(.int .i64 0),(.str ⟨#[]⟩),(.int .i32 0),.nil] [(0,1,(.c (.int .i64 3))),(1,1,(.t 75))],none⟩,
    ⟨none,.st (.t 2) (.t 76) 6,none⟩]) <|
  .ret) (.skip)) <|
  .seq (.seq (.reg [⟨(some 77),.call iz [],none⟩,
    ⟨(some 78),.mov (.t 3),none⟩,
    ⟨(some 79),.call dV [(.t 77),(.t 78)],none⟩]) <|
  .cond (.t 79) (.seq (.reg [⟨(some 80),.mov (.t 0),none⟩,
    ⟨(some 81),.call iz [],none⟩,
    ⟨(some 82),.call aL [(.t 80),(.t 81)],none⟩,
    ⟨(some 83),.bin .add (.c (.int .i64 1)) (.t 82),none⟩,
    ⟨(some 84),.mov (.t 0),none⟩,
    ⟨(some 85),.call cF [(.t 84),(.c (.int .i64 1))],none⟩,
    ⟨(some 86),.bld [(.int .i64 0),(.int .i64 0),(.int .i64 0),(.str ⟨#[]⟩),(.int .i32 0),.nil] [(0,1,(.c (.int .i64 4))),(1,1,(.t 83)),(5,1,(.t 85))],none⟩,
    ⟨none,.st (.t 2) (.t 86) 6,none⟩]) <|
  .ret) (.skip)) <|
  .seq (.seq (.reg [⟨(some 87),.mov (.t 3),none⟩,
    ⟨(some 88),.bin .eql (.t 87) (.c (.str ⟨#[109,105,110]⟩)),none⟩,
    ⟨(some 89),.mov (.t 88),none⟩,
    ⟨(some 90),.mov (.t 3),some (89,false)⟩,
    ⟨(some 91),.bin .eql (.t 90) (.c (.str ⟨#[109,97,120]⟩)),some (89,false)⟩,
    ⟨(some 92),.pick (.t 89) (.c (.bool true)) (.t 91),none⟩]) <|
  .cond (.t 92) (.seq (.reg [⟨(some 93),.mov (.t 0),none⟩,
    ⟨(some 94),.bldS true 1 2 (.str ⟨#[]⟩) [(0,(.c (.str ⟨#[109,105,110]⟩))),(1,(.c (.str ⟨#[109,97,120]⟩)))],none⟩,
    ⟨(some 95),.call aL [(.t 93),(.t 94)],none⟩,
    ⟨(some 96),.bin .add (.c (.int .i64 22)) (.t 95),none⟩,
    ⟨(some 97),.mov (.t 0),none⟩,
    ⟨(some 98),.call cF [(.t 97),(.c (.int .i64 2))],none⟩,
    ⟨(some 99),.bld [(.int .i64 0),(.int .i64 0),(.int .i64 0),(.str ⟨#[]⟩),(.int .i32 0),.nil] [(0,1,(.c (.int .i64 5))),(1,1,(.t 96)),(5,1,(.t 98))],none⟩,
    ⟨none,.st (.t 2) (.t 99) 6,none⟩]) <|
  .ret) (.skip)) <|
  .seq (.reg [⟨(some 100),.mov (.t 0),none⟩,
    ⟨(some 101),.call bm [(.t 100)],none⟩,
    ⟨(some 6),.mov (.t 101),none⟩]) <|
  .seq (.seq (.reg [⟨(some 102),.mov (.t 0),none⟩,
    ⟨(some 103),.call av [(.t 102),(.c (.str ⟨#[91]⟩))],none⟩]) <|
  .cond (.t 103) (.seq (.reg [⟨(some 104),.mov (.t 0),none⟩,
    ⟨(some 105),.call aH [(.t 104)],none⟩,
    ⟨(some 7),.alloc (.agg [(.int .i64 0),(.int .i64 0),(.int .i64 0),(.str ⟨#[]⟩),(.int .i32 0),.nil]),none⟩,
    ⟨none,.st (.t 7) (.t 105) 6,none⟩]) <|
  .seq (.reg [⟨(some 106),.mov (.t 0),none⟩,
    ⟨(some 107),.call aD [(.t 106),(.c (.str ⟨#[93]⟩))],none⟩]) <|
  .seq (.reg [⟨(some 108),.mov (.t 6),none⟩,
    ⟨(some 109),.ld (.t 7) 6 true,none⟩,
    ⟨(some 110),.bldS true 6 1 (.agg [(.int .i64 0),(.int .i64 0),(.int .i64 0),(.str ⟨#[]⟩),(.int .i32 0),.nil]) [(0,(.t 109))],none⟩,
    ⟨(some 111),.bld [(.int .i64 0),(.int .i64 0),(.int .i64 0),(.str ⟨#[]⟩),(.int .i32 0),.nil] [(0,1,(.c (.int .i64 7))),(3,1,(.t 108)),(5,1,(.t 110))],none⟩,
    ⟨none,.st (.t 2) (.t 111) 6,none⟩]) <|
  .ret) (.skip)) <|
  .seq (.seq (.reg [⟨(some 112),.mov (.t 0),none⟩,
    ⟨(some 113),.fadd (.t 112) 0,none⟩,
    ⟨(some 114),.fadd (.t 113) 2,none⟩,
    ⟨(some 115),.ld (.t 114) 1 false,none⟩,
    ⟨(some 116),.bin .lss (.t 115) (.c (.int .i64 0)),none⟩,
    ⟨(some 117),.mov (.t 116),none⟩,
    ⟨(some 118),.mov (.t 0),some (117,true)⟩,
    ⟨(some 119),.call aM [(.t 118),(.c (.bool false))],some (117,true)⟩,
    ⟨(some 120),.bin .eql (.t 119) (.c (.str ⟨#[40]⟩)),some (117,true)⟩,
    ⟨(some 121),.pick (.t 117) (.t 120) (.c (.bool false)),none⟩]) <|
  .cond (.t 121) (.seq (.reg [⟨(some 122),.mov (.t 6),none⟩,
    ⟨(some 123),.mov (.t 0),none⟩,
    ⟨(some 124),.call sW [(.t 123)],none⟩,
    ⟨(some 125),.bld [(.int .i64 0),(.int .i64 0),(.int .i64 0),(.str ⟨#[]⟩),(.int .i32 0),.nil] [(0,1,(.c (.int .i64 8))),(3,1,(.t 122)),(5,1,(.t 124))],none⟩,
    ⟨none,.st (.t 2) (.t 125) 6,none⟩]) <|
  .ret) (.skip)) <|
  .seq (.reg [⟨(some 126),.mov (.t 6),none⟩,
    ⟨(some 127),.bld [(.int .i64 0),(.int .i64 0),(.int .i64 0),(.str ⟨#[]⟩),(.int .i32 0),.nil] [(0,1,(.c (.int .i64 2))),(3,1,(.t 126))],none⟩,
    ⟨none,.st (.t 2) (.t 127) 6,none⟩]) <|
  .ret,
  [.cell 2 6 true]⟩
theorem pj:cFn PP true aH nh (cDr PP 128 p6)=some jS:=by kernel_rfl
def yD:Nat->Option (List Nat×List Nat)
  | _=>none
def BC:Nat->Option (List Nat×List Nat×List Nat)
  | _=>none
def xG:af:=⟨9,
  .seq (.reg [⟨(some 2),.mov (.c (.bool false)),none⟩]) <|
  .seq (.reg [⟨(some 3),.mov (.t 0),none⟩,
    ⟨(some 4),.bin .geq (.t 3) (.c (.int .i64 1)),none⟩,
    ⟨(some 5),.mov (.t 4),none⟩,
    ⟨(some 6),.mov (.t 0),some (5,true)⟩,
    ⟨(some 7),.bin .leq (.t 6) (.c (.int .i64 3)),some (5,true)⟩,
    ⟨(some 8),.pick (.t 5) (.t 7) (.c (.bool false)),none⟩,
    ⟨(some 2),.mov (.t 8),none⟩]) <|
  .ret,
  [.t 2]⟩
theorem AY:cFn PP true gf yD (cDr PP 9 BC)=some xG:=by kernel_rfl
def yE:Nat->Option (List Nat×List Nat)
  | _=>none
def BD:Nat->Option (List Nat×List Nat×List Nat)
  | _=>none
def xH:af:=⟨10,
  .seq (.reg [⟨(some 4),.alloc (.agg [(.int .i64 0),(.int .i64 0)]),none⟩]) <|
  .seq (.seq (.reg [⟨(some 5),.mov (.t 0),none⟩,
    ⟨(some 6),.un .not (.t 5),none⟩]) <|
  .cond (.t 6) (.seq (.reg [⟨(some 7),.bld [(.int .i64 0),(.int .i64 0)] [(1,1,(.c (.int .i64 31)))],none⟩,
    ⟨none,.st (.t 4) (.t 7) 2,none⟩]) <|
  .ret) (.skip)) <|
  .seq (.reg [⟨(some 8),.mov (.t 1),none⟩,
    ⟨(some 9),.bld [(.int .i64 0),(.int .i64 0)] [(0,1,(.t 8))],none⟩,
    ⟨none,.st (.t 4) (.t 9) 2,none⟩]) <|
  .ret,
  [.cell 4 2 true]⟩
theorem AZ:cFn PP true eo yE (cDr PP 10 BD)=some xH:=by kernel_rfl
def sZ:Nat->Option (List Nat×List Nat)
  | _=>none
def vT:Nat->Option (List Nat×List Nat×List Nat)
  | _=>none
def pL:af:=⟨2,
  .seq (.reg [⟨(some 0),.mov (.c .nil),none⟩]) <|
  .seq (.reg [⟨(some 1),.bldS true 1 6 (.str ⟨#[]⟩) [(0,(.c (.str ⟨#[98,97,108,108,111,116]⟩))),(1,(.c (.str ⟨#[97,110,121]⟩))),(2,(.c (.str ⟨#[97,108,108]⟩))),(3,(.c (.str ⟨#[115,104,117,102,102,108,101]⟩))),(4,(.c (.str ⟨#[115,99,97,110]⟩))),(5,(.c (.str ⟨#[115,117,109]⟩)))],none⟩,
    ⟨(some 0),.mov (.t 1),none⟩]) <|
  .ret,
  [.t 0]⟩
theorem vw:cFn PP true eX sZ (cDr PP 2 vT)=some pL:=by kernel_rfl
def u5:Nat->Option (List Nat×List Nat)
  | _=>none
def yc:Nat->Option (List Nat×List Nat×List Nat)
  | _=>none
def su:af:=⟨16,
  .seq (.reg [⟨(some 2),.mov (.c (.str ⟨#[]⟩)),none⟩]) <|
  .seq (.seq (.reg [⟨(some 3),.mov (.t 0),none⟩,
    ⟨(some 4),.bin .lss (.t 3) (.c (.int .i64 10)),none⟩]) <|
  .cond (.t 4) (.seq (.reg [⟨(some 5),.mov (.t 0),none⟩,
    ⟨(some 6),.mov (.t 0),none⟩,
    ⟨(some 7),.bin .add (.t 6) (.c (.int .i64 1)),none⟩,
    ⟨(some 8),.sslc (.c (.str ⟨#[48,49,50,51,52,53,54,55,56,57]⟩)) (some (.t 5)) (some (.t 7)),none⟩,
    ⟨(some 2),.mov (.t 8),none⟩]) <|
  .ret) (.skip)) <|
  .seq (.reg [⟨(some 9),.mov (.t 0),none⟩,
    ⟨(some 10),.bin .quo (.t 9) (.c (.int .i64 10)),none⟩,
    ⟨(some 11),.call dW [(.t 10)],none⟩,
    ⟨(some 12),.mov (.t 0),none⟩,
    ⟨(some 13),.bin .rem (.t 12) (.c (.int .i64 10)),none⟩,
    ⟨(some 14),.call dW [(.t 13)],none⟩,
    ⟨(some 15),.bin .add (.t 11) (.t 14),none⟩,
    ⟨(some 2),.mov (.t 15),none⟩]) <|
  .ret,
  [.t 2]⟩
theorem xJ:cFn PP true dW u5 (cDr PP 16 yc)=some su:=by kernel_rfl
def uV:Nat->Option (List Nat×List Nat)
  | _=>none
def x5:Nat->Option (List Nat×List Nat×List Nat)
  | _=>none
def si:af:=⟨17,
  .seq (.reg [⟨(some 2),.mov (.c (.bool false)),none⟩]) <|
  .seq (.reg [⟨(some 3),.mov (.t 0),none⟩,
    ⟨(some 4),.bin .geq (.t 3) (.c (.int .u8 97)),none⟩,
    ⟨(some 5),.mov (.t 4),none⟩,
    ⟨(some 6),.mov (.t 0),some (5,true)⟩,
    ⟨(some 7),.bin .leq (.t 6) (.c (.int .u8 122)),some (5,true)⟩,
    ⟨(some 8),.pick (.t 5) (.t 7) (.c (.bool false)),none⟩,
    ⟨(some 9),.mov (.t 8),none⟩,
    ⟨(some 10),.mov (.t 0),some (9,false)⟩,
    ⟨(some 11),.bin .geq (.t 10) (.c (.int .u8 65)),some (9,false)⟩,
    ⟨(some 12),.mov (.t 11),some (9,false)⟩,
    ⟨(some 13),.mov (.t 0),some (12,true)⟩,
    ⟨(some 14),.bin .leq (.t 13) (.c (.int .u8 90)),some (12,true)⟩,
    ⟨(some 15),.pick (.t 12) (.t 14) (.c (.bool false)),some (9,false)⟩,
    ⟨(some 16),.pick (.t 9) (.c (.bool true)) (.t 15),none⟩,
    ⟨(some 2),.mov (.t 16),none⟩]) <|
  .ret,
  [.t 2]⟩
theorem xo:cFn PP true cM uV (cDr PP 17 x5)=some si:=by kernel_rfl
def rA:Nat->Option (List Nat×List Nat)
  | _=>none
def uC:Nat->Option (List Nat×List Nat×List Nat)
  | _=>none
def nQ:af:=⟨2,
  .seq (.reg [⟨(some 0),.mov (.c .nil),none⟩]) <|
  .seq (.reg [⟨(some 1),.bldS true 1 40 (.str ⟨#[]⟩) [(0,(.c (.str ⟨#[107,101,114,110,101,108]⟩))),(1,(.c (.str ⟨#[103,114,111,117,112]⟩))),(2,(.c (.str ⟨#[115,117,98]⟩))),(3,(.c (.str ⟨#[103,108,111,98,97,108]⟩))),(4,(.c (.str ⟨#[115,104,97,114,101,100]⟩))),(5,(.c (.str ⟨#[112,114,105,118,97,116,101]⟩))),(6,(.c (.str ⟨#[112,97,114,97,109]⟩))),(7,(.c (.str ⟨#[102,117,110,99]⟩))),(8,(.c (.str ⟨#[105,110,116]⟩))),(9,(.c (.str ⟨#[102,105,120]⟩))),(10,(.c (.str ⟨#[98,111,111,108]⟩))),(11,(.c (.str ⟨#[118,97,114]⟩))),(12,(.c (.str ⟨#[105,102]⟩))),(13,(.c (.str ⟨#[101,108,115,101]⟩))),(14,(.c (.str ⟨#[119,104,105,108,101]⟩))),(15,(.c (.str ⟨#[109,111,115,116]⟩))),(16,(.c (.str ⟨#[98,114,101,97,107]⟩))),(17,(.c (.str ⟨#[99,111,110,116,105,110,117,101]⟩))),(18,(.c (.str ⟨#[114,101,116,117,114,110]⟩))),(19,(.c (.str ⟨#[98,97,114,114,105,101,114]⟩))),(20,(.c (.str ⟨#[102,101,110,99,101]⟩))),(21,(.c (.str ⟨#[100,101,118,105,99,101]⟩))),(22,(.c (.str ⟨#[97,116,111,109,105,99]⟩))),(23,(.c (.str ⟨#[98,97,108,108,111,116]⟩))),(24,(.c (.str ⟨#[97,110,121]⟩))),(25,(.c (.str ⟨#[97,108,108]⟩))),(26,(.c (.str ⟨#[115,104,117,102,102,108,101]⟩))),(27,(.c (.str ⟨#[115,99,97,110]⟩))),(28,(.c (.str ⟨#[115,117,109]⟩))),(29,(.c (.str ⟨#[110,101,103]⟩))),(30,(.c (.str ⟨#[110,111,116]⟩))),(31,(.c (.str ⟨#[97,98,115]⟩))),(32,(.c (.str ⟨#[109,105,110]⟩))),(33,(.c (.str ⟨#[109,97,120]⟩))),(34,(.c (.str ⟨#[116,114,117,101]⟩))),(35,(.c (.str ⟨#[102,97,108,115,101]⟩))),(36,(.c (.str ⟨#[97,100,100]⟩))),(37,(.c (.str ⟨#[97,110,100]⟩))),(38,(.c (.str ⟨#[111,114]⟩))),(39,(.c (.str ⟨#[120,111,114]⟩)))],none⟩,
    ⟨(some 0),.mov (.t 1),none⟩]) <|
  .ret,
  [.t 0]⟩
theorem tk:cFn PP true mW rA (cDr PP 2 uC)=some nQ:=by kernel_rfl
def wL:Nat->Option (List Nat×List Nat)
  | _=>none
def Ac:Nat->Option (List Nat×List Nat×List Nat)
  | _=>none
def uj:af:=⟨9,
  .seq (.reg [⟨(some 2),.mov (.c (.bool false)),none⟩]) <|
  .seq (.reg [⟨(some 3),.mov (.t 0),none⟩,
    ⟨(some 4),.bin .geq (.t 3) (.c (.int .u8 48)),none⟩,
    ⟨(some 5),.mov (.t 4),none⟩,
    ⟨(some 6),.mov (.t 0),some (5,true)⟩,
    ⟨(some 7),.bin .leq (.t 6) (.c (.int .u8 57)),some (5,true)⟩,
    ⟨(some 8),.pick (.t 5) (.t 7) (.c (.bool false)),none⟩,
    ⟨(some 2),.mov (.t 8),none⟩]) <|
  .ret,
  [.t 2]⟩
theorem zc:cFn PP true cc wL (cDr PP 9 Ac)=some uj:=by kernel_rfl
def wG:Nat->Option (List Nat×List Nat)
  | _=>none
def z0:Nat->Option (List Nat×List Nat×List Nat)
  | _=>none
def ue:af:=⟨13,
  .seq (.reg [⟨(some 2),.mov (.c (.bool false)),none⟩]) <|
  .seq (.reg [⟨(some 3),.mov (.t 0),none⟩,
    ⟨(some 4),.bin .eql (.t 3) (.c (.int .u8 32)),none⟩,
    ⟨(some 5),.mov (.t 4),none⟩,
    ⟨(some 6),.mov (.t 0),some (5,false)⟩,
    ⟨(some 7),.bin .eql (.t 6) (.c (.int .u8 9)),some (5,false)⟩,
    ⟨(some 8),.pick (.t 5) (.c (.bool true)) (.t 7),none⟩,
    ⟨(some 9),.mov (.t 8),none⟩,
    ⟨(some 10),.mov (.t 0),some (9,false)⟩,
    ⟨(some 11),.bin .eql (.t 10) (.c (.int .u8 10)),some (9,false)⟩,
    ⟨(some 12),.pick (.t 9) (.c (.bool true)) (.t 11),none⟩,
    ⟨(some 2),.mov (.t 12),none⟩]) <|
  .ret,
  [.t 2]⟩
theorem y5:cFn PP true tH wG (cDr PP 13 z0)=some ue:=by kernel_rfl
def yp:Nat->Option (List Nat×List Nat)
  | 1000004=>some ([],[1])|1=>some ([0],[1])|_=>none
def Bo:Nat->Option (List Nat×List Nat×List Nat)
  | _=>none
def xi:af:=⟨24,
  .seq (.reg [⟨(some 4),.mov (.c (.int .i64 0)),none⟩]) <|
  .seqj [] [1] (.block 0 (.loop [0] [1] (.seq (.seq (.reg [⟨(some 5),.mov (.t 1),none⟩,
    ⟨(some 6),.mov (.t 0),none⟩,
    ⟨(some 7),.slen (.t 6),none⟩,
    ⟨(some 8),.bin .lss (.t 5) (.t 7),none⟩,
    ⟨(some 9),.mov (.t 8),none⟩,
    ⟨(some 10),.mov (.t 0),some (9,true)⟩,
    ⟨(some 11),.mov (.t 1),some (9,true)⟩,
    ⟨(some 12),.sidx (.t 10) (.t 11) 0 0 false,some (9,true)⟩,
    ⟨(some 13),.call cM [(.t 12)],some (9,true)⟩,
    ⟨(some 14),.mov (.t 13),some (9,true)⟩,
    ⟨(some 15),.mov (.t 0),some (14,false)⟩,
    ⟨(some 16),.mov (.t 1),some (14,false)⟩,
    ⟨(some 17),.sidx (.t 15) (.t 16) 0 0 false,some (14,false)⟩,
    ⟨(some 18),.call cc [(.t 17)],some (14,false)⟩,
    ⟨(some 19),.pick (.t 14) (.c (.bool true)) (.t 18),some (9,true)⟩,
    ⟨(some 20),.pick (.t 9) (.t 19) (.c (.bool false)),none⟩]) <|
  .cond (.t 20) (.skip) (.exit 0)) <|
  .block 1 (.reg [⟨(some 21),.mov (.t 1),none⟩,
    ⟨(some 22),.bin .add (.t 21) (.c (.int .i64 1)),none⟩,
    ⟨(some 1),.mov (.t 22),none⟩])))) <|
  .seq (.reg [⟨(some 23),.mov (.t 1),none⟩,
    ⟨(some 4),.mov (.t 23),none⟩]) <|
  .ret,
  [.t 4]⟩
theorem AL:cFn PP true oz yp (cDr PP 24 Bo)=some xi:=by kernel_rfl
def uW:Nat->Option (List Nat×List Nat)
  | 1000004=>some ([],[1])|1=>some ([0],[1])|_=>none
def x6:Nat->Option (List Nat×List Nat×List Nat)
  | _=>none
def sj:af:=⟨18,
  .seq (.reg [⟨(some 4),.mov (.c (.int .i64 0)),none⟩]) <|
  .seqj [] [1] (.block 0 (.loop [0] [1] (.seq (.seq (.reg [⟨(some 5),.mov (.t 1),none⟩,
    ⟨(some 6),.mov (.t 0),none⟩,
    ⟨(some 7),.slen (.t 6),none⟩,
    ⟨(some 8),.bin .lss (.t 5) (.t 7),none⟩,
    ⟨(some 9),.mov (.t 8),none⟩,
    ⟨(some 10),.mov (.t 0),some (9,true)⟩,
    ⟨(some 11),.mov (.t 1),some (9,true)⟩,
    ⟨(some 12),.sidx (.t 10) (.t 11) 0 0 false,some (9,true)⟩,
    ⟨(some 13),.call cc [(.t 12)],some (9,true)⟩,
    ⟨(some 14),.pick (.t 9) (.t 13) (.c (.bool false)),none⟩]) <|
  .cond (.t 14) (.skip) (.exit 0)) <|
  .block 1 (.reg [⟨(some 15),.mov (.t 1),none⟩,
    ⟨(some 16),.bin .add (.t 15) (.c (.int .i64 1)),none⟩,
    ⟨(some 1),.mov (.t 16),none⟩])))) <|
  .seq (.reg [⟨(some 17),.mov (.t 1),none⟩,
    ⟨(some 4),.mov (.t 17),none⟩]) <|
  .ret,
  [.t 4]⟩
theorem xr:cFn PP true kF uW (cDr PP 18 x6)=some sj:=by kernel_rfl
def lu:Nat->Option (List Nat×List Nat)
  | _=>none
def mM:Nat->Option (List Nat×List Nat×List Nat)
  | _=>none
def g9:af:=⟨23,
  .seq (.reg [⟨(some 2),.mov (.c (.bool false)),none⟩]) <|
  .seq (.reg [⟨(some 4),.mov (.t 0),none⟩,
    ⟨(some 5),.call aM [(.t 4),(.c (.bool false))],none⟩,
    ⟨(some 3),.mov (.t 5),none⟩]) <|
  .seq (.seq (.reg [⟨(some 6),.mov (.t 3),none⟩,
    ⟨(some 7),.call oA [(.t 6)],none⟩,
    ⟨(some 8),.mov (.t 7),none⟩,
    ⟨(some 9),.bldS true 1 5 (.str ⟨#[]⟩) [(0,(.c (.str ⟨#[118,97,114]⟩))),(1,(.c (.str ⟨#[105,102]⟩))),(2,(.c (.str ⟨#[119,104,105,108,101]⟩))),(3,(.c (.str ⟨#[98,114,101,97,107]⟩))),(4,(.c (.str ⟨#[99,111,110,116,105,110,117,101]⟩)))],some (8,false)⟩,
    ⟨(some 10),.mov (.t 3),some (8,false)⟩,
    ⟨(some 11),.call dV [(.t 9),(.t 10)],some (8,false)⟩,
    ⟨(some 12),.pick (.t 8) (.c (.bool true)) (.t 11),none⟩]) <|
  .cond (.t 12) (.seq (.reg [⟨(some 2),.mov (.c (.bool true)),none⟩]) <|
  .ret) (.skip)) <|
  .seq (.reg [⟨(some 13),.mov (.t 0),none⟩,
    ⟨(some 14),.fadd (.t 13) 0,none⟩,
    ⟨(some 15),.fadd (.t 14) 3,none⟩,
    ⟨(some 16),.ld (.t 15) 1 false,none⟩,
    ⟨(some 17),.un .not (.t 16),none⟩,
    ⟨(some 18),.mov (.t 17),none⟩,
    ⟨(some 19),.bldS true 1 4 (.str ⟨#[]⟩) [(0,(.c (.str ⟨#[97,116,111,109,105,99]⟩))),(1,(.c (.str ⟨#[114,101,116,117,114,110]⟩))),(2,(.c (.str ⟨#[98,97,114,114,105,101,114]⟩))),(3,(.c (.str ⟨#[102,101,110,99,101]⟩)))],some (18,true)⟩,
    ⟨(some 20),.mov (.t 3),some (18,true)⟩,
    ⟨(some 21),.call dV [(.t 19),(.t 20)],some (18,true)⟩,
    ⟨(some 22),.pick (.t 18) (.t 21) (.c (.bool false)),none⟩,
    ⟨(some 2),.mov (.t 22),none⟩]) <|
  .ret,
  [.t 2]⟩
theorem mA:cFn PP true gN lu (cDr PP 23 mM)=some g9:=by kernel_rfl
def m9:Nat->Option (List Nat×List Nat)
  | 1000013=>some ([2,4],[])|1000054=>some ([2,9],[])|_=>none
def pX:Nat->Option (List Nat×List Nat×List Nat)
  | _=>none
def jO:af:=⟨171,
  .seq (.reg [⟨(some 2),.alloc (.agg [(.int .i64 0),(.int .i64 0),(.int .i64 0),(.int .i64 0),(.str ⟨#[]⟩),(.int .i64 0),(.int .i64 0),(.int .i64 0),(.str ⟨#[]⟩),(.int .i32 0),.nil,(.int .i64 0),(.int .i64 0),(.int .i64 0),(.str ⟨#[]⟩),(.int .i32 0),.nil,.nil,.nil]),none⟩]) <|
  .seq (.seq (.reg [⟨(some 12),.mov (.t 0),none⟩,
    ⟨(some 13),.call av [(.t 12),(.c (.str ⟨#[118,97,114]⟩))],none⟩]) <|
  .cond (.t 13) (.seq (.reg [⟨(some 14),.mov (.t 0),none⟩,
    ⟨(some 15),.call bm [(.t 14)],none⟩,
    ⟨(some 16),.bld [(.int .i64 0),(.int .i64 0),(.int .i64 0),(.int .i64 0),(.str ⟨#[]⟩),(.int .i64 0),(.int .i64 0),(.int .i64 0),(.str ⟨#[]⟩),(.int .i32 0),.nil,(.int .i64 0),(.int .i64 0),(.int .i64 0),(.str ⟨#[]⟩),(.int .i32 0),.nil,.nil,.nil] [(0,1,(.c (.int .i64 1))),(4,1,(.t 15))],none⟩,
    ⟨(some 3),.alloc (.agg [(.int .i64 0),(.int .i64 0),(.int .i64 0),(.int .i64 0),(.str ⟨#[]⟩),(.int .i64 0),(.int .i64 0),(.int .i64 0),(.str ⟨#[]⟩),(.int .i32 0),.nil,(.int .i64 0),(.int .i64 0),(.int .i64 0),(.str ⟨#[]⟩),(.int .i32 0),.nil,.nil,.nil]),none⟩,
    ⟨none,.st (.t 3) (.t 16) 19,none⟩]) <|
  .seq (.reg [⟨(some 17),.mov (.t 0),none⟩,
    ⟨(some 18),.call dB [],none⟩,
    ⟨(some 19),.call aL [(.t 17),(.t 18)],none⟩,
    ⟨(some 20),.bin .add (.c (.int .i64 1)) (.t 19),none⟩,
    ⟨(some 21),.fadd (.t 3) 2,none⟩,
    ⟨none,.st (.t 21) (.t 20) 1,none⟩]) <|
  .seq (.reg [⟨(some 22),.mov (.t 0),none⟩,
    ⟨(some 23),.call aD [(.t 22),(.c (.str ⟨#[61]⟩))],none⟩]) <|
  .seq (.reg [⟨(some 24),.mov (.t 0),none⟩,
    ⟨(some 25),.call aH [(.t 24)],none⟩,
    ⟨(some 26),.fadd (.t 3) 5,none⟩,
    ⟨none,.st (.t 26) (.t 25) 6,none⟩]) <|
  .seq (.reg [⟨(some 27),.ld (.t 3) 19 true,none⟩,
    ⟨none,.st (.t 2) (.t 27) 19,none⟩]) <|
  .ret) (.skip)) <|
  .seq (.seq (.reg [⟨(some 28),.mov (.t 0),none⟩,
    ⟨(some 29),.call av [(.t 28),(.c (.str ⟨#[105,102]⟩))],none⟩]) <|
  .cond (.t 29) (.seq (.reg [⟨(some 30),.mov (.t 0),none⟩,
    ⟨(some 31),.call aH [(.t 30)],none⟩,
    ⟨(some 32),.bld [(.int .i64 0),(.int .i64 0),(.int .i64 0),(.int .i64 0),(.str ⟨#[]⟩),(.int .i64 0),(.int .i64 0),(.int .i64 0),(.str ⟨#[]⟩),(.int .i32 0),.nil,(.int .i64 0),(.int .i64 0),(.int .i64 0),(.str ⟨#[]⟩),(.int .i32 0),.nil,.nil,.nil] [(0,1,(.c (.int .i64 5))),(5,6,(.t 31))],none⟩,
    ⟨(some 4),.alloc (.agg [(.int .i64 0),(.int .i64 0),(.int .i64 0),(.int .i64 0),(.str ⟨#[]⟩),(.int .i64 0),(.int .i64 0),(.int .i64 0),(.str ⟨#[]⟩),(.int .i32 0),.nil,(.int .i64 0),(.int .i64 0),(.int .i64 0),(.str ⟨#[]⟩),(.int .i32 0),.nil,.nil,.nil]),none⟩,
    ⟨none,.st (.t 4) (.t 32) 19,none⟩]) <|
  .seq (.reg [⟨(some 33),.mov (.t 0),none⟩,
    ⟨(some 34),.call bP [(.t 33)],none⟩,
    ⟨(some 35),.fadd (.t 4) 17,none⟩,
    ⟨none,.st (.t 35) (.t 34) 1,none⟩]) <|
  .seqj [2,4] [] (.seq (.reg [⟨(some 36),.mov (.t 0),none⟩,
    ⟨(some 37),.call av [(.t 36),(.c (.str ⟨#[101,108,115,101]⟩))],none⟩]) <|
  .cond (.t 37) (.reg [⟨(some 38),.mov (.t 0),none⟩,
    ⟨(some 39),.call bP [(.t 38)],none⟩,
    ⟨(some 40),.fadd (.t 4) 18,none⟩,
    ⟨none,.st (.t 40) (.t 39) 1,none⟩]) (.skip)) <|
  .seq (.reg [⟨(some 41),.ld (.t 4) 19 true,none⟩,
    ⟨none,.st (.t 2) (.t 41) 19,none⟩]) <|
  .ret) (.skip)) <|
  .seq (.seq (.reg [⟨(some 42),.mov (.t 0),none⟩,
    ⟨(some 43),.call av [(.t 42),(.c (.str ⟨#[119,104,105,108,101]⟩))],none⟩]) <|
  .cond (.t 43) (.seq (.reg [⟨(some 44),.mov (.t 0),none⟩,
    ⟨(some 45),.call aH [(.t 44)],none⟩,
    ⟨(some 46),.bld [(.int .i64 0),(.int .i64 0),(.int .i64 0),(.int .i64 0),(.str ⟨#[]⟩),(.int .i64 0),(.int .i64 0),(.int .i64 0),(.str ⟨#[]⟩),(.int .i32 0),.nil,(.int .i64 0),(.int .i64 0),(.int .i64 0),(.str ⟨#[]⟩),(.int .i32 0),.nil,.nil,.nil] [(0,1,(.c (.int .i64 6))),(5,6,(.t 45))],none⟩,
    ⟨(some 5),.alloc (.agg [(.int .i64 0),(.int .i64 0),(.int .i64 0),(.int .i64 0),(.str ⟨#[]⟩),(.int .i64 0),(.int .i64 0),(.int .i64 0),(.str ⟨#[]⟩),(.int .i32 0),.nil,(.int .i64 0),(.int .i64 0),(.int .i64 0),(.str ⟨#[]⟩),(.int .i32 0),.nil,.nil,.nil]),none⟩,
    ⟨none,.st (.t 5) (.t 46) 19,none⟩]) <|
  .seq (.reg [⟨(some 47),.mov (.t 0),none⟩,
    ⟨(some 48),.call aD [(.t 47),(.c (.str ⟨#[109,111,115,116]⟩))],none⟩]) <|
  .seq (.reg [⟨(some 49),.mov (.t 0),none⟩,
    ⟨(some 50),.call b6 [(.t 49)],none⟩,
    ⟨(some 51),.fadd (.t 5) 3,none⟩,
    ⟨none,.st (.t 51) (.t 50) 1,none⟩]) <|
  .seq (.reg [⟨(some 52),.mov (.t 0),none⟩,
    ⟨(some 53),.call bP [(.t 52)],none⟩,
    ⟨(some 54),.fadd (.t 5) 17,none⟩,
    ⟨none,.st (.t 54) (.t 53) 1,none⟩]) <|
  .seq (.reg [⟨(some 55),.ld (.t 5) 19 true,none⟩,
    ⟨none,.st (.t 2) (.t 55) 19,none⟩]) <|
  .ret) (.skip)) <|
  .seq (.seq (.reg [⟨(some 56),.mov (.t 0),none⟩,
    ⟨(some 57),.call av [(.t 56),(.c (.str ⟨#[98,114,101,97,107]⟩))],none⟩]) <|
  .cond (.t 57) (.seq (.reg [⟨(some 58),.bld [(.int .i64 0),(.int .i64 0),(.int .i64 0),(.int .i64 0),(.str ⟨#[]⟩),(.int .i64 0),(.int .i64 0),(.int .i64 0),(.str ⟨#[]⟩),(.int .i32 0),.nil,(.int .i64 0),(.int .i64 0),(.int .i64 0),(.str ⟨#[]⟩),(.int .i32 0),.nil,.nil,.nil] [(0,1,(.c (.int .i64 7)))],none⟩,
    ⟨none,.st (.t 2) (.t 58) 19,none⟩]) <|
  .ret) (.skip)) <|
  .seq (.seq (.reg [⟨(some 59),.mov (.t 0),none⟩,
    ⟨(some 60),.call av [(.t 59),(.c (.str ⟨#[99,111,110,116,105,110,117,101]⟩))],none⟩]) <|
  .cond (.t 60) (.seq (.reg [⟨(some 61),.bld [(.int .i64 0),(.int .i64 0),(.int .i64 0),(.int .i64 0),(.str ⟨#[]⟩),(.int .i64 0),(.int .i64 0),(.int .i64 0),(.str ⟨#[]⟩),(.int .i32 0),.nil,(.int .i64 0),(.int .i64 0),(.int .i64 0),(.str ⟨#[]⟩),(.int .i32 0),.nil,.nil,.nil] [(0,1,(.c (.int .i64 8)))],none⟩,
    ⟨none,.st (.t 2) (.t 61) 19,none⟩]) <|
  .ret) (.skip)) <|
  .seq (.seq (.reg [⟨(some 62),.mov (.t 0),none⟩,
    ⟨(some 63),.call av [(.t 62),(.c (.str ⟨#[114,101,116,117,114,110]⟩))],none⟩]) <|
  .cond (.t 63) (.seq (.reg [⟨(some 64),.bld [(.int .i64 0),(.int .i64 0),(.int .i64 0),(.int .i64 0),(.str ⟨#[]⟩),(.int .i64 0),(.int .i64 0),(.int .i64 0),(.str ⟨#[]⟩),(.int .i32 0),.nil,(.int .i64 0),(.int .i64 0),(.int .i64 0),(.str ⟨#[]⟩),(.int .i32 0),.nil,.nil,.nil] [(0,1,(.c (.int .i64 9)))],none⟩,
    ⟨none,.st (.t 2) (.t 64) 19,none⟩]) <|
  .ret) (.skip)) <|
  .seq (.seq (.reg [⟨(some 65),.mov (.t 0),none⟩,
    ⟨(some 66),.call av [(.t 65),(.c (.str ⟨#[98,97,114,114,105,101,114]⟩))],none⟩]) <|
  .cond (.t 66) (.seq (.reg [⟨(some 67),.bld [(.int .i64 0),(.int .i64 0),(.int .i64 0),(.int .i64 0),(.str ⟨#[]⟩),(.int .i64 0),(.int .i64 0),(.int .i64 0),(.str ⟨#[]⟩),(.int .i32 0),.nil,(.int .i64 0),(.int .i64 0),(.int .i64 0),(.str ⟨#[]⟩),(.int .i32 0),.nil,.nil,.nil] [(0,1,(.c (.int .i64 10)))],none⟩,
    ⟨none,.st (.t 2) (.t 67) 19,none⟩]) <|
  .ret) (.skip)) <|
  .seq (.seq (.reg [⟨(some 68),.mov (.t 0),none⟩,
    ⟨(some 69),.call av [(.t 68),(.c (.str ⟨#[102,101,110,99,101]⟩))],none⟩]) <|
  .cond (.t 69) (.seq (.reg [⟨(some 70),.mov (.t 0),none⟩,
    ⟨(some 71),.bldS true 1 2 (.str ⟨#[]⟩) [(0,(.c (.str ⟨#[103,114,111,117,112]⟩))),(1,(.c (.str ⟨#[100,101,118,105,99,101]⟩)))],none⟩,
    ⟨(some 72),.call aL [(.t 70),(.t 71)],none⟩,
    ⟨(some 73),.bin .add (.c (.int .i64 1)) (.t 72),none⟩,
    ⟨(some 74),.bld [(.int .i64 0),(.int .i64 0),(.int .i64 0),(.int .i64 0),(.str ⟨#[]⟩),(.int .i64 0),(.int .i64 0),(.int .i64 0),(.str ⟨#[]⟩),(.int .i32 0),.nil,(.int .i64 0),(.int .i64 0),(.int .i64 0),(.str ⟨#[]⟩),(.int .i32 0),.nil,.nil,.nil] [(0,1,(.c (.int .i64 11))),(1,1,(.t 73))],none⟩,
    ⟨none,.st (.t 2) (.t 74) 19,none⟩]) <|
  .ret) (.skip)) <|
  .seq (.seq (.reg [⟨(some 75),.mov (.t 0),none⟩,
    ⟨(some 76),.call av [(.t 75),(.c (.str ⟨#[97,116,111,109,105,99]⟩))],none⟩]) <|
  .cond (.t 76) (.seq (.reg [⟨(some 77),.mov (.t 0),none⟩,
    ⟨(some 78),.call bm [(.t 77)],none⟩,
    ⟨(some 79),.bld [(.int .i64 0),(.int .i64 0),(.int .i64 0),(.int .i64 0),(.str ⟨#[]⟩),(.int .i64 0),(.int .i64 0),(.int .i64 0),(.str ⟨#[]⟩),(.int .i32 0),.nil,(.int .i64 0),(.int .i64 0),(.int .i64 0),(.str ⟨#[]⟩),(.int .i32 0),.nil,.nil,.nil] [(0,1,(.c (.int .i64 4))),(4,1,(.t 78))],none⟩,
    ⟨(some 6),.alloc (.agg [(.int .i64 0),(.int .i64 0),(.int .i64 0),(.int .i64 0),(.str ⟨#[]⟩),(.int .i64 0),(.int .i64 0),(.int .i64 0),(.str ⟨#[]⟩),(.int .i32 0),.nil,(.int .i64 0),(.int .i64 0),(.int .i64 0),(.str ⟨#[]⟩),(.int .i32 0),.nil,.nil,.nil]),none⟩,
    ⟨none,.st (.t 6) (.t 79) 19,none⟩]) <|
  .seq (.reg [⟨(some 80),.mov (.t 0),none⟩,
    ⟨(some 81),.call aD [(.t 80),(.c (.str ⟨#[91]⟩))],none⟩]) <|
  .seq (.reg [⟨(some 82),.mov (.t 0),none⟩,
    ⟨(some 83),.call aH [(.t 82)],none⟩,
    ⟨(some 84),.fadd (.t 6) 5,none⟩,
    ⟨none,.st (.t 84) (.t 83) 6,none⟩]) <|
  .seq (.reg [⟨(some 85),.mov (.t 0),none⟩,
    ⟨(some 86),.call aD [(.t 85),(.c (.str ⟨#[93]⟩))],none⟩]) <|
  .seq (.reg [⟨(some 87),.call Ao [],none⟩,
    ⟨(some 88),.mov (.t 0),none⟩,
    ⟨(some 89),.call tJ [],none⟩,
    ⟨(some 90),.call aL [(.t 88),(.t 89)],none⟩,
    ⟨(some 91),.iadd (.t 87) (.t 90) 1,none⟩,
    ⟨(some 92),.ld (.t 91) 1 false,none⟩,
    ⟨(some 93),.fadd (.t 6) 1,none⟩,
    ⟨none,.st (.t 93) (.t 92) 1,none⟩]) <|
  .seq (.reg [⟨(some 94),.mov (.t 0),none⟩,
    ⟨(some 95),.call aH [(.t 94)],none⟩,
    ⟨(some 96),.fadd (.t 6) 11,none⟩,
    ⟨none,.st (.t 96) (.t 95) 6,none⟩]) <|
  .seq (.reg [⟨(some 97),.ld (.t 6) 19 true,none⟩,
    ⟨none,.st (.t 2) (.t 97) 19,none⟩]) <|
  .ret) (.skip)) <|
  .seq (.reg [⟨(some 98),.mov (.t 0),none⟩,
    ⟨(some 99),.call bm [(.t 98)],none⟩,
    ⟨(some 7),.mov (.t 99),none⟩]) <|
  .seq (.seq (.reg [⟨(some 100),.mov (.t 0),none⟩,
    ⟨(some 101),.fadd (.t 100) 0,none⟩,
    ⟨(some 102),.fadd (.t 101) 3,none⟩,
    ⟨(some 103),.ld (.t 102) 1 false,none⟩,
    ⟨(some 104),.un .not (.t 103),none⟩,
    ⟨(some 105),.mov (.t 104),none⟩,
    ⟨(some 106),.mov (.t 0),some (105,true)⟩,
    ⟨(some 107),.call av [(.t 106),(.c (.str ⟨#[91]⟩))],some (105,true)⟩,
    ⟨(some 108),.pick (.t 105) (.t 107) (.c (.bool false)),none⟩]) <|
  .cond (.t 108) (.seq (.reg [⟨(some 109),.mov (.t 7),none⟩,
    ⟨(some 110),.mov (.t 0),none⟩,
    ⟨(some 111),.call aH [(.t 110)],none⟩,
    ⟨(some 112),.bld [(.int .i64 0),(.int .i64 0),(.int .i64 0),(.int .i64 0),(.str ⟨#[]⟩),(.int .i64 0),(.int .i64 0),(.int .i64 0),(.str ⟨#[]⟩),(.int .i32 0),.nil,(.int .i64 0),(.int .i64 0),(.int .i64 0),(.str ⟨#[]⟩),(.int .i32 0),.nil,.nil,.nil] [(0,1,(.c (.int .i64 3))),(4,1,(.t 109)),(5,6,(.t 111))],none⟩,
    ⟨(some 8),.alloc (.agg [(.int .i64 0),(.int .i64 0),(.int .i64 0),(.int .i64 0),(.str ⟨#[]⟩),(.int .i64 0),(.int .i64 0),(.int .i64 0),(.str ⟨#[]⟩),(.int .i32 0),.nil,(.int .i64 0),(.int .i64 0),(.int .i64 0),(.str ⟨#[]⟩),(.int .i32 0),.nil,.nil,.nil]),none⟩,
    ⟨none,.st (.t 8) (.t 112) 19,none⟩]) <|
  .seq (.reg [⟨(some 113),.mov (.t 0),none⟩,
    ⟨(some 114),.call aD [(.t 113),(.c (.str ⟨#[93]⟩))],none⟩]) <|
  .seq (.reg [⟨(some 115),.mov (.t 0),none⟩,
    ⟨(some 116),.call aD [(.t 115),(.c (.str ⟨#[61]⟩))],none⟩]) <|
  .seq (.reg [⟨(some 117),.mov (.t 0),none⟩,
    ⟨(some 118),.call aH [(.t 117)],none⟩,
    ⟨(some 119),.fadd (.t 8) 11,none⟩,
    ⟨none,.st (.t 119) (.t 118) 6,none⟩]) <|
  .seq (.reg [⟨(some 120),.ld (.t 8) 19 true,none⟩,
    ⟨none,.st (.t 2) (.t 120) 19,none⟩]) <|
  .ret) (.skip)) <|
  .seq (.reg [⟨(some 121),.mov (.t 0),none⟩,
    ⟨(some 122),.call aD [(.t 121),(.c (.str ⟨#[61]⟩))],none⟩]) <|
  .seq (.seq (.reg [⟨(some 123),.mov (.t 0),none⟩,
    ⟨(some 124),.fadd (.t 123) 0,none⟩,
    ⟨(some 125),.fadd (.t 124) 2,none⟩,
    ⟨(some 126),.ld (.t 125) 1 false,none⟩,
    ⟨(some 127),.bin .lss (.t 126) (.c (.int .i64 0)),none⟩,
    ⟨(some 128),.mov (.t 127),none⟩,
    ⟨(some 129),.mov (.t 0),some (128,true)⟩,
    ⟨(some 130),.fadd (.t 129) 0,some (128,true)⟩,
    ⟨(some 131),.fadd (.t 130) 3,some (128,true)⟩,
    ⟨(some 132),.ld (.t 131) 1 false,some (128,true)⟩,
    ⟨(some 133),.un .not (.t 132),some (128,true)⟩,
    ⟨(some 134),.pick (.t 128) (.t 133) (.c (.bool false)),none⟩,
    ⟨(some 135),.mov (.t 134),none⟩,
    ⟨(some 136),.call eX [],some (135,true)⟩,
    ⟨(some 137),.mov (.t 0),some (135,true)⟩,
    ⟨(some 138),.call aM [(.t 137),(.c (.bool false))],some (135,true)⟩,
    ⟨(some 139),.call dV [(.t 136),(.t 138)],some (135,true)⟩,
    ⟨(some 140),.pick (.t 135) (.t 139) (.c (.bool false)),none⟩]) <|
  .cond (.t 140) (.seq (.reg [⟨(some 141),.mov (.t 7),none⟩,
    ⟨(some 142),.mov (.t 0),none⟩,
    ⟨(some 143),.call eX [],none⟩,
    ⟨(some 144),.call aL [(.t 142),(.t 143)],none⟩,
    ⟨(some 145),.bin .add (.c (.int .i64 1)) (.t 144),none⟩,
    ⟨(some 146),.bld [(.int .i64 0),(.int .i64 0),(.int .i64 0),(.int .i64 0),(.str ⟨#[]⟩),(.int .i64 0),(.int .i64 0),(.int .i64 0),(.str ⟨#[]⟩),(.int .i32 0),.nil,(.int .i64 0),(.int .i64 0),(.int .i64 0),(.str ⟨#[]⟩),(.int .i32 0),.nil,.nil,.nil] [(0,1,(.c (.int .i64 12))),(4,1,(.t 141)),(1,1,(.t 145))],none⟩,
    ⟨(some 9),.alloc (.agg [(.int .i64 0),(.int .i64 0),(.int .i64 0),(.int .i64 0),(.str ⟨#[]⟩),(.int .i64 0),(.int .i64 0),(.int .i64 0),(.str ⟨#[]⟩),(.int .i32 0),.nil,(.int .i64 0),(.int .i64 0),(.int .i64 0),(.str ⟨#[]⟩),(.int .i32 0),.nil,.nil,.nil]),none⟩,
    ⟨none,.st (.t 9) (.t 146) 19,none⟩]) <|
  .seqj [2,9] [] (.seq (.reg [⟨(some 147),.fadd (.t 9) 1,none⟩,
    ⟨(some 148),.ld (.t 147) 1 false,none⟩,
    ⟨(some 149),.bin .eql (.t 148) (.c (.int .i64 4)),none⟩]) <|
  .cond (.t 149) (.seq (.reg [⟨(some 150),.mov (.t 0),none⟩,
    ⟨(some 151),.call cF [(.t 150),(.c (.int .i64 2))],none⟩,
    ⟨(some 10),.mov (.t 151),none⟩]) <|
  .seq (.reg [⟨(some 152),.mov (.t 10),none⟩,
    ⟨(some 153),.iadd (.t 152) (.c (.int .i64 0)) 6,none⟩,
    ⟨(some 154),.ld (.t 153) 6 true,none⟩,
    ⟨(some 155),.fadd (.t 9) 5,none⟩,
    ⟨none,.st (.t 155) (.t 154) 6,none⟩]) <|
  .reg [⟨(some 156),.mov (.t 10),none⟩,
    ⟨(some 157),.iadd (.t 156) (.c (.int .i64 1)) 6,none⟩,
    ⟨(some 158),.ld (.t 157) 6 true,none⟩,
    ⟨(some 159),.fadd (.t 9) 11,none⟩,
    ⟨none,.st (.t 159) (.t 158) 6,none⟩]) (.seq (.reg [⟨(some 160),.mov (.t 0),none⟩,
    ⟨(some 161),.call cF [(.t 160),(.c (.int .i64 1))],none⟩,
    ⟨(some 11),.mov (.t 161),none⟩]) <|
  .reg [⟨(some 162),.mov (.t 11),none⟩,
    ⟨(some 163),.iadd (.t 162) (.c (.int .i64 0)) 6,none⟩,
    ⟨(some 164),.ld (.t 163) 6 true,none⟩,
    ⟨(some 165),.fadd (.t 9) 5,none⟩,
    ⟨none,.st (.t 165) (.t 164) 6,none⟩])) <|
  .seq (.reg [⟨(some 166),.ld (.t 9) 19 true,none⟩,
    ⟨none,.st (.t 2) (.t 166) 19,none⟩]) <|
  .ret) (.skip)) <|
  .seq (.reg [⟨(some 167),.mov (.t 7),none⟩,
    ⟨(some 168),.mov (.t 0),none⟩,
    ⟨(some 169),.call aH [(.t 168)],none⟩,
    ⟨(some 170),.bld [(.int .i64 0),(.int .i64 0),(.int .i64 0),(.int .i64 0),(.str ⟨#[]⟩),(.int .i64 0),(.int .i64 0),(.int .i64 0),(.str ⟨#[]⟩),(.int .i32 0),.nil,(.int .i64 0),(.int .i64 0),(.int .i64 0),(.str ⟨#[]⟩),(.int .i32 0),.nil,.nil,.nil] [(0,1,(.c (.int .i64 2))),(4,1,(.t 167)),(5,6,(.t 169))],none⟩,
    ⟨none,.st (.t 2) (.t 170) 19,none⟩]) <|
  .ret,
  [.cell 2 19 true]⟩
theorem pe:cFn PP true jE m9 (cDr PP 171 pX)=some jO:=by kernel_rfl
def uU:Nat->Option (List Nat×List Nat)
  | 1000008=>some ([0,2],[4])|3=>some ([0,2],[4,5])|1000005=>some ([0,2,5],[4])|_=>none
def xZ:Nat->Option (List Nat×List Nat×List Nat)
  | 8=>some ([0,0,2,7,0,16,48,15,255],[7],[5])|_=>none
def sh:af:=⟨27,
  .seq (.reg [⟨(some 2),.alloc (.agg [(.int .i64 0),(.int .i64 0),(.int .i64 0),(.str ⟨#[]⟩),(.int .i32 0),.nil]),none⟩,
    ⟨(some 3),.mov (.c (.bool false)),none⟩]) <|
  .seq (.reg [⟨(some 4),.mov (.c (.int .i64 1)),none⟩]) <|
  .seqj [0,2] [4] (.seq (.reg [⟨(some 5),.mov (.c (.int .i64 0)),none⟩]) <|
  .block 0 (.loop [0,2] [4,5] (.seq (.seq (.reg [⟨(some 7),.mov (.t 5),none⟩,
    ⟨(some 8),.mov (.t 0),none⟩,
    ⟨(some 9),.slen (.t 8),none⟩,
    ⟨(some 10),.bin .lss (.t 7) (.t 9),none⟩]) <|
  .cond (.t 10) (.skip) (.exit 0)) <|
  .seqj [0,2,5] [4] (.block 1 (.seq (.reg [⟨(some 13),.mov (.t 0),none⟩,
    ⟨(some 14),.mov (.t 5),none⟩,
    ⟨(some 15),.sidx (.t 13) (.t 14) 0 0 false,none⟩,
    ⟨(some 16),.bin .eql (.t 15) (.c (.int .u8 46)),none⟩]) <|
  .cond (.t 16) (.reg [⟨(some 4),.mov (.c (.int .i64 2)),none⟩]) (.skip))) <|
  .reg [⟨(some 11),.mov (.t 5),none⟩,
    ⟨(some 12),.bin .add (.t 11) (.c (.int .i64 1)),none⟩,
    ⟨(some 5),.mov (.t 12),none⟩]))) <|
  .seq (.reg [⟨(some 17),.mov (.t 4),none⟩,
    ⟨(some 18),.mov (.t 0),none⟩,
    ⟨(some 19),.call pz [(.t 17),(.t 18)],none⟩,
    ⟨(some 6),.alloc (.agg [(.int .i32 0),(.int .i64 0)]),none⟩,
    ⟨none,.st (.t 6) (.t 19) 2,none⟩]) <|
  .seq (.dreg [⟨(some 20),.mov (.t 4),none⟩,
    ⟨(some 21),.fadd (.t 6) 0,none⟩,
    ⟨(some 22),.ld (.t 21) 1 false,none⟩,
    ⟨(some 23),.bld [(.int .i64 0),(.int .i64 0),(.int .i64 0),(.str ⟨#[]⟩),(.int .i32 0),.nil] [(0,1,(.c (.int .i64 1))),(2,1,(.t 20)),(4,1,(.t 22))],none⟩,
    ⟨(some 24),.fadd (.t 6) 1,none⟩,
    ⟨(some 25),.ld (.t 24) 1 false,none⟩,
    ⟨(some 26),.bin .eql (.t 25) (.c (.int .i64 0)),none⟩,
    ⟨(some 3),.mov (.t 26),none⟩] [⟨none,.st (.t 2) (.t 23) 6,none⟩] [⟨(some 25),.ld (.t 24) 1 false,none⟩]) <|
  .ret,
  [.cell 2 6 true,.t 3]⟩
theorem xn:cFn PP true qY uU (cDr PP 27 xZ)=some sh:=by kernel_rfl
def mi:Nat->Option (List Nat×List Nat)
  | 1000012=>some ([0,2,3],[])|_=>none
def oj:Nat->Option (List Nat×List Nat×List Nat)
  | _=>none
def ji:af:=⟨49,
  .seq (.reg [⟨(some 2),.alloc (.agg [(.int .i64 0),(.int .i64 0),(.int .i64 0),(.str ⟨#[]⟩),(.int .i32 0),.nil]),none⟩]) <|
  .seq (.reg [⟨(some 9),.mov (.t 0),none⟩,
    ⟨(some 10),.call aH [(.t 9)],none⟩,
    ⟨(some 3),.alloc (.agg [(.int .i64 0),(.int .i64 0),(.int .i64 0),(.str ⟨#[]⟩),(.int .i32 0),.nil]),none⟩,
    ⟨none,.st (.t 3) (.t 10) 6,none⟩]) <|
  .seq (.seq (.reg [⟨(some 11),.mov (.t 0),none⟩,
    ⟨(some 12),.call av [(.t 11),(.c (.str ⟨#[63]⟩))],none⟩]) <|
  .cond (.t 12) (.seq (.reg [⟨(some 13),.mov (.t 0),none⟩,
    ⟨(some 14),.call aH [(.t 13)],none⟩,
    ⟨(some 4),.alloc (.agg [(.int .i64 0),(.int .i64 0),(.int .i64 0),(.str ⟨#[]⟩),(.int .i32 0),.nil]),none⟩,
    ⟨none,.st (.t 4) (.t 14) 6,none⟩]) <|
  .seq (.reg [⟨(some 15),.mov (.t 0),none⟩,
    ⟨(some 16),.call aD [(.t 15),(.c (.str ⟨#[58]⟩))],none⟩]) <|
  .seq (.reg [⟨(some 17),.mov (.t 0),none⟩,
    ⟨(some 18),.call aH [(.t 17)],none⟩,
    ⟨(some 5),.alloc (.agg [(.int .i64 0),(.int .i64 0),(.int .i64 0),(.str ⟨#[]⟩),(.int .i32 0),.nil]),none⟩,
    ⟨none,.st (.t 5) (.t 18) 6,none⟩]) <|
  .seq (.reg [⟨(some 19),.mov (.t 0),none⟩,
    ⟨(some 20),.call aD [(.t 19),(.c (.str ⟨#[41]⟩))],none⟩]) <|
  .seq (.reg [⟨(some 21),.ld (.t 3) 6 true,none⟩,
    ⟨(some 22),.ld (.t 4) 6 true,none⟩,
    ⟨(some 23),.ld (.t 5) 6 true,none⟩,
    ⟨(some 24),.bldS true 6 3 (.agg [(.int .i64 0),(.int .i64 0),(.int .i64 0),(.str ⟨#[]⟩),(.int .i32 0),.nil]) [(0,(.t 21)),(1,(.t 22)),(2,(.t 23))],none⟩,
    ⟨(some 25),.bld [(.int .i64 0),(.int .i64 0),(.int .i64 0),(.str ⟨#[]⟩),(.int .i32 0),.nil] [(0,1,(.c (.int .i64 6))),(5,1,(.t 24))],none⟩,
    ⟨none,.st (.t 2) (.t 25) 6,none⟩]) <|
  .ret) (.skip)) <|
  .seq (.reg [⟨(some 26),.mov (.t 0),none⟩,
    ⟨(some 27),.call aM [(.t 26),(.c (.bool false))],none⟩,
    ⟨(some 6),.mov (.t 27),none⟩]) <|
  .seqj [0,2,3] [] (.seq (.reg [⟨(some 28),.mov (.t 6),none⟩,
    ⟨(some 29),.bin .eql (.t 28) (.c (.str ⟨#[109,105,110]⟩)),none⟩,
    ⟨(some 30),.mov (.t 29),none⟩,
    ⟨(some 31),.mov (.t 6),some (30,false)⟩,
    ⟨(some 32),.bin .eql (.t 31) (.c (.str ⟨#[109,97,120]⟩)),some (30,false)⟩,
    ⟨(some 33),.pick (.t 30) (.c (.bool true)) (.t 32),none⟩]) <|
  .cond (.t 33) (.reg [⟨(some 34),.mov (.t 0),none⟩,
    ⟨(some 35),.call aY [(.t 34),(.c (.bool false))],none⟩]) (.skip)) <|
  .seq (.reg [⟨(some 36),.mov (.t 0),none⟩,
    ⟨(some 37),.call fZ [],none⟩,
    ⟨(some 38),.call aL [(.t 36),(.t 37)],none⟩,
    ⟨(some 39),.bin .add (.c (.int .i64 10)) (.t 38),none⟩,
    ⟨(some 7),.mov (.t 39),none⟩]) <|
  .seq (.reg [⟨(some 40),.mov (.t 0),none⟩,
    ⟨(some 41),.call aH [(.t 40)],none⟩,
    ⟨(some 8),.alloc (.agg [(.int .i64 0),(.int .i64 0),(.int .i64 0),(.str ⟨#[]⟩),(.int .i32 0),.nil]),none⟩,
    ⟨none,.st (.t 8) (.t 41) 6,none⟩]) <|
  .seq (.reg [⟨(some 42),.mov (.t 0),none⟩,
    ⟨(some 43),.call aD [(.t 42),(.c (.str ⟨#[41]⟩))],none⟩]) <|
  .seq (.reg [⟨(some 44),.mov (.t 7),none⟩,
    ⟨(some 45),.ld (.t 3) 6 true,none⟩,
    ⟨(some 46),.ld (.t 8) 6 true,none⟩,
    ⟨(some 47),.bldS true 6 2 (.agg [(.int .i64 0),(.int .i64 0),(.int .i64 0),(.str ⟨#[]⟩),(.int .i32 0),.nil]) [(0,(.t 45)),(1,(.t 46))],none⟩,
    ⟨(some 48),.bld [(.int .i64 0),(.int .i64 0),(.int .i64 0),(.str ⟨#[]⟩),(.int .i32 0),.nil] [(0,1,(.c (.int .i64 5))),(1,1,(.t 44)),(5,1,(.t 47))],none⟩,
    ⟨none,.st (.t 2) (.t 48) 6,none⟩]) <|
  .ret,
  [.cell 2 6 true]⟩
theorem nN:cFn PP true iQ mi (cDr PP 49 oj)=some ji:=by kernel_rfl
def s7:Nat->Option (List Nat×List Nat)
  | _=>none
def vU:Nat->Option (List Nat×List Nat×List Nat)
  | _=>none
def pM:af:=⟨22,
  .seq (.reg [⟨(some 4),.alloc (.agg [(.int .i32 0),(.int .i64 0)]),none⟩]) <|
  .seq (.seq (.reg [⟨(some 6),.mov (.t 0),none⟩,
    ⟨(some 7),.call gf [(.t 6)],none⟩,
    ⟨(some 8),.un .not (.t 7),none⟩]) <|
  .cond (.t 8) (.seq (.reg [⟨(some 9),.bld [(.int .i32 0),(.int .i64 0)] [(1,1,(.c (.int .i64 1)))],none⟩,
    ⟨none,.st (.t 4) (.t 9) 2,none⟩]) <|
  .ret) (.skip)) <|
  .seq (.reg [⟨(some 10),.mov (.t 0),none⟩,
    ⟨(some 11),.mov (.t 1),none⟩,
    ⟨(some 12),.call wq [(.t 10),(.t 11)],none⟩,
    ⟨(some 5),.mov (.t 12),none⟩]) <|
  .seq (.seq (.reg [⟨(some 13),.mov (.t 0),none⟩,
    ⟨(some 14),.mov (.t 5),none⟩,
    ⟨(some 15),.call kG [(.t 13),(.t 14)],none⟩,
    ⟨(some 16),.mov (.t 1),none⟩,
    ⟨(some 17),.bld [(.str ⟨#[]⟩),(.int .i64 0)] [(0,1,(.t 16))],none⟩,
    ⟨(some 18),.eqv true true [.s,.i] (.t 15) (.t 17),none⟩]) <|
  .cond (.t 18) (.seq (.reg [⟨(some 19),.bld [(.int .i32 0),(.int .i64 0)] [(1,1,(.c (.int .i64 3)))],none⟩,
    ⟨none,.st (.t 4) (.t 19) 2,none⟩]) <|
  .ret) (.skip)) <|
  .seq (.reg [⟨(some 20),.mov (.t 5),none⟩,
    ⟨(some 21),.bld [(.int .i32 0),(.int .i64 0)] [(0,1,(.t 20))],none⟩,
    ⟨none,.st (.t 4) (.t 21) 2,none⟩]) <|
  .ret,
  [.cell 4 2 true]⟩
theorem vz:cFn PP true pz s7 (cDr PP 22 vU)=some pM:=by kernel_rfl
def yC:Nat->Option (List Nat×List Nat)
  | 1000007=>some ([0,5],[1])|1000012=>some ([5],[6])|1000014=>some ([],[6])|_=>none
def BB:Nat->Option (List Nat×List Nat×List Nat)
  | _=>none
def xE:af:=⟨51,
  .seq (.reg [⟨(some 4),.mov (.c (.int .i32 0)),none⟩]) <|
  .seq (.seq (.reg [⟨(some 8),.mov (.t 0),none⟩,
    ⟨(some 9),.bin .eql (.t 8) (.c (.int .i64 3)),none⟩]) <|
  .cond (.t 9) (.seq (.reg [⟨(some 10),.mov (.t 1),none⟩,
    ⟨(some 11),.bin .eql (.t 10) (.c (.str ⟨#[116,114,117,101]⟩)),none⟩,
    ⟨(some 12),.call De [(.t 11)],none⟩,
    ⟨(some 4),.mov (.t 12),none⟩]) <|
  .ret) (.skip)) <|
  .seq (.reg [⟨(some 13),.mov (.t 1),none⟩,
    ⟨(some 14),.slen (.t 13),none⟩,
    ⟨(some 15),.bin .gtr (.t 14) (.c (.int .i64 0)),none⟩,
    ⟨(some 16),.mov (.t 15),none⟩,
    ⟨(some 17),.mov (.t 1),some (16,true)⟩,
    ⟨(some 18),.sidx (.t 17) (.c (.int .i64 0)) 0 0 false,some (16,true)⟩,
    ⟨(some 19),.bin .eql (.t 18) (.c (.int .u8 45)),some (16,true)⟩,
    ⟨(some 20),.pick (.t 16) (.t 19) (.c (.bool false)),none⟩,
    ⟨(some 5),.mov (.t 20),none⟩]) <|
  .seqj [0,5] [1] (.seq (.reg [⟨(some 21),.mov (.t 5),none⟩]) <|
  .cond (.t 21) (.reg [⟨(some 22),.mov (.t 1),none⟩,
    ⟨(some 23),.sslc (.t 22) (some (.c (.int .i64 1))) none,none⟩,
    ⟨(some 1),.mov (.t 23),none⟩]) (.skip)) <|
  .seq (.reg [⟨(some 25),.mov (.t 1),none⟩,
    ⟨(some 26),.call q8 [(.t 25)],none⟩,
    ⟨(some 24),.mov (.t 26),none⟩,
    ⟨(some 27),.ext (.t 24) 0,none⟩,
    ⟨(some 28),.ext (.t 24) 1,none⟩,
    ⟨(some 6),.mov (.t 27),none⟩,
    ⟨(some 7),.mov (.t 28),none⟩]) <|
  .seqj [5] [6] (.seq (.reg [⟨(some 29),.mov (.t 0),none⟩,
    ⟨(some 30),.bin .eql (.t 29) (.c (.int .i64 2)),none⟩]) <|
  .cond (.t 30) (.seq (.reg [⟨(some 31),.mov (.t 6),none⟩,
    ⟨(some 32),.call ma [(.c (.int .i64 20))],none⟩,
    ⟨(some 33),.mn (.t 31) (.t 32),none⟩,
    ⟨(some 34),.bin .mul (.c (.int .i64 65536)) (.t 33),none⟩,
    ⟨(some 6),.mov (.t 34),none⟩]) <|
  .seq (.reg [⟨(some 35),.mov (.t 7),none⟩,
    ⟨(some 36),.mov (.t 1),none⟩,
    ⟨(some 37),.slen (.t 36),none⟩,
    ⟨(some 38),.bin .lss (.t 35) (.t 37),none⟩]) <|
  .cond (.t 38) (.reg [⟨(some 39),.mov (.t 6),none⟩,
    ⟨(some 40),.mov (.t 1),none⟩,
    ⟨(some 41),.mov (.t 7),none⟩,
    ⟨(some 42),.bin .add (.t 41) (.c (.int .i64 1)),none⟩,
    ⟨(some 43),.sslc (.t 40) (some (.t 42)) none,none⟩,
    ⟨(some 44),.call Ec [(.t 43)],none⟩,
    ⟨(some 45),.bin .add (.t 39) (.t 44),none⟩,
    ⟨(some 6),.mov (.t 45),none⟩]) (.skip)) (.skip)) <|
  .seqj [] [6] (.seq (.reg [⟨(some 46),.mov (.t 5),none⟩]) <|
  .cond (.t 46) (.reg [⟨(some 47),.mov (.t 6),none⟩,
    ⟨(some 48),.un .neg (.t 47),none⟩,
    ⟨(some 6),.mov (.t 48),none⟩]) (.skip)) <|
  .seq (.reg [⟨(some 49),.mov (.t 6),none⟩,
    ⟨(some 50),.call wo [(.t 49)],none⟩,
    ⟨(some 4),.mov (.t 50),none⟩]) <|
  .ret,
  [.t 4]⟩
theorem AX:cFn PP true wq yC (cDr PP 51 BB)=some xE:=by kernel_rfl
def u0:Nat->Option (List Nat×List Nat)
  | 1000006=>some ([],[4,5])|2=>some ([0],[4,5])|_=>none
def ya:Nat->Option (List Nat×List Nat×List Nat)
  | 3=>some ([0,1,0,0,12,28,60,127,0,511,1023],[10],[])|_=>none
def sr:af:=⟨36,
  .seq (.reg [⟨(some 2),.mov (.c (.int .i64 0)),none⟩,
    ⟨(some 3),.mov (.c (.int .i64 0)),none⟩]) <|
  .seq (.reg [⟨(some 4),.mov (.c (.int .i64 0)),none⟩,
    ⟨(some 5),.mov (.c (.int .i64 0)),none⟩]) <|
  .seqj [] [4,5] (.block 0 (.loop [0] [4,5] (.seq (.seq (.reg [⟨(some 6),.mov (.t 5),none⟩,
    ⟨(some 7),.mov (.t 0),none⟩,
    ⟨(some 8),.slen (.t 7),none⟩,
    ⟨(some 9),.bin .lss (.t 6) (.t 8),none⟩,
    ⟨(some 10),.mov (.t 9),none⟩,
    ⟨(some 11),.mov (.t 0),some (10,true)⟩,
    ⟨(some 12),.mov (.t 5),some (10,true)⟩,
    ⟨(some 13),.sidx (.t 11) (.t 12) 0 0 false,some (10,true)⟩,
    ⟨(some 14),.bin .geq (.t 13) (.c (.int .u8 48)),some (10,true)⟩,
    ⟨(some 15),.pick (.t 10) (.t 14) (.c (.bool false)),none⟩,
    ⟨(some 16),.mov (.t 15),none⟩,
    ⟨(some 17),.mov (.t 0),some (16,true)⟩,
    ⟨(some 18),.mov (.t 5),some (16,true)⟩,
    ⟨(some 19),.sidx (.t 17) (.t 18) 0 0 false,some (16,true)⟩,
    ⟨(some 20),.bin .leq (.t 19) (.c (.int .u8 57)),some (16,true)⟩,
    ⟨(some 21),.pick (.t 16) (.t 20) (.c (.bool false)),none⟩]) <|
  .cond (.t 21) (.skip) (.exit 0)) <|
  .block 1 (.seq (.dreg [⟨(some 22),.mov (.t 4),none⟩,
    ⟨(some 23),.bin .mul (.c (.int .i64 10)) (.t 22),none⟩,
    ⟨(some 24),.mov (.t 0),none⟩,
    ⟨(some 25),.mov (.t 5),none⟩,
    ⟨(some 26),.sidx (.t 24) (.t 25) 0 0 false,none⟩,
    ⟨(some 27),.bin .sub (.t 26) (.c (.int .u8 48)),none⟩,
    ⟨(some 28),.conv .i64 (.t 27),none⟩,
    ⟨(some 29),.bin .add (.t 23) (.t 28),none⟩,
    ⟨(some 30),.call ma [(.c (.int .i64 40))],none⟩,
    ⟨(some 31),.mn (.t 29) (.t 30),none⟩] [⟨(some 4),.mov (.t 31),none⟩] []) <|
  .reg [⟨(some 32),.mov (.t 5),none⟩,
    ⟨(some 33),.bin .add (.t 32) (.c (.int .i64 1)),none⟩,
    ⟨(some 5),.mov (.t 33),none⟩])))) <|
  .seq (.reg [⟨(some 34),.mov (.t 4),none⟩,
    ⟨(some 35),.mov (.t 5),none⟩,
    ⟨(some 2),.mov (.t 34),none⟩,
    ⟨(some 3),.mov (.t 35),none⟩]) <|
  .ret,
  [.t 2,.t 3]⟩
theorem xF:cFn PP true q8 u0 (cDr PP 36 ya)=some sr:=by kernel_rfl
def wP:Nat->Option (List Nat×List Nat)
  | 1000007=>some ([],[3])|3=>some ([0],[3,4])|_=>none
def Ag:Nat->Option (List Nat×List Nat×List Nat)
  | _=>none
def uq:af:=⟨13,
  .seq (.reg [⟨(some 2),.mov (.c (.int .i64 0)),none⟩]) <|
  .seq (.reg [⟨(some 3),.mov (.c (.int .i64 1)),none⟩]) <|
  .seqj [] [3] (.seq (.reg [⟨(some 4),.mov (.c (.int .i64 0)),none⟩]) <|
  .block 0 (.loop [0] [3,4] (.seq (.seq (.reg [⟨(some 5),.mov (.t 4),none⟩,
    ⟨(some 6),.mov (.t 0),none⟩,
    ⟨(some 7),.bin .lss (.t 5) (.t 6),none⟩]) <|
  .cond (.t 7) (.skip) (.exit 0)) <|
  .seq (.block 1 (.reg [⟨(some 10),.mov (.t 3),none⟩,
    ⟨(some 11),.bin .mul (.c (.int .i64 2)) (.t 10),none⟩,
    ⟨(some 3),.mov (.t 11),none⟩])) <|
  .reg [⟨(some 8),.mov (.t 4),none⟩,
    ⟨(some 9),.bin .add (.t 8) (.c (.int .i64 1)),none⟩,
    ⟨(some 4),.mov (.t 9),none⟩]))) <|
  .seq (.reg [⟨(some 12),.mov (.t 3),none⟩,
    ⟨(some 2),.mov (.t 12),none⟩]) <|
  .ret,
  [.t 2]⟩
theorem zh:cFn PP true ma wP (cDr PP 13 Ag)=some uq:=by kernel_rfl
def yB:Nat->Option (List Nat×List Nat)
  | _=>none
def BA:Nat->Option (List Nat×List Nat×List Nat)
  | _=>none
def xD:af:=⟨7,
  .seq (.reg [⟨(some 2),.mov (.c (.int .i32 0)),none⟩]) <|
  .seq (.reg [⟨(some 3),.mov (.t 0),none⟩,
    ⟨(some 4),.conv .u64 (.t 3),none⟩,
    ⟨(some 5),.conv .u32 (.t 4),none⟩,
    ⟨(some 6),.conv .i32 (.t 5),none⟩,
    ⟨(some 2),.mov (.t 6),none⟩]) <|
  .ret,
  [.t 2]⟩
theorem AW:cFn PP true wo yB (cDr PP 7 BA)=some xD:=by kernel_rfl
end Go.Am
namespace Go.Am
open Go Go.Proofs
def kU (a0:D) (h0:Heap) (K:D->Heap->Prop):Prop :=
  aa PP (.fadd (.c a0) 0) h0 fun a2 h3 =>
  aa PP (.fadd (.c a2) 2) h3 fun a4 h5 =>
  aa PP (.fadd (.c a4) 6) h5 fun a6 h7 =>
  aa PP (.ld (.c a6) 1 false) h7 fun a8 h9 =>
  cJ a8 h9 fun a10 =>
  vbin .mul (.int .i64 2) a10 fun a11 =>
  vbin .add (.int .i64 6) a11 fun a12 =>
  ai PP ah [a0] h9 fun a13 h14 =>
  vbin .rem a13 (.int .i64 3) fun a15 =>
  vbin .add (.int .i64 1) a15 fun a16 =>
  vbin .add a12 (.int .i64 2) fun a17 =>
  aa PP (.fadd (.c a0) 0) h14 fun a18 h19 =>
  aa PP (.fadd (.c a18) 2) h19 fun a20 h21 =>
  aa PP (.fadd (.c a20) 2) h21 fun a22 h23 =>
  aa PP (.st (.c a22) (.c a17) 1) h23 fun a24 h25 =>
  aa PP (.fadd (.c a0) 0) h25 fun a26 h27 =>
  aa PP (.fadd (.c a26) 2) h27 fun a28 h29 =>
  aa PP (.fadd (.c a28) 7) h29 fun a30 h31 =>
  aa PP (.ld (.c a30) 1 false) h31 fun a32 h33 =>
  cJ a32 h33 fun a34 =>
  ai PP bO [a12] h33 fun a35 h36 =>
  ai PP cb [(.int .i32 0)] h36 fun a37 h38 =>
  aa PP (.bld [(.int .i64 0),(.int .i64 0),(.int .i64 0),(.int .i64 0),(.int .i64 0),(.int .i32 0),(.int .i64 0),(.int .i64 0),(.int .i32 0),(.int .i64 0),(.int .i64 0),(.int .i32 0),(.int .i64 0),(.int .i64 0),(.int .i32 0)] [(0,1,(.c (.int .i64 1))),(3,3,(.c a35)),(6,3,(.c a37))]) h38 fun a39 h40 =>
  ai PP aB [a0,a39] h40 fun a41 h42 =>
  aa PP (.fadd (.c a0) 0) h42 fun a43 h44 =>
  aa PP (.fadd (.c a43) 2) h44 fun a45 h46 =>
  aa PP (.fadd (.c a45) 7) h46 fun a47 h48 =>
  aa PP (.ld (.c a47) 1 false) h48 fun a49 h50 =>
  vbin .sub a34 (.int .i64 1) fun a51 =>
  aa PP (.bld [(.int .i64 0),(.int .i64 0)] [(0,1,(.c a34)),(1,1,(.c (.int .i64 0)))]) h50 fun a52 h53 =>
  aa PP (.bld [(.int .i64 0),(.int .i64 0),(.int .i64 0),(.int .i64 0),(.int .i32 0),(.int .i64 0),(.int .i64 0),(.int .i32 0),(.int .i64 0),(.int .i64 0),(.int .i32 0),(.int .i64 0),(.int .i64 0)] [(0,1,(.c (.int .i64 1))),(11,2,(.c a52))]) h53 fun a54 h55 =>
  aa PP (.iadd (.c a49) (.c a51) 14) h55 fun a56 h57 =>
  aa PP (.fadd (.c a56) 1) h57 fun a58 h59 =>
  aa PP (.st (.c a58) (.c a54) 13) h59 fun a60 h61 =>
  ∃(J62:List D->Heap->Prop),(∀(f63:Nat->D) (h64:Heap),J62 [f63 0,f63 2,f63 3,f63 4] h64 ->
  ai PP aP [(f63 0)] h64 fun a65 h66 =>
  vbin .add (f63 2) (.int .i64 1) fun a67 =>
  ai PP bO [a67] h66 fun a68 h69 =>
  ai PP bO [(f63 2)] h69 fun a70 h71 =>
  aa PP (.conv .i32 (.c (f63 3))) h71 fun a72 h73 =>
  ai PP cb [a72] h73 fun a74 h75 =>
  aa PP (.bld [(.int .i64 0),(.int .i64 0),(.int .i64 0),(.int .i64 0),(.int .i64 0),(.int .i32 0),(.int .i64 0),(.int .i64 0),(.int .i32 0),(.int .i64 0),(.int .i64 0),(.int .i32 0),(.int .i64 0),(.int .i64 0),(.int .i32 0)] [(0,1,(.c (.int .i64 3))),(1,1,(.c (.int .i64 26))),(3,3,(.c a68)),(6,3,(.c a70)),(9,3,(.c a74))]) h75 fun a76 h77 =>
  ai PP aB [(f63 0),a76] h77 fun a78 h79 =>
  ag PP (.fadd (.c (f63 0)) 0) h79 fun a80 =>
  ag PP (.fadd (.c a80) 2) h79 fun a81 =>
  ag PP (.fadd (.c a81) 7) h79 fun a82 =>
  ag PP (.ld (.c a82) 1 false) h79 fun a83 =>
  vbin .add (f63 2) (.int .i64 1) fun a84 =>
  ag PP (.call bO [(.c a84)]) h79 fun a85 =>
  vbin .add (f63 4) (.int .i64 1) fun a86 =>
  vbin .add (f63 4) (.int .i64 2) fun a87 =>
  ag PP (.bld [(.int .i64 0),(.int .i64 0)] [(0,1,(.c a86)),(1,1,(.c a87))]) h79 fun a88 =>
  ag PP (.bld [(.int .i64 0),(.int .i64 0),(.int .i64 0),(.int .i64 0),(.int .i32 0),(.int .i64 0),(.int .i64 0),(.int .i32 0),(.int .i64 0),(.int .i64 0),(.int .i32 0),(.int .i64 0),(.int .i64 0)] [(0,1,(.c (.int .i64 2))),(5,3,(.c a85)),(11,2,(.c a88))]) h79 fun a89 =>
  ag PP (.iadd (.c a83) (.c (f63 4)) 14) h79 fun a90 =>
  ag PP (.fadd (.c a90) 1) h79 fun a91 =>
  aa PP (.st (.c a91) (.c a89) 13) h79 fun a92 h93 =>
  ai PP aP [(f63 0)] h93 fun a94 h95 =>
  ai PP bO [(f63 2)] h95 fun a96 h97 =>
  ai PP bO [(f63 2)] h97 fun a98 h99 =>
  ai PP cb [(.int .i32 1)] h99 fun a100 h101 =>
  aa PP (.bld [(.int .i64 0),(.int .i64 0),(.int .i64 0),(.int .i64 0),(.int .i64 0),(.int .i32 0),(.int .i64 0),(.int .i64 0),(.int .i32 0),(.int .i64 0),(.int .i64 0),(.int .i32 0),(.int .i64 0),(.int .i64 0),(.int .i32 0)] [(0,1,(.c (.int .i64 3))),(1,1,(.c (.int .i64 10))),(3,3,(.c a96)),(6,3,(.c a98)),(9,3,(.c a100))]) h101 fun a102 h103 =>
  ai PP aB [(f63 0),a102] h103 fun a104 h105 =>
  ai PP bl [(f63 0)] h105 fun a106 h107 =>
  aa PP (.fadd (.c (f63 0)) 0) h107 fun a108 h109 =>
  aa PP (.fadd (.c a108) 2) h109 fun a110 h111 =>
  aa PP (.fadd (.c a110) 7) h111 fun a112 h113 =>
  aa PP (.ld (.c a112) 1 false) h113 fun a114 h115 =>
  vbin .add (f63 4) (.int .i64 1) fun a116 =>
  aa PP (.bld [(.int .i64 0),(.int .i64 0)] [(0,1,(.c (f63 4))),(1,1,(.c (.int .i64 0)))]) h115 fun a117 h118 =>
  aa PP (.bld [(.int .i64 0),(.int .i64 0),(.int .i64 0),(.int .i64 0),(.int .i32 0),(.int .i64 0),(.int .i64 0),(.int .i32 0),(.int .i64 0),(.int .i64 0),(.int .i32 0),(.int .i64 0),(.int .i64 0)] [(0,1,(.c (.int .i64 1))),(11,2,(.c a117))]) h118 fun a119 h120 =>
  aa PP (.iadd (.c a114) (.c a116) 14) h120 fun a121 h122 =>
  aa PP (.fadd (.c a121) 1) h122 fun a123 h124 =>
  aa PP (.st (.c a123) (.c a119) 13) h124 fun a125 h126 =>
  ∃(J127:List D->Heap->Prop),(∀(f128:Nat->D) (h129:Heap),J127 [f128 0,f128 4,f128 119] h129 ->
  vcond (f128 119) (ag PP (.fadd (.c (f128 0)) 0) h129 fun a130 =>
  ag PP (.fadd (.c a130) 2) h129 fun a131 =>
  ag PP (.fadd (.c a131) 7) h129 fun a132 =>
  ag PP (.ld (.c a132) 1 false) h129 fun a133 =>
  vbin .add (f128 4) (.int .i64 1) fun a134 =>
  vbin .add (f128 4) (.int .i64 2) fun a135 =>
  ag PP (.bld [(.int .i64 0),(.int .i64 0)] [(0,1,(.c (f128 4))),(1,1,(.c a135))]) h129 fun a136 =>
  ai PP aJ [(f128 0)] h129 fun a137 h138 =>
  ((ag PP (.fadd (.c (f128 0)) 0) h138 fun a139=>bR [a139] [a130])/\(ag PP (.fadd (.c a130) 2) h138 fun a140=>bR [a140] [a131])/\(ag PP (.fadd (.c a131) 7) h138 fun a141=>bR [a141] [a132])/\(ag PP (.ld (.c a132) 1 false) h138 fun a142=>bR [a142] [a133])/\True) /\
  ag PP (.bld [(.int .i64 0),(.int .i64 0),(.int .i64 0),(.int .i64 0),(.int .i32 0),(.int .i64 0),(.int .i64 0),(.int .i32 0),(.int .i64 0),(.int .i64 0),(.int .i32 0),(.int .i64 0),(.int .i64 0)] [(0,1,(.c (.int .i64 2))),(5,3,(.c a137)),(11,2,(.c a136))]) h138 fun a143 =>
  ag PP (.iadd (.c a133) (.c a134) 14) h138 fun a144 =>
  ag PP (.fadd (.c a144) 1) h138 fun a145 =>
  aa PP (.st (.c a145) (.c a143) 13) h138 fun a146 h147 =>
  K (.tup []) h147) (
  K (.tup []) h129)) /\
  ai PP ah [(f63 0)] h126 fun a148 h149 =>
  vbin .rem a148 (.int .i64 3) fun a150 =>
  vbin .eql a150 (.int .i64 0) fun a151 =>
  bR [] []/\J127 [(f63 0),(f63 4),a151] h149) /\
  aa PP (.fadd (.c a0) 0) h61 fun a152 h153 =>
  aa PP (.fadd (.c a152) 2) h153 fun a154 h155 =>
  aa PP (.fadd (.c a154) 6) h155 fun a156 h157 =>
  aa PP (.ld (.c a156) 1 false) h157 fun a158 h159 =>
  aa PP (.bld [(.int .i64 0),(.int .i64 0),(.int .i64 0)] [(0,1,(.c a34)),(1,1,(.c a12)),(2,1,(.c a16))]) h159 fun a160 h161 =>
  aa PP (.bldS true 3 1 (.agg [(.int .i64 0),(.int .i64 0),(.int .i64 0)]) [(0,(.c a160))]) h161 fun a162 h163 =>
  aa PP (.app (.c a158) (.c a162) 3 24 (.agg [(.int .i64 0),(.int .i64 0),(.int .i64 0)])) h163 fun a164 h165 =>
  aa PP (.fadd (.c a0) 0) h165 fun a166 h167 =>
  aa PP (.fadd (.c a166) 2) h167 fun a168 h169 =>
  aa PP (.fadd (.c a168) 6) h169 fun a170 h171 =>
  aa PP (.st (.c a170) (.c a164) 1) h171 fun a172 h173 =>
  bR [] []/\J62 [a0,a12,a16,a34] h173
set_option maxHeartbeats 0 in
theorem qi (a0:D) (h0:Heap) (K:D->Heap->Prop):kU a0 h0 K=vcC PP fo.code (fun x e h'=>match x with|.exit _=>False|.pan=>False|.jump _=>False|_=>cY PP fo.res K e h') (params [a0] 0) h0:=by kernel_rfl
end Go.Am
namespace Go.Am
open Go Go.Proofs
def jw (a76:D) (h75:Heap) (a4:D) (a12:D) (J29:List D->Heap->Prop):Prop :=
  ∃(I77:Nat->List D->Heap->Prop) (n₀:Nat),I77 n₀ [a76] h75/\∀(n78:Nat) (f79:Nat->D) (h80:Heap),I77 n78 [f79 5] h80 ->
  vbin .gtr (f79 5) (.int .i64 0) fun a81 =>
  vcond a81 (∃(J82:List D->Heap->Prop),(∀(f83:Nat->D) (h84:Heap),J82 [] h84 ->
  vbin .sub (f79 5) (.int .i64 1) fun a85 =>
  bR [a4,a12] [a4,a12]/\∃m,m<n78/\I77 m [a85] h84) /\
  ai PP ah [a12] h80 fun a86 h87 =>
  vbin .rem a86 (.int .i64 3) fun a88 =>
  ai PP bN [a12,a88] h87 fun a89 h90 =>
  ∃(J91:List D->Heap->Prop),(∀(f92:Nat->D) (h93:Heap),J91 [] h93 ->
  aa PP (.fadd (.c a12) 0) h93 fun a94 h95 =>
  aa PP (.fadd (.c a94) 2) h95 fun a96 h97 =>
  aa PP (.fadd (.c a96) 7) h97 fun a98 h99 =>
  aa PP (.ld (.c a98) 1 false) h99 fun a100 h101 =>
  cJ a100 h101 fun a102 =>
  vbin .sub a102 (.int .i64 1) fun a103 =>
  aa PP (.fadd (.c a12) 0) h101 fun a104 h105 =>
  aa PP (.fadd (.c a104) 2) h105 fun a106 h107 =>
  aa PP (.fadd (.c a106) 7) h107 fun a108 h109 =>
  aa PP (.ld (.c a108) 1 false) h109 fun a110 h111 =>
  vbin .add a103 (.int .i64 1) fun a112 =>
  aa PP (.bld [(.int .i64 0),(.int .i64 0)] [(0,1,(.c a112)),(1,1,(.c (.int .i64 0)))]) h111 fun a113 h114 =>
  aa PP (.bld [(.int .i64 0),(.int .i64 0),(.int .i64 0),(.int .i64 0),(.int .i32 0),(.int .i64 0),(.int .i64 0),(.int .i32 0),(.int .i64 0),(.int .i64 0),(.int .i32 0),(.int .i64 0),(.int .i64 0)] [(0,1,(.c (.int .i64 3))),(11,2,(.c a113))]) h114 fun a115 h116 =>
  aa PP (.iadd (.c a110) (.c a103) 14) h116 fun a117 h118 =>
  aa PP (.fadd (.c a117) 1) h118 fun a119 h120 =>
  aa PP (.st (.c a119) (.c a115) 13) h120 fun a121 h122 =>
  ai PP ah [a12] h122 fun a123 h124 =>
  vbin .rem a123 (.int .i64 3) fun a125 =>
  vbin .eql a125 (.int .i64 0) fun a126 =>
  vcond a126 (ag PP (.fadd (.c a12) 0) h124 fun a127 =>
  ag PP (.fadd (.c a127) 2) h124 fun a128 =>
  ag PP (.fadd (.c a128) 7) h124 fun a129 =>
  ag PP (.ld (.c a129) 1 false) h124 fun a130 =>
  vbin .add a103 (.int .i64 1) fun a131 =>
  ag PP (.bld [(.int .i64 0),(.int .i64 0)] [(0,1,(.c a131)),(1,1,(.c (.int .i64 0)))]) h124 fun a132 =>
  ai PP ah [a12] h124 fun a133 h134 =>
  ((ag PP (.fadd (.c a12) 0) h134 fun a135=>bR [a135] [a127])/\(ag PP (.fadd (.c a127) 2) h134 fun a136=>bR [a136] [a128])/\(ag PP (.fadd (.c a128) 7) h134 fun a137=>bR [a137] [a129])/\(ag PP (.ld (.c a129) 1 false) h134 fun a138=>bR [a138] [a130])/\True) /\
  vbin .rem a133 (.int .i64 6) fun a139 =>
  vbin .add (.int .i64 1) a139 fun a140 =>
  ai PP aJ [a12] h134 fun a141 h142 =>
  ((ag PP (.fadd (.c a12) 0) h142 fun a143=>bR [a143] [a127])/\(ag PP (.fadd (.c a127) 2) h142 fun a144=>bR [a144] [a128])/\(ag PP (.fadd (.c a128) 7) h142 fun a145=>bR [a145] [a129])/\(ag PP (.ld (.c a129) 1 false) h142 fun a146=>bR [a146] [a130])/\True) /\
  ai PP aG [a12] h142 fun a147 h148 =>
  ((ag PP (.fadd (.c a12) 0) h148 fun a149=>bR [a149] [a127])/\(ag PP (.fadd (.c a127) 2) h148 fun a150=>bR [a150] [a128])/\(ag PP (.fadd (.c a128) 7) h148 fun a151=>bR [a151] [a129])/\(ag PP (.ld (.c a129) 1 false) h148 fun a152=>bR [a152] [a130])/\True) /\
  ai PP aG [a12] h148 fun a153 h154 =>
  ((ag PP (.fadd (.c a12) 0) h154 fun a155=>bR [a155] [a127])/\(ag PP (.fadd (.c a127) 2) h154 fun a156=>bR [a156] [a128])/\(ag PP (.fadd (.c a128) 7) h154 fun a157=>bR [a157] [a129])/\(ag PP (.ld (.c a129) 1 false) h154 fun a158=>bR [a158] [a130])/\True) /\
  ag PP (.bld [(.int .i64 0),(.int .i64 0),(.int .i64 0),(.int .i64 0),(.int .i32 0),(.int .i64 0),(.int .i64 0),(.int .i32 0),(.int .i64 0),(.int .i64 0),(.int .i32 0),(.int .i64 0),(.int .i64 0)] [(0,1,(.c (.int .i64 4))),(1,1,(.c a140)),(2,3,(.c a141)),(5,3,(.c a147)),(8,3,(.c a153)),(11,2,(.c a132))]) h154 fun a159 =>
  ag PP (.iadd (.c a130) (.c a103) 14) h154 fun a160 =>
  ag PP (.fadd (.c a160) 1) h154 fun a161 =>
  aa PP (.st (.c a161) (.c a159) 13) h154 fun a162 h163 =>
  bR [a4,a12,(f79 5)] [a4,a12,(f79 5)]/\J82 [] h163) (
  bR [a4,a12,(f79 5)] [a4,a12,(f79 5)]/\J82 [] h124)) /\
  ai PP ah [a12] h90 fun a164 h165 =>
  vbin .rem a164 (.int .i64 3) fun a166 =>
  vbin .eql a166 (.int .i64 0) fun a167 =>
  vcond a167 (ai PP bG [a12] h165 fun a168 h169 =>
  ai PP aP [a12] h169 fun a170 h171 =>
  bR [a4,a12,(f79 5)] [a4,a12,(f79 5)]/\J91 [] h171) (
  bR [a4,a12,(f79 5)] [a4,a12,(f79 5)]/\J91 [] h165)) (
  bR [a4,a12] [a4,a12]/\J29 [] h80)
def jv (a174:D) (h173:Heap) (a12:D) (a4:D) (J26:List D->Heap->Prop):Prop :=
  ∃(I175:Nat->List D->Heap->Prop) (n₀:Nat),I175 n₀ [a174] h173/\∀(n176:Nat) (f177:Nat->D) (h178:Heap),I175 n176 [f177 4] h178 ->
  vbin .gtr (f177 4) (.int .i64 0) fun a179 =>
  bg a179 true (fun G180 =>
  G180 a12) fun a181 =>
  bg a179 true (fun G183 =>
  ag PP (.fadd (.c a181) 0) h178 fun a259 =>
  G183 a259) fun a184 =>
  bg a179 true (fun G187 =>
  ag PP (.fadd (.c a184) 2) h178 fun a258 =>
  G187 a258) fun a188 =>
  bg a179 true (fun G191 =>
  ag PP (.fadd (.c a188) 0) h178 fun a257 =>
  G191 a257) fun a192 =>
  bg a179 true (fun G195 =>
  ag PP (.ld (.c a192) 1 false) h178 fun a256 =>
  G195 a256) fun a196 =>
  bg a179 true (fun G199 =>
  G199 a12) fun a200 =>
  bg a179 true (fun G202 =>
  ag PP (.fadd (.c a200) 0) h178 fun a255 =>
  G202 a255) fun a203 =>
  bg a179 true (fun G206 =>
  ag PP (.fadd (.c a203) 2) h178 fun a254 =>
  G206 a254) fun a207 =>
  bg a179 true (fun G210 =>
  ag PP (.fadd (.c a207) 1) h178 fun a253 =>
  G210 a253) fun a211 =>
  bg a179 true (fun G214 =>
  ag PP (.ld (.c a211) 1 false) h178 fun a252 =>
  G214 a252) fun a215 =>
  bg a179 true (fun G218 =>
  vbin .mul (.int .i64 2) a215 fun a251 =>
  G218 a251) fun a219 =>
  bg a179 true (fun G222 =>
  vbin .rem a196 a219 fun a250 =>
  G222 a250) fun a223 =>
  bg a179 true (fun G226 =>
  vbin .eql a223 (.int .i64 0) fun a249 =>
  G226 a249) fun a227 =>
  ag PP (.pick (.c a179) (.c a227) (.c (.bool false))) h178 fun a230 =>
  vcond a230 (aa PP (.fadd (.c a12) 0) h178 fun a231 h232 =>
  aa PP (.fadd (.c a231) 2) h232 fun a233 h234 =>
  aa PP (.fadd (.c a233) 1) h234 fun a235 h236 =>
  aa PP (.ld (.c a235) 1 false) h236 fun a237 h238 =>
  vbin .mul (.int .i64 2) a237 fun a239 =>
  aa PP (.fadd (.c a12) 0) h238 fun a240 h241 =>
  aa PP (.fadd (.c a240) 2) h241 fun a242 h243 =>
  aa PP (.fadd (.c a242) 1) h243 fun a244 h245 =>
  aa PP (.st (.c a244) (.c a239) 1) h245 fun a246 h247 =>
  vbin .sub (f177 4) (.int .i64 1) fun a248 =>
  bR [a4,a12] [a4,a12]/\∃m,m<n176/\I175 m [a248] h247) (
  bR [a4,a12] [a4,a12]/\J26 [] h178)
def xa (a0:D) (h0:Heap) (K:D->Heap->Prop):Prop :=
  aa PP (.box (.c a0)) h0 fun a2 h3 =>
  aa PP (.alloc (.agg [(.int .i64 0),(.int .i64 0),(.int .i64 0),(.int .i64 0),(.int .i64 0),.nil,.nil,.nil])) h3 fun a4 h5 =>
  aa PP (.fadd (.c a2) 0) h5 fun a6 h7 =>
  aa PP (.ld (.c a6) 1 false) h7 fun a8 h9 =>
  aa PP (.bld [.nil,(.int .i64 0),(.int .i64 0),(.int .i64 0),(.int .i64 0),(.int .i64 0),(.int .i64 0),.nil,.nil,.nil] [(0,1,(.c a8))]) h9 fun a10 h11 =>
  aa PP (.box (.c a10)) h11 fun a12 h13 =>
  ag PP (.bldS false 1 5 (.int .i64 0) [(0,(.c (.int .i64 4))),(1,(.c (.int .i64 1))),(2,(.c (.int .i64 2))),(3,(.c (.int .i64 8))),(4,(.c (.int .i64 6)))]) h13 fun a14 =>
  ai PP ah [a12] h13 fun a15 h16 =>
  vbin .rem a15 (.int .i64 5) fun a17 =>
  ag PP (.iadd (.c a14) (.c a17) 1) h16 fun a18 =>
  ag PP (.ld (.c a18) 1 false) h16 fun a19 =>
  ag PP (.call gd []) h16 fun a20 =>
  ag PP (.bld [(.int .i64 0),(.int .i64 0),(.int .i64 0),(.int .i64 0),(.int .i64 0),.nil,.nil,.nil] [(0,1,(.c a19)),(1,1,(.c (.int .i64 1))),(2,1,(.c (.int .i64 6))),(4,1,(.c (.int .i64 3))),(5,1,(.c a20))]) h16 fun a21 =>
  ag PP (.fadd (.c a12) 0) h16 fun a22 =>
  ag PP (.fadd (.c a22) 2) h16 fun a23 =>
  aa PP (.st (.c a23) (.c a21) 8) h16 fun a24 h25 =>
  ∃(J26:List D->Heap->Prop),(∀(f27:Nat->D) (h28:Heap),J26 [] h28 ->
  ∃(J29:List D->Heap->Prop),(∀(f30:Nat->D) (h31:Heap),J29 [] h31 ->
  ai PP ah [a12] h31 fun a32 h33 =>
  vbin .rem a32 (.int .i64 3) fun a34 =>
  ai PP bN [a12,a34] h33 fun a35 h36 =>
  ∃(J37:List D->Heap->Prop),(∀(f38:Nat->D) (h39:Heap),J37 [] h39 ->
  ag PP (.fadd (.c a12) 0) h39 fun a40 =>
  ag PP (.fadd (.c a40) 2) h39 fun a41 =>
  ag PP (.fadd (.c a41) 7) h39 fun a42 =>
  ag PP (.ld (.c a42) 1 false) h39 fun a43 =>
  ag PP (.fadd (.c a12) 0) h39 fun a44 =>
  ag PP (.fadd (.c a44) 2) h39 fun a45 =>
  ag PP (.fadd (.c a45) 7) h39 fun a46 =>
  ag PP (.ld (.c a46) 1 false) h39 fun a47 =>
  cJ a47 h39 fun a48 =>
  vbin .sub a48 (.int .i64 1) fun a49 =>
  ag PP (.bld [(.int .i64 0),(.int .i64 0),(.int .i64 0),(.int .i64 0),(.int .i32 0),(.int .i64 0),(.int .i64 0),(.int .i32 0),(.int .i64 0),(.int .i64 0),(.int .i32 0),(.int .i64 0),(.int .i64 0)] [(0,1,(.c (.int .i64 5)))]) h39 fun a50 =>
  ag PP (.iadd (.c a43) (.c a49) 14) h39 fun a51 =>
  ag PP (.fadd (.c a51) 1) h39 fun a52 =>
  aa PP (.st (.c a52) (.c a50) 13) h39 fun a53 h54 =>
  aa PP (.fadd (.c a12) 0) h54 fun a55 h56 =>
  aa PP (.fadd (.c a55) 2) h56 fun a57 h58 =>
  aa PP (.ld (.c a57) 8 true) h58 fun a59 h60 =>
  aa PP (.st (.c a4) (.c a59) 8) h60 fun a61 h62 =>
  aa PP (.ld (.c a4) 8 true) h62 fun a63 _ =>
  K a63 h62) /\
  ai PP ah [a12] h36 fun a64 h65 =>
  vbin .rem a64 (.int .i64 3) fun a66 =>
  vbin .eql a66 (.int .i64 0) fun a67 =>
  vcond a67 (ai PP bG [a12] h65 fun a68 h69 =>
  ai PP aP [a12] h69 fun a70 h71 =>
  ai PP bl [a12] h71 fun a72 h73 =>
  bR [a4,a12] [a4,a12]/\J37 [] h73) (
  bR [a4,a12] [a4,a12]/\J37 [] h65)) /\
  ai PP ah [a12] h28 fun a74 h75 =>
  vbin .rem a74 (.int .i64 3) fun a76 =>
  jw a76 h75 a4 a12 J29) /\
  ai PP ah [a12] h25 fun a172 h173 =>
  vbin .rem a172 (.int .i64 3) fun a174 =>
  jv a174 h173 a12 a4 J26
set_option maxHeartbeats 0 in
theorem AG (a0:D) (h0:Heap) (K:D->Heap->Prop):xa a0 h0 K=vcC PP pb.code (fun x e h'=>match x with|.exit _=>False|.pan=>False|.jump _=>False|_=>cY PP pb.res K e h') (params [a0] 0) h0:=by kernel_rfl
end Go.Am
