/- The texts of the functions of this chapter, as the abstract machine has them. No condition. -/
import Derived.KernelRfl
import Derived.Test.YtllpdgfanfffnaaGreatT1
set_option linter.unnecessarySimpa false
set_option linter.defProp false
set_option linter.unusedSectionVars false
set_option linter.unusedSimpArgs false
set_option linter.unusedVariables false
namespace Go.Am
open Go Go.Proofs
def uH:Nat->Option (List Nat×List Nat)
  | 1000027=>some ([3],[])|5=>some ([1,3,4,5,24,25],[26])|1000026=>some ([1,3,4,5,24,25,26],[])|1000019=>some ([1,3,4,5,6,9,24,25,26],[])|11=>some ([1,3,4,5,6,9,24,25,26,47,48],[49])|1000018=>some ([1,3,4,5,6,9,24,25,26,47,48,49],[])|4000016=>some ([1,3,4,5,6,9,24,25,26,47,48,49],[4])|20=>some ([1,3,4,5,6,24,25,26,71,72],[73])|1000025=>some ([1,3,4,5,6,24,25,26,71,72,73],[])|_=>none
def xy:Nat->Option (List Nat×List Nat×List Nat)
  | 8=>some ([0,1,3,7,0,31,63,127,255,511,1023,2047,4095],[],[])|23=>some ([0,0,0,0,12,28,0,64,252,511,1023],[8,10],[9])|_=>none
def sP:aA:=⟨95,
  .seq (.reg [⟨(some 1),.box (.t 0),none⟩,
    ⟨(some 2),.mov (.c .nil),none⟩]) <|
  .seq (.reg [⟨(some 15),.fadd (.t 1) 7,none⟩,
    ⟨(some 16),.ld (.t 15) 1 false,none⟩,
    ⟨(some 17),.len (.t 16),none⟩,
    ⟨(some 18),.mk 1 24 .nil (.t 17) (.t 17),none⟩,
    ⟨(some 3),.mov (.t 18),none⟩]) <|
  .seq (.reg [⟨(some 19),.ld (.t 1) 8 true,none⟩,
    ⟨(some 20),.call yQ [(.t 19)],none⟩,
    ⟨(some 4),.mov (.t 20),none⟩]) <|
  .seq (.reg [⟨(some 21),.mov (.t 4),none⟩,
    ⟨(some 22),.call oE [(.t 21)],none⟩,
    ⟨(some 5),.alloc .nil,none⟩,
    ⟨none,.st (.t 5) (.t 22) 1,none⟩]) <|
  .seqj [3] [] (.seq (.reg [⟨(some 23),.fadd (.t 1) 7,none⟩,
    ⟨(some 24),.ld (.t 23) 1 false,none⟩,
    ⟨(some 25),.len (.t 24),none⟩,
    ⟨(some 26),.mov (.c (.int .i64 0)),none⟩]) <|
  .block 0 (.loop [1,3,4,5,24,25] [26] (.seq (.reg [⟨(some 27),.bin .lss (.t 26) (.t 25),none⟩]) <|
  .seq (.cond (.t 27) (.skip) (.exit 0)) <|
  .seqj [1,3,4,5,24,25,26] [] (.block 1 (.seq (.reg [⟨(some 28),.mov (.t 26),none⟩,
    ⟨(some 29),.iadd (.t 24) (.t 26) 14,none⟩,
    ⟨(some 30),.ld (.t 29) 14 true,none⟩,
    ⟨(some 6),.alloc (.int .i64 0),none⟩,
    ⟨(some 7),.alloc (.agg [.nil,(.int .i64 0),(.int .i64 0),(.int .i64 0),(.int .i64 0),(.int .i32 0),(.int .i64 0),(.int .i64 0),(.int .i32 0),(.int .i64 0),(.int .i64 0),(.int .i32 0),(.int .i64 0),(.int .i64 0)]),none⟩,
    ⟨none,.st (.t 6) (.t 28) 1,none⟩,
    ⟨none,.st (.t 7) (.t 30) 14,none⟩]) <|
  .seq (.reg [⟨(some 31),.fadd (.t 7) 1,none⟩,
    ⟨(some 32),.ld (.t 31) 13 true,none⟩,
    ⟨(some 33),.call dI [(.t 32)],none⟩,
    ⟨(some 8),.mov (.t 33),none⟩]) <|
  .seq (.seq (.dreg [⟨(some 34),.mov (.t 4),none⟩,
    ⟨(some 35),.fadd (.t 34) 0,none⟩,
    ⟨(some 36),.fadd (.t 35) 2,none⟩,
    ⟨(some 37),.ld (.t 36) 1 false,none⟩,
    ⟨(some 38),.ld (.t 6) 1 false,none⟩,
    ⟨(some 39),.iadd (.t 37) (.t 38) 1,none⟩,
    ⟨(some 40),.ld (.t 39) 1 false,none⟩,
    ⟨(some 41),.bin .lss (.t 40) (.c (.int .i64 0)),none⟩,
    ⟨(some 42),.mov (.t 41),none⟩,
    ⟨(some 43),.mov (.t 8),some (42,false)⟩,
    ⟨(some 44),.len (.t 43),some (42,false)⟩,
    ⟨(some 45),.bin .neq (.t 44) (.c (.int .i64 2)),some (42,false)⟩,
    ⟨(some 46),.pick (.t 42) (.c (.bool true)) (.t 45),none⟩] [] []) <|
  .cond (.t 46) (.exit 1) (.skip)) <|
  .seq (.reg [⟨(some 9),.alloc .nil,none⟩]) <|
  .seqj [1,3,4,5,6,9,24,25,26] [] (.seq (.reg [⟨(some 47),.mov (.t 8),none⟩,
    ⟨(some 48),.len (.t 47),none⟩,
    ⟨(some 49),.mov (.c (.int .i64 0)),none⟩]) <|
  .block 2 (.loop [1,3,4,5,6,9,24,25,26,47,48] [49] (.seq (.reg [⟨(some 50),.bin .lss (.t 49) (.t 48),none⟩]) <|
  .seq (.cond (.t 50) (.skip) (.exit 2)) <|
  .seqj [1,3,4,5,6,9,24,25,26,47,48,49] [] (.block 3 (.seq (.reg [⟨(some 51),.iadd (.t 47) (.t 49) 1,none⟩,
    ⟨(some 52),.ld (.t 51) 1 false,none⟩,
    ⟨(some 11),.mov (.t 52),none⟩]) <|
  .seq (.reg [⟨(some 53),.ld (.t 5) 1 false,none⟩,
    ⟨(some 54),.mov (.t 11),none⟩,
    ⟨(some 55),.call wZ [(.t 53),(.t 54)],none⟩]) <|
  .block 4 (.range (.t 55) [56] [1,3,4,5,6,9,24,25,26,47,48,49] [4] (.reg [⟨(some 12),.mov (.t 56),none⟩]) (.block 5 (.seq (.seq (.reg [⟨(some 57),.mov (.t 12),none⟩,
    ⟨(some 58),.ld (.t 5) 1 false,none⟩,
    ⟨(some 59),.ld (.t 6) 1 false,none⟩,
    ⟨(some 60),.iadd (.t 58) (.t 59) 1,none⟩,
    ⟨(some 61),.ld (.t 60) 1 false,none⟩,
    ⟨(some 62),.bin .eql (.t 57) (.t 61),none⟩]) <|
  .cond (.t 62) (.exit 4) (.skip)) <|
  .reg [⟨(some 63),.ld (.t 9) 1 false,none⟩,
    ⟨(some 64),.mov (.t 12),none⟩,
    ⟨(some 65),.bldS true 1 1 (.int .i64 0) [(0,(.t 64))],none⟩,
    ⟨(some 66),.app (.t 63) (.t 65) 1 8 (.int .i64 0),none⟩,
    ⟨none,.st (.t 9) (.t 66) 1,none⟩]))))) <|
  .reg [⟨(some 67),.bin .add (.t 49) (.c (.int .i64 1)),none⟩,
    ⟨(some 49),.mov (.t 67),none⟩]))) <|
  .seq (.reg [⟨(some 68),.ld (.t 9) 1 false,none⟩,
    ⟨(some 69),.call gA [(.t 68)],none⟩]) <|
  .seq (.reg [⟨(some 70),.ld (.t 9) 1 false,none⟩,
    ⟨(some 71),.call eW [(.t 70)],none⟩,
    ⟨(some 72),.len (.t 71),none⟩,
    ⟨(some 73),.mov (.c (.int .i64 0)),none⟩]) <|
  .block 6 (.loop [1,3,4,5,6,24,25,26,71,72] [73] (.seq (.reg [⟨(some 74),.bin .lss (.t 73) (.t 72),none⟩]) <|
  .seq (.cond (.t 74) (.skip) (.exit 6)) <|
  .seqj [1,3,4,5,6,24,25,26,71,72,73] [] (.block 7 (.seq (.reg [⟨(some 75),.iadd (.t 71) (.t 73) 1,none⟩,
    ⟨(some 76),.ld (.t 75) 1 false,none⟩,
    ⟨(some 14),.mov (.t 76),none⟩]) <|
  .seq (.reg [⟨(some 77),.mov (.t 14),none⟩,
    ⟨(some 78),.fadd (.t 1) 7,none⟩,
    ⟨(some 79),.ld (.t 78) 1 false,none⟩,
    ⟨(some 80),.len (.t 79),none⟩,
    ⟨(some 81),.bin .lss (.t 77) (.t 80),none⟩]) <|
  .cond (.t 81) (.dreg [⟨(some 82),.mov (.t 3),none⟩,
    ⟨(some 83),.mov (.t 14),none⟩,
    ⟨(some 84),.mov (.t 3),none⟩,
    ⟨(some 85),.mov (.t 14),none⟩,
    ⟨(some 86),.iadd (.t 84) (.t 85) 1,none⟩,
    ⟨(some 87),.ld (.t 86) 1 false,none⟩,
    ⟨(some 88),.ld (.t 6) 1 false,none⟩,
    ⟨(some 89),.bldS false 1 1 (.int .i64 0) [(0,(.t 88))],none⟩,
    ⟨(some 91),.iadd (.t 82) (.t 83) 1,none⟩] [⟨(some 90),.app (.t 87) (.t 89) 1 8 (.int .i64 0),none⟩,
    ⟨none,.st (.t 91) (.t 90) 1,none⟩] [⟨(some 91),.iadd (.t 82) (.t 83) 1,none⟩]) (.skip))) <|
  .reg [⟨(some 92),.bin .add (.t 73) (.c (.int .i64 1)),none⟩,
    ⟨(some 73),.mov (.t 92),none⟩])))) <|
  .reg [⟨(some 93),.bin .add (.t 26) (.c (.int .i64 1)),none⟩,
    ⟨(some 26),.mov (.t 93),none⟩]))) <|
  .seq (.reg [⟨(some 94),.mov (.t 3),none⟩,
    ⟨(some 2),.mov (.t 94),none⟩]) <|
  .ret,
  [.t 2]⟩
theorem wK:cFn PP true dX uH (cDr PP 95 xy)=some sP:=by kernel_rfl
def nN:Nat->Option (List Nat×List Nat)
  | 1=>some ([0,1,2,3,16,17],[18])|1000021=>some ([0,1,2,3,16,17,18],[])|1000013=>some ([0,1,2,3,6,7,16,17,18],[])|7=>some ([0,1,2,3,6,7,16,17,18,38,39],[40])|1000019=>some ([0,1,2,3,6,16,17,18],[])|13=>some ([0,1,2,3,6,7,16,17,18,65,66],[67])|_=>none
def pI:Nat->Option (List Nat×List Nat×List Nat)
  | 15=>some ([0,1,3,0,8,0,32,0,128,504,1019,0,2048,8187,0,32763,65535,0,262143],[1,10,13,15,17,18],[999998,4])|_=>none
def kT:aA:=⟨113,
  .seq (.reg [⟨(some 15),.fadd (.t 1) 7,none⟩,
    ⟨(some 16),.ld (.t 15) 1 false,none⟩,
    ⟨(some 17),.len (.t 16),none⟩,
    ⟨(some 18),.mov (.c (.int .i64 0)),none⟩]) <|
  .block 0 (.loop [0,1,2,3,16,17] [18] (.seq (.reg [⟨(some 19),.bin .lss (.t 18) (.t 17),none⟩]) <|
  .seq (.cond (.t 19) (.skip) (.exit 0)) <|
  .seqj [0,1,2,3,16,17,18] [] (.block 1 (.seq (.reg [⟨(some 20),.mov (.t 18),none⟩,
    ⟨(some 21),.iadd (.t 16) (.t 18) 14,none⟩,
    ⟨(some 22),.ld (.t 21) 14 true,none⟩,
    ⟨(some 6),.alloc (.agg [.nil,(.int .i64 0),(.int .i64 0),(.int .i64 0),(.int .i64 0),(.int .i32 0),(.int .i64 0),(.int .i64 0),(.int .i32 0),(.int .i64 0),(.int .i64 0),(.int .i32 0),(.int .i64 0),(.int .i64 0)]),none⟩,
    ⟨(some 5),.mov (.t 20),none⟩,
    ⟨none,.st (.t 6) (.t 22) 14,none⟩]) <|
  .seq (.reg [⟨(some 23),.mov (.t 5),none⟩,
    ⟨(some 24),.bld [(.bool false),(.int .i64 0)] [(0,1,(.c (.bool true))),(1,1,(.t 23))],none⟩,
    ⟨(some 7),.alloc (.agg [(.bool false),(.int .i64 0)]),none⟩,
    ⟨none,.st (.t 7) (.t 24) 2,none⟩]) <|
  .seq (.seq (.reg [⟨(some 25),.ld (.t 2) 1 false,none⟩,
    ⟨(some 26),.mov (.t 5),none⟩,
    ⟨(some 27),.iadd (.t 25) (.t 26) 1,none⟩,
    ⟨(some 28),.ld (.t 27) 1 false,none⟩,
    ⟨(some 29),.un .not (.t 28),none⟩]) <|
  .cond (.t 29) (.seq (.seq (.reg [⟨(some 30),.mov (.t 0),none⟩,
    ⟨(some 31),.ld (.t 7) 2 true,none⟩,
    ⟨(some 32),.bld [(.bool false),(.int .i64 0),.nil,(.bool false)] [(0,2,(.t 31)),(3,1,(.c (.bool true)))],none⟩,
    ⟨(some 33),.callv (.t 30) [(.t 32)],none⟩,
    ⟨(some 34),.un .not (.t 33),none⟩]) <|
  .cond (.t 34) (.ret) (.skip)) <|
  .exit 1) (.skip)) <|
  .seqj [0,1,2,3,6,7,16,17,18] [] (.seq (.reg [⟨(some 35),.ld (.t 3) 1 false,none⟩,
    ⟨(some 36),.mov (.t 5),none⟩,
    ⟨(some 37),.iadd (.t 35) (.t 36) 1,none⟩,
    ⟨(some 38),.ld (.t 37) 1 false,none⟩,
    ⟨(some 39),.len (.t 38),none⟩,
    ⟨(some 40),.mov (.c (.int .i64 0)),none⟩]) <|
  .block 2 (.loop [0,1,2,3,6,7,16,17,18,38,39] [40] (.seq (.reg [⟨(some 41),.bin .lss (.t 40) (.t 39),none⟩]) <|
  .seq (.cond (.t 41) (.skip) (.exit 2)) <|
  .seq (.block 3 (.seq (.reg [⟨(some 42),.iadd (.t 38) (.t 40) 1,none⟩,
    ⟨(some 43),.ld (.t 42) 1 false,none⟩,
    ⟨(some 9),.mov (.t 43),none⟩]) <|
  .seq (.reg [⟨(some 44),.fadd (.t 1) 7,none⟩,
    ⟨(some 45),.ld (.t 44) 1 false,none⟩,
    ⟨(some 46),.mov (.t 9),none⟩,
    ⟨(some 47),.iadd (.t 45) (.t 46) 14,none⟩,
    ⟨(some 48),.fadd (.t 47) 1,none⟩,
    ⟨(some 49),.fadd (.t 48) 5,none⟩,
    ⟨(some 50),.ld (.t 49) 3 true,none⟩,
    ⟨(some 51),.bldS true 3 1 (.agg [(.int .i64 0),(.int .i64 0),(.int .i32 0)]) [(0,(.t 50))],none⟩,
    ⟨(some 52),.call fc [(.t 51)],none⟩,
    ⟨(some 53),.mov (.t 9),none⟩,
    ⟨(some 54),.bld [(.bool false),(.int .i64 0)] [(0,1,(.c (.bool true))),(1,1,(.t 53))],none⟩,
    ⟨(some 55),.bldS true 2 1 (.agg [(.bool false),(.int .i64 0)]) [(0,(.t 54))],none⟩,
    ⟨(some 56),.app (.t 52) (.t 55) 2 16 (.agg [(.bool false),(.int .i64 0)]),none⟩,
    ⟨(some 10),.mov (.t 56),none⟩]) <|
  .seq (.reg [⟨(some 57),.mov (.t 0),none⟩,
    ⟨(some 58),.ld (.t 7) 2 true,none⟩,
    ⟨(some 59),.mov (.t 10),none⟩,
    ⟨(some 60),.bld [(.bool false),(.int .i64 0),.nil,(.bool false)] [(0,2,(.t 58)),(2,1,(.t 59))],none⟩,
    ⟨(some 61),.callv (.t 57) [(.t 60)],none⟩,
    ⟨(some 62),.un .not (.t 61),none⟩]) <|
  .cond (.t 62) (.ret) (.skip))) <|
  .reg [⟨(some 63),.bin .add (.t 40) (.c (.int .i64 1)),none⟩,
    ⟨(some 40),.mov (.t 63),none⟩]))) <|
  .seqj [0,1,2,3,6,16,17,18] [] (.seq (.reg [⟨(some 64),.fadd (.t 6) 0,none⟩,
    ⟨(some 65),.ld (.t 64) 1 false,none⟩,
    ⟨(some 66),.len (.t 65),none⟩,
    ⟨(some 67),.mov (.c (.int .i64 0)),none⟩]) <|
  .block 4 (.loop [0,1,2,3,6,7,16,17,18,65,66] [67] (.seq (.reg [⟨(some 68),.bin .lss (.t 67) (.t 66),none⟩]) <|
  .seq (.cond (.t 68) (.skip) (.exit 4)) <|
  .seq (.block 5 (.seq (.reg [⟨(some 69),.iadd (.t 65) (.t 67) 15,none⟩,
    ⟨(some 70),.ld (.t 69) 15 true,none⟩,
    ⟨(some 12),.alloc (.agg [(.int .i64 0),(.int .i64 0),(.int .i64 0),(.int .i64 0),(.int .i64 0),(.int .i32 0),(.int .i64 0),(.int .i64 0),(.int .i32 0),(.int .i64 0),(.int .i64 0),(.int .i32 0),(.int .i64 0),(.int .i64 0),(.int .i32 0)]),none⟩,
    ⟨none,.st (.t 12) (.t 70) 15,none⟩]) <|
  .seq (.seq (.dreg [⟨(some 13),.mov (.c .undef),none⟩] [] []) <|
  .seq (.dreg [⟨(some 71),.ld (.t 12) 15 true,none⟩,
    ⟨(some 74),.fadd (.t 12) 6,none⟩,
    ⟨(some 75),.ld (.t 74) 3 true,none⟩,
    ⟨(some 76),.fadd (.t 12) 9,none⟩,
    ⟨(some 77),.ld (.t 76) 3 true,none⟩,
    ⟨(some 78),.fadd (.t 12) 12,none⟩,
    ⟨(some 79),.ld (.t 78) 3 true,none⟩,
    ⟨(some 80),.bldS false 3 3 (.agg [(.int .i64 0),(.int .i64 0),(.int .i32 0)]) [(0,(.t 75)),(1,(.t 77)),(2,(.t 79))],none⟩,
    ⟨(some 82),.ld (.t 7) 2 true,none⟩,
    ⟨(some 83),.bldS false 2 1 (.agg [(.bool false),(.int .i64 0)]) [(0,(.t 82))],none⟩,
    ⟨(some 85),.ld (.t 12) 15 true,none⟩] [⟨(some 72),.call yR [(.t 71)],none⟩] [⟨(some 74),.fadd (.t 12) 6,none⟩,
    ⟨(some 75),.ld (.t 74) 3 true,none⟩,
    ⟨(some 76),.fadd (.t 12) 9,none⟩,
    ⟨(some 77),.ld (.t 76) 3 true,none⟩,
    ⟨(some 78),.fadd (.t 12) 12,none⟩,
    ⟨(some 79),.ld (.t 78) 3 true,none⟩,
    ⟨(some 82),.ld (.t 7) 2 true,none⟩,
    ⟨(some 85),.ld (.t 12) 15 true,none⟩]) <|
  .seq (.dreg [⟨(some 73),.bld [(.bool false),(.int .i64 0)] [(1,1,(.t 72))],none⟩] [⟨(some 81),.call fc [(.t 80)],none⟩] [⟨(some 82),.ld (.t 7) 2 true,none⟩,
    ⟨(some 85),.ld (.t 12) 15 true,none⟩]) <|
  .seq (.dreg [] [⟨(some 84),.app (.t 81) (.t 83) 2 16 (.agg [(.bool false),(.int .i64 0)]),none⟩] [⟨(some 85),.ld (.t 12) 15 true,none⟩]) <|
  .seq (.dreg [] [⟨(some 86),.call my [(.t 85)],none⟩] []) <|
  .seq (.dreg [⟨(some 87),.bld [(.bool false),(.int .i64 0),.nil,(.bool false)] [(0,2,(.t 73)),(2,1,(.t 84)),(3,1,(.t 86))],none⟩] [⟨(some 13),.alloc (.agg [(.bool false),(.int .i64 0),.nil,(.bool false)]),none⟩] [⟨(some 71),.ld (.t 12) 15 true,none⟩,
    ⟨(some 74),.fadd (.t 12) 6,none⟩,
    ⟨(some 75),.ld (.t 74) 3 true,none⟩,
    ⟨(some 76),.fadd (.t 12) 9,none⟩,
    ⟨(some 77),.ld (.t 76) 3 true,none⟩,
    ⟨(some 78),.fadd (.t 12) 12,none⟩,
    ⟨(some 79),.ld (.t 78) 3 true,none⟩,
    ⟨(some 82),.ld (.t 7) 2 true,none⟩,
    ⟨(some 85),.ld (.t 12) 15 true,none⟩]) <|
  .seq (.dreg [] [⟨none,.st (.t 13) (.t 87) 4,none⟩] []) <|
  .dreg [] [] []) <|
  .seq (.reg [⟨(some 88),.fadd (.t 13) 0,none⟩,
    ⟨(some 89),.fadd (.t 88) 1,none⟩,
    ⟨(some 90),.ld (.t 89) 1 false,none⟩,
    ⟨(some 91),.bin .geq (.t 90) (.c (.int .i64 0)),none⟩,
    ⟨(some 92),.mov (.t 91),none⟩,
    ⟨(some 93),.mov (.t 0),some (92,true)⟩,
    ⟨(some 94),.ld (.t 13) 4 true,some (92,true)⟩,
    ⟨(some 95),.callv (.t 93) [(.t 94)],some (92,true)⟩,
    ⟨(some 96),.un .not (.t 95),some (92,true)⟩,
    ⟨(some 97),.pick (.t 92) (.t 96) (.c (.bool false)),none⟩]) <|
  .cond (.t 97) (.ret) (.skip))) <|
  .reg [⟨(some 98),.bin .add (.t 67) (.c (.int .i64 1)),none⟩,
    ⟨(some 67),.mov (.t 98),none⟩]))) <|
  .seq (.reg [⟨(some 99),.fadd (.t 6) 1,none⟩,
    ⟨(some 100),.ld (.t 99) 13 true,none⟩,
    ⟨(some 101),.call w0 [(.t 100)],none⟩,
    ⟨(some 14),.mov (.t 101),none⟩]) <|
  .seq (.reg [⟨(some 102),.mov (.t 14),none⟩,
    ⟨(some 103),.bin .geq (.t 102) (.c (.int .i64 0)),none⟩,
    ⟨(some 104),.mov (.t 103),none⟩,
    ⟨(some 105),.mov (.t 0),some (104,true)⟩,
    ⟨(some 106),.mov (.t 14),some (104,true)⟩,
    ⟨(some 107),.bld [(.bool false),(.int .i64 0)] [(1,1,(.t 106))],some (104,true)⟩,
    ⟨(some 108),.bld [(.bool false),(.int .i64 0),.nil,(.bool false)] [(0,2,(.t 107)),(3,1,(.c (.bool true)))],some (104,true)⟩,
    ⟨(some 109),.callv (.t 105) [(.t 108)],some (104,true)⟩,
    ⟨(some 110),.un .not (.t 109),some (104,true)⟩,
    ⟨(some 111),.pick (.t 104) (.t 110) (.c (.bool false)),none⟩]) <|
  .cond (.t 111) (.ret) (.skip))) <|
  .reg [⟨(some 112),.bin .add (.t 18) (.c (.int .i64 1)),none⟩,
    ⟨(some 18),.mov (.t 112),none⟩])),
  []⟩
theorem pz:cFn PP true kz nN (cDr PP 113 pI)=some kT:=by kernel_rfl
def mA:Nat->Option (List Nat×List Nat)
  | 1000009=>some ([],[3])|3=>some ([6,7],[3,8])|1000008=>some ([6,7,8],[3])|_=>none
def o9:Nat->Option (List Nat×List Nat×List Nat)
  | _=>none
def jL:aA:=⟨23,
  .seq (.reg [⟨(some 2),.mov (.c .nil),none⟩]) <|
  .seq (.reg [⟨(some 3),.mov (.c .nil),none⟩]) <|
  .seqj [] [3] (.seq (.reg [⟨(some 6),.mov (.t 0),none⟩,
    ⟨(some 7),.len (.t 6),none⟩,
    ⟨(some 8),.mov (.c (.int .i64 0)),none⟩]) <|
  .block 0 (.loop [6,7] [3,8] (.seq (.reg [⟨(some 9),.bin .lss (.t 8) (.t 7),none⟩]) <|
  .seq (.cond (.t 9) (.skip) (.exit 0)) <|
  .seqj [6,7,8] [3] (.block 1 (.seq (.reg [⟨(some 10),.iadd (.t 6) (.t 8) 3,none⟩,
    ⟨(some 11),.ld (.t 10) 3 true,none⟩,
    ⟨(some 5),.alloc (.agg [(.int .i64 0),(.int .i64 0),(.int .i32 0)]),none⟩,
    ⟨none,.st (.t 5) (.t 11) 3,none⟩]) <|
  .seq (.reg [⟨(some 12),.fadd (.t 5) 0,none⟩,
    ⟨(some 13),.ld (.t 12) 1 false,none⟩,
    ⟨(some 14),.bin .eql (.t 13) (.c (.int .i64 2)),none⟩]) <|
  .cond (.t 14) (.reg [⟨(some 15),.mov (.t 3),none⟩,
    ⟨(some 16),.fadd (.t 5) 1,none⟩,
    ⟨(some 17),.ld (.t 16) 1 false,none⟩,
    ⟨(some 18),.bld [(.bool false),(.int .i64 0)] [(1,1,(.t 17))],none⟩,
    ⟨(some 19),.bldS true 2 1 (.agg [(.bool false),(.int .i64 0)]) [(0,(.t 18))],none⟩,
    ⟨(some 20),.app (.t 15) (.t 19) 2 16 (.agg [(.bool false),(.int .i64 0)]),none⟩,
    ⟨(some 3),.mov (.t 20),none⟩]) (.skip))) <|
  .reg [⟨(some 21),.bin .add (.t 8) (.c (.int .i64 1)),none⟩,
    ⟨(some 8),.mov (.t 21),none⟩]))) <|
  .seq (.reg [⟨(some 22),.mov (.t 3),none⟩,
    ⟨(some 2),.mov (.t 22),none⟩]) <|
  .ret,
  [.t 2]⟩
theorem nZ:cFn PP true fc mA (cDr PP 23 o9)=some jL:=by kernel_rfl
def yW:Nat->Option (List Nat×List Nat)
  | _=>none
def A0:Nat->Option (List Nat×List Nat×List Nat)
  | _=>none
def zJ:aA:=⟨6,
  .seq (.reg [⟨(some 1),.box (.t 0),none⟩,
    ⟨(some 2),.mov (.c (.int .i64 0)),none⟩]) <|
  .seq (.reg [⟨(some 3),.fadd (.t 1) 3,none⟩,
    ⟨(some 4),.ld (.t 3) 3 true,none⟩,
    ⟨(some 5),.call th [(.t 4)],none⟩,
    ⟨(some 2),.mov (.t 5),none⟩]) <|
  .ret,
  [.t 2]⟩
theorem zZ:cFn PP true yR yW (cDr PP 6 A0)=some zJ:=by kernel_rfl
def p5:Nat->Option (List Nat×List Nat)
  | 1000008=>some ([1,4],[5])|_=>none
def sV:Nat->Option (List Nat×List Nat×List Nat)
  | _=>none
def m7:aA:=⟨18,
  .seq (.reg [⟨(some 1),.box (.t 0),none⟩,
    ⟨(some 2),.mov (.c (.bool false)),none⟩]) <|
  .seq (.seq (.reg [⟨(some 3),.fadd (.t 1) 0,none⟩,
    ⟨(some 4),.ld (.t 3) 1 false,none⟩]) <|
  .block 0 (.seqj [1,4] [5] (.seq (.reg [⟨(some 6),.bin .eql (.t 4) (.c (.int .i64 1)),none⟩,
    ⟨(some 5),.mov (.t 6),none⟩]) <|
  .cond (.t 5) (.skip) (.seq (.reg [⟨(some 7),.bin .eql (.t 4) (.c (.int .i64 2)),none⟩,
    ⟨(some 5),.mov (.t 7),none⟩]) <|
  .cond (.t 5) (.skip) (.seq (.reg [⟨(some 8),.bin .eql (.t 4) (.c (.int .i64 3)),none⟩,
    ⟨(some 5),.mov (.t 8),none⟩]) <|
  .cond (.t 5) (.skip) (.seq (.reg [⟨(some 9),.bin .eql (.t 4) (.c (.int .i64 4)),none⟩,
    ⟨(some 5),.mov (.t 9),none⟩]) <|
  .cond (.t 5) (.skip) (.reg [⟨(some 10),.bin .eql (.t 4) (.c (.int .i64 6)),none⟩,
    ⟨(some 5),.mov (.t 10),none⟩]))))) <|
  .cond (.t 5) (.seq (.reg [⟨(some 2),.mov (.c (.bool false)),none⟩]) <|
  .ret) (.seq (.reg [⟨(some 12),.bin .eql (.t 4) (.c (.int .i64 5)),none⟩,
    ⟨(some 11),.mov (.t 12),none⟩]) <|
  .cond (.t 11) (.seq (.reg [⟨(some 13),.bldS true 1 3 (.int .i64 0) [(0,(.c (.int .i64 3))),(1,(.c (.int .i64 4))),(2,(.c (.int .i64 5)))],none⟩,
    ⟨(some 14),.fadd (.t 1) 1,none⟩,
    ⟨(some 15),.ld (.t 14) 1 false,none⟩,
    ⟨(some 16),.call aP [(.t 13),(.t 15)],none⟩,
    ⟨(some 17),.un .not (.t 16),none⟩,
    ⟨(some 2),.mov (.t 17),none⟩]) <|
  .ret) (.skip)))) <|
  .seq (.reg [⟨(some 2),.mov (.c (.bool true)),none⟩]) <|
  .ret,
  [.t 2]⟩
theorem rR:cFn PP true my p5 (cDr PP 18 sV)=some m7:=by kernel_rfl
def xI:Nat->Option (List Nat×List Nat)
  | _=>none
def zQ:Nat->Option (List Nat×List Nat×List Nat)
  | _=>none
def xn:aA:=⟨6,
  .seq (.reg [⟨(some 1),.box (.t 0),none⟩,
    ⟨(some 2),.mov (.c (.int .i64 0)),none⟩]) <|
  .seq (.reg [⟨(some 3),.fadd (.t 1) 2,none⟩,
    ⟨(some 4),.ld (.t 3) 3 true,none⟩,
    ⟨(some 5),.call th [(.t 4)],none⟩,
    ⟨(some 2),.mov (.t 5),none⟩]) <|
  .ret,
  [.t 2]⟩
theorem zI:cFn PP true w0 xI (cDr PP 6 zQ)=some xn:=by kernel_rfl
def vS:Nat->Option (List Nat×List Nat)
  | _=>none
def yq:Nat->Option (List Nat×List Nat×List Nat)
  | _=>none
def vj:aA:=⟨17,
  .seq (.reg [⟨(some 2),.box (.t 0),none⟩,
    ⟨(some 3),.box (.t 1),none⟩,
    ⟨(some 4),.mov (.c .nilp),none⟩]) <|
  .seq (.seq (.reg [⟨(some 5),.fadd (.t 3) 0,none⟩,
    ⟨(some 6),.ld (.t 5) 1 false,none⟩]) <|
  .cond (.t 6) (.seq (.reg [⟨(some 7),.fadd (.t 2) 0,none⟩,
    ⟨(some 8),.ld (.t 7) 1 false,none⟩,
    ⟨(some 9),.fadd (.t 3) 1,none⟩,
    ⟨(some 10),.ld (.t 9) 1 false,none⟩,
    ⟨(some 11),.iadd (.t 8) (.t 10) 1,none⟩,
    ⟨(some 4),.mov (.t 11),none⟩]) <|
  .ret) (.skip)) <|
  .seq (.reg [⟨(some 12),.fadd (.t 2) 1,none⟩,
    ⟨(some 13),.ld (.t 12) 1 false,none⟩,
    ⟨(some 14),.fadd (.t 3) 1,none⟩,
    ⟨(some 15),.ld (.t 14) 1 false,none⟩,
    ⟨(some 16),.iadd (.t 13) (.t 15) 1,none⟩,
    ⟨(some 4),.mov (.t 16),none⟩]) <|
  .ret,
  [.t 4]⟩
theorem xT:cFn PP true nH vS (cDr PP 17 yq)=some vj:=by kernel_rfl
def ck:Nat->Option (List Nat×List Nat)
  | _=>none
def cy:Nat->Option (List Nat×List Nat×List Nat)
  | _=>none
def br:aA:=⟨9,
  .seq (.reg [⟨(some 4),.mov (.c (.bool false)),none⟩]) <|
  .seq (.reg [⟨(some 5),.mov (.t 0),none⟩,
    ⟨(some 6),.mov (.t 1),none⟩,
    ⟨(some 7),.call bB [(.t 5),(.t 6)],none⟩,
    ⟨(some 8),.bin .geq (.t 7) (.c (.int .i64 0)),none⟩,
    ⟨(some 4),.mov (.t 8),none⟩]) <|
  .ret,
  [.t 4]⟩
theorem cx:cFn PP true bq ck (cDr PP 9 cy)=some br:=by kernel_rfl
def pc:Nat->Option (List Nat×List Nat)
  | _=>none
def rC:Nat->Option (List Nat×List Nat×List Nat)
  | _=>none
def lN:aA:=⟨10,
  .seq (.reg [⟨(some 2),.box (.t 0),none⟩,
    ⟨(some 3),.mov (.c (.bool false)),none⟩]) <|
  .seq (.reg [⟨(some 4),.ld (.t 1) 2 true,none⟩,
    ⟨(some 5),.ld (.t 2) 2 true,none⟩,
    ⟨(some 6),.call nH [(.t 4),(.t 5)],none⟩,
    ⟨(some 7),.fadd (.t 6) 0,none⟩,
    ⟨(some 8),.ld (.t 7) 1 false,none⟩,
    ⟨(some 9),.un .not (.t 8),none⟩,
    ⟨(some 3),.mov (.t 9),none⟩]) <|
  .ret,
  [.t 3]⟩
theorem qE:cFn PP true lh pc (cDr PP 10 rC)=some lN:=by kernel_rfl
def eR:Nat->Option (List Nat×List Nat)
  | 1=>some ([0,1,2],[6])|1000003=>some ([0,1,2,6],[])|4=>some ([0,1,2,6],[7])|_=>none
def fx:Nat->Option (List Nat×List Nat×List Nat)
  | 4=>some ([0,0,3,7,15,15,63,127,15,15,527,1807,3855,8191,16383],[],[])|6=>some ([0,0,0,0,8,0,0,64,224,480,0,0,3072,7168,16355,32739,65535,131071],[15,17],[16])|_=>none
def cG:aA:=⟨49,
  .seq (.reg [⟨(some 8),.mov (.t 1),none⟩,
    ⟨(some 9),.bin .add (.t 8) (.c (.int .i64 1)),none⟩,
    ⟨(some 6),.mov (.t 9),none⟩]) <|
  .block 0 (.loop [0,1,2] [6] (.seq (.seq (.reg [⟨(some 10),.mov (.t 6),none⟩,
    ⟨(some 11),.mov (.t 2),none⟩,
    ⟨(some 12),.bin .lss (.t 10) (.t 11),none⟩]) <|
  .cond (.t 12) (.skip) (.exit 0)) <|
  .seqj [0,1,2,6] [] (.block 1 (.seq (.reg [⟨(some 15),.mov (.t 6),none⟩,
    ⟨(some 7),.mov (.t 15),none⟩]) <|
  .block 2 (.loop [0,1,2,6] [7] (.seq (.seq (.dreg [⟨(some 16),.mov (.t 7),none⟩,
    ⟨(some 17),.mov (.t 1),none⟩,
    ⟨(some 18),.bin .gtr (.t 16) (.t 17),none⟩,
    ⟨(some 19),.mov (.t 18),none⟩,
    ⟨(some 20),.mov (.t 0),some (19,true)⟩,
    ⟨(some 21),.mov (.t 7),some (19,true)⟩,
    ⟨(some 22),.iadd (.t 20) (.t 21) 1,some (19,true)⟩,
    ⟨(some 23),.ld (.t 22) 1 false,some (19,true)⟩,
    ⟨(some 24),.mov (.t 0),some (19,true)⟩,
    ⟨(some 25),.mov (.t 7),some (19,true)⟩,
    ⟨(some 26),.bin .sub (.t 25) (.c (.int .i64 1)),some (19,true)⟩,
    ⟨(some 27),.iadd (.t 24) (.t 26) 1,some (19,true)⟩,
    ⟨(some 28),.ld (.t 27) 1 false,some (19,true)⟩,
    ⟨(some 29),.call dt [(.t 23),(.t 28)],some (19,true)⟩,
    ⟨(some 30),.pick (.t 19) (.t 29) (.c (.bool false)),none⟩] [] []) <|
  .cond (.t 30) (.skip) (.exit 2)) <|
  .seq (.block 3 (.dreg [⟨(some 33),.mov (.t 0),none⟩,
    ⟨(some 34),.mov (.t 7),none⟩,
    ⟨(some 35),.mov (.t 0),none⟩,
    ⟨(some 36),.mov (.t 7),none⟩,
    ⟨(some 37),.bin .sub (.t 36) (.c (.int .i64 1)),none⟩,
    ⟨(some 38),.mov (.t 0),none⟩,
    ⟨(some 39),.mov (.t 7),none⟩,
    ⟨(some 40),.bin .sub (.t 39) (.c (.int .i64 1)),none⟩,
    ⟨(some 41),.iadd (.t 38) (.t 40) 1,none⟩,
    ⟨(some 42),.ld (.t 41) 1 false,none⟩,
    ⟨(some 43),.mov (.t 0),none⟩,
    ⟨(some 44),.mov (.t 7),none⟩,
    ⟨(some 45),.iadd (.t 43) (.t 44) 1,none⟩,
    ⟨(some 46),.ld (.t 45) 1 false,none⟩,
    ⟨(some 47),.iadd (.t 33) (.t 34) 1,none⟩,
    ⟨(some 48),.iadd (.t 35) (.t 37) 1,none⟩] [⟨none,.st (.t 47) (.t 42) 1,none⟩,
    ⟨none,.st (.t 48) (.t 46) 1,none⟩] [⟨(some 48),.iadd (.t 35) (.t 37) 1,none⟩])) <|
  .reg [⟨(some 31),.mov (.t 7),none⟩,
    ⟨(some 32),.bin .sub (.t 31) (.c (.int .i64 1)),none⟩,
    ⟨(some 7),.mov (.t 32),none⟩])))) <|
  .reg [⟨(some 13),.mov (.t 6),none⟩,
    ⟨(some 14),.bin .add (.t 13) (.c (.int .i64 1)),none⟩,
    ⟨(some 6),.mov (.t 14),none⟩])),
  []⟩
theorem fp:cFn PP true cC eR (cDr PP 49 fx)=some cG:=by kernel_rfl
def pe:Nat->Option (List Nat×List Nat)
  | 1000005=>some ([],[0,2])|1000008=>some ([],[0,2])|1000011=>some ([],[0,2])|_=>none
def rE:Nat->Option (List Nat×List Nat×List Nat)
  | _=>none
def lR:aA:=⟨25,
  .seq (.reg [⟨(some 2),.mov (.c (.int .i64 0)),none⟩]) <|
  .seqj [] [0,2] (.seq (.reg [⟨(some 3),.mov (.t 0),none⟩,
    ⟨(some 4),.bin .geq (.t 3) (.c (.int .u64 4294967296)),none⟩]) <|
  .cond (.t 4) (.seq (.reg [⟨(some 5),.mov (.t 0),none⟩,
    ⟨(some 6),.bin .shr (.t 5) (.c (.int .u64 32)),none⟩,
    ⟨(some 0),.mov (.t 6),none⟩]) <|
  .reg [⟨(some 2),.mov (.c (.int .i64 32)),none⟩]) (.skip)) <|
  .seqj [] [0,2] (.seq (.reg [⟨(some 7),.mov (.t 0),none⟩,
    ⟨(some 8),.bin .geq (.t 7) (.c (.int .u64 65536)),none⟩]) <|
  .cond (.t 8) (.seq (.reg [⟨(some 9),.mov (.t 0),none⟩,
    ⟨(some 10),.bin .shr (.t 9) (.c (.int .u64 16)),none⟩,
    ⟨(some 0),.mov (.t 10),none⟩]) <|
  .reg [⟨(some 11),.mov (.t 2),none⟩,
    ⟨(some 12),.bin .add (.t 11) (.c (.int .i64 16)),none⟩,
    ⟨(some 2),.mov (.t 12),none⟩]) (.skip)) <|
  .seqj [] [0,2] (.seq (.reg [⟨(some 13),.mov (.t 0),none⟩,
    ⟨(some 14),.bin .geq (.t 13) (.c (.int .u64 256)),none⟩]) <|
  .cond (.t 14) (.seq (.reg [⟨(some 15),.mov (.t 0),none⟩,
    ⟨(some 16),.bin .shr (.t 15) (.c (.int .u64 8)),none⟩,
    ⟨(some 0),.mov (.t 16),none⟩]) <|
  .reg [⟨(some 17),.mov (.t 2),none⟩,
    ⟨(some 18),.bin .add (.t 17) (.c (.int .i64 8)),none⟩,
    ⟨(some 2),.mov (.t 18),none⟩]) (.skip)) <|
  .seq (.reg [⟨(some 19),.mov (.t 2),none⟩,
    ⟨(some 20),.mov (.t 0),none⟩,
    ⟨(some 21),.conv .u8 (.t 20),none⟩,
    ⟨(some 22),.sidx (.c (.str ⟨#[0,1,2,2,3,3,3,3,4,4,4,4,4,4,4,4,5,5,5,5,5,5,5,5,5,5,5,5,5,5,5,5,6,6,6,6,6,6,6,6,6,6,6,6,6,6,6,6,6,6,6,6,6,6,6,6,6,6,6,6,6,6,6,6,7,7,7,7,7,7,7,7,7,7,7,7,7,7,7,7,7,7,7,7,7,7,7,7,7,7,7,7,7,7,7,7,7,7,7,7,7,7,7,7,7,7,7,7,7,7,7,7,7,7,7,7,7,7,7,7,7,7,7,7,7,7,7,7,8,8,8,8,8,8,8,8,8,8,8,8,8,8,8,8,8,8,8,8,8,8,8,8,8,8,8,8,8,8,8,8,8,8,8,8,8,8,8,8,8,8,8,8,8,8,8,8,8,8,8,8,8,8,8,8,8,8,8,8,8,8,8,8,8,8,8,8,8,8,8,8,8,8,8,8,8,8,8,8,8,8,8,8,8,8,8,8,8,8,8,8,8,8,8,8,8,8,8,8,8,8,8,8,8,8,8,8,8,8,8,8,8,8,8,8,8,8,8,8,8,8,8,8,8,8,8,8]⟩)) (.t 21) 0 0 false,none⟩,
    ⟨(some 23),.conv .i64 (.t 22),none⟩,
    ⟨(some 24),.bin .add (.t 19) (.t 23),none⟩,
    ⟨(some 2),.mov (.t 24),none⟩]) <|
  .ret,
  [.t 2]⟩
theorem qM:cFn PP true ll pe (cDr PP 25 rE)=some lR:=by kernel_rfl
def uz:Nat->Option (List Nat×List Nat)
  | 1000009=>some ([2,4,6],[])|4=>some ([2,3,4,6,7],[8])|1000006=>some ([2,3,4,6,7,8],[])|_=>none
def xp:Nat->Option (List Nat×List Nat×List Nat)
  | 6=>some ([0,1,0,0,12,28,63,127,255],[],[999999])|7=>some ([0,0,0,0,12,28,63,127],[6,7],[999999])|_=>none
def sJ:aA:=⟨49,
  .seq (.reg [⟨(some 3),.box (.t 0),none⟩,
    ⟨(some 4),.box (.t 1),none⟩,
    ⟨(some 6),.alloc (.agg [.nil,.nil]),none⟩]) <|
  .seq (.reg [⟨(some 9),.fadd (.t 4) 0,none⟩,
    ⟨(some 10),.ld (.t 9) 1 false,none⟩,
    ⟨(some 11),.mov (.t 2),none⟩,
    ⟨(some 12),.iadd (.t 10) (.t 11) 1,none⟩,
    ⟨none,.st (.t 12) (.c (.bool true)) 1,none⟩]) <|
  .seq (.reg [⟨(some 13),.fadd (.t 3) 7,none⟩,
    ⟨(some 14),.ld (.t 13) 1 false,none⟩,
    ⟨(some 15),.mov (.t 2),none⟩,
    ⟨(some 16),.iadd (.t 14) (.t 15) 14,none⟩,
    ⟨(some 17),.fadd (.t 16) 1,none⟩,
    ⟨(some 18),.ld (.t 17) 13 true,none⟩,
    ⟨(some 19),.call jV [(.t 18)],none⟩,
    ⟨(some 7),.mov (.t 19),none⟩]) <|
  .seqj [2,4,6] [] (.seq (.reg [⟨(some 8),.mov (.c (.int .i64 0)),none⟩]) <|
  .block 0 (.loop [2,3,4,6,7] [8] (.seq (.seq (.reg [⟨(some 20),.mov (.t 8),none⟩,
    ⟨(some 21),.mov (.t 7),none⟩,
    ⟨(some 22),.len (.t 21),none⟩,
    ⟨(some 23),.bin .lss (.t 20) (.t 22),none⟩]) <|
  .cond (.t 23) (.skip) (.exit 0)) <|
  .seqj [2,3,4,6,7,8] [] (.block 1 (.seq (.dreg [⟨(some 26),.fadd (.t 4) 0,none⟩,
    ⟨(some 27),.ld (.t 26) 1 false,none⟩,
    ⟨(some 28),.mov (.t 7),none⟩,
    ⟨(some 29),.mov (.t 8),none⟩,
    ⟨(some 30),.iadd (.t 28) (.t 29) 1,none⟩,
    ⟨(some 31),.ld (.t 30) 1 false,none⟩,
    ⟨(some 32),.iadd (.t 27) (.t 31) 1,none⟩,
    ⟨(some 33),.ld (.t 32) 1 false,none⟩,
    ⟨(some 34),.un .not (.t 33),none⟩] [] []) <|
  .cond (.t 34) (.seq (.dreg [⟨(some 35),.ld (.t 3) 8 true,none⟩,
    ⟨(some 36),.ld (.t 4) 2 true,none⟩,
    ⟨(some 37),.mov (.t 7),none⟩,
    ⟨(some 38),.mov (.t 8),none⟩,
    ⟨(some 39),.iadd (.t 37) (.t 38) 1,none⟩,
    ⟨(some 40),.ld (.t 39) 1 false,none⟩] [⟨(some 41),.call lY [(.t 35),(.t 36),(.t 40)],none⟩] []) <|
  .seq (.dreg [] [⟨none,.st (.t 4) (.t 41) 2,none⟩] []) <|
  .dreg [] [] []) (.skip))) <|
  .reg [⟨(some 24),.mov (.t 8),none⟩,
    ⟨(some 25),.bin .add (.t 24) (.c (.int .i64 1)),none⟩,
    ⟨(some 8),.mov (.t 25),none⟩]))) <|
  .seq (.reg [⟨(some 42),.mov (.t 2),none⟩,
    ⟨(some 43),.bldS true 1 1 (.int .i64 0) [(0,(.t 42))],none⟩,
    ⟨(some 44),.fadd (.t 4) 1,none⟩,
    ⟨(some 45),.ld (.t 44) 1 false,none⟩,
    ⟨(some 46),.app (.t 43) (.t 45) 1 8 (.int .i64 0),none⟩,
    ⟨(some 47),.fadd (.t 4) 1,none⟩,
    ⟨none,.st (.t 47) (.t 46) 1,none⟩]) <|
  .seq (.reg [⟨(some 48),.ld (.t 4) 2 true,none⟩,
    ⟨none,.st (.t 6) (.t 48) 2,none⟩]) <|
  .ret,
  [.cell 6 2 true]⟩
theorem wC:cFn PP true lY uz (cDr PP 49 xp)=some sJ:=by kernel_rfl
def yU:Nat->Option (List Nat×List Nat)
  | 1000011=>some ([3,4,5],[])|5=>some ([1,3,4,5,25,26],[27])|1000010=>some ([1,3,4,5,25,26,27],[])|10=>some ([3,4,5],[])|1000019=>some ([3,4,5,8],[9])|13=>some ([3,4,5,8,56,57],[9,58])|1000018=>some ([3,4,5,8,56,57,58],[9])|_=>none
def AY:Nat->Option (List Nat×List Nat×List Nat)
  | _=>none
def zF:aA:=⟨85,
  .seq (.reg [⟨(some 1),.box (.t 0),none⟩,
    ⟨(some 2),.mov (.c .nilp),none⟩]) <|
  .seq (.reg [⟨(some 12),.ld (.t 1) 8 true,none⟩,
    ⟨(some 13),.call wY [(.t 12)],none⟩,
    ⟨(some 14),.call kA [(.t 13),(.c (.int .i64 0))],none⟩,
    ⟨(some 3),.mov (.t 14),none⟩]) <|
  .seq (.reg [⟨(some 15),.fadd (.t 1) 7,none⟩,
    ⟨(some 16),.ld (.t 15) 1 false,none⟩,
    ⟨(some 17),.len (.t 16),none⟩,
    ⟨(some 4),.mov (.t 17),none⟩]) <|
  .seq (.reg [⟨(some 18),.mov (.t 3),none⟩,
    ⟨(some 19),.call fL [(.t 18)],none⟩,
    ⟨(some 20),.bldS true 1 1 .nil [(0,(.c .nil))],none⟩,
    ⟨(some 21),.app (.t 19) (.t 20) 1 24 .nil,none⟩,
    ⟨(some 5),.mov (.t 21),none⟩]) <|
  .seqj [3,4,5] [] (.seq (.reg [⟨(some 22),.mov (.t 3),none⟩,
    ⟨(some 23),.fadd (.t 22) 0,none⟩,
    ⟨(some 24),.fadd (.t 23) 1,none⟩,
    ⟨(some 25),.ld (.t 24) 1 false,none⟩,
    ⟨(some 26),.len (.t 25),none⟩,
    ⟨(some 27),.mov (.c (.int .i64 0)),none⟩]) <|
  .block 0 (.loop [1,3,4,5,25,26] [27] (.seq (.reg [⟨(some 28),.bin .lss (.t 27) (.t 26),none⟩]) <|
  .seq (.cond (.t 28) (.skip) (.exit 0)) <|
  .seqj [1,3,4,5,25,26,27] [] (.block 1 (.seq (.reg [⟨(some 29),.iadd (.t 25) (.t 27) 1,none⟩,
    ⟨(some 30),.ld (.t 29) 1 false,none⟩,
    ⟨(some 7),.mov (.t 30),none⟩]) <|
  .seq (.reg [⟨(some 31),.fadd (.t 1) 7,none⟩,
    ⟨(some 32),.ld (.t 31) 1 false,none⟩,
    ⟨(some 33),.mov (.t 7),none⟩,
    ⟨(some 34),.iadd (.t 32) (.t 33) 14,none⟩,
    ⟨(some 35),.fadd (.t 34) 1,none⟩,
    ⟨(some 36),.fadd (.t 35) 0,none⟩,
    ⟨(some 37),.ld (.t 36) 1 false,none⟩,
    ⟨(some 38),.bin .eql (.t 37) (.c (.int .i64 5)),none⟩]) <|
  .cond (.t 38) (.reg [⟨(some 39),.mov (.t 5),none⟩,
    ⟨(some 40),.mov (.t 4),none⟩,
    ⟨(some 41),.mov (.t 5),none⟩,
    ⟨(some 42),.mov (.t 4),none⟩,
    ⟨(some 43),.iadd (.t 41) (.t 42) 1,none⟩,
    ⟨(some 44),.ld (.t 43) 1 false,none⟩,
    ⟨(some 45),.mov (.t 7),none⟩,
    ⟨(some 46),.bldS true 1 1 (.int .i64 0) [(0,(.t 45))],none⟩,
    ⟨(some 47),.app (.t 44) (.t 46) 1 8 (.int .i64 0),none⟩,
    ⟨(some 48),.iadd (.t 39) (.t 40) 1,none⟩,
    ⟨none,.st (.t 48) (.t 47) 1,none⟩]) (.skip))) <|
  .reg [⟨(some 49),.bin .add (.t 27) (.c (.int .i64 1)),none⟩,
    ⟨(some 27),.mov (.t 49),none⟩]))) <|
  .block 2 (.loop [3,4,5] [] (.block 3 (.seq (.reg [⟨(some 50),.mov (.t 5),none⟩,
    ⟨(some 51),.mov (.t 4),none⟩,
    ⟨(some 52),.call kA [(.t 50),(.t 51)],none⟩,
    ⟨(some 8),.mov (.t 52),none⟩]) <|
  .seq (.reg [⟨(some 9),.mov (.c (.int .i64 (-1))),none⟩]) <|
  .seqj [3,4,5,8] [9] (.seq (.reg [⟨(some 53),.mov (.t 3),none⟩,
    ⟨(some 54),.fadd (.t 53) 0,none⟩,
    ⟨(some 55),.fadd (.t 54) 1,none⟩,
    ⟨(some 56),.ld (.t 55) 1 false,none⟩,
    ⟨(some 57),.len (.t 56),none⟩,
    ⟨(some 58),.mov (.c (.int .i64 0)),none⟩]) <|
  .block 4 (.loop [3,4,5,8,56,57] [9,58] (.seq (.reg [⟨(some 59),.bin .lss (.t 58) (.t 57),none⟩]) <|
  .seq (.cond (.t 59) (.skip) (.exit 4)) <|
  .seqj [3,4,5,8,56,57,58] [9] (.block 5 (.seq (.reg [⟨(some 60),.iadd (.t 56) (.t 58) 1,none⟩,
    ⟨(some 61),.ld (.t 60) 1 false,none⟩,
    ⟨(some 11),.mov (.t 61),none⟩]) <|
  .seq (.reg [⟨(some 62),.mov (.t 8),none⟩,
    ⟨(some 63),.fadd (.t 62) 0,none⟩,
    ⟨(some 64),.fadd (.t 63) 2,none⟩,
    ⟨(some 65),.ld (.t 64) 1 false,none⟩,
    ⟨(some 66),.mov (.t 11),none⟩,
    ⟨(some 67),.iadd (.t 65) (.t 66) 1,none⟩,
    ⟨(some 68),.ld (.t 67) 1 false,none⟩,
    ⟨(some 69),.bin .lss (.t 68) (.c (.int .i64 0)),none⟩]) <|
  .cond (.t 69) (.reg [⟨(some 70),.mov (.t 11),none⟩,
    ⟨(some 9),.mov (.t 70),none⟩]) (.skip))) <|
  .reg [⟨(some 71),.bin .add (.t 58) (.c (.int .i64 1)),none⟩,
    ⟨(some 58),.mov (.t 71),none⟩]))) <|
  .seq (.seq (.reg [⟨(some 72),.mov (.t 9),none⟩,
    ⟨(some 73),.bin .lss (.t 72) (.c (.int .i64 0)),none⟩]) <|
  .cond (.t 73) (.seq (.reg [⟨(some 74),.mov (.t 8),none⟩,
    ⟨(some 2),.mov (.t 74),none⟩]) <|
  .ret) (.skip)) <|
  .reg [⟨(some 75),.mov (.t 5),none⟩,
    ⟨(some 76),.mov (.t 4),none⟩,
    ⟨(some 77),.mov (.t 5),none⟩,
    ⟨(some 78),.mov (.t 4),none⟩,
    ⟨(some 79),.iadd (.t 77) (.t 78) 1,none⟩,
    ⟨(some 80),.ld (.t 79) 1 false,none⟩,
    ⟨(some 81),.mov (.t 9),none⟩,
    ⟨(some 82),.bldS true 1 1 (.int .i64 0) [(0,(.t 81))],none⟩,
    ⟨(some 83),.app (.t 80) (.t 82) 1 8 (.int .i64 0),none⟩,
    ⟨(some 84),.iadd (.t 75) (.t 76) 1,none⟩,
    ⟨none,.st (.t 84) (.t 83) 1,none⟩]))),
  [.t 2]⟩
theorem zX:cFn PP true yQ yU (cDr PP 85 AY)=some zF:=by kernel_rfl
def rP:Nat->Option (List Nat×List Nat)
  | 9000002=>some ([0],[3,4])|1000020=>some ([3],[])|5=>some ([0,3,4,37,38],[39])|1000017=>some ([0,3,4,6,37,38,39],[7])|9=>some ([0,3,4,6,37,38,39,46,47],[7,48])|1000016=>some ([0,3,4,6,37,38,39,46,47,48],[7])|_=>none
def uc:Nat->Option (List Nat×List Nat×List Nat)
  | 3=>some ([0,0,2,6,14,30,62,0,128,384,896,1920,3968,8191,16383],[14],[])|_=>none
def o8:aA:=⟨80,
  .seq (.reg [⟨(some 2),.mov (.c .nil),none⟩]) <|
  .scope 0 [0] [3,4] (.seq (.reg [⟨(some 10),.bldS true 1 1 (.int .i64 0) [(0,(.c (.int .i64 (-1))))],none⟩,
    ⟨(some 11),.mov (.t 0),none⟩,
    ⟨(some 12),.fadd (.t 11) 0,none⟩,
    ⟨(some 13),.fadd (.t 12) 0,none⟩,
    ⟨(some 14),.ld (.t 13) 1 false,none⟩,
    ⟨(some 15),.len (.t 14),none⟩,
    ⟨(some 16),.call cX [(.t 10),(.t 15)],none⟩,
    ⟨(some 3),.mov (.t 16),none⟩]) <|
  .seq (.reg [⟨(some 17),.mov (.t 0),none⟩,
    ⟨(some 18),.call fL [(.t 17)],none⟩,
    ⟨(some 4),.mov (.t 18),none⟩]) <|
  .seq (.dreg [⟨(some 19),.mov (.t 3),none⟩,
    ⟨(some 20),.mov (.t 0),none⟩,
    ⟨(some 21),.fadd (.t 20) 0,none⟩,
    ⟨(some 22),.fadd (.t 21) 1,none⟩,
    ⟨(some 23),.ld (.t 22) 1 false,none⟩,
    ⟨(some 24),.iadd (.t 23) (.c (.int .i64 0)) 1,none⟩,
    ⟨(some 25),.ld (.t 24) 1 false,none⟩,
    ⟨(some 26),.mov (.t 0),none⟩,
    ⟨(some 27),.fadd (.t 26) 0,none⟩,
    ⟨(some 28),.fadd (.t 27) 1,none⟩,
    ⟨(some 29),.ld (.t 28) 1 false,none⟩,
    ⟨(some 30),.iadd (.t 29) (.c (.int .i64 0)) 1,none⟩,
    ⟨(some 31),.ld (.t 30) 1 false,none⟩,
    ⟨(some 32),.iadd (.t 19) (.t 25) 1,none⟩] [⟨none,.st (.t 32) (.t 31) 1,none⟩] []) <|
  .seq (.label 0) <|
  .seqj [3] [] (.seq (.reg [⟨(some 33),.mov (.t 0),none⟩,
    ⟨(some 34),.fadd (.t 33) 0,none⟩,
    ⟨(some 35),.fadd (.t 34) 1,none⟩,
    ⟨(some 36),.ld (.t 35) 1 false,none⟩,
    ⟨(some 37),.kY (.t 36) (some (.c (.int .i64 1))) none none 1,none⟩,
    ⟨(some 38),.len (.t 37),none⟩,
    ⟨(some 39),.mov (.c (.int .i64 0)),none⟩]) <|
  .block 0 (.loop [0,3,4,37,38] [39] (.seq (.reg [⟨(some 40),.bin .lss (.t 39) (.t 38),none⟩]) <|
  .seq (.cond (.t 40) (.skip) (.exit 0)) <|
  .seq (.block 1 (.seq (.reg [⟨(some 41),.iadd (.t 37) (.t 39) 1,none⟩,
    ⟨(some 42),.ld (.t 41) 1 false,none⟩,
    ⟨(some 6),.mov (.t 42),none⟩]) <|
  .seq (.reg [⟨(some 7),.mov (.c (.int .i64 (-1))),none⟩]) <|
  .seqj [0,3,4,6,37,38,39] [7] (.seq (.reg [⟨(some 43),.mov (.t 4),none⟩,
    ⟨(some 44),.mov (.t 6),none⟩,
    ⟨(some 45),.iadd (.t 43) (.t 44) 1,none⟩,
    ⟨(some 46),.ld (.t 45) 1 false,none⟩,
    ⟨(some 47),.len (.t 46),none⟩,
    ⟨(some 48),.mov (.c (.int .i64 0)),none⟩]) <|
  .block 2 (.loop [0,3,4,6,37,38,39,46,47] [7,48] (.seq (.reg [⟨(some 49),.bin .lss (.t 48) (.t 47),none⟩]) <|
  .seq (.cond (.t 49) (.skip) (.exit 2)) <|
  .seqj [0,3,4,6,37,38,39,46,47,48] [7] (.block 3 (.seq (.reg [⟨(some 50),.iadd (.t 46) (.t 48) 1,none⟩,
    ⟨(some 51),.ld (.t 50) 1 false,none⟩,
    ⟨(some 9),.mov (.t 51),none⟩]) <|
  .block 4 (.seq (.reg [⟨(some 58),.mov (.t 3),none⟩,
    ⟨(some 59),.mov (.t 9),none⟩,
    ⟨(some 60),.iadd (.t 58) (.t 59) 1,none⟩,
    ⟨(some 61),.ld (.t 60) 1 false,none⟩,
    ⟨(some 62),.bin .lss (.t 61) (.c (.int .i64 0)),none⟩,
    ⟨(some 57),.mov (.t 62),none⟩]) <|
  .cond (.t 57) (.skip) (.seq (.reg [⟨(some 64),.mov (.t 7),none⟩,
    ⟨(some 65),.bin .lss (.t 64) (.c (.int .i64 0)),none⟩,
    ⟨(some 63),.mov (.t 65),none⟩]) <|
  .cond (.t 63) (.reg [⟨(some 66),.mov (.t 9),none⟩,
    ⟨(some 7),.mov (.t 66),none⟩]) (.reg [⟨(some 52),.mov (.t 0),none⟩,
    ⟨(some 53),.mov (.t 3),none⟩,
    ⟨(some 54),.mov (.t 7),none⟩,
    ⟨(some 55),.mov (.t 9),none⟩,
    ⟨(some 56),.call iE [(.t 52),(.t 53),(.t 54),(.t 55)],none⟩,
    ⟨(some 7),.mov (.t 56),none⟩]))))) <|
  .reg [⟨(some 67),.bin .add (.t 48) (.c (.int .i64 1)),none⟩,
    ⟨(some 48),.mov (.t 67),none⟩]))) <|
  .seq (.reg [⟨(some 68),.mov (.t 7),none⟩,
    ⟨(some 69),.mov (.t 3),none⟩,
    ⟨(some 70),.mov (.t 6),none⟩,
    ⟨(some 71),.iadd (.t 69) (.t 70) 1,none⟩,
    ⟨(some 72),.ld (.t 71) 1 false,none⟩,
    ⟨(some 73),.bin .neq (.t 68) (.t 72),none⟩]) <|
  .cond (.t 73) (.seq (.reg [⟨(some 74),.mov (.t 3),none⟩,
    ⟨(some 75),.mov (.t 6),none⟩,
    ⟨(some 76),.mov (.t 7),none⟩,
    ⟨(some 77),.iadd (.t 74) (.t 75) 1,none⟩,
    ⟨none,.st (.t 77) (.t 76) 1,none⟩]) <|
  .goto 0) (.skip))) <|
  .reg [⟨(some 78),.bin .add (.t 39) (.c (.int .i64 1)),none⟩,
    ⟨(some 39),.mov (.t 78),none⟩]))) <|
  .seq (.reg [⟨(some 79),.mov (.t 3),none⟩,
    ⟨(some 2),.mov (.t 79),none⟩]) <|
  .ret) (.seq (.skip) <|
  .seqj [3] [] (.seq (.reg [⟨(some 33),.mov (.t 0),none⟩,
    ⟨(some 34),.fadd (.t 33) 0,none⟩,
    ⟨(some 35),.fadd (.t 34) 1,none⟩,
    ⟨(some 36),.ld (.t 35) 1 false,none⟩,
    ⟨(some 37),.kY (.t 36) (some (.c (.int .i64 1))) none none 1,none⟩,
    ⟨(some 38),.len (.t 37),none⟩,
    ⟨(some 39),.mov (.c (.int .i64 0)),none⟩]) <|
  .block 0 (.loop [0,3,4,37,38] [39] (.seq (.reg [⟨(some 40),.bin .lss (.t 39) (.t 38),none⟩]) <|
  .seq (.cond (.t 40) (.skip) (.exit 0)) <|
  .seq (.block 1 (.seq (.reg [⟨(some 41),.iadd (.t 37) (.t 39) 1,none⟩,
    ⟨(some 42),.ld (.t 41) 1 false,none⟩,
    ⟨(some 6),.mov (.t 42),none⟩]) <|
  .seq (.reg [⟨(some 7),.mov (.c (.int .i64 (-1))),none⟩]) <|
  .seqj [0,3,4,6,37,38,39] [7] (.seq (.reg [⟨(some 43),.mov (.t 4),none⟩,
    ⟨(some 44),.mov (.t 6),none⟩,
    ⟨(some 45),.iadd (.t 43) (.t 44) 1,none⟩,
    ⟨(some 46),.ld (.t 45) 1 false,none⟩,
    ⟨(some 47),.len (.t 46),none⟩,
    ⟨(some 48),.mov (.c (.int .i64 0)),none⟩]) <|
  .block 2 (.loop [0,3,4,6,37,38,39,46,47] [7,48] (.seq (.reg [⟨(some 49),.bin .lss (.t 48) (.t 47),none⟩]) <|
  .seq (.cond (.t 49) (.skip) (.exit 2)) <|
  .seqj [0,3,4,6,37,38,39,46,47,48] [7] (.block 3 (.seq (.reg [⟨(some 50),.iadd (.t 46) (.t 48) 1,none⟩,
    ⟨(some 51),.ld (.t 50) 1 false,none⟩,
    ⟨(some 9),.mov (.t 51),none⟩]) <|
  .block 4 (.seq (.reg [⟨(some 58),.mov (.t 3),none⟩,
    ⟨(some 59),.mov (.t 9),none⟩,
    ⟨(some 60),.iadd (.t 58) (.t 59) 1,none⟩,
    ⟨(some 61),.ld (.t 60) 1 false,none⟩,
    ⟨(some 62),.bin .lss (.t 61) (.c (.int .i64 0)),none⟩,
    ⟨(some 57),.mov (.t 62),none⟩]) <|
  .cond (.t 57) (.skip) (.seq (.reg [⟨(some 64),.mov (.t 7),none⟩,
    ⟨(some 65),.bin .lss (.t 64) (.c (.int .i64 0)),none⟩,
    ⟨(some 63),.mov (.t 65),none⟩]) <|
  .cond (.t 63) (.reg [⟨(some 66),.mov (.t 9),none⟩,
    ⟨(some 7),.mov (.t 66),none⟩]) (.reg [⟨(some 52),.mov (.t 0),none⟩,
    ⟨(some 53),.mov (.t 3),none⟩,
    ⟨(some 54),.mov (.t 7),none⟩,
    ⟨(some 55),.mov (.t 9),none⟩,
    ⟨(some 56),.call iE [(.t 52),(.t 53),(.t 54),(.t 55)],none⟩,
    ⟨(some 7),.mov (.t 56),none⟩]))))) <|
  .reg [⟨(some 67),.bin .add (.t 48) (.c (.int .i64 1)),none⟩,
    ⟨(some 48),.mov (.t 67),none⟩]))) <|
  .seq (.reg [⟨(some 68),.mov (.t 7),none⟩,
    ⟨(some 69),.mov (.t 3),none⟩,
    ⟨(some 70),.mov (.t 6),none⟩,
    ⟨(some 71),.iadd (.t 69) (.t 70) 1,none⟩,
    ⟨(some 72),.ld (.t 71) 1 false,none⟩,
    ⟨(some 73),.bin .neq (.t 68) (.t 72),none⟩]) <|
  .cond (.t 73) (.seq (.reg [⟨(some 74),.mov (.t 3),none⟩,
    ⟨(some 75),.mov (.t 6),none⟩,
    ⟨(some 76),.mov (.t 7),none⟩,
    ⟨(some 77),.iadd (.t 74) (.t 75) 1,none⟩,
    ⟨none,.st (.t 77) (.t 76) 1,none⟩]) <|
  .goto 0) (.skip))) <|
  .reg [⟨(some 78),.bin .add (.t 39) (.c (.int .i64 1)),none⟩,
    ⟨(some 39),.mov (.t 78),none⟩]))) <|
  .seq (.reg [⟨(some 79),.mov (.t 3),none⟩,
    ⟨(some 2),.mov (.t 79),none⟩]) <|
  .ret),
  [.t 2]⟩
theorem tN:cFn PP true oE rP (cDr PP 80 uc)=some o8:=by kernel_rfl
def xG:Nat->Option (List Nat×List Nat)
  | _=>none
def zO:Nat->Option (List Nat×List Nat×List Nat)
  | _=>none
def xm:aA:=⟨6,
  .seq (.reg [⟨(some 2),.box (.t 0),none⟩,
    ⟨(some 3),.box (.t 1),none⟩,
    ⟨(some 4),.mov (.c .nilfn),none⟩]) <|
  .seq (.reg [⟨(some 5),.mkf pY [] [(.t 3),(.t 2)],none⟩,
    ⟨(some 4),.mov (.t 5),none⟩]) <|
  .ret,
  [.t 4]⟩
theorem zG:cFn PP true wZ xG (cDr PP 6 zO)=some xm:=by kernel_rfl
def je:Nat->Option (List Nat×List Nat)
  | 1000017=>some ([0],[])|4=>some ([0],[3])|1000015=>some ([0],[3])|9=>some ([0,4],[3,5])|1000011=>some ([0,4,5],[3])|_=>none
def jP:Nat->Option (List Nat×List Nat×List Nat)
  | 6=>some ([0,0,3,7,0,0,32,112,240,511],[],[])|11=>some ([0,0,3,7,0,0,32,112,240,511],[],[])|_=>none
def eY:aA:=⟨61,
  .seq (.reg [⟨(some 2),.mov (.c .nil),none⟩]) <|
  .seq (.seq (.reg [⟨(some 6),.mov (.t 0),none⟩,
    ⟨(some 7),.len (.t 6),none⟩,
    ⟨(some 8),.bin .lss (.t 7) (.c (.int .i64 2)),none⟩]) <|
  .cond (.t 8) (.seq (.reg [⟨(some 9),.mov (.t 0),none⟩,
    ⟨(some 2),.mov (.t 9),none⟩]) <|
  .ret) (.skip)) <|
  .seqj [0] [] (.seq (.reg [⟨(some 3),.mov (.c (.int .i64 1)),none⟩]) <|
  .block 0 (.loop [0] [3] (.seq (.seq (.reg [⟨(some 10),.mov (.t 3),none⟩,
    ⟨(some 11),.mov (.t 0),none⟩,
    ⟨(some 12),.len (.t 11),none⟩,
    ⟨(some 13),.bin .lss (.t 10) (.t 12),none⟩]) <|
  .cond (.t 13) (.skip) (.exit 0)) <|
  .seq (.block 1 (.seq (.dreg [⟨(some 16),.mov (.t 0),none⟩,
    ⟨(some 17),.mov (.t 3),none⟩,
    ⟨(some 18),.iadd (.t 16) (.t 17) 1,none⟩,
    ⟨(some 19),.ld (.t 18) 1 false,none⟩,
    ⟨(some 20),.mov (.t 0),none⟩,
    ⟨(some 21),.mov (.t 3),none⟩,
    ⟨(some 22),.bin .sub (.t 21) (.c (.int .i64 1)),none⟩,
    ⟨(some 23),.iadd (.t 20) (.t 22) 1,none⟩,
    ⟨(some 24),.ld (.t 23) 1 false,none⟩,
    ⟨(some 25),.bin .eql (.t 19) (.t 24),none⟩] [] []) <|
  .cond (.t 25) (.seq (.reg [⟨(some 26),.mov (.t 0),none⟩,
    ⟨(some 27),.mov (.t 3),none⟩,
    ⟨(some 28),.kY (.t 26) (some (.t 27)) none none 1,none⟩,
    ⟨(some 4),.mov (.t 28),none⟩]) <|
  .seqj [0] [3] (.seq (.reg [⟨(some 5),.mov (.c (.int .i64 1)),none⟩]) <|
  .block 2 (.loop [0,4] [3,5] (.seq (.seq (.reg [⟨(some 29),.mov (.t 5),none⟩,
    ⟨(some 30),.mov (.t 4),none⟩,
    ⟨(some 31),.len (.t 30),none⟩,
    ⟨(some 32),.bin .lss (.t 29) (.t 31),none⟩]) <|
  .cond (.t 32) (.skip) (.exit 2)) <|
  .seqj [0,4,5] [3] (.block 3 (.seq (.dreg [⟨(some 35),.mov (.t 4),none⟩,
    ⟨(some 36),.mov (.t 5),none⟩,
    ⟨(some 37),.iadd (.t 35) (.t 36) 1,none⟩,
    ⟨(some 38),.ld (.t 37) 1 false,none⟩,
    ⟨(some 39),.mov (.t 4),none⟩,
    ⟨(some 40),.mov (.t 5),none⟩,
    ⟨(some 41),.bin .sub (.t 40) (.c (.int .i64 1)),none⟩,
    ⟨(some 42),.iadd (.t 39) (.t 41) 1,none⟩,
    ⟨(some 43),.ld (.t 42) 1 false,none⟩,
    ⟨(some 44),.bin .neq (.t 38) (.t 43),none⟩] [] []) <|
  .cond (.t 44) (.seq (.reg [⟨(some 45),.mov (.t 0),none⟩,
    ⟨(some 46),.mov (.t 3),none⟩,
    ⟨(some 47),.mov (.t 4),none⟩,
    ⟨(some 48),.mov (.t 5),none⟩,
    ⟨(some 49),.iadd (.t 47) (.t 48) 1,none⟩,
    ⟨(some 50),.ld (.t 49) 1 false,none⟩,
    ⟨(some 51),.iadd (.t 45) (.t 46) 1,none⟩,
    ⟨none,.st (.t 51) (.t 50) 1,none⟩]) <|
  .reg [⟨(some 52),.mov (.t 3),none⟩,
    ⟨(some 53),.bin .add (.t 52) (.c (.int .i64 1)),none⟩,
    ⟨(some 3),.mov (.t 53),none⟩]) (.skip))) <|
  .reg [⟨(some 33),.mov (.t 5),none⟩,
    ⟨(some 34),.bin .add (.t 33) (.c (.int .i64 1)),none⟩,
    ⟨(some 5),.mov (.t 34),none⟩]))) <|
  .seq (.reg [⟨(some 54),.mov (.t 0),none⟩,
    ⟨(some 55),.mov (.t 3),none⟩,
    ⟨(some 56),.kY (.t 54) (some (.t 55)) none none 1,none⟩,
    ⟨none,.dead,none⟩]) <|
  .seq (.reg [⟨(some 57),.mov (.t 0),none⟩,
    ⟨(some 58),.mov (.t 3),none⟩,
    ⟨(some 59),.kY (.t 57) none (some (.t 58)) none 1,none⟩,
    ⟨(some 2),.mov (.t 59),none⟩]) <|
  .ret) (.skip))) <|
  .reg [⟨(some 14),.mov (.t 3),none⟩,
    ⟨(some 15),.bin .add (.t 14) (.c (.int .i64 1)),none⟩,
    ⟨(some 3),.mov (.t 15),none⟩]))) <|
  .seq (.reg [⟨(some 60),.mov (.t 0),none⟩,
    ⟨(some 2),.mov (.t 60),none⟩]) <|
  .ret,
  [.t 2]⟩
theorem jC:cFn PP true eW je (cDr PP 61 jP)=some eY:=by kernel_rfl
def yV:Nat->Option (List Nat×List Nat)
  | _=>none
def AZ:Nat->Option (List Nat×List Nat×List Nat)
  | _=>none
def zH:aA:=⟨8,
  .seq (.reg [⟨(some 1),.box (.t 0),none⟩,
    ⟨(some 2),.mov (.c (.int .i64 0)),none⟩]) <|
  .seq (.seq (.reg [⟨(some 3),.fadd (.t 1) 0,none⟩,
    ⟨(some 4),.ld (.t 3) 1 false,none⟩,
    ⟨(some 5),.bin .neq (.t 4) (.c (.int .i64 2)),none⟩]) <|
  .cond (.t 5) (.seq (.reg [⟨(some 2),.mov (.c (.int .i64 (-1))),none⟩]) <|
  .ret) (.skip)) <|
  .seq (.reg [⟨(some 6),.fadd (.t 1) 1,none⟩,
    ⟨(some 7),.ld (.t 6) 1 false,none⟩,
    ⟨(some 2),.mov (.t 7),none⟩]) <|
  .ret,
  [.t 2]⟩
theorem zY:cFn PP true th yV (cDr PP 8 AZ)=some zH:=by kernel_rfl
def cA:Nat->Option (List Nat×List Nat)
  | 1000008=>some ([],[])|2=>some ([0,1,7],[8])|_=>none
def cN:Nat->Option (List Nat×List Nat×List Nat)
  | _=>none
def bC:aA:=⟨19,
  .seq (.reg [⟨(some 4),.mov (.c (.int .i64 0)),none⟩]) <|
  .seqj [] [] (.seq (.reg [⟨(some 6),.mov (.t 0),none⟩,
    ⟨(some 7),.len (.t 6),none⟩,
    ⟨(some 8),.mov (.c (.int .i64 0)),none⟩]) <|
  .block 0 (.loop [0,1,7] [8] (.seq (.reg [⟨(some 9),.bin .lss (.t 8) (.t 7),none⟩]) <|
  .seq (.cond (.t 9) (.skip) (.exit 0)) <|
  .seq (.block 1 (.seq (.reg [⟨(some 10),.mov (.t 8),none⟩,
    ⟨(some 5),.mov (.t 10),none⟩]) <|
  .seq (.reg [⟨(some 11),.mov (.t 1),none⟩,
    ⟨(some 12),.mov (.t 0),none⟩,
    ⟨(some 13),.mov (.t 5),none⟩,
    ⟨(some 14),.iadd (.t 12) (.t 13) 2,none⟩,
    ⟨(some 15),.ld (.t 14) 2 true,none⟩,
    ⟨(some 16),.callv (.t 11) [(.t 15)],none⟩]) <|
  .cond (.t 16) (.seq (.reg [⟨(some 17),.mov (.t 5),none⟩,
    ⟨(some 4),.mov (.t 17),none⟩]) <|
  .ret) (.skip))) <|
  .reg [⟨(some 18),.bin .add (.t 8) (.c (.int .i64 1)),none⟩,
    ⟨(some 8),.mov (.t 18),none⟩]))) <|
  .seq (.reg [⟨(some 4),.mov (.c (.int .i64 (-1))),none⟩]) <|
  .ret,
  [.t 4]⟩
theorem cI:cFn PP true bB cA (cDr PP 19 cN)=some bC:=by kernel_rfl
def tt:Nat->Option (List Nat×List Nat)
  | 1000013=>some ([5],[])|8=>some ([5,32,33],[34])|_=>none
def vH:Nat->Option (List Nat×List Nat×List Nat)
  | 1=>some ([0,0,0,4,14,31,63,0,255],[4,6,7,8],[999998,2])|_=>none
def qO:aA:=⟨48,
  .seq (.reg [⟨(some 2),.box (.t 0),none⟩,
    ⟨(some 4),.mov (.c .nilp),none⟩]) <|
  .seq (.seq (.dreg [⟨(some 5),.mov (.c .undef),none⟩] [] []) <|
  .seq (.dreg [⟨(some 10),.ld (.t 2) 1 false,none⟩,
    ⟨(some 11),.bldS false 1 1 (.int .i64 0) [(0,(.c (.int .i64 (-1))))],none⟩,
    ⟨(some 12),.ld (.t 2) 1 false,none⟩,
    ⟨(some 13),.len (.t 12),none⟩] [⟨(some 14),.call cX [(.t 11),(.t 13)],none⟩] [⟨(some 10),.ld (.t 2) 1 false,none⟩]) <|
  .seq (.dreg [⟨(some 15),.bld [.nil,.nil,.nil] [(0,1,(.t 10)),(2,1,(.t 14))],none⟩] [⟨(some 16),.box (.t 15),none⟩] []) <|
  .seq (.dreg [] [⟨(some 5),.alloc .nilp,none⟩] [⟨(some 10),.ld (.t 2) 1 false,none⟩,
    ⟨(some 12),.ld (.t 2) 1 false,none⟩,
    ⟨(some 13),.len (.t 12),none⟩]) <|
  .seq (.dreg [] [⟨none,.st (.t 5) (.t 16) 1,none⟩] []) <|
  .dreg [] [] []) <|
  .seq (.reg [⟨(some 17),.ld (.t 2) 1 false,none⟩,
    ⟨(some 18),.len (.t 17),none⟩,
    ⟨(some 19),.mk 1 1 (.bool false) (.t 18) (.t 18),none⟩,
    ⟨(some 6),.alloc .nil,none⟩,
    ⟨none,.st (.t 6) (.t 19) 1,none⟩]) <|
  .seq (.reg [⟨(some 7),.alloc .nilfn,none⟩]) <|
  .seq (.reg [⟨(some 20),.mkf ln [] [(.t 6),(.t 2),(.t 7),(.t 5)],none⟩,
    ⟨none,.st (.t 7) (.t 20) 1,none⟩]) <|
  .seq (.reg [⟨(some 21),.ld (.t 7) 1 false,none⟩,
    ⟨(some 22),.mov (.t 1),none⟩,
    ⟨(some 23),.callv (.t 21) [(.t 22)],none⟩]) <|
  .seq (.reg [⟨(some 24),.ld (.t 5) 1 false,none⟩,
    ⟨(some 25),.fadd (.t 24) 0,none⟩,
    ⟨(some 26),.fadd (.t 25) 1,none⟩,
    ⟨(some 27),.ld (.t 26) 1 false,none⟩,
    ⟨(some 28),.call eV [(.t 27)],none⟩]) <|
  .seqj [5] [] (.seq (.reg [⟨(some 29),.ld (.t 5) 1 false,none⟩,
    ⟨(some 30),.fadd (.t 29) 0,none⟩,
    ⟨(some 31),.fadd (.t 30) 1,none⟩,
    ⟨(some 32),.ld (.t 31) 1 false,none⟩,
    ⟨(some 33),.len (.t 32),none⟩,
    ⟨(some 34),.mov (.c (.int .i64 0)),none⟩]) <|
  .block 0 (.loop [5,32,33] [34] (.seq (.reg [⟨(some 35),.bin .lss (.t 34) (.t 33),none⟩]) <|
  .seq (.cond (.t 35) (.skip) (.exit 0)) <|
  .seq (.block 1 (.seq (.reg [⟨(some 36),.mov (.t 34),none⟩,
    ⟨(some 37),.iadd (.t 32) (.t 34) 1,none⟩,
    ⟨(some 38),.ld (.t 37) 1 false,none⟩,
    ⟨(some 8),.mov (.t 36),none⟩,
    ⟨(some 9),.mov (.t 38),none⟩]) <|
  .reg [⟨(some 39),.ld (.t 5) 1 false,none⟩,
    ⟨(some 40),.fadd (.t 39) 0,none⟩,
    ⟨(some 41),.fadd (.t 40) 2,none⟩,
    ⟨(some 42),.ld (.t 41) 1 false,none⟩,
    ⟨(some 43),.mov (.t 9),none⟩,
    ⟨(some 44),.mov (.t 8),none⟩,
    ⟨(some 45),.iadd (.t 42) (.t 43) 1,none⟩,
    ⟨none,.st (.t 45) (.t 44) 1,none⟩])) <|
  .reg [⟨(some 46),.bin .add (.t 34) (.c (.int .i64 1)),none⟩,
    ⟨(some 34),.mov (.t 46),none⟩]))) <|
  .seq (.reg [⟨(some 47),.ld (.t 5) 1 false,none⟩,
    ⟨(some 4),.mov (.t 47),none⟩]) <|
  .ret,
  [.t 4]⟩
theorem vv:cFn PP true kA tt (cDr PP 48 vH)=some qO:=by kernel_rfl
def xF:Nat->Option (List Nat×List Nat)
  | 1000008=>some ([3],[])|3=>some ([3,11,12],[13])|_=>none
def zN:Nat->Option (List Nat×List Nat×List Nat)
  | _=>none
def xl:aA:=⟨26,
  .seq (.reg [⟨(some 1),.box (.t 0),none⟩,
    ⟨(some 2),.mov (.c .nil),none⟩]) <|
  .seq (.reg [⟨(some 6),.fadd (.t 1) 7,none⟩,
    ⟨(some 7),.ld (.t 6) 1 false,none⟩,
    ⟨(some 8),.len (.t 7),none⟩,
    ⟨(some 9),.mk 1 24 .nil (.t 8) (.t 8),none⟩,
    ⟨(some 3),.mov (.t 9),none⟩]) <|
  .seqj [3] [] (.seq (.reg [⟨(some 10),.fadd (.t 1) 7,none⟩,
    ⟨(some 11),.ld (.t 10) 1 false,none⟩,
    ⟨(some 12),.len (.t 11),none⟩,
    ⟨(some 13),.mov (.c (.int .i64 0)),none⟩]) <|
  .block 0 (.loop [3,11,12] [13] (.seq (.reg [⟨(some 14),.bin .lss (.t 13) (.t 12),none⟩]) <|
  .seq (.cond (.t 14) (.skip) (.exit 0)) <|
  .seq (.block 1 (.seq (.reg [⟨(some 15),.mov (.t 13),none⟩,
    ⟨(some 16),.iadd (.t 11) (.t 13) 14,none⟩,
    ⟨(some 17),.ld (.t 16) 14 true,none⟩,
    ⟨(some 5),.alloc (.agg [.nil,(.int .i64 0),(.int .i64 0),(.int .i64 0),(.int .i64 0),(.int .i32 0),(.int .i64 0),(.int .i64 0),(.int .i32 0),(.int .i64 0),(.int .i64 0),(.int .i32 0),(.int .i64 0),(.int .i64 0)]),none⟩,
    ⟨(some 4),.mov (.t 15),none⟩,
    ⟨none,.st (.t 5) (.t 17) 14,none⟩]) <|
  .reg [⟨(some 18),.mov (.t 3),none⟩,
    ⟨(some 19),.mov (.t 4),none⟩,
    ⟨(some 20),.fadd (.t 5) 1,none⟩,
    ⟨(some 21),.ld (.t 20) 13 true,none⟩,
    ⟨(some 22),.call dI [(.t 21)],none⟩,
    ⟨(some 23),.iadd (.t 18) (.t 19) 1,none⟩,
    ⟨none,.st (.t 23) (.t 22) 1,none⟩])) <|
  .reg [⟨(some 24),.bin .add (.t 13) (.c (.int .i64 1)),none⟩,
    ⟨(some 13),.mov (.t 24),none⟩]))) <|
  .seq (.reg [⟨(some 25),.mov (.t 3),none⟩,
    ⟨(some 2),.mov (.t 25),none⟩]) <|
  .ret,
  [.t 2]⟩
theorem zE:cFn PP true wY xF (cDr PP 26 zN)=some xl:=by kernel_rfl
def nO:Nat->Option (List Nat×List Nat)
  | 1000012=>some ([3],[])|3=>some ([0,3,17,18],[19])|1000011=>some ([0,3,17,18,19],[])|6=>some ([0,3,5,17,18,19,29,30],[31])|_=>none
def pQ:Nat->Option (List Nat×List Nat×List Nat)
  | _=>none
def kW:aA:=⟨48,
  .seq (.reg [⟨(some 2),.mov (.c .nil),none⟩]) <|
  .seq (.reg [⟨(some 8),.mov (.t 0),none⟩,
    ⟨(some 9),.fadd (.t 8) 0,none⟩,
    ⟨(some 10),.fadd (.t 9) 0,none⟩,
    ⟨(some 11),.ld (.t 10) 1 false,none⟩,
    ⟨(some 12),.len (.t 11),none⟩,
    ⟨(some 13),.mk 1 24 .nil (.t 12) (.t 12),none⟩,
    ⟨(some 3),.mov (.t 13),none⟩]) <|
  .seqj [3] [] (.seq (.reg [⟨(some 14),.mov (.t 0),none⟩,
    ⟨(some 15),.fadd (.t 14) 0,none⟩,
    ⟨(some 16),.fadd (.t 15) 1,none⟩,
    ⟨(some 17),.ld (.t 16) 1 false,none⟩,
    ⟨(some 18),.len (.t 17),none⟩,
    ⟨(some 19),.mov (.c (.int .i64 0)),none⟩]) <|
  .block 0 (.loop [0,3,17,18] [19] (.seq (.reg [⟨(some 20),.bin .lss (.t 19) (.t 18),none⟩]) <|
  .seq (.cond (.t 20) (.skip) (.exit 0)) <|
  .seqj [0,3,17,18,19] [] (.block 1 (.seq (.reg [⟨(some 21),.iadd (.t 17) (.t 19) 1,none⟩,
    ⟨(some 22),.ld (.t 21) 1 false,none⟩,
    ⟨(some 5),.mov (.t 22),none⟩]) <|
  .seq (.reg [⟨(some 23),.mov (.t 0),none⟩,
    ⟨(some 24),.fadd (.t 23) 0,none⟩,
    ⟨(some 25),.fadd (.t 24) 0,none⟩,
    ⟨(some 26),.ld (.t 25) 1 false,none⟩,
    ⟨(some 27),.mov (.t 5),none⟩,
    ⟨(some 28),.iadd (.t 26) (.t 27) 1,none⟩,
    ⟨(some 29),.ld (.t 28) 1 false,none⟩,
    ⟨(some 30),.len (.t 29),none⟩,
    ⟨(some 31),.mov (.c (.int .i64 0)),none⟩]) <|
  .block 2 (.loop [0,3,5,17,18,19,29,30] [31] (.seq (.reg [⟨(some 32),.bin .lss (.t 31) (.t 30),none⟩]) <|
  .seq (.cond (.t 32) (.skip) (.exit 2)) <|
  .seq (.block 3 (.seq (.reg [⟨(some 33),.iadd (.t 29) (.t 31) 1,none⟩,
    ⟨(some 34),.ld (.t 33) 1 false,none⟩,
    ⟨(some 7),.mov (.t 34),none⟩]) <|
  .reg [⟨(some 35),.mov (.t 3),none⟩,
    ⟨(some 36),.mov (.t 7),none⟩,
    ⟨(some 37),.mov (.t 3),none⟩,
    ⟨(some 38),.mov (.t 7),none⟩,
    ⟨(some 39),.iadd (.t 37) (.t 38) 1,none⟩,
    ⟨(some 40),.ld (.t 39) 1 false,none⟩,
    ⟨(some 41),.mov (.t 5),none⟩,
    ⟨(some 42),.bldS true 1 1 (.int .i64 0) [(0,(.t 41))],none⟩,
    ⟨(some 43),.app (.t 40) (.t 42) 1 8 (.int .i64 0),none⟩,
    ⟨(some 44),.iadd (.t 35) (.t 36) 1,none⟩,
    ⟨none,.st (.t 44) (.t 43) 1,none⟩])) <|
  .reg [⟨(some 45),.bin .add (.t 31) (.c (.int .i64 1)),none⟩,
    ⟨(some 31),.mov (.t 45),none⟩])))) <|
  .reg [⟨(some 46),.bin .add (.t 19) (.c (.int .i64 1)),none⟩,
    ⟨(some 19),.mov (.t 46),none⟩]))) <|
  .seq (.reg [⟨(some 47),.mov (.t 3),none⟩,
    ⟨(some 2),.mov (.t 47),none⟩]) <|
  .ret,
  [.t 2]⟩
theorem pF:cFn PP true fL nO (cDr PP 48 pQ)=some kW:=by kernel_rfl
def jw:Nat->Option (List Nat×List Nat)
  | 1000004=>some ([0,1],[])|1000007=>some ([0,6],[])|1000011=>some ([7],[])|8=>some ([7],[8])|_=>none
def kx:Nat->Option (List Nat×List Nat×List Nat)
  | 9=>some ([0,0,0,6,0,0,48,126,255,511],[7,8,9],[])|_=>none
def fA:aA:=⟨48,
  .seq (.reg [⟨(some 4),.mov (.c .nil),none⟩]) <|
  .seqj [0,1] [] (.seq (.reg [⟨(some 9),.mov (.t 1),none⟩,
    ⟨(some 10),.bin .lss (.t 9) (.c (.int .i64 0)),none⟩]) <|
  .cond (.t 10) (.reg [⟨(some 11),.dead,none⟩,
    ⟨none,.dead,none⟩]) (.skip)) <|
  .seq (.reg [⟨(some 13),.mov (.t 0),none⟩,
    ⟨(some 14),.len (.t 13),none⟩,
    ⟨(some 15),.conv .u64 (.t 14),none⟩,
    ⟨(some 16),.mov (.t 1),none⟩,
    ⟨(some 17),.conv .u64 (.t 16),none⟩,
    ⟨(some 18),.call oC [(.t 15),(.t 17)],none⟩,
    ⟨(some 12),.mov (.t 18),none⟩,
    ⟨(some 19),.ext (.t 12) 0,none⟩,
    ⟨(some 20),.ext (.t 12) 1,none⟩,
    ⟨(some 5),.mov (.t 19),none⟩,
    ⟨(some 6),.mov (.t 20),none⟩]) <|
  .seqj [0,6] [] (.seq (.reg [⟨(some 21),.mov (.t 5),none⟩,
    ⟨(some 22),.bin .gtr (.t 21) (.c (.int .u64 0)),none⟩,
    ⟨(some 23),.mov (.t 22),none⟩,
    ⟨(some 24),.mov (.t 6),some (23,false)⟩,
    ⟨(some 25),.bin .gtr (.t 24) (.c (.int .u64 9223372036854775807)),some (23,false)⟩,
    ⟨(some 26),.pick (.t 23) (.c (.bool true)) (.t 25),none⟩]) <|
  .cond (.t 26) (.reg [⟨(some 27),.dead,none⟩,
    ⟨none,.dead,none⟩]) (.skip)) <|
  .seq (.reg [⟨(some 28),.mov (.t 6),none⟩,
    ⟨(some 29),.conv .i64 (.t 28),none⟩,
    ⟨(some 30),.mk 1 8 (.int .i64 0) (.t 29) (.t 29),none⟩,
    ⟨(some 7),.mov (.t 30),none⟩]) <|
  .seq (.reg [⟨(some 31),.mov (.t 7),none⟩,
    ⟨(some 32),.mov (.t 0),none⟩,
    ⟨(some 33),.zV (.t 31) (.t 32) 1,none⟩,
    ⟨(some 8),.mov (.t 33),none⟩]) <|
  .seqj [7] [] (.block 0 (.loop [7] [8] (.seq (.seq (.reg [⟨(some 34),.mov (.t 8),none⟩,
    ⟨(some 35),.mov (.t 7),none⟩,
    ⟨(some 36),.len (.t 35),none⟩,
    ⟨(some 37),.bin .lss (.t 34) (.t 36),none⟩]) <|
  .cond (.t 37) (.skip) (.exit 0)) <|
  .block 1 (.dreg [⟨(some 38),.mov (.t 8),none⟩,
    ⟨(some 39),.mov (.t 7),none⟩,
    ⟨(some 40),.mov (.t 8),none⟩,
    ⟨(some 41),.kY (.t 39) (some (.t 40)) none none 1,none⟩,
    ⟨(some 42),.mov (.t 7),none⟩,
    ⟨(some 43),.mov (.t 8),none⟩,
    ⟨(some 44),.kY (.t 42) none (some (.t 43)) none 1,none⟩] [⟨(some 45),.zV (.t 41) (.t 44) 1,none⟩,
    ⟨(some 46),.bin .add (.t 38) (.t 45),none⟩,
    ⟨(some 8),.mov (.t 46),none⟩] [])))) <|
  .seq (.reg [⟨(some 47),.mov (.t 7),none⟩,
    ⟨(some 4),.mov (.t 47),none⟩]) <|
  .ret,
  [.t 4]⟩
theorem kg:cFn PP true cX jw (cDr PP 48 kx)=some fA:=by kernel_rfl
def qb:Nat->Option (List Nat×List Nat)
  | 1000006=>some ([],[2])|1=>some ([0,1],[2,3])|_=>none
def s8:Nat->Option (List Nat×List Nat×List Nat)
  | 2=>some ([0,1,3,7,0,31,63,0,128,384,896,0,3968,8064,16383],[],[])|_=>none
def np:aA:=⟨36,
  .seq (.reg [⟨(some 8),.mov (.c (.int .i64 0)),none⟩]) <|
  .seqj [] [2] (.block 0 (.loop [0,1] [2,3] (.seq (.seq (.reg [⟨(some 9),.mov (.t 2),none⟩,
    ⟨(some 10),.mov (.t 3),none⟩,
    ⟨(some 11),.bin .neq (.t 9) (.t 10),none⟩]) <|
  .cond (.t 11) (.skip) (.exit 0)) <|
  .block 1 (.seq (.dreg [⟨(some 12),.mov (.t 0),none⟩,
    ⟨(some 13),.fadd (.t 12) 0,none⟩,
    ⟨(some 14),.fadd (.t 13) 2,none⟩,
    ⟨(some 15),.ld (.t 14) 1 false,none⟩,
    ⟨(some 16),.mov (.t 2),none⟩,
    ⟨(some 17),.iadd (.t 15) (.t 16) 1,none⟩,
    ⟨(some 18),.ld (.t 17) 1 false,none⟩,
    ⟨(some 19),.mov (.t 0),none⟩,
    ⟨(some 20),.fadd (.t 19) 0,none⟩,
    ⟨(some 21),.fadd (.t 20) 2,none⟩,
    ⟨(some 22),.ld (.t 21) 1 false,none⟩,
    ⟨(some 23),.mov (.t 3),none⟩,
    ⟨(some 24),.iadd (.t 22) (.t 23) 1,none⟩,
    ⟨(some 25),.ld (.t 24) 1 false,none⟩,
    ⟨(some 26),.bin .gtr (.t 18) (.t 25),none⟩] [] []) <|
  .cond (.t 26) (.reg [⟨(some 27),.mov (.t 1),none⟩,
    ⟨(some 28),.mov (.t 2),none⟩,
    ⟨(some 29),.iadd (.t 27) (.t 28) 1,none⟩,
    ⟨(some 30),.ld (.t 29) 1 false,none⟩,
    ⟨(some 2),.mov (.t 30),none⟩]) (.reg [⟨(some 31),.mov (.t 1),none⟩,
    ⟨(some 32),.mov (.t 3),none⟩,
    ⟨(some 33),.iadd (.t 31) (.t 32) 1,none⟩,
    ⟨(some 34),.ld (.t 33) 1 false,none⟩,
    ⟨(some 3),.mov (.t 34),none⟩]))))) <|
  .seq (.reg [⟨(some 35),.mov (.t 2),none⟩,
    ⟨(some 8),.mov (.t 35),none⟩]) <|
  .ret,
  [.t 8]⟩
theorem rX:cFn PP true iE qb (cDr PP 36 s8)=some np:=by kernel_rfl
def tu:Nat->Option (List Nat×List Nat)
  | 0=>some ([0,1,2],[])|_=>none
def vI:Nat->Option (List Nat×List Nat×List Nat)
  | 0=>some ([0,0,3,7,15,15,63,127,15,511,1023],[2],[999999])|_=>none
def qQ:aA:=⟨19,
  .block 0 (.loop [0,1,2] [] (.seq (.seq (.seq (.dreg [⟨(some 4),.mov (.t 0),none⟩,
    ⟨(some 5),.ld (.t 1) 1 false,none⟩] [⟨(some 6),.callv (.t 4) [(.t 5)],none⟩] []) <|
  .dreg [⟨(some 7),.mov (.t 6),none⟩,
    ⟨(some 8),.ld (.t 2) 1 false,some (7,true)⟩,
    ⟨(some 9),.ld (.t 1) 1 false,some (7,true)⟩,
    ⟨(some 10),.iadd (.t 8) (.t 9) 1,some (7,true)⟩,
    ⟨(some 11),.ld (.t 10) 1 false,some (7,true)⟩,
    ⟨(some 12),.ld (.t 1) 1 false,some (7,true)⟩,
    ⟨(some 13),.bin .neq (.t 11) (.t 12),some (7,true)⟩,
    ⟨(some 14),.pick (.t 7) (.t 13) (.c (.bool false)),none⟩] [] []) <|
  .cond (.t 14) (.skip) (.exit 0)) <|
  .block 1 (.reg [⟨(some 15),.ld (.t 2) 1 false,none⟩,
    ⟨(some 16),.ld (.t 1) 1 false,none⟩,
    ⟨(some 17),.iadd (.t 15) (.t 16) 1,none⟩,
    ⟨(some 18),.ld (.t 17) 1 false,none⟩,
    ⟨none,.st (.t 1) (.t 18) 1,none⟩]))),
  []⟩
theorem vw:cFn PP true pY tu (cDr PP 19 vI)=some qQ:=by kernel_rfl
def pf:Nat->Option (List Nat×List Nat)
  | 1000008=>some ([0,4],[])|2=>some ([0,1,3,4,14,15],[16])|1000007=>some ([0,1,3,4,14,15,16],[])|_=>none
def rG:Nat->Option (List Nat×List Nat×List Nat)
  | 7=>some ([0,0,2,6,14,0,32,126,255,511,1023],[7,10],[0])|_=>none
def lS:aA:=⟨39,
  .seq (.reg [⟨(some 8),.ld (.t 1) 1 false,none⟩,
    ⟨(some 9),.mov (.t 0),none⟩,
    ⟨(some 10),.iadd (.t 8) (.t 9) 1,none⟩,
    ⟨none,.st (.t 10) (.c (.bool true)) 1,none⟩]) <|
  .seqj [0,4] [] (.seq (.reg [⟨(some 11),.ld (.t 2) 1 false,none⟩,
    ⟨(some 12),.mov (.t 0),none⟩,
    ⟨(some 13),.iadd (.t 11) (.t 12) 1,none⟩,
    ⟨(some 14),.ld (.t 13) 1 false,none⟩,
    ⟨(some 15),.len (.t 14),none⟩,
    ⟨(some 16),.mov (.c (.int .i64 0)),none⟩]) <|
  .block 0 (.loop [0,1,3,4,14,15] [16] (.seq (.reg [⟨(some 17),.bin .lss (.t 16) (.t 15),none⟩]) <|
  .seq (.cond (.t 17) (.skip) (.exit 0)) <|
  .seqj [0,1,3,4,14,15,16] [] (.block 1 (.seq (.reg [⟨(some 18),.iadd (.t 14) (.t 16) 1,none⟩,
    ⟨(some 19),.ld (.t 18) 1 false,none⟩,
    ⟨(some 7),.mov (.t 19),none⟩]) <|
  .seq (.reg [⟨(some 20),.ld (.t 1) 1 false,none⟩,
    ⟨(some 21),.mov (.t 7),none⟩,
    ⟨(some 22),.iadd (.t 20) (.t 21) 1,none⟩,
    ⟨(some 23),.ld (.t 22) 1 false,none⟩,
    ⟨(some 24),.un .not (.t 23),none⟩]) <|
  .cond (.t 24) (.reg [⟨(some 25),.ld (.t 3) 1 false,none⟩,
    ⟨(some 26),.mov (.t 7),none⟩,
    ⟨(some 27),.callv (.t 25) [(.t 26)],none⟩]) (.skip))) <|
  .reg [⟨(some 28),.bin .add (.t 16) (.c (.int .i64 1)),none⟩,
    ⟨(some 16),.mov (.t 28),none⟩]))) <|
  .dreg [⟨(some 29),.ld (.t 4) 1 false,none⟩,
    ⟨(some 30),.ld (.t 4) 1 false,none⟩,
    ⟨(some 31),.fadd (.t 30) 0,none⟩,
    ⟨(some 32),.fadd (.t 31) 1,none⟩,
    ⟨(some 33),.ld (.t 32) 1 false,none⟩,
    ⟨(some 34),.mov (.t 0),none⟩,
    ⟨(some 35),.bldS false 1 1 (.int .i64 0) [(0,(.t 34))],none⟩,
    ⟨(some 37),.fadd (.t 29) 0,none⟩,
    ⟨(some 38),.fadd (.t 37) 1,none⟩] [⟨(some 36),.app (.t 33) (.t 35) 1 8 (.int .i64 0),none⟩,
    ⟨none,.st (.t 38) (.t 36) 1,none⟩] [⟨(some 29),.ld (.t 4) 1 false,none⟩],
  []⟩
theorem qN:cFn PP true ln pf (cDr PP 39 rG)=some lS:=by kernel_rfl
def jd:Nat->Option (List Nat×List Nat)
  | 1=>some ([0],[2,3])|_=>none
def jO:Nat->Option (List Nat×List Nat×List Nat)
  | 3=>some ([0,0,0,0,0,0,48,112,0,0,768,1792,4083,8179,16383,32767],[13,15],[14])|_=>none
def eX:aA:=⟨28,
  .seq (.reg [⟨(some 4),.mov (.t 0),none⟩,
    ⟨(some 5),.len (.t 4),none⟩,
    ⟨(some 6),.bin .sub (.t 5) (.c (.int .i64 1)),none⟩,
    ⟨(some 2),.mov (.c (.int .i64 0)),none⟩,
    ⟨(some 3),.mov (.t 6),none⟩]) <|
  .block 0 (.loop [0] [2,3] (.seq (.seq (.reg [⟨(some 7),.mov (.t 2),none⟩,
    ⟨(some 8),.mov (.t 3),none⟩,
    ⟨(some 9),.bin .lss (.t 7) (.t 8),none⟩]) <|
  .cond (.t 9) (.skip) (.exit 0)) <|
  .seq (.block 1 (.dreg [⟨(some 14),.mov (.t 0),none⟩,
    ⟨(some 15),.mov (.t 2),none⟩,
    ⟨(some 16),.mov (.t 0),none⟩,
    ⟨(some 17),.mov (.t 3),none⟩,
    ⟨(some 18),.mov (.t 0),none⟩,
    ⟨(some 19),.mov (.t 3),none⟩,
    ⟨(some 20),.iadd (.t 18) (.t 19) 1,none⟩,
    ⟨(some 21),.ld (.t 20) 1 false,none⟩,
    ⟨(some 22),.mov (.t 0),none⟩,
    ⟨(some 23),.mov (.t 2),none⟩,
    ⟨(some 24),.iadd (.t 22) (.t 23) 1,none⟩,
    ⟨(some 25),.ld (.t 24) 1 false,none⟩,
    ⟨(some 26),.iadd (.t 14) (.t 15) 1,none⟩,
    ⟨(some 27),.iadd (.t 16) (.t 17) 1,none⟩] [⟨none,.st (.t 26) (.t 21) 1,none⟩,
    ⟨none,.st (.t 27) (.t 25) 1,none⟩] [⟨(some 27),.iadd (.t 16) (.t 17) 1,none⟩])) <|
  .reg [⟨(some 10),.mov (.t 2),none⟩,
    ⟨(some 11),.bin .add (.t 10) (.c (.int .i64 1)),none⟩,
    ⟨(some 12),.mov (.t 3),none⟩,
    ⟨(some 13),.bin .sub (.t 12) (.c (.int .i64 1)),none⟩,
    ⟨(some 2),.mov (.t 11),none⟩,
    ⟨(some 3),.mov (.t 13),none⟩])),
  []⟩
theorem jB:cFn PP true eV jd (cDr PP 28 jO)=some eX:=by kernel_rfl
def rM:Nat->Option (List Nat×List Nat)
  | _=>none
def tZ:Nat->Option (List Nat×List Nat×List Nat)
  | _=>none
def o5:aA:=⟨30,
  .seq (.reg [⟨(some 4),.mov (.c (.int .u64 0)),none⟩,
    ⟨(some 5),.mov (.c (.int .u64 0)),none⟩]) <|
  .seq (.cond (.c (.bool false)) (.seq (.reg [⟨(some 11),.mov (.t 0),none⟩,
    ⟨(some 12),.conv .u32 (.t 11),none⟩,
    ⟨(some 13),.mov (.t 1),none⟩,
    ⟨(some 14),.conv .u32 (.t 13),none⟩,
    ⟨(some 15),.call uo [(.t 12),(.t 14)],none⟩,
    ⟨(some 10),.mov (.t 15),none⟩,
    ⟨(some 16),.ext (.t 10) 0,none⟩,
    ⟨(some 17),.ext (.t 10) 1,none⟩,
    ⟨(some 6),.mov (.t 16),none⟩,
    ⟨(some 7),.mov (.t 17),none⟩]) <|
  .seq (.reg [⟨(some 18),.mov (.t 6),none⟩,
    ⟨(some 19),.conv .u64 (.t 18),none⟩,
    ⟨(some 20),.mov (.t 7),none⟩,
    ⟨(some 21),.conv .u64 (.t 20),none⟩,
    ⟨(some 4),.mov (.t 19),none⟩,
    ⟨(some 5),.mov (.t 21),none⟩]) <|
  .ret) (.skip)) <|
  .seq (.reg [⟨(some 23),.mov (.t 0),none⟩,
    ⟨(some 24),.mov (.t 1),none⟩,
    ⟨(some 25),.call lj [(.t 23),(.t 24)],none⟩,
    ⟨(some 22),.mov (.t 25),none⟩,
    ⟨(some 26),.ext (.t 22) 0,none⟩,
    ⟨(some 27),.ext (.t 22) 1,none⟩,
    ⟨(some 8),.mov (.t 26),none⟩,
    ⟨(some 9),.mov (.t 27),none⟩]) <|
  .seq (.reg [⟨(some 28),.mov (.t 8),none⟩,
    ⟨(some 29),.mov (.t 9),none⟩,
    ⟨(some 4),.mov (.t 28),none⟩,
    ⟨(some 5),.mov (.t 29),none⟩]) <|
  .ret,
  [.t 4,.t 5]⟩
theorem tK:cFn PP true oC rM (cDr PP 30 tZ)=some o5:=by kernel_rfl
def pd:Nat->Option (List Nat×List Nat)
  | _=>none
def rD:Nat->Option (List Nat×List Nat×List Nat)
  | _=>none
def lQ:aA:=⟨51,
  .seq (.reg [⟨(some 4),.mov (.c (.int .u64 0)),none⟩,
    ⟨(some 5),.mov (.c (.int .u64 0)),none⟩]) <|
  .seq (.reg [⟨(some 14),.mov (.t 0),none⟩,
    ⟨(some 15),.bin .and (.t 14) (.c (.int .u64 4294967295)),none⟩,
    ⟨(some 6),.mov (.t 15),none⟩]) <|
  .seq (.reg [⟨(some 16),.mov (.t 0),none⟩,
    ⟨(some 17),.bin .shr (.t 16) (.c (.int .u64 32)),none⟩,
    ⟨(some 7),.mov (.t 17),none⟩]) <|
  .seq (.reg [⟨(some 18),.mov (.t 1),none⟩,
    ⟨(some 19),.bin .and (.t 18) (.c (.int .u64 4294967295)),none⟩,
    ⟨(some 8),.mov (.t 19),none⟩]) <|
  .seq (.reg [⟨(some 20),.mov (.t 1),none⟩,
    ⟨(some 21),.bin .shr (.t 20) (.c (.int .u64 32)),none⟩,
    ⟨(some 9),.mov (.t 21),none⟩]) <|
  .seq (.reg [⟨(some 22),.mov (.t 6),none⟩,
    ⟨(some 23),.mov (.t 8),none⟩,
    ⟨(some 24),.bin .mul (.t 22) (.t 23),none⟩,
    ⟨(some 10),.mov (.t 24),none⟩]) <|
  .seq (.reg [⟨(some 25),.mov (.t 7),none⟩,
    ⟨(some 26),.mov (.t 8),none⟩,
    ⟨(some 27),.bin .mul (.t 25) (.t 26),none⟩,
    ⟨(some 28),.mov (.t 10),none⟩,
    ⟨(some 29),.bin .shr (.t 28) (.c (.int .u64 32)),none⟩,
    ⟨(some 30),.bin .add (.t 27) (.t 29),none⟩,
    ⟨(some 11),.mov (.t 30),none⟩]) <|
  .seq (.reg [⟨(some 31),.mov (.t 11),none⟩,
    ⟨(some 32),.bin .and (.t 31) (.c (.int .u64 4294967295)),none⟩,
    ⟨(some 12),.mov (.t 32),none⟩]) <|
  .seq (.reg [⟨(some 33),.mov (.t 11),none⟩,
    ⟨(some 34),.bin .shr (.t 33) (.c (.int .u64 32)),none⟩,
    ⟨(some 13),.mov (.t 34),none⟩]) <|
  .seq (.reg [⟨(some 35),.mov (.t 12),none⟩,
    ⟨(some 36),.mov (.t 6),none⟩,
    ⟨(some 37),.mov (.t 9),none⟩,
    ⟨(some 38),.bin .mul (.t 36) (.t 37),none⟩,
    ⟨(some 39),.bin .add (.t 35) (.t 38),none⟩,
    ⟨(some 12),.mov (.t 39),none⟩]) <|
  .seq (.reg [⟨(some 40),.mov (.t 7),none⟩,
    ⟨(some 41),.mov (.t 9),none⟩,
    ⟨(some 42),.bin .mul (.t 40) (.t 41),none⟩,
    ⟨(some 43),.mov (.t 13),none⟩,
    ⟨(some 44),.bin .add (.t 42) (.t 43),none⟩,
    ⟨(some 45),.mov (.t 12),none⟩,
    ⟨(some 46),.bin .shr (.t 45) (.c (.int .u64 32)),none⟩,
    ⟨(some 47),.bin .add (.t 44) (.t 46),none⟩,
    ⟨(some 4),.mov (.t 47),none⟩]) <|
  .seq (.reg [⟨(some 48),.mov (.t 0),none⟩,
    ⟨(some 49),.mov (.t 1),none⟩,
    ⟨(some 50),.bin .mul (.t 48) (.t 49),none⟩,
    ⟨(some 5),.mov (.t 50),none⟩]) <|
  .ret,
  [.t 4,.t 5]⟩
theorem qL:cFn PP true lj pd (cDr PP 51 rD)=some lQ:=by kernel_rfl
end Go.Am
namespace Go.Am
open Go Go.Proofs
def fsz0 (f:FuncId):Option aA:=match f with
  | 8=>some nj
  | 15=>some vq
  | 17=>some vk
  | 18=>some iS
  | 20=>some sO
  | 22=>some xj
  | 23=>some nh
  | 27=>some vz
  | 28=>some lU
  | 30=>some o7
  | 44=>some iR
  | 47=>some o0
  | 48=>some sI
  | 49=>some m8
  | 50=>some nc
  | 51=>some gZ
  | 52=>some bo
  | 55=>some oZ
  | 56=>some bN
  | 58=>some cV
  | 59=>some jM
  | 60=>some lO
  | 65=>some gT
  | 68=>some kh
  | 71=>some sM
  | 72=>some sL
  | 73=>some vr
  | 74=>some sN
  | 75=>some m9
  | 76=>some vt
  | _=>none
theorem Jj {f:FuncId}{F:aA}(h:fsz0 f=some F):∃fz loops dr,cFn PP fz f loops dr=some F/\qT PP F.nt dr:=by
  unfold fsz0 at h
  split at h
  · cases h;exact⟨_,_,_,rW,ar _ _ _⟩
  · cases h;exact⟨_,_,_,xX,ar _ _ _⟩
  · cases h;exact⟨_,_,_,xU,ar _ _ _⟩
  · cases h;exact⟨_,_,_,ni,ar _ _ _⟩
  · cases h;exact⟨_,_,_,wJ,ar _ _ _⟩
  · cases h;exact⟨_,_,_,zB,ar _ _ _⟩
  · cases h;exact⟨_,_,_,rV,ar _ _ _⟩
  · cases h;exact⟨_,_,_,x8,ar _ _ _⟩
  · cases h;exact⟨_,_,_,qR,ar _ _ _⟩
  · cases h;exact⟨_,_,_,tM,ar _ _ _⟩
  · cases h;exact⟨_,_,_,ng,ar _ _ _⟩
  · cases h;exact⟨_,_,_,tJ,ar _ _ _⟩
  · cases h;exact⟨_,_,_,wB,ar _ _ _⟩
  · cases h;exact⟨_,_,_,rS,ar _ _ _⟩
  · cases h;exact⟨_,_,_,rU,ar _ _ _⟩
  · cases h;exact⟨_,_,_,lP,ar _ _ _⟩
  · cases h;exact⟨_,_,_,cH,ar _ _ _⟩
  · cases h;exact⟨_,_,_,tI,ar _ _ _⟩
  · cases h;exact⟨_,_,_,dK,ar _ _ _⟩
  · cases h;exact⟨_,_,_,fB,ar _ _ _⟩
  · cases h;exact⟨_,_,_,oq,ar _ _ _⟩
  · cases h;exact⟨_,_,_,qJ,ar _ _ _⟩
  · cases h;exact⟨_,_,_,la,ar _ _ _⟩
  · cases h;exact⟨_,_,_,o4,ar _ _ _⟩
  · cases h;exact⟨_,_,_,wF,ar _ _ _⟩
  · cases h;exact⟨_,_,_,wE,ar _ _ _⟩
  · cases h;exact⟨_,_,_,xY,ar _ _ _⟩
  · cases h;exact⟨_,_,_,wG,ar _ _ _⟩
  · cases h;exact⟨_,_,_,rT,ar _ _ _⟩
  · cases h;exact⟨_,_,_,x4,ar _ _ _⟩
  · cases h
def fsz1 (f:FuncId):Option aA:=match f with
  | 77=>some xk
  | 78=>some qG
  | 79=>some g9
  | 81=>some oY
  | 82=>some qF
  | 83=>some cb
  | 84=>some dJ
  | 87=>some eg
  | 88=>some o6
  | 89=>some sK
  | 90=>some fH
  | 91=>some sP
  | 92=>some kT
  | 93=>some jL
  | 94=>some zJ
  | 95=>some m7
  | 96=>some xn
  | 97=>some vj
  | 98=>some br
  | 99=>some lN
  | 100=>some cG
  | 109=>some lR
  | 110=>some sJ
  | 111=>some zF
  | 112=>some o8
  | 113=>some xm
  | 114=>some eY
  | 115=>some zH
  | 116=>some bC
  | 122=>some qO
  | _=>none
theorem Ji {f:FuncId}{F:aA}(h:fsz1 f=some F):∃fz loops dr,cFn PP fz f loops dr=some F/\qT PP F.nt dr:=by
  unfold fsz1 at h
  split at h
  · cases h;exact⟨_,_,_,zD,ar _ _ _⟩
  · cases h;exact⟨_,_,_,vo,ar _ _ _⟩
  · cases h;exact⟨_,_,_,lV,ar _ _ _⟩
  · cases h;exact⟨_,_,_,tH,ar _ _ _⟩
  · cases h;exact⟨_,_,_,ve,ar _ _ _⟩
  · cases h;exact⟨_,_,_,eG,ar _ _ _⟩
  · cases h;exact⟨_,_,_,gV,ar _ _ _⟩
  · cases h;exact⟨_,_,_,iK,ar _ _ _⟩
  · cases h;exact⟨_,_,_,tL,ar _ _ _⟩
  · cases h;exact⟨_,_,_,wD,ar _ _ _⟩
  · cases h;exact⟨_,_,_,kX,ar _ _ _⟩
  · cases h;exact⟨_,_,_,wK,ar _ _ _⟩
  · cases h;exact⟨_,_,_,pz,ar _ _ _⟩
  · cases h;exact⟨_,_,_,nZ,ar _ _ _⟩
  · cases h;exact⟨_,_,_,zZ,ar _ _ _⟩
  · cases h;exact⟨_,_,_,rR,ar _ _ _⟩
  · cases h;exact⟨_,_,_,zI,ar _ _ _⟩
  · cases h;exact⟨_,_,_,xT,ar _ _ _⟩
  · cases h;exact⟨_,_,_,cx,ar _ _ _⟩
  · cases h;exact⟨_,_,_,qE,ar _ _ _⟩
  · cases h;exact⟨_,_,_,fp,ar _ _ _⟩
  · cases h;exact⟨_,_,_,qM,ar _ _ _⟩
  · cases h;exact⟨_,_,_,wC,ar _ _ _⟩
  · cases h;exact⟨_,_,_,zX,ar _ _ _⟩
  · cases h;exact⟨_,_,_,tN,ar _ _ _⟩
  · cases h;exact⟨_,_,_,zG,ar _ _ _⟩
  · cases h;exact⟨_,_,_,jC,ar _ _ _⟩
  · cases h;exact⟨_,_,_,zY,ar _ _ _⟩
  · cases h;exact⟨_,_,_,cI,ar _ _ _⟩
  · cases h;exact⟨_,_,_,vv,ar _ _ _⟩
  · cases h
def fsz2 (f:FuncId):Option aA:=match f with
  | 123=>some xl
  | 124=>some kW
  | 125=>some fA
  | 126=>some np
  | 127=>some qQ
  | 129=>some lS
  | 130=>some eX
  | 131=>some o5
  | 133=>some lQ
  | _=>none
theorem Jh {f:FuncId}{F:aA}(h:fsz2 f=some F):∃fz loops dr,cFn PP fz f loops dr=some F/\qT PP F.nt dr:=by
  unfold fsz2 at h
  split at h
  · cases h;exact⟨_,_,_,zE,ar _ _ _⟩
  · cases h;exact⟨_,_,_,pF,ar _ _ _⟩
  · cases h;exact⟨_,_,_,kg,ar _ _ _⟩
  · cases h;exact⟨_,_,_,rX,ar _ _ _⟩
  · cases h;exact⟨_,_,_,vw,ar _ _ _⟩
  · cases h;exact⟨_,_,_,qN,ar _ _ _⟩
  · cases h;exact⟨_,_,_,jB,ar _ _ _⟩
  · cases h;exact⟨_,_,_,tK,ar _ _ _⟩
  · cases h;exact⟨_,_,_,qL,ar _ _ _⟩
  · cases h
def fsz (f:FuncId):Option aA:=match fsz0 f with
  | some F=>some F
  | none=>match fsz1 f with
  | some F=>some F
  | none=>match fsz2 f with
  | some F=>some F
  | none=>none
theorem LA {f:FuncId}{F:aA}(h:fsz f=some F):∃fz loops dr,cFn PP fz f loops dr=some F/\qT PP F.nt dr:=by
  unfold fsz at h
  split at h
  · rename_i h1;cases h;exact Jj h1
  split at h
  · rename_i h1;cases h;exact Ji h1
  split at h
  · rename_i h1;cases h;exact Jh h1
  cases h
theorem Kn:∀f F,fsz f=some F->∀ds K h,Iw PP F ds K h->ah PP f ds h K:=by
  intro f F hf ds K h hv
  obtain⟨fz,loops,dr,h1,h2⟩:=LA hf
  exact zt h1 h2 hv
end Go.Am
