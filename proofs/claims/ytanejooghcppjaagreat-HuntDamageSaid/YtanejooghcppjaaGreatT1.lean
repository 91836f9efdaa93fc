/- The texts of the functions of this chapter, as the abstract machine has them. No condition. -/
import Derived.Test.YtanejooghcppjaaGreatProg
import Derived.KernelRfl
import Derived.Test.YtanejooghcppjaaGreatA3
set_option linter.unnecessarySimpa false
set_option linter.defProp false
set_option linter.unusedSectionVars false
set_option linter.unusedSimpArgs false
set_option linter.unusedVariables false
namespace Go.Am
open Go Go.Proofs
noncomputable abbrev PP:Program:=Tryz.prog
abbrev qS:FuncId:=4
abbrev kz:FuncId:=5
abbrev zP:FuncId:=6
abbrev cO:FuncId:=7
abbrev qQ:FuncId:=8
abbrev qP:FuncId:=9
abbrev ig:FuncId:=10
abbrev nS:FuncId:=12
abbrev jR:FuncId:=15
abbrev wH:FuncId:=16
abbrev nT:FuncId:=17
abbrev fo:FuncId:=18
abbrev cD:FuncId:=19
abbrev wF:FuncId:=20
abbrev zS:FuncId:=21
abbrev wG:FuncId:=22
abbrev tV:FuncId:=23
abbrev qO:FuncId:=24
abbrev aw:FuncId:=25
abbrev qR:FuncId:=26
abbrev gh:FuncId:=27
abbrev fC:FuncId:=28
abbrev br:FuncId:=29
abbrev bf:FuncId:=30
abbrev bc:FuncId:=31
abbrev cV:FuncId:=32
abbrev jT:FuncId:=33
abbrev nW:FuncId:=34
abbrev iO:FuncId:=35
abbrev gj:FuncId:=36
abbrev bT:FuncId:=37
abbrev jx:FuncId:=38
abbrev tU:FuncId:=39
abbrev pk:FuncId:=40
abbrev cQ:FuncId:=41
abbrev aR:FuncId:=42
abbrev lF:FuncId:=43
abbrev jm:FuncId:=44
abbrev bJ:FuncId:=45
abbrev kA:FuncId:=46
abbrev nU:FuncId:=47
abbrev dk:FuncId:=48
abbrev cR:FuncId:=49
abbrev gu:FuncId:=50
abbrev mN:FuncId:=51
abbrev jl:FuncId:=52
abbrev gA:FuncId:=53
abbrev jV:FuncId:=54
abbrev mL:FuncId:=55
abbrev gQ:FuncId:=56
abbrev uI:FuncId:=57
abbrev ic:FuncId:=58
abbrev wJ:FuncId:=59
abbrev bp:FuncId:=60
abbrev lk:FuncId:=61
abbrev cG:FuncId:=62
abbrev uJ:FuncId:=63
abbrev jz:FuncId:=64
abbrev jy:FuncId:=65
abbrev iM:FuncId:=66
abbrev eH:FuncId:=67
abbrev lj:FuncId:=68
abbrev ij:FuncId:=69
abbrev bS:FuncId:=70
abbrev bX:FuncId:=71
abbrev mK:FuncId:=72
abbrev gk:FuncId:=73
abbrev pn:FuncId:=74
abbrev cn:FuncId:=75
abbrev nV:FuncId:=76
abbrev wI:FuncId:=77
abbrev dY:FuncId:=78
abbrev gY:FuncId:=79
abbrev mM:FuncId:=80
abbrev cH:FuncId:=81
abbrev gr:FuncId:=82
abbrev gl:FuncId:=83
abbrev sB:FuncId:=84
abbrev sA:FuncId:=85
abbrev bV:FuncId:=86
abbrev jw:FuncId:=87
abbrev lG:FuncId:=88
abbrev cB:FuncId:=89
abbrev qi:FuncId:=90
abbrev bj:FuncId:=91
abbrev cP:FuncId:=92
abbrev kB:FuncId:=93
abbrev aU:FuncId:=94
abbrev jU:FuncId:=95
abbrev gi:FuncId:=96
abbrev nX:FuncId:=97
abbrev kC:FuncId:=98
abbrev fX:FuncId:=99
abbrev gX:FuncId:=100
abbrev jS:FuncId:=101
abbrev gW:FuncId:=102
abbrev gV:FuncId:=103
abbrev gT:FuncId:=104
abbrev iZ:FuncId:=105
abbrev ja:FuncId:=106
abbrev qh:FuncId:=107
abbrev nN:FuncId:=108
abbrev pj:FuncId:=109
abbrev er:FuncId:=110
abbrev jv:FuncId:=111
abbrev mI:FuncId:=112
abbrev qN:FuncId:=113
abbrev ky:FuncId:=114
abbrev zO:FuncId:=115
abbrev zR:FuncId:=116
abbrev ph:FuncId:=117
abbrev cN:FuncId:=118
abbrev zQ:FuncId:=119
abbrev Fa:FuncId:=120
abbrev mJ:FuncId:=121
def aN:Option aJ->ACode
 | some F=>F.code
 | none=>.skip
abbrev dQ (F:aJ) (K:HKq) (l:List D) (h:Heap):Prop:=vcC PP F.code (λ x e h'=>match x with|.exit _=>False|.pan=>False|.jump _=>False|_=>mu PP F.res K e h') (params l 0) h
abbrev zI:D:=.int .i64 0
abbrev zJ:D:=.int .i32 0
abbrev xB (a:D) (h:Heap) (K:HKq):Prop:=ab PP (.box (.c a)) h K
abbrev xC (k:IntKind) (a:D) (h:Heap) (K:HKq):Prop:=ab PP (.conv k (.c a)) h K
abbrev xF (a:D) (n:Nat) (h:Heap) (K:HKq):Prop:=ab PP (.fadd (.c a) n) h K
abbrev xI (a b:D) (n:Nat) (h:Heap) (K:HKq):Prop:=ab PP (.iadd (.c a) (.c b) n) h K
abbrev xJ (a b:D) (n m:Nat) (h:Heap) (K:HKq):Prop:=ab PP (.iadda (.c a) (.c b) n m) h K
abbrev xL (a:D) (n:Nat) (b:Bool) (h:Heap) (K:HKq):Prop:=ab PP (.ld (.c a) n b) h K
abbrev xP (a b c:D) (h:Heap) (K:HKq):Prop:=ab PP (.pick (.c a) (.c b) (.c c)) h K
abbrev xS (a b:D) (n:Nat) (h:Heap) (K:HKq):Prop:=ab PP (.st (.c a) (.c b) n) h K
abbrev yC (k:IntKind) (a:D) (h:Heap) (K:D->Prop):Prop:=an PP (.conv k (.c a)) h K
abbrev yF (a:D) (n:Nat) (h:Heap) (K:D->Prop):Prop:=an PP (.fadd (.c a) n) h K
abbrev yI (a b:D) (n:Nat) (h:Heap) (K:D->Prop):Prop:=an PP (.iadd (.c a) (.c b) n) h K
abbrev yJ (a b:D) (n m:Nat) (h:Heap) (K:D->Prop):Prop:=an PP (.iadda (.c a) (.c b) n m) h K
abbrev yL (a:D) (n:Nat) (b:Bool) (h:Heap) (K:D->Prop):Prop:=an PP (.ld (.c a) n b) h K
abbrev yP (a b c:D) (h:Heap) (K:D->Prop):Prop:=an PP (.pick (.c a) (.c b) (.c c)) h K
end Go.Am
namespace Go.Am
open Go Go.Proofs
def wQ:TLq
 | 1000020=>some ([7,8,11],[])|1000030=>some ([7,11,13,15],[16,17])|25=>some ([7,11,13,14,15],[16,17,18])|_=>none
def zD:TTq
 | 7=>some ([0,0,0,6,0,0,62,127,0,511],[8,9],[])|10=>some ([0,1,0,4,12,0,35,127],[5,6],[2,3])|14=>some ([0,0,3,7,0,16,63,0,255,511],[9],[])|16=>some ([0,0,3,7,0,16,63,0,255,511],[9],[])|22=>some ([0,1,3,0,8,0,32,127,0,256,768,0,2048,0,8192,32767,65535,131071],[],[])|27=>some ([0,1,3,3,15,31,63,3,131,387,1023,2047,4095],[12],[])|28=>some ([0,1,3,3,15,31,63,3,131,387,1023,2047,4095],[12],[])|29=>some ([0,1,3,7,15,31,63,127,255,511,1023,2047,4095,8191,16383,32767,1023,66559,197631,524287,1048575,2097151,4194303,8388607,16777215,33554431,67108863,134217727,4194303,272629759,809500671,2147483647,4294967295,8589934591,17179869183,34359738367,68719476735],[],[])|_=>none
noncomputable abbrev rJ:=cFn PP true qS wQ (cDr PP 197 zD)
noncomputable def rR:aJ:=⟨197,aN rJ,[.t 6]⟩
theorem zl:rJ=some rR:=by kernel_rfl
def js (a:Heap) (b c d e f:D) (g:HJq):Prop :=
 ∃(h:Nat->HJq) (i:Nat),h i [(.bool false),(.bool false),(.int .i64 0)] a/\∀(a:Nat) (i:Nat->D) (j:Heap),h a [i 16,i 17,i 18] j->bq b j λ k=>vbin .lss (i 18) k λ k=>vcond k (aj (i 16) false (λ a=>a b) λ g=>aj (i 16) false (λ a=>a (i 18)) λ k=>aj (i 16) false (λ a=>yI g k 9 j λ b=>a b) λ g=>aj (i 16) false (λ a=>yF g 2 j λ b=>a b) λ g=>aj (i 16) false (λ a=>yL g 1 false j λ b=>a b) λ g=>aj (i 16) false (λ a=>yF c 3 j λ b=>a b) λ k=>aj (i 16) false (λ a=>yJ k (.int .i64 0) 2 1 j λ b=>a b) λ k=>aj (i 16) false (λ a=>yL k 1 false j λ b=>a b) λ k=>aj (i 16) false (λ a=>vbin .eql g k λ b=>a b) λ g=>yP (i 16) (.bool true) g j λ g=>aj (i 17) false (λ a=>a b) λ k=>aj (i 17) false (λ a=>a (i 18)) λ l=>aj (i 17) false (λ a=>yI k l 9 j λ b=>a b) λ k=>aj (i 17) false (λ a=>yF k 2 j λ b=>a b) λ k=>aj (i 17) false (λ a=>yL k 1 false j λ b=>a b) λ k=>aj (i 17) false (λ a=>yF c 3 j λ b=>a b) λ l=>aj (i 17) false (λ a=>yJ l (.int .i64 1) 2 1 j λ b=>a b) λ l=>aj (i 17) false (λ a=>yL l 1 false j λ b=>a b) λ l=>aj (i 17) false (λ a=>vbin .eql k l λ b=>a b) λ k=>yP (i 17) (.bool true) k j λ k=>vbin .add (i 18) (.int .i64 1) λ i=>aB [d,c,e,b,f] [d,c,e,b,f]/\∃b,b<a/\h b [g,k,i] j) (aB [d,c,e,f] [d,c,e,f]/\g [(i 16),(i 17)] j)
def rh (a b c:D) (d:Heap) (K:HKq):Prop :=
 xB a d λ a d=>xB b d λ b d=>xB c d λ c d=>ag PP kz [] d λ d e=>vun .not d λ f=>vcond f (K (.bool false) e) (xL a 1 true e λ a e=>ag PP zP [a] e λ a e=>ab PP (.ext (.c a) 0) e λ e f=>ab PP (.ext (.c a) 1) f λ a f=>ab PP (.alloc (.agg [zI,zI,zI,zI,zI,.nil,.nil,.nil])) f λ f g=>xS f e 8 g λ e g=>vun .not a λ a=>vcond a (K d g) (yL f 8 true g λ a=>yL f 8 true g λ e=>yL b 13 true g λ h=>an PP (.call qQ [(.c e),(.c h)]) g λ e=>yL f 8 true g λ h=>yL b 13 true g λ b=>an PP (.call qP [(.c h),(.c b)]) g λ b=>an PP (.call cO [(.c a),(.c e),(.c b)]) g λ a=>ab PP (.alloc (.agg [zI,.nil,.nil,zI,zI,zI,zI,zI,zI,zI])) g λ b e=>xS b a 10 e λ a e=>xF b 9 e λ a e=>xL a 1 false e λ a e=>vbin .neq a (.int .i64 0) λ a=>vcond a (K d e) (yF b 0 e λ a=>yL a 9 true e λ a=>yJ c (.int .i64 1) 3 1 e λ b=>yL b 1 false e λ g=>vbin .and g (.int .i64 1) λ h=>ab PP (.alloc (.agg [zI,.nil,.nil,zI,zI,zI,zI,zI,zI])) e λ e i=>((yJ c (.int .i64 1) 3 1 i λ a=>aB [a] [b])/\(yL b 1 false i λ a=>aB [a] [g])/\True)/\xS e a 9 i λ a i=>((yJ c (.int .i64 1) 3 1 i λ a=>aB [a] [b])/\(yL b 1 false i λ a=>aB [a] [g])/\True)/\∃(a:HJq),( ∀(b:Nat->D) (c:Heap),a [] c->xL f 8 true c λ a b=>xL e 9 true b λ b c=>ag PP ig [a,b] c λ a b=>ab PP (.alloc (.agg [.nil,.nil,zI])) b λ b c=>xS b a 3 c λ a c=>xF b 2 c λ a c=>xL a 1 false c λ a c=>vbin .neq a (.int .i64 0) λ a=>vcond a (xF b 2 c λ a c=>xL a 1 false c λ a c=>vbin .eql a (.int .i64 4) λ a=>vguard a false (λ a=>xF b 2 c λ b c=>a b c) c λ c e=>vguard a false (λ a=>xL c 1 false e λ b c=>a b c) e λ c e=>vguard a false (λ a=>vbin .eql c (.int .i64 1) λ b=>a b e) e λ c e=>xP a (.bool true) c e λ a c=>vguard a true (λ a=>xF b 0 c λ b c=>a b c) c λ c e=>vguard a true (λ a=>xJ c (.int .i64 0) 2 1 e λ b c=>a b c) e λ c e=>vguard a true (λ a=>xL c 1 false e λ b c=>a b c) e λ c e=>vguard a true (λ a=>bq c e λ b=>a b e) e λ c e=>vguard a true (λ a=>xF b 0 e λ b c=>a b c) e λ b e=>vguard a true (λ a=>xJ b (.int .i64 1) 2 1 e λ b c=>a b c) e λ b e=>vguard a true (λ a=>xL b 1 false e λ b c=>a b c) e λ b e=>vguard a true (λ a=>bq b e λ b=>a b e) e λ b e=>vguard a true (λ a=>vbin .add c b λ b=>a b e) e λ b c=>vguard a true (λ a=>vbin .eql b (.int .i64 0) λ b=>a b c) c λ b c=>xP a b (.bool false) c λ a b=>vguard a true (λ a=>a d b) b λ b c=>xP a b (.bool false) c λ a b=>K a b) (yF b 0 c λ a=>yJ a (.int .i64 0) 2 1 c λ a=>yL a 1 false c λ a=>yF e 7 c λ f=>yL f 1 false c λ f=>yF e 8 c λ g=>yL g 1 false c λ g=>an PP (.call nS [(.c a),(.c f),(.c g)]) c λ a=>yF b 0 c λ f=>yJ f (.int .i64 1) 2 1 c λ f=>yL f 1 false c λ f=>yF e 7 c λ g=>yL g 1 false c λ g=>yF e 8 c λ h=>yL h 1 false c λ h=>an PP (.call nS [(.c f),(.c g),(.c h)]) c λ f=>∃(g:HJq),( ∀(a:Nat->D) (c:Heap),g [a 16,a 17] c->aj (a 16) true (λ b=>b (a 17)) λ g=>yP (a 16) g (.bool false) c λ a=>aj a true (λ a=>a f) λ f=>aj a true (λ a=>bq f c λ b=>a b) λ f=>aj a true (λ a=>vbin .geq f (.int .i64 2) λ b=>a b) λ f=>yP a f (.bool false) c λ a=>aj a true (λ a=>yF b 0 c λ b=>a b) λ f=>aj a true (λ a=>yJ f (.int .i64 0) 2 1 c λ b=>a b) λ f=>aj a true (λ a=>yL f 1 false c λ b=>a b) λ f=>aj a true (λ a=>yI f (.int .i64 0) 9 c λ b=>a b) λ f=>aj a true (λ a=>yF f 2 c λ b=>a b) λ f=>aj a true (λ a=>yL f 1 false c λ b=>a b) λ f=>aj a true (λ a=>yF e 3 c λ b=>a b) λ g=>aj a true (λ a=>yJ g (.int .i64 0) 2 1 c λ b=>a b) λ g=>aj a true (λ a=>yL g 1 false c λ b=>a b) λ g=>aj a true (λ a=>vbin .eql f g λ b=>a b) λ f=>yP a f (.bool false) c λ a=>aj a true (λ a=>yF b 0 c λ b=>a b) λ b=>aj a true (λ a=>yJ b (.int .i64 1) 2 1 c λ b=>a b) λ b=>aj a true (λ a=>yL b 1 false c λ b=>a b) λ b=>aj a true (λ a=>yI b (.int .i64 0) 9 c λ b=>a b) λ b=>aj a true (λ a=>yF b 2 c λ b=>a b) λ b=>aj a true (λ a=>yL b 1 false c λ b=>a b) λ b=>aj a true (λ a=>yF e 3 c λ b=>a b) λ e=>aj a true (λ a=>yJ e (.int .i64 1) 2 1 c λ b=>a b) λ e=>aj a true (λ a=>yL e 1 false c λ b=>a b) λ e=>aj a true (λ a=>vbin .eql b e λ b=>a b) λ b=>yP a b (.bool false) c λ a=>aj a true (λ a=>a d) λ b=>yP a b (.bool false) c λ a=>K a c)/\js c a e d b f g))/\xJ c (.int .i64 0) 3 1 i λ b g=>xL b 1 false g λ b g=>vbin .and b (.int .i64 3) λ b=>vbin .eql b (.int .i64 0) λ i=>vcond i (yF e 3 g λ b=>yJ b h 2 1 g λ b=>yL b 1 false g λ b=>yJ c (.int .i64 2) 3 1 g λ c=>yL c 1 false g λ c=>vbin .add b c λ b=>yF e 3 g λ c=>yJ c h 2 1 g λ c=>xS c b 1 g λ b c=>aB [d,f,e] [d,f,e]/\a [] c) (vbin .eql b (.int .i64 1) λ i=>vcond i (yF e 5 g λ b=>yJ b h 2 1 g λ b=>yL b 1 false g λ b=>yJ c (.int .i64 2) 3 1 g λ c=>yL c 1 false g λ c=>vbin .add b c λ b=>yF e 5 g λ c=>yJ c h 2 1 g λ c=>xS c b 1 g λ b c=>aB [d,f,e] [d,f,e]/\a [] c) (vbin .eql b (.int .i64 2) λ b=>vcond b (xF e 7 g λ b g=>xL b 1 false g λ b g=>xJ c (.int .i64 2) 3 1 g λ c g=>xL c 1 false g λ c g=>vbin .add b c λ b=>xF e 7 g λ c g=>xS c b 1 g λ b c=>aB [d,f,e] [d,f,e]/\a [] c) (xF e 8 g λ b g=>xL b 1 false g λ b g=>xJ c (.int .i64 2) 3 1 g λ c g=>xL c 1 false g λ c g=>vbin .add b c λ b=>xF e 8 g λ c g=>xS c b 1 g λ b c=>aB [d,f,e] [d,f,e]/\a [] c))))))
theorem y9 (a0:D) (a1:D) (a2:D) (h0:Heap) (K:HKq):rh a0 a1 a2 h0 K=dQ rR K [a0,a1,a2] h0:=by kernel_rfl
def IV:TLq
 | _=>none
def LR:TTq
 | 2=>some ([0,0,2,6,1,31],[4],[2])|_=>none
noncomputable abbrev Ip:=cFn PP true zP IV (cDr PP 11 LR)
noncomputable def Iy:aJ:=⟨11,aN Ip,[.cell 2 8 true,.t 3]⟩
theorem LD:Ip=some Iy:=by kernel_rfl
def Ig (a:D) (b:Heap) (K:HKq):Prop :=
 xB a b λ a b=>ab PP (.alloc (.agg [zI,zI,zI,zI,zI,.nil,.nil,.nil])) b λ b c=>xL a 1 true c λ a c=>ag PP wF [a] c λ a c=>ab PP (.alloc (.agg [zI,zI,zI,zI,zI,.nil,.nil,.nil])) c λ c d=>xS c a 8 d λ a d=>yL c 8 true d λ a=>yF c 0 d λ c=>yL c 1 false d λ e=>vbin .leq e (.int .i64 4) λ f=>xS b a 8 d λ a d=>((yL c 1 false d λ a=>aB [a] [e])/\True)/\xL b 8 true d λ a b=>K (.tup [a,f]) d
theorem Lp (a0:D) (h0:Heap) (K:HKq):Ig a0 h0 K=dQ Iy K [a0] h0:=by kernel_rfl
def D7:TLq
 | _=>none
def GL:TTq
 | _=>none
noncomputable abbrev Bc:=cFn PP true cO D7 (cDr PP 19 GL)
noncomputable def Bu:aJ:=⟨19,aN Bc,[.cell 6 10 true]⟩
theorem Gm:Bc=some Bu:=by kernel_rfl
def AD (a b c:D) (d:Heap) (K:HKq):Prop :=
 xB a d λ a d=>xB b d λ b d=>ab PP (.alloc (.agg [zI,.nil,.nil,zI,zI,zI,zI,zI,zI,zI])) d λ d e=>xL a 8 true e λ a e=>xL b 2 true e λ b e=>ag PP zS [a,b,c] e λ a b=>ab PP (.ext (.c a) 0) b λ b c=>ab PP (.ext (.c a) 1) c λ a c=>ab PP (.alloc (.agg [zI,.nil,.nil,zI,zI,zI,zI,zI,zI])) c λ c e=>xS c b 9 e λ b e=>xL c 9 true e λ b c=>ab PP (.bld [zI,.nil,.nil,zI,zI,zI,zI,zI,zI,zI] [(0,9,(.c b)),(9,1,(.c a))]) c λ a b=>xS d a 10 b λ a b=>xL d 10 true b λ a c=>K a b
theorem FL (a0:D) (a1:D) (a2:D) (h0:Heap) (K:HKq):AD a0 a1 a2 h0 K=dQ Bu K [a0,a1,a2] h0:=by kernel_rfl
def D4:TLq
 | 1000005=>some ([2,3,4,5],[])|1000009=>some ([4,5],[])|5=>some ([2,3,4,5],[6])|_=>none
def GI:TTq
 | 3=>some ([0,1,0,4,12,31,63,127,255],[8],[])|7=>some ([0,1,0,4,0,28,60,124,252,511,1023,2047],[9,11],[])|_=>none
noncomputable abbrev A9:=cFn PP true qQ D4 (cDr PP 42 GI)
noncomputable def Bq:aJ:=⟨42,aN A9,[.cell 4 2 true]⟩
theorem Gj:A9=some Bq:=by kernel_rfl
def sK (a:Heap) (b c d e:D) (f:HJq):Prop :=
 ∃(g:Nat->HJq) (h:Nat),g h [(.int .i64 0)] a/\∀(a:Nat) (h:Nat->D) (i:Heap),g a [h 6] i->xF b 4 i λ i j=>xL i 1 false j λ i j=>vbin .lss (h 6) i λ i=>vcond i (yF c 1 j λ f=>yL f 1 false j λ f=>vbin .rem (h 6) (.int .i64 8) λ i=>yF d 1 j λ k=>yJ k i 8 1 j λ i=>yL i 1 false j λ i=>yC .i32 i j λ i=>an PP (.bldS false 1 1 (.int .i32 0) [(0,(.c i))]) j λ i=>yF c 1 j λ k=>ab PP (.app (.c f) (.c i) 1 4 (.int .i32 0)) j λ f i=>xS k f 1 i λ f i=>vbin .add (h 6) (.int .i64 1) λ f=>aB [b,d,e,c] [b,d,e,c]/\∃b,b<a/\g b [f] i) (aB [e,c] [e,c]/\f [] j)
def Ay (a b:D) (c:Heap) (K:HKq):Prop :=
 xB a c λ a c=>xB b c λ b c=>ab PP (.alloc (.agg [zI,.nil])) c λ c d=>xF b 0 d λ d e=>xL d 1 false e λ d e=>vbin .rem d (.int .u8 3) λ d=>xC .i64 d e λ d e=>vbin .add (.int .i64 1) d λ d=>ab PP (.bld [zI,.nil] [(0,1,(.c d))]) e λ d e=>ab PP (.alloc (.agg [zI,.nil])) e λ e f=>xS e d 2 f λ d f=>∃(d:HJq),( ∀(f:Nat->D) (g:Heap),d [] g->∃(d:HJq),( ∀(a:Nat->D) (b:Heap),d [] b->xL e 2 true b λ a b=>xS c a 2 b λ a b=>xL c 2 true b λ a c=>K a b)/\sK g a e b c d)/\xF a 0 f λ f g=>xL f 1 false g λ f g=>vbin .gtr f (.int .i64 0) λ f=>vcond f (yF e 0 g λ f=>yL f 1 false g λ f=>yF a 0 g λ h=>yL h 1 false g λ h=>vbin .quo (.int .i64 4096) h λ h=>an PP (.mn (.c f) (.c h)) g λ f=>an PP (.mx (.c f) (.c (.int .i64 1))) g λ f=>yF e 0 g λ h=>xS h f 1 g λ f g=>aB [a,b,c,e] [a,b,c,e]/\d [] g) (aB [a,b,c,e] [a,b,c,e]/\d [] g)
theorem FI (a0:D) (a1:D) (h0:Heap) (K:HKq):Ay a0 a1 h0 K=dQ Bq K [a0,a1] h0:=by kernel_rfl
def D3:TLq
 | 1000010=>some ([5],[])|3=>some ([3,5],[6])|1000005=>some ([3,5,6],[])|6=>some ([3,5,6],[7])|_=>none
def GH:TTq
 | 8=>some ([0,0,3,7,0,0,0,96,224,0,992,2016,4064,0,0,24576,57344,122880,262112,524287,1048575],[20],[])|_=>none
noncomputable abbrev A8:=cFn PP true qP D3 (cDr PP 47 GH)
noncomputable def Bp:aJ:=⟨47,aN A8,[.t 4]⟩
theorem Gi:A8=some Bp:=by kernel_rfl
def sJ (a:Heap) (b:D) (c:Nat->D) (d:D) (e:HJq):Prop :=
 ∃(f:Nat->HJq) (g:Nat),f g [(.int .i64 0)] a/\∀(a:Nat) (g:Nat->D) (h:Heap),f a [g 7] h->xI b (c 6) 1 h λ h i=>xL h 1 false i λ h i=>bq h i λ h=>vbin .lss (g 7) h λ h=>vcond h (yI b (c 6) 1 i λ e=>yL e 1 false i λ e=>vbin .add (c 6) (g 7) λ h=>vbin .rem h (.int .i64 4) λ h=>yF d 9 i λ j=>yJ j h 4 1 i λ h=>yL h 1 false i λ h=>yC .i32 h i λ h=>vbin .mul (g 7) (c 6) λ j=>vbin .rem j (.int .i64 5) λ j=>yC .i32 j i λ j=>vbin .add h j λ h=>yI e (g 7) 1 i λ e=>xS e h 1 i λ e h=>vbin .add (g 7) (.int .i64 1) λ e=>aB [d,b,(c 6)] [d,b,(c 6)]/\∃b,b<a/\f b [e] h) (aB [d,b,(c 6)] [d,b,(c 6)]/\e [] i)
def sI (a:Heap) (b c:D) (d:HJq):Prop :=
 ∃(e:Nat->HJq) (f:Nat),e f [(.int .i64 0)] a/\∀(a:Nat) (f:Nat->D) (g:Heap),e a [f 6] g->bq b g λ h=>vbin .lss (f 6) h λ h=>vcond h ( ∃(d:HJq),( ∀(g:Nat->D) (h:Heap),d [] h->vbin .add (f 6) (.int .i64 1) λ d=>aB [c,b] [c,b]/\∃b,b<a/\e b [d] h)/\sJ g b f c d) (aB [b] [b]/\d [] g)
def Ax (a b:D) (c:Heap) (K:HKq):Prop :=
 xB a c λ a c=>xB b c λ b c=>xF a 5 c λ a c=>xL a 1 false c λ a c=>ag PP wG [a,(.int .i64 1)] c λ a c=>∃(d:HJq),( ∀(b:Nat->D) (c:Heap),d [] c->K a c)/\sI c a b d
theorem FH (a0:D) (a1:D) (h0:Heap) (K:HKq):Ax a0 a1 h0 K=dQ Bp K [a0,a1] h0:=by kernel_rfl
def D8:TLq
 | _=>none
def GM:TTq
 | _=>none
noncomputable abbrev Bd:=cFn PP true ig D8 (cDr PP 16 GM)
noncomputable def Bv:aJ:=⟨16,aN Bd,[.cell 4 3 true]⟩
theorem Gn:Bd=some Bv:=by kernel_rfl
def AE (a b:D) (c:Heap) (K:HKq):Prop :=
 xB a c λ a c=>xB b c λ b c=>ab PP (.alloc (.agg [.nil,.nil,zI])) c λ c d=>xL a 8 true d λ a d=>xL b 9 true d λ b d=>ag PP tV [a,b] d λ a b=>ab PP (.ext (.c a) 0) b λ b d=>ab PP (.ext (.c a) 1) d λ a d=>ab PP (.alloc (.agg [.nil,.nil])) d λ d e=>xS d b 2 e λ b e=>xL d 2 true e λ b d=>ab PP (.bld [.nil,.nil,zI] [(0,2,(.c b)),(2,1,(.c a))]) d λ a b=>xS c a 3 b λ a b=>xL c 3 true b λ a c=>K a b
theorem FM (a0:D) (a1:D) (h0:Heap) (K:HKq):AE a0 a1 h0 K=dQ Bv K [a0,a1] h0:=by kernel_rfl
def Fg:TLq
 | 1000008=>some ([],[7])|3=>some ([0,1,2],[7,8])|1000005=>some ([0,1,2,8],[7])|_=>none
def IG:TTq
 | _=>none
noncomputable abbrev Dm:=cFn PP true nS Fg (cDr PP 47 IG)
noncomputable def Dx:aJ:=⟨47,aN Dm,[.t 6]⟩
theorem HE:Dm=some Dx:=by kernel_rfl
def vk (a:D) (b:Heap) (c d e:D) (f:HJq):Prop :=
 ∃(g:Nat->HJq) (h:Nat),g h [a,(.int .i64 0)] b/\∀(a:Nat) (b:Nat->D) (h:Heap),g a [b 7,b 8] h->bq c h λ i=>vbin .lss (b 8) i λ i=>vcond i ( ∃(f:HJq),( ∀(h:Nat->D) (i:Heap),f [h 7] i->vbin .add (b 8) (.int .i64 1) λ b=>aB [c,d,e] [c,d,e]/\∃c,c<a/\g c [(h 7),b] i)/\xI c (b 8) 9 h λ a g=>xL a 9 true g λ a g=>ag PP qO [a] g λ a g=>vguard a true (λ a=>a c g) g λ g h=>vguard a true (λ a=>a (b 8) h) h λ h i=>vguard a true (λ a=>xI g h 9 i λ b c=>a b c) i λ g h=>vguard a true (λ a=>xF g 6 h λ b c=>a b c) h λ g h=>vguard a true (λ a=>xL g 1 false h λ b c=>a b c) h λ g h=>vguard a true (λ a=>a d h) h λ h i=>vguard a true (λ a=>vbin .eql g h λ b=>a b i) i λ g h=>xP a g (.bool false) h λ a g=>vguard a true (λ a=>a c g) g λ g h=>vguard a true (λ a=>a (b 8) h) h λ h i=>vguard a true (λ a=>xI g h 9 i λ b c=>a b c) i λ g h=>vguard a true (λ a=>xF g 7 h λ b c=>a b c) h λ g h=>vguard a true (λ a=>xL g 1 false h λ b c=>a b c) h λ g h=>vguard a true (λ a=>a e h) h λ h i=>vguard a true (λ a=>vbin .eql g h λ b=>a b i) i λ g h=>xP a g (.bool false) h λ a g=>vcond a (xI c (b 8) 9 g λ a g=>xL a 9 true g λ a g=>ab PP (.bldS true 9 1 (.agg [zI,zI,zI,zI,zI,zI,zI,zI,zJ]) [(0,(.c a))]) g λ a g=>ab PP (.app (.c (b 7)) (.c a) 9 72 (.agg [zI,zI,zI,zI,zI,zI,zI,zI,zJ])) g λ a g=>aB [c,d,e,(b 8)] [c,d,e,(b 8)]/\f [a] g) (aB [c,d,e,(b 8)] [c,d,e,(b 8)]/\f [(b 7)] g)) (aB [] []/\f [(b 7)] h)
def Db (a b c:D) (d:Heap) (K:HKq):Prop :=
 ab PP (.bldS true 9 0 (.agg [zI,zI,zI,zI,zI,zI,zI,zI,zJ]) []) d λ d e=>∃(f:HJq),( ∀(a:Nat->D) (b:Heap),f [a 7] b->K (a 7) b)/\vk d e a b c f
theorem Hr (a0:D) (a1:D) (a2:D) (h0:Heap) (K:HKq):Db a0 a1 a2 h0 K=dQ Dx K [a0,a1,a2] h0:=by kernel_rfl
def D6:TLq
 | _=>none
def GK:TTq
 | _=>none
noncomputable abbrev Bb:=cFn PP true jR D6 (cDr PP 16 GK)
noncomputable def Bt:aJ:=⟨16,aN Bb,[.cell 6 8 true]⟩
theorem Gl:Bb=some Bt:=by kernel_rfl
def AB (a b c:D) (d:Heap) (K:HKq):Prop :=
 ab PP (.alloc (.agg [zI,zI,zI,zI,zI,.nil,.nil,.nil])) d λ d e=>ab PP (.bld [(.str ⟨#[]⟩),(.int .i64 0),(.int .i64 0),(.int .i64 0)] [(0,1,(.c (.str ⟨#[97]⟩))),(1,1,(.c b)),(2,1,(.c (.int .i64 1))),(3,1,(.c (.int .i64 8)))]) e λ b e=>ab PP (.bldS true 4 1 (.agg [(.str ⟨#[]⟩),(.int .i64 0),(.int .i64 0),(.int .i64 0)]) [(0,(.c b))]) e λ b e=>ab PP (.bld [zI,zI,zI,zI,zJ,zI,zI,zJ,zI,zI,zJ,zI,zI] [(0,1,(.c (.int .i64 5)))]) e λ e f=>ab PP (.bld [.nil,zI,zI,zI,zI,zJ,zI,zI,zJ,zI,zI,zJ,zI,zI] [(0,1,(.c c)),(1,13,(.c e))]) f λ c e=>ab PP (.bldS true 14 1 (.agg [.nil,zI,zI,zI,zI,zJ,zI,zI,zJ,zI,zI,zJ,zI,zI]) [(0,(.c c))]) e λ c e=>ab PP (.bld [zI,zI,zI,zI,zI,.nil,.nil,.nil] [(0,1,(.c a)),(1,1,(.c (.int .i64 1))),(2,1,(.c (.int .i64 4))),(5,1,(.c b)),(7,1,(.c c))]) e λ a b=>xS d a 8 b λ a b=>xL d 8 true b λ a c=>K a b
theorem FK (a0:D) (a1:D) (a2:D) (h0:Heap) (K:HKq):AB a0 a1 a2 h0 K=dQ Bt K [a0,a1,a2] h0:=by kernel_rfl
def Kw:TLq
 | _=>none
def M7:TTq
 | _=>none
noncomputable abbrev Lx:=cFn PP true wH Kw (cDr PP 9 M7)
noncomputable def LC:aJ:=⟨9,aN Lx,[.cell 4 15 true]⟩
theorem Md:Lx=some LC:=by kernel_rfl
def Lo (a b:D) (c:Heap) (K:HKq):Prop :=
 ab PP (.alloc (.agg [zI,zI,zI,zI,zI,zJ,zI,zI,zJ,zI,zI,zJ,zI,zI,zJ])) c λ c d=>ag PP cD [b] d λ b d=>ab PP (.bld [zI,zI,zI,zI,zI,zJ,zI,zI,zJ,zI,zI,zJ,zI,zI,zJ] [(0,1,(.c (.int .i64 5))),(1,1,(.c a)),(3,3,(.c b))]) d λ a b=>xS c a 15 b λ a b=>xL c 15 true b λ a c=>K a b
theorem Mc (a0:D) (a1:D) (h0:Heap) (K:HKq):Lo a0 a1 h0 K=dQ LC K [a0,a1] h0:=by kernel_rfl
def Fh:TLq
 | _=>none
def IH:TTq
 | 1=>some ([0,0,3,7],[3],[])|_=>none
noncomputable abbrev Dn:=cFn PP true nT Fh (cDr PP 6 IH)
noncomputable def Dy:aJ:=⟨6,aN Dn,[.cell 2 15 true]⟩
theorem HF:Dn=some Dy:=by kernel_rfl
def Dc (a:D) (b:Heap) (K:HKq):Prop :=
 xB a b λ a b=>ab PP (.alloc (.agg [zI,zI,zI,zI,zI,zJ,zI,zI,zJ,zI,zI,zJ,zI,zI,zJ])) b λ b c=>yL a 3 true c λ a=>an PP (.call cD [(.c (.int .i64 0))]) c λ d=>an PP (.bld [zI,zI,zI,zI,zI,zJ,zI,zI,zJ,zI,zI,zJ,zI,zI,zJ] [(0,1,(.c (.int .i64 8))),(6,3,(.c a)),(9,3,(.c d))]) c λ a=>xS b a 15 c λ a c=>xL b 15 true c λ a b=>K a c
theorem Hs (a0:D) (h0:Heap) (K:HKq):Dc a0 h0 K=dQ Dy K [a0] h0:=by kernel_rfl
def Fe:TLq
 | _=>none
def IE:TTq
 | _=>none
noncomputable abbrev Dj:=cFn PP true fo Fe (cDr PP 5 IE)
noncomputable def Dv:aJ:=⟨5,aN Dj,[.cell 2 3 true]⟩
theorem HC:Dj=some Dv:=by kernel_rfl
def C9 (a:D) (b:Heap) (K:HKq):Prop :=
 ab PP (.alloc (.agg [zI,zI,zJ])) b λ b c=>ab PP (.bld [zI,zI,zJ] [(0,1,(.c (.int .i64 1))),(2,1,(.c a))]) c λ a c=>xS b a 3 c λ a c=>xL b 3 true c λ a b=>K a c
theorem Ho (a0:D) (h0:Heap) (K:HKq):C9 a0 h0 K=dQ Dv K [a0] h0:=by kernel_rfl
end Go.Am
namespace Go.Am
open Go Go.Proofs
def IU:TLq
 | _=>none
def LQ:TTq
 | _=>none
noncomputable abbrev Io:=cFn PP true cD IU (cDr PP 5 LQ)
noncomputable def Ix:aJ:=⟨5,aN Io,[.cell 2 3 true]⟩
theorem LA:Io=some Ix:=by kernel_rfl
def Ie (a:D) (b:Heap) (K:HKq):Prop :=
 ab PP (.alloc (.agg [zI,zI,zJ])) b λ b c=>ab PP (.bld [zI,zI,zJ] [(0,1,(.c (.int .i64 2))),(1,1,(.c a))]) c λ a c=>xS b a 3 c λ a c=>xL b 3 true c λ a b=>K a c
theorem Ln (a0:D) (h0:Heap) (K:HKq):Ie a0 h0 K=dQ Ix K [a0] h0:=by kernel_rfl
def G3:TLq
 | 1000008=>some ([2,3],[])|4=>some ([2,3],[4])|1000019=>some ([2,3],[])|8=>some ([2,3],[5])|1000010=>some ([2,3,5],[])|1000015=>some ([2,3,5],[])|1000024=>some ([2,3],[])|_=>none
def J4:TTq
 | 2=>some ([0,0,0,4,12,30,62,12,254,511,1023,2047],[3,11],[999999])|4=>some ([0,1,3,7,15,31,63,127,7,263,775,1799,3847,7943,16383,32767,65535],[],[])|17=>some ([0,1,3,7,15,0,0,64,192,448,0,1216,0,7360,0,31936,0,65536,196608,524224,1048575,2097151,4194303],[7,11,13,15,22],[999999])|23=>some ([0,1,3,7,15,0,32,96,224,480,992,2016,0,8191,16383,32767],[15],[])|_=>none
noncomputable abbrev F1:=cFn PP true wF G3 (cDr PP 153 J4)
noncomputable def Gg:aJ:=⟨153,aN F1,[.cell 2 8 true]⟩
theorem Jh:F1=some Gg:=by kernel_rfl
def pz (a:D) (b:Heap) (c d:D) (e:HJq):Prop :=
 ∃(f:Nat->HJq) (g:Nat),f g [a] b/\∀(a:Nat) (b:Nat->D) (g:Heap),f a [b 5] g->vbin .gtr (b 5) (.int .i64 0) λ h=>vcond h ( ∃(e:HJq),( ∀(g:Nat->D) (h:Heap),e [] h->vbin .sub (b 5) (.int .i64 1) λ b=>aB [c,d] [c,d]/\∃c,c<a/\f c [b] h)/\ag PP aw [d] g λ a f=>vbin .rem a (.int .i64 3) λ a=>ag PP gh [d,a] f λ a f=>∃(a:HJq),( ∀(f:Nat->D) (g:Heap),a [] g->xF d 0 g λ a f=>xF a 2 f λ a f=>xF a 7 f λ a f=>xL a 1 false f λ a f=>bq a f λ a=>vbin .sub a (.int .i64 1) λ a=>xF d 0 f λ f g=>xF f 2 g λ f g=>xF f 7 g λ f g=>xL f 1 false g λ f g=>vbin .add a (.int .i64 1) λ h=>ab PP (.bld [zI,zI] [(0,1,(.c h)),(1,1,(.c (.int .i64 0)))]) g λ g h=>ab PP (.bld [zI,zI,zI,zI,zJ,zI,zI,zJ,zI,zI,zJ,zI,zI] [(0,1,(.c (.int .i64 3))),(11,2,(.c g))]) h λ g h=>xI f a 14 h λ f h=>xF f 1 h λ f h=>xS f g 13 h λ f g=>ag PP aw [d] g λ f g=>vbin .rem f (.int .i64 3) λ f=>vbin .eql f (.int .i64 0) λ f=>vcond f (yF d 0 g λ f=>yF f 2 g λ h=>yF h 7 g λ i=>yL i 1 false g λ j=>vbin .add a (.int .i64 1) λ k=>an PP (.bld [zI,zI] [(0,1,(.c k)),(1,1,(.c (.int .i64 0)))]) g λ k=>ag PP aw [d] g λ g l=>((yF d 0 l λ a=>aB [a] [f])/\(yF f 2 l λ a=>aB [a] [h])/\(yF h 7 l λ a=>aB [a] [i])/\(yL i 1 false l λ a=>aB [a] [j])/\True)/\vbin .rem g (.int .i64 6) λ g=>vbin .add (.int .i64 1) g λ g=>ag PP bf [d] l λ l m=>((yF d 0 m λ a=>aB [a] [f])/\(yF f 2 m λ a=>aB [a] [h])/\(yF h 7 m λ a=>aB [a] [i])/\(yL i 1 false m λ a=>aB [a] [j])/\True)/\ag PP bc [d] m λ m n=>((yF d 0 n λ a=>aB [a] [f])/\(yF f 2 n λ a=>aB [a] [h])/\(yF h 7 n λ a=>aB [a] [i])/\(yL i 1 false n λ a=>aB [a] [j])/\True)/\ag PP bc [d] n λ n o=>((yF d 0 o λ a=>aB [a] [f])/\(yF f 2 o λ a=>aB [a] [h])/\(yF h 7 o λ a=>aB [a] [i])/\(yL i 1 false o λ a=>aB [a] [j])/\True)/\an PP (.bld [zI,zI,zI,zI,zJ,zI,zI,zJ,zI,zI,zJ,zI,zI] [(0,1,(.c (.int .i64 4))),(1,1,(.c g)),(2,3,(.c l)),(5,3,(.c m)),(8,3,(.c n)),(11,2,(.c k))]) o λ f=>yI j a 14 o λ a=>yF a 1 o λ a=>xS a f 13 o λ a f=>aB [c,d,(b 5)] [c,d,(b 5)]/\e [] f) (aB [c,d,(b 5)] [c,d,(b 5)]/\e [] g))/\ag PP aw [d] f λ e f=>vbin .rem e (.int .i64 3) λ e=>vbin .eql e (.int .i64 0) λ e=>vcond e (ag PP fC [d] f λ e f=>ag PP br [d] f λ e f=>aB [c,d,(b 5)] [c,d,(b 5)]/\a [] f) (aB [c,d,(b 5)] [c,d,(b 5)]/\a [] f)) (aB [c,d] [c,d]/\e [] g)
def pw (a:D) (b:Heap) (c d:D) (e:HJq):Prop :=
 ∃(f:Nat->HJq) (g:Nat),f g [a] b/\∀(a:Nat) (b:Nat->D) (g:Heap),f a [b 4] g->vbin .gtr (b 4) (.int .i64 0) λ h=>aj h true (λ a=>a c) λ i=>aj h true (λ a=>yF i 0 g λ b=>a b) λ i=>aj h true (λ a=>yF i 2 g λ b=>a b) λ i=>aj h true (λ a=>yF i 0 g λ b=>a b) λ i=>aj h true (λ a=>yL i 1 false g λ b=>a b) λ i=>aj h true (λ a=>a c) λ j=>aj h true (λ a=>yF j 0 g λ b=>a b) λ j=>aj h true (λ a=>yF j 2 g λ b=>a b) λ j=>aj h true (λ a=>yF j 1 g λ b=>a b) λ j=>aj h true (λ a=>yL j 1 false g λ b=>a b) λ j=>aj h true (λ a=>vbin .mul (.int .i64 2) j λ b=>a b) λ j=>aj h true (λ a=>vbin .rem i j λ b=>a b) λ i=>aj h true (λ a=>vbin .eql i (.int .i64 0) λ b=>a b) λ i=>yP h i (.bool false) g λ h=>vcond h (xF c 0 g λ e g=>xF e 2 g λ e g=>xF e 1 g λ e g=>xL e 1 false g λ e g=>vbin .mul (.int .i64 2) e λ e=>xF c 0 g λ g h=>xF g 2 h λ g h=>xF g 1 h λ g h=>xS g e 1 h λ e g=>vbin .sub (b 4) (.int .i64 1) λ b=>aB [d,c] [d,c]/\∃c,c<a/\f c [b] g) (aB [d,c] [d,c]/\e [] g)
def FF (a:D) (b:Heap) (K:HKq):Prop :=
 xB a b λ a b=>ab PP (.alloc (.agg [zI,zI,zI,zI,zI,.nil,.nil,.nil])) b λ b c=>xF a 0 c λ a c=>xL a 1 false c λ a c=>ab PP (.bld [.nil,zI,zI,zI,zI,zI,zI,.nil,.nil,.nil] [(0,1,(.c a))]) c λ a c=>xB a c λ a c=>an PP (.bldS false 1 5 (.int .i64 0) [(0,(.c (.int .i64 4))),(1,(.c (.int .i64 1))),(2,(.c (.int .i64 2))),(3,(.c (.int .i64 8))),(4,(.c (.int .i64 6)))]) c λ d=>ag PP aw [a] c λ c e=>vbin .rem c (.int .i64 5) λ c=>yI d c 1 e λ c=>yL c 1 false e λ c=>an PP (.call qR []) e λ d=>an PP (.bld [zI,zI,zI,zI,zI,.nil,.nil,.nil] [(0,1,(.c c)),(1,1,(.c (.int .i64 1))),(2,1,(.c (.int .i64 6))),(4,1,(.c (.int .i64 3))),(5,1,(.c d))]) e λ c=>yF a 0 e λ d=>yF d 2 e λ d=>xS d c 8 e λ c d=>∃(c:HJq),( ∀(d:Nat->D) (e:Heap),c [] e->∃(c:HJq),( ∀(d:Nat->D) (e:Heap),c [] e->ag PP aw [a] e λ c d=>vbin .rem c (.int .i64 3) λ c=>ag PP gh [a,c] d λ c d=>∃(c:HJq),( ∀(d:Nat->D) (e:Heap),c [] e->yF a 0 e λ c=>yF c 2 e λ c=>yF c 7 e λ c=>yL c 1 false e λ c=>yF a 0 e λ d=>yF d 2 e λ d=>yF d 7 e λ d=>yL d 1 false e λ d=>bq d e λ d=>vbin .sub d (.int .i64 1) λ d=>an PP (.bld [zI,zI,zI,zI,zJ,zI,zI,zJ,zI,zI,zJ,zI,zI] [(0,1,(.c (.int .i64 5)))]) e λ f=>yI c d 14 e λ c=>yF c 1 e λ c=>xS c f 13 e λ c d=>xF a 0 d λ a c=>xF a 2 c λ a c=>xL a 8 true c λ a c=>xS b a 8 c λ a c=>xL b 8 true c λ a b=>K a c)/\ag PP aw [a] d λ d e=>vbin .rem d (.int .i64 3) λ d=>vbin .eql d (.int .i64 0) λ d=>vcond d (ag PP fC [a] e λ d e=>ag PP br [a] e λ d e=>ag PP cV [a] e λ d e=>aB [b,a] [b,a]/\c [] e) (aB [b,a] [b,a]/\c [] e))/\ag PP aw [a] e λ d e=>vbin .rem d (.int .i64 3) λ d=>pz d e b a c)/\ag PP aw [a] d λ d e=>vbin .rem d (.int .i64 3) λ d=>pw d e a b c
theorem I5 (a0:D) (h0:Heap) (K:HKq):FF a0 h0 K=dQ Gg K [a0] h0:=by kernel_rfl
def I0:TLq
 | 1000017=>some ([2,4,6,7,9,10],[])|8=>some ([2,4,6,7,9,10,39],[40])|1000016=>some ([2,4,6,7,9,10,39,40],[])|4000013=>some ([2,4,6,7,9,10,11,39,40],[1000000])|1000027=>some ([6,7],[])|17=>some ([2,4,6,7,9,10,65],[66])|1000026=>some ([2,4,6,7,9,10,65,66],[])|20=>some ([2,4,6,7,9,10,15,65,66],[16])|_=>none
def LY:TTq
 | 6=>some ([0,0,3,0,0,24,0,0,199,511],[6,7,8,9],[3])|12=>some ([0,0,0,0,0,24,0,0,248,511,1023,2047,2047,0,12287,32767],[5,8,9,13,14],[999996,3])|22=>some ([0,0,0,0,0,30,0,0,0,446,0,0,4030,8191,16383,32767,32767,0,196607,524287],[5,9,12,13,17,18],[999996,4])|_=>none
noncomputable abbrev Iu:=cFn PP true zS I0 (cDr PP 98 LY)
noncomputable def ID:aJ:=⟨98,aN Iu,[.cell 6 9 true,.cell 7 1 false]⟩
theorem LK:Iu=some ID:=by kernel_rfl
def BJ:ACode:=.tT [⟨(some 12),.alloc (.agg [.nil,.nil,.nilmap]),none⟩,
  ⟨none,.st (.t 12) (.t 47) 3,none⟩]
def BI:ACode:=.block 3 (.seq (.seq (.dreg [⟨(some 13),.mov (.c .undef),none⟩] [] []) <|
 .seq (.dreg [⟨(some 49),.ld (.t 9) 10 true,none⟩,
  ⟨(some 50),.ld (.t 12) 3 true,none⟩,
  ⟨(some 51),.ld (.t 10) 9 true,none⟩,
  ⟨(some 52),.ld (.t 9) 10 true,none⟩,
  ⟨(some 53),.ld (.t 11) 1 false,none⟩,
  ⟨(some 55),.ld (.t 9) 10 true,none⟩,
  ⟨(some 56),.ld (.t 11) 1 false,none⟩] [] []) <|
 .seq (.dreg [] [⟨(some 54),.call bT [(.t 52),(.t 53)],none⟩] [⟨(some 49),.ld (.t 9) 10 true,none⟩,
  ⟨(some 50),.ld (.t 12) 3 true,none⟩,
  ⟨(some 51),.ld (.t 10) 9 true,none⟩,
  ⟨(some 55),.ld (.t 9) 10 true,none⟩,
  ⟨(some 56),.ld (.t 11) 1 false,none⟩]) <|
 .seq (.dreg [] [⟨(some 57),.call bT [(.t 55),(.t 56)],none⟩] [⟨(some 49),.ld (.t 9) 10 true,none⟩,
  ⟨(some 50),.ld (.t 12) 3 true,none⟩,
  ⟨(some 51),.ld (.t 10) 9 true,none⟩]) <|
 .seq (.dreg [] [⟨(some 58),.call gj [(.t 49),(.t 50),(.t 51),(.t 54),(.t 57)],none⟩] []) <|
 .seq (.dreg [⟨(some 48),.mov (.t 58),none⟩,
  ⟨(some 59),.ext (.t 48) 0,none⟩,
  ⟨(some 60),.ext (.t 48) 1,none⟩] [⟨(some 13),.alloc (.agg [(.int .i64 0),.nil,.nil,(.int .i64 0),(.int .i64 0),(.int .i64 0),(.int .i64 0),(.int .i64 0),(.int .i64 0)]),none⟩] [⟨(some 49),.ld (.t 9) 10 true,none⟩,
  ⟨(some 50),.ld (.t 12) 3 true,none⟩,
  ⟨(some 51),.ld (.t 10) 9 true,none⟩,
  ⟨(some 52),.ld (.t 9) 10 true,none⟩,
  ⟨(some 53),.ld (.t 11) 1 false,none⟩,
  ⟨(some 55),.ld (.t 9) 10 true,none⟩,
  ⟨(some 56),.ld (.t 11) 1 false,none⟩]) <|
 .seq (.dreg [] [⟨none,.st (.t 13) (.t 59) 9,none⟩] []) <|
 .dreg [⟨(some 14),.mov (.t 60),none⟩] [] []) <|
 .seq (.tT [⟨(some 61),.mov (.t 14),none⟩]) <|
 .cond (.t 61) (.seq (.tT [⟨(some 62),.ld (.t 13) 9 true,none⟩,
  ⟨none,.st (.t 6) (.t 62) 9,none⟩,
  ⟨none,.st (.t 7) (.c (.int .i64 0)) 1,none⟩]) <|
 .ret) (.skip))
def AS (a:Nat) (b:fu) (c d e f g h i j k l:D) (m:Heap) (K:HKq):Prop :=
 ab PP (.alloc (.agg [.nil,.nil,.nilmap])) m λ d e=>xS d c 3 e λ c e=>Ex.normal=Ex.normal/\e a=.lp .ready b/\yL h 10 true (ak e a (.lp .busy b)) λ c=>yL d 3 true (ak e a (.lp .busy b)) λ k=>yL i 9 true (ak e a (.lp .busy b)) λ l=>yL h 10 true (ak e a (.lp .busy b)) λ m=>yL j 1 false (ak e a (.lp .busy b)) λ n=>yL h 10 true (ak e a (.lp .busy b)) λ o=>yL j 1 false (ak e a (.lp .busy b)) λ p=>ag PP bT [m,n] (ak e a (.lp .busy b)) λ e q=>((yL h 10 true q λ a=>aB [a] [c])/\(yL d 3 true q λ a=>aB [a] [k])/\(yL i 9 true q λ a=>aB [a] [l])/\(yL h 10 true q λ a=>aB [a] [o])/\(yL j 1 false q λ a=>aB [a] [p])/\True)/\ag PP bT [o,p] q λ q r=>((yL h 10 true r λ a=>aB [a] [c])/\(yL d 3 true r λ a=>aB [a] [k])/\(yL i 9 true r λ a=>aB [a] [l])/\True)/\ag PP gj [c,k,l,e,q] r λ e q=>an PP (.ext (.c e) 0) q λ r=>an PP (.ext (.c e) 1) q λ e=>ab PP (.alloc (.agg [zI,.nil,.nil,zI,zI,zI,zI,zI,zI])) q λ q s=>((yL h 10 true s λ a=>aB [a] [c])/\(yL d 3 true s λ a=>aB [a] [k])/\(yL i 9 true s λ a=>aB [a] [l])/\(yL h 10 true s λ a=>aB [a] [m])/\(yL j 1 false s λ a=>aB [a] [n])/\(yL h 10 true s λ a=>aB [a] [o])/\(yL j 1 false s λ a=>aB [a] [p])/\True)/\xS q r 9 s λ c d=>vcond e (xL q 9 true d λ c d=>xS f c 9 d λ c d=>xS g (.int .i64 0) 1 d λ c d=>d a=.lp .busy b/\K (.bool false) (ak d a (.lp (.done .ret) b))) (d a=.lp .busy b/\K (.bool true) (ak d a (.lp .ready b)))
theorem FV (n0:Nat) (B0:fu) (a47:D) (a2:D) (a4:D) (a6:D) (a7:D) (a9:D) (a10:D) (a11:D) (a39:D) (a40:D) (h0:Heap) (K:HKq):AS n0 B0 a47 a2 a4 a6 a7 a9 a10 a11 a39 a40 h0 K=JP PP n0 B0 [47] [a47] [(2,a2),(4,a4),(6,a6),(7,a7),(9,a9),(10,a10),(11,a11),(39,a39),(40,a40)] BJ BI h0 K:=by kernel_rfl
def AV (a:D) (b:Heap) (c d e f:D) (g:Nat->D) (h i j:D) (k:HJq) (K:HKq):Prop :=
 ∃(l:Nat->HJq) (m:Nat),l m [a] b/\∀(a:Nat) (b:Nat->D) (m:Heap),l a [b 16] m->xF c 0 m λ m n=>xL m 1 false n λ m n=>vbin .lss (b 16) m λ m=>vcond m (yL d 10 true n λ k=>yL d 10 true n λ m=>yL e 9 true n λ o=>yL d 10 true n λ p=>yL d 10 true n λ q=>ag PP jx [m,f,(g 66),(b 16)] n λ n r=>((yL d 10 true r λ a=>aB [a] [k])/\(yL e 9 true r λ a=>aB [a] [o])/\(yL d 10 true r λ a=>aB [a] [p])/\(yL d 10 true r λ a=>aB [a] [q])/\True)/\ag PP bT [p,(g 66)] r λ r s=>((yL d 10 true s λ a=>aB [a] [k])/\(yL e 9 true s λ a=>aB [a] [o])/\(yL d 10 true s λ a=>aB [a] [q])/\True)/\ag PP bT [q,(b 16)] s λ s t=>((yL d 10 true t λ a=>aB [a] [k])/\(yL e 9 true t λ a=>aB [a] [o])/\True)/\ag PP gj [k,n,o,r,s] t λ n r=>an PP (.ext (.c n) 0) r λ s=>an PP (.ext (.c n) 1) r λ n=>ab PP (.alloc (.agg [zI,.nil,.nil,zI,zI,zI,zI,zI,zI])) r λ r t=>((yL d 10 true t λ a=>aB [a] [k])/\(yL d 10 true t λ a=>aB [a] [m])/\(yL e 9 true t λ a=>aB [a] [o])/\(yL d 10 true t λ a=>aB [a] [p])/\(yL d 10 true t λ a=>aB [a] [q])/\True)/\xS r s 9 t λ k m=>vcond n (xL r 9 true m λ a b=>xS h a 9 b λ a b=>xS i (.int .i64 0) 1 b λ a b=>xL h 9 true b λ a c=>xL i 1 false b λ c d=>K (.tup [a,c]) b) (vbin .add (b 16) (.int .i64 1) λ b=>aB [f,c,h,i,d,e,(g 66),j,(g 66)] [f,c,h,i,d,e,(g 66),j,(g 66)]/\∃c,c<a/\l c [b] m)) (aB [f,c,h,i,d,e,j,(g 66)] [f,c,h,i,d,e,j,(g 66)]/\k [] n)
def AU (a:Heap) (b c d e f g h:D) (i:HJq) (K:HKq):Prop :=
 ∃(j:Nat->HJq) (k:Nat),j k [(.int .i64 0)] a/\∀(a:Nat) (k:Nat->D) (l:Heap),j a [k 66] l->vbin .lss (k 66) b λ m=>vcond m ( ∃(i:HJq),( ∀(l:Nat->D) (m:Heap),i [] m->vbin .add (k 66) (.int .i64 1) λ i=>aB [c,d,e,f,g,h,b] [c,d,e,f,g,h,b]/\∃b,b<a/\j b [i] m)/\vbin .add (k 66) (.int .i64 1) λ a=>AV a l d g h c k e f b i K) (aB [e,f] [e,f]/\i [] l)
def AT (a:Heap) (b c d e f g h:D) (i:HJq) (K:HKq):Prop :=
 ∃(j:Nat->HJq) (k:Nat),j k [(.int .i64 0)] a/\∀(a:Nat) (k:Nat->D) (l:Heap),j a [k 40] l->vbin .lss (k 40) b λ m=>vcond m ( ∃(i:HJq),( ∀(l:Nat->D) (m:Heap),i [] m->vbin .add (k 40) (.int .i64 1) λ i=>aB [c,d,e,f,g,h,b] [c,d,e,f,g,h,b]/\∃b,b<a/\j b [i] m)/\ab PP (.alloc (.int .i64 0)) l λ a j=>xS a (k 40) 1 j λ j l=>xL g 10 true l λ j l=>xL a 1 false l λ l m=>ag PP iO [j,c,l] m λ j l=>M0 PP j [47] [(2,c),(4,d),(6,e),(7,f),(9,g),(10,h),(11,a),(39,b),(40,(k 40))] BJ BI l λ a j=>ct a j (aB [c,d,e,f,g,h,b,(k 40)] [c,d,e,f,g,h,b,(k 40)]/\i [] (ak j a .dead)) (λ a=>(a=1000000/\(False))\/(False)) ((1000000=1000000/\(xL e 9 true (ak j a .dead) λ b c=>xL f 1 false (ak j a .dead) λ c d=>K (.tup [b,c]) (ak j a .dead)))\/(False))) (aB [c,d,e,f,g,h] [c,d,e,f,g,h]/\i [] l)
def Il (a b c:D) (d:Heap) (K:HKq):Prop :=
 xB a d λ a d=>xB b d λ b d=>ab PP (.alloc (.agg [zI,.nil,.nil,zI,zI,zI,zI,zI,zI])) d λ d e=>ab PP (.alloc (.int .i64 0)) e λ e f=>xL a 8 true f λ f g=>xL b 2 true g λ g h=>ag PP jT [f,g] h λ f g=>vbin .neq f (.int .i64 0) λ h=>vcond h (ab PP (.bld [zI,.nil,.nil,zI,zI,zI,zI,zI,zI] []) g λ a b=>xS d a 9 b λ a b=>xS e f 1 b λ a b=>xL d 9 true b λ a c=>xL e 1 false b λ c d=>K (.tup [a,c]) b) (xF a 5 g λ f g=>xL f 1 false g λ f g=>ag PP nW [f,(.int .i64 1),c] g λ f g=>vun .not f λ f=>vcond f (ab PP (.bld [zI,.nil,.nil,zI,zI,zI,zI,zI,zI] []) g λ a b=>xS d a 9 b λ a b=>xS e (.int .i64 1) 1 b λ a b=>xL d 9 true b λ a c=>xL e 1 false b λ c d=>K (.tup [a,c]) b) (yL a 8 true g λ a=>yL b 2 true g λ f=>an PP (.bld [zI,zI,zI,zI,zI,.nil,.nil,.nil,zI,.nil] [(0,8,(.c a)),(8,2,(.c f))]) g λ a=>yL b 2 true g λ f=>an PP (.bld [zI,.nil,.nil,zI,zI,zI,zI,zI,zI] [(0,2,(.c f)),(2,1,(.c c))]) g λ h=>ab PP (.alloc (.agg [zI,zI,zI,zI,zI,.nil,.nil,.nil,zI,.nil])) g λ g i=>((yL b 2 true i λ a=>aB [a] [f])/\True)/\ab PP (.alloc (.agg [zI,.nil,.nil,zI,zI,zI,zI,zI,zI])) i λ i j=>((yL b 2 true j λ a=>aB [a] [f])/\True)/\xS g a 10 j λ a j=>((yL b 2 true j λ a=>aB [a] [f])/\True)/\xS i h 9 j λ a h=>((yL b 2 true h λ a=>aB [a] [f])/\True)/\∃(a:HJq),( ∀(f:Nat->D) (h:Heap),a [] h->∃(a:HJq),( ∀(b:Nat->D) (c:Heap),a [] c->ab PP (.bld [zI,.nil,.nil,zI,zI,zI,zI,zI,zI] []) c λ a b=>xS d a 9 b λ a b=>xS e (.int .i64 4) 1 b λ a b=>xL d 9 true b λ a c=>xL e 1 false b λ c d=>K (.tup [a,c]) b)/\xF b 0 h λ f h=>xL f 1 false h λ f h=>AU h f c b d e g i a K)/\xF b 0 h λ f h=>xL f 1 false h λ f h=>AT h f c b d e g i a K))
theorem Lw (a0:D) (a1:D) (a2:D) (h0:Heap) (K:HKq):Il a0 a1 a2 h0 K=dQ ID K [a0,a1,a2] h0:=by kernel_rfl
def G4:TLq
 | 1000007=>some ([],[5])|3=>some ([0,1],[5,6])|_=>none
def J5:TTq
 | _=>none
noncomputable abbrev F3:=cFn PP false wG G4 (cDr PP 25 J5)
noncomputable def Gh:aJ:=⟨25,aN F3,[.t 4]⟩
theorem Ji:F3=some Gh:=by kernel_rfl
def xz (a:D) (b:Heap) (c d:D) (e:HJq):Prop :=
 ∃(f:Nat->HJq) (g:Nat),f g [a,(.int .i64 0)] b/\∀(a:Nat) (b:Nat->D) (g:Heap),f a [b 5,b 6] g->bq c g λ h=>vbin .lss (b 6) h λ h=>vcond h (xI c (b 6) 4 g λ e g=>xL e 4 true g λ e g=>ag PP tU [e,d] g λ e g=>ab PP (.mk 1 4 (.int .i32 0) (.c e) (.c e)) g λ e g=>ab PP (.bldS false 1 1 .nil [(0,(.c e))]) g λ e g=>ab PP (.app (.c (b 5)) (.c e) 1 24 .nil) g λ e g=>vbin .add (b 6) (.int .i64 1) λ b=>aB [c,d] [c,d]/\∃c,c<a/\f c [e,b] g) (aB [] []/\e [(b 5)] g)
def FG (a b:D) (c:Heap) (K:HKq):Prop :=
 ab PP (.bldS false 1 0 .nil []) c λ c d=>∃(e:HJq),( ∀(a:Nat->D) (b:Heap),e [a 5] b->K (a 5) b)/\xz c d a b e
theorem I6 (a0:D) (a1:D) (h0:Heap) (K:HKq):FG a0 a1 h0 K=dQ Gh K [a0,a1] h0:=by kernel_rfl
def Fp:TLq
 | 1000017=>some ([4,5],[])|4000014=>some ([3,4,5,7],[1000000])|_=>none
def IN:TTq
 | 5=>some ([0,1,3,0,8,31,0,64,192,0,512,1984,63,8191],[],[])|7=>some ([0,0,0,4,0,0,62,0,255,511,1023,1023,0,6143,16383],[12,13],[])|_=>none
noncomputable abbrev Du:=cFn PP true tV Fp (cDr PP 72 IN)
noncomputable def DD:aJ:=⟨72,aN Du,[.cell 4 2 true,.cell 5 1 false]⟩
theorem HL:Du=some DD:=by kernel_rfl
def vX:ACode:=.tT [⟨(some 12),.alloc (.agg [.nil,.nil,.nilmap]),none⟩,
  ⟨none,.st (.t 12) (.t 61) 3,none⟩]
def vW:ACode:=.block 1 (.seq (.tT [⟨(some 63),.ld (.t 7) 10 true,none⟩,
  ⟨(some 64),.ld (.t 12) 3 true,none⟩,
  ⟨(some 65),.ld (.t 3) 9 true,none⟩,
  ⟨(some 66),.call cQ [(.t 63),(.t 64),(.t 65)],none⟩,
  ⟨(some 62),.mov (.t 66),none⟩,
  ⟨(some 67),.ext (.t 62) 0,none⟩,
  ⟨(some 68),.ext (.t 62) 1,none⟩,
  ⟨(some 13),.alloc (.agg [.nil,.nil]),none⟩,
  ⟨none,.st (.t 13) (.t 67) 2,none⟩,
  ⟨(some 14),.mov (.t 68),none⟩]) <|
 .seq (.tT [⟨(some 69),.mov (.t 14),none⟩]) <|
 .cond (.t 69) (.seq (.tT [⟨(some 70),.ld (.t 13) 2 true,none⟩,
  ⟨none,.st (.t 4) (.t 70) 2,none⟩,
  ⟨none,.st (.t 5) (.c (.int .i64 0)) 1,none⟩]) <|
 .ret) (.skip))
def vw (a:Nat) (b:fu) (c d e f g:D) (h:Heap) (K:HKq):Prop :=
 ab PP (.alloc (.agg [.nil,.nil,.nilmap])) h λ h i=>xS h c 3 i λ c i=>Ex.normal=Ex.normal/\i a=.lp .ready b/\xL g 10 true (ak i a (.lp .busy b)) λ c g=>xL h 3 true g λ g h=>xL d 9 true h λ d h=>ag PP cQ [c,g,d] h λ c d=>ab PP (.ext (.c c) 0) d λ d g=>ab PP (.ext (.c c) 1) g λ c g=>ab PP (.alloc (.agg [.nil,.nil])) g λ g h=>xS g d 2 h λ d h=>vcond c (xL g 2 true h λ c d=>xS e c 2 d λ c d=>xS f (.int .i64 0) 1 d λ c d=>d a=.lp .busy b/\K (.bool false) (ak d a (.lp (.done .ret) b))) (h a=.lp .busy b/\K (.bool true) (ak h a (.lp .ready b)))
theorem CN (n0:Nat) (B0:fu) (a61:D) (a3:D) (a4:D) (a5:D) (a7:D) (h0:Heap) (K:HKq):vw n0 B0 a61 a3 a4 a5 a7 h0 K=JP PP n0 B0 [61] [a61] [(3,a3),(4,a4),(5,a5),(7,a7)] vX vW h0 K:=by kernel_rfl
def Di (a b:D) (c:Heap) (K:HKq):Prop :=
 xB a c λ a c=>xB b c λ b c=>ab PP (.alloc (.agg [.nil,.nil])) c λ c d=>ab PP (.alloc (.int .i64 0)) d λ d e=>xL a 8 true e λ e f=>xL b 9 true f λ f g=>ag PP pk [e,f] g λ e f=>vbin .neq e (.int .i64 0) λ g=>vcond g (ab PP (.bld [.nil,.nil] []) f λ a b=>xS c a 2 b λ a b=>xS d e 1 b λ a b=>xL c 2 true b λ a c=>xL d 1 false b λ c d=>K (.tup [a,c]) b) (xL a 8 true f λ e f=>xF b 0 f λ f g=>xL f 2 true g λ f g=>ab PP (.bld [zI,zI,zI,zI,zI,.nil,.nil,.nil,zI,.nil] [(0,8,(.c e)),(8,2,(.c f))]) g λ e f=>ab PP (.alloc (.agg [zI,zI,zI,zI,zI,.nil,.nil,.nil,zI,.nil])) f λ f g=>xS f e 10 g λ e g=>yF b 3 g λ e=>yJ e (.int .i64 0) 2 1 g λ e=>yL e 1 false g λ e=>yF a 0 g λ h=>yL h 1 false g λ h=>vbin .quo e h λ e=>yF b 3 g λ h=>yJ h (.int .i64 1) 2 1 g λ h=>yL h 1 false g λ h=>yF a 0 g λ a=>yL a 1 false g λ a=>vbin .quo h a λ a=>vbin .neq e a λ h=>vcond h (yL f 10 true g λ h=>yL f 10 true g λ f=>yF b 2 g λ i=>yL i 1 false g λ i=>an PP (.call jx [(.c f),(.c i),(.c e),(.c a)]) g λ a=>yL b 9 true g λ b=>an PP (.call cQ [(.c h),(.c a),(.c b)]) g λ a=>an PP (.ext (.c a) 0) g λ b=>an PP (.ext (.c a) 1) g λ a=>ab PP (.alloc (.agg [.nil,.nil])) g λ e f=>xS e b 2 f λ b f=>vcond a (xL e 2 true f λ a b=>xS c a 2 b λ a b=>xS d (.int .i64 0) 1 b λ a b=>xL c 2 true b λ a c=>xL d 1 false b λ c d=>K (.tup [a,c]) b) (ab PP (.bld [.nil,.nil] []) f λ a b=>xS c a 2 b λ a b=>xS d (.int .i64 4) 1 b λ a b=>xL c 2 true b λ a c=>xL d 1 false b λ c d=>K (.tup [a,c]) b)) ( ∃(a:HJq),( ∀(b:Nat->D) (e:Heap),a [] e->ab PP (.bld [.nil,.nil] []) e λ a b=>xS c a 2 b λ a b=>xS d (.int .i64 4) 1 b λ a b=>xL c 2 true b λ a c=>xL d 1 false b λ c d=>K (.tup [a,c]) b)/\xL f 10 true g λ g h=>xF b 2 h λ h i=>xL h 1 false i λ h i=>ag PP iO [g,h,e] i λ e g=>M0 PP e [61] [(3,b),(4,c),(5,d),(7,f)] vX vW g λ b e=>ct b e (aB [c,d] [c,d]/\a [] (ak e b .dead)) (λ a=>(a=1000000/\(False))\/(False)) ((1000000=1000000/\(xL c 2 true (ak e b .dead) λ a c=>xL d 1 false (ak e b .dead) λ c d=>K (.tup [a,c]) (ak e b .dead)))\/(False))))
theorem Hy (a0:D) (a1:D) (h0:Heap) (K:HKq):Di a0 a1 h0 K=dQ DD K [a0,a1] h0:=by kernel_rfl
def D2:TLq
 | _=>none
def GG:TTq
 | _=>none
noncomputable abbrev A7:=cFn PP true qO D2 (cDr PP 11 GG)
noncomputable def Bm:aJ:=⟨11,aN A7,[.t 2]⟩
theorem Gf:A7=some Bm:=by kernel_rfl
def Av (a:D) (b:Heap) (K:HKq):Prop :=
 xB a b λ a b=>xF a 0 b λ b c=>xL b 1 false c λ b c=>vbin .geq b (.int .i64 1) λ b=>vguard b true (λ b=>xF a 0 c λ a c=>b a c) c λ a c=>vguard b true (λ b=>xL a 1 false c λ a c=>b a c) c λ a c=>vguard b true (λ b=>vbin .leq a (.int .i64 3) λ a=>b a c) c λ a c=>xP b a (.bool false) c λ a b=>K a b
theorem FE (a0:D) (h0:Heap) (K:HKq):Av a0 h0 K=dQ Bm K [a0] h0:=by kernel_rfl
def wM:TLq
 | _=>none
def zA:TTq
 | 2=>some ([0,1,3,7,0,16,48,112,240,511],[],[])|4=>some ([0,1,3,7,0,16,48,112,240,511,1023,2047,4095],[],[])|_=>none
noncomputable abbrev rG:=cFn PP true aw wM (cDr PP 32 zA)
noncomputable def rN:aJ:=⟨32,aN rG,[.t 2]⟩
theorem zi:rG=some rN:=by kernel_rfl
def qY (a:D) (b:Heap) (K:HKq):Prop :=
 xF a 0 b λ b c=>xF b 1 c λ b c=>xL b 1 false c λ b c=>vbin .add b (.int .i64 1) λ b=>xF a 0 c λ c d=>xF c 1 d λ c d=>xS c b 1 d λ b c=>yF a 0 c λ b=>yF b 1 c λ b=>yL b 1 false c λ b=>yF a 0 c λ d=>yF d 0 c λ d=>yL d 1 false c λ d=>bq d c λ d=>vbin .gtr b d λ b=>vcond b (K (.int .i64 0) c) (yF a 0 c λ b=>yF b 0 c λ b=>yL b 1 false c λ b=>yF a 0 c λ a=>yF a 1 c λ a=>yL a 1 false c λ a=>vbin .sub a (.int .i64 1) λ a=>yI b a 1 c λ a=>yL a 1 false c λ a=>yC .i64 a c λ a=>K a c)
theorem yZ (a0:D) (h0:Heap) (K:HKq):qY a0 h0 K=dQ rN K [a0] h0:=by kernel_rfl
def D5:TLq
 | _=>none
def GJ:TTq
 | _=>none
noncomputable abbrev Ba:=cFn PP true qR D5 (cDr PP 7 GJ)
noncomputable def Br:aJ:=⟨7,aN Ba,[.t 0]⟩
theorem Gk:Ba=some Br:=by kernel_rfl
def Az (a:Heap) (K:HKq):Prop :=
 ab PP (.bld [(.str ⟨#[]⟩),(.int .i64 0),(.int .i64 0),(.int .i64 0)] [(0,1,(.c (.str ⟨#[97]⟩))),(1,1,(.c (.int .i64 1))),(2,1,(.c (.int .i64 1))),(3,1,(.c (.int .i64 8)))]) a λ a b=>ab PP (.bld [(.str ⟨#[]⟩),(.int .i64 0),(.int .i64 0),(.int .i64 0)] [(0,1,(.c (.str ⟨#[102]⟩))),(1,1,(.c (.int .i64 1))),(2,1,(.c (.int .i64 2))),(3,1,(.c (.int .i64 4)))]) b λ b c=>ab PP (.bld [(.str ⟨#[]⟩),(.int .i64 0),(.int .i64 0),(.int .i64 0)] [(0,1,(.c (.str ⟨#[115]⟩))),(1,1,(.c (.int .i64 2))),(2,1,(.c (.int .i64 1))),(3,1,(.c (.int .i64 8)))]) c λ c d=>ab PP (.bld [(.str ⟨#[]⟩),(.int .i64 0),(.int .i64 0),(.int .i64 0)] [(0,1,(.c (.str ⟨#[112]⟩))),(1,1,(.c (.int .i64 3))),(2,1,(.c (.int .i64 1))),(3,1,(.c (.int .i64 4)))]) d λ d e=>ab PP (.bld [(.str ⟨#[]⟩),(.int .i64 0),(.int .i64 0),(.int .i64 0)] [(0,1,(.c (.str ⟨#[98]⟩))),(1,1,(.c (.int .i64 2))),(2,1,(.c (.int .i64 3))),(3,1,(.c (.int .i64 4)))]) e λ e f=>ab PP (.bldS true 4 5 (.agg [(.str ⟨#[]⟩),(.int .i64 0),(.int .i64 0),(.int .i64 0)]) [(0,(.c a)),(1,(.c b)),(2,(.c c)),(3,(.c d)),(4,(.c e))]) f λ a b=>K a b
theorem FJ (h0:Heap) (K:HKq):Az h0 K=dQ Br K [] h0:=by kernel_rfl
def tW:TLq
 | 1000012=>some ([0],[])|4=>some ([0,5],[6])|1000011=>some ([0,5,6],[])|_=>none
def wo:TTq
 | 9=>some ([0,1,3,7,15,0,0,64,0,256,0,1216,0,0,12288,31936,65472,0,131072,0,527552,0,0,6291456,16256192,33426624,67108800,134217664,268435455,536870911,1073741823],[7,11,20,30],[999999])|_=>none
noncomputable abbrev oM:=cFn PP true gh tW (cDr PP 77 wo)
noncomputable def oU:aJ:=⟨77,aN oM,[]⟩
theorem vO:oM=some oU:=by kernel_rfl
def lW (a:D) (b:Heap) (c d:D) (e:HJq):Prop :=
 ∃(f:Nat->HJq) (g:Nat),f g [a] b/\∀(a:Nat) (b:Nat->D) (g:Heap),f a [b 6] g->vbin .lss (b 6) c λ h=>vcond h (ag PP cV [d] g λ e g=>xF d 0 g λ e g=>xF e 2 g λ e g=>xF e 7 g λ e g=>xL e 1 false g λ e g=>vbin .add (b 6) (.int .i64 1) λ h=>ab PP (.bld [zI,zI] [(0,1,(.c h)),(1,1,(.c (.int .i64 0)))]) g λ g h=>ab PP (.bld [zI,zI,zI,zI,zJ,zI,zI,zJ,zI,zI,zJ,zI,zI] [(0,1,(.c (.int .i64 1))),(11,2,(.c g))]) h λ g h=>xI e (b 6) 14 h λ e h=>xF e 1 h λ e h=>xS e g 13 h λ e g=>∃(e:HJq),( ∀(g:Nat->D) (h:Heap),e [] h->ag PP br [d] h λ e g=>vbin .add (b 6) (.int .i64 1) λ b=>aB [d,c] [d,c]/\∃c,c<a/\f c [b] g)/\ag PP aw [d] g λ a f=>vbin .rem a (.int .i64 2) λ a=>vbin .eql a (.int .i64 0) λ a=>vcond a (yF d 0 f λ a=>yF a 2 f λ g=>yF g 7 f λ h=>yL h 1 false f λ i=>vbin .add (b 6) (.int .i64 1) λ j=>vbin .sub c (b 6) λ k=>vbin .add (b 6) (.int .i64 1) λ l=>vbin .sub c (b 6) λ m=>ag PP bf [d] f λ f n=>((yF d 0 n λ b=>aB [b] [a])/\(yF a 2 n λ a=>aB [a] [g])/\(yF g 7 n λ a=>aB [a] [h])/\(yL h 1 false n λ a=>aB [a] [i])/\True)/\ag PP aw [d] n λ n o=>((yF d 0 o λ b=>aB [b] [a])/\(yF a 2 o λ a=>aB [a] [g])/\(yF g 7 o λ a=>aB [a] [h])/\(yL h 1 false o λ a=>aB [a] [i])/\True)/\vbin .rem n k λ k=>vbin .add j k λ j=>ag PP aw [d] o λ k n=>((yF d 0 n λ b=>aB [b] [a])/\(yF a 2 n λ a=>aB [a] [g])/\(yF g 7 n λ a=>aB [a] [h])/\(yL h 1 false n λ a=>aB [a] [i])/\True)/\vbin .rem k m λ a=>vbin .add l a λ a=>an PP (.bld [zI,zI] [(0,1,(.c j)),(1,1,(.c a))]) n λ a=>an PP (.bld [zI,zI,zI,zI,zJ,zI,zI,zJ,zI,zI,zJ,zI,zI] [(0,1,(.c (.int .i64 2))),(5,3,(.c f)),(11,2,(.c a))]) n λ a=>yI i (b 6) 14 n λ f=>yF f 1 n λ f=>xS f a 13 n λ a f=>aB [d,c,(b 6)] [d,c,(b 6)]/\e [] f) (aB [d,c,(b 6)] [d,c,(b 6)]/\e [] f)) (aB [d] [d]/\e [] g)
def ow (a b:D) (c:Heap) (K:HKq):Prop :=
 ag PP br [a] c λ c d=>xF a 0 d λ c d=>xF c 2 d λ c d=>xF c 7 d λ c d=>xL c 1 false d λ c d=>bq c d λ c=>vbin .sub c (.int .i64 1) λ c=>vbin .add c b λ b=>∃(e:HJq),( ∀(b:Nat->D) (c:Heap),e [] c->ag PP cV [a] c λ a b=>K (.tup []) b)/\lW c d b a e
theorem vj (a0:D) (a1:D) (h0:Heap) (K:HKq):ow a0 a1 h0 K=dQ oU K [a0,a1] h0:=by kernel_rfl
def wN:TLq
 | 1000008=>some ([],[0,2,3,4])|1000016=>some ([],[0,4,119])|_=>none
def zB:TTq
 | 9=>some ([0,1,3,7,15,0,0,64,192,0,512,0,2048,7680,16320,32767,65535,131071],[17],[])|15=>some ([0,1,3,7,15,0,32,0,128,0,0,1024,3584,8064,16383,32767,65535],[8,16],[999999])|_=>none
noncomputable abbrev rH:=cFn PP true fC wN (cDr PP 136 zB)
noncomputable def rO:aJ:=⟨136,aN rH,[]⟩
theorem zj:rH=some rO:=by kernel_rfl
def qZ (a:D) (b:Heap) (K:HKq):Prop :=
 xF a 0 b λ b c=>xF b 2 c λ b c=>xF b 6 c λ b c=>xL b 1 false c λ b c=>bq b c λ b=>vbin .mul (.int .i64 2) b λ b=>vbin .add (.int .i64 6) b λ b=>ag PP aw [a] c λ c d=>vbin .rem c (.int .i64 3) λ c=>vbin .add (.int .i64 1) c λ c=>vbin .add b (.int .i64 2) λ e=>xF a 0 d λ d f=>xF d 2 f λ d f=>xF d 2 f λ d f=>xS d e 1 f λ d e=>xF a 0 e λ d e=>xF d 2 e λ d e=>xF d 7 e λ d e=>xL d 1 false e λ d e=>bq d e λ d=>ag PP cD [b] e λ e f=>ag PP fo [(.int .i32 0)] f λ f g=>ab PP (.bld [zI,zI,zI,zI,zI,zJ,zI,zI,zJ,zI,zI,zJ,zI,zI,zJ] [(0,1,(.c (.int .i64 1))),(3,3,(.c e)),(6,3,(.c f))]) g λ e f=>ag PP aR [a,e] f λ e f=>xF a 0 f λ e f=>xF e 2 f λ e f=>xF e 7 f λ e f=>xL e 1 false f λ e f=>vbin .sub d (.int .i64 1) λ g=>ab PP (.bld [zI,zI] [(0,1,(.c d)),(1,1,(.c (.int .i64 0)))]) f λ f h=>ab PP (.bld [zI,zI,zI,zI,zJ,zI,zI,zJ,zI,zI,zJ,zI,zI] [(0,1,(.c (.int .i64 1))),(11,2,(.c f))]) h λ f h=>xI e g 14 h λ e g=>xF e 1 g λ e g=>xS e f 13 g λ e f=>∃(e:HJq),( ∀(a:Nat->D) (b:Heap),e [a 0,a 2,a 3,a 4] b->ag PP br [(a 0)] b λ b c=>vbin .add (a 2) (.int .i64 1) λ b=>ag PP cD [b] c λ b c=>ag PP cD [(a 2)] c λ c d=>xC .i32 (a 3) d λ d e=>ag PP fo [d] e λ d e=>ab PP (.bld [zI,zI,zI,zI,zI,zJ,zI,zI,zJ,zI,zI,zJ,zI,zI,zJ] [(0,1,(.c (.int .i64 3))),(1,1,(.c (.int .i64 26))),(3,3,(.c b)),(6,3,(.c c)),(9,3,(.c d))]) e λ b c=>ag PP aR [(a 0),b] c λ b c=>yF (a 0) 0 c λ b=>yF b 2 c λ b=>yF b 7 c λ b=>yL b 1 false c λ b=>vbin .add (a 2) (.int .i64 1) λ d=>an PP (.call cD [(.c d)]) c λ d=>vbin .add (a 4) (.int .i64 1) λ e=>vbin .add (a 4) (.int .i64 2) λ f=>an PP (.bld [zI,zI] [(0,1,(.c e)),(1,1,(.c f))]) c λ e=>an PP (.bld [zI,zI,zI,zI,zJ,zI,zI,zJ,zI,zI,zJ,zI,zI] [(0,1,(.c (.int .i64 2))),(5,3,(.c d)),(11,2,(.c e))]) c λ d=>yI b (a 4) 14 c λ b=>yF b 1 c λ b=>xS b d 13 c λ b c=>ag PP br [(a 0)] c λ b c=>ag PP cD [(a 2)] c λ b c=>ag PP cD [(a 2)] c λ c d=>ag PP fo [(.int .i32 1)] d λ d e=>ab PP (.bld [zI,zI,zI,zI,zI,zJ,zI,zI,zJ,zI,zI,zJ,zI,zI,zJ] [(0,1,(.c (.int .i64 3))),(1,1,(.c (.int .i64 10))),(3,3,(.c b)),(6,3,(.c c)),(9,3,(.c d))]) e λ b c=>ag PP aR [(a 0),b] c λ b c=>ag PP cV [(a 0)] c λ b c=>xF (a 0) 0 c λ b c=>xF b 2 c λ b c=>xF b 7 c λ b c=>xL b 1 false c λ b c=>vbin .add (a 4) (.int .i64 1) λ d=>ab PP (.bld [zI,zI] [(0,1,(.c (a 4))),(1,1,(.c (.int .i64 0)))]) c λ c e=>ab PP (.bld [zI,zI,zI,zI,zJ,zI,zI,zJ,zI,zI,zJ,zI,zI] [(0,1,(.c (.int .i64 1))),(11,2,(.c c))]) e λ c e=>xI b d 14 e λ b d=>xF b 1 d λ b d=>xS b c 13 d λ b c=>∃(b:HJq),( ∀(a:Nat->D) (c:Heap),b [a 0,a 4,a 119] c->vcond (a 119) (yF (a 0) 0 c λ b=>yF b 2 c λ d=>yF d 7 c λ e=>yL e 1 false c λ f=>vbin .add (a 4) (.int .i64 1) λ g=>vbin .add (a 4) (.int .i64 2) λ h=>an PP (.bld [zI,zI] [(0,1,(.c (a 4))),(1,1,(.c h))]) c λ h=>ag PP bf [(a 0)] c λ c i=>((yF (a 0) 0 i λ a=>aB [a] [b])/\(yF b 2 i λ a=>aB [a] [d])/\(yF d 7 i λ a=>aB [a] [e])/\(yL e 1 false i λ a=>aB [a] [f])/\True)/\an PP (.bld [zI,zI,zI,zI,zJ,zI,zI,zJ,zI,zI,zJ,zI,zI] [(0,1,(.c (.int .i64 2))),(5,3,(.c c)),(11,2,(.c h))]) i λ a=>yI f g 14 i λ b=>yF b 1 i λ b=>xS b a 13 i λ a b=>K (.tup []) b) (K (.tup []) c))/\ag PP aw [(a 0)] c λ c d=>vbin .rem c (.int .i64 3) λ c=>vbin .eql c (.int .i64 0) λ c=>aB [] []/\b [(a 0),(a 4),c] d)/\xF a 0 f λ f g=>xF f 2 g λ f g=>xF f 6 g λ f g=>xL f 1 false g λ f g=>ab PP (.bld [zI,zI,zI] [(0,1,(.c d)),(1,1,(.c b)),(2,1,(.c c))]) g λ g h=>ab PP (.bldS true 3 1 (.agg [zI,zI,zI]) [(0,(.c g))]) h λ g h=>ab PP (.app (.c f) (.c g) 3 24 (.agg [zI,zI,zI])) h λ f g=>xF a 0 g λ g h=>xF g 2 h λ g h=>xF g 6 h λ g h=>xS g f 1 h λ f g=>aB [] []/\e [a,b,c,d] g
theorem y7 (a0:D) (h0:Heap) (K:HKq):qZ a0 h0 K=dQ rO K [a0] h0:=by kernel_rfl
def uN:TLq
 | _=>none
def yt:TTq
 | _=>none
noncomputable abbrev pS:=cFn PP true br uN (cDr PP 14 yt)
noncomputable def p7:aJ:=⟨14,aN pS,[]⟩
theorem xl:pS=some p7:=by kernel_rfl
def pI (a:D) (b:Heap) (K:HKq):Prop :=
 xF a 0 b λ b c=>xF b 2 c λ b c=>xF b 7 c λ b c=>xL b 1 false c λ b c=>ab PP (.bld [.nil,zI,zI,zI,zI,zJ,zI,zI,zJ,zI,zI,zJ,zI,zI] []) c λ c d=>ab PP (.bldS true 14 1 (.agg [.nil,zI,zI,zI,zI,zJ,zI,zI,zJ,zI,zI,zJ,zI,zI]) [(0,(.c c))]) d λ c d=>ab PP (.app (.c b) (.c c) 14 128 (.agg [.nil,zI,zI,zI,zI,zJ,zI,zI,zJ,zI,zI,zJ,zI,zI])) d λ b c=>xF a 0 c λ a c=>xF a 2 c λ a c=>xF a 7 c λ a c=>xS a b 1 c λ a b=>K (.tup []) b
theorem w9 (a0:D) (h0:Heap) (K:HKq):pI a0 h0 K=dQ p7 K [a0] h0:=by kernel_rfl
def yE:TLq
 | _=>none
def Cf:TTq
 | _=>none
noncomputable abbrev s8:=cFn PP true bf yE (cDr PP 7 Cf)
noncomputable def tD:aJ:=⟨7,aN s8,[.cell 2 3 true]⟩
theorem oW:s8=some tD:=by kernel_rfl
def mY (a:D) (b:Heap) (K:HKq):Prop :=
 ab PP (.alloc (.agg [zI,zI,zJ])) b λ b c=>ag PP aw [a] c λ a c=>vbin .rem a (.int .i64 6) λ a=>ag PP cD [a] c λ a c=>xS b a 3 c λ a c=>xL b 3 true c λ a b=>K a c
theorem ox (a0:D) (h0:Heap) (K:HKq):mY a0 h0 K=dQ tD K [a0] h0:=by kernel_rfl
def yD:TLq
 | _=>none
def Ce:TTq
 | _=>none
noncomputable abbrev s7:=cFn PP true bc yD (cDr PP 18 Ce)
noncomputable def tC:aJ:=⟨18,aN s7,[.cell 2 3 true]⟩
theorem oT:s7=some tC:=by kernel_rfl
def mX (a:D) (b:Heap) (K:HKq):Prop :=
 ab PP (.alloc (.agg [zI,zI,zJ])) b λ b c=>ag PP aw [a] c λ a c=>vbin .rem a (.int .i64 3) λ d=>vbin .eql d (.int .i64 0) λ d=>vcond d (vbin .quo a (.int .i64 3) λ a=>xC .i32 a c λ a c=>vbin .sub a (.int .i32 20) λ a=>ag PP fo [a] c λ a c=>xS b a 3 c λ a c=>xL b 3 true c λ a b=>K a c) (vbin .quo a (.int .i64 3) λ a=>vbin .rem a (.int .i64 6) λ a=>ag PP cD [a] c λ a c=>xS b a 3 c λ a c=>xL b 3 true c λ a b=>K a c)
theorem ou (a0:D) (h0:Heap) (K:HKq):mX a0 h0 K=dQ tC K [a0] h0:=by kernel_rfl
def uM:TLq
 | 1=>some ([0],[2])|_=>none
def yr:TTq
 | _=>none
noncomputable abbrev pR:=cFn PP true cV uM (cDr PP 12 yr)
noncomputable def p6:aJ:=⟨12,aN pR,[]⟩
theorem xk:pR=some p6:=by kernel_rfl
def mZ (a:D) (b:Heap) (c:D) (K:HKq):Prop :=
 ∃(d:Nat->HJq) (e:Nat),d e [a] b/\∀(a:Nat) (b:Nat->D) (e:Heap),d a [b 2] e->vbin .gtr (b 2) (.int .i64 0) λ f=>vcond f (ag PP lF [c] e λ e f=>vbin .sub (b 2) (.int .i64 1) λ b=>aB [c] [c]/\∃c,c<a/\d c [b] f) (K (.tup []) e)
def pH (a:D) (b:Heap) (K:HKq):Prop :=
 ag PP aw [a] b λ b c=>vbin .rem b (.int .i64 5) λ b=>mZ b c a K
theorem w8 (a0:D) (h0:Heap) (K:HKq):pH a0 h0 K=dQ p6 K [a0] h0:=by kernel_rfl
end Go.Am
namespace Go.Am
open Go Go.Proofs
def Ea:TLq
 | 1000007=>some ([],[])|_=>none
def GO:TTq
 | 4=>some ([0,1,3,7,15,31,15,79,207,511,1023,2047],[],[])|_=>none
noncomputable abbrev Bf:=cFn PP true jT Ea (cDr PP 62 GO)
noncomputable def By:aJ:=⟨62,aN Bf,[.t 4]⟩
theorem Gq:Bf=some By:=by kernel_rfl
def AH (a b:D) (c:Heap) (K:HKq):Prop :=
 xB a c λ a c=>xB b c λ b c=>∃(d:HJq),( ∀(a:Nat->D) (b:Heap),d [] b->K (.int .i64 40) b)/\xF a 0 c λ c e=>xL c 1 false e λ c e=>vbin .lss c (.int .i64 1) λ c=>vguard c false (λ b=>xF a 0 e λ a c=>b a c) e λ e f=>vguard c false (λ a=>xL e 1 false f λ b c=>a b c) f λ e f=>vguard c false (λ a=>vbin .gtr e (.int .i64 256) λ b=>a b f) f λ e f=>xP c (.bool true) e f λ c e=>vcond c (aB [] []/\d [] e) (xF a 1 e λ c e=>xL c 1 false e λ c e=>vbin .lss c (.int .i64 1) λ c=>vguard c false (λ b=>xF a 1 e λ a c=>b a c) e λ e f=>vguard c false (λ a=>xL e 1 false f λ b c=>a b c) f λ e f=>vguard c false (λ a=>vbin .gtr e (.int .i64 32) λ b=>a b f) f λ e f=>xP c (.bool true) e f λ c e=>vguard c false (λ b=>xF a 1 e λ a c=>b a c) e λ e f=>vguard c false (λ a=>xL e 1 false f λ b c=>a b c) f λ e f=>vguard c false (λ a=>xC .u64 e f λ b c=>a b c) f λ e f=>vguard c false (λ a=>ag PP jm [e] f λ b c=>a b c) f λ e f=>vguard c false (λ a=>vbin .neq e (.int .i64 1) λ b=>a b f) f λ e f=>xP c (.bool true) e f λ c e=>vguard c false (λ b=>xF a 0 e λ a c=>b a c) e λ e f=>vguard c false (λ a=>xL e 1 false f λ b c=>a b c) f λ e f=>vguard c false (λ b=>xF a 1 f λ a c=>b a c) f λ f g=>vguard c false (λ a=>xL f 1 false g λ b c=>a b c) g λ f g=>vguard c false (λ a=>vbin .rem e f λ b=>a b g) g λ e f=>vguard c false (λ a=>vbin .neq e (.int .i64 0) λ b=>a b f) f λ e f=>xP c (.bool true) e f λ c e=>vcond c (aB [] []/\d [] e) (yF b 0 e λ c=>yL c 1 false e λ c=>vbin .lss c (.int .i64 1) λ c=>aj c false (λ a=>yF b 0 e λ b=>a b) λ f=>aj c false (λ a=>yL f 1 false e λ b=>a b) λ f=>aj c false (λ b=>yF a 0 e λ a=>b a) λ g=>aj c false (λ a=>yL g 1 false e λ b=>a b) λ g=>aj c false (λ a=>vbin .quo (.int .i64 4096) g λ b=>a b) λ g=>aj c false (λ a=>vbin .gtr f g λ b=>a b) λ f=>yP c (.bool true) f e λ c=>vcond c (aB [] []/\d [] e) (xF b 1 e λ b c=>xL b 1 false c λ b c=>bq b c λ b=>xF a 4 c λ c e=>xL c 1 false e λ c e=>vbin .neq b c λ b=>vguard b false (λ b=>xF a 4 e λ a c=>b a c) e λ a c=>vguard b false (λ b=>xL a 1 false c λ a c=>b a c) c λ a c=>vguard b false (λ b=>vbin .gtr a (.int .i64 8) λ a=>b a c) c λ a c=>xP b (.bool true) a c λ a b=>vcond a (aB [] []/\d [] b) (K (.int .i64 0) b))))
theorem FO (a0:D) (a1:D) (h0:Heap) (K:HKq):AH a0 a1 h0 K=dQ By K [a0,a1] h0:=by kernel_rfl
def Fk:TLq
 | _=>none
def IK:TTq
 | _=>none
noncomputable abbrev Dr:=cFn PP true nW Fk (cDr PP 11 IK)
noncomputable def DB:aJ:=⟨11,aN Dr,[.t 6]⟩
theorem HI:Dr=some DB:=by kernel_rfl
def Df (a b c:D) (d:Heap) (K:HKq):Prop :=
 xB b d λ b d=>ab PP (.mkf kA [] [(.c b)]) d λ b d=>ag PP bJ [a,c,b] d λ a b=>K a b
theorem Hv (a0:D) (a1:D) (a2:D) (h0:Heap) (K:HKq):Df a0 a1 a2 h0 K=dQ DB K [a0,a1,a2] h0:=by kernel_rfl
def wR:TLq
 | _=>none
def zE:TTq
 | _=>none
noncomputable abbrev rK:=cFn PP true iO wR (cDr PP 8 zE)
noncomputable def rS:aJ:=⟨8,aN rK,[.t 6]⟩
theorem zm:rK=some rS:=by kernel_rfl
def rl (a b c:D) (d:Heap) (K:HKq):Prop :=
 xB a d λ a d=>xB b d λ b d=>xB c d λ c d=>ab PP (.mkf dk [] [(.c c),(.c a),(.c b)]) d λ a b=>K a b
theorem zc (a0:D) (a1:D) (a2:D) (h0:Heap) (K:HKq):rl a0 a1 a2 h0 K=dQ rS K [a0,a1,a2] h0:=by kernel_rfl
def yQ:TLq
 | 1000010=>some ([3,4,5,6,7,10,12],[])|3=>some ([3,4,5,6,7,10,12,31,32],[33])|1000009=>some ([3,4,5,6,7,10,12,31,32,33],[])|1000032=>some ([10],[])|10=>some ([4,5,6,7,10,12,52,53],[54])|1000031=>some ([4,5,6,7,10,12,52,53,54],[])|13=>some ([4,5,6,7,10,12,18,52,53,54,58,59],[60])|1000030=>some ([4,5,6,7,10,12,18,52,53,54,58,59,60],[])|17=>some ([4,5,6,7,10,12,18,20,52,53,54,58,59,60,69,70],[71])|1000029=>some ([4,5,6,7,10,12,18,20,52,53,54,58,59,60,69,70,71],[])|20=>some ([4,5,6,7,10,12,18,20,21,22,52,53,54,58,59,60,69,70,71,78,79],[80])|1000028=>some ([4,5,6,7,10,12,18,20,21,22,52,53,54,58,59,60,69,70,71,78,79,80],[])|_=>none
def Cm:TTq
 | 23=>some ([0,0,3,0,8,0,56,0,248,0,512,0,3584,0,15872,32760,0,65536,0,262144,7,1048583,3211263,7405567,15990783,32767999,67108863,134217727],[21,23,25,27],[4,6,10,12,17,19])|_=>none
noncomputable abbrev th:=cFn PP true gj yQ (cDr PP 152 Cm)
noncomputable def tK:aJ:=⟨152,aN th,[.cell 10 9 true,.t 11]⟩
theorem BD:th=some tK:=by kernel_rfl
def km (a:Heap) (b c d e f g h i j:D) (k:Nat->D) (l m n:D) (o:Nat->D) (p:D) (q:Nat->D) (r s t:D) (u:HJq) (K:HKq):Prop :=
 ∃(v:Nat->HJq) (w:Nat),v w [(.int .i64 0)] a/\∀(a:Nat) (w:Nat->D) (x:Heap),v a [w 80] x->vbin .lss (w 80) b λ y=>vcond y ( ∃(u:HJq),( ∀(x:Nat->D) (y:Heap),u [] y->vbin .add (w 80) (.int .i64 1) λ u=>aB [c,d,e,f,g,h,i,j,(k 71),l,m,n,(o 54),c,p,(q 60),r,s,(k 71),t,b] [c,d,e,f,g,h,i,j,(k 71),l,m,n,(o 54),c,p,(q 60),r,s,(k 71),t,b]/\∃b,b<a/\v b [u] y)/\xI t (w 80) 9 x λ a v=>xL a 9 true v λ a v=>ab PP (.alloc (.agg [zI,zI,zI,zI,zI,zI,zI,zI,zJ])) v λ v x=>xS v a 9 x λ a x=>xF l 6 x λ a x=>xL a 1 false x λ a x=>xF v 6 x λ x y=>xL x 1 false y λ x y=>vbin .neq a x λ a=>vguard a false (λ a=>xF l 7 y λ b c=>a b c) y λ x y=>vguard a false (λ a=>xL x 1 false y λ b c=>a b c) y λ x y=>vguard a false (λ a=>xF v 7 y λ b c=>a b c) y λ v y=>vguard a false (λ a=>xL v 1 false y λ b c=>a b c) y λ v y=>vguard a false (λ a=>vbin .neq x v λ b=>a b y) y λ v x=>xP a (.bool true) v x λ a v=>vguard a false (λ a=>xF e 1 v λ b c=>a b c) v λ v x=>vguard a false (λ a=>xL v 1 false x λ b c=>a b c) x λ v x=>vguard a false (λ a=>bq v x λ b=>a b x) x λ v x=>vguard a false (λ a=>vbin .eql v (.int .i64 2) λ b=>a b x) x λ v x=>vguard a false (λ a=>a v x) x λ v x=>vguard v true (λ a=>xF d 0 x λ b c=>a b c) x λ x y=>vguard v true (λ a=>xF x 5 y λ b c=>a b c) y λ x y=>vguard v true (λ a=>xL x 1 false y λ b c=>a b c) y λ x y=>vguard v true (λ a=>xF l 6 y λ b c=>a b c) y λ y z=>vguard v true (λ a=>xL y 1 false z λ b c=>a b c) z λ y z=>vguard v true (λ a=>xI x y 4 z λ b c=>a b c) z λ x y=>vguard v true (λ a=>xF x 1 y λ b c=>a b c) y λ x y=>vguard v true (λ a=>xL x 1 false y λ b c=>a b c) y λ x y=>vguard v true (λ a=>vbin .neq x (.int .i64 1) λ b=>a b y) y λ x y=>vguard a false (λ a=>xP v x (.bool false) y λ b c=>a b c) y λ v x=>xP a (.bool true) v x λ a v=>vcond a (aB [c,d,e,f,g,h,i,j,(k 71),l,m,n,(o 54),c,p,(q 60),r,s,(k 71),t,b,(w 80)] [c,d,e,f,g,h,i,j,(k 71),l,m,n,(o 54),c,p,(q 60),r,s,(k 71),t,b,(w 80)]/\u [] v) (an PP (.bld [zI,zI] [(0,1,(.c i)),(1,1,(.c j))]) v λ a=>yF e 2 v λ x=>yL x 1 false v λ y=>an PP (.look (.int .i64) (.c y) (.c i) (.int .i64 0) false) v λ z=>vbin .add z (k 71) λ A=>yF e 2 v λ B=>yL B 1 false v λ C=>an PP (.look (.int .i64) (.c C) (.c j) (.int .i64 0) false) v λ E=>vbin .add E (w 80) λ F=>an PP (.bld [zI,zI] [(0,1,(.c A)),(1,1,(.c F))]) v λ A=>yF l 6 v λ F=>yL F 1 false v λ G=>yF l 7 v λ H=>yL H 1 false v λ I=>yF f 3 v λ J=>yF f 5 v λ L=>yF f 7 v λ M=>yF f 8 v λ N=>xS J a 2 v λ a v=>((yL x 1 false v λ a=>aB [a] [y])/\(an PP (.look (.int .i64) (.c y) (.c i) (.int .i64 0) false) v λ a=>aB [a] [z])/\(yL B 1 false v λ a=>aB [a] [C])/\(an PP (.look (.int .i64) (.c C) (.c j) (.int .i64 0) false) v λ a=>aB [a] [E])/\(yL F 1 false v λ a=>aB [a] [G])/\(yL H 1 false v λ a=>aB [a] [I])/\True)/\xS L A 2 v λ a v=>((yL x 1 false v λ a=>aB [a] [y])/\(an PP (.look (.int .i64) (.c y) (.c i) (.int .i64 0) false) v λ a=>aB [a] [z])/\(yL B 1 false v λ a=>aB [a] [C])/\(an PP (.look (.int .i64) (.c C) (.c j) (.int .i64 0) false) v λ a=>aB [a] [E])/\(yL F 1 false v λ a=>aB [a] [G])/\(yL H 1 false v λ a=>aB [a] [I])/\True)/\xS M G 1 v λ a v=>((yL x 1 false v λ a=>aB [a] [y])/\(an PP (.look (.int .i64) (.c y) (.c i) (.int .i64 0) false) v λ a=>aB [a] [z])/\(yL B 1 false v λ a=>aB [a] [C])/\(an PP (.look (.int .i64) (.c C) (.c j) (.int .i64 0) false) v λ a=>aB [a] [E])/\(yL F 1 false v λ a=>aB [a] [G])/\(yL H 1 false v λ a=>aB [a] [I])/\True)/\xS N I 1 v λ a v=>((yL x 1 false v λ a=>aB [a] [y])/\(an PP (.look (.int .i64) (.c y) (.c i) (.int .i64 0) false) v λ a=>aB [a] [z])/\(yL B 1 false v λ a=>aB [a] [C])/\(an PP (.look (.int .i64) (.c C) (.c j) (.int .i64 0) false) v λ a=>aB [a] [E])/\(yL F 1 false v λ a=>aB [a] [G])/\(yL H 1 false v λ a=>aB [a] [I])/\True)/\xL d 10 true v λ a v=>xL e 3 true v λ v x=>xL f 9 true x λ x y=>ag PP cQ [a,v,x] y λ a v=>ab PP (.ext (.c a) 0) v λ v x=>ab PP (.ext (.c a) 1) x λ a x=>ab PP (.alloc (.agg [.nil,.nil])) x λ x y=>xS x v 2 y λ v x=>vcond a (xL f 9 true x λ a b=>xS g a 9 b λ a b=>xL g 9 true b λ a c=>K (.tup [a,(.bool true)]) b) (aB [c,d,e,f,g,h,i,j,(k 71),l,m,n,(o 54),c,p,(q 60),r,s,(k 71),t,b,(w 80)] [c,d,e,f,g,h,i,j,(k 71),l,m,n,(o 54),c,p,(q 60),r,s,(k 71),t,b,(w 80)]/\u [] x))) (aB [c,d,e,f,g,h,i,j,m,n,(o 54),c,p,(q 60),r,s,(k 71)] [c,d,e,f,g,h,i,j,m,n,(o 54),c,p,(q 60),r,s,(k 71)]/\u [] x)
def kj (a:Heap) (b c d e f g h i j k l:D) (m:Nat->D) (n:D) (o:Nat->D) (p:D) (q:HJq) (K:HKq):Prop :=
 ∃(r:Nat->HJq) (s:Nat),r s [(.int .i64 0)] a/\∀(a:Nat) (s:Nat->D) (t:Heap),r a [s 71] t->vbin .lss (s 71) b λ u=>vcond u ( ∃(q:HJq),( ∀(t:Nat->D) (u:Heap),q [] u->vbin .add (s 71) (.int .i64 1) λ q=>aB [c,d,e,f,g,h,i,j,k,l,(m 54),c,n,(o 60),p,b] [c,d,e,f,g,h,i,j,k,l,(m 54),c,n,(o 60),p,b]/\∃b,b<a/\r b [q] u)/\xI p (s 71) 9 t λ a r=>xL a 9 true r λ a r=>ab PP (.alloc (.agg [zI,zI,zI,zI,zI,zI,zI,zI,zJ])) r λ r t=>xS r a 9 t λ a t=>ab PP (.look (.int .i64) (.c h) (.c j) .nil false) t λ a t=>bq a t λ u=>km t u c d e f g h i j s r k l m n o p b a q K) (aB [c,d,e,f,g,h,i,k,l,(m 54),c,n,(o 60)] [c,d,e,f,g,h,i,k,l,(m 54),c,n,(o 60)]/\q [] t)
def ki (a:Heap) (b c d e f g h i j k:D) (l:Nat->D) (m:HJq) (K:HKq):Prop :=
 ∃(n:Nat->HJq) (o:Nat),n o [(.int .i64 0)] a/\∀(a:Nat) (o:Nat->D) (p:Heap),n a [o 60] p->vbin .lss (o 60) b λ q=>vcond q ( ∃(m:HJq),( ∀(p:Nat->D) (q:Heap),m [] q->vbin .add (o 60) (.int .i64 1) λ m=>aB [c,d,e,f,g,h,i,j,k,(l 54),c,b] [c,d,e,f,g,h,i,j,k,(l 54),c,b]/\∃b,b<a/\n b [m] q)/\xI c (o 60) 1 p λ a n=>xL a 1 false n λ a n=>vbin .geq i a λ p=>vcond p (aB [c,d,e,f,g,h,i,j,k,(l 54),c,b,(o 60)] [c,d,e,f,g,h,i,j,k,(l 54),c,b,(o 60)]/\m [] n) (ab PP (.look (.int .i64) (.c h) (.c i) .nil false) n λ n p=>bq n p λ q=>kj p q c d e f g h i a j k l b o n m K)) (aB [c,d,e,f,g,h,j,k,(l 54)] [c,d,e,f,g,h,j,k,(l 54)]/\m [] p)
def oz (a:Heap) (b c d e f g h i:D) (j:HJq) (K:HKq):Prop :=
 ∃(k:Nat->HJq) (l:Nat),k l [(.int .i64 0)] a/\∀(a:Nat) (l:Nat->D) (m:Heap),k a [l 54] m->vbin .lss (l 54) b λ n=>vcond n ( ∃(j:HJq),( ∀(m:Nat->D) (n:Heap),j [] n->vbin .add (l 54) (.int .i64 1) λ j=>aB [c,d,e,f,g,h,i,b] [c,d,e,f,g,h,i,b]/\∃b,b<a/\k b [j] n)/\xI i (l 54) 1 m λ a k=>xL a 1 false k λ a k=>bq c k λ m=>ki k m c d e f g h a i b l j K) (aB [g] [g]/\j [] m)
def kh (a:Heap) (b c d e f g h i j:D) (k:HJq):Prop :=
 ∃(l:Nat->HJq) (m:Nat),l m [(.int .i64 0)] a/\∀(a:Nat) (m:Nat->D) (n:Heap),l a [m 33] n->vbin .lss (m 33) b λ o=>vcond o ( ∃(k:HJq),( ∀(n:Nat->D) (o:Heap),k [] o->vbin .add (m 33) (.int .i64 1) λ k=>aB [c,d,e,f,g,h,i,j,b] [c,d,e,f,g,h,i,j,b]/\∃b,b<a/\l b [k] o)/\xI j (m 33) 1 n λ a l=>xL a 1 false l λ a l=>ab PP (.look (.int .i64) (.c i) (.c a) .nil true) l λ l n=>ab PP (.ext (.c l) 0) n λ n o=>ab PP (.ext (.c l) 1) o λ l n=>vun .not l λ l=>vcond l (xL e 10 true n λ l n=>xL f 3 true n λ n o=>ag PP jV [l,n,a] o λ l n=>ab PP (.mupd (.int .i64) (.c i) (.c a) (.c l)) n λ a l=>aB [c,d,e,f,g,h,i,j,b,(m 33)] [c,d,e,f,g,h,i,j,b,(m 33)]/\k [] l) (aB [c,d,e,f,g,h,i,j,b,(m 33)] [c,d,e,f,g,h,i,j,b,(m 33)]/\k [] n)) (aB [c,d,e,f,g,h,i] [c,d,e,f,g,h,i]/\k [] n)
def sR (a b c d e:D) (f:Heap) (K:HKq):Prop :=
 xB a f λ a f=>xB b f λ b f=>xB c f λ c f=>ab PP (.alloc (.agg [zI,.nil,.nil,zI,zI,zI,zI,zI,zI])) f λ f g=>ab PP (.mkm (.int .i64)) g λ g h=>∃(i:HJq),( ∀(h:Nat->D) (j:Heap),i [] j->∃(h:HJq),( ∀(a:Nat->D) (b:Heap),h [] b->ab PP (.bld [zI,.nil,.nil,zI,zI,zI,zI,zI,zI] []) b λ a b=>xS f a 9 b λ a b=>xL f 9 true b λ a c=>K (.tup [a,(.bool false)]) b)/\bq d j λ i=>oz j i e a b c f g d h K)/\ab PP (.bldS true 1 2 .nil [(0,(.c d)),(1,(.c e))]) h λ h j=>ag PP gA [h] j λ h j=>bq h j λ k=>kh j k d e a b c f g h i
theorem AN (a0:D) (a1:D) (a2:D) (a3:D) (a4:D) (h0:Heap) (K:HKq):sR a0 a1 a2 a3 a4 h0 K=dQ tK K [a0,a1,a2,a3,a4] h0:=by kernel_rfl
def yS:TLq
 | 1000008=>some ([],[5])|3=>some ([1,2,9],[5,10])|_=>none
def Co:TTq
 | _=>none
noncomputable abbrev tk:=cFn PP true bT yS (cDr PP 25 Co)
noncomputable def tN:aJ:=⟨25,aN tk,[.t 4]⟩
theorem BF:tk=some tN:=by kernel_rfl
def oD (a:Heap) (b c d:D) (e:HJq):Prop :=
 ∃(f:Nat->HJq) (g:Nat),f g [.nil,(.int .i64 0)] a/\∀(a:Nat) (g:Nat->D) (h:Heap),f a [g 5,g 10] h->vbin .lss (g 10) b λ i=>vcond i (xF c 0 h λ e h=>xF e 0 h λ e h=>xL e 1 false h λ e h=>vbin .mul d e λ e=>vbin .add e (g 10) λ e=>ab PP (.bldS true 1 1 (.int .i64 0) [(0,(.c e))]) h λ e h=>ab PP (.app (.c (g 5)) (.c e) 1 8 (.int .i64 0)) h λ e h=>vbin .add (g 10) (.int .i64 1) λ g=>aB [d,c,b] [d,c,b]/\∃b,b<a/\f b [e,g] h) (aB [] []/\e [(g 5)] h)
def sT (a b:D) (c:Heap) (K:HKq):Prop :=
 xB a c λ a c=>∃(d:HJq),( ∀(a:Nat->D) (b:Heap),d [a 5] b->K (a 5) b)/\xF a 0 c λ c e=>xF c 0 e λ c e=>xL c 1 false e λ c e=>oD e c a b d
theorem AP (a0:D) (a1:D) (h0:Heap) (K:HKq):sT a0 a1 h0 K=dQ tN K [a0,a1] h0:=by kernel_rfl
def yT:TLq
 | _=>none
def Cq:TTq
 | 1=>some ([0,0,0,6,0,0,62,126,255,511],[9],[])|_=>none
noncomputable abbrev tm:=cFn PP true jx yT (cDr PP 18 Cq)
noncomputable def tO:aJ:=⟨18,aN tm,[.cell 8 3 true]⟩
theorem BG:tm=some tO:=by kernel_rfl
def sU (a b c d:D) (e:Heap) (K:HKq):Prop :=
 xB a e λ a e=>ab PP (.alloc (.agg [.nil,.nil,.nilmap])) e λ e f=>yL a 10 true f λ g=>an PP (.call cR [(.c g),(.c c)]) f λ c=>yL a 10 true f λ a=>an PP (.call cR [(.c a),(.c d)]) f λ a=>an PP (.bldS false 3 2 (.agg [zI,.nil,.nil]) [(0,(.c c)),(1,(.c a))]) f λ a=>an PP (.bld [.nil,.nil,.nilmap] [(0,1,(.c b)),(1,1,(.c a))]) f λ a=>xS e a 3 f λ a b=>xL e 3 true b λ a c=>K a b
theorem AQ (a0:D) (a1:D) (a2:D) (a3:D) (h0:Heap) (K:HKq):sU a0 a1 a2 a3 h0 K=dQ tO K [a0,a1,a2,a3] h0:=by kernel_rfl
def Ff:TLq
 | _=>none
def IF:TTq
 | _=>none
noncomputable abbrev Dl:=cFn PP true tU Ff (cDr PP 11 IF)
noncomputable def Dw:aJ:=⟨11,aN Dl,[.t 4]⟩
theorem HD:Dl=some Dw:=by kernel_rfl
def Da (a b:D) (c:Heap) (K:HKq):Prop :=
 xB a c λ a c=>xF a 1 c λ c d=>xL c 1 false d λ c d=>vbin .eql c b λ b=>vcond b (xF a 3 d λ a b=>xL a 1 false b λ a b=>K a b) (K (.int .i64 0) d)
theorem Hp (a0:D) (a1:D) (h0:Heap) (K:HKq):Da a0 a1 h0 K=dQ Dw K [a0,a1] h0:=by kernel_rfl
def CD:TLq
 | 1000013=>some ([],[])|1000012=>some ([],[91])|_=>none
def EV:TTq
 | 4=>some ([0,1,3,0,8,24,7,127],[],[])|8=>some ([0,1,3,7,15,31,15,79,15,271,975,1999,4047,8191,16383,32767],[],[])|10=>some ([0,1,0,4,15,31,63,127,255,511,511,1535,4095,511,511,16895,57855,131071,262143,524287],[],[])|_=>none
noncomputable abbrev xY:=cFn PP true pk CD (cDr PP 119 EV)
noncomputable def yh:aJ:=⟨119,aN xY,[.t 4]⟩
theorem ED:xY=some yh:=by kernel_rfl
def xM (a b:D) (c:Heap) (K:HKq):Prop :=
 xB a c λ a c=>xB b c λ b c=>xL a 8 true c λ c d=>xF b 0 d λ d e=>xL d 2 true e λ d e=>ag PP jT [c,d] e λ c d=>vbin .neq c (.int .i64 0) λ e=>vcond e (K c d) (yF b 3 d λ c=>yJ c (.int .i64 0) 2 1 d λ c=>yL c 1 false d λ c=>yF b 3 d λ e=>yJ e (.int .i64 1) 2 1 d λ e=>yL e 1 false d λ e=>xF b 0 d λ d f=>xF d 0 f λ d f=>xL d 1 false f λ d f=>xF a 0 f λ f g=>xL f 1 false g λ f g=>vbin .mul d f λ d=>∃(f:HJq),( ∀(a:Nat->D) (b:Heap),f [] b->K (.int .i64 1) b)/\xF a 5 g λ g h=>xL g 1 false h λ g h=>xF b 2 h λ h i=>xL h 1 false i λ h i=>ag PP nW [g,(.int .i64 1),h] i λ g h=>vun .not g λ g=>vguard g false (λ a=>a c h) h λ h i=>vguard g false (λ a=>a e i) i λ i j=>vguard g false (λ a=>ab PP (.mn (.c h) (.c i)) j λ b c=>a b c) j λ h i=>vguard g false (λ a=>vbin .lss h (.int .i64 0) λ b=>a b i) i λ h i=>xP g (.bool true) h i λ g h=>vguard g false (λ a=>a c h) h λ h i=>vguard g false (λ a=>a e i) i λ i j=>vguard g false (λ a=>ab PP (.mx (.c h) (.c i)) j λ b c=>a b c) j λ h i=>vguard g false (λ a=>a d i) i λ d i=>vguard g false (λ a=>vbin .geq h d λ b=>a b i) i λ d h=>xP g (.bool true) d h λ d g=>vguard d false (λ a=>a c g) g λ g h=>vguard d false (λ a=>a e h) h λ h i=>vguard d false (λ a=>vbin .eql g h λ b=>a b i) i λ g h=>xP d (.bool true) g h λ d g=>vcond d (aB [] []/\f [] g) (xF b 5 g λ d g=>xJ d (.int .i64 0) 2 1 g λ d g=>xL d 1 false g λ d g=>xF b 5 g λ g h=>xJ g (.int .i64 1) 2 1 h λ g h=>xL g 1 false h λ g h=>ab PP (.mn (.c d) (.c g)) h λ d g=>vbin .lss d (.int .i64 0) λ d=>vguard d false (λ a=>xF b 7 g λ b c=>a b c) g λ g h=>vguard d false (λ a=>xL g 1 false h λ b c=>a b c) h λ g h=>vguard d false (λ a=>vbin .lss g (.int .i64 0) λ b=>a b h) h λ g h=>xP d (.bool true) g h λ d g=>vguard d false (λ a=>xF b 7 g λ b c=>a b c) g λ g h=>vguard d false (λ a=>xL g 1 false h λ b c=>a b c) h λ g h=>vguard d false (λ b=>xF a 5 h λ a c=>b a c) h λ h i=>vguard d false (λ a=>xL h 1 false i λ b c=>a b c) i λ h i=>vguard d false (λ a=>bq h i λ b=>a b i) i λ h i=>vguard d false (λ a=>vbin .geq g h λ b=>a b i) i λ g h=>xP d (.bool true) g h λ d g=>vcond d (aB [] []/\f [] g) (yF b 8 g λ d=>yL d 1 false g λ d=>vbin .lss d (.int .i64 0) λ d=>aj d false (λ a=>yF b 8 g λ b=>a b) λ h=>aj d false (λ a=>yL h 1 false g λ b=>a b) λ h=>aj d false (λ b=>yF a 5 g λ a=>b a) λ i=>aj d false (λ a=>yL i 1 false g λ b=>a b) λ i=>aj d false (λ a=>yF b 7 g λ b=>a b) λ j=>aj d false (λ a=>yL j 1 false g λ b=>a b) λ j=>aj d false (λ a=>yI i j 4 g λ b=>a b) λ i=>aj d false (λ a=>yF i 3 g λ b=>a b) λ i=>aj d false (λ a=>yL i 1 false g λ b=>a b) λ i=>aj d false (λ a=>vbin .geq h i λ b=>a b) λ h=>yP d (.bool true) h g λ d=>vcond d (aB [] []/\f [] g) ( ∃(d:HJq),( ∀(a:Nat->D) (b:Heap),d [a 91] b->vcond (a 91) (K (.int .i64 0) b) (aB [] []/\f [] b))/\xF a 5 g λ f g=>xL f 1 false g λ f g=>xF b 7 g λ g h=>xL g 1 false h λ g h=>xI f g 4 h λ f g=>xF f 1 g λ f g=>xL f 1 false g λ f g=>vbin .eql f (.int .i64 1) λ f=>vcond f (aB [] []/\d [f] g) (yF a 5 g λ f=>yL f 1 false g λ f=>yF b 7 g λ b=>yL b 1 false g λ b=>yI f b 4 g λ b=>yF b 1 g λ b=>yL b 1 false g λ b=>vbin .eql b (.int .i64 2) λ b=>aj b true (λ a=>a c) λ c=>aj b true (λ b=>yF a 0 g λ a=>b a) λ f=>aj b true (λ a=>yL f 1 false g λ b=>a b) λ f=>aj b true (λ a=>vbin .quo c f λ b=>a b) λ c=>aj b true (λ a=>a e) λ e=>aj b true (λ b=>yF a 0 g λ a=>b a) λ a=>aj b true (λ b=>yL a 1 false g λ a=>b a) λ a=>aj b true (λ b=>vbin .quo e a λ a=>b a) λ a=>aj b true (λ b=>vbin .eql c a λ a=>b a) λ a=>yP b a (.bool false) g λ a=>aB [] []/\d [a] g)))))
theorem Ep (a0:D) (a1:D) (h0:Heap) (K:HKq):xM a0 a1 h0 K=dQ yh K [a0,a1] h0:=by kernel_rfl
def yN:TLq
 | 1000009=>some ([6],[])|2=>some ([3,4,5,6],[9])|_=>none
def Ck:TTq
 | _=>none
noncomputable abbrev tf:=cFn PP true cQ yN (cDr PP 27 Ck)
noncomputable def tI:aJ:=⟨27,aN tf,[.cell 6 2 true,.t 7]⟩
theorem BA:tf=some tI:=by kernel_rfl
def oy (a:Heap) (b c d e:D) (f:HJq) (K:HKq):Prop :=
 ∃(g:Nat->HJq) (h:Nat),g h [(.int .i64 0)] a/\∀(a:Nat) (h:Nat->D) (i:Heap),g a [h 9] i->vbin .lss (h 9) (.int .i64 2) λ j=>vcond j (xL b 10 true i λ f i=>xL c 3 true i λ i j=>xL d 9 true j λ j k=>ag PP mL [f,i,j,(h 9)] k λ f i=>ab PP (.ext (.c f) 0) i λ i j=>ab PP (.ext (.c f) 1) j λ f j=>xJ e (h 9) 2 1 j λ j k=>xS j i 1 k λ i j=>vun .not f λ f=>vcond f (ab PP (.bld [.nil,.nil] []) j λ a b=>xS e a 2 b λ a b=>xL e 2 true b λ a c=>K (.tup [a,(.bool false)]) b) (vbin .add (h 9) (.int .i64 1) λ f=>aB [b,c,d,e] [b,c,d,e]/\∃b,b<a/\g b [f] j)) (aB [e] [e]/\f [] i)
def sO (a b c:D) (d:Heap) (K:HKq):Prop :=
 xB a d λ a d=>xB b d λ b d=>xB c d λ c d=>ab PP (.alloc (.agg [.nil,.nil])) d λ d e=>∃(f:HJq),( ∀(a:Nat->D) (b:Heap),f [] b->xL d 2 true b λ a b=>xS d a 2 b λ a b=>xL d 2 true b λ a c=>K (.tup [a,(.bool true)]) b)/\oy e a b c d f K
theorem AK (a0:D) (a1:D) (a2:D) (h0:Heap) (K:HKq):sO a0 a1 a2 h0 K=dQ tI K [a0,a1,a2] h0:=by kernel_rfl
def yG:TLq
 | _=>none
def Cg:TTq
 | 2=>some ([0,1,3,7,15,0,0,64,192,448,960,0,4032,8128,16320,0,32768,131008,262143,524287,1048575],[17,20],[4,18])|_=>none
noncomputable abbrev s9:=cFn PP true aR yG (cDr PP 32 Cg)
noncomputable def tE:aJ:=⟨32,aN s9,[]⟩
theorem Bo:s9=some tE:=by kernel_rfl
def sH (a b:D) (c:Heap) (K:HKq):Prop :=
 xB b c λ b c=>xF a 0 c λ c d=>xF c 2 d λ c d=>xF c 7 d λ c d=>xL c 1 false d λ c d=>bq c d λ c=>vbin .sub c (.int .i64 1) λ c=>yF a 0 d λ e=>yF e 2 d λ e=>yF e 7 d λ e=>yL e 1 false d λ f=>yF a 0 d λ a=>yF a 2 d λ a=>yF a 7 d λ a=>yL a 1 false d λ a=>yI a c 14 d λ a=>yF a 0 d λ a=>yL a 1 false d λ a=>yL b 15 true d λ b=>an PP (.bldS false 15 1 (.agg [zI,zI,zI,zI,zI,zJ,zI,zI,zJ,zI,zI,zJ,zI,zI,zJ]) [(0,(.c b))]) d λ b=>yI f c 14 d λ g=>yF g 0 d λ h=>ab PP (.app (.c a) (.c b) 15 120 (.agg [zI,zI,zI,zI,zI,zJ,zI,zI,zJ,zI,zI,zJ,zI,zI,zJ])) d λ a b=>((yL e 1 false b λ a=>aB [a] [f])/\(yI f c 14 b λ a=>aB [a] [g])/\True)/\xS h a 1 b λ a b=>((yL e 1 false b λ a=>aB [a] [f])/\(yI f c 14 b λ a=>aB [a] [g])/\True)/\K (.tup []) b
theorem Aw (a0:D) (a1:D) (h0:Heap) (K:HKq):sH a0 a1 h0 K=dQ tE K [a0,a1] h0:=by kernel_rfl
def wO:TLq
 | _=>none
def zC:TTq
 | 18=>some ([0,0,0,4,12,30,62,0,0,0,524,2046,4095],[3,10,12],[999999])|21=>some ([0,0,0,4,0,30,63],[3,6],[999999])|22=>some ([0,0,0,0,8,30,63],[4,6],[999999])|_=>none
noncomputable abbrev rI:=cFn PP true lF wO (cDr PP 133 zC)
noncomputable def rP:aJ:=⟨133,aN rI,[]⟩
theorem zk:rI=some rP:=by kernel_rfl
def ra (a:D) (b:Heap) (K:HKq):Prop :=
 ag PP aw [a] b λ b c=>vbin .rem b (.int .i64 16) λ b=>vbin .lss b (.int .i64 3) λ d=>vcond d (ag PP aw [a] c λ b c=>vbin .rem b (.int .i64 7) λ b=>vbin .add (.int .i64 1) b λ b=>ag PP bf [a] c λ c d=>ab PP (.bld [zI,zI,zI,zI,zI,zJ,zI,zI,zJ,zI,zI,zJ,zI,zI,zJ] [(0,1,(.c (.int .i64 5))),(1,1,(.c b)),(3,3,(.c c))]) d λ b c=>ag PP aR [a,b] c λ a b=>K (.tup []) b) (vbin .lss b (.int .i64 7) λ d=>vcond d (ag PP aw [a] c λ b c=>vbin .rem b (.int .i64 20) λ b=>vbin .add (.int .i64 10) b λ b=>ag PP bf [a] c λ c d=>ag PP bc [a] d λ d e=>ag PP bc [a] e λ e f=>ab PP (.bld [zI,zI,zI,zI,zI,zJ,zI,zI,zJ,zI,zI,zJ,zI,zI,zJ] [(0,1,(.c (.int .i64 3))),(1,1,(.c b)),(3,3,(.c c)),(6,3,(.c d)),(9,3,(.c e))]) f λ b c=>ag PP aR [a,b] c λ a b=>K (.tup []) b) (vbin .eql b (.int .i64 7) λ d=>vcond d (ag PP aw [a] c λ b c=>vbin .rem b (.int .i64 5) λ b=>vbin .add (.int .i64 1) b λ b=>ag PP bf [a] c λ c d=>ag PP bc [a] d λ d e=>ab PP (.bld [zI,zI,zI,zI,zI,zJ,zI,zI,zJ,zI,zI,zJ,zI,zI,zJ] [(0,1,(.c (.int .i64 2))),(1,1,(.c b)),(3,3,(.c c)),(6,3,(.c d))]) e λ b c=>ag PP aR [a,b] c λ a b=>K (.tup []) b) (vbin .eql b (.int .i64 8) λ d=>vcond d (ag PP bf [a] c λ b c=>ag PP bc [a] c λ c d=>ag PP bc [a] d λ d e=>ag PP bc [a] e λ e f=>ab PP (.bld [zI,zI,zI,zI,zI,zJ,zI,zI,zJ,zI,zI,zJ,zI,zI,zJ] [(0,1,(.c (.int .i64 4))),(3,3,(.c b)),(6,3,(.c c)),(9,3,(.c d)),(12,3,(.c e))]) f λ b c=>ag PP aR [a,b] c λ a b=>K (.tup []) b) (vbin .eql b (.int .i64 9) λ d=>vcond d (ag PP bf [a] c λ b c=>ag PP bc [a] c λ c d=>ab PP (.bld [zI,zI,zI,zI,zI,zJ,zI,zI,zJ,zI,zI,zJ,zI,zI,zJ] [(0,1,(.c (.int .i64 1))),(3,3,(.c b)),(6,3,(.c c))]) d λ b c=>ag PP aR [a,b] c λ a b=>K (.tup []) b) (vbin .eql b (.int .i64 10) λ d=>vcond d (ag PP aw [a] c λ b c=>vbin .rem b (.int .i64 3) λ b=>ag PP bf [a] c λ c d=>ab PP (.bld [zI,zI,zI,zI,zI,zJ,zI,zI,zJ,zI,zI,zJ,zI,zI,zJ] [(0,1,(.c (.int .i64 6))),(2,1,(.c b)),(3,3,(.c c))]) d λ b c=>ag PP aR [a,b] c λ a b=>K (.tup []) b) (vbin .eql b (.int .i64 11) λ d=>vcond d (ag PP aw [a] c λ b c=>vbin .rem b (.int .i64 2) λ b=>vbin .add (.int .i64 1) b λ b=>ab PP (.bld [zI,zI,zI,zI,zI,zJ,zI,zI,zJ,zI,zI,zJ,zI,zI,zJ] [(0,1,(.c (.int .i64 10))),(1,1,(.c b))]) c λ b c=>ag PP aR [a,b] c λ a b=>K (.tup []) b) (vbin .eql b (.int .i64 12) λ d=>vcond d (ag PP gQ [a,(.bool false)] c λ b c=>ab PP (.ext (.c b) 0) c λ c d=>ab PP (.ext (.c b) 1) d λ b d=>ab PP (.alloc (.agg [zI,zI,zJ])) d λ d e=>xS d b 3 e λ b e=>an PP (.bldS false 1 6 (.int .i64 0) [(0,(.c (.int .i64 10))),(1,(.c (.int .i64 22))),(2,(.c (.int .i64 23))),(3,(.c (.int .i64 17))),(4,(.c (.int .i64 18))),(5,(.c (.int .i64 19)))]) e λ b=>yL d 3 true e λ f=>ag PP aw [a] e λ e g=>((yL d 3 true g λ a=>aB [a] [f])/\True)/\vbin .rem e (.int .i64 6) λ e=>yI b e 1 g λ h=>yL h 1 false g λ i=>ag PP bc [a] g λ g j=>((yI b e 1 j λ a=>aB [a] [h])/\(yL h 1 false j λ a=>aB [a] [i])/\(yL d 3 true j λ a=>aB [a] [f])/\True)/\an PP (.bld [zI,zI,zI,zI,zI,zJ,zI,zI,zJ,zI,zI,zJ,zI,zI,zJ] [(0,1,(.c (.int .i64 9))),(1,1,(.c i)),(2,1,(.c c)),(6,3,(.c f)),(9,3,(.c g))]) j λ b=>ag PP aR [a,b] j λ a b=>K (.tup []) b) (ag PP gQ [a,(.bool true)] c λ c d=>ab PP (.ext (.c c) 0) d λ d e=>ab PP (.ext (.c c) 1) e λ c e=>ab PP (.alloc (.agg [zI,zI,zJ])) e λ e f=>xS e c 3 f λ c f=>vbin .eql b (.int .i64 13) λ b=>vcond b (yL e 3 true f λ b=>ag PP bf [a] f λ c f=>((yL e 3 true f λ a=>aB [a] [b])/\True)/\an PP (.bld [zI,zI,zI,zI,zI,zJ,zI,zI,zJ,zI,zI,zJ,zI,zI,zJ] [(0,1,(.c (.int .i64 7))),(2,1,(.c d)),(3,3,(.c c)),(6,3,(.c b))]) f λ b=>ag PP aR [a,b] f λ a b=>K (.tup []) b) (yL e 3 true f λ b=>ag PP bc [a] f λ c f=>((yL e 3 true f λ a=>aB [a] [b])/\True)/\an PP (.bld [zI,zI,zI,zI,zI,zJ,zI,zI,zJ,zI,zI,zJ,zI,zI,zJ] [(0,1,(.c (.int .i64 8))),(2,1,(.c d)),(6,3,(.c b)),(9,3,(.c c))]) f λ b=>ag PP aR [a,b] f λ a b=>K (.tup []) b)))))))))
theorem y8 (a0:D) (h0:Heap) (K:HKq):ra a0 h0 K=dQ rP K [a0] h0:=by kernel_rfl
def rZ:TLq
 | _=>none
def uC:TTq
 | _=>none
noncomputable abbrev nF:=cFn PP true jm rZ (cDr PP 8 uC)
noncomputable def nH:aJ:=⟨8,aN nF,[.t 2]⟩
theorem uj:nF=some nH:=by kernel_rfl
def nB (a:D) (b:Heap) (K:HKq):Prop :=
 vcond (.bool false) (xC .u32 a b λ a b=>ag PP uI [a] b λ a b=>K a b) (ag PP ic [a] b λ a b=>K a b)
theorem uf (a0:D) (h0:Heap) (K:HKq):nB a0 h0 K=dQ nH K [a0] h0:=by kernel_rfl
def cX:TLq
 | 1000011=>some ([],[])|4=>some ([1,2,15,16],[17])|_=>none
def dh:TTq
 | _=>none
noncomputable abbrev bL:=cFn PP true bJ cX (cDr PP 32 dh)
noncomputable def bM:aJ:=⟨32,aN bL,[.t 6]⟩
theorem da:bL=some bM:=by kernel_rfl
def bF (a:Heap) (b c d e:D) (f:HJq) (K:HKq):Prop :=
 ∃(g:Nat->HJq) (h:Nat),g h [(.int .i64 0)] a/\∀(a:Nat) (h:Nat->D) (i:Heap),g a [h 17] i->vbin .lss (h 17) b λ j=>vcond j (xI c (h 17) 4 i λ f i=>xL f 4 true i λ f i=>ab PP (.alloc (.agg [(.str ⟨#[]⟩),(.int .i64 0),(.int .i64 0),(.int .i64 0)])) i λ i j=>xS i f 4 j λ f j=>xI d (h 17) 1 j λ f j=>xL f 1 false j λ f j=>xL i 4 true j λ i j=>ab PP (.callv (.c e) [(.c i),(.c f)]) j λ f i=>vun .not f λ f=>vcond f (K (.bool false) i) (vbin .add (h 17) (.int .i64 1) λ f=>aB [d,e,c,b] [d,e,c,b]/\∃b,b<a/\g b [f] i)) (aB [] []/\f [] i)
def bK (a b c:D) (d:Heap) (K:HKq):Prop :=
 bq a d λ e=>bq b d λ f=>vbin .neq e f λ e=>vcond e (K (.bool false) d) ( ∃(e:HJq),( ∀(a:Nat->D) (b:Heap),e [] b->K (.bool true) b)/\bq a d λ f=>bF d f a b c e K)
theorem cZ (a0:D) (a1:D) (a2:D) (h0:Heap) (K:HKq):bK a0 a1 a2 h0 K=dQ bM K [a0,a1,a2] h0:=by kernel_rfl
def zU:TLq
 | _=>none
def DJ:TTq
 | _=>none
noncomputable abbrev vE:=cFn PP true kA zU (cDr PP 12 DJ)
noncomputable def vP:aJ:=⟨12,aN vE,[.t 5]⟩
theorem CR:vE=some vP:=by kernel_rfl
def vo (a b c:D) (d:Heap) (K:HKq):Prop :=
 xB a d λ a d=>xL a 4 true d λ a d=>xL c 1 false d λ c d=>ag PP nU [a,c] d λ a c=>bq b c λ b=>vbin .eql a b λ a=>K a c
theorem CH (a0:D) (a1:D) (a2:D) (h0:Heap) (K:HKq):vo a0 a1 a2 h0 K=dQ vP K [a0,a1,a2] h0:=by kernel_rfl
def Fi:TLq
 | _=>none
def II:TTq
 | _=>none
noncomputable abbrev Dp:=cFn PP true nU Fi (cDr PP 11 II)
noncomputable def Dz:aJ:=⟨11,aN Dp,[.t 4]⟩
theorem HG:Dp=some Dz:=by kernel_rfl
def Dd (a b:D) (c:Heap) (K:HKq):Prop :=
 xB a c λ a c=>xF a 1 c λ c d=>xL c 1 false d λ c d=>vbin .neq c b λ b=>vcond b (K (.int .i64 0) d) (xF a 3 d λ a b=>xL a 1 false b λ a b=>K a b)
theorem Ht (a0:D) (a1:D) (h0:Heap) (K:HKq):Dd a0 a1 h0 K=dQ Dz K [a0,a1] h0:=by kernel_rfl
def sf:TLq
 | 1000012=>some ([0,1,2,3],[])|1=>some ([0,1,2,3,16],[17])|1000011=>some ([0,1,2,3,16,17],[])|5=>some ([0,1,2,3,6,16,17],[7])|13=>some ([0,2,9],[54])|1000024=>some ([0,2,9,10,11,54],[])|18=>some ([0,2,9,10,11,54,82,83],[84])|1000023=>some ([0,2,9,10,11,54,82,83,84],[])|_=>none
def uD:TTq
 | 11=>some ([0,0,0,6,14,0,63,0,255],[3,5,7,8],[999996,1,2])|15=>some ([0,1,0,4,0,16,0,64,192,448,1023,2047,4095,4095,4095,4095,0,73727,212991,491519,1048575],[16,18],[])|23=>some ([0,0,2,1,9,31,63],[4,6],[1])|_=>none
noncomputable abbrev nG:=cFn PP true dk sf (cDr PP 103 uD)
noncomputable def nI:aJ:=⟨103,aN nG,[]⟩
theorem uo:nG=some nI:=by kernel_rfl
def gG (a:Heap) (b c d e f g:D) (h:Nat->D) (i:D) (j:HJq):Prop :=
 ∃(k:Nat->HJq) (l:Nat),k l [(.int .i64 0)] a/\∀(a:Nat) (l:Nat->D) (m:Heap),k a [l 84] m->vbin .lss (l 84) b λ n=>vcond n ( ∃(j:HJq),( ∀(m:Nat->D) (n:Heap),j [] n->vbin .add (l 84) (.int .i64 1) λ j=>aB [c,d,e,f,g,(h 54),i,b] [c,d,e,f,g,(h 54),i,b]/\∃b,b<a/\k b [j] n)/\xI i (l 84) 9 m λ a k=>xL a 9 true k λ a k=>ab PP (.alloc (.agg [zI,zI,zI,zI,zI,zI,zI,zI,zJ])) k λ k m=>xS k a 9 m λ a m=>xL k 9 true m λ a m=>ag PP jl [a] m λ a m=>vcond a (xF e 2 m λ a m=>xL a 1 false m λ a m=>xF k 2 m λ k m=>xL k 1 false m λ k m=>ab PP (.look (.int .i64) (.c a) (.c k) (.int .i64 0) false) m λ m n=>vbin .add m (.int .i64 1) λ m=>ab PP (.mupd (.int .i64) (.c a) (.c k) (.c m)) n λ a k=>aB [c,d,e,f,g,(h 54),i,b,(l 84)] [c,d,e,f,g,(h 54),i,b,(l 84)]/\j [] k) (aB [c,d,e,f,g,(h 54),i,b,(l 84)] [c,d,e,f,g,(h 54),i,b,(l 84)]/\j [] m)) (aB [c,d,e,f,g,(h 54)] [c,d,e,f,g,(h 54)]/\j [] m)
def gF (a:Heap) (b c d:D) (K:HKq):Prop :=
 ∃(e:Nat->HJq) (f:Nat),e f [(.int .i64 0)] a/\∀(a:Nat) (f:Nat->D) (g:Heap),e a [f 54] g->vbin .lss (f 54) (.int .i64 100) λ h=>vcond h (xL b 3 true g λ g h=>ab PP (.callv (.c c) [(.c g)]) h λ g h=>vun .not g λ g=>vcond g (K (.tup []) h) (yF d 0 h λ g=>yL g 8 true h λ g=>yF d 8 h λ i=>yL i 2 true h λ i=>yF b 0 h λ j=>yL j 1 false h λ j=>yF b 1 h λ k=>yL k 1 false h λ k=>yI k (.int .i64 0) 3 h λ k=>yL k 3 true h λ k=>an PP (.call mN [(.c g),(.c i),(.c j),(.c k)]) h λ g=>an PP (.ext (.c g) 0) h λ i=>an PP (.ext (.c g) 1) h λ j=>an PP (.ext (.c g) 2) h λ k=>an PP (.ext (.c g) 3) h λ g=>ab PP (.alloc (.agg [zI,.nil,.nil])) h λ h l=>xS h j 3 l λ j l=>vbin .neq g (.int .i64 0) λ g=>vguard g false (λ a=>xL h 3 true l λ b c=>a b c) l λ j l=>vguard g false (λ a=>ag PP gu [j] l λ b c=>a b c) l λ j l=>xP g (.bool true) j l λ g j=>vcond g (K (.tup []) j) ( ∃(g:HJq),( ∀(j:Nat->D) (k:Heap),g [] k->yL h 3 true k λ g=>an PP (.bldS false 3 1 (.agg [zI,.nil,.nil]) [(0,(.c g))]) k λ j=>yF b 0 k λ l=>yF b 1 k λ m=>xS l i 1 k λ i k=>((yL h 3 true k λ a=>aB [a] [g])/\True)/\xS m j 1 k λ i j=>((yL h 3 true j λ a=>aB [a] [g])/\True)/\vbin .add (f 54) (.int .i64 1) λ f=>aB [c,d,b] [c,d,b]/\∃b,b<a/\e b [f] j)/\bq k j λ a=>gG j a c d b i h f k g))) (K (.tup []) g)
def gD (a:Heap) (b c d e f g:D) (h:Nat->D) (i:HJq) (K:HKq):Prop :=
 ∃(j:Nat->HJq) (k:Nat),j k [(.int .i64 0)] a/\∀(a:Nat) (k:Nat->D) (l:Heap),j a [k 7] l->xL b 3 true l λ l m=>ag PP gu [l] m λ l m=>vun .not l λ l=>vcond l (xF c 0 m λ i l=>xL i 8 true l λ i l=>xF c 8 l λ l m=>xL l 2 true m λ l m=>xL d 1 false m λ m n=>xL b 3 true n λ n o=>ag PP mN [i,l,m,n] o λ i l=>ab PP (.ext (.c i) 0) l λ l m=>ab PP (.ext (.c i) 1) m λ m n=>ab PP (.ext (.c i) 2) n λ n o=>ab PP (.ext (.c i) 3) o λ i n=>xS d l 1 n λ l n=>xS b m 3 n λ l m=>vbin .neq i (.int .i64 0) λ i=>vguard i false (λ a=>a (k 7) m) m λ l m=>vguard i false (λ a=>vbin .geq l (.int .i64 1000) λ b=>a b m) m λ l m=>xP i (.bool true) l m λ i l=>vcond i (K (.tup []) l) (vbin .add (k 7) (.int .i64 1) λ i=>aB [e,f,c,d,b,g,(h 17)] [e,f,c,d,b,g,(h 17)]/\∃b,b<a/\j b [i] l)) (aB [e,f,c,d,g,(h 17)] [e,f,c,d,g,(h 17)]/\i [] m)
def kX (a:Heap) (b c d e f:D) (g:HJq) (K:HKq):Prop :=
 ∃(h:Nat->HJq) (i:Nat),h i [(.int .i64 0)] a/\∀(a:Nat) (i:Nat->D) (j:Heap),h a [i 17] j->vbin .lss (i 17) b λ k=>vcond k ( ∃(g:HJq),( ∀(j:Nat->D) (k:Heap),g [] k->vbin .add (i 17) (.int .i64 1) λ g=>aB [c,d,e,f,b] [c,d,e,f,b]/\∃b,b<a/\h b [g] k)/\xL e 10 true j λ a h=>ag PP cR [a,(i 17)] h λ a h=>ab PP (.alloc (.agg [zI,.nil,.nil])) h λ h j=>xS h a 3 j λ a j=>gD j h e f c d b i g K) (aB [c,d,e,f] [c,d,e,f]/\g [] j)
def nC (a b c d:D) (e:Heap) (K:HKq):Prop :=
 ∃(f:HJq),( ∀(e:Nat->D) (g:Heap),f [] g->yL d 1 false g λ e=>yL c 10 true g λ f=>yL b 1 false g λ h=>ag PP cR [f,h] g λ g i=>((yL d 1 false i λ a=>aB [a] [e])/\True)/\an PP (.bldS false 3 1 (.agg [zI,.nil,.nil]) [(0,(.c g))]) i λ g=>ab PP (.mkm (.int .i64)) i λ i j=>((yL d 1 false j λ a=>aB [a] [e])/\(yL c 10 true j λ a=>aB [a] [f])/\(yL b 1 false j λ a=>aB [a] [h])/\True)/\an PP (.bld [.nil,.nil,.nilmap] [(0,1,(.c e)),(1,1,(.c g)),(2,1,(.c i))]) j λ g=>ab PP (.alloc (.agg [.nil,.nil,.nilmap])) j λ i j=>((yL d 1 false j λ a=>aB [a] [e])/\(yL c 10 true j λ a=>aB [a] [f])/\(yL b 1 false j λ a=>aB [a] [h])/\True)/\xS i g 3 j λ b d=>gF d i a c K)/\xL b 1 false e λ e g=>kX g e a b c d f K
theorem ug (a0:D) (a1:D) (a2:D) (a3:D) (h0:Heap) (K:HKq):nC a0 a1 a2 a3 h0 K=dQ nI K [a0,a1,a2,a3] h0:=by kernel_rfl
end Go.Am
namespace Go.Am
open Go Go.Proofs
def yU:TLq
 | _=>none
def Cr:TTq
 | _=>none
noncomputable abbrev tq:=cFn PP true cR yU (cDr PP 17 Cr)
noncomputable def tP:aJ:=⟨17,aN tq,[.cell 4 3 true]⟩
theorem BH:tq=some tP:=by kernel_rfl
def sV (a b:D) (c:Heap) (K:HKq):Prop :=
 xB a c λ a c=>ab PP (.alloc (.agg [zI,.nil,.nil])) c λ c d=>xF a 0 d λ d e=>xL d 8 true e λ d e=>xF a 8 e λ a e=>xL a 2 true e λ a e=>ag PP wJ [d,a,b] e λ a b=>ab PP (.ext (.c a) 0) b λ b d=>ab PP (.ext (.c a) 1) d λ a d=>ab PP (.alloc (.agg [zI,.nil,.nil])) d λ a d=>xS a b 3 d λ b d=>xL a 3 true d λ a b=>xS c a 3 b λ a b=>xL c 3 true b λ a c=>K a b
theorem AR (a0:D) (a1:D) (h0:Heap) (K:HKq):sV a0 a1 h0 K=dQ tP K [a0,a1] h0:=by kernel_rfl
def He:TLq
 | _=>none
def Kc:TTq
 | _=>none
noncomputable abbrev F9:=cFn PP true gu He (cDr PP 13 Kc)
noncomputable def Gy:aJ:=⟨13,aN F9,[.t 2]⟩
theorem Jo:F9=some Gy:=by kernel_rfl
def FX (a:D) (b:Heap) (K:HKq):Prop :=
 xB a b λ a b=>xF a 1 b λ b c=>xL b 1 false c λ b c=>bq b c λ b=>vbin .gtr b (.int .i64 0) λ b=>vguard b true (λ b=>xF a 1 c λ a c=>b a c) c λ a c=>vguard b true (λ b=>xL a 1 false c λ a c=>b a c) c λ a c=>vguard b true (λ b=>ag PP bp [a,(.fn lk [] [])] c λ a c=>b a c) c λ a c=>vguard b true (λ b=>vun .not a λ a=>b a c) c λ a c=>xP b a (.bool false) c λ a b=>K a b
theorem Jc (a0:D) (h0:Heap) (K:HKq):FX a0 h0 K=dQ Gy K [a0] h0:=by kernel_rfl
def Hc:TLq
 | 1000011=>some ([6,7,8,9,10,11,12],[])|4000008=>some ([6,7,8,9,10,11,12],[1000000])|1000014=>some ([8,9,10,11,12],[])|_=>none
def Kb:TTq
 | 2=>some ([0,0,1,7,15,31],[2,3,4,5],[1])|3=>some ([0,0,0,0,0,16,48,112,255,511,1023],[7,8,9,10],[])|8=>some ([0,0,0,1,11,27,63],[3,4,5,6],[1])|12=>some ([0,0,2,6,14,30,0,64,192,448,1023],[9,10],[999999])|9=>some ([0,0,1,7,15,31],[2,3,4,5],[1])|13=>some ([0,1,3,7,0,16,48,112,0,256,768,1792,15,4351,16383,32767],[12,13,14,15],[7,11])|_=>none
noncomputable abbrev F8:=cFn PP true mN Hc (cDr PP 88 Kb)
noncomputable def Gx:aJ:=⟨88,aN F8,[.cell 8 1 false,.cell 9 3 true,.cell 10 1 false,.cell 11 1 false]⟩
theorem Jn:F8=some Gx:=by kernel_rfl
def yk:ACode:=.tT [⟨(some 13),.mov (.t 43),none⟩]
def yj:ACode:=.block 1 (.seq (.tT [⟨(some 44),.mov (.t 13),none⟩,
  ⟨(some 45),.bin .neq (.t 44) (.c (.int .i64 0)),none⟩]) <|
 .cond (.t 45) (.seq (.dreg [⟨(some 46),.ld (.t 6) 1 false,none⟩,
  ⟨(some 47),.ld (.t 7) 3 true,none⟩,
  ⟨(some 48),.mov (.t 13),none⟩] [⟨none,.st (.t 8) (.t 46) 1,none⟩,
  ⟨none,.st (.t 9) (.t 47) 3,none⟩,
  ⟨none,.st (.t 10) (.c .nil) 1,none⟩,
  ⟨none,.st (.t 11) (.t 48) 1,none⟩] [⟨(some 47),.ld (.t 7) 3 true,none⟩]) <|
 .ret) (.skip))
def pA (a:Nat) (b:fu) (c d e f g h i j:D) (k:Heap) (K:HKq):Prop :=
 Ex.normal=Ex.normal/\k a=.lp .ready b/\vbin .neq c (.int .i64 0) λ j=>vcond j (yL d 1 false (ak k a (.lp .busy b)) λ d=>yL e 3 true (ak k a (.lp .busy b)) λ j=>xS f d 1 (ak k a (.lp .busy b)) λ d f=>((yL e 3 true f λ a=>aB [a] [j])/\True)/\xS g j 3 f λ d f=>((yL e 3 true f λ a=>aB [a] [j])/\True)/\ab PP (.st (.c h) (.c .nil) 1) f λ d f=>((yL e 3 true f λ a=>aB [a] [j])/\True)/\xS i c 1 f λ c d=>((yL e 3 true d λ a=>aB [a] [j])/\True)/\d a=.lp .busy b/\K (.bool false) (ak d a (.lp (.done .ret) b))) ((ak k a (.lp .busy b)) a=.lp .busy b/\K (.bool true) (ak (ak k a (.lp .busy b)) a (.lp .ready b)))
theorem rE (n0:Nat) (B0:fu) (a43:D) (a6:D) (a7:D) (a8:D) (a9:D) (a10:D) (a11:D) (a12:D) (h0:Heap) (K:HKq):pA n0 B0 a43 a6 a7 a8 a9 a10 a11 a12 h0 K=JP PP n0 B0 [43] [a43] [(6,a6),(7,a7),(8,a8),(9,a9),(10,a10),(11,a11),(12,a12)] yk yj h0 K:=by kernel_rfl
def FW (a b c d:D) (e:Heap) (K:HKq):Prop :=
 xB a e λ a e=>xB b e λ b e=>xB c e λ c e=>xB d e λ d e=>ab PP (.alloc .nil) e λ e f=>ab PP (.alloc (.agg [zI,.nil,.nil])) f λ f g=>ab PP (.alloc .nil) g λ g h=>ab PP (.alloc (.int .i64 0)) h λ h i=>xF d 1 i λ i j=>xL i 1 false j λ i j=>bq i j λ i=>vbin .eql i (.int .i64 0) λ i=>vguard i false (λ a=>xL d 3 true j λ b c=>a b c) j λ j k=>vguard i false (λ a=>ag PP gu [j] k λ b c=>a b c) k λ j k=>xP i (.bool true) j k λ i j=>vcond i (yL c 1 false j λ a=>yL d 3 true j λ b=>xS e a 1 j λ a c=>((yL d 3 true c λ a=>aB [a] [b])/\True)/\xS f b 3 c λ a c=>((yL d 3 true c λ a=>aB [a] [b])/\True)/\ab PP (.st (.c g) (.c .nil) 1) c λ a c=>((yL d 3 true c λ a=>aB [a] [b])/\True)/\xS h (.int .i64 1) 1 c λ a c=>((yL d 3 true c λ a=>aB [a] [b])/\True)/\xL e 1 false c λ a b=>xL f 3 true c λ b d=>xL g 1 false c λ d e=>xL h 1 false c λ e f=>K (.tup [a,b,d,e]) c) (yL a 8 true j λ a=>yL b 2 true j λ b=>yL c 1 false j λ i=>yL d 3 true j λ k=>yF d 1 j λ l=>yL l 1 false j λ l=>bq l j λ l=>ab PP (.mk 1 8 (.int .i64 0) (.c l) (.c l)) j λ j l=>ab PP (.bld [zI,zI,zI,zI,zI,.nil,.nil,.nil,zI,.nil,.nil,zI,.nil,.nil,.nil,.nil,zI] [(0,8,(.c a)),(8,2,(.c b)),(10,1,(.c i)),(11,3,(.c k)),(15,1,(.c j))]) l λ a b=>xB a b λ a b=>xF d 1 b λ b i=>xL b 1 false i λ b i=>ag PP cG [b] i λ b i=>xF a 0 i λ i j=>xF i 11 j λ i j=>xF i 1 j λ i j=>xS i b 1 j λ b i=>∃(b:HJq),( ∀(i:Nat->D) (j:Heap),b [] j->∃(b:HJq),( ∀(c:Nat->D) (d:Heap),b [] d->yF a 0 d λ b=>yF b 10 d λ b=>yL b 1 false d λ b=>yF a 0 d λ c=>yF c 11 d λ c=>yL c 3 true d λ i=>yF a 0 d λ a=>yF a 14 d λ a=>yL a 1 false d λ j=>xS e b 1 d λ b d=>((yL c 3 true d λ a=>aB [a] [i])/\(yL a 1 false d λ a=>aB [a] [j])/\True)/\xS f i 3 d λ b d=>((yL c 3 true d λ a=>aB [a] [i])/\(yL a 1 false d λ a=>aB [a] [j])/\True)/\xS g j 1 d λ b d=>((yL c 3 true d λ a=>aB [a] [i])/\(yL a 1 false d λ a=>aB [a] [j])/\True)/\xS h (.int .i64 0) 1 d λ b d=>((yL c 3 true d λ a=>aB [a] [i])/\(yL a 1 false d λ a=>aB [a] [j])/\True)/\xL e 1 false d λ a b=>xL f 3 true d λ b c=>xL g 1 false d λ c e=>xL h 1 false d λ e f=>K (.tup [a,b,c,e]) d)/\xF a 0 j λ i j=>xF i 11 j λ i j=>xL i 3 true j λ i j=>ag PP gu [i] j λ i j=>vcond i (aB [e,f,g,h,a] [e,f,g,h,a]/\b [] j) (xF a 0 j λ i j=>xF i 11 j λ i j=>xF i 1 j λ i j=>xL i 1 false j λ i j=>ag PP jz [a,i,(.int .i64 3)] j λ i j=>vcond i (yF a 0 j λ c=>yF c 11 j λ i=>yF i 1 j λ k=>yL k 1 false j λ l=>yF d 1 j λ d=>yL d 1 false j λ d=>bq d j λ d=>ab PP (.mk 1 4 (.int .i32 0) (.c d) (.c d)) j λ d j=>((yF a 0 j λ a=>aB [a] [c])/\(yF c 11 j λ a=>aB [a] [i])/\(yF i 1 j λ a=>aB [a] [k])/\(yL k 1 false j λ a=>aB [a] [l])/\True)/\ag PP jy [a,l,d] j λ c d=>aB [e,f,g,h,a] [e,f,g,h,a]/\b [] d) (yL c 1 false j λ a=>yL d 3 true j λ b=>xS e a 1 j λ a c=>((yL d 3 true c λ a=>aB [a] [b])/\True)/\xS f b 3 c λ a c=>((yL d 3 true c λ a=>aB [a] [b])/\True)/\ab PP (.st (.c g) (.c .nil) 1) c λ a c=>((yL d 3 true c λ a=>aB [a] [b])/\True)/\xS h (.int .i64 90) 1 c λ a c=>((yL d 3 true c λ a=>aB [a] [b])/\True)/\xL e 1 false c λ a b=>xL f 3 true c λ b d=>xL g 1 false c λ d e=>xL h 1 false c λ e f=>K (.tup [a,b,d,e]) c)))/\ag PP uJ [a] i λ i j=>M0 PP i [43] [(6,c),(7,d),(8,e),(9,f),(10,g),(11,h),(12,a)] yk yj j λ i j=>ct i j (aB [c,d,e,f,g,h,a] [c,d,e,f,g,h,a]/\b [] (ak j i .dead)) (λ a=>(a=1000000/\(False))\/(False)) ((1000000=1000000/\(xL e 1 false (ak j i .dead) λ a b=>xL f 3 true (ak j i .dead) λ b c=>xL g 1 false (ak j i .dead) λ c d=>xL h 1 false (ak j i .dead) λ d e=>K (.tup [a,b,c,d]) (ak j i .dead)))\/(False)))
theorem Jb (a0:D) (a1:D) (a2:D) (a3:D) (h0:Heap) (K:HKq):FW a0 a1 a2 a3 h0 K=dQ Gx K [a0,a1,a2,a3] h0:=by kernel_rfl
def Fo:TLq
 | _=>none
def IM:TTq
 | _=>none
noncomputable abbrev Dt:=cFn PP true jl Fo (cDr PP 16 IM)
noncomputable def DC:aJ:=⟨16,aN Dt,[.t 2]⟩
theorem HK:Dt=some DC:=by kernel_rfl
def Dh (a:D) (b:Heap) (K:HKq):Prop :=
 xB a b λ a b=>xF a 0 b λ b c=>xL b 1 false c λ b c=>vbin .eql b (.int .i64 1) λ b=>vguard b false (λ b=>xF a 0 c λ a c=>b a c) c λ c d=>vguard b false (λ a=>xL c 1 false d λ b c=>a b c) d λ c d=>vguard b false (λ a=>vbin .eql c (.int .i64 2) λ b=>a b d) d λ c d=>xP b (.bool true) c d λ b c=>vguard b false (λ b=>xF a 0 c λ a c=>b a c) c λ a c=>vguard b false (λ b=>xL a 1 false c λ a c=>b a c) c λ a c=>vguard b false (λ b=>vbin .eql a (.int .i64 3) λ a=>b a c) c λ a c=>xP b (.bool true) a c λ a b=>K a b
theorem Hx (a0:D) (h0:Heap) (K:HKq):Dh a0 h0 K=dQ DC K [a0] h0:=by kernel_rfl
def po:TLq
 | 1000010=>some ([0],[3])|3=>some ([0,9,10],[3,11])|1000009=>some ([0,9,10,11],[3])|1000016=>some ([],[6])|11=>some ([25,26],[6,27])|_=>none
def qI:TTq
 | _=>none
noncomputable abbrev kY:=cFn PP true gA po (cDr PP 36 qI)
noncomputable def kZ:aJ:=⟨36,aN kY,[.t 2]⟩
theorem qv:kY=some kZ:=by kernel_rfl
def ff (a:D) (b:Heap) (c d:D) (e:HJq):Prop :=
 ∃(f:Nat->HJq) (g:Nat),f g [a,(.int .i64 0)] b/\∀(a:Nat) (b:Nat->D) (g:Heap),f a [b 6,b 27] g->vbin .lss (b 27) c λ h=>vcond h (xI d (b 27) 1 g λ e g=>xL e 1 false g λ e g=>ab PP (.app (.c (b 6)) (.c e) 1 8 (.int .i64 0)) g λ e g=>vbin .add (b 27) (.int .i64 1) λ b=>aB [d,c] [d,c]/\∃c,c<a/\f c [e,b] g) (aB [] []/\e [(b 6)] g)
def jD (a:Heap) (b c:D) (d:HJq):Prop :=
 ∃(e:Nat->HJq) (f:Nat),e f [(.int .i64 0),(.int .i64 0)] a/\∀(a:Nat) (f:Nat->D) (g:Heap),e a [f 3,f 11] g->vbin .lss (f 11) b λ h=>vcond h ( ∃(d:HJq),( ∀(g:Nat->D) (h:Heap),d [g 3] h->vbin .add (f 11) (.int .i64 1) λ d=>aB [c,c,b] [c,c,b]/\∃b,b<a/\e b [(g 3),d] h)/\xI c (f 11) 1 g λ a e=>xL a 1 false e λ a e=>bq a e λ a=>vbin .add (f 3) a λ a=>vbin .lss a (.int .i64 0) λ g=>vcond g (ab PP (.dead) e λ e g=>ab PP (.dead) g λ e g=>aB [c,c,b,(f 11)] [c,c,b,(f 11)]/\d [a] g) (aB [c,c,b,(f 11)] [c,c,b,(f 11)]/\d [a] e)) (aB [c] [c]/\d [(f 3)] g)
def kW (a:D) (b:Heap) (K:HKq):Prop :=
 ∃(c:HJq),( ∀(b:Nat->D) (d:Heap),c [b 3] d->ag PP iM [.nil,(b 3)] d λ b c=>∃(d:HJq),( ∀(a:Nat->D) (b:Heap),d [a 6] b->K (a 6) b)/\bq a c λ e=>ff b c e a d)/\bq a b λ d=>jD b d a c
theorem qu (a0:D) (h0:Heap) (K:HKq):kW a0 h0 K=dQ kZ K [a0] h0:=by kernel_rfl
def tY:TLq
 | _=>none
def wu:TTq
 | _=>none
noncomputable abbrev oO:=cFn PP true jV tY (cDr PP 16 wu)
noncomputable def oY:aJ:=⟨16,aN oO,[.t 6]⟩
theorem vV:oO=some oY:=by kernel_rfl
def oE (a b c:D) (d:Heap) (K:HKq):Prop :=
 xB a d λ a d=>xB b d λ b d=>xL b 3 true d λ b d=>ag PP eH [b,c] d λ b c=>ab PP (.alloc (.agg [zI,zI,zI,zI,.nil,.nil,.nil,.nil,.nil,.nil])) c λ c d=>xS c b 10 d λ b d=>xL a 10 true d λ a b=>ag PP lj [a,c,(.fn ij [] [])] b λ a b=>xF c 9 b λ a b=>xL a 1 false b λ a b=>ag PP bS [a,(.fn bX [] [])] b λ a b=>K a b
theorem vv (a0:D) (a1:D) (a2:D) (h0:Heap) (K:HKq):oE a0 a1 a2 h0 K=dQ oY K [a0,a1,a2] h0:=by kernel_rfl
def yR:TLq
 | 1000010=>some ([3,4,5,6,10,11,13],[])|_=>none
def Cn:TTq
 | 1=>some ([0,0,0,6,14,31,0,127],[5,6,7],[999996,1])|2=>some ([0,0,0,0,12,28,63,127,255,255,0,1535,4095],[6,10,11],[999996,1])|5=>some ([0,0,2,0,14,30,63,0,255],[6,7,8],[999996,1])|9=>some ([0,0,0,4,0,28,60,127,255,511,511,0,3071,8191],[7,11,12],[999996,1])|_=>none
noncomputable abbrev ti:=cFn PP true mL yR (cDr PP 89 Cn)
noncomputable def tL:aJ:=⟨89,aN ti,[.t 8,.t 9]⟩
theorem BE:ti=some tL:=by kernel_rfl
def sS (a b c d:D) (e:Heap) (K:HKq):Prop :=
 xB a e λ a e=>xB b e λ b e=>xB c e λ c e=>yL b 3 true e λ f=>yF c 3 e λ g=>yJ g d 2 1 e λ h=>yL h 1 false e λ i=>ag PP eH [f,i] e λ e j=>ab PP (.alloc (.agg [zI,zI,zI,zI,.nil,.nil,.nil,.nil,.nil,.nil])) j λ j k=>((yL b 3 true k λ a=>aB [a] [f])/\(yF c 3 k λ a=>aB [a] [g])/\(yJ g d 2 1 k λ a=>aB [a] [h])/\(yL h 1 false k λ a=>aB [a] [i])/\True)/\xS j e 10 k λ e f=>yL a 10 true f λ e=>yL b 3 true f λ g=>yF c 5 f λ h=>yJ h d 2 1 f λ i=>yL i 1 false f λ k=>ag PP mK [e,g,j,k] f λ f l=>an PP (.ext (.c f) 0) l λ m=>an PP (.ext (.c f) 1) l λ f=>ab PP (.alloc (.agg [zI,zI,zI,zI,zI,zI,zI,zI,zJ])) l λ l n=>((yL a 10 true n λ a=>aB [a] [e])/\(yL b 3 true n λ a=>aB [a] [g])/\(yF c 5 n λ a=>aB [a] [h])/\(yJ h d 2 1 n λ a=>aB [a] [i])/\(yL i 1 false n λ a=>aB [a] [k])/\True)/\xS l m 9 n λ e g=>vun .not f λ e=>vcond e (K (.tup [.nil,(.bool false)]) g) (yL b 3 true g λ e=>vbin .sub (.int .i64 1) d λ f=>yF c 3 g λ h=>yJ h f 2 1 g λ i=>yL i 1 false g λ k=>ag PP eH [e,k] g λ g m=>ab PP (.alloc (.agg [zI,zI,zI,zI,.nil,.nil,.nil,.nil,.nil,.nil])) m λ m n=>((yL b 3 true n λ a=>aB [a] [e])/\(yF c 3 n λ a=>aB [a] [h])/\(yJ h f 2 1 n λ a=>aB [a] [i])/\(yL i 1 false n λ a=>aB [a] [k])/\True)/\xS m g 10 n λ e f=>xF j 7 f λ e f=>xL e 1 false f λ e f=>xF m 7 f λ f g=>xS f e 1 g λ e f=>∃(e:HJq),( ∀(f:Nat->D) (g:Heap),e [] g->yL a 10 true g λ e=>yL b 3 true g λ f=>vbin .sub (.int .i64 1) d λ d=>yF c 5 g λ h=>yJ h d 2 1 g λ i=>yL i 1 false g λ k=>ag PP mK [e,f,m,k] g λ g n=>an PP (.ext (.c g) 0) n λ o=>an PP (.ext (.c g) 1) n λ g=>ab PP (.alloc (.agg [zI,zI,zI,zI,zI,zI,zI,zI,zJ])) n λ n p=>((yL a 10 true p λ a=>aB [a] [e])/\(yL b 3 true p λ a=>aB [a] [f])/\(yF c 5 p λ a=>aB [a] [h])/\(yJ h d 2 1 p λ a=>aB [a] [i])/\(yL i 1 false p λ a=>aB [a] [k])/\True)/\xS n o 9 p λ a b=>ab PP (.mkf gk [] [(.c c)]) b λ a b=>vun .not g λ c=>vguard c false (λ c=>c a b) b λ b d=>vguard c false (λ a=>xL l 9 true d λ b c=>a b c) d λ d e=>vguard c false (λ a=>ab PP (.callv (.c b) [(.c d)]) e λ b c=>a b c) e λ b d=>vguard c false (λ a=>vun .not b λ b=>a b d) d λ b d=>xP c (.bool true) b d λ b c=>vguard b false (λ b=>b a c) c λ a c=>vguard b false (λ a=>xL n 9 true c λ b c=>a b c) c λ c d=>vguard b false (λ b=>ab PP (.callv (.c a) [(.c c)]) d λ a c=>b a c) d λ a c=>vguard b false (λ b=>vun .not a λ a=>b a c) c λ a c=>xP b (.bool true) a c λ a b=>vguard a false (λ a=>xL l 9 true b λ b c=>a b c) b λ b c=>vguard a false (λ a=>xL n 9 true c λ b c=>a b c) c λ c d=>vguard a false (λ a=>ag PP pn [b,c] d λ b c=>a b c) d λ b c=>vguard a false (λ a=>vun .not b λ b=>a b c) c λ b c=>xP a (.bool true) b c λ a b=>vcond a (K (.tup [.nil,(.bool false)]) b) (xF j 9 b λ a b=>xL a 1 false b λ a b=>xF m 9 b λ b c=>xL b 1 false c λ b c=>ab PP (.bldS true 1 2 .nil [(0,(.c a)),(1,(.c b))]) c λ a b=>ag PP cn [a] b λ a b=>K (.tup [a,(.bool true)]) b))/\xF b 1 f λ f g=>xL f 1 false g λ f g=>bq f g λ f=>vbin .eql f (.int .i64 1) λ f=>vcond f (xF j 8 g λ f g=>xL f 1 false g λ f g=>xF m 8 g λ g h=>xS g f 1 h λ f g=>aB [d,a,b,c,j,l,m] [d,a,b,c,j,l,m]/\e [] g) (aB [d,a,b,c,j,l,m] [d,a,b,c,j,l,m]/\e [] g))
theorem AO (a0:D) (a1:D) (a2:D) (a3:D) (h0:Heap) (K:HKq):sS a0 a1 a2 a3 h0 K=dQ tL K [a0,a1,a2,a3] h0:=by kernel_rfl
def uL:TLq
 | 1000005=>some ([0,5],[6])|_=>none
def yq:TTq
 | 5=>some ([0,0,0,4,0,16,48,112,240,0,1008,2032,4080,8176,16368,32764,65534,131071],[3,17],[999999])|6=>some ([0,0,1,7],[3],[])|_=>none
noncomputable abbrev pQ:=cFn PP true gQ uL (cDr PP 39 yq)
noncomputable def pZ:aJ:=⟨39,aN pQ,[.t 4,.cell 5 3 true]⟩
theorem xj:pQ=some pZ:=by kernel_rfl
def pG (a b:D) (c:Heap) (K:HKq):Prop :=
 ab PP (.alloc (.agg [zI,zI,zJ])) c λ c d=>ag PP aw [a] d λ d e=>vbin .rem d (.int .i64 5) λ d=>∃(f:HJq),( ∀(b:Nat->D) (d:Heap),f [b 6] d->ag PP bf [a] d λ d e=>ab PP (.alloc (.agg [zI,zI,zJ])) e λ e f=>xS e d 3 f λ d f=>yL e 3 true f λ d=>yF a 0 f λ g=>yF g 2 f λ h=>yF h 5 f λ i=>yL i 1 false f λ j=>yI j (b 6) 4 f λ k=>yF k 3 f λ l=>yL l 1 false f λ m=>vbin .sub m (.int .i64 1) λ n=>yC .i32 n f λ n=>ag PP bc [a] f λ f o=>((yL e 3 true o λ a=>aB [a] [d])/\(yF a 0 o λ a=>aB [a] [g])/\(yF g 2 o λ a=>aB [a] [h])/\(yF h 5 o λ a=>aB [a] [i])/\(yL i 1 false o λ a=>aB [a] [j])/\(yI j (b 6) 4 o λ a=>aB [a] [k])/\(yF k 3 o λ a=>aB [a] [l])/\(yL l 1 false o λ a=>aB [a] [m])/\True)/\an PP (.call fo [(.c n)]) o λ g=>an PP (.bld [zI,zI,zI,zI,zI,zJ,zI,zI,zJ,zI,zI,zJ,zI,zI,zJ] [(0,1,(.c (.int .i64 3))),(1,1,(.c (.int .i64 17))),(3,3,(.c d)),(6,3,(.c f)),(9,3,(.c g))]) o λ d=>ag PP aR [a,d] o λ a d=>yL e 3 true d λ a=>xS c a 3 d λ a d=>xL c 3 true d λ a c=>K (.tup [(b 6),a]) d)/\vbin .eql d (.int .i64 3) λ g=>vguard g true (λ a=>a b e) e λ b e=>vguard g true (λ a=>vun .not b λ b=>a b e) e λ b e=>xP g b (.bool false) e λ b e=>vcond b (aB [a,c] [a,c]/\f [(.int .i64 0)] e) (aB [a,c] [a,c]/\f [d] e)
theorem w7 (a0:D) (a1:D) (h0:Heap) (K:HKq):pG a0 a1 h0 K=dQ pZ K [a0,a1] h0:=by kernel_rfl
def qj:TLq
 | _=>none
def rW:TTq
 | _=>none
noncomputable abbrev mc:=cFn PP true ic qj (cDr PP 35 rW)
noncomputable def mg:aJ:=⟨35,aN mc,[.t 2]⟩
theorem rQ:mc=some mg:=by kernel_rfl
def lX (a:D) (b:Heap) (K:HKq):Prop :=
 vbin .shr a (.int .u64 1) λ c=>vbin .and c (.int .u64 6148914691236517205) λ c=>vbin .and a (.int .u64 6148914691236517205) λ a=>vbin .add c a λ a=>vbin .shr a (.int .u64 2) λ c=>vbin .and c (.int .u64 3689348814741910323) λ c=>vbin .and a (.int .u64 3689348814741910323) λ a=>vbin .add c a λ a=>vbin .shr a (.int .u64 4) λ c=>vbin .add c a λ a=>vbin .and a (.int .u64 1085102592571150095) λ a=>vbin .shr a (.int .u64 8) λ c=>vbin .add a c λ a=>vbin .shr a (.int .u64 16) λ c=>vbin .add a c λ a=>vbin .shr a (.int .u64 32) λ c=>vbin .add a c λ a=>xC .i64 a b λ a b=>vbin .and a (.int .i64 127) λ a=>K a b
theorem rf (a0:D) (h0:Heap) (K:HKq):lX a0 h0 K=dQ mg K [a0] h0:=by kernel_rfl
def Hf:TLq
 | 1000014=>some ([6,9],[])|8=>some ([2,3,4,6,9,35],[36])|_=>none
def Kd:TTq
 | _=>none
noncomputable abbrev Ga:=cFn PP true wJ Hf (cDr PP 59 Kd)
noncomputable def Gz:aJ:=⟨59,aN Ga,[.cell 6 3 true,.t 7]⟩
theorem Jp:Ga=some Gz:=by kernel_rfl
def xQ (a:Heap) (b c d e f g:D) (h:HJq):Prop :=
 ∃(i:Nat->HJq) (j:Nat),i j [(.int .i64 0)] a/\∀(a:Nat) (j:Nat->D) (k:Heap),i a [j 36] k->vbin .lss (j 36) b λ l=>vcond l (xL c 8 true k λ h k=>xL d 2 true k λ k l=>xF c 0 l λ l m=>xL l 1 false m λ l m=>vbin .mul e l λ l=>vbin .add l (j 36) λ l=>ag PP wI [h,k,l] m λ h k=>ab PP (.ext (.c h) 0) k λ k l=>ab PP (.ext (.c h) 1) l λ h l=>ab PP (.alloc (.agg [zI,zI,zI,zI,.nil,.nil,.nil])) l λ h l=>xS h k 7 l λ k l=>xF f 1 l λ k l=>xL k 1 false l λ k l=>xL h 7 true l λ h l=>ab PP (.bldS true 7 1 (.agg [zI,zI,zI,zI,.nil,.nil,.nil]) [(0,(.c h))]) l λ h l=>ab PP (.app (.c k) (.c h) 7 104 (.agg [zI,zI,zI,zI,.nil,.nil,.nil])) l λ h k=>xF f 1 k λ k l=>xS k h 1 l λ h k=>vbin .add (j 36) (.int .i64 1) λ h=>aB [e,c,d,g,f,b] [e,c,d,g,f,b]/\∃b,b<a/\i b [h] k) (aB [g,f] [g,f]/\h [] k)
def FY (a b c:D) (d:Heap) (K:HKq):Prop :=
 xB a d λ a d=>xB b d λ b d=>ab PP (.alloc (.agg [zI,.nil,.nil])) d λ d e=>xL a 8 true e λ e f=>xL b 2 true f λ f g=>ag PP jT [e,f] g λ e f=>vbin .neq e (.int .i64 0) λ g=>vcond g (ab PP (.bld [zI,.nil,.nil] []) f λ a b=>xS d a 3 b λ a b=>xL d 3 true b λ a c=>K (.tup [a,e]) b) (vbin .lss c (.int .i64 0) λ e=>vguard e false (λ a=>a c f) f λ f g=>vguard e false (λ a=>xF b 0 g λ b c=>a b c) g λ g h=>vguard e false (λ a=>xL g 1 false h λ b c=>a b c) h λ g h=>vguard e false (λ a=>vbin .geq f g λ b=>a b h) h λ f g=>xP e (.bool true) f g λ e f=>vcond e (ab PP (.bld [zI,.nil,.nil] []) f λ a b=>xS d a 3 b λ a b=>xL d 3 true b λ a c=>K (.tup [a,(.int .i64 1)]) b) (xF a 5 f λ e f=>xL e 1 false f λ e f=>ag PP nV [e,(.int .i64 2)] f λ e f=>ab PP (.bld [zI,.nil,.nil] [(0,1,(.c c)),(2,1,(.c e))]) f λ e f=>ab PP (.alloc (.agg [zI,.nil,.nil])) f λ f g=>xS f e 3 g λ e g=>∃(e:HJq),( ∀(a:Nat->D) (b:Heap),e [] b->xL f 3 true b λ a b=>xS d a 3 b λ a b=>xL d 3 true b λ a c=>K (.tup [a,(.int .i64 0)]) b)/\xF a 0 g λ g h=>xL g 1 false h λ g h=>xQ h g a b c f d e))
theorem Jd (a0:D) (a1:D) (a2:D) (h0:Heap) (K:HKq):FY a0 a1 a2 h0 K=dQ Gz K [a0,a1,a2] h0:=by kernel_rfl
def il:TLq
 | _=>none
def iL:TTq
 | _=>none
noncomputable abbrev du:=cFn PP true bp il (cDr PP 9 iL)
noncomputable def dA:aJ:=⟨9,aN du,[.t 4]⟩
theorem iH:du=some dA:=by kernel_rfl
def dq (a b:D) (c:Heap) (K:HKq):Prop :=
 ag PP dY [a,b] c λ a b=>vbin .geq a (.int .i64 0) λ a=>K a b
theorem iE (a0:D) (a1:D) (h0:Heap) (K:HKq):dq a0 a1 h0 K=dQ dA K [a0,a1] h0:=by kernel_rfl
def CF:TLq
 | _=>none
def EX:TTq
 | _=>none
noncomputable abbrev ya:=cFn PP true lk CF (cDr PP 6 EX)
noncomputable def yl:aJ:=⟨6,aN ya,[.t 2]⟩
theorem EF:ya=some yl:=by kernel_rfl
def xO (a:D) (b:Heap) (K:HKq):Prop :=
 xB a b λ a b=>xF a 1 b λ a b=>xL a 1 false b λ a b=>vbin .neq a (.int .i64 3) λ a=>K a b
theorem Es (a0:D) (h0:Heap) (K:HKq):xO a0 h0 K=dQ yl K [a0] h0:=by kernel_rfl
def kD:TLq
 | _=>none
def kQ:TTq
 | _=>none
noncomputable abbrev fO:=cFn PP true cG kD (cDr PP 8 kQ)
noncomputable def fR:aJ:=⟨8,aN fO,[.t 2]⟩
theorem kO:fO=some fR:=by kernel_rfl
def fM (a:D) (b:Heap) (K:HKq):Prop :=
 ab PP (.nilq false (.c a)) b λ b c=>vcond b (K .nil c) (ab PP (.bldS true 7 0 (.agg [zI,zI,zI,zI,.nil,.nil,.nil]) []) c λ b c=>ab PP (.app (.c b) (.c a) 7 104 (.agg [zI,zI,zI,zI,.nil,.nil,.nil])) c λ a b=>K a b)
theorem kM (a0:D) (h0:Heap) (K:HKq):fM a0 h0 K=dQ fR K [a0] h0:=by kernel_rfl
def zZ:TLq
 | _=>none
def DN:TTq
 | _=>none
noncomputable abbrev vI:=cFn PP true uJ zZ (cDr PP 4 DN)
noncomputable def v7:aJ:=⟨4,aN vI,[.t 2]⟩
theorem CW:vI=some v7:=by kernel_rfl
def vC (a:D) (b:Heap) (K:HKq):Prop :=
 xB a b λ a b=>ab PP (.mkf gY [] [(.c a)]) b λ a b=>K a b
theorem CO (a0:D) (h0:Heap) (K:HKq):vC a0 h0 K=dQ v7 K [a0] h0:=by kernel_rfl
def yX:TLq
 | _=>none
def Cu:TTq
 | _=>none
noncomputable abbrev tA:=cFn PP true jz yX (cDr PP 11 Cu)
noncomputable def tS:aJ:=⟨11,aN tA,[.t 6]⟩
theorem BM:tA=some tS:=by kernel_rfl
def sY (a b c:D) (d:Heap) (K:HKq):Prop :=
 xB a d λ a d=>xB b d λ b d=>xB c d λ c d=>xL b 1 false d λ d e=>ab PP (.mkf gl [] [(.c b),(.c a),(.c c)]) e λ a b=>ag PP bp [d,a] b λ a b=>vun .not a λ a=>K a b
theorem AY (a0:D) (a1:D) (a2:D) (h0:Heap) (K:HKq):sY a0 a1 a2 h0 K=dQ tS K [a0,a1,a2] h0:=by kernel_rfl
def yW:TLq
 | 1=>some ([0,1,2,8],[9])|_=>none
def Ct:TTq
 | 3=>some ([0,0,0,4,12,28,0,0,192,448,0,0,3072,7168,16380,32764,65532,65532,131071,393215],[19],[])|_=>none
noncomputable abbrev tx:=cFn PP true jy yW (cDr PP 32 Ct)
noncomputable def tR:aJ:=⟨32,aN tx,[]⟩
theorem BL:tx=some tR:=by kernel_rfl
def oH (a:Heap) (b c d e:D) (K:HKq):Prop :=
 ∃(f:Nat->HJq) (g:Nat),f g [(.int .i64 0)] a/\∀(a:Nat) (g:Nat->D) (h:Heap),f a [g 9] h->vbin .lss (g 9) b λ i=>vcond i (yF c 0 h λ i=>yF i 0 h λ i=>yL i 8 true h λ i=>yI d (g 9) 7 h λ j=>yL j 7 true h λ j=>yI e (g 9) 1 h λ k=>yL k 1 false h λ k=>an PP (.call sB [(.c i),(.c j),(.c k)]) h λ i=>an PP (.ext (.c i) 0) h λ j=>an PP (.ext (.c i) 1) h λ i=>yI d (g 9) 7 h λ i=>xS i j 7 h λ h i=>vbin .add (g 9) (.int .i64 1) λ g=>aB [c,d,e,b] [c,d,e,b]/\∃b,b<a/\f b [g] i) (K (.tup []) h)
def sX (a b c:D) (d:Heap) (K:HKq):Prop :=
 bq b d λ e=>oH d e a b c K
theorem AX (a0:D) (a1:D) (a2:D) (h0:Heap) (K:HKq):sX a0 a1 a2 h0 K=dQ tR K [a0,a1,a2] h0:=by kernel_rfl
def uS:TLq
 | 1000009=>some ([4],[])|2=>some ([1,2,4,9,10],[11])|_=>none
def yy:TTq
 | 6=>some ([0,1,0,0,12,31,63,0,128,0,512,2047,4095],[12],[])|_=>none
noncomputable abbrev pX:=cFn PP true eH uS (cDr PP 46 yy)
noncomputable def qd:aJ:=⟨46,aN pX,[.cell 4 10 true]⟩
theorem xq:pX=some qd:=by kernel_rfl
def nc (a:Heap) (b c d e f:D) (g:HJq) (K:HKq):Prop :=
 ∃(h:Nat->HJq) (i:Nat),h i [(.int .i64 0)] a/\∀(a:Nat) (i:Nat->D) (j:Heap),h a [i 11] j->vbin .lss (i 11) b λ k=>vcond k (xI c (i 11) 3 j λ g j=>xL g 3 true j λ g j=>ab PP (.alloc (.agg [zI,.nil,.nil])) j λ j k=>xS j g 3 k λ g k=>xF j 1 k λ g k=>xL g 1 false k λ g k=>xI g (.int .i64 0) 7 k λ g k=>xF g 0 k λ g k=>xL g 1 false k λ g k=>vbin .geq d g λ l=>vguard l true (λ a=>a d k) k λ k m=>vguard l true (λ a=>a g m) m λ m n=>vguard l true (λ a=>xF j 1 n λ b c=>a b c) n λ n o=>vguard l true (λ a=>xL n 1 false o λ b c=>a b c) o λ n o=>vguard l true (λ a=>bq n o λ b=>a b o) o λ n o=>vguard l true (λ a=>vbin .add m n λ b=>a b o) o λ m n=>vguard l true (λ a=>vbin .lss k m λ b=>a b n) n λ k m=>xP l k (.bool false) m λ k l=>vcond k (yF j 1 l λ a=>yL a 1 false l λ a=>vbin .sub d g λ b=>yI a b 7 l λ a=>yL a 7 true l λ a=>yF e 0 l λ b=>yL b 1 false l λ b=>yF j 2 l λ c=>yL c 1 false l λ c=>an PP (.bld [zI,zI,zI,zI,.nil,.nil,.nil,.nil,.nil,.nil] [(0,7,(.c a)),(7,1,(.c b)),(8,1,(.c c))]) l λ a=>xS f a 10 l λ a b=>xL f 10 true b λ a c=>K a b) (vbin .add (i 11) (.int .i64 1) λ g=>aB [d,e,f,c,b] [d,e,f,c,b]/\∃b,b<a/\h b [g] l)) (aB [f] [f]/\g [] j)
def pO (a b:D) (c:Heap) (K:HKq):Prop :=
 xB a c λ a c=>ab PP (.alloc (.agg [zI,zI,zI,zI,.nil,.nil,.nil,.nil,.nil,.nil])) c λ c d=>∃(e:HJq),( ∀(a:Nat->D) (b:Heap),e [] b->ab PP (.bld [zI,zI,zI,zI,.nil,.nil,.nil,.nil,.nil,.nil] []) b λ a b=>xS c a 10 b λ a b=>xL c 10 true b λ a c=>K a b)/\xF a 1 d λ d f=>xL d 1 false f λ d f=>bq d f λ g=>nc f g d b a c e K
theorem xf (a0:D) (a1:D) (h0:Heap) (K:HKq):pO a0 a1 h0 K=dQ qd K [a0,a1] h0:=by kernel_rfl
def CC:TLq
 | 1000012=>some ([],[])|2=>some ([1,2,3],[7])|_=>none
def EU:TTq
 | 4=>some ([0,1,0,4,0,16,48,112,0,256,768,1792,0,4096,12288,28672,0,131071,262143,524287,524287,524287,524287,524287,0,17825791,52428799,121634815,260046847,536870911],[24,25],[])|_=>none
noncomputable abbrev xX:=cFn PP true lj CC (cDr PP 74 EU)
noncomputable def yg:aJ:=⟨74,aN xX,[.t 6]⟩
theorem EC:xX=some yg:=by kernel_rfl
def ru (a:Heap) (b c d:D) (e:HJq) (K:HKq):Prop :=
 ∃(f:Nat->HJq) (g:Nat),f g [(.int .i64 0)] a/\∀(a:Nat) (g:Nat->D) (h:Heap),f a [g 7] h->vbin .lss (g 7) (.int .i64 200) λ i=>vguard i true (λ a=>a b h) h λ h j=>vguard i true (λ a=>xF h 0 j λ b c=>a b c) j λ h j=>vguard i true (λ a=>xF h 0 j λ b c=>a b c) j λ h j=>vguard i true (λ a=>xF h 1 j λ b c=>a b c) j λ h j=>vguard i true (λ a=>xL h 1 false j λ b c=>a b c) j λ h j=>vguard i true (λ a=>vbin .eql h (.int .i64 1) λ b=>a b j) j λ h j=>xP i h (.bool false) j λ h i=>vcond h (yF c 0 i λ e=>yL e 8 true i λ e=>yF c 8 i λ h=>yL h 2 true i λ h=>yF b 0 i λ j=>yF j 0 i λ j=>yL j 7 true i λ j=>yF b 0 i λ k=>yF k 7 i λ k=>yL k 1 false i λ k=>yF b 0 i λ l=>yF l 8 i λ l=>yL l 1 false i λ l=>an PP (.call sA [(.c e),(.c h),(.c j),(.c k),(.c l),(.c (g 7))]) i λ e=>an PP (.ext (.c e) 0) i λ h=>an PP (.ext (.c e) 1) i λ j=>an PP (.ext (.c e) 2) i λ k=>an PP (.ext (.c e) 3) i λ l=>an PP (.ext (.c e) 4) i λ e=>ab PP (.alloc (.agg [zI,zI,zI,zI,.nil,.nil,.nil])) i λ i m=>xS i h 7 m λ h m=>vbin .neq e (.int .i64 0) λ e=>vcond e (K (.bool false) m) (xL i 7 true m λ e h=>xF b 0 h λ h i=>xF h 0 i λ h i=>xS h e 7 i λ e h=>xF b 0 h λ e h=>xF e 7 h λ e h=>xS e j 1 h λ e h=>xF b 0 h λ e h=>xF e 8 h λ e h=>xS e k 1 h λ e h=>xF b 0 h λ e h=>xF e 9 h λ e h=>xL e 1 false h λ e h=>ab PP (.app (.c e) (.c l) 9 72 (.agg [zI,zI,zI,zI,zI,zI,zI,zI,zJ])) h λ e h=>xF b 0 h λ h i=>xF h 9 i λ h i=>xS h e 1 i λ e h=>ab PP (.callv (.c d) []) h λ e h=>vcond e (K (.bool true) h) (vbin .add (g 7) (.int .i64 1) λ e=>aB [b,d,c] [b,d,c]/\∃b,b<a/\f b [e] h))) (aB [] []/\e [] i)
def xK (a b c:D) (d:Heap) (K:HKq):Prop :=
 xB a d λ a d=>∃(e:HJq),( ∀(a:Nat->D) (b:Heap),e [] b->K (.bool false) b)/\ru d b a c e K
theorem Eo (a0:D) (a1:D) (a2:D) (h0:Heap) (K:HKq):xK a0 a1 a2 h0 K=dQ yg K [a0,a1,a2] h0:=by kernel_rfl
def qm:TLq
 | _=>none
def rY:TTq
 | _=>none
noncomputable abbrev mf:=cFn PP true ij qm (cDr PP 1 rY)
noncomputable def mj:aJ:=⟨1,aN mf,[.t 0]⟩
theorem rU:mf=some mj:=by kernel_rfl
def l6 (a:Heap) (K:HKq):Prop :=
 K (.bool false) a
theorem rB (h0:Heap) (K:HKq):l6 h0 K=dQ mj K [] h0:=by kernel_rfl
def ik:TLq
 | 1000012=>some ([0],[5])|5=>some ([0,1],[5,6])|1000007=>some ([0,1,6],[5])|_=>none
def iK:TTq
 | _=>none
noncomputable abbrev dt:=cFn PP true bS ik (cDr PP 42 iK)
noncomputable def dw:aJ:=⟨42,aN dt,[.t 4]⟩
theorem iG:dt=some dw:=by kernel_rfl
def cK (a b:D) (c:Heap) (d e:D) (f:HJq):Prop :=
 ∃(g:Nat->HJq) (h:Nat),g h [a,b] c/\∀(a:Nat) (b:Nat->D) (c:Heap),g a [b 5,b 6] c->bq d c λ h=>vbin .lss (b 6) h λ h=>vcond h ( ∃(f:HJq),( ∀(c:Nat->D) (h:Heap),f [c 5] h->vbin .add (b 6) (.int .i64 1) λ b=>aB [d,e] [d,e]/\∃d,d<a/\g d [(c 5),b] h)/\xI d (b 6) 9 c λ a c=>xL a 9 true c λ a c=>ab PP (.alloc (.agg [zI,zI,zI,zI,zI,zI,zI,zI,zJ])) c λ c g=>xS c a 9 g λ a g=>xL c 9 true g λ a g=>ab PP (.callv (.c e) [(.c a)]) g λ a g=>vun .not a λ a=>vcond a (xL c 9 true g λ a c=>xI d (b 5) 9 c λ c g=>xS c a 9 g λ a c=>vbin .add (b 5) (.int .i64 1) λ a=>aB [d,e,(b 6)] [d,e,(b 6)]/\f [a] c) (aB [d,e,(b 6)] [d,e,(b 6)]/\f [(b 5)] g)) (aB [d] [d]/\f [(b 5)] c)
def dp (a b:D) (c:Heap) (K:HKq):Prop :=
 ag PP bV [a,b] c λ c d=>vbin .eql c (.int .i64 (-1)) λ e=>vcond e (K a d) ( ∃(e:HJq),( ∀(b:Nat->D) (c:Heap),e [b 5] c->ab PP (.GQ (.c a) (some (.c (b 5))) none none 9) c λ c d=>ab PP (.clr (.c c) 9 (.agg [(.int .i64 0),(.int .i64 0),(.int .i64 0),(.int .i64 0),(.int .i64 0),(.int .i64 0),(.int .i64 0),(.int .i64 0),(.int .i32 0)])) d λ c d=>ab PP (.GQ (.c a) none (some (.c (b 5))) none 9) d λ a b=>K a b)/\vbin .add c (.int .i64 1) λ f=>cK c f d a b e)
theorem iD (a0:D) (a1:D) (h0:Heap) (K:HKq):dp a0 a1 h0 K=dQ dw K [a0,a1] h0:=by kernel_rfl
def ql:TLq
 | _=>none
def rX:TTq
 | _=>none
noncomputable abbrev me:=cFn PP true bX ql (cDr PP 6 rX)
noncomputable def mh:aJ:=⟨6,aN me,[.t 2]⟩
theorem rT:me=some mh:=by kernel_rfl
def lZ (a:D) (b:Heap) (K:HKq):Prop :=
 xB a b λ a b=>xL a 9 true b λ a b=>ag PP jl [a] b λ a b=>vun .not a λ a=>K a b
theorem rA (a0:D) (h0:Heap) (K:HKq):lZ a0 h0 K=dQ mh K [a0] h0:=by kernel_rfl
def Eb:TLq
 | _=>none
def GP:TTq
 | 1=>some ([0,1,0,4,12,28,60,127,0,511],[8,9],[])|_=>none
noncomputable abbrev Bg:=cFn PP true mK Eb (cDr PP 27 GP)
noncomputable def BC:aJ:=⟨27,aN Bg,[.cell 8 9 true,.t 9]⟩
theorem Gw:Bg=some BC:=by kernel_rfl
def AM (a b c d:D) (e:Heap) (K:HKq):Prop :=
 xB a e λ a e=>xB b e λ b e=>xB c e λ c e=>xB d e λ d e=>ab PP (.alloc (.agg [zI,zI,zI,zI,zI,zI,zI,zI,zJ])) e λ e f=>yF b 2 f λ b=>yL b 1 false f λ b=>yL c 1 false f λ g=>yF g 0 f λ g=>yF g 0 f λ g=>yF g 0 f λ g=>yL g 1 false f λ g=>an PP (.look (.int .i64) (.c b) (.c g) (.int .i64 0) false) f λ b=>ab PP (.alloc (.int .i64 0)) f λ f g=>xS f b 1 g λ b g=>ab PP (.alloc (.agg [zI,zI,zI,zI,zI,zI,zI,zI,zJ])) g λ b g=>xL a 10 true g λ a g=>xL c 1 false g λ g h=>ab PP (.mkf jw [] [(.c c),(.c f),(.c d),(.c b)]) h λ c d=>ag PP lj [a,g,c] d λ a c=>xL b 9 true c λ b c=>xS e b 9 c λ b c=>xL e 9 true c λ b d=>K (.tup [b,a]) c
theorem FU (a0:D) (a1:D) (a2:D) (a3:D) (h0:Heap) (K:HKq):AM a0 a1 a2 a3 h0 K=dQ BC K [a0,a1,a2,a3] h0:=by kernel_rfl
end Go.Am
namespace Go.Am
open Go Go.Proofs
def tX:TLq
 | _=>none
def wq:TTq
 | _=>none
noncomputable abbrev oN:=cFn PP true gk tX (cDr PP 16 wq)
noncomputable def oX:aJ:=⟨16,aN oN,[.t 3]⟩
theorem vU:oN=some oX:=by kernel_rfl
def oC (a b:D) (c:Heap) (K:HKq):Prop :=
 xB a c λ a c=>xF a 6 c λ c d=>xL c 1 false d λ c d=>xF b 7 d λ d e=>xL d 1 false e λ d e=>vbin .eql c d λ c=>vguard c true (λ b=>xF a 7 e λ a c=>b a c) e λ a d=>vguard c true (λ b=>xL a 1 false d λ a c=>b a c) d λ a d=>vguard c true (λ a=>xF b 8 d λ b c=>a b c) d λ b d=>vguard c true (λ a=>xL b 1 false d λ b c=>a b c) d λ b d=>vguard c true (λ c=>vbin .eql a b λ a=>c a d) d λ a b=>xP c a (.bool false) b λ a b=>K a b
theorem vu (a0:D) (a1:D) (h0:Heap) (K:HKq):oC a0 a1 h0 K=dQ oX K [a0,a1] h0:=by kernel_rfl
def CE:TLq
 | _=>none
def EW:TTq
 | _=>none
noncomputable abbrev xZ:=cFn PP true pn CE (cDr PP 26 EW)
noncomputable def yi:aJ:=⟨26,aN xZ,[.t 4]⟩
theorem EE:xZ=some yi:=by kernel_rfl
def xN (a b:D) (c:Heap) (K:HKq):Prop :=
 xB a c λ a c=>xB b c λ b c=>xF a 0 c λ c d=>xL c 1 false d λ c d=>vbin .eql c (.int .i64 1) λ c=>vcond c (xF b 0 d λ a b=>xL a 1 false b λ a b=>vbin .neq a (.int .i64 1) λ a=>K a b) (xF a 0 d λ c d=>xL c 1 false d λ c d=>vbin .eql c (.int .i64 3) λ c=>vcond c (xF b 0 d λ c d=>xL c 1 false d λ c d=>vbin .neq c (.int .i64 3) λ c=>vguard c false (λ b=>xF a 1 d λ a c=>b a c) d λ a d=>vguard c false (λ b=>xL a 1 false d λ a c=>b a c) d λ a d=>vguard c false (λ a=>xF b 1 d λ b c=>a b c) d λ b d=>vguard c false (λ a=>xL b 1 false d λ b c=>a b c) d λ b d=>vguard c false (λ c=>vbin .neq a b λ a=>c a d) d λ a b=>xP c (.bool true) a b λ a b=>K a b) (K (.bool true) d))
theorem Er (a0:D) (a1:D) (h0:Heap) (K:HKq):xN a0 a1 h0 K=dQ yi K [a0,a1] h0:=by kernel_rfl
def jn:TLq
 | 1000010=>some ([0],[3])|3=>some ([0,9,10],[3,11])|1000009=>some ([0,9,10,11],[3])|1000016=>some ([],[6])|11=>some ([25,26],[6,27])|_=>none
def jO:TTq
 | _=>none
noncomputable abbrev eN:=cFn PP true cn jn (cDr PP 36 jO)
noncomputable def eP:aJ:=⟨36,aN eN,[.t 2]⟩
theorem jK:eN=some eP:=by kernel_rfl
def bW (a:D) (b:Heap) (c d:D) (e:HJq):Prop :=
 ∃(f:Nat->HJq) (g:Nat),f g [a,(.int .i64 0)] b/\∀(a:Nat) (b:Nat->D) (g:Heap),f a [b 6,b 27] g->vbin .lss (b 27) c λ h=>vcond h (xI d (b 27) 1 g λ e g=>xL e 1 false g λ e g=>ab PP (.app (.c (b 6)) (.c e) 9 72 (.agg [zI,zI,zI,zI,zI,zI,zI,zI,zJ])) g λ e g=>vbin .add (b 27) (.int .i64 1) λ b=>aB [d,c] [d,c]/\∃c,c<a/\f c [e,b] g) (aB [] []/\e [(b 6)] g)
def dJ (a:Heap) (b c:D) (d:HJq):Prop :=
 ∃(e:Nat->HJq) (f:Nat),e f [(.int .i64 0),(.int .i64 0)] a/\∀(a:Nat) (f:Nat->D) (g:Heap),e a [f 3,f 11] g->vbin .lss (f 11) b λ h=>vcond h ( ∃(d:HJq),( ∀(g:Nat->D) (h:Heap),d [g 3] h->vbin .add (f 11) (.int .i64 1) λ d=>aB [c,c,b] [c,c,b]/\∃b,b<a/\e b [(g 3),d] h)/\xI c (f 11) 1 g λ a e=>xL a 1 false e λ a e=>bq a e λ a=>vbin .add (f 3) a λ a=>vbin .lss a (.int .i64 0) λ g=>vcond g (ab PP (.dead) e λ e g=>ab PP (.dead) g λ e g=>aB [c,c,b,(f 11)] [c,c,b,(f 11)]/\d [a] g) (aB [c,c,b,(f 11)] [c,c,b,(f 11)]/\d [a] e)) (aB [c] [c]/\d [(f 3)] g)
def eK (a:D) (b:Heap) (K:HKq):Prop :=
 ∃(c:HJq),( ∀(b:Nat->D) (d:Heap),c [b 3] d->ag PP cB [.nil,(b 3)] d λ b c=>∃(d:HJq),( ∀(a:Nat->D) (b:Heap),d [a 6] b->K (a 6) b)/\bq a c λ e=>bW b c e a d)/\bq a b λ d=>dJ b d a c
theorem jI (a0:D) (h0:Heap) (K:HKq):eK a0 h0 K=dQ eP K [a0] h0:=by kernel_rfl
def Fj:TLq
 | 1000008=>some ([5],[])|3=>some ([1,5,11,12],[13])|_=>none
def IJ:TTq
 | _=>none
noncomputable abbrev Dq:=cFn PP true nV Fj (cDr PP 27 IJ)
noncomputable def DA:aJ:=⟨27,aN Dq,[.t 4]⟩
theorem HH:Dq=some DA:=by kernel_rfl
def vn (a:Heap) (b c d e:D) (f:HJq):Prop :=
 ∃(g:Nat->HJq) (h:Nat),g h [(.int .i64 0)] a/\∀(a:Nat) (h:Nat->D) (i:Heap),g a [h 13] i->vbin .lss (h 13) b λ j=>vcond j (xI c (h 13) 4 i λ f i=>xL f 4 true i λ f i=>ab PP (.alloc (.agg [(.str ⟨#[]⟩),(.int .i64 0),(.int .i64 0),(.int .i64 0)])) i λ i j=>xS i f 4 j λ f j=>xL i 4 true j λ f i=>ag PP nU [f,d] i λ f i=>ab PP (.mk 1 4 (.int .i32 0) (.c f) (.c f)) i λ f i=>xI e (h 13) 1 i λ i j=>xS i f 1 j λ f i=>vbin .add (h 13) (.int .i64 1) λ f=>aB [d,e,c,b] [d,e,c,b]/\∃b,b<a/\g b [f] i) (aB [e] [e]/\f [] i)
def De (a b:D) (c:Heap) (K:HKq):Prop :=
 bq a c λ d=>ab PP (.mk 1 24 .nil (.c d) (.c d)) c λ c d=>∃(e:HJq),( ∀(a:Nat->D) (b:Heap),e [] b->K c b)/\bq a d λ f=>vn d f a b c e
theorem Hu (a0:D) (a1:D) (h0:Heap) (K:HKq):De a0 a1 h0 K=dQ DA K [a0,a1] h0:=by kernel_rfl
def Hb:TLq
 | _=>none
def Ka:TTq
 | _=>none
noncomputable abbrev F7:=cFn PP true wI Hb (cDr PP 23 Ka)
noncomputable def Gv:aJ:=⟨23,aN F7,[.cell 6 7 true,.t 7]⟩
theorem Jm:F7=some Gv:=by kernel_rfl
def FT (a b c:D) (d:Heap) (K:HKq):Prop :=
 xB a d λ a d=>xB b d λ b d=>ab PP (.alloc (.agg [zI,zI,zI,zI,.nil,.nil,.nil])) d λ d e=>vbin .lss c (.int .i64 0) λ f=>vguard f false (λ a=>a c e) e λ e g=>vguard f false (λ a=>xF b 0 g λ b c=>a b c) g λ b g=>vguard f false (λ a=>xL b 1 false g λ b c=>a b c) g λ b g=>vguard f false (λ b=>xF a 0 g λ a c=>b a c) g λ g h=>vguard f false (λ a=>xL g 1 false h λ b c=>a b c) h λ g h=>vguard f false (λ a=>vbin .mul b g λ b=>a b h) h λ b g=>vguard f false (λ a=>vbin .geq e b λ b=>a b g) g λ b e=>xP f (.bool true) b e λ b e=>vcond b (ab PP (.bld [zI,zI,zI,zI,.nil,.nil,.nil] []) e λ a b=>xS d a 7 b λ a b=>xL d 7 true b λ a c=>K (.tup [a,(.int .i64 1)]) b) (xL a 8 true e λ a b=>ag PP qi [a,c,(.int .i64 0),(.int .i64 1)] b λ a b=>xS d a 7 b λ a b=>xL d 7 true b λ a c=>K (.tup [a,(.int .i64 0)]) b)
theorem Ja (a0:D) (a1:D) (a2:D) (h0:Heap) (K:HKq):FT a0 a1 a2 h0 K=dQ Gv K [a0,a1,a2] h0:=by kernel_rfl
def jb:TLq
 | 1000008=>some ([],[])|2=>some ([0,1,7],[8])|_=>none
def jG:TTq
 | _=>none
noncomputable abbrev eg:=cFn PP true dY jb (cDr PP 19 jG)
noncomputable def eh:aJ:=⟨19,aN eg,[.t 4]⟩
theorem jt:eg=some eh:=by kernel_rfl
def dn (a:Heap) (b c d:D) (e:HJq) (K:HKq):Prop :=
 ∃(f:Nat->HJq) (g:Nat),f g [(.int .i64 0)] a/\∀(a:Nat) (g:Nat->D) (h:Heap),f a [g 8] h->vbin .lss (g 8) b λ i=>vcond i (xI c (g 8) 7 h λ e h=>xL e 7 true h λ e h=>ab PP (.callv (.c d) [(.c e)]) h λ e h=>vcond e (K (g 8) h) (vbin .add (g 8) (.int .i64 1) λ e=>aB [c,d,b] [c,d,b]/\∃b,b<a/\f b [e] h)) (aB [] []/\e [] h)
def ec (a b:D) (c:Heap) (K:HKq):Prop :=
 ∃(d:HJq),( ∀(a:Nat->D) (b:Heap),d [] b->K (.int .i64 (-1)) b)/\bq a c λ e=>dn c e a b d K
theorem jr (a0:D) (a1:D) (h0:Heap) (K:HKq):ec a0 a1 h0 K=dQ eh K [a0,a1] h0:=by kernel_rfl
def uT:TLq
 | 1=>some ([0,1],[3])|1000008=>some ([0,1,3],[])|4000007=>some ([0,1,3],[])|_=>none
def yz:TTq
 | 4=>some ([0,1,3,7,15,0,32,96,224,480,1023],[10],[999999])|_=>none
noncomputable abbrev pY:=cFn PP true gY uT (cDr PP 30 yz)
noncomputable def qe:aJ:=⟨30,aN pY,[]⟩
theorem xr:pY=some qe:=by kernel_rfl
def iV:ACode:=.tT [⟨(some 4),.mov (.t 22),none⟩]
def iU:ACode:=.block 3 (.tT [⟨(some 23),.ld (.t 1) 1 false,none⟩,
  ⟨(some 24),.mov (.t 4),none⟩,
  ⟨(some 25),.call gr [(.t 23),(.t 24)],none⟩,
  ⟨(some 26),.mov (.t 25),none⟩,
  ⟨(some 27),.ld (.t 3) 1 false,some (26,false)⟩,
  ⟨(some 28),.pick (.t 26) (.c (.bool true)) (.t 27),none⟩,
  ⟨none,.st (.t 3) (.t 28) 1,none⟩])
def ng (a:Nat) (b:fu) (c d e f:D) (g:Heap) (K:HKq):Prop :=
 Ex.normal=Ex.normal/\g a=.lp .ready b/\xL e 1 false (ak g a (.lp .busy b)) λ d e=>ag PP gr [d,c] e λ c d=>vguard c false (λ a=>xL f 1 false d λ b c=>a b c) d λ d e=>xP c (.bool true) d e λ c d=>xS f c 1 d λ c d=>d a=.lp .busy b/\K (.bool true) (ak d a (.lp .ready b))
theorem sk (n0:Nat) (B0:fu) (a22:D) (a0:D) (a1:D) (a3:D) (h0:Heap) (K:HKq):ng n0 B0 a22 a0 a1 a3 h0 K=JP PP n0 B0 [22] [a22] [(0,a0),(1,a1),(3,a3)] iV iU h0 K:=by kernel_rfl
def nh (a:D) (b:Heap) (c d:D) (K:HKq):Prop :=
 ∃(e:Nat->HJq) (f:Nat),e f [a] b/\∀(a:Nat) (b:Nat->D) (f:Heap),e a [b 3] f->xL (b 3) 1 false f λ f g=>vcond f ( ∃(f:HJq),( ∀(g:Nat->D) (h:Heap),f [] h->xL (b 3) 1 false h λ b f=>ab PP (.alloc (.bool false)) f λ f g=>xS f b 1 g λ b g=>aB [c,d] [c,d]/\∃b,b<a/\e b [f] g)/\xL d 1 false g λ a e=>ag PP mM [a] e λ a e=>ab PP (.callv (.c c) [(.c a)]) e λ a e=>vun .not a λ a=>vcond a (K (.tup []) e) (xS (b 3) (.bool false) 1 e λ a e=>yL d 1 false e λ a=>yF a 0 e λ a=>yF a 11 e λ a=>yF a 1 e λ a=>yL a 1 false e λ a=>yL d 1 false e λ g=>yF g 0 e λ g=>yF g 0 e λ g=>yF g 1 e λ g=>yL g 1 false e λ g=>ag PP cH [a,g] e λ a e=>M0 PP a [22] [(0,c),(1,d),(3,(b 3))] iV iU e λ a e=>ct a e (aB [c,d,(b 3)] [c,d,(b 3)]/\f [] (ak e a .dead)) (λ a=>False) (False))) (K (.tup []) g)
def pP (a b:D) (c:Heap) (K:HKq):Prop :=
 ab PP (.alloc (.bool false)) c λ c d=>xS c (.bool true) 1 d λ d e=>nh c e a b K
theorem xg (a0:D) (a1:D) (h0:Heap) (K:HKq):pP a0 a1 h0 K=dQ qe K [a0,a1] h0:=by kernel_rfl
def yV:TLq
 | 1000016=>some ([],[])|2=>some ([0,14],[15])|1000015=>some ([0,14,15],[])|4=>some ([0,3,14,15],[])|_=>none
def Cs:TTq
 | 7=>some ([0,1,3,7,0,16,48,112,0,256,768,1792,3840,0,16128,32512,0,65536,196608,458752,0,1048576,3145728,7340032,15728640,0,33554432,100663296,234881024,0,1040187392,2113929216,4294967295,8589934591,17179869183,17179869183,17179869183,17179869183,17179869183,0,584115552255,1717986918399,3985729650687,8521215115263,17592186044415],[39,40],[])|10=>some ([0,1,3,7,15,0,0,0,0,0,0,319,2367,7039,15231,31615,65535,131071,262143,524287],[12,15,19],[])|_=>none
noncomputable abbrev tu:=cFn PP true mM yV (cDr PP 118 Cs)
noncomputable def tQ:aJ:=⟨118,aN tu,[.t 2]⟩
theorem BK:tu=some tQ:=by kernel_rfl
def oG (a:Heap) (b:D) (c:Nat->D) (d:D) (e:HJq) (K:HKq):Prop :=
 ∃(f:Nat->HJq) (g:Nat),f g [] a/\∀(a:Nat) (g:Nat->D) (h:Heap),f a [] h->xF b 0 h λ g h=>xF g 11 h λ g h=>xF g 1 h λ g h=>xL g 1 false h λ g h=>xI g (c 15) 7 h λ g h=>xF g 1 h λ g h=>xL g 1 false h λ g h=>vbin .eql g (.int .i64 1) λ g=>vcond g (xF b 0 h λ e g=>xF e 16 g λ e g=>xL e 1 false g λ e g=>vbin .eql e (.int .i64 200000) λ e=>vcond e (K (.int .i64 2) g) (yF b 0 g λ e=>yF e 0 g λ e=>yL e 8 true g λ e=>yF b 0 g λ h=>yF h 8 g λ h=>yL h 2 true g λ h=>yF b 0 g λ i=>yF i 11 g λ i=>yF i 1 g λ i=>yL i 1 false g λ i=>yI i (c 15) 7 g λ i=>yL i 7 true g λ i=>yF b 0 g λ j=>yF j 10 g λ j=>yL j 1 false g λ j=>yF b 0 g λ k=>yF k 11 g λ k=>yF k 2 g λ k=>yL k 1 false g λ k=>yF b 0 g λ l=>yF l 15 g λ l=>yL l 1 false g λ l=>yI l (c 15) 1 g λ l=>yL l 1 false g λ l=>an PP (.call sA [(.c e),(.c h),(.c i),(.c j),(.c k),(.c l)]) g λ e=>an PP (.ext (.c e) 0) g λ h=>an PP (.ext (.c e) 1) g λ i=>an PP (.ext (.c e) 2) g λ j=>an PP (.ext (.c e) 3) g λ k=>an PP (.ext (.c e) 4) g λ e=>ab PP (.alloc (.agg [zI,zI,zI,zI,.nil,.nil,.nil])) g λ g l=>xS g h 7 l λ h l=>vbin .neq e (.int .i64 0) λ h=>vcond h (K e l) (yF b 0 l λ e=>yF e 11 l λ e=>yF e 1 l λ e=>yL e 1 false l λ e=>yL g 7 true l λ g=>yI e (c 15) 7 l λ e=>yF b 0 l λ h=>yF h 10 l λ h=>yF b 0 l λ m=>yF m 11 l λ m=>yF m 2 l λ m=>xS e g 7 l λ e g=>xS h i 1 g λ e g=>xS m j 1 g λ e g=>xF b 0 g λ e g=>xF e 14 g λ e g=>xL e 1 false g λ e g=>ab PP (.app (.c e) (.c k) 9 72 (.agg [zI,zI,zI,zI,zI,zI,zI,zI,zJ])) g λ e g=>xF b 0 g λ g h=>xF g 14 h λ g h=>xS g e 1 h λ e g=>xF b 0 g λ e g=>xF e 15 g λ e g=>xL e 1 false g λ e g=>xI e (c 15) 1 g λ g h=>xL g 1 false h λ g h=>vbin .add g (.int .i64 1) λ g=>xI e (c 15) 1 h λ e h=>xS e g 1 h λ e g=>xF b 0 g λ e g=>xF e 16 g λ e g=>xL e 1 false g λ e g=>vbin .add e (.int .i64 1) λ e=>xF b 0 g λ g h=>xF g 16 h λ g h=>xS g e 1 h λ e g=>aB [b,(c 15),d,(c 15)] [b,(c 15),d,(c 15)]/\∃b,b<a/\f b [] g))) (aB [b,d,(c 15)] [b,d,(c 15)]/\e [] h)
def oF (a:Heap) (b c:D) (d:HJq) (K:HKq):Prop :=
 ∃(e:Nat->HJq) (f:Nat),e f [(.int .i64 0)] a/\∀(a:Nat) (f:Nat->D) (g:Heap),e a [f 15] g->vbin .lss (f 15) b λ h=>vcond h ( ∃(d:HJq),( ∀(g:Nat->D) (h:Heap),d [] h->vbin .add (f 15) (.int .i64 1) λ d=>aB [c,b] [c,b]/\∃b,b<a/\e b [d] h)/\oG g c f b d K) (aB [] []/\d [] g)
def sW (a:D) (b:Heap) (K:HKq):Prop :=
 ∃(c:HJq),( ∀(a:Nat->D) (b:Heap),c [] b->K (.int .i64 0) b)/\xF a 0 b λ b d=>xF b 11 d λ b d=>xF b 1 d λ b d=>xL b 1 false d λ b d=>bq b d λ b=>oF d b a c K
theorem AW (a0:D) (h0:Heap) (K:HKq):sW a0 h0 K=dQ tQ K [a0] h0:=by kernel_rfl
def kE:TLq
 | 1000004=>some ([2,3],[])|_=>none
def kR:TTq
 | _=>none
noncomputable abbrev fP:=cFn PP true cH kE (cDr PP 9 kR)
noncomputable def fS:aJ:=⟨9,aN fP,[.t 4]⟩
theorem kP:fP=some fS:=by kernel_rfl
def fN (a b:D) (c:Heap) (K:HKq):Prop :=
 xB a c λ a c=>xB b c λ b c=>∃(d:HJq),( ∀(c:Nat->D) (e:Heap),d [] e->ab PP (.mkf bj [] [(.c a),(.c b)]) e λ a b=>K a b)/\xL b 1 false c λ c e=>vbin .lss c (.int .i64 1) λ c=>vcond c (ab PP (.dead) e λ c e=>ab PP (.dead) e λ c e=>aB [a,b] [a,b]/\d [] e) (aB [a,b] [a,b]/\d [] e)
theorem kN (a0:D) (a1:D) (h0:Heap) (K:HKq):fN a0 a1 h0 K=dQ fS K [a0,a1] h0:=by kernel_rfl
def ua:TLq
 | 1000011=>some ([0,1,5],[6,7])|6=>some ([0,1,5,28,29],[6,7,30])|_=>none
def wB:TTq
 | 3=>some ([0,1,3,7,15,0,32,96,224,511,1023,2047,0,8191],[12,13],[])|8=>some ([0,0,0,4,14,30,63,0,0,0,512,1919,3967,8191,16383,32767],[4,6,11,13,14,15],[999999])|_=>none
noncomputable abbrev oS:=cFn PP true gr ua (cDr PP 61 wB)
noncomputable def pd:aJ:=⟨61,aN oS,[.t 4]⟩
theorem vZ:oS=some pd:=by kernel_rfl
def l7 (a:Heap) (b c d e:D) (f:HJq):Prop :=
 ∃(g:Nat->HJq) (h:Nat),g h [.nil,.nil,(.int .i64 0)] a/\∀(a:Nat) (h:Nat->D) (i:Heap),g a [h 6,h 7,h 30] i->vbin .lss (h 30) b λ j=>vcond j (xI c (h 30) 7 i λ f i=>xL f 7 true i λ f i=>ab PP (.alloc (.agg [zI,zI,zI,zI,.nil,.nil,.nil])) i λ i j=>xS i f 7 j λ f j=>yL i 7 true j λ f=>yF d 5 j λ k=>yL k 3 true j λ k=>yL i 7 true j λ l=>yF d 8 j λ m=>yL m 3 true j λ n=>ag PP cP [f,k] j λ f j=>((yL i 7 true j λ a=>aB [a] [l])/\(yF d 8 j λ a=>aB [a] [m])/\(yL m 3 true j λ a=>aB [a] [n])/\True)/\an PP (.bldS false 1 1 (.int .i32 0) [(0,(.c f))]) j λ f=>ab PP (.app (.c (h 6)) (.c f) 1 4 (.int .i32 0)) j λ f j=>((yL i 7 true j λ a=>aB [a] [l])/\(yF d 8 j λ a=>aB [a] [m])/\(yL m 3 true j λ a=>aB [a] [n])/\True)/\ag PP cP [l,n] j λ i j=>an PP (.bldS false 1 1 (.int .i32 0) [(0,(.c i))]) j λ i=>ab PP (.app (.c (h 7)) (.c i) 1 4 (.int .i32 0)) j λ i j=>vbin .add (h 30) (.int .i64 1) λ h=>aB [e,c,d,c,b] [e,c,d,c,b]/\∃b,b<a/\g b [f,i,h] j) (aB [e,c,d] [e,c,d]/\f [(h 6),(h 7)] i)
def oK (a b:D) (c:Heap) (K:HKq):Prop :=
 ag PP jz [a,b,(.int .i64 4)] c λ c d=>vun .not c λ c=>vcond c (K (.bool false) d) (yF a 0 d λ c=>yF c 0 d λ c=>yF c 7 d λ c=>yL c 1 false d λ c=>yI b (.int .i64 0) 7 d λ e=>yF e 2 d λ e=>yL e 1 false d λ e=>yI c e 14 d λ c=>yF c 1 d λ c=>yL c 13 true d λ c=>ab PP (.alloc (.agg [zI,zI,zI,zI,zJ,zI,zI,zJ,zI,zI,zJ,zI,zI])) d λ d e=>xS d c 13 e λ c e=>∃(c:HJq),( ∀(e:Nat->D) (f:Heap),c [e 6,e 7] f->xF d 1 f λ c d=>xL c 1 false d λ c d=>ag PP kB [c,(e 6),(e 7)] d λ c d=>ab PP (.ext (.c c) 0) d λ d e=>ab PP (.ext (.c c) 1) e λ c e=>ag PP jy [a,b,d] e λ a b=>K (.bool true) b)/\bq b e λ f=>l7 e f b d a c)
theorem vA (a0:D) (a1:D) (h0:Heap) (K:HKq):oK a0 a1 h0 K=dQ pd K [a0,a1] h0:=by kernel_rfl
def tZ:TLq
 | _=>none
def wv:TTq
 | 1=>some ([0,1,3,7,15,31,15,79,207,463,1023,2047,4095,8191,16383,32767,65535,131071,8191,270335,1048575,2097151,4194303,8388607,8191,33554431,67108863,134217727],[],[])|_=>none
noncomputable abbrev oQ:=cFn PP true gl tZ (cDr PP 33 wv)
noncomputable def oZ:aJ:=⟨33,aN oQ,[.t 5]⟩
theorem vY:oQ=some oZ:=by kernel_rfl
def oJ (a b c d:D) (e:Heap) (K:HKq):Prop :=
 xB a e λ a e=>yF a 1 e λ f=>yL f 1 false e λ f=>vbin .neq f (.int .i64 2) λ f=>aj f false (λ b=>yF a 2 e λ a=>b a) λ g=>aj f false (λ a=>yL g 1 false e λ b=>a b) λ g=>aj f false (λ a=>yL b 1 false e λ b=>a b) λ b=>aj f false (λ a=>yI b (.int .i64 0) 7 e λ b=>a b) λ b=>aj f false (λ a=>yF b 2 e λ b=>a b) λ b=>aj f false (λ a=>yL b 1 false e λ b=>a b) λ b=>aj f false (λ a=>vbin .neq g b λ b=>a b) λ b=>yP f (.bool true) b e λ b=>aj b false (λ a=>yL c 1 false e λ b=>a b) λ c=>aj b false (λ a=>yF c 0 e λ b=>a b) λ c=>aj b false (λ a=>yF c 0 e λ b=>a b) λ c=>aj b false (λ a=>yF c 7 e λ b=>a b) λ c=>aj b false (λ a=>yL c 1 false e λ b=>a b) λ c=>aj b false (λ b=>yF a 2 e λ a=>b a) λ a=>aj b false (λ b=>yL a 1 false e λ a=>b a) λ a=>aj b false (λ b=>yI c a 14 e λ a=>b a) λ a=>aj b false (λ b=>yF a 1 e λ a=>b a) λ a=>aj b false (λ b=>yF a 0 e λ a=>b a) λ a=>aj b false (λ b=>yL a 1 false e λ a=>b a) λ a=>aj b false (λ a=>yL d 1 false e λ b=>a b) λ c=>aj b false (λ b=>vbin .neq a c λ a=>b a) λ a=>yP b (.bool true) a e λ a=>K a e
theorem vz (a0:D) (a1:D) (a2:D) (a3:D) (h0:Heap) (K:HKq):oJ a0 a1 a2 a3 h0 K=dQ oZ K [a0,a1,a2,a3] h0:=by kernel_rfl
def IZ:TLq
 | 1000009=>some ([4,6],[])|_=>none
def LX:TTq
 | 4=>some ([0,1,3,0,8,31,63],[4,6],[1,2])|_=>none
noncomputable abbrev Is:=cFn PP true sB IZ (cDr PP 40 LX)
noncomputable def IC:aJ:=⟨40,aN Is,[.cell 6 7 true,.t 7]⟩
theorem LJ:Is=some IC:=by kernel_rfl
def Ik (a b c:D) (d:Heap) (K:HKq):Prop :=
 xB a d λ a d=>xB b d λ b d=>ab PP (.alloc (.agg [zI,zI,zI,zI,.nil,.nil,.nil])) d λ d e=>xF b 1 e λ e f=>xL e 1 false f λ e f=>vbin .neq e (.int .i64 2) λ e=>vcond e (xL b 7 true f λ a b=>xS d a 7 b λ a b=>xL d 7 true b λ a c=>K (.tup [a,(.int .i64 1)]) b) (xF a 7 f λ a e=>xL a 1 false e λ a e=>xF b 2 e λ e f=>xL e 1 false f λ e f=>xI a e 14 f λ a e=>xF a 1 e λ a e=>xL a 13 true e λ a e=>ab PP (.alloc (.agg [zI,zI,zI,zI,zJ,zI,zI,zJ,zI,zI,zJ,zI,zI])) e λ e f=>xS e a 13 f λ a f=>yF e 11 f λ a=>yJ a (.int .i64 0) 2 1 f λ g=>yL g 1 false f λ h=>yF b 1 f λ i=>yF b 2 f λ j=>xS i (.int .i64 1) 1 f λ f i=>((yJ a (.int .i64 0) 2 1 i λ a=>aB [a] [g])/\(yL g 1 false i λ a=>aB [a] [h])/\True)/\xS j h 1 i λ f i=>((yJ a (.int .i64 0) 2 1 i λ a=>aB [a] [g])/\(yL g 1 false i λ a=>aB [a] [h])/\True)/\∃(a:HJq),( ∀(c:Nat->D) (e:Heap),a [] e->xL b 7 true e λ a b=>xS d a 7 b λ a b=>xL d 7 true b λ a c=>K (.tup [a,(.int .i64 0)]) b)/\xF e 0 i λ f g=>xL f 1 false g λ f g=>vbin .eql f (.int .i64 4) λ f=>vcond f (xF b 4 g λ f g=>xL f 1 false g λ f g=>ag PP aU [f] g λ f g=>xF b 4 g λ g h=>xS g f 1 h λ f g=>xF b 4 g λ f g=>xL f 1 false g λ f g=>xF e 2 g λ e g=>xF e 1 g λ e g=>xL e 1 false g λ e g=>xI f e 1 g λ e f=>xS e c 1 f λ c e=>aB [b,d] [b,d]/\a [] e) (aB [b,d] [b,d]/\a [] g))
theorem Lv (a0:D) (a1:D) (a2:D) (h0:Heap) (K:HKq):Ik a0 a1 a2 h0 K=dQ IC K [a0,a1,a2] h0:=by kernel_rfl
def IY:TLq
 | 1000012=>some ([12,13,14,15,16,17],[])|7=>some ([5,8,12,13,14,15,16,17,64,65],[66])|8000009=>some ([1],[])|_=>none
def LV:TTq
 | 2=>some ([0,0,0,1,11,31,63,127],[3,4,5,6,7],[1,2])|4=>some ([0,0,0,0,8,0,56,0,255,511,1023],[4,6,7,9],[999996,2])|5=>some ([0,0,0,0,8,24,0,64,248,0,512,2040,4089,8185,16377,32761,65531,131067,262139,524283,1048575,2097151,4194303,8388607],[5,8,11,15,19,23],[999999])|11=>some ([0,1,0,4,12,28,0,64,192,448,0,1024,3072,7168,3,16447,50175,131071,262143],[1,14,15,16,17,18],[999999])|_=>none
def IB:MW:=⟨96,
 [(.tT [⟨(some 6),.box (.t 0),none⟩,
  ⟨(some 7),.box (.t 1),none⟩,
  ⟨(some 8),.box (.t 2),none⟩,
  ⟨(some 9),.box (.t 3),none⟩,
  ⟨(some 10),.box (.t 4),none⟩,
  ⟨(some 12),.alloc (.agg [(.int .i64 0),(.int .i64 0),(.int .i64 0),(.int .i64 0),.nil,.nil,.nil]),none⟩,
  ⟨(some 13),.alloc .nil,none⟩,
  ⟨(some 14),.alloc .nil,none⟩,
  ⟨(some 15),.alloc .nil,none⟩,
  ⟨(some 16),.alloc (.int .i64 0),none⟩]),(.seq (.tT [⟨(some 20),.fadd (.t 8) 1,none⟩,
  ⟨(some 21),.ld (.t 20) 1 false,none⟩,
  ⟨(some 22),.bin .neq (.t 21) (.c (.int .i64 1)),none⟩]) <|
 .cond (.t 22) (.seq (.dreg [⟨(some 23),.ld (.t 8) 7 true,none⟩,
  ⟨(some 24),.ld (.t 9) 1 false,none⟩,
  ⟨(some 25),.ld (.t 10) 1 false,none⟩] [⟨none,.st (.t 12) (.t 23) 7,none⟩,
  ⟨none,.st (.t 13) (.t 24) 1,none⟩,
  ⟨none,.st (.t 14) (.t 25) 1,none⟩,
  ⟨none,.st (.t 15) (.c .nil) 1,none⟩,
  ⟨none,.st (.t 16) (.c (.int .i64 1)) 1,none⟩] [⟨(some 24),.ld (.t 9) 1 false,none⟩,
  ⟨(some 25),.ld (.t 10) 1 false,none⟩]) <|
 .ret) (.skip))],jU,[],[(.t 8),(.t 9),(.t 10),(.t 12),(.t 13),(.t 14),(.t 15),(.t 16)],26,
 .seq (.seq (.dreg [⟨(some 34),.mov (.c .undef),none⟩] [] []) <|
 .seq (.dreg [⟨(some 27),.ld (.t 6) 8 true,none⟩,
  ⟨(some 28),.ld (.t 7) 2 true,none⟩,
  ⟨(some 29),.ld (.t 8) 7 true,none⟩,
  ⟨(some 30),.ld (.t 9) 1 false,none⟩,
  ⟨(some 32),.ld (.t 10) 1 false,none⟩] [] []) <|
 .seq (.dreg [] [⟨(some 31),.call gi [(.t 30)],none⟩] [⟨(some 27),.ld (.t 6) 8 true,none⟩,
  ⟨(some 28),.ld (.t 7) 2 true,none⟩,
  ⟨(some 29),.ld (.t 8) 7 true,none⟩,
  ⟨(some 32),.ld (.t 10) 1 false,none⟩]) <|
 .seq (.dreg [] [⟨(some 33),.call gi [(.t 32)],none⟩] [⟨(some 27),.ld (.t 6) 8 true,none⟩,
  ⟨(some 28),.ld (.t 7) 2 true,none⟩,
  ⟨(some 29),.ld (.t 8) 7 true,none⟩]) <|
 .seq (.dreg [] [⟨(some 34),.mkm (.pair .i64),none⟩] [⟨(some 27),.ld (.t 6) 8 true,none⟩,
  ⟨(some 28),.ld (.t 7) 2 true,none⟩,
  ⟨(some 29),.ld (.t 8) 7 true,none⟩,
  ⟨(some 30),.ld (.t 9) 1 false,none⟩,
  ⟨(some 32),.ld (.t 10) 1 false,none⟩]) <|
 .seq (.dreg [⟨(some 35),.bld [(.int .i64 0),(.int .i64 0),(.int .i64 0),(.int .i64 0),(.int .i64 0),.nil,.nil,.nil,(.int .i64 0),.nil,(.int .i64 0),(.int .i64 0),(.int .i64 0),(.int .i64 0),.nil,.nil,.nil,.nil,.nil,.nil,.nilmap] [(0,8,(.t 27)),(8,2,(.t 28)),(10,7,(.t 29)),(17,1,(.t 31)),(18,1,(.t 33)),(20,1,(.t 34))],none⟩] [⟨(some 36),.box (.t 35),none⟩] []) <|
 .dreg [⟨(some 17),.mov (.t 36),none⟩] [] []) <|
 .seq (.seq (.dreg [⟨(some 37),.mov (.t 17),none⟩,
  ⟨(some 38),.mov (.t 17),none⟩,
  ⟨(some 39),.mov (.t 17),none⟩,
  ⟨(some 40),.fadd (.t 8) 4,none⟩,
  ⟨(some 41),.ld (.t 40) 1 false,none⟩,
  ⟨(some 43),.fadd (.t 8) 6,none⟩,
  ⟨(some 44),.ld (.t 43) 1 false,none⟩,
  ⟨(some 46),.fadd (.t 8) 5,none⟩,
  ⟨(some 47),.ld (.t 46) 1 false,none⟩] [⟨(some 42),.call aU [(.t 41)],none⟩] [⟨(some 43),.fadd (.t 8) 6,none⟩,
  ⟨(some 44),.ld (.t 43) 1 false,none⟩,
  ⟨(some 46),.fadd (.t 8) 5,none⟩,
  ⟨(some 47),.ld (.t 46) 1 false,none⟩]) <|
 .seq (.dreg [] [⟨(some 45),.call aU [(.t 44)],none⟩] [⟨(some 46),.fadd (.t 8) 5,none⟩,
  ⟨(some 47),.ld (.t 46) 1 false,none⟩]) <|
 .seq (.dreg [] [⟨(some 48),.call gi [(.t 47)],none⟩] []) <|
 .seq (.dreg [⟨(some 49),.fadd (.t 37) 0,none⟩,
  ⟨(some 50),.fadd (.t 49) 10,none⟩,
  ⟨(some 51),.fadd (.t 50) 4,none⟩] [⟨none,.st (.t 51) (.t 42) 1,none⟩] []) <|
 .seq (.dreg [⟨(some 52),.fadd (.t 38) 0,none⟩,
  ⟨(some 53),.fadd (.t 52) 10,none⟩,
  ⟨(some 54),.fadd (.t 53) 6,none⟩] [⟨none,.st (.t 54) (.t 45) 1,none⟩] []) <|
 .seq (.dreg [⟨(some 55),.fadd (.t 39) 0,none⟩,
  ⟨(some 56),.fadd (.t 55) 10,none⟩,
  ⟨(some 57),.fadd (.t 56) 5,none⟩] [⟨none,.st (.t 57) (.t 48) 1,none⟩] []) <|
 .dreg [] [] []) <|
 .seqj [12,13,14,15,16,17] [] (.seq (.tT [⟨(some 58),.fadd (.t 6) 7,none⟩,
  ⟨(some 59),.ld (.t 58) 1 false,none⟩,
  ⟨(some 60),.fadd (.t 8) 2,none⟩,
  ⟨(some 61),.ld (.t 60) 1 false,none⟩,
  ⟨(some 62),.iadd (.t 59) (.t 61) 14,none⟩,
  ⟨(some 63),.fadd (.t 62) 0,none⟩,
  ⟨(some 64),.ld (.t 63) 1 false,none⟩,
  ⟨(some 65),.len (.t 64),none⟩,
  ⟨(some 66),.mov (.c (.int .i64 0)),none⟩]) <|
 .block 0 (.loop [5,8,12,13,14,15,16,17,64,65] [66] (.seq (.tT [⟨(some 67),.bin .lss (.t 66) (.t 65),none⟩]) <|
 .seq (.cond (.t 67) (.skip) (.exit 0)) <|
 .seq (.block 1 (.seq (.tT [⟨(some 68),.mov (.t 66),none⟩,
  ⟨(some 69),.iadd (.t 64) (.t 66) 15,none⟩,
  ⟨(some 70),.ld (.t 69) 15 true,none⟩,
  ⟨(some 19),.alloc (.agg [(.int .i64 0),(.int .i64 0),(.int .i64 0),(.int .i64 0),(.int .i64 0),(.int .i32 0),(.int .i64 0),(.int .i64 0),(.int .i32 0),(.int .i64 0),(.int .i64 0),(.int .i32 0),(.int .i64 0),(.int .i64 0),(.int .i32 0)]),none⟩,
  ⟨(some 18),.mov (.t 68),none⟩,
  ⟨none,.st (.t 19) (.t 70) 15,none⟩]) <|
 .regx [⟨(some 71),.mov (.t 17),none⟩,
  ⟨(some 72),.ld (.t 19) 15 true,none⟩,
  ⟨(some 73),.fadd (.t 8) 0,none⟩,
  ⟨(some 74),.ld (.t 73) 1 false,none⟩,
  ⟨(some 75),.mov (.t 5),none⟩,
  ⟨(some 76),.fadd (.t 8) 2,none⟩,
  ⟨(some 77),.ld (.t 76) 1 false,none⟩,
  ⟨(some 78),.mov (.t 18),none⟩,
  ⟨(some 79),.bld [(.int .i64 0),(.int .i64 0),(.int .i64 0),(.int .i64 0),(.int .i64 0),(.int .i64 0),(.int .i64 0),(.int .i64 0),(.int .i32 0)] [(2,1,(.t 74)),(3,1,(.t 75)),(4,1,(.t 77)),(5,1,(.t 78))],none⟩,
  ⟨(some 80),.call nX [(.t 71),(.t 72),(.t 79)],none⟩])) <|
 .tT [⟨(some 81),.bin .add (.t 66) (.c (.int .i64 1)),none⟩,
  ⟨(some 66),.mov (.t 81),none⟩]))) <|
 .seq (.seq (.dreg [⟨(some 82),.mov (.t 17),none⟩,
  ⟨(some 84),.mov (.t 17),none⟩,
  ⟨(some 85),.fadd (.t 84) 0,none⟩,
  ⟨(some 86),.fadd (.t 85) 17,none⟩,
  ⟨(some 87),.ld (.t 86) 1 false,none⟩,
  ⟨(some 88),.mov (.t 17),none⟩,
  ⟨(some 89),.fadd (.t 88) 0,none⟩,
  ⟨(some 90),.fadd (.t 89) 18,none⟩,
  ⟨(some 91),.ld (.t 90) 1 false,none⟩,
  ⟨(some 92),.mov (.t 17),none⟩,
  ⟨(some 93),.fadd (.t 92) 0,none⟩,
  ⟨(some 94),.fadd (.t 93) 19,none⟩,
  ⟨(some 95),.ld (.t 94) 1 false,none⟩] [⟨(some 83),.call kC [(.t 82)],none⟩] [⟨(some 85),.fadd (.t 84) 0,none⟩,
  ⟨(some 86),.fadd (.t 85) 17,none⟩,
  ⟨(some 87),.ld (.t 86) 1 false,none⟩,
  ⟨(some 89),.fadd (.t 88) 0,none⟩,
  ⟨(some 90),.fadd (.t 89) 18,none⟩,
  ⟨(some 91),.ld (.t 90) 1 false,none⟩,
  ⟨(some 93),.fadd (.t 92) 0,none⟩,
  ⟨(some 94),.fadd (.t 93) 19,none⟩,
  ⟨(some 95),.ld (.t 94) 1 false,none⟩]) <|
 .seq (.dreg [] [⟨none,.st (.t 12) (.t 83) 7,none⟩] [⟨(some 85),.fadd (.t 84) 0,none⟩,
  ⟨(some 86),.fadd (.t 85) 17,none⟩,
  ⟨(some 87),.ld (.t 86) 1 false,none⟩,
  ⟨(some 89),.fadd (.t 88) 0,none⟩,
  ⟨(some 90),.fadd (.t 89) 18,none⟩,
  ⟨(some 91),.ld (.t 90) 1 false,none⟩,
  ⟨(some 93),.fadd (.t 92) 0,none⟩,
  ⟨(some 94),.fadd (.t 93) 19,none⟩,
  ⟨(some 95),.ld (.t 94) 1 false,none⟩]) <|
 .seq (.dreg [] [⟨none,.st (.t 13) (.t 87) 1,none⟩] [⟨(some 89),.fadd (.t 88) 0,none⟩,
  ⟨(some 90),.fadd (.t 89) 18,none⟩,
  ⟨(some 91),.ld (.t 90) 1 false,none⟩,
  ⟨(some 93),.fadd (.t 92) 0,none⟩,
  ⟨(some 94),.fadd (.t 93) 19,none⟩,
  ⟨(some 95),.ld (.t 94) 1 false,none⟩]) <|
 .seq (.dreg [] [⟨none,.st (.t 14) (.t 91) 1,none⟩] [⟨(some 93),.fadd (.t 92) 0,none⟩,
  ⟨(some 94),.fadd (.t 93) 19,none⟩,
  ⟨(some 95),.ld (.t 94) 1 false,none⟩]) <|
 .seq (.dreg [] [⟨none,.st (.t 15) (.t 95) 1,none⟩] []) <|
 .seq (.dreg [] [⟨none,.st (.t 16) (.c (.int .i64 0)) 1,none⟩] []) <|
 .dreg [] [] []) <|
 .ret,
 [.cell 12 7 true,.cell 13 1 false,.cell 14 1 false,.cell 15 1 false,.cell 16 1 false]⟩
theorem LI:cFnD PP true sA IY (cDr PP 96 LV)=some IB:=by kernel_rfl
def AJ (a:Heap) (b c d e f g h i j k l m:D) (n:HJq) (K:HKq):Prop :=
 ∃(o:Nat->HJq) (p:Nat),o p [(.int .i64 0)] a/\∀(a:Nat) (p:Nat->D) (q:Heap),o a [p 66] q->vbin .lss (p 66) b λ r=>vcond r (xI c (p 66) 15 q λ n q=>xL n 15 true q λ n q=>ab PP (.alloc (.agg [zI,zI,zI,zI,zI,zJ,zI,zI,zJ,zI,zI,zJ,zI,zI,zJ])) q λ q r=>xS q n 15 r λ n r=>xL q 15 true r λ n q=>xF d 0 q λ q r=>xL q 1 false r λ q r=>xF d 2 r λ r s=>xL r 1 false s λ r s=>ab PP (.bld [zI,zI,zI,zI,zI,zI,zI,zI,zJ] [(2,1,(.c q)),(3,1,(.c e)),(4,1,(.c r)),(5,1,(.c (p 66)))]) s λ q r=>PL PP nX [f,n,q] r (λ a=>Wv PP jU [d,g,h,i,j,k,l,m] a λ a=>xL i 7 true a λ b c=>xL j 1 false a λ c d=>xL k 1 false a λ d e=>xL l 1 false a λ e f=>xL m 1 false a λ f g=>K (.tup [b,c,d,e,f]) a) λ g h=>vbin .add (p 66) (.int .i64 1) λ g=>aB [e,d,i,j,k,l,m,f,c,b] [e,d,i,j,k,l,m,f,c,b]/\∃b,b<a/\o b [g] h) (aB [i,j,k,l,m,f] [i,j,k,l,m,f]/\n [] q)
def Ij (a b c d e f:D) (g:Heap) (K:HKq):Prop :=
 xB a g λ a g=>xB b g λ b g=>xB c g λ c g=>xB d g λ d g=>xB e g λ e g=>ab PP (.alloc (.agg [zI,zI,zI,zI,.nil,.nil,.nil])) g λ g h=>ab PP (.alloc .nil) h λ h i=>ab PP (.alloc .nil) i λ i j=>ab PP (.alloc .nil) j λ j k=>ab PP (.alloc (.int .i64 0)) k λ k l=>xF c 1 l λ l m=>xL l 1 false m λ l m=>vbin .neq l (.int .i64 1) λ l=>vcond l (yL c 7 true m λ a=>yL d 1 false m λ b=>yL e 1 false m λ c=>xS g a 7 m λ a f=>((yL d 1 false f λ a=>aB [a] [b])/\(yL e 1 false f λ a=>aB [a] [c])/\True)/\xS h b 1 f λ a f=>((yL d 1 false f λ a=>aB [a] [b])/\(yL e 1 false f λ a=>aB [a] [c])/\True)/\xS i c 1 f λ a f=>((yL d 1 false f λ a=>aB [a] [b])/\(yL e 1 false f λ a=>aB [a] [c])/\True)/\ab PP (.st (.c j) (.c .nil) 1) f λ a f=>((yL d 1 false f λ a=>aB [a] [b])/\(yL e 1 false f λ a=>aB [a] [c])/\True)/\xS k (.int .i64 1) 1 f λ a f=>((yL d 1 false f λ a=>aB [a] [b])/\(yL e 1 false f λ a=>aB [a] [c])/\True)/\xL g 7 true f λ a b=>xL h 1 false f λ b c=>xL i 1 false f λ c d=>xL j 1 false f λ d e=>xL k 1 false f λ e g=>K (.tup [a,b,c,d,e]) f) (yL a 8 true m λ l=>yL b 2 true m λ n=>yL c 7 true m λ o=>yL d 1 false m λ p=>yL e 1 false m λ q=>ag PP gi [p] m λ m r=>((yL a 8 true r λ a=>aB [a] [l])/\(yL b 2 true r λ a=>aB [a] [n])/\(yL c 7 true r λ a=>aB [a] [o])/\(yL e 1 false r λ a=>aB [a] [q])/\True)/\ag PP gi [q] r λ r s=>((yL a 8 true s λ a=>aB [a] [l])/\(yL b 2 true s λ a=>aB [a] [n])/\(yL c 7 true s λ a=>aB [a] [o])/\True)/\ab PP (.mkm (.pair .i64)) s λ s t=>((yL a 8 true t λ a=>aB [a] [l])/\(yL b 2 true t λ a=>aB [a] [n])/\(yL c 7 true t λ a=>aB [a] [o])/\(yL d 1 false t λ a=>aB [a] [p])/\(yL e 1 false t λ a=>aB [a] [q])/\True)/\an PP (.bld [zI,zI,zI,zI,zI,.nil,.nil,.nil,zI,.nil,zI,zI,zI,zI,.nil,.nil,.nil,.nil,.nil,.nil,.nilmap] [(0,8,(.c l)),(8,2,(.c n)),(10,7,(.c o)),(17,1,(.c m)),(18,1,(.c r)),(20,1,(.c s))]) t λ b=>xB b t λ b l=>yF c 4 l λ m=>yL m 1 false l λ m=>yF c 6 l λ n=>yL n 1 false l λ o=>yF c 5 l λ p=>yL p 1 false l λ q=>ag PP aU [m] l λ l m=>((yF c 6 m λ a=>aB [a] [n])/\(yL n 1 false m λ a=>aB [a] [o])/\(yF c 5 m λ a=>aB [a] [p])/\(yL p 1 false m λ a=>aB [a] [q])/\True)/\ag PP aU [o] m λ m n=>((yF c 5 n λ a=>aB [a] [p])/\(yL p 1 false n λ a=>aB [a] [q])/\True)/\ag PP gi [q] n λ n o=>yF b 0 o λ p=>yF p 10 o λ p=>yF p 4 o λ p=>xS p l 1 o λ l o=>yF b 0 o λ l=>yF l 10 o λ l=>yF l 6 o λ l=>xS l m 1 o λ l m=>yF b 0 m λ l=>yF l 10 m λ l=>yF l 5 m λ l=>xS l n 1 m λ l m=>∃(l:HJq),( ∀(a:Nat->D) (c:Heap),l [] c->yF b 0 c λ a=>yF a 17 c λ d=>yL d 1 false c λ e=>yF b 0 c λ f=>yF f 18 c λ l=>yL l 1 false c λ m=>yF b 0 c λ n=>yF n 19 c λ o=>yL o 1 false c λ p=>ag PP kC [b] c λ c q=>((yF b 0 q λ b=>aB [b] [a])/\(yF a 17 q λ a=>aB [a] [d])/\(yL d 1 false q λ a=>aB [a] [e])/\(yF b 0 q λ a=>aB [a] [f])/\(yF f 18 q λ a=>aB [a] [l])/\(yL l 1 false q λ a=>aB [a] [m])/\(yF b 0 q λ a=>aB [a] [n])/\(yF n 19 q λ a=>aB [a] [o])/\(yL o 1 false q λ a=>aB [a] [p])/\True)/\xS g c 7 q λ c q=>((yF b 0 q λ b=>aB [b] [a])/\(yF a 17 q λ a=>aB [a] [d])/\(yL d 1 false q λ a=>aB [a] [e])/\(yF b 0 q λ a=>aB [a] [f])/\(yF f 18 q λ a=>aB [a] [l])/\(yL l 1 false q λ a=>aB [a] [m])/\(yF b 0 q λ a=>aB [a] [n])/\(yF n 19 q λ a=>aB [a] [o])/\(yL o 1 false q λ a=>aB [a] [p])/\True)/\xS h e 1 q λ a c=>((yF b 0 c λ a=>aB [a] [f])/\(yF f 18 c λ a=>aB [a] [l])/\(yL l 1 false c λ a=>aB [a] [m])/\(yF b 0 c λ a=>aB [a] [n])/\(yF n 19 c λ a=>aB [a] [o])/\(yL o 1 false c λ a=>aB [a] [p])/\True)/\xS i m 1 c λ a c=>((yF b 0 c λ a=>aB [a] [n])/\(yF n 19 c λ a=>aB [a] [o])/\(yL o 1 false c λ a=>aB [a] [p])/\True)/\xS j p 1 c λ a b=>xS k (.int .i64 0) 1 b λ a b=>xL g 7 true b λ a c=>xL h 1 false b λ c d=>xL i 1 false b λ d e=>xL j 1 false b λ e f=>xL k 1 false b λ f g=>K (.tup [a,c,d,e,f]) b)/\xF a 7 m λ a m=>xL a 1 false m λ a m=>xF c 2 m λ m n=>xL m 1 false n λ m n=>xI a m 14 n λ a m=>xF a 0 m λ a m=>xL a 1 false m λ a m=>bq a m λ n=>AJ m n a c f b d e g h i j k l K)
theorem Lu (a0:D) (a1:D) (a2:D) (a3:D) (a4:D) (a5:D) (h0:Heap) (K:HKq):Ij a0 a1 a2 a3 a4 a5 h0 K=vcFnD0 PP IB K (params [a0,a1,a2,a3,a4,a5] 0) h0:=by kernel_rfl
def iC:TLq
 | 1000008=>some ([],[])|2=>some ([0,1,7],[8])|_=>none
def iX:TTq
 | _=>none
noncomputable abbrev dM:=cFn PP true bV iC (cDr PP 19 iX)
noncomputable def dN:aJ:=⟨19,aN dM,[.t 4]⟩
theorem iT:dM=some dN:=by kernel_rfl
def cU (a:Heap) (b c d:D) (e:HJq) (K:HKq):Prop :=
 ∃(f:Nat->HJq) (g:Nat),f g [(.int .i64 0)] a/\∀(a:Nat) (g:Nat->D) (h:Heap),f a [g 8] h->vbin .lss (g 8) b λ i=>vcond i (xI c (g 8) 9 h λ e h=>xL e 9 true h λ e h=>ab PP (.callv (.c d) [(.c e)]) h λ e h=>vcond e (K (g 8) h) (vbin .add (g 8) (.int .i64 1) λ e=>aB [c,d,b] [c,d,b]/\∃b,b<a/\f b [e] h)) (aB [] []/\e [] h)
def dF (a b:D) (c:Heap) (K:HKq):Prop :=
 ∃(d:HJq),( ∀(a:Nat->D) (b:Heap),d [] b->K (.int .i64 (-1)) b)/\bq a c λ e=>cU c e a b d K
theorem iR (a0:D) (a1:D) (h0:Heap) (K:HKq):dF a0 a1 h0 K=dQ dN K [a0,a1] h0:=by kernel_rfl
def yO:TLq
 | _=>none
def Cl:TTq
 | _=>none
noncomputable abbrev tg:=cFn PP true jw yO (cDr PP 16 Cl)
noncomputable def tJ:aJ:=⟨16,aN tg,[.t 4]⟩
theorem BB:tg=some tJ:=by kernel_rfl
def sQ (a b c d:D) (e:Heap) (K:HKq):Prop :=
 xL a 1 false e λ a e=>xL b 1 false e λ b e=>xL c 1 false e λ c e=>ag PP lG [a,b,c] e λ a b=>ab PP (.ext (.c a) 0) b λ b c=>ab PP (.ext (.c a) 1) c λ a c=>ab PP (.alloc (.agg [zI,zI,zI,zI,zI,zI,zI,zI,zJ])) c λ c e=>xS c b 9 e λ b e=>xL c 9 true e λ b c=>xS d b 9 c λ b c=>K a c
theorem AL (a0:D) (a1:D) (a2:D) (a3:D) (h0:Heap) (K:HKq):sQ a0 a1 a2 a3 h0 K=dQ tJ K [a0,a1,a2,a3] h0:=by kernel_rfl
def wS:TLq
 | 1000010=>some ([6],[])|2=>some ([2,6,13,14],[1,15])|1000009=>some ([2,6,13,14,15],[1])|_=>none
def zF:TTq
 | _=>none
noncomputable abbrev rL:=cFn PP true lG wS (cDr PP 30 zF)
noncomputable def rV:aJ:=⟨30,aN rL,[.cell 6 9 true,.t 7]⟩
theorem zn:rL=some rV:=by kernel_rfl
def nE (a:D) (b:Heap) (c d e f:D) (g:HJq) (K:HKq):Prop :=
 ∃(h:Nat->HJq) (i:Nat),h i [a,(.int .i64 0)] b/\∀(a:Nat) (b:Nat->D) (i:Heap),h a [b 1,b 15] i->vbin .lss (b 15) c λ j=>vcond j ( ∃(g:HJq),( ∀(i:Nat->D) (j:Heap),g [i 1] j->vbin .add (b 15) (.int .i64 1) λ b=>aB [d,e,f,c] [d,e,f,c]/\∃c,c<a/\h c [(i 1),b] j)/\xI f (b 15) 9 i λ a h=>xL a 9 true h λ a h=>ab PP (.alloc (.agg [zI,zI,zI,zI,zI,zI,zI,zI,zJ])) h λ h i=>xS h a 9 i λ a i=>xL h 9 true i λ a i=>ag PP jl [a] i λ a i=>vun .not a λ a=>vcond a (aB [d,e,f,c,(b 15)] [d,e,f,c,(b 15)]/\g [(b 1)] i) (vbin .eql (b 1) d λ a=>vcond a (xL h 9 true i λ a b=>xS e a 9 b λ a b=>xL e 9 true b λ a c=>K (.tup [a,(.bool true)]) b) (vbin .add (b 1) (.int .i64 1) λ a=>aB [d,e,f,c,(b 15)] [d,e,f,c,(b 15)]/\g [a] i))) (aB [e] [e]/\g [] i)
def rD (a b c:D) (d:Heap) (K:HKq):Prop :=
 ab PP (.alloc (.agg [zI,zI,zI,zI,zI,zI,zI,zI,zJ])) d λ d e=>∃(f:HJq),( ∀(a:Nat->D) (b:Heap),f [] b->ab PP (.bld [zI,zI,zI,zI,zI,zI,zI,zI,zJ] []) b λ a b=>xS d a 9 b λ a b=>xL d 9 true b λ a c=>K (.tup [a,(.bool false)]) b)/\xF a 0 e λ a e=>xF a 9 e λ a e=>xL a 1 false e λ a e=>bq a e λ g=>nE b e g c d a f K
theorem ze (a0:D) (a1:D) (a2:D) (h0:Heap) (K:HKq):rD a0 a1 a2 h0 K=dQ rV K [a0,a1,a2] h0:=by kernel_rfl
def G9:TLq
 | _=>none
def J8:TTq
 | 1=>some ([0,0,0,0,8,24,0,64,192,0,512,1536,4095,8191],[13],[])|_=>none
noncomputable abbrev F5:=cFn PP true qi G9 (cDr PP 22 J8)
noncomputable def Gt:aJ:=⟨22,aN F5,[.cell 8 7 true]⟩
theorem Jk:F5=some Gt:=by kernel_rfl
def FQ (a b c d:D) (e:Heap) (K:HKq):Prop :=
 xB a e λ a e=>ab PP (.alloc (.agg [zI,zI,zI,zI,.nil,.nil,.nil])) e λ e f=>yF a 2 f λ g=>yL g 1 false f λ g=>an PP (.mk 1 4 (.int .i32 0) (.c g) (.c g)) f λ g=>yF a 5 f λ h=>yL h 1 false f λ h=>an PP (.call nV [(.c h),(.c (.int .i64 3))]) f λ h=>yF a 3 f λ a=>yL a 1 false f λ a=>an PP (.mk 1 4 (.int .i32 0) (.c a) (.c a)) f λ a=>an PP (.bld [zI,zI,zI,zI,.nil,.nil,.nil] [(0,1,(.c b)),(1,1,(.c d)),(3,1,(.c c)),(4,1,(.c g)),(5,1,(.c h)),(6,1,(.c a))]) f λ a=>xS e a 7 f λ a b=>xL e 7 true b λ a c=>K a b
theorem I8 (a0:D) (a1:D) (a2:D) (a3:D) (h0:Heap) (K:HKq):FQ a0 a1 a2 a3 h0 K=dQ Gt K [a0,a1,a2,a3] h0:=by kernel_rfl
def jo:TLq
 | 1=>some ([0,1,2],[4])|_=>none
def jP:TTq
 | 3=>some ([0,0,0,6,14,31,63],[],[])|_=>none
noncomputable abbrev eO:=cFn PP true bj jo (cDr PP 31 jP)
noncomputable def eQ:aJ:=⟨31,aN eO,[]⟩
theorem jL:eO=some eQ:=by kernel_rfl
def dK (a:Heap) (b c d:D) (K:HKq):Prop :=
 ∃(e:Nat->HJq) (f:Nat),e f [(.int .i64 0)] a/\∀(a:Nat) (f:Nat->D) (g:Heap),e a [f 4] g->xL b 1 false g λ g h=>bq g h λ g=>vbin .lss (f 4) g λ g=>vcond g (yL c 1 false h λ g=>yL b 1 false h λ i=>an PP (.GQ (.c i) (some (.c (f 4))) none none 7) h λ i=>bq i h λ i=>an PP (.mn (.c g) (.c i)) h λ g=>xL b 1 false h λ h i=>vbin .add (f 4) g λ j=>vbin .add (f 4) g λ g=>ab PP (.GQ (.c h) (some (.c (f 4))) (some (.c j)) (some (.c g)) 7) i λ g h=>ab PP (.callv (.c d) [(.c g)]) h λ g h=>vun .not g λ g=>vcond g (K (.tup []) h) (xL c 1 false h λ g h=>vbin .add (f 4) g λ f=>aB [d,b,c] [d,b,c]/\∃b,b<a/\e b [f] h)) (K (.tup []) h)
def eM (a b c:D) (d:Heap) (K:HKq):Prop :=
 dK d b c a K
theorem jJ (a0:D) (a1:D) (a2:D) (h0:Heap) (K:HKq):eM a0 a1 a2 h0 K=dQ eQ K [a0,a1,a2] h0:=by kernel_rfl
def Ha:TLq
 | _=>none
def J9:TTq
 | _=>none
noncomputable abbrev F6:=cFn PP true cP Ha (cDr PP 16 J9)
noncomputable def Gu:aJ:=⟨16,aN F6,[.t 4]⟩
theorem Jl:F6=some Gu:=by kernel_rfl
def FR (a b:D) (c:Heap) (K:HKq):Prop :=
 xB a c λ a c=>xB b c λ b c=>xF b 0 c λ c d=>xL c 1 false d λ c d=>vbin .eql c (.int .i64 2) λ c=>vcond c (xF a 4 d λ a c=>xL a 1 false c λ a c=>xF b 1 c λ b c=>xL b 1 false c λ b c=>xI a b 1 c λ a b=>xL a 1 false b λ a b=>K a b) (xF b 2 d λ a b=>xL a 1 false b λ a b=>K a b)
theorem I9 (a0:D) (a1:D) (h0:Heap) (K:HKq):FR a0 a1 h0 K=dQ Gu K [a0,a1] h0:=by kernel_rfl
end Go.Am
namespace Go.Am
open Go Go.Proofs
def zV:TLq
 | 1000006=>some ([0,2,4,8],[48])|1000030=>some ([],[9])|19=>some ([0,2,4,8,52],[9,10,53])|1000029=>some ([0,2,4,8,52,53],[9,10])|1000028=>some ([0,2,4,8,9,10,52,53],[12])|_=>none
def DK:TTq
 | _=>none
noncomputable abbrev vF:=cFn PP true kB zV (cDr PP 89 DK)
noncomputable def vQ:aJ:=⟨89,aN vF,[.t 6,.t 7]⟩
theorem CT:vF=some vQ:=by kernel_rfl
def pJ (a:Heap) (b c d e f:D) (g:HJq):Prop :=
 ∃(h:Nat->HJq) (i:Nat),h i [.nil,(.int .i32 0),(.int .i64 0)] a/\∀(a:Nat) (i:Nat->D) (j:Heap),h a [i 9,i 10,i 53] j->vbin .lss (i 53) b λ k=>vcond k ( ∃(g:HJq),( ∀(j:Nat->D) (k:Heap),g [j 9,j 10] k->vbin .add (i 53) (.int .i64 1) λ g=>aB [c,d,e,f,b] [c,d,e,f,b]/\∃b,b<a/\h b [(j 9),(j 10),g] k)/\xL e 1 false j λ a h=>xI a (i 53) 1 h λ a h=>xL a 1 false h λ a h=>vbin .add (i 10) a λ a=>vbin .eql c (.int .i64 5) λ j=>vcond j (ab PP (.bldS true 1 1 (.int .i32 0) [(0,(.c a))]) h λ h j=>ab PP (.app (.c (i 9)) (.c h) 1 4 (.int .i32 0)) j λ h j=>aB [c,d,e,f,b,(i 53)] [c,d,e,f,b,(i 53)]/\g [h,a] j) (xI d (i 53) 1 h λ h j=>xL h 1 false j λ h j=>xC .i64 h j λ h j=>vbin .rem h f λ h=>∃(k:HJq),( ∀(h:Nat->D) (j:Heap),k [h 12] j->xL e 1 false j λ j k=>xI j (h 12) 1 k λ h j=>xL h 1 false j λ h j=>ab PP (.bldS true 1 1 (.int .i32 0) [(0,(.c h))]) j λ h j=>ab PP (.app (.c (i 9)) (.c h) 1 4 (.int .i32 0)) j λ h j=>aB [c,d,e,f,b,(i 53)] [c,d,e,f,b,(i 53)]/\g [h,a] j)/\vbin .lss h (.int .i64 0) λ g=>vcond g (vbin .add h f λ g=>aB [c,d,e,f,(i 9),a,b,(i 53)] [c,d,e,f,(i 9),a,b,(i 53)]/\k [g] j) (aB [c,d,e,f,(i 9),a,b,(i 53)] [c,d,e,f,(i 9),a,b,(i 53)]/\k [h] j))) (aB [] []/\g [(i 9)] j)
def vq (a b c:D) (d:Heap) (K:HKq):Prop :=
 xB b d λ b d=>xL b 1 false d λ d e=>bq d e λ d=>bq c e λ f=>vbin .neq d f λ f=>vguard f false (λ a=>a d e) e λ e g=>vguard f false (λ a=>vbin .lss e (.int .i64 1) λ b=>a b g) g λ e g=>xP f (.bool true) e g λ e f=>vguard e false (λ a=>a d f) f λ f g=>vguard e false (λ a=>vbin .gtr f (.int .i64 32) λ b=>a b g) g λ f g=>xP e (.bool true) f g λ e f=>vcond e (K (.tup [.nil,(.int .i64 1)]) f) (vbin .eql a (.int .i64 1) λ e=>vcond e (xL b 1 false f λ a c=>ab PP (.mkf gX [] [(.c b)]) c λ b c=>ag PP fX [a,(.int .i32 0),b] c λ a b=>K (.tup [a,(.int .i64 0)]) b) (vbin .eql a (.int .i64 2) λ e=>vcond e (xL b 1 false f λ a c=>ab PP (.mkf gW [] [(.c b)]) c λ b c=>ag PP fX [a,(.int .i32 0),b] c λ a b=>K (.tup [a,(.int .i64 0)]) b) (vbin .eql a (.int .i64 3) λ e=>vcond e (xL b 1 false f λ a c=>ab PP (.mkf gV [] [(.c b)]) c λ b c=>ag PP fX [a,(.int .i32 1),b] c λ a b=>K (.tup [a,(.int .i64 0)]) b) (vbin .eql a (.int .i64 6) λ e=>vcond e (xL b 1 false f λ a c=>ab PP (.mkf gT [] [(.c b)]) c λ b c=>ag PP fX [a,(.int .i32 0),b] c λ a b=>K (.tup [a,(.int .i64 0)]) b) ( ∃(e:HJq),( ∀(f:Nat->D) (g:Heap),e [f 48] g->vcond (f 48) ( ∃(e:HJq),( ∀(a:Nat->D) (b:Heap),e [a 9] b->K (.tup [(a 9),(.int .i64 0)]) b)/\xL b 1 false g λ f g=>bq f g λ f=>pJ g f a c b d e) (K (.tup [.nil,(.int .i64 1)]) g))/\vbin .eql a (.int .i64 5) λ g=>vcond g (aB [a,c,b,d] [a,c,b,d]/\e [g] f) (vbin .eql a (.int .i64 4) λ g=>aB [a,c,b,d] [a,c,b,d]/\e [g] f))))))
theorem CI (a0:D) (a1:D) (a2:D) (h0:Heap) (K:HKq):vq a0 a1 a2 h0 K=dQ vQ K [a0,a1,a2] h0:=by kernel_rfl
def nj:TLq
 | _=>none
def oi:TTq
 | _=>none
noncomputable abbrev jE:=cFn PP true aU nj (cDr PP 8 oi)
noncomputable def jF:aJ:=⟨8,aN jE,[.t 2]⟩
theorem iB:jE=some jF:=by kernel_rfl
def fh (a:D) (b:Heap) (K:HKq):Prop :=
 ab PP (.nilq false (.c a)) b λ b c=>vcond b (K .nil c) (ab PP (.bldS true 1 0 (.int .i32 0) []) c λ b c=>ab PP (.app (.c b) (.c a) 1 4 (.int .i32 0)) c λ a b=>K a b)
theorem iA (a0:D) (h0:Heap) (K:HKq):fh a0 h0 K=dQ jF K [a0] h0:=by kernel_rfl
def G8:TLq
 | _=>none
def J6:TTq
 | _=>none
noncomputable abbrev F4:=cFn PP true gi G8 (cDr PP 11 J6)
noncomputable def Gs:aJ:=⟨11,aN F4,[.t 2]⟩
theorem Jj:F4=some Gs:=by kernel_rfl
def FP (a:D) (b:Heap) (K:HKq):Prop :=
 bq a b λ c=>ab PP (.mk 1 24 .nil (.c c) (.c c)) b λ b c=>ab PP (.MK (.c b) (.c a) 1) c λ a c=>K b c
theorem I7 (a0:D) (h0:Heap) (K:HKq):FP a0 h0 K=dQ Gs K [a0] h0:=by kernel_rfl
def Fm:TLq
 | 1000027=>some ([0,4],[8])|1000012=>some ([0,4,5,6,7,25],[50])|1000018=>some ([0,4,5,6],[9])|8000006=>some ([1],[])|8000011=>some ([1],[])|_=>none
def IL:TTq
 | 1=>some ([0,1,3,7,0,16,63,0,128,384,896,0,2048,8191,16383,32767],[6,13],[999999])|7=>some ([0,1,0,4,0,0,32,99,227,495,1007,2047,4095],[6,8,10,12],[1])|12=>some ([0,1,0,4,0,0,32,99,227,495,1007,2047,4095],[6,8,10,12],[1])|15=>some ([0,1,0,4,15,31],[3,5],[1])|16=>some ([0,1,0,0,8,0,60,0,255,511,1023,1023,2047],[6],[999999])|20=>some ([0,1,0,4,15,31],[3,5],[1])|23=>some ([0,1,3,7,15,0,32,0,255,511],[9],[])|25=>some ([0,1,3,7,15,0,32,127,255,511],[],[])|26=>some ([0,1,3,7,15,0,32,96,0,511,1023],[10],[])|_=>none
noncomputable abbrev Ds:=cFn PP true nX Fm (cDr PP 137 IL)
noncomputable def uk:aJ:=⟨137,aN Ds,[]⟩
theorem HJ:Ds=some uk:=by kernel_rfl
def Dg (a b c:D) (d:Heap) (K:HKq) (KP:Heap->Prop):Prop :=
 xB b d λ b d=>xB c d λ c d=>yF a 0 d λ e=>yF e 10 d λ e=>yL e 7 true d λ e=>yF b 6 d λ f=>yL f 3 true d λ f=>yF a 0 d λ g=>yF g 10 d λ h=>yL h 7 true d λ i=>yF b 9 d λ j=>yL j 3 true d λ k=>ag PP cP [e,f] d λ d e=>((yF a 0 e λ a=>aB [a] [g])/\(yF g 10 e λ a=>aB [a] [h])/\(yL h 7 true e λ a=>aB [a] [i])/\(yF b 9 e λ a=>aB [a] [j])/\(yL j 3 true e λ a=>aB [a] [k])/\True)/\ag PP cP [i,k] e λ e f=>∃(g:HJq),( ∀(c:Nat->D) (d:Heap),g [c 8] d->yF a 0 d λ a=>yF a 10 d λ a=>yF a 4 d λ a=>yL a 1 false d λ a=>yF b 3 d λ b=>yF b 1 d λ b=>yL b 1 false d λ b=>yI a b 1 d λ a=>xS a (c 8) 1 d λ a b=>K (.tup []) b)/\xF b 0 f λ f h=>xL f 1 false h λ f h=>vbin .eql f (.int .i64 7) λ i=>vcond i (xF b 2 h λ e f=>xL e 1 false f λ e f=>PL PP iZ [a,e,d] f (λ a=>KP a) λ e f=>yF b 2 f λ h=>yL h 1 false f λ i=>yC .i64 d f λ d=>yF c 0 f λ j=>yF c 6 f λ k=>yF c 7 f λ l=>yF c 8 f λ m=>xS j (.int .i64 1) 1 f λ f j=>((yL h 1 false j λ a=>aB [a] [i])/\True)/\xS k i 1 j λ f j=>((yL h 1 false j λ a=>aB [a] [i])/\True)/\xS l d 1 j λ d f=>((yL h 1 false f λ a=>aB [a] [i])/\True)/\xS m e 1 f λ d f=>((yL h 1 false f λ a=>aB [a] [i])/\True)/\xL c 9 true f λ c d=>ag PP ja [a,c] d λ c d=>aB [a,b] [a,b]/\g [e] d) ( ∃(i:HJq),( ∀(h:Nat->D) (j:Heap),i [h 50] j->vcond (h 50) (xF b 2 j λ f g=>xL f 1 false g λ f g=>PL PP iZ [a,f,d] g (λ a=>KP a) λ f g=>yF b 2 g λ f=>yL f 1 false g λ h=>yC .i64 d g λ i=>yF c 0 g λ j=>yF c 6 g λ k=>yF c 7 g λ l=>yF c 8 g λ m=>xS j (.int .i64 2) 1 g λ g j=>((yL f 1 false j λ a=>aB [a] [h])/\True)/\xS k h 1 j λ g j=>((yL f 1 false j λ a=>aB [a] [h])/\True)/\xS l i 1 j λ g i=>((yL f 1 false i λ a=>aB [a] [h])/\True)/\xS m e 1 i λ g i=>((yL f 1 false i λ a=>aB [a] [h])/\True)/\∃(f:HJq),( ∀(e:Nat->D) (g:Heap),f [e 9] g->xF b 2 g λ b f=>xL b 1 false f λ b f=>ag PP nN [a,b,d,(e 9)] f λ b d=>xL c 9 true d λ b c=>ag PP ja [a,b] c λ a b=>K (.tup []) b)/\xF b 0 i λ g h=>xL g 1 false h λ g h=>vbin .eql g (.int .i64 9) λ g=>vcond g (yF b 1 h λ g=>yL g 1 false h λ i=>yF c 0 h λ j=>yF c 1 h λ k=>xS j (.int .i64 3) 1 h λ h j=>((yL g 1 false j λ a=>aB [a] [i])/\True)/\xS k i 1 j λ h j=>((yL g 1 false j λ a=>aB [a] [i])/\True)/\yF b 1 j λ g=>yL g 1 false j λ h=>yF b 2 j λ i=>yL i 1 false j λ i=>ag PP iZ [a,i,d] j λ i j=>((yF b 1 j λ a=>aB [a] [g])/\(yL g 1 false j λ a=>aB [a] [h])/\True)/\an PP (.call qh [(.c h),(.c i),(.c e)]) j λ e=>an PP (.ext (.c e) 0) j λ g=>an PP (.ext (.c e) 1) j λ e=>aB [a,b,c,d] [a,b,c,d]/\f [g] j) (aB [a,b,c,d] [a,b,c,d]/\f [e] h)) (vbin .eql f (.int .i64 10) λ h=>vcond h (yF b 1 j λ b=>yL b 1 false j λ d=>yF c 0 j λ e=>yF c 1 j λ f=>xS e (.int .i64 4) 1 j λ e g=>((yL b 1 false g λ a=>aB [a] [d])/\True)/\xS f d 1 g λ e f=>((yL b 1 false f λ a=>aB [a] [d])/\True)/\xL c 9 true f λ b c=>ag PP ja [a,b] c λ a b=>K (.tup []) b) (vbin .eql f (.int .i64 12) λ c=>vcond c (yF a 0 j λ a=>yF a 10 j λ a=>yF a 6 j λ a=>yL a 1 false j λ a=>yF b 2 j λ b=>yL b 1 false j λ b=>yI a b 1 j λ a=>xS a d 1 j λ a b=>K (.tup []) b) (vbin .eql f (.int .i64 11) λ c=>vcond c (yF a 0 j λ c=>yF c 10 j λ c=>yF c 6 j λ c=>yL c 1 false j λ c=>yF b 2 j λ d=>yL d 1 false j λ d=>yI c d 1 j λ c=>yL c 1 false j λ c=>aB [a,b] [a,b]/\g [c] j) (xL b 15 true j λ c f=>ag PP pj [a,c,d,e] f λ c d=>aB [a,b] [a,b]/\g [c] d)))))/\vbin .eql f (.int .i64 8) λ g=>vcond g (aB [a,b,c,d,e,f] [a,b,c,d,e,f]/\i [g] h) (vbin .eql f (.int .i64 9) λ g=>aB [a,b,c,d,e,f] [a,b,c,d,e,f]/\i [g] h))
theorem Hw (a0:D) (a1:D) (a2:D) (h0:Heap) (K:HKq) (KP:Heap->Prop):Dg a0 a1 a2 h0 K KP=vcC PP uk.code (λ x e h'=>match x with|.exit _=>False|.pan=>KP h'|.jump _=>False|_=>mu PP uk.res K e h') (params [a0,a1,a2] 0) h0:=by kernel_rfl
def zY:TLq
 | 1000013=>some ([0,2],[])|_=>none
def DM:TTq
 | 1=>some ([0,1,3,7,15,0,32,96,224,480,1023,2047,4095,0,16383],[13,14],[])|7=>some ([0,1,3,7,0,16,63,127],[6],[999999])|11=>some ([0,1,3,7,0,16,48,112,240,0,512,1536,3584,7680,16383,32767],[15],[])|_=>none
noncomputable abbrev vH:=cFn PP true kC zY (cDr PP 77 DM)
noncomputable def vT:aJ:=⟨77,aN vH,[.cell 2 7 true]⟩
theorem CV:vH=some vT:=by kernel_rfl
def vt (a:D) (b:Heap) (K:HKq):Prop :=
 ab PP (.alloc (.agg [zI,zI,zI,zI,.nil,.nil,.nil])) b λ b c=>yF a 0 c λ d=>yF d 0 c λ d=>yF d 7 c λ d=>yL d 1 false c λ d=>yF a 0 c λ e=>yF e 10 c λ e=>yF e 2 c λ e=>yL e 1 false c λ e=>yI d e 14 c λ d=>yF d 1 c λ d=>yL d 13 true c λ d=>ab PP (.alloc (.agg [zI,zI,zI,zI,zJ,zI,zI,zJ,zI,zI,zJ,zI,zI])) c λ c e=>xS c d 13 e λ d e=>∃(d:HJq),( ∀(c:Nat->D) (e:Heap),d [] e->xF a 0 e λ a c=>xF a 10 c λ a c=>xL a 7 true c λ a c=>xS b a 7 c λ a c=>xL b 7 true c λ a b=>K a c)/\xF c 0 e λ e f=>xL e 1 false f λ e f=>vbin .eql e (.int .i64 1) λ g=>vcond g (xF c 11 f λ c e=>xJ c (.int .i64 0) 2 1 e λ c e=>xL c 1 false e λ c e=>xF a 0 e λ e f=>xF e 10 f λ e f=>xF e 2 f λ e f=>xS e c 1 f λ c e=>aB [a,b] [a,b]/\d [] e) (vbin .eql e (.int .i64 2) λ g=>vcond g (yF a 0 f λ e=>yF e 10 f λ e=>yL e 7 true f λ e=>yF c 5 f λ g=>yL g 3 true f λ g=>ag PP cP [e,g] f λ e f=>vbin .neq e (.int .i32 0) λ e=>vcond e (xF c 11 f λ c e=>xJ c (.int .i64 0) 2 1 e λ c e=>xL c 1 false e λ c e=>xF a 0 e λ e f=>xF e 10 f λ e f=>xF e 2 f λ e f=>xS e c 1 f λ c e=>aB [a,b] [a,b]/\d [] e) (xF c 11 f λ c e=>xJ c (.int .i64 1) 2 1 e λ c e=>xL c 1 false e λ c e=>xF a 0 e λ e f=>xF e 10 f λ e f=>xF e 2 f λ e f=>xS e c 1 f λ c e=>aB [a,b] [a,b]/\d [] e)) (vbin .eql e (.int .i64 5) λ c=>vcond c (yF a 0 f λ c=>yF c 0 f λ c=>yL c 8 true f λ c=>yF a 0 f λ d=>yF d 10 f λ d=>yF d 0 f λ d=>yL d 1 false f λ d=>yF a 0 f λ a=>yF a 10 f λ a=>yF a 3 f λ a=>yL a 1 false f λ a=>an PP (.call qi [(.c c),(.c d),(.c a),(.c (.int .i64 3))]) f λ a=>xS b a 7 f λ a c=>xL b 7 true c λ a b=>K a c) (xF a 0 f λ c e=>xF c 10 e λ c e=>xF c 1 e λ c e=>xS c (.int .i64 2) 1 e λ c e=>aB [a,b] [a,b]/\d [] e)))
theorem CM (a0:D) (h0:Heap) (K:HKq):vt a0 h0 K=dQ vT K [a0] h0:=by kernel_rfl
def Cy:TLq
 | 1000007=>some ([0],[1])|2=>some ([0,2,9],[1,10])|_=>none
def EP:TTq
 | _=>none
noncomputable abbrev xT:=cFn PP true fX Cy (cDr PP 23 EP)
noncomputable def yd:aJ:=⟨23,aN xT,[.t 6]⟩
theorem Ey:xT=some yd:=by kernel_rfl
def rj (a:D) (b:Heap) (c d e:D) (f:HJq):Prop :=
 ∃(g:Nat->HJq) (h:Nat),g h [a,(.int .i64 0)] b/\∀(a:Nat) (b:Nat->D) (h:Heap),g a [b 1,b 10] h->vbin .lss (b 10) c λ i=>vcond i (ab PP (.callv (.c d) [(.c (b 1)),(.c (b 10))]) h λ f h=>vbin .add (b 10) (.int .i64 1) λ b=>aB [e,d,c] [e,d,c]/\∃c,c<a/\g c [f,b] h) (aB [e] [e]/\f [(b 1)] h)
def xD (a b c:D) (d:Heap) (K:HKq):Prop :=
 ∃(e:HJq),( ∀(b:Nat->D) (c:Heap),e [b 1] c->ab PP (.bldS true 1 1 (.int .i32 0) [(0,(.c (b 1)))]) c λ b c=>bq a c λ a=>ag PP er [b,a] c λ a b=>K a b)/\bq a d λ f=>rj b d f c a e
theorem Ek (a0:D) (a1:D) (a2:D) (h0:Heap) (K:HKq):xD a0 a1 a2 h0 K=dQ yd K [a0,a1,a2] h0:=by kernel_rfl
def uR:TLq
 | _=>none
def yx:TTq
 | _=>none
noncomputable abbrev pW:=cFn PP true gX uR (cDr PP 16 yx)
noncomputable def qc:aJ:=⟨16,aN pW,[.t 5]⟩
theorem xp:pW=some qc:=by kernel_rfl
def pN (a b c:D) (d:Heap) (K:HKq):Prop :=
 xL c 1 false d λ c d=>xI c b 1 d λ c d=>xL c 1 false d λ c d=>vbin .neq c (.int .i32 0) λ c=>ag PP jS [c] d λ c d=>vbin .shl c b λ b=>vbin .or a b λ a=>K a d
theorem xd (a0:D) (a1:D) (a2:D) (h0:Heap) (K:HKq):pN a0 a1 a2 h0 K=dQ qc K [a0,a1,a2] h0:=by kernel_rfl
def D9:TLq
 | _=>none
def GN:TTq
 | _=>none
noncomputable abbrev Be:=cFn PP true jS D9 (cDr PP 4 GN)
noncomputable def Bx:aJ:=⟨4,aN Be,[.t 2]⟩
theorem Gp:Be=some Bx:=by kernel_rfl
def AG (a:D) (b:Heap) (K:HKq):Prop :=
 vcond a (K (.int .i32 1) b) (K (.int .i32 0) b)
theorem FN (a0:D) (h0:Heap) (K:HKq):AG a0 h0 K=dQ Bx K [a0] h0:=by kernel_rfl
def uQ:TLq
 | _=>none
def yw:TTq
 | _=>none
noncomputable abbrev pV:=cFn PP true gW uQ (cDr PP 14 yw)
noncomputable def qb:aJ:=⟨14,aN pV,[.t 5]⟩
theorem xo:pV=some qb:=by kernel_rfl
def pM (a b c:D) (d:Heap) (K:HKq):Prop :=
 xL c 1 false d λ c d=>xI c b 1 d λ b c=>xL b 1 false c λ b c=>vbin .neq b (.int .i32 0) λ b=>ag PP jS [b] c λ b c=>vbin .or a b λ a=>K a c
theorem xc (a0:D) (a1:D) (a2:D) (h0:Heap) (K:HKq):pM a0 a1 a2 h0 K=dQ qb K [a0,a1,a2] h0:=by kernel_rfl
def uP:TLq
 | _=>none
def yv:TTq
 | _=>none
noncomputable abbrev pU:=cFn PP true gV uP (cDr PP 14 yv)
noncomputable def p9:aJ:=⟨14,aN pU,[.t 5]⟩
theorem xn:pU=some p9:=by kernel_rfl
def pL (a b c:D) (d:Heap) (K:HKq):Prop :=
 xL c 1 false d λ c d=>xI c b 1 d λ b c=>xL b 1 false c λ b c=>vbin .neq b (.int .i32 0) λ b=>ag PP jS [b] c λ b c=>vbin .and a b λ a=>K a c
theorem xb (a0:D) (a1:D) (a2:D) (h0:Heap) (K:HKq):pL a0 a1 a2 h0 K=dQ p9 K [a0,a1,a2] h0:=by kernel_rfl
def uO:TLq
 | _=>none
def yu:TTq
 | _=>none
noncomputable abbrev pT:=cFn PP true gT uO (cDr PP 12 yu)
noncomputable def p8:aJ:=⟨12,aN pT,[.t 5]⟩
theorem xm:pT=some p8:=by kernel_rfl
def pK (a b c:D) (d:Heap) (K:HKq):Prop :=
 xL c 1 false d λ c d=>xI c b 1 d λ b c=>xL b 1 false c λ b c=>vbin .add a b λ a=>K a c
theorem xa (a0:D) (a1:D) (a2:D) (h0:Heap) (K:HKq):pK a0 a1 a2 h0 K=dQ p8 K [a0,a1,a2] h0:=by kernel_rfl
def Cz:TLq
 | 8000002=>some ([],[])|_=>none
def ER:TTq
 | _=>none
noncomputable abbrev xU:=cFn PP true iZ Cz (cDr PP 34 ER)
noncomputable def pE:aJ:=⟨34,aN xU,[.t 6]⟩
theorem Ez:xU=some pE:=by kernel_rfl
def xE (a b c:D) (d:Heap) (K:HKq) (KP:Heap->Prop):Prop :=
 vbin .lss c (.int .i32 0) λ e=>vguard e false (λ a=>a c d) d λ d f=>vguard e false (λ a=>xC .i64 d f λ b c=>a b c) f λ d f=>vguard e false (λ b=>b a f) f λ f g=>vguard e false (λ a=>xF f 0 g λ b c=>a b c) g λ f g=>vguard e false (λ a=>xF f 0 g λ b c=>a b c) g λ f g=>vguard e false (λ a=>xF f 5 g λ b c=>a b c) g λ f g=>vguard e false (λ a=>xL f 1 false g λ b c=>a b c) g λ f g=>vguard e false (λ a=>a b g) g λ g h=>vguard e false (λ a=>xI f g 4 h λ b c=>a b c) h λ f g=>vguard e false (λ a=>xF f 3 g λ b c=>a b c) g λ f g=>vguard e false (λ a=>xL f 1 false g λ b c=>a b c) g λ f g=>vguard e false (λ a=>vbin .geq d f λ b=>a b g) g λ d f=>xP e (.bool true) d f λ d e=>vcond d ( ∀_:LEnv,KP e) (ag PP jv [a,b] e λ a d=>xI a b 1 d λ a b=>xL a 1 false b λ a b=>xI a c 1 b λ a b=>xL a 1 false b λ a b=>K a b)
theorem El (a0:D) (a1:D) (a2:D) (h0:Heap) (K:HKq) (KP:Heap->Prop):xE a0 a1 a2 h0 K KP=vcC PP pE.code (λ x e h'=>match x with|.exit _=>False|.pan=>KP h'|.jump _=>False|_=>mu PP pE.res K e h') (params [a0,a1,a2] 0) h0:=by kernel_rfl
def CA:TLq
 | _=>none
def ES:TTq
 | 1=>some ([0,1,3,7,15,31,63,127,255,15,527,2047,4095,8191,16383,32767],[],[])|2=>some ([0,0,2,6,14,0,32,126,255,511,1023],[7,10],[])|_=>none
noncomputable abbrev xV:=cFn PP true ja CA (cDr PP 30 ES)
noncomputable def ye:aJ:=⟨30,aN xV,[]⟩
theorem EA:xV=some ye:=by kernel_rfl
def xG (a b:D) (c:Heap) (K:HKq):Prop :=
 xB b c λ b c=>yF b 0 c λ d=>yL d 1 false c λ d=>vbin .neq d (.int .i64 4) λ d=>aj d true (λ b=>b a) λ e=>aj d true (λ a=>yF e 0 c λ b=>a b) λ e=>aj d true (λ a=>yF e 0 c λ b=>a b) λ e=>aj d true (λ a=>yF e 5 c λ b=>a b) λ e=>aj d true (λ a=>yL e 1 false c λ b=>a b) λ e=>aj d true (λ a=>yF b 6 c λ b=>a b) λ f=>aj d true (λ a=>yL f 1 false c λ b=>a b) λ f=>aj d true (λ a=>yI e f 4 c λ b=>a b) λ e=>aj d true (λ a=>yF e 1 c λ b=>a b) λ e=>aj d true (λ a=>yL e 1 false c λ b=>a b) λ e=>aj d true (λ a=>vbin .eql e (.int .i64 3) λ b=>a b) λ e=>yP d e (.bool false) c λ d=>vcond d (K (.tup []) c) (yF a 0 c λ d=>yF d 19 c λ d=>yL d 1 false c λ d=>yL b 9 true c λ b=>an PP (.bldS false 9 1 (.agg [zI,zI,zI,zI,zI,zI,zI,zI,zJ]) [(0,(.c b))]) c λ b=>yF a 0 c λ a=>yF a 19 c λ a=>ab PP (.app (.c d) (.c b) 9 72 (.agg [zI,zI,zI,zI,zI,zI,zI,zI,zJ])) c λ b c=>xS a b 1 c λ a b=>K (.tup []) b)
theorem Em (a0:D) (a1:D) (h0:Heap) (K:HKq):xG a0 a1 h0 K=dQ ye K [a0,a1] h0:=by kernel_rfl
def G2:TLq
 | _=>none
def J3:TTq
 | _=>none
noncomputable abbrev F0:=cFn PP true qh G2 (cDr PP 103 J3)
noncomputable def Ge:aJ:=⟨103,aN F0,[.t 6,.t 7]⟩
theorem Jg:F0=some Ge:=by kernel_rfl
def FD (a b c:D) (d:Heap) (K:HKq):Prop :=
 xC .i64 b d λ d e=>xC .i64 c e λ e f=>ag PP mI [b,c] f λ f g=>ab PP (.ext (.c f) 0) g λ g h=>ab PP (.ext (.c f) 1) h λ f h=>vbin .eql a (.int .i64 10) λ i=>vcond i (vbin .add b c λ a=>K (.tup [a,(.int .i64 0)]) h) (vbin .eql a (.int .i64 11) λ i=>vcond i (vbin .sub b c λ a=>K (.tup [a,(.int .i64 0)]) h) (vbin .eql a (.int .i64 12) λ i=>vcond i (vbin .mul b c λ a=>K (.tup [a,(.int .i64 0)]) h) (vbin .eql a (.int .i64 13) λ i=>vcond i (K (.tup [g,(.int .i64 0)]) h) (vbin .eql a (.int .i64 14) λ g=>vcond g (K (.tup [f,(.int .i64 0)]) h) (vbin .eql a (.int .i64 15) λ f=>vcond f (vbin .mul d e λ a=>vbin .shr a (.int .u64 16) λ a=>xC .i32 a h λ a b=>K (.tup [a,(.int .i64 0)]) b) (vbin .eql a (.int .i64 16) λ f=>vcond f (vbin .eql c (.int .i32 0) λ a=>vcond a (K (.tup [(.int .i32 0),(.int .i64 0)]) h) (vbin .shl d (.int .u64 16) λ a=>ag PP qN [a,e] h λ a b=>xC .i32 a b λ a b=>K (.tup [a,(.int .i64 0)]) b)) (vbin .eql a (.int .i64 17) λ d=>vcond d (vbin .and b c λ a=>K (.tup [a,(.int .i64 0)]) h) (vbin .eql a (.int .i64 18) λ d=>vcond d (vbin .or b c λ a=>K (.tup [a,(.int .i64 0)]) h) (vbin .eql a (.int .i64 19) λ d=>vcond d (vbin .xor b c λ a=>K (.tup [a,(.int .i64 0)]) h) (vbin .eql a (.int .i64 20) λ d=>vcond d (vbin .and c (.int .i32 31) λ a=>vbin .shl b a λ a=>K (.tup [a,(.int .i64 0)]) h) (vbin .eql a (.int .i64 21) λ d=>vcond d (vbin .and c (.int .i32 31) λ a=>vbin .shr b a λ a=>K (.tup [a,(.int .i64 0)]) h) (vbin .eql a (.int .i64 22) λ d=>vcond d (ab PP (.mn (.c b) (.c c)) h λ a b=>K (.tup [a,(.int .i64 0)]) b) (vbin .eql a (.int .i64 23) λ d=>vcond d (ab PP (.mx (.c b) (.c c)) h λ a b=>K (.tup [a,(.int .i64 0)]) b) (ag PP ky [a,b,c] h λ a b=>ab PP (.ext (.c a) 0) b λ b c=>ab PP (.ext (.c a) 1) c λ a c=>K (.tup [b,a]) c))))))))))))))
theorem I4 (a0:D) (a1:D) (a2:D) (h0:Heap) (K:HKq):FD a0 a1 a2 h0 K=dQ Ge K [a0,a1,a2] h0:=by kernel_rfl
def zX:TLq
 | 1000006=>some ([1,2,3,8],[])|_=>none
def DL:TTq
 | 2=>some ([0,1,3,7,0,31,63],[],[])|4=>some ([0,1,3,7,0,31],[5],[])|_=>none
noncomputable abbrev vG:=cFn PP true nN zX (cDr PP 51 DL)
noncomputable def vS:aJ:=⟨51,aN vG,[]⟩
theorem CU:vG=some vS:=by kernel_rfl
def vr (a b c d:D) (e:Heap) (K:HKq):Prop :=
 ag PP jv [a,b] e λ e f=>xF a 0 f λ f g=>xF f 0 g λ f g=>xF f 5 g λ f g=>xL f 1 false g λ f g=>xI f b 4 g λ f g=>xF f 1 g λ f g=>xL f 1 false g λ f g=>ab PP (.bld [zI,zI] [(0,1,(.c f)),(1,1,(.c b))]) g λ f g=>ab PP (.alloc (.agg [zI,zI])) g λ g h=>xS g f 2 h λ f h=>∃(f:HJq),( ∀(a:Nat->D) (g:Heap),f [] g->xI e b 1 g λ a b=>xL a 1 false b λ a b=>xI a c 1 b λ a b=>xS a d 1 b λ a b=>K (.tup []) b)/\yF a 0 h λ i=>yF i 20 h λ i=>yL i 1 false h λ i=>yL g 2 true h λ j=>an PP (.look (.pair .i64) (.c i) (.c j) (.bool false) false) h λ i=>vun .not i λ i=>vcond i (xI e b 1 h λ h i=>xL h 1 false i λ h i=>ag PP aU [h] i λ h i=>xI e b 1 i λ i j=>xS i h 1 j λ h i=>yF a 0 i λ a=>yF a 20 i λ a=>yL a 1 false i λ a=>yL g 2 true i λ g=>ab PP (.mupd (.pair .i64) (.c a) (.c g) (.c (.bool true))) i λ a g=>aB [b,c,d,e] [b,c,d,e]/\f [] g) (aB [b,c,d,e] [b,c,d,e]/\f [] h)
theorem CJ (a0:D) (a1:D) (a2:D) (a3:D) (h0:Heap) (K:HKq):vr a0 a1 a2 a3 h0 K=dQ vS K [a0,a1,a2,a3] h0:=by kernel_rfl
def CB:TLq
 | 1000015=>some ([],[2])|1000010=>some ([],[3])|_=>none
def ET:TTq
 | 8=>some ([0,1,3,7,0,16,63,127],[6],[999999])|11=>some ([0,1,3,7,0,16,48,112,0,256,768,1792,3840,0,8192,32767,65535,131071,131071,262143],[],[])|13=>some ([0,1,3,7,15,0,32,127,255,511],[],[])|_=>none
noncomputable abbrev xW:=cFn PP true pj CB (cDr PP 75 ET)
noncomputable def yf:aJ:=⟨75,aN xW,[.t 8]⟩
theorem EB:xW=some yf:=by kernel_rfl
def xH (a b c d:D) (e:Heap) (K:HKq):Prop :=
 xB b e λ b e=>∃(f:HJq),( ∀(a:Nat->D) (b:Heap),f [a 2] b->K (a 2) b)/\xF b 0 e λ e g=>xL e 1 false g λ e g=>vbin .eql e (.int .i64 2) λ h=>vcond h (xF b 1 g λ a b=>xL a 1 false b λ a b=>ag PP zO [a,c] b λ a b=>ab PP (.ext (.c a) 0) b λ b c=>ab PP (.ext (.c a) 1) c λ a c=>aB [] []/\f [b] c) (vbin .eql e (.int .i64 3) λ h=>vcond h (xF b 1 g λ a b=>xL a 1 false b λ a b=>ag PP qh [a,c,d] b λ a b=>ab PP (.ext (.c a) 0) b λ b c=>ab PP (.ext (.c a) 1) c λ a c=>aB [] []/\f [b] c) (vbin .eql e (.int .i64 4) λ h=>vcond h ( ∃(e:HJq),( ∀(a:Nat->D) (b:Heap),e [a 3] b->aB [] []/\f [(a 3)] b)/\vbin .eql c (.int .i32 0) λ c=>vcond c (yF a 0 g λ a=>yF a 10 g λ a=>yL a 7 true g λ a=>yF b 12 g λ b=>yL b 3 true g λ b=>ag PP cP [a,b] g λ a b=>aB [] []/\e [a] b) (aB [] []/\e [d] g)) (vbin .eql e (.int .i64 5) λ d=>vcond d (yF a 0 g λ c=>yF c 0 g λ c=>yL c 8 true g λ c=>yF a 0 g λ d=>yF d 8 g λ d=>yL d 2 true g λ d=>yF a 0 g λ a=>yF a 10 g λ a=>yF a 0 g λ a=>yL a 1 false g λ a=>yF b 1 g λ b=>yL b 1 false g λ b=>an PP (.call zR [(.c c),(.c d),(.c a),(.c b)]) g λ a=>an PP (.ext (.c a) 0) g λ b=>an PP (.ext (.c a) 1) g λ a=>aB [] []/\f [b] g) (vbin .eql e (.int .i64 6) λ d=>vcond d (yF a 0 g λ a=>yF a 8 g λ a=>yF a 1 g λ a=>yL a 1 false g λ a=>yF b 2 g λ b=>yL b 1 false g λ b=>yI a b 1 g λ a=>yL a 1 false g λ a=>aB [] []/\f [a] g) (aB [] []/\f [c] g)))))
theorem En (a0:D) (a1:D) (a2:D) (a3:D) (h0:Heap) (K:HKq):xH a0 a1 a2 a3 h0 K=dQ yf K [a0,a1,a2,a3] h0:=by kernel_rfl
def mP:TLq
 | 1000004=>some ([0,1],[])|1000007=>some ([0,6],[])|1000011=>some ([7],[])|8=>some ([7],[8])|_=>none
def nK:TTq
 | 9=>some ([0,0,0,6,0,0,48,126,255,511],[7,8,9],[])|_=>none
noncomputable abbrev jg:=cFn PP true er mP (cDr PP 48 nK)
noncomputable def jh:aJ:=⟨48,aN jg,[.t 4]⟩
theorem nv:jg=some jh:=by kernel_rfl
def gJ (a:D) (b:Heap) (c:D) (d:HJq):Prop :=
 ∃(e:Nat->HJq) (f:Nat),e f [a] b/\∀(a:Nat) (b:Nat->D) (f:Heap),e a [b 8] f->bq c f λ g=>vbin .lss (b 8) g λ g=>vcond g (an PP (.GQ (.c c) (some (.c (b 8))) none none 1) f λ d=>an PP (.GQ (.c c) none (some (.c (b 8))) none 1) f λ g=>ab PP (.MK (.c d) (.c g) 1) f λ d f=>vbin .add (b 8) d λ b=>aB [c] [c]/\∃c,c<a/\e c [b] f) (aB [c] [c]/\d [] f)
def jf (a b:D) (c:Heap) (K:HKq):Prop :=
 ∃(d:HJq),( ∀(c:Nat->D) (e:Heap),d [] e->bq a e λ c=>xC .u64 c e λ c d=>xC .u64 b d λ b d=>ag PP ph [c,b] d λ b c=>ab PP (.ext (.c b) 0) c λ c d=>ab PP (.ext (.c b) 1) d λ b d=>∃(e:HJq),( ∀(c:Nat->D) (d:Heap),e [] d->xC .i64 b d λ b c=>ab PP (.mk 1 4 (.int .i32 0) (.c b) (.c b)) c λ b c=>ab PP (.MK (.c b) (.c a) 1) c λ a c=>∃(d:HJq),( ∀(a:Nat->D) (c:Heap),d [] c->K b c)/\gJ a c b d)/\vbin .gtr c (.int .u64 0) λ c=>vguard c false (λ a=>a b d) d λ d f=>vguard c false (λ a=>vbin .gtr d (.int .u64 9223372036854775807) λ b=>a b f) f λ d f=>xP c (.bool true) d f λ c d=>vcond c (ab PP (.dead) d λ c d=>ab PP (.dead) d λ c d=>aB [a,b] [a,b]/\e [] d) (aB [a,b] [a,b]/\e [] d))/\vbin .lss b (.int .i64 0) λ e=>vcond e (ab PP (.dead) c λ c e=>ab PP (.dead) e λ c e=>aB [a,b] [a,b]/\d [] e) (aB [a,b] [a,b]/\d [] c)
theorem nu (a0:D) (a1:D) (h0:Heap) (K:HKq):jf a0 a1 h0 K=dQ jh K [a0,a1] h0:=by kernel_rfl
def yM:TLq
 | _=>none
def Cj:TTq
 | _=>none
noncomputable abbrev te:=cFn PP true jv yM (cDr PP 31 Cj)
noncomputable def tH:aJ:=⟨31,aN te,[.t 4]⟩
theorem Bz:te=some tH:=by kernel_rfl
def sN (a b:D) (c:Heap) (K:HKq):Prop :=
 xF a 0 c λ c d=>xF c 0 d λ c d=>xF c 5 d λ c d=>xL c 1 false d λ c d=>xI c b 4 d λ b c=>xF b 1 c λ b c=>xL b 1 false c λ b c=>vbin .eql b (.int .i64 1) λ d=>vcond d (xF a 0 c λ a b=>xF a 17 b λ a b=>xL a 1 false b λ a b=>K a b) (vbin .eql b (.int .i64 2) λ b=>vcond b (xF a 0 c λ a b=>xF a 18 b λ a b=>xL a 1 false b λ a b=>K a b) (xF a 0 c λ a b=>xF a 10 b λ a b=>xF a 5 b λ a b=>xL a 1 false b λ a b=>K a b))
theorem AI (a0:D) (a1:D) (h0:Heap) (K:HKq):sN a0 a1 h0 K=dQ tH K [a0,a1] h0:=by kernel_rfl
def yB:TLq
 | _=>none
def Cd:TTq
 | 4=>some ([0,0,3,7,0,0,48,112,15,511],[],[])|_=>none
noncomputable abbrev sZ:=cFn PP true mI yB (cDr PP 23 Cd)
noncomputable def tB:aJ:=⟨23,aN sZ,[.t 4,.t 5]⟩
theorem Bk:sZ=some tB:=by kernel_rfl
def sG (a b:D) (c:Heap) (K:HKq):Prop :=
 vbin .eql b (.int .i32 0) λ d=>vcond d (K (.tup [(.int .i32 0),a]) c) (xC .i64 a c λ a c=>xC .i64 b c λ b c=>vbin .quo a b λ d=>yC .i32 d c λ d=>vbin .rem a b λ a=>yC .i32 a c λ a=>K (.tup [d,a]) c)
theorem At (a0:D) (a1:D) (h0:Heap) (K:HKq):sG a0 a1 h0 K=dQ tB K [a0,a1] h0:=by kernel_rfl
def D1:TLq
 | 1000005=>some ([],[5])|_=>none
def GF:TTq
 | 1=>some ([0,0,3,0,0,24,7,127],[],[])|_=>none
noncomputable abbrev A6:=cFn PP true qN D1 (cDr PP 25 GF)
noncomputable def Bl:aJ:=⟨25,aN A6,[.t 4]⟩
theorem Gd:A6=some Bl:=by kernel_rfl
def Au (a b:D) (c:Heap) (K:HKq):Prop :=
 vbin .quo a b λ d=>vbin .rem a b λ a=>∃(e:HJq),( ∀(a:Nat->D) (b:Heap),e [a 5] b->K (a 5) b)/\vbin .neq a (.int .i64 0) λ f=>vguard f true (λ b=>b a c) c λ a c=>vguard f true (λ b=>vbin .lss a (.int .i64 0) λ a=>b a c) c λ a c=>vguard f true (λ a=>a b c) c λ b c=>vguard f true (λ a=>vbin .lss b (.int .i64 0) λ b=>a b c) c λ b c=>vguard f true (λ d=>ab PP (.eqv true false [.b] (.c a) (.c b)) c λ a b=>d a b) c λ a b=>xP f a (.bool false) b λ a b=>vcond a (vbin .sub d (.int .i64 1) λ a=>aB [] []/\e [a] b) (aB [] []/\e [d] b)
theorem FC (a0:D) (a1:D) (h0:Heap) (K:HKq):Au a0 a1 h0 K=dQ Bl K [a0,a1] h0:=by kernel_rfl
def zT:TLq
 | _=>none
def DI:TTq
 | _=>none
noncomputable abbrev vD:=cFn PP true ky zT (cDr PP 45 DI)
noncomputable def vM:aJ:=⟨45,aN vD,[.t 6,.t 7]⟩
theorem CQ:vD=some vM:=by kernel_rfl
def ve (a b c:D) (d:Heap) (K:HKq):Prop :=
 vbin .eql a (.int .i64 24) λ e=>vcond e (vbin .eql b c λ a=>ag PP cN [a] d λ a b=>K (.tup [a,(.int .i64 0)]) b) (vbin .eql a (.int .i64 25) λ e=>vcond e (vbin .neq b c λ a=>ag PP cN [a] d λ a b=>K (.tup [a,(.int .i64 0)]) b) (vbin .eql a (.int .i64 26) λ e=>vcond e (vbin .lss b c λ a=>ag PP cN [a] d λ a b=>K (.tup [a,(.int .i64 0)]) b) (vbin .eql a (.int .i64 27) λ e=>vcond e (vbin .leq b c λ a=>ag PP cN [a] d λ a b=>K (.tup [a,(.int .i64 0)]) b) (vbin .eql a (.int .i64 28) λ e=>vcond e (vbin .gtr b c λ a=>ag PP cN [a] d λ a b=>K (.tup [a,(.int .i64 0)]) b) (vbin .eql a (.int .i64 29) λ a=>vcond a (vbin .geq b c λ a=>ag PP cN [a] d λ a b=>K (.tup [a,(.int .i64 0)]) b) (K (.tup [(.int .i32 0),(.int .i64 1)]) d))))))
theorem CG (a0:D) (a1:D) (a2:D) (h0:Heap) (K:HKq):ve a0 a1 a2 h0 K=dQ vM K [a0,a1,a2] h0:=by kernel_rfl
def IT:TLq
 | 1000014=>some ([],[])|1000010=>some ([1],[])|_=>none
def LO:TTq
 | _=>none
noncomputable abbrev Im:=cFn PP true zO IT (cDr PP 28 LO)
noncomputable def Iw:aJ:=⟨28,aN Im,[.t 4,.t 5]⟩
theorem Lz:Im=some Iw:=by kernel_rfl
def Ic (a b:D) (c:Heap) (K:HKq):Prop :=
 ∃(d:HJq),( ∀(a:Nat->D) (b:Heap),d [] b->K (.tup [(.int .i32 0),(.int .i64 1)]) b)/\∃(e:HJq),( ∀(a:Nat->D) (c:Heap),e [] c->vun .neg b λ a=>K (.tup [a,(.int .i64 0)]) c)/\vbin .eql a (.int .i64 3) λ f=>vcond f (vbin .geq b (.int .i32 0) λ a=>vcond a (K (.tup [b,(.int .i64 0)]) c) (aB [b] [b]/\e [] c)) (vbin .eql a (.int .i64 1) λ f=>vcond f (aB [b] [b]/\e [] c) (vbin .eql a (.int .i64 2) λ e=>vcond e (vun .xor b λ a=>K (.tup [a,(.int .i64 0)]) c) (vbin .eql a (.int .i64 4) λ e=>vcond e (vbin .shl b (.int .u64 16) λ a=>K (.tup [a,(.int .i64 0)]) c) (vbin .eql a (.int .i64 5) λ a=>vcond a (vbin .shr b (.int .u64 16) λ a=>K (.tup [a,(.int .i64 0)]) c) (aB [] []/\d [] c)))))
theorem Lm (a0:D) (a1:D) (h0:Heap) (K:HKq):Ic a0 a1 h0 K=dQ Iw K [a0,a1] h0:=by kernel_rfl
def IX:TLq
 | 1000023=>some ([],[13])|_=>none
def LU:TTq
 | _=>none
noncomputable abbrev Ir:=cFn PP true zR IX (cDr PP 63 LU)
noncomputable def IA:aJ:=⟨63,aN Ir,[.t 8,.t 9]⟩
theorem LG:Ir=some IA:=by kernel_rfl
def Ii (a b c d:D) (e:Heap) (K:HKq):Prop :=
 xB a e λ a e=>xB b e λ b e=>xF b 0 e λ b e=>xL b 1 false e λ b e=>xF a 0 e λ e f=>xL e 1 false f λ e f=>vbin .mul b e λ b=>vbin .lss c (.int .i64 0) λ e=>vguard e false (λ a=>a c f) f λ f g=>vguard e false (λ a=>a b g) g λ g h=>vguard e false (λ a=>vbin .geq f g λ b=>a b h) h λ f g=>xP e (.bool true) f g λ e f=>vcond e (K (.tup [(.int .i32 0),(.int .i64 1)]) f) (xL a 8 true f λ e f=>ag PP zQ [e,c] f λ e f=>ab PP (.ext (.c e) 0) f λ f g=>ab PP (.ext (.c e) 1) g λ e g=>∃(h:HJq),( ∀(a:Nat->D) (b:Heap),h [a 13] b->xC .i32 (a 13) b λ a b=>K (.tup [a,(.int .i64 0)]) b)/\vbin .eql d (.int .i64 1) λ i=>vcond i (aB [] []/\h [c] g) (vbin .eql d (.int .i64 2) λ c=>vcond c (aB [] []/\h [e] g) (vbin .eql d (.int .i64 3) λ c=>vcond c (aB [] []/\h [f] g) (vbin .eql d (.int .i64 4) λ c=>vcond c (aB [] []/\h [b] g) (vbin .eql d (.int .i64 5) λ b=>vcond b (xF a 0 g λ a b=>xL a 1 false b λ a b=>aB [] []/\h [a] b) (vbin .eql d (.int .i64 6) λ b=>vcond b (xF a 1 g λ a b=>xL a 1 false b λ a b=>vbin .rem e a λ a=>aB [] []/\h [a] b) (vbin .eql d (.int .i64 7) λ b=>vcond b (xF a 1 g λ a b=>xL a 1 false b λ a b=>vbin .quo e a λ a=>aB [] []/\h [a] b) (K (.tup [(.int .i32 0),(.int .i64 1)]) g))))))))
theorem Lt (a0:D) (a1:D) (a2:D) (a3:D) (h0:Heap) (K:HKq):Ii a0 a1 a2 a3 h0 K=dQ IA K [a0,a1,a2,a3] h0:=by kernel_rfl
end Go.Am
namespace Go.Am
open Go Go.Proofs
def Cx:TLq
 | _=>none
def EO:TTq
 | _=>none
noncomputable abbrev xR:=cFn PP true ph Cx (cDr PP 30 EO)
noncomputable def yc:aJ:=⟨30,aN xR,[.t 4,.t 5]⟩
theorem Ew:xR=some yc:=by kernel_rfl
def xA (a b:D) (c:Heap) (K:HKq):Prop :=
 vcond (.bool false) (xC .u32 a c λ a c=>xC .u32 b c λ b c=>ag PP Fa [a,b] c λ a b=>ab PP (.ext (.c a) 0) b λ b c=>ab PP (.ext (.c a) 1) c λ a c=>xC .u64 b c λ b c=>xC .u64 a c λ a c=>K (.tup [b,a]) c) (ag PP mJ [a,b] c λ a b=>ab PP (.ext (.c a) 0) b λ b c=>ab PP (.ext (.c a) 1) c λ a c=>K (.tup [b,a]) c)
theorem Ej (a0:D) (a1:D) (h0:Heap) (K:HKq):xA a0 a1 h0 K=dQ yc K [a0,a1] h0:=by kernel_rfl
def DZ:TLq
 | _=>none
def GD:TTq
 | _=>none
noncomputable abbrev A4:=cFn PP true cN DZ (cDr PP 4 GD)
noncomputable def Bj:aJ:=⟨4,aN A4,[.t 2]⟩
theorem Gc:A4=some Bj:=by kernel_rfl
def As (a:D) (b:Heap) (K:HKq):Prop :=
 vcond a (K (.int .i32 1) b) (K (.int .i32 0) b)
theorem FB (a0:D) (h0:Heap) (K:HKq):As a0 h0 K=dQ Bj K [a0] h0:=by kernel_rfl
def IW:TLq
 | _=>none
def LS:TTq
 | 1=>some ([0,0,2,7,0,0,32,112,15,511],[],[])|_=>none
noncomputable abbrev Iq:=cFn PP true zQ IW (cDr PP 14 LS)
noncomputable def Iz:aJ:=⟨14,aN Iq,[.t 4,.t 5]⟩
theorem LF:Iq=some Iz:=by kernel_rfl
def Ih (a b:D) (c:Heap) (K:HKq):Prop :=
 xB a c λ a c=>yF a 0 c λ d=>yL d 1 false c λ d=>vbin .quo b d λ d=>yF a 0 c λ a=>yL a 1 false c λ a=>vbin .rem b a λ a=>K (.tup [d,a]) c
theorem Ls (a0:D) (a1:D) (h0:Heap) (K:HKq):Ih a0 a1 h0 K=dQ Iz K [a0,a1] h0:=by kernel_rfl
def yH:TLq
 | _=>none
def Ch:TTq
 | _=>none
noncomputable abbrev tc:=cFn PP true mJ yH (cDr PP 51 Ch)
noncomputable def tF:aJ:=⟨51,aN tc,[.t 4,.t 5]⟩
theorem Bs:tc=some tF:=by kernel_rfl
def sL (a b:D) (c:Heap) (K:HKq):Prop :=
 vbin .and a (.int .u64 4294967295) λ d=>vbin .shr a (.int .u64 32) λ e=>vbin .and b (.int .u64 4294967295) λ f=>vbin .shr b (.int .u64 32) λ g=>vbin .mul d f λ h=>vbin .mul e f λ f=>vbin .shr h (.int .u64 32) λ h=>vbin .add f h λ f=>vbin .and f (.int .u64 4294967295) λ h=>vbin .shr f (.int .u64 32) λ f=>vbin .mul d g λ d=>vbin .add h d λ d=>vbin .mul e g λ e=>vbin .add e f λ e=>vbin .shr d (.int .u64 32) λ d=>vbin .add e d λ d=>vbin .mul a b λ a=>K (.tup [d,a]) c
theorem AA (a0:D) (a1:D) (h0:Heap) (K:HKq):sL a0 a1 h0 K=dQ tF K [a0,a1] h0:=by kernel_rfl
end Go.Am
namespace Go.Am
open Go Go.Proofs
def yK:TLq
 | _=>none
def Ci:TTq
 | 4=>some ([0,0,0,7,0,0,0,127,0,0,1023,2047],[3,7,8,9,10,11],[999996,2,3])|10=>some ([0,1,3,7,15,31,63,127,255,511,1023,2047,4095,8191,16383,32767,65535,131071,262143,524287,1048575,2097151,4194303,8388607,262143,17039359,50593791,117702655,268435455,536870911,1073741823,2147483647,4294967295,8589934591,17179869183,34359738367,68719476735,2147483647,139586437119,414464344063,964220157951,2199023255551,4398046511103,8796093022207,17592186044415,17592186044415,70368744177663,140737488355327,281474976710655,562949953421311,1125899906842623],[],[])|_=>none
noncomputable abbrev td:=cFn PP true kz yK (cDr PP 136 Ci)
noncomputable def tG:aJ:=⟨136,aN td,[.t 0]⟩
theorem Bw:td=some tG:=by kernel_rfl
def sM (a:Heap) (K:HKq):Prop :=
 ag PP wH [(.int .i64 1),(.int .i64 0)] a λ a b=>ag PP fo [(.int .i32 0)] b λ b c=>ag PP nT [b] c λ b c=>ab PP (.bldS true 15 2 (.agg [zI,zI,zI,zI,zI,zJ,zI,zI,zJ,zI,zI,zJ,zI,zI,zJ]) [(0,(.c a)),(1,(.c b))]) c λ a b=>ag PP jR [(.int .i64 2),(.int .i64 1),a] b λ a b=>ab PP (.alloc (.agg [zI,zI,zI,zI,zI,.nil,.nil,.nil])) b λ b c=>xS b a 8 c λ a c=>ag PP wH [(.int .i64 1),(.int .i64 0)] c λ a c=>ag PP cD [(.int .i64 0)] c λ c d=>ag PP nT [c] d λ c d=>ab PP (.bldS true 15 2 (.agg [zI,zI,zI,zI,zI,zJ,zI,zI,zJ,zI,zI,zJ,zI,zI,zJ]) [(0,(.c a)),(1,(.c c))]) d λ a c=>ag PP jR [(.int .i64 2),(.int .i64 1),a] c λ a c=>ab PP (.alloc (.agg [zI,zI,zI,zI,zI,.nil,.nil,.nil])) c λ c d=>xS c a 8 d λ a d=>ab PP (.bld [zI,.nil] [(0,1,(.c (.int .i64 1)))]) d λ a d=>ab PP (.bldS true 1 8 (.int .i32 0) [(0,(.c (.int .i32 0))),(1,(.c (.int .i32 0))),(2,(.c (.int .i32 0))),(3,(.c (.int .i32 0))),(4,(.c (.int .i32 0))),(5,(.c (.int .i32 0))),(6,(.c (.int .i32 0))),(7,(.c (.int .i32 0)))]) d λ d e=>ab PP (.bldS true 1 1 .nil [(0,(.c d))]) e λ d e=>ab PP (.alloc (.agg [zI,.nil])) e λ e f=>xS e a 2 f λ a f=>yL b 8 true f λ a=>yL e 2 true f λ g=>yL c 8 true f λ h=>yL e 2 true f λ i=>ag PP cO [a,g,d] f λ f j=>((yL c 8 true j λ a=>aB [a] [h])/\(yL e 2 true j λ a=>aB [a] [i])/\True)/\ag PP cO [h,i,d] j λ j k=>ab PP (.alloc (.agg [zI,.nil,.nil,zI,zI,zI,zI,zI,zI,zI])) k λ k l=>((yL b 8 true l λ b=>aB [b] [a])/\(yL e 2 true l λ a=>aB [a] [g])/\(yL c 8 true l λ a=>aB [a] [h])/\(yL e 2 true l λ a=>aB [a] [i])/\True)/\ab PP (.alloc (.agg [zI,.nil,.nil,zI,zI,zI,zI,zI,zI,zI])) l λ l m=>((yL b 8 true m λ b=>aB [b] [a])/\(yL e 2 true m λ a=>aB [a] [g])/\(yL c 8 true m λ a=>aB [a] [h])/\(yL e 2 true m λ a=>aB [a] [i])/\True)/\xS k f 10 m λ a c=>xS l j 10 c λ a c=>xF k 9 c λ a c=>xL a 1 false c λ a c=>vbin .neq a (.int .i64 0) λ a=>vguard a false (λ a=>xF l 9 c λ b c=>a b c) c λ c f=>vguard a false (λ a=>xL c 1 false f λ b c=>a b c) f λ c f=>vguard a false (λ a=>vbin .neq c (.int .i64 4) λ b=>a b f) f λ c f=>xP a (.bool true) c f λ a c=>vguard a false (λ a=>xF k 0 c λ b c=>a b c) c λ c f=>vguard a false (λ a=>xF c 3 f λ b c=>a b c) f λ c f=>vguard a false (λ a=>xJ c (.int .i64 0) 2 1 f λ b c=>a b c) f λ c f=>vguard a false (λ a=>xL c 1 false f λ b c=>a b c) f λ c f=>vguard a false (λ a=>xF k 0 f λ b c=>a b c) f λ f g=>vguard a false (λ a=>xF f 3 g λ b c=>a b c) g λ f g=>vguard a false (λ a=>xJ f (.int .i64 1) 2 1 g λ b c=>a b c) g λ f g=>vguard a false (λ a=>xL f 1 false g λ b c=>a b c) g λ f g=>vguard a false (λ a=>vbin .add c f λ b=>a b g) g λ c f=>vguard a false (λ a=>vbin .neq c (.int .i64 1) λ b=>a b f) f λ c f=>xP a (.bool true) c f λ a c=>vguard a false (λ a=>xF k 0 c λ b c=>a b c) c λ c f=>vguard a false (λ a=>xF c 5 f λ b c=>a b c) f λ c f=>vguard a false (λ a=>xL c 2 true f λ b c=>a b c) f λ c f=>vguard a false (λ a=>ab PP (.bld [zI,zI] [(0,1,(.c (.int .i64 0))),(1,1,(.c (.int .i64 0)))]) f λ b c=>a b c) f λ f g=>vguard a false (λ a=>ab PP (.eqv true true [.i,.i] (.c c) (.c f)) g λ b c=>a b c) g λ c f=>xP a (.bool true) c f λ a c=>vguard a false (λ a=>xF k 0 c λ b c=>a b c) c λ c f=>vguard a false (λ a=>xF c 8 f λ b c=>a b c) f λ c f=>vguard a false (λ a=>xL c 1 false f λ b c=>a b c) f λ c f=>vguard a false (λ a=>vbin .neq c (.int .i64 0) λ b=>a b f) f λ c f=>xP a (.bool true) c f λ a c=>vguard a false (λ a=>xL b 8 true c λ b c=>a b c) c λ c f=>vguard a false (λ a=>ab PP (.bld [zI,.nil] []) f λ b c=>a b c) f λ f g=>vguard a false (λ a=>a d g) g λ d g=>vguard a false (λ a=>ag PP cO [c,f,d] g λ b c=>a b c) g λ c d=>vguard a false (λ a=>ab PP (.fld (.c c) 9 1 false) d λ b c=>a b c) d λ c d=>vguard a false (λ a=>vbin .neq c (.int .i64 40) λ b=>a b d) d λ c d=>xP a (.bool true) c d λ a c=>vguard a false (λ a=>xL b 8 true c λ b c=>a b c) c λ c d=>vguard a false (λ a=>xL e 2 true d λ b c=>a b c) d λ d e=>vguard a false (λ a=>ag PP cO [c,d,.nil] e λ b c=>a b c) e λ c d=>vguard a false (λ a=>ab PP (.fld (.c c) 9 1 false) d λ b c=>a b c) d λ c d=>vguard a false (λ a=>vbin .neq c (.int .i64 1) λ b=>a b d) d λ c d=>xP a (.bool true) c d λ a c=>vcond a (K (.bool false) c) (xL b 8 true c λ a c=>xF k 0 c λ c d=>xL c 9 true d λ c d=>ag PP ig [a,c] d λ a c=>ab PP (.alloc (.agg [.nil,.nil,zI])) c λ c d=>xS c a 3 d λ a d=>xF k 0 d λ a d=>xL a 9 true d λ a d=>ab PP (.alloc (.agg [zI,.nil,.nil,zI,zI,zI,zI,zI,zI])) d λ d e=>xS d a 9 e λ a e=>xF d 5 e λ a e=>xJ a (.int .i64 0) 2 1 e λ a e=>xS a (.int .i64 1) 1 e λ a e=>yF c 2 e λ a=>yL a 1 false e λ a=>vbin .eql a (.int .i64 0) λ a=>aj a true (λ a=>yF c 0 e λ b=>a b) λ f=>aj a true (λ a=>yJ f (.int .i64 0) 2 1 e λ b=>a b) λ f=>aj a true (λ a=>yL f 1 false e λ b=>a b) λ f=>aj a true (λ a=>bq f e λ b=>a b) λ f=>aj a true (λ a=>vbin .eql f (.int .i64 2) λ b=>a b) λ f=>yP a f (.bool false) e λ a=>aj a true (λ a=>yF c 0 e λ b=>a b) λ f=>aj a true (λ a=>yJ f (.int .i64 1) 2 1 e λ b=>a b) λ f=>aj a true (λ a=>yL f 1 false e λ b=>a b) λ f=>aj a true (λ a=>bq f e λ b=>a b) λ f=>aj a true (λ a=>vbin .eql f (.int .i64 2) λ b=>a b) λ f=>yP a f (.bool false) e λ a=>aj a true (λ a=>yF c 0 e λ b=>a b) λ f=>aj a true (λ a=>yJ f (.int .i64 0) 2 1 e λ b=>a b) λ f=>aj a true (λ a=>yL f 1 false e λ b=>a b) λ f=>aj a true (λ a=>yI f (.int .i64 0) 9 e λ b=>a b) λ f=>aj a true (λ a=>yF f 2 e λ b=>a b) λ f=>aj a true (λ a=>yL f 1 false e λ b=>a b) λ f=>aj a true (λ a=>yF k 0 e λ b=>a b) λ g=>aj a true (λ a=>yF g 3 e λ b=>a b) λ g=>aj a true (λ a=>yJ g (.int .i64 0) 2 1 e λ b=>a b) λ g=>aj a true (λ a=>yL g 1 false e λ b=>a b) λ g=>aj a true (λ a=>vbin .eql f g λ b=>a b) λ f=>yP a f (.bool false) e λ a=>aj a true (λ a=>yF c 0 e λ b=>a b) λ c=>aj a true (λ a=>yJ c (.int .i64 1) 2 1 e λ b=>a b) λ c=>aj a true (λ a=>yL c 1 false e λ b=>a b) λ c=>aj a true (λ a=>yI c (.int .i64 0) 9 e λ b=>a b) λ c=>aj a true (λ a=>yF c 2 e λ b=>a b) λ c=>aj a true (λ a=>yL c 1 false e λ b=>a b) λ c=>aj a true (λ a=>yF k 0 e λ b=>a b) λ f=>aj a true (λ a=>yF f 3 e λ b=>a b) λ f=>aj a true (λ a=>yJ f (.int .i64 1) 2 1 e λ b=>a b) λ f=>aj a true (λ a=>yL f 1 false e λ b=>a b) λ f=>aj a true (λ a=>vbin .eql c f λ b=>a b) λ c=>yP a c (.bool false) e λ a=>aj a true (λ a=>yL b 8 true e λ b=>a b) λ b=>aj a true (λ a=>yL d 9 true e λ b=>a b) λ c=>aj a true (λ a=>an PP (.call ig [(.c b),(.c c)]) e λ b=>a b) λ b=>aj a true (λ a=>an PP (.fld (.c b) 2 1 false) e λ b=>a b) λ b=>aj a true (λ a=>vbin .eql b (.int .i64 4) λ b=>a b) λ b=>yP a b (.bool false) e λ a=>K a e)
theorem AF (h0:Heap) (K:HKq):sM h0 K=dQ tG K [] h0:=by kernel_rfl
end Go.Am
