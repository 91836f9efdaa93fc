/- The texts of the functions of this chapter, as the abstract machine has them. No condition. -/
import Derived.Test.YtemgkmgmnnaloaaProg
import Derived.KernelRfl
import Derived.Test.YtemgkmgmnnaloaaA3
set_option linter.unnecessarySimpa false
set_option linter.defProp false
set_option linter.unusedSectionVars false
set_option linter.unusedSimpArgs false
set_option linter.unusedVariables false
namespace Go.Am
open Go Go.Proofs
noncomputable abbrev PP:Program:=Try.prog
abbrev xL (a:D) (n:Nat) (b:Bool) (h:Heap) (K:HK):Prop:=ab PP (.ld (.c a) n b) h K
abbrev yL (a:D) (n:Nat) (b:Bool) (h:Heap) (K:D->Prop):Prop:=aq PP (.ld (.c a) n b) h K
abbrev xF (a:D) (n:Nat) (h:Heap) (K:HK):Prop:=ab PP (.fadd (.c a) n) h K
abbrev yF (a:D) (n:Nat) (h:Heap) (K:D->Prop):Prop:=aq PP (.fadd (.c a) n) h K
abbrev xI (a b:D) (n:Nat) (h:Heap) (K:HK):Prop:=ab PP (.iadd (.c a) (.c b) n) h K
abbrev yI (a b:D) (n:Nat) (h:Heap) (K:D->Prop):Prop:=aq PP (.iadd (.c a) (.c b) n) h K
abbrev xS (a b:D) (n:Nat) (h:Heap) (K:HK):Prop:=ab PP (.st (.c a) (.c b) n) h K
abbrev eN (F:aK) (K:HK) (l:List D) (h:Heap):Prop:=vcC PP F.code (fun x e h'=>match x with|.exit _=>False|.pan=>False|_=>iR PP F.res K e h') (params l 0) h
abbrev zI:D:=.int .i64 0
abbrev zJ:D:=.int .i32 0
def aS:Option aK->bV
 | some F=>F.code
 | none=>.skip
abbrev mu:FuncId:=6
abbrev jq:FuncId:=9
abbrev iW:FuncId:=10
abbrev eK:FuncId:=11
abbrev lF:FuncId:=12
abbrev kW:FuncId:=13
abbrev lG:FuncId:=14
abbrev fZ:FuncId:=15
abbrev jY:FuncId:=16
abbrev kU:FuncId:=18
abbrev cU:FuncId:=19
abbrev mo:FuncId:=20
abbrev mq:FuncId:=21
abbrev kY:FuncId:=22
abbrev gO:FuncId:=23
abbrev fJ:FuncId:=25
abbrev dp:FuncId:=27
abbrev jZ:FuncId:=28
abbrev dU:FuncId:=29
abbrev iq:FuncId:=30
abbrev oQ:FuncId:=31
abbrev lH:FuncId:=32
abbrev lJ:FuncId:=33
abbrev m9:FuncId:=34
abbrev lI:FuncId:=35
abbrev rC:FuncId:=36
abbrev hY:FuncId:=37
abbrev m8:FuncId:=38
abbrev rD:FuncId:=39
abbrev oW:FuncId:=40
abbrev fI:FuncId:=41
abbrev eJ:FuncId:=42
abbrev fT:FuncId:=43
abbrev nj:FuncId:=44
abbrev bW:FuncId:=45
abbrev bI:FuncId:=46
abbrev jx:FuncId:=50
abbrev an:FuncId:=51
abbrev lK:FuncId:=52
abbrev eH:FuncId:=53
abbrev dV:FuncId:=54
abbrev bk:FuncId:=55
abbrev aZ:FuncId:=56
abbrev aY:FuncId:=57
abbrev ct:FuncId:=58
abbrev gB:FuncId:=59
abbrev eL:FuncId:=60
abbrev aR:FuncId:=61
abbrev jz:FuncId:=62
abbrev gR:FuncId:=63
abbrev lE:FuncId:=64
abbrev cj:FuncId:=65
abbrev lD:FuncId:=66
abbrev kX:FuncId:=67
abbrev na:FuncId:=68
abbrev bA:FuncId:=69
abbrev gQ:FuncId:=70
abbrev jy:FuncId:=71
abbrev dT:FuncId:=72
abbrev eU:FuncId:=73
abbrev ig:FuncId:=74
abbrev jo:FuncId:=75
abbrev kV:FuncId:=76
abbrev cR:FuncId:=77
abbrev ng:FuncId:=78
abbrev aO:FuncId:=79
abbrev dD:FuncId:=80
abbrev eP:FuncId:=81
abbrev iz:FuncId:=82
abbrev fR:FuncId:=83
abbrev fS:FuncId:=84
abbrev kT:FuncId:=85
abbrev jr:FuncId:=86
abbrev kg:FuncId:=87
abbrev rl:FuncId:=88
abbrev mm:FuncId:=89
abbrev oU:FuncId:=90
abbrev oT:FuncId:=91
abbrev ni:FuncId:=92
abbrev cT:FuncId:=93
abbrev gP:FuncId:=94
abbrev eQ:FuncId:=95
abbrev nh:FuncId:=96
abbrev ff:FuncId:=97
abbrev gp:FuncId:=98
abbrev iV:FuncId:=99
abbrev lC:FuncId:=100
abbrev gN:FuncId:=101
abbrev rj:FuncId:=102
abbrev rA:FuncId:=103
abbrev vW:FuncId:=104
abbrev cn:FuncId:=105
abbrev ru:FuncId:=106
end Go.Am
namespace Go.Am
open Go Go.Proofs
def qB:TL
 | 1000010=>some ([],[5,7,8,9,11])|1000020=>some ([],[5,7,8,9,11,12,13,14])|1000024=>some ([],[7,11,12,13,15])|_=>none
def tH:TT
 | 5=>some ([0,1,3,7,0,16,48,127,0,511,1023],[3,7,8,10],[999998,2])|14=>some ([0,1,3,0,0,24,56,120,255,511],[],[])|19=>some ([0,0,3,7,0,0,32,96,255,511],[9],[])|21=>some ([0,1,0,4,15,31,63,127,63,319,1023,2047,4095,8191,16383,32767,16383,81919,262143,524287,1048575,2097151,4194303,8388607,16777215,4194303,37748735,134217727,268435455,536870911,1073741823,2147483647,1073741823,8589934591,17179869183,34359738367,1073741823,1073741823,207232172031,482110078975,1031865892863,2199023255551,4398046511103,8796093022207,17592186044415,35184372088831,17592186044415,140737488355327,281474976710655,17592186044415,1125899906842623,2251799813685247,17592186044415,4521191813414911,13528391068155903,36028797018963967,72057594037927935],[],[])|24=>some ([0,0,3,7,0,0,32,0,224,480,0,2016,4064,8191,16383],[14],[])|_=>none
noncomputable abbrev mS:=cFn PP true mu qB (cDr PP 196 tH)
noncomputable def mZ:aK:=⟨196,aS mS,[.t 6]⟩
theorem ti:mS=some mZ:=by kernel_rfl
end Go.Am
namespace Go.Am
open Go Go.Proofs
def wj:TL
 | 1000005=>some ([3,4,5],[])|_=>none
def zV:TT
 | 6=>some ([0,1,0,4,0,0,32,96,224,0,512,0,2048,7680,16383,32767,65535],[16],[])|_=>none
noncomputable abbrev sQ:=cFn PP true iW wj (cDr PP 51 zV)
noncomputable def th:aK:=⟨51,aS sQ,[.cell 4 21 true]⟩
theorem zv:sQ=some th:=by kernel_rfl
def At:TL
 | _=>none
def Ef:TT
 | _=>none
noncomputable abbrev yQ:=cFn PP true eK At (cDr PP 36 Ef)
noncomputable def zu:aK:=⟨36,aS yQ,[.cell 8 11 true]⟩
theorem Ds:yQ=some zu:=by kernel_rfl
def yu (a:D) (b:D) (c:D) (d:D) (e:Heap) (K:HK):Prop :=
 ab PP (.box (.c a)) e fun a e=>ab PP (.box (.c b)) e fun b e=>ab PP (.box (.c c)) e fun c e=>ab PP (.alloc (.agg [zI,zI,zI,zI,.nil,.nil,.nil,.nil,.nil,.nil,zI])) e fun e f=>xL a 8 true f fun a f=>xL b 2 true f fun b f=>xF c 0 f fun f g=>xL f 7 true g fun f g=>xF c 7 g fun g h=>xL g 1 false h fun g h=>xF c 8 h fun c h=>xL c 1 false h fun c h=>ag PP rC [a,b,f,g,c,d] h fun a b=>ab PP (.ext (.c a) 0) b fun b c=>ab PP (.ext (.c a) 1) c fun c d=>ab PP (.ext (.c a) 2) d fun d f=>ab PP (.ext (.c a) 3) f fun f g=>ab PP (.ext (.c a) 4) g fun a g=>ab PP (.alloc (.agg [zI,zI,zI,zI,.nil,.nil,.nil])) g fun g h=>xS g b 7 h fun b h=>xL g 7 true h fun b g=>ab PP (.bld [zI,zI,zI,zI,.nil,.nil,.nil,.nil,.nil,.nil,zI] [(0,7,(.c b)),(7,1,(.c c)),(8,1,(.c d)),(9,1,(.c f)),(10,1,(.c a))]) g fun a b=>xS e a 11 b fun a b=>xL e 11 true b fun a c=>K a b
theorem C8 (a0:D) (a1:D) (a2:D) (a3:D) (h0:Heap) (K:HK):yu a0 a1 a2 a3 h0 K=eN zu K [a0,a1,a2,a3] h0:=by kernel_rfl
def v8:TL
 | 1000015=>some ([5,10,12],[])|8=>some ([4,5,6,7,10,11,12,13],[14])|_=>none
def zP:TT
 | 5=>some ([0,1,0,4,15,0,32,127,255,0,1023],[1,4,7,9,10],[999998,3])|10=>some ([0,0,0,0,0,24,56,0,128,0,0,1024,0,8064,16383,32767],[14,15],[999999])|_=>none
noncomputable abbrev sJ:=cFn PP true lF v8 (cDr PP 76 zP)
noncomputable def sX:aK:=⟨76,aS sJ,[.cell 10 11 true]⟩
theorem zc:sJ=some sX:=by kernel_rfl
def mE (a:Heap) (b:D) (c:D) (d:D) (e:D) (f:D) (g:D) (h:D) (i:D) (j:HJ) (K:HK):Prop :=
 ∃(k:Nat->HJ) (l:Nat),k l [zI] a/\∀(a:Nat) (l:Nat->D) (m:Heap),k a [l 14] m->bP b m fun n=>vbin .lss (l 14) n fun n=>vcond n (yL c 8 true m fun j=>yL d 2 true m fun n=>yL e 11 true m fun o=>yI b (l 14) 15 m fun p=>yL p 15 true m fun p=>yF f 0 m fun q=>yL q 1 false m fun q=>yF f 2 m fun r=>yL r 1 false m fun r=>aq PP (.bld [zI,zI,zI,zI,zI,zI,zI,zI,zJ] [(2,1,(.c q)),(3,1,(.c g)),(4,1,(.c r)),(5,1,(.c (l 14)))]) m fun q=>ag PP hY [j,n,o,p,q] m fun j m=>xS e j 11 m fun j m=>xF e 10 m fun j m=>xL j 1 false m fun j m=>vbin .neq j zI fun j=>vcond j (xF e 10 m fun a b=>xL a 1 false b fun a b=>xF h 10 b fun b c=>xS b a 1 c fun a b=>xL h 11 true b fun a b=>xS i a 11 b fun a b=>xL i 11 true b fun a c=>K a b) (vbin .add (l 14) (.int .i64 1) fun j=>aH [g,c,d,f,i,h,e,b] [g,c,d,f,i,h,e,b]/\∃b,b<a/\k b [j] m)) (aH [c,i,e] [c,i,e]/\j [] m)
def sk (a:D) (b:D) (c:D) (d:D) (e:D) (f:Heap) (K:HK):Prop :=
 ab PP (.box (.c a)) f fun a f=>ab PP (.box (.c b)) f fun b f=>ab PP (.box (.c c)) f fun c f=>ab PP (.box (.c d)) f fun d f=>ab PP (.alloc (.agg [zI,zI,zI,zI,.nil,.nil,.nil,.nil,.nil,.nil,zI])) f fun f g=>xL c 7 true g fun g h=>ab PP (.iadda (.c d) (.c zI) 2 1) h fun h i=>xL h 1 false i fun h i=>ab PP (.iadda (.c d) (.c (.int .i64 1)) 2 1) i fun i j=>xL i 1 false j fun i j=>ab PP (.bld [zI,zI,zI,zI,.nil,.nil,.nil,.nil,.nil,.nil,zI] [(0,7,(.c g)),(7,1,(.c h)),(8,1,(.c i))]) j fun g h=>ab PP (.alloc (.agg [zI,zI,zI,zI,.nil,.nil,.nil,.nil,.nil,.nil,zI])) h fun h i=>xS h g 11 i fun g i=>xF c 1 i fun g i=>xL g 1 false i fun g i=>vbin .neq g (.int .i64 1) fun g=>vcond g (xF h 10 i fun a b=>xS a (.int .i64 1) 1 b fun a b=>xL h 11 true b fun a b=>xS f a 11 b fun a b=>xL f 11 true b fun a c=>K a b) (yL c 7 true i fun g=>aq PP (.iadda (.c d) (.c zI) 2 1) i fun j=>yL j 1 false i fun k=>aq PP (.iadda (.c d) (.c (.int .i64 1)) 2 1) i fun l=>yL l 1 false i fun m=>ag PP gO [g] i fun i n=>((aq PP (.iadda (.c d) (.c zI) 2 1) n fun a=>aH [a] [j])/\(yL j 1 false n fun a=>aH [a] [k])/\(aq PP (.iadda (.c d) (.c (.int .i64 1)) 2 1) n fun a=>aH [a] [l])/\(yL l 1 false n fun a=>aH [a] [m])/\True)/\ag PP fJ [k] n fun n o=>((aq PP (.iadda (.c d) (.c (.int .i64 1)) 2 1) o fun a=>aH [a] [l])/\(yL l 1 false o fun a=>aH [a] [m])/\True)/\ag PP fJ [m] o fun o p=>aq PP (.bld [zI,zI,zI,zI,.nil,.nil,.nil,.nil,.nil,.nil,zI] [(0,7,(.c i)),(7,1,(.c n)),(8,1,(.c o))]) p fun i=>ab PP (.alloc (.agg [zI,zI,zI,zI,.nil,.nil,.nil,.nil,.nil,.nil,zI])) p fun n o=>((yL c 7 true o fun a=>aH [a] [g])/\(aq PP (.iadda (.c d) (.c zI) 2 1) o fun a=>aH [a] [j])/\(yL j 1 false o fun a=>aH [a] [k])/\(aq PP (.iadda (.c d) (.c (.int .i64 1)) 2 1) o fun a=>aH [a] [l])/\(yL l 1 false o fun a=>aH [a] [m])/\True)/\xS n i 11 o fun d g=>xF a 7 g fun d g=>xL d 1 false g fun d g=>xF c 2 g fun g i=>xL g 1 false i fun g i=>xI d g 14 i fun d g=>xF d 0 g fun d g=>xL d 1 false g fun d g=>∃(i:HJ),( ∀(b:Nat->D) (c:Heap),i [] c->xL a 8 true c fun a b=>xF n 0 b fun b c=>xL b 7 true c fun b c=>ag PP m8 [a,b] c fun a b=>xF n 0 b fun b c=>xS b a 7 c fun a b=>xL n 11 true b fun a b=>xS f a 11 b fun a b=>xL f 11 true b fun a c=>K a b)/\mE g d a b n c e h f i K)
theorem yc (a0:D) (a1:D) (a2:D) (a3:D) (a4:D) (h0:Heap) (K:HK):sk a0 a1 a2 a3 a4 h0 K=eN sX K [a0,a1,a2,a3,a4] h0:=by kernel_rfl
def Au:TL
 | _=>none
def Eg:TT
 | _=>none
noncomputable abbrev yR:=cFn PP true kW Au (cDr PP 19 Eg)
noncomputable def zw:aK:=⟨19,aS yR,[.cell 6 8 true]⟩
theorem Dt:yR=some zw:=by kernel_rfl
def yw (a:D) (b:D) (c:D) (d:Heap) (K:HK):Prop :=
 ab PP (.box (.c a)) d fun a d=>ab PP (.box (.c b)) d fun b d=>ab PP (.alloc (.agg [zI,zI,zI,zI,.nil,.nil,.nil,zI])) d fun d e=>xL a 8 true e fun a e=>xL b 7 true e fun b e=>ag PP rD [a,b,c] e fun a b=>ab PP (.ext (.c a) 0) b fun b c=>ab PP (.ext (.c a) 1) c fun a c=>ab PP (.alloc (.agg [zI,zI,zI,zI,.nil,.nil,.nil])) c fun c e=>xS c b 7 e fun b e=>xL c 7 true e fun b c=>ab PP (.bld [zI,zI,zI,zI,.nil,.nil,.nil,zI] [(0,7,(.c b)),(7,1,(.c a))]) c fun a b=>xS d a 8 b fun a b=>xL d 8 true b fun a c=>K a b
theorem C9 (a0:D) (a1:D) (a2:D) (h0:Heap) (K:HK):yw a0 a1 a2 h0 K=eN zw K [a0,a1,a2] h0:=by kernel_rfl
def wc:TL
 | 1000008=>some ([6,7,8],[])|_=>none
def zQ:TT
 | _=>none
noncomputable abbrev sK:=cFn PP true lG wc (cDr PP 40 zQ)
noncomputable def sY:aK:=⟨40,aS sK,[.cell 6 8 true]⟩
theorem zf:sK=some sY:=by kernel_rfl
def so (a:D) (b:D) (c:D) (d:Heap) (K:HK):Prop :=
 ab PP (.box (.c a)) d fun a d=>ab PP (.box (.c b)) d fun b d=>ab PP (.alloc (.agg [zI,zI,zI,zI,.nil,.nil,.nil,zI])) d fun d e=>xF b 1 e fun e f=>xL e 1 false f fun e f=>vbin .neq e (.int .i64 2) fun e=>vcond e (xL b 7 true f fun a b=>ab PP (.bld [zI,zI,zI,zI,.nil,.nil,.nil,zI] [(0,7,(.c a)),(7,1,(.c (.int .i64 1)))]) b fun a b=>xS d a 8 b fun a b=>xL d 8 true b fun a c=>K a b) (xF a 7 f fun a e=>xL a 1 false e fun a e=>xF b 2 e fun e f=>xL e 1 false f fun e f=>xI a e 14 f fun a e=>xF a 1 e fun a e=>xL a 13 true e fun a e=>ab PP (.alloc (.agg [zI,zI,zI,zI,zJ,zI,zI,zJ,zI,zI,zJ,zI,zI])) e fun e f=>xS e a 13 f fun a f=>xL b 7 true f fun a b=>ag PP gO [a] b fun a b=>ab PP (.alloc (.agg [zI,zI,zI,zI,.nil,.nil,.nil])) b fun b f=>xS b a 7 f fun a f=>∃(a:HJ),( ∀(c:Nat->D) (f:Heap),a [] f->xF b 1 f fun a c=>xS a (.int .i64 1) 1 c fun a c=>xF e 11 c fun a c=>ab PP (.iadda (.c a) (.c zI) 2 1) c fun a c=>xL a 1 false c fun a c=>xF b 2 c fun c e=>xS c a 1 e fun a c=>xL b 7 true c fun a b=>ab PP (.bld [zI,zI,zI,zI,.nil,.nil,.nil,zI] [(0,7,(.c a))]) b fun a b=>xS d a 8 b fun a b=>xL d 8 true b fun a c=>K a b)/\xF e 0 f fun f g=>xL f 1 false g fun f g=>vbin .eql f (.int .i64 4) fun f=>vcond f (xF b 4 g fun f g=>xL f 1 false g fun f g=>xF e 2 g fun g h=>xF g 1 h fun g h=>xL g 1 false h fun g h=>xI f g 1 h fun f g=>xS f c 1 g fun c f=>aH [d,e,b] [d,e,b]/\a [] f) (aH [d,e,b] [d,e,b]/\a [] g))
theorem ye (a0:D) (a1:D) (a2:D) (h0:Heap) (K:HK):so a0 a1 a2 h0 K=eN sY K [a0,a1,a2] h0:=by kernel_rfl
def xH:TL
 | _=>none
def CB:TT
 | _=>none
noncomputable abbrev uZ:=cFn PP true fZ xH (cDr PP 19 CB)
noncomputable def vA:aK:=⟨19,aS uZ,[.cell 6 8 true]⟩
theorem Bh:uZ=some vA:=by kernel_rfl
def uJ (a:D) (b:D) (c:D) (d:Heap) (K:HK):Prop :=
 ab PP (.box (.c a)) d fun a d=>ab PP (.box (.c b)) d fun b d=>ab PP (.alloc (.agg [zI,zI,zI,zI,.nil,.nil,.nil,zI])) d fun d e=>xL a 8 true e fun a e=>xL b 2 true e fun b e=>ag PP oW [a,b,c] e fun a b=>ab PP (.ext (.c a) 0) b fun b c=>ab PP (.ext (.c a) 1) c fun a c=>ab PP (.alloc (.agg [zI,zI,zI,zI,.nil,.nil,.nil])) c fun c e=>xS c b 7 e fun b e=>xL c 7 true e fun b c=>ab PP (.bld [zI,zI,zI,zI,.nil,.nil,.nil,zI] [(0,7,(.c b)),(7,1,(.c a))]) c fun a b=>xS d a 8 b fun a b=>xL d 8 true b fun a c=>K a b
theorem AX (a0:D) (a1:D) (a2:D) (h0:Heap) (K:HK):uJ a0 a1 a2 h0 K=eN vA K [a0,a1,a2] h0:=by kernel_rfl
def tK:TL
 | _=>none
def w7:TT
 | 3=>some ([0,0,2,6,0,16,48,0,128,384,1023,2047,4095],[12],[])|_=>none
noncomputable abbrev p0:=cFn PP true jY tK (cDr PP 31 w7)
noncomputable def qf:aK:=⟨31,aS p0,[.cell 6 8 true]⟩
theorem wL:p0=some qf:=by kernel_rfl
def pO (a:D) (b:D) (c:D) (d:Heap) (K:HK):Prop :=
 ab PP (.box (.c a)) d fun a d=>ab PP (.box (.c b)) d fun b d=>ab PP (.alloc (.agg [zI,zI,zI,zI,.nil,.nil,.nil,zI])) d fun d e=>vbin .lss c zI fun f=>vguard f false (fun a=>a c e) e fun e g=>vguard f false (fun a=>xF b 0 g fun b c=>a b c) g fun b g=>vguard f false (fun a=>xL b 1 false g fun b c=>a b c) g fun b g=>vguard f false (fun b=>xF a 0 g fun a c=>b a c) g fun g h=>vguard f false (fun a=>xL g 1 false h fun b c=>a b c) h fun g h=>vguard f false (fun a=>vbin .mul b g fun b=>a b h) h fun b g=>vguard f false (fun a=>vbin .geq e b fun b=>a b g) g fun b e=>ab PP (.pick (.c f) (.c (.bool true)) (.c b)) e fun b e=>vcond b (ab PP (.bld [zI,zI,zI,zI,.nil,.nil,.nil,zI] [(7,1,(.c (.int .i64 1)))]) e fun a b=>xS d a 8 b fun a b=>xL d 8 true b fun a c=>K a b) (yF a 2 e fun b=>yL b 1 false e fun b=>aq PP (.mk 1 4 zJ (.c b) (.c b)) e fun b=>yF a 5 e fun f=>yL f 1 false e fun f=>aq PP (.call fI [(.c f),(.c (.int .i64 3))]) e fun f=>yF a 3 e fun a=>yL a 1 false e fun a=>aq PP (.mk 1 4 zJ (.c a) (.c a)) e fun a=>aq PP (.bld [zI,zI,zI,zI,.nil,.nil,.nil] [(0,1,(.c c)),(1,1,(.c (.int .i64 1))),(4,1,(.c b)),(5,1,(.c f)),(6,1,(.c a))]) e fun a=>aq PP (.bld [zI,zI,zI,zI,.nil,.nil,.nil,zI] [(0,7,(.c a))]) e fun a=>xS d a 8 e fun a b=>xL d 8 true b fun a c=>K a b)
theorem wC (a0:D) (a1:D) (a2:D) (h0:Heap) (K:HK):pO a0 a1 a2 h0 K=eN qf K [a0,a1,a2] h0:=by kernel_rfl
end Go.Am
namespace Go.Am
open Go Go.Proofs
def Ai:TL
 | _=>none
def D5:TT
 | _=>none
noncomputable abbrev yD:=cFn PP true kU Ai (cDr PP 52 D5)
noncomputable def ze:aK:=⟨52,aS yD,[.t 4]⟩
theorem Dh:yD=some ze:=by kernel_rfl
def yd (a:D) (b:D) (c:Heap) (K:HK):Prop :=
 ab PP (.box (.c a)) c fun a c=>ab PP (.box (.c b)) c fun b c=>xF a 0 c fun c d=>xL c 1 false d fun c d=>xF b 0 d fun d e=>xL d 1 false e fun d e=>vbin .eql c d fun c=>vguard c true (fun b=>xF a 1 e fun a c=>b a c) e fun d e=>vguard c true (fun a=>xL d 1 false e fun b c=>a b c) e fun d e=>vguard c true (fun a=>xF b 1 e fun b c=>a b c) e fun e f=>vguard c true (fun a=>xL e 1 false f fun b c=>a b c) f fun e f=>vguard c true (fun a=>vbin .eql d e fun b=>a b f) f fun d e=>ab PP (.pick (.c c) (.c d) (.c (.bool false))) e fun c d=>vguard c true (fun b=>xF a 2 d fun a c=>b a c) d fun d e=>vguard c true (fun a=>xL d 1 false e fun b c=>a b c) e fun d e=>vguard c true (fun a=>xF b 2 e fun b c=>a b c) e fun e f=>vguard c true (fun a=>xL e 1 false f fun b c=>a b c) f fun e f=>vguard c true (fun a=>vbin .eql d e fun b=>a b f) f fun d e=>ab PP (.pick (.c c) (.c d) (.c (.bool false))) e fun c d=>vguard c true (fun b=>xF a 3 d fun a c=>b a c) d fun d e=>vguard c true (fun a=>xL d 1 false e fun b c=>a b c) e fun d e=>vguard c true (fun a=>xF b 3 e fun b c=>a b c) e fun e f=>vguard c true (fun a=>xL e 1 false f fun b c=>a b c) f fun e f=>vguard c true (fun a=>vbin .eql d e fun b=>a b f) f fun d e=>ab PP (.pick (.c c) (.c d) (.c (.bool false))) e fun c d=>vguard c true (fun b=>xF a 4 d fun a c=>b a c) d fun d e=>vguard c true (fun a=>xL d 1 false e fun b c=>a b c) e fun d e=>vguard c true (fun a=>xF b 4 e fun b c=>a b c) e fun e f=>vguard c true (fun a=>xL e 1 false f fun b c=>a b c) f fun e f=>vguard c true (fun a=>ag PP eJ [d,e] f fun b c=>a b c) f fun d e=>ab PP (.pick (.c c) (.c d) (.c (.bool false))) e fun c d=>vguard c true (fun b=>xF a 5 d fun a c=>b a c) d fun d e=>vguard c true (fun a=>xL d 1 false e fun b c=>a b c) e fun d e=>vguard c true (fun a=>xF b 5 e fun b c=>a b c) e fun e f=>vguard c true (fun a=>xL e 1 false f fun b c=>a b c) f fun e f=>vguard c true (fun a=>ag PP dp [d,e] f fun b c=>a b c) f fun d e=>ab PP (.pick (.c c) (.c d) (.c (.bool false))) e fun c d=>vguard c true (fun b=>xF a 6 d fun a c=>b a c) d fun a d=>vguard c true (fun b=>xL a 1 false d fun a c=>b a c) d fun a d=>vguard c true (fun a=>xF b 6 d fun b c=>a b c) d fun b d=>vguard c true (fun a=>xL b 1 false d fun b c=>a b c) d fun b d=>vguard c true (fun c=>ag PP eJ [a,b] d fun a b=>c a b) d fun a b=>ab PP (.pick (.c c) (.c a) (.c (.bool false))) b fun a b=>K a b
theorem CY (a0:D) (a1:D) (h0:Heap) (K:HK):yd a0 a1 h0 K=eN ze K [a0,a1] h0:=by kernel_rfl
def Ax:TL
 | _=>none
def Ej:TT
 | _=>none
noncomputable abbrev yU:=cFn PP true cU Ax (cDr PP 16 Ej)
noncomputable def zz:aK:=⟨16,aS yU,[.t 4]⟩
theorem Dw:yU=some zz:=by kernel_rfl
def yz (a:D) (b:D) (c:Heap) (K:HK):Prop :=
 ab PP (.box (.c a)) c fun a c=>ab PP (.box (.c b)) c fun b c=>xF b 0 c fun c d=>xL c 1 false d fun c d=>vbin .eql c (.int .i64 2) fun c=>vcond c (xF a 4 d fun a c=>xL a 1 false c fun a c=>xF b 1 c fun b c=>xL b 1 false c fun b c=>xI a b 1 c fun a b=>xL a 1 false b fun a b=>K a b) (xF b 2 d fun a b=>xL a 1 false b fun a b=>K a b)
theorem Dc (a0:D) (a1:D) (h0:Heap) (K:HK):yz a0 a1 h0 K=eN zz K [a0,a1] h0:=by kernel_rfl
def CN:TL
 | _=>none
def FN:TT
 | _=>none
noncomputable abbrev BY:=cFn PP true mo CN (cDr PP 5 FN)
noncomputable def Ci:aK:=⟨5,aS BY,[.cell 2 3 true]⟩
theorem FA:BY=some Ci:=by kernel_rfl
def BM (a:D) (b:Heap) (K:HK):Prop :=
 ab PP (.alloc (.agg [zI,zI,zJ])) b fun b c=>ab PP (.bld [zI,zI,zJ] [(0,1,(.c (.int .i64 2))),(1,1,(.c a))]) c fun a c=>xS b a 3 c fun a c=>xL b 3 true c fun a b=>K a c
theorem Fg (a0:D) (h0:Heap) (K:HK):BM a0 h0 K=eN Ci K [a0] h0:=by kernel_rfl
def CO:TL
 | _=>none
def FO:TT
 | _=>none
noncomputable abbrev BZ:=cFn PP true mq CO (cDr PP 5 FO)
noncomputable def Cj:aK:=⟨5,aS BZ,[.cell 2 3 true]⟩
theorem FB:BZ=some Cj:=by kernel_rfl
def BN (a:D) (b:Heap) (K:HK):Prop :=
 ab PP (.alloc (.agg [zI,zI,zJ])) b fun b c=>ab PP (.bld [zI,zI,zJ] [(0,1,(.c (.int .i64 1))),(2,1,(.c a))]) c fun a c=>xS b a 3 c fun a c=>xL b 3 true c fun a b=>K a c
theorem Fh (a0:D) (h0:Heap) (K:HK):BN a0 h0 K=eN Cj K [a0] h0:=by kernel_rfl
def Ay:TL
 | 1000014=>some ([],[])|_=>none
def Ek:TT
 | _=>none
noncomputable abbrev yV:=cFn PP true kY Ay (cDr PP 108 Ek)
noncomputable def zA:aK:=⟨108,aS yV,[.t 6]⟩
theorem Dx:yV=some zA:=by kernel_rfl
def yA (a:D) (b:D) (c:D) (d:Heap) (K:HK):Prop :=
 ab PP (.box (.c a)) d fun a d=>ab PP (.box (.c b)) d fun b d=>ab PP (.box (.c c)) d fun c d=>∃(e:HJ),( ∀(a:Nat->D) (b:Heap),e [] b->K (.bool false) b)/\xF c 0 d fun d f=>xL d 1 false f fun d f=>vbin .lss d zI fun d=>vguard d false (fun a=>xF c 0 f fun b c=>a b c) f fun f g=>vguard d false (fun a=>xL f 1 false g fun b c=>a b c) g fun f g=>vguard d false (fun a=>xF b 0 g fun b c=>a b c) g fun b g=>vguard d false (fun a=>xL b 1 false g fun b c=>a b c) g fun b g=>vguard d false (fun b=>xF a 0 g fun a c=>b a c) g fun g h=>vguard d false (fun a=>xL g 1 false h fun b c=>a b c) h fun g h=>vguard d false (fun a=>vbin .mul b g fun b=>a b h) h fun b g=>vguard d false (fun a=>vbin .geq f b fun b=>a b g) g fun b f=>ab PP (.pick (.c d) (.c (.bool true)) (.c b)) f fun b d=>vguard b false (fun a=>xF c 3 d fun b c=>a b c) d fun d f=>vguard b false (fun a=>xL d 1 false f fun b c=>a b c) f fun d f=>vguard b false (fun a=>vbin .lss d zI fun b=>a b f) f fun d f=>ab PP (.pick (.c b) (.c (.bool true)) (.c d)) f fun b d=>vcond b (aH [] []/\e [] d) (xF c 2 d fun b d=>xL b 1 false d fun b d=>vbin .lss b zI fun b=>vguard b false (fun a=>xF c 2 d fun b c=>a b c) d fun d f=>vguard b false (fun a=>xL d 1 false f fun b c=>a b c) f fun d f=>vguard b false (fun b=>xF a 7 f fun a c=>b a c) f fun f g=>vguard b false (fun a=>xL f 1 false g fun b c=>a b c) g fun f g=>vguard b false (fun a=>bP f g fun b=>a b g) g fun f g=>vguard b false (fun a=>vbin .geq d f fun b=>a b g) g fun d f=>ab PP (.pick (.c b) (.c (.bool true)) (.c d)) f fun b d=>vcond b (aH [] []/\e [] d) (xF c 4 d fun b d=>xL b 1 false d fun b d=>bP b d fun b=>xF a 2 d fun d f=>xL d 1 false f fun d f=>vbin .neq b d fun b=>vguard b false (fun a=>xF c 6 f fun b c=>a b c) f fun d f=>vguard b false (fun a=>xL d 1 false f fun b c=>a b c) f fun d f=>vguard b false (fun a=>bP d f fun b=>a b f) f fun d f=>vguard b false (fun b=>xF a 3 f fun a c=>b a c) f fun f g=>vguard b false (fun a=>xL f 1 false g fun b c=>a b c) g fun f g=>vguard b false (fun a=>vbin .neq d f fun b=>a b g) g fun d f=>ab PP (.pick (.c b) (.c (.bool true)) (.c d)) f fun b d=>vguard b false (fun b=>xF a 5 d fun a c=>b a c) d fun d f=>vguard b false (fun a=>xL d 1 false f fun b c=>a b c) f fun d f=>vguard b false (fun a=>xF c 5 f fun b c=>a b c) f fun f g=>vguard b false (fun a=>xL f 1 false g fun b c=>a b c) g fun f g=>vguard b false (fun a=>ag PP nj [d,(.int .i64 3),f] g fun b c=>a b c) g fun d f=>vguard b false (fun a=>vun .not d fun b=>a b f) f fun d f=>ab PP (.pick (.c b) (.c (.bool true)) (.c d)) f fun b d=>vcond b (aH [] []/\e [] d) (xF c 1 d fun b d=>xL b 1 false d fun b d=>vbin .eql b (.int .i64 1) fun b=>vcond b (K (.bool true) d) (xF c 1 d fun b d=>xL b 1 false d fun b d=>vbin .eql b (.int .i64 2) fun b=>vcond b (xF a 7 d fun a b=>xL a 1 false b fun a b=>xF c 2 b fun b c=>xL b 1 false c fun b c=>xI a b 14 c fun a b=>xF a 1 b fun a b=>xF a 0 b fun a b=>xL a 1 false b fun a b=>vbin .eql a (.int .i64 3) fun c=>vguard c false (fun c=>c a b) b fun a b=>vguard c false (fun c=>vbin .eql a (.int .i64 4) fun a=>c a b) b fun a b=>ab PP (.pick (.c c) (.c (.bool true)) (.c a)) b fun a b=>K a b) (xF c 1 d fun a b=>xL a 1 false b fun a b=>vbin .eql a (.int .i64 3) fun a=>vcond a (xF c 4 b fun a b=>xL a 1 false b fun a b=>xF c 6 b fun b d=>xL b 1 false d fun b d=>ab PP (.bldS true 1 2 .nil [(0,(.c a)),(1,(.c b))]) d fun a b=>xF c 5 b fun b d=>xL b 1 false d fun b d=>ab PP (.app (.c a) (.c b) 1 24 .nil) d fun a b=>ag PP bW [a] b fun a b=>xF c 2 b fun b c=>xL b 1 false c fun b c=>vbin .eql b zI fun b=>vguard b true (fun b=>b a c) c fun a c=>vguard b true (fun a=>a (.fn fT [] []) c) c fun c d=>vguard b true (fun b=>ag PP bI [a,c] d fun a c=>b a c) d fun a c=>vguard b true (fun b=>vun .not a fun a=>b a c) c fun a c=>ab PP (.pick (.c b) (.c a) (.c (.bool false))) c fun a b=>K a b) (aH [] []/\e [] b))))))
theorem Dd (a0:D) (a1:D) (a2:D) (h0:Heap) (K:HK):yA a0 a1 a2 h0 K=eN zA K [a0,a1,a2] h0:=by kernel_rfl
def Aj:TL
 | _=>none
def D6:TT
 | _=>none
noncomputable abbrev yE:=cFn PP true gO Aj (cDr PP 18 D6)
noncomputable def zh:aK:=⟨18,aS yE,[.cell 2 7 true]⟩
theorem Di:yE=some zh:=by kernel_rfl
def yg (a:D) (b:Heap) (K:HK):Prop :=
 ab PP (.box (.c a)) b fun a b=>ab PP (.alloc (.agg [zI,zI,zI,zI,.nil,.nil,.nil])) b fun b c=>ab PP (.bldS true 1 0 zJ []) c fun c d=>xF a 4 d fun d e=>xL d 1 false e fun d e=>ab PP (.app (.c c) (.c d) 1 4 zJ) e fun c d=>xF a 4 d fun d e=>xS d c 1 e fun c d=>xF a 5 d fun c d=>xL c 1 false d fun c d=>ag PP fJ [c] d fun c d=>xF a 5 d fun d e=>xS d c 1 e fun c d=>ab PP (.bldS true 1 0 zJ []) d fun c d=>xF a 6 d fun d e=>xL d 1 false e fun d e=>ab PP (.app (.c c) (.c d) 1 4 zJ) e fun c d=>xF a 6 d fun d e=>xS d c 1 e fun c d=>xL a 7 true d fun a c=>xS b a 7 c fun a c=>xL b 7 true c fun a b=>K a c
theorem CZ (a0:D) (h0:Heap) (K:HK):yg a0 h0 K=eN zh K [a0] h0:=by kernel_rfl
def Ap:TL
 | 1000007=>some ([],[3])|3=>some ([0],[3,4])|_=>none
def Eb:TT
 | _=>none
noncomputable abbrev yM:=cFn PP false fJ Ap (cDr PP 22 Eb)
noncomputable def zo:aK:=⟨22,aS yM,[.t 2]⟩
theorem Dn:yM=some zo:=by kernel_rfl
def pR (a:D) (b:Heap) (c:D) (d:HJ):Prop :=
 ∃(e:Nat->HJ) (f:Nat),e f [a,zI] b/\∀(a:Nat) (b:Nat->D) (f:Heap),e a [b 3,b 4] f->bP c f fun g=>vbin .lss (b 4) g fun g=>vcond g (ab PP (.bldS false 1 0 zJ []) f fun d f=>xI c (b 4) 1 f fun f g=>xL f 1 false g fun f g=>ab PP (.app (.c d) (.c f) 1 4 zJ) g fun d f=>ab PP (.bldS false 1 1 .nil [(0,(.c d))]) f fun d f=>ab PP (.app (.c (b 3)) (.c d) 1 24 .nil) f fun d f=>vbin .add (b 4) (.int .i64 1) fun b=>aH [c] [c]/\∃c,c<a/\e c [d,b] f) (aH [] []/\d [(b 3)] f)
def yn (a:D) (b:Heap) (K:HK):Prop :=
 ab PP (.bldS false 1 0 .nil []) b fun b c=>∃(d:HJ),( ∀(a:Nat->D) (b:Heap),d [a 3] b->K (a 3) b)/\pR b c a d
theorem C4 (a0:D) (h0:Heap) (K:HK):yn a0 h0 K=eN zo K [a0] h0:=by kernel_rfl
def An:TL
 | 1000009=>some ([],[])|4=>some ([0,1],[5])|_=>none
def D9:TT
 | 6=>some ([0,0,3,7,0,0,48,112,255,511],[],[])|_=>none
noncomputable abbrev yJ:=cFn PP true dp An (cDr PP 27 D9)
noncomputable def zk:aK:=⟨27,aS yJ,[.t 4]⟩
theorem qg:yJ=some zk:=by kernel_rfl
def ko (a:Heap) (b:D) (c:D) (d:HJ) (K:HK):Prop :=
 ∃(e:Nat->HJ) (f:Nat),e f [zI] a/\∀(a:Nat) (f:Nat->D) (g:Heap),e a [f 5] g->bP b g fun h=>vbin .lss (f 5) h fun h=>vcond h (yI b (f 5) 1 g fun d=>yL d 1 false g fun d=>yI c (f 5) 1 g fun h=>yL h 1 false g fun h=>aq PP (.call eJ [(.c d),(.c h)]) g fun d=>vun .not d fun d=>vcond d (K (.bool false) g) (vbin .add (f 5) (.int .i64 1) fun d=>aH [b,c] [b,c]/\∃b,b<a/\e b [d] g)) (aH [] []/\d [] g)
def pH (a:D) (b:D) (c:Heap) (K:HK):Prop :=
 bP a c fun d=>bP b c fun e=>vbin .neq d e fun d=>vcond d (K (.bool false) c) ( ∃(d:HJ),( ∀(a:Nat->D) (b:Heap),d [] b->K (.bool true) b)/\ko c a b d K)
theorem pQ (a0:D) (a1:D) (h0:Heap) (K:HK):pH a0 a1 h0 K=eN zk K [a0,a1] h0:=by kernel_rfl
def tL:TL
 | 1000007=>some ([],[])|2=>some ([0,1,2],[7])|_=>none
def w8:TT
 | _=>none
noncomputable abbrev p6:=cFn PP true jZ tL (cDr PP 38 w8)
noncomputable def qh:aK:=⟨38,aS p6,[.t 6]⟩
theorem wM:p6=some qh:=by kernel_rfl
def lU (a:Heap) (b:D) (c:D) (d:D) (e:HJ) (K:HK):Prop :=
 ∃(f:Nat->HJ) (g:Nat),f g [zI] a/\∀(a:Nat) (g:Nat->D) (h:Heap),f a [g 7] h->bP b h fun i=>vbin .lss (g 7) i fun i=>vcond i (xI b (g 7) 9 h fun e h=>xF e 0 h fun e h=>xL e 1 false h fun e h=>vbin .neq e (.int .i64 4) fun e=>vguard e true (fun a=>a b h) h fun h i=>vguard e true (fun a=>a (g 7) i) i fun i j=>vguard e true (fun a=>xI h i 9 j fun b c=>a b c) j fun h i=>vguard e true (fun a=>xF h 6 i fun b c=>a b c) i fun h i=>vguard e true (fun a=>xL h 1 false i fun b c=>a b c) i fun h i=>vguard e true (fun a=>a c i) i fun i j=>vguard e true (fun a=>vbin .eql h i fun b=>a b j) j fun h i=>ab PP (.pick (.c e) (.c h) (.c (.bool false))) i fun e h=>vguard e true (fun a=>a b h) h fun h i=>vguard e true (fun a=>a (g 7) i) i fun i j=>vguard e true (fun a=>xI h i 9 j fun b c=>a b c) j fun h i=>vguard e true (fun a=>xF h 7 i fun b c=>a b c) i fun h i=>vguard e true (fun a=>xL h 1 false i fun b c=>a b c) i fun h i=>vguard e true (fun a=>a d i) i fun i j=>vguard e true (fun a=>vbin .eql h i fun b=>a b j) j fun h i=>ab PP (.pick (.c e) (.c h) (.c (.bool false))) i fun e h=>vcond e (K (.bool true) h) (vbin .add (g 7) (.int .i64 1) fun e=>aH [b,c,d] [b,c,d]/\∃b,b<a/\f b [e] h)) (aH [] []/\e [] h)
def pT (a:D) (b:D) (c:D) (d:Heap) (K:HK):Prop :=
 ∃(e:HJ),( ∀(a:Nat->D) (b:Heap),e [] b->K (.bool false) b)/\lU d a b c e K
theorem wD (a0:D) (a1:D) (a2:D) (h0:Heap) (K:HK):pT a0 a1 a2 h0 K=eN qh K [a0,a1,a2] h0:=by kernel_rfl
def oZ:TL
 | 1000009=>some ([],[])|4=>some ([0,1],[5])|_=>none
def qS:TT
 | 6=>some ([0,0,3,7,0,0,48,112,255],[],[])|_=>none
noncomputable abbrev lV:=cFn PP true dU oZ (cDr PP 26 qS)
noncomputable def l7:aK:=⟨26,aS lV,[.t 4]⟩
theorem qH:lV=some l7:=by kernel_rfl
def jk (a:Heap) (b:D) (c:D) (d:HJ) (K:HK):Prop :=
 ∃(e:Nat->HJ) (f:Nat),e f [zI] a/\∀(a:Nat) (f:Nat->D) (g:Heap),e a [f 5] g->bP b g fun h=>vbin .lss (f 5) h fun h=>vcond h (yI b (f 5) 9 g fun d=>yL d 9 true g fun d=>yI c (f 5) 9 g fun h=>yL h 9 true g fun h=>aq PP (.eqv true true [.i,.i,.i,.i,.i,.i,.i,.i,.i] (.c d) (.c h)) g fun d=>vcond d (K (.bool false) g) (vbin .add (f 5) (.int .i64 1) fun d=>aH [b,c] [b,c]/\∃b,b<a/\e b [d] g)) (aH [] []/\d [] g)
def lQ (a:D) (b:D) (c:Heap) (K:HK):Prop :=
 bP a c fun d=>bP b c fun e=>vbin .neq d e fun d=>vcond d (K (.bool false) c) ( ∃(d:HJ),( ∀(a:Nat->D) (b:Heap),d [] b->K (.bool true) b)/\jk c a b d K)
theorem qD (a0:D) (a1:D) (h0:Heap) (K:HK):lQ a0 a1 h0 K=eN l7 K [a0,a1] h0:=by kernel_rfl
def tN:TL
 | _=>none
def w9:TT
 | _=>none
noncomputable abbrev p8:=cFn PP true iq tN (cDr PP 18 w9)
noncomputable def qi:aK:=⟨18,aS p8,[.cell 2 8 true]⟩
theorem wN:p8=some qi:=by kernel_rfl
def pU (a:D) (b:Heap) (K:HK):Prop :=
 ab PP (.alloc (.agg [zI,zI,zI,zI,zI,.nil,.nil,.nil])) b fun b c=>ag PP mo [zI] c fun c d=>ab PP (.bld [zI,zI,zI,zI,zI,zJ,zI,zI,zJ,zI,zI,zJ,zI,zI,zJ] [(0,1,(.c (.int .i64 5))),(1,1,(.c (.int .i64 1))),(3,3,(.c c))]) d fun c d=>ag PP mo [zI] d fun d e=>ag PP mq [(.int .i32 7)] e fun e f=>ab PP (.bld [zI,zI,zI,zI,zI,zJ,zI,zI,zJ,zI,zI,zJ,zI,zI,zJ] [(0,1,(.c (.int .i64 8))),(6,3,(.c d)),(9,3,(.c e))]) f fun d e=>ab PP (.bldS true 15 2 (.agg [zI,zI,zI,zI,zI,zJ,zI,zI,zJ,zI,zI,zJ,zI,zI,zJ]) [(0,(.c c)),(1,(.c d))]) e fun c d=>ab PP (.bld [(.str ⟨#[]⟩),zI,zI,zI] [(0,1,(.c (.str ⟨#[97]⟩))),(1,1,(.c (.int .i64 1))),(2,1,(.c (.int .i64 1))),(3,1,(.c a))]) d fun a d=>ab PP (.bldS true 4 1 (.agg [(.str ⟨#[]⟩),zI,zI,zI]) [(0,(.c a))]) d fun a d=>ab PP (.bld [zI,zI,zI,zI,zJ,zI,zI,zJ,zI,zI,zJ,zI,zI] [(0,1,(.c (.int .i64 5)))]) d fun d e=>ab PP (.bld [.nil,zI,zI,zI,zI,zJ,zI,zI,zJ,zI,zI,zJ,zI,zI] [(0,1,(.c c)),(1,13,(.c d))]) e fun c d=>ab PP (.bldS true 14 1 (.agg [.nil,zI,zI,zI,zI,zJ,zI,zI,zJ,zI,zI,zJ,zI,zI]) [(0,(.c c))]) d fun c d=>ab PP (.bld [zI,zI,zI,zI,zI,.nil,.nil,.nil] [(0,1,(.c (.int .i64 4))),(1,1,(.c (.int .i64 1))),(2,1,(.c (.int .i64 1))),(5,1,(.c a)),(7,1,(.c c))]) d fun a c=>xS b a 8 c fun a c=>xL b 8 true c fun a b=>K a c
theorem wE (a0:D) (h0:Heap) (K:HK):pU a0 h0 K=eN qi K [a0] h0:=by kernel_rfl
def Ak:TL
 | 1000008=>some ([2,3],[])|4=>some ([2,3],[4])|1000019=>some ([2,3],[])|8=>some ([2,3],[5])|1000010=>some ([2,3,5],[])|1000015=>some ([2,3,5],[])|1000024=>some ([2,3],[])|_=>none
def D7:TT
 | 2=>some ([0,0,0,4,12,30,62,12,254,511,1023,2047],[3,11],[999999])|4=>some ([0,1,3,7,15,31,63,127,7,263,775,1799,3847,7943,16383,32767,65535],[],[])|17=>some ([0,1,3,7,15,0,0,64,192,448,0,1216,0,7360,0,31936,0,65536,196608,524224,1048575,2097151,4194303],[7,11,13,15,22],[999999])|23=>some ([0,1,3,7,15,0,32,96,224,480,992,2016,0,8191,16383,32767],[15],[])|_=>none
noncomputable abbrev yG:=cFn PP true oQ Ak (cDr PP 153 D7)
noncomputable def zi:aK:=⟨153,aS yG,[.cell 2 8 true]⟩
theorem Dj:yG=some zi:=by kernel_rfl
def kn (a:D) (b:Heap) (c:D) (d:D) (e:HJ):Prop :=
 ∃(f:Nat->HJ) (g:Nat),f g [a] b/\∀(a:Nat) (b:Nat->D) (g:Heap),f a [b 5] g->vbin .gtr (b 5) zI fun h=>vcond h ( ∃(e:HJ),( ∀(g:Nat->D) (h:Heap),e [] h->vbin .sub (b 5) (.int .i64 1) fun b=>aH [c,d] [c,d]/\∃c,c<a/\f c [b] h)/\ag PP an [d] g fun a f=>vbin .rem a (.int .i64 3) fun a=>ag PP eH [d,a] f fun a f=>∃(a:HJ),( ∀(f:Nat->D) (g:Heap),a [] g->xF d 0 g fun a f=>xF a 2 f fun a f=>xF a 7 f fun a f=>xL a 1 false f fun a f=>bP a f fun a=>vbin .sub a (.int .i64 1) fun a=>xF d 0 f fun f g=>xF f 2 g fun f g=>xF f 7 g fun f g=>xL f 1 false g fun f g=>vbin .add a (.int .i64 1) fun h=>ab PP (.bld [zI,zI] [(0,1,(.c h)),(1,1,(.c zI))]) g fun g h=>ab PP (.bld [zI,zI,zI,zI,zJ,zI,zI,zJ,zI,zI,zJ,zI,zI] [(0,1,(.c (.int .i64 3))),(11,2,(.c g))]) h fun g h=>xI f a 14 h fun f h=>xF f 1 h fun f h=>xS f g 13 h fun f g=>ag PP an [d] g fun f g=>vbin .rem f (.int .i64 3) fun f=>vbin .eql f zI fun f=>vcond f (yF d 0 g fun f=>yF f 2 g fun h=>yF h 7 g fun i=>yL i 1 false g fun j=>vbin .add a (.int .i64 1) fun k=>aq PP (.bld [zI,zI] [(0,1,(.c k)),(1,1,(.c zI))]) g fun k=>ag PP an [d] g fun g l=>((yF d 0 l fun a=>aH [a] [f])/\(yF f 2 l fun a=>aH [a] [h])/\(yF h 7 l fun a=>aH [a] [i])/\(yL i 1 false l fun a=>aH [a] [j])/\True)/\vbin .rem g (.int .i64 6) fun g=>vbin .add (.int .i64 1) g fun g=>ag PP aZ [d] l fun l m=>((yF d 0 m fun a=>aH [a] [f])/\(yF f 2 m fun a=>aH [a] [h])/\(yF h 7 m fun a=>aH [a] [i])/\(yL i 1 false m fun a=>aH [a] [j])/\True)/\ag PP aY [d] m fun m n=>((yF d 0 n fun a=>aH [a] [f])/\(yF f 2 n fun a=>aH [a] [h])/\(yF h 7 n fun a=>aH [a] [i])/\(yL i 1 false n fun a=>aH [a] [j])/\True)/\ag PP aY [d] n fun n o=>((yF d 0 o fun a=>aH [a] [f])/\(yF f 2 o fun a=>aH [a] [h])/\(yF h 7 o fun a=>aH [a] [i])/\(yL i 1 false o fun a=>aH [a] [j])/\True)/\aq PP (.bld [zI,zI,zI,zI,zJ,zI,zI,zJ,zI,zI,zJ,zI,zI] [(0,1,(.c (.int .i64 4))),(1,1,(.c g)),(2,3,(.c l)),(5,3,(.c m)),(8,3,(.c n)),(11,2,(.c k))]) o fun f=>yI j a 14 o fun a=>yF a 1 o fun a=>xS a f 13 o fun a f=>aH [c,d,(b 5)] [c,d,(b 5)]/\e [] f) (aH [c,d,(b 5)] [c,d,(b 5)]/\e [] g))/\ag PP an [d] f fun e f=>vbin .rem e (.int .i64 3) fun e=>vbin .eql e zI fun e=>vcond e (ag PP dV [d] f fun e f=>ag PP bk [d] f fun e f=>aH [c,d,(b 5)] [c,d,(b 5)]/\a [] f) (aH [c,d,(b 5)] [c,d,(b 5)]/\a [] f)) (aH [c,d] [c,d]/\e [] g)
def km (a:D) (b:Heap) (c:D) (d:D) (e:HJ):Prop :=
 ∃(f:Nat->HJ) (g:Nat),f g [a] b/\∀(a:Nat) (b:Nat->D) (g:Heap),f a [b 4] g->vbin .gtr (b 4) zI fun h=>ak h true (fun a=>a c) fun i=>ak h true (fun a=>yF i 0 g fun b=>a b) fun i=>ak h true (fun a=>yF i 2 g fun b=>a b) fun i=>ak h true (fun a=>yF i 0 g fun b=>a b) fun i=>ak h true (fun a=>yL i 1 false g fun b=>a b) fun i=>ak h true (fun a=>a c) fun j=>ak h true (fun a=>yF j 0 g fun b=>a b) fun j=>ak h true (fun a=>yF j 2 g fun b=>a b) fun j=>ak h true (fun a=>yF j 1 g fun b=>a b) fun j=>ak h true (fun a=>yL j 1 false g fun b=>a b) fun j=>ak h true (fun a=>vbin .mul (.int .i64 2) j fun b=>a b) fun j=>ak h true (fun a=>vbin .rem i j fun b=>a b) fun i=>ak h true (fun a=>vbin .eql i zI fun b=>a b) fun i=>aq PP (.pick (.c h) (.c i) (.c (.bool false))) g fun h=>vcond h (xF c 0 g fun e g=>xF e 2 g fun e g=>xF e 1 g fun e g=>xL e 1 false g fun e g=>vbin .mul (.int .i64 2) e fun e=>xF c 0 g fun g h=>xF g 2 h fun g h=>xF g 1 h fun g h=>xS g e 1 h fun e g=>vbin .sub (b 4) (.int .i64 1) fun b=>aH [d,c] [d,c]/\∃c,c<a/\f c [b] g) (aH [d,c] [d,c]/\e [] g)
def yh (a:D) (b:Heap) (K:HK):Prop :=
 ab PP (.box (.c a)) b fun a b=>ab PP (.alloc (.agg [zI,zI,zI,zI,zI,.nil,.nil,.nil])) b fun b c=>xF a 0 c fun a c=>xL a 1 false c fun a c=>ab PP (.bld [.nil,zI,zI,zI,zI,zI,zI,.nil,.nil,.nil] [(0,1,(.c a))]) c fun a c=>ab PP (.box (.c a)) c fun a c=>aq PP (.bldS false 1 5 zI [(0,(.c (.int .i64 4))),(1,(.c (.int .i64 1))),(2,(.c (.int .i64 2))),(3,(.c (.int .i64 8))),(4,(.c (.int .i64 6)))]) c fun d=>ag PP an [a] c fun c e=>vbin .rem c (.int .i64 5) fun c=>yI d c 1 e fun c=>yL c 1 false e fun c=>aq PP (.call lK []) e fun d=>aq PP (.bld [zI,zI,zI,zI,zI,.nil,.nil,.nil] [(0,1,(.c c)),(1,1,(.c (.int .i64 1))),(2,1,(.c (.int .i64 6))),(4,1,(.c (.int .i64 3))),(5,1,(.c d))]) e fun c=>yF a 0 e fun d=>yF d 2 e fun d=>xS d c 8 e fun c d=>∃(c:HJ),( ∀(d:Nat->D) (e:Heap),c [] e->∃(c:HJ),( ∀(d:Nat->D) (e:Heap),c [] e->ag PP an [a] e fun c d=>vbin .rem c (.int .i64 3) fun c=>ag PP eH [a,c] d fun c d=>∃(c:HJ),( ∀(d:Nat->D) (e:Heap),c [] e->yF a 0 e fun c=>yF c 2 e fun c=>yF c 7 e fun c=>yL c 1 false e fun c=>yF a 0 e fun d=>yF d 2 e fun d=>yF d 7 e fun d=>yL d 1 false e fun d=>bP d e fun d=>vbin .sub d (.int .i64 1) fun d=>aq PP (.bld [zI,zI,zI,zI,zJ,zI,zI,zJ,zI,zI,zJ,zI,zI] [(0,1,(.c (.int .i64 5)))]) e fun f=>yI c d 14 e fun c=>yF c 1 e fun c=>xS c f 13 e fun c d=>xF a 0 d fun a c=>xF a 2 c fun a c=>xL a 8 true c fun a c=>xS b a 8 c fun a c=>xL b 8 true c fun a b=>K a c)/\ag PP an [a] d fun d e=>vbin .rem d (.int .i64 3) fun d=>vbin .eql d zI fun d=>vcond d (ag PP dV [a] e fun d e=>ag PP bk [a] e fun d e=>ag PP ct [a] e fun d e=>aH [b,a] [b,a]/\c [] e) (aH [b,a] [b,a]/\c [] e))/\ag PP an [a] e fun d e=>vbin .rem d (.int .i64 3) fun d=>kn d e b a c)/\ag PP an [a] d fun d e=>vbin .rem d (.int .i64 3) fun d=>km d e a b c
theorem C0 (a0:D) (h0:Heap) (K:HK):yh a0 h0 K=eN zi K [a0] h0:=by kernel_rfl
def we:TL
 | 1000009=>some ([1,2,3],[])|3=>some ([1,2,3],[4])|_=>none
def zR:TT
 | _=>none
noncomputable abbrev sL:=cFn PP true lH we (cDr PP 32 zR)
noncomputable def sZ:aK:=⟨32,aS sL,[.cell 2 8 true]⟩
theorem zg:sL=some sZ:=by kernel_rfl
def mF (a:Heap) (b:D) (c:D) (d:D) (e:HJ):Prop :=
 ∃(f:Nat->HJ) (g:Nat),f g [zI] a/\∀(a:Nat) (g:Nat->D) (h:Heap),f a [g 4] h->bP b h fun i=>vbin .lss (g 4) i fun i=>vcond i (xI b (g 4) 4 h fun e h=>xL e 4 true h fun e h=>ab PP (.alloc (.agg [(.str ⟨#[]⟩),zI,zI,zI])) h fun h i=>xS h e 4 i fun e i=>xF h 3 i fun e i=>xL e 1 false i fun e i=>vbin .quo e (.int .i64 2) fun e=>ab PP (.mx (.c e) (.c (.int .i64 1))) i fun e i=>xF h 3 i fun i j=>xS i e 1 j fun e i=>xL h 4 true i fun e h=>xI b (g 4) 4 h fun h i=>xS h e 4 i fun e h=>vbin .add (g 4) (.int .i64 1) fun e=>aH [c,d,b] [c,d,b]/\∃b,b<a/\f b [e] h) (aH [c,d,b] [c,d,b]/\e [] h)
def sq (a:D) (b:Heap) (K:HK):Prop :=
 ab PP (.box (.c a)) b fun a b=>ab PP (.alloc (.agg [zI,zI,zI,zI,zI,.nil,.nil,.nil])) b fun b c=>ab PP (.bldS true 4 0 (.agg [(.str ⟨#[]⟩),zI,zI,zI]) []) c fun c d=>xF a 5 d fun d e=>xL d 1 false e fun d e=>ab PP (.app (.c c) (.c d) 4 40 (.agg [(.str ⟨#[]⟩),zI,zI,zI])) e fun c d=>∃(e:HJ),( ∀(d:Nat->D) (f:Heap),e [] f->xF a 5 f fun d e=>xS d c 1 e fun c d=>xL a 8 true d fun a c=>xS b a 8 c fun a c=>xL b 8 true c fun a b=>K a c)/\mF d c a b e
theorem yf (a0:D) (h0:Heap) (K:HK):sq a0 h0 K=eN sZ K [a0] h0:=by kernel_rfl
def wh:TL
 | 1000005=>some ([2,3,4,5],[])|1000009=>some ([4,5],[])|5=>some ([2,3,4,5],[6])|_=>none
def zT:TT
 | 3=>some ([0,1,0,4,12,31,63,127,255],[8],[])|7=>some ([0,1,0,4,0,28,60,124,252,511,1023,2047],[9,11],[])|_=>none
noncomputable abbrev sN:=cFn PP true lJ wh (cDr PP 42 zT)
noncomputable def tf:aK:=⟨42,aS sN,[.cell 4 2 true]⟩
theorem zm:sN=some tf:=by kernel_rfl
def mK (a:Heap) (b:D) (c:D) (d:D) (e:D) (f:HJ):Prop :=
 ∃(g:Nat->HJ) (h:Nat),g h [zI] a/\∀(a:Nat) (h:Nat->D) (i:Heap),g a [h 6] i->xF b 4 i fun i j=>xL i 1 false j fun i j=>vbin .lss (h 6) i fun i=>vcond i (yF c 1 j fun f=>yL f 1 false j fun f=>vbin .rem (h 6) (.int .i64 8) fun i=>yF d 1 j fun k=>aq PP (.iadda (.c k) (.c i) 8 1) j fun i=>yL i 1 false j fun i=>aq PP (.conv .i32 (.c i)) j fun i=>aq PP (.bldS false 1 1 zJ [(0,(.c i))]) j fun i=>yF c 1 j fun k=>ab PP (.app (.c f) (.c i) 1 4 zJ) j fun f i=>xS k f 1 i fun f i=>vbin .add (h 6) (.int .i64 1) fun f=>aH [b,d,e,c] [b,d,e,c]/\∃b,b<a/\g b [f] i) (aH [e,c] [e,c]/\f [] j)
def sy (a:D) (b:D) (c:Heap) (K:HK):Prop :=
 ab PP (.box (.c a)) c fun a c=>ab PP (.box (.c b)) c fun b c=>ab PP (.alloc (.agg [zI,.nil])) c fun c d=>xF b 0 d fun d e=>xL d 1 false e fun d e=>vbin .rem d (.int .u8 3) fun d=>ab PP (.conv .i64 (.c d)) e fun d e=>vbin .add (.int .i64 1) d fun d=>ab PP (.bld [zI,.nil] [(0,1,(.c d))]) e fun d e=>ab PP (.alloc (.agg [zI,.nil])) e fun e f=>xS e d 2 f fun d f=>∃(d:HJ),( ∀(f:Nat->D) (g:Heap),d [] g->∃(d:HJ),( ∀(a:Nat->D) (b:Heap),d [] b->xL e 2 true b fun a b=>xS c a 2 b fun a b=>xL c 2 true b fun a c=>K a b)/\mK g a e b c d)/\xF a 0 f fun f g=>xL f 1 false g fun f g=>vbin .gtr f zI fun f=>vcond f (yF e 0 g fun f=>yL f 1 false g fun f=>yF a 0 g fun h=>yL h 1 false g fun h=>vbin .quo (.int .i64 4096) h fun h=>aq PP (.mn (.c f) (.c h)) g fun f=>aq PP (.mx (.c f) (.c (.int .i64 1))) g fun f=>yF e 0 g fun h=>xS h f 1 g fun f g=>aH [a,b,c,e] [a,b,c,e]/\d [] g) (aH [a,b,c,e] [a,b,c,e]/\d [] g)
theorem yk (a0:D) (a1:D) (h0:Heap) (K:HK):sy a0 a1 h0 K=eN tf K [a0,a1] h0:=by kernel_rfl
end Go.Am
namespace Go.Am
open Go Go.Proofs
def xx:TL
 | 1000012=>some ([10,11],[])|3=>some ([3,5,6,10,11],[12])|1000005=>some ([3,5,6,10,11,12],[])|_=>none
def Cs:TT
 | 1=>some ([0,0,0,7,15,0,0,64,207,511,0,2047],[3,8,10,11],[999998,2])|_=>none
noncomputable abbrev uQ:=cFn PP true m9 xx (cDr PP 66 Cs)
noncomputable def vn:aK:=⟨66,aS uQ,[.cell 10 11 true]⟩
theorem A8:uQ=some vn:=by kernel_rfl
def nQ (a:Heap) (b:D) (c:D) (d:D) (e:D) (f:D) (g:HJ) (K:HK):Prop :=
 ∃(h:Nat->HJ) (i:Nat),h i [zI] a/\∀(a:Nat) (i:Nat->D) (j:Heap),h a [i 12] j->vbin .lss (i 12) b fun k=>vguard k true (fun a=>xF c 0 j fun b c=>a b c) j fun j l=>vguard k true (fun a=>xF j 1 l fun b c=>a b c) l fun j l=>vguard k true (fun a=>xL j 1 false l fun b c=>a b c) l fun j l=>vguard k true (fun a=>vbin .neq j (.int .i64 3) fun b=>a b l) l fun j l=>ab PP (.pick (.c k) (.c j) (.c (.bool false))) l fun j k=>vcond j ( ∃(g:HJ),( ∀(j:Nat->D) (k:Heap),g [] k->vbin .add (i 12) (.int .i64 1) fun g=>aH [b,d,e,f,c] [b,d,e,f,c]/\∃b,b<a/\h b [g] k)/\xF c 0 k fun a h=>xF a 1 h fun a h=>xL a 1 false h fun a h=>vbin .eql a (.int .i64 2) fun a=>vcond a (xL d 8 true h fun a h=>xF c 0 h fun h j=>xL h 7 true j fun h j=>vbin .rem (i 12) (.int .i64 3) fun k=>ab PP (.conv .i32 (.c k)) j fun j k=>ag PP lG [a,h,j] k fun a h=>ab PP (.fld (.c a) 0 7 true) h fun a h=>xF c 0 h fun h j=>xS h a 7 j fun a h=>aH [b,d,e,f,c,(i 12)] [b,d,e,f,c,(i 12)]/\g [] h) (xL d 8 true h fun a h=>xL e 2 true h fun h j=>xF c 0 j fun j k=>xL j 7 true k fun j k=>xF c 7 k fun k l=>xL k 1 false l fun k l=>xF c 8 l fun l m=>xL l 1 false m fun l m=>ab PP (.bld [.nil,.nil] [(0,1,(.c k)),(1,1,(.c l))]) m fun k l=>ag PP lF [a,h,j,k,(i 12)] l fun a h=>ab PP (.alloc (.agg [zI,zI,zI,zI,.nil,.nil,.nil,.nil,.nil,.nil,zI])) h fun h j=>xS h a 11 j fun a j=>xF h 10 j fun a j=>xL a 1 false j fun a j=>vbin .neq a zI fun a=>vcond a (xL c 11 true j fun a b=>xS f a 11 b fun a b=>xL f 11 true b fun a c=>K a b) (xL h 11 true j fun a h=>xS c a 11 h fun a h=>aH [b,d,e,f,c,(i 12)] [b,d,e,f,c,(i 12)]/\g [] h))) (aH [f,c] [f,c]/\g [] k)
def uA (a:D) (b:D) (c:D) (d:D) (e:D) (f:Heap) (K:HK):Prop :=
 ab PP (.box (.c a)) f fun a f=>ab PP (.box (.c b)) f fun b f=>ab PP (.alloc (.agg [zI,zI,zI,zI,.nil,.nil,.nil,.nil,.nil,.nil,zI])) f fun f g=>yL a 8 true g fun h=>yL b 2 true g fun i=>yF a 5 g fun j=>yL j 1 false g fun k=>ag PP jY [h,i,c] g fun c g=>((yF a 5 g fun a=>aH [a] [j])/\(yL j 1 false g fun a=>aH [a] [k])/\True)/\aq PP (.fld (.c c) 0 7 true) g fun c=>ag PP fI [k,(.int .i64 2)] g fun g l=>aq PP (.bld [zI,zI,zI,zI,.nil,.nil,.nil,.nil,.nil,.nil,zI] [(0,7,(.c c)),(7,1,(.c e)),(8,1,(.c g))]) l fun c=>ab PP (.alloc (.agg [zI,zI,zI,zI,.nil,.nil,.nil,.nil,.nil,.nil,zI])) l fun e g=>((yL a 8 true g fun a=>aH [a] [h])/\(yL b 2 true g fun a=>aH [a] [i])/\(yF a 5 g fun a=>aH [a] [j])/\(yL j 1 false g fun a=>aH [a] [k])/\True)/\xS e c 11 g fun c g=>∃(c:HJ),( ∀(a:Nat->D) (b:Heap),c [] b->xF e 9 b fun a b=>ab PP (.st (.c a) (.c .nil) 1) b fun a b=>xL e 11 true b fun a b=>xS f a 11 b fun a b=>xL f 11 true b fun a c=>K a b)/\nQ g d e a b f c K
theorem AO (a0:D) (a1:D) (a2:D) (a3:D) (a4:D) (h0:Heap) (K:HK):uA a0 a1 a2 a3 a4 h0 K=eN vn K [a0,a1,a2,a3,a4] h0:=by kernel_rfl
def wg:TL
 | 1000010=>some ([5],[])|3=>some ([3,5],[6])|1000005=>some ([3,5,6],[])|6=>some ([3,5,6],[7])|_=>none
def zS:TT
 | 8=>some ([0,0,3,7,0,0,0,96,224,0,992,2016,4064,0,0,24576,57344,122880,262112,524287,1048575],[20],[])|_=>none
noncomputable abbrev sM:=cFn PP true lI wg (cDr PP 47 zS)
noncomputable def td:aK:=⟨47,aS sM,[.t 4]⟩
theorem zl:sM=some td:=by kernel_rfl
def mJ (a:Heap) (b:D) (c:Nat->D) (d:D) (e:HJ):Prop :=
 ∃(f:Nat->HJ) (g:Nat),f g [zI] a/\∀(a:Nat) (g:Nat->D) (h:Heap),f a [g 7] h->xI b (c 6) 1 h fun h i=>xL h 1 false i fun h i=>bP h i fun h=>vbin .lss (g 7) h fun h=>vcond h (yI b (c 6) 1 i fun e=>yL e 1 false i fun e=>vbin .add (c 6) (g 7) fun h=>vbin .rem h (.int .i64 4) fun h=>yF d 9 i fun j=>aq PP (.iadda (.c j) (.c h) 4 1) i fun h=>yL h 1 false i fun h=>aq PP (.conv .i32 (.c h)) i fun h=>vbin .mul (g 7) (c 6) fun j=>vbin .rem j (.int .i64 5) fun j=>aq PP (.conv .i32 (.c j)) i fun j=>vbin .add h j fun h=>yI e (g 7) 1 i fun e=>xS e h 1 i fun e h=>vbin .add (g 7) (.int .i64 1) fun e=>aH [d,b,(c 6)] [d,b,(c 6)]/\∃b,b<a/\f b [e] h) (aH [d,b,(c 6)] [d,b,(c 6)]/\e [] i)
def mI (a:Heap) (b:D) (c:D) (d:HJ):Prop :=
 ∃(e:Nat->HJ) (f:Nat),e f [zI] a/\∀(a:Nat) (f:Nat->D) (g:Heap),e a [f 6] g->bP b g fun h=>vbin .lss (f 6) h fun h=>vcond h ( ∃(d:HJ),( ∀(g:Nat->D) (h:Heap),d [] h->vbin .add (f 6) (.int .i64 1) fun d=>aH [c,b] [c,b]/\∃b,b<a/\e b [d] h)/\mJ g b f c d) (aH [b] [b]/\d [] g)
def sw (a:D) (b:D) (c:Heap) (K:HK):Prop :=
 ab PP (.box (.c a)) c fun a c=>ab PP (.box (.c b)) c fun b c=>xF a 5 c fun a c=>xL a 1 false c fun a c=>ag PP fI [a,(.int .i64 1)] c fun a c=>∃(d:HJ),( ∀(b:Nat->D) (c:Heap),d [] c->K a c)/\mI c a b d
theorem yj (a0:D) (a1:D) (h0:Heap) (K:HK):sw a0 a1 h0 K=eN td K [a0,a1] h0:=by kernel_rfl
def CS:TL
 | 1000012=>some ([12,13,14,15,16,17],[])|7=>some ([5,8,12,13,14,15,16,17,64,65],[66])|8000009=>some ([1],[])|_=>none
def FT:TT
 | 2=>some ([0,0,0,1,11,31,63,127],[3,4,5,6,7],[1,2])|4=>some ([0,0,0,0,8,0,56,0,255,511,1023],[4,6,7,9],[999998,2])|5=>some ([0,0,0,0,8,24,0,64,248,0,512,2040,4089,8185,16377,32761,65531,131067,262139,524283,1048575,2097151,4194303,8388607],[5,8,11,15,19,23],[999999])|11=>some ([0,1,0,4,12,28,0,64,192,448,0,1024,3072,7168,3,16447,50175,131071,262143],[1,14,15,16,17,18],[999999])|_=>none
def Cn:GG:=⟨96,
 [(.pN [⟨(some 6),.box (.t 0),none⟩,
  ⟨(some 7),.box (.t 1),none⟩,
  ⟨(some 8),.box (.t 2),none⟩,
  ⟨(some 9),.box (.t 3),none⟩,
  ⟨(some 10),.box (.t 4),none⟩,
  ⟨(some 12),.alloc (.agg [(.int .i64 0),(.int .i64 0),(.int .i64 0),(.int .i64 0),.nil,.nil,.nil]),none⟩,
  ⟨(some 13),.alloc .nil,none⟩,
  ⟨(some 14),.alloc .nil,none⟩,
  ⟨(some 15),.alloc .nil,none⟩,
  ⟨(some 16),.alloc (.int .i64 0),none⟩]),(.seq (.pN [⟨(some 20),.fadd (.t 8) 1,none⟩,
  ⟨(some 21),.ld (.t 20) 1 false,none⟩,
  ⟨(some 22),.bin .neq (.t 21) (.c (.int .i64 1)),none⟩]) <|
 .cond (.t 22) (.seq (.dreg [⟨(some 23),.ld (.t 8) 7 true,none⟩,
  ⟨(some 24),.ld (.t 9) 1 false,none⟩,
  ⟨(some 25),.ld (.t 10) 1 false,none⟩] [⟨none,.st (.t 12) (.t 23) 7,none⟩,
  ⟨none,.st (.t 13) (.t 24) 1,none⟩,
  ⟨none,.st (.t 14) (.t 25) 1,none⟩,
  ⟨none,.st (.t 15) (.c .nil) 1,none⟩,
  ⟨none,.st (.t 16) (.c (.int .i64 1)) 1,none⟩] [⟨(some 24),.ld (.t 9) 1 false,none⟩,
  ⟨(some 25),.ld (.t 10) 1 false,none⟩]) <|
 .ret) (.skip))],gB,[],[(.t 8),(.t 9),(.t 10),(.t 12),(.t 13),(.t 14),(.t 15),(.t 16)],26,
 .seq (.seq (.dreg [⟨(some 34),.mov (.c .undef),none⟩] [] []) <|
 .seq (.dreg [⟨(some 27),.ld (.t 6) 8 true,none⟩,
  ⟨(some 28),.ld (.t 7) 2 true,none⟩,
  ⟨(some 29),.ld (.t 8) 7 true,none⟩,
  ⟨(some 30),.ld (.t 9) 1 false,none⟩,
  ⟨(some 32),.ld (.t 10) 1 false,none⟩] [⟨(some 31),.call eL [(.t 30)],none⟩] [⟨(some 27),.ld (.t 6) 8 true,none⟩,
  ⟨(some 28),.ld (.t 7) 2 true,none⟩,
  ⟨(some 29),.ld (.t 8) 7 true,none⟩,
  ⟨(some 32),.ld (.t 10) 1 false,none⟩]) <|
 .seq (.dreg [] [⟨(some 33),.call eL [(.t 32)],none⟩] [⟨(some 27),.ld (.t 6) 8 true,none⟩,
  ⟨(some 28),.ld (.t 7) 2 true,none⟩,
  ⟨(some 29),.ld (.t 8) 7 true,none⟩]) <|
 .seq (.dreg [] [⟨(some 34),.mkm (.pair .i64),none⟩] [⟨(some 27),.ld (.t 6) 8 true,none⟩,
  ⟨(some 28),.ld (.t 7) 2 true,none⟩,
  ⟨(some 29),.ld (.t 8) 7 true,none⟩,
  ⟨(some 30),.ld (.t 9) 1 false,none⟩,
  ⟨(some 32),.ld (.t 10) 1 false,none⟩]) <|
 .seq (.dreg [⟨(some 35),.bld [(.int .i64 0),(.int .i64 0),(.int .i64 0),(.int .i64 0),(.int .i64 0),.nil,.nil,.nil,(.int .i64 0),.nil,(.int .i64 0),(.int .i64 0),(.int .i64 0),(.int .i64 0),.nil,.nil,.nil,.nil,.nil,.nil,.nilmap] [(0,8,(.t 27)),(8,2,(.t 28)),(10,7,(.t 29)),(17,1,(.t 31)),(18,1,(.t 33)),(20,1,(.t 34))],none⟩] [⟨(some 36),.box (.t 35),none⟩] []) <|
 .dreg [⟨(some 17),.mov (.t 36),none⟩] [] []) <|
 .seq (.seq (.dreg [⟨(some 37),.mov (.t 17),none⟩,
  ⟨(some 38),.mov (.t 17),none⟩,
  ⟨(some 39),.mov (.t 17),none⟩,
  ⟨(some 40),.fadd (.t 8) 4,none⟩,
  ⟨(some 41),.ld (.t 40) 1 false,none⟩,
  ⟨(some 43),.fadd (.t 8) 6,none⟩,
  ⟨(some 44),.ld (.t 43) 1 false,none⟩,
  ⟨(some 46),.fadd (.t 8) 5,none⟩,
  ⟨(some 47),.ld (.t 46) 1 false,none⟩] [⟨(some 42),.call aR [(.t 41)],none⟩] [⟨(some 43),.fadd (.t 8) 6,none⟩,
  ⟨(some 44),.ld (.t 43) 1 false,none⟩,
  ⟨(some 46),.fadd (.t 8) 5,none⟩,
  ⟨(some 47),.ld (.t 46) 1 false,none⟩]) <|
 .seq (.dreg [] [⟨(some 45),.call aR [(.t 44)],none⟩] [⟨(some 46),.fadd (.t 8) 5,none⟩,
  ⟨(some 47),.ld (.t 46) 1 false,none⟩]) <|
 .seq (.dreg [] [⟨(some 48),.call eL [(.t 47)],none⟩] []) <|
 .seq (.dreg [⟨(some 49),.fadd (.t 37) 0,none⟩,
  ⟨(some 50),.fadd (.t 49) 10,none⟩,
  ⟨(some 51),.fadd (.t 50) 4,none⟩] [⟨none,.st (.t 51) (.t 42) 1,none⟩] []) <|
 .seq (.dreg [⟨(some 52),.fadd (.t 38) 0,none⟩,
  ⟨(some 53),.fadd (.t 52) 10,none⟩,
  ⟨(some 54),.fadd (.t 53) 6,none⟩] [⟨none,.st (.t 54) (.t 45) 1,none⟩] []) <|
 .seq (.dreg [⟨(some 55),.fadd (.t 39) 0,none⟩,
  ⟨(some 56),.fadd (.t 55) 10,none⟩,
  ⟨(some 57),.fadd (.t 56) 5,none⟩] [⟨none,.st (.t 57) (.t 48) 1,none⟩] []) <|
 .dreg [] [] []) <|
 .seqj [12,13,14,15,16,17] [] (.seq (.pN [⟨(some 58),.fadd (.t 6) 7,none⟩,
  ⟨(some 59),.ld (.t 58) 1 false,none⟩,
  ⟨(some 60),.fadd (.t 8) 2,none⟩,
  ⟨(some 61),.ld (.t 60) 1 false,none⟩,
  ⟨(some 62),.iadd (.t 59) (.t 61) 14,none⟩,
  ⟨(some 63),.fadd (.t 62) 0,none⟩,
  ⟨(some 64),.ld (.t 63) 1 false,none⟩,
  ⟨(some 65),.len (.t 64),none⟩,
  ⟨(some 66),.mov (.c (.int .i64 0)),none⟩]) <|
 .block 0 (.loop [5,8,12,13,14,15,16,17,64,65] [66] (.seq (.pN [⟨(some 67),.bin .lss (.t 66) (.t 65),none⟩]) <|
 .seq (.cond (.t 67) (.skip) (.exit 0)) <|
 .seq (.block 1 (.seq (.pN [⟨(some 68),.mov (.t 66),none⟩,
  ⟨(some 69),.iadd (.t 64) (.t 66) 15,none⟩,
  ⟨(some 70),.ld (.t 69) 15 true,none⟩,
  ⟨(some 19),.alloc (.agg [(.int .i64 0),(.int .i64 0),(.int .i64 0),(.int .i64 0),(.int .i64 0),(.int .i32 0),(.int .i64 0),(.int .i64 0),(.int .i32 0),(.int .i64 0),(.int .i64 0),(.int .i32 0),(.int .i64 0),(.int .i64 0),(.int .i32 0)]),none⟩,
  ⟨(some 18),.mov (.t 68),none⟩,
  ⟨none,.st (.t 19) (.t 70) 15,none⟩]) <|
 .regx [⟨(some 71),.mov (.t 17),none⟩,
  ⟨(some 72),.ld (.t 19) 15 true,none⟩,
  ⟨(some 73),.fadd (.t 8) 0,none⟩,
  ⟨(some 74),.ld (.t 73) 1 false,none⟩,
  ⟨(some 75),.mov (.t 5),none⟩,
  ⟨(some 76),.fadd (.t 8) 2,none⟩,
  ⟨(some 77),.ld (.t 76) 1 false,none⟩,
  ⟨(some 78),.mov (.t 18),none⟩,
  ⟨(some 79),.bld [(.int .i64 0),(.int .i64 0),(.int .i64 0),(.int .i64 0),(.int .i64 0),(.int .i64 0),(.int .i64 0),(.int .i64 0),(.int .i32 0)] [(2,1,(.t 74)),(3,1,(.t 75)),(4,1,(.t 77)),(5,1,(.t 78))],none⟩,
  ⟨(some 80),.call jz [(.t 71),(.t 72),(.t 79)],none⟩])) <|
 .pN [⟨(some 81),.bin .add (.t 66) (.c (.int .i64 1)),none⟩,
  ⟨(some 66),.mov (.t 81),none⟩]))) <|
 .seq (.seq (.dreg [⟨(some 82),.mov (.t 17),none⟩,
  ⟨(some 84),.mov (.t 17),none⟩,
  ⟨(some 85),.fadd (.t 84) 0,none⟩,
  ⟨(some 86),.fadd (.t 85) 17,none⟩,
  ⟨(some 87),.ld (.t 86) 1 false,none⟩,
  ⟨(some 88),.mov (.t 17),none⟩,
  ⟨(some 89),.fadd (.t 88) 0,none⟩,
  ⟨(some 90),.fadd (.t 89) 18,none⟩,
  ⟨(some 91),.ld (.t 90) 1 false,none⟩,
  ⟨(some 92),.mov (.t 17),none⟩,
  ⟨(some 93),.fadd (.t 92) 0,none⟩,
  ⟨(some 94),.fadd (.t 93) 19,none⟩,
  ⟨(some 95),.ld (.t 94) 1 false,none⟩] [⟨(some 83),.call gR [(.t 82)],none⟩] [⟨(some 85),.fadd (.t 84) 0,none⟩,
  ⟨(some 86),.fadd (.t 85) 17,none⟩,
  ⟨(some 87),.ld (.t 86) 1 false,none⟩,
  ⟨(some 89),.fadd (.t 88) 0,none⟩,
  ⟨(some 90),.fadd (.t 89) 18,none⟩,
  ⟨(some 91),.ld (.t 90) 1 false,none⟩,
  ⟨(some 93),.fadd (.t 92) 0,none⟩,
  ⟨(some 94),.fadd (.t 93) 19,none⟩,
  ⟨(some 95),.ld (.t 94) 1 false,none⟩]) <|
 .seq (.dreg [] [⟨none,.st (.t 12) (.t 83) 7,none⟩] [⟨(some 85),.fadd (.t 84) 0,none⟩,
  ⟨(some 86),.fadd (.t 85) 17,none⟩,
  ⟨(some 87),.ld (.t 86) 1 false,none⟩,
  ⟨(some 89),.fadd (.t 88) 0,none⟩,
  ⟨(some 90),.fadd (.t 89) 18,none⟩,
  ⟨(some 91),.ld (.t 90) 1 false,none⟩,
  ⟨(some 93),.fadd (.t 92) 0,none⟩,
  ⟨(some 94),.fadd (.t 93) 19,none⟩,
  ⟨(some 95),.ld (.t 94) 1 false,none⟩]) <|
 .seq (.dreg [] [⟨none,.st (.t 13) (.t 87) 1,none⟩] [⟨(some 89),.fadd (.t 88) 0,none⟩,
  ⟨(some 90),.fadd (.t 89) 18,none⟩,
  ⟨(some 91),.ld (.t 90) 1 false,none⟩,
  ⟨(some 93),.fadd (.t 92) 0,none⟩,
  ⟨(some 94),.fadd (.t 93) 19,none⟩,
  ⟨(some 95),.ld (.t 94) 1 false,none⟩]) <|
 .seq (.dreg [] [⟨none,.st (.t 14) (.t 91) 1,none⟩] [⟨(some 93),.fadd (.t 92) 0,none⟩,
  ⟨(some 94),.fadd (.t 93) 19,none⟩,
  ⟨(some 95),.ld (.t 94) 1 false,none⟩]) <|
 .seq (.dreg [] [⟨none,.st (.t 15) (.t 95) 1,none⟩] []) <|
 .seq (.dreg [] [⟨none,.st (.t 16) (.c (.int .i64 0)) 1,none⟩] []) <|
 .dreg [] [] []) <|
 .ret,
 [.cell 12 7 true,.cell 13 1 false,.cell 14 1 false,.cell 15 1 false,.cell 16 1 false]⟩
theorem FF:cFnD PP true rC CS (cDr PP 96 FT)=some Cn:=by kernel_rfl
def sE (a:Heap) (b:D) (c:D) (d:D) (e:D) (f:D) (g:D) (h:D) (i:D) (j:D) (k:D) (l:D) (m:D) (n:HJ) (K:HK):Prop :=
 ∃(o:Nat->HJ) (p:Nat),o p [zI] a/\∀(a:Nat) (p:Nat->D) (q:Heap),o a [p 66] q->vbin .lss (p 66) b fun r=>vcond r (xI c (p 66) 15 q fun n q=>xL n 15 true q fun n q=>ab PP (.alloc (.agg [zI,zI,zI,zI,zI,zJ,zI,zI,zJ,zI,zI,zJ,zI,zI,zJ])) q fun q r=>xS q n 15 r fun n r=>xL q 15 true r fun n q=>xF d 0 q fun q r=>xL q 1 false r fun q r=>xF d 2 r fun r s=>xL r 1 false s fun r s=>ab PP (.bld [zI,zI,zI,zI,zI,zI,zI,zI,zJ] [(2,1,(.c q)),(3,1,(.c e)),(4,1,(.c r)),(5,1,(.c (p 66)))]) s fun q r=>IX PP jz [f,n,q] r (fun a=>OW PP gB [d,g,h,i,j,k,l,m] a fun a=>xL i 7 true a fun b c=>xL j 1 false a fun c d=>xL k 1 false a fun d e=>xL l 1 false a fun e f=>xL m 1 false a fun f g=>K (.tup [b,c,d,e,f]) a) fun g h=>vbin .add (p 66) (.int .i64 1) fun g=>aH [e,d,i,j,k,l,m,f,c,b] [e,d,i,j,k,l,m,f,c,b]/\∃b,b<a/\o b [g] h) (aH [i,j,k,l,m,f] [i,j,k,l,m,f]/\n [] q)
def BR (a:D) (b:D) (c:D) (d:D) (e:D) (f:D) (g:Heap) (K:HK):Prop :=
 ab PP (.box (.c a)) g fun a g=>ab PP (.box (.c b)) g fun b g=>ab PP (.box (.c c)) g fun c g=>ab PP (.box (.c d)) g fun d g=>ab PP (.box (.c e)) g fun e g=>ab PP (.alloc (.agg [zI,zI,zI,zI,.nil,.nil,.nil])) g fun g h=>ab PP (.alloc .nil) h fun h i=>ab PP (.alloc .nil) i fun i j=>ab PP (.alloc .nil) j fun j k=>ab PP (.alloc zI) k fun k l=>xF c 1 l fun l m=>xL l 1 false m fun l m=>vbin .neq l (.int .i64 1) fun l=>vcond l (yL c 7 true m fun a=>yL d 1 false m fun b=>yL e 1 false m fun c=>xS g a 7 m fun a f=>((yL d 1 false f fun a=>aH [a] [b])/\(yL e 1 false f fun a=>aH [a] [c])/\True)/\xS h b 1 f fun a f=>((yL d 1 false f fun a=>aH [a] [b])/\(yL e 1 false f fun a=>aH [a] [c])/\True)/\xS i c 1 f fun a f=>((yL d 1 false f fun a=>aH [a] [b])/\(yL e 1 false f fun a=>aH [a] [c])/\True)/\ab PP (.st (.c j) (.c .nil) 1) f fun a f=>((yL d 1 false f fun a=>aH [a] [b])/\(yL e 1 false f fun a=>aH [a] [c])/\True)/\xS k (.int .i64 1) 1 f fun a f=>((yL d 1 false f fun a=>aH [a] [b])/\(yL e 1 false f fun a=>aH [a] [c])/\True)/\xL g 7 true f fun a b=>xL h 1 false f fun b c=>xL i 1 false f fun c d=>xL j 1 false f fun d e=>xL k 1 false f fun e g=>K (.tup [a,b,c,d,e]) f) (yL a 8 true m fun l=>yL b 2 true m fun n=>yL c 7 true m fun o=>yL d 1 false m fun p=>yL e 1 false m fun q=>ag PP eL [p] m fun m r=>((yL a 8 true r fun a=>aH [a] [l])/\(yL b 2 true r fun a=>aH [a] [n])/\(yL c 7 true r fun a=>aH [a] [o])/\(yL e 1 false r fun a=>aH [a] [q])/\True)/\ag PP eL [q] r fun r s=>((yL a 8 true s fun a=>aH [a] [l])/\(yL b 2 true s fun a=>aH [a] [n])/\(yL c 7 true s fun a=>aH [a] [o])/\True)/\ab PP (.mkm (.pair .i64)) s fun s t=>((yL a 8 true t fun a=>aH [a] [l])/\(yL b 2 true t fun a=>aH [a] [n])/\(yL c 7 true t fun a=>aH [a] [o])/\(yL d 1 false t fun a=>aH [a] [p])/\(yL e 1 false t fun a=>aH [a] [q])/\True)/\aq PP (.bld [zI,zI,zI,zI,zI,.nil,.nil,.nil,zI,.nil,zI,zI,zI,zI,.nil,.nil,.nil,.nil,.nil,.nil,.nilmap] [(0,8,(.c l)),(8,2,(.c n)),(10,7,(.c o)),(17,1,(.c m)),(18,1,(.c r)),(20,1,(.c s))]) t fun b=>ab PP (.box (.c b)) t fun b l=>yF c 4 l fun m=>yL m 1 false l fun m=>yF c 6 l fun n=>yL n 1 false l fun o=>yF c 5 l fun p=>yL p 1 false l fun q=>ag PP aR [m] l fun l m=>((yF c 6 m fun a=>aH [a] [n])/\(yL n 1 false m fun a=>aH [a] [o])/\(yF c 5 m fun a=>aH [a] [p])/\(yL p 1 false m fun a=>aH [a] [q])/\True)/\ag PP aR [o] m fun m n=>((yF c 5 n fun a=>aH [a] [p])/\(yL p 1 false n fun a=>aH [a] [q])/\True)/\ag PP eL [q] n fun n o=>yF b 0 o fun p=>yF p 10 o fun p=>yF p 4 o fun p=>xS p l 1 o fun l o=>yF b 0 o fun l=>yF l 10 o fun l=>yF l 6 o fun l=>xS l m 1 o fun l m=>yF b 0 m fun l=>yF l 10 m fun l=>yF l 5 m fun l=>xS l n 1 m fun l m=>∃(l:HJ),( ∀(a:Nat->D) (c:Heap),l [] c->yF b 0 c fun a=>yF a 17 c fun d=>yL d 1 false c fun e=>yF b 0 c fun f=>yF f 18 c fun l=>yL l 1 false c fun m=>yF b 0 c fun n=>yF n 19 c fun o=>yL o 1 false c fun p=>ag PP gR [b] c fun c q=>((yF b 0 q fun b=>aH [b] [a])/\(yF a 17 q fun a=>aH [a] [d])/\(yL d 1 false q fun a=>aH [a] [e])/\(yF b 0 q fun a=>aH [a] [f])/\(yF f 18 q fun a=>aH [a] [l])/\(yL l 1 false q fun a=>aH [a] [m])/\(yF b 0 q fun a=>aH [a] [n])/\(yF n 19 q fun a=>aH [a] [o])/\(yL o 1 false q fun a=>aH [a] [p])/\True)/\xS g c 7 q fun c q=>((yF b 0 q fun b=>aH [b] [a])/\(yF a 17 q fun a=>aH [a] [d])/\(yL d 1 false q fun a=>aH [a] [e])/\(yF b 0 q fun a=>aH [a] [f])/\(yF f 18 q fun a=>aH [a] [l])/\(yL l 1 false q fun a=>aH [a] [m])/\(yF b 0 q fun a=>aH [a] [n])/\(yF n 19 q fun a=>aH [a] [o])/\(yL o 1 false q fun a=>aH [a] [p])/\True)/\xS h e 1 q fun a c=>((yF b 0 c fun a=>aH [a] [f])/\(yF f 18 c fun a=>aH [a] [l])/\(yL l 1 false c fun a=>aH [a] [m])/\(yF b 0 c fun a=>aH [a] [n])/\(yF n 19 c fun a=>aH [a] [o])/\(yL o 1 false c fun a=>aH [a] [p])/\True)/\xS i m 1 c fun a c=>((yF b 0 c fun a=>aH [a] [n])/\(yF n 19 c fun a=>aH [a] [o])/\(yL o 1 false c fun a=>aH [a] [p])/\True)/\xS j p 1 c fun a b=>xS k zI 1 b fun a b=>xL g 7 true b fun a c=>xL h 1 false b fun c d=>xL i 1 false b fun d e=>xL j 1 false b fun e f=>xL k 1 false b fun f g=>K (.tup [a,c,d,e,f]) b)/\xF a 7 m fun a m=>xL a 1 false m fun a m=>xF c 2 m fun m n=>xL m 1 false n fun m n=>xI a m 14 n fun a m=>xF a 0 m fun a m=>xL a 1 false m fun a m=>bP a m fun n=>sE m n a c f b d e g h i j k l K)
theorem Fl (a0:D) (a1:D) (a2:D) (a3:D) (a4:D) (a5:D) (h0:Heap) (K:HK):BR a0 a1 a2 a3 a4 a5 h0 K=IY PP Cn K (params [a0,a1,a2,a3,a4,a5] 0) h0:=by kernel_rfl
def nH:TL
 | 1000006=>some ([5,6,7,8,9,10,12],[13])|_=>none
def qo:TT
 | 12=>some ([0,1,3,0,8,0,32,0,128,480,1023,2047],[9,11],[999999])|14=>some ([0,1,3,0,8,24,0,0,0,256,0,1984,4095,8191],[11,13],[999999])|_=>none
noncomputable abbrev kH:=cFn PP true hY nH (cDr PP 63 qo)
noncomputable def kM:aK:=⟨63,aS kH,[.cell 10 11 true]⟩
theorem pI:kH=some kM:=by kernel_rfl
def kD (a:D) (b:D) (c:D) (d:D) (e:D) (f:Heap) (K:HK):Prop :=
 ab PP (.box (.c a)) f fun a f=>ab PP (.box (.c b)) f fun b f=>ab PP (.box (.c c)) f fun c f=>ab PP (.box (.c d)) f fun d f=>ab PP (.box (.c e)) f fun e f=>ab PP (.alloc (.agg [zI,zI,zI,zI,.nil,.nil,.nil,.nil,.nil,.nil,zI])) f fun f g=>xF d 0 g fun g h=>xL g 1 false h fun g h=>∃(i:HJ),( ∀(h:Nat->D) (j:Heap),i [h 13] j->vcond (h 13) (xL a 8 true j fun a b=>xL c 11 true b fun b c=>xL d 15 true c fun c d=>xL e 9 true d fun d e=>ag PP lE [a,b,c,d] e fun a b=>xS f a 11 b fun a b=>xL f 11 true b fun a c=>K a b) (vbin .eql g (.int .i64 10) fun h=>vcond h (xF e 0 j fun a b=>xS a (.int .i64 4) 1 b fun a b=>xF d 1 b fun a b=>xL a 1 false b fun a b=>xF e 1 b fun b d=>xS b a 1 d fun a b=>xF c 9 b fun a b=>xL a 1 false b fun a b=>xL e 9 true b fun b d=>ab PP (.bldS true 9 1 (.agg [zI,zI,zI,zI,zI,zI,zI,zI,zJ]) [(0,(.c b))]) d fun b d=>ab PP (.app (.c a) (.c b) 9 72 (.agg [zI,zI,zI,zI,zI,zI,zI,zI,zJ])) d fun a b=>xF c 9 b fun b d=>xS b a 1 d fun a b=>xL c 11 true b fun a b=>xS f a 11 b fun a b=>xL f 11 true b fun a c=>K a b) (vbin .eql g (.int .i64 12) fun e=>vcond e (yF c 0 j fun a=>yF a 6 j fun b=>yL b 1 false j fun e=>yF d 2 j fun g=>yL g 1 false j fun h=>yF c 0 j fun i=>yL i 7 true j fun i=>yF d 6 j fun k=>yL k 3 true j fun k=>ag PP cj [i,k] j fun i j=>((yF c 0 j fun b=>aH [b] [a])/\(yF a 6 j fun a=>aH [a] [b])/\(yL b 1 false j fun a=>aH [a] [e])/\(yF d 2 j fun a=>aH [a] [g])/\(yL g 1 false j fun a=>aH [a] [h])/\True)/\yI e h 1 j fun a=>xS a i 1 j fun a b=>xL c 11 true b fun a b=>xS f a 11 b fun a b=>xL f 11 true b fun a c=>K a b) (yF c 0 j fun e=>yF e 4 j fun g=>yL g 1 false j fun h=>yF d 3 j fun i=>yF i 1 j fun k=>yL k 1 false j fun l=>yL a 8 true j fun a=>yL b 2 true j fun b=>yF c 0 j fun m=>yL m 7 true j fun m=>yL d 15 true j fun n=>ag PP lD [a,b,m,n] j fun a b=>((yF c 0 b fun a=>aH [a] [e])/\(yF e 4 b fun a=>aH [a] [g])/\(yL g 1 false b fun a=>aH [a] [h])/\(yF d 3 b fun a=>aH [a] [i])/\(yF i 1 b fun a=>aH [a] [k])/\(yL k 1 false b fun a=>aH [a] [l])/\True)/\yI h l 1 b fun d=>xS d a 1 b fun a b=>xL c 11 true b fun a b=>xS f a 11 b fun a b=>xL f 11 true b fun a c=>K a b))))/\vbin .eql g (.int .i64 7) fun j=>vcond j (aH [a,b,c,d,e,f,g] [a,b,c,d,e,f,g]/\i [j] h) (vbin .eql g (.int .i64 8) fun j=>vcond j (aH [a,b,c,d,e,f,g] [a,b,c,d,e,f,g]/\i [j] h) (vbin .eql g (.int .i64 9) fun j=>aH [a,b,c,d,e,f,g] [a,b,c,d,e,f,g]/\i [j] h))
theorem pD (a0:D) (a1:D) (a2:D) (a3:D) (a4:D) (h0:Heap) (K:HK):kD a0 a1 a2 a3 a4 h0 K=eN kM K [a0,a1,a2,a3,a4] h0:=by kernel_rfl
def xv:TL
 | 1000013=>some ([3,4],[])|_=>none
def Cq:TT
 | 11=>some ([0,1,0,4,0,16,48,0,128,384,0,1024,3072,8191,16383],[14],[])|_=>none
noncomputable abbrev uO:=cFn PP true m8 xv (cDr PP 54 Cq)
noncomputable def vj:aK:=⟨54,aS uO,[.cell 4 7 true]⟩
theorem A6:uO=some vj:=by kernel_rfl
def uy (a:D) (b:D) (c:Heap) (K:HK):Prop :=
 ab PP (.box (.c a)) c fun a c=>ab PP (.box (.c b)) c fun b c=>ab PP (.alloc (.agg [zI,zI,zI,zI,.nil,.nil,.nil])) c fun c d=>xF a 7 d fun d e=>xL d 1 false e fun d e=>xF b 2 e fun e f=>xL e 1 false f fun e f=>xI d e 14 f fun d e=>xF d 1 e fun d e=>xL d 13 true e fun d e=>ab PP (.alloc (.agg [zI,zI,zI,zI,zJ,zI,zI,zJ,zI,zI,zJ,zI,zI])) e fun e f=>xS e d 13 f fun d f=>∃(d:HJ),( ∀(a:Nat->D) (e:Heap),d [] e->xL b 7 true e fun a b=>xS c a 7 b fun a b=>xL c 7 true b fun a c=>K a b)/\xF e 0 f fun f g=>xL f 1 false g fun f g=>vbin .eql f (.int .i64 1) fun h=>vcond h (xF e 11 g fun a e=>ab PP (.iadda (.c a) (.c zI) 2 1) e fun a e=>xL a 1 false e fun a e=>xF b 2 e fun e f=>xS e a 1 f fun a e=>aH [b,c] [b,c]/\d [] e) (vbin .eql f (.int .i64 2) fun h=>vcond h (xF e 11 g fun a f=>ab PP (.iadda (.c a) (.c (.int .i64 1)) 2 1) f fun a f=>xL a 1 false f fun a f=>xF b 2 f fun f g=>xS f a 1 g fun a f=>xL b 7 true f fun a f=>xF e 5 f fun f g=>xL f 3 true g fun f g=>ag PP cj [a,f] g fun a f=>vbin .neq a zJ fun a=>vcond a (xF e 11 f fun a e=>ab PP (.iadda (.c a) (.c zI) 2 1) e fun a e=>xL a 1 false e fun a e=>xF b 2 e fun e f=>xS e a 1 f fun a e=>aH [b,c] [b,c]/\d [] e) (aH [b,c] [b,c]/\d [] f)) (vbin .eql f (.int .i64 5) fun e=>vcond e (yF b 0 g fun d=>yL d 1 false g fun d=>yF b 3 g fun b=>yL b 1 false g fun b=>yF a 2 g fun e=>yL e 1 false g fun e=>aq PP (.mk 1 4 zJ (.c e) (.c e)) g fun e=>yF a 5 g fun f=>yL f 1 false g fun f=>aq PP (.call fI [(.c f),(.c (.int .i64 3))]) g fun f=>yF a 3 g fun a=>yL a 1 false g fun a=>aq PP (.mk 1 4 zJ (.c a) (.c a)) g fun a=>aq PP (.bld [zI,zI,zI,zI,.nil,.nil,.nil] [(0,1,(.c d)),(1,1,(.c (.int .i64 3))),(3,1,(.c b)),(4,1,(.c e)),(5,1,(.c f)),(6,1,(.c a))]) g fun a=>xS c a 7 g fun a b=>xL c 7 true b fun a c=>K a b) (xF b 1 g fun a e=>xS a (.int .i64 2) 1 e fun a e=>aH [b,c] [b,c]/\d [] e)))
theorem AM (a0:D) (a1:D) (h0:Heap) (K:HK):uy a0 a1 h0 K=eN vj K [a0,a1] h0:=by kernel_rfl
def CT:TL
 | 1000009=>some ([4,6],[])|_=>none
def FU:TT
 | 4=>some ([0,1,3,0,8,31,63],[4,6],[1,2])|_=>none
noncomputable abbrev Cd:=cFn PP true rD CT (cDr PP 40 FU)
noncomputable def Co:aK:=⟨40,aS Cd,[.cell 6 7 true,.t 7]⟩
theorem FG:Cd=some Co:=by kernel_rfl
def BS (a:D) (b:D) (c:D) (d:Heap) (K:HK):Prop :=
 ab PP (.box (.c a)) d fun a d=>ab PP (.box (.c b)) d fun b d=>ab PP (.alloc (.agg [zI,zI,zI,zI,.nil,.nil,.nil])) d fun d e=>xF b 1 e fun e f=>xL e 1 false f fun e f=>vbin .neq e (.int .i64 2) fun e=>vcond e (xL b 7 true f fun a b=>xS d a 7 b fun a b=>xL d 7 true b fun a c=>K (.tup [a,(.int .i64 1)]) b) (xF a 7 f fun a e=>xL a 1 false e fun a e=>xF b 2 e fun e f=>xL e 1 false f fun e f=>xI a e 14 f fun a e=>xF a 1 e fun a e=>xL a 13 true e fun a e=>ab PP (.alloc (.agg [zI,zI,zI,zI,zJ,zI,zI,zJ,zI,zI,zJ,zI,zI])) e fun e f=>xS e a 13 f fun a f=>yF e 11 f fun a=>aq PP (.iadda (.c a) (.c zI) 2 1) f fun g=>yL g 1 false f fun h=>yF b 1 f fun i=>yF b 2 f fun j=>xS i (.int .i64 1) 1 f fun f i=>((aq PP (.iadda (.c a) (.c zI) 2 1) i fun a=>aH [a] [g])/\(yL g 1 false i fun a=>aH [a] [h])/\True)/\xS j h 1 i fun f i=>((aq PP (.iadda (.c a) (.c zI) 2 1) i fun a=>aH [a] [g])/\(yL g 1 false i fun a=>aH [a] [h])/\True)/\∃(a:HJ),( ∀(c:Nat->D) (e:Heap),a [] e->xL b 7 true e fun a b=>xS d a 7 b fun a b=>xL d 7 true b fun a c=>K (.tup [a,zI]) b)/\xF e 0 i fun f g=>xL f 1 false g fun f g=>vbin .eql f (.int .i64 4) fun f=>vcond f (xF b 4 g fun f g=>xL f 1 false g fun f g=>ag PP aR [f] g fun f g=>xF b 4 g fun g h=>xS g f 1 h fun f g=>xF b 4 g fun f g=>xL f 1 false g fun f g=>xF e 2 g fun e g=>xF e 1 g fun e g=>xL e 1 false g fun e g=>xI f e 1 g fun e f=>xS e c 1 f fun c e=>aH [b,d] [b,d]/\a [] e) (aH [b,d] [b,d]/\a [] g))
theorem Fm (a0:D) (a1:D) (a2:D) (h0:Heap) (K:HK):BS a0 a1 a2 h0 K=eN Co K [a0,a1,a2] h0:=by kernel_rfl
def Az:TL
 | _=>none
def El:TT
 | _=>none
noncomputable abbrev yW:=cFn PP true oW Az (cDr PP 23 El)
noncomputable def zB:aK:=⟨23,aS yW,[.cell 6 7 true,.t 7]⟩
theorem Dy:yW=some zB:=by kernel_rfl
def yB (a:D) (b:D) (c:D) (d:Heap) (K:HK):Prop :=
 ab PP (.box (.c a)) d fun a d=>ab PP (.box (.c b)) d fun b d=>ab PP (.alloc (.agg [zI,zI,zI,zI,.nil,.nil,.nil])) d fun d e=>vbin .lss c zI fun f=>vguard f false (fun a=>a c e) e fun e g=>vguard f false (fun a=>xF b 0 g fun b c=>a b c) g fun b g=>vguard f false (fun a=>xL b 1 false g fun b c=>a b c) g fun b g=>vguard f false (fun b=>xF a 0 g fun a c=>b a c) g fun g h=>vguard f false (fun a=>xL g 1 false h fun b c=>a b c) h fun g h=>vguard f false (fun a=>vbin .mul b g fun b=>a b h) h fun b g=>vguard f false (fun a=>vbin .geq e b fun b=>a b g) g fun b e=>ab PP (.pick (.c f) (.c (.bool true)) (.c b)) e fun b e=>vcond b (ab PP (.bld [zI,zI,zI,zI,.nil,.nil,.nil] []) e fun a b=>xS d a 7 b fun a b=>xL d 7 true b fun a c=>K (.tup [a,(.int .i64 1)]) b) (xL a 8 true e fun a b=>ag PP kX [a,c,zI,(.int .i64 1)] b fun a b=>xS d a 7 b fun a b=>xL d 7 true b fun a c=>K (.tup [a,zI]) b)
theorem De (a0:D) (a1:D) (a2:D) (h0:Heap) (K:HK):yB a0 a1 a2 h0 K=eN zB K [a0,a1,a2] h0:=by kernel_rfl
def Al:TL
 | 1000007=>some ([],[5])|3=>some ([0,1],[5,6])|_=>none
def D8:TT
 | _=>none
noncomputable abbrev yH:=cFn PP false fI Al (cDr PP 25 D8)
noncomputable def zj:aK:=⟨25,aS yH,[.t 4]⟩
theorem Dl:yH=some zj:=by kernel_rfl
def pP (a:D) (b:Heap) (c:D) (d:D) (e:HJ):Prop :=
 ∃(f:Nat->HJ) (g:Nat),f g [a,zI] b/\∀(a:Nat) (b:Nat->D) (g:Heap),f a [b 5,b 6] g->bP c g fun h=>vbin .lss (b 6) h fun h=>vcond h (xI c (b 6) 4 g fun e g=>xL e 4 true g fun e g=>ag PP na [e,d] g fun e g=>ab PP (.mk 1 4 zJ (.c e) (.c e)) g fun e g=>ab PP (.bldS false 1 1 .nil [(0,(.c e))]) g fun e g=>ab PP (.app (.c (b 5)) (.c e) 1 24 .nil) g fun e g=>vbin .add (b 6) (.int .i64 1) fun b=>aH [c,d] [c,d]/\∃c,c<a/\f c [e,b] g) (aH [] []/\e [(b 5)] g)
def yi (a:D) (b:D) (c:Heap) (K:HK):Prop :=
 ab PP (.bldS false 1 0 .nil []) c fun c d=>∃(e:HJ),( ∀(a:Nat->D) (b:Heap),e [a 5] b->K (a 5) b)/\pP c d a b e
theorem C2 (a0:D) (a1:D) (h0:Heap) (K:HK):yi a0 a1 h0 K=eN zj K [a0,a1] h0:=by kernel_rfl
def qA:TL
 | 1000009=>some ([],[])|4=>some ([0,1],[5])|_=>none
def tG:TT
 | 6=>some ([0,0,3,7,0,0,48,112,255],[],[])|_=>none
noncomputable abbrev mR:=cFn PP true eJ qA (cDr PP 26 tG)
noncomputable def mY:aK:=⟨26,aS mR,[.t 4]⟩
theorem s9:mR=some mY:=by kernel_rfl
def jP (a:Heap) (b:D) (c:D) (d:HJ) (K:HK):Prop :=
 ∃(e:Nat->HJ) (f:Nat),e f [zI] a/\∀(a:Nat) (f:Nat->D) (g:Heap),e a [f 5] g->bP b g fun h=>vbin .lss (f 5) h fun h=>vcond h (yI b (f 5) 1 g fun d=>yL d 1 false g fun d=>yI c (f 5) 1 g fun h=>yL h 1 false g fun h=>vbin .neq d h fun d=>vcond d (K (.bool false) g) (vbin .add (f 5) (.int .i64 1) fun d=>aH [b,c] [b,c]/\∃b,b<a/\e b [d] g)) (aH [] []/\d [] g)
def mH (a:D) (b:D) (c:Heap) (K:HK):Prop :=
 bP a c fun d=>bP b c fun e=>vbin .neq d e fun d=>vcond d (K (.bool false) c) ( ∃(d:HJ),( ∀(a:Nat->D) (b:Heap),d [] b->K (.bool true) b)/\jP c a b d K)
theorem su (a0:D) (a1:D) (h0:Heap) (K:HK):mH a0 a1 h0 K=eN mY K [a0,a1] h0:=by kernel_rfl
def tR:TL
 | _=>none
def xd:TT
 | _=>none
noncomputable abbrev qd:=cFn PP true fT tR (cDr PP 5 xd)
noncomputable def qm:aK:=⟨5,aS qd,[.t 2]⟩
theorem wR:qd=some qm:=by kernel_rfl
def pY (a:D) (b:Heap) (K:HK):Prop :=
 vbin .neq a zJ fun a=>K a b
theorem wJ (a0:D) (h0:Heap) (K:HK):pY a0 h0 K=eN qm K [a0] h0:=by kernel_rfl
def xM:TL
 | _=>none
def CE:TT
 | _=>none
noncomputable abbrev vc:=cFn PP true nj xM (cDr PP 11 CE)
noncomputable def vE:aK:=⟨11,aS vc,[.t 6]⟩
theorem Bk:vc=some vE:=by kernel_rfl
def uM (a:D) (b:D) (c:D) (d:Heap) (K:HK):Prop :=
 ab PP (.box (.c b)) d fun b d=>ab PP (.mkf gQ [] [(.c b)]) d fun b d=>ag PP bA [a,c,b] d fun a b=>K a b
theorem A0 (a0:D) (a1:D) (a2:D) (h0:Heap) (K:HK):uM a0 a1 a2 h0 K=eN vE K [a0,a1,a2] h0:=by kernel_rfl
def iY:TL
 | 1000010=>some ([0],[3])|3=>some ([0,9,10],[3,11])|1000009=>some ([0,9,10,11],[3])|1000016=>some ([],[6])|11=>some ([25,26],[6,27])|_=>none
def jm:TT
 | _=>none
noncomputable abbrev fX:=cFn PP true bW iY (cDr PP 36 jm)
noncomputable def fY:aK:=⟨36,aS fX,[.t 2]⟩
theorem jj:fX=some fY:=by kernel_rfl
def cC (a:D) (b:Heap) (c:D) (d:D) (e:HJ):Prop :=
 ∃(f:Nat->HJ) (g:Nat),f g [a,zI] b/\∀(a:Nat) (b:Nat->D) (g:Heap),f a [b 6,b 27] g->vbin .lss (b 27) c fun h=>vcond h (xI d (b 27) 1 g fun e g=>xL e 1 false g fun e g=>ab PP (.app (.c (b 6)) (.c e) 1 4 zJ) g fun e g=>vbin .add (b 27) (.int .i64 1) fun b=>aH [d,c] [d,c]/\∃c,c<a/\f c [e,b] g) (aH [] []/\e [(b 6)] g)
def eX (a:Heap) (b:D) (c:D) (d:HJ):Prop :=
 ∃(e:Nat->HJ) (f:Nat),e f [zI,zI] a/\∀(a:Nat) (f:Nat->D) (g:Heap),e a [f 3,f 11] g->vbin .lss (f 11) b fun h=>vcond h ( ∃(d:HJ),( ∀(g:Nat->D) (h:Heap),d [g 3] h->vbin .add (f 11) (.int .i64 1) fun d=>aH [c,c,b] [c,c,b]/\∃b,b<a/\e b [(g 3),d] h)/\xI c (f 11) 1 g fun a e=>xL a 1 false e fun a e=>bP a e fun a=>vbin .add (f 3) a fun a=>vbin .lss a zI fun g=>vcond g (ab PP (.dead) e fun e g=>ab PP (.dead) g fun e g=>aH [c,c,b,(f 11)] [c,c,b,(f 11)]/\d [a] g) (aH [c,c,b,(f 11)] [c,c,b,(f 11)]/\d [a] e)) (aH [c] [c]/\d [(f 3)] g)
def fW (a:D) (b:Heap) (K:HK):Prop :=
 ∃(c:HJ),( ∀(b:Nat->D) (d:Heap),c [b 3] d->ag PP dT [.nil,(b 3)] d fun b c=>∃(d:HJ),( ∀(a:Nat->D) (b:Heap),d [a 6] b->K (a 6) b)/\bP a c fun e=>cC b c e a d)/\bP a b fun d=>eX b d a c
theorem ji (a0:D) (h0:Heap) (K:HK):fW a0 h0 K=eN fY K [a0] h0:=by kernel_rfl
def gC:TL
 | _=>none
def hU:TT
 | _=>none
noncomputable abbrev eg:=cFn PP true bI gC (cDr PP 9 hU)
noncomputable def eo:aK:=⟨9,aS eg,[.t 4]⟩
theorem gY:eg=some eo:=by kernel_rfl
def dY (a:D) (b:D) (c:Heap) (K:HK):Prop :=
 ag PP eU [a,b] c fun a b=>vbin .geq a zI fun a=>K a b
theorem gW (a0:D) (a1:D) (h0:Heap) (K:HK):dY a0 a1 h0 K=eN eo K [a0,a1] h0:=by kernel_rfl
def xG:TL
 | _=>none
def CA:TT
 | _=>none
noncomputable abbrev uY:=cFn PP true jx xG (cDr PP 47 CA)
noncomputable def vz:aK:=⟨47,aS uY,[.cell 6 2 true]⟩
theorem Bg:uY=some vz:=by kernel_rfl
def uI (a:D) (b:D) (c:D) (d:Heap) (K:HK):Prop :=
 ab PP (.alloc (.agg [zJ,zI])) d fun d e=>vbin .lss a (.int .i64 10) fun f=>vguard f false (fun b=>b a e) e fun e g=>vguard f false (fun a=>vbin .gtr e (.int .i64 29) fun b=>a b g) g fun e g=>ab PP (.pick (.c f) (.c (.bool true)) (.c e)) g fun e f=>vcond e (ab PP (.bld [zJ,zI] [(1,1,(.c (.int .i64 1)))]) f fun a b=>xS d a 2 b fun a b=>xL d 2 true b fun a c=>K a b) (vbin .geq a (.int .i64 24) fun e=>vcond e (ab PP (.conv .i64 (.c b)) f fun b e=>ab PP (.conv .i64 (.c c)) e fun c e=>ag PP jo [a,b,c] e fun a b=>ag PP ig [a] b fun a b=>ab PP (.bld [zJ,zI] [(0,1,(.c a))]) b fun a b=>xS d a 2 b fun a b=>xL d 2 true b fun a c=>K a b) (vbin .eql a (.int .i64 17) fun e=>vguard e false (fun b=>b a f) f fun f g=>vguard e false (fun a=>vbin .eql f (.int .i64 18) fun b=>a b g) g fun f g=>ab PP (.pick (.c e) (.c (.bool true)) (.c f)) g fun e f=>vguard e false (fun b=>b a f) f fun f g=>vguard e false (fun a=>vbin .eql f (.int .i64 19) fun b=>a b g) g fun f g=>ab PP (.pick (.c e) (.c (.bool true)) (.c f)) g fun e f=>vcond e (ag PP kV [a,b,c] f fun a b=>ab PP (.bld [zJ,zI] [(0,1,(.c a))]) b fun a b=>xS d a 2 b fun a b=>xL d 2 true b fun a c=>K a b) (ab PP (.conv .i64 (.c b)) f fun b e=>ab PP (.conv .i64 (.c c)) e fun c e=>ag PP ng [a,b,c] e fun a b=>ag PP cR [a] b fun a b=>ab PP (.bld [zJ,zI] [(0,1,(.c a))]) b fun a b=>xS d a 2 b fun a b=>xL d 2 true b fun a c=>K a b)))
theorem AW (a0:D) (a1:D) (a2:D) (h0:Heap) (K:HK):uI a0 a1 a2 h0 K=eN vz K [a0,a1,a2] h0:=by kernel_rfl
def pa:TL
 | _=>none
def qT:TT
 | 2=>some ([0,1,3,7,0,16,48,112,240,511],[],[])|4=>some ([0,1,3,7,0,16,48,112,240,511,1023,2047,4095],[],[])|_=>none
noncomputable abbrev lW:=cFn PP true an pa (cDr PP 32 qT)
noncomputable def l8:aK:=⟨32,aS lW,[.t 2]⟩
theorem qI:lW=some l8:=by kernel_rfl
def lR (a:D) (b:Heap) (K:HK):Prop :=
 xF a 0 b fun b c=>xF b 1 c fun b c=>xL b 1 false c fun b c=>vbin .add b (.int .i64 1) fun b=>xF a 0 c fun c d=>xF c 1 d fun c d=>xS c b 1 d fun b c=>yF a 0 c fun b=>yF b 1 c fun b=>yL b 1 false c fun b=>yF a 0 c fun d=>yF d 0 c fun d=>yL d 1 false c fun d=>bP d c fun d=>vbin .gtr b d fun b=>vcond b (K zI c) (yF a 0 c fun b=>yF b 0 c fun b=>yL b 1 false c fun b=>yF a 0 c fun a=>yF a 1 c fun a=>yL a 1 false c fun a=>vbin .sub a (.int .i64 1) fun a=>yI b a 1 c fun a=>yL a 1 false c fun a=>aq PP (.conv .i64 (.c a)) c fun a=>K a c)
theorem qE (a0:D) (h0:Heap) (K:HK):lR a0 h0 K=eN l8 K [a0] h0:=by kernel_rfl
def wi:TL
 | _=>none
def zU:TT
 | _=>none
noncomputable abbrev sO:=cFn PP true lK wi (cDr PP 7 zU)
noncomputable def tg:aK:=⟨7,aS sO,[.t 0]⟩
theorem zp:sO=some tg:=by kernel_rfl
def sA (a:Heap) (K:HK):Prop :=
 ab PP (.bld [(.str ⟨#[]⟩),zI,zI,zI] [(0,1,(.c (.str ⟨#[97]⟩))),(1,1,(.c (.int .i64 1))),(2,1,(.c (.int .i64 1))),(3,1,(.c (.int .i64 8)))]) a fun a b=>ab PP (.bld [(.str ⟨#[]⟩),zI,zI,zI] [(0,1,(.c (.str ⟨#[102]⟩))),(1,1,(.c (.int .i64 1))),(2,1,(.c (.int .i64 2))),(3,1,(.c (.int .i64 4)))]) b fun b c=>ab PP (.bld [(.str ⟨#[]⟩),zI,zI,zI] [(0,1,(.c (.str ⟨#[115]⟩))),(1,1,(.c (.int .i64 2))),(2,1,(.c (.int .i64 1))),(3,1,(.c (.int .i64 8)))]) c fun c d=>ab PP (.bld [(.str ⟨#[]⟩),zI,zI,zI] [(0,1,(.c (.str ⟨#[112]⟩))),(1,1,(.c (.int .i64 3))),(2,1,(.c (.int .i64 1))),(3,1,(.c (.int .i64 4)))]) d fun d e=>ab PP (.bld [(.str ⟨#[]⟩),zI,zI,zI] [(0,1,(.c (.str ⟨#[98]⟩))),(1,1,(.c (.int .i64 2))),(2,1,(.c (.int .i64 3))),(3,1,(.c (.int .i64 4)))]) e fun e f=>ab PP (.bldS true 4 5 (.agg [(.str ⟨#[]⟩),zI,zI,zI]) [(0,(.c a)),(1,(.c b)),(2,(.c c)),(3,(.c d)),(4,(.c e))]) f fun a b=>K a b
theorem yp (h0:Heap) (K:HK):sA h0 K=eN tg K [] h0:=by kernel_rfl
def nk:TL
 | 1000012=>some ([0],[])|4=>some ([0,5],[6])|1000011=>some ([0,5,6],[])|_=>none
def oK:TT
 | 9=>some ([0,1,3,7,15,0,0,64,0,256,0,1216,0,0,12288,31936,65472,0,131072,0,527552,0,0,6291456,16256192,33426624,67108800,134217664,268435455,536870911,1073741823],[7,11,20,30],[999999])|_=>none
noncomputable abbrev jQ:=cFn PP true eH nk (cDr PP 77 oK)
noncomputable def jT:aK:=⟨77,aS jQ,[]⟩
theorem oq:jQ=some jT:=by kernel_rfl
def iL (a:D) (b:Heap) (c:D) (d:D) (e:HJ):Prop :=
 ∃(f:Nat->HJ) (g:Nat),f g [a] b/\∀(a:Nat) (b:Nat->D) (g:Heap),f a [b 6] g->vbin .lss (b 6) c fun h=>vcond h (ag PP ct [d] g fun e g=>xF d 0 g fun e g=>xF e 2 g fun e g=>xF e 7 g fun e g=>xL e 1 false g fun e g=>vbin .add (b 6) (.int .i64 1) fun h=>ab PP (.bld [zI,zI] [(0,1,(.c h)),(1,1,(.c zI))]) g fun g h=>ab PP (.bld [zI,zI,zI,zI,zJ,zI,zI,zJ,zI,zI,zJ,zI,zI] [(0,1,(.c (.int .i64 1))),(11,2,(.c g))]) h fun g h=>xI e (b 6) 14 h fun e h=>xF e 1 h fun e h=>xS e g 13 h fun e g=>∃(e:HJ),( ∀(g:Nat->D) (h:Heap),e [] h->ag PP bk [d] h fun e g=>vbin .add (b 6) (.int .i64 1) fun b=>aH [d,c] [d,c]/\∃c,c<a/\f c [b] g)/\ag PP an [d] g fun a f=>vbin .rem a (.int .i64 2) fun a=>vbin .eql a zI fun a=>vcond a (yF d 0 f fun a=>yF a 2 f fun g=>yF g 7 f fun h=>yL h 1 false f fun i=>vbin .add (b 6) (.int .i64 1) fun j=>vbin .sub c (b 6) fun k=>vbin .add (b 6) (.int .i64 1) fun l=>vbin .sub c (b 6) fun m=>ag PP aZ [d] f fun f n=>((yF d 0 n fun b=>aH [b] [a])/\(yF a 2 n fun a=>aH [a] [g])/\(yF g 7 n fun a=>aH [a] [h])/\(yL h 1 false n fun a=>aH [a] [i])/\True)/\ag PP an [d] n fun n o=>((yF d 0 o fun b=>aH [b] [a])/\(yF a 2 o fun a=>aH [a] [g])/\(yF g 7 o fun a=>aH [a] [h])/\(yL h 1 false o fun a=>aH [a] [i])/\True)/\vbin .rem n k fun k=>vbin .add j k fun j=>ag PP an [d] o fun k n=>((yF d 0 n fun b=>aH [b] [a])/\(yF a 2 n fun a=>aH [a] [g])/\(yF g 7 n fun a=>aH [a] [h])/\(yL h 1 false n fun a=>aH [a] [i])/\True)/\vbin .rem k m fun a=>vbin .add l a fun a=>aq PP (.bld [zI,zI] [(0,1,(.c j)),(1,1,(.c a))]) n fun a=>aq PP (.bld [zI,zI,zI,zI,zJ,zI,zI,zJ,zI,zI,zJ,zI,zI] [(0,1,(.c (.int .i64 2))),(5,3,(.c f)),(11,2,(.c a))]) n fun a=>yI i (b 6) 14 n fun f=>yF f 1 n fun f=>xS f a 13 n fun a f=>aH [d,c,(b 6)] [d,c,(b 6)]/\e [] f) (aH [d,c,(b 6)] [d,c,(b 6)]/\e [] f)) (aH [d] [d]/\e [] g)
def jN (a:D) (b:D) (c:Heap) (K:HK):Prop :=
 ag PP bk [a] c fun c d=>xF a 0 d fun c d=>xF c 2 d fun c d=>xF c 7 d fun c d=>xL c 1 false d fun c d=>bP c d fun c=>vbin .sub c (.int .i64 1) fun c=>vbin .add c b fun b=>∃(e:HJ),( ∀(b:Nat->D) (c:Heap),e [] c->ag PP ct [a] c fun a b=>K (.tup []) b)/\iL c d b a e
theorem nR (a0:D) (a1:D) (h0:Heap) (K:HK):jN a0 a1 h0 K=eN jT K [a0,a1] h0:=by kernel_rfl
end Go.Am
namespace Go.Am
open Go Go.Proofs
def pc:TL
 | 1000008=>some ([],[0,2,3,4])|1000016=>some ([],[0,4,119])|_=>none
def qU:TT
 | 9=>some ([0,1,3,7,15,0,0,64,192,0,512,0,2048,7680,16320,32767,65535,131071],[17],[])|15=>some ([0,1,3,7,15,0,32,0,128,0,0,1024,3584,8064,16383,32767,65535],[8,16],[999999])|_=>none
noncomputable abbrev lX:=cFn PP true dV pc (cDr PP 136 qU)
noncomputable def ma:aK:=⟨136,aS lX,[]⟩
theorem qJ:lX=some ma:=by kernel_rfl
def nK:TL
 | _=>none
def qt:TT
 | _=>none
noncomputable abbrev kK:=cFn PP true bk nK (cDr PP 14 qt)
noncomputable def kP:aK:=⟨14,aS kK,[]⟩
theorem pL:kK=some kP:=by kernel_rfl
def kG (a:D) (b:Heap) (K:HK):Prop :=
 xF a 0 b fun b c=>xF b 2 c fun b c=>xF b 7 c fun b c=>xL b 1 false c fun b c=>ab PP (.bld [.nil,zI,zI,zI,zI,zJ,zI,zI,zJ,zI,zI,zJ,zI,zI] []) c fun c d=>ab PP (.bldS true 14 1 (.agg [.nil,zI,zI,zI,zI,zJ,zI,zI,zJ,zI,zI,zJ,zI,zI]) [(0,(.c c))]) d fun c d=>ab PP (.app (.c b) (.c c) 14 128 (.agg [.nil,zI,zI,zI,zI,zJ,zI,zI,zJ,zI,zI,zJ,zI,zI])) d fun b c=>xF a 0 c fun a c=>xF a 2 c fun a c=>xF a 7 c fun a c=>xS a b 1 c fun a b=>K (.tup []) b
theorem pG (a0:D) (h0:Heap) (K:HK):kG a0 h0 K=eN kP K [a0] h0:=by kernel_rfl
def qw:TL
 | _=>none
def tE:TT
 | _=>none
noncomputable abbrev mP:=cFn PP true aZ qw (cDr PP 7 tE)
noncomputable def mW:aK:=⟨7,aS mP,[.cell 2 3 true]⟩
theorem jU:mP=some mW:=by kernel_rfl
def jd (a:D) (b:Heap) (K:HK):Prop :=
 ab PP (.alloc (.agg [zI,zI,zJ])) b fun b c=>ag PP an [a] c fun a c=>vbin .rem a (.int .i64 6) fun a=>ag PP dD [a] c fun a c=>xS b a 3 c fun a c=>xL b 3 true c fun a b=>K a c
theorem jO (a0:D) (h0:Heap) (K:HK):jd a0 h0 K=eN mW K [a0] h0:=by kernel_rfl
def qv:TL
 | _=>none
def tD:TT
 | _=>none
noncomputable abbrev mO:=cFn PP true aY qv (cDr PP 18 tD)
noncomputable def mV:aK:=⟨18,aS mO,[.cell 2 3 true]⟩
theorem jS:mO=some mV:=by kernel_rfl
def jc (a:D) (b:Heap) (K:HK):Prop :=
 ab PP (.alloc (.agg [zI,zI,zJ])) b fun b c=>ag PP an [a] c fun a c=>vbin .rem a (.int .i64 3) fun d=>vbin .eql d zI fun d=>vcond d (vbin .quo a (.int .i64 3) fun a=>ab PP (.conv .i32 (.c a)) c fun a c=>vbin .sub a (.int .i32 20) fun a=>ag PP eP [a] c fun a c=>xS b a 3 c fun a c=>xL b 3 true c fun a b=>K a c) (vbin .quo a (.int .i64 3) fun a=>vbin .rem a (.int .i64 6) fun a=>ag PP dD [a] c fun a c=>xS b a 3 c fun a c=>xL b 3 true c fun a b=>K a c)
theorem jM (a0:D) (h0:Heap) (K:HK):jc a0 h0 K=eN mV K [a0] h0:=by kernel_rfl
def nJ:TL
 | 1=>some ([0],[2])|_=>none
def qq:TT
 | _=>none
noncomputable abbrev kJ:=cFn PP true ct nJ (cDr PP 12 qq)
noncomputable def kO:aK:=⟨12,aS kJ,[]⟩
theorem pK:kJ=some kO:=by kernel_rfl
def je (a:D) (b:Heap) (c:D) (K:HK):Prop :=
 ∃(d:Nat->HJ) (e:Nat),d e [a] b/\∀(a:Nat) (b:Nat->D) (e:Heap),d a [b 2] e->vbin .gtr (b 2) zI fun f=>vcond f (ag PP iz [c] e fun e f=>vbin .sub (b 2) (.int .i64 1) fun b=>aH [c] [c]/\∃c,c<a/\d c [b] f) (K (.tup []) e)
def kF (a:D) (b:Heap) (K:HK):Prop :=
 ag PP an [a] b fun b c=>vbin .rem b (.int .i64 5) fun b=>je b c a K
theorem pF (a0:D) (h0:Heap) (K:HK):kF a0 h0 K=eN kO K [a0] h0:=by kernel_rfl
def Av:TL
 | _=>none
def Eh:TT
 | _=>none
noncomputable abbrev yS:=cFn PP true eL Av (cDr PP 11 Eh)
noncomputable def zx:aK:=⟨11,aS yS,[.t 2]⟩
theorem Du:yS=some zx:=by kernel_rfl
def yx (a:D) (b:Heap) (K:HK):Prop :=
 bP a b fun c=>ab PP (.mk 1 24 .nil (.c c) (.c c)) b fun b c=>ab PP (.cpy (.c b) (.c a) 1) c fun a c=>K b c
theorem Da (a0:D) (h0:Heap) (K:HK):yx a0 h0 K=eN zx K [a0] h0:=by kernel_rfl
def jg:TL
 | _=>none
def jC:TT
 | _=>none
noncomputable abbrev gq:=cFn PP true aR jg (cDr PP 8 jC)
noncomputable def gr:aK:=⟨8,aS gq,[.t 2]⟩
theorem fA:gq=some gr:=by kernel_rfl
def dw (a:D) (b:Heap) (K:HK):Prop :=
 ab PP (.nilq false (.c a)) b fun b c=>vcond b (K .nil c) (ab PP (.bldS true 1 0 zJ []) c fun b c=>ab PP (.app (.c b) (.c a) 1 4 zJ) c fun a b=>K a b)
theorem fy (a0:D) (h0:Heap) (K:HK):dw a0 h0 K=eN gr K [a0] h0:=by kernel_rfl
def xN:TL
 | 1000027=>some ([0,4],[8])|1000012=>some ([0,4,5,6,7,25],[50])|1000018=>some ([0,4,5,6],[9])|8000006=>some ([1],[])|8000011=>some ([1],[])|_=>none
def CF:TT
 | 1=>some ([0,1,3,7,0,16,63,0,128,384,896,0,2048,8191,16383,32767],[6,13],[999999])|7=>some ([0,1,0,4,0,0,32,99,227,495,1007,2047,4095],[6,8,10,12],[1])|12=>some ([0,1,0,4,0,0,32,99,227,495,1007,2047,4095],[6,8,10,12],[1])|15=>some ([0,1,0,4,15,31],[3,5],[1])|16=>some ([0,1,0,0,8,0,60,0,255,511,1023,1023,2047],[6],[999999])|20=>some ([0,1,0,4,15,31],[3,5],[1])|23=>some ([0,1,3,7,15,0,32,0,255,511],[9],[])|25=>some ([0,1,3,7,15,0,32,127,255,511],[],[])|26=>some ([0,1,3,7,15,0,32,96,0,511,1023],[10],[])|_=>none
noncomputable abbrev ve:=cFn PP true jz xN (cDr PP 137 CF)
noncomputable def nw:aK:=⟨137,aS ve,[]⟩
theorem Bl:ve=some nw:=by kernel_rfl
def uN (a:D) (b:D) (c:D) (d:Heap) (K:HK) (KP:Heap->Prop):Prop :=
 ab PP (.box (.c b)) d fun b d=>ab PP (.box (.c c)) d fun c d=>yF a 0 d fun e=>yF e 10 d fun e=>yL e 7 true d fun e=>yF b 6 d fun f=>yL f 3 true d fun f=>yF a 0 d fun g=>yF g 10 d fun h=>yL h 7 true d fun i=>yF b 9 d fun j=>yL j 3 true d fun k=>ag PP cU [e,f] d fun d e=>((yF a 0 e fun a=>aH [a] [g])/\(yF g 10 e fun a=>aH [a] [h])/\(yL h 7 true e fun a=>aH [a] [i])/\(yF b 9 e fun a=>aH [a] [j])/\(yL j 3 true e fun a=>aH [a] [k])/\True)/\ag PP cU [i,k] e fun e f=>∃(g:HJ),( ∀(c:Nat->D) (d:Heap),g [c 8] d->yF a 0 d fun a=>yF a 10 d fun a=>yF a 4 d fun a=>yL a 1 false d fun a=>yF b 3 d fun b=>yF b 1 d fun b=>yL b 1 false d fun b=>yI a b 1 d fun a=>xS a (c 8) 1 d fun a b=>K (.tup []) b)/\xF b 0 f fun f h=>xL f 1 false h fun f h=>vbin .eql f (.int .i64 7) fun i=>vcond i (xF b 2 h fun e f=>xL e 1 false f fun e f=>IX PP fR [a,e,d] f (fun a=>KP a) fun e f=>yF b 2 f fun h=>yL h 1 false f fun i=>aq PP (.conv .i64 (.c d)) f fun d=>yF c 0 f fun j=>yF c 6 f fun k=>yF c 7 f fun l=>yF c 8 f fun m=>xS j (.int .i64 1) 1 f fun f j=>((yL h 1 false j fun a=>aH [a] [i])/\True)/\xS k i 1 j fun f j=>((yL h 1 false j fun a=>aH [a] [i])/\True)/\xS l d 1 j fun d f=>((yL h 1 false f fun a=>aH [a] [i])/\True)/\xS m e 1 f fun d f=>((yL h 1 false f fun a=>aH [a] [i])/\True)/\xL c 9 true f fun c d=>ag PP fS [a,c] d fun c d=>aH [a,b] [a,b]/\g [e] d) ( ∃(i:HJ),( ∀(h:Nat->D) (j:Heap),i [h 50] j->vcond (h 50) (xF b 2 j fun f g=>xL f 1 false g fun f g=>IX PP fR [a,f,d] g (fun a=>KP a) fun f g=>yF b 2 g fun f=>yL f 1 false g fun h=>aq PP (.conv .i64 (.c d)) g fun i=>yF c 0 g fun j=>yF c 6 g fun k=>yF c 7 g fun l=>yF c 8 g fun m=>xS j (.int .i64 2) 1 g fun g j=>((yL f 1 false j fun a=>aH [a] [h])/\True)/\xS k h 1 j fun g j=>((yL f 1 false j fun a=>aH [a] [h])/\True)/\xS l i 1 j fun g i=>((yL f 1 false i fun a=>aH [a] [h])/\True)/\xS m e 1 i fun g i=>((yL f 1 false i fun a=>aH [a] [h])/\True)/\∃(f:HJ),( ∀(e:Nat->D) (g:Heap),f [e 9] g->xF b 2 g fun b f=>xL b 1 false f fun b f=>ag PP jr [a,b,d,(e 9)] f fun b d=>xL c 9 true d fun b c=>ag PP fS [a,b] c fun a b=>K (.tup []) b)/\xF b 0 i fun g h=>xL g 1 false h fun g h=>vbin .eql g (.int .i64 9) fun g=>vcond g (yF b 1 h fun g=>yL g 1 false h fun i=>yF c 0 h fun j=>yF c 1 h fun k=>xS j (.int .i64 3) 1 h fun h j=>((yL g 1 false j fun a=>aH [a] [i])/\True)/\xS k i 1 j fun h j=>((yL g 1 false j fun a=>aH [a] [i])/\True)/\yF b 1 j fun g=>yL g 1 false j fun h=>yF b 2 j fun i=>yL i 1 false j fun i=>ag PP fR [a,i,d] j fun i j=>((yF b 1 j fun a=>aH [a] [g])/\(yL g 1 false j fun a=>aH [a] [h])/\True)/\aq PP (.call kT [(.c h),(.c i),(.c e)]) j fun e=>aq PP (.ext (.c e) 0) j fun g=>aq PP (.ext (.c e) 1) j fun e=>aH [a,b,c,d] [a,b,c,d]/\f [g] j) (aH [a,b,c,d] [a,b,c,d]/\f [e] h)) (vbin .eql f (.int .i64 10) fun h=>vcond h (yF b 1 j fun b=>yL b 1 false j fun d=>yF c 0 j fun e=>yF c 1 j fun f=>xS e (.int .i64 4) 1 j fun e g=>((yL b 1 false g fun a=>aH [a] [d])/\True)/\xS f d 1 g fun e f=>((yL b 1 false f fun a=>aH [a] [d])/\True)/\xL c 9 true f fun b c=>ag PP fS [a,b] c fun a b=>K (.tup []) b) (vbin .eql f (.int .i64 12) fun c=>vcond c (yF a 0 j fun a=>yF a 10 j fun a=>yF a 6 j fun a=>yL a 1 false j fun a=>yF b 2 j fun b=>yL b 1 false j fun b=>yI a b 1 j fun a=>xS a d 1 j fun a b=>K (.tup []) b) (vbin .eql f (.int .i64 11) fun c=>vcond c (yF a 0 j fun c=>yF c 10 j fun c=>yF c 6 j fun c=>yL c 1 false j fun c=>yF b 2 j fun d=>yL d 1 false j fun d=>yI c d 1 j fun c=>yL c 1 false j fun c=>aH [a,b] [a,b]/\g [c] j) (xL b 15 true j fun c f=>ag PP kg [a,c,d,e] f fun c d=>aH [a,b] [a,b]/\g [c] d)))))/\vbin .eql f (.int .i64 8) fun g=>vcond g (aH [a,b,c,d,e,f] [a,b,c,d,e,f]/\i [g] h) (vbin .eql f (.int .i64 9) fun g=>aH [a,b,c,d,e,f] [a,b,c,d,e,f]/\i [g] h))
theorem A3 (a0:D) (a1:D) (a2:D) (h0:Heap) (K:HK) (KP:Heap->Prop):uN a0 a1 a2 h0 K KP=vcC PP nw.code (fun x e h'=>match x with|.exit _=>False|.pan=>KP h'|_=>iR PP nw.res K e h') (params [a0,a1,a2] 0) h0:=by kernel_rfl
def rK:TL
 | 1000013=>some ([0,2],[])|_=>none
def vP:TT
 | 1=>some ([0,1,3,7,15,0,32,96,224,480,1023,2047,4095,0,16383],[13,14],[])|7=>some ([0,1,3,7,0,16,63,127],[6],[999999])|11=>some ([0,1,3,7,0,16,48,112,240,0,512,1536,3584,7680,16383,32767],[15],[])|_=>none
noncomputable abbrev oj:=cFn PP true gR rK (cDr PP 77 vP)
noncomputable def oy:aK:=⟨77,aS oj,[.cell 2 7 true]⟩
theorem ui:oj=some oy:=by kernel_rfl
def nY (a:D) (b:Heap) (K:HK):Prop :=
 ab PP (.alloc (.agg [zI,zI,zI,zI,.nil,.nil,.nil])) b fun b c=>yF a 0 c fun d=>yF d 0 c fun d=>yF d 7 c fun d=>yL d 1 false c fun d=>yF a 0 c fun e=>yF e 10 c fun e=>yF e 2 c fun e=>yL e 1 false c fun e=>yI d e 14 c fun d=>yF d 1 c fun d=>yL d 13 true c fun d=>ab PP (.alloc (.agg [zI,zI,zI,zI,zJ,zI,zI,zJ,zI,zI,zJ,zI,zI])) c fun c e=>xS c d 13 e fun d e=>∃(d:HJ),( ∀(c:Nat->D) (e:Heap),d [] e->xF a 0 e fun a c=>xF a 10 c fun a c=>xL a 7 true c fun a c=>xS b a 7 c fun a c=>xL b 7 true c fun a b=>K a c)/\xF c 0 e fun e f=>xL e 1 false f fun e f=>vbin .eql e (.int .i64 1) fun g=>vcond g (xF c 11 f fun c e=>ab PP (.iadda (.c c) (.c zI) 2 1) e fun c e=>xL c 1 false e fun c e=>xF a 0 e fun e f=>xF e 10 f fun e f=>xF e 2 f fun e f=>xS e c 1 f fun c e=>aH [a,b] [a,b]/\d [] e) (vbin .eql e (.int .i64 2) fun g=>vcond g (yF a 0 f fun e=>yF e 10 f fun e=>yL e 7 true f fun e=>yF c 5 f fun g=>yL g 3 true f fun g=>ag PP cU [e,g] f fun e f=>vbin .neq e zJ fun e=>vcond e (xF c 11 f fun c e=>ab PP (.iadda (.c c) (.c zI) 2 1) e fun c e=>xL c 1 false e fun c e=>xF a 0 e fun e f=>xF e 10 f fun e f=>xF e 2 f fun e f=>xS e c 1 f fun c e=>aH [a,b] [a,b]/\d [] e) (xF c 11 f fun c e=>ab PP (.iadda (.c c) (.c (.int .i64 1)) 2 1) e fun c e=>xL c 1 false e fun c e=>xF a 0 e fun e f=>xF e 10 f fun e f=>xF e 2 f fun e f=>xS e c 1 f fun c e=>aH [a,b] [a,b]/\d [] e)) (vbin .eql e (.int .i64 5) fun c=>vcond c (yF a 0 f fun c=>yF c 0 f fun c=>yL c 8 true f fun c=>yF a 0 f fun d=>yF d 10 f fun d=>yF d 0 f fun d=>yL d 1 false f fun d=>yF a 0 f fun a=>yF a 10 f fun a=>yF a 3 f fun a=>yL a 1 false f fun a=>aq PP (.call kX [(.c c),(.c d),(.c a),(.c (.int .i64 3))]) f fun a=>xS b a 7 f fun a c=>xL b 7 true c fun a b=>K a c) (xF a 0 f fun c e=>xF c 10 e fun c e=>xF c 1 e fun c e=>xS c (.int .i64 2) 1 e fun c e=>aH [a,b] [a,b]/\d [] e)))
theorem tZ (a0:D) (h0:Heap) (K:HK):nY a0 h0 K=eN oy K [a0] h0:=by kernel_rfl
def v7:TL
 | 1000016=>some ([5,6,7,8,9,10,11,12],[])|1000018=>some ([5,6,7,8,9,10,11,12],[])|1000022=>some ([5,7,8,9],[])|1000024=>some ([5,8],[])|_=>none
def zO:TT
 | 6=>some ([0,1,0,4,15,0,0,0,128,0,1023,2047,4095],[4,10],[999999])|20=>some ([0,0,0,4,0,0,32,0,0,480,992,2047],[9,11],[999999])|_=>none
noncomputable abbrev sI:=cFn PP true lE v7 (cDr PP 107 zO)
noncomputable def sW:aK:=⟨107,aS sI,[.cell 8 11 true]⟩
theorem y9:sI=some sW:=by kernel_rfl
def sj (a:D) (b:D) (c:D) (d:D) (e:Heap) (K:HK):Prop :=
 ab PP (.box (.c a)) e fun a e=>ab PP (.box (.c b)) e fun b e=>ab PP (.box (.c c)) e fun c e=>ab PP (.box (.c d)) e fun d e=>ab PP (.alloc (.agg [zI,zI,zI,zI,.nil,.nil,.nil,.nil,.nil,.nil,zI])) e fun e f=>xF a 5 f fun a f=>xL a 1 false f fun a f=>xF c 2 f fun f g=>xL f 1 false g fun f g=>xI a f 4 g fun a f=>xL a 4 true f fun a f=>ab PP (.alloc (.agg [(.str ⟨#[]⟩),zI,zI,zI])) f fun f g=>xS f a 4 g fun a g=>xF b 0 g fun a g=>xL a 7 true g fun a g=>xF c 6 g fun g h=>xL g 3 true h fun g h=>ag PP cj [a,g] h fun a g=>ab PP (.conv .i64 (.c a)) g fun a g=>vbin .lss a zI fun h=>vguard h false (fun b=>b a g) g fun g i=>vguard h false (fun a=>xF f 3 i fun b c=>a b c) i fun i j=>vguard h false (fun a=>xL i 1 false j fun b c=>a b c) j fun i j=>vguard h false (fun a=>vbin .geq g i fun b=>a b j) j fun g i=>ab PP (.pick (.c h) (.c (.bool true)) (.c g)) i fun g h=>vcond g (xF b 10 h fun a c=>xS a (.int .i64 70) 1 c fun a c=>xL b 11 true c fun a b=>xS e a 11 b fun a b=>xL e 11 true b fun a c=>K a b) (yF b 0 h fun g=>yL g 7 true h fun g=>yF c 9 h fun i=>yL i 3 true h fun i=>yL b 11 true h fun j=>yL f 4 true h fun k=>yF c 2 h fun l=>yL l 1 false h fun m=>ag PP cj [g,i] h fun g h=>((yL b 11 true h fun a=>aH [a] [j])/\(yL f 4 true h fun a=>aH [a] [k])/\(yF c 2 h fun a=>aH [a] [l])/\(yL l 1 false h fun a=>aH [a] [m])/\True)/\ag PP rl [j,k,m,a] h fun h i=>xF d 0 i fun i j=>xS i (.int .i64 2) 1 j fun i j=>xF c 2 j fun i j=>xL i 1 false j fun i j=>xF d 6 j fun j k=>xS j i 1 k fun i j=>xF d 7 j fun i j=>xS i a 1 j fun i j=>xF d 8 j fun i j=>xS i g 1 j fun i j=>∃(i:HJ),( ∀(j:Nat->D) (k:Heap),i [] k->∃(i:HJ),( ∀(j:Nat->D) (k:Heap),i [] k->∃(i:HJ),( ∀(a:Nat->D) (c:Heap),i [] c->∃(a:HJ),( ∀(c:Nat->D) (d:Heap),a [] d->xL b 11 true d fun a b=>xS e a 11 b fun a b=>xL e 11 true b fun a c=>K a b)/\xF f 1 c fun c f=>xL c 1 false f fun c f=>vbin .neq c (.int .i64 3) fun c=>vcond c (xF b 9 f fun c f=>xL c 1 false f fun c f=>xL d 9 true f fun d f=>ab PP (.bldS true 9 1 (.agg [zI,zI,zI,zI,zI,zI,zI,zI,zJ]) [(0,(.c d))]) f fun d f=>ab PP (.app (.c c) (.c d) 9 72 (.agg [zI,zI,zI,zI,zI,zI,zI,zI,zJ])) f fun c d=>xF b 9 d fun d f=>xS d c 1 f fun c d=>aH [b,e] [b,e]/\a [] d) (aH [b,e] [b,e]/\a [] f))/\xF c 0 k fun j k=>xL j 1 false k fun j k=>vbin .eql j (.int .i64 9) fun j=>vcond j (xF d 0 k fun j k=>xS j (.int .i64 3) 1 k fun j k=>xF c 1 k fun j k=>xL j 1 false k fun j k=>xF d 1 k fun k l=>xS k j 1 l fun j k=>yL b 11 true k fun j=>yL f 4 true k fun l=>yF c 2 k fun m=>yL m 1 false k fun n=>yF c 1 k fun o=>yL o 1 false k fun o=>ag PP jx [o,h,g] k fun g h=>((yL b 11 true h fun a=>aH [a] [j])/\(yL f 4 true h fun a=>aH [a] [l])/\(yF c 2 h fun a=>aH [a] [m])/\(yL m 1 false h fun a=>aH [a] [n])/\True)/\aq PP (.fld (.c g) 0 1 false) h fun c=>ag PP mm [j,l,n,a,c] h fun a c=>aH [b,d,e,f] [b,d,e,f]/\i [] c) (aH [b,d,e,f] [b,d,e,f]/\i [] k))/\xF c 0 k fun j k=>xL j 1 false k fun j k=>vbin .eql j (.int .i64 8) fun j=>vcond j (xL b 11 true k fun j k=>xL f 4 true k fun k l=>xF c 2 l fun l m=>xL l 1 false m fun l m=>ag PP mm [j,k,l,a,g] m fun j k=>aH [b,c,d,e,f,a,g,h] [b,c,d,e,f,a,g,h]/\i [] k) (aH [b,c,d,e,f,a,g,h] [b,c,d,e,f,a,g,h]/\i [] k))/\xF c 0 j fun j k=>xL j 1 false k fun j k=>vbin .eql j (.int .i64 7) fun j=>vcond j (xF d 0 k fun j k=>xS j (.int .i64 1) 1 k fun j k=>xF d 8 k fun j k=>xS j h 1 k fun j k=>xF b 0 k fun j k=>xF j 4 k fun j k=>xL j 1 false k fun j k=>xF c 3 k fun k l=>xF k 1 l fun k l=>xL k 1 false l fun k l=>xI j k 1 l fun j k=>xS j h 1 k fun j k=>aH [b,c,d,e,f,a,g,h] [b,c,d,e,f,a,g,h]/\i [] k) (aH [b,c,d,e,f,a,g,h] [b,c,d,e,f,a,g,h]/\i [] k))
theorem yb (a0:D) (a1:D) (a2:D) (a3:D) (h0:Heap) (K:HK):sj a0 a1 a2 a3 h0 K=eN sW K [a0,a1,a2,a3] h0:=by kernel_rfl
def xw:TL
 | _=>none
def Cr:TT
 | _=>none
noncomputable abbrev uP:=cFn PP true cj xw (cDr PP 16 Cr)
noncomputable def vk:aK:=⟨16,aS uP,[.t 4]⟩
theorem A7:uP=some vk:=by kernel_rfl
def uz (a:D) (b:D) (c:Heap) (K:HK):Prop :=
 ab PP (.box (.c a)) c fun a c=>ab PP (.box (.c b)) c fun b c=>xF b 0 c fun c d=>xL c 1 false d fun c d=>vbin .eql c (.int .i64 2) fun c=>vcond c (xF a 4 d fun a c=>xL a 1 false c fun a c=>xF b 1 c fun b c=>xL b 1 false c fun b c=>xI a b 1 c fun a b=>xL a 1 false b fun a b=>K a b) (xF b 2 d fun a b=>xL a 1 false b fun a b=>K a b)
theorem AN (a0:D) (a1:D) (h0:Heap) (K:HK):uz a0 a1 h0 K=eN vk K [a0,a1] h0:=by kernel_rfl
def v5:TL
 | _=>none
def zN:TT
 | 1=>some ([0,0,2,7,0,0,32,127,255,511],[3,7],[999999])|_=>none
noncomputable abbrev sH:=cFn PP true lD v5 (cDr PP 72 zN)
noncomputable def sV:aK:=⟨72,aS sH,[.t 8]⟩
theorem y8:sH=some sV:=by kernel_rfl
def si (a:D) (b:D) (c:D) (d:D) (e:Heap) (K:HK):Prop :=
 ab PP (.box (.c a)) e fun a e=>ab PP (.box (.c b)) e fun b e=>ab PP (.box (.c c)) e fun c e=>ab PP (.box (.c d)) e fun d e=>yL c 7 true e fun f=>yF d 6 e fun g=>yL g 3 true e fun g=>yL c 7 true e fun h=>yF d 9 e fun i=>yL i 3 true e fun j=>ag PP cj [f,g] e fun e f=>((yL c 7 true f fun a=>aH [a] [h])/\(yF d 9 f fun a=>aH [a] [i])/\(yL i 3 true f fun a=>aH [a] [j])/\True)/\ag PP cj [h,j] f fun f g=>xF d 0 g fun g h=>xL g 1 false h fun g h=>vbin .eql g (.int .i64 2) fun i=>vcond i (xF d 1 h fun a b=>xL a 1 false b fun a b=>ag PP oU [a,e] b fun a b=>ab PP (.fld (.c a) 0 1 false) b fun a b=>K a b) (vbin .eql g (.int .i64 3) fun i=>vcond i (xF d 1 h fun a b=>xL a 1 false b fun a b=>ag PP jx [a,e,f] b fun a b=>ab PP (.fld (.c a) 0 1 false) b fun a b=>K a b) (vbin .eql g (.int .i64 4) fun i=>vcond i (vbin .neq e zJ fun a=>vcond a (K f h) (xL c 7 true h fun a b=>xF d 12 b fun b c=>xL b 3 true c fun b c=>ag PP cj [a,b] c fun a b=>K a b)) (vbin .eql g (.int .i64 5) fun f=>vcond f (xL a 8 true h fun a e=>xL b 2 true e fun b e=>xF c 0 e fun c e=>xL c 1 false e fun c e=>xF d 1 e fun d e=>xL d 1 false e fun d e=>ag PP oT [a,b,c,d] e fun a b=>ab PP (.fld (.c a) 0 1 false) b fun a b=>K a b) (vbin .eql g (.int .i64 6) fun a=>vcond a (xF b 1 h fun a b=>xL a 1 false b fun a b=>xF d 2 b fun b c=>xL b 1 false c fun b c=>xI a b 1 c fun a b=>xL a 1 false b fun a b=>K a b) (vbin .eql g (.int .i64 11) fun a=>vcond a (xF c 6 h fun a b=>xL a 1 false b fun a b=>xF d 2 b fun b c=>xL b 1 false c fun b c=>xI a b 1 c fun a b=>xL a 1 false b fun a b=>K a b) (K e h))))))
theorem ya (a0:D) (a1:D) (a2:D) (a3:D) (h0:Heap) (K:HK):si a0 a1 a2 a3 h0 K=eN sV K [a0,a1,a2,a3] h0:=by kernel_rfl
def Aw:TL
 | _=>none
def Ei:TT
 | 1=>some ([0,0,0,0,8,24,0,64,192,0,512,1536,4095,8191],[13],[])|_=>none
noncomputable abbrev yT:=cFn PP true kX Aw (cDr PP 22 Ei)
noncomputable def zy:aK:=⟨22,aS yT,[.cell 8 7 true]⟩
theorem Dv:yT=some zy:=by kernel_rfl
def yy (a:D) (b:D) (c:D) (d:D) (e:Heap) (K:HK):Prop :=
 ab PP (.box (.c a)) e fun a e=>ab PP (.alloc (.agg [zI,zI,zI,zI,.nil,.nil,.nil])) e fun e f=>yF a 2 f fun g=>yL g 1 false f fun g=>aq PP (.mk 1 4 zJ (.c g) (.c g)) f fun g=>yF a 5 f fun h=>yL h 1 false f fun h=>aq PP (.call ni [(.c h),(.c (.int .i64 3))]) f fun h=>yF a 3 f fun a=>yL a 1 false f fun a=>aq PP (.mk 1 4 zJ (.c a) (.c a)) f fun a=>aq PP (.bld [zI,zI,zI,zI,.nil,.nil,.nil] [(0,1,(.c b)),(1,1,(.c d)),(3,1,(.c c)),(4,1,(.c g)),(5,1,(.c h)),(6,1,(.c a))]) f fun a=>xS e a 7 f fun a b=>xL e 7 true b fun a c=>K a b
theorem Db (a0:D) (a1:D) (a2:D) (a3:D) (h0:Heap) (K:HK):yy a0 a1 a2 a3 h0 K=eN zy K [a0,a1,a2,a3] h0:=by kernel_rfl
def xz:TL
 | _=>none
def Cu:TT
 | _=>none
noncomputable abbrev uS:=cFn PP true na xz (cDr PP 11 Cu)
noncomputable def vq:aK:=⟨11,aS uS,[.t 4]⟩
theorem Ba:uS=some vq:=by kernel_rfl
def uC (a:D) (b:D) (c:Heap) (K:HK):Prop :=
 ab PP (.box (.c a)) c fun a c=>xF a 1 c fun c d=>xL c 1 false d fun c d=>vbin .eql c b fun b=>vcond b (xF a 3 d fun a b=>xL a 1 false b fun a b=>K a b) (K zI d)
theorem AQ (a0:D) (a1:D) (h0:Heap) (K:HK):uC a0 a1 h0 K=eN vq K [a0,a1] h0:=by kernel_rfl
def cv:TL
 | 1000011=>some ([],[])|4=>some ([1,2,15,16],[17])|_=>none
def cH:TT
 | _=>none
noncomputable abbrev bC:=cFn PP true bA cv (cDr PP 32 cH)
noncomputable def bD:aK:=⟨32,aS bC,[.t 6]⟩
theorem cE:bC=some bD:=by kernel_rfl
def bu (a:Heap) (b:D) (c:D) (d:D) (e:D) (f:HJ) (K:HK):Prop :=
 ∃(g:Nat->HJ) (h:Nat),g h [zI] a/\∀(a:Nat) (h:Nat->D) (i:Heap),g a [h 17] i->vbin .lss (h 17) b fun j=>vcond j (xI c (h 17) 4 i fun f i=>xL f 4 true i fun f i=>ab PP (.alloc (.agg [(.str ⟨#[]⟩),zI,zI,zI])) i fun i j=>xS i f 4 j fun f j=>xI d (h 17) 1 j fun f j=>xL f 1 false j fun f j=>xL i 4 true j fun i j=>ab PP (.callv (.c e) [(.c i),(.c f)]) j fun f i=>vun .not f fun f=>vcond f (K (.bool false) i) (vbin .add (h 17) (.int .i64 1) fun f=>aH [d,e,c,b] [d,e,c,b]/\∃b,b<a/\g b [f] i)) (aH [] []/\f [] i)
def bB (a:D) (b:D) (c:D) (d:Heap) (K:HK):Prop :=
 bP a d fun e=>bP b d fun f=>vbin .neq e f fun e=>vcond e (K (.bool false) d) ( ∃(e:HJ),( ∀(a:Nat->D) (b:Heap),e [] b->K (.bool true) b)/\bP a d fun f=>bu d f a b c e K)
theorem cB (a0:D) (a1:D) (a2:D) (h0:Heap) (K:HK):bB a0 a1 a2 h0 K=eN bD K [a0,a1,a2] h0:=by kernel_rfl
def rI:TL
 | _=>none
def vM:TT
 | _=>none
noncomputable abbrev oh:=cFn PP true gQ rI (cDr PP 12 vM)
noncomputable def ow:aK:=⟨12,aS oh,[.t 5]⟩
theorem ug:oh=some ow:=by kernel_rfl
def nW (a:D) (b:D) (c:D) (d:Heap) (K:HK):Prop :=
 ab PP (.box (.c a)) d fun a d=>xL a 4 true d fun a d=>xL c 1 false d fun c d=>ag PP jy [a,c] d fun a c=>bP b c fun b=>vbin .eql a b fun a=>K a c
theorem tX (a0:D) (a1:D) (a2:D) (h0:Heap) (K:HK):nW a0 a1 a2 h0 K=eN ow K [a0,a1,a2] h0:=by kernel_rfl
def xJ:TL
 | _=>none
def CC:TT
 | _=>none
noncomputable abbrev u6:=cFn PP true jy xJ (cDr PP 11 CC)
noncomputable def vC:aK:=⟨11,aS u6,[.t 4]⟩
theorem Bi:u6=some vC:=by kernel_rfl
def uK (a:D) (b:D) (c:Heap) (K:HK):Prop :=
 ab PP (.box (.c a)) c fun a c=>xF a 1 c fun c d=>xL c 1 false d fun c d=>vbin .neq c b fun b=>vcond b (K zI d) (xF a 3 d fun a b=>xL a 1 false b fun a b=>K a b)
theorem AY (a0:D) (a1:D) (h0:Heap) (K:HK):uK a0 a1 h0 K=eN vC K [a0,a1] h0:=by kernel_rfl
def ij:TL
 | 1000008=>some ([],[])|2=>some ([0,1,7],[8])|_=>none
def iM:TT
 | _=>none
noncomputable abbrev eY:=cFn PP true eU ij (cDr PP 19 iM)
noncomputable def eZ:aK:=⟨19,aS eY,[.t 4]⟩
theorem iE:eY=some eZ:=by kernel_rfl
def dX (a:Heap) (b:D) (c:D) (d:D) (e:HJ) (K:HK):Prop :=
 ∃(f:Nat->HJ) (g:Nat),f g [zI] a/\∀(a:Nat) (g:Nat->D) (h:Heap),f a [g 8] h->vbin .lss (g 8) b fun i=>vcond i (xI c (g 8) 1 h fun e h=>xL e 1 false h fun e h=>ab PP (.callv (.c d) [(.c e)]) h fun e h=>vcond e (K (g 8) h) (vbin .add (g 8) (.int .i64 1) fun e=>aH [c,d,b] [c,d,b]/\∃b,b<a/\f b [e] h)) (aH [] []/\e [] h)
def eW (a:D) (b:D) (c:Heap) (K:HK):Prop :=
 ∃(d:HJ),( ∀(a:Nat->D) (b:Heap),d [] b->K (.int .i64 (-1)) b)/\bP a c fun e=>dX c e a b d K
theorem iD (a0:D) (a1:D) (h0:Heap) (K:HK):eW a0 a1 h0 K=eN eZ K [a0,a1] h0:=by kernel_rfl
def xE:TL
 | _=>none
def Cz:TT
 | _=>none
noncomputable abbrev uX:=cFn PP true ig xE (cDr PP 4 Cz)
noncomputable def vw:aK:=⟨4,aS uX,[.t 2]⟩
theorem Bf:uX=some vw:=by kernel_rfl
def uH (a:D) (b:Heap) (K:HK):Prop :=
 vcond a (K (.int .i32 1) b) (K (.int .i32 0) b)
theorem AV (a0:D) (h0:Heap) (K:HK):uH a0 h0 K=eN vw K [a0] h0:=by kernel_rfl
def rH:TL
 | _=>none
def vK:TT
 | _=>none
noncomputable abbrev og:=cFn PP true jo rH (cDr PP 36 vK)
noncomputable def ou:aK:=⟨36,aS og,[.t 6]⟩
theorem uf:og=some ou:=by kernel_rfl
def nU (a:D) (b:D) (c:D) (d:Heap) (K:HK):Prop :=
 vbin .eql a (.int .i64 24) fun e=>vcond e (vbin .eql b c fun a=>K a d) (vbin .eql a (.int .i64 25) fun e=>vcond e (vbin .neq b c fun a=>K a d) (vbin .eql a (.int .i64 26) fun e=>vcond e (vbin .lss b c fun a=>K a d) (vbin .eql a (.int .i64 27) fun e=>vcond e (vbin .leq b c fun a=>K a d) (vbin .eql a (.int .i64 28) fun a=>vcond a (vbin .gtr b c fun a=>K a d) (vbin .geq b c fun a=>K a d)))))
theorem tW (a0:D) (a1:D) (a2:D) (h0:Heap) (K:HK):nU a0 a1 a2 h0 K=eN ou K [a0,a1,a2] h0:=by kernel_rfl
def Ar:TL
 | 1000013=>some ([],[9])|3=>some ([0,7,8],[9,10])|1000010=>some ([0,7,8,9,10,11,12],[13])|1000012=>some ([0,7,8,9,10],[13])|_=>none
def Ed:TT
 | 5=>some ([0,0,2,7,15,0,0,70,230,486,223,2047],[],[])|_=>none
noncomputable abbrev yO:=cFn PP true kV Ar (cDr PP 68 Ed)
noncomputable def zr:aK:=⟨68,aS yO,[.t 6]⟩
theorem Dq:yO=some zr:=by kernel_rfl
def pS (a:Heap) (b:D) (c:D) (d:D) (e:HJ):Prop :=
 ∃(f:Nat->HJ) (g:Nat),f g [zI,zI] a/\∀(a:Nat) (g:Nat->D) (h:Heap),f a [g 9,g 10] h->vbin .lss (g 10) (.int .i64 32) fun i=>vcond i (aq PP (.call cT [(.c (g 10))]) h fun e=>vbin .quo b e fun e=>vbin .rem e (.int .i64 2) fun e=>aq PP (.call cT [(.c (g 10))]) h fun i=>vbin .quo c i fun i=>vbin .rem i (.int .i64 2) fun i=>vbin .mul e i fun j=>∃(k:HJ),( ∀(h:Nat->D) (j:Heap),k [h 13] j->∃(k:HJ),( ∀(e:Nat->D) (h:Heap),k [e 13] h->ag PP cT [(g 10)] h fun h i=>vbin .mul (e 13) h fun e=>vbin .add (g 9) e fun e=>vbin .add (g 10) (.int .i64 1) fun g=>aH [d,b,c] [d,b,c]/\∃b,b<a/\f b [e,g] i)/\vbin .eql d (.int .i64 19) fun a=>vcond a (vbin .add e i fun a=>vbin .rem a (.int .i64 2) fun a=>aH [d,b,c,(g 9),(g 10)] [d,b,c,(g 9),(g 10)]/\k [a] j) (aH [d,b,c,(g 9),(g 10)] [d,b,c,(g 9),(g 10)]/\k [(h 13)] j))/\vbin .eql d (.int .i64 18) fun a=>vcond a (ab PP (.mx (.c e) (.c i)) h fun a f=>aH [d,b,c,(g 9),(g 10),e,i] [d,b,c,(g 9),(g 10),e,i]/\k [a] f) (aH [d,b,c,(g 9),(g 10),e,i] [d,b,c,(g 9),(g 10),e,i]/\k [j] h)) (aH [] []/\e [(g 9)] h)
def yr (a:D) (b:D) (c:D) (d:Heap) (K:HK):Prop :=
 ab PP (.conv .i64 (.c b)) d fun d e=>ag PP cT [(.int .i64 32)] e fun e f=>vbin .lss b zJ fun b=>ag PP ig [b] f fun b f=>ab PP (.conv .i64 (.c b)) f fun b f=>vbin .mul e b fun b=>vbin .add d b fun b=>ab PP (.conv .i64 (.c c)) f fun d e=>ag PP cT [(.int .i64 32)] e fun e f=>vbin .lss c zJ fun c=>ag PP ig [c] f fun c f=>ab PP (.conv .i64 (.c c)) f fun c f=>vbin .mul e c fun c=>vbin .add d c fun c=>∃(d:HJ),( ∀(a:Nat->D) (b:Heap),d [a 9] b->ag PP cR [(a 9)] b fun a b=>K a b)/\pS f b c a d
theorem C6 (a0:D) (a1:D) (a2:D) (h0:Heap) (K:HK):yr a0 a1 a2 h0 K=eN zr K [a0,a1,a2] h0:=by kernel_rfl
def Aq:TL
 | _=>none
def Ec:TT
 | _=>none
noncomputable abbrev yN:=cFn PP true cR Aq (cDr PP 7 Ec)
noncomputable def zq:aK:=⟨7,aS yN,[.t 2]⟩
theorem Dp:yN=some zq:=by kernel_rfl
def yq (a:D) (b:Heap) (K:HK):Prop :=
 ab PP (.conv .u64 (.c a)) b fun a b=>ab PP (.conv .u32 (.c a)) b fun a b=>ab PP (.conv .i32 (.c a)) b fun a b=>K a b
theorem C5 (a0:D) (h0:Heap) (K:HK):yq a0 h0 K=eN zq K [a0] h0:=by kernel_rfl
end Go.Am
namespace Go.Am
open Go Go.Proofs
def xA:TL
 | _=>none
def Cv:TT
 | _=>none
noncomputable abbrev uT:=cFn PP true ng xA (cDr PP 76 Cv)
noncomputable def vr:aK:=⟨76,aS uT,[.t 6]⟩
theorem Bb:uT=some vr:=by kernel_rfl
def uD (a:D) (b:D) (c:D) (d:Heap) (K:HK):Prop :=
 vbin .rem c (.int .i64 32) fun e=>vbin .add e (.int .i64 32) fun e=>vbin .rem e (.int .i64 32) fun e=>vbin .eql a (.int .i64 10) fun f=>vcond f (vbin .add b c fun a=>K a d) (vbin .eql a (.int .i64 11) fun f=>vcond f (vbin .sub b c fun a=>K a d) (vbin .eql a (.int .i64 12) fun f=>vcond f (vbin .mul b c fun a=>K a d) (vbin .eql a (.int .i64 13) fun f=>vcond f (ag PP gP [b,c] d fun a b=>K a b) (vbin .eql a (.int .i64 14) fun f=>vcond f (ag PP gP [b,c] d fun a d=>vbin .mul c a fun a=>vbin .sub b a fun a=>K a d) (vbin .eql a (.int .i64 15) fun f=>vcond f (vbin .mul b c fun a=>ag PP eQ [a,(.int .i64 65536)] d fun a b=>K a b) (vbin .eql a (.int .i64 16) fun f=>vcond f (vbin .eql c zI fun a=>vcond a (K zI d) (vbin .mul (.int .i64 65536) b fun a=>ag PP nh [a,c] d fun a b=>K a b)) (vbin .eql a (.int .i64 20) fun f=>vcond f (ag PP cT [e] d fun a c=>vbin .mul b a fun a=>K a c) (vbin .eql a (.int .i64 21) fun f=>vcond f (ag PP cT [e] d fun a c=>ag PP eQ [b,a] c fun a b=>K a b) (vbin .eql a (.int .i64 22) fun a=>vcond a (ab PP (.mn (.c b) (.c c)) d fun a b=>K a b) (ab PP (.mx (.c b) (.c c)) d fun a b=>K a b))))))))))
theorem AR (a0:D) (a1:D) (a2:D) (h0:Heap) (K:HK):uD a0 a1 a2 h0 K=eN vr K [a0,a1,a2] h0:=by kernel_rfl
def qz:TL
 | _=>none
def tF:TT
 | 2=>some ([0,1,3,7,15,0,0,64,192,448,960,0,4032,8128,16320,0,32768,131008,262143,524287,1048575],[17,20],[4,18])|_=>none
noncomputable abbrev mQ:=cFn PP true aO qz (cDr PP 32 tF)
noncomputable def mX:aK:=⟨32,aS mQ,[]⟩
theorem s8:mQ=some mX:=by kernel_rfl
def mG (a:D) (b:D) (c:Heap) (K:HK):Prop :=
 ab PP (.box (.c b)) c fun b c=>xF a 0 c fun c d=>xF c 2 d fun c d=>xF c 7 d fun c d=>xL c 1 false d fun c d=>bP c d fun c=>vbin .sub c (.int .i64 1) fun c=>yF a 0 d fun e=>yF e 2 d fun e=>yF e 7 d fun e=>yL e 1 false d fun f=>yF a 0 d fun a=>yF a 2 d fun a=>yF a 7 d fun a=>yL a 1 false d fun a=>yI a c 14 d fun a=>yF a 0 d fun a=>yL a 1 false d fun a=>yL b 15 true d fun b=>aq PP (.bldS false 15 1 (.agg [zI,zI,zI,zI,zI,zJ,zI,zI,zJ,zI,zI,zJ,zI,zI,zJ]) [(0,(.c b))]) d fun b=>yI f c 14 d fun g=>yF g 0 d fun h=>ab PP (.app (.c a) (.c b) 15 120 (.agg [zI,zI,zI,zI,zI,zJ,zI,zI,zJ,zI,zI,zJ,zI,zI,zJ])) d fun a b=>((yL e 1 false b fun a=>aH [a] [f])/\(yI f c 14 b fun a=>aH [a] [g])/\True)/\xS h a 1 b fun a b=>((yL e 1 false b fun a=>aH [a] [f])/\(yI f c 14 b fun a=>aH [a] [g])/\True)/\K (.tup []) b
theorem ss (a0:D) (a1:D) (h0:Heap) (K:HK):mG a0 a1 h0 K=eN mX K [a0,a1] h0:=by kernel_rfl
def CM:TL
 | _=>none
def FM:TT
 | _=>none
noncomputable abbrev BX:=cFn PP true dD CM (cDr PP 5 FM)
noncomputable def Ch:aK:=⟨5,aS BX,[.cell 2 3 true]⟩
theorem Fy:BX=some Ch:=by kernel_rfl
def BL (a:D) (b:Heap) (K:HK):Prop :=
 ab PP (.alloc (.agg [zI,zI,zJ])) b fun b c=>ab PP (.bld [zI,zI,zJ] [(0,1,(.c (.int .i64 2))),(1,1,(.c a))]) c fun a c=>xS b a 3 c fun a c=>xL b 3 true c fun a b=>K a c
theorem Fe (a0:D) (h0:Heap) (K:HK):BL a0 h0 K=eN Ch K [a0] h0:=by kernel_rfl
def xy:TL
 | _=>none
def Ct:TT
 | _=>none
noncomputable abbrev uR:=cFn PP true eP xy (cDr PP 5 Ct)
noncomputable def vo:aK:=⟨5,aS uR,[.cell 2 3 true]⟩
theorem A9:uR=some vo:=by kernel_rfl
def uB (a:D) (b:Heap) (K:HK):Prop :=
 ab PP (.alloc (.agg [zI,zI,zJ])) b fun b c=>ab PP (.bld [zI,zI,zJ] [(0,1,(.c (.int .i64 1))),(2,1,(.c a))]) c fun a c=>xS b a 3 c fun a c=>xL b 3 true c fun a b=>K a c
theorem AP (a0:D) (h0:Heap) (K:HK):uB a0 h0 K=eN vo K [a0] h0:=by kernel_rfl
def pd:TL
 | _=>none
def qV:TT
 | 18=>some ([0,0,0,4,12,30,62,0,0,0,524,2046,4095],[3,10,12],[999999])|21=>some ([0,0,0,4,0,30,63],[3,6],[999999])|22=>some ([0,0,0,0,8,30,63],[4,6],[999999])|_=>none
noncomputable abbrev lY:=cFn PP true iz pd (cDr PP 133 qV)
noncomputable def mb:aK:=⟨133,aS lY,[]⟩
theorem qK:lY=some mb:=by kernel_rfl
def lT (a:D) (b:Heap) (K:HK):Prop :=
 ag PP an [a] b fun b c=>vbin .rem b (.int .i64 16) fun b=>vbin .lss b (.int .i64 3) fun d=>vcond d (ag PP an [a] c fun b c=>vbin .rem b (.int .i64 7) fun b=>vbin .add (.int .i64 1) b fun b=>ag PP aZ [a] c fun c d=>ab PP (.bld [zI,zI,zI,zI,zI,zJ,zI,zI,zJ,zI,zI,zJ,zI,zI,zJ] [(0,1,(.c (.int .i64 5))),(1,1,(.c b)),(3,3,(.c c))]) d fun b c=>ag PP aO [a,b] c fun a b=>K (.tup []) b) (vbin .lss b (.int .i64 7) fun d=>vcond d (ag PP an [a] c fun b c=>vbin .rem b (.int .i64 20) fun b=>vbin .add (.int .i64 10) b fun b=>ag PP aZ [a] c fun c d=>ag PP aY [a] d fun d e=>ag PP aY [a] e fun e f=>ab PP (.bld [zI,zI,zI,zI,zI,zJ,zI,zI,zJ,zI,zI,zJ,zI,zI,zJ] [(0,1,(.c (.int .i64 3))),(1,1,(.c b)),(3,3,(.c c)),(6,3,(.c d)),(9,3,(.c e))]) f fun b c=>ag PP aO [a,b] c fun a b=>K (.tup []) b) (vbin .eql b (.int .i64 7) fun d=>vcond d (ag PP an [a] c fun b c=>vbin .rem b (.int .i64 5) fun b=>vbin .add (.int .i64 1) b fun b=>ag PP aZ [a] c fun c d=>ag PP aY [a] d fun d e=>ab PP (.bld [zI,zI,zI,zI,zI,zJ,zI,zI,zJ,zI,zI,zJ,zI,zI,zJ] [(0,1,(.c (.int .i64 2))),(1,1,(.c b)),(3,3,(.c c)),(6,3,(.c d))]) e fun b c=>ag PP aO [a,b] c fun a b=>K (.tup []) b) (vbin .eql b (.int .i64 8) fun d=>vcond d (ag PP aZ [a] c fun b c=>ag PP aY [a] c fun c d=>ag PP aY [a] d fun d e=>ag PP aY [a] e fun e f=>ab PP (.bld [zI,zI,zI,zI,zI,zJ,zI,zI,zJ,zI,zI,zJ,zI,zI,zJ] [(0,1,(.c (.int .i64 4))),(3,3,(.c b)),(6,3,(.c c)),(9,3,(.c d)),(12,3,(.c e))]) f fun b c=>ag PP aO [a,b] c fun a b=>K (.tup []) b) (vbin .eql b (.int .i64 9) fun d=>vcond d (ag PP aZ [a] c fun b c=>ag PP aY [a] c fun c d=>ab PP (.bld [zI,zI,zI,zI,zI,zJ,zI,zI,zJ,zI,zI,zJ,zI,zI,zJ] [(0,1,(.c (.int .i64 1))),(3,3,(.c b)),(6,3,(.c c))]) d fun b c=>ag PP aO [a,b] c fun a b=>K (.tup []) b) (vbin .eql b (.int .i64 10) fun d=>vcond d (ag PP an [a] c fun b c=>vbin .rem b (.int .i64 3) fun b=>ag PP aZ [a] c fun c d=>ab PP (.bld [zI,zI,zI,zI,zI,zJ,zI,zI,zJ,zI,zI,zJ,zI,zI,zJ] [(0,1,(.c (.int .i64 6))),(2,1,(.c b)),(3,3,(.c c))]) d fun b c=>ag PP aO [a,b] c fun a b=>K (.tup []) b) (vbin .eql b (.int .i64 11) fun d=>vcond d (ag PP an [a] c fun b c=>vbin .rem b (.int .i64 2) fun b=>vbin .add (.int .i64 1) b fun b=>ab PP (.bld [zI,zI,zI,zI,zI,zJ,zI,zI,zJ,zI,zI,zJ,zI,zI,zJ] [(0,1,(.c (.int .i64 10))),(1,1,(.c b))]) c fun b c=>ag PP aO [a,b] c fun a b=>K (.tup []) b) (vbin .eql b (.int .i64 12) fun d=>vcond d (ag PP ff [a,(.bool false)] c fun b c=>ab PP (.ext (.c b) 0) c fun c d=>ab PP (.ext (.c b) 1) d fun b d=>ab PP (.alloc (.agg [zI,zI,zJ])) d fun d e=>xS d b 3 e fun b e=>aq PP (.bldS false 1 6 zI [(0,(.c (.int .i64 10))),(1,(.c (.int .i64 22))),(2,(.c (.int .i64 23))),(3,(.c (.int .i64 17))),(4,(.c (.int .i64 18))),(5,(.c (.int .i64 19)))]) e fun b=>yL d 3 true e fun f=>ag PP an [a] e fun e g=>((yL d 3 true g fun a=>aH [a] [f])/\True)/\vbin .rem e (.int .i64 6) fun e=>yI b e 1 g fun h=>yL h 1 false g fun i=>ag PP aY [a] g fun g j=>((yI b e 1 j fun a=>aH [a] [h])/\(yL h 1 false j fun a=>aH [a] [i])/\(yL d 3 true j fun a=>aH [a] [f])/\True)/\aq PP (.bld [zI,zI,zI,zI,zI,zJ,zI,zI,zJ,zI,zI,zJ,zI,zI,zJ] [(0,1,(.c (.int .i64 9))),(1,1,(.c i)),(2,1,(.c c)),(6,3,(.c f)),(9,3,(.c g))]) j fun b=>ag PP aO [a,b] j fun a b=>K (.tup []) b) (ag PP ff [a,(.bool true)] c fun c d=>ab PP (.ext (.c c) 0) d fun d e=>ab PP (.ext (.c c) 1) e fun c e=>ab PP (.alloc (.agg [zI,zI,zJ])) e fun e f=>xS e c 3 f fun c f=>vbin .eql b (.int .i64 13) fun b=>vcond b (yL e 3 true f fun b=>ag PP aZ [a] f fun c f=>((yL e 3 true f fun a=>aH [a] [b])/\True)/\aq PP (.bld [zI,zI,zI,zI,zI,zJ,zI,zI,zJ,zI,zI,zJ,zI,zI,zJ] [(0,1,(.c (.int .i64 7))),(2,1,(.c d)),(3,3,(.c c)),(6,3,(.c b))]) f fun b=>ag PP aO [a,b] f fun a b=>K (.tup []) b) (yL e 3 true f fun b=>ag PP aY [a] f fun c f=>((yL e 3 true f fun a=>aH [a] [b])/\True)/\aq PP (.bld [zI,zI,zI,zI,zI,zJ,zI,zI,zJ,zI,zI,zJ,zI,zI,zJ] [(0,1,(.c (.int .i64 8))),(2,1,(.c d)),(6,3,(.c b)),(9,3,(.c c))]) f fun b=>ag PP aO [a,b] f fun a b=>K (.tup []) b)))))))))
theorem qG (a0:D) (h0:Heap) (K:HK):lT a0 h0 K=eN mb K [a0] h0:=by kernel_rfl
def tO:TL
 | 8000002=>some ([],[])|_=>none
def xa:TT
 | _=>none
noncomputable abbrev p9:=cFn PP true fR tO (cDr PP 34 xa)
noncomputable def ku:aK:=⟨34,aS p9,[.t 6]⟩
theorem wO:p9=some ku:=by kernel_rfl
def pV (a:D) (b:D) (c:D) (d:Heap) (K:HK) (KP:Heap->Prop):Prop :=
 vbin .lss c zJ fun e=>vguard e false (fun a=>a c d) d fun d f=>vguard e false (fun a=>ab PP (.conv .i64 (.c d)) f fun b c=>a b c) f fun d f=>vguard e false (fun b=>b a f) f fun f g=>vguard e false (fun a=>xF f 0 g fun b c=>a b c) g fun f g=>vguard e false (fun a=>xF f 0 g fun b c=>a b c) g fun f g=>vguard e false (fun a=>xF f 5 g fun b c=>a b c) g fun f g=>vguard e false (fun a=>xL f 1 false g fun b c=>a b c) g fun f g=>vguard e false (fun a=>a b g) g fun g h=>vguard e false (fun a=>xI f g 4 h fun b c=>a b c) h fun f g=>vguard e false (fun a=>xF f 3 g fun b c=>a b c) g fun f g=>vguard e false (fun a=>xL f 1 false g fun b c=>a b c) g fun f g=>vguard e false (fun a=>vbin .geq d f fun b=>a b g) g fun d f=>ab PP (.pick (.c e) (.c (.bool true)) (.c d)) f fun d e=>vcond d ( ∀_:LEnv,KP e) (ag PP gp [a,b] e fun a d=>xI a b 1 d fun a b=>xL a 1 false b fun a b=>xI a c 1 b fun a b=>xL a 1 false b fun a b=>K a b)
theorem wF (a0:D) (a1:D) (a2:D) (h0:Heap) (K:HK) (KP:Heap->Prop):pV a0 a1 a2 h0 K KP=vcC PP ku.code (fun x e h'=>match x with|.exit _=>False|.pan=>KP h'|_=>iR PP ku.res K e h') (params [a0,a1,a2] 0) h0:=by kernel_rfl
def tP:TL
 | _=>none
def xb:TT
 | 1=>some ([0,1,3,7,15,31,63,127,255,15,527,2047,4095,8191,16383,32767],[],[])|2=>some ([0,0,2,6,14,0,32,126,255,511,1023],[7,10],[])|_=>none
noncomputable abbrev qa:=cFn PP true fS tP (cDr PP 30 xb)
noncomputable def qj:aK:=⟨30,aS qa,[]⟩
theorem wP:qa=some qj:=by kernel_rfl
def pW (a:D) (b:D) (c:Heap) (K:HK):Prop :=
 ab PP (.box (.c b)) c fun b c=>yF b 0 c fun d=>yL d 1 false c fun d=>vbin .neq d (.int .i64 4) fun d=>ak d true (fun b=>b a) fun e=>ak d true (fun a=>yF e 0 c fun b=>a b) fun e=>ak d true (fun a=>yF e 0 c fun b=>a b) fun e=>ak d true (fun a=>yF e 5 c fun b=>a b) fun e=>ak d true (fun a=>yL e 1 false c fun b=>a b) fun e=>ak d true (fun a=>yF b 6 c fun b=>a b) fun f=>ak d true (fun a=>yL f 1 false c fun b=>a b) fun f=>ak d true (fun a=>yI e f 4 c fun b=>a b) fun e=>ak d true (fun a=>yF e 1 c fun b=>a b) fun e=>ak d true (fun a=>yL e 1 false c fun b=>a b) fun e=>ak d true (fun a=>vbin .eql e (.int .i64 3) fun b=>a b) fun e=>aq PP (.pick (.c d) (.c e) (.c (.bool false))) c fun d=>vcond d (K (.tup []) c) (yF a 0 c fun d=>yF d 19 c fun d=>yL d 1 false c fun d=>yL b 9 true c fun b=>aq PP (.bldS false 9 1 (.agg [zI,zI,zI,zI,zI,zI,zI,zI,zJ]) [(0,(.c b))]) c fun b=>yF a 0 c fun a=>yF a 19 c fun a=>ab PP (.app (.c d) (.c b) 9 72 (.agg [zI,zI,zI,zI,zI,zI,zI,zI,zJ])) c fun b c=>xS a b 1 c fun a b=>K (.tup []) b)
theorem wG (a0:D) (a1:D) (h0:Heap) (K:HK):pW a0 a1 h0 K=eN qj K [a0,a1] h0:=by kernel_rfl
def Ah:TL
 | _=>none
def D4:TT
 | _=>none
noncomputable abbrev yC:=cFn PP true kT Ah (cDr PP 103 D4)
noncomputable def y0:aK:=⟨103,aS yC,[.t 6,.t 7]⟩
theorem Dg:yC=some y0:=by kernel_rfl
def x0 (a:D) (b:D) (c:D) (d:Heap) (K:HK):Prop :=
 ab PP (.conv .i64 (.c b)) d fun d e=>ab PP (.conv .i64 (.c c)) e fun e f=>ag PP iV [b,c] f fun f g=>ab PP (.ext (.c f) 0) g fun g h=>ab PP (.ext (.c f) 1) h fun f h=>vbin .eql a (.int .i64 10) fun i=>vcond i (vbin .add b c fun a=>K (.tup [a,zI]) h) (vbin .eql a (.int .i64 11) fun i=>vcond i (vbin .sub b c fun a=>K (.tup [a,zI]) h) (vbin .eql a (.int .i64 12) fun i=>vcond i (vbin .mul b c fun a=>K (.tup [a,zI]) h) (vbin .eql a (.int .i64 13) fun i=>vcond i (K (.tup [g,zI]) h) (vbin .eql a (.int .i64 14) fun g=>vcond g (K (.tup [f,zI]) h) (vbin .eql a (.int .i64 15) fun f=>vcond f (vbin .mul d e fun a=>vbin .shr a (.int .u64 16) fun a=>ab PP (.conv .i32 (.c a)) h fun a b=>K (.tup [a,zI]) b) (vbin .eql a (.int .i64 16) fun f=>vcond f (vbin .eql c zJ fun a=>vcond a (K (.tup [zJ,zI]) h) (vbin .shl d (.int .u64 16) fun a=>ag PP lC [a,e] h fun a b=>ab PP (.conv .i32 (.c a)) b fun a b=>K (.tup [a,zI]) b)) (vbin .eql a (.int .i64 17) fun d=>vcond d (vbin .and b c fun a=>K (.tup [a,zI]) h) (vbin .eql a (.int .i64 18) fun d=>vcond d (vbin .or b c fun a=>K (.tup [a,zI]) h) (vbin .eql a (.int .i64 19) fun d=>vcond d (vbin .xor b c fun a=>K (.tup [a,zI]) h) (vbin .eql a (.int .i64 20) fun d=>vcond d (vbin .and c (.int .i32 31) fun a=>vbin .shl b a fun a=>K (.tup [a,zI]) h) (vbin .eql a (.int .i64 21) fun d=>vcond d (vbin .and c (.int .i32 31) fun a=>vbin .shr b a fun a=>K (.tup [a,zI]) h) (vbin .eql a (.int .i64 22) fun d=>vcond d (ab PP (.mn (.c b) (.c c)) h fun a b=>K (.tup [a,zI]) b) (vbin .eql a (.int .i64 23) fun d=>vcond d (ab PP (.mx (.c b) (.c c)) h fun a b=>K (.tup [a,zI]) b) (ag PP gN [a,b,c] h fun a b=>ab PP (.ext (.c a) 0) b fun b c=>ab PP (.ext (.c a) 1) c fun a c=>K (.tup [b,a]) c))))))))))))))
theorem CX (a0:D) (a1:D) (a2:D) (h0:Heap) (K:HK):x0 a0 a1 a2 h0 K=eN y0 K [a0,a1,a2] h0:=by kernel_rfl
def rJ:TL
 | 1000006=>some ([1,2,3,8],[])|_=>none
def vO:TT
 | 2=>some ([0,1,3,7,0,31,63],[],[])|4=>some ([0,1,3,7,0,31],[5],[])|_=>none
noncomputable abbrev oi:=cFn PP true jr rJ (cDr PP 51 vO)
noncomputable def ox:aK:=⟨51,aS oi,[]⟩
theorem uh:oi=some ox:=by kernel_rfl
def nX (a:D) (b:D) (c:D) (d:D) (e:Heap) (K:HK):Prop :=
 ag PP gp [a,b] e fun e f=>xF a 0 f fun f g=>xF f 0 g fun f g=>xF f 5 g fun f g=>xL f 1 false g fun f g=>xI f b 4 g fun f g=>xF f 1 g fun f g=>xL f 1 false g fun f g=>ab PP (.bld [zI,zI] [(0,1,(.c f)),(1,1,(.c b))]) g fun f g=>ab PP (.alloc (.agg [zI,zI])) g fun g h=>xS g f 2 h fun f h=>∃(f:HJ),( ∀(a:Nat->D) (g:Heap),f [] g->xI e b 1 g fun a b=>xL a 1 false b fun a b=>xI a c 1 b fun a b=>xS a d 1 b fun a b=>K (.tup []) b)/\yF a 0 h fun i=>yF i 20 h fun i=>yL i 1 false h fun i=>yL g 2 true h fun j=>aq PP (.look (.pair .i64) (.c i) (.c j) (.bool false) false) h fun i=>vun .not i fun i=>vcond i (xI e b 1 h fun h i=>xL h 1 false i fun h i=>ag PP aR [h] i fun h i=>xI e b 1 i fun i j=>xS i h 1 j fun h i=>yF a 0 i fun a=>yF a 20 i fun a=>yL a 1 false i fun a=>yL g 2 true i fun g=>ab PP (.mupd (.pair .i64) (.c a) (.c g) (.c (.bool true))) i fun a g=>aH [b,c,d,e] [b,c,d,e]/\f [] g) (aH [b,c,d,e] [b,c,d,e]/\f [] h)
theorem tY (a0:D) (a1:D) (a2:D) (a3:D) (h0:Heap) (K:HK):nX a0 a1 a2 a3 h0 K=eN ox K [a0,a1,a2,a3] h0:=by kernel_rfl
def tQ:TL
 | 1000015=>some ([],[2])|1000010=>some ([],[3])|_=>none
def xc:TT
 | 8=>some ([0,1,3,7,0,16,63,127],[6],[999999])|11=>some ([0,1,3,7,0,16,48,112,0,256,768,1792,3840,0,8192,32767,65535,131071,131071,262143],[],[])|13=>some ([0,1,3,7,15,0,32,127,255,511],[],[])|_=>none
noncomputable abbrev qc:=cFn PP true kg tQ (cDr PP 75 xc)
noncomputable def ql:aK:=⟨75,aS qc,[.t 8]⟩
theorem wQ:qc=some ql:=by kernel_rfl
def pX (a:D) (b:D) (c:D) (d:D) (e:Heap) (K:HK):Prop :=
 ab PP (.box (.c b)) e fun b e=>∃(f:HJ),( ∀(a:Nat->D) (b:Heap),f [a 2] b->K (a 2) b)/\xF b 0 e fun e g=>xL e 1 false g fun e g=>vbin .eql e (.int .i64 2) fun h=>vcond h (xF b 1 g fun a b=>xL a 1 false b fun a b=>ag PP rj [a,c] b fun a b=>ab PP (.ext (.c a) 0) b fun b c=>ab PP (.ext (.c a) 1) c fun a c=>aH [] []/\f [b] c) (vbin .eql e (.int .i64 3) fun h=>vcond h (xF b 1 g fun a b=>xL a 1 false b fun a b=>ag PP kT [a,c,d] b fun a b=>ab PP (.ext (.c a) 0) b fun b c=>ab PP (.ext (.c a) 1) c fun a c=>aH [] []/\f [b] c) (vbin .eql e (.int .i64 4) fun h=>vcond h ( ∃(e:HJ),( ∀(a:Nat->D) (b:Heap),e [a 3] b->aH [] []/\f [(a 3)] b)/\vbin .eql c zJ fun c=>vcond c (yF a 0 g fun a=>yF a 10 g fun a=>yL a 7 true g fun a=>yF b 12 g fun b=>yL b 3 true g fun b=>ag PP cU [a,b] g fun a b=>aH [] []/\e [a] b) (aH [] []/\e [d] g)) (vbin .eql e (.int .i64 5) fun d=>vcond d (yF a 0 g fun c=>yF c 0 g fun c=>yL c 8 true g fun c=>yF a 0 g fun d=>yF d 8 g fun d=>yL d 2 true g fun d=>yF a 0 g fun a=>yF a 10 g fun a=>yF a 0 g fun a=>yL a 1 false g fun a=>yF b 1 g fun b=>yL b 1 false g fun b=>aq PP (.call rA [(.c c),(.c d),(.c a),(.c b)]) g fun a=>aq PP (.ext (.c a) 0) g fun b=>aq PP (.ext (.c a) 1) g fun a=>aH [] []/\f [b] g) (vbin .eql e (.int .i64 6) fun d=>vcond d (yF a 0 g fun a=>yF a 8 g fun a=>yF a 1 g fun a=>yL a 1 false g fun a=>yF b 2 g fun b=>yL b 1 false g fun b=>yI a b 1 g fun a=>yL a 1 false g fun a=>aH [] []/\f [a] g) (aH [] []/\f [c] g)))))
theorem wH (a0:D) (a1:D) (a2:D) (a3:D) (h0:Heap) (K:HK):pX a0 a1 a2 a3 h0 K=eN ql K [a0,a1,a2,a3] h0:=by kernel_rfl
def CL:TL
 | _=>none
def FL:TT
 | _=>none
noncomputable abbrev BW:=cFn PP true rl CL (cDr PP 40 FL)
noncomputable def Cg:aK:=⟨40,aS BW,[.t 8]⟩
theorem Fx:BW=some Cg:=by kernel_rfl
def BK (a:D) (b:D) (c:D) (d:D) (e:Heap) (K:HK):Prop :=
 ab PP (.box (.c a)) e fun a e=>ab PP (.box (.c b)) e fun b e=>xF b 1 e fun e f=>xL e 1 false f fun e f=>vbin .eql e (.int .i64 1) fun e=>vcond e (xF a 7 f fun a b=>xL a 1 false b fun a b=>xI a c 1 b fun a b=>xL a 1 false b fun a b=>xI a d 1 b fun a b=>xL a 1 false b fun a b=>K a b) (xF b 1 f fun b e=>xL b 1 false e fun b e=>vbin .eql b (.int .i64 2) fun b=>vcond b (xF a 8 e fun a b=>xL a 1 false b fun a b=>xI a c 1 b fun a b=>xL a 1 false b fun a b=>xI a d 1 b fun a b=>xL a 1 false b fun a b=>K a b) (xF a 0 e fun a b=>xF a 5 b fun a b=>xL a 1 false b fun a b=>xI a c 1 b fun a b=>xL a 1 false b fun a b=>xI a d 1 b fun a b=>xL a 1 false b fun a b=>K a b))
theorem Fc (a0:D) (a1:D) (a2:D) (a3:D) (h0:Heap) (K:HK):BK a0 a1 a2 a3 h0 K=eN Cg K [a0,a1,a2,a3] h0:=by kernel_rfl
def CJ:TL
 | _=>none
def FK:TT
 | _=>none
noncomputable abbrev BV:=cFn PP true mm CJ (cDr PP 41 FK)
noncomputable def Cf:aK:=⟨41,aS BV,[]⟩
theorem Fw:BV=some Cf:=by kernel_rfl
def BJ (a:D) (b:D) (c:D) (d:D) (e:D) (f:Heap) (K:HK):Prop :=
 ab PP (.box (.c a)) f fun a f=>ab PP (.box (.c b)) f fun b f=>xF b 1 f fun f g=>xL f 1 false g fun f g=>vbin .eql f (.int .i64 1) fun f=>vcond f (xF a 7 g fun a b=>xL a 1 false b fun a b=>xI a c 1 b fun a b=>xL a 1 false b fun a b=>xI a d 1 b fun a b=>xS a e 1 b fun a b=>K (.tup []) b) (xF b 1 g fun b f=>xL b 1 false f fun b f=>vbin .eql b (.int .i64 2) fun b=>vcond b (xF a 8 f fun a b=>xL a 1 false b fun a b=>xI a c 1 b fun a b=>xL a 1 false b fun a b=>xI a d 1 b fun a b=>xS a e 1 b fun a b=>K (.tup []) b) (xF a 0 f fun a b=>xF a 5 b fun a b=>xL a 1 false b fun a b=>xI a c 1 b fun a b=>xL a 1 false b fun a b=>xI a d 1 b fun a b=>xS a e 1 b fun a b=>K (.tup []) b))
theorem Fb (a0:D) (a1:D) (a2:D) (a3:D) (a4:D) (h0:Heap) (K:HK):BJ a0 a1 a2 a3 a4 h0 K=eN Cf K [a0,a1,a2,a3,a4] h0:=by kernel_rfl
def As:TL
 | _=>none
def Ee:TT
 | _=>none
noncomputable abbrev yP:=cFn PP true oU As (cDr PP 43 Ee)
noncomputable def zt:aK:=⟨43,aS yP,[.cell 4 2 true]⟩
theorem Dr:yP=some zt:=by kernel_rfl
def yt (a:D) (b:D) (c:Heap) (K:HK):Prop :=
 ab PP (.alloc (.agg [zJ,zI])) c fun c d=>ab PP (.conv .i64 (.c b)) d fun b d=>vbin .eql a (.int .i64 1) fun e=>vcond e (vun .neg b fun a=>ag PP cR [a] d fun a b=>ab PP (.bld [zJ,zI] [(0,1,(.c a))]) b fun a b=>xS c a 2 b fun a b=>xL c 2 true b fun a c=>K a b) (vbin .eql a (.int .i64 2) fun e=>vcond e (vun .neg b fun a=>vbin .sub a (.int .i64 1) fun a=>ag PP cR [a] d fun a b=>ab PP (.bld [zJ,zI] [(0,1,(.c a))]) b fun a b=>xS c a 2 b fun a b=>xL c 2 true b fun a c=>K a b) (vbin .eql a (.int .i64 3) fun e=>vcond e (vun .neg b fun a=>ab PP (.mx (.c b) (.c a)) d fun a b=>ag PP cR [a] b fun a b=>ab PP (.bld [zJ,zI] [(0,1,(.c a))]) b fun a b=>xS c a 2 b fun a b=>xL c 2 true b fun a c=>K a b) (vbin .eql a (.int .i64 4) fun e=>vcond e (vbin .mul b (.int .i64 65536) fun a=>ag PP cR [a] d fun a b=>ab PP (.bld [zJ,zI] [(0,1,(.c a))]) b fun a b=>xS c a 2 b fun a b=>xL c 2 true b fun a c=>K a b) (vbin .eql a (.int .i64 5) fun a=>vcond a (ag PP eQ [b,(.int .i64 65536)] d fun a b=>ag PP cR [a] b fun a b=>ab PP (.bld [zJ,zI] [(0,1,(.c a))]) b fun a b=>xS c a 2 b fun a b=>xL c 2 true b fun a c=>K a b) (ab PP (.bld [zJ,zI] [(1,1,(.c (.int .i64 1)))]) d fun a b=>xS c a 2 b fun a b=>xL c 2 true b fun a c=>K a b)))))
theorem C7 (a0:D) (a1:D) (h0:Heap) (K:HK):yt a0 a1 h0 K=eN zt K [a0,a1] h0:=by kernel_rfl
def Ao:TL
 | _=>none
def Ea:TT
 | 4=>some ([0,0,0,0,8,0,32,120,0,256,0,0,2048,7168,0,0,32768,114688,262143,524287],[],[])|_=>none
noncomputable abbrev yK:=cFn PP true oT Ao (cDr PP 63 Ea)
noncomputable def zn:aK:=⟨63,aS yK,[.cell 8 2 true]⟩
theorem Dm:yK=some zn:=by kernel_rfl
def yl (a:D) (b:D) (c:D) (d:D) (e:Heap) (K:HK):Prop :=
 ab PP (.box (.c a)) e fun a e=>ab PP (.box (.c b)) e fun b e=>ab PP (.alloc (.agg [zJ,zI])) e fun e f=>vbin .lss d (.int .i64 1) fun g=>vguard g false (fun a=>a d f) f fun f h=>vguard g false (fun a=>vbin .gtr f (.int .i64 7) fun b=>a b h) h fun f h=>ab PP (.pick (.c g) (.c (.bool true)) (.c f)) h fun f g=>vguard f false (fun a=>a c g) g fun g h=>vguard f false (fun a=>vbin .lss g zI fun b=>a b h) h fun g h=>ab PP (.pick (.c f) (.c (.bool true)) (.c g)) h fun f g=>vguard f false (fun a=>a c g) g fun g h=>vguard f false (fun a=>xF b 0 h fun b c=>a b c) h fun h i=>vguard f false (fun a=>xL h 1 false i fun b c=>a b c) i fun h i=>vguard f false (fun b=>xF a 0 i fun a c=>b a c) i fun i j=>vguard f false (fun a=>xL i 1 false j fun b c=>a b c) j fun i j=>vguard f false (fun a=>vbin .mul h i fun b=>a b j) j fun h i=>vguard f false (fun a=>vbin .geq g h fun b=>a b i) i fun g h=>ab PP (.pick (.c f) (.c (.bool true)) (.c g)) h fun f g=>vcond f (ab PP (.bld [zJ,zI] [(1,1,(.c (.int .i64 1)))]) g fun a b=>xS e a 2 b fun a b=>xL e 2 true b fun a c=>K a b) (xL a 8 true g fun f g=>ag PP vW [f,c] g fun f g=>ab PP (.ext (.c f) 0) g fun g h=>ab PP (.ext (.c f) 1) h fun f h=>yF b 0 h fun b=>yL b 1 false h fun b=>yF a 0 h fun i=>yL i 1 false h fun i=>vbin .mul b i fun b=>yF a 0 h fun i=>yL i 1 false h fun i=>yF a 1 h fun j=>yL j 1 false h fun j=>vbin .rem f j fun j=>yF a 1 h fun a=>yL a 1 false h fun a=>vbin .quo f a fun a=>aq PP (.bldS false 1 8 zI [(0,(.c zI)),(1,(.c c)),(2,(.c f)),(3,(.c g)),(4,(.c b)),(5,(.c i)),(6,(.c j)),(7,(.c a))]) h fun a=>xI a d 1 h fun a b=>xL a 1 false b fun a b=>ab PP (.conv .i32 (.c a)) b fun a b=>ab PP (.bld [zJ,zI] [(0,1,(.c a))]) b fun a b=>xS e a 2 b fun a b=>xL e 2 true b fun a c=>K a b)
theorem C3 (a0:D) (a1:D) (a2:D) (a3:D) (h0:Heap) (K:HK):yl a0 a1 a2 a3 h0 K=eN zn K [a0,a1,a2,a3] h0:=by kernel_rfl
def xK:TL
 | 1000008=>some ([5],[])|3=>some ([1,5,11,12],[13])|_=>none
def CD:TT
 | _=>none
noncomputable abbrev u9:=cFn PP true ni xK (cDr PP 27 CD)
noncomputable def vD:aK:=⟨27,aS u9,[.t 4]⟩
theorem Bj:u9=some vD:=by kernel_rfl
def nV (a:Heap) (b:D) (c:D) (d:D) (e:D) (f:HJ):Prop :=
 ∃(g:Nat->HJ) (h:Nat),g h [zI] a/\∀(a:Nat) (h:Nat->D) (i:Heap),g a [h 13] i->vbin .lss (h 13) b fun j=>vcond j (xI c (h 13) 4 i fun f i=>xL f 4 true i fun f i=>ab PP (.alloc (.agg [(.str ⟨#[]⟩),zI,zI,zI])) i fun i j=>xS i f 4 j fun f j=>xL i 4 true j fun f i=>ag PP jy [f,d] i fun f i=>ab PP (.mk 1 4 zJ (.c f) (.c f)) i fun f i=>xI e (h 13) 1 i fun i j=>xS i f 1 j fun f i=>vbin .add (h 13) (.int .i64 1) fun f=>aH [d,e,c,b] [d,e,c,b]/\∃b,b<a/\g b [f] i) (aH [e] [e]/\f [] i)
def uL (a:D) (b:D) (c:Heap) (K:HK):Prop :=
 bP a c fun d=>ab PP (.mk 1 24 .nil (.c d) (.c d)) c fun c d=>∃(e:HJ),( ∀(a:Nat->D) (b:Heap),e [] b->K c b)/\bP a d fun f=>nV d f a b c e
theorem AZ (a0:D) (a1:D) (h0:Heap) (K:HK):uL a0 a1 h0 K=eN vD K [a0,a1] h0:=by kernel_rfl
def xB:TL
 | 1000007=>some ([],[3])|3=>some ([0],[3,4])|_=>none
def Cw:TT
 | _=>none
noncomputable abbrev uU:=cFn PP true cT xB (cDr PP 13 Cw)
noncomputable def vt:aK:=⟨13,aS uU,[.t 2]⟩
theorem Bc:uU=some vt:=by kernel_rfl
def nT (a:Heap) (b:D) (c:HJ):Prop :=
 ∃(d:Nat->HJ) (e:Nat),d e [(.int .i64 1),zI] a/\∀(a:Nat) (e:Nat->D) (f:Heap),d a [e 3,e 4] f->vbin .lss (e 4) b fun g=>vcond g (vbin .mul (.int .i64 2) (e 3) fun c=>vbin .add (e 4) (.int .i64 1) fun e=>aH [b] [b]/\∃b,b<a/\d b [c,e] f) (aH [] []/\c [(e 3)] f)
def uE (a:D) (b:Heap) (K:HK):Prop :=
 ∃(c:HJ),( ∀(a:Nat->D) (b:Heap),c [a 3] b->K (a 3) b)/\nT b a c
theorem AS (a0:D) (h0:Heap) (K:HK):uE a0 h0 K=eN vt K [a0] h0:=by kernel_rfl
def rG:TL
 | _=>none
def vJ:TT
 | _=>none
noncomputable abbrev oe:=cFn PP true gP rG (cDr PP 10 vJ)
noncomputable def ot:aK:=⟨10,aS oe,[.t 4]⟩
theorem ue:oe=some ot:=by kernel_rfl
def nS (a:D) (b:D) (c:Heap) (K:HK):Prop :=
 vbin .eql b zI fun d=>vcond d (K zI c) (vbin .quo a b fun a=>K a c)
theorem tV (a0:D) (a1:D) (h0:Heap) (K:HK):nS a0 a1 h0 K=eN ot K [a0,a1] h0:=by kernel_rfl
def xC:TL
 | 1000005=>some ([],[5])|_=>none
def Cx:TT
 | _=>none
noncomputable abbrev uV:=cFn PP true eQ xC (cDr PP 16 Cx)
noncomputable def vu:aK:=⟨16,aS uV,[.t 4]⟩
theorem Bd:uV=some vu:=by kernel_rfl
def uF (a:D) (b:D) (c:Heap) (K:HK):Prop :=
 vbin .quo a b fun d=>∃(e:HJ),( ∀(a:Nat->D) (b:Heap),e [a 5] b->K (a 5) b)/\vbin .rem a b fun a=>vbin .lss a zI fun a=>vcond a (vbin .sub d (.int .i64 1) fun a=>aH [] []/\e [a] c) (aH [] []/\e [d] c)
theorem AT (a0:D) (a1:D) (h0:Heap) (K:HK):uF a0 a1 h0 K=eN vu K [a0,a1] h0:=by kernel_rfl
def xD:TL
 | _=>none
def Cy:TT
 | _=>none
noncomputable abbrev uW:=cFn PP true nh xD (cDr PP 15 Cy)
noncomputable def vv:aK:=⟨15,aS uW,[.t 4]⟩
theorem Be:uW=some vv:=by kernel_rfl
def uG (a:D) (b:D) (c:Heap) (K:HK):Prop :=
 vbin .lss b zI fun d=>vcond d (vun .neg a fun a=>vun .neg b fun b=>ag PP eQ [a,b] c fun a b=>K a b) (ag PP eQ [a,b] c fun a b=>K a b)
theorem AU (a0:D) (a1:D) (h0:Heap) (K:HK):uG a0 a1 h0 K=eN vv K [a0,a1] h0:=by kernel_rfl
def nI:TL
 | 1000005=>some ([0,5],[6])|_=>none
def qp:TT
 | 5=>some ([0,0,0,4,0,16,48,112,240,0,1008,2032,4080,8176,16368,32764,65534,131071],[3,17],[999999])|6=>some ([0,0,1,7],[3],[])|_=>none
noncomputable abbrev kI:=cFn PP true ff nI (cDr PP 39 qp)
noncomputable def kN:aK:=⟨39,aS kI,[.t 4,.cell 5 3 true]⟩
theorem pJ:kI=some kN:=by kernel_rfl
def kE (a:D) (b:D) (c:Heap) (K:HK):Prop :=
 ab PP (.alloc (.agg [zI,zI,zJ])) c fun c d=>ag PP an [a] d fun d e=>vbin .rem d (.int .i64 5) fun d=>∃(f:HJ),( ∀(b:Nat->D) (d:Heap),f [b 6] d->ag PP aZ [a] d fun d e=>ab PP (.alloc (.agg [zI,zI,zJ])) e fun e f=>xS e d 3 f fun d f=>yL e 3 true f fun d=>yF a 0 f fun g=>yF g 2 f fun h=>yF h 5 f fun i=>yL i 1 false f fun j=>yI j (b 6) 4 f fun k=>yF k 3 f fun l=>yL l 1 false f fun m=>vbin .sub m (.int .i64 1) fun n=>aq PP (.conv .i32 (.c n)) f fun n=>ag PP aY [a] f fun f o=>((yL e 3 true o fun a=>aH [a] [d])/\(yF a 0 o fun a=>aH [a] [g])/\(yF g 2 o fun a=>aH [a] [h])/\(yF h 5 o fun a=>aH [a] [i])/\(yL i 1 false o fun a=>aH [a] [j])/\(yI j (b 6) 4 o fun a=>aH [a] [k])/\(yF k 3 o fun a=>aH [a] [l])/\(yL l 1 false o fun a=>aH [a] [m])/\True)/\aq PP (.call eP [(.c n)]) o fun g=>aq PP (.bld [zI,zI,zI,zI,zI,zJ,zI,zI,zJ,zI,zI,zJ,zI,zI,zJ] [(0,1,(.c (.int .i64 3))),(1,1,(.c (.int .i64 17))),(3,3,(.c d)),(6,3,(.c f)),(9,3,(.c g))]) o fun d=>ag PP aO [a,d] o fun a d=>yL e 3 true d fun a=>xS c a 3 d fun a d=>xL c 3 true d fun a c=>K (.tup [(b 6),a]) d)/\vbin .eql d (.int .i64 3) fun g=>vguard g true (fun a=>a b e) e fun b e=>vguard g true (fun a=>vun .not b fun b=>a b e) e fun b e=>ab PP (.pick (.c g) (.c b) (.c (.bool false))) e fun b e=>vcond b (aH [a,c] [a,c]/\f [zI] e) (aH [a,c] [a,c]/\f [d] e)
theorem pE (a0:D) (a1:D) (h0:Heap) (K:HK):kE a0 a1 h0 K=eN kN K [a0,a1] h0:=by kernel_rfl
def qC:TL
 | _=>none
def tI:TT
 | _=>none
noncomputable abbrev mT:=cFn PP true gp qC (cDr PP 31 tI)
noncomputable def m4:aK:=⟨31,aS mT,[.t 4]⟩
theorem tj:mT=some m4:=by kernel_rfl
def mM (a:D) (b:D) (c:Heap) (K:HK):Prop :=
 xF a 0 c fun c d=>xF c 0 d fun c d=>xF c 5 d fun c d=>xL c 1 false d fun c d=>xI c b 4 d fun b c=>xF b 1 c fun b c=>xL b 1 false c fun b c=>vbin .eql b (.int .i64 1) fun d=>vcond d (xF a 0 c fun a b=>xF a 17 b fun a b=>xL a 1 false b fun a b=>K a b) (vbin .eql b (.int .i64 2) fun b=>vcond b (xF a 0 c fun a b=>xF a 18 b fun a b=>xL a 1 false b fun a b=>K a b) (xF a 0 c fun a b=>xF a 10 b fun a b=>xF a 5 b fun a b=>xL a 1 false b fun a b=>K a b))
theorem sD (a0:D) (a1:D) (h0:Heap) (K:HK):mM a0 a1 h0 K=eN m4 K [a0,a1] h0:=by kernel_rfl
def qu:TL
 | _=>none
def tC:TT
 | 4=>some ([0,0,3,7,0,0,48,112,15,511],[],[])|_=>none
noncomputable abbrev mN:=cFn PP true iV qu (cDr PP 23 tC)
noncomputable def mU:aK:=⟨23,aS mN,[.t 4,.t 5]⟩
theorem sT:mN=some mU:=by kernel_rfl
def mD (a:D) (b:D) (c:Heap) (K:HK):Prop :=
 vbin .eql b zJ fun d=>vcond d (K (.tup [zJ,a]) c) (ab PP (.conv .i64 (.c a)) c fun a c=>ab PP (.conv .i64 (.c b)) c fun b c=>vbin .quo a b fun d=>aq PP (.conv .i32 (.c d)) c fun d=>vbin .rem a b fun a=>aq PP (.conv .i32 (.c a)) c fun a=>K (.tup [d,a]) c)
theorem sf (a0:D) (a1:D) (h0:Heap) (K:HK):mD a0 a1 h0 K=eN mU K [a0,a1] h0:=by kernel_rfl
def vZ:TL
 | 1000005=>some ([],[5])|_=>none
def zM:TT
 | 1=>some ([0,0,3,0,0,24,7,127],[],[])|_=>none
noncomputable abbrev sG:=cFn PP true lC vZ (cDr PP 25 zM)
noncomputable def sU:aK:=⟨25,aS sG,[.t 4]⟩
theorem yZ:sG=some sU:=by kernel_rfl
def sg (a:D) (b:D) (c:Heap) (K:HK):Prop :=
 vbin .quo a b fun d=>vbin .rem a b fun a=>∃(e:HJ),( ∀(a:Nat->D) (b:Heap),e [a 5] b->K (a 5) b)/\vbin .neq a zI fun f=>vguard f true (fun b=>b a c) c fun a c=>vguard f true (fun b=>vbin .lss a zI fun a=>b a c) c fun a c=>vguard f true (fun a=>a b c) c fun b c=>vguard f true (fun a=>vbin .lss b zI fun b=>a b c) c fun b c=>vguard f true (fun d=>ab PP (.eqv true false [.b] (.c a) (.c b)) c fun a b=>d a b) c fun a b=>ab PP (.pick (.c f) (.c a) (.c (.bool false))) b fun a b=>vcond a (vbin .sub d (.int .i64 1) fun a=>aH [] []/\e [a] b) (aH [] []/\e [d] b)
theorem xZ (a0:D) (a1:D) (h0:Heap) (K:HK):sg a0 a1 h0 K=eN sU K [a0,a1] h0:=by kernel_rfl
def rE:TL
 | _=>none
def vI:TT
 | _=>none
noncomputable abbrev od:=cFn PP true gN rE (cDr PP 45 vI)
noncomputable def oo:aK:=⟨45,aS od,[.t 6,.t 7]⟩
theorem ud:od=some oo:=by kernel_rfl
def nP (a:D) (b:D) (c:D) (d:Heap) (K:HK):Prop :=
 vbin .eql a (.int .i64 24) fun e=>vcond e (vbin .eql b c fun a=>ag PP cn [a] d fun a b=>K (.tup [a,zI]) b) (vbin .eql a (.int .i64 25) fun e=>vcond e (vbin .neq b c fun a=>ag PP cn [a] d fun a b=>K (.tup [a,zI]) b) (vbin .eql a (.int .i64 26) fun e=>vcond e (vbin .lss b c fun a=>ag PP cn [a] d fun a b=>K (.tup [a,zI]) b) (vbin .eql a (.int .i64 27) fun e=>vcond e (vbin .leq b c fun a=>ag PP cn [a] d fun a b=>K (.tup [a,zI]) b) (vbin .eql a (.int .i64 28) fun e=>vcond e (vbin .gtr b c fun a=>ag PP cn [a] d fun a b=>K (.tup [a,zI]) b) (vbin .eql a (.int .i64 29) fun a=>vcond a (vbin .geq b c fun a=>ag PP cn [a] d fun a b=>K (.tup [a,zI]) b) (K (.tup [zJ,(.int .i64 1)]) d))))))
theorem tU (a0:D) (a1:D) (a2:D) (h0:Heap) (K:HK):nP a0 a1 a2 h0 K=eN oo K [a0,a1,a2] h0:=by kernel_rfl
end Go.Am
namespace Go.Am
open Go Go.Proofs
def CI:TL
 | 1000014=>some ([],[])|1000010=>some ([1],[])|_=>none
def FJ:TT
 | _=>none
noncomputable abbrev BU:=cFn PP true rj CI (cDr PP 28 FJ)
noncomputable def Ce:aK:=⟨28,aS BU,[.t 4,.t 5]⟩
theorem Fv:BU=some Ce:=by kernel_rfl
def BI (a:D) (b:D) (c:Heap) (K:HK):Prop :=
 ∃(d:HJ),( ∀(a:Nat->D) (b:Heap),d [] b->K (.tup [zJ,(.int .i64 1)]) b)/\∃(e:HJ),( ∀(a:Nat->D) (c:Heap),e [] c->vun .neg b fun a=>K (.tup [a,zI]) c)/\vbin .eql a (.int .i64 3) fun f=>vcond f (vbin .geq b zJ fun a=>vcond a (K (.tup [b,zI]) c) (aH [b] [b]/\e [] c)) (vbin .eql a (.int .i64 1) fun f=>vcond f (aH [b] [b]/\e [] c) (vbin .eql a (.int .i64 2) fun e=>vcond e (vun .xor b fun a=>K (.tup [a,zI]) c) (vbin .eql a (.int .i64 4) fun e=>vcond e (vbin .shl b (.int .u64 16) fun a=>K (.tup [a,zI]) c) (vbin .eql a (.int .i64 5) fun a=>vcond a (vbin .shr b (.int .u64 16) fun a=>K (.tup [a,zI]) c) (aH [] []/\d [] c)))))
theorem Fa (a0:D) (a1:D) (h0:Heap) (K:HK):BI a0 a1 h0 K=eN Ce K [a0,a1] h0:=by kernel_rfl
def CR:TL
 | 1000023=>some ([],[13])|_=>none
def FR:TT
 | _=>none
noncomputable abbrev Cc:=cFn PP true rA CR (cDr PP 63 FR)
noncomputable def Cm:aK:=⟨63,aS Cc,[.t 8,.t 9]⟩
theorem FE:Cc=some Cm:=by kernel_rfl
def BQ (a:D) (b:D) (c:D) (d:D) (e:Heap) (K:HK):Prop :=
 ab PP (.box (.c a)) e fun a e=>ab PP (.box (.c b)) e fun b e=>xF b 0 e fun b e=>xL b 1 false e fun b e=>xF a 0 e fun e f=>xL e 1 false f fun e f=>vbin .mul b e fun b=>vbin .lss c zI fun e=>vguard e false (fun a=>a c f) f fun f g=>vguard e false (fun a=>a b g) g fun g h=>vguard e false (fun a=>vbin .geq f g fun b=>a b h) h fun f g=>ab PP (.pick (.c e) (.c (.bool true)) (.c f)) g fun e f=>vcond e (K (.tup [zJ,(.int .i64 1)]) f) (xL a 8 true f fun e f=>ag PP ru [e,c] f fun e f=>ab PP (.ext (.c e) 0) f fun f g=>ab PP (.ext (.c e) 1) g fun e g=>∃(h:HJ),( ∀(a:Nat->D) (b:Heap),h [a 13] b->ab PP (.conv .i32 (.c (a 13))) b fun a b=>K (.tup [a,zI]) b)/\vbin .eql d (.int .i64 1) fun i=>vcond i (aH [] []/\h [c] g) (vbin .eql d (.int .i64 2) fun c=>vcond c (aH [] []/\h [e] g) (vbin .eql d (.int .i64 3) fun c=>vcond c (aH [] []/\h [f] g) (vbin .eql d (.int .i64 4) fun c=>vcond c (aH [] []/\h [b] g) (vbin .eql d (.int .i64 5) fun b=>vcond b (xF a 0 g fun a b=>xL a 1 false b fun a b=>aH [] []/\h [a] b) (vbin .eql d (.int .i64 6) fun b=>vcond b (xF a 1 g fun a b=>xL a 1 false b fun a b=>vbin .rem e a fun a=>aH [] []/\h [a] b) (vbin .eql d (.int .i64 7) fun b=>vcond b (xF a 1 g fun a b=>xL a 1 false b fun a b=>vbin .quo e a fun a=>aH [] []/\h [a] b) (K (.tup [zJ,(.int .i64 1)]) g))))))))
theorem Fk (a0:D) (a1:D) (a2:D) (a3:D) (h0:Heap) (K:HK):BQ a0 a1 a2 a3 h0 K=eN Cm K [a0,a1,a2,a3] h0:=by kernel_rfl
def EJ:TL
 | _=>none
def GM:TT
 | 1=>some ([0,0,2,7,0,0,32,112,15,511],[],[])|_=>none
noncomputable abbrev Fq:=cFn PP true vW EJ (cDr PP 14 GM)
noncomputable def Fz:aK:=⟨14,aS Fq,[.t 4,.t 5]⟩
theorem Ga:Fq=some Fz:=by kernel_rfl
def Ff (a:D) (b:D) (c:Heap) (K:HK):Prop :=
 ab PP (.box (.c a)) c fun a c=>yF a 0 c fun d=>yL d 1 false c fun d=>vbin .quo b d fun d=>yF a 0 c fun a=>yL a 1 false c fun a=>vbin .rem b a fun a=>K (.tup [d,a]) c
theorem F7 (a0:D) (a1:D) (h0:Heap) (K:HK):Ff a0 a1 h0 K=eN Fz K [a0,a1] h0:=by kernel_rfl
def vY:TL
 | _=>none
def zL:TT
 | _=>none
noncomputable abbrev sF:=cFn PP true cn vY (cDr PP 4 zL)
noncomputable def sS:aK:=⟨4,aS sF,[.t 2]⟩
theorem yY:sF=some sS:=by kernel_rfl
def rZ (a:D) (b:Heap) (K:HK):Prop :=
 vcond a (K (.int .i32 1) b) (K (.int .i32 0) b)
theorem xY (a0:D) (h0:Heap) (K:HK):rZ a0 h0 K=eN sS K [a0] h0:=by kernel_rfl
def CQ:TL
 | _=>none
def FQ:TT
 | 1=>some ([0,0,2,7,0,0,32,112,15,511],[],[])|_=>none
noncomputable abbrev Cb:=cFn PP true ru CQ (cDr PP 14 FQ)
noncomputable def Cl:aK:=⟨14,aS Cb,[.t 4,.t 5]⟩
theorem FD:Cb=some Cl:=by kernel_rfl
def BP (a:D) (b:D) (c:Heap) (K:HK):Prop :=
 ab PP (.box (.c a)) c fun a c=>yF a 0 c fun d=>yL d 1 false c fun d=>vbin .quo b d fun d=>yF a 0 c fun a=>yL a 1 false c fun a=>vbin .rem b a fun a=>K (.tup [d,a]) c
theorem Fj (a0:D) (a1:D) (h0:Heap) (K:HK):BP a0 a1 h0 K=eN Cl K [a0,a1] h0:=by kernel_rfl
end Go.Am
namespace Go.Am
open Go Go.Proofs
def lS (a:D) (b:Heap) (K:HK):Prop :=
 xF a 0 b fun b c=>xF b 2 c fun b c=>xF b 6 c fun b c=>xL b 1 false c fun b c=>bP b c fun b=>vbin .mul (.int .i64 2) b fun b=>vbin .add (.int .i64 6) b fun b=>ag PP an [a] c fun c d=>vbin .rem c (.int .i64 3) fun c=>vbin .add (.int .i64 1) c fun c=>vbin .add b (.int .i64 2) fun e=>xF a 0 d fun d f=>xF d 2 f fun d f=>xF d 2 f fun d f=>xS d e 1 f fun d e=>xF a 0 e fun d e=>xF d 2 e fun d e=>xF d 7 e fun d e=>xL d 1 false e fun d e=>bP d e fun d=>ag PP dD [b] e fun e f=>ag PP eP [zJ] f fun f g=>ab PP (.bld [zI,zI,zI,zI,zI,zJ,zI,zI,zJ,zI,zI,zJ,zI,zI,zJ] [(0,1,(.c (.int .i64 1))),(3,3,(.c e)),(6,3,(.c f))]) g fun e f=>ag PP aO [a,e] f fun e f=>xF a 0 f fun e f=>xF e 2 f fun e f=>xF e 7 f fun e f=>xL e 1 false f fun e f=>vbin .sub d (.int .i64 1) fun g=>ab PP (.bld [zI,zI] [(0,1,(.c d)),(1,1,(.c zI))]) f fun f h=>ab PP (.bld [zI,zI,zI,zI,zJ,zI,zI,zJ,zI,zI,zJ,zI,zI] [(0,1,(.c (.int .i64 1))),(11,2,(.c f))]) h fun f h=>xI e g 14 h fun e g=>xF e 1 g fun e g=>xS e f 13 g fun e f=>∃(e:HJ),( ∀(a:Nat->D) (b:Heap),e [a 0,a 2,a 3,a 4] b->ag PP bk [(a 0)] b fun b c=>vbin .add (a 2) (.int .i64 1) fun b=>ag PP dD [b] c fun b c=>ag PP dD [(a 2)] c fun c d=>ab PP (.conv .i32 (.c (a 3))) d fun d e=>ag PP eP [d] e fun d e=>ab PP (.bld [zI,zI,zI,zI,zI,zJ,zI,zI,zJ,zI,zI,zJ,zI,zI,zJ] [(0,1,(.c (.int .i64 3))),(1,1,(.c (.int .i64 26))),(3,3,(.c b)),(6,3,(.c c)),(9,3,(.c d))]) e fun b c=>ag PP aO [(a 0),b] c fun b c=>yF (a 0) 0 c fun b=>yF b 2 c fun b=>yF b 7 c fun b=>yL b 1 false c fun b=>vbin .add (a 2) (.int .i64 1) fun d=>aq PP (.call dD [(.c d)]) c fun d=>vbin .add (a 4) (.int .i64 1) fun e=>vbin .add (a 4) (.int .i64 2) fun f=>aq PP (.bld [zI,zI] [(0,1,(.c e)),(1,1,(.c f))]) c fun e=>aq PP (.bld [zI,zI,zI,zI,zJ,zI,zI,zJ,zI,zI,zJ,zI,zI] [(0,1,(.c (.int .i64 2))),(5,3,(.c d)),(11,2,(.c e))]) c fun d=>yI b (a 4) 14 c fun b=>yF b 1 c fun b=>xS b d 13 c fun b c=>ag PP bk [(a 0)] c fun b c=>ag PP dD [(a 2)] c fun b c=>ag PP dD [(a 2)] c fun c d=>ag PP eP [(.int .i32 1)] d fun d e=>ab PP (.bld [zI,zI,zI,zI,zI,zJ,zI,zI,zJ,zI,zI,zJ,zI,zI,zJ] [(0,1,(.c (.int .i64 3))),(1,1,(.c (.int .i64 10))),(3,3,(.c b)),(6,3,(.c c)),(9,3,(.c d))]) e fun b c=>ag PP aO [(a 0),b] c fun b c=>ag PP ct [(a 0)] c fun b c=>xF (a 0) 0 c fun b c=>xF b 2 c fun b c=>xF b 7 c fun b c=>xL b 1 false c fun b c=>vbin .add (a 4) (.int .i64 1) fun d=>ab PP (.bld [zI,zI] [(0,1,(.c (a 4))),(1,1,(.c zI))]) c fun c e=>ab PP (.bld [zI,zI,zI,zI,zJ,zI,zI,zJ,zI,zI,zJ,zI,zI] [(0,1,(.c (.int .i64 1))),(11,2,(.c c))]) e fun c e=>xI b d 14 e fun b d=>xF b 1 d fun b d=>xS b c 13 d fun b c=>∃(b:HJ),( ∀(a:Nat->D) (c:Heap),b [a 0,a 4,a 119] c->vcond (a 119) (yF (a 0) 0 c fun b=>yF b 2 c fun d=>yF d 7 c fun e=>yL e 1 false c fun f=>vbin .add (a 4) (.int .i64 1) fun g=>vbin .add (a 4) (.int .i64 2) fun h=>aq PP (.bld [zI,zI] [(0,1,(.c (a 4))),(1,1,(.c h))]) c fun h=>ag PP aZ [(a 0)] c fun c i=>((yF (a 0) 0 i fun a=>aH [a] [b])/\(yF b 2 i fun a=>aH [a] [d])/\(yF d 7 i fun a=>aH [a] [e])/\(yL e 1 false i fun a=>aH [a] [f])/\True)/\aq PP (.bld [zI,zI,zI,zI,zJ,zI,zI,zJ,zI,zI,zJ,zI,zI] [(0,1,(.c (.int .i64 2))),(5,3,(.c c)),(11,2,(.c h))]) i fun a=>yI f g 14 i fun b=>yF b 1 i fun b=>xS b a 13 i fun a b=>K (.tup []) b) (K (.tup []) c))/\ag PP an [(a 0)] c fun c d=>vbin .rem c (.int .i64 3) fun c=>vbin .eql c zI fun c=>aH [] []/\b [(a 0),(a 4),c] d)/\xF a 0 f fun f g=>xF f 2 g fun f g=>xF f 6 g fun f g=>xL f 1 false g fun f g=>ab PP (.bld [zI,zI,zI] [(0,1,(.c d)),(1,1,(.c b)),(2,1,(.c c))]) g fun g h=>ab PP (.bldS true 3 1 (.agg [zI,zI,zI]) [(0,(.c g))]) h fun g h=>ab PP (.app (.c f) (.c g) 3 24 (.agg [zI,zI,zI])) h fun f g=>xF a 0 g fun g h=>xF g 2 h fun g h=>xF g 6 h fun g h=>xS g f 1 h fun f g=>aH [] []/\e [a,b,c,d] g
set_option maxHeartbeats 0 in
theorem qF (a0:D) (h0:Heap) (K:HK):lS a0 h0 K=eN ma K [a0] h0:=by kernel_rfl
end Go.Am
namespace Go.Am
open Go Go.Proofs
def sB (a:D) (b:D) (c:Heap) (K:HK):Prop :=
 ab PP (.box (.c a)) c fun a c=>ab PP (.box (.c b)) c fun b c=>ab PP (.alloc (.agg [zI,zI,zI,zI,zI,.nil,.nil,.nil,zI,.nil,zI,zI,zI,zI,.nil,.nil,.nil,.nil,.nil,.nil,zI])) c fun c d=>xL a 1 true d fun a d=>ag PP oQ [a] d fun a d=>ab PP (.bld [zI,zI,zI,zI,zI,.nil,.nil,.nil,zI,.nil,zI,zI,zI,zI,.nil,.nil,.nil,.nil,.nil,.nil,zI] [(0,8,(.c a))]) d fun a d=>ab PP (.alloc (.agg [zI,zI,zI,zI,zI,.nil,.nil,.nil,zI,.nil,zI,zI,zI,zI,.nil,.nil,.nil,.nil,.nil,.nil,zI])) d fun d e=>xS d a 21 e fun a e=>∃(a:HJ),( ∀(e:Nat->D) (f:Heap),a [] f->xF d 0 f fun a e=>xL a 8 true e fun a e=>xF b 0 e fun e f=>xL e 13 true f fun e f=>ag PP lJ [a,e] f fun a e=>xF d 8 e fun e f=>xS e a 2 f fun a e=>xF b 13 e fun a e=>xL a 1 false e fun a e=>ab PP (.conv .i64 (.c a)) e fun a e=>xF d 8 e fun e f=>xF e 0 f fun e f=>xL e 1 false f fun e f=>xF d 0 f fun f g=>xF f 0 g fun f g=>xL f 1 false g fun f g=>vbin .mul e f fun e=>vbin .rem a e fun a=>yF d 0 g fun e=>yL e 8 true g fun e=>yF d 8 g fun f=>yL f 2 true g fun f=>yF b 14 g fun h=>yL h 1 false g fun h=>vbin .rem h (.int .u8 13) fun h=>aq PP (.conv .i64 (.c h)) g fun h=>yF d 0 g fun i=>yL i 8 true g fun i=>yF b 0 g fun b=>yL b 13 true g fun b=>aq PP (.call lI [(.c i),(.c b)]) g fun b=>aq PP (.call m9 [(.c e),(.c f),(.c a),(.c h),(.c b)]) g fun a=>yF d 10 g fun b=>xS b a 11 g fun a b=>xL d 21 true b fun a b=>xS c a 21 b fun a b=>xL c 21 true b fun a c=>K a b)/\xF b 13 e fun e f=>xL e 1 false f fun e f=>vbin .geq e (.int .u8 128) fun e=>vcond e (xF d 0 f fun e f=>xL e 8 true f fun e f=>ag PP lH [e] f fun e f=>xF d 0 f fun f g=>xS f e 8 g fun e f=>aH [b,c,d] [b,c,d]/\a [] f) (aH [b,c,d] [b,c,d]/\a [] f)
set_option maxHeartbeats 0 in
theorem yv (a0:D) (a1:D) (h0:Heap) (K:HK):sB a0 a1 h0 K=eN th K [a0,a1] h0:=by kernel_rfl
end Go.Am
namespace Go.Am
open Go Go.Proofs
end Go.Am
namespace Go.Am
open Go Go.Proofs
end Go.Am
namespace Go.Am
open Go Go.Proofs
end Go.Am
namespace Go.Am
open Go Go.Proofs
end Go.Am
namespace Go.Am
open Go Go.Proofs
def mL (a:D) (b:D) (c:D) (d:Heap) (K:HK):Prop :=
 ab PP (.box (.c a)) d fun a d=>ab PP (.box (.c b)) d fun b d=>ab PP (.box (.c c)) d fun c d=>ag PP jq [] d fun d e=>vun .not d fun f=>vcond f (K (.bool false) e) (xL a 1 true e fun a e=>xL b 15 true e fun b e=>ag PP iW [a,b] e fun a b=>ab PP (.alloc (.agg [zI,zI,zI,zI,zI,.nil,.nil,.nil,zI,.nil,zI,zI,zI,zI,.nil,.nil,.nil,.nil,.nil,.nil,zI])) b fun b e=>xS b a 21 e fun a e=>yF b 10 e fun a=>yF a 7 e fun f=>yL f 1 false e fun g=>yF b 10 e fun h=>yF h 0 e fun i=>yL i 7 true e fun j=>ag PP fJ [g] e fun e k=>((yF b 10 k fun a=>aH [a] [h])/\(yF h 0 k fun a=>aH [a] [i])/\(yL i 7 true k fun a=>aH [a] [j])/\True)/\ag PP gO [j] k fun k l=>ab PP (.alloc (.agg [zI,zI,zI,zI,.nil,.nil,.nil])) l fun l m=>((yF b 10 m fun b=>aH [b] [a])/\(yF a 7 m fun a=>aH [a] [f])/\(yL f 1 false m fun a=>aH [a] [g])/\(yF b 10 m fun a=>aH [a] [h])/\(yF h 0 m fun a=>aH [a] [i])/\(yL i 7 true m fun a=>aH [a] [j])/\True)/\xS l k 7 m fun a f=>xF b 0 f fun a f=>xL a 8 true f fun a f=>xF b 8 f fun f g=>xL f 2 true g fun f g=>xF b 10 g fun g h=>xL g 11 true h fun g h=>ag PP eK [a,f,g,zI] h fun a f=>ab PP (.alloc (.agg [zI,zI,zI,zI,.nil,.nil,.nil,.nil,.nil,.nil,zI])) f fun f g=>xS f a 11 g fun a g=>∃(a:HJ),( ∀(b:Nat->D) (c:Heap),a [b 5,b 7,b 8,b 9,b 11] c->xF (b 11) 10 c fun a c=>xL a 1 false c fun a c=>vbin .neq a zI fun a=>vguard a false (fun a=>a (b 9) c) c fun c d=>vguard a false (fun a=>bP c d fun b=>a b d) d fun c d=>vguard a false (fun a=>vbin .eql c zI fun b=>a b d) d fun c d=>ab PP (.pick (.c a) (.c (.bool true)) (.c c)) d fun a c=>vcond a (K (b 7) c) (ab PP (.iadda (.c (b 5)) (.c zI) 3 1) c fun a c=>xL a 1 false c fun a c=>vbin .and a (.int .i64 15) fun a=>bP (b 9) c fun d=>vbin .rem a d fun a=>xI (b 9) a 1 c fun c d=>xL c 1 false d fun c d=>bP c d fun c=>vbin .eql c zI fun c=>vcond c (K (b 7) d) (aq PP (.iadda (.c (b 5)) (.c (.int .i64 1)) 3 1) d fun c=>yL c 1 false d fun c=>vbin .and c (.int .i64 65535) fun c=>yI (b 9) a 1 d fun e=>yL e 1 false d fun e=>bP e d fun e=>vbin .rem c e fun c=>xF (b 11) 9 d fun d e=>xL d 1 false e fun d e=>ag PP jZ [d,a,c] e fun d e=>vcond d (K (b 7) e) (xF (b 8) 10 e fun d e=>xL d 11 true e fun d e=>ab PP (.alloc (.agg [zI,zI,zI,zI,.nil,.nil,.nil,.nil,.nil,.nil,zI])) e fun e f=>xS e d 11 f fun d f=>∃(d:HJ),( ∀(a:Nat->D) (b:Heap),d [a 5,a 7,a 8,a 9,a 11,a 12,a 13,a 14] b->yI (a 9) (a 12) 1 b fun c=>yL c 1 false b fun c=>aq PP (.iadda (.c (a 5)) (.c (.int .i64 2)) 3 1) b fun d=>yL d 1 false b fun d=>aq PP (.conv .i32 (.c d)) b fun d=>yI c (a 13) 1 b fun c=>xS c d 1 b fun b c=>xF (a 8) 0 c fun b c=>xL b 8 true c fun b c=>xF (a 8) 8 c fun c d=>xL c 2 true d fun c d=>xL (a 14) 11 true d fun d e=>ag PP eK [b,c,d,zI] e fun b c=>ab PP (.alloc (.agg [zI,zI,zI,zI,.nil,.nil,.nil,.nil,.nil,.nil,zI])) c fun c d=>xS c b 11 d fun b d=>∃(b:HJ),( ∀(a:Nat->D) (c:Heap),b [a 7,a 11,a 12,a 13,a 15] c->xF (a 15) 7 c fun b c=>xL b 1 false c fun b c=>ag PP fJ [b] c fun b c=>yI b (a 12) 1 c fun d=>yL d 1 false c fun d=>yF (a 11) 7 c fun e=>yL e 1 false c fun e=>yI e (a 12) 1 c fun e=>yL e 1 false c fun e=>yI e (a 13) 1 c fun e=>yL e 1 false c fun e=>yI d (a 13) 1 c fun d=>xS d e 1 c fun c d=>xF (a 11) 7 d fun c d=>xL c 1 false d fun c d=>ag PP dp [b,c] d fun b c=>vguard b true (fun b=>xF (a 11) 8 c fun a c=>b a c) c fun c d=>vguard b true (fun a=>xL c 1 false d fun b c=>a b c) d fun c d=>vguard b true (fun b=>xF (a 15) 8 d fun a c=>b a c) d fun d e=>vguard b true (fun a=>xL d 1 false e fun b c=>a b c) e fun d e=>vguard b true (fun a=>ag PP dp [c,d] e fun b c=>a b c) e fun c d=>ab PP (.pick (.c b) (.c c) (.c (.bool false))) d fun b c=>vguard b true (fun b=>b (a 7) c) c fun a c=>ab PP (.pick (.c b) (.c a) (.c (.bool false))) c fun a b=>K a b)/\yF c 10 d fun e=>yL e 1 false d fun e=>yF (a 11) 10 d fun f=>yL f 1 false d fun f=>vbin .neq e f fun e=>ak e false (fun b=>yF (a 11) 0 d fun a=>b a) fun f=>ak e false (fun a=>yL f 7 true d fun b=>a b) fun f=>ak e false (fun a=>yF c 0 d fun b=>a b) fun g=>ak e false (fun a=>yL g 7 true d fun b=>a b) fun g=>ak e false (fun a=>aq PP (.call kU [(.c f),(.c g)]) d fun b=>a b) fun f=>ak e false (fun a=>vun .not f fun b=>a b) fun f=>aq PP (.pick (.c e) (.c (.bool true)) (.c f)) d fun e=>ak e false (fun b=>yF (a 11) 9 d fun a=>b a) fun f=>ak e false (fun a=>yL f 1 false d fun b=>a b) fun f=>ak e false (fun a=>yF c 9 d fun b=>a b) fun g=>ak e false (fun a=>yL g 1 false d fun b=>a b) fun g=>ak e false (fun a=>aq PP (.call dU [(.c f),(.c g)]) d fun b=>a b) fun f=>ak e false (fun a=>vun .not f fun b=>a b) fun f=>aq PP (.pick (.c e) (.c (.bool true)) (.c f)) d fun e=>ak e false (fun a=>yF c 7 d fun b=>a b) fun f=>ak e false (fun a=>yL f 1 false d fun b=>a b) fun f=>ak e false (fun a=>bP f d fun b=>a b) fun f=>ak e false (fun b=>b (a 9)) fun g=>ak e false (fun a=>bP g d fun b=>a b) fun g=>ak e false (fun a=>vbin .neq f g fun b=>a b) fun f=>aq PP (.pick (.c e) (.c (.bool true)) (.c f)) d fun e=>ak e false (fun a=>yF c 7 d fun b=>a b) fun f=>ak e false (fun a=>yL f 1 false d fun b=>a b) fun f=>ak e false (fun b=>b (a 12)) fun g=>ak e false (fun a=>yI f g 1 d fun b=>a b) fun f=>ak e false (fun a=>yL f 1 false d fun b=>a b) fun f=>ak e false (fun a=>bP f d fun b=>a b) fun f=>ak e false (fun b=>b (a 9)) fun g=>ak e false (fun b=>b (a 12)) fun h=>ak e false (fun a=>yI g h 1 d fun b=>a b) fun g=>ak e false (fun a=>yL g 1 false d fun b=>a b) fun g=>ak e false (fun a=>bP g d fun b=>a b) fun g=>ak e false (fun a=>vbin .neq f g fun b=>a b) fun f=>aq PP (.pick (.c e) (.c (.bool true)) (.c f)) d fun e=>ak e false (fun a=>yF c 7 d fun b=>a b) fun f=>ak e false (fun a=>yL f 1 false d fun b=>a b) fun f=>ak e false (fun b=>b (a 12)) fun g=>ak e false (fun a=>yI f g 1 d fun b=>a b) fun f=>ak e false (fun a=>yL f 1 false d fun b=>a b) fun f=>ak e false (fun b=>b (a 13)) fun g=>ak e false (fun a=>yI f g 1 d fun b=>a b) fun f=>ak e false (fun a=>yL f 1 false d fun b=>a b) fun f=>ak e false (fun b=>aq PP (.iadda (.c (a 5)) (.c (.int .i64 2)) 3 1) d fun a=>b a) fun g=>ak e false (fun a=>yL g 1 false d fun b=>a b) fun g=>ak e false (fun a=>aq PP (.conv .i32 (.c g)) d fun b=>a b) fun g=>ak e false (fun a=>vbin .neq f g fun b=>a b) fun f=>aq PP (.pick (.c e) (.c (.bool true)) (.c f)) d fun e=>vcond e (K (.bool false) d) (aH [] []/\b [(a 7),(a 11),(a 12),(a 13),c] d))/\xF e 7 f fun f g=>xS f (b 9) 1 g fun f g=>aH [] []/\d [(b 5),(b 7),(b 8),(b 9),(b 11),a,c,e] g))))/\xF b 10 g fun g h=>xF g 7 h fun g h=>xL g 1 false h fun g h=>ag PP dp [e,g] h fun g h=>vun .not g fun g=>vguard g false (fun a=>xL l 7 true h fun b c=>a b c) h fun h i=>vguard g false (fun a=>xF b 10 i fun b c=>a b c) i fun i j=>vguard g false (fun a=>xF i 0 j fun b c=>a b c) j fun i j=>vguard g false (fun a=>xL i 7 true j fun b c=>a b c) j fun i j=>vguard g false (fun a=>ag PP kU [h,i] j fun b c=>a b c) j fun h i=>vguard g false (fun a=>vun .not h fun b=>a b i) i fun h i=>ab PP (.pick (.c g) (.c (.bool true)) (.c h)) i fun g h=>vcond g (K (.bool false) h) (aH [] []/\a [c,d,b,e,f] h))
set_option maxHeartbeats 0 in
theorem sC (a0:D) (a1:D) (a2:D) (h0:Heap) (K:HK):mL a0 a1 a2 h0 K=eN mZ K [a0,a1,a2] h0:=by kernel_rfl
end Go.Am
namespace Go.Am
open Go Go.Proofs
end Go.Am

namespace Go.Am
open Go Go.Proofs
def CP:TL
 | _=>none
def FP:TT
 | 10=>some ([0,1,0,4,15,31,63,127,63,319,1023,2047,4095,8191,8191,8191,40959,131071,262143,524287,1048575,2097151,1048575,8388607,16777215,33554431,67108863,134217727,134217727,402653183,1073741823,2147483647,4294967295,8589934591,17179869183],[],[])|_=>none
noncomputable abbrev Ca:=cFn PP true jq CP (cDr PP 118 FP)
noncomputable def Ck:aK:=⟨118,aS Ca,[.t 0]⟩
theorem FC:Ca=some Ck:=by kernel_rfl
def BO (a:Heap) (K:HK):Prop :=
 ag PP iq [(.int .i64 4)] a fun a b=>ag PP iq [(.int .i64 2)] b fun b c=>ab PP (.bld [zI,.nil] [(0,1,(.c (.int .i64 1)))]) c fun c d=>ab PP (.alloc (.agg [zI,zI,zI,zI,zI,.nil,.nil,.nil])) d fun d e=>ab PP (.alloc (.agg [zI,zI,zI,zI,zI,.nil,.nil,.nil])) e fun e f=>ab PP (.alloc (.agg [zI,.nil])) f fun f g=>xS d a 8 g fun a g=>xS e b 8 g fun a b=>xS f c 2 b fun a b=>xL d 8 true b fun a b=>xL f 2 true b fun b c=>ag PP fZ [a,b,(.int .i64 2)] c fun a b=>ab PP (.alloc (.agg [zI,zI,zI,zI,.nil,.nil,.nil,zI])) b fun b c=>xS b a 8 c fun a c=>xL d 8 true c fun a c=>xL f 2 true c fun c g=>ag PP fZ [a,c,(.int .i64 4)] g fun a c=>ab PP (.alloc (.agg [zI,zI,zI,zI,.nil,.nil,.nil,zI])) c fun c g=>xS c a 8 g fun a g=>xF b 7 g fun a g=>xL a 1 false g fun a g=>vbin .neq a zI fun a=>vguard a false (fun a=>xF c 7 g fun b c=>a b c) g fun c g=>vguard a false (fun a=>xL c 1 false g fun b c=>a b c) g fun c g=>vguard a false (fun a=>vbin .neq c (.int .i64 1) fun b=>a b g) g fun c g=>ab PP (.pick (.c a) (.c (.bool true)) (.c c)) g fun a c=>vguard a false (fun a=>xF b 0 c fun b c=>a b c) c fun c g=>vguard a false (fun a=>xF c 1 g fun b c=>a b c) g fun c g=>vguard a false (fun a=>xL c 1 false g fun b c=>a b c) g fun c g=>vguard a false (fun a=>vbin .neq c (.int .i64 1) fun b=>a b g) g fun c g=>ab PP (.pick (.c a) (.c (.bool true)) (.c c)) g fun a c=>vguard a false (fun a=>xF b 0 c fun b c=>a b c) c fun c g=>vguard a false (fun a=>xF c 4 g fun b c=>a b c) g fun c g=>vguard a false (fun a=>xL c 1 false g fun b c=>a b c) g fun c g=>vguard a false (fun a=>bP c g fun b=>a b g) g fun c g=>vguard a false (fun a=>vbin .neq c (.int .i64 1) fun b=>a b g) g fun c g=>ab PP (.pick (.c a) (.c (.bool true)) (.c c)) g fun a c=>vcond a (K (.bool false) c) (xL d 8 true c fun a c=>xL f 2 true c fun c g=>xF b 0 g fun g h=>xL g 7 true h fun g h=>ab PP (.bldS true 1 4 zJ [(0,(.c zJ)),(1,(.c zJ)),(2,(.c zJ)),(3,(.c zJ))]) h fun h i=>ab PP (.bldS true 1 1 .nil [(0,(.c h))]) i fun h i=>ab PP (.bldS true 1 1 .nil [(0,(.c .nil))]) i fun i j=>ab PP (.bld [zI,zI,zI,zI,.nil,.nil,.nil,.nil,.nil,.nil,zI] [(0,7,(.c g)),(7,1,(.c h)),(8,1,(.c i))]) j fun g h=>ag PP eK [a,c,g,zI] h fun a c=>ab PP (.alloc (.agg [zI,zI,zI,zI,.nil,.nil,.nil,.nil,.nil,.nil,zI])) c fun c g=>xS c a 11 g fun a g=>xL e 8 true g fun a e=>xL f 2 true e fun e g=>xF b 0 g fun g h=>xL g 7 true h fun g h=>ab PP (.bldS true 1 2 zJ [(0,(.c zJ)),(1,(.c zJ))]) h fun h i=>ab PP (.bldS true 1 1 .nil [(0,(.c h))]) i fun h i=>ab PP (.bldS true 1 1 .nil [(0,(.c .nil))]) i fun i j=>ab PP (.bld [zI,zI,zI,zI,.nil,.nil,.nil,.nil,.nil,.nil,zI] [(0,7,(.c g)),(7,1,(.c h)),(8,1,(.c i))]) j fun g h=>ag PP eK [a,e,g,zI] h fun a e=>ab PP (.alloc (.agg [zI,zI,zI,zI,.nil,.nil,.nil,.nil,.nil,.nil,zI])) e fun e g=>xS e a 11 g fun a g=>xF c 10 g fun a g=>xL a 1 false g fun a g=>vbin .neq a zI fun a=>vguard a false (fun a=>xF e 10 g fun b c=>a b c) g fun g h=>vguard a false (fun a=>xL g 1 false h fun b c=>a b c) h fun g h=>vguard a false (fun a=>vbin .neq g (.int .i64 70) fun b=>a b h) h fun g h=>ab PP (.pick (.c a) (.c (.bool true)) (.c g)) h fun a g=>vguard a false (fun a=>xF c 9 g fun b c=>a b c) g fun g h=>vguard a false (fun a=>xL g 1 false h fun b c=>a b c) h fun g h=>vguard a false (fun a=>ab PP (.bld [zI,zI,zI,zI,zI,zI,zI,zI,zJ] [(0,1,(.c (.int .i64 2))),(2,1,(.c (.int .i64 2))),(5,1,(.c (.int .i64 1))),(7,1,(.c (.int .i64 2))),(8,1,(.c (.int .i32 7)))]) h fun b c=>a b c) h fun h i=>vguard a false (fun a=>ab PP (.bldS true 9 1 (.agg [zI,zI,zI,zI,zI,zI,zI,zI,zJ]) [(0,(.c h))]) i fun b c=>a b c) i fun h i=>vguard a false (fun a=>ag PP dU [g,h] i fun b c=>a b c) i fun g h=>vguard a false (fun a=>vun .not g fun b=>a b h) h fun g h=>ab PP (.pick (.c a) (.c (.bool true)) (.c g)) h fun a g=>vguard a false (fun a=>xF e 9 g fun b c=>a b c) g fun g h=>vguard a false (fun a=>xL g 1 false h fun b c=>a b c) h fun g h=>vguard a false (fun a=>bP g h fun b=>a b h) h fun g h=>vguard a false (fun a=>vbin .neq g zI fun b=>a b h) h fun g h=>ab PP (.pick (.c a) (.c (.bool true)) (.c g)) h fun a g=>vguard a false (fun a=>xF c 0 g fun b c=>a b c) g fun g h=>vguard a false (fun a=>xF g 1 h fun b c=>a b c) h fun g h=>vguard a false (fun a=>xL g 1 false h fun b c=>a b c) h fun g h=>vguard a false (fun a=>vbin .neq g (.int .i64 3) fun b=>a b h) h fun g h=>ab PP (.pick (.c a) (.c (.bool true)) (.c g)) h fun a g=>vcond a (K (.bool false) g) (yF c 7 g fun a=>yL a 1 false g fun a=>aq PP (.bldS false 1 4 zJ [(0,(.c zJ)),(1,(.c zJ)),(2,(.c (.int .i32 7))),(3,(.c zJ))]) g fun h=>aq PP (.bldS false 1 1 .nil [(0,(.c h))]) g fun h=>aq PP (.call dp [(.c a),(.c h)]) g fun a=>ak a true (fun a=>yF e 7 g fun b=>a b) fun e=>ak a true (fun a=>yL e 1 false g fun b=>a b) fun e=>ak a true (fun a=>aq PP (.bldS false 1 2 zJ [(0,(.c zJ)),(1,(.c zJ))]) g fun b=>a b) fun h=>ak a true (fun a=>aq PP (.bldS false 1 1 .nil [(0,(.c h))]) g fun b=>a b) fun h=>ak a true (fun a=>aq PP (.call dp [(.c e),(.c h)]) g fun b=>a b) fun e=>aq PP (.pick (.c a) (.c e) (.c (.bool false))) g fun a=>ak a true (fun a=>yL d 8 true g fun b=>a b) fun e=>ak a true (fun a=>yL f 2 true g fun b=>a b) fun f=>ak a true (fun a=>yF c 0 g fun b=>a b) fun c=>ak a true (fun a=>yL c 7 true g fun b=>a b) fun c=>ak a true (fun a=>aq PP (.call kY [(.c e),(.c f),(.c c)]) g fun b=>a b) fun c=>aq PP (.pick (.c a) (.c c) (.c (.bool false))) g fun a=>ak a true (fun a=>yF b 0 g fun b=>a b) fun c=>ak a true (fun a=>yL c 7 true g fun b=>a b) fun c=>ak a true (fun a=>aq PP (.call mq [(.c (.int .i32 9))]) g fun b=>a b) fun e=>ak a true (fun a=>aq PP (.call cU [(.c c),(.c e)]) g fun b=>a b) fun c=>ak a true (fun a=>vbin .eql c (.int .i32 9) fun b=>a b) fun c=>aq PP (.pick (.c a) (.c c) (.c (.bool false))) g fun a=>ak a true (fun a=>yL d 8 true g fun b=>a b) fun c=>ak a true (fun a=>yF b 0 g fun b=>a b) fun b=>ak a true (fun a=>yL b 7 true g fun b=>a b) fun b=>ak a true (fun a=>aq PP (.call kW [(.c c),(.c b),(.c (.int .i32 1))]) g fun b=>a b) fun b=>ak a true (fun a=>aq PP (.fld (.c b) 7 1 false) g fun b=>a b) fun b=>ak a true (fun a=>vbin .eql b (.int .i64 1) fun b=>a b) fun b=>aq PP (.pick (.c a) (.c b) (.c (.bool false))) g fun a=>K a g))
theorem Fi (h0:Heap) (K:HK):BO h0 K=eN Ck K [] h0:=by kernel_rfl
end Go.Am
