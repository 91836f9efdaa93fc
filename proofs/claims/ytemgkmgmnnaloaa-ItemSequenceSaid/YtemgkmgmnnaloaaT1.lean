/- The texts of the functions of this chapter, as the abstract machine has them. No condition. -/
import Derived.Test.YtemgkmgmnnaloaaProg
import Derived.KernelRfl
import Derived.Test.YtemgkmgmnnaloaaA3
set_option linter.unnecessarySimpa false
set_option linter.defProp false
set_option linter.unusedSectionVars false
set_option linter.unusedSimpArgs false
set_option linter.unusedVariables false
namespace Go.Am
open Go Go.Proofs
noncomputable abbrev PP:Program:=Try.prog
abbrev xL (a:D) (n:Nat) (b:Bool) (h:Heap) (K:HK):Prop:=ab PP (.ld (.c a) n b) h K
abbrev yL (a:D) (n:Nat) (b:Bool) (h:Heap) (K:D->Prop):Prop:=aq PP (.ld (.c a) n b) h K
abbrev xF (a:D) (n:Nat) (h:Heap) (K:HK):Prop:=ab PP (.fadd (.c a) n) h K
abbrev yF (a:D) (n:Nat) (h:Heap) (K:D->Prop):Prop:=aq PP (.fadd (.c a) n) h K
abbrev xI (a b:D) (n:Nat) (h:Heap) (K:HK):Prop:=ab PP (.iadd (.c a) (.c b) n) h K
abbrev yI (a b:D) (n:Nat) (h:Heap) (K:D->Prop):Prop:=aq PP (.iadd (.c a) (.c b) n) h K
abbrev xS (a b:D) (n:Nat) (h:Heap) (K:HK):Prop:=ab PP (.st (.c a) (.c b) n) h K
abbrev eF (F:aK) (K:HK) (l:List D) (h:Heap):Prop:=vcC PP F.code (fun x e h'=>match x with|.exit _=>False|.pan=>False|_=>iI PP F.res K e h') (params l 0) h
abbrev zI:D:=.int .i64 0
abbrev zJ:D:=.int .i32 0
def aT:Option aK->bW
 | some F=>F.code
 | none=>.skip
abbrev jB:FuncId:=7
abbrev jl:FuncId:=9
abbrev lC:FuncId:=10
abbrev cQ:FuncId:=11
abbrev lu:FuncId:=12
abbrev kO:FuncId:=13
abbrev lx:FuncId:=14
abbrev fU:FuncId:=15
abbrev jW:FuncId:=16
abbrev oM:FuncId:=18
abbrev cR:FuncId:=19
abbrev mc:FuncId:=20
abbrev me:FuncId:=21
abbrev kQ:FuncId:=22
abbrev iQ:FuncId:=23
abbrev iR:FuncId:=25
abbrev ez:FuncId:=27
abbrev fB:FuncId:=29
abbrev hZ:FuncId:=30
abbrev oN:FuncId:=31
abbrev ly:FuncId:=32
abbrev lA:FuncId:=33
abbrev mR:FuncId:=34
abbrev lz:FuncId:=35
abbrev qZ:FuncId:=36
abbrev gT:FuncId:=37
abbrev mQ:FuncId:=38
abbrev rf:FuncId:=39
abbrev oT:FuncId:=40
abbrev fC:FuncId:=41
abbrev et:FuncId:=42
abbrev fN:FuncId:=43
abbrev mW:FuncId:=44
abbrev bX:FuncId:=45
abbrev bG:FuncId:=46
abbrev jt:FuncId:=50
abbrev ak:FuncId:=51
abbrev lB:FuncId:=52
abbrev er:FuncId:=53
abbrev dK:FuncId:=54
abbrev bm:FuncId:=55
abbrev aZ:FuncId:=56
abbrev aY:FuncId:=57
abbrev cw:FuncId:=58
abbrev gu:FuncId:=59
abbrev eD:FuncId:=60
abbrev aS:FuncId:=61
abbrev jv:FuncId:=62
abbrev gJ:FuncId:=63
abbrev lq:FuncId:=64
abbrev ck:FuncId:=65
abbrev ln:FuncId:=66
abbrev kP:FuncId:=67
abbrev mS:FuncId:=68
abbrev bw:FuncId:=69
abbrev gI:FuncId:=70
abbrev ju:FuncId:=71
abbrev dJ:FuncId:=72
abbrev eQ:FuncId:=73
abbrev gW:FuncId:=74
abbrev jk:FuncId:=75
abbrev kN:FuncId:=76
abbrev cO:FuncId:=77
abbrev mT:FuncId:=78
abbrev aO:FuncId:=79
abbrev dw:FuncId:=80
abbrev eK:FuncId:=81
abbrev il:FuncId:=82
abbrev fL:FuncId:=83
abbrev fM:FuncId:=84
abbrev kM:FuncId:=85
abbrev jm:FuncId:=86
abbrev jX:FuncId:=87
abbrev qW:FuncId:=88
abbrev mb:FuncId:=89
abbrev oQ:FuncId:=90
abbrev oO:FuncId:=91
abbrev mV:FuncId:=92
abbrev cP:FuncId:=93
abbrev gH:FuncId:=94
abbrev eL:FuncId:=95
abbrev mU:FuncId:=96
abbrev eW:FuncId:=97
abbrev gf:FuncId:=98
abbrev iP:FuncId:=99
abbrev lk:FuncId:=100
abbrev gG:FuncId:=101
abbrev qV:FuncId:=102
abbrev qY:FuncId:=103
abbrev vJ:FuncId:=104
abbrev cr:FuncId:=105
abbrev qX:FuncId:=106
end Go.Am
namespace Go.Am
open Go Go.Proofs
end Go.Am
namespace Go.Am
open Go Go.Proofs
def mY:TL
 | 1000009=>some ([],[2,7,8,9])|1000013=>some ([],[7,8,9,10,11])|1000018=>some ([],[7,8,11,12,13])|1000022=>some ([],[7,8,12,14,15])|1000033=>some ([7,8,12,14],[])|24=>some ([7,8,12,14,15],[16])|1000036=>some ([7,12,14,18],[])|_=>none
def oF:TT
 | 11=>some ([0,1,0,4,12,28,0,64,0,448,0,1024,3072,7168,15360,31744,65472,131071,262143],[18],[])|12=>some ([0,1,0,4,0,28,0,64,252,508,1023,2047,4095],[10,12],[])|20=>some ([0,0,2,7,0,16,63,127],[0,3,6],[999999])|30=>some ([0,0,2,0,14,30,63],[],[])|_=>none
noncomputable abbrev jO:=cFn PP true jB mY (cDr PP 240 oF)
noncomputable def jT:aK:=⟨240,aT jO,[.t 6]⟩
theorem oo:jO=some jT:=by kernel_rfl
def vX:TL
 | 1000005=>some ([3,4,5],[])|_=>none
def zH:TT
 | 6=>some ([0,1,0,4,0,0,32,96,224,0,512,0,2048,7680,16383,32767,65535],[16],[])|_=>none
noncomputable abbrev sJ:=cFn PP true lC vX (cDr PP 51 zH)
noncomputable def sZ:aK:=⟨51,aT sJ,[.cell 4 21 true]⟩
theorem zk:sJ=some sZ:=by kernel_rfl
def Ae:TL
 | _=>none
def D8:TT
 | _=>none
noncomputable abbrev yD:=cFn PP true cQ Ae (cDr PP 36 D8)
noncomputable def zj:aK:=⟨36,aT yD,[.cell 8 11 true]⟩
theorem Df:yD=some zj:=by kernel_rfl
def yh (a:D) (b:D) (c:D) (d:D) (e:Heap) (K:HK):Prop :=
 ab PP (.box (.c a)) e fun a e=>ab PP (.box (.c b)) e fun b e=>ab PP (.box (.c c)) e fun c e=>ab PP (.alloc (.agg [zI,zI,zI,zI,.nil,.nil,.nil,.nil,.nil,.nil,zI])) e fun e f=>xL a 8 true f fun a f=>xL b 2 true f fun b f=>xF c 0 f fun f g=>xL f 7 true g fun f g=>xF c 7 g fun g h=>xL g 1 false h fun g h=>xF c 8 h fun c h=>xL c 1 false h fun c h=>ag PP qZ [a,b,f,g,c,d] h fun a b=>ab PP (.ext (.c a) 0) b fun b c=>ab PP (.ext (.c a) 1) c fun c d=>ab PP (.ext (.c a) 2) d fun d f=>ab PP (.ext (.c a) 3) f fun f g=>ab PP (.ext (.c a) 4) g fun a g=>ab PP (.alloc (.agg [zI,zI,zI,zI,.nil,.nil,.nil])) g fun g h=>xS g b 7 h fun b h=>xL g 7 true h fun b g=>ab PP (.bld [zI,zI,zI,zI,.nil,.nil,.nil,.nil,.nil,.nil,zI] [(0,7,(.c b)),(7,1,(.c c)),(8,1,(.c d)),(9,1,(.c f)),(10,1,(.c a))]) g fun a b=>xS e a 11 b fun a b=>xL e 11 true b fun a c=>K a b
theorem CV (a0:D) (a1:D) (a2:D) (a3:D) (h0:Heap) (K:HK):yh a0 a1 a2 a3 h0 K=eF zj K [a0,a1,a2,a3] h0:=by kernel_rfl
def vR:TL
 | 1000015=>some ([5,10,12],[])|8=>some ([4,5,6,7,10,11,12,13],[14])|_=>none
def zB:TT
 | 5=>some ([0,1,0,4,15,0,32,127,255,0,1023],[1,4,7,9,10],[999998,3])|10=>some ([0,0,0,0,0,24,56,0,128,0,0,1024,0,8064,16383,32767],[14,15],[999999])|_=>none
noncomputable abbrev sD:=cFn PP true lu vR (cDr PP 76 zB)
noncomputable def sR:aK:=⟨76,aT sD,[.cell 10 11 true]⟩
theorem yT:sD=some sR:=by kernel_rfl
def ml (a:Heap) (b:D) (c:D) (d:D) (e:D) (f:D) (g:D) (h:D) (i:D) (j:HJ) (K:HK):Prop :=
 ∃(k:Nat->HJ) (l:Nat),k l [zI] a/\∀(a:Nat) (l:Nat->D) (m:Heap),k a [l 14] m->bR b m fun n=>vbin .lss (l 14) n fun n=>vcond n (yL c 8 true m fun j=>yL d 2 true m fun n=>yL e 11 true m fun o=>yI b (l 14) 15 m fun p=>yL p 15 true m fun p=>yF f 0 m fun q=>yL q 1 false m fun q=>yF f 2 m fun r=>yL r 1 false m fun r=>aq PP (.bld [zI,zI,zI,zI,zI,zI,zI,zI,zJ] [(2,1,(.c q)),(3,1,(.c g)),(4,1,(.c r)),(5,1,(.c (l 14)))]) m fun q=>ag PP gT [j,n,o,p,q] m fun j m=>xS e j 11 m fun j m=>xF e 10 m fun j m=>xL j 1 false m fun j m=>vbin .neq j zI fun j=>vcond j (xF e 10 m fun a b=>xL a 1 false b fun a b=>xF h 10 b fun b c=>xS b a 1 c fun a b=>xL h 11 true b fun a b=>xS i a 11 b fun a b=>xL i 11 true b fun a c=>K a b) (vbin .add (l 14) (.int .i64 1) fun j=>aG [g,c,d,f,i,h,e,b] [g,c,d,f,i,h,e,b]/\∃b,b<a/\k b [j] m)) (aG [c,i,e] [c,i,e]/\j [] m)
def rX (a:D) (b:D) (c:D) (d:D) (e:D) (f:Heap) (K:HK):Prop :=
 ab PP (.box (.c a)) f fun a f=>ab PP (.box (.c b)) f fun b f=>ab PP (.box (.c c)) f fun c f=>ab PP (.box (.c d)) f fun d f=>ab PP (.alloc (.agg [zI,zI,zI,zI,.nil,.nil,.nil,.nil,.nil,.nil,zI])) f fun f g=>xL c 7 true g fun g h=>ab PP (.iadda (.c d) (.c zI) 2 1) h fun h i=>xL h 1 false i fun h i=>ab PP (.iadda (.c d) (.c (.int .i64 1)) 2 1) i fun i j=>xL i 1 false j fun i j=>ab PP (.bld [zI,zI,zI,zI,.nil,.nil,.nil,.nil,.nil,.nil,zI] [(0,7,(.c g)),(7,1,(.c h)),(8,1,(.c i))]) j fun g h=>ab PP (.alloc (.agg [zI,zI,zI,zI,.nil,.nil,.nil,.nil,.nil,.nil,zI])) h fun h i=>xS h g 11 i fun g i=>xF c 1 i fun g i=>xL g 1 false i fun g i=>vbin .neq g (.int .i64 1) fun g=>vcond g (xF h 10 i fun a b=>xS a (.int .i64 1) 1 b fun a b=>xL h 11 true b fun a b=>xS f a 11 b fun a b=>xL f 11 true b fun a c=>K a b) (yL c 7 true i fun g=>aq PP (.iadda (.c d) (.c zI) 2 1) i fun j=>yL j 1 false i fun k=>aq PP (.iadda (.c d) (.c (.int .i64 1)) 2 1) i fun l=>yL l 1 false i fun m=>ag PP iQ [g] i fun i n=>((aq PP (.iadda (.c d) (.c zI) 2 1) n fun a=>aG [a] [j])/\(yL j 1 false n fun a=>aG [a] [k])/\(aq PP (.iadda (.c d) (.c (.int .i64 1)) 2 1) n fun a=>aG [a] [l])/\(yL l 1 false n fun a=>aG [a] [m])/\True)/\ag PP iR [k] n fun n o=>((aq PP (.iadda (.c d) (.c (.int .i64 1)) 2 1) o fun a=>aG [a] [l])/\(yL l 1 false o fun a=>aG [a] [m])/\True)/\ag PP iR [m] o fun o p=>aq PP (.bld [zI,zI,zI,zI,.nil,.nil,.nil,.nil,.nil,.nil,zI] [(0,7,(.c i)),(7,1,(.c n)),(8,1,(.c o))]) p fun i=>ab PP (.alloc (.agg [zI,zI,zI,zI,.nil,.nil,.nil,.nil,.nil,.nil,zI])) p fun n o=>((yL c 7 true o fun a=>aG [a] [g])/\(aq PP (.iadda (.c d) (.c zI) 2 1) o fun a=>aG [a] [j])/\(yL j 1 false o fun a=>aG [a] [k])/\(aq PP (.iadda (.c d) (.c (.int .i64 1)) 2 1) o fun a=>aG [a] [l])/\(yL l 1 false o fun a=>aG [a] [m])/\True)/\xS n i 11 o fun d g=>xF a 7 g fun d g=>xL d 1 false g fun d g=>xF c 2 g fun g i=>xL g 1 false i fun g i=>xI d g 14 i fun d g=>xF d 0 g fun d g=>xL d 1 false g fun d g=>∃(i:HJ),( ∀(b:Nat->D) (c:Heap),i [] c->xL a 8 true c fun a b=>xF n 0 b fun b c=>xL b 7 true c fun b c=>ag PP mQ [a,b] c fun a b=>xF n 0 b fun b c=>xS b a 7 c fun a b=>xL n 11 true b fun a b=>xS f a 11 b fun a b=>xL f 11 true b fun a c=>K a b)/\ml g d a b n c e h f i K)
theorem xR (a0:D) (a1:D) (a2:D) (a3:D) (a4:D) (h0:Heap) (K:HK):rX a0 a1 a2 a3 a4 h0 K=eF sR K [a0,a1,a2,a3,a4] h0:=by kernel_rfl
def Af:TL
 | _=>none
def D9:TT
 | _=>none
noncomputable abbrev yE:=cFn PP true kO Af (cDr PP 19 D9)
noncomputable def zl:aK:=⟨19,aT yE,[.cell 6 8 true]⟩
theorem Dg:yE=some zl:=by kernel_rfl
def yj (a:D) (b:D) (c:D) (d:Heap) (K:HK):Prop :=
 ab PP (.box (.c a)) d fun a d=>ab PP (.box (.c b)) d fun b d=>ab PP (.alloc (.agg [zI,zI,zI,zI,.nil,.nil,.nil,zI])) d fun d e=>xL a 8 true e fun a e=>xL b 7 true e fun b e=>ag PP rf [a,b,c] e fun a b=>ab PP (.ext (.c a) 0) b fun b c=>ab PP (.ext (.c a) 1) c fun a c=>ab PP (.alloc (.agg [zI,zI,zI,zI,.nil,.nil,.nil])) c fun c e=>xS c b 7 e fun b e=>xL c 7 true e fun b c=>ab PP (.bld [zI,zI,zI,zI,.nil,.nil,.nil,zI] [(0,7,(.c b)),(7,1,(.c a))]) c fun a b=>xS d a 8 b fun a b=>xL d 8 true b fun a c=>K a b
theorem CW (a0:D) (a1:D) (a2:D) (h0:Heap) (K:HK):yj a0 a1 a2 h0 K=eF zl K [a0,a1,a2] h0:=by kernel_rfl
def vS:TL
 | 1000008=>some ([6,7,8],[])|_=>none
def zC:TT
 | _=>none
noncomputable abbrev sE:=cFn PP true lx vS (cDr PP 40 zC)
noncomputable def sS:aK:=⟨40,aT sE,[.cell 6 8 true]⟩
theorem yV:sE=some sS:=by kernel_rfl
def rY (a:D) (b:D) (c:D) (d:Heap) (K:HK):Prop :=
 ab PP (.box (.c a)) d fun a d=>ab PP (.box (.c b)) d fun b d=>ab PP (.alloc (.agg [zI,zI,zI,zI,.nil,.nil,.nil,zI])) d fun d e=>xF b 1 e fun e f=>xL e 1 false f fun e f=>vbin .neq e (.int .i64 2) fun e=>vcond e (xL b 7 true f fun a b=>ab PP (.bld [zI,zI,zI,zI,.nil,.nil,.nil,zI] [(0,7,(.c a)),(7,1,(.c (.int .i64 1)))]) b fun a b=>xS d a 8 b fun a b=>xL d 8 true b fun a c=>K a b) (xF a 7 f fun a e=>xL a 1 false e fun a e=>xF b 2 e fun e f=>xL e 1 false f fun e f=>xI a e 14 f fun a e=>xF a 1 e fun a e=>xL a 13 true e fun a e=>ab PP (.alloc (.agg [zI,zI,zI,zI,zJ,zI,zI,zJ,zI,zI,zJ,zI,zI])) e fun e f=>xS e a 13 f fun a f=>xL b 7 true f fun a b=>ag PP iQ [a] b fun a b=>ab PP (.alloc (.agg [zI,zI,zI,zI,.nil,.nil,.nil])) b fun b f=>xS b a 7 f fun a f=>∃(a:HJ),( ∀(c:Nat->D) (f:Heap),a [] f->xF b 1 f fun a c=>xS a (.int .i64 1) 1 c fun a c=>xF e 11 c fun a c=>ab PP (.iadda (.c a) (.c zI) 2 1) c fun a c=>xL a 1 false c fun a c=>xF b 2 c fun c e=>xS c a 1 e fun a c=>xL b 7 true c fun a b=>ab PP (.bld [zI,zI,zI,zI,.nil,.nil,.nil,zI] [(0,7,(.c a))]) b fun a b=>xS d a 8 b fun a b=>xL d 8 true b fun a c=>K a b)/\xF e 0 f fun f g=>xL f 1 false g fun f g=>vbin .eql f (.int .i64 4) fun f=>vcond f (xF b 4 g fun f g=>xL f 1 false g fun f g=>xF e 2 g fun g h=>xF g 1 h fun g h=>xL g 1 false h fun g h=>xI f g 1 h fun f g=>xS f c 1 g fun c f=>aG [d,e,b] [d,e,b]/\a [] f) (aG [d,e,b] [d,e,b]/\a [] g))
theorem xU (a0:D) (a1:D) (a2:D) (h0:Heap) (K:HK):rY a0 a1 a2 h0 K=eF sS K [a0,a1,a2] h0:=by kernel_rfl
def xv:TL
 | _=>none
def Cn:TT
 | _=>none
noncomputable abbrev uO:=cFn PP true fU xv (cDr PP 19 Cn)
noncomputable def vj:aK:=⟨19,aT uO,[.cell 6 8 true]⟩
theorem A3:uO=some vj:=by kernel_rfl
def uy (a:D) (b:D) (c:D) (d:Heap) (K:HK):Prop :=
 ab PP (.box (.c a)) d fun a d=>ab PP (.box (.c b)) d fun b d=>ab PP (.alloc (.agg [zI,zI,zI,zI,.nil,.nil,.nil,zI])) d fun d e=>xL a 8 true e fun a e=>xL b 2 true e fun b e=>ag PP oT [a,b,c] e fun a b=>ab PP (.ext (.c a) 0) b fun b c=>ab PP (.ext (.c a) 1) c fun a c=>ab PP (.alloc (.agg [zI,zI,zI,zI,.nil,.nil,.nil])) c fun c e=>xS c b 7 e fun b e=>xL c 7 true e fun b c=>ab PP (.bld [zI,zI,zI,zI,.nil,.nil,.nil,zI] [(0,7,(.c b)),(7,1,(.c a))]) c fun a b=>xS d a 8 b fun a b=>xL d 8 true b fun a c=>K a b
theorem AL (a0:D) (a1:D) (a2:D) (h0:Heap) (K:HK):uy a0 a1 a2 h0 K=eF vj K [a0,a1,a2] h0:=by kernel_rfl
def tB:TL
 | _=>none
def wQ:TT
 | 3=>some ([0,0,2,6,0,16,48,0,128,384,1023,2047,4095],[12],[])|_=>none
noncomputable abbrev pW:=cFn PP true jW tB (cDr PP 31 wQ)
noncomputable def p9:aK:=⟨31,aT pW,[.cell 6 8 true]⟩
theorem wx:pW=some p9:=by kernel_rfl
def pL (a:D) (b:D) (c:D) (d:Heap) (K:HK):Prop :=
 ab PP (.box (.c a)) d fun a d=>ab PP (.box (.c b)) d fun b d=>ab PP (.alloc (.agg [zI,zI,zI,zI,.nil,.nil,.nil,zI])) d fun d e=>vbin .lss c zI fun f=>vguard f false (fun a=>a c e) e fun e g=>vguard f false (fun a=>xF b 0 g fun b c=>a b c) g fun b g=>vguard f false (fun a=>xL b 1 false g fun b c=>a b c) g fun b g=>vguard f false (fun b=>xF a 0 g fun a c=>b a c) g fun g h=>vguard f false (fun a=>xL g 1 false h fun b c=>a b c) h fun g h=>vguard f false (fun a=>vbin .mul b g fun b=>a b h) h fun b g=>vguard f false (fun a=>vbin .geq e b fun b=>a b g) g fun b e=>ab PP (.pick (.c f) (.c (.bool true)) (.c b)) e fun b e=>vcond b (ab PP (.bld [zI,zI,zI,zI,.nil,.nil,.nil,zI] [(7,1,(.c (.int .i64 1)))]) e fun a b=>xS d a 8 b fun a b=>xL d 8 true b fun a c=>K a b) (yF a 2 e fun b=>yL b 1 false e fun b=>aq PP (.mk 1 4 zJ (.c b) (.c b)) e fun b=>yF a 5 e fun f=>yL f 1 false e fun f=>aq PP (.call fC [(.c f),(.c (.int .i64 3))]) e fun f=>yF a 3 e fun a=>yL a 1 false e fun a=>aq PP (.mk 1 4 zJ (.c a) (.c a)) e fun a=>aq PP (.bld [zI,zI,zI,zI,.nil,.nil,.nil] [(0,1,(.c c)),(1,1,(.c (.int .i64 1))),(4,1,(.c b)),(5,1,(.c f)),(6,1,(.c a))]) e fun a=>aq PP (.bld [zI,zI,zI,zI,.nil,.nil,.nil,zI] [(0,7,(.c a))]) e fun a=>xS d a 8 e fun a b=>xL d 8 true b fun a c=>K a b)
theorem wh (a0:D) (a1:D) (a2:D) (h0:Heap) (K:HK):pL a0 a1 a2 h0 K=eF p9 K [a0,a1,a2] h0:=by kernel_rfl
end Go.Am
namespace Go.Am
open Go Go.Proofs
def zU:TL
 | _=>none
def DX:TT
 | _=>none
noncomputable abbrev yt:=cFn PP true oM zU (cDr PP 52 DX)
noncomputable def yU:aK:=⟨52,aT yt,[.t 4]⟩
theorem C5:yt=some yU:=by kernel_rfl
def xT (a:D) (b:D) (c:Heap) (K:HK):Prop :=
 ab PP (.box (.c a)) c fun a c=>ab PP (.box (.c b)) c fun b c=>xF a 0 c fun c d=>xL c 1 false d fun c d=>xF b 0 d fun d e=>xL d 1 false e fun d e=>vbin .eql c d fun c=>vguard c true (fun b=>xF a 1 e fun a c=>b a c) e fun d e=>vguard c true (fun a=>xL d 1 false e fun b c=>a b c) e fun d e=>vguard c true (fun a=>xF b 1 e fun b c=>a b c) e fun e f=>vguard c true (fun a=>xL e 1 false f fun b c=>a b c) f fun e f=>vguard c true (fun a=>vbin .eql d e fun b=>a b f) f fun d e=>ab PP (.pick (.c c) (.c d) (.c (.bool false))) e fun c d=>vguard c true (fun b=>xF a 2 d fun a c=>b a c) d fun d e=>vguard c true (fun a=>xL d 1 false e fun b c=>a b c) e fun d e=>vguard c true (fun a=>xF b 2 e fun b c=>a b c) e fun e f=>vguard c true (fun a=>xL e 1 false f fun b c=>a b c) f fun e f=>vguard c true (fun a=>vbin .eql d e fun b=>a b f) f fun d e=>ab PP (.pick (.c c) (.c d) (.c (.bool false))) e fun c d=>vguard c true (fun b=>xF a 3 d fun a c=>b a c) d fun d e=>vguard c true (fun a=>xL d 1 false e fun b c=>a b c) e fun d e=>vguard c true (fun a=>xF b 3 e fun b c=>a b c) e fun e f=>vguard c true (fun a=>xL e 1 false f fun b c=>a b c) f fun e f=>vguard c true (fun a=>vbin .eql d e fun b=>a b f) f fun d e=>ab PP (.pick (.c c) (.c d) (.c (.bool false))) e fun c d=>vguard c true (fun b=>xF a 4 d fun a c=>b a c) d fun d e=>vguard c true (fun a=>xL d 1 false e fun b c=>a b c) e fun d e=>vguard c true (fun a=>xF b 4 e fun b c=>a b c) e fun e f=>vguard c true (fun a=>xL e 1 false f fun b c=>a b c) f fun e f=>vguard c true (fun a=>ag PP et [d,e] f fun b c=>a b c) f fun d e=>ab PP (.pick (.c c) (.c d) (.c (.bool false))) e fun c d=>vguard c true (fun b=>xF a 5 d fun a c=>b a c) d fun d e=>vguard c true (fun a=>xL d 1 false e fun b c=>a b c) e fun d e=>vguard c true (fun a=>xF b 5 e fun b c=>a b c) e fun e f=>vguard c true (fun a=>xL e 1 false f fun b c=>a b c) f fun e f=>vguard c true (fun a=>ag PP ez [d,e] f fun b c=>a b c) f fun d e=>ab PP (.pick (.c c) (.c d) (.c (.bool false))) e fun c d=>vguard c true (fun b=>xF a 6 d fun a c=>b a c) d fun a d=>vguard c true (fun b=>xL a 1 false d fun a c=>b a c) d fun a d=>vguard c true (fun a=>xF b 6 d fun b c=>a b c) d fun b d=>vguard c true (fun a=>xL b 1 false d fun b c=>a b c) d fun b d=>vguard c true (fun c=>ag PP et [a,b] d fun a b=>c a b) d fun a b=>ab PP (.pick (.c c) (.c a) (.c (.bool false))) b fun a b=>K a b
theorem CL (a0:D) (a1:D) (h0:Heap) (K:HK):xT a0 a1 h0 K=eF yU K [a0,a1] h0:=by kernel_rfl
def Ai:TL
 | _=>none
def Ec:TT
 | _=>none
noncomputable abbrev yJ:=cFn PP true cR Ai (cDr PP 16 Ec)
noncomputable def zo:aK:=⟨16,aT yJ,[.t 4]⟩
theorem Dj:yJ=some zo:=by kernel_rfl
def yn (a:D) (b:D) (c:Heap) (K:HK):Prop :=
 ab PP (.box (.c a)) c fun a c=>ab PP (.box (.c b)) c fun b c=>xF b 0 c fun c d=>xL c 1 false d fun c d=>vbin .eql c (.int .i64 2) fun c=>vcond c (xF a 4 d fun a c=>xL a 1 false c fun a c=>xF b 1 c fun b c=>xL b 1 false c fun b c=>xI a b 1 c fun a b=>xL a 1 false b fun a b=>K a b) (xF b 2 d fun a b=>xL a 1 false b fun a b=>K a b)
theorem CZ (a0:D) (a1:D) (h0:Heap) (K:HK):yn a0 a1 h0 K=eF zo K [a0,a1] h0:=by kernel_rfl
def Cz:TL
 | _=>none
def FG:TT
 | _=>none
noncomputable abbrev BJ:=cFn PP true mc Cz (cDr PP 5 FG)
noncomputable def BU:aK:=⟨5,aT BJ,[.cell 2 3 true]⟩
theorem Ft:BJ=some BU:=by kernel_rfl
def Bw (a:D) (b:Heap) (K:HK):Prop :=
 ab PP (.alloc (.agg [zI,zI,zJ])) b fun b c=>ab PP (.bld [zI,zI,zJ] [(0,1,(.c (.int .i64 2))),(1,1,(.c a))]) c fun a c=>xS b a 3 c fun a c=>xL b 3 true c fun a b=>K a c
theorem Fa (a0:D) (h0:Heap) (K:HK):Bw a0 h0 K=eF BU K [a0] h0:=by kernel_rfl
def CA:TL
 | _=>none
def FH:TT
 | _=>none
noncomputable abbrev BK:=cFn PP true me CA (cDr PP 5 FH)
noncomputable def BV:aK:=⟨5,aT BK,[.cell 2 3 true]⟩
theorem Fu:BK=some BV:=by kernel_rfl
def By (a:D) (b:Heap) (K:HK):Prop :=
 ab PP (.alloc (.agg [zI,zI,zJ])) b fun b c=>ab PP (.bld [zI,zI,zJ] [(0,1,(.c (.int .i64 1))),(2,1,(.c a))]) c fun a c=>xS b a 3 c fun a c=>xL b 3 true c fun a b=>K a c
theorem Fb (a0:D) (h0:Heap) (K:HK):By a0 h0 K=eF BV K [a0] h0:=by kernel_rfl
def Aj:TL
 | 1000014=>some ([],[])|_=>none
def Ed:TT
 | _=>none
noncomputable abbrev yK:=cFn PP true kQ Aj (cDr PP 108 Ed)
noncomputable def zp:aK:=⟨108,aT yK,[.t 6]⟩
theorem Dl:yK=some zp:=by kernel_rfl
def yp (a:D) (b:D) (c:D) (d:Heap) (K:HK):Prop :=
 ab PP (.box (.c a)) d fun a d=>ab PP (.box (.c b)) d fun b d=>ab PP (.box (.c c)) d fun c d=>∃(e:HJ),( ∀(a:Nat->D) (b:Heap),e [] b->K (.bool false) b)/\xF c 0 d fun d f=>xL d 1 false f fun d f=>vbin .lss d zI fun d=>vguard d false (fun a=>xF c 0 f fun b c=>a b c) f fun f g=>vguard d false (fun a=>xL f 1 false g fun b c=>a b c) g fun f g=>vguard d false (fun a=>xF b 0 g fun b c=>a b c) g fun b g=>vguard d false (fun a=>xL b 1 false g fun b c=>a b c) g fun b g=>vguard d false (fun b=>xF a 0 g fun a c=>b a c) g fun g h=>vguard d false (fun a=>xL g 1 false h fun b c=>a b c) h fun g h=>vguard d false (fun a=>vbin .mul b g fun b=>a b h) h fun b g=>vguard d false (fun a=>vbin .geq f b fun b=>a b g) g fun b f=>ab PP (.pick (.c d) (.c (.bool true)) (.c b)) f fun b d=>vguard b false (fun a=>xF c 3 d fun b c=>a b c) d fun d f=>vguard b false (fun a=>xL d 1 false f fun b c=>a b c) f fun d f=>vguard b false (fun a=>vbin .lss d zI fun b=>a b f) f fun d f=>ab PP (.pick (.c b) (.c (.bool true)) (.c d)) f fun b d=>vcond b (aG [] []/\e [] d) (xF c 2 d fun b d=>xL b 1 false d fun b d=>vbin .lss b zI fun b=>vguard b false (fun a=>xF c 2 d fun b c=>a b c) d fun d f=>vguard b false (fun a=>xL d 1 false f fun b c=>a b c) f fun d f=>vguard b false (fun b=>xF a 7 f fun a c=>b a c) f fun f g=>vguard b false (fun a=>xL f 1 false g fun b c=>a b c) g fun f g=>vguard b false (fun a=>bR f g fun b=>a b g) g fun f g=>vguard b false (fun a=>vbin .geq d f fun b=>a b g) g fun d f=>ab PP (.pick (.c b) (.c (.bool true)) (.c d)) f fun b d=>vcond b (aG [] []/\e [] d) (xF c 4 d fun b d=>xL b 1 false d fun b d=>bR b d fun b=>xF a 2 d fun d f=>xL d 1 false f fun d f=>vbin .neq b d fun b=>vguard b false (fun a=>xF c 6 f fun b c=>a b c) f fun d f=>vguard b false (fun a=>xL d 1 false f fun b c=>a b c) f fun d f=>vguard b false (fun a=>bR d f fun b=>a b f) f fun d f=>vguard b false (fun b=>xF a 3 f fun a c=>b a c) f fun f g=>vguard b false (fun a=>xL f 1 false g fun b c=>a b c) g fun f g=>vguard b false (fun a=>vbin .neq d f fun b=>a b g) g fun d f=>ab PP (.pick (.c b) (.c (.bool true)) (.c d)) f fun b d=>vguard b false (fun b=>xF a 5 d fun a c=>b a c) d fun d f=>vguard b false (fun a=>xL d 1 false f fun b c=>a b c) f fun d f=>vguard b false (fun a=>xF c 5 f fun b c=>a b c) f fun f g=>vguard b false (fun a=>xL f 1 false g fun b c=>a b c) g fun f g=>vguard b false (fun a=>ag PP mW [d,(.int .i64 3),f] g fun b c=>a b c) g fun d f=>vguard b false (fun a=>vun .not d fun b=>a b f) f fun d f=>ab PP (.pick (.c b) (.c (.bool true)) (.c d)) f fun b d=>vcond b (aG [] []/\e [] d) (xF c 1 d fun b d=>xL b 1 false d fun b d=>vbin .eql b (.int .i64 1) fun b=>vcond b (K (.bool true) d) (xF c 1 d fun b d=>xL b 1 false d fun b d=>vbin .eql b (.int .i64 2) fun b=>vcond b (xF a 7 d fun a b=>xL a 1 false b fun a b=>xF c 2 b fun b c=>xL b 1 false c fun b c=>xI a b 14 c fun a b=>xF a 1 b fun a b=>xF a 0 b fun a b=>xL a 1 false b fun a b=>vbin .eql a (.int .i64 3) fun c=>vguard c false (fun c=>c a b) b fun a b=>vguard c false (fun c=>vbin .eql a (.int .i64 4) fun a=>c a b) b fun a b=>ab PP (.pick (.c c) (.c (.bool true)) (.c a)) b fun a b=>K a b) (xF c 1 d fun a b=>xL a 1 false b fun a b=>vbin .eql a (.int .i64 3) fun a=>vcond a (xF c 4 b fun a b=>xL a 1 false b fun a b=>xF c 6 b fun b d=>xL b 1 false d fun b d=>ab PP (.bldS true 1 2 .nil [(0,(.c a)),(1,(.c b))]) d fun a b=>xF c 5 b fun b d=>xL b 1 false d fun b d=>ab PP (.app (.c a) (.c b) 1 24 .nil) d fun a b=>ag PP bX [a] b fun a b=>xF c 2 b fun b c=>xL b 1 false c fun b c=>vbin .eql b zI fun b=>vguard b true (fun b=>b a c) c fun a c=>vguard b true (fun a=>a (.fn fN [] []) c) c fun c d=>vguard b true (fun b=>ag PP bG [a,c] d fun a c=>b a c) d fun a c=>vguard b true (fun b=>vun .not a fun a=>b a c) c fun a c=>ab PP (.pick (.c b) (.c a) (.c (.bool false))) c fun a b=>K a b) (aG [] []/\e [] b))))))
theorem C0 (a0:D) (a1:D) (a2:D) (h0:Heap) (K:HK):yp a0 a1 a2 h0 K=eF zp K [a0,a1,a2] h0:=by kernel_rfl
def zV:TL
 | _=>none
def DY:TT
 | _=>none
noncomputable abbrev yu:=cFn PP true iQ zV (cDr PP 18 DY)
noncomputable def yX:aK:=⟨18,aT yu,[.cell 2 7 true]⟩
theorem C6:yu=some yX:=by kernel_rfl
def xW (a:D) (b:Heap) (K:HK):Prop :=
 ab PP (.box (.c a)) b fun a b=>ab PP (.alloc (.agg [zI,zI,zI,zI,.nil,.nil,.nil])) b fun b c=>ab PP (.bldS true 1 0 zJ []) c fun c d=>xF a 4 d fun d e=>xL d 1 false e fun d e=>ab PP (.app (.c c) (.c d) 1 4 zJ) e fun c d=>xF a 4 d fun d e=>xS d c 1 e fun c d=>xF a 5 d fun c d=>xL c 1 false d fun c d=>ag PP iR [c] d fun c d=>xF a 5 d fun d e=>xS d c 1 e fun c d=>ab PP (.bldS true 1 0 zJ []) d fun c d=>xF a 6 d fun d e=>xL d 1 false e fun d e=>ab PP (.app (.c c) (.c d) 1 4 zJ) e fun c d=>xF a 6 d fun d e=>xS d c 1 e fun c d=>xL a 7 true d fun a c=>xS b a 7 c fun a c=>xL b 7 true c fun a b=>K a c
theorem CM (a0:D) (h0:Heap) (K:HK):xW a0 h0 K=eF yX K [a0] h0:=by kernel_rfl
def Aa:TL
 | 1000007=>some ([],[3])|3=>some ([0],[3,4])|_=>none
def D4:TT
 | _=>none
noncomputable abbrev yz:=cFn PP false iR Aa (cDr PP 22 D4)
noncomputable def ze:aK:=⟨22,aT yz,[.t 2]⟩
theorem Db:yz=some ze:=by kernel_rfl
def pO (a:D) (b:Heap) (c:D) (d:HJ):Prop :=
 ∃(e:Nat->HJ) (f:Nat),e f [a,zI] b/\∀(a:Nat) (b:Nat->D) (f:Heap),e a [b 3,b 4] f->bR c f fun g=>vbin .lss (b 4) g fun g=>vcond g (ab PP (.bldS false 1 0 zJ []) f fun d f=>xI c (b 4) 1 f fun f g=>xL f 1 false g fun f g=>ab PP (.app (.c d) (.c f) 1 4 zJ) g fun d f=>ab PP (.bldS false 1 1 .nil [(0,(.c d))]) f fun d f=>ab PP (.app (.c (b 3)) (.c d) 1 24 .nil) f fun d f=>vbin .add (b 4) (.int .i64 1) fun b=>aG [c] [c]/\∃c,c<a/\e c [d,b] f) (aG [] []/\d [(b 3)] f)
def yc (a:D) (b:Heap) (K:HK):Prop :=
 ab PP (.bldS false 1 0 .nil []) b fun b c=>∃(d:HJ),( ∀(a:Nat->D) (b:Heap),d [a 3] b->K (a 3) b)/\pO b c a d
theorem CR (a0:D) (h0:Heap) (K:HK):yc a0 h0 K=eF ze K [a0] h0:=by kernel_rfl
def zZ:TL
 | 1000009=>some ([],[])|4=>some ([0,1],[5])|_=>none
def D2:TT
 | 6=>some ([0,0,3,7,0,0,48,112,255,511],[],[])|_=>none
noncomputable abbrev yx:=cFn PP true ez zZ (cDr PP 27 D2)
noncomputable def y0:aK:=⟨27,aT yx,[.t 4]⟩
theorem C9:yx=some y0:=by kernel_rfl
def pN (a:Heap) (b:D) (c:D) (d:HJ) (K:HK):Prop :=
 ∃(e:Nat->HJ) (f:Nat),e f [zI] a/\∀(a:Nat) (f:Nat->D) (g:Heap),e a [f 5] g->bR b g fun h=>vbin .lss (f 5) h fun h=>vcond h (yI b (f 5) 1 g fun d=>yL d 1 false g fun d=>yI c (f 5) 1 g fun h=>yL h 1 false g fun h=>aq PP (.call et [(.c d),(.c h)]) g fun d=>vun .not d fun d=>vcond d (K (.bool false) g) (vbin .add (f 5) (.int .i64 1) fun d=>aG [b,c] [b,c]/\∃b,b<a/\e b [d] g)) (aG [] []/\d [] g)
def xZ (a:D) (b:D) (c:Heap) (K:HK):Prop :=
 bR a c fun d=>bR b c fun e=>vbin .neq d e fun d=>vcond d (K (.bool false) c) ( ∃(d:HJ),( ∀(a:Nat->D) (b:Heap),d [] b->K (.bool true) b)/\pN c a b d K)
theorem CP (a0:D) (a1:D) (h0:Heap) (K:HK):xZ a0 a1 h0 K=eF y0 K [a0,a1] h0:=by kernel_rfl
def oX:TL
 | 1000009=>some ([],[])|4=>some ([0,1],[5])|_=>none
def qL:TT
 | 6=>some ([0,0,3,7,0,0,48,112,255],[],[])|_=>none
noncomputable abbrev lL:=cFn PP true fB oX (cDr PP 26 qL)
noncomputable def lR:aK:=⟨26,aT lL,[.t 4]⟩
theorem qB:lL=some lR:=by kernel_rfl
def jg (a:Heap) (b:D) (c:D) (d:HJ) (K:HK):Prop :=
 ∃(e:Nat->HJ) (f:Nat),e f [zI] a/\∀(a:Nat) (f:Nat->D) (g:Heap),e a [f 5] g->bR b g fun h=>vbin .lss (f 5) h fun h=>vcond h (yI b (f 5) 9 g fun d=>yL d 9 true g fun d=>yI c (f 5) 9 g fun h=>yL h 9 true g fun h=>aq PP (.eqv true true [.i,.i,.i,.i,.i,.i,.i,.i,.i] (.c d) (.c h)) g fun d=>vcond d (K (.bool false) g) (vbin .add (f 5) (.int .i64 1) fun d=>aG [b,c] [b,c]/\∃b,b<a/\e b [d] g)) (aG [] []/\d [] g)
def lH (a:D) (b:D) (c:Heap) (K:HK):Prop :=
 bR a c fun d=>bR b c fun e=>vbin .neq d e fun d=>vcond d (K (.bool false) c) ( ∃(d:HJ),( ∀(a:Nat->D) (b:Heap),d [] b->K (.bool true) b)/\jg c a b d K)
theorem qu (a0:D) (a1:D) (h0:Heap) (K:HK):lH a0 a1 h0 K=eF lR K [a0,a1] h0:=by kernel_rfl
def tC:TL
 | _=>none
def wR:TT
 | _=>none
noncomputable abbrev pX:=cFn PP true hZ tC (cDr PP 18 wR)
noncomputable def qa:aK:=⟨18,aT pX,[.cell 2 8 true]⟩
theorem wy:pX=some qa:=by kernel_rfl
def pQ (a:D) (b:Heap) (K:HK):Prop :=
 ab PP (.alloc (.agg [zI,zI,zI,zI,zI,.nil,.nil,.nil])) b fun b c=>ag PP mc [zI] c fun c d=>ab PP (.bld [zI,zI,zI,zI,zI,zJ,zI,zI,zJ,zI,zI,zJ,zI,zI,zJ] [(0,1,(.c (.int .i64 5))),(1,1,(.c (.int .i64 1))),(3,3,(.c c))]) d fun c d=>ag PP mc [zI] d fun d e=>ag PP me [(.int .i32 7)] e fun e f=>ab PP (.bld [zI,zI,zI,zI,zI,zJ,zI,zI,zJ,zI,zI,zJ,zI,zI,zJ] [(0,1,(.c (.int .i64 8))),(6,3,(.c d)),(9,3,(.c e))]) f fun d e=>ab PP (.bldS true 15 2 (.agg [zI,zI,zI,zI,zI,zJ,zI,zI,zJ,zI,zI,zJ,zI,zI,zJ]) [(0,(.c c)),(1,(.c d))]) e fun c d=>ab PP (.bld [(.str ⟨#[]⟩),zI,zI,zI] [(0,1,(.c (.str ⟨#[97]⟩))),(1,1,(.c (.int .i64 1))),(2,1,(.c (.int .i64 1))),(3,1,(.c a))]) d fun a d=>ab PP (.bldS true 4 1 (.agg [(.str ⟨#[]⟩),zI,zI,zI]) [(0,(.c a))]) d fun a d=>ab PP (.bld [zI,zI,zI,zI,zJ,zI,zI,zJ,zI,zI,zJ,zI,zI] [(0,1,(.c (.int .i64 5)))]) d fun d e=>ab PP (.bld [.nil,zI,zI,zI,zI,zJ,zI,zI,zJ,zI,zI,zJ,zI,zI] [(0,1,(.c c)),(1,13,(.c d))]) e fun c d=>ab PP (.bldS true 14 1 (.agg [.nil,zI,zI,zI,zI,zJ,zI,zI,zJ,zI,zI,zJ,zI,zI]) [(0,(.c c))]) d fun c d=>ab PP (.bld [zI,zI,zI,zI,zI,.nil,.nil,.nil] [(0,1,(.c (.int .i64 4))),(1,1,(.c (.int .i64 1))),(2,1,(.c (.int .i64 1))),(5,1,(.c a)),(7,1,(.c c))]) d fun a c=>xS b a 8 c fun a c=>xL b 8 true c fun a b=>K a c
theorem wi (a0:D) (h0:Heap) (K:HK):pQ a0 h0 K=eF qa K [a0] h0:=by kernel_rfl
def zX:TL
 | 1000008=>some ([2,3],[])|4=>some ([2,3],[4])|1000019=>some ([2,3],[])|8=>some ([2,3],[5])|1000010=>some ([2,3,5],[])|1000015=>some ([2,3,5],[])|1000024=>some ([2,3],[])|_=>none
def DZ:TT
 | 2=>some ([0,0,0,4,12,30,62,12,254,511,1023,2047],[3,11],[999999])|4=>some ([0,1,3,7,15,31,63,127,7,263,775,1799,3847,7943,16383,32767,65535],[],[])|17=>some ([0,1,3,7,15,0,0,64,192,448,0,1216,0,7360,0,31936,0,65536,196608,524224,1048575,2097151,4194303],[7,11,13,15,22],[999999])|23=>some ([0,1,3,7,15,0,32,96,224,480,992,2016,0,8191,16383,32767],[15],[])|_=>none
noncomputable abbrev yv:=cFn PP true oN zX (cDr PP 153 DZ)
noncomputable def yY:aK:=⟨153,aT yv,[.cell 2 8 true]⟩
theorem C7:yv=some yY:=by kernel_rfl
def ki (a:D) (b:Heap) (c:D) (d:D) (e:HJ):Prop :=
 ∃(f:Nat->HJ) (g:Nat),f g [a] b/\∀(a:Nat) (b:Nat->D) (g:Heap),f a [b 5] g->vbin .gtr (b 5) zI fun h=>vcond h ( ∃(e:HJ),( ∀(g:Nat->D) (h:Heap),e [] h->vbin .sub (b 5) (.int .i64 1) fun b=>aG [c,d] [c,d]/\∃c,c<a/\f c [b] h)/\ag PP ak [d] g fun a f=>vbin .rem a (.int .i64 3) fun a=>ag PP er [d,a] f fun a f=>∃(a:HJ),( ∀(f:Nat->D) (g:Heap),a [] g->xF d 0 g fun a f=>xF a 2 f fun a f=>xF a 7 f fun a f=>xL a 1 false f fun a f=>bR a f fun a=>vbin .sub a (.int .i64 1) fun a=>xF d 0 f fun f g=>xF f 2 g fun f g=>xF f 7 g fun f g=>xL f 1 false g fun f g=>vbin .add a (.int .i64 1) fun h=>ab PP (.bld [zI,zI] [(0,1,(.c h)),(1,1,(.c zI))]) g fun g h=>ab PP (.bld [zI,zI,zI,zI,zJ,zI,zI,zJ,zI,zI,zJ,zI,zI] [(0,1,(.c (.int .i64 3))),(11,2,(.c g))]) h fun g h=>xI f a 14 h fun f h=>xF f 1 h fun f h=>xS f g 13 h fun f g=>ag PP ak [d] g fun f g=>vbin .rem f (.int .i64 3) fun f=>vbin .eql f zI fun f=>vcond f (yF d 0 g fun f=>yF f 2 g fun h=>yF h 7 g fun i=>yL i 1 false g fun j=>vbin .add a (.int .i64 1) fun k=>aq PP (.bld [zI,zI] [(0,1,(.c k)),(1,1,(.c zI))]) g fun k=>ag PP ak [d] g fun g l=>((yF d 0 l fun a=>aG [a] [f])/\(yF f 2 l fun a=>aG [a] [h])/\(yF h 7 l fun a=>aG [a] [i])/\(yL i 1 false l fun a=>aG [a] [j])/\True)/\vbin .rem g (.int .i64 6) fun g=>vbin .add (.int .i64 1) g fun g=>ag PP aZ [d] l fun l m=>((yF d 0 m fun a=>aG [a] [f])/\(yF f 2 m fun a=>aG [a] [h])/\(yF h 7 m fun a=>aG [a] [i])/\(yL i 1 false m fun a=>aG [a] [j])/\True)/\ag PP aY [d] m fun m n=>((yF d 0 n fun a=>aG [a] [f])/\(yF f 2 n fun a=>aG [a] [h])/\(yF h 7 n fun a=>aG [a] [i])/\(yL i 1 false n fun a=>aG [a] [j])/\True)/\ag PP aY [d] n fun n o=>((yF d 0 o fun a=>aG [a] [f])/\(yF f 2 o fun a=>aG [a] [h])/\(yF h 7 o fun a=>aG [a] [i])/\(yL i 1 false o fun a=>aG [a] [j])/\True)/\aq PP (.bld [zI,zI,zI,zI,zJ,zI,zI,zJ,zI,zI,zJ,zI,zI] [(0,1,(.c (.int .i64 4))),(1,1,(.c g)),(2,3,(.c l)),(5,3,(.c m)),(8,3,(.c n)),(11,2,(.c k))]) o fun f=>yI j a 14 o fun a=>yF a 1 o fun a=>xS a f 13 o fun a f=>aG [c,d,(b 5)] [c,d,(b 5)]/\e [] f) (aG [c,d,(b 5)] [c,d,(b 5)]/\e [] g))/\ag PP ak [d] f fun e f=>vbin .rem e (.int .i64 3) fun e=>vbin .eql e zI fun e=>vcond e (ag PP dK [d] f fun e f=>ag PP bm [d] f fun e f=>aG [c,d,(b 5)] [c,d,(b 5)]/\a [] f) (aG [c,d,(b 5)] [c,d,(b 5)]/\a [] f)) (aG [c,d] [c,d]/\e [] g)
def kh (a:D) (b:Heap) (c:D) (d:D) (e:HJ):Prop :=
 ∃(f:Nat->HJ) (g:Nat),f g [a] b/\∀(a:Nat) (b:Nat->D) (g:Heap),f a [b 4] g->vbin .gtr (b 4) zI fun h=>aQ h true (fun a=>a c) fun i=>aQ h true (fun a=>yF i 0 g fun b=>a b) fun i=>aQ h true (fun a=>yF i 2 g fun b=>a b) fun i=>aQ h true (fun a=>yF i 0 g fun b=>a b) fun i=>aQ h true (fun a=>yL i 1 false g fun b=>a b) fun i=>aQ h true (fun a=>a c) fun j=>aQ h true (fun a=>yF j 0 g fun b=>a b) fun j=>aQ h true (fun a=>yF j 2 g fun b=>a b) fun j=>aQ h true (fun a=>yF j 1 g fun b=>a b) fun j=>aQ h true (fun a=>yL j 1 false g fun b=>a b) fun j=>aQ h true (fun a=>vbin .mul (.int .i64 2) j fun b=>a b) fun j=>aQ h true (fun a=>vbin .rem i j fun b=>a b) fun i=>aQ h true (fun a=>vbin .eql i zI fun b=>a b) fun i=>aq PP (.pick (.c h) (.c i) (.c (.bool false))) g fun h=>vcond h (xF c 0 g fun e g=>xF e 2 g fun e g=>xF e 1 g fun e g=>xL e 1 false g fun e g=>vbin .mul (.int .i64 2) e fun e=>xF c 0 g fun g h=>xF g 2 h fun g h=>xF g 1 h fun g h=>xS g e 1 h fun e g=>vbin .sub (b 4) (.int .i64 1) fun b=>aG [d,c] [d,c]/\∃c,c<a/\f c [b] g) (aG [d,c] [d,c]/\e [] g)
def xX (a:D) (b:Heap) (K:HK):Prop :=
 ab PP (.box (.c a)) b fun a b=>ab PP (.alloc (.agg [zI,zI,zI,zI,zI,.nil,.nil,.nil])) b fun b c=>xF a 0 c fun a c=>xL a 1 false c fun a c=>ab PP (.bld [.nil,zI,zI,zI,zI,zI,zI,.nil,.nil,.nil] [(0,1,(.c a))]) c fun a c=>ab PP (.box (.c a)) c fun a c=>aq PP (.bldS false 1 5 zI [(0,(.c (.int .i64 4))),(1,(.c (.int .i64 1))),(2,(.c (.int .i64 2))),(3,(.c (.int .i64 8))),(4,(.c (.int .i64 6)))]) c fun d=>ag PP ak [a] c fun c e=>vbin .rem c (.int .i64 5) fun c=>yI d c 1 e fun c=>yL c 1 false e fun c=>aq PP (.call lB []) e fun d=>aq PP (.bld [zI,zI,zI,zI,zI,.nil,.nil,.nil] [(0,1,(.c c)),(1,1,(.c (.int .i64 1))),(2,1,(.c (.int .i64 6))),(4,1,(.c (.int .i64 3))),(5,1,(.c d))]) e fun c=>yF a 0 e fun d=>yF d 2 e fun d=>xS d c 8 e fun c d=>∃(c:HJ),( ∀(d:Nat->D) (e:Heap),c [] e->∃(c:HJ),( ∀(d:Nat->D) (e:Heap),c [] e->ag PP ak [a] e fun c d=>vbin .rem c (.int .i64 3) fun c=>ag PP er [a,c] d fun c d=>∃(c:HJ),( ∀(d:Nat->D) (e:Heap),c [] e->yF a 0 e fun c=>yF c 2 e fun c=>yF c 7 e fun c=>yL c 1 false e fun c=>yF a 0 e fun d=>yF d 2 e fun d=>yF d 7 e fun d=>yL d 1 false e fun d=>bR d e fun d=>vbin .sub d (.int .i64 1) fun d=>aq PP (.bld [zI,zI,zI,zI,zJ,zI,zI,zJ,zI,zI,zJ,zI,zI] [(0,1,(.c (.int .i64 5)))]) e fun f=>yI c d 14 e fun c=>yF c 1 e fun c=>xS c f 13 e fun c d=>xF a 0 d fun a c=>xF a 2 c fun a c=>xL a 8 true c fun a c=>xS b a 8 c fun a c=>xL b 8 true c fun a b=>K a c)/\ag PP ak [a] d fun d e=>vbin .rem d (.int .i64 3) fun d=>vbin .eql d zI fun d=>vcond d (ag PP dK [a] e fun d e=>ag PP bm [a] e fun d e=>ag PP cw [a] e fun d e=>aG [b,a] [b,a]/\c [] e) (aG [b,a] [b,a]/\c [] e))/\ag PP ak [a] e fun d e=>vbin .rem d (.int .i64 3) fun d=>ki d e b a c)/\ag PP ak [a] d fun d e=>vbin .rem d (.int .i64 3) fun d=>kh d e a b c
theorem CN (a0:D) (h0:Heap) (K:HK):xX a0 h0 K=eF yY K [a0] h0:=by kernel_rfl
def vT:TL
 | 1000009=>some ([1,2,3],[])|3=>some ([1,2,3],[4])|_=>none
def zD:TT
 | _=>none
noncomputable abbrev sF:=cFn PP true ly vT (cDr PP 32 zD)
noncomputable def sT:aK:=⟨32,aT sF,[.cell 2 8 true]⟩
theorem yW:sF=some sT:=by kernel_rfl
def mm (a:Heap) (b:D) (c:D) (d:D) (e:HJ):Prop :=
 ∃(f:Nat->HJ) (g:Nat),f g [zI] a/\∀(a:Nat) (g:Nat->D) (h:Heap),f a [g 4] h->bR b h fun i=>vbin .lss (g 4) i fun i=>vcond i (xI b (g 4) 4 h fun e h=>xL e 4 true h fun e h=>ab PP (.alloc (.agg [(.str ⟨#[]⟩),zI,zI,zI])) h fun h i=>xS h e 4 i fun e i=>xF h 3 i fun e i=>xL e 1 false i fun e i=>vbin .quo e (.int .i64 2) fun e=>ab PP (.mx (.c e) (.c (.int .i64 1))) i fun e i=>xF h 3 i fun i j=>xS i e 1 j fun e i=>xL h 4 true i fun e h=>xI b (g 4) 4 h fun h i=>xS h e 4 i fun e h=>vbin .add (g 4) (.int .i64 1) fun e=>aG [c,d,b] [c,d,b]/\∃b,b<a/\f b [e] h) (aG [c,d,b] [c,d,b]/\e [] h)
def rZ (a:D) (b:Heap) (K:HK):Prop :=
 ab PP (.box (.c a)) b fun a b=>ab PP (.alloc (.agg [zI,zI,zI,zI,zI,.nil,.nil,.nil])) b fun b c=>ab PP (.bldS true 4 0 (.agg [(.str ⟨#[]⟩),zI,zI,zI]) []) c fun c d=>xF a 5 d fun d e=>xL d 1 false e fun d e=>ab PP (.app (.c c) (.c d) 4 40 (.agg [(.str ⟨#[]⟩),zI,zI,zI])) e fun c d=>∃(e:HJ),( ∀(d:Nat->D) (f:Heap),e [] f->xF a 5 f fun d e=>xS d c 1 e fun c d=>xL a 8 true d fun a c=>xS b a 8 c fun a c=>xL b 8 true c fun a b=>K a c)/\mm d c a b e
theorem xV (a0:D) (h0:Heap) (K:HK):rZ a0 h0 K=eF sT K [a0] h0:=by kernel_rfl
def vV:TL
 | 1000005=>some ([2,3,4,5],[])|1000009=>some ([4,5],[])|5=>some ([2,3,4,5],[6])|_=>none
def zF:TT
 | 3=>some ([0,1,0,4,12,31,63,127,255],[8],[])|7=>some ([0,1,0,4,0,28,60,124,252,511,1023,2047],[9,11],[])|_=>none
noncomputable abbrev sH:=cFn PP true lA vV (cDr PP 42 zF)
noncomputable def sX:aK:=⟨42,aT sH,[.cell 4 2 true]⟩
theorem y9:sH=some sX:=by kernel_rfl
def mz (a:Heap) (b:D) (c:D) (d:D) (e:D) (f:HJ):Prop :=
 ∃(g:Nat->HJ) (h:Nat),g h [zI] a/\∀(a:Nat) (h:Nat->D) (i:Heap),g a [h 6] i->xF b 4 i fun i j=>xL i 1 false j fun i j=>vbin .lss (h 6) i fun i=>vcond i (yF c 1 j fun f=>yL f 1 false j fun f=>vbin .rem (h 6) (.int .i64 8) fun i=>yF d 1 j fun k=>aq PP (.iadda (.c k) (.c i) 8 1) j fun i=>yL i 1 false j fun i=>aq PP (.conv .i32 (.c i)) j fun i=>aq PP (.bldS false 1 1 zJ [(0,(.c i))]) j fun i=>yF c 1 j fun k=>ab PP (.app (.c f) (.c i) 1 4 zJ) j fun f i=>xS k f 1 i fun f i=>vbin .add (h 6) (.int .i64 1) fun f=>aG [b,d,e,c] [b,d,e,c]/\∃b,b<a/\g b [f] i) (aG [e,c] [e,c]/\f [] j)
def sj (a:D) (b:D) (c:Heap) (K:HK):Prop :=
 ab PP (.box (.c a)) c fun a c=>ab PP (.box (.c b)) c fun b c=>ab PP (.alloc (.agg [zI,.nil])) c fun c d=>xF b 0 d fun d e=>xL d 1 false e fun d e=>vbin .rem d (.int .u8 3) fun d=>ab PP (.conv .i64 (.c d)) e fun d e=>vbin .add (.int .i64 1) d fun d=>ab PP (.bld [zI,.nil] [(0,1,(.c d))]) e fun d e=>ab PP (.alloc (.agg [zI,.nil])) e fun e f=>xS e d 2 f fun d f=>∃(d:HJ),( ∀(f:Nat->D) (g:Heap),d [] g->∃(d:HJ),( ∀(a:Nat->D) (b:Heap),d [] b->xL e 2 true b fun a b=>xS c a 2 b fun a b=>xL c 2 true b fun a c=>K a b)/\mz g a e b c d)/\xF a 0 f fun f g=>xL f 1 false g fun f g=>vbin .gtr f zI fun f=>vcond f (yF e 0 g fun f=>yL f 1 false g fun f=>yF a 0 g fun h=>yL h 1 false g fun h=>vbin .quo (.int .i64 4096) h fun h=>aq PP (.mn (.c f) (.c h)) g fun f=>aq PP (.mx (.c f) (.c (.int .i64 1))) g fun f=>yF e 0 g fun h=>xS h f 1 g fun f g=>aG [a,b,c,e] [a,b,c,e]/\d [] g) (aG [a,b,c,e] [a,b,c,e]/\d [] g)
theorem ya (a0:D) (a1:D) (h0:Heap) (K:HK):sj a0 a1 h0 K=eF sX K [a0,a1] h0:=by kernel_rfl
end Go.Am
namespace Go.Am
open Go Go.Proofs
def xl:TL
 | 1000012=>some ([10,11],[])|3=>some ([3,5,6,10,11],[12])|1000005=>some ([3,5,6,10,11,12],[])|_=>none
def Ce:TT
 | 1=>some ([0,0,0,7,15,0,0,64,207,511,0,2047],[3,8,10,11],[999998,2])|_=>none
noncomputable abbrev uF:=cFn PP true mR xl (cDr PP 66 Ce)
noncomputable def uV:aK:=⟨66,aT uF,[.cell 10 11 true]⟩
theorem AS:uF=some uV:=by kernel_rfl
def nI (a:Heap) (b:D) (c:D) (d:D) (e:D) (f:D) (g:HJ) (K:HK):Prop :=
 ∃(h:Nat->HJ) (i:Nat),h i [zI] a/\∀(a:Nat) (i:Nat->D) (j:Heap),h a [i 12] j->vbin .lss (i 12) b fun k=>vguard k true (fun a=>xF c 0 j fun b c=>a b c) j fun j l=>vguard k true (fun a=>xF j 1 l fun b c=>a b c) l fun j l=>vguard k true (fun a=>xL j 1 false l fun b c=>a b c) l fun j l=>vguard k true (fun a=>vbin .neq j (.int .i64 3) fun b=>a b l) l fun j l=>ab PP (.pick (.c k) (.c j) (.c (.bool false))) l fun j k=>vcond j ( ∃(g:HJ),( ∀(j:Nat->D) (k:Heap),g [] k->vbin .add (i 12) (.int .i64 1) fun g=>aG [b,d,e,f,c] [b,d,e,f,c]/\∃b,b<a/\h b [g] k)/\xF c 0 k fun a h=>xF a 1 h fun a h=>xL a 1 false h fun a h=>vbin .eql a (.int .i64 2) fun a=>vcond a (xL d 8 true h fun a h=>xF c 0 h fun h j=>xL h 7 true j fun h j=>vbin .rem (i 12) (.int .i64 3) fun k=>ab PP (.conv .i32 (.c k)) j fun j k=>ag PP lx [a,h,j] k fun a h=>ab PP (.fld (.c a) 0 7 true) h fun a h=>xF c 0 h fun h j=>xS h a 7 j fun a h=>aG [b,d,e,f,c,(i 12)] [b,d,e,f,c,(i 12)]/\g [] h) (xL d 8 true h fun a h=>xL e 2 true h fun h j=>xF c 0 j fun j k=>xL j 7 true k fun j k=>xF c 7 k fun k l=>xL k 1 false l fun k l=>xF c 8 l fun l m=>xL l 1 false m fun l m=>ab PP (.bld [.nil,.nil] [(0,1,(.c k)),(1,1,(.c l))]) m fun k l=>ag PP lu [a,h,j,k,(i 12)] l fun a h=>ab PP (.alloc (.agg [zI,zI,zI,zI,.nil,.nil,.nil,.nil,.nil,.nil,zI])) h fun h j=>xS h a 11 j fun a j=>xF h 10 j fun a j=>xL a 1 false j fun a j=>vbin .neq a zI fun a=>vcond a (xL c 11 true j fun a b=>xS f a 11 b fun a b=>xL f 11 true b fun a c=>K a b) (xL h 11 true j fun a h=>xS c a 11 h fun a h=>aG [b,d,e,f,c,(i 12)] [b,d,e,f,c,(i 12)]/\g [] h))) (aG [f,c] [f,c]/\g [] k)
def ui (a:D) (b:D) (c:D) (d:D) (e:D) (f:Heap) (K:HK):Prop :=
 ab PP (.box (.c a)) f fun a f=>ab PP (.box (.c b)) f fun b f=>ab PP (.alloc (.agg [zI,zI,zI,zI,.nil,.nil,.nil,.nil,.nil,.nil,zI])) f fun f g=>yL a 8 true g fun h=>yL b 2 true g fun i=>yF a 5 g fun j=>yL j 1 false g fun k=>ag PP jW [h,i,c] g fun c g=>((yF a 5 g fun a=>aG [a] [j])/\(yL j 1 false g fun a=>aG [a] [k])/\True)/\aq PP (.fld (.c c) 0 7 true) g fun c=>ag PP fC [k,(.int .i64 2)] g fun g l=>aq PP (.bld [zI,zI,zI,zI,.nil,.nil,.nil,.nil,.nil,.nil,zI] [(0,7,(.c c)),(7,1,(.c e)),(8,1,(.c g))]) l fun c=>ab PP (.alloc (.agg [zI,zI,zI,zI,.nil,.nil,.nil,.nil,.nil,.nil,zI])) l fun e g=>((yL a 8 true g fun a=>aG [a] [h])/\(yL b 2 true g fun a=>aG [a] [i])/\(yF a 5 g fun a=>aG [a] [j])/\(yL j 1 false g fun a=>aG [a] [k])/\True)/\xS e c 11 g fun c g=>∃(c:HJ),( ∀(a:Nat->D) (b:Heap),c [] b->xF e 9 b fun a b=>ab PP (.st (.c a) (.c .nil) 1) b fun a b=>xL e 11 true b fun a b=>xS f a 11 b fun a b=>xL f 11 true b fun a c=>K a b)/\nI g d e a b f c K
theorem AB (a0:D) (a1:D) (a2:D) (a3:D) (a4:D) (h0:Heap) (K:HK):ui a0 a1 a2 a3 a4 h0 K=eF uV K [a0,a1,a2,a3,a4] h0:=by kernel_rfl
def vU:TL
 | 1000010=>some ([5],[])|3=>some ([3,5],[6])|1000005=>some ([3,5,6],[])|6=>some ([3,5,6],[7])|_=>none
def zE:TT
 | 8=>some ([0,0,3,7,0,0,0,96,224,0,992,2016,4064,0,0,24576,57344,122880,262112,524287,1048575],[20],[])|_=>none
noncomputable abbrev sG:=cFn PP true lz vU (cDr PP 47 zE)
noncomputable def sW:aK:=⟨47,aT sG,[.t 4]⟩
theorem y8:sG=some sW:=by kernel_rfl
def my (a:Heap) (b:D) (c:Nat->D) (d:D) (e:HJ):Prop :=
 ∃(f:Nat->HJ) (g:Nat),f g [zI] a/\∀(a:Nat) (g:Nat->D) (h:Heap),f a [g 7] h->xI b (c 6) 1 h fun h i=>xL h 1 false i fun h i=>bR h i fun h=>vbin .lss (g 7) h fun h=>vcond h (yI b (c 6) 1 i fun e=>yL e 1 false i fun e=>vbin .add (c 6) (g 7) fun h=>vbin .rem h (.int .i64 4) fun h=>yF d 9 i fun j=>aq PP (.iadda (.c j) (.c h) 4 1) i fun h=>yL h 1 false i fun h=>aq PP (.conv .i32 (.c h)) i fun h=>vbin .mul (g 7) (c 6) fun j=>vbin .rem j (.int .i64 5) fun j=>aq PP (.conv .i32 (.c j)) i fun j=>vbin .add h j fun h=>yI e (g 7) 1 i fun e=>xS e h 1 i fun e h=>vbin .add (g 7) (.int .i64 1) fun e=>aG [d,b,(c 6)] [d,b,(c 6)]/\∃b,b<a/\f b [e] h) (aG [d,b,(c 6)] [d,b,(c 6)]/\e [] i)
def mu (a:Heap) (b:D) (c:D) (d:HJ):Prop :=
 ∃(e:Nat->HJ) (f:Nat),e f [zI] a/\∀(a:Nat) (f:Nat->D) (g:Heap),e a [f 6] g->bR b g fun h=>vbin .lss (f 6) h fun h=>vcond h ( ∃(d:HJ),( ∀(g:Nat->D) (h:Heap),d [] h->vbin .add (f 6) (.int .i64 1) fun d=>aG [c,b] [c,b]/\∃b,b<a/\e b [d] h)/\my g b f c d) (aG [b] [b]/\d [] g)
def si (a:D) (b:D) (c:Heap) (K:HK):Prop :=
 ab PP (.box (.c a)) c fun a c=>ab PP (.box (.c b)) c fun b c=>xF a 5 c fun a c=>xL a 1 false c fun a c=>ag PP fC [a,(.int .i64 1)] c fun a c=>∃(d:HJ),( ∀(b:Nat->D) (c:Heap),d [] c->K a c)/\mu c a b d
theorem x0 (a0:D) (a1:D) (h0:Heap) (K:HK):si a0 a1 h0 K=eF sW K [a0,a1] h0:=by kernel_rfl
def CE:TL
 | 1000012=>some ([12,13,14,15,16,17],[])|7=>some ([5,8,12,13,14,15,16,17,64,65],[66])|8000009=>some ([1],[])|_=>none
def FL:TT
 | 2=>some ([0,0,0,1,11,31,63,127],[3,4,5,6,7],[1,2])|4=>some ([0,0,0,0,8,0,56,0,255,511,1023],[4,6,7,9],[999998,2])|5=>some ([0,0,0,0,8,24,0,64,248,0,512,2040,4089,8185,16377,32761,65531,131067,262139,524283,1048575,2097151,4194303,8388607],[5,8,11,15,19,23],[999999])|11=>some ([0,1,0,4,12,28,0,64,192,448,0,1024,3072,7168,3,16447,50175,131071,262143],[1,14,15,16,17,18],[999999])|_=>none
def BZ:Gz:=⟨96,
 [(.ox [⟨(some 6),.box (.t 0),none⟩,
  ⟨(some 7),.box (.t 1),none⟩,
  ⟨(some 8),.box (.t 2),none⟩,
  ⟨(some 9),.box (.t 3),none⟩,
  ⟨(some 10),.box (.t 4),none⟩,
  ⟨(some 12),.alloc (.agg [(.int .i64 0),(.int .i64 0),(.int .i64 0),(.int .i64 0),.nil,.nil,.nil]),none⟩,
  ⟨(some 13),.alloc .nil,none⟩,
  ⟨(some 14),.alloc .nil,none⟩,
  ⟨(some 15),.alloc .nil,none⟩,
  ⟨(some 16),.alloc (.int .i64 0),none⟩]),(.seq (.ox [⟨(some 20),.fadd (.t 8) 1,none⟩,
  ⟨(some 21),.ld (.t 20) 1 false,none⟩,
  ⟨(some 22),.bin .neq (.t 21) (.c (.int .i64 1)),none⟩]) <|
 .cond (.t 22) (.seq (.dreg [⟨(some 23),.ld (.t 8) 7 true,none⟩,
  ⟨(some 24),.ld (.t 9) 1 false,none⟩,
  ⟨(some 25),.ld (.t 10) 1 false,none⟩] [⟨none,.st (.t 12) (.t 23) 7,none⟩,
  ⟨none,.st (.t 13) (.t 24) 1,none⟩,
  ⟨none,.st (.t 14) (.t 25) 1,none⟩,
  ⟨none,.st (.t 15) (.c .nil) 1,none⟩,
  ⟨none,.st (.t 16) (.c (.int .i64 1)) 1,none⟩] [⟨(some 24),.ld (.t 9) 1 false,none⟩,
  ⟨(some 25),.ld (.t 10) 1 false,none⟩]) <|
 .ret) (.skip))],gu,[],[(.t 8),(.t 9),(.t 10),(.t 12),(.t 13),(.t 14),(.t 15),(.t 16)],26,
 .seq (.seq (.dreg [⟨(some 34),.mov (.c .undef),none⟩] [] []) <|
 .seq (.dreg [⟨(some 27),.ld (.t 6) 8 true,none⟩,
  ⟨(some 28),.ld (.t 7) 2 true,none⟩,
  ⟨(some 29),.ld (.t 8) 7 true,none⟩,
  ⟨(some 30),.ld (.t 9) 1 false,none⟩,
  ⟨(some 32),.ld (.t 10) 1 false,none⟩] [⟨(some 31),.call eD [(.t 30)],none⟩] [⟨(some 27),.ld (.t 6) 8 true,none⟩,
  ⟨(some 28),.ld (.t 7) 2 true,none⟩,
  ⟨(some 29),.ld (.t 8) 7 true,none⟩,
  ⟨(some 32),.ld (.t 10) 1 false,none⟩]) <|
 .seq (.dreg [] [⟨(some 33),.call eD [(.t 32)],none⟩] [⟨(some 27),.ld (.t 6) 8 true,none⟩,
  ⟨(some 28),.ld (.t 7) 2 true,none⟩,
  ⟨(some 29),.ld (.t 8) 7 true,none⟩]) <|
 .seq (.dreg [] [⟨(some 34),.mkm (.pair .i64),none⟩] [⟨(some 27),.ld (.t 6) 8 true,none⟩,
  ⟨(some 28),.ld (.t 7) 2 true,none⟩,
  ⟨(some 29),.ld (.t 8) 7 true,none⟩,
  ⟨(some 30),.ld (.t 9) 1 false,none⟩,
  ⟨(some 32),.ld (.t 10) 1 false,none⟩]) <|
 .seq (.dreg [⟨(some 35),.bld [(.int .i64 0),(.int .i64 0),(.int .i64 0),(.int .i64 0),(.int .i64 0),.nil,.nil,.nil,(.int .i64 0),.nil,(.int .i64 0),(.int .i64 0),(.int .i64 0),(.int .i64 0),.nil,.nil,.nil,.nil,.nil,.nil,.nilmap] [(0,8,(.t 27)),(8,2,(.t 28)),(10,7,(.t 29)),(17,1,(.t 31)),(18,1,(.t 33)),(20,1,(.t 34))],none⟩] [⟨(some 36),.box (.t 35),none⟩] []) <|
 .dreg [⟨(some 17),.mov (.t 36),none⟩] [] []) <|
 .seq (.seq (.dreg [⟨(some 37),.mov (.t 17),none⟩,
  ⟨(some 38),.mov (.t 17),none⟩,
  ⟨(some 39),.mov (.t 17),none⟩,
  ⟨(some 40),.fadd (.t 8) 4,none⟩,
  ⟨(some 41),.ld (.t 40) 1 false,none⟩,
  ⟨(some 43),.fadd (.t 8) 6,none⟩,
  ⟨(some 44),.ld (.t 43) 1 false,none⟩,
  ⟨(some 46),.fadd (.t 8) 5,none⟩,
  ⟨(some 47),.ld (.t 46) 1 false,none⟩] [⟨(some 42),.call aS [(.t 41)],none⟩] [⟨(some 43),.fadd (.t 8) 6,none⟩,
  ⟨(some 44),.ld (.t 43) 1 false,none⟩,
  ⟨(some 46),.fadd (.t 8) 5,none⟩,
  ⟨(some 47),.ld (.t 46) 1 false,none⟩]) <|
 .seq (.dreg [] [⟨(some 45),.call aS [(.t 44)],none⟩] [⟨(some 46),.fadd (.t 8) 5,none⟩,
  ⟨(some 47),.ld (.t 46) 1 false,none⟩]) <|
 .seq (.dreg [] [⟨(some 48),.call eD [(.t 47)],none⟩] []) <|
 .seq (.dreg [⟨(some 49),.fadd (.t 37) 0,none⟩,
  ⟨(some 50),.fadd (.t 49) 10,none⟩,
  ⟨(some 51),.fadd (.t 50) 4,none⟩] [⟨none,.st (.t 51) (.t 42) 1,none⟩] []) <|
 .seq (.dreg [⟨(some 52),.fadd (.t 38) 0,none⟩,
  ⟨(some 53),.fadd (.t 52) 10,none⟩,
  ⟨(some 54),.fadd (.t 53) 6,none⟩] [⟨none,.st (.t 54) (.t 45) 1,none⟩] []) <|
 .seq (.dreg [⟨(some 55),.fadd (.t 39) 0,none⟩,
  ⟨(some 56),.fadd (.t 55) 10,none⟩,
  ⟨(some 57),.fadd (.t 56) 5,none⟩] [⟨none,.st (.t 57) (.t 48) 1,none⟩] []) <|
 .dreg [] [] []) <|
 .seqj [12,13,14,15,16,17] [] (.seq (.ox [⟨(some 58),.fadd (.t 6) 7,none⟩,
  ⟨(some 59),.ld (.t 58) 1 false,none⟩,
  ⟨(some 60),.fadd (.t 8) 2,none⟩,
  ⟨(some 61),.ld (.t 60) 1 false,none⟩,
  ⟨(some 62),.iadd (.t 59) (.t 61) 14,none⟩,
  ⟨(some 63),.fadd (.t 62) 0,none⟩,
  ⟨(some 64),.ld (.t 63) 1 false,none⟩,
  ⟨(some 65),.len (.t 64),none⟩,
  ⟨(some 66),.mov (.c (.int .i64 0)),none⟩]) <|
 .block 0 (.loop [5,8,12,13,14,15,16,17,64,65] [66] (.seq (.ox [⟨(some 67),.bin .lss (.t 66) (.t 65),none⟩]) <|
 .seq (.cond (.t 67) (.skip) (.exit 0)) <|
 .seq (.block 1 (.seq (.ox [⟨(some 68),.mov (.t 66),none⟩,
  ⟨(some 69),.iadd (.t 64) (.t 66) 15,none⟩,
  ⟨(some 70),.ld (.t 69) 15 true,none⟩,
  ⟨(some 19),.alloc (.agg [(.int .i64 0),(.int .i64 0),(.int .i64 0),(.int .i64 0),(.int .i64 0),(.int .i32 0),(.int .i64 0),(.int .i64 0),(.int .i32 0),(.int .i64 0),(.int .i64 0),(.int .i32 0),(.int .i64 0),(.int .i64 0),(.int .i32 0)]),none⟩,
  ⟨(some 18),.mov (.t 68),none⟩,
  ⟨none,.st (.t 19) (.t 70) 15,none⟩]) <|
 .regx [⟨(some 71),.mov (.t 17),none⟩,
  ⟨(some 72),.ld (.t 19) 15 true,none⟩,
  ⟨(some 73),.fadd (.t 8) 0,none⟩,
  ⟨(some 74),.ld (.t 73) 1 false,none⟩,
  ⟨(some 75),.mov (.t 5),none⟩,
  ⟨(some 76),.fadd (.t 8) 2,none⟩,
  ⟨(some 77),.ld (.t 76) 1 false,none⟩,
  ⟨(some 78),.mov (.t 18),none⟩,
  ⟨(some 79),.bld [(.int .i64 0),(.int .i64 0),(.int .i64 0),(.int .i64 0),(.int .i64 0),(.int .i64 0),(.int .i64 0),(.int .i64 0),(.int .i32 0)] [(2,1,(.t 74)),(3,1,(.t 75)),(4,1,(.t 77)),(5,1,(.t 78))],none⟩,
  ⟨(some 80),.call jv [(.t 71),(.t 72),(.t 79)],none⟩])) <|
 .ox [⟨(some 81),.bin .add (.t 66) (.c (.int .i64 1)),none⟩,
  ⟨(some 66),.mov (.t 81),none⟩]))) <|
 .seq (.seq (.dreg [⟨(some 82),.mov (.t 17),none⟩,
  ⟨(some 84),.mov (.t 17),none⟩,
  ⟨(some 85),.fadd (.t 84) 0,none⟩,
  ⟨(some 86),.fadd (.t 85) 17,none⟩,
  ⟨(some 87),.ld (.t 86) 1 false,none⟩,
  ⟨(some 88),.mov (.t 17),none⟩,
  ⟨(some 89),.fadd (.t 88) 0,none⟩,
  ⟨(some 90),.fadd (.t 89) 18,none⟩,
  ⟨(some 91),.ld (.t 90) 1 false,none⟩,
  ⟨(some 92),.mov (.t 17),none⟩,
  ⟨(some 93),.fadd (.t 92) 0,none⟩,
  ⟨(some 94),.fadd (.t 93) 19,none⟩,
  ⟨(some 95),.ld (.t 94) 1 false,none⟩] [⟨(some 83),.call gJ [(.t 82)],none⟩] [⟨(some 85),.fadd (.t 84) 0,none⟩,
  ⟨(some 86),.fadd (.t 85) 17,none⟩,
  ⟨(some 87),.ld (.t 86) 1 false,none⟩,
  ⟨(some 89),.fadd (.t 88) 0,none⟩,
  ⟨(some 90),.fadd (.t 89) 18,none⟩,
  ⟨(some 91),.ld (.t 90) 1 false,none⟩,
  ⟨(some 93),.fadd (.t 92) 0,none⟩,
  ⟨(some 94),.fadd (.t 93) 19,none⟩,
  ⟨(some 95),.ld (.t 94) 1 false,none⟩]) <|
 .seq (.dreg [] [⟨none,.st (.t 12) (.t 83) 7,none⟩] [⟨(some 85),.fadd (.t 84) 0,none⟩,
  ⟨(some 86),.fadd (.t 85) 17,none⟩,
  ⟨(some 87),.ld (.t 86) 1 false,none⟩,
  ⟨(some 89),.fadd (.t 88) 0,none⟩,
  ⟨(some 90),.fadd (.t 89) 18,none⟩,
  ⟨(some 91),.ld (.t 90) 1 false,none⟩,
  ⟨(some 93),.fadd (.t 92) 0,none⟩,
  ⟨(some 94),.fadd (.t 93) 19,none⟩,
  ⟨(some 95),.ld (.t 94) 1 false,none⟩]) <|
 .seq (.dreg [] [⟨none,.st (.t 13) (.t 87) 1,none⟩] [⟨(some 89),.fadd (.t 88) 0,none⟩,
  ⟨(some 90),.fadd (.t 89) 18,none⟩,
  ⟨(some 91),.ld (.t 90) 1 false,none⟩,
  ⟨(some 93),.fadd (.t 92) 0,none⟩,
  ⟨(some 94),.fadd (.t 93) 19,none⟩,
  ⟨(some 95),.ld (.t 94) 1 false,none⟩]) <|
 .seq (.dreg [] [⟨none,.st (.t 14) (.t 91) 1,none⟩] [⟨(some 93),.fadd (.t 92) 0,none⟩,
  ⟨(some 94),.fadd (.t 93) 19,none⟩,
  ⟨(some 95),.ld (.t 94) 1 false,none⟩]) <|
 .seq (.dreg [] [⟨none,.st (.t 15) (.t 95) 1,none⟩] []) <|
 .seq (.dreg [] [⟨none,.st (.t 16) (.c (.int .i64 0)) 1,none⟩] []) <|
 .dreg [] [] []) <|
 .ret,
 [.cell 12 7 true,.cell 13 1 false,.cell 14 1 false,.cell 15 1 false,.cell 16 1 false]⟩
theorem Fy:cFnD PP true qZ CE (cDr PP 96 FL)=some BZ:=by kernel_rfl
def su (a:Heap) (b:D) (c:D) (d:D) (e:D) (f:D) (g:D) (h:D) (i:D) (j:D) (k:D) (l:D) (m:D) (n:HJ) (K:HK):Prop :=
 ∃(o:Nat->HJ) (p:Nat),o p [zI] a/\∀(a:Nat) (p:Nat->D) (q:Heap),o a [p 66] q->vbin .lss (p 66) b fun r=>vcond r (xI c (p 66) 15 q fun n q=>xL n 15 true q fun n q=>ab PP (.alloc (.agg [zI,zI,zI,zI,zI,zJ,zI,zI,zJ,zI,zI,zJ,zI,zI,zJ])) q fun q r=>xS q n 15 r fun n r=>xL q 15 true r fun n q=>xF d 0 q fun q r=>xL q 1 false r fun q r=>xF d 2 r fun r s=>xL r 1 false s fun r s=>ab PP (.bld [zI,zI,zI,zI,zI,zI,zI,zI,zJ] [(2,1,(.c q)),(3,1,(.c e)),(4,1,(.c r)),(5,1,(.c (p 66)))]) s fun q r=>IY PP jv [f,n,q] r (fun a=>OU PP gu [d,g,h,i,j,k,l,m] a fun a=>xL i 7 true a fun b c=>xL j 1 false a fun c d=>xL k 1 false a fun d e=>xL l 1 false a fun e f=>xL m 1 false a fun f g=>K (.tup [b,c,d,e,f]) a) fun g h=>vbin .add (p 66) (.int .i64 1) fun g=>aG [e,d,i,j,k,l,m,f,c,b] [e,d,i,j,k,l,m,f,c,b]/\∃b,b<a/\o b [g] h) (aG [i,j,k,l,m,f] [i,j,k,l,m,f]/\n [] q)
def BC (a:D) (b:D) (c:D) (d:D) (e:D) (f:D) (g:Heap) (K:HK):Prop :=
 ab PP (.box (.c a)) g fun a g=>ab PP (.box (.c b)) g fun b g=>ab PP (.box (.c c)) g fun c g=>ab PP (.box (.c d)) g fun d g=>ab PP (.box (.c e)) g fun e g=>ab PP (.alloc (.agg [zI,zI,zI,zI,.nil,.nil,.nil])) g fun g h=>ab PP (.alloc .nil) h fun h i=>ab PP (.alloc .nil) i fun i j=>ab PP (.alloc .nil) j fun j k=>ab PP (.alloc zI) k fun k l=>xF c 1 l fun l m=>xL l 1 false m fun l m=>vbin .neq l (.int .i64 1) fun l=>vcond l (yL c 7 true m fun a=>yL d 1 false m fun b=>yL e 1 false m fun c=>xS g a 7 m fun a f=>((yL d 1 false f fun a=>aG [a] [b])/\(yL e 1 false f fun a=>aG [a] [c])/\True)/\xS h b 1 f fun a f=>((yL d 1 false f fun a=>aG [a] [b])/\(yL e 1 false f fun a=>aG [a] [c])/\True)/\xS i c 1 f fun a f=>((yL d 1 false f fun a=>aG [a] [b])/\(yL e 1 false f fun a=>aG [a] [c])/\True)/\ab PP (.st (.c j) (.c .nil) 1) f fun a f=>((yL d 1 false f fun a=>aG [a] [b])/\(yL e 1 false f fun a=>aG [a] [c])/\True)/\xS k (.int .i64 1) 1 f fun a f=>((yL d 1 false f fun a=>aG [a] [b])/\(yL e 1 false f fun a=>aG [a] [c])/\True)/\xL g 7 true f fun a b=>xL h 1 false f fun b c=>xL i 1 false f fun c d=>xL j 1 false f fun d e=>xL k 1 false f fun e g=>K (.tup [a,b,c,d,e]) f) (yL a 8 true m fun l=>yL b 2 true m fun n=>yL c 7 true m fun o=>yL d 1 false m fun p=>yL e 1 false m fun q=>ag PP eD [p] m fun m r=>((yL a 8 true r fun a=>aG [a] [l])/\(yL b 2 true r fun a=>aG [a] [n])/\(yL c 7 true r fun a=>aG [a] [o])/\(yL e 1 false r fun a=>aG [a] [q])/\True)/\ag PP eD [q] r fun r s=>((yL a 8 true s fun a=>aG [a] [l])/\(yL b 2 true s fun a=>aG [a] [n])/\(yL c 7 true s fun a=>aG [a] [o])/\True)/\ab PP (.mkm (.pair .i64)) s fun s t=>((yL a 8 true t fun a=>aG [a] [l])/\(yL b 2 true t fun a=>aG [a] [n])/\(yL c 7 true t fun a=>aG [a] [o])/\(yL d 1 false t fun a=>aG [a] [p])/\(yL e 1 false t fun a=>aG [a] [q])/\True)/\aq PP (.bld [zI,zI,zI,zI,zI,.nil,.nil,.nil,zI,.nil,zI,zI,zI,zI,.nil,.nil,.nil,.nil,.nil,.nil,.nilmap] [(0,8,(.c l)),(8,2,(.c n)),(10,7,(.c o)),(17,1,(.c m)),(18,1,(.c r)),(20,1,(.c s))]) t fun b=>ab PP (.box (.c b)) t fun b l=>yF c 4 l fun m=>yL m 1 false l fun m=>yF c 6 l fun n=>yL n 1 false l fun o=>yF c 5 l fun p=>yL p 1 false l fun q=>ag PP aS [m] l fun l m=>((yF c 6 m fun a=>aG [a] [n])/\(yL n 1 false m fun a=>aG [a] [o])/\(yF c 5 m fun a=>aG [a] [p])/\(yL p 1 false m fun a=>aG [a] [q])/\True)/\ag PP aS [o] m fun m n=>((yF c 5 n fun a=>aG [a] [p])/\(yL p 1 false n fun a=>aG [a] [q])/\True)/\ag PP eD [q] n fun n o=>yF b 0 o fun p=>yF p 10 o fun p=>yF p 4 o fun p=>xS p l 1 o fun l o=>yF b 0 o fun l=>yF l 10 o fun l=>yF l 6 o fun l=>xS l m 1 o fun l m=>yF b 0 m fun l=>yF l 10 m fun l=>yF l 5 m fun l=>xS l n 1 m fun l m=>∃(l:HJ),( ∀(a:Nat->D) (c:Heap),l [] c->yF b 0 c fun a=>yF a 17 c fun d=>yL d 1 false c fun e=>yF b 0 c fun f=>yF f 18 c fun l=>yL l 1 false c fun m=>yF b 0 c fun n=>yF n 19 c fun o=>yL o 1 false c fun p=>ag PP gJ [b] c fun c q=>((yF b 0 q fun b=>aG [b] [a])/\(yF a 17 q fun a=>aG [a] [d])/\(yL d 1 false q fun a=>aG [a] [e])/\(yF b 0 q fun a=>aG [a] [f])/\(yF f 18 q fun a=>aG [a] [l])/\(yL l 1 false q fun a=>aG [a] [m])/\(yF b 0 q fun a=>aG [a] [n])/\(yF n 19 q fun a=>aG [a] [o])/\(yL o 1 false q fun a=>aG [a] [p])/\True)/\xS g c 7 q fun c q=>((yF b 0 q fun b=>aG [b] [a])/\(yF a 17 q fun a=>aG [a] [d])/\(yL d 1 false q fun a=>aG [a] [e])/\(yF b 0 q fun a=>aG [a] [f])/\(yF f 18 q fun a=>aG [a] [l])/\(yL l 1 false q fun a=>aG [a] [m])/\(yF b 0 q fun a=>aG [a] [n])/\(yF n 19 q fun a=>aG [a] [o])/\(yL o 1 false q fun a=>aG [a] [p])/\True)/\xS h e 1 q fun a c=>((yF b 0 c fun a=>aG [a] [f])/\(yF f 18 c fun a=>aG [a] [l])/\(yL l 1 false c fun a=>aG [a] [m])/\(yF b 0 c fun a=>aG [a] [n])/\(yF n 19 c fun a=>aG [a] [o])/\(yL o 1 false c fun a=>aG [a] [p])/\True)/\xS i m 1 c fun a c=>((yF b 0 c fun a=>aG [a] [n])/\(yF n 19 c fun a=>aG [a] [o])/\(yL o 1 false c fun a=>aG [a] [p])/\True)/\xS j p 1 c fun a b=>xS k zI 1 b fun a b=>xL g 7 true b fun a c=>xL h 1 false b fun c d=>xL i 1 false b fun d e=>xL j 1 false b fun e f=>xL k 1 false b fun f g=>K (.tup [a,c,d,e,f]) b)/\xF a 7 m fun a m=>xL a 1 false m fun a m=>xF c 2 m fun m n=>xL m 1 false n fun m n=>xI a m 14 n fun a m=>xF a 0 m fun a m=>xL a 1 false m fun a m=>bR a m fun n=>su m n a c f b d e g h i j k l K)
theorem Fg (a0:D) (a1:D) (a2:D) (a3:D) (a4:D) (a5:D) (h0:Heap) (K:HK):BC a0 a1 a2 a3 a4 a5 h0 K=IZ PP BZ K (params [a0,a1,a2,a3,a4,a5] 0) h0:=by kernel_rfl
def nx:TL
 | 1000006=>some ([5,6,7,8,9,10,12],[13])|_=>none
def qf:TT
 | 12=>some ([0,1,3,0,8,0,32,0,128,480,1023,2047],[9,11],[999999])|14=>some ([0,1,3,0,8,24,0,0,0,256,0,1984,4095,8191],[11,13],[999999])|_=>none
noncomputable abbrev kB:=cFn PP true gT nx (cDr PP 63 qf)
noncomputable def kG:aK:=⟨63,aT kB,[.cell 10 11 true]⟩
theorem pF:kB=some kG:=by kernel_rfl
def kx (a:D) (b:D) (c:D) (d:D) (e:D) (f:Heap) (K:HK):Prop :=
 ab PP (.box (.c a)) f fun a f=>ab PP (.box (.c b)) f fun b f=>ab PP (.box (.c c)) f fun c f=>ab PP (.box (.c d)) f fun d f=>ab PP (.box (.c e)) f fun e f=>ab PP (.alloc (.agg [zI,zI,zI,zI,.nil,.nil,.nil,.nil,.nil,.nil,zI])) f fun f g=>xF d 0 g fun g h=>xL g 1 false h fun g h=>∃(i:HJ),( ∀(h:Nat->D) (j:Heap),i [h 13] j->vcond (h 13) (xL a 8 true j fun a b=>xL c 11 true b fun b c=>xL d 15 true c fun c d=>xL e 9 true d fun d e=>ag PP lq [a,b,c,d] e fun a b=>xS f a 11 b fun a b=>xL f 11 true b fun a c=>K a b) (vbin .eql g (.int .i64 10) fun h=>vcond h (xF e 0 j fun a b=>xS a (.int .i64 4) 1 b fun a b=>xF d 1 b fun a b=>xL a 1 false b fun a b=>xF e 1 b fun b d=>xS b a 1 d fun a b=>xF c 9 b fun a b=>xL a 1 false b fun a b=>xL e 9 true b fun b d=>ab PP (.bldS true 9 1 (.agg [zI,zI,zI,zI,zI,zI,zI,zI,zJ]) [(0,(.c b))]) d fun b d=>ab PP (.app (.c a) (.c b) 9 72 (.agg [zI,zI,zI,zI,zI,zI,zI,zI,zJ])) d fun a b=>xF c 9 b fun b d=>xS b a 1 d fun a b=>xL c 11 true b fun a b=>xS f a 11 b fun a b=>xL f 11 true b fun a c=>K a b) (vbin .eql g (.int .i64 12) fun e=>vcond e (yF c 0 j fun a=>yF a 6 j fun b=>yL b 1 false j fun e=>yF d 2 j fun g=>yL g 1 false j fun h=>yF c 0 j fun i=>yL i 7 true j fun i=>yF d 6 j fun k=>yL k 3 true j fun k=>ag PP ck [i,k] j fun i j=>((yF c 0 j fun b=>aG [b] [a])/\(yF a 6 j fun a=>aG [a] [b])/\(yL b 1 false j fun a=>aG [a] [e])/\(yF d 2 j fun a=>aG [a] [g])/\(yL g 1 false j fun a=>aG [a] [h])/\True)/\yI e h 1 j fun a=>xS a i 1 j fun a b=>xL c 11 true b fun a b=>xS f a 11 b fun a b=>xL f 11 true b fun a c=>K a b) (yF c 0 j fun e=>yF e 4 j fun g=>yL g 1 false j fun h=>yF d 3 j fun i=>yF i 1 j fun k=>yL k 1 false j fun l=>yL a 8 true j fun a=>yL b 2 true j fun b=>yF c 0 j fun m=>yL m 7 true j fun m=>yL d 15 true j fun n=>ag PP ln [a,b,m,n] j fun a b=>((yF c 0 b fun a=>aG [a] [e])/\(yF e 4 b fun a=>aG [a] [g])/\(yL g 1 false b fun a=>aG [a] [h])/\(yF d 3 b fun a=>aG [a] [i])/\(yF i 1 b fun a=>aG [a] [k])/\(yL k 1 false b fun a=>aG [a] [l])/\True)/\yI h l 1 b fun d=>xS d a 1 b fun a b=>xL c 11 true b fun a b=>xS f a 11 b fun a b=>xL f 11 true b fun a c=>K a b))))/\vbin .eql g (.int .i64 7) fun j=>vcond j (aG [a,b,c,d,e,f,g] [a,b,c,d,e,f,g]/\i [j] h) (vbin .eql g (.int .i64 8) fun j=>vcond j (aG [a,b,c,d,e,f,g] [a,b,c,d,e,f,g]/\i [j] h) (vbin .eql g (.int .i64 9) fun j=>aG [a,b,c,d,e,f,g] [a,b,c,d,e,f,g]/\i [j] h))
theorem pA (a0:D) (a1:D) (a2:D) (a3:D) (a4:D) (h0:Heap) (K:HK):kx a0 a1 a2 a3 a4 h0 K=eF kG K [a0,a1,a2,a3,a4] h0:=by kernel_rfl
def xj:TL
 | 1000013=>some ([3,4],[])|_=>none
def Cc:TT
 | 11=>some ([0,1,0,4,0,16,48,0,128,384,0,1024,3072,8191,16383],[14],[])|_=>none
noncomputable abbrev uD:=cFn PP true mQ xj (cDr PP 54 Cc)
noncomputable def uT:aK:=⟨54,aT uD,[.cell 4 7 true]⟩
theorem AQ:uD=some uT:=by kernel_rfl
def ug (a:D) (b:D) (c:Heap) (K:HK):Prop :=
 ab PP (.box (.c a)) c fun a c=>ab PP (.box (.c b)) c fun b c=>ab PP (.alloc (.agg [zI,zI,zI,zI,.nil,.nil,.nil])) c fun c d=>xF a 7 d fun d e=>xL d 1 false e fun d e=>xF b 2 e fun e f=>xL e 1 false f fun e f=>xI d e 14 f fun d e=>xF d 1 e fun d e=>xL d 13 true e fun d e=>ab PP (.alloc (.agg [zI,zI,zI,zI,zJ,zI,zI,zJ,zI,zI,zJ,zI,zI])) e fun e f=>xS e d 13 f fun d f=>∃(d:HJ),( ∀(a:Nat->D) (e:Heap),d [] e->xL b 7 true e fun a b=>xS c a 7 b fun a b=>xL c 7 true b fun a c=>K a b)/\xF e 0 f fun f g=>xL f 1 false g fun f g=>vbin .eql f (.int .i64 1) fun h=>vcond h (xF e 11 g fun a e=>ab PP (.iadda (.c a) (.c zI) 2 1) e fun a e=>xL a 1 false e fun a e=>xF b 2 e fun e f=>xS e a 1 f fun a e=>aG [b,c] [b,c]/\d [] e) (vbin .eql f (.int .i64 2) fun h=>vcond h (xF e 11 g fun a f=>ab PP (.iadda (.c a) (.c (.int .i64 1)) 2 1) f fun a f=>xL a 1 false f fun a f=>xF b 2 f fun f g=>xS f a 1 g fun a f=>xL b 7 true f fun a f=>xF e 5 f fun f g=>xL f 3 true g fun f g=>ag PP ck [a,f] g fun a f=>vbin .neq a zJ fun a=>vcond a (xF e 11 f fun a e=>ab PP (.iadda (.c a) (.c zI) 2 1) e fun a e=>xL a 1 false e fun a e=>xF b 2 e fun e f=>xS e a 1 f fun a e=>aG [b,c] [b,c]/\d [] e) (aG [b,c] [b,c]/\d [] f)) (vbin .eql f (.int .i64 5) fun e=>vcond e (yF b 0 g fun d=>yL d 1 false g fun d=>yF b 3 g fun b=>yL b 1 false g fun b=>yF a 2 g fun e=>yL e 1 false g fun e=>aq PP (.mk 1 4 zJ (.c e) (.c e)) g fun e=>yF a 5 g fun f=>yL f 1 false g fun f=>aq PP (.call fC [(.c f),(.c (.int .i64 3))]) g fun f=>yF a 3 g fun a=>yL a 1 false g fun a=>aq PP (.mk 1 4 zJ (.c a) (.c a)) g fun a=>aq PP (.bld [zI,zI,zI,zI,.nil,.nil,.nil] [(0,1,(.c d)),(1,1,(.c (.int .i64 3))),(3,1,(.c b)),(4,1,(.c e)),(5,1,(.c f)),(6,1,(.c a))]) g fun a=>xS c a 7 g fun a b=>xL c 7 true b fun a c=>K a b) (xF b 1 g fun a e=>xS a (.int .i64 2) 1 e fun a e=>aG [b,c] [b,c]/\d [] e)))
theorem Az (a0:D) (a1:D) (h0:Heap) (K:HK):ug a0 a1 h0 K=eF uT K [a0,a1] h0:=by kernel_rfl
def CF:TL
 | 1000009=>some ([4,6],[])|_=>none
def FM:TT
 | 4=>some ([0,1,3,0,8,31,63],[4,6],[1,2])|_=>none
noncomputable abbrev BO:=cFn PP true rf CF (cDr PP 40 FM)
noncomputable def Ca:aK:=⟨40,aT BO,[.cell 6 7 true,.t 7]⟩
theorem Fz:BO=some Ca:=by kernel_rfl
def BD (a:D) (b:D) (c:D) (d:Heap) (K:HK):Prop :=
 ab PP (.box (.c a)) d fun a d=>ab PP (.box (.c b)) d fun b d=>ab PP (.alloc (.agg [zI,zI,zI,zI,.nil,.nil,.nil])) d fun d e=>xF b 1 e fun e f=>xL e 1 false f fun e f=>vbin .neq e (.int .i64 2) fun e=>vcond e (xL b 7 true f fun a b=>xS d a 7 b fun a b=>xL d 7 true b fun a c=>K (.tup [a,(.int .i64 1)]) b) (xF a 7 f fun a e=>xL a 1 false e fun a e=>xF b 2 e fun e f=>xL e 1 false f fun e f=>xI a e 14 f fun a e=>xF a 1 e fun a e=>xL a 13 true e fun a e=>ab PP (.alloc (.agg [zI,zI,zI,zI,zJ,zI,zI,zJ,zI,zI,zJ,zI,zI])) e fun e f=>xS e a 13 f fun a f=>yF e 11 f fun a=>aq PP (.iadda (.c a) (.c zI) 2 1) f fun g=>yL g 1 false f fun h=>yF b 1 f fun i=>yF b 2 f fun j=>xS i (.int .i64 1) 1 f fun f i=>((aq PP (.iadda (.c a) (.c zI) 2 1) i fun a=>aG [a] [g])/\(yL g 1 false i fun a=>aG [a] [h])/\True)/\xS j h 1 i fun f i=>((aq PP (.iadda (.c a) (.c zI) 2 1) i fun a=>aG [a] [g])/\(yL g 1 false i fun a=>aG [a] [h])/\True)/\∃(a:HJ),( ∀(c:Nat->D) (e:Heap),a [] e->xL b 7 true e fun a b=>xS d a 7 b fun a b=>xL d 7 true b fun a c=>K (.tup [a,zI]) b)/\xF e 0 i fun f g=>xL f 1 false g fun f g=>vbin .eql f (.int .i64 4) fun f=>vcond f (xF b 4 g fun f g=>xL f 1 false g fun f g=>ag PP aS [f] g fun f g=>xF b 4 g fun g h=>xS g f 1 h fun f g=>xF b 4 g fun f g=>xL f 1 false g fun f g=>xF e 2 g fun e g=>xF e 1 g fun e g=>xL e 1 false g fun e g=>xI f e 1 g fun e f=>xS e c 1 f fun c e=>aG [b,d] [b,d]/\a [] e) (aG [b,d] [b,d]/\a [] g))
theorem Fh (a0:D) (a1:D) (a2:D) (h0:Heap) (K:HK):BD a0 a1 a2 h0 K=eF Ca K [a0,a1,a2] h0:=by kernel_rfl
def Ak:TL
 | _=>none
def Ee:TT
 | _=>none
noncomputable abbrev yM:=cFn PP true oT Ak (cDr PP 23 Ee)
noncomputable def zq:aK:=⟨23,aT yM,[.cell 6 7 true,.t 7]⟩
theorem Dm:yM=some zq:=by kernel_rfl
def yq (a:D) (b:D) (c:D) (d:Heap) (K:HK):Prop :=
 ab PP (.box (.c a)) d fun a d=>ab PP (.box (.c b)) d fun b d=>ab PP (.alloc (.agg [zI,zI,zI,zI,.nil,.nil,.nil])) d fun d e=>vbin .lss c zI fun f=>vguard f false (fun a=>a c e) e fun e g=>vguard f false (fun a=>xF b 0 g fun b c=>a b c) g fun b g=>vguard f false (fun a=>xL b 1 false g fun b c=>a b c) g fun b g=>vguard f false (fun b=>xF a 0 g fun a c=>b a c) g fun g h=>vguard f false (fun a=>xL g 1 false h fun b c=>a b c) h fun g h=>vguard f false (fun a=>vbin .mul b g fun b=>a b h) h fun b g=>vguard f false (fun a=>vbin .geq e b fun b=>a b g) g fun b e=>ab PP (.pick (.c f) (.c (.bool true)) (.c b)) e fun b e=>vcond b (ab PP (.bld [zI,zI,zI,zI,.nil,.nil,.nil] []) e fun a b=>xS d a 7 b fun a b=>xL d 7 true b fun a c=>K (.tup [a,(.int .i64 1)]) b) (xL a 8 true e fun a b=>ag PP kP [a,c,zI,(.int .i64 1)] b fun a b=>xS d a 7 b fun a b=>xL d 7 true b fun a c=>K (.tup [a,zI]) b)
theorem C2 (a0:D) (a1:D) (a2:D) (h0:Heap) (K:HK):yq a0 a1 a2 h0 K=eF zq K [a0,a1,a2] h0:=by kernel_rfl
def zY:TL
 | 1000007=>some ([],[5])|3=>some ([0,1],[5,6])|_=>none
def D1:TT
 | _=>none
noncomputable abbrev yw:=cFn PP false fC zY (cDr PP 25 D1)
noncomputable def yZ:aK:=⟨25,aT yw,[.t 4]⟩
theorem C8:yw=some yZ:=by kernel_rfl
def pM (a:D) (b:Heap) (c:D) (d:D) (e:HJ):Prop :=
 ∃(f:Nat->HJ) (g:Nat),f g [a,zI] b/\∀(a:Nat) (b:Nat->D) (g:Heap),f a [b 5,b 6] g->bR c g fun h=>vbin .lss (b 6) h fun h=>vcond h (xI c (b 6) 4 g fun e g=>xL e 4 true g fun e g=>ag PP mS [e,d] g fun e g=>ab PP (.mk 1 4 zJ (.c e) (.c e)) g fun e g=>ab PP (.bldS false 1 1 .nil [(0,(.c e))]) g fun e g=>ab PP (.app (.c (b 5)) (.c e) 1 24 .nil) g fun e g=>vbin .add (b 6) (.int .i64 1) fun b=>aG [c,d] [c,d]/\∃c,c<a/\f c [e,b] g) (aG [] []/\e [(b 5)] g)
def xY (a:D) (b:D) (c:Heap) (K:HK):Prop :=
 ab PP (.bldS false 1 0 .nil []) c fun c d=>∃(e:HJ),( ∀(a:Nat->D) (b:Heap),e [a 5] b->K (a 5) b)/\pM c d a b e
theorem CO (a0:D) (a1:D) (h0:Heap) (K:HK):xY a0 a1 h0 K=eF yZ K [a0,a1] h0:=by kernel_rfl
def qp:TL
 | 1000009=>some ([],[])|4=>some ([0,1],[5])|_=>none
def tv:TT
 | 6=>some ([0,0,3,7,0,0,48,112,255],[],[])|_=>none
noncomputable abbrev mF:=cFn PP true et qp (cDr PP 26 tv)
noncomputable def mL:aK:=⟨26,aT mF,[.t 4]⟩
theorem sV:mF=some mL:=by kernel_rfl
def jL (a:Heap) (b:D) (c:D) (d:HJ) (K:HK):Prop :=
 ∃(e:Nat->HJ) (f:Nat),e f [zI] a/\∀(a:Nat) (f:Nat->D) (g:Heap),e a [f 5] g->bR b g fun h=>vbin .lss (f 5) h fun h=>vcond h (yI b (f 5) 1 g fun d=>yL d 1 false g fun d=>yI c (f 5) 1 g fun h=>yL h 1 false g fun h=>vbin .neq d h fun d=>vcond d (K (.bool false) g) (vbin .add (f 5) (.int .i64 1) fun d=>aG [b,c] [b,c]/\∃b,b<a/\e b [d] g)) (aG [] []/\d [] g)
def mq (a:D) (b:D) (c:Heap) (K:HK):Prop :=
 bR a c fun d=>bR b c fun e=>vbin .neq d e fun d=>vcond d (K (.bool false) c) ( ∃(d:HJ),( ∀(a:Nat->D) (b:Heap),d [] b->K (.bool true) b)/\jL c a b d K)
theorem sg (a0:D) (a1:D) (h0:Heap) (K:HK):mq a0 a1 h0 K=eF mL K [a0,a1] h0:=by kernel_rfl
def tG:TL
 | _=>none
def wV:TT
 | _=>none
noncomputable abbrev p6:=cFn PP true fN tG (cDr PP 5 wV)
noncomputable def qe:aK:=⟨5,aT p6,[.t 2]⟩
theorem wC:p6=some qe:=by kernel_rfl
def pU (a:D) (b:Heap) (K:HK):Prop :=
 vbin .neq a zJ fun a=>K a b
theorem wu (a0:D) (h0:Heap) (K:HK):pU a0 h0 K=eF qe K [a0] h0:=by kernel_rfl
def xy:TL
 | _=>none
def Cr:TT
 | _=>none
noncomputable abbrev uR:=cFn PP true mW xy (cDr PP 11 Cr)
noncomputable def vo:aK:=⟨11,aT uR,[.t 6]⟩
theorem A7:uR=some vo:=by kernel_rfl
def uB (a:D) (b:D) (c:D) (d:Heap) (K:HK):Prop :=
 ab PP (.box (.c b)) d fun b d=>ab PP (.mkf gI [] [(.c b)]) d fun b d=>ag PP bw [a,c,b] d fun a b=>K a b
theorem AO (a0:D) (a1:D) (a2:D) (h0:Heap) (K:HK):uB a0 a1 a2 h0 K=eF vo K [a0,a1,a2] h0:=by kernel_rfl
def iT:TL
 | 1000010=>some ([0],[3])|3=>some ([0,9,10],[3,11])|1000009=>some ([0,9,10,11],[3])|1000016=>some ([],[6])|11=>some ([25,26],[6,27])|_=>none
def ji:TT
 | _=>none
noncomputable abbrev fS:=cFn PP true bX iT (cDr PP 36 ji)
noncomputable def fT:aK:=⟨36,aT fS,[.t 2]⟩
theorem je:fS=some fT:=by kernel_rfl
def cD (a:D) (b:Heap) (c:D) (d:D) (e:HJ):Prop :=
 ∃(f:Nat->HJ) (g:Nat),f g [a,zI] b/\∀(a:Nat) (b:Nat->D) (g:Heap),f a [b 6,b 27] g->vbin .lss (b 27) c fun h=>vcond h (xI d (b 27) 1 g fun e g=>xL e 1 false g fun e g=>ab PP (.app (.c (b 6)) (.c e) 1 4 zJ) g fun e g=>vbin .add (b 27) (.int .i64 1) fun b=>aG [d,c] [d,c]/\∃c,c<a/\f c [e,b] g) (aG [] []/\e [(b 6)] g)
def eT (a:Heap) (b:D) (c:D) (d:HJ):Prop :=
 ∃(e:Nat->HJ) (f:Nat),e f [zI,zI] a/\∀(a:Nat) (f:Nat->D) (g:Heap),e a [f 3,f 11] g->vbin .lss (f 11) b fun h=>vcond h ( ∃(d:HJ),( ∀(g:Nat->D) (h:Heap),d [g 3] h->vbin .add (f 11) (.int .i64 1) fun d=>aG [c,c,b] [c,c,b]/\∃b,b<a/\e b [(g 3),d] h)/\xI c (f 11) 1 g fun a e=>xL a 1 false e fun a e=>bR a e fun a=>vbin .add (f 3) a fun a=>vbin .lss a zI fun g=>vcond g (ab PP (.dead) e fun e g=>ab PP (.dead) g fun e g=>aG [c,c,b,(f 11)] [c,c,b,(f 11)]/\d [a] g) (aG [c,c,b,(f 11)] [c,c,b,(f 11)]/\d [a] e)) (aG [c] [c]/\d [(f 3)] g)
def fR (a:D) (b:Heap) (K:HK):Prop :=
 ∃(c:HJ),( ∀(b:Nat->D) (d:Heap),c [b 3] d->ag PP dJ [.nil,(b 3)] d fun b c=>∃(d:HJ),( ∀(a:Nat->D) (b:Heap),d [a 6] b->K (a 6) b)/\bR a c fun e=>cD b c e a d)/\bR a b fun d=>eT b d a c
theorem jd (a0:D) (h0:Heap) (K:HK):fR a0 h0 K=eF fT K [a0] h0:=by kernel_rfl
def gw:TL
 | _=>none
def gR:TT
 | _=>none
noncomputable abbrev dT:=cFn PP true bG gw (cDr PP 9 gR)
noncomputable def dV:aK:=⟨9,aT dT,[.t 4]⟩
theorem gN:dT=some dV:=by kernel_rfl
def dO (a:D) (b:D) (c:Heap) (K:HK):Prop :=
 ag PP eQ [a,b] c fun a b=>vbin .geq a zI fun a=>K a b
theorem gL (a0:D) (a1:D) (h0:Heap) (K:HK):dO a0 a1 h0 K=eF dV K [a0,a1] h0:=by kernel_rfl
def xu:TL
 | _=>none
def Cm:TT
 | _=>none
noncomputable abbrev uN:=cFn PP true jt xu (cDr PP 47 Cm)
noncomputable def ve:aK:=⟨47,aT uN,[.cell 6 2 true]⟩
theorem A0:uN=some ve:=by kernel_rfl
def uw (a:D) (b:D) (c:D) (d:Heap) (K:HK):Prop :=
 ab PP (.alloc (.agg [zJ,zI])) d fun d e=>vbin .lss a (.int .i64 10) fun f=>vguard f false (fun b=>b a e) e fun e g=>vguard f false (fun a=>vbin .gtr e (.int .i64 29) fun b=>a b g) g fun e g=>ab PP (.pick (.c f) (.c (.bool true)) (.c e)) g fun e f=>vcond e (ab PP (.bld [zJ,zI] [(1,1,(.c (.int .i64 1)))]) f fun a b=>xS d a 2 b fun a b=>xL d 2 true b fun a c=>K a b) (vbin .geq a (.int .i64 24) fun e=>vcond e (ab PP (.conv .i64 (.c b)) f fun b e=>ab PP (.conv .i64 (.c c)) e fun c e=>ag PP jk [a,b,c] e fun a b=>ag PP gW [a] b fun a b=>ab PP (.bld [zJ,zI] [(0,1,(.c a))]) b fun a b=>xS d a 2 b fun a b=>xL d 2 true b fun a c=>K a b) (vbin .eql a (.int .i64 17) fun e=>vguard e false (fun b=>b a f) f fun f g=>vguard e false (fun a=>vbin .eql f (.int .i64 18) fun b=>a b g) g fun f g=>ab PP (.pick (.c e) (.c (.bool true)) (.c f)) g fun e f=>vguard e false (fun b=>b a f) f fun f g=>vguard e false (fun a=>vbin .eql f (.int .i64 19) fun b=>a b g) g fun f g=>ab PP (.pick (.c e) (.c (.bool true)) (.c f)) g fun e f=>vcond e (ag PP kN [a,b,c] f fun a b=>ab PP (.bld [zJ,zI] [(0,1,(.c a))]) b fun a b=>xS d a 2 b fun a b=>xL d 2 true b fun a c=>K a b) (ab PP (.conv .i64 (.c b)) f fun b e=>ab PP (.conv .i64 (.c c)) e fun c e=>ag PP mT [a,b,c] e fun a b=>ag PP cO [a] b fun a b=>ab PP (.bld [zJ,zI] [(0,1,(.c a))]) b fun a b=>xS d a 2 b fun a b=>xL d 2 true b fun a c=>K a b)))
theorem AK (a0:D) (a1:D) (a2:D) (h0:Heap) (K:HK):uw a0 a1 a2 h0 K=eF ve K [a0,a1,a2] h0:=by kernel_rfl
def oY:TL
 | _=>none
def qM:TT
 | 2=>some ([0,1,3,7,0,16,48,112,240,511],[],[])|4=>some ([0,1,3,7,0,16,48,112,240,511,1023,2047,4095],[],[])|_=>none
noncomputable abbrev lM:=cFn PP true ak oY (cDr PP 32 qM)
noncomputable def lS:aK:=⟨32,aT lM,[.t 2]⟩
theorem qC:lM=some lS:=by kernel_rfl
def lI (a:D) (b:Heap) (K:HK):Prop :=
 xF a 0 b fun b c=>xF b 1 c fun b c=>xL b 1 false c fun b c=>vbin .add b (.int .i64 1) fun b=>xF a 0 c fun c d=>xF c 1 d fun c d=>xS c b 1 d fun b c=>yF a 0 c fun b=>yF b 1 c fun b=>yL b 1 false c fun b=>yF a 0 c fun d=>yF d 0 c fun d=>yL d 1 false c fun d=>bR d c fun d=>vbin .gtr b d fun b=>vcond b (K zI c) (yF a 0 c fun b=>yF b 0 c fun b=>yL b 1 false c fun b=>yF a 0 c fun a=>yF a 1 c fun a=>yL a 1 false c fun a=>vbin .sub a (.int .i64 1) fun a=>yI b a 1 c fun a=>yL a 1 false c fun a=>aq PP (.conv .i64 (.c a)) c fun a=>K a c)
theorem qv (a0:D) (h0:Heap) (K:HK):lI a0 h0 K=eF lS K [a0] h0:=by kernel_rfl
def vW:TL
 | _=>none
def zG:TT
 | _=>none
noncomputable abbrev sI:=cFn PP true lB vW (cDr PP 7 zG)
noncomputable def sY:aK:=⟨7,aT sI,[.t 0]⟩
theorem zf:sI=some sY:=by kernel_rfl
def sk (a:Heap) (K:HK):Prop :=
 ab PP (.bld [(.str ⟨#[]⟩),zI,zI,zI] [(0,1,(.c (.str ⟨#[97]⟩))),(1,1,(.c (.int .i64 1))),(2,1,(.c (.int .i64 1))),(3,1,(.c (.int .i64 8)))]) a fun a b=>ab PP (.bld [(.str ⟨#[]⟩),zI,zI,zI] [(0,1,(.c (.str ⟨#[102]⟩))),(1,1,(.c (.int .i64 1))),(2,1,(.c (.int .i64 2))),(3,1,(.c (.int .i64 4)))]) b fun b c=>ab PP (.bld [(.str ⟨#[]⟩),zI,zI,zI] [(0,1,(.c (.str ⟨#[115]⟩))),(1,1,(.c (.int .i64 2))),(2,1,(.c (.int .i64 1))),(3,1,(.c (.int .i64 8)))]) c fun c d=>ab PP (.bld [(.str ⟨#[]⟩),zI,zI,zI] [(0,1,(.c (.str ⟨#[112]⟩))),(1,1,(.c (.int .i64 3))),(2,1,(.c (.int .i64 1))),(3,1,(.c (.int .i64 4)))]) d fun d e=>ab PP (.bld [(.str ⟨#[]⟩),zI,zI,zI] [(0,1,(.c (.str ⟨#[98]⟩))),(1,1,(.c (.int .i64 2))),(2,1,(.c (.int .i64 3))),(3,1,(.c (.int .i64 4)))]) e fun e f=>ab PP (.bldS true 4 5 (.agg [(.str ⟨#[]⟩),zI,zI,zI]) [(0,(.c a)),(1,(.c b)),(2,(.c c)),(3,(.c d)),(4,(.c e))]) f fun a b=>K a b
theorem yd (h0:Heap) (K:HK):sk h0 K=eF sY K [] h0:=by kernel_rfl
def mX:TL
 | 1000012=>some ([0],[])|4=>some ([0,5],[6])|1000011=>some ([0,5,6],[])|_=>none
def oD:TT
 | 9=>some ([0,1,3,7,15,0,0,64,0,256,0,1216,0,0,12288,31936,65472,0,131072,0,527552,0,0,6291456,16256192,33426624,67108800,134217664,268435455,536870911,1073741823],[7,11,20,30],[999999])|_=>none
noncomputable abbrev jN:=cFn PP true er mX (cDr PP 77 oD)
noncomputable def jR:aK:=⟨77,aT jN,[]⟩
theorem oi:jN=some jR:=by kernel_rfl
def iC (a:D) (b:Heap) (c:D) (d:D) (e:HJ):Prop :=
 ∃(f:Nat->HJ) (g:Nat),f g [a] b/\∀(a:Nat) (b:Nat->D) (g:Heap),f a [b 6] g->vbin .lss (b 6) c fun h=>vcond h (ag PP cw [d] g fun e g=>xF d 0 g fun e g=>xF e 2 g fun e g=>xF e 7 g fun e g=>xL e 1 false g fun e g=>vbin .add (b 6) (.int .i64 1) fun h=>ab PP (.bld [zI,zI] [(0,1,(.c h)),(1,1,(.c zI))]) g fun g h=>ab PP (.bld [zI,zI,zI,zI,zJ,zI,zI,zJ,zI,zI,zJ,zI,zI] [(0,1,(.c (.int .i64 1))),(11,2,(.c g))]) h fun g h=>xI e (b 6) 14 h fun e h=>xF e 1 h fun e h=>xS e g 13 h fun e g=>∃(e:HJ),( ∀(g:Nat->D) (h:Heap),e [] h->ag PP bm [d] h fun e g=>vbin .add (b 6) (.int .i64 1) fun b=>aG [d,c] [d,c]/\∃c,c<a/\f c [b] g)/\ag PP ak [d] g fun a f=>vbin .rem a (.int .i64 2) fun a=>vbin .eql a zI fun a=>vcond a (yF d 0 f fun a=>yF a 2 f fun g=>yF g 7 f fun h=>yL h 1 false f fun i=>vbin .add (b 6) (.int .i64 1) fun j=>vbin .sub c (b 6) fun k=>vbin .add (b 6) (.int .i64 1) fun l=>vbin .sub c (b 6) fun m=>ag PP aZ [d] f fun f n=>((yF d 0 n fun b=>aG [b] [a])/\(yF a 2 n fun a=>aG [a] [g])/\(yF g 7 n fun a=>aG [a] [h])/\(yL h 1 false n fun a=>aG [a] [i])/\True)/\ag PP ak [d] n fun n o=>((yF d 0 o fun b=>aG [b] [a])/\(yF a 2 o fun a=>aG [a] [g])/\(yF g 7 o fun a=>aG [a] [h])/\(yL h 1 false o fun a=>aG [a] [i])/\True)/\vbin .rem n k fun k=>vbin .add j k fun j=>ag PP ak [d] o fun k n=>((yF d 0 n fun b=>aG [b] [a])/\(yF a 2 n fun a=>aG [a] [g])/\(yF g 7 n fun a=>aG [a] [h])/\(yL h 1 false n fun a=>aG [a] [i])/\True)/\vbin .rem k m fun a=>vbin .add l a fun a=>aq PP (.bld [zI,zI] [(0,1,(.c j)),(1,1,(.c a))]) n fun a=>aq PP (.bld [zI,zI,zI,zI,zJ,zI,zI,zJ,zI,zI,zJ,zI,zI] [(0,1,(.c (.int .i64 2))),(5,3,(.c f)),(11,2,(.c a))]) n fun a=>yI i (b 6) 14 n fun f=>yF f 1 n fun f=>xS f a 13 n fun a f=>aG [d,c,(b 6)] [d,c,(b 6)]/\e [] f) (aG [d,c,(b 6)] [d,c,(b 6)]/\e [] f)) (aG [d] [d]/\e [] g)
def jJ (a:D) (b:D) (c:Heap) (K:HK):Prop :=
 ag PP bm [a] c fun c d=>xF a 0 d fun c d=>xF c 2 d fun c d=>xF c 7 d fun c d=>xL c 1 false d fun c d=>bR c d fun c=>vbin .sub c (.int .i64 1) fun c=>vbin .add c b fun b=>∃(e:HJ),( ∀(b:Nat->D) (c:Heap),e [] c->ag PP cw [a] c fun a b=>K (.tup []) b)/\iC c d b a e
theorem nJ (a0:D) (a1:D) (h0:Heap) (K:HK):jJ a0 a1 h0 K=eF jR K [a0,a1] h0:=by kernel_rfl
end Go.Am
namespace Go.Am
open Go Go.Proofs
def oZ:TL
 | 1000008=>some ([],[0,2,3,4])|1000016=>some ([],[0,4,119])|_=>none
def qN:TT
 | 9=>some ([0,1,3,7,15,0,0,64,192,0,512,0,2048,7680,16320,32767,65535,131071],[17],[])|15=>some ([0,1,3,7,15,0,32,0,128,0,0,1024,3584,8064,16383,32767,65535],[8,16],[999999])|_=>none
noncomputable abbrev lN:=cFn PP true dK oZ (cDr PP 136 qN)
noncomputable def lT:aK:=⟨136,aT lN,[]⟩
theorem qD:lN=some lT:=by kernel_rfl
def nC:TL
 | _=>none
def qi:TT
 | _=>none
noncomputable abbrev kE:=cFn PP true bm nC (cDr PP 14 qi)
noncomputable def kJ:aK:=⟨14,aT kE,[]⟩
theorem pI:kE=some kJ:=by kernel_rfl
def kA (a:D) (b:Heap) (K:HK):Prop :=
 xF a 0 b fun b c=>xF b 2 c fun b c=>xF b 7 c fun b c=>xL b 1 false c fun b c=>ab PP (.bld [.nil,zI,zI,zI,zI,zJ,zI,zI,zJ,zI,zI,zJ,zI,zI] []) c fun c d=>ab PP (.bldS true 14 1 (.agg [.nil,zI,zI,zI,zI,zJ,zI,zI,zJ,zI,zI,zJ,zI,zI]) [(0,(.c c))]) d fun c d=>ab PP (.app (.c b) (.c c) 14 128 (.agg [.nil,zI,zI,zI,zI,zJ,zI,zI,zJ,zI,zI,zJ,zI,zI])) d fun b c=>xF a 0 c fun a c=>xF a 2 c fun a c=>xF a 7 c fun a c=>xS a b 1 c fun a b=>K (.tup []) b
theorem pD (a0:D) (h0:Heap) (K:HK):kA a0 h0 K=eF kJ K [a0] h0:=by kernel_rfl
def qm:TL
 | _=>none
def tq:TT
 | _=>none
noncomputable abbrev mD:=cFn PP true aZ qm (cDr PP 7 tq)
noncomputable def mJ:aK:=⟨7,aT mD,[.cell 2 3 true]⟩
theorem jS:mD=some mJ:=by kernel_rfl
def iY (a:D) (b:Heap) (K:HK):Prop :=
 ab PP (.alloc (.agg [zI,zI,zJ])) b fun b c=>ag PP ak [a] c fun a c=>vbin .rem a (.int .i64 6) fun a=>ag PP dw [a] c fun a c=>xS b a 3 c fun a c=>xL b 3 true c fun a b=>K a c
theorem jK (a0:D) (h0:Heap) (K:HK):iY a0 h0 K=eF mJ K [a0] h0:=by kernel_rfl
def ql:TL
 | _=>none
def tm:TT
 | _=>none
noncomputable abbrev mC:=cFn PP true aY ql (cDr PP 18 tm)
noncomputable def mI:aK:=⟨18,aT mC,[.cell 2 3 true]⟩
theorem jQ:mC=some mI:=by kernel_rfl
def iX (a:D) (b:Heap) (K:HK):Prop :=
 ab PP (.alloc (.agg [zI,zI,zJ])) b fun b c=>ag PP ak [a] c fun a c=>vbin .rem a (.int .i64 3) fun d=>vbin .eql d zI fun d=>vcond d (vbin .quo a (.int .i64 3) fun a=>ab PP (.conv .i32 (.c a)) c fun a c=>vbin .sub a (.int .i32 20) fun a=>ag PP eK [a] c fun a c=>xS b a 3 c fun a c=>xL b 3 true c fun a b=>K a c) (vbin .quo a (.int .i64 3) fun a=>vbin .rem a (.int .i64 6) fun a=>ag PP dw [a] c fun a c=>xS b a 3 c fun a c=>xL b 3 true c fun a b=>K a c)
theorem jI (a0:D) (h0:Heap) (K:HK):iX a0 h0 K=eF mI K [a0] h0:=by kernel_rfl
def nA:TL
 | 1=>some ([0],[2])|_=>none
def qh:TT
 | _=>none
noncomputable abbrev kD:=cFn PP true cw nA (cDr PP 12 qh)
noncomputable def kI:aK:=⟨12,aT kD,[]⟩
theorem pH:kD=some kI:=by kernel_rfl
def iZ (a:D) (b:Heap) (c:D) (K:HK):Prop :=
 ∃(d:Nat->HJ) (e:Nat),d e [a] b/\∀(a:Nat) (b:Nat->D) (e:Heap),d a [b 2] e->vbin .gtr (b 2) zI fun f=>vcond f (ag PP il [c] e fun e f=>vbin .sub (b 2) (.int .i64 1) fun b=>aG [c] [c]/\∃c,c<a/\d c [b] f) (K (.tup []) e)
def kz (a:D) (b:Heap) (K:HK):Prop :=
 ag PP ak [a] b fun b c=>vbin .rem b (.int .i64 5) fun b=>iZ b c a K
theorem pC (a0:D) (h0:Heap) (K:HK):kz a0 h0 K=eF kI K [a0] h0:=by kernel_rfl
def Ag:TL
 | _=>none
def Ea:TT
 | _=>none
noncomputable abbrev yG:=cFn PP true eD Ag (cDr PP 11 Ea)
noncomputable def zm:aK:=⟨11,aT yG,[.t 2]⟩
theorem Dh:yG=some zm:=by kernel_rfl
def yk (a:D) (b:Heap) (K:HK):Prop :=
 bR a b fun c=>ab PP (.mk 1 24 .nil (.c c) (.c c)) b fun b c=>ab PP (.cpy (.c b) (.c a) 1) c fun a c=>K b c
theorem CX (a0:D) (h0:Heap) (K:HK):yk a0 h0 K=eF zm K [a0] h0:=by kernel_rfl
def jb:TL
 | _=>none
def jy:TT
 | _=>none
noncomputable abbrev gi:=cFn PP true aS jb (cDr PP 8 jy)
noncomputable def gj:aK:=⟨8,aT gi,[.t 2]⟩
theorem fv:gi=some gj:=by kernel_rfl
def du (a:D) (b:Heap) (K:HK):Prop :=
 ab PP (.nilq false (.c a)) b fun b c=>vcond b (K .nil c) (ab PP (.bldS true 1 0 zJ []) c fun b c=>ab PP (.app (.c b) (.c a) 1 4 zJ) c fun a b=>K a b)
theorem fu (a0:D) (h0:Heap) (K:HK):du a0 h0 K=eF gj K [a0] h0:=by kernel_rfl
def xz:TL
 | 1000027=>some ([0,4],[8])|1000012=>some ([0,4,5,6,7,25],[50])|1000018=>some ([0,4,5,6],[9])|8000006=>some ([1],[])|8000011=>some ([1],[])|_=>none
def Cs:TT
 | 1=>some ([0,1,3,7,0,16,63,0,128,384,896,0,2048,8191,16383,32767],[6,13],[999999])|7=>some ([0,1,0,4,0,0,32,99,227,495,1007,2047,4095],[6,8,10,12],[1])|12=>some ([0,1,0,4,0,0,32,99,227,495,1007,2047,4095],[6,8,10,12],[1])|15=>some ([0,1,0,4,15,31],[3,5],[1])|16=>some ([0,1,0,0,8,0,60,0,255,511,1023,1023,2047],[6],[999999])|20=>some ([0,1,0,4,15,31],[3,5],[1])|23=>some ([0,1,3,7,15,0,32,0,255,511],[9],[])|25=>some ([0,1,3,7,15,0,32,127,255,511],[],[])|26=>some ([0,1,3,7,15,0,32,96,0,511,1023],[10],[])|_=>none
noncomputable abbrev uS:=cFn PP true jv xz (cDr PP 137 Cs)
noncomputable def ng:aK:=⟨137,aT uS,[]⟩
theorem A8:uS=some ng:=by kernel_rfl
def uC (a:D) (b:D) (c:D) (d:Heap) (K:HK) (KP:Heap->Prop):Prop :=
 ab PP (.box (.c b)) d fun b d=>ab PP (.box (.c c)) d fun c d=>yF a 0 d fun e=>yF e 10 d fun e=>yL e 7 true d fun e=>yF b 6 d fun f=>yL f 3 true d fun f=>yF a 0 d fun g=>yF g 10 d fun h=>yL h 7 true d fun i=>yF b 9 d fun j=>yL j 3 true d fun k=>ag PP cR [e,f] d fun d e=>((yF a 0 e fun a=>aG [a] [g])/\(yF g 10 e fun a=>aG [a] [h])/\(yL h 7 true e fun a=>aG [a] [i])/\(yF b 9 e fun a=>aG [a] [j])/\(yL j 3 true e fun a=>aG [a] [k])/\True)/\ag PP cR [i,k] e fun e f=>∃(g:HJ),( ∀(c:Nat->D) (d:Heap),g [c 8] d->yF a 0 d fun a=>yF a 10 d fun a=>yF a 4 d fun a=>yL a 1 false d fun a=>yF b 3 d fun b=>yF b 1 d fun b=>yL b 1 false d fun b=>yI a b 1 d fun a=>xS a (c 8) 1 d fun a b=>K (.tup []) b)/\xF b 0 f fun f h=>xL f 1 false h fun f h=>vbin .eql f (.int .i64 7) fun i=>vcond i (xF b 2 h fun e f=>xL e 1 false f fun e f=>IY PP fL [a,e,d] f (fun a=>KP a) fun e f=>yF b 2 f fun h=>yL h 1 false f fun i=>aq PP (.conv .i64 (.c d)) f fun d=>yF c 0 f fun j=>yF c 6 f fun k=>yF c 7 f fun l=>yF c 8 f fun m=>xS j (.int .i64 1) 1 f fun f j=>((yL h 1 false j fun a=>aG [a] [i])/\True)/\xS k i 1 j fun f j=>((yL h 1 false j fun a=>aG [a] [i])/\True)/\xS l d 1 j fun d f=>((yL h 1 false f fun a=>aG [a] [i])/\True)/\xS m e 1 f fun d f=>((yL h 1 false f fun a=>aG [a] [i])/\True)/\xL c 9 true f fun c d=>ag PP fM [a,c] d fun c d=>aG [a,b] [a,b]/\g [e] d) ( ∃(i:HJ),( ∀(h:Nat->D) (j:Heap),i [h 50] j->vcond (h 50) (xF b 2 j fun f g=>xL f 1 false g fun f g=>IY PP fL [a,f,d] g (fun a=>KP a) fun f g=>yF b 2 g fun f=>yL f 1 false g fun h=>aq PP (.conv .i64 (.c d)) g fun i=>yF c 0 g fun j=>yF c 6 g fun k=>yF c 7 g fun l=>yF c 8 g fun m=>xS j (.int .i64 2) 1 g fun g j=>((yL f 1 false j fun a=>aG [a] [h])/\True)/\xS k h 1 j fun g j=>((yL f 1 false j fun a=>aG [a] [h])/\True)/\xS l i 1 j fun g i=>((yL f 1 false i fun a=>aG [a] [h])/\True)/\xS m e 1 i fun g i=>((yL f 1 false i fun a=>aG [a] [h])/\True)/\∃(f:HJ),( ∀(e:Nat->D) (g:Heap),f [e 9] g->xF b 2 g fun b f=>xL b 1 false f fun b f=>ag PP jm [a,b,d,(e 9)] f fun b d=>xL c 9 true d fun b c=>ag PP fM [a,b] c fun a b=>K (.tup []) b)/\xF b 0 i fun g h=>xL g 1 false h fun g h=>vbin .eql g (.int .i64 9) fun g=>vcond g (yF b 1 h fun g=>yL g 1 false h fun i=>yF c 0 h fun j=>yF c 1 h fun k=>xS j (.int .i64 3) 1 h fun h j=>((yL g 1 false j fun a=>aG [a] [i])/\True)/\xS k i 1 j fun h j=>((yL g 1 false j fun a=>aG [a] [i])/\True)/\yF b 1 j fun g=>yL g 1 false j fun h=>yF b 2 j fun i=>yL i 1 false j fun i=>ag PP fL [a,i,d] j fun i j=>((yF b 1 j fun a=>aG [a] [g])/\(yL g 1 false j fun a=>aG [a] [h])/\True)/\aq PP (.call kM [(.c h),(.c i),(.c e)]) j fun e=>aq PP (.ext (.c e) 0) j fun g=>aq PP (.ext (.c e) 1) j fun e=>aG [a,b,c,d] [a,b,c,d]/\f [g] j) (aG [a,b,c,d] [a,b,c,d]/\f [e] h)) (vbin .eql f (.int .i64 10) fun h=>vcond h (yF b 1 j fun b=>yL b 1 false j fun d=>yF c 0 j fun e=>yF c 1 j fun f=>xS e (.int .i64 4) 1 j fun e g=>((yL b 1 false g fun a=>aG [a] [d])/\True)/\xS f d 1 g fun e f=>((yL b 1 false f fun a=>aG [a] [d])/\True)/\xL c 9 true f fun b c=>ag PP fM [a,b] c fun a b=>K (.tup []) b) (vbin .eql f (.int .i64 12) fun c=>vcond c (yF a 0 j fun a=>yF a 10 j fun a=>yF a 6 j fun a=>yL a 1 false j fun a=>yF b 2 j fun b=>yL b 1 false j fun b=>yI a b 1 j fun a=>xS a d 1 j fun a b=>K (.tup []) b) (vbin .eql f (.int .i64 11) fun c=>vcond c (yF a 0 j fun c=>yF c 10 j fun c=>yF c 6 j fun c=>yL c 1 false j fun c=>yF b 2 j fun d=>yL d 1 false j fun d=>yI c d 1 j fun c=>yL c 1 false j fun c=>aG [a,b] [a,b]/\g [c] j) (xL b 15 true j fun c f=>ag PP jX [a,c,d,e] f fun c d=>aG [a,b] [a,b]/\g [c] d)))))/\vbin .eql f (.int .i64 8) fun g=>vcond g (aG [a,b,c,d,e,f] [a,b,c,d,e,f]/\i [g] h) (vbin .eql f (.int .i64 9) fun g=>aG [a,b,c,d,e,f] [a,b,c,d,e,f]/\i [g] h))
theorem AP (a0:D) (a1:D) (a2:D) (h0:Heap) (K:HK) (KP:Heap->Prop):uC a0 a1 a2 h0 K KP=vcC PP ng.code (fun x e h'=>match x with|.exit _=>False|.pan=>KP h'|_=>iI PP ng.res K e h') (params [a0,a1,a2] 0) h0:=by kernel_rfl
def rC:TL
 | 1000013=>some ([0,2],[])|_=>none
def vC:TT
 | 1=>some ([0,1,3,7,15,0,32,96,224,480,1023,2047,4095,0,16383],[13,14],[])|7=>some ([0,1,3,7,0,16,63,127],[6],[999999])|11=>some ([0,1,3,7,0,16,48,112,240,0,512,1536,3584,7680,16383,32767],[15],[])|_=>none
noncomputable abbrev od:=cFn PP true gJ rC (cDr PP 77 vC)
noncomputable def ou:aK:=⟨77,aT od,[.cell 2 7 true]⟩
theorem tV:od=some ou:=by kernel_rfl
def nS (a:D) (b:Heap) (K:HK):Prop :=
 ab PP (.alloc (.agg [zI,zI,zI,zI,.nil,.nil,.nil])) b fun b c=>yF a 0 c fun d=>yF d 0 c fun d=>yF d 7 c fun d=>yL d 1 false c fun d=>yF a 0 c fun e=>yF e 10 c fun e=>yF e 2 c fun e=>yL e 1 false c fun e=>yI d e 14 c fun d=>yF d 1 c fun d=>yL d 13 true c fun d=>ab PP (.alloc (.agg [zI,zI,zI,zI,zJ,zI,zI,zJ,zI,zI,zJ,zI,zI])) c fun c e=>xS c d 13 e fun d e=>∃(d:HJ),( ∀(c:Nat->D) (e:Heap),d [] e->xF a 0 e fun a c=>xF a 10 c fun a c=>xL a 7 true c fun a c=>xS b a 7 c fun a c=>xL b 7 true c fun a b=>K a c)/\xF c 0 e fun e f=>xL e 1 false f fun e f=>vbin .eql e (.int .i64 1) fun g=>vcond g (xF c 11 f fun c e=>ab PP (.iadda (.c c) (.c zI) 2 1) e fun c e=>xL c 1 false e fun c e=>xF a 0 e fun e f=>xF e 10 f fun e f=>xF e 2 f fun e f=>xS e c 1 f fun c e=>aG [a,b] [a,b]/\d [] e) (vbin .eql e (.int .i64 2) fun g=>vcond g (yF a 0 f fun e=>yF e 10 f fun e=>yL e 7 true f fun e=>yF c 5 f fun g=>yL g 3 true f fun g=>ag PP cR [e,g] f fun e f=>vbin .neq e zJ fun e=>vcond e (xF c 11 f fun c e=>ab PP (.iadda (.c c) (.c zI) 2 1) e fun c e=>xL c 1 false e fun c e=>xF a 0 e fun e f=>xF e 10 f fun e f=>xF e 2 f fun e f=>xS e c 1 f fun c e=>aG [a,b] [a,b]/\d [] e) (xF c 11 f fun c e=>ab PP (.iadda (.c c) (.c (.int .i64 1)) 2 1) e fun c e=>xL c 1 false e fun c e=>xF a 0 e fun e f=>xF e 10 f fun e f=>xF e 2 f fun e f=>xS e c 1 f fun c e=>aG [a,b] [a,b]/\d [] e)) (vbin .eql e (.int .i64 5) fun c=>vcond c (yF a 0 f fun c=>yF c 0 f fun c=>yL c 8 true f fun c=>yF a 0 f fun d=>yF d 10 f fun d=>yF d 0 f fun d=>yL d 1 false f fun d=>yF a 0 f fun a=>yF a 10 f fun a=>yF a 3 f fun a=>yL a 1 false f fun a=>aq PP (.call kP [(.c c),(.c d),(.c a),(.c (.int .i64 3))]) f fun a=>xS b a 7 f fun a c=>xL b 7 true c fun a b=>K a c) (xF a 0 f fun c e=>xF c 10 e fun c e=>xF c 1 e fun c e=>xS c (.int .i64 2) 1 e fun c e=>aG [a,b] [a,b]/\d [] e)))
theorem tP (a0:D) (h0:Heap) (K:HK):nS a0 h0 K=eF ou K [a0] h0:=by kernel_rfl
def vQ:TL
 | 1000016=>some ([5,6,7,8,9,10,11,12],[])|1000018=>some ([5,6,7,8,9,10,11,12],[])|1000022=>some ([5,7,8,9],[])|1000024=>some ([5,8],[])|_=>none
def zA:TT
 | 6=>some ([0,1,0,4,15,0,0,0,128,0,1023,2047,4095],[4,10],[999999])|20=>some ([0,0,0,4,0,0,32,0,0,480,992,2047],[9,11],[999999])|_=>none
noncomputable abbrev sC:=cFn PP true lq vQ (cDr PP 107 zA)
noncomputable def sQ:aK:=⟨107,aT sC,[.cell 8 11 true]⟩
theorem yS:sC=some sQ:=by kernel_rfl
def rW (a:D) (b:D) (c:D) (d:D) (e:Heap) (K:HK):Prop :=
 ab PP (.box (.c a)) e fun a e=>ab PP (.box (.c b)) e fun b e=>ab PP (.box (.c c)) e fun c e=>ab PP (.box (.c d)) e fun d e=>ab PP (.alloc (.agg [zI,zI,zI,zI,.nil,.nil,.nil,.nil,.nil,.nil,zI])) e fun e f=>xF a 5 f fun a f=>xL a 1 false f fun a f=>xF c 2 f fun f g=>xL f 1 false g fun f g=>xI a f 4 g fun a f=>xL a 4 true f fun a f=>ab PP (.alloc (.agg [(.str ⟨#[]⟩),zI,zI,zI])) f fun f g=>xS f a 4 g fun a g=>xF b 0 g fun a g=>xL a 7 true g fun a g=>xF c 6 g fun g h=>xL g 3 true h fun g h=>ag PP ck [a,g] h fun a g=>ab PP (.conv .i64 (.c a)) g fun a g=>vbin .lss a zI fun h=>vguard h false (fun b=>b a g) g fun g i=>vguard h false (fun a=>xF f 3 i fun b c=>a b c) i fun i j=>vguard h false (fun a=>xL i 1 false j fun b c=>a b c) j fun i j=>vguard h false (fun a=>vbin .geq g i fun b=>a b j) j fun g i=>ab PP (.pick (.c h) (.c (.bool true)) (.c g)) i fun g h=>vcond g (xF b 10 h fun a c=>xS a (.int .i64 70) 1 c fun a c=>xL b 11 true c fun a b=>xS e a 11 b fun a b=>xL e 11 true b fun a c=>K a b) (yF b 0 h fun g=>yL g 7 true h fun g=>yF c 9 h fun i=>yL i 3 true h fun i=>yL b 11 true h fun j=>yL f 4 true h fun k=>yF c 2 h fun l=>yL l 1 false h fun m=>ag PP ck [g,i] h fun g h=>((yL b 11 true h fun a=>aG [a] [j])/\(yL f 4 true h fun a=>aG [a] [k])/\(yF c 2 h fun a=>aG [a] [l])/\(yL l 1 false h fun a=>aG [a] [m])/\True)/\ag PP qW [j,k,m,a] h fun h i=>xF d 0 i fun i j=>xS i (.int .i64 2) 1 j fun i j=>xF c 2 j fun i j=>xL i 1 false j fun i j=>xF d 6 j fun j k=>xS j i 1 k fun i j=>xF d 7 j fun i j=>xS i a 1 j fun i j=>xF d 8 j fun i j=>xS i g 1 j fun i j=>∃(i:HJ),( ∀(j:Nat->D) (k:Heap),i [] k->∃(i:HJ),( ∀(j:Nat->D) (k:Heap),i [] k->∃(i:HJ),( ∀(a:Nat->D) (c:Heap),i [] c->∃(a:HJ),( ∀(c:Nat->D) (d:Heap),a [] d->xL b 11 true d fun a b=>xS e a 11 b fun a b=>xL e 11 true b fun a c=>K a b)/\xF f 1 c fun c f=>xL c 1 false f fun c f=>vbin .neq c (.int .i64 3) fun c=>vcond c (xF b 9 f fun c f=>xL c 1 false f fun c f=>xL d 9 true f fun d f=>ab PP (.bldS true 9 1 (.agg [zI,zI,zI,zI,zI,zI,zI,zI,zJ]) [(0,(.c d))]) f fun d f=>ab PP (.app (.c c) (.c d) 9 72 (.agg [zI,zI,zI,zI,zI,zI,zI,zI,zJ])) f fun c d=>xF b 9 d fun d f=>xS d c 1 f fun c d=>aG [b,e] [b,e]/\a [] d) (aG [b,e] [b,e]/\a [] f))/\xF c 0 k fun j k=>xL j 1 false k fun j k=>vbin .eql j (.int .i64 9) fun j=>vcond j (xF d 0 k fun j k=>xS j (.int .i64 3) 1 k fun j k=>xF c 1 k fun j k=>xL j 1 false k fun j k=>xF d 1 k fun k l=>xS k j 1 l fun j k=>yL b 11 true k fun j=>yL f 4 true k fun l=>yF c 2 k fun m=>yL m 1 false k fun n=>yF c 1 k fun o=>yL o 1 false k fun o=>ag PP jt [o,h,g] k fun g h=>((yL b 11 true h fun a=>aG [a] [j])/\(yL f 4 true h fun a=>aG [a] [l])/\(yF c 2 h fun a=>aG [a] [m])/\(yL m 1 false h fun a=>aG [a] [n])/\True)/\aq PP (.fld (.c g) 0 1 false) h fun c=>ag PP mb [j,l,n,a,c] h fun a c=>aG [b,d,e,f] [b,d,e,f]/\i [] c) (aG [b,d,e,f] [b,d,e,f]/\i [] k))/\xF c 0 k fun j k=>xL j 1 false k fun j k=>vbin .eql j (.int .i64 8) fun j=>vcond j (xL b 11 true k fun j k=>xL f 4 true k fun k l=>xF c 2 l fun l m=>xL l 1 false m fun l m=>ag PP mb [j,k,l,a,g] m fun j k=>aG [b,c,d,e,f,a,g,h] [b,c,d,e,f,a,g,h]/\i [] k) (aG [b,c,d,e,f,a,g,h] [b,c,d,e,f,a,g,h]/\i [] k))/\xF c 0 j fun j k=>xL j 1 false k fun j k=>vbin .eql j (.int .i64 7) fun j=>vcond j (xF d 0 k fun j k=>xS j (.int .i64 1) 1 k fun j k=>xF d 8 k fun j k=>xS j h 1 k fun j k=>xF b 0 k fun j k=>xF j 4 k fun j k=>xL j 1 false k fun j k=>xF c 3 k fun k l=>xF k 1 l fun k l=>xL k 1 false l fun k l=>xI j k 1 l fun j k=>xS j h 1 k fun j k=>aG [b,c,d,e,f,a,g,h] [b,c,d,e,f,a,g,h]/\i [] k) (aG [b,c,d,e,f,a,g,h] [b,c,d,e,f,a,g,h]/\i [] k))
theorem xQ (a0:D) (a1:D) (a2:D) (a3:D) (h0:Heap) (K:HK):rW a0 a1 a2 a3 h0 K=eF sQ K [a0,a1,a2,a3] h0:=by kernel_rfl
def xk:TL
 | _=>none
def Cd:TT
 | _=>none
noncomputable abbrev uE:=cFn PP true ck xk (cDr PP 16 Cd)
noncomputable def uU:aK:=⟨16,aT uE,[.t 4]⟩
theorem AR:uE=some uU:=by kernel_rfl
def uh (a:D) (b:D) (c:Heap) (K:HK):Prop :=
 ab PP (.box (.c a)) c fun a c=>ab PP (.box (.c b)) c fun b c=>xF b 0 c fun c d=>xL c 1 false d fun c d=>vbin .eql c (.int .i64 2) fun c=>vcond c (xF a 4 d fun a c=>xL a 1 false c fun a c=>xF b 1 c fun b c=>xL b 1 false c fun b c=>xI a b 1 c fun a b=>xL a 1 false b fun a b=>K a b) (xF b 2 d fun a b=>xL a 1 false b fun a b=>K a b)
theorem AA (a0:D) (a1:D) (h0:Heap) (K:HK):uh a0 a1 h0 K=eF uU K [a0,a1] h0:=by kernel_rfl
def vP:TL
 | _=>none
def zz:TT
 | 1=>some ([0,0,2,7,0,0,32,127,255,511],[3,7],[999999])|_=>none
noncomputable abbrev sB:=cFn PP true ln vP (cDr PP 72 zz)
noncomputable def sO:aK:=⟨72,aT sB,[.t 8]⟩
theorem yR:sB=some sO:=by kernel_rfl
def rV (a:D) (b:D) (c:D) (d:D) (e:Heap) (K:HK):Prop :=
 ab PP (.box (.c a)) e fun a e=>ab PP (.box (.c b)) e fun b e=>ab PP (.box (.c c)) e fun c e=>ab PP (.box (.c d)) e fun d e=>yL c 7 true e fun f=>yF d 6 e fun g=>yL g 3 true e fun g=>yL c 7 true e fun h=>yF d 9 e fun i=>yL i 3 true e fun j=>ag PP ck [f,g] e fun e f=>((yL c 7 true f fun a=>aG [a] [h])/\(yF d 9 f fun a=>aG [a] [i])/\(yL i 3 true f fun a=>aG [a] [j])/\True)/\ag PP ck [h,j] f fun f g=>xF d 0 g fun g h=>xL g 1 false h fun g h=>vbin .eql g (.int .i64 2) fun i=>vcond i (xF d 1 h fun a b=>xL a 1 false b fun a b=>ag PP oQ [a,e] b fun a b=>ab PP (.fld (.c a) 0 1 false) b fun a b=>K a b) (vbin .eql g (.int .i64 3) fun i=>vcond i (xF d 1 h fun a b=>xL a 1 false b fun a b=>ag PP jt [a,e,f] b fun a b=>ab PP (.fld (.c a) 0 1 false) b fun a b=>K a b) (vbin .eql g (.int .i64 4) fun i=>vcond i (vbin .neq e zJ fun a=>vcond a (K f h) (xL c 7 true h fun a b=>xF d 12 b fun b c=>xL b 3 true c fun b c=>ag PP ck [a,b] c fun a b=>K a b)) (vbin .eql g (.int .i64 5) fun f=>vcond f (xL a 8 true h fun a e=>xL b 2 true e fun b e=>xF c 0 e fun c e=>xL c 1 false e fun c e=>xF d 1 e fun d e=>xL d 1 false e fun d e=>ag PP oO [a,b,c,d] e fun a b=>ab PP (.fld (.c a) 0 1 false) b fun a b=>K a b) (vbin .eql g (.int .i64 6) fun a=>vcond a (xF b 1 h fun a b=>xL a 1 false b fun a b=>xF d 2 b fun b c=>xL b 1 false c fun b c=>xI a b 1 c fun a b=>xL a 1 false b fun a b=>K a b) (vbin .eql g (.int .i64 11) fun a=>vcond a (xF c 6 h fun a b=>xL a 1 false b fun a b=>xF d 2 b fun b c=>xL b 1 false c fun b c=>xI a b 1 c fun a b=>xL a 1 false b fun a b=>K a b) (K e h))))))
theorem xP (a0:D) (a1:D) (a2:D) (a3:D) (h0:Heap) (K:HK):rV a0 a1 a2 a3 h0 K=eF sO K [a0,a1,a2,a3] h0:=by kernel_rfl
def Ah:TL
 | _=>none
def Eb:TT
 | 1=>some ([0,0,0,0,8,24,0,64,192,0,512,1536,4095,8191],[13],[])|_=>none
noncomputable abbrev yH:=cFn PP true kP Ah (cDr PP 22 Eb)
noncomputable def zn:aK:=⟨22,aT yH,[.cell 8 7 true]⟩
theorem Di:yH=some zn:=by kernel_rfl
def yl (a:D) (b:D) (c:D) (d:D) (e:Heap) (K:HK):Prop :=
 ab PP (.box (.c a)) e fun a e=>ab PP (.alloc (.agg [zI,zI,zI,zI,.nil,.nil,.nil])) e fun e f=>yF a 2 f fun g=>yL g 1 false f fun g=>aq PP (.mk 1 4 zJ (.c g) (.c g)) f fun g=>yF a 5 f fun h=>yL h 1 false f fun h=>aq PP (.call mV [(.c h),(.c (.int .i64 3))]) f fun h=>yF a 3 f fun a=>yL a 1 false f fun a=>aq PP (.mk 1 4 zJ (.c a) (.c a)) f fun a=>aq PP (.bld [zI,zI,zI,zI,.nil,.nil,.nil] [(0,1,(.c b)),(1,1,(.c d)),(3,1,(.c c)),(4,1,(.c g)),(5,1,(.c h)),(6,1,(.c a))]) f fun a=>xS e a 7 f fun a b=>xL e 7 true b fun a c=>K a b
theorem CY (a0:D) (a1:D) (a2:D) (a3:D) (h0:Heap) (K:HK):yl a0 a1 a2 a3 h0 K=eF zn K [a0,a1,a2,a3] h0:=by kernel_rfl
def xn:TL
 | _=>none
def Cg:TT
 | _=>none
noncomputable abbrev uH:=cFn PP true mS xn (cDr PP 11 Cg)
noncomputable def uX:aK:=⟨11,aT uH,[.t 4]⟩
theorem AU:uH=some uX:=by kernel_rfl
def uk (a:D) (b:D) (c:Heap) (K:HK):Prop :=
 ab PP (.box (.c a)) c fun a c=>xF a 1 c fun c d=>xL c 1 false d fun c d=>vbin .eql c b fun b=>vcond b (xF a 3 d fun a b=>xL a 1 false b fun a b=>K a b) (K zI d)
theorem AE (a0:D) (a1:D) (h0:Heap) (K:HK):uk a0 a1 h0 K=eF uX K [a0,a1] h0:=by kernel_rfl
def cA:TL
 | 1000011=>some ([],[])|4=>some ([1,2,15,16],[17])|_=>none
def cF:TT
 | _=>none
noncomputable abbrev bB:=cFn PP true bw cA (cDr PP 32 cF)
noncomputable def bC:aK:=⟨32,aT bB,[.t 6]⟩
theorem cE:bB=some bC:=by kernel_rfl
def bt (a:Heap) (b:D) (c:D) (d:D) (e:D) (f:HJ) (K:HK):Prop :=
 ∃(g:Nat->HJ) (h:Nat),g h [zI] a/\∀(a:Nat) (h:Nat->D) (i:Heap),g a [h 17] i->vbin .lss (h 17) b fun j=>vcond j (xI c (h 17) 4 i fun f i=>xL f 4 true i fun f i=>ab PP (.alloc (.agg [(.str ⟨#[]⟩),zI,zI,zI])) i fun i j=>xS i f 4 j fun f j=>xI d (h 17) 1 j fun f j=>xL f 1 false j fun f j=>xL i 4 true j fun i j=>ab PP (.callv (.c e) [(.c i),(.c f)]) j fun f i=>vun .not f fun f=>vcond f (K (.bool false) i) (vbin .add (h 17) (.int .i64 1) fun f=>aG [d,e,c,b] [d,e,c,b]/\∃b,b<a/\g b [f] i)) (aG [] []/\f [] i)
def bA (a:D) (b:D) (c:D) (d:Heap) (K:HK):Prop :=
 bR a d fun e=>bR b d fun f=>vbin .neq e f fun e=>vcond e (K (.bool false) d) ( ∃(e:HJ),( ∀(a:Nat->D) (b:Heap),e [] b->K (.bool true) b)/\bR a d fun f=>bt d f a b c e K)
theorem cC (a0:D) (a1:D) (a2:D) (h0:Heap) (K:HK):bA a0 a1 a2 h0 K=eF bC K [a0,a1,a2] h0:=by kernel_rfl
def ru:TL
 | _=>none
def vz:TT
 | _=>none
noncomputable abbrev nY:=cFn PP true gI ru (cDr PP 12 vz)
noncomputable def oq:aK:=⟨12,aT nY,[.t 5]⟩
theorem tT:nY=some oq:=by kernel_rfl
def nQ (a:D) (b:D) (c:D) (d:Heap) (K:HK):Prop :=
 ab PP (.box (.c a)) d fun a d=>xL a 4 true d fun a d=>xL c 1 false d fun c d=>ag PP ju [a,c] d fun a c=>bR b c fun b=>vbin .eql a b fun a=>K a c
theorem tN (a0:D) (a1:D) (a2:D) (h0:Heap) (K:HK):nQ a0 a1 a2 h0 K=eF oq K [a0,a1,a2] h0:=by kernel_rfl
def xw:TL
 | _=>none
def Co:TT
 | _=>none
noncomputable abbrev uP:=cFn PP true ju xw (cDr PP 11 Co)
noncomputable def vk:aK:=⟨11,aT uP,[.t 4]⟩
theorem A4:uP=some vk:=by kernel_rfl
def uz (a:D) (b:D) (c:Heap) (K:HK):Prop :=
 ab PP (.box (.c a)) c fun a c=>xF a 1 c fun c d=>xL c 1 false d fun c d=>vbin .neq c b fun b=>vcond b (K zI d) (xF a 3 d fun a b=>xL a 1 false b fun a b=>K a b)
theorem AM (a0:D) (a1:D) (h0:Heap) (K:HK):uz a0 a1 h0 K=eF vk K [a0,a1] h0:=by kernel_rfl
def gX:TL
 | 1000008=>some ([],[])|2=>some ([0,1,7],[8])|_=>none
def iE:TT
 | _=>none
noncomputable abbrev eU:=cFn PP true eQ gX (cDr PP 19 iE)
noncomputable def eV:aK:=⟨19,aT eU,[.t 4]⟩
theorem ix:eU=some eV:=by kernel_rfl
def dM (a:Heap) (b:D) (c:D) (d:D) (e:HJ) (K:HK):Prop :=
 ∃(f:Nat->HJ) (g:Nat),f g [zI] a/\∀(a:Nat) (g:Nat->D) (h:Heap),f a [g 8] h->vbin .lss (g 8) b fun i=>vcond i (xI c (g 8) 1 h fun e h=>xL e 1 false h fun e h=>ab PP (.callv (.c d) [(.c e)]) h fun e h=>vcond e (K (g 8) h) (vbin .add (g 8) (.int .i64 1) fun e=>aG [c,d,b] [c,d,b]/\∃b,b<a/\f b [e] h)) (aG [] []/\e [] h)
def eS (a:D) (b:D) (c:Heap) (K:HK):Prop :=
 ∃(d:HJ),( ∀(a:Nat->D) (b:Heap),d [] b->K (.int .i64 (-1)) b)/\bR a c fun e=>dM c e a b d K
theorem iu (a0:D) (a1:D) (h0:Heap) (K:HK):eS a0 a1 h0 K=eF eV K [a0,a1] h0:=by kernel_rfl
def xt:TL
 | _=>none
def Cl:TT
 | _=>none
noncomputable abbrev uM:=cFn PP true gW xt (cDr PP 4 Cl)
noncomputable def vc:aK:=⟨4,aT uM,[.t 2]⟩
theorem AZ:uM=some vc:=by kernel_rfl
def uv (a:D) (b:Heap) (K:HK):Prop :=
 vcond a (K (.int .i32 1) b) (K (.int .i32 0) b)
theorem AJ (a0:D) (h0:Heap) (K:HK):uv a0 h0 K=eF vc K [a0] h0:=by kernel_rfl
def rl:TL
 | _=>none
def vw:TT
 | _=>none
noncomputable abbrev nX:=cFn PP true jk rl (cDr PP 36 vw)
noncomputable def om:aK:=⟨36,aT nX,[.t 6]⟩
theorem tS:nX=some om:=by kernel_rfl
def nM (a:D) (b:D) (c:D) (d:Heap) (K:HK):Prop :=
 vbin .eql a (.int .i64 24) fun e=>vcond e (vbin .eql b c fun a=>K a d) (vbin .eql a (.int .i64 25) fun e=>vcond e (vbin .neq b c fun a=>K a d) (vbin .eql a (.int .i64 26) fun e=>vcond e (vbin .lss b c fun a=>K a d) (vbin .eql a (.int .i64 27) fun e=>vcond e (vbin .leq b c fun a=>K a d) (vbin .eql a (.int .i64 28) fun a=>vcond a (vbin .gtr b c fun a=>K a d) (vbin .geq b c fun a=>K a d)))))
theorem tL (a0:D) (a1:D) (a2:D) (h0:Heap) (K:HK):nM a0 a1 a2 h0 K=eF om K [a0,a1,a2] h0:=by kernel_rfl
def Ac:TL
 | 1000013=>some ([],[9])|3=>some ([0,7,8],[9,10])|1000010=>some ([0,7,8,9,10,11,12],[13])|1000012=>some ([0,7,8,9,10],[13])|_=>none
def D6:TT
 | 5=>some ([0,0,2,7,15,0,0,70,230,486,223,2047],[],[])|_=>none
noncomputable abbrev yB:=cFn PP true kN Ac (cDr PP 68 D6)
noncomputable def zh:aK:=⟨68,aT yB,[.t 6]⟩
theorem Dd:yB=some zh:=by kernel_rfl
def pP (a:Heap) (b:D) (c:D) (d:D) (e:HJ):Prop :=
 ∃(f:Nat->HJ) (g:Nat),f g [zI,zI] a/\∀(a:Nat) (g:Nat->D) (h:Heap),f a [g 9,g 10] h->vbin .lss (g 10) (.int .i64 32) fun i=>vcond i (aq PP (.call cP [(.c (g 10))]) h fun e=>vbin .quo b e fun e=>vbin .rem e (.int .i64 2) fun e=>aq PP (.call cP [(.c (g 10))]) h fun i=>vbin .quo c i fun i=>vbin .rem i (.int .i64 2) fun i=>vbin .mul e i fun j=>∃(k:HJ),( ∀(h:Nat->D) (j:Heap),k [h 13] j->∃(k:HJ),( ∀(e:Nat->D) (h:Heap),k [e 13] h->ag PP cP [(g 10)] h fun h i=>vbin .mul (e 13) h fun e=>vbin .add (g 9) e fun e=>vbin .add (g 10) (.int .i64 1) fun g=>aG [d,b,c] [d,b,c]/\∃b,b<a/\f b [e,g] i)/\vbin .eql d (.int .i64 19) fun a=>vcond a (vbin .add e i fun a=>vbin .rem a (.int .i64 2) fun a=>aG [d,b,c,(g 9),(g 10)] [d,b,c,(g 9),(g 10)]/\k [a] j) (aG [d,b,c,(g 9),(g 10)] [d,b,c,(g 9),(g 10)]/\k [(h 13)] j))/\vbin .eql d (.int .i64 18) fun a=>vcond a (ab PP (.mx (.c e) (.c i)) h fun a f=>aG [d,b,c,(g 9),(g 10),e,i] [d,b,c,(g 9),(g 10),e,i]/\k [a] f) (aG [d,b,c,(g 9),(g 10),e,i] [d,b,c,(g 9),(g 10),e,i]/\k [j] h)) (aG [] []/\e [(g 9)] h)
def yf (a:D) (b:D) (c:D) (d:Heap) (K:HK):Prop :=
 ab PP (.conv .i64 (.c b)) d fun d e=>ag PP cP [(.int .i64 32)] e fun e f=>vbin .lss b zJ fun b=>ag PP gW [b] f fun b f=>ab PP (.conv .i64 (.c b)) f fun b f=>vbin .mul e b fun b=>vbin .add d b fun b=>ab PP (.conv .i64 (.c c)) f fun d e=>ag PP cP [(.int .i64 32)] e fun e f=>vbin .lss c zJ fun c=>ag PP gW [c] f fun c f=>ab PP (.conv .i64 (.c c)) f fun c f=>vbin .mul e c fun c=>vbin .add d c fun c=>∃(d:HJ),( ∀(a:Nat->D) (b:Heap),d [a 9] b->ag PP cO [(a 9)] b fun a b=>K a b)/\pP f b c a d
theorem CT (a0:D) (a1:D) (a2:D) (h0:Heap) (K:HK):yf a0 a1 a2 h0 K=eF zh K [a0,a1,a2] h0:=by kernel_rfl
def Ab:TL
 | _=>none
def D5:TT
 | _=>none
noncomputable abbrev yA:=cFn PP true cO Ab (cDr PP 7 D5)
noncomputable def zg:aK:=⟨7,aT yA,[.t 2]⟩
theorem Dc:yA=some zg:=by kernel_rfl
def ye (a:D) (b:Heap) (K:HK):Prop :=
 ab PP (.conv .u64 (.c a)) b fun a b=>ab PP (.conv .u32 (.c a)) b fun a b=>ab PP (.conv .i32 (.c a)) b fun a b=>K a b
theorem CS (a0:D) (h0:Heap) (K:HK):ye a0 h0 K=eF zg K [a0] h0:=by kernel_rfl
end Go.Am
namespace Go.Am
open Go Go.Proofs
def xo:TL
 | _=>none
def Ch:TT
 | _=>none
noncomputable abbrev uI:=cFn PP true mT xo (cDr PP 76 Ch)
noncomputable def uY:aK:=⟨76,aT uI,[.t 6]⟩
theorem AV:uI=some uY:=by kernel_rfl
def uo (a:D) (b:D) (c:D) (d:Heap) (K:HK):Prop :=
 vbin .rem c (.int .i64 32) fun e=>vbin .add e (.int .i64 32) fun e=>vbin .rem e (.int .i64 32) fun e=>vbin .eql a (.int .i64 10) fun f=>vcond f (vbin .add b c fun a=>K a d) (vbin .eql a (.int .i64 11) fun f=>vcond f (vbin .sub b c fun a=>K a d) (vbin .eql a (.int .i64 12) fun f=>vcond f (vbin .mul b c fun a=>K a d) (vbin .eql a (.int .i64 13) fun f=>vcond f (ag PP gH [b,c] d fun a b=>K a b) (vbin .eql a (.int .i64 14) fun f=>vcond f (ag PP gH [b,c] d fun a d=>vbin .mul c a fun a=>vbin .sub b a fun a=>K a d) (vbin .eql a (.int .i64 15) fun f=>vcond f (vbin .mul b c fun a=>ag PP eL [a,(.int .i64 65536)] d fun a b=>K a b) (vbin .eql a (.int .i64 16) fun f=>vcond f (vbin .eql c zI fun a=>vcond a (K zI d) (vbin .mul (.int .i64 65536) b fun a=>ag PP mU [a,c] d fun a b=>K a b)) (vbin .eql a (.int .i64 20) fun f=>vcond f (ag PP cP [e] d fun a c=>vbin .mul b a fun a=>K a c) (vbin .eql a (.int .i64 21) fun f=>vcond f (ag PP cP [e] d fun a c=>ag PP eL [b,a] c fun a b=>K a b) (vbin .eql a (.int .i64 22) fun a=>vcond a (ab PP (.mn (.c b) (.c c)) d fun a b=>K a b) (ab PP (.mx (.c b) (.c c)) d fun a b=>K a b))))))))))
theorem AF (a0:D) (a1:D) (a2:D) (h0:Heap) (K:HK):uo a0 a1 a2 h0 K=eF uY K [a0,a1,a2] h0:=by kernel_rfl
def qo:TL
 | _=>none
def tu:TT
 | 2=>some ([0,1,3,7,15,0,0,64,192,448,960,0,4032,8128,16320,0,32768,131008,262143,524287,1048575],[17,20],[4,18])|_=>none
noncomputable abbrev mE:=cFn PP true aO qo (cDr PP 32 tu)
noncomputable def mK:aK:=⟨32,aT mE,[]⟩
theorem sU:mE=some mK:=by kernel_rfl
def mo (a:D) (b:D) (c:Heap) (K:HK):Prop :=
 ab PP (.box (.c b)) c fun b c=>xF a 0 c fun c d=>xF c 2 d fun c d=>xF c 7 d fun c d=>xL c 1 false d fun c d=>bR c d fun c=>vbin .sub c (.int .i64 1) fun c=>yF a 0 d fun e=>yF e 2 d fun e=>yF e 7 d fun e=>yL e 1 false d fun f=>yF a 0 d fun a=>yF a 2 d fun a=>yF a 7 d fun a=>yL a 1 false d fun a=>yI a c 14 d fun a=>yF a 0 d fun a=>yL a 1 false d fun a=>yL b 15 true d fun b=>aq PP (.bldS false 15 1 (.agg [zI,zI,zI,zI,zI,zJ,zI,zI,zJ,zI,zI,zJ,zI,zI,zJ]) [(0,(.c b))]) d fun b=>yI f c 14 d fun g=>yF g 0 d fun h=>ab PP (.app (.c a) (.c b) 15 120 (.agg [zI,zI,zI,zI,zI,zJ,zI,zI,zJ,zI,zI,zJ,zI,zI,zJ])) d fun a b=>((yL e 1 false b fun a=>aG [a] [f])/\(yI f c 14 b fun a=>aG [a] [g])/\True)/\xS h a 1 b fun a b=>((yL e 1 false b fun a=>aG [a] [f])/\(yI f c 14 b fun a=>aG [a] [g])/\True)/\K (.tup []) b
theorem sf (a0:D) (a1:D) (h0:Heap) (K:HK):mo a0 a1 h0 K=eF mK K [a0,a1] h0:=by kernel_rfl
def Cy:TL
 | _=>none
def FF:TT
 | _=>none
noncomputable abbrev BI:=cFn PP true dw Cy (cDr PP 5 FF)
noncomputable def BT:aK:=⟨5,aT BI,[.cell 2 3 true]⟩
theorem Fq:BI=some BT:=by kernel_rfl
def Bv (a:D) (b:Heap) (K:HK):Prop :=
 ab PP (.alloc (.agg [zI,zI,zJ])) b fun b c=>ab PP (.bld [zI,zI,zJ] [(0,1,(.c (.int .i64 2))),(1,1,(.c a))]) c fun a c=>xS b a 3 c fun a c=>xL b 3 true c fun a b=>K a c
theorem E8 (a0:D) (h0:Heap) (K:HK):Bv a0 h0 K=eF BT K [a0] h0:=by kernel_rfl
def xm:TL
 | _=>none
def Cf:TT
 | _=>none
noncomputable abbrev uG:=cFn PP true eK xm (cDr PP 5 Cf)
noncomputable def uW:aK:=⟨5,aT uG,[.cell 2 3 true]⟩
theorem AT:uG=some uW:=by kernel_rfl
def uj (a:D) (b:Heap) (K:HK):Prop :=
 ab PP (.alloc (.agg [zI,zI,zJ])) b fun b c=>ab PP (.bld [zI,zI,zJ] [(0,1,(.c (.int .i64 1))),(2,1,(.c a))]) c fun a c=>xS b a 3 c fun a c=>xL b 3 true c fun a b=>K a c
theorem AD (a0:D) (h0:Heap) (K:HK):uj a0 h0 K=eF uW K [a0] h0:=by kernel_rfl
def pa:TL
 | _=>none
def qO:TT
 | 18=>some ([0,0,0,4,12,30,62,0,0,0,524,2046,4095],[3,10,12],[999999])|21=>some ([0,0,0,4,0,30,63],[3,6],[999999])|22=>some ([0,0,0,0,8,30,63],[4,6],[999999])|_=>none
noncomputable abbrev lO:=cFn PP true il pa (cDr PP 133 qO)
noncomputable def lU:aK:=⟨133,aT lO,[]⟩
theorem qE:lO=some lU:=by kernel_rfl
def lK (a:D) (b:Heap) (K:HK):Prop :=
 ag PP ak [a] b fun b c=>vbin .rem b (.int .i64 16) fun b=>vbin .lss b (.int .i64 3) fun d=>vcond d (ag PP ak [a] c fun b c=>vbin .rem b (.int .i64 7) fun b=>vbin .add (.int .i64 1) b fun b=>ag PP aZ [a] c fun c d=>ab PP (.bld [zI,zI,zI,zI,zI,zJ,zI,zI,zJ,zI,zI,zJ,zI,zI,zJ] [(0,1,(.c (.int .i64 5))),(1,1,(.c b)),(3,3,(.c c))]) d fun b c=>ag PP aO [a,b] c fun a b=>K (.tup []) b) (vbin .lss b (.int .i64 7) fun d=>vcond d (ag PP ak [a] c fun b c=>vbin .rem b (.int .i64 20) fun b=>vbin .add (.int .i64 10) b fun b=>ag PP aZ [a] c fun c d=>ag PP aY [a] d fun d e=>ag PP aY [a] e fun e f=>ab PP (.bld [zI,zI,zI,zI,zI,zJ,zI,zI,zJ,zI,zI,zJ,zI,zI,zJ] [(0,1,(.c (.int .i64 3))),(1,1,(.c b)),(3,3,(.c c)),(6,3,(.c d)),(9,3,(.c e))]) f fun b c=>ag PP aO [a,b] c fun a b=>K (.tup []) b) (vbin .eql b (.int .i64 7) fun d=>vcond d (ag PP ak [a] c fun b c=>vbin .rem b (.int .i64 5) fun b=>vbin .add (.int .i64 1) b fun b=>ag PP aZ [a] c fun c d=>ag PP aY [a] d fun d e=>ab PP (.bld [zI,zI,zI,zI,zI,zJ,zI,zI,zJ,zI,zI,zJ,zI,zI,zJ] [(0,1,(.c (.int .i64 2))),(1,1,(.c b)),(3,3,(.c c)),(6,3,(.c d))]) e fun b c=>ag PP aO [a,b] c fun a b=>K (.tup []) b) (vbin .eql b (.int .i64 8) fun d=>vcond d (ag PP aZ [a] c fun b c=>ag PP aY [a] c fun c d=>ag PP aY [a] d fun d e=>ag PP aY [a] e fun e f=>ab PP (.bld [zI,zI,zI,zI,zI,zJ,zI,zI,zJ,zI,zI,zJ,zI,zI,zJ] [(0,1,(.c (.int .i64 4))),(3,3,(.c b)),(6,3,(.c c)),(9,3,(.c d)),(12,3,(.c e))]) f fun b c=>ag PP aO [a,b] c fun a b=>K (.tup []) b) (vbin .eql b (.int .i64 9) fun d=>vcond d (ag PP aZ [a] c fun b c=>ag PP aY [a] c fun c d=>ab PP (.bld [zI,zI,zI,zI,zI,zJ,zI,zI,zJ,zI,zI,zJ,zI,zI,zJ] [(0,1,(.c (.int .i64 1))),(3,3,(.c b)),(6,3,(.c c))]) d fun b c=>ag PP aO [a,b] c fun a b=>K (.tup []) b) (vbin .eql b (.int .i64 10) fun d=>vcond d (ag PP ak [a] c fun b c=>vbin .rem b (.int .i64 3) fun b=>ag PP aZ [a] c fun c d=>ab PP (.bld [zI,zI,zI,zI,zI,zJ,zI,zI,zJ,zI,zI,zJ,zI,zI,zJ] [(0,1,(.c (.int .i64 6))),(2,1,(.c b)),(3,3,(.c c))]) d fun b c=>ag PP aO [a,b] c fun a b=>K (.tup []) b) (vbin .eql b (.int .i64 11) fun d=>vcond d (ag PP ak [a] c fun b c=>vbin .rem b (.int .i64 2) fun b=>vbin .add (.int .i64 1) b fun b=>ab PP (.bld [zI,zI,zI,zI,zI,zJ,zI,zI,zJ,zI,zI,zJ,zI,zI,zJ] [(0,1,(.c (.int .i64 10))),(1,1,(.c b))]) c fun b c=>ag PP aO [a,b] c fun a b=>K (.tup []) b) (vbin .eql b (.int .i64 12) fun d=>vcond d (ag PP eW [a,(.bool false)] c fun b c=>ab PP (.ext (.c b) 0) c fun c d=>ab PP (.ext (.c b) 1) d fun b d=>ab PP (.alloc (.agg [zI,zI,zJ])) d fun d e=>xS d b 3 e fun b e=>aq PP (.bldS false 1 6 zI [(0,(.c (.int .i64 10))),(1,(.c (.int .i64 22))),(2,(.c (.int .i64 23))),(3,(.c (.int .i64 17))),(4,(.c (.int .i64 18))),(5,(.c (.int .i64 19)))]) e fun b=>yL d 3 true e fun f=>ag PP ak [a] e fun e g=>((yL d 3 true g fun a=>aG [a] [f])/\True)/\vbin .rem e (.int .i64 6) fun e=>yI b e 1 g fun h=>yL h 1 false g fun i=>ag PP aY [a] g fun g j=>((yI b e 1 j fun a=>aG [a] [h])/\(yL h 1 false j fun a=>aG [a] [i])/\(yL d 3 true j fun a=>aG [a] [f])/\True)/\aq PP (.bld [zI,zI,zI,zI,zI,zJ,zI,zI,zJ,zI,zI,zJ,zI,zI,zJ] [(0,1,(.c (.int .i64 9))),(1,1,(.c i)),(2,1,(.c c)),(6,3,(.c f)),(9,3,(.c g))]) j fun b=>ag PP aO [a,b] j fun a b=>K (.tup []) b) (ag PP eW [a,(.bool true)] c fun c d=>ab PP (.ext (.c c) 0) d fun d e=>ab PP (.ext (.c c) 1) e fun c e=>ab PP (.alloc (.agg [zI,zI,zJ])) e fun e f=>xS e c 3 f fun c f=>vbin .eql b (.int .i64 13) fun b=>vcond b (yL e 3 true f fun b=>ag PP aZ [a] f fun c f=>((yL e 3 true f fun a=>aG [a] [b])/\True)/\aq PP (.bld [zI,zI,zI,zI,zI,zJ,zI,zI,zJ,zI,zI,zJ,zI,zI,zJ] [(0,1,(.c (.int .i64 7))),(2,1,(.c d)),(3,3,(.c c)),(6,3,(.c b))]) f fun b=>ag PP aO [a,b] f fun a b=>K (.tup []) b) (yL e 3 true f fun b=>ag PP aY [a] f fun c f=>((yL e 3 true f fun a=>aG [a] [b])/\True)/\aq PP (.bld [zI,zI,zI,zI,zI,zJ,zI,zI,zJ,zI,zI,zJ,zI,zI,zJ] [(0,1,(.c (.int .i64 8))),(2,1,(.c d)),(6,3,(.c b)),(9,3,(.c c))]) f fun b=>ag PP aO [a,b] f fun a b=>K (.tup []) b)))))))))
theorem qz (a0:D) (h0:Heap) (K:HK):lK a0 h0 K=eF lU K [a0] h0:=by kernel_rfl
def tD:TL
 | 8000002=>some ([],[])|_=>none
def wS:TT
 | _=>none
noncomputable abbrev pY:=cFn PP true fL tD (cDr PP 34 wS)
noncomputable def kl:aK:=⟨34,aT pY,[.t 6]⟩
theorem wz:pY=some kl:=by kernel_rfl
def pR (a:D) (b:D) (c:D) (d:Heap) (K:HK) (KP:Heap->Prop):Prop :=
 vbin .lss c zJ fun e=>vguard e false (fun a=>a c d) d fun d f=>vguard e false (fun a=>ab PP (.conv .i64 (.c d)) f fun b c=>a b c) f fun d f=>vguard e false (fun b=>b a f) f fun f g=>vguard e false (fun a=>xF f 0 g fun b c=>a b c) g fun f g=>vguard e false (fun a=>xF f 0 g fun b c=>a b c) g fun f g=>vguard e false (fun a=>xF f 5 g fun b c=>a b c) g fun f g=>vguard e false (fun a=>xL f 1 false g fun b c=>a b c) g fun f g=>vguard e false (fun a=>a b g) g fun g h=>vguard e false (fun a=>xI f g 4 h fun b c=>a b c) h fun f g=>vguard e false (fun a=>xF f 3 g fun b c=>a b c) g fun f g=>vguard e false (fun a=>xL f 1 false g fun b c=>a b c) g fun f g=>vguard e false (fun a=>vbin .geq d f fun b=>a b g) g fun d f=>ab PP (.pick (.c e) (.c (.bool true)) (.c d)) f fun d e=>vcond d ( ∀_:LEnv,KP e) (ag PP gf [a,b] e fun a d=>xI a b 1 d fun a b=>xL a 1 false b fun a b=>xI a c 1 b fun a b=>xL a 1 false b fun a b=>K a b)
theorem wj (a0:D) (a1:D) (a2:D) (h0:Heap) (K:HK) (KP:Heap->Prop):pR a0 a1 a2 h0 K KP=vcC PP kl.code (fun x e h'=>match x with|.exit _=>False|.pan=>KP h'|_=>iI PP kl.res K e h') (params [a0,a1,a2] 0) h0:=by kernel_rfl
def tE:TL
 | _=>none
def wT:TT
 | 1=>some ([0,1,3,7,15,31,63,127,255,15,527,2047,4095,8191,16383,32767],[],[])|2=>some ([0,0,2,6,14,0,32,126,255,511,1023],[7,10],[])|_=>none
noncomputable abbrev pZ:=cFn PP true fM tE (cDr PP 30 wT)
noncomputable def qc:aK:=⟨30,aT pZ,[]⟩
theorem wA:pZ=some qc:=by kernel_rfl
def pS (a:D) (b:D) (c:Heap) (K:HK):Prop :=
 ab PP (.box (.c b)) c fun b c=>yF b 0 c fun d=>yL d 1 false c fun d=>vbin .neq d (.int .i64 4) fun d=>aQ d true (fun b=>b a) fun e=>aQ d true (fun a=>yF e 0 c fun b=>a b) fun e=>aQ d true (fun a=>yF e 0 c fun b=>a b) fun e=>aQ d true (fun a=>yF e 5 c fun b=>a b) fun e=>aQ d true (fun a=>yL e 1 false c fun b=>a b) fun e=>aQ d true (fun a=>yF b 6 c fun b=>a b) fun f=>aQ d true (fun a=>yL f 1 false c fun b=>a b) fun f=>aQ d true (fun a=>yI e f 4 c fun b=>a b) fun e=>aQ d true (fun a=>yF e 1 c fun b=>a b) fun e=>aQ d true (fun a=>yL e 1 false c fun b=>a b) fun e=>aQ d true (fun a=>vbin .eql e (.int .i64 3) fun b=>a b) fun e=>aq PP (.pick (.c d) (.c e) (.c (.bool false))) c fun d=>vcond d (K (.tup []) c) (yF a 0 c fun d=>yF d 19 c fun d=>yL d 1 false c fun d=>yL b 9 true c fun b=>aq PP (.bldS false 9 1 (.agg [zI,zI,zI,zI,zI,zI,zI,zI,zJ]) [(0,(.c b))]) c fun b=>yF a 0 c fun a=>yF a 19 c fun a=>ab PP (.app (.c d) (.c b) 9 72 (.agg [zI,zI,zI,zI,zI,zI,zI,zI,zJ])) c fun b c=>xS a b 1 c fun a b=>K (.tup []) b)
theorem wo (a0:D) (a1:D) (h0:Heap) (K:HK):pS a0 a1 h0 K=eF qc K [a0,a1] h0:=by kernel_rfl
def zT:TL
 | _=>none
def DW:TT
 | _=>none
noncomputable abbrev yr:=cFn PP true kM zT (cDr PP 103 DW)
noncomputable def yQ:aK:=⟨103,aT yr,[.t 6,.t 7]⟩
theorem C4:yr=some yQ:=by kernel_rfl
def xO (a:D) (b:D) (c:D) (d:Heap) (K:HK):Prop :=
 ab PP (.conv .i64 (.c b)) d fun d e=>ab PP (.conv .i64 (.c c)) e fun e f=>ag PP iP [b,c] f fun f g=>ab PP (.ext (.c f) 0) g fun g h=>ab PP (.ext (.c f) 1) h fun f h=>vbin .eql a (.int .i64 10) fun i=>vcond i (vbin .add b c fun a=>K (.tup [a,zI]) h) (vbin .eql a (.int .i64 11) fun i=>vcond i (vbin .sub b c fun a=>K (.tup [a,zI]) h) (vbin .eql a (.int .i64 12) fun i=>vcond i (vbin .mul b c fun a=>K (.tup [a,zI]) h) (vbin .eql a (.int .i64 13) fun i=>vcond i (K (.tup [g,zI]) h) (vbin .eql a (.int .i64 14) fun g=>vcond g (K (.tup [f,zI]) h) (vbin .eql a (.int .i64 15) fun f=>vcond f (vbin .mul d e fun a=>vbin .shr a (.int .u64 16) fun a=>ab PP (.conv .i32 (.c a)) h fun a b=>K (.tup [a,zI]) b) (vbin .eql a (.int .i64 16) fun f=>vcond f (vbin .eql c zJ fun a=>vcond a (K (.tup [zJ,zI]) h) (vbin .shl d (.int .u64 16) fun a=>ag PP lk [a,e] h fun a b=>ab PP (.conv .i32 (.c a)) b fun a b=>K (.tup [a,zI]) b)) (vbin .eql a (.int .i64 17) fun d=>vcond d (vbin .and b c fun a=>K (.tup [a,zI]) h) (vbin .eql a (.int .i64 18) fun d=>vcond d (vbin .or b c fun a=>K (.tup [a,zI]) h) (vbin .eql a (.int .i64 19) fun d=>vcond d (vbin .xor b c fun a=>K (.tup [a,zI]) h) (vbin .eql a (.int .i64 20) fun d=>vcond d (vbin .and c (.int .i32 31) fun a=>vbin .shl b a fun a=>K (.tup [a,zI]) h) (vbin .eql a (.int .i64 21) fun d=>vcond d (vbin .and c (.int .i32 31) fun a=>vbin .shr b a fun a=>K (.tup [a,zI]) h) (vbin .eql a (.int .i64 22) fun d=>vcond d (ab PP (.mn (.c b) (.c c)) h fun a b=>K (.tup [a,zI]) b) (vbin .eql a (.int .i64 23) fun d=>vcond d (ab PP (.mx (.c b) (.c c)) h fun a b=>K (.tup [a,zI]) b) (ag PP gG [a,b,c] h fun a b=>ab PP (.ext (.c a) 0) b fun b c=>ab PP (.ext (.c a) 1) c fun a c=>K (.tup [b,a]) c))))))))))))))
theorem CJ (a0:D) (a1:D) (a2:D) (h0:Heap) (K:HK):xO a0 a1 a2 h0 K=eF yQ K [a0,a1,a2] h0:=by kernel_rfl
def rA:TL
 | 1000006=>some ([1,2,3,8],[])|_=>none
def vA:TT
 | 2=>some ([0,1,3,7,0,31,63],[],[])|4=>some ([0,1,3,7,0,31],[5],[])|_=>none
noncomputable abbrev nZ:=cFn PP true jm rA (cDr PP 51 vA)
noncomputable def ot:aK:=⟨51,aT nZ,[]⟩
theorem tU:nZ=some ot:=by kernel_rfl
def nR (a:D) (b:D) (c:D) (d:D) (e:Heap) (K:HK):Prop :=
 ag PP gf [a,b] e fun e f=>xF a 0 f fun f g=>xF f 0 g fun f g=>xF f 5 g fun f g=>xL f 1 false g fun f g=>xI f b 4 g fun f g=>xF f 1 g fun f g=>xL f 1 false g fun f g=>ab PP (.bld [zI,zI] [(0,1,(.c f)),(1,1,(.c b))]) g fun f g=>ab PP (.alloc (.agg [zI,zI])) g fun g h=>xS g f 2 h fun f h=>∃(f:HJ),( ∀(a:Nat->D) (g:Heap),f [] g->xI e b 1 g fun a b=>xL a 1 false b fun a b=>xI a c 1 b fun a b=>xS a d 1 b fun a b=>K (.tup []) b)/\yF a 0 h fun i=>yF i 20 h fun i=>yL i 1 false h fun i=>yL g 2 true h fun j=>aq PP (.look (.pair .i64) (.c i) (.c j) (.bool false) false) h fun i=>vun .not i fun i=>vcond i (xI e b 1 h fun h i=>xL h 1 false i fun h i=>ag PP aS [h] i fun h i=>xI e b 1 i fun i j=>xS i h 1 j fun h i=>yF a 0 i fun a=>yF a 20 i fun a=>yL a 1 false i fun a=>yL g 2 true i fun g=>ab PP (.mupd (.pair .i64) (.c a) (.c g) (.c (.bool true))) i fun a g=>aG [b,c,d,e] [b,c,d,e]/\f [] g) (aG [b,c,d,e] [b,c,d,e]/\f [] h)
theorem tO (a0:D) (a1:D) (a2:D) (a3:D) (h0:Heap) (K:HK):nR a0 a1 a2 a3 h0 K=eF ot K [a0,a1,a2,a3] h0:=by kernel_rfl
def tF:TL
 | 1000015=>some ([],[2])|1000010=>some ([],[3])|_=>none
def wU:TT
 | 8=>some ([0,1,3,7,0,16,63,127],[6],[999999])|11=>some ([0,1,3,7,0,16,48,112,0,256,768,1792,3840,0,8192,32767,65535,131071,131071,262143],[],[])|13=>some ([0,1,3,7,15,0,32,127,255,511],[],[])|_=>none
noncomputable abbrev p0:=cFn PP true jX tF (cDr PP 75 wU)
noncomputable def qd:aK:=⟨75,aT p0,[.t 8]⟩
theorem wB:p0=some qd:=by kernel_rfl
def pT (a:D) (b:D) (c:D) (d:D) (e:Heap) (K:HK):Prop :=
 ab PP (.box (.c b)) e fun b e=>∃(f:HJ),( ∀(a:Nat->D) (b:Heap),f [a 2] b->K (a 2) b)/\xF b 0 e fun e g=>xL e 1 false g fun e g=>vbin .eql e (.int .i64 2) fun h=>vcond h (xF b 1 g fun a b=>xL a 1 false b fun a b=>ag PP qV [a,c] b fun a b=>ab PP (.ext (.c a) 0) b fun b c=>ab PP (.ext (.c a) 1) c fun a c=>aG [] []/\f [b] c) (vbin .eql e (.int .i64 3) fun h=>vcond h (xF b 1 g fun a b=>xL a 1 false b fun a b=>ag PP kM [a,c,d] b fun a b=>ab PP (.ext (.c a) 0) b fun b c=>ab PP (.ext (.c a) 1) c fun a c=>aG [] []/\f [b] c) (vbin .eql e (.int .i64 4) fun h=>vcond h ( ∃(e:HJ),( ∀(a:Nat->D) (b:Heap),e [a 3] b->aG [] []/\f [(a 3)] b)/\vbin .eql c zJ fun c=>vcond c (yF a 0 g fun a=>yF a 10 g fun a=>yL a 7 true g fun a=>yF b 12 g fun b=>yL b 3 true g fun b=>ag PP cR [a,b] g fun a b=>aG [] []/\e [a] b) (aG [] []/\e [d] g)) (vbin .eql e (.int .i64 5) fun d=>vcond d (yF a 0 g fun c=>yF c 0 g fun c=>yL c 8 true g fun c=>yF a 0 g fun d=>yF d 8 g fun d=>yL d 2 true g fun d=>yF a 0 g fun a=>yF a 10 g fun a=>yF a 0 g fun a=>yL a 1 false g fun a=>yF b 1 g fun b=>yL b 1 false g fun b=>aq PP (.call qY [(.c c),(.c d),(.c a),(.c b)]) g fun a=>aq PP (.ext (.c a) 0) g fun b=>aq PP (.ext (.c a) 1) g fun a=>aG [] []/\f [b] g) (vbin .eql e (.int .i64 6) fun d=>vcond d (yF a 0 g fun a=>yF a 8 g fun a=>yF a 1 g fun a=>yL a 1 false g fun a=>yF b 2 g fun b=>yL b 1 false g fun b=>yI a b 1 g fun a=>yL a 1 false g fun a=>aG [] []/\f [a] g) (aG [] []/\f [c] g)))))
theorem wq (a0:D) (a1:D) (a2:D) (a3:D) (h0:Heap) (K:HK):pT a0 a1 a2 a3 h0 K=eF qd K [a0,a1,a2,a3] h0:=by kernel_rfl
def Cx:TL
 | _=>none
def FE:TT
 | _=>none
noncomputable abbrev BH:=cFn PP true qW Cx (cDr PP 40 FE)
noncomputable def BS:aK:=⟨40,aT BH,[.t 8]⟩
theorem Fp:BH=some BS:=by kernel_rfl
def Bu (a:D) (b:D) (c:D) (d:D) (e:Heap) (K:HK):Prop :=
 ab PP (.box (.c a)) e fun a e=>ab PP (.box (.c b)) e fun b e=>xF b 1 e fun e f=>xL e 1 false f fun e f=>vbin .eql e (.int .i64 1) fun e=>vcond e (xF a 7 f fun a b=>xL a 1 false b fun a b=>xI a c 1 b fun a b=>xL a 1 false b fun a b=>xI a d 1 b fun a b=>xL a 1 false b fun a b=>K a b) (xF b 1 f fun b e=>xL b 1 false e fun b e=>vbin .eql b (.int .i64 2) fun b=>vcond b (xF a 8 e fun a b=>xL a 1 false b fun a b=>xI a c 1 b fun a b=>xL a 1 false b fun a b=>xI a d 1 b fun a b=>xL a 1 false b fun a b=>K a b) (xF a 0 e fun a b=>xF a 5 b fun a b=>xL a 1 false b fun a b=>xI a c 1 b fun a b=>xL a 1 false b fun a b=>xI a d 1 b fun a b=>xL a 1 false b fun a b=>K a b))
theorem E7 (a0:D) (a1:D) (a2:D) (a3:D) (h0:Heap) (K:HK):Bu a0 a1 a2 a3 h0 K=eF BS K [a0,a1,a2,a3] h0:=by kernel_rfl
def Cw:TL
 | _=>none
def FD:TT
 | _=>none
noncomputable abbrev BG:=cFn PP true mb Cw (cDr PP 41 FD)
noncomputable def BR:aK:=⟨41,aT BG,[]⟩
theorem Fo:BG=some BR:=by kernel_rfl
def Bt (a:D) (b:D) (c:D) (d:D) (e:D) (f:Heap) (K:HK):Prop :=
 ab PP (.box (.c a)) f fun a f=>ab PP (.box (.c b)) f fun b f=>xF b 1 f fun f g=>xL f 1 false g fun f g=>vbin .eql f (.int .i64 1) fun f=>vcond f (xF a 7 g fun a b=>xL a 1 false b fun a b=>xI a c 1 b fun a b=>xL a 1 false b fun a b=>xI a d 1 b fun a b=>xS a e 1 b fun a b=>K (.tup []) b) (xF b 1 g fun b f=>xL b 1 false f fun b f=>vbin .eql b (.int .i64 2) fun b=>vcond b (xF a 8 f fun a b=>xL a 1 false b fun a b=>xI a c 1 b fun a b=>xL a 1 false b fun a b=>xI a d 1 b fun a b=>xS a e 1 b fun a b=>K (.tup []) b) (xF a 0 f fun a b=>xF a 5 b fun a b=>xL a 1 false b fun a b=>xI a c 1 b fun a b=>xL a 1 false b fun a b=>xI a d 1 b fun a b=>xS a e 1 b fun a b=>K (.tup []) b))
theorem E6 (a0:D) (a1:D) (a2:D) (a3:D) (a4:D) (h0:Heap) (K:HK):Bt a0 a1 a2 a3 a4 h0 K=eF BR K [a0,a1,a2,a3,a4] h0:=by kernel_rfl
def Ad:TL
 | _=>none
def D7:TT
 | _=>none
noncomputable abbrev yC:=cFn PP true oQ Ad (cDr PP 43 D7)
noncomputable def zi:aK:=⟨43,aT yC,[.cell 4 2 true]⟩
theorem De:yC=some zi:=by kernel_rfl
def yg (a:D) (b:D) (c:Heap) (K:HK):Prop :=
 ab PP (.alloc (.agg [zJ,zI])) c fun c d=>ab PP (.conv .i64 (.c b)) d fun b d=>vbin .eql a (.int .i64 1) fun e=>vcond e (vun .neg b fun a=>ag PP cO [a] d fun a b=>ab PP (.bld [zJ,zI] [(0,1,(.c a))]) b fun a b=>xS c a 2 b fun a b=>xL c 2 true b fun a c=>K a b) (vbin .eql a (.int .i64 2) fun e=>vcond e (vun .neg b fun a=>vbin .sub a (.int .i64 1) fun a=>ag PP cO [a] d fun a b=>ab PP (.bld [zJ,zI] [(0,1,(.c a))]) b fun a b=>xS c a 2 b fun a b=>xL c 2 true b fun a c=>K a b) (vbin .eql a (.int .i64 3) fun e=>vcond e (vun .neg b fun a=>ab PP (.mx (.c b) (.c a)) d fun a b=>ag PP cO [a] b fun a b=>ab PP (.bld [zJ,zI] [(0,1,(.c a))]) b fun a b=>xS c a 2 b fun a b=>xL c 2 true b fun a c=>K a b) (vbin .eql a (.int .i64 4) fun e=>vcond e (vbin .mul b (.int .i64 65536) fun a=>ag PP cO [a] d fun a b=>ab PP (.bld [zJ,zI] [(0,1,(.c a))]) b fun a b=>xS c a 2 b fun a b=>xL c 2 true b fun a c=>K a b) (vbin .eql a (.int .i64 5) fun a=>vcond a (ag PP eL [b,(.int .i64 65536)] d fun a b=>ag PP cO [a] b fun a b=>ab PP (.bld [zJ,zI] [(0,1,(.c a))]) b fun a b=>xS c a 2 b fun a b=>xL c 2 true b fun a c=>K a b) (ab PP (.bld [zJ,zI] [(1,1,(.c (.int .i64 1)))]) d fun a b=>xS c a 2 b fun a b=>xL c 2 true b fun a c=>K a b)))))
theorem CU (a0:D) (a1:D) (h0:Heap) (K:HK):yg a0 a1 h0 K=eF zi K [a0,a1] h0:=by kernel_rfl
def z7:TL
 | _=>none
def D3:TT
 | 4=>some ([0,0,0,0,8,0,32,120,0,256,0,0,2048,7168,0,0,32768,114688,262143,524287],[],[])|_=>none
noncomputable abbrev yy:=cFn PP true oO z7 (cDr PP 63 D3)
noncomputable def zc:aK:=⟨63,aT yy,[.cell 8 2 true]⟩
theorem Da:yy=some zc:=by kernel_rfl
def yb (a:D) (b:D) (c:D) (d:D) (e:Heap) (K:HK):Prop :=
 ab PP (.box (.c a)) e fun a e=>ab PP (.box (.c b)) e fun b e=>ab PP (.alloc (.agg [zJ,zI])) e fun e f=>vbin .lss d (.int .i64 1) fun g=>vguard g false (fun a=>a d f) f fun f h=>vguard g false (fun a=>vbin .gtr f (.int .i64 7) fun b=>a b h) h fun f h=>ab PP (.pick (.c g) (.c (.bool true)) (.c f)) h fun f g=>vguard f false (fun a=>a c g) g fun g h=>vguard f false (fun a=>vbin .lss g zI fun b=>a b h) h fun g h=>ab PP (.pick (.c f) (.c (.bool true)) (.c g)) h fun f g=>vguard f false (fun a=>a c g) g fun g h=>vguard f false (fun a=>xF b 0 h fun b c=>a b c) h fun h i=>vguard f false (fun a=>xL h 1 false i fun b c=>a b c) i fun h i=>vguard f false (fun b=>xF a 0 i fun a c=>b a c) i fun i j=>vguard f false (fun a=>xL i 1 false j fun b c=>a b c) j fun i j=>vguard f false (fun a=>vbin .mul h i fun b=>a b j) j fun h i=>vguard f false (fun a=>vbin .geq g h fun b=>a b i) i fun g h=>ab PP (.pick (.c f) (.c (.bool true)) (.c g)) h fun f g=>vcond f (ab PP (.bld [zJ,zI] [(1,1,(.c (.int .i64 1)))]) g fun a b=>xS e a 2 b fun a b=>xL e 2 true b fun a c=>K a b) (xL a 8 true g fun f g=>ag PP vJ [f,c] g fun f g=>ab PP (.ext (.c f) 0) g fun g h=>ab PP (.ext (.c f) 1) h fun f h=>yF b 0 h fun b=>yL b 1 false h fun b=>yF a 0 h fun i=>yL i 1 false h fun i=>vbin .mul b i fun b=>yF a 0 h fun i=>yL i 1 false h fun i=>yF a 1 h fun j=>yL j 1 false h fun j=>vbin .rem f j fun j=>yF a 1 h fun a=>yL a 1 false h fun a=>vbin .quo f a fun a=>aq PP (.bldS false 1 8 zI [(0,(.c zI)),(1,(.c c)),(2,(.c f)),(3,(.c g)),(4,(.c b)),(5,(.c i)),(6,(.c j)),(7,(.c a))]) h fun a=>xI a d 1 h fun a b=>xL a 1 false b fun a b=>ab PP (.conv .i32 (.c a)) b fun a b=>ab PP (.bld [zJ,zI] [(0,1,(.c a))]) b fun a b=>xS e a 2 b fun a b=>xL e 2 true b fun a c=>K a b)
theorem CQ (a0:D) (a1:D) (a2:D) (a3:D) (h0:Heap) (K:HK):yb a0 a1 a2 a3 h0 K=eF zc K [a0,a1,a2,a3] h0:=by kernel_rfl
def xx:TL
 | 1000008=>some ([5],[])|3=>some ([1,5,11,12],[13])|_=>none
def Cq:TT
 | _=>none
noncomputable abbrev uQ:=cFn PP true mV xx (cDr PP 27 Cq)
noncomputable def vn:aK:=⟨27,aT uQ,[.t 4]⟩
theorem A6:uQ=some vn:=by kernel_rfl
def nP (a:Heap) (b:D) (c:D) (d:D) (e:D) (f:HJ):Prop :=
 ∃(g:Nat->HJ) (h:Nat),g h [zI] a/\∀(a:Nat) (h:Nat->D) (i:Heap),g a [h 13] i->vbin .lss (h 13) b fun j=>vcond j (xI c (h 13) 4 i fun f i=>xL f 4 true i fun f i=>ab PP (.alloc (.agg [(.str ⟨#[]⟩),zI,zI,zI])) i fun i j=>xS i f 4 j fun f j=>xL i 4 true j fun f i=>ag PP ju [f,d] i fun f i=>ab PP (.mk 1 4 zJ (.c f) (.c f)) i fun f i=>xI e (h 13) 1 i fun i j=>xS i f 1 j fun f i=>vbin .add (h 13) (.int .i64 1) fun f=>aG [d,e,c,b] [d,e,c,b]/\∃b,b<a/\g b [f] i) (aG [e] [e]/\f [] i)
def uA (a:D) (b:D) (c:Heap) (K:HK):Prop :=
 bR a c fun d=>ab PP (.mk 1 24 .nil (.c d) (.c d)) c fun c d=>∃(e:HJ),( ∀(a:Nat->D) (b:Heap),e [] b->K c b)/\bR a d fun f=>nP d f a b c e
theorem AN (a0:D) (a1:D) (h0:Heap) (K:HK):uA a0 a1 h0 K=eF vn K [a0,a1] h0:=by kernel_rfl
def xp:TL
 | 1000007=>some ([],[3])|3=>some ([0],[3,4])|_=>none
def Ci:TT
 | _=>none
noncomputable abbrev uJ:=cFn PP true cP xp (cDr PP 13 Ci)
noncomputable def uZ:aK:=⟨13,aT uJ,[.t 2]⟩
theorem AW:uJ=some uZ:=by kernel_rfl
def nL (a:Heap) (b:D) (c:HJ):Prop :=
 ∃(d:Nat->HJ) (e:Nat),d e [(.int .i64 1),zI] a/\∀(a:Nat) (e:Nat->D) (f:Heap),d a [e 3,e 4] f->vbin .lss (e 4) b fun g=>vcond g (vbin .mul (.int .i64 2) (e 3) fun c=>vbin .add (e 4) (.int .i64 1) fun e=>aG [b] [b]/\∃b,b<a/\d b [c,e] f) (aG [] []/\c [(e 3)] f)
def uq (a:D) (b:Heap) (K:HK):Prop :=
 ∃(c:HJ),( ∀(a:Nat->D) (b:Heap),c [a 3] b->K (a 3) b)/\nL b a c
theorem AG (a0:D) (h0:Heap) (K:HK):uq a0 h0 K=eF uZ K [a0] h0:=by kernel_rfl
def rj:TL
 | _=>none
def vv:TT
 | _=>none
noncomputable abbrev nW:=cFn PP true gH rj (cDr PP 10 vv)
noncomputable def oj:aK:=⟨10,aT nW,[.t 4]⟩
theorem tR:nW=some oj:=by kernel_rfl
def nK (a:D) (b:D) (c:Heap) (K:HK):Prop :=
 vbin .eql b zI fun d=>vcond d (K zI c) (vbin .quo a b fun a=>K a c)
theorem tK (a0:D) (a1:D) (h0:Heap) (K:HK):nK a0 a1 h0 K=eF oj K [a0,a1] h0:=by kernel_rfl
def xq:TL
 | 1000005=>some ([],[5])|_=>none
def Cj:TT
 | _=>none
noncomputable abbrev uK:=cFn PP true eL xq (cDr PP 16 Cj)
noncomputable def u6:aK:=⟨16,aT uK,[.t 4]⟩
theorem AX:uK=some u6:=by kernel_rfl
def ur (a:D) (b:D) (c:Heap) (K:HK):Prop :=
 vbin .quo a b fun d=>∃(e:HJ),( ∀(a:Nat->D) (b:Heap),e [a 5] b->K (a 5) b)/\vbin .rem a b fun a=>vbin .lss a zI fun a=>vcond a (vbin .sub d (.int .i64 1) fun a=>aG [] []/\e [a] c) (aG [] []/\e [d] c)
theorem AH (a0:D) (a1:D) (h0:Heap) (K:HK):ur a0 a1 h0 K=eF u6 K [a0,a1] h0:=by kernel_rfl
def xr:TL
 | _=>none
def Ck:TT
 | _=>none
noncomputable abbrev uL:=cFn PP true mU xr (cDr PP 15 Ck)
noncomputable def u9:aK:=⟨15,aT uL,[.t 4]⟩
theorem AY:uL=some u9:=by kernel_rfl
def uu (a:D) (b:D) (c:Heap) (K:HK):Prop :=
 vbin .lss b zI fun d=>vcond d (vun .neg a fun a=>vun .neg b fun b=>ag PP eL [a,b] c fun a b=>K a b) (ag PP eL [a,b] c fun a b=>K a b)
theorem AI (a0:D) (a1:D) (h0:Heap) (K:HK):uu a0 a1 h0 K=eF u9 K [a0,a1] h0:=by kernel_rfl
def ny:TL
 | 1000005=>some ([0,5],[6])|_=>none
def qg:TT
 | 5=>some ([0,0,0,4,0,16,48,112,240,0,1008,2032,4080,8176,16368,32764,65534,131071],[3,17],[999999])|6=>some ([0,0,1,7],[3],[])|_=>none
noncomputable abbrev kC:=cFn PP true eW ny (cDr PP 39 qg)
noncomputable def kH:aK:=⟨39,aT kC,[.t 4,.cell 5 3 true]⟩
theorem pG:kC=some kH:=by kernel_rfl
def ky (a:D) (b:D) (c:Heap) (K:HK):Prop :=
 ab PP (.alloc (.agg [zI,zI,zJ])) c fun c d=>ag PP ak [a] d fun d e=>vbin .rem d (.int .i64 5) fun d=>∃(f:HJ),( ∀(b:Nat->D) (d:Heap),f [b 6] d->ag PP aZ [a] d fun d e=>ab PP (.alloc (.agg [zI,zI,zJ])) e fun e f=>xS e d 3 f fun d f=>yL e 3 true f fun d=>yF a 0 f fun g=>yF g 2 f fun h=>yF h 5 f fun i=>yL i 1 false f fun j=>yI j (b 6) 4 f fun k=>yF k 3 f fun l=>yL l 1 false f fun m=>vbin .sub m (.int .i64 1) fun n=>aq PP (.conv .i32 (.c n)) f fun n=>ag PP aY [a] f fun f o=>((yL e 3 true o fun a=>aG [a] [d])/\(yF a 0 o fun a=>aG [a] [g])/\(yF g 2 o fun a=>aG [a] [h])/\(yF h 5 o fun a=>aG [a] [i])/\(yL i 1 false o fun a=>aG [a] [j])/\(yI j (b 6) 4 o fun a=>aG [a] [k])/\(yF k 3 o fun a=>aG [a] [l])/\(yL l 1 false o fun a=>aG [a] [m])/\True)/\aq PP (.call eK [(.c n)]) o fun g=>aq PP (.bld [zI,zI,zI,zI,zI,zJ,zI,zI,zJ,zI,zI,zJ,zI,zI,zJ] [(0,1,(.c (.int .i64 3))),(1,1,(.c (.int .i64 17))),(3,3,(.c d)),(6,3,(.c f)),(9,3,(.c g))]) o fun d=>ag PP aO [a,d] o fun a d=>yL e 3 true d fun a=>xS c a 3 d fun a d=>xL c 3 true d fun a c=>K (.tup [(b 6),a]) d)/\vbin .eql d (.int .i64 3) fun g=>vguard g true (fun a=>a b e) e fun b e=>vguard g true (fun a=>vun .not b fun b=>a b e) e fun b e=>ab PP (.pick (.c g) (.c b) (.c (.bool false))) e fun b e=>vcond b (aG [a,c] [a,c]/\f [zI] e) (aG [a,c] [a,c]/\f [d] e)
theorem pB (a0:D) (a1:D) (h0:Heap) (K:HK):ky a0 a1 h0 K=eF kH K [a0,a1] h0:=by kernel_rfl
def qq:TL
 | _=>none
def tx:TT
 | _=>none
noncomputable abbrev mG:=cFn PP true gf qq (cDr PP 31 tx)
noncomputable def mM:aK:=⟨31,aT mG,[.t 4]⟩
theorem s8:mG=some mM:=by kernel_rfl
def mA (a:D) (b:D) (c:Heap) (K:HK):Prop :=
 xF a 0 c fun c d=>xF c 0 d fun c d=>xF c 5 d fun c d=>xL c 1 false d fun c d=>xI c b 4 d fun b c=>xF b 1 c fun b c=>xL b 1 false c fun b c=>vbin .eql b (.int .i64 1) fun d=>vcond d (xF a 0 c fun a b=>xF a 17 b fun a b=>xL a 1 false b fun a b=>K a b) (vbin .eql b (.int .i64 2) fun b=>vcond b (xF a 0 c fun a b=>xF a 18 b fun a b=>xL a 1 false b fun a b=>K a b) (xF a 0 c fun a b=>xF a 10 b fun a b=>xF a 5 b fun a b=>xL a 1 false b fun a b=>K a b))
theorem ss (a0:D) (a1:D) (h0:Heap) (K:HK):mA a0 a1 h0 K=eF mM K [a0,a1] h0:=by kernel_rfl
def qj:TL
 | _=>none
def tk:TT
 | 4=>some ([0,0,3,7,0,0,48,112,15,511],[],[])|_=>none
noncomputable abbrev mB:=cFn PP true iP qj (cDr PP 23 tk)
noncomputable def mH:aK:=⟨23,aT mB,[.t 4,.t 5]⟩
theorem sM:mB=some mH:=by kernel_rfl
def mj (a:D) (b:D) (c:Heap) (K:HK):Prop :=
 vbin .eql b zJ fun d=>vcond d (K (.tup [zJ,a]) c) (ab PP (.conv .i64 (.c a)) c fun a c=>ab PP (.conv .i64 (.c b)) c fun b c=>vbin .quo a b fun d=>aq PP (.conv .i32 (.c d)) c fun d=>vbin .rem a b fun a=>aq PP (.conv .i32 (.c a)) c fun a=>K (.tup [d,a]) c)
theorem rT (a0:D) (a1:D) (h0:Heap) (K:HK):mj a0 a1 h0 K=eF mH K [a0,a1] h0:=by kernel_rfl
def vO:TL
 | 1000005=>some ([],[5])|_=>none
def zy:TT
 | 1=>some ([0,0,3,0,0,24,7,127],[],[])|_=>none
noncomputable abbrev sA:=cFn PP true lk vO (cDr PP 25 zy)
noncomputable def sN:aK:=⟨25,aT sA,[.t 4]⟩
theorem yP:sA=some sN:=by kernel_rfl
def rU (a:D) (b:D) (c:Heap) (K:HK):Prop :=
 vbin .quo a b fun d=>vbin .rem a b fun a=>∃(e:HJ),( ∀(a:Nat->D) (b:Heap),e [a 5] b->K (a 5) b)/\vbin .neq a zI fun f=>vguard f true (fun b=>b a c) c fun a c=>vguard f true (fun b=>vbin .lss a zI fun a=>b a c) c fun a c=>vguard f true (fun a=>a b c) c fun b c=>vguard f true (fun a=>vbin .lss b zI fun b=>a b c) c fun b c=>vguard f true (fun d=>ab PP (.eqv true false [.b] (.c a) (.c b)) c fun a b=>d a b) c fun a b=>ab PP (.pick (.c f) (.c a) (.c (.bool false))) b fun a b=>vcond a (vbin .sub d (.int .i64 1) fun a=>aG [] []/\e [a] b) (aG [] []/\e [d] b)
theorem xN (a0:D) (a1:D) (h0:Heap) (K:HK):rU a0 a1 h0 K=eF sN K [a0,a1] h0:=by kernel_rfl
def rh:TL
 | _=>none
def vu:TT
 | _=>none
noncomputable abbrev nV:=cFn PP true gG rh (cDr PP 45 vu)
noncomputable def oh:aK:=⟨45,aT nV,[.t 6,.t 7]⟩
theorem tQ:nV=some oh:=by kernel_rfl
def nH (a:D) (b:D) (c:D) (d:Heap) (K:HK):Prop :=
 vbin .eql a (.int .i64 24) fun e=>vcond e (vbin .eql b c fun a=>ag PP cr [a] d fun a b=>K (.tup [a,zI]) b) (vbin .eql a (.int .i64 25) fun e=>vcond e (vbin .neq b c fun a=>ag PP cr [a] d fun a b=>K (.tup [a,zI]) b) (vbin .eql a (.int .i64 26) fun e=>vcond e (vbin .lss b c fun a=>ag PP cr [a] d fun a b=>K (.tup [a,zI]) b) (vbin .eql a (.int .i64 27) fun e=>vcond e (vbin .leq b c fun a=>ag PP cr [a] d fun a b=>K (.tup [a,zI]) b) (vbin .eql a (.int .i64 28) fun e=>vcond e (vbin .gtr b c fun a=>ag PP cr [a] d fun a b=>K (.tup [a,zI]) b) (vbin .eql a (.int .i64 29) fun a=>vcond a (vbin .geq b c fun a=>ag PP cr [a] d fun a b=>K (.tup [a,zI]) b) (K (.tup [zJ,(.int .i64 1)]) d))))))
theorem tJ (a0:D) (a1:D) (a2:D) (h0:Heap) (K:HK):nH a0 a1 a2 h0 K=eF oh K [a0,a1,a2] h0:=by kernel_rfl
end Go.Am
namespace Go.Am
open Go Go.Proofs
def Cv:TL
 | 1000014=>some ([],[])|1000010=>some ([1],[])|_=>none
def FC:TT
 | _=>none
noncomputable abbrev BF:=cFn PP true qV Cv (cDr PP 28 FC)
noncomputable def BQ:aK:=⟨28,aT BF,[.t 4,.t 5]⟩
theorem Fm:BF=some BQ:=by kernel_rfl
def Bs (a:D) (b:D) (c:Heap) (K:HK):Prop :=
 ∃(d:HJ),( ∀(a:Nat->D) (b:Heap),d [] b->K (.tup [zJ,(.int .i64 1)]) b)/\∃(e:HJ),( ∀(a:Nat->D) (c:Heap),e [] c->vun .neg b fun a=>K (.tup [a,zI]) c)/\vbin .eql a (.int .i64 3) fun f=>vcond f (vbin .geq b zJ fun a=>vcond a (K (.tup [b,zI]) c) (aG [b] [b]/\e [] c)) (vbin .eql a (.int .i64 1) fun f=>vcond f (aG [b] [b]/\e [] c) (vbin .eql a (.int .i64 2) fun e=>vcond e (vun .xor b fun a=>K (.tup [a,zI]) c) (vbin .eql a (.int .i64 4) fun e=>vcond e (vbin .shl b (.int .u64 16) fun a=>K (.tup [a,zI]) c) (vbin .eql a (.int .i64 5) fun a=>vcond a (vbin .shr b (.int .u64 16) fun a=>K (.tup [a,zI]) c) (aG [] []/\d [] c)))))
theorem E5 (a0:D) (a1:D) (h0:Heap) (K:HK):Bs a0 a1 h0 K=eF BQ K [a0,a1] h0:=by kernel_rfl
def CD:TL
 | 1000023=>some ([],[13])|_=>none
def FK:TT
 | _=>none
noncomputable abbrev BN:=cFn PP true qY CD (cDr PP 63 FK)
noncomputable def BY:aK:=⟨63,aT BN,[.t 8,.t 9]⟩
theorem Fx:BN=some BY:=by kernel_rfl
def BB (a:D) (b:D) (c:D) (d:D) (e:Heap) (K:HK):Prop :=
 ab PP (.box (.c a)) e fun a e=>ab PP (.box (.c b)) e fun b e=>xF b 0 e fun b e=>xL b 1 false e fun b e=>xF a 0 e fun e f=>xL e 1 false f fun e f=>vbin .mul b e fun b=>vbin .lss c zI fun e=>vguard e false (fun a=>a c f) f fun f g=>vguard e false (fun a=>a b g) g fun g h=>vguard e false (fun a=>vbin .geq f g fun b=>a b h) h fun f g=>ab PP (.pick (.c e) (.c (.bool true)) (.c f)) g fun e f=>vcond e (K (.tup [zJ,(.int .i64 1)]) f) (xL a 8 true f fun e f=>ag PP qX [e,c] f fun e f=>ab PP (.ext (.c e) 0) f fun f g=>ab PP (.ext (.c e) 1) g fun e g=>∃(h:HJ),( ∀(a:Nat->D) (b:Heap),h [a 13] b->ab PP (.conv .i32 (.c (a 13))) b fun a b=>K (.tup [a,zI]) b)/\vbin .eql d (.int .i64 1) fun i=>vcond i (aG [] []/\h [c] g) (vbin .eql d (.int .i64 2) fun c=>vcond c (aG [] []/\h [e] g) (vbin .eql d (.int .i64 3) fun c=>vcond c (aG [] []/\h [f] g) (vbin .eql d (.int .i64 4) fun c=>vcond c (aG [] []/\h [b] g) (vbin .eql d (.int .i64 5) fun b=>vcond b (xF a 0 g fun a b=>xL a 1 false b fun a b=>aG [] []/\h [a] b) (vbin .eql d (.int .i64 6) fun b=>vcond b (xF a 1 g fun a b=>xL a 1 false b fun a b=>vbin .rem e a fun a=>aG [] []/\h [a] b) (vbin .eql d (.int .i64 7) fun b=>vcond b (xF a 1 g fun a b=>xL a 1 false b fun a b=>vbin .quo e a fun a=>aG [] []/\h [a] b) (K (.tup [zJ,(.int .i64 1)]) g))))))))
theorem Ff (a0:D) (a1:D) (a2:D) (a3:D) (h0:Heap) (K:HK):BB a0 a1 a2 a3 h0 K=eF BY K [a0,a1,a2,a3] h0:=by kernel_rfl
def EC:TL
 | _=>none
def GG:TT
 | 1=>some ([0,0,2,7,0,0,32,112,15,511],[],[])|_=>none
noncomputable abbrev Fk:=cFn PP true vJ EC (cDr PP 14 GG)
noncomputable def Fs:aK:=⟨14,aT Fk,[.t 4,.t 5]⟩
theorem FZ:Fk=some Fs:=by kernel_rfl
def E9 (a:D) (b:D) (c:Heap) (K:HK):Prop :=
 ab PP (.box (.c a)) c fun a c=>yF a 0 c fun d=>yL d 1 false c fun d=>vbin .quo b d fun d=>yF a 0 c fun a=>yL a 1 false c fun a=>vbin .rem b a fun a=>K (.tup [d,a]) c
theorem FY (a0:D) (a1:D) (h0:Heap) (K:HK):E9 a0 a1 h0 K=eF Fs K [a0,a1] h0:=by kernel_rfl
def vM:TL
 | _=>none
def zx:TT
 | _=>none
noncomputable abbrev sw:=cFn PP true cr vM (cDr PP 4 zx)
noncomputable def sL:aK:=⟨4,aT sw,[.t 2]⟩
theorem yO:sw=some sL:=by kernel_rfl
def rS (a:D) (b:Heap) (K:HK):Prop :=
 vcond a (K (.int .i32 1) b) (K (.int .i32 0) b)
theorem xM (a0:D) (h0:Heap) (K:HK):rS a0 h0 K=eF sL K [a0] h0:=by kernel_rfl
def CC:TL
 | _=>none
def FJ:TT
 | 1=>some ([0,0,2,7,0,0,32,112,15,511],[],[])|_=>none
noncomputable abbrev BM:=cFn PP true qX CC (cDr PP 14 FJ)
noncomputable def BX:aK:=⟨14,aT BM,[.t 4,.t 5]⟩
theorem Fw:BM=some BX:=by kernel_rfl
def BA (a:D) (b:D) (c:Heap) (K:HK):Prop :=
 ab PP (.box (.c a)) c fun a c=>yF a 0 c fun d=>yL d 1 false c fun d=>vbin .quo b d fun d=>yF a 0 c fun a=>yL a 1 false c fun a=>vbin .rem b a fun a=>K (.tup [d,a]) c
theorem Fe (a0:D) (a1:D) (h0:Heap) (K:HK):BA a0 a1 h0 K=eF BX K [a0,a1] h0:=by kernel_rfl
end Go.Am
namespace Go.Am
open Go Go.Proofs
def lJ (a:D) (b:Heap) (K:HK):Prop :=
 xF a 0 b fun b c=>xF b 2 c fun b c=>xF b 6 c fun b c=>xL b 1 false c fun b c=>bR b c fun b=>vbin .mul (.int .i64 2) b fun b=>vbin .add (.int .i64 6) b fun b=>ag PP ak [a] c fun c d=>vbin .rem c (.int .i64 3) fun c=>vbin .add (.int .i64 1) c fun c=>vbin .add b (.int .i64 2) fun e=>xF a 0 d fun d f=>xF d 2 f fun d f=>xF d 2 f fun d f=>xS d e 1 f fun d e=>xF a 0 e fun d e=>xF d 2 e fun d e=>xF d 7 e fun d e=>xL d 1 false e fun d e=>bR d e fun d=>ag PP dw [b] e fun e f=>ag PP eK [zJ] f fun f g=>ab PP (.bld [zI,zI,zI,zI,zI,zJ,zI,zI,zJ,zI,zI,zJ,zI,zI,zJ] [(0,1,(.c (.int .i64 1))),(3,3,(.c e)),(6,3,(.c f))]) g fun e f=>ag PP aO [a,e] f fun e f=>xF a 0 f fun e f=>xF e 2 f fun e f=>xF e 7 f fun e f=>xL e 1 false f fun e f=>vbin .sub d (.int .i64 1) fun g=>ab PP (.bld [zI,zI] [(0,1,(.c d)),(1,1,(.c zI))]) f fun f h=>ab PP (.bld [zI,zI,zI,zI,zJ,zI,zI,zJ,zI,zI,zJ,zI,zI] [(0,1,(.c (.int .i64 1))),(11,2,(.c f))]) h fun f h=>xI e g 14 h fun e g=>xF e 1 g fun e g=>xS e f 13 g fun e f=>∃(e:HJ),( ∀(a:Nat->D) (b:Heap),e [a 0,a 2,a 3,a 4] b->ag PP bm [(a 0)] b fun b c=>vbin .add (a 2) (.int .i64 1) fun b=>ag PP dw [b] c fun b c=>ag PP dw [(a 2)] c fun c d=>ab PP (.conv .i32 (.c (a 3))) d fun d e=>ag PP eK [d] e fun d e=>ab PP (.bld [zI,zI,zI,zI,zI,zJ,zI,zI,zJ,zI,zI,zJ,zI,zI,zJ] [(0,1,(.c (.int .i64 3))),(1,1,(.c (.int .i64 26))),(3,3,(.c b)),(6,3,(.c c)),(9,3,(.c d))]) e fun b c=>ag PP aO [(a 0),b] c fun b c=>yF (a 0) 0 c fun b=>yF b 2 c fun b=>yF b 7 c fun b=>yL b 1 false c fun b=>vbin .add (a 2) (.int .i64 1) fun d=>aq PP (.call dw [(.c d)]) c fun d=>vbin .add (a 4) (.int .i64 1) fun e=>vbin .add (a 4) (.int .i64 2) fun f=>aq PP (.bld [zI,zI] [(0,1,(.c e)),(1,1,(.c f))]) c fun e=>aq PP (.bld [zI,zI,zI,zI,zJ,zI,zI,zJ,zI,zI,zJ,zI,zI] [(0,1,(.c (.int .i64 2))),(5,3,(.c d)),(11,2,(.c e))]) c fun d=>yI b (a 4) 14 c fun b=>yF b 1 c fun b=>xS b d 13 c fun b c=>ag PP bm [(a 0)] c fun b c=>ag PP dw [(a 2)] c fun b c=>ag PP dw [(a 2)] c fun c d=>ag PP eK [(.int .i32 1)] d fun d e=>ab PP (.bld [zI,zI,zI,zI,zI,zJ,zI,zI,zJ,zI,zI,zJ,zI,zI,zJ] [(0,1,(.c (.int .i64 3))),(1,1,(.c (.int .i64 10))),(3,3,(.c b)),(6,3,(.c c)),(9,3,(.c d))]) e fun b c=>ag PP aO [(a 0),b] c fun b c=>ag PP cw [(a 0)] c fun b c=>xF (a 0) 0 c fun b c=>xF b 2 c fun b c=>xF b 7 c fun b c=>xL b 1 false c fun b c=>vbin .add (a 4) (.int .i64 1) fun d=>ab PP (.bld [zI,zI] [(0,1,(.c (a 4))),(1,1,(.c zI))]) c fun c e=>ab PP (.bld [zI,zI,zI,zI,zJ,zI,zI,zJ,zI,zI,zJ,zI,zI] [(0,1,(.c (.int .i64 1))),(11,2,(.c c))]) e fun c e=>xI b d 14 e fun b d=>xF b 1 d fun b d=>xS b c 13 d fun b c=>∃(b:HJ),( ∀(a:Nat->D) (c:Heap),b [a 0,a 4,a 119] c->vcond (a 119) (yF (a 0) 0 c fun b=>yF b 2 c fun d=>yF d 7 c fun e=>yL e 1 false c fun f=>vbin .add (a 4) (.int .i64 1) fun g=>vbin .add (a 4) (.int .i64 2) fun h=>aq PP (.bld [zI,zI] [(0,1,(.c (a 4))),(1,1,(.c h))]) c fun h=>ag PP aZ [(a 0)] c fun c i=>((yF (a 0) 0 i fun a=>aG [a] [b])/\(yF b 2 i fun a=>aG [a] [d])/\(yF d 7 i fun a=>aG [a] [e])/\(yL e 1 false i fun a=>aG [a] [f])/\True)/\aq PP (.bld [zI,zI,zI,zI,zJ,zI,zI,zJ,zI,zI,zJ,zI,zI] [(0,1,(.c (.int .i64 2))),(5,3,(.c c)),(11,2,(.c h))]) i fun a=>yI f g 14 i fun b=>yF b 1 i fun b=>xS b a 13 i fun a b=>K (.tup []) b) (K (.tup []) c))/\ag PP ak [(a 0)] c fun c d=>vbin .rem c (.int .i64 3) fun c=>vbin .eql c zI fun c=>aG [] []/\b [(a 0),(a 4),c] d)/\xF a 0 f fun f g=>xF f 2 g fun f g=>xF f 6 g fun f g=>xL f 1 false g fun f g=>ab PP (.bld [zI,zI,zI] [(0,1,(.c d)),(1,1,(.c b)),(2,1,(.c c))]) g fun g h=>ab PP (.bldS true 3 1 (.agg [zI,zI,zI]) [(0,(.c g))]) h fun g h=>ab PP (.app (.c f) (.c g) 3 24 (.agg [zI,zI,zI])) h fun f g=>xF a 0 g fun g h=>xF g 2 h fun g h=>xF g 6 h fun g h=>xS g f 1 h fun f g=>aG [] []/\e [a,b,c,d] g
set_option maxHeartbeats 0 in
theorem qw (a0:D) (h0:Heap) (K:HK):lJ a0 h0 K=eF lT K [a0] h0:=by kernel_rfl
end Go.Am
namespace Go.Am
open Go Go.Proofs
def so (a:D) (b:D) (c:Heap) (K:HK):Prop :=
 ab PP (.box (.c a)) c fun a c=>ab PP (.box (.c b)) c fun b c=>ab PP (.alloc (.agg [zI,zI,zI,zI,zI,.nil,.nil,.nil,zI,.nil,zI,zI,zI,zI,.nil,.nil,.nil,.nil,.nil,.nil,zI])) c fun c d=>xL a 1 true d fun a d=>ag PP oN [a] d fun a d=>ab PP (.bld [zI,zI,zI,zI,zI,.nil,.nil,.nil,zI,.nil,zI,zI,zI,zI,.nil,.nil,.nil,.nil,.nil,.nil,zI] [(0,8,(.c a))]) d fun a d=>ab PP (.alloc (.agg [zI,zI,zI,zI,zI,.nil,.nil,.nil,zI,.nil,zI,zI,zI,zI,.nil,.nil,.nil,.nil,.nil,.nil,zI])) d fun d e=>xS d a 21 e fun a e=>∃(a:HJ),( ∀(e:Nat->D) (f:Heap),a [] f->xF d 0 f fun a e=>xL a 8 true e fun a e=>xF b 0 e fun e f=>xL e 13 true f fun e f=>ag PP lA [a,e] f fun a e=>xF d 8 e fun e f=>xS e a 2 f fun a e=>xF b 13 e fun a e=>xL a 1 false e fun a e=>ab PP (.conv .i64 (.c a)) e fun a e=>xF d 8 e fun e f=>xF e 0 f fun e f=>xL e 1 false f fun e f=>xF d 0 f fun f g=>xF f 0 g fun f g=>xL f 1 false g fun f g=>vbin .mul e f fun e=>vbin .rem a e fun a=>yF d 0 g fun e=>yL e 8 true g fun e=>yF d 8 g fun f=>yL f 2 true g fun f=>yF b 14 g fun h=>yL h 1 false g fun h=>vbin .rem h (.int .u8 13) fun h=>aq PP (.conv .i64 (.c h)) g fun h=>yF d 0 g fun i=>yL i 8 true g fun i=>yF b 0 g fun b=>yL b 13 true g fun b=>aq PP (.call lz [(.c i),(.c b)]) g fun b=>aq PP (.call mR [(.c e),(.c f),(.c a),(.c h),(.c b)]) g fun a=>yF d 10 g fun b=>xS b a 11 g fun a b=>xL d 21 true b fun a b=>xS c a 21 b fun a b=>xL c 21 true b fun a c=>K a b)/\xF b 13 e fun e f=>xL e 1 false f fun e f=>vbin .geq e (.int .u8 128) fun e=>vcond e (xF d 0 f fun e f=>xL e 8 true f fun e f=>ag PP ly [e] f fun e f=>xF d 0 f fun f g=>xS f e 8 g fun e f=>aG [b,c,d] [b,c,d]/\a [] f) (aG [b,c,d] [b,c,d]/\a [] f)
set_option maxHeartbeats 0 in
theorem yi (a0:D) (a1:D) (h0:Heap) (K:HK):so a0 a1 h0 K=eF sZ K [a0,a1] h0:=by kernel_rfl
end Go.Am
namespace Go.Am
open Go Go.Proofs
end Go.Am
namespace Go.Am
open Go Go.Proofs
end Go.Am
namespace Go.Am
open Go Go.Proofs
end Go.Am
namespace Go.Am
open Go Go.Proofs
end Go.Am
namespace Go.Am
open Go Go.Proofs
end Go.Am
namespace Go.Am
open Go Go.Proofs
def iD (a:Heap) (b:Nat->D) (c:HJ) (K:HK):Prop :=
 ∃(d:Nat->HJ) (e:Nat),d e [zI] a/\∀(a:Nat) (e:Nat->D) (f:Heap),d a [e 16] f->bR (b 15) f fun g=>vbin .lss (e 16) g fun g=>vcond g (xI (b 15) (e 16) 9 f fun c f=>xL c 9 true f fun c f=>ab PP (.alloc (.agg [zI,zI,zI,zI,zI,zI,zI,zI,zJ])) f fun f g=>xS f c 9 g fun c g=>xF (b 12) 9 g fun c g=>xL c 1 false g fun c g=>xI c (e 16) 9 g fun c g=>xF c 3 g fun c g=>xL c 1 false g fun c g=>xF f 3 g fun g h=>xS g c 1 h fun c g=>xF (b 12) 9 g fun c g=>xL c 1 false g fun c g=>xI c (e 16) 9 g fun c g=>xF c 4 g fun c g=>xL c 1 false g fun c g=>xF f 4 g fun g h=>xS g c 1 h fun c g=>xF (b 12) 9 g fun c g=>xL c 1 false g fun c g=>xI c (e 16) 9 g fun c g=>xF c 5 g fun c g=>xL c 1 false g fun c g=>xF f 5 g fun g h=>xS g c 1 h fun c g=>yL f 9 true g fun c=>yF (b 12) 9 g fun f=>yL f 1 false g fun f=>yI f (e 16) 9 g fun f=>yL f 9 true g fun f=>aq PP (.eqv true true [.i,.i,.i,.i,.i,.i,.i,.i,.i] (.c c) (.c f)) g fun c=>vcond c (K (.bool false) g) (vbin .add (e 16) (.int .i64 1) fun c=>aG [(b 7),(b 8),(b 12),(b 14),(b 15)] [(b 7),(b 8),(b 12),(b 14),(b 15)]/\∃b,b<a/\d b [c] g)) (aG [(b 7),(b 8),(b 12),(b 14)] [(b 7),(b 8),(b 12),(b 14)]/\c [] f)
def jM (a:D) (b:D) (c:D) (d:Heap) (K:HK):Prop :=
 ab PP (.box (.c a)) d fun a d=>ab PP (.box (.c b)) d fun b d=>ag PP jl [] d fun d e=>vun .not d fun f=>vcond f (K (.bool false) e) (xL a 1 true e fun a e=>xL b 15 true e fun b e=>ag PP lC [a,b] e fun a b=>ab PP (.alloc (.agg [zI,zI,zI,zI,zI,.nil,.nil,.nil,zI,.nil,zI,zI,zI,zI,.nil,.nil,.nil,.nil,.nil,.nil,zI])) b fun b e=>xS b a 21 e fun a e=>xF b 10 e fun a e=>xF a 0 e fun a e=>xF a 1 e fun a e=>xL a 1 false e fun a e=>vbin .neq a (.int .i64 1) fun a=>vcond a (xF b 0 e fun a c=>xL a 8 true c fun a c=>xF b 8 c fun c e=>xL c 2 true e fun c e=>xF b 10 e fun b e=>xL b 11 true e fun b e=>ag PP cQ [a,c,b,zI] e fun a b=>ab PP (.fld (.c a) 10 1 false) b fun a b=>vbin .eql a (.int .i64 1) fun a=>vguard a true (fun a=>a d b) b fun b c=>ab PP (.pick (.c a) (.c b) (.c (.bool false))) c fun a b=>K a b) ( ∃(a:HJ),( ∀(b:Nat->D) (c:Heap),a [b 2,b 7,b 8,b 9] c->ab PP (.conv .i64 (.c (b 2))) c fun a c=>xF (b 9) 0 c fun c d=>xL c 1 false d fun c d=>bR c d fun c=>vbin .add c (.int .i64 1) fun c=>vbin .rem a c fun a=>xF (b 8) 0 d fun c d=>xL c 8 true d fun c d=>ab PP (.alloc (.agg [zI,zI,zI,zI,zI,.nil,.nil,.nil])) d fun d e=>xS d c 8 e fun c e=>ab PP (.bldS true 14 0 (.agg [.nil,zI,zI,zI,zI,zJ,zI,zI,zJ,zI,zI,zJ,zI,zI]) []) e fun c e=>xF (b 8) 0 e fun e f=>xF e 7 f fun e f=>xL e 1 false f fun e f=>ab PP (.app (.c c) (.c e) 14 128 (.agg [.nil,zI,zI,zI,zI,zJ,zI,zI,zJ,zI,zI,zJ,zI,zI])) f fun c e=>xF d 7 e fun e f=>xS e c 1 f fun c e=>∃(c:HJ),( ∀(a:Nat->D) (b:Heap),c [a 7,a 8,a 9,a 10,a 11] b->yF (a 11) 7 b fun c=>yL c 1 false b fun c=>yF (a 9) 0 b fun d=>yL d 1 false b fun d=>aq PP (.slc (.c d) (some (.c (a 10))) none none 15) b fun d=>yF (a 9) 1 b fun e=>yL e 13 true b fun e=>aq PP (.bld [.nil,zI,zI,zI,zI,zJ,zI,zI,zJ,zI,zI,zJ,zI,zI] [(0,1,(.c d)),(1,13,(.c e))]) b fun d=>aq PP (.bldS false 14 1 (.agg [.nil,zI,zI,zI,zI,zJ,zI,zI,zJ,zI,zI,zJ,zI,zI]) [(0,(.c d))]) b fun d=>yF (a 11) 7 b fun e=>ab PP (.app (.c c) (.c d) 14 128 (.agg [.nil,zI,zI,zI,zI,zJ,zI,zI,zJ,zI,zI,zJ,zI,zI])) b fun b c=>xS e b 1 c fun b c=>xF (a 8) 0 c fun b c=>xL b 8 true c fun b c=>xF (a 8) 8 c fun c d=>xL c 2 true d fun c d=>xF (a 8) 10 d fun d e=>xL d 11 true e fun d e=>ag PP cQ [b,c,d,zI] e fun b c=>ab PP (.alloc (.agg [zI,zI,zI,zI,.nil,.nil,.nil,.nil,.nil,.nil,zI])) c fun c d=>xS c b 11 d fun b d=>xL (a 11) 8 true d fun b d=>xF (a 8) 8 d fun d e=>xL d 2 true e fun d e=>xF (a 8) 10 e fun e f=>xL e 11 true f fun e f=>ag PP cQ [b,d,e,zI] f fun b d=>ab PP (.alloc (.agg [zI,zI,zI,zI,.nil,.nil,.nil,.nil,.nil,.nil,zI])) d fun d e=>xS d b 11 e fun b e=>∃(b:HJ),( ∀(a:Nat->D) (c:Heap),b [a 7,a 8,a 11,a 12,a 13] c->xL (a 11) 8 true c fun b c=>xF (a 8) 8 c fun c d=>xL c 2 true d fun c d=>xL (a 13) 11 true d fun d e=>ag PP cQ [b,c,d,zI] e fun b c=>ab PP (.alloc (.agg [zI,zI,zI,zI,.nil,.nil,.nil,.nil,.nil,.nil,zI])) c fun c d=>xS c b 11 d fun b d=>xF c 10 d fun b d=>xL b 1 false d fun b d=>vbin .neq b zI fun b=>vguard b false (fun b=>xF (a 12) 10 d fun a c=>b a c) d fun d e=>vguard b false (fun a=>xL d 1 false e fun b c=>a b c) e fun d e=>vguard b false (fun a=>vbin .neq d zI fun b=>a b e) e fun d e=>ab PP (.pick (.c b) (.c (.bool true)) (.c d)) e fun b d=>vcond b (xF c 10 d fun b c=>xL b 1 false c fun b c=>xF (a 12) 10 c fun c d=>xL c 1 false d fun c d=>vbin .eql b c fun b=>vguard b true (fun b=>xF (a 12) 7 d fun a c=>b a c) d fun c d=>vguard b true (fun a=>xL c 1 false d fun b c=>a b c) d fun c d=>vguard b true (fun b=>xF (a 8) 10 d fun a c=>b a c) d fun d e=>vguard b true (fun a=>xF d 7 e fun b c=>a b c) e fun d e=>vguard b true (fun a=>xL d 1 false e fun b c=>a b c) e fun d e=>vguard b true (fun a=>ag PP ez [c,d] e fun b c=>a b c) e fun c d=>ab PP (.pick (.c b) (.c c) (.c (.bool false))) d fun b c=>vguard b true (fun b=>b (a 7) c) c fun a c=>ab PP (.pick (.c b) (.c a) (.c (.bool false))) c fun a b=>K a b) ( ∃(b:HJ),( ∀(a:Nat->D) (c:Heap),b [a 7,a 8,a 12,a 14,a 15] c->bR (a 15) c fun b=>xF (a 12) 9 c fun c d=>xL c 1 false d fun c d=>bR c d fun c=>vbin .neq b c fun b=>vcond b (K (.bool false) d) ( ∃(b:HJ),( ∀(c:Nat->D) (d:Heap),b [] d->xF (a 14) 0 d fun b c=>xL b 7 true c fun b c=>ab PP (.alloc (.agg [zI,zI,zI,zI,.nil,.nil,.nil])) c fun c d=>xS c b 7 d fun b d=>∃(b:HJ),( ∀(d:Nat->D) (e:Heap),b [] e->xL c 7 true e fun b c=>xF (a 12) 0 c fun c d=>xL c 7 true d fun c d=>ag PP oM [b,c] d fun b c=>vguard b true (fun b=>xF (a 14) 7 c fun a c=>b a c) c fun c d=>vguard b true (fun a=>xL c 1 false d fun b c=>a b c) d fun c d=>vguard b true (fun b=>xF (a 12) 7 d fun a c=>b a c) d fun d e=>vguard b true (fun a=>xL d 1 false e fun b c=>a b c) e fun d e=>vguard b true (fun a=>ag PP ez [c,d] e fun b c=>a b c) e fun c d=>ab PP (.pick (.c b) (.c c) (.c (.bool false))) d fun b c=>vguard b true (fun b=>xF (a 14) 8 c fun a c=>b a c) c fun c d=>vguard b true (fun a=>xL c 1 false d fun b c=>a b c) d fun c d=>vguard b true (fun b=>xF (a 12) 8 d fun a c=>b a c) d fun d e=>vguard b true (fun a=>xL d 1 false e fun b c=>a b c) e fun d e=>vguard b true (fun a=>ag PP ez [c,d] e fun b c=>a b c) e fun c d=>ab PP (.pick (.c b) (.c c) (.c (.bool false))) d fun b c=>vguard b true (fun b=>b (a 7) c) c fun a c=>ab PP (.pick (.c b) (.c a) (.c (.bool false))) c fun a b=>K a b)/\xF c 1 d fun d e=>xL d 1 false e fun d e=>vbin .eql d (.int .i64 2) fun d=>vguard d true (fun a=>xF c 2 e fun b c=>a b c) e fun e f=>vguard d true (fun a=>xL e 1 false f fun b c=>a b c) f fun e f=>vguard d true (fun b=>xF (a 8) 0 f fun a c=>b a c) f fun f g=>vguard d true (fun a=>xF f 7 g fun b c=>a b c) g fun f g=>vguard d true (fun a=>xL f 1 false g fun b c=>a b c) g fun f g=>vguard d true (fun a=>bR f g fun b=>a b g) g fun f g=>vguard d true (fun a=>vbin .eql e f fun b=>a b g) g fun e f=>ab PP (.pick (.c d) (.c e) (.c (.bool false))) f fun d e=>vcond d (xF (a 8) 10 e fun d e=>xF d 0 e fun d e=>xF d 2 e fun d e=>xL d 1 false e fun d e=>xF c 2 e fun e f=>xS e d 1 f fun d e=>aG [(a 7),(a 12),(a 14),c] [(a 7),(a 12),(a 14),c]/\b [] e) (aG [(a 7),(a 12),(a 14),c] [(a 7),(a 12),(a 14),c]/\b [] e))/\iD d a b K))/\yF (a 13) 9 d fun e=>yL e 1 false d fun f=>yF c 9 d fun g=>yL g 1 false d fun h=>ab PP (.bldS true 9 0 (.agg [zI,zI,zI,zI,zI,zI,zI,zI,zJ]) []) d fun d i=>((yF (a 13) 9 i fun a=>aG [a] [e])/\(yL e 1 false i fun a=>aG [a] [f])/\(yF c 9 i fun a=>aG [a] [g])/\(yL g 1 false i fun a=>aG [a] [h])/\True)/\ab PP (.app (.c d) (.c f) 9 72 (.agg [zI,zI,zI,zI,zI,zI,zI,zI,zJ])) i fun d e=>((yF c 9 e fun a=>aG [a] [g])/\(yL g 1 false e fun a=>aG [a] [h])/\True)/\ab PP (.app (.c d) (.c h) 9 72 (.agg [zI,zI,zI,zI,zI,zI,zI,zI,zJ])) e fun d e=>aG [] []/\b [(a 7),(a 8),(a 12),c,d] e))/\xF d 10 e fun e f=>xL e 1 false f fun e f=>vbin .neq e zI fun e=>vcond e (xF c 10 f fun b c=>xL b 1 false c fun b c=>xF d 10 c fun c d=>xL c 1 false d fun c d=>vbin .eql b c fun b=>vguard b true (fun b=>b (a 7) d) d fun a c=>ab PP (.pick (.c b) (.c a) (.c (.bool false))) c fun a b=>K a b) (aG [] []/\b [(a 7),(a 8),(a 11),c,d] f))/\yF d 7 e fun f=>yL f 1 false e fun f=>yF (b 8) 10 e fun g=>yF g 0 e fun g=>yF g 2 e fun g=>yL g 1 false e fun g=>yF (b 9) 0 e fun h=>yL h 1 false e fun h=>aq PP (.slc (.c h) none (some (.c a)) none 15) e fun h=>yF (b 8) 0 e fun i=>yF i 7 e fun i=>yL i 1 false e fun i=>bR i e fun i=>aq PP (.bld [zI,zI] [(0,1,(.c i)),(1,1,(.c zI))]) e fun i=>aq PP (.bld [zI,zI,zI,zI,zJ,zI,zI,zJ,zI,zI,zJ,zI,zI] [(0,1,(.c (.int .i64 1))),(11,2,(.c i))]) e fun i=>aq PP (.bld [.nil,zI,zI,zI,zI,zJ,zI,zI,zJ,zI,zI,zJ,zI,zI] [(0,1,(.c h)),(1,13,(.c i))]) e fun h=>yI f g 14 e fun f=>xS f h 14 e fun e f=>aG [] []/\c [(b 7),(b 8),(b 9),a,d] f)/\xF b 0 e fun e f=>xF e 7 f fun e f=>xL e 1 false f fun e f=>xF b 10 f fun f g=>xF f 0 g fun f g=>xF f 2 g fun f g=>xL f 1 false g fun f g=>xI e f 14 g fun e f=>xL e 14 true f fun e f=>ab PP (.alloc (.agg [.nil,zI,zI,zI,zI,zJ,zI,zI,zJ,zI,zI,zJ,zI,zI])) f fun f g=>xS f e 14 g fun e g=>aG [] []/\a [c,d,b,f] g))
set_option maxHeartbeats 0 in
theorem nO (a0:D) (a1:D) (a2:D) (h0:Heap) (K:HK):jM a0 a1 a2 h0 K=eF jT K [a0,a1,a2] h0:=by kernel_rfl
end Go.Am

namespace Go.Am
open Go Go.Proofs
def CB:TL
 | _=>none
def FI:TT
 | 10=>some ([0,1,0,4,15,31,63,127,63,319,1023,2047,4095,8191,8191,8191,40959,131071,262143,524287,1048575,2097151,1048575,8388607,16777215,33554431,67108863,134217727,134217727,402653183,1073741823,2147483647,4294967295,8589934591,17179869183],[],[])|_=>none
noncomputable abbrev BL:=cFn PP true jl CB (cDr PP 118 FI)
noncomputable def BW:aK:=⟨118,aT BL,[.t 0]⟩
theorem Fv:BL=some BW:=by kernel_rfl
def Bz (a:Heap) (K:HK):Prop :=
 ag PP hZ [(.int .i64 4)] a fun a b=>ag PP hZ [(.int .i64 2)] b fun b c=>ab PP (.bld [zI,.nil] [(0,1,(.c (.int .i64 1)))]) c fun c d=>ab PP (.alloc (.agg [zI,zI,zI,zI,zI,.nil,.nil,.nil])) d fun d e=>ab PP (.alloc (.agg [zI,zI,zI,zI,zI,.nil,.nil,.nil])) e fun e f=>ab PP (.alloc (.agg [zI,.nil])) f fun f g=>xS d a 8 g fun a g=>xS e b 8 g fun a b=>xS f c 2 b fun a b=>xL d 8 true b fun a b=>xL f 2 true b fun b c=>ag PP fU [a,b,(.int .i64 2)] c fun a b=>ab PP (.alloc (.agg [zI,zI,zI,zI,.nil,.nil,.nil,zI])) b fun b c=>xS b a 8 c fun a c=>xL d 8 true c fun a c=>xL f 2 true c fun c g=>ag PP fU [a,c,(.int .i64 4)] g fun a c=>ab PP (.alloc (.agg [zI,zI,zI,zI,.nil,.nil,.nil,zI])) c fun c g=>xS c a 8 g fun a g=>xF b 7 g fun a g=>xL a 1 false g fun a g=>vbin .neq a zI fun a=>vguard a false (fun a=>xF c 7 g fun b c=>a b c) g fun c g=>vguard a false (fun a=>xL c 1 false g fun b c=>a b c) g fun c g=>vguard a false (fun a=>vbin .neq c (.int .i64 1) fun b=>a b g) g fun c g=>ab PP (.pick (.c a) (.c (.bool true)) (.c c)) g fun a c=>vguard a false (fun a=>xF b 0 c fun b c=>a b c) c fun c g=>vguard a false (fun a=>xF c 1 g fun b c=>a b c) g fun c g=>vguard a false (fun a=>xL c 1 false g fun b c=>a b c) g fun c g=>vguard a false (fun a=>vbin .neq c (.int .i64 1) fun b=>a b g) g fun c g=>ab PP (.pick (.c a) (.c (.bool true)) (.c c)) g fun a c=>vguard a false (fun a=>xF b 0 c fun b c=>a b c) c fun c g=>vguard a false (fun a=>xF c 4 g fun b c=>a b c) g fun c g=>vguard a false (fun a=>xL c 1 false g fun b c=>a b c) g fun c g=>vguard a false (fun a=>bR c g fun b=>a b g) g fun c g=>vguard a false (fun a=>vbin .neq c (.int .i64 1) fun b=>a b g) g fun c g=>ab PP (.pick (.c a) (.c (.bool true)) (.c c)) g fun a c=>vcond a (K (.bool false) c) (xL d 8 true c fun a c=>xL f 2 true c fun c g=>xF b 0 g fun g h=>xL g 7 true h fun g h=>ab PP (.bldS true 1 4 zJ [(0,(.c zJ)),(1,(.c zJ)),(2,(.c zJ)),(3,(.c zJ))]) h fun h i=>ab PP (.bldS true 1 1 .nil [(0,(.c h))]) i fun h i=>ab PP (.bldS true 1 1 .nil [(0,(.c .nil))]) i fun i j=>ab PP (.bld [zI,zI,zI,zI,.nil,.nil,.nil,.nil,.nil,.nil,zI] [(0,7,(.c g)),(7,1,(.c h)),(8,1,(.c i))]) j fun g h=>ag PP cQ [a,c,g,zI] h fun a c=>ab PP (.alloc (.agg [zI,zI,zI,zI,.nil,.nil,.nil,.nil,.nil,.nil,zI])) c fun c g=>xS c a 11 g fun a g=>xL e 8 true g fun a e=>xL f 2 true e fun e g=>xF b 0 g fun g h=>xL g 7 true h fun g h=>ab PP (.bldS true 1 2 zJ [(0,(.c zJ)),(1,(.c zJ))]) h fun h i=>ab PP (.bldS true 1 1 .nil [(0,(.c h))]) i fun h i=>ab PP (.bldS true 1 1 .nil [(0,(.c .nil))]) i fun i j=>ab PP (.bld [zI,zI,zI,zI,.nil,.nil,.nil,.nil,.nil,.nil,zI] [(0,7,(.c g)),(7,1,(.c h)),(8,1,(.c i))]) j fun g h=>ag PP cQ [a,e,g,zI] h fun a e=>ab PP (.alloc (.agg [zI,zI,zI,zI,.nil,.nil,.nil,.nil,.nil,.nil,zI])) e fun e g=>xS e a 11 g fun a g=>xF c 10 g fun a g=>xL a 1 false g fun a g=>vbin .neq a zI fun a=>vguard a false (fun a=>xF e 10 g fun b c=>a b c) g fun g h=>vguard a false (fun a=>xL g 1 false h fun b c=>a b c) h fun g h=>vguard a false (fun a=>vbin .neq g (.int .i64 70) fun b=>a b h) h fun g h=>ab PP (.pick (.c a) (.c (.bool true)) (.c g)) h fun a g=>vguard a false (fun a=>xF c 9 g fun b c=>a b c) g fun g h=>vguard a false (fun a=>xL g 1 false h fun b c=>a b c) h fun g h=>vguard a false (fun a=>ab PP (.bld [zI,zI,zI,zI,zI,zI,zI,zI,zJ] [(0,1,(.c (.int .i64 2))),(2,1,(.c (.int .i64 2))),(5,1,(.c (.int .i64 1))),(7,1,(.c (.int .i64 2))),(8,1,(.c (.int .i32 7)))]) h fun b c=>a b c) h fun h i=>vguard a false (fun a=>ab PP (.bldS true 9 1 (.agg [zI,zI,zI,zI,zI,zI,zI,zI,zJ]) [(0,(.c h))]) i fun b c=>a b c) i fun h i=>vguard a false (fun a=>ag PP fB [g,h] i fun b c=>a b c) i fun g h=>vguard a false (fun a=>vun .not g fun b=>a b h) h fun g h=>ab PP (.pick (.c a) (.c (.bool true)) (.c g)) h fun a g=>vguard a false (fun a=>xF e 9 g fun b c=>a b c) g fun g h=>vguard a false (fun a=>xL g 1 false h fun b c=>a b c) h fun g h=>vguard a false (fun a=>bR g h fun b=>a b h) h fun g h=>vguard a false (fun a=>vbin .neq g zI fun b=>a b h) h fun g h=>ab PP (.pick (.c a) (.c (.bool true)) (.c g)) h fun a g=>vguard a false (fun a=>xF c 0 g fun b c=>a b c) g fun g h=>vguard a false (fun a=>xF g 1 h fun b c=>a b c) h fun g h=>vguard a false (fun a=>xL g 1 false h fun b c=>a b c) h fun g h=>vguard a false (fun a=>vbin .neq g (.int .i64 3) fun b=>a b h) h fun g h=>ab PP (.pick (.c a) (.c (.bool true)) (.c g)) h fun a g=>vcond a (K (.bool false) g) (yF c 7 g fun a=>yL a 1 false g fun a=>aq PP (.bldS false 1 4 zJ [(0,(.c zJ)),(1,(.c zJ)),(2,(.c (.int .i32 7))),(3,(.c zJ))]) g fun h=>aq PP (.bldS false 1 1 .nil [(0,(.c h))]) g fun h=>aq PP (.call ez [(.c a),(.c h)]) g fun a=>aQ a true (fun a=>yF e 7 g fun b=>a b) fun e=>aQ a true (fun a=>yL e 1 false g fun b=>a b) fun e=>aQ a true (fun a=>aq PP (.bldS false 1 2 zJ [(0,(.c zJ)),(1,(.c zJ))]) g fun b=>a b) fun h=>aQ a true (fun a=>aq PP (.bldS false 1 1 .nil [(0,(.c h))]) g fun b=>a b) fun h=>aQ a true (fun a=>aq PP (.call ez [(.c e),(.c h)]) g fun b=>a b) fun e=>aq PP (.pick (.c a) (.c e) (.c (.bool false))) g fun a=>aQ a true (fun a=>yL d 8 true g fun b=>a b) fun e=>aQ a true (fun a=>yL f 2 true g fun b=>a b) fun f=>aQ a true (fun a=>yF c 0 g fun b=>a b) fun c=>aQ a true (fun a=>yL c 7 true g fun b=>a b) fun c=>aQ a true (fun a=>aq PP (.call kQ [(.c e),(.c f),(.c c)]) g fun b=>a b) fun c=>aq PP (.pick (.c a) (.c c) (.c (.bool false))) g fun a=>aQ a true (fun a=>yF b 0 g fun b=>a b) fun c=>aQ a true (fun a=>yL c 7 true g fun b=>a b) fun c=>aQ a true (fun a=>aq PP (.call me [(.c (.int .i32 9))]) g fun b=>a b) fun e=>aQ a true (fun a=>aq PP (.call cR [(.c c),(.c e)]) g fun b=>a b) fun c=>aQ a true (fun a=>vbin .eql c (.int .i32 9) fun b=>a b) fun c=>aq PP (.pick (.c a) (.c c) (.c (.bool false))) g fun a=>aQ a true (fun a=>yL d 8 true g fun b=>a b) fun c=>aQ a true (fun a=>yF b 0 g fun b=>a b) fun b=>aQ a true (fun a=>yL b 7 true g fun b=>a b) fun b=>aQ a true (fun a=>aq PP (.call kO [(.c c),(.c b),(.c (.int .i32 1))]) g fun b=>a b) fun b=>aQ a true (fun a=>aq PP (.fld (.c b) 7 1 false) g fun b=>a b) fun b=>aQ a true (fun a=>vbin .eql b (.int .i64 1) fun b=>a b) fun b=>aq PP (.pick (.c a) (.c b) (.c (.bool false))) g fun a=>K a g))
theorem Fc (h0:Heap) (K:HK):Bz h0 K=eF BW K [] h0:=by kernel_rfl
end Go.Am
