/- The texts of the functions of this chapter, as the abstract machine has them. No condition. -/
import Derived.Test.YtemgkmgmnnaloaaProg
import Derived.KernelRfl
import Derived.Test.YtemgkmgmnnaloaaA3
set_option linter.unnecessarySimpa false
set_option linter.defProp false
set_option linter.unusedSectionVars false
set_option linter.unusedSimpArgs false
set_option linter.unusedVariables false
namespace Go.Am
open Go Go.Proofs
noncomputable abbrev PP:Program:=Try.prog
abbrev xL (a:D) (n:Nat) (b:Bool) (h:Heap) (K:HK):Prop:=ab PP (.ld (.c a) n b) h K
abbrev yL (a:D) (n:Nat) (b:Bool) (h:Heap) (K:D->Prop):Prop:=aq PP (.ld (.c a) n b) h K
abbrev xF (a:D) (n:Nat) (h:Heap) (K:HK):Prop:=ab PP (.fadd (.c a) n) h K
abbrev yF (a:D) (n:Nat) (h:Heap) (K:D->Prop):Prop:=aq PP (.fadd (.c a) n) h K
abbrev xI (a b:D) (n:Nat) (h:Heap) (K:HK):Prop:=ab PP (.iadd (.c a) (.c b) n) h K
abbrev yI (a b:D) (n:Nat) (h:Heap) (K:D->Prop):Prop:=aq PP (.iadd (.c a) (.c b) n) h K
abbrev xS (a b:D) (n:Nat) (h:Heap) (K:HK):Prop:=ab PP (.st (.c a) (.c b) n) h K
abbrev dZ (F:aH) (K:HK) (l:List D) (h:Heap):Prop:=vcC PP F.code (fun x e h'=>match x with|.exit _=>False|.pan=>False|_=>iB PP F.res K e h') (params l 0) h
abbrev zI:D:=.int .i64 0
abbrev zJ:D:=.int .i32 0
def aR:Option aH->bU
 | some F=>F.code
 | none=>.skip
abbrev mc:FuncId:=4
abbrev jg:FuncId:=9
abbrev lE:FuncId:=10
abbrev fu:FuncId:=11
abbrev ly:FuncId:=12
abbrev iH:FuncId:=13
abbrev lz:FuncId:=14
abbrev eF:FuncId:=15
abbrev jS:FuncId:=16
abbrev cP:FuncId:=19
abbrev ma:FuncId:=20
abbrev mb:FuncId:=21
abbrev cQ:FuncId:=22
abbrev gx:FuncId:=23
abbrev mU:FuncId:=24
abbrev iG:FuncId:=25
abbrev kN:FuncId:=27
abbrev fj:FuncId:=29
abbrev gW:FuncId:=30
abbrev oC:FuncId:=31
abbrev lA:FuncId:=32
abbrev lC:FuncId:=33
abbrev mV:FuncId:=34
abbrev lB:FuncId:=35
abbrev qT:FuncId:=36
abbrev gL:FuncId:=37
abbrev mS:FuncId:=38
abbrev qU:FuncId:=39
abbrev oJ:FuncId:=40
abbrev fo:FuncId:=41
abbrev iF:FuncId:=42
abbrev fH:FuncId:=43
abbrev mZ:FuncId:=44
abbrev bV:FuncId:=45
abbrev bG:FuncId:=46
abbrev oF:FuncId:=47
abbrev gN:FuncId:=48
abbrev mT:FuncId:=49
abbrev jq:FuncId:=50
abbrev ak:FuncId:=51
abbrev lD:FuncId:=52
abbrev eo:FuncId:=53
abbrev dJ:FuncId:=54
abbrev bh:FuncId:=55
abbrev bg:FuncId:=56
abbrev aY:FuncId:=57
abbrev ct:FuncId:=58
abbrev gg:FuncId:=59
abbrev er:FuncId:=60
abbrev aS:FuncId:=61
abbrev js:FuncId:=62
abbrev gA:FuncId:=63
abbrev lx:FuncId:=64
abbrev cn:FuncId:=65
abbrev lv:FuncId:=66
abbrev kQ:FuncId:=67
abbrev jo:FuncId:=68
abbrev bB:FuncId:=69
abbrev gz:FuncId:=70
abbrev jr:FuncId:=71
abbrev dF:FuncId:=72
abbrev eJ:FuncId:=73
abbrev gO:FuncId:=74
abbrev jf:FuncId:=75
abbrev kO:FuncId:=76
abbrev cN:FuncId:=77
abbrev mW:FuncId:=78
abbrev aN:FuncId:=79
abbrev dp:FuncId:=80
abbrev eD:FuncId:=81
abbrev hU:FuncId:=82
abbrev fF:FuncId:=83
abbrev fG:FuncId:=84
abbrev kM:FuncId:=85
abbrev jh:FuncId:=86
abbrev jT:FuncId:=87
abbrev qQ:FuncId:=88
abbrev l8:FuncId:=89
abbrev oH:FuncId:=90
abbrev oD:FuncId:=91
abbrev mY:FuncId:=92
abbrev cO:FuncId:=93
abbrev gy:FuncId:=94
abbrev eE:FuncId:=95
abbrev mX:FuncId:=96
abbrev eO:FuncId:=97
abbrev fU:FuncId:=98
abbrev iE:FuncId:=99
abbrev lu:FuncId:=100
abbrev gw:FuncId:=101
abbrev qP:FuncId:=102
abbrev qS:FuncId:=103
abbrev vU:FuncId:=104
abbrev cr:FuncId:=105
abbrev qR:FuncId:=106
end Go.Am
namespace Go.Am
open Go Go.Proofs
def qj:TL
 | 1000029=>some ([7,8,12],[])|_=>none
def tu:TT
 | 28=>some ([0,1,0,4,0,31,0,64,0,256,0,2047,4095,8191,16383,32767,65535],[],[])|_=>none
noncomputable abbrev mI:=cFn PP true mc qj (cDr PP 170 tu)
noncomputable def mP:aH:=⟨170,aR mI,[.t 6]⟩
theorem sU:mI=some mP:=by kernel_rfl
end Go.Am
namespace Go.Am
open Go Go.Proofs
def wh:TL
 | 1000005=>some ([3,4,5],[])|_=>none
def zR:TT
 | 6=>some ([0,1,0,4,0,0,32,96,224,0,512,0,2048,7680,16383,32767,65535],[16],[])|_=>none
noncomputable abbrev sC:=cFn PP true lE wh (cDr PP 51 zR)
noncomputable def sT:aH:=⟨51,aR sC,[.cell 4 21 true]⟩
theorem zu:sC=some sT:=by kernel_rfl
def Al:TL
 | _=>none
def Ek:TT
 | _=>none
noncomputable abbrev yP:=cFn PP true fu Al (cDr PP 36 Ek)
noncomputable def zt:aH:=⟨36,aR yP,[.cell 8 11 true]⟩
theorem Dx:yP=some zt:=by kernel_rfl
def yt (a:D) (b:D) (c:D) (d:D) (e:Heap) (K:HK):Prop :=
 ab PP (.box (.c a)) e fun a e=>ab PP (.box (.c b)) e fun b e=>ab PP (.box (.c c)) e fun c e=>ab PP (.alloc (.agg [zI,zI,zI,zI,.nil,.nil,.nil,.nil,.nil,.nil,zI])) e fun e f=>xL a 8 true f fun a f=>xL b 2 true f fun b f=>xF c 0 f fun f g=>xL f 7 true g fun f g=>xF c 7 g fun g h=>xL g 1 false h fun g h=>xF c 8 h fun c h=>xL c 1 false h fun c h=>ag PP qT [a,b,f,g,c,d] h fun a b=>ab PP (.ext (.c a) 0) b fun b c=>ab PP (.ext (.c a) 1) c fun c d=>ab PP (.ext (.c a) 2) d fun d f=>ab PP (.ext (.c a) 3) f fun f g=>ab PP (.ext (.c a) 4) g fun a g=>ab PP (.alloc (.agg [zI,zI,zI,zI,.nil,.nil,.nil])) g fun g h=>xS g b 7 h fun b h=>xL g 7 true h fun b g=>ab PP (.bld [zI,zI,zI,zI,.nil,.nil,.nil,.nil,.nil,.nil,zI] [(0,7,(.c b)),(7,1,(.c c)),(8,1,(.c d)),(9,1,(.c f)),(10,1,(.c a))]) g fun a b=>xS e a 11 b fun a b=>xL e 11 true b fun a c=>K a b
theorem Dc (a0:D) (a1:D) (a2:D) (a3:D) (h0:Heap) (K:HK):yt a0 a1 a2 a3 h0 K=dZ zt K [a0,a1,a2,a3] h0:=by kernel_rfl
def v5:TL
 | 1000015=>some ([5,10,12],[])|8=>some ([4,5,6,7,10,11,12,13],[14])|_=>none
def zL:TT
 | 5=>some ([0,1,0,4,15,0,32,127,255,0,1023],[1,4,7,9,10],[999998,3])|10=>some ([0,0,0,0,0,24,56,0,128,0,0,1024,0,8064,16383,32767],[14,15],[999999])|_=>none
noncomputable abbrev ss:=cFn PP true ly v5 (cDr PP 76 zL)
noncomputable def sK:aH:=⟨76,aR ss,[.cell 10 11 true]⟩
theorem y9:ss=some sK:=by kernel_rfl
def mm (a:Heap) (b:D) (c:D) (d:D) (e:D) (f:D) (g:D) (h:D) (i:D) (j:HJ) (K:HK):Prop :=
 ∃(k:Nat->HJ) (l:Nat),k l [zI] a/\∀(a:Nat) (l:Nat->D) (m:Heap),k a [l 14] m->bQ b m fun n=>vbin .lss (l 14) n fun n=>vcond n (yL c 8 true m fun j=>yL d 2 true m fun n=>yL e 11 true m fun o=>yI b (l 14) 15 m fun p=>yL p 15 true m fun p=>yF f 0 m fun q=>yL q 1 false m fun q=>yF f 2 m fun r=>yL r 1 false m fun r=>aq PP (.bld [zI,zI,zI,zI,zI,zI,zI,zI,zJ] [(2,1,(.c q)),(3,1,(.c g)),(4,1,(.c r)),(5,1,(.c (l 14)))]) m fun q=>ag PP gL [j,n,o,p,q] m fun j m=>xS e j 11 m fun j m=>xF e 10 m fun j m=>xL j 1 false m fun j m=>vbin .neq j zI fun j=>vcond j (xF e 10 m fun a b=>xL a 1 false b fun a b=>xF h 10 b fun b c=>xS b a 1 c fun a b=>xL h 11 true b fun a b=>xS i a 11 b fun a b=>xL i 11 true b fun a c=>K a b) (vbin .add (l 14) (.int .i64 1) fun j=>aF [g,c,d,f,i,h,e,b] [g,c,d,f,i,h,e,b]/\∃b,b<a/\k b [j] m)) (aF [c,i,e] [c,i,e]/\j [] m)
def rR (a:D) (b:D) (c:D) (d:D) (e:D) (f:Heap) (K:HK):Prop :=
 ab PP (.box (.c a)) f fun a f=>ab PP (.box (.c b)) f fun b f=>ab PP (.box (.c c)) f fun c f=>ab PP (.box (.c d)) f fun d f=>ab PP (.alloc (.agg [zI,zI,zI,zI,.nil,.nil,.nil,.nil,.nil,.nil,zI])) f fun f g=>xL c 7 true g fun g h=>ab PP (.iadda (.c d) (.c zI) 2 1) h fun h i=>xL h 1 false i fun h i=>ab PP (.iadda (.c d) (.c (.int .i64 1)) 2 1) i fun i j=>xL i 1 false j fun i j=>ab PP (.bld [zI,zI,zI,zI,.nil,.nil,.nil,.nil,.nil,.nil,zI] [(0,7,(.c g)),(7,1,(.c h)),(8,1,(.c i))]) j fun g h=>ab PP (.alloc (.agg [zI,zI,zI,zI,.nil,.nil,.nil,.nil,.nil,.nil,zI])) h fun h i=>xS h g 11 i fun g i=>xF c 1 i fun g i=>xL g 1 false i fun g i=>vbin .neq g (.int .i64 1) fun g=>vcond g (xF h 10 i fun a b=>xS a (.int .i64 1) 1 b fun a b=>xL h 11 true b fun a b=>xS f a 11 b fun a b=>xL f 11 true b fun a c=>K a b) (yL c 7 true i fun g=>aq PP (.iadda (.c d) (.c zI) 2 1) i fun j=>yL j 1 false i fun k=>aq PP (.iadda (.c d) (.c (.int .i64 1)) 2 1) i fun l=>yL l 1 false i fun m=>ag PP gx [g] i fun i n=>((aq PP (.iadda (.c d) (.c zI) 2 1) n fun a=>aF [a] [j])/\(yL j 1 false n fun a=>aF [a] [k])/\(aq PP (.iadda (.c d) (.c (.int .i64 1)) 2 1) n fun a=>aF [a] [l])/\(yL l 1 false n fun a=>aF [a] [m])/\True)/\ag PP iG [k] n fun n o=>((aq PP (.iadda (.c d) (.c (.int .i64 1)) 2 1) o fun a=>aF [a] [l])/\(yL l 1 false o fun a=>aF [a] [m])/\True)/\ag PP iG [m] o fun o p=>aq PP (.bld [zI,zI,zI,zI,.nil,.nil,.nil,.nil,.nil,.nil,zI] [(0,7,(.c i)),(7,1,(.c n)),(8,1,(.c o))]) p fun i=>ab PP (.alloc (.agg [zI,zI,zI,zI,.nil,.nil,.nil,.nil,.nil,.nil,zI])) p fun n o=>((yL c 7 true o fun a=>aF [a] [g])/\(aq PP (.iadda (.c d) (.c zI) 2 1) o fun a=>aF [a] [j])/\(yL j 1 false o fun a=>aF [a] [k])/\(aq PP (.iadda (.c d) (.c (.int .i64 1)) 2 1) o fun a=>aF [a] [l])/\(yL l 1 false o fun a=>aF [a] [m])/\True)/\xS n i 11 o fun d g=>xF a 7 g fun d g=>xL d 1 false g fun d g=>xF c 2 g fun g i=>xL g 1 false i fun g i=>xI d g 14 i fun d g=>xF d 0 g fun d g=>xL d 1 false g fun d g=>∃(i:HJ),( ∀(b:Nat->D) (c:Heap),i [] c->xL a 8 true c fun a b=>xF n 0 b fun b c=>xL b 7 true c fun b c=>ag PP mS [a,b] c fun a b=>xF n 0 b fun b c=>xS b a 7 c fun a b=>xL n 11 true b fun a b=>xS f a 11 b fun a b=>xL f 11 true b fun a c=>K a b)/\mm g d a b n c e h f i K)
theorem ya (a0:D) (a1:D) (a2:D) (a3:D) (a4:D) (h0:Heap) (K:HK):rR a0 a1 a2 a3 a4 h0 K=dZ sK K [a0,a1,a2,a3,a4] h0:=by kernel_rfl
def An:TL
 | _=>none
def El:TT
 | _=>none
noncomputable abbrev yQ:=cFn PP true iH An (cDr PP 19 El)
noncomputable def zv:aH:=⟨19,aR yQ,[.cell 6 8 true]⟩
theorem Dy:yQ=some zv:=by kernel_rfl
def yv (a:D) (b:D) (c:D) (d:Heap) (K:HK):Prop :=
 ab PP (.box (.c a)) d fun a d=>ab PP (.box (.c b)) d fun b d=>ab PP (.alloc (.agg [zI,zI,zI,zI,.nil,.nil,.nil,zI])) d fun d e=>xL a 8 true e fun a e=>xL b 7 true e fun b e=>ag PP qU [a,b,c] e fun a b=>ab PP (.ext (.c a) 0) b fun b c=>ab PP (.ext (.c a) 1) c fun a c=>ab PP (.alloc (.agg [zI,zI,zI,zI,.nil,.nil,.nil])) c fun c e=>xS c b 7 e fun b e=>xL c 7 true e fun b c=>ab PP (.bld [zI,zI,zI,zI,.nil,.nil,.nil,zI] [(0,7,(.c b)),(7,1,(.c a))]) c fun a b=>xS d a 8 b fun a b=>xL d 8 true b fun a c=>K a b
theorem Dd (a0:D) (a1:D) (a2:D) (h0:Heap) (K:HK):yv a0 a1 a2 h0 K=dZ zv K [a0,a1,a2] h0:=by kernel_rfl
def v7:TL
 | 1000008=>some ([6,7,8],[])|_=>none
def zM:TT
 | _=>none
noncomputable abbrev su:=cFn PP true lz v7 (cDr PP 40 zM)
noncomputable def sL:aH:=⟨40,aR su,[.cell 6 8 true]⟩
theorem zc:su=some sL:=by kernel_rfl
def rS (a:D) (b:D) (c:D) (d:Heap) (K:HK):Prop :=
 ab PP (.box (.c a)) d fun a d=>ab PP (.box (.c b)) d fun b d=>ab PP (.alloc (.agg [zI,zI,zI,zI,.nil,.nil,.nil,zI])) d fun d e=>xF b 1 e fun e f=>xL e 1 false f fun e f=>vbin .neq e (.int .i64 2) fun e=>vcond e (xL b 7 true f fun a b=>ab PP (.bld [zI,zI,zI,zI,.nil,.nil,.nil,zI] [(0,7,(.c a)),(7,1,(.c (.int .i64 1)))]) b fun a b=>xS d a 8 b fun a b=>xL d 8 true b fun a c=>K a b) (xF a 7 f fun a e=>xL a 1 false e fun a e=>xF b 2 e fun e f=>xL e 1 false f fun e f=>xI a e 14 f fun a e=>xF a 1 e fun a e=>xL a 13 true e fun a e=>ab PP (.alloc (.agg [zI,zI,zI,zI,zJ,zI,zI,zJ,zI,zI,zJ,zI,zI])) e fun e f=>xS e a 13 f fun a f=>xL b 7 true f fun a b=>ag PP gx [a] b fun a b=>ab PP (.alloc (.agg [zI,zI,zI,zI,.nil,.nil,.nil])) b fun b f=>xS b a 7 f fun a f=>∃(a:HJ),( ∀(c:Nat->D) (f:Heap),a [] f->xF b 1 f fun a c=>xS a (.int .i64 1) 1 c fun a c=>xF e 11 c fun a c=>ab PP (.iadda (.c a) (.c zI) 2 1) c fun a c=>xL a 1 false c fun a c=>xF b 2 c fun c e=>xS c a 1 e fun a c=>xL b 7 true c fun a b=>ab PP (.bld [zI,zI,zI,zI,.nil,.nil,.nil,zI] [(0,7,(.c a))]) b fun a b=>xS d a 8 b fun a b=>xL d 8 true b fun a c=>K a b)/\xF e 0 f fun f g=>xL f 1 false g fun f g=>vbin .eql f (.int .i64 4) fun f=>vcond f (xF b 4 g fun f g=>xL f 1 false g fun f g=>xF e 2 g fun g h=>xF g 1 h fun g h=>xL g 1 false h fun g h=>xI f g 1 h fun f g=>xS f c 1 g fun c f=>aF [d,e,b] [d,e,b]/\a [] f) (aF [d,e,b] [d,e,b]/\a [] g))
theorem yb (a0:D) (a1:D) (a2:D) (h0:Heap) (K:HK):rS a0 a1 a2 h0 K=dZ sL K [a0,a1,a2] h0:=by kernel_rfl
def xC:TL
 | _=>none
def CC:TT
 | _=>none
noncomputable abbrev uU:=cFn PP true eF xC (cDr PP 19 CC)
noncomputable def vw:aH:=⟨19,aR uU,[.cell 6 8 true]⟩
theorem Bf:uU=some vw:=by kernel_rfl
def uB (a:D) (b:D) (c:D) (d:Heap) (K:HK):Prop :=
 ab PP (.box (.c a)) d fun a d=>ab PP (.box (.c b)) d fun b d=>ab PP (.alloc (.agg [zI,zI,zI,zI,.nil,.nil,.nil,zI])) d fun d e=>xL a 8 true e fun a e=>xL b 2 true e fun b e=>ag PP oJ [a,b,c] e fun a b=>ab PP (.ext (.c a) 0) b fun b c=>ab PP (.ext (.c a) 1) c fun a c=>ab PP (.alloc (.agg [zI,zI,zI,zI,.nil,.nil,.nil])) c fun c e=>xS c b 7 e fun b e=>xL c 7 true e fun b c=>ab PP (.bld [zI,zI,zI,zI,.nil,.nil,.nil,zI] [(0,7,(.c b)),(7,1,(.c a))]) c fun a b=>xS d a 8 b fun a b=>xL d 8 true b fun a c=>K a b
theorem AT (a0:D) (a1:D) (a2:D) (h0:Heap) (K:HK):uB a0 a1 a2 h0 K=dZ vw K [a0,a1,a2] h0:=by kernel_rfl
def tA:TL
 | _=>none
def wU:TT
 | 3=>some ([0,0,2,6,0,16,48,0,128,384,1023,2047,4095],[12],[])|_=>none
noncomputable abbrev pR:=cFn PP true jS tA (cDr PP 31 wU)
noncomputable def pY:aH:=⟨31,aR pR,[.cell 6 8 true]⟩
theorem wE:pR=some pY:=by kernel_rfl
def pF (a:D) (b:D) (c:D) (d:Heap) (K:HK):Prop :=
 ab PP (.box (.c a)) d fun a d=>ab PP (.box (.c b)) d fun b d=>ab PP (.alloc (.agg [zI,zI,zI,zI,.nil,.nil,.nil,zI])) d fun d e=>vbin .lss c zI fun f=>vguard f false (fun a=>a c e) e fun e g=>vguard f false (fun a=>xF b 0 g fun b c=>a b c) g fun b g=>vguard f false (fun a=>xL b 1 false g fun b c=>a b c) g fun b g=>vguard f false (fun b=>xF a 0 g fun a c=>b a c) g fun g h=>vguard f false (fun a=>xL g 1 false h fun b c=>a b c) h fun g h=>vguard f false (fun a=>vbin .mul b g fun b=>a b h) h fun b g=>vguard f false (fun a=>vbin .geq e b fun b=>a b g) g fun b e=>ab PP (.pick (.c f) (.c (.bool true)) (.c b)) e fun b e=>vcond b (ab PP (.bld [zI,zI,zI,zI,.nil,.nil,.nil,zI] [(7,1,(.c (.int .i64 1)))]) e fun a b=>xS d a 8 b fun a b=>xL d 8 true b fun a c=>K a b) (yF a 2 e fun b=>yL b 1 false e fun b=>aq PP (.mk 1 4 zJ (.c b) (.c b)) e fun b=>yF a 5 e fun f=>yL f 1 false e fun f=>aq PP (.call fo [(.c f),(.c (.int .i64 3))]) e fun f=>yF a 3 e fun a=>yL a 1 false e fun a=>aq PP (.mk 1 4 zJ (.c a) (.c a)) e fun a=>aq PP (.bld [zI,zI,zI,zI,.nil,.nil,.nil] [(0,1,(.c c)),(1,1,(.c (.int .i64 1))),(4,1,(.c b)),(5,1,(.c f)),(6,1,(.c a))]) e fun a=>aq PP (.bld [zI,zI,zI,zI,.nil,.nil,.nil,zI] [(0,7,(.c a))]) e fun a=>xS d a 8 e fun a b=>xL d 8 true b fun a c=>K a b)
theorem wx (a0:D) (a1:D) (a2:D) (h0:Heap) (K:HK):pF a0 a1 a2 h0 K=dZ pY K [a0,a1,a2] h0:=by kernel_rfl
end Go.Am
namespace Go.Am
open Go Go.Proofs
def Aq:TL
 | _=>none
def Eo:TT
 | _=>none
noncomputable abbrev yT:=cFn PP true cP Aq (cDr PP 16 Eo)
noncomputable def zy:aH:=⟨16,aR yT,[.t 4]⟩
theorem DB:yT=some zy:=by kernel_rfl
def yy (a:D) (b:D) (c:Heap) (K:HK):Prop :=
 ab PP (.box (.c a)) c fun a c=>ab PP (.box (.c b)) c fun b c=>xF b 0 c fun c d=>xL c 1 false d fun c d=>vbin .eql c (.int .i64 2) fun c=>vcond c (xF a 4 d fun a c=>xL a 1 false c fun a c=>xF b 1 c fun b c=>xL b 1 false c fun b c=>xI a b 1 c fun a b=>xL a 1 false b fun a b=>K a b) (xF b 2 d fun a b=>xL a 1 false b fun a b=>K a b)
theorem Dg (a0:D) (a1:D) (h0:Heap) (K:HK):yy a0 a1 h0 K=dZ zy K [a0,a1] h0:=by kernel_rfl
def CO:TL
 | _=>none
def FP:TT
 | _=>none
noncomputable abbrev BV:=cFn PP true ma CO (cDr PP 5 FP)
noncomputable def Cg:aH:=⟨5,aR BV,[.cell 2 3 true]⟩
theorem FB:BV=some Cg:=by kernel_rfl
def BJ (a:D) (b:Heap) (K:HK):Prop :=
 ab PP (.alloc (.agg [zI,zI,zJ])) b fun b c=>ab PP (.bld [zI,zI,zJ] [(0,1,(.c (.int .i64 2))),(1,1,(.c a))]) c fun a c=>xS b a 3 c fun a c=>xL b 3 true c fun a b=>K a c
theorem Fj (a0:D) (h0:Heap) (K:HK):BJ a0 h0 K=dZ Cg K [a0] h0:=by kernel_rfl
def CP:TL
 | _=>none
def FQ:TT
 | _=>none
noncomputable abbrev BW:=cFn PP true mb CP (cDr PP 5 FQ)
noncomputable def Ch:aH:=⟨5,aR BW,[.cell 2 3 true]⟩
theorem FC:BW=some Ch:=by kernel_rfl
def BK (a:D) (b:Heap) (K:HK):Prop :=
 ab PP (.alloc (.agg [zI,zI,zJ])) b fun b c=>ab PP (.bld [zI,zI,zJ] [(0,1,(.c (.int .i64 1))),(2,1,(.c a))]) c fun a c=>xS b a 3 c fun a c=>xL b 3 true c fun a b=>K a c
theorem Fk (a0:D) (h0:Heap) (K:HK):BK a0 h0 K=dZ Ch K [a0] h0:=by kernel_rfl
def Ar:TL
 | 1000014=>some ([],[])|_=>none
def Ep:TT
 | _=>none
noncomputable abbrev yU:=cFn PP true cQ Ar (cDr PP 108 Ep)
noncomputable def zz:aH:=⟨108,aR yU,[.t 6]⟩
theorem DC:yU=some zz:=by kernel_rfl
def yz (a:D) (b:D) (c:D) (d:Heap) (K:HK):Prop :=
 ab PP (.box (.c a)) d fun a d=>ab PP (.box (.c b)) d fun b d=>ab PP (.box (.c c)) d fun c d=>∃(e:HJ),( ∀(a:Nat->D) (b:Heap),e [] b->K (.bool false) b)/\xF c 0 d fun d f=>xL d 1 false f fun d f=>vbin .lss d zI fun d=>vguard d false (fun a=>xF c 0 f fun b c=>a b c) f fun f g=>vguard d false (fun a=>xL f 1 false g fun b c=>a b c) g fun f g=>vguard d false (fun a=>xF b 0 g fun b c=>a b c) g fun b g=>vguard d false (fun a=>xL b 1 false g fun b c=>a b c) g fun b g=>vguard d false (fun b=>xF a 0 g fun a c=>b a c) g fun g h=>vguard d false (fun a=>xL g 1 false h fun b c=>a b c) h fun g h=>vguard d false (fun a=>vbin .mul b g fun b=>a b h) h fun b g=>vguard d false (fun a=>vbin .geq f b fun b=>a b g) g fun b f=>ab PP (.pick (.c d) (.c (.bool true)) (.c b)) f fun b d=>vguard b false (fun a=>xF c 3 d fun b c=>a b c) d fun d f=>vguard b false (fun a=>xL d 1 false f fun b c=>a b c) f fun d f=>vguard b false (fun a=>vbin .lss d zI fun b=>a b f) f fun d f=>ab PP (.pick (.c b) (.c (.bool true)) (.c d)) f fun b d=>vcond b (aF [] []/\e [] d) (xF c 2 d fun b d=>xL b 1 false d fun b d=>vbin .lss b zI fun b=>vguard b false (fun a=>xF c 2 d fun b c=>a b c) d fun d f=>vguard b false (fun a=>xL d 1 false f fun b c=>a b c) f fun d f=>vguard b false (fun b=>xF a 7 f fun a c=>b a c) f fun f g=>vguard b false (fun a=>xL f 1 false g fun b c=>a b c) g fun f g=>vguard b false (fun a=>bQ f g fun b=>a b g) g fun f g=>vguard b false (fun a=>vbin .geq d f fun b=>a b g) g fun d f=>ab PP (.pick (.c b) (.c (.bool true)) (.c d)) f fun b d=>vcond b (aF [] []/\e [] d) (xF c 4 d fun b d=>xL b 1 false d fun b d=>bQ b d fun b=>xF a 2 d fun d f=>xL d 1 false f fun d f=>vbin .neq b d fun b=>vguard b false (fun a=>xF c 6 f fun b c=>a b c) f fun d f=>vguard b false (fun a=>xL d 1 false f fun b c=>a b c) f fun d f=>vguard b false (fun a=>bQ d f fun b=>a b f) f fun d f=>vguard b false (fun b=>xF a 3 f fun a c=>b a c) f fun f g=>vguard b false (fun a=>xL f 1 false g fun b c=>a b c) g fun f g=>vguard b false (fun a=>vbin .neq d f fun b=>a b g) g fun d f=>ab PP (.pick (.c b) (.c (.bool true)) (.c d)) f fun b d=>vguard b false (fun b=>xF a 5 d fun a c=>b a c) d fun d f=>vguard b false (fun a=>xL d 1 false f fun b c=>a b c) f fun d f=>vguard b false (fun a=>xF c 5 f fun b c=>a b c) f fun f g=>vguard b false (fun a=>xL f 1 false g fun b c=>a b c) g fun f g=>vguard b false (fun a=>ag PP mZ [d,(.int .i64 3),f] g fun b c=>a b c) g fun d f=>vguard b false (fun a=>vun .not d fun b=>a b f) f fun d f=>ab PP (.pick (.c b) (.c (.bool true)) (.c d)) f fun b d=>vcond b (aF [] []/\e [] d) (xF c 1 d fun b d=>xL b 1 false d fun b d=>vbin .eql b (.int .i64 1) fun b=>vcond b (K (.bool true) d) (xF c 1 d fun b d=>xL b 1 false d fun b d=>vbin .eql b (.int .i64 2) fun b=>vcond b (xF a 7 d fun a b=>xL a 1 false b fun a b=>xF c 2 b fun b c=>xL b 1 false c fun b c=>xI a b 14 c fun a b=>xF a 1 b fun a b=>xF a 0 b fun a b=>xL a 1 false b fun a b=>vbin .eql a (.int .i64 3) fun c=>vguard c false (fun c=>c a b) b fun a b=>vguard c false (fun c=>vbin .eql a (.int .i64 4) fun a=>c a b) b fun a b=>ab PP (.pick (.c c) (.c (.bool true)) (.c a)) b fun a b=>K a b) (xF c 1 d fun a b=>xL a 1 false b fun a b=>vbin .eql a (.int .i64 3) fun a=>vcond a (xF c 4 b fun a b=>xL a 1 false b fun a b=>xF c 6 b fun b d=>xL b 1 false d fun b d=>ab PP (.bldS true 1 2 .nil [(0,(.c a)),(1,(.c b))]) d fun a b=>xF c 5 b fun b d=>xL b 1 false d fun b d=>ab PP (.app (.c a) (.c b) 1 24 .nil) d fun a b=>ag PP bV [a] b fun a b=>xF c 2 b fun b c=>xL b 1 false c fun b c=>vbin .eql b zI fun b=>vguard b true (fun b=>b a c) c fun a c=>vguard b true (fun a=>a (.fn fH [] []) c) c fun c d=>vguard b true (fun b=>ag PP bG [a,c] d fun a c=>b a c) d fun a c=>vguard b true (fun b=>vun .not a fun a=>b a c) c fun a c=>ab PP (.pick (.c b) (.c a) (.c (.bool false))) c fun a b=>K a b) (aF [] []/\e [] b))))))
theorem Dh (a0:D) (a1:D) (a2:D) (h0:Heap) (K:HK):yz a0 a1 a2 h0 K=dZ zz K [a0,a1,a2] h0:=by kernel_rfl
def Ab:TL
 | _=>none
def Ea:TT
 | _=>none
noncomputable abbrev yC:=cFn PP true gx Ab (cDr PP 18 Ea)
noncomputable def zf:aH:=⟨18,aR yC,[.cell 2 7 true]⟩
theorem Dm:yC=some zf:=by kernel_rfl
def yd (a:D) (b:Heap) (K:HK):Prop :=
 ab PP (.box (.c a)) b fun a b=>ab PP (.alloc (.agg [zI,zI,zI,zI,.nil,.nil,.nil])) b fun b c=>ab PP (.bldS true 1 0 zJ []) c fun c d=>xF a 4 d fun d e=>xL d 1 false e fun d e=>ab PP (.app (.c c) (.c d) 1 4 zJ) e fun c d=>xF a 4 d fun d e=>xS d c 1 e fun c d=>xF a 5 d fun c d=>xL c 1 false d fun c d=>ag PP iG [c] d fun c d=>xF a 5 d fun d e=>xS d c 1 e fun c d=>ab PP (.bldS true 1 0 zJ []) d fun c d=>xF a 6 d fun d e=>xL d 1 false e fun d e=>ab PP (.app (.c c) (.c d) 1 4 zJ) e fun c d=>xF a 6 d fun d e=>xS d c 1 e fun c d=>xL a 7 true d fun a c=>xS b a 7 c fun a c=>xL b 7 true c fun a b=>K a c
theorem C2 (a0:D) (h0:Heap) (K:HK):yd a0 h0 K=dZ zf K [a0] h0:=by kernel_rfl
def xr:TL
 | _=>none
def Cs:TT
 | _=>none
noncomputable abbrev uK:=cFn PP true mU xr (cDr PP 108 Cs)
noncomputable def ve:aH:=⟨108,aR uK,[.t 6]⟩
theorem A4:uK=some ve:=by kernel_rfl
def uk (a:D) (b:D) (c:D) (d:Heap) (K:HK):Prop :=
 ab PP (.box (.c a)) d fun a d=>ab PP (.box (.c b)) d fun b d=>ab PP (.box (.c c)) d fun c d=>xF c 0 d fun d e=>xL d 1 false e fun d e=>vbin .lss d zI fun d=>vguard d false (fun a=>xF c 0 e fun b c=>a b c) e fun e f=>vguard d false (fun a=>xL e 1 false f fun b c=>a b c) f fun e f=>vguard d false (fun a=>xF b 0 f fun b c=>a b c) f fun b f=>vguard d false (fun a=>xL b 1 false f fun b c=>a b c) f fun b f=>vguard d false (fun b=>xF a 0 f fun a c=>b a c) f fun f g=>vguard d false (fun a=>xL f 1 false g fun b c=>a b c) g fun f g=>vguard d false (fun a=>vbin .mul b f fun b=>a b g) g fun b f=>vguard d false (fun a=>vbin .geq e b fun b=>a b f) f fun b e=>ab PP (.pick (.c d) (.c (.bool true)) (.c b)) e fun b d=>vguard b false (fun a=>xF c 2 d fun b c=>a b c) d fun d e=>vguard b false (fun a=>xL d 1 false e fun b c=>a b c) e fun d e=>vguard b false (fun a=>vbin .lss d zI fun b=>a b e) e fun d e=>ab PP (.pick (.c b) (.c (.bool true)) (.c d)) e fun b d=>vguard b false (fun a=>xF c 2 d fun b c=>a b c) d fun d e=>vguard b false (fun a=>xL d 1 false e fun b c=>a b c) e fun d e=>vguard b false (fun b=>xF a 7 e fun a c=>b a c) e fun e f=>vguard b false (fun a=>xL e 1 false f fun b c=>a b c) f fun e f=>vguard b false (fun a=>bQ e f fun b=>a b f) f fun e f=>vguard b false (fun a=>vbin .geq d e fun b=>a b f) f fun d e=>ab PP (.pick (.c b) (.c (.bool true)) (.c d)) e fun b d=>vguard b false (fun a=>xF c 4 d fun b c=>a b c) d fun d e=>vguard b false (fun a=>xL d 1 false e fun b c=>a b c) e fun d e=>vguard b false (fun a=>bQ d e fun b=>a b e) e fun d e=>vguard b false (fun b=>xF a 2 e fun a c=>b a c) e fun e f=>vguard b false (fun a=>xL e 1 false f fun b c=>a b c) f fun e f=>vguard b false (fun a=>vbin .neq d e fun b=>a b f) f fun d e=>ab PP (.pick (.c b) (.c (.bool true)) (.c d)) e fun b d=>vguard b false (fun a=>xF c 6 d fun b c=>a b c) d fun d e=>vguard b false (fun a=>xL d 1 false e fun b c=>a b c) e fun d e=>vguard b false (fun a=>bQ d e fun b=>a b e) e fun d e=>vguard b false (fun b=>xF a 3 e fun a c=>b a c) e fun e f=>vguard b false (fun a=>xL e 1 false f fun b c=>a b c) f fun e f=>vguard b false (fun a=>vbin .neq d e fun b=>a b f) f fun d e=>ab PP (.pick (.c b) (.c (.bool true)) (.c d)) e fun b d=>vguard b false (fun b=>xF a 5 d fun a c=>b a c) d fun d e=>vguard b false (fun a=>xL d 1 false e fun b c=>a b c) e fun d e=>vguard b false (fun a=>xF c 5 e fun b c=>a b c) e fun e f=>vguard b false (fun a=>xL e 1 false f fun b c=>a b c) f fun e f=>vguard b false (fun a=>ag PP oF [d,(.int .i64 3),e] f fun b c=>a b c) f fun d e=>vguard b false (fun a=>vun .not d fun b=>a b e) e fun d e=>ab PP (.pick (.c b) (.c (.bool true)) (.c d)) e fun b d=>vguard b false (fun a=>xF c 3 d fun b c=>a b c) d fun d e=>vguard b false (fun a=>xL d 1 false e fun b c=>a b c) e fun d e=>vguard b false (fun a=>vbin .lss d zI fun b=>a b e) e fun d e=>ab PP (.pick (.c b) (.c (.bool true)) (.c d)) e fun b d=>vcond b (K (.bool false) d) (xF c 1 d fun b d=>xL b 1 false d fun b d=>vbin .eql b (.int .i64 3) fun b=>vcond b (xF c 2 d fun a b=>xL a 1 false b fun a b=>vbin .eql a zI fun a=>vguard a true (fun a=>xF c 4 b fun b c=>a b c) b fun b d=>vguard a true (fun a=>xL b 1 false d fun b c=>a b c) d fun b d=>vguard a true (fun a=>ag PP gN [b] d fun b c=>a b c) d fun b d=>ab PP (.pick (.c a) (.c b) (.c (.bool false))) d fun a b=>vguard a true (fun a=>xF c 6 b fun b c=>a b c) b fun b d=>vguard a true (fun a=>xL b 1 false d fun b c=>a b c) d fun b d=>vguard a true (fun a=>ag PP gN [b] d fun b c=>a b c) d fun b d=>ab PP (.pick (.c a) (.c b) (.c (.bool false))) d fun a b=>vguard a true (fun a=>xF c 5 b fun b c=>a b c) b fun b c=>vguard a true (fun a=>xL b 1 false c fun b c=>a b c) c fun b c=>vguard a true (fun a=>ag PP mT [b] c fun b c=>a b c) c fun b c=>ab PP (.pick (.c a) (.c b) (.c (.bool false))) c fun a b=>K a b) (xF a 7 d fun a b=>xL a 1 false b fun a b=>xF c 2 b fun b d=>xL b 1 false d fun b d=>xI a b 14 d fun a b=>xF a 1 b fun a b=>xF a 0 b fun a b=>xL a 1 false b fun a b=>xF c 1 b fun b d=>xL b 1 false d fun b d=>vbin .eql b (.int .i64 1) fun b=>vguard b false (fun a=>xF c 1 d fun b c=>a b c) d fun c d=>vguard b false (fun a=>xL c 1 false d fun b c=>a b c) d fun c d=>vguard b false (fun a=>vbin .eql c (.int .i64 2) fun b=>a b d) d fun c d=>vguard b false (fun a=>a c d) d fun c d=>vguard c true (fun b=>b a d) d fun d e=>vguard c true (fun a=>vbin .eql d (.int .i64 3) fun b=>a b e) e fun d e=>vguard c true (fun a=>a d e) e fun d e=>vguard d false (fun b=>b a e) e fun a e=>vguard d false (fun b=>vbin .eql a (.int .i64 4) fun a=>b a e) e fun a e=>vguard c true (fun b=>ab PP (.pick (.c d) (.c (.bool true)) (.c a)) e fun a c=>b a c) e fun a d=>vguard b false (fun b=>ab PP (.pick (.c c) (.c a) (.c (.bool false))) d fun a c=>b a c) d fun a c=>ab PP (.pick (.c b) (.c (.bool true)) (.c a)) c fun a b=>K a b))
theorem AJ (a0:D) (a1:D) (a2:D) (h0:Heap) (K:HK):uk a0 a1 a2 h0 K=dZ ve K [a0,a1,a2] h0:=by kernel_rfl
def Ah:TL
 | 1000007=>some ([],[3])|3=>some ([0],[3,4])|_=>none
def Eg:TT
 | _=>none
noncomputable abbrev yK:=cFn PP false iG Ah (cDr PP 22 Eg)
noncomputable def zn:aH:=⟨22,aR yK,[.t 2]⟩
theorem Dt:yK=some zn:=by kernel_rfl
def pJ (a:D) (b:Heap) (c:D) (d:HJ):Prop :=
 ∃(e:Nat->HJ) (f:Nat),e f [a,zI] b/\∀(a:Nat) (b:Nat->D) (f:Heap),e a [b 3,b 4] f->bQ c f fun g=>vbin .lss (b 4) g fun g=>vcond g (ab PP (.bldS false 1 0 zJ []) f fun d f=>xI c (b 4) 1 f fun f g=>xL f 1 false g fun f g=>ab PP (.app (.c d) (.c f) 1 4 zJ) g fun d f=>ab PP (.bldS false 1 1 .nil [(0,(.c d))]) f fun d f=>ab PP (.app (.c (b 3)) (.c d) 1 24 .nil) f fun d f=>vbin .add (b 4) (.int .i64 1) fun b=>aF [c] [c]/\∃c,c<a/\e c [d,b] f) (aF [] []/\d [(b 3)] f)
def yl (a:D) (b:Heap) (K:HK):Prop :=
 ab PP (.bldS false 1 0 .nil []) b fun b c=>∃(d:HJ),( ∀(a:Nat->D) (b:Heap),d [a 3] b->K (a 3) b)/\pJ b c a d
theorem C8 (a0:D) (h0:Heap) (K:HK):yl a0 h0 K=dZ zn K [a0] h0:=by kernel_rfl
def Ae:TL
 | 1000009=>some ([],[])|4=>some ([0,1],[5])|_=>none
def Ed:TT
 | 6=>some ([0,0,3,7,0,0,48,112,255,511],[],[])|_=>none
noncomputable abbrev yG:=cFn PP true kN Ae (cDr PP 27 Ed)
noncomputable def zi:aH:=⟨27,aR yG,[.t 4]⟩
theorem Dq:yG=some zi:=by kernel_rfl
def pH (a:Heap) (b:D) (c:D) (d:HJ) (K:HK):Prop :=
 ∃(e:Nat->HJ) (f:Nat),e f [zI] a/\∀(a:Nat) (f:Nat->D) (g:Heap),e a [f 5] g->bQ b g fun h=>vbin .lss (f 5) h fun h=>vcond h (yI b (f 5) 1 g fun d=>yL d 1 false g fun d=>yI c (f 5) 1 g fun h=>yL h 1 false g fun h=>aq PP (.call iF [(.c d),(.c h)]) g fun d=>vun .not d fun d=>vcond d (K (.bool false) g) (vbin .add (f 5) (.int .i64 1) fun d=>aF [b,c] [b,c]/\∃b,b<a/\e b [d] g)) (aF [] []/\d [] g)
def yg (a:D) (b:D) (c:Heap) (K:HK):Prop :=
 bQ a c fun d=>bQ b c fun e=>vbin .neq d e fun d=>vcond d (K (.bool false) c) ( ∃(d:HJ),( ∀(a:Nat->D) (b:Heap),d [] b->K (.bool true) b)/\pH c a b d K)
theorem C5 (a0:D) (a1:D) (h0:Heap) (K:HK):yg a0 a1 h0 K=dZ zi K [a0,a1] h0:=by kernel_rfl
def oO:TL
 | 1000009=>some ([],[])|4=>some ([0,1],[5])|_=>none
def qE:TT
 | 6=>some ([0,0,3,7,0,0,48,112,255],[],[])|_=>none
noncomputable abbrev lO:=cFn PP true fj oO (cDr PP 26 qE)
noncomputable def lT:aH:=⟨26,aR lO,[.t 4]⟩
theorem qu:lO=some lT:=by kernel_rfl
def iZ (a:Heap) (b:D) (c:D) (d:HJ) (K:HK):Prop :=
 ∃(e:Nat->HJ) (f:Nat),e f [zI] a/\∀(a:Nat) (f:Nat->D) (g:Heap),e a [f 5] g->bQ b g fun h=>vbin .lss (f 5) h fun h=>vcond h (yI b (f 5) 9 g fun d=>yL d 9 true g fun d=>yI c (f 5) 9 g fun h=>yL h 9 true g fun h=>aq PP (.eqv true true [.i,.i,.i,.i,.i,.i,.i,.i,.i] (.c d) (.c h)) g fun d=>vcond d (K (.bool false) g) (vbin .add (f 5) (.int .i64 1) fun d=>aF [b,c] [b,c]/\∃b,b<a/\e b [d] g)) (aF [] []/\d [] g)
def lJ (a:D) (b:D) (c:Heap) (K:HK):Prop :=
 bQ a c fun d=>bQ b c fun e=>vbin .neq d e fun d=>vcond d (K (.bool false) c) ( ∃(d:HJ),( ∀(a:Nat->D) (b:Heap),d [] b->K (.bool true) b)/\iZ c a b d K)
theorem qm (a0:D) (a1:D) (h0:Heap) (K:HK):lJ a0 a1 h0 K=dZ lT K [a0,a1] h0:=by kernel_rfl
def tB:TL
 | _=>none
def wV:TT
 | _=>none
noncomputable abbrev pS:=cFn PP true gW tB (cDr PP 18 wV)
noncomputable def pZ:aH:=⟨18,aR pS,[.cell 2 8 true]⟩
theorem wF:pS=some pZ:=by kernel_rfl
def pL (a:D) (b:Heap) (K:HK):Prop :=
 ab PP (.alloc (.agg [zI,zI,zI,zI,zI,.nil,.nil,.nil])) b fun b c=>ag PP ma [zI] c fun c d=>ab PP (.bld [zI,zI,zI,zI,zI,zJ,zI,zI,zJ,zI,zI,zJ,zI,zI,zJ] [(0,1,(.c (.int .i64 5))),(1,1,(.c (.int .i64 1))),(3,3,(.c c))]) d fun c d=>ag PP ma [zI] d fun d e=>ag PP mb [(.int .i32 7)] e fun e f=>ab PP (.bld [zI,zI,zI,zI,zI,zJ,zI,zI,zJ,zI,zI,zJ,zI,zI,zJ] [(0,1,(.c (.int .i64 8))),(6,3,(.c d)),(9,3,(.c e))]) f fun d e=>ab PP (.bldS true 15 2 (.agg [zI,zI,zI,zI,zI,zJ,zI,zI,zJ,zI,zI,zJ,zI,zI,zJ]) [(0,(.c c)),(1,(.c d))]) e fun c d=>ab PP (.bld [(.str ⟨#[]⟩),zI,zI,zI] [(0,1,(.c (.str ⟨#[97]⟩))),(1,1,(.c (.int .i64 1))),(2,1,(.c (.int .i64 1))),(3,1,(.c a))]) d fun a d=>ab PP (.bldS true 4 1 (.agg [(.str ⟨#[]⟩),zI,zI,zI]) [(0,(.c a))]) d fun a d=>ab PP (.bld [zI,zI,zI,zI,zJ,zI,zI,zJ,zI,zI,zJ,zI,zI] [(0,1,(.c (.int .i64 5)))]) d fun d e=>ab PP (.bld [.nil,zI,zI,zI,zI,zJ,zI,zI,zJ,zI,zI,zJ,zI,zI] [(0,1,(.c c)),(1,13,(.c d))]) e fun c d=>ab PP (.bldS true 14 1 (.agg [.nil,zI,zI,zI,zI,zJ,zI,zI,zJ,zI,zI,zJ,zI,zI]) [(0,(.c c))]) d fun c d=>ab PP (.bld [zI,zI,zI,zI,zI,.nil,.nil,.nil] [(0,1,(.c (.int .i64 4))),(1,1,(.c (.int .i64 1))),(2,1,(.c (.int .i64 1))),(5,1,(.c a)),(7,1,(.c c))]) d fun a c=>xS b a 8 c fun a c=>xL b 8 true c fun a b=>K a c
theorem wy (a0:D) (h0:Heap) (K:HK):pL a0 h0 K=dZ pZ K [a0] h0:=by kernel_rfl
def Ac:TL
 | 1000008=>some ([2,3],[])|4=>some ([2,3],[4])|1000019=>some ([2,3],[])|8=>some ([2,3],[5])|1000010=>some ([2,3,5],[])|1000015=>some ([2,3,5],[])|1000024=>some ([2,3],[])|_=>none
def Eb:TT
 | 2=>some ([0,0,0,4,12,30,62,12,254,511,1023,2047],[3,11],[999999])|4=>some ([0,1,3,7,15,31,63,127,7,263,775,1799,3847,7943,16383,32767,65535],[],[])|17=>some ([0,1,3,7,15,0,0,64,192,448,0,1216,0,7360,0,31936,0,65536,196608,524224,1048575,2097151,4194303],[7,11,13,15,22],[999999])|23=>some ([0,1,3,7,15,0,32,96,224,480,992,2016,0,8191,16383,32767],[15],[])|_=>none
noncomputable abbrev yD:=cFn PP true oC Ac (cDr PP 153 Eb)
noncomputable def zg:aH:=⟨153,aR yD,[.cell 2 8 true]⟩
theorem Dn:yD=some zg:=by kernel_rfl
def jZ (a:D) (b:Heap) (c:D) (d:D) (e:HJ):Prop :=
 ∃(f:Nat->HJ) (g:Nat),f g [a] b/\∀(a:Nat) (b:Nat->D) (g:Heap),f a [b 5] g->vbin .gtr (b 5) zI fun h=>vcond h ( ∃(e:HJ),( ∀(g:Nat->D) (h:Heap),e [] h->vbin .sub (b 5) (.int .i64 1) fun b=>aF [c,d] [c,d]/\∃c,c<a/\f c [b] h)/\ag PP ak [d] g fun a f=>vbin .rem a (.int .i64 3) fun a=>ag PP eo [d,a] f fun a f=>∃(a:HJ),( ∀(f:Nat->D) (g:Heap),a [] g->xF d 0 g fun a f=>xF a 2 f fun a f=>xF a 7 f fun a f=>xL a 1 false f fun a f=>bQ a f fun a=>vbin .sub a (.int .i64 1) fun a=>xF d 0 f fun f g=>xF f 2 g fun f g=>xF f 7 g fun f g=>xL f 1 false g fun f g=>vbin .add a (.int .i64 1) fun h=>ab PP (.bld [zI,zI] [(0,1,(.c h)),(1,1,(.c zI))]) g fun g h=>ab PP (.bld [zI,zI,zI,zI,zJ,zI,zI,zJ,zI,zI,zJ,zI,zI] [(0,1,(.c (.int .i64 3))),(11,2,(.c g))]) h fun g h=>xI f a 14 h fun f h=>xF f 1 h fun f h=>xS f g 13 h fun f g=>ag PP ak [d] g fun f g=>vbin .rem f (.int .i64 3) fun f=>vbin .eql f zI fun f=>vcond f (yF d 0 g fun f=>yF f 2 g fun h=>yF h 7 g fun i=>yL i 1 false g fun j=>vbin .add a (.int .i64 1) fun k=>aq PP (.bld [zI,zI] [(0,1,(.c k)),(1,1,(.c zI))]) g fun k=>ag PP ak [d] g fun g l=>((yF d 0 l fun a=>aF [a] [f])/\(yF f 2 l fun a=>aF [a] [h])/\(yF h 7 l fun a=>aF [a] [i])/\(yL i 1 false l fun a=>aF [a] [j])/\True)/\vbin .rem g (.int .i64 6) fun g=>vbin .add (.int .i64 1) g fun g=>ag PP bg [d] l fun l m=>((yF d 0 m fun a=>aF [a] [f])/\(yF f 2 m fun a=>aF [a] [h])/\(yF h 7 m fun a=>aF [a] [i])/\(yL i 1 false m fun a=>aF [a] [j])/\True)/\ag PP aY [d] m fun m n=>((yF d 0 n fun a=>aF [a] [f])/\(yF f 2 n fun a=>aF [a] [h])/\(yF h 7 n fun a=>aF [a] [i])/\(yL i 1 false n fun a=>aF [a] [j])/\True)/\ag PP aY [d] n fun n o=>((yF d 0 o fun a=>aF [a] [f])/\(yF f 2 o fun a=>aF [a] [h])/\(yF h 7 o fun a=>aF [a] [i])/\(yL i 1 false o fun a=>aF [a] [j])/\True)/\aq PP (.bld [zI,zI,zI,zI,zJ,zI,zI,zJ,zI,zI,zJ,zI,zI] [(0,1,(.c (.int .i64 4))),(1,1,(.c g)),(2,3,(.c l)),(5,3,(.c m)),(8,3,(.c n)),(11,2,(.c k))]) o fun f=>yI j a 14 o fun a=>yF a 1 o fun a=>xS a f 13 o fun a f=>aF [c,d,(b 5)] [c,d,(b 5)]/\e [] f) (aF [c,d,(b 5)] [c,d,(b 5)]/\e [] g))/\ag PP ak [d] f fun e f=>vbin .rem e (.int .i64 3) fun e=>vbin .eql e zI fun e=>vcond e (ag PP dJ [d] f fun e f=>ag PP bh [d] f fun e f=>aF [c,d,(b 5)] [c,d,(b 5)]/\a [] f) (aF [c,d,(b 5)] [c,d,(b 5)]/\a [] f)) (aF [c,d] [c,d]/\e [] g)
def jY (a:D) (b:Heap) (c:D) (d:D) (e:HJ):Prop :=
 ∃(f:Nat->HJ) (g:Nat),f g [a] b/\∀(a:Nat) (b:Nat->D) (g:Heap),f a [b 4] g->vbin .gtr (b 4) zI fun h=>aP h true (fun a=>a c) fun i=>aP h true (fun a=>yF i 0 g fun b=>a b) fun i=>aP h true (fun a=>yF i 2 g fun b=>a b) fun i=>aP h true (fun a=>yF i 0 g fun b=>a b) fun i=>aP h true (fun a=>yL i 1 false g fun b=>a b) fun i=>aP h true (fun a=>a c) fun j=>aP h true (fun a=>yF j 0 g fun b=>a b) fun j=>aP h true (fun a=>yF j 2 g fun b=>a b) fun j=>aP h true (fun a=>yF j 1 g fun b=>a b) fun j=>aP h true (fun a=>yL j 1 false g fun b=>a b) fun j=>aP h true (fun a=>vbin .mul (.int .i64 2) j fun b=>a b) fun j=>aP h true (fun a=>vbin .rem i j fun b=>a b) fun i=>aP h true (fun a=>vbin .eql i zI fun b=>a b) fun i=>aq PP (.pick (.c h) (.c i) (.c (.bool false))) g fun h=>vcond h (xF c 0 g fun e g=>xF e 2 g fun e g=>xF e 1 g fun e g=>xL e 1 false g fun e g=>vbin .mul (.int .i64 2) e fun e=>xF c 0 g fun g h=>xF g 2 h fun g h=>xF g 1 h fun g h=>xS g e 1 h fun e g=>vbin .sub (b 4) (.int .i64 1) fun b=>aF [d,c] [d,c]/\∃c,c<a/\f c [b] g) (aF [d,c] [d,c]/\e [] g)
def ye (a:D) (b:Heap) (K:HK):Prop :=
 ab PP (.box (.c a)) b fun a b=>ab PP (.alloc (.agg [zI,zI,zI,zI,zI,.nil,.nil,.nil])) b fun b c=>xF a 0 c fun a c=>xL a 1 false c fun a c=>ab PP (.bld [.nil,zI,zI,zI,zI,zI,zI,.nil,.nil,.nil] [(0,1,(.c a))]) c fun a c=>ab PP (.box (.c a)) c fun a c=>aq PP (.bldS false 1 5 zI [(0,(.c (.int .i64 4))),(1,(.c (.int .i64 1))),(2,(.c (.int .i64 2))),(3,(.c (.int .i64 8))),(4,(.c (.int .i64 6)))]) c fun d=>ag PP ak [a] c fun c e=>vbin .rem c (.int .i64 5) fun c=>yI d c 1 e fun c=>yL c 1 false e fun c=>aq PP (.call lD []) e fun d=>aq PP (.bld [zI,zI,zI,zI,zI,.nil,.nil,.nil] [(0,1,(.c c)),(1,1,(.c (.int .i64 1))),(2,1,(.c (.int .i64 6))),(4,1,(.c (.int .i64 3))),(5,1,(.c d))]) e fun c=>yF a 0 e fun d=>yF d 2 e fun d=>xS d c 8 e fun c d=>∃(c:HJ),( ∀(d:Nat->D) (e:Heap),c [] e->∃(c:HJ),( ∀(d:Nat->D) (e:Heap),c [] e->ag PP ak [a] e fun c d=>vbin .rem c (.int .i64 3) fun c=>ag PP eo [a,c] d fun c d=>∃(c:HJ),( ∀(d:Nat->D) (e:Heap),c [] e->yF a 0 e fun c=>yF c 2 e fun c=>yF c 7 e fun c=>yL c 1 false e fun c=>yF a 0 e fun d=>yF d 2 e fun d=>yF d 7 e fun d=>yL d 1 false e fun d=>bQ d e fun d=>vbin .sub d (.int .i64 1) fun d=>aq PP (.bld [zI,zI,zI,zI,zJ,zI,zI,zJ,zI,zI,zJ,zI,zI] [(0,1,(.c (.int .i64 5)))]) e fun f=>yI c d 14 e fun c=>yF c 1 e fun c=>xS c f 13 e fun c d=>xF a 0 d fun a c=>xF a 2 c fun a c=>xL a 8 true c fun a c=>xS b a 8 c fun a c=>xL b 8 true c fun a b=>K a c)/\ag PP ak [a] d fun d e=>vbin .rem d (.int .i64 3) fun d=>vbin .eql d zI fun d=>vcond d (ag PP dJ [a] e fun d e=>ag PP bh [a] e fun d e=>ag PP ct [a] e fun d e=>aF [b,a] [b,a]/\c [] e) (aF [b,a] [b,a]/\c [] e))/\ag PP ak [a] e fun d e=>vbin .rem d (.int .i64 3) fun d=>jZ d e b a c)/\ag PP ak [a] d fun d e=>vbin .rem d (.int .i64 3) fun d=>jY d e a b c
theorem C3 (a0:D) (h0:Heap) (K:HK):ye a0 h0 K=dZ zg K [a0] h0:=by kernel_rfl
def v8:TL
 | 1000009=>some ([1,2,3],[])|3=>some ([1,2,3],[4])|_=>none
def zN:TT
 | _=>none
noncomputable abbrev sw:=cFn PP true lA v8 (cDr PP 32 zN)
noncomputable def sM:aH:=⟨32,aR sw,[.cell 2 8 true]⟩
theorem ze:sw=some sM:=by kernel_rfl
def mo (a:Heap) (b:D) (c:D) (d:D) (e:HJ):Prop :=
 ∃(f:Nat->HJ) (g:Nat),f g [zI] a/\∀(a:Nat) (g:Nat->D) (h:Heap),f a [g 4] h->bQ b h fun i=>vbin .lss (g 4) i fun i=>vcond i (xI b (g 4) 4 h fun e h=>xL e 4 true h fun e h=>ab PP (.alloc (.agg [(.str ⟨#[]⟩),zI,zI,zI])) h fun h i=>xS h e 4 i fun e i=>xF h 3 i fun e i=>xL e 1 false i fun e i=>vbin .quo e (.int .i64 2) fun e=>ab PP (.mx (.c e) (.c (.int .i64 1))) i fun e i=>xF h 3 i fun i j=>xS i e 1 j fun e i=>xL h 4 true i fun e h=>xI b (g 4) 4 h fun h i=>xS h e 4 i fun e h=>vbin .add (g 4) (.int .i64 1) fun e=>aF [c,d,b] [c,d,b]/\∃b,b<a/\f b [e] h) (aF [c,d,b] [c,d,b]/\e [] h)
def rT (a:D) (b:Heap) (K:HK):Prop :=
 ab PP (.box (.c a)) b fun a b=>ab PP (.alloc (.agg [zI,zI,zI,zI,zI,.nil,.nil,.nil])) b fun b c=>ab PP (.bldS true 4 0 (.agg [(.str ⟨#[]⟩),zI,zI,zI]) []) c fun c d=>xF a 5 d fun d e=>xL d 1 false e fun d e=>ab PP (.app (.c c) (.c d) 4 40 (.agg [(.str ⟨#[]⟩),zI,zI,zI])) e fun c d=>∃(e:HJ),( ∀(d:Nat->D) (f:Heap),e [] f->xF a 5 f fun d e=>xS d c 1 e fun c d=>xL a 8 true d fun a c=>xS b a 8 c fun a c=>xL b 8 true c fun a b=>K a c)/\mo d c a b e
theorem yc (a0:D) (h0:Heap) (K:HK):rT a0 h0 K=dZ sM K [a0] h0:=by kernel_rfl
def we:TL
 | 1000005=>some ([2,3,4,5],[])|1000009=>some ([4,5],[])|5=>some ([2,3,4,5],[6])|_=>none
def zP:TT
 | 3=>some ([0,1,0,4,12,31,63,127,255],[8],[])|7=>some ([0,1,0,4,0,28,60,124,252,511,1023,2047],[9,11],[])|_=>none
noncomputable abbrev sA:=cFn PP true lC we (cDr PP 42 zP)
noncomputable def sR:aH:=⟨42,aR sA,[.cell 4 2 true]⟩
theorem zk:sA=some sR:=by kernel_rfl
def mA (a:Heap) (b:D) (c:D) (d:D) (e:D) (f:HJ):Prop :=
 ∃(g:Nat->HJ) (h:Nat),g h [zI] a/\∀(a:Nat) (h:Nat->D) (i:Heap),g a [h 6] i->xF b 4 i fun i j=>xL i 1 false j fun i j=>vbin .lss (h 6) i fun i=>vcond i (yF c 1 j fun f=>yL f 1 false j fun f=>vbin .rem (h 6) (.int .i64 8) fun i=>yF d 1 j fun k=>aq PP (.iadda (.c k) (.c i) 8 1) j fun i=>yL i 1 false j fun i=>aq PP (.conv .i32 (.c i)) j fun i=>aq PP (.bldS false 1 1 zJ [(0,(.c i))]) j fun i=>yF c 1 j fun k=>ab PP (.app (.c f) (.c i) 1 4 zJ) j fun f i=>xS k f 1 i fun f i=>vbin .add (h 6) (.int .i64 1) fun f=>aF [b,d,e,c] [b,d,e,c]/\∃b,b<a/\g b [f] i) (aF [e,c] [e,c]/\f [] j)
def rX (a:D) (b:D) (c:Heap) (K:HK):Prop :=
 ab PP (.box (.c a)) c fun a c=>ab PP (.box (.c b)) c fun b c=>ab PP (.alloc (.agg [zI,.nil])) c fun c d=>xF b 0 d fun d e=>xL d 1 false e fun d e=>vbin .rem d (.int .u8 3) fun d=>ab PP (.conv .i64 (.c d)) e fun d e=>vbin .add (.int .i64 1) d fun d=>ab PP (.bld [zI,.nil] [(0,1,(.c d))]) e fun d e=>ab PP (.alloc (.agg [zI,.nil])) e fun e f=>xS e d 2 f fun d f=>∃(d:HJ),( ∀(f:Nat->D) (g:Heap),d [] g->∃(d:HJ),( ∀(a:Nat->D) (b:Heap),d [] b->xL e 2 true b fun a b=>xS c a 2 b fun a b=>xL c 2 true b fun a c=>K a b)/\mA g a e b c d)/\xF a 0 f fun f g=>xL f 1 false g fun f g=>vbin .gtr f zI fun f=>vcond f (yF e 0 g fun f=>yL f 1 false g fun f=>yF a 0 g fun h=>yL h 1 false g fun h=>vbin .quo (.int .i64 4096) h fun h=>aq PP (.mn (.c f) (.c h)) g fun f=>aq PP (.mx (.c f) (.c (.int .i64 1))) g fun f=>yF e 0 g fun h=>xS h f 1 g fun f g=>aF [a,b,c,e] [a,b,c,e]/\d [] g) (aF [a,b,c,e] [a,b,c,e]/\d [] g)
theorem yi (a0:D) (a1:D) (h0:Heap) (K:HK):rX a0 a1 h0 K=dZ sR K [a0,a1] h0:=by kernel_rfl
end Go.Am
namespace Go.Am
open Go Go.Proofs
def xt:TL
 | 1000012=>some ([10,11],[])|3=>some ([3,5,6,10,11],[12])|1000005=>some ([3,5,6,10,11,12],[])|_=>none
def Ct:TT
 | 1=>some ([0,0,0,7,15,0,0,64,207,511,0,2047],[3,8,10,11],[999998,2])|_=>none
noncomputable abbrev uL:=cFn PP true mV xt (cDr PP 66 Ct)
noncomputable def vj:aH:=⟨66,aR uL,[.cell 10 11 true]⟩
theorem A6:uL=some vj:=by kernel_rfl
def nG (a:Heap) (b:D) (c:D) (d:D) (e:D) (f:D) (g:HJ) (K:HK):Prop :=
 ∃(h:Nat->HJ) (i:Nat),h i [zI] a/\∀(a:Nat) (i:Nat->D) (j:Heap),h a [i 12] j->vbin .lss (i 12) b fun k=>vguard k true (fun a=>xF c 0 j fun b c=>a b c) j fun j l=>vguard k true (fun a=>xF j 1 l fun b c=>a b c) l fun j l=>vguard k true (fun a=>xL j 1 false l fun b c=>a b c) l fun j l=>vguard k true (fun a=>vbin .neq j (.int .i64 3) fun b=>a b l) l fun j l=>ab PP (.pick (.c k) (.c j) (.c (.bool false))) l fun j k=>vcond j ( ∃(g:HJ),( ∀(j:Nat->D) (k:Heap),g [] k->vbin .add (i 12) (.int .i64 1) fun g=>aF [b,d,e,f,c] [b,d,e,f,c]/\∃b,b<a/\h b [g] k)/\xF c 0 k fun a h=>xF a 1 h fun a h=>xL a 1 false h fun a h=>vbin .eql a (.int .i64 2) fun a=>vcond a (xL d 8 true h fun a h=>xF c 0 h fun h j=>xL h 7 true j fun h j=>vbin .rem (i 12) (.int .i64 3) fun k=>ab PP (.conv .i32 (.c k)) j fun j k=>ag PP lz [a,h,j] k fun a h=>ab PP (.fld (.c a) 0 7 true) h fun a h=>xF c 0 h fun h j=>xS h a 7 j fun a h=>aF [b,d,e,f,c,(i 12)] [b,d,e,f,c,(i 12)]/\g [] h) (xL d 8 true h fun a h=>xL e 2 true h fun h j=>xF c 0 j fun j k=>xL j 7 true k fun j k=>xF c 7 k fun k l=>xL k 1 false l fun k l=>xF c 8 l fun l m=>xL l 1 false m fun l m=>ab PP (.bld [.nil,.nil] [(0,1,(.c k)),(1,1,(.c l))]) m fun k l=>ag PP ly [a,h,j,k,(i 12)] l fun a h=>ab PP (.alloc (.agg [zI,zI,zI,zI,.nil,.nil,.nil,.nil,.nil,.nil,zI])) h fun h j=>xS h a 11 j fun a j=>xF h 10 j fun a j=>xL a 1 false j fun a j=>vbin .neq a zI fun a=>vcond a (xL c 11 true j fun a b=>xS f a 11 b fun a b=>xL f 11 true b fun a c=>K a b) (xL h 11 true j fun a h=>xS c a 11 h fun a h=>aF [b,d,e,f,c,(i 12)] [b,d,e,f,c,(i 12)]/\g [] h))) (aF [f,c] [f,c]/\g [] k)
def uo (a:D) (b:D) (c:D) (d:D) (e:D) (f:Heap) (K:HK):Prop :=
 ab PP (.box (.c a)) f fun a f=>ab PP (.box (.c b)) f fun b f=>ab PP (.alloc (.agg [zI,zI,zI,zI,.nil,.nil,.nil,.nil,.nil,.nil,zI])) f fun f g=>yL a 8 true g fun h=>yL b 2 true g fun i=>yF a 5 g fun j=>yL j 1 false g fun k=>ag PP jS [h,i,c] g fun c g=>((yF a 5 g fun a=>aF [a] [j])/\(yL j 1 false g fun a=>aF [a] [k])/\True)/\aq PP (.fld (.c c) 0 7 true) g fun c=>ag PP fo [k,(.int .i64 2)] g fun g l=>aq PP (.bld [zI,zI,zI,zI,.nil,.nil,.nil,.nil,.nil,.nil,zI] [(0,7,(.c c)),(7,1,(.c e)),(8,1,(.c g))]) l fun c=>ab PP (.alloc (.agg [zI,zI,zI,zI,.nil,.nil,.nil,.nil,.nil,.nil,zI])) l fun e g=>((yL a 8 true g fun a=>aF [a] [h])/\(yL b 2 true g fun a=>aF [a] [i])/\(yF a 5 g fun a=>aF [a] [j])/\(yL j 1 false g fun a=>aF [a] [k])/\True)/\xS e c 11 g fun c g=>∃(c:HJ),( ∀(a:Nat->D) (b:Heap),c [] b->xF e 9 b fun a b=>ab PP (.st (.c a) (.c .nil) 1) b fun a b=>xL e 11 true b fun a b=>xS f a 11 b fun a b=>xL f 11 true b fun a c=>K a b)/\nG g d e a b f c K
theorem AK (a0:D) (a1:D) (a2:D) (a3:D) (a4:D) (h0:Heap) (K:HK):uo a0 a1 a2 a3 a4 h0 K=dZ vj K [a0,a1,a2,a3,a4] h0:=by kernel_rfl
def wc:TL
 | 1000010=>some ([5],[])|3=>some ([3,5],[6])|1000005=>some ([3,5,6],[])|6=>some ([3,5,6],[7])|_=>none
def zO:TT
 | 8=>some ([0,0,3,7,0,0,0,96,224,0,992,2016,4064,0,0,24576,57344,122880,262112,524287,1048575],[20],[])|_=>none
noncomputable abbrev sy:=cFn PP true lB wc (cDr PP 47 zO)
noncomputable def sQ:aH:=⟨47,aR sy,[.t 4]⟩
theorem zj:sy=some sQ:=by kernel_rfl
def mz (a:Heap) (b:D) (c:Nat->D) (d:D) (e:HJ):Prop :=
 ∃(f:Nat->HJ) (g:Nat),f g [zI] a/\∀(a:Nat) (g:Nat->D) (h:Heap),f a [g 7] h->xI b (c 6) 1 h fun h i=>xL h 1 false i fun h i=>bQ h i fun h=>vbin .lss (g 7) h fun h=>vcond h (yI b (c 6) 1 i fun e=>yL e 1 false i fun e=>vbin .add (c 6) (g 7) fun h=>vbin .rem h (.int .i64 4) fun h=>yF d 9 i fun j=>aq PP (.iadda (.c j) (.c h) 4 1) i fun h=>yL h 1 false i fun h=>aq PP (.conv .i32 (.c h)) i fun h=>vbin .mul (g 7) (c 6) fun j=>vbin .rem j (.int .i64 5) fun j=>aq PP (.conv .i32 (.c j)) i fun j=>vbin .add h j fun h=>yI e (g 7) 1 i fun e=>xS e h 1 i fun e h=>vbin .add (g 7) (.int .i64 1) fun e=>aF [d,b,(c 6)] [d,b,(c 6)]/\∃b,b<a/\f b [e] h) (aF [d,b,(c 6)] [d,b,(c 6)]/\e [] i)
def my (a:Heap) (b:D) (c:D) (d:HJ):Prop :=
 ∃(e:Nat->HJ) (f:Nat),e f [zI] a/\∀(a:Nat) (f:Nat->D) (g:Heap),e a [f 6] g->bQ b g fun h=>vbin .lss (f 6) h fun h=>vcond h ( ∃(d:HJ),( ∀(g:Nat->D) (h:Heap),d [] h->vbin .add (f 6) (.int .i64 1) fun d=>aF [c,b] [c,b]/\∃b,b<a/\e b [d] h)/\mz g b f c d) (aF [b] [b]/\d [] g)
def rW (a:D) (b:D) (c:Heap) (K:HK):Prop :=
 ab PP (.box (.c a)) c fun a c=>ab PP (.box (.c b)) c fun b c=>xF a 5 c fun a c=>xL a 1 false c fun a c=>ag PP fo [a,(.int .i64 1)] c fun a c=>∃(d:HJ),( ∀(b:Nat->D) (c:Heap),d [] c->K a c)/\my c a b d
theorem yh (a0:D) (a1:D) (h0:Heap) (K:HK):rW a0 a1 h0 K=dZ sQ K [a0,a1] h0:=by kernel_rfl
def CT:TL
 | 1000012=>some ([12,13,14,15,16,17],[])|7=>some ([5,8,12,13,14,15,16,17,64,65],[66])|8000009=>some ([1],[])|_=>none
def FV:TT
 | 2=>some ([0,0,0,1,11,31,63,127],[3,4,5,6,7],[1,2])|4=>some ([0,0,0,0,8,0,56,0,255,511,1023],[4,6,7,9],[999998,2])|5=>some ([0,0,0,0,8,24,0,64,248,0,512,2040,4089,8185,16377,32761,65531,131067,262139,524283,1048575,2097151,4194303,8388607],[5,8,11,15,19,23],[999999])|11=>some ([0,1,0,4,12,28,0,64,192,448,0,1024,3072,7168,3,16447,50175,131071,262143],[1,14,15,16,17,18],[999999])|_=>none
def Cl:GB:=⟨96,
 [(.pE [⟨(some 6),.box (.t 0),none⟩,
  ⟨(some 7),.box (.t 1),none⟩,
  ⟨(some 8),.box (.t 2),none⟩,
  ⟨(some 9),.box (.t 3),none⟩,
  ⟨(some 10),.box (.t 4),none⟩,
  ⟨(some 12),.alloc (.agg [(.int .i64 0),(.int .i64 0),(.int .i64 0),(.int .i64 0),.nil,.nil,.nil]),none⟩,
  ⟨(some 13),.alloc .nil,none⟩,
  ⟨(some 14),.alloc .nil,none⟩,
  ⟨(some 15),.alloc .nil,none⟩,
  ⟨(some 16),.alloc (.int .i64 0),none⟩]),(.seq (.pE [⟨(some 20),.fadd (.t 8) 1,none⟩,
  ⟨(some 21),.ld (.t 20) 1 false,none⟩,
  ⟨(some 22),.bin .neq (.t 21) (.c (.int .i64 1)),none⟩]) <|
 .cond (.t 22) (.seq (.dreg [⟨(some 23),.ld (.t 8) 7 true,none⟩,
  ⟨(some 24),.ld (.t 9) 1 false,none⟩,
  ⟨(some 25),.ld (.t 10) 1 false,none⟩] [⟨none,.st (.t 12) (.t 23) 7,none⟩,
  ⟨none,.st (.t 13) (.t 24) 1,none⟩,
  ⟨none,.st (.t 14) (.t 25) 1,none⟩,
  ⟨none,.st (.t 15) (.c .nil) 1,none⟩,
  ⟨none,.st (.t 16) (.c (.int .i64 1)) 1,none⟩] [⟨(some 24),.ld (.t 9) 1 false,none⟩,
  ⟨(some 25),.ld (.t 10) 1 false,none⟩]) <|
 .ret) (.skip))],gg,[],[(.t 8),(.t 9),(.t 10),(.t 12),(.t 13),(.t 14),(.t 15),(.t 16)],26,
 .seq (.seq (.dreg [⟨(some 34),.mov (.c .undef),none⟩] [] []) <|
 .seq (.dreg [⟨(some 27),.ld (.t 6) 8 true,none⟩,
  ⟨(some 28),.ld (.t 7) 2 true,none⟩,
  ⟨(some 29),.ld (.t 8) 7 true,none⟩,
  ⟨(some 30),.ld (.t 9) 1 false,none⟩,
  ⟨(some 32),.ld (.t 10) 1 false,none⟩] [⟨(some 31),.call er [(.t 30)],none⟩] [⟨(some 27),.ld (.t 6) 8 true,none⟩,
  ⟨(some 28),.ld (.t 7) 2 true,none⟩,
  ⟨(some 29),.ld (.t 8) 7 true,none⟩,
  ⟨(some 32),.ld (.t 10) 1 false,none⟩]) <|
 .seq (.dreg [] [⟨(some 33),.call er [(.t 32)],none⟩] [⟨(some 27),.ld (.t 6) 8 true,none⟩,
  ⟨(some 28),.ld (.t 7) 2 true,none⟩,
  ⟨(some 29),.ld (.t 8) 7 true,none⟩]) <|
 .seq (.dreg [] [⟨(some 34),.mkm (.pair .i64),none⟩] [⟨(some 27),.ld (.t 6) 8 true,none⟩,
  ⟨(some 28),.ld (.t 7) 2 true,none⟩,
  ⟨(some 29),.ld (.t 8) 7 true,none⟩,
  ⟨(some 30),.ld (.t 9) 1 false,none⟩,
  ⟨(some 32),.ld (.t 10) 1 false,none⟩]) <|
 .seq (.dreg [⟨(some 35),.bld [(.int .i64 0),(.int .i64 0),(.int .i64 0),(.int .i64 0),(.int .i64 0),.nil,.nil,.nil,(.int .i64 0),.nil,(.int .i64 0),(.int .i64 0),(.int .i64 0),(.int .i64 0),.nil,.nil,.nil,.nil,.nil,.nil,.nilmap] [(0,8,(.t 27)),(8,2,(.t 28)),(10,7,(.t 29)),(17,1,(.t 31)),(18,1,(.t 33)),(20,1,(.t 34))],none⟩] [⟨(some 36),.box (.t 35),none⟩] []) <|
 .dreg [⟨(some 17),.mov (.t 36),none⟩] [] []) <|
 .seq (.seq (.dreg [⟨(some 37),.mov (.t 17),none⟩,
  ⟨(some 38),.mov (.t 17),none⟩,
  ⟨(some 39),.mov (.t 17),none⟩,
  ⟨(some 40),.fadd (.t 8) 4,none⟩,
  ⟨(some 41),.ld (.t 40) 1 false,none⟩,
  ⟨(some 43),.fadd (.t 8) 6,none⟩,
  ⟨(some 44),.ld (.t 43) 1 false,none⟩,
  ⟨(some 46),.fadd (.t 8) 5,none⟩,
  ⟨(some 47),.ld (.t 46) 1 false,none⟩] [⟨(some 42),.call aS [(.t 41)],none⟩] [⟨(some 43),.fadd (.t 8) 6,none⟩,
  ⟨(some 44),.ld (.t 43) 1 false,none⟩,
  ⟨(some 46),.fadd (.t 8) 5,none⟩,
  ⟨(some 47),.ld (.t 46) 1 false,none⟩]) <|
 .seq (.dreg [] [⟨(some 45),.call aS [(.t 44)],none⟩] [⟨(some 46),.fadd (.t 8) 5,none⟩,
  ⟨(some 47),.ld (.t 46) 1 false,none⟩]) <|
 .seq (.dreg [] [⟨(some 48),.call er [(.t 47)],none⟩] []) <|
 .seq (.dreg [⟨(some 49),.fadd (.t 37) 0,none⟩,
  ⟨(some 50),.fadd (.t 49) 10,none⟩,
  ⟨(some 51),.fadd (.t 50) 4,none⟩] [⟨none,.st (.t 51) (.t 42) 1,none⟩] []) <|
 .seq (.dreg [⟨(some 52),.fadd (.t 38) 0,none⟩,
  ⟨(some 53),.fadd (.t 52) 10,none⟩,
  ⟨(some 54),.fadd (.t 53) 6,none⟩] [⟨none,.st (.t 54) (.t 45) 1,none⟩] []) <|
 .seq (.dreg [⟨(some 55),.fadd (.t 39) 0,none⟩,
  ⟨(some 56),.fadd (.t 55) 10,none⟩,
  ⟨(some 57),.fadd (.t 56) 5,none⟩] [⟨none,.st (.t 57) (.t 48) 1,none⟩] []) <|
 .dreg [] [] []) <|
 .seqj [12,13,14,15,16,17] [] (.seq (.pE [⟨(some 58),.fadd (.t 6) 7,none⟩,
  ⟨(some 59),.ld (.t 58) 1 false,none⟩,
  ⟨(some 60),.fadd (.t 8) 2,none⟩,
  ⟨(some 61),.ld (.t 60) 1 false,none⟩,
  ⟨(some 62),.iadd (.t 59) (.t 61) 14,none⟩,
  ⟨(some 63),.fadd (.t 62) 0,none⟩,
  ⟨(some 64),.ld (.t 63) 1 false,none⟩,
  ⟨(some 65),.len (.t 64),none⟩,
  ⟨(some 66),.mov (.c (.int .i64 0)),none⟩]) <|
 .block 0 (.loop [5,8,12,13,14,15,16,17,64,65] [66] (.seq (.pE [⟨(some 67),.bin .lss (.t 66) (.t 65),none⟩]) <|
 .seq (.cond (.t 67) (.skip) (.exit 0)) <|
 .seq (.block 1 (.seq (.pE [⟨(some 68),.mov (.t 66),none⟩,
  ⟨(some 69),.iadd (.t 64) (.t 66) 15,none⟩,
  ⟨(some 70),.ld (.t 69) 15 true,none⟩,
  ⟨(some 19),.alloc (.agg [(.int .i64 0),(.int .i64 0),(.int .i64 0),(.int .i64 0),(.int .i64 0),(.int .i32 0),(.int .i64 0),(.int .i64 0),(.int .i32 0),(.int .i64 0),(.int .i64 0),(.int .i32 0),(.int .i64 0),(.int .i64 0),(.int .i32 0)]),none⟩,
  ⟨(some 18),.mov (.t 68),none⟩,
  ⟨none,.st (.t 19) (.t 70) 15,none⟩]) <|
 .regx [⟨(some 71),.mov (.t 17),none⟩,
  ⟨(some 72),.ld (.t 19) 15 true,none⟩,
  ⟨(some 73),.fadd (.t 8) 0,none⟩,
  ⟨(some 74),.ld (.t 73) 1 false,none⟩,
  ⟨(some 75),.mov (.t 5),none⟩,
  ⟨(some 76),.fadd (.t 8) 2,none⟩,
  ⟨(some 77),.ld (.t 76) 1 false,none⟩,
  ⟨(some 78),.mov (.t 18),none⟩,
  ⟨(some 79),.bld [(.int .i64 0),(.int .i64 0),(.int .i64 0),(.int .i64 0),(.int .i64 0),(.int .i64 0),(.int .i64 0),(.int .i64 0),(.int .i32 0)] [(2,1,(.t 74)),(3,1,(.t 75)),(4,1,(.t 77)),(5,1,(.t 78))],none⟩,
  ⟨(some 80),.call js [(.t 71),(.t 72),(.t 79)],none⟩])) <|
 .pE [⟨(some 81),.bin .add (.t 66) (.c (.int .i64 1)),none⟩,
  ⟨(some 66),.mov (.t 81),none⟩]))) <|
 .seq (.seq (.dreg [⟨(some 82),.mov (.t 17),none⟩,
  ⟨(some 84),.mov (.t 17),none⟩,
  ⟨(some 85),.fadd (.t 84) 0,none⟩,
  ⟨(some 86),.fadd (.t 85) 17,none⟩,
  ⟨(some 87),.ld (.t 86) 1 false,none⟩,
  ⟨(some 88),.mov (.t 17),none⟩,
  ⟨(some 89),.fadd (.t 88) 0,none⟩,
  ⟨(some 90),.fadd (.t 89) 18,none⟩,
  ⟨(some 91),.ld (.t 90) 1 false,none⟩,
  ⟨(some 92),.mov (.t 17),none⟩,
  ⟨(some 93),.fadd (.t 92) 0,none⟩,
  ⟨(some 94),.fadd (.t 93) 19,none⟩,
  ⟨(some 95),.ld (.t 94) 1 false,none⟩] [⟨(some 83),.call gA [(.t 82)],none⟩] [⟨(some 85),.fadd (.t 84) 0,none⟩,
  ⟨(some 86),.fadd (.t 85) 17,none⟩,
  ⟨(some 87),.ld (.t 86) 1 false,none⟩,
  ⟨(some 89),.fadd (.t 88) 0,none⟩,
  ⟨(some 90),.fadd (.t 89) 18,none⟩,
  ⟨(some 91),.ld (.t 90) 1 false,none⟩,
  ⟨(some 93),.fadd (.t 92) 0,none⟩,
  ⟨(some 94),.fadd (.t 93) 19,none⟩,
  ⟨(some 95),.ld (.t 94) 1 false,none⟩]) <|
 .seq (.dreg [] [⟨none,.st (.t 12) (.t 83) 7,none⟩] [⟨(some 85),.fadd (.t 84) 0,none⟩,
  ⟨(some 86),.fadd (.t 85) 17,none⟩,
  ⟨(some 87),.ld (.t 86) 1 false,none⟩,
  ⟨(some 89),.fadd (.t 88) 0,none⟩,
  ⟨(some 90),.fadd (.t 89) 18,none⟩,
  ⟨(some 91),.ld (.t 90) 1 false,none⟩,
  ⟨(some 93),.fadd (.t 92) 0,none⟩,
  ⟨(some 94),.fadd (.t 93) 19,none⟩,
  ⟨(some 95),.ld (.t 94) 1 false,none⟩]) <|
 .seq (.dreg [] [⟨none,.st (.t 13) (.t 87) 1,none⟩] [⟨(some 89),.fadd (.t 88) 0,none⟩,
  ⟨(some 90),.fadd (.t 89) 18,none⟩,
  ⟨(some 91),.ld (.t 90) 1 false,none⟩,
  ⟨(some 93),.fadd (.t 92) 0,none⟩,
  ⟨(some 94),.fadd (.t 93) 19,none⟩,
  ⟨(some 95),.ld (.t 94) 1 false,none⟩]) <|
 .seq (.dreg [] [⟨none,.st (.t 14) (.t 91) 1,none⟩] [⟨(some 93),.fadd (.t 92) 0,none⟩,
  ⟨(some 94),.fadd (.t 93) 19,none⟩,
  ⟨(some 95),.ld (.t 94) 1 false,none⟩]) <|
 .seq (.dreg [] [⟨none,.st (.t 15) (.t 95) 1,none⟩] []) <|
 .seq (.dreg [] [⟨none,.st (.t 16) (.c (.int .i64 0)) 1,none⟩] []) <|
 .dreg [] [] []) <|
 .ret,
 [.cell 12 7 true,.cell 13 1 false,.cell 14 1 false,.cell 15 1 false,.cell 16 1 false]⟩
theorem FG:cFnD PP true qT CT (cDr PP 96 FV)=some Cl:=by kernel_rfl
def si (a:Heap) (b:D) (c:D) (d:D) (e:D) (f:D) (g:D) (h:D) (i:D) (j:D) (k:D) (l:D) (m:D) (n:HJ) (K:HK):Prop :=
 ∃(o:Nat->HJ) (p:Nat),o p [zI] a/\∀(a:Nat) (p:Nat->D) (q:Heap),o a [p 66] q->vbin .lss (p 66) b fun r=>vcond r (xI c (p 66) 15 q fun n q=>xL n 15 true q fun n q=>ab PP (.alloc (.agg [zI,zI,zI,zI,zI,zJ,zI,zI,zJ,zI,zI,zJ,zI,zI,zJ])) q fun q r=>xS q n 15 r fun n r=>xL q 15 true r fun n q=>xF d 0 q fun q r=>xL q 1 false r fun q r=>xF d 2 r fun r s=>xL r 1 false s fun r s=>ab PP (.bld [zI,zI,zI,zI,zI,zI,zI,zI,zJ] [(2,1,(.c q)),(3,1,(.c e)),(4,1,(.c r)),(5,1,(.c (p 66)))]) s fun q r=>IS PP js [f,n,q] r (fun a=>OI PP gg [d,g,h,i,j,k,l,m] a fun a=>xL i 7 true a fun b c=>xL j 1 false a fun c d=>xL k 1 false a fun d e=>xL l 1 false a fun e f=>xL m 1 false a fun f g=>K (.tup [b,c,d,e,f]) a) fun g h=>vbin .add (p 66) (.int .i64 1) fun g=>aF [e,d,i,j,k,l,m,f,c,b] [e,d,i,j,k,l,m,f,c,b]/\∃b,b<a/\o b [g] h) (aF [i,j,k,l,m,f] [i,j,k,l,m,f]/\n [] q)
def BO (a:D) (b:D) (c:D) (d:D) (e:D) (f:D) (g:Heap) (K:HK):Prop :=
 ab PP (.box (.c a)) g fun a g=>ab PP (.box (.c b)) g fun b g=>ab PP (.box (.c c)) g fun c g=>ab PP (.box (.c d)) g fun d g=>ab PP (.box (.c e)) g fun e g=>ab PP (.alloc (.agg [zI,zI,zI,zI,.nil,.nil,.nil])) g fun g h=>ab PP (.alloc .nil) h fun h i=>ab PP (.alloc .nil) i fun i j=>ab PP (.alloc .nil) j fun j k=>ab PP (.alloc zI) k fun k l=>xF c 1 l fun l m=>xL l 1 false m fun l m=>vbin .neq l (.int .i64 1) fun l=>vcond l (yL c 7 true m fun a=>yL d 1 false m fun b=>yL e 1 false m fun c=>xS g a 7 m fun a f=>((yL d 1 false f fun a=>aF [a] [b])/\(yL e 1 false f fun a=>aF [a] [c])/\True)/\xS h b 1 f fun a f=>((yL d 1 false f fun a=>aF [a] [b])/\(yL e 1 false f fun a=>aF [a] [c])/\True)/\xS i c 1 f fun a f=>((yL d 1 false f fun a=>aF [a] [b])/\(yL e 1 false f fun a=>aF [a] [c])/\True)/\ab PP (.st (.c j) (.c .nil) 1) f fun a f=>((yL d 1 false f fun a=>aF [a] [b])/\(yL e 1 false f fun a=>aF [a] [c])/\True)/\xS k (.int .i64 1) 1 f fun a f=>((yL d 1 false f fun a=>aF [a] [b])/\(yL e 1 false f fun a=>aF [a] [c])/\True)/\xL g 7 true f fun a b=>xL h 1 false f fun b c=>xL i 1 false f fun c d=>xL j 1 false f fun d e=>xL k 1 false f fun e g=>K (.tup [a,b,c,d,e]) f) (yL a 8 true m fun l=>yL b 2 true m fun n=>yL c 7 true m fun o=>yL d 1 false m fun p=>yL e 1 false m fun q=>ag PP er [p] m fun m r=>((yL a 8 true r fun a=>aF [a] [l])/\(yL b 2 true r fun a=>aF [a] [n])/\(yL c 7 true r fun a=>aF [a] [o])/\(yL e 1 false r fun a=>aF [a] [q])/\True)/\ag PP er [q] r fun r s=>((yL a 8 true s fun a=>aF [a] [l])/\(yL b 2 true s fun a=>aF [a] [n])/\(yL c 7 true s fun a=>aF [a] [o])/\True)/\ab PP (.mkm (.pair .i64)) s fun s t=>((yL a 8 true t fun a=>aF [a] [l])/\(yL b 2 true t fun a=>aF [a] [n])/\(yL c 7 true t fun a=>aF [a] [o])/\(yL d 1 false t fun a=>aF [a] [p])/\(yL e 1 false t fun a=>aF [a] [q])/\True)/\aq PP (.bld [zI,zI,zI,zI,zI,.nil,.nil,.nil,zI,.nil,zI,zI,zI,zI,.nil,.nil,.nil,.nil,.nil,.nil,.nilmap] [(0,8,(.c l)),(8,2,(.c n)),(10,7,(.c o)),(17,1,(.c m)),(18,1,(.c r)),(20,1,(.c s))]) t fun b=>ab PP (.box (.c b)) t fun b l=>yF c 4 l fun m=>yL m 1 false l fun m=>yF c 6 l fun n=>yL n 1 false l fun o=>yF c 5 l fun p=>yL p 1 false l fun q=>ag PP aS [m] l fun l m=>((yF c 6 m fun a=>aF [a] [n])/\(yL n 1 false m fun a=>aF [a] [o])/\(yF c 5 m fun a=>aF [a] [p])/\(yL p 1 false m fun a=>aF [a] [q])/\True)/\ag PP aS [o] m fun m n=>((yF c 5 n fun a=>aF [a] [p])/\(yL p 1 false n fun a=>aF [a] [q])/\True)/\ag PP er [q] n fun n o=>yF b 0 o fun p=>yF p 10 o fun p=>yF p 4 o fun p=>xS p l 1 o fun l o=>yF b 0 o fun l=>yF l 10 o fun l=>yF l 6 o fun l=>xS l m 1 o fun l m=>yF b 0 m fun l=>yF l 10 m fun l=>yF l 5 m fun l=>xS l n 1 m fun l m=>∃(l:HJ),( ∀(a:Nat->D) (c:Heap),l [] c->yF b 0 c fun a=>yF a 17 c fun d=>yL d 1 false c fun e=>yF b 0 c fun f=>yF f 18 c fun l=>yL l 1 false c fun m=>yF b 0 c fun n=>yF n 19 c fun o=>yL o 1 false c fun p=>ag PP gA [b] c fun c q=>((yF b 0 q fun b=>aF [b] [a])/\(yF a 17 q fun a=>aF [a] [d])/\(yL d 1 false q fun a=>aF [a] [e])/\(yF b 0 q fun a=>aF [a] [f])/\(yF f 18 q fun a=>aF [a] [l])/\(yL l 1 false q fun a=>aF [a] [m])/\(yF b 0 q fun a=>aF [a] [n])/\(yF n 19 q fun a=>aF [a] [o])/\(yL o 1 false q fun a=>aF [a] [p])/\True)/\xS g c 7 q fun c q=>((yF b 0 q fun b=>aF [b] [a])/\(yF a 17 q fun a=>aF [a] [d])/\(yL d 1 false q fun a=>aF [a] [e])/\(yF b 0 q fun a=>aF [a] [f])/\(yF f 18 q fun a=>aF [a] [l])/\(yL l 1 false q fun a=>aF [a] [m])/\(yF b 0 q fun a=>aF [a] [n])/\(yF n 19 q fun a=>aF [a] [o])/\(yL o 1 false q fun a=>aF [a] [p])/\True)/\xS h e 1 q fun a c=>((yF b 0 c fun a=>aF [a] [f])/\(yF f 18 c fun a=>aF [a] [l])/\(yL l 1 false c fun a=>aF [a] [m])/\(yF b 0 c fun a=>aF [a] [n])/\(yF n 19 c fun a=>aF [a] [o])/\(yL o 1 false c fun a=>aF [a] [p])/\True)/\xS i m 1 c fun a c=>((yF b 0 c fun a=>aF [a] [n])/\(yF n 19 c fun a=>aF [a] [o])/\(yL o 1 false c fun a=>aF [a] [p])/\True)/\xS j p 1 c fun a b=>xS k zI 1 b fun a b=>xL g 7 true b fun a c=>xL h 1 false b fun c d=>xL i 1 false b fun d e=>xL j 1 false b fun e f=>xL k 1 false b fun f g=>K (.tup [a,c,d,e,f]) b)/\xF a 7 m fun a m=>xL a 1 false m fun a m=>xF c 2 m fun m n=>xL m 1 false n fun m n=>xI a m 14 n fun a m=>xF a 0 m fun a m=>xL a 1 false m fun a m=>bQ a m fun n=>si m n a c f b d e g h i j k l K)
theorem Fp (a0:D) (a1:D) (a2:D) (a3:D) (a4:D) (a5:D) (h0:Heap) (K:HK):BO a0 a1 a2 a3 a4 a5 h0 K=IT PP Cl K (params [a0,a1,a2,a3,a4,a5] 0) h0:=by kernel_rfl
def nr:TL
 | 1000006=>some ([5,6,7,8,9,10,12],[13])|_=>none
def p9:TT
 | 12=>some ([0,1,3,0,8,0,32,0,128,480,1023,2047],[9,11],[999999])|14=>some ([0,1,3,0,8,24,0,0,0,256,0,1984,4095,8191],[11,13],[999999])|_=>none
noncomputable abbrev kz:=cFn PP true gL nr (cDr PP 63 p9)
noncomputable def kE:aH:=⟨63,aR kz,[.cell 10 11 true]⟩
theorem pt:kz=some kE:=by kernel_rfl
def kr (a:D) (b:D) (c:D) (d:D) (e:D) (f:Heap) (K:HK):Prop :=
 ab PP (.box (.c a)) f fun a f=>ab PP (.box (.c b)) f fun b f=>ab PP (.box (.c c)) f fun c f=>ab PP (.box (.c d)) f fun d f=>ab PP (.box (.c e)) f fun e f=>ab PP (.alloc (.agg [zI,zI,zI,zI,.nil,.nil,.nil,.nil,.nil,.nil,zI])) f fun f g=>xF d 0 g fun g h=>xL g 1 false h fun g h=>∃(i:HJ),( ∀(h:Nat->D) (j:Heap),i [h 13] j->vcond (h 13) (xL a 8 true j fun a b=>xL c 11 true b fun b c=>xL d 15 true c fun c d=>xL e 9 true d fun d e=>ag PP lx [a,b,c,d] e fun a b=>xS f a 11 b fun a b=>xL f 11 true b fun a c=>K a b) (vbin .eql g (.int .i64 10) fun h=>vcond h (xF e 0 j fun a b=>xS a (.int .i64 4) 1 b fun a b=>xF d 1 b fun a b=>xL a 1 false b fun a b=>xF e 1 b fun b d=>xS b a 1 d fun a b=>xF c 9 b fun a b=>xL a 1 false b fun a b=>xL e 9 true b fun b d=>ab PP (.bldS true 9 1 (.agg [zI,zI,zI,zI,zI,zI,zI,zI,zJ]) [(0,(.c b))]) d fun b d=>ab PP (.app (.c a) (.c b) 9 72 (.agg [zI,zI,zI,zI,zI,zI,zI,zI,zJ])) d fun a b=>xF c 9 b fun b d=>xS b a 1 d fun a b=>xL c 11 true b fun a b=>xS f a 11 b fun a b=>xL f 11 true b fun a c=>K a b) (vbin .eql g (.int .i64 12) fun e=>vcond e (yF c 0 j fun a=>yF a 6 j fun b=>yL b 1 false j fun e=>yF d 2 j fun g=>yL g 1 false j fun h=>yF c 0 j fun i=>yL i 7 true j fun i=>yF d 6 j fun k=>yL k 3 true j fun k=>ag PP cn [i,k] j fun i j=>((yF c 0 j fun b=>aF [b] [a])/\(yF a 6 j fun a=>aF [a] [b])/\(yL b 1 false j fun a=>aF [a] [e])/\(yF d 2 j fun a=>aF [a] [g])/\(yL g 1 false j fun a=>aF [a] [h])/\True)/\yI e h 1 j fun a=>xS a i 1 j fun a b=>xL c 11 true b fun a b=>xS f a 11 b fun a b=>xL f 11 true b fun a c=>K a b) (yF c 0 j fun e=>yF e 4 j fun g=>yL g 1 false j fun h=>yF d 3 j fun i=>yF i 1 j fun k=>yL k 1 false j fun l=>yL a 8 true j fun a=>yL b 2 true j fun b=>yF c 0 j fun m=>yL m 7 true j fun m=>yL d 15 true j fun n=>ag PP lv [a,b,m,n] j fun a b=>((yF c 0 b fun a=>aF [a] [e])/\(yF e 4 b fun a=>aF [a] [g])/\(yL g 1 false b fun a=>aF [a] [h])/\(yF d 3 b fun a=>aF [a] [i])/\(yF i 1 b fun a=>aF [a] [k])/\(yL k 1 false b fun a=>aF [a] [l])/\True)/\yI h l 1 b fun d=>xS d a 1 b fun a b=>xL c 11 true b fun a b=>xS f a 11 b fun a b=>xL f 11 true b fun a c=>K a b))))/\vbin .eql g (.int .i64 7) fun j=>vcond j (aF [a,b,c,d,e,f,g] [a,b,c,d,e,f,g]/\i [j] h) (vbin .eql g (.int .i64 8) fun j=>vcond j (aF [a,b,c,d,e,f,g] [a,b,c,d,e,f,g]/\i [j] h) (vbin .eql g (.int .i64 9) fun j=>aF [a,b,c,d,e,f,g] [a,b,c,d,e,f,g]/\i [j] h))
theorem pj (a0:D) (a1:D) (a2:D) (a3:D) (a4:D) (h0:Heap) (K:HK):kr a0 a1 a2 a3 a4 h0 K=dZ kE K [a0,a1,a2,a3,a4] h0:=by kernel_rfl
def xo:TL
 | 1000013=>some ([3,4],[])|_=>none
def Co:TT
 | 11=>some ([0,1,0,4,0,16,48,0,128,384,0,1024,3072,8191,16383],[14],[])|_=>none
noncomputable abbrev uH:=cFn PP true mS xo (cDr PP 54 Co)
noncomputable def u6:aH:=⟨54,aR uH,[.cell 4 7 true]⟩
theorem AZ:uH=some u6:=by kernel_rfl
def uh (a:D) (b:D) (c:Heap) (K:HK):Prop :=
 ab PP (.box (.c a)) c fun a c=>ab PP (.box (.c b)) c fun b c=>ab PP (.alloc (.agg [zI,zI,zI,zI,.nil,.nil,.nil])) c fun c d=>xF a 7 d fun d e=>xL d 1 false e fun d e=>xF b 2 e fun e f=>xL e 1 false f fun e f=>xI d e 14 f fun d e=>xF d 1 e fun d e=>xL d 13 true e fun d e=>ab PP (.alloc (.agg [zI,zI,zI,zI,zJ,zI,zI,zJ,zI,zI,zJ,zI,zI])) e fun e f=>xS e d 13 f fun d f=>∃(d:HJ),( ∀(a:Nat->D) (e:Heap),d [] e->xL b 7 true e fun a b=>xS c a 7 b fun a b=>xL c 7 true b fun a c=>K a b)/\xF e 0 f fun f g=>xL f 1 false g fun f g=>vbin .eql f (.int .i64 1) fun h=>vcond h (xF e 11 g fun a e=>ab PP (.iadda (.c a) (.c zI) 2 1) e fun a e=>xL a 1 false e fun a e=>xF b 2 e fun e f=>xS e a 1 f fun a e=>aF [b,c] [b,c]/\d [] e) (vbin .eql f (.int .i64 2) fun h=>vcond h (xF e 11 g fun a f=>ab PP (.iadda (.c a) (.c (.int .i64 1)) 2 1) f fun a f=>xL a 1 false f fun a f=>xF b 2 f fun f g=>xS f a 1 g fun a f=>xL b 7 true f fun a f=>xF e 5 f fun f g=>xL f 3 true g fun f g=>ag PP cn [a,f] g fun a f=>vbin .neq a zJ fun a=>vcond a (xF e 11 f fun a e=>ab PP (.iadda (.c a) (.c zI) 2 1) e fun a e=>xL a 1 false e fun a e=>xF b 2 e fun e f=>xS e a 1 f fun a e=>aF [b,c] [b,c]/\d [] e) (aF [b,c] [b,c]/\d [] f)) (vbin .eql f (.int .i64 5) fun e=>vcond e (yF b 0 g fun d=>yL d 1 false g fun d=>yF b 3 g fun b=>yL b 1 false g fun b=>yF a 2 g fun e=>yL e 1 false g fun e=>aq PP (.mk 1 4 zJ (.c e) (.c e)) g fun e=>yF a 5 g fun f=>yL f 1 false g fun f=>aq PP (.call fo [(.c f),(.c (.int .i64 3))]) g fun f=>yF a 3 g fun a=>yL a 1 false g fun a=>aq PP (.mk 1 4 zJ (.c a) (.c a)) g fun a=>aq PP (.bld [zI,zI,zI,zI,.nil,.nil,.nil] [(0,1,(.c d)),(1,1,(.c (.int .i64 3))),(3,1,(.c b)),(4,1,(.c e)),(5,1,(.c f)),(6,1,(.c a))]) g fun a=>xS c a 7 g fun a b=>xL c 7 true b fun a c=>K a b) (xF b 1 g fun a e=>xS a (.int .i64 2) 1 e fun a e=>aF [b,c] [b,c]/\d [] e)))
theorem AG (a0:D) (a1:D) (h0:Heap) (K:HK):uh a0 a1 h0 K=dZ u6 K [a0,a1] h0:=by kernel_rfl
def CU:TL
 | 1000009=>some ([4,6],[])|_=>none
def FW:TT
 | 4=>some ([0,1,3,0,8,31,63],[4,6],[1,2])|_=>none
noncomputable abbrev Ca:=cFn PP true qU CU (cDr PP 40 FW)
noncomputable def Cm:aH:=⟨40,aR Ca,[.cell 6 7 true,.t 7]⟩
theorem FH:Ca=some Cm:=by kernel_rfl
def BP (a:D) (b:D) (c:D) (d:Heap) (K:HK):Prop :=
 ab PP (.box (.c a)) d fun a d=>ab PP (.box (.c b)) d fun b d=>ab PP (.alloc (.agg [zI,zI,zI,zI,.nil,.nil,.nil])) d fun d e=>xF b 1 e fun e f=>xL e 1 false f fun e f=>vbin .neq e (.int .i64 2) fun e=>vcond e (xL b 7 true f fun a b=>xS d a 7 b fun a b=>xL d 7 true b fun a c=>K (.tup [a,(.int .i64 1)]) b) (xF a 7 f fun a e=>xL a 1 false e fun a e=>xF b 2 e fun e f=>xL e 1 false f fun e f=>xI a e 14 f fun a e=>xF a 1 e fun a e=>xL a 13 true e fun a e=>ab PP (.alloc (.agg [zI,zI,zI,zI,zJ,zI,zI,zJ,zI,zI,zJ,zI,zI])) e fun e f=>xS e a 13 f fun a f=>yF e 11 f fun a=>aq PP (.iadda (.c a) (.c zI) 2 1) f fun g=>yL g 1 false f fun h=>yF b 1 f fun i=>yF b 2 f fun j=>xS i (.int .i64 1) 1 f fun f i=>((aq PP (.iadda (.c a) (.c zI) 2 1) i fun a=>aF [a] [g])/\(yL g 1 false i fun a=>aF [a] [h])/\True)/\xS j h 1 i fun f i=>((aq PP (.iadda (.c a) (.c zI) 2 1) i fun a=>aF [a] [g])/\(yL g 1 false i fun a=>aF [a] [h])/\True)/\∃(a:HJ),( ∀(c:Nat->D) (e:Heap),a [] e->xL b 7 true e fun a b=>xS d a 7 b fun a b=>xL d 7 true b fun a c=>K (.tup [a,zI]) b)/\xF e 0 i fun f g=>xL f 1 false g fun f g=>vbin .eql f (.int .i64 4) fun f=>vcond f (xF b 4 g fun f g=>xL f 1 false g fun f g=>ag PP aS [f] g fun f g=>xF b 4 g fun g h=>xS g f 1 h fun f g=>xF b 4 g fun f g=>xL f 1 false g fun f g=>xF e 2 g fun e g=>xF e 1 g fun e g=>xL e 1 false g fun e g=>xI f e 1 g fun e f=>xS e c 1 f fun c e=>aF [b,d] [b,d]/\a [] e) (aF [b,d] [b,d]/\a [] g))
theorem Fq (a0:D) (a1:D) (a2:D) (h0:Heap) (K:HK):BP a0 a1 a2 h0 K=dZ Cm K [a0,a1,a2] h0:=by kernel_rfl
def As:TL
 | _=>none
def Er:TT
 | _=>none
noncomputable abbrev yV:=cFn PP true oJ As (cDr PP 23 Er)
noncomputable def zA:aH:=⟨23,aR yV,[.cell 6 7 true,.t 7]⟩
theorem DD:yV=some zA:=by kernel_rfl
def yA (a:D) (b:D) (c:D) (d:Heap) (K:HK):Prop :=
 ab PP (.box (.c a)) d fun a d=>ab PP (.box (.c b)) d fun b d=>ab PP (.alloc (.agg [zI,zI,zI,zI,.nil,.nil,.nil])) d fun d e=>vbin .lss c zI fun f=>vguard f false (fun a=>a c e) e fun e g=>vguard f false (fun a=>xF b 0 g fun b c=>a b c) g fun b g=>vguard f false (fun a=>xL b 1 false g fun b c=>a b c) g fun b g=>vguard f false (fun b=>xF a 0 g fun a c=>b a c) g fun g h=>vguard f false (fun a=>xL g 1 false h fun b c=>a b c) h fun g h=>vguard f false (fun a=>vbin .mul b g fun b=>a b h) h fun b g=>vguard f false (fun a=>vbin .geq e b fun b=>a b g) g fun b e=>ab PP (.pick (.c f) (.c (.bool true)) (.c b)) e fun b e=>vcond b (ab PP (.bld [zI,zI,zI,zI,.nil,.nil,.nil] []) e fun a b=>xS d a 7 b fun a b=>xL d 7 true b fun a c=>K (.tup [a,(.int .i64 1)]) b) (xL a 8 true e fun a b=>ag PP kQ [a,c,zI,(.int .i64 1)] b fun a b=>xS d a 7 b fun a b=>xL d 7 true b fun a c=>K (.tup [a,zI]) b)
theorem Di (a0:D) (a1:D) (a2:D) (h0:Heap) (K:HK):yA a0 a1 a2 h0 K=dZ zA K [a0,a1,a2] h0:=by kernel_rfl
def Ad:TL
 | 1000007=>some ([],[5])|3=>some ([0,1],[5,6])|_=>none
def Ec:TT
 | _=>none
noncomputable abbrev yE:=cFn PP false fo Ad (cDr PP 25 Ec)
noncomputable def zh:aH:=⟨25,aR yE,[.t 4]⟩
theorem Dp:yE=some zh:=by kernel_rfl
def pG (a:D) (b:Heap) (c:D) (d:D) (e:HJ):Prop :=
 ∃(f:Nat->HJ) (g:Nat),f g [a,zI] b/\∀(a:Nat) (b:Nat->D) (g:Heap),f a [b 5,b 6] g->bQ c g fun h=>vbin .lss (b 6) h fun h=>vcond h (xI c (b 6) 4 g fun e g=>xL e 4 true g fun e g=>ag PP jo [e,d] g fun e g=>ab PP (.mk 1 4 zJ (.c e) (.c e)) g fun e g=>ab PP (.bldS false 1 1 .nil [(0,(.c e))]) g fun e g=>ab PP (.app (.c (b 5)) (.c e) 1 24 .nil) g fun e g=>vbin .add (b 6) (.int .i64 1) fun b=>aF [c,d] [c,d]/\∃c,c<a/\f c [e,b] g) (aF [] []/\e [(b 5)] g)
def yf (a:D) (b:D) (c:Heap) (K:HK):Prop :=
 ab PP (.bldS false 1 0 .nil []) c fun c d=>∃(e:HJ),( ∀(a:Nat->D) (b:Heap),e [a 5] b->K (a 5) b)/\pG c d a b e
theorem C4 (a0:D) (a1:D) (h0:Heap) (K:HK):yf a0 a1 h0 K=dZ zh K [a0,a1] h0:=by kernel_rfl
def qi:TL
 | 1000009=>some ([],[])|4=>some ([0,1],[5])|_=>none
def tq:TT
 | 6=>some ([0,0,3,7,0,0,48,112,255],[],[])|_=>none
noncomputable abbrev mH:=cFn PP true iF qi (cDr PP 26 tq)
noncomputable def mO:aH:=⟨26,aR mH,[.t 4]⟩
theorem sO:mH=some mO:=by kernel_rfl
def jK (a:Heap) (b:D) (c:D) (d:HJ) (K:HK):Prop :=
 ∃(e:Nat->HJ) (f:Nat),e f [zI] a/\∀(a:Nat) (f:Nat->D) (g:Heap),e a [f 5] g->bQ b g fun h=>vbin .lss (f 5) h fun h=>vcond h (yI b (f 5) 1 g fun d=>yL d 1 false g fun d=>yI c (f 5) 1 g fun h=>yL h 1 false g fun h=>vbin .neq d h fun d=>vcond d (K (.bool false) g) (vbin .add (f 5) (.int .i64 1) fun d=>aF [b,c] [b,c]/\∃b,b<a/\e b [d] g)) (aF [] []/\d [] g)
def mu (a:D) (b:D) (c:Heap) (K:HK):Prop :=
 bQ a c fun d=>bQ b c fun e=>vbin .neq d e fun d=>vcond d (K (.bool false) c) ( ∃(d:HJ),( ∀(a:Nat->D) (b:Heap),d [] b->K (.bool true) b)/\jK c a b d K)
theorem rV (a0:D) (a1:D) (h0:Heap) (K:HK):mu a0 a1 h0 K=dZ mO K [a0,a1] h0:=by kernel_rfl
def tF:TL
 | _=>none
def wZ:TT
 | _=>none
noncomputable abbrev pW:=cFn PP true fH tF (cDr PP 5 wZ)
noncomputable def p8:aH:=⟨5,aR pW,[.t 2]⟩
theorem wK:pW=some p8:=by kernel_rfl
def pP (a:D) (b:Heap) (K:HK):Prop :=
 vbin .neq a zJ fun a=>K a b
theorem wC (a0:D) (h0:Heap) (K:HK):pP a0 h0 K=dZ p8 K [a0] h0:=by kernel_rfl
def xG:TL
 | _=>none
def CF:TT
 | _=>none
noncomputable abbrev uX:=cFn PP true mZ xG (cDr PP 11 CF)
noncomputable def vC:aH:=⟨11,aR uX,[.t 6]⟩
theorem Bi:uX=some vC:=by kernel_rfl
def uE (a:D) (b:D) (c:D) (d:Heap) (K:HK):Prop :=
 ab PP (.box (.c b)) d fun b d=>ab PP (.mkf gz [] [(.c b)]) d fun b d=>ag PP bB [a,c,b] d fun a b=>K a b
theorem AW (a0:D) (a1:D) (a2:D) (h0:Heap) (K:HK):uE a0 a1 a2 h0 K=dZ vC K [a0,a1,a2] h0:=by kernel_rfl
def iJ:TL
 | 1000010=>some ([0],[3])|3=>some ([0,9,10],[3,11])|1000009=>some ([0,9,10,11],[3])|1000016=>some ([],[6])|11=>some ([25,26],[6,27])|_=>none
def jd:TT
 | _=>none
noncomputable abbrev fL:=cFn PP true bV iJ (cDr PP 36 jd)
noncomputable def fM:aH:=⟨36,aR fL,[.t 2]⟩
theorem iY:fL=some fM:=by kernel_rfl
def cB (a:D) (b:Heap) (c:D) (d:D) (e:HJ):Prop :=
 ∃(f:Nat->HJ) (g:Nat),f g [a,zI] b/\∀(a:Nat) (b:Nat->D) (g:Heap),f a [b 6,b 27] g->vbin .lss (b 27) c fun h=>vcond h (xI d (b 27) 1 g fun e g=>xL e 1 false g fun e g=>ab PP (.app (.c (b 6)) (.c e) 1 4 zJ) g fun e g=>vbin .add (b 27) (.int .i64 1) fun b=>aF [d,c] [d,c]/\∃c,c<a/\f c [e,b] g) (aF [] []/\e [(b 6)] g)
def eL (a:Heap) (b:D) (c:D) (d:HJ):Prop :=
 ∃(e:Nat->HJ) (f:Nat),e f [zI,zI] a/\∀(a:Nat) (f:Nat->D) (g:Heap),e a [f 3,f 11] g->vbin .lss (f 11) b fun h=>vcond h ( ∃(d:HJ),( ∀(g:Nat->D) (h:Heap),d [g 3] h->vbin .add (f 11) (.int .i64 1) fun d=>aF [c,c,b] [c,c,b]/\∃b,b<a/\e b [(g 3),d] h)/\xI c (f 11) 1 g fun a e=>xL a 1 false e fun a e=>bQ a e fun a=>vbin .add (f 3) a fun a=>vbin .lss a zI fun g=>vcond g (ab PP (.dead) e fun e g=>ab PP (.dead) g fun e g=>aF [c,c,b,(f 11)] [c,c,b,(f 11)]/\d [a] g) (aF [c,c,b,(f 11)] [c,c,b,(f 11)]/\d [a] e)) (aF [c] [c]/\d [(f 3)] g)
def fK (a:D) (b:Heap) (K:HK):Prop :=
 ∃(c:HJ),( ∀(b:Nat->D) (d:Heap),c [b 3] d->ag PP dF [.nil,(b 3)] d fun b c=>∃(d:HJ),( ∀(a:Nat->D) (b:Heap),d [a 6] b->K (a 6) b)/\bQ a c fun e=>cB b c e a d)/\bQ a b fun d=>eL b d a c
theorem iX (a0:D) (h0:Heap) (K:HK):fK a0 h0 K=dZ fM K [a0] h0:=by kernel_rfl
def gh:TL
 | _=>none
def gJ:TT
 | _=>none
noncomputable abbrev dQ:=cFn PP true bG gh (cDr PP 9 gJ)
noncomputable def dU:aH:=⟨9,aR dQ,[.t 4]⟩
theorem gF:dQ=some dU:=by kernel_rfl
def dN (a:D) (b:D) (c:Heap) (K:HK):Prop :=
 ag PP eJ [a,b] c fun a b=>vbin .geq a zI fun a=>K a b
theorem gC (a0:D) (a1:D) (h0:Heap) (K:HK):dN a0 a1 h0 K=dZ dU K [a0,a1] h0:=by kernel_rfl
def Ag:TL
 | 1000009=>some ([],[])|4=>some ([0,1,2],[7])|_=>none
def Ef:TT
 | 6=>some ([0,0,3,7,15,0,0,96,224,0,992,2047],[],[])|_=>none
noncomputable abbrev yJ:=cFn PP true oF Ag (cDr PP 31 Ef)
noncomputable def zm:aH:=⟨31,aR yJ,[.t 6]⟩
theorem Ds:yJ=some zm:=by kernel_rfl
def pI (a:Heap) (b:D) (c:D) (d:D) (e:HJ) (K:HK):Prop :=
 ∃(f:Nat->HJ) (g:Nat),f g [zI] a/\∀(a:Nat) (g:Nat->D) (h:Heap),f a [g 7] h->bQ b h fun i=>vbin .lss (g 7) i fun i=>vcond i (yI c (g 7) 1 h fun e=>yL e 1 false h fun e=>bQ e h fun e=>yI b (g 7) 4 h fun i=>yL i 4 true h fun i=>aq PP (.call jo [(.c i),(.c d)]) h fun i=>vbin .neq e i fun e=>vcond e (K (.bool false) h) (vbin .add (g 7) (.int .i64 1) fun e=>aF [b,d,c] [b,d,c]/\∃b,b<a/\f b [e] h)) (aF [] []/\e [] h)
def yk (a:D) (b:D) (c:D) (d:Heap) (K:HK):Prop :=
 bQ c d fun e=>bQ a d fun f=>vbin .neq e f fun e=>vcond e (K (.bool false) d) ( ∃(e:HJ),( ∀(a:Nat->D) (b:Heap),e [] b->K (.bool true) b)/\pI d a c b e K)
theorem C7 (a0:D) (a1:D) (a2:D) (h0:Heap) (K:HK):yk a0 a1 a2 h0 K=dZ zm K [a0,a1,a2] h0:=by kernel_rfl
def xn:TL
 | 1000007=>some ([],[])|2=>some ([0],[3])|_=>none
def Cn:TT
 | _=>none
noncomputable abbrev uG:=cFn PP true gN xn (cDr PP 15 Cn)
noncomputable def uZ:aH:=⟨15,aR uG,[.t 2]⟩
theorem AY:uG=some uZ:=by kernel_rfl
def nE (a:Heap) (b:D) (c:HJ) (K:HK):Prop :=
 ∃(d:Nat->HJ) (e:Nat),d e [zI] a/\∀(a:Nat) (e:Nat->D) (f:Heap),d a [e 3] f->bQ b f fun g=>vbin .lss (e 3) g fun g=>vcond g (xI b (e 3) 1 f fun c f=>xL c 1 false f fun c f=>vbin .neq c zJ fun c=>vcond c (K (.bool false) f) (vbin .add (e 3) (.int .i64 1) fun c=>aF [b] [b]/\∃b,b<a/\d b [c] f)) (aF [] []/\c [] f)
def ug (a:D) (b:Heap) (K:HK):Prop :=
 ∃(c:HJ),( ∀(a:Nat->D) (b:Heap),c [] b->K (.bool true) b)/\nE b a c K
theorem AF (a0:D) (h0:Heap) (K:HK):ug a0 h0 K=dZ uZ K [a0] h0:=by kernel_rfl
def xp:TL
 | 1000007=>some ([],[])|2=>some ([0],[3])|_=>none
def Cq:TT
 | _=>none
noncomputable abbrev uI:=cFn PP true mT xp (cDr PP 16 Cq)
noncomputable def u9:aH:=⟨16,aR uI,[.t 2]⟩
theorem A0:uI=some u9:=by kernel_rfl
def nF (a:Heap) (b:D) (c:HJ) (K:HK):Prop :=
 ∃(d:Nat->HJ) (e:Nat),d e [zI] a/\∀(a:Nat) (e:Nat->D) (f:Heap),d a [e 3] f->bQ b f fun g=>vbin .lss (e 3) g fun g=>vcond g (xI b (e 3) 1 f fun c f=>xL c 1 false f fun c f=>ag PP gN [c] f fun c f=>vun .not c fun c=>vcond c (K (.bool false) f) (vbin .add (e 3) (.int .i64 1) fun c=>aF [b] [b]/\∃b,b<a/\d b [c] f)) (aF [] []/\c [] f)
def ui (a:D) (b:Heap) (K:HK):Prop :=
 ∃(c:HJ),( ∀(a:Nat->D) (b:Heap),c [] b->K (.bool true) b)/\nF b a c K
theorem AH (a0:D) (h0:Heap) (K:HK):ui a0 h0 K=dZ u9 K [a0] h0:=by kernel_rfl
def xB:TL
 | _=>none
def CB:TT
 | _=>none
noncomputable abbrev uT:=cFn PP true jq xB (cDr PP 47 CB)
noncomputable def vv:aH:=⟨47,aR uT,[.cell 6 2 true]⟩
theorem Be:uT=some vv:=by kernel_rfl
def uA (a:D) (b:D) (c:D) (d:Heap) (K:HK):Prop :=
 ab PP (.alloc (.agg [zJ,zI])) d fun d e=>vbin .lss a (.int .i64 10) fun f=>vguard f false (fun b=>b a e) e fun e g=>vguard f false (fun a=>vbin .gtr e (.int .i64 29) fun b=>a b g) g fun e g=>ab PP (.pick (.c f) (.c (.bool true)) (.c e)) g fun e f=>vcond e (ab PP (.bld [zJ,zI] [(1,1,(.c (.int .i64 1)))]) f fun a b=>xS d a 2 b fun a b=>xL d 2 true b fun a c=>K a b) (vbin .geq a (.int .i64 24) fun e=>vcond e (ab PP (.conv .i64 (.c b)) f fun b e=>ab PP (.conv .i64 (.c c)) e fun c e=>ag PP jf [a,b,c] e fun a b=>ag PP gO [a] b fun a b=>ab PP (.bld [zJ,zI] [(0,1,(.c a))]) b fun a b=>xS d a 2 b fun a b=>xL d 2 true b fun a c=>K a b) (vbin .eql a (.int .i64 17) fun e=>vguard e false (fun b=>b a f) f fun f g=>vguard e false (fun a=>vbin .eql f (.int .i64 18) fun b=>a b g) g fun f g=>ab PP (.pick (.c e) (.c (.bool true)) (.c f)) g fun e f=>vguard e false (fun b=>b a f) f fun f g=>vguard e false (fun a=>vbin .eql f (.int .i64 19) fun b=>a b g) g fun f g=>ab PP (.pick (.c e) (.c (.bool true)) (.c f)) g fun e f=>vcond e (ag PP kO [a,b,c] f fun a b=>ab PP (.bld [zJ,zI] [(0,1,(.c a))]) b fun a b=>xS d a 2 b fun a b=>xL d 2 true b fun a c=>K a b) (ab PP (.conv .i64 (.c b)) f fun b e=>ab PP (.conv .i64 (.c c)) e fun c e=>ag PP mW [a,b,c] e fun a b=>ag PP cN [a] b fun a b=>ab PP (.bld [zJ,zI] [(0,1,(.c a))]) b fun a b=>xS d a 2 b fun a b=>xL d 2 true b fun a c=>K a b)))
theorem AS (a0:D) (a1:D) (a2:D) (h0:Heap) (K:HK):uA a0 a1 a2 h0 K=dZ vv K [a0,a1,a2] h0:=by kernel_rfl
def oQ:TL
 | _=>none
def qF:TT
 | 2=>some ([0,1,3,7,0,16,48,112,240,511],[],[])|4=>some ([0,1,3,7,0,16,48,112,240,511,1023,2047,4095],[],[])|_=>none
noncomputable abbrev lP:=cFn PP true ak oQ (cDr PP 32 qF)
noncomputable def lU:aH:=⟨32,aR lP,[.t 2]⟩
theorem qv:lP=some lU:=by kernel_rfl
def lK (a:D) (b:Heap) (K:HK):Prop :=
 xF a 0 b fun b c=>xF b 1 c fun b c=>xL b 1 false c fun b c=>vbin .add b (.int .i64 1) fun b=>xF a 0 c fun c d=>xF c 1 d fun c d=>xS c b 1 d fun b c=>yF a 0 c fun b=>yF b 1 c fun b=>yL b 1 false c fun b=>yF a 0 c fun d=>yF d 0 c fun d=>yL d 1 false c fun d=>bQ d c fun d=>vbin .gtr b d fun b=>vcond b (K zI c) (yF a 0 c fun b=>yF b 0 c fun b=>yL b 1 false c fun b=>yF a 0 c fun a=>yF a 1 c fun a=>yL a 1 false c fun a=>vbin .sub a (.int .i64 1) fun a=>yI b a 1 c fun a=>yL a 1 false c fun a=>aq PP (.conv .i64 (.c a)) c fun a=>K a c)
theorem qo (a0:D) (h0:Heap) (K:HK):lK a0 h0 K=dZ lU K [a0] h0:=by kernel_rfl
def wg:TL
 | _=>none
def zQ:TT
 | _=>none
noncomputable abbrev sB:=cFn PP true lD wg (cDr PP 7 zQ)
noncomputable def sS:aH:=⟨7,aR sB,[.t 0]⟩
theorem zo:sB=some sS:=by kernel_rfl
def rY (a:Heap) (K:HK):Prop :=
 ab PP (.bld [(.str ⟨#[]⟩),zI,zI,zI] [(0,1,(.c (.str ⟨#[97]⟩))),(1,1,(.c (.int .i64 1))),(2,1,(.c (.int .i64 1))),(3,1,(.c (.int .i64 8)))]) a fun a b=>ab PP (.bld [(.str ⟨#[]⟩),zI,zI,zI] [(0,1,(.c (.str ⟨#[102]⟩))),(1,1,(.c (.int .i64 1))),(2,1,(.c (.int .i64 2))),(3,1,(.c (.int .i64 4)))]) b fun b c=>ab PP (.bld [(.str ⟨#[]⟩),zI,zI,zI] [(0,1,(.c (.str ⟨#[115]⟩))),(1,1,(.c (.int .i64 2))),(2,1,(.c (.int .i64 1))),(3,1,(.c (.int .i64 8)))]) c fun c d=>ab PP (.bld [(.str ⟨#[]⟩),zI,zI,zI] [(0,1,(.c (.str ⟨#[112]⟩))),(1,1,(.c (.int .i64 3))),(2,1,(.c (.int .i64 1))),(3,1,(.c (.int .i64 4)))]) d fun d e=>ab PP (.bld [(.str ⟨#[]⟩),zI,zI,zI] [(0,1,(.c (.str ⟨#[98]⟩))),(1,1,(.c (.int .i64 2))),(2,1,(.c (.int .i64 3))),(3,1,(.c (.int .i64 4)))]) e fun e f=>ab PP (.bldS true 4 5 (.agg [(.str ⟨#[]⟩),zI,zI,zI]) [(0,(.c a)),(1,(.c b)),(2,(.c c)),(3,(.c d)),(4,(.c e))]) f fun a b=>K a b
theorem yn (h0:Heap) (K:HK):rY h0 K=dZ sS K [] h0:=by kernel_rfl
def m4:TL
 | 1000012=>some ([0],[])|4=>some ([0,5],[6])|1000011=>some ([0,5,6],[])|_=>none
def ow:TT
 | 9=>some ([0,1,3,7,15,0,0,64,0,256,0,1216,0,0,12288,31936,65472,0,131072,0,527552,0,0,6291456,16256192,33426624,67108800,134217664,268435455,536870911,1073741823],[7,11,20,30],[999999])|_=>none
noncomputable abbrev jL:=cFn PP true eo m4 (cDr PP 77 ow)
noncomputable def jO:aH:=⟨77,aR jL,[]⟩
theorem nY:jL=some jO:=by kernel_rfl
def iu (a:D) (b:Heap) (c:D) (d:D) (e:HJ):Prop :=
 ∃(f:Nat->HJ) (g:Nat),f g [a] b/\∀(a:Nat) (b:Nat->D) (g:Heap),f a [b 6] g->vbin .lss (b 6) c fun h=>vcond h (ag PP ct [d] g fun e g=>xF d 0 g fun e g=>xF e 2 g fun e g=>xF e 7 g fun e g=>xL e 1 false g fun e g=>vbin .add (b 6) (.int .i64 1) fun h=>ab PP (.bld [zI,zI] [(0,1,(.c h)),(1,1,(.c zI))]) g fun g h=>ab PP (.bld [zI,zI,zI,zI,zJ,zI,zI,zJ,zI,zI,zJ,zI,zI] [(0,1,(.c (.int .i64 1))),(11,2,(.c g))]) h fun g h=>xI e (b 6) 14 h fun e h=>xF e 1 h fun e h=>xS e g 13 h fun e g=>∃(e:HJ),( ∀(g:Nat->D) (h:Heap),e [] h->ag PP bh [d] h fun e g=>vbin .add (b 6) (.int .i64 1) fun b=>aF [d,c] [d,c]/\∃c,c<a/\f c [b] g)/\ag PP ak [d] g fun a f=>vbin .rem a (.int .i64 2) fun a=>vbin .eql a zI fun a=>vcond a (yF d 0 f fun a=>yF a 2 f fun g=>yF g 7 f fun h=>yL h 1 false f fun i=>vbin .add (b 6) (.int .i64 1) fun j=>vbin .sub c (b 6) fun k=>vbin .add (b 6) (.int .i64 1) fun l=>vbin .sub c (b 6) fun m=>ag PP bg [d] f fun f n=>((yF d 0 n fun b=>aF [b] [a])/\(yF a 2 n fun a=>aF [a] [g])/\(yF g 7 n fun a=>aF [a] [h])/\(yL h 1 false n fun a=>aF [a] [i])/\True)/\ag PP ak [d] n fun n o=>((yF d 0 o fun b=>aF [b] [a])/\(yF a 2 o fun a=>aF [a] [g])/\(yF g 7 o fun a=>aF [a] [h])/\(yL h 1 false o fun a=>aF [a] [i])/\True)/\vbin .rem n k fun k=>vbin .add j k fun j=>ag PP ak [d] o fun k n=>((yF d 0 n fun b=>aF [b] [a])/\(yF a 2 n fun a=>aF [a] [g])/\(yF g 7 n fun a=>aF [a] [h])/\(yL h 1 false n fun a=>aF [a] [i])/\True)/\vbin .rem k m fun a=>vbin .add l a fun a=>aq PP (.bld [zI,zI] [(0,1,(.c j)),(1,1,(.c a))]) n fun a=>aq PP (.bld [zI,zI,zI,zI,zJ,zI,zI,zJ,zI,zI,zJ,zI,zI] [(0,1,(.c (.int .i64 2))),(5,3,(.c f)),(11,2,(.c a))]) n fun a=>yI i (b 6) 14 n fun f=>yF f 1 n fun f=>xS f a 13 n fun a f=>aF [d,c,(b 6)] [d,c,(b 6)]/\e [] f) (aF [d,c,(b 6)] [d,c,(b 6)]/\e [] f)) (aF [d] [d]/\e [] g)
def jI (a:D) (b:D) (c:Heap) (K:HK):Prop :=
 ag PP bh [a] c fun c d=>xF a 0 d fun c d=>xF c 2 d fun c d=>xF c 7 d fun c d=>xL c 1 false d fun c d=>bQ c d fun c=>vbin .sub c (.int .i64 1) fun c=>vbin .add c b fun b=>∃(e:HJ),( ∀(b:Nat->D) (c:Heap),e [] c->ag PP ct [a] c fun a b=>K (.tup []) b)/\iu c d b a e
theorem nH (a0:D) (a1:D) (h0:Heap) (K:HK):jI a0 a1 h0 K=dZ jO K [a0,a1] h0:=by kernel_rfl
end Go.Am
namespace Go.Am
open Go Go.Proofs
def oT:TL
 | 1000008=>some ([],[0,2,3,4])|1000016=>some ([],[0,4,119])|_=>none
def qG:TT
 | 9=>some ([0,1,3,7,15,0,0,64,192,0,512,0,2048,7680,16320,32767,65535,131071],[17],[])|15=>some ([0,1,3,7,15,0,32,0,128,0,0,1024,3584,8064,16383,32767,65535],[8,16],[999999])|_=>none
noncomputable abbrev lQ:=cFn PP true dJ oT (cDr PP 136 qG)
noncomputable def lV:aH:=⟨136,aR lQ,[]⟩
theorem qw:lQ=some lV:=by kernel_rfl
def nw:TL
 | _=>none
def qd:TT
 | _=>none
noncomputable abbrev kC:=cFn PP true bh nw (cDr PP 14 qd)
noncomputable def kH:aH:=⟨14,aR kC,[]⟩
theorem pC:kC=some kH:=by kernel_rfl
def ky (a:D) (b:Heap) (K:HK):Prop :=
 xF a 0 b fun b c=>xF b 2 c fun b c=>xF b 7 c fun b c=>xL b 1 false c fun b c=>ab PP (.bld [.nil,zI,zI,zI,zI,zJ,zI,zI,zJ,zI,zI,zJ,zI,zI] []) c fun c d=>ab PP (.bldS true 14 1 (.agg [.nil,zI,zI,zI,zI,zJ,zI,zI,zJ,zI,zI,zJ,zI,zI]) [(0,(.c c))]) d fun c d=>ab PP (.app (.c b) (.c c) 14 128 (.agg [.nil,zI,zI,zI,zI,zJ,zI,zI,zJ,zI,zI,zJ,zI,zI])) d fun b c=>xF a 0 c fun a c=>xF a 2 c fun a c=>xF a 7 c fun a c=>xS a b 1 c fun a b=>K (.tup []) b
theorem po (a0:D) (h0:Heap) (K:HK):ky a0 h0 K=dZ kH K [a0] h0:=by kernel_rfl
def qg:TL
 | _=>none
def tk:TT
 | _=>none
noncomputable abbrev mF:=cFn PP true bg qg (cDr PP 7 tk)
noncomputable def mM:aH:=⟨7,aR mF,[.cell 2 3 true]⟩
theorem jP:mF=some mM:=by kernel_rfl
def iR (a:D) (b:Heap) (K:HK):Prop :=
 ab PP (.alloc (.agg [zI,zI,zJ])) b fun b c=>ag PP ak [a] c fun a c=>vbin .rem a (.int .i64 6) fun a=>ag PP dp [a] c fun a c=>xS b a 3 c fun a c=>xL b 3 true c fun a b=>K a c
theorem jJ (a0:D) (h0:Heap) (K:HK):iR a0 h0 K=dZ mM K [a0] h0:=by kernel_rfl
def qf:TL
 | _=>none
def tj:TT
 | _=>none
noncomputable abbrev mE:=cFn PP true aY qf (cDr PP 18 tj)
noncomputable def mL:aH:=⟨18,aR mE,[.cell 2 3 true]⟩
theorem jN:mE=some mL:=by kernel_rfl
def iQ (a:D) (b:Heap) (K:HK):Prop :=
 ab PP (.alloc (.agg [zI,zI,zJ])) b fun b c=>ag PP ak [a] c fun a c=>vbin .rem a (.int .i64 3) fun d=>vbin .eql d zI fun d=>vcond d (vbin .quo a (.int .i64 3) fun a=>ab PP (.conv .i32 (.c a)) c fun a c=>vbin .sub a (.int .i32 20) fun a=>ag PP eD [a] c fun a c=>xS b a 3 c fun a c=>xL b 3 true c fun a b=>K a c) (vbin .quo a (.int .i64 3) fun a=>vbin .rem a (.int .i64 6) fun a=>ag PP dp [a] c fun a c=>xS b a 3 c fun a c=>xL b 3 true c fun a b=>K a c)
theorem jH (a0:D) (h0:Heap) (K:HK):iQ a0 h0 K=dZ mL K [a0] h0:=by kernel_rfl
def nv:TL
 | 1=>some ([0],[2])|_=>none
def qc:TT
 | _=>none
noncomputable abbrev kB:=cFn PP true ct nv (cDr PP 12 qc)
noncomputable def kG:aH:=⟨12,aR kB,[]⟩
theorem pB:kB=some kG:=by kernel_rfl
def iT (a:D) (b:Heap) (c:D) (K:HK):Prop :=
 ∃(d:Nat->HJ) (e:Nat),d e [a] b/\∀(a:Nat) (b:Nat->D) (e:Heap),d a [b 2] e->vbin .gtr (b 2) zI fun f=>vcond f (ag PP hU [c] e fun e f=>vbin .sub (b 2) (.int .i64 1) fun b=>aF [c] [c]/\∃c,c<a/\d c [b] f) (K (.tup []) e)
def kx (a:D) (b:Heap) (K:HK):Prop :=
 ag PP ak [a] b fun b c=>vbin .rem b (.int .i64 5) fun b=>iT b c a K
theorem pn (a0:D) (h0:Heap) (K:HK):kx a0 h0 K=dZ kG K [a0] h0:=by kernel_rfl
def Ao:TL
 | _=>none
def Em:TT
 | _=>none
noncomputable abbrev yR:=cFn PP true er Ao (cDr PP 11 Em)
noncomputable def zw:aH:=⟨11,aR yR,[.t 2]⟩
theorem Dz:yR=some zw:=by kernel_rfl
def yw (a:D) (b:Heap) (K:HK):Prop :=
 bQ a b fun c=>ab PP (.mk 1 24 .nil (.c c) (.c c)) b fun b c=>ab PP (.cpy (.c b) (.c a) 1) c fun a c=>K b c
theorem De (a0:D) (h0:Heap) (K:HK):yw a0 h0 K=dZ zw K [a0] h0:=by kernel_rfl
def iV:TL
 | _=>none
def jy:TT
 | _=>none
noncomputable abbrev fW:=cFn PP true aS iV (cDr PP 8 jy)
noncomputable def fX:aH:=⟨8,aR fW,[.t 2]⟩
theorem eX:fW=some fX:=by kernel_rfl
def dn (a:D) (b:Heap) (K:HK):Prop :=
 ab PP (.nilq false (.c a)) b fun b c=>vcond b (K .nil c) (ab PP (.bldS true 1 0 zJ []) c fun b c=>ab PP (.app (.c b) (.c a) 1 4 zJ) c fun a b=>K a b)
theorem eW (a0:D) (h0:Heap) (K:HK):dn a0 h0 K=dZ fX K [a0] h0:=by kernel_rfl
def xH:TL
 | 1000027=>some ([0,4],[8])|1000012=>some ([0,4,5,6,7,25],[50])|1000018=>some ([0,4,5,6],[9])|8000006=>some ([1],[])|8000011=>some ([1],[])|_=>none
def CG:TT
 | 1=>some ([0,1,3,7,0,16,63,0,128,384,896,0,2048,8191,16383,32767],[6,13],[999999])|7=>some ([0,1,0,4,0,0,32,99,227,495,1007,2047,4095],[6,8,10,12],[1])|12=>some ([0,1,0,4,0,0,32,99,227,495,1007,2047,4095],[6,8,10,12],[1])|15=>some ([0,1,0,4,15,31],[3,5],[1])|16=>some ([0,1,0,0,8,0,60,0,255,511,1023,1023,2047],[6],[999999])|20=>some ([0,1,0,4,15,31],[3,5],[1])|23=>some ([0,1,3,7,15,0,32,0,255,511],[9],[])|25=>some ([0,1,3,7,15,0,32,127,255,511],[],[])|26=>some ([0,1,3,7,15,0,32,96,0,511,1023],[10],[])|_=>none
noncomputable abbrev uY:=cFn PP true js xH (cDr PP 137 CG)
noncomputable def m9:aH:=⟨137,aR uY,[]⟩
theorem Bj:uY=some m9:=by kernel_rfl
def uF (a:D) (b:D) (c:D) (d:Heap) (K:HK) (KP:Heap->Prop):Prop :=
 ab PP (.box (.c b)) d fun b d=>ab PP (.box (.c c)) d fun c d=>yF a 0 d fun e=>yF e 10 d fun e=>yL e 7 true d fun e=>yF b 6 d fun f=>yL f 3 true d fun f=>yF a 0 d fun g=>yF g 10 d fun h=>yL h 7 true d fun i=>yF b 9 d fun j=>yL j 3 true d fun k=>ag PP cP [e,f] d fun d e=>((yF a 0 e fun a=>aF [a] [g])/\(yF g 10 e fun a=>aF [a] [h])/\(yL h 7 true e fun a=>aF [a] [i])/\(yF b 9 e fun a=>aF [a] [j])/\(yL j 3 true e fun a=>aF [a] [k])/\True)/\ag PP cP [i,k] e fun e f=>∃(g:HJ),( ∀(c:Nat->D) (d:Heap),g [c 8] d->yF a 0 d fun a=>yF a 10 d fun a=>yF a 4 d fun a=>yL a 1 false d fun a=>yF b 3 d fun b=>yF b 1 d fun b=>yL b 1 false d fun b=>yI a b 1 d fun a=>xS a (c 8) 1 d fun a b=>K (.tup []) b)/\xF b 0 f fun f h=>xL f 1 false h fun f h=>vbin .eql f (.int .i64 7) fun i=>vcond i (xF b 2 h fun e f=>xL e 1 false f fun e f=>IS PP fF [a,e,d] f (fun a=>KP a) fun e f=>yF b 2 f fun h=>yL h 1 false f fun i=>aq PP (.conv .i64 (.c d)) f fun d=>yF c 0 f fun j=>yF c 6 f fun k=>yF c 7 f fun l=>yF c 8 f fun m=>xS j (.int .i64 1) 1 f fun f j=>((yL h 1 false j fun a=>aF [a] [i])/\True)/\xS k i 1 j fun f j=>((yL h 1 false j fun a=>aF [a] [i])/\True)/\xS l d 1 j fun d f=>((yL h 1 false f fun a=>aF [a] [i])/\True)/\xS m e 1 f fun d f=>((yL h 1 false f fun a=>aF [a] [i])/\True)/\xL c 9 true f fun c d=>ag PP fG [a,c] d fun c d=>aF [a,b] [a,b]/\g [e] d) ( ∃(i:HJ),( ∀(h:Nat->D) (j:Heap),i [h 50] j->vcond (h 50) (xF b 2 j fun f g=>xL f 1 false g fun f g=>IS PP fF [a,f,d] g (fun a=>KP a) fun f g=>yF b 2 g fun f=>yL f 1 false g fun h=>aq PP (.conv .i64 (.c d)) g fun i=>yF c 0 g fun j=>yF c 6 g fun k=>yF c 7 g fun l=>yF c 8 g fun m=>xS j (.int .i64 2) 1 g fun g j=>((yL f 1 false j fun a=>aF [a] [h])/\True)/\xS k h 1 j fun g j=>((yL f 1 false j fun a=>aF [a] [h])/\True)/\xS l i 1 j fun g i=>((yL f 1 false i fun a=>aF [a] [h])/\True)/\xS m e 1 i fun g i=>((yL f 1 false i fun a=>aF [a] [h])/\True)/\∃(f:HJ),( ∀(e:Nat->D) (g:Heap),f [e 9] g->xF b 2 g fun b f=>xL b 1 false f fun b f=>ag PP jh [a,b,d,(e 9)] f fun b d=>xL c 9 true d fun b c=>ag PP fG [a,b] c fun a b=>K (.tup []) b)/\xF b 0 i fun g h=>xL g 1 false h fun g h=>vbin .eql g (.int .i64 9) fun g=>vcond g (yF b 1 h fun g=>yL g 1 false h fun i=>yF c 0 h fun j=>yF c 1 h fun k=>xS j (.int .i64 3) 1 h fun h j=>((yL g 1 false j fun a=>aF [a] [i])/\True)/\xS k i 1 j fun h j=>((yL g 1 false j fun a=>aF [a] [i])/\True)/\yF b 1 j fun g=>yL g 1 false j fun h=>yF b 2 j fun i=>yL i 1 false j fun i=>ag PP fF [a,i,d] j fun i j=>((yF b 1 j fun a=>aF [a] [g])/\(yL g 1 false j fun a=>aF [a] [h])/\True)/\aq PP (.call kM [(.c h),(.c i),(.c e)]) j fun e=>aq PP (.ext (.c e) 0) j fun g=>aq PP (.ext (.c e) 1) j fun e=>aF [a,b,c,d] [a,b,c,d]/\f [g] j) (aF [a,b,c,d] [a,b,c,d]/\f [e] h)) (vbin .eql f (.int .i64 10) fun h=>vcond h (yF b 1 j fun b=>yL b 1 false j fun d=>yF c 0 j fun e=>yF c 1 j fun f=>xS e (.int .i64 4) 1 j fun e g=>((yL b 1 false g fun a=>aF [a] [d])/\True)/\xS f d 1 g fun e f=>((yL b 1 false f fun a=>aF [a] [d])/\True)/\xL c 9 true f fun b c=>ag PP fG [a,b] c fun a b=>K (.tup []) b) (vbin .eql f (.int .i64 12) fun c=>vcond c (yF a 0 j fun a=>yF a 10 j fun a=>yF a 6 j fun a=>yL a 1 false j fun a=>yF b 2 j fun b=>yL b 1 false j fun b=>yI a b 1 j fun a=>xS a d 1 j fun a b=>K (.tup []) b) (vbin .eql f (.int .i64 11) fun c=>vcond c (yF a 0 j fun c=>yF c 10 j fun c=>yF c 6 j fun c=>yL c 1 false j fun c=>yF b 2 j fun d=>yL d 1 false j fun d=>yI c d 1 j fun c=>yL c 1 false j fun c=>aF [a,b] [a,b]/\g [c] j) (xL b 15 true j fun c f=>ag PP jT [a,c,d,e] f fun c d=>aF [a,b] [a,b]/\g [c] d)))))/\vbin .eql f (.int .i64 8) fun g=>vcond g (aF [a,b,c,d,e,f] [a,b,c,d,e,f]/\i [g] h) (vbin .eql f (.int .i64 9) fun g=>aF [a,b,c,d,e,f] [a,b,c,d,e,f]/\i [g] h))
theorem AX (a0:D) (a1:D) (a2:D) (h0:Heap) (K:HK) (KP:Heap->Prop):uF a0 a1 a2 h0 K KP=vcC PP m9.code (fun x e h'=>match x with|.exit _=>False|.pan=>KP h'|_=>iB PP m9.res K e h') (params [a0,a1,a2] 0) h0:=by kernel_rfl
def rf:TL
 | 1000013=>some ([0,2],[])|_=>none
def vM:TT
 | 1=>some ([0,1,3,7,15,0,32,96,224,480,1023,2047,4095,0,16383],[13,14],[])|7=>some ([0,1,3,7,0,16,63,127],[6],[999999])|11=>some ([0,1,3,7,0,16,48,112,240,0,512,1536,3584,7680,16383,32767],[15],[])|_=>none
noncomputable abbrev nV:=cFn PP true gA rf (cDr PP 77 vM)
noncomputable def oh:aH:=⟨77,aR nV,[.cell 2 7 true]⟩
theorem tU:nV=some oh:=by kernel_rfl
def nO (a:D) (b:Heap) (K:HK):Prop :=
 ab PP (.alloc (.agg [zI,zI,zI,zI,.nil,.nil,.nil])) b fun b c=>yF a 0 c fun d=>yF d 0 c fun d=>yF d 7 c fun d=>yL d 1 false c fun d=>yF a 0 c fun e=>yF e 10 c fun e=>yF e 2 c fun e=>yL e 1 false c fun e=>yI d e 14 c fun d=>yF d 1 c fun d=>yL d 13 true c fun d=>ab PP (.alloc (.agg [zI,zI,zI,zI,zJ,zI,zI,zJ,zI,zI,zJ,zI,zI])) c fun c e=>xS c d 13 e fun d e=>∃(d:HJ),( ∀(c:Nat->D) (e:Heap),d [] e->xF a 0 e fun a c=>xF a 10 c fun a c=>xL a 7 true c fun a c=>xS b a 7 c fun a c=>xL b 7 true c fun a b=>K a c)/\xF c 0 e fun e f=>xL e 1 false f fun e f=>vbin .eql e (.int .i64 1) fun g=>vcond g (xF c 11 f fun c e=>ab PP (.iadda (.c c) (.c zI) 2 1) e fun c e=>xL c 1 false e fun c e=>xF a 0 e fun e f=>xF e 10 f fun e f=>xF e 2 f fun e f=>xS e c 1 f fun c e=>aF [a,b] [a,b]/\d [] e) (vbin .eql e (.int .i64 2) fun g=>vcond g (yF a 0 f fun e=>yF e 10 f fun e=>yL e 7 true f fun e=>yF c 5 f fun g=>yL g 3 true f fun g=>ag PP cP [e,g] f fun e f=>vbin .neq e zJ fun e=>vcond e (xF c 11 f fun c e=>ab PP (.iadda (.c c) (.c zI) 2 1) e fun c e=>xL c 1 false e fun c e=>xF a 0 e fun e f=>xF e 10 f fun e f=>xF e 2 f fun e f=>xS e c 1 f fun c e=>aF [a,b] [a,b]/\d [] e) (xF c 11 f fun c e=>ab PP (.iadda (.c c) (.c (.int .i64 1)) 2 1) e fun c e=>xL c 1 false e fun c e=>xF a 0 e fun e f=>xF e 10 f fun e f=>xF e 2 f fun e f=>xS e c 1 f fun c e=>aF [a,b] [a,b]/\d [] e)) (vbin .eql e (.int .i64 5) fun c=>vcond c (yF a 0 f fun c=>yF c 0 f fun c=>yL c 8 true f fun c=>yF a 0 f fun d=>yF d 10 f fun d=>yF d 0 f fun d=>yL d 1 false f fun d=>yF a 0 f fun a=>yF a 10 f fun a=>yF a 3 f fun a=>yL a 1 false f fun a=>aq PP (.call kQ [(.c c),(.c d),(.c a),(.c (.int .i64 3))]) f fun a=>xS b a 7 f fun a c=>xL b 7 true c fun a b=>K a c) (xF a 0 f fun c e=>xF c 10 e fun c e=>xF c 1 e fun c e=>xS c (.int .i64 2) 1 e fun c e=>aF [a,b] [a,b]/\d [] e)))
theorem tN (a0:D) (h0:Heap) (K:HK):nO a0 h0 K=dZ oh K [a0] h0:=by kernel_rfl
def vZ:TL
 | 1000016=>some ([5,6,7,8,9,10,11,12],[])|1000018=>some ([5,6,7,8,9,10,11,12],[])|1000022=>some ([5,7,8,9],[])|1000024=>some ([5,8],[])|_=>none
def zK:TT
 | 6=>some ([0,1,0,4,15,0,0,0,128,0,1023,2047,4095],[4,10],[999999])|20=>some ([0,0,0,4,0,0,32,0,0,480,992,2047],[9,11],[999999])|_=>none
noncomputable abbrev sq:=cFn PP true lx vZ (cDr PP 107 zK)
noncomputable def sJ:aH:=⟨107,aR sq,[.cell 8 11 true]⟩
theorem y8:sq=some sJ:=by kernel_rfl
def rQ (a:D) (b:D) (c:D) (d:D) (e:Heap) (K:HK):Prop :=
 ab PP (.box (.c a)) e fun a e=>ab PP (.box (.c b)) e fun b e=>ab PP (.box (.c c)) e fun c e=>ab PP (.box (.c d)) e fun d e=>ab PP (.alloc (.agg [zI,zI,zI,zI,.nil,.nil,.nil,.nil,.nil,.nil,zI])) e fun e f=>xF a 5 f fun a f=>xL a 1 false f fun a f=>xF c 2 f fun f g=>xL f 1 false g fun f g=>xI a f 4 g fun a f=>xL a 4 true f fun a f=>ab PP (.alloc (.agg [(.str ⟨#[]⟩),zI,zI,zI])) f fun f g=>xS f a 4 g fun a g=>xF b 0 g fun a g=>xL a 7 true g fun a g=>xF c 6 g fun g h=>xL g 3 true h fun g h=>ag PP cn [a,g] h fun a g=>ab PP (.conv .i64 (.c a)) g fun a g=>vbin .lss a zI fun h=>vguard h false (fun b=>b a g) g fun g i=>vguard h false (fun a=>xF f 3 i fun b c=>a b c) i fun i j=>vguard h false (fun a=>xL i 1 false j fun b c=>a b c) j fun i j=>vguard h false (fun a=>vbin .geq g i fun b=>a b j) j fun g i=>ab PP (.pick (.c h) (.c (.bool true)) (.c g)) i fun g h=>vcond g (xF b 10 h fun a c=>xS a (.int .i64 70) 1 c fun a c=>xL b 11 true c fun a b=>xS e a 11 b fun a b=>xL e 11 true b fun a c=>K a b) (yF b 0 h fun g=>yL g 7 true h fun g=>yF c 9 h fun i=>yL i 3 true h fun i=>yL b 11 true h fun j=>yL f 4 true h fun k=>yF c 2 h fun l=>yL l 1 false h fun m=>ag PP cn [g,i] h fun g h=>((yL b 11 true h fun a=>aF [a] [j])/\(yL f 4 true h fun a=>aF [a] [k])/\(yF c 2 h fun a=>aF [a] [l])/\(yL l 1 false h fun a=>aF [a] [m])/\True)/\ag PP qQ [j,k,m,a] h fun h i=>xF d 0 i fun i j=>xS i (.int .i64 2) 1 j fun i j=>xF c 2 j fun i j=>xL i 1 false j fun i j=>xF d 6 j fun j k=>xS j i 1 k fun i j=>xF d 7 j fun i j=>xS i a 1 j fun i j=>xF d 8 j fun i j=>xS i g 1 j fun i j=>∃(i:HJ),( ∀(j:Nat->D) (k:Heap),i [] k->∃(i:HJ),( ∀(j:Nat->D) (k:Heap),i [] k->∃(i:HJ),( ∀(a:Nat->D) (c:Heap),i [] c->∃(a:HJ),( ∀(c:Nat->D) (d:Heap),a [] d->xL b 11 true d fun a b=>xS e a 11 b fun a b=>xL e 11 true b fun a c=>K a b)/\xF f 1 c fun c f=>xL c 1 false f fun c f=>vbin .neq c (.int .i64 3) fun c=>vcond c (xF b 9 f fun c f=>xL c 1 false f fun c f=>xL d 9 true f fun d f=>ab PP (.bldS true 9 1 (.agg [zI,zI,zI,zI,zI,zI,zI,zI,zJ]) [(0,(.c d))]) f fun d f=>ab PP (.app (.c c) (.c d) 9 72 (.agg [zI,zI,zI,zI,zI,zI,zI,zI,zJ])) f fun c d=>xF b 9 d fun d f=>xS d c 1 f fun c d=>aF [b,e] [b,e]/\a [] d) (aF [b,e] [b,e]/\a [] f))/\xF c 0 k fun j k=>xL j 1 false k fun j k=>vbin .eql j (.int .i64 9) fun j=>vcond j (xF d 0 k fun j k=>xS j (.int .i64 3) 1 k fun j k=>xF c 1 k fun j k=>xL j 1 false k fun j k=>xF d 1 k fun k l=>xS k j 1 l fun j k=>yL b 11 true k fun j=>yL f 4 true k fun l=>yF c 2 k fun m=>yL m 1 false k fun n=>yF c 1 k fun o=>yL o 1 false k fun o=>ag PP jq [o,h,g] k fun g h=>((yL b 11 true h fun a=>aF [a] [j])/\(yL f 4 true h fun a=>aF [a] [l])/\(yF c 2 h fun a=>aF [a] [m])/\(yL m 1 false h fun a=>aF [a] [n])/\True)/\aq PP (.fld (.c g) 0 1 false) h fun c=>ag PP l8 [j,l,n,a,c] h fun a c=>aF [b,d,e,f] [b,d,e,f]/\i [] c) (aF [b,d,e,f] [b,d,e,f]/\i [] k))/\xF c 0 k fun j k=>xL j 1 false k fun j k=>vbin .eql j (.int .i64 8) fun j=>vcond j (xL b 11 true k fun j k=>xL f 4 true k fun k l=>xF c 2 l fun l m=>xL l 1 false m fun l m=>ag PP l8 [j,k,l,a,g] m fun j k=>aF [b,c,d,e,f,a,g,h] [b,c,d,e,f,a,g,h]/\i [] k) (aF [b,c,d,e,f,a,g,h] [b,c,d,e,f,a,g,h]/\i [] k))/\xF c 0 j fun j k=>xL j 1 false k fun j k=>vbin .eql j (.int .i64 7) fun j=>vcond j (xF d 0 k fun j k=>xS j (.int .i64 1) 1 k fun j k=>xF d 8 k fun j k=>xS j h 1 k fun j k=>xF b 0 k fun j k=>xF j 4 k fun j k=>xL j 1 false k fun j k=>xF c 3 k fun k l=>xF k 1 l fun k l=>xL k 1 false l fun k l=>xI j k 1 l fun j k=>xS j h 1 k fun j k=>aF [b,c,d,e,f,a,g,h] [b,c,d,e,f,a,g,h]/\i [] k) (aF [b,c,d,e,f,a,g,h] [b,c,d,e,f,a,g,h]/\i [] k))
theorem x0 (a0:D) (a1:D) (a2:D) (a3:D) (h0:Heap) (K:HK):rQ a0 a1 a2 a3 h0 K=dZ sJ K [a0,a1,a2,a3] h0:=by kernel_rfl
def xq:TL
 | _=>none
def Cr:TT
 | _=>none
noncomputable abbrev uJ:=cFn PP true cn xq (cDr PP 16 Cr)
noncomputable def vc:aH:=⟨16,aR uJ,[.t 4]⟩
theorem A3:uJ=some vc:=by kernel_rfl
def uj (a:D) (b:D) (c:Heap) (K:HK):Prop :=
 ab PP (.box (.c a)) c fun a c=>ab PP (.box (.c b)) c fun b c=>xF b 0 c fun c d=>xL c 1 false d fun c d=>vbin .eql c (.int .i64 2) fun c=>vcond c (xF a 4 d fun a c=>xL a 1 false c fun a c=>xF b 1 c fun b c=>xL b 1 false c fun b c=>xI a b 1 c fun a b=>xL a 1 false b fun a b=>K a b) (xF b 2 d fun a b=>xL a 1 false b fun a b=>K a b)
theorem AI (a0:D) (a1:D) (h0:Heap) (K:HK):uj a0 a1 h0 K=dZ vc K [a0,a1] h0:=by kernel_rfl
def vY:TL
 | _=>none
def zH:TT
 | 1=>some ([0,0,2,7,0,0,32,127,255,511],[3,7],[999999])|_=>none
noncomputable abbrev so:=cFn PP true lv vY (cDr PP 72 zH)
noncomputable def sI:aH:=⟨72,aR so,[.t 8]⟩
theorem y0:so=some sI:=by kernel_rfl
def rP (a:D) (b:D) (c:D) (d:D) (e:Heap) (K:HK):Prop :=
 ab PP (.box (.c a)) e fun a e=>ab PP (.box (.c b)) e fun b e=>ab PP (.box (.c c)) e fun c e=>ab PP (.box (.c d)) e fun d e=>yL c 7 true e fun f=>yF d 6 e fun g=>yL g 3 true e fun g=>yL c 7 true e fun h=>yF d 9 e fun i=>yL i 3 true e fun j=>ag PP cn [f,g] e fun e f=>((yL c 7 true f fun a=>aF [a] [h])/\(yF d 9 f fun a=>aF [a] [i])/\(yL i 3 true f fun a=>aF [a] [j])/\True)/\ag PP cn [h,j] f fun f g=>xF d 0 g fun g h=>xL g 1 false h fun g h=>vbin .eql g (.int .i64 2) fun i=>vcond i (xF d 1 h fun a b=>xL a 1 false b fun a b=>ag PP oH [a,e] b fun a b=>ab PP (.fld (.c a) 0 1 false) b fun a b=>K a b) (vbin .eql g (.int .i64 3) fun i=>vcond i (xF d 1 h fun a b=>xL a 1 false b fun a b=>ag PP jq [a,e,f] b fun a b=>ab PP (.fld (.c a) 0 1 false) b fun a b=>K a b) (vbin .eql g (.int .i64 4) fun i=>vcond i (vbin .neq e zJ fun a=>vcond a (K f h) (xL c 7 true h fun a b=>xF d 12 b fun b c=>xL b 3 true c fun b c=>ag PP cn [a,b] c fun a b=>K a b)) (vbin .eql g (.int .i64 5) fun f=>vcond f (xL a 8 true h fun a e=>xL b 2 true e fun b e=>xF c 0 e fun c e=>xL c 1 false e fun c e=>xF d 1 e fun d e=>xL d 1 false e fun d e=>ag PP oD [a,b,c,d] e fun a b=>ab PP (.fld (.c a) 0 1 false) b fun a b=>K a b) (vbin .eql g (.int .i64 6) fun a=>vcond a (xF b 1 h fun a b=>xL a 1 false b fun a b=>xF d 2 b fun b c=>xL b 1 false c fun b c=>xI a b 1 c fun a b=>xL a 1 false b fun a b=>K a b) (vbin .eql g (.int .i64 11) fun a=>vcond a (xF c 6 h fun a b=>xL a 1 false b fun a b=>xF d 2 b fun b c=>xL b 1 false c fun b c=>xI a b 1 c fun a b=>xL a 1 false b fun a b=>K a b) (K e h))))))
theorem xZ (a0:D) (a1:D) (a2:D) (a3:D) (h0:Heap) (K:HK):rP a0 a1 a2 a3 h0 K=dZ sI K [a0,a1,a2,a3] h0:=by kernel_rfl
def Ap:TL
 | _=>none
def En:TT
 | 1=>some ([0,0,0,0,8,24,0,64,192,0,512,1536,4095,8191],[13],[])|_=>none
noncomputable abbrev yS:=cFn PP true kQ Ap (cDr PP 22 En)
noncomputable def zx:aH:=⟨22,aR yS,[.cell 8 7 true]⟩
theorem DA:yS=some zx:=by kernel_rfl
def yx (a:D) (b:D) (c:D) (d:D) (e:Heap) (K:HK):Prop :=
 ab PP (.box (.c a)) e fun a e=>ab PP (.alloc (.agg [zI,zI,zI,zI,.nil,.nil,.nil])) e fun e f=>yF a 2 f fun g=>yL g 1 false f fun g=>aq PP (.mk 1 4 zJ (.c g) (.c g)) f fun g=>yF a 5 f fun h=>yL h 1 false f fun h=>aq PP (.call mY [(.c h),(.c (.int .i64 3))]) f fun h=>yF a 3 f fun a=>yL a 1 false f fun a=>aq PP (.mk 1 4 zJ (.c a) (.c a)) f fun a=>aq PP (.bld [zI,zI,zI,zI,.nil,.nil,.nil] [(0,1,(.c b)),(1,1,(.c d)),(3,1,(.c c)),(4,1,(.c g)),(5,1,(.c h)),(6,1,(.c a))]) f fun a=>xS e a 7 f fun a b=>xL e 7 true b fun a c=>K a b
theorem Df (a0:D) (a1:D) (a2:D) (a3:D) (h0:Heap) (K:HK):yx a0 a1 a2 a3 h0 K=dZ zx K [a0,a1,a2,a3] h0:=by kernel_rfl
def xv:TL
 | _=>none
def Cv:TT
 | _=>none
noncomputable abbrev uN:=cFn PP true jo xv (cDr PP 11 Cv)
noncomputable def vn:aH:=⟨11,aR uN,[.t 4]⟩
theorem A8:uN=some vn:=by kernel_rfl
def ur (a:D) (b:D) (c:Heap) (K:HK):Prop :=
 ab PP (.box (.c a)) c fun a c=>xF a 1 c fun c d=>xL c 1 false d fun c d=>vbin .eql c b fun b=>vcond b (xF a 3 d fun a b=>xL a 1 false b fun a b=>K a b) (K zI d)
theorem AM (a0:D) (a1:D) (h0:Heap) (K:HK):ur a0 a1 h0 K=dZ vn K [a0,a1] h0:=by kernel_rfl
def cu:TL
 | 1000011=>some ([],[])|4=>some ([1,2,15,16],[17])|_=>none
def cE:TT
 | _=>none
noncomputable abbrev bD:=cFn PP true bB cu (cDr PP 32 cE)
noncomputable def bE:aH:=⟨32,aR bD,[.t 6]⟩
theorem cC:bD=some bE:=by kernel_rfl
def bt (a:Heap) (b:D) (c:D) (d:D) (e:D) (f:HJ) (K:HK):Prop :=
 ∃(g:Nat->HJ) (h:Nat),g h [zI] a/\∀(a:Nat) (h:Nat->D) (i:Heap),g a [h 17] i->vbin .lss (h 17) b fun j=>vcond j (xI c (h 17) 4 i fun f i=>xL f 4 true i fun f i=>ab PP (.alloc (.agg [(.str ⟨#[]⟩),zI,zI,zI])) i fun i j=>xS i f 4 j fun f j=>xI d (h 17) 1 j fun f j=>xL f 1 false j fun f j=>xL i 4 true j fun i j=>ab PP (.callv (.c e) [(.c i),(.c f)]) j fun f i=>vun .not f fun f=>vcond f (K (.bool false) i) (vbin .add (h 17) (.int .i64 1) fun f=>aF [d,e,c,b] [d,e,c,b]/\∃b,b<a/\g b [f] i)) (aF [] []/\f [] i)
def bC (a:D) (b:D) (c:D) (d:Heap) (K:HK):Prop :=
 bQ a d fun e=>bQ b d fun f=>vbin .neq e f fun e=>vcond e (K (.bool false) d) ( ∃(e:HJ),( ∀(a:Nat->D) (b:Heap),e [] b->K (.bool true) b)/\bQ a d fun f=>bt d f a b c e K)
theorem cA (a0:D) (a1:D) (a2:D) (h0:Heap) (K:HK):bC a0 a1 a2 h0 K=dZ bE K [a0,a1,a2] h0:=by kernel_rfl
def qY:TL
 | _=>none
def vJ:TT
 | _=>none
noncomputable abbrev nT:=cFn PP true gz qY (cDr PP 12 vJ)
noncomputable def oe:aH:=⟨12,aR nT,[.t 5]⟩
theorem tS:nT=some oe:=by kernel_rfl
def nM (a:D) (b:D) (c:D) (d:Heap) (K:HK):Prop :=
 ab PP (.box (.c a)) d fun a d=>xL a 4 true d fun a d=>xL c 1 false d fun c d=>ag PP jr [a,c] d fun a c=>bQ b c fun b=>vbin .eql a b fun a=>K a c
theorem tK (a0:D) (a1:D) (a2:D) (h0:Heap) (K:HK):nM a0 a1 a2 h0 K=dZ oe K [a0,a1,a2] h0:=by kernel_rfl
def xD:TL
 | _=>none
def CD:TT
 | _=>none
noncomputable abbrev uV:=cFn PP true jr xD (cDr PP 11 CD)
noncomputable def vz:aH:=⟨11,aR uV,[.t 4]⟩
theorem Bg:uV=some vz:=by kernel_rfl
def uC (a:D) (b:D) (c:Heap) (K:HK):Prop :=
 ab PP (.box (.c a)) c fun a c=>xF a 1 c fun c d=>xL c 1 false d fun c d=>vbin .neq c b fun b=>vcond b (K zI d) (xF a 3 d fun a b=>xL a 1 false b fun a b=>K a b)
theorem AU (a0:D) (a1:D) (h0:Heap) (K:HK):uC a0 a1 h0 K=dZ vz K [a0,a1] h0:=by kernel_rfl
def gP:TL
 | 1000008=>some ([],[])|2=>some ([0,1,7],[8])|_=>none
def iw:TT
 | _=>none
noncomputable abbrev eM:=cFn PP true eJ gP (cDr PP 19 iw)
noncomputable def eN:aH:=⟨19,aR eM,[.t 4]⟩
theorem il:eM=some eN:=by kernel_rfl
def dM (a:Heap) (b:D) (c:D) (d:D) (e:HJ) (K:HK):Prop :=
 ∃(f:Nat->HJ) (g:Nat),f g [zI] a/\∀(a:Nat) (g:Nat->D) (h:Heap),f a [g 8] h->vbin .lss (g 8) b fun i=>vcond i (xI c (g 8) 1 h fun e h=>xL e 1 false h fun e h=>ab PP (.callv (.c d) [(.c e)]) h fun e h=>vcond e (K (g 8) h) (vbin .add (g 8) (.int .i64 1) fun e=>aF [c,d,b] [c,d,b]/\∃b,b<a/\f b [e] h)) (aF [] []/\e [] h)
def eK (a:D) (b:D) (c:Heap) (K:HK):Prop :=
 ∃(d:HJ),( ∀(a:Nat->D) (b:Heap),d [] b->K (.int .i64 (-1)) b)/\bQ a c fun e=>dM c e a b d K
theorem ij (a0:D) (a1:D) (h0:Heap) (K:HK):eK a0 a1 h0 K=dZ eN K [a0,a1] h0:=by kernel_rfl
def xA:TL
 | _=>none
def CA:TT
 | _=>none
noncomputable abbrev uS:=cFn PP true gO xA (cDr PP 4 CA)
noncomputable def vu:aH:=⟨4,aR uS,[.t 2]⟩
theorem Bd:uS=some vu:=by kernel_rfl
def uz (a:D) (b:Heap) (K:HK):Prop :=
 vcond a (K (.int .i32 1) b) (K (.int .i32 0) b)
theorem AR (a0:D) (h0:Heap) (K:HK):uz a0 h0 K=dZ vu K [a0] h0:=by kernel_rfl
def qX:TL
 | _=>none
def vI:TT
 | _=>none
noncomputable abbrev nS:=cFn PP true jf qX (cDr PP 36 vI)
noncomputable def od:aH:=⟨36,aR nS,[.t 6]⟩
theorem tR:nS=some od:=by kernel_rfl
def nK (a:D) (b:D) (c:D) (d:Heap) (K:HK):Prop :=
 vbin .eql a (.int .i64 24) fun e=>vcond e (vbin .eql b c fun a=>K a d) (vbin .eql a (.int .i64 25) fun e=>vcond e (vbin .neq b c fun a=>K a d) (vbin .eql a (.int .i64 26) fun e=>vcond e (vbin .lss b c fun a=>K a d) (vbin .eql a (.int .i64 27) fun e=>vcond e (vbin .leq b c fun a=>K a d) (vbin .eql a (.int .i64 28) fun a=>vcond a (vbin .gtr b c fun a=>K a d) (vbin .geq b c fun a=>K a d)))))
theorem tJ (a0:D) (a1:D) (a2:D) (h0:Heap) (K:HK):nK a0 a1 a2 h0 K=dZ od K [a0,a1,a2] h0:=by kernel_rfl
def Aj:TL
 | 1000013=>some ([],[9])|3=>some ([0,7,8],[9,10])|1000010=>some ([0,7,8,9,10,11,12],[13])|1000012=>some ([0,7,8,9,10],[13])|_=>none
def Ei:TT
 | 5=>some ([0,0,2,7,15,0,0,70,230,486,223,2047],[],[])|_=>none
noncomputable abbrev yN:=cFn PP true kO Aj (cDr PP 68 Ei)
noncomputable def zq:aH:=⟨68,aR yN,[.t 6]⟩
theorem Dv:yN=some zq:=by kernel_rfl
def pK (a:Heap) (b:D) (c:D) (d:D) (e:HJ):Prop :=
 ∃(f:Nat->HJ) (g:Nat),f g [zI,zI] a/\∀(a:Nat) (g:Nat->D) (h:Heap),f a [g 9,g 10] h->vbin .lss (g 10) (.int .i64 32) fun i=>vcond i (aq PP (.call cO [(.c (g 10))]) h fun e=>vbin .quo b e fun e=>vbin .rem e (.int .i64 2) fun e=>aq PP (.call cO [(.c (g 10))]) h fun i=>vbin .quo c i fun i=>vbin .rem i (.int .i64 2) fun i=>vbin .mul e i fun j=>∃(k:HJ),( ∀(h:Nat->D) (j:Heap),k [h 13] j->∃(k:HJ),( ∀(e:Nat->D) (h:Heap),k [e 13] h->ag PP cO [(g 10)] h fun h i=>vbin .mul (e 13) h fun e=>vbin .add (g 9) e fun e=>vbin .add (g 10) (.int .i64 1) fun g=>aF [d,b,c] [d,b,c]/\∃b,b<a/\f b [e,g] i)/\vbin .eql d (.int .i64 19) fun a=>vcond a (vbin .add e i fun a=>vbin .rem a (.int .i64 2) fun a=>aF [d,b,c,(g 9),(g 10)] [d,b,c,(g 9),(g 10)]/\k [a] j) (aF [d,b,c,(g 9),(g 10)] [d,b,c,(g 9),(g 10)]/\k [(h 13)] j))/\vbin .eql d (.int .i64 18) fun a=>vcond a (ab PP (.mx (.c e) (.c i)) h fun a f=>aF [d,b,c,(g 9),(g 10),e,i] [d,b,c,(g 9),(g 10),e,i]/\k [a] f) (aF [d,b,c,(g 9),(g 10),e,i] [d,b,c,(g 9),(g 10),e,i]/\k [j] h)) (aF [] []/\e [(g 9)] h)
def yq (a:D) (b:D) (c:D) (d:Heap) (K:HK):Prop :=
 ab PP (.conv .i64 (.c b)) d fun d e=>ag PP cO [(.int .i64 32)] e fun e f=>vbin .lss b zJ fun b=>ag PP gO [b] f fun b f=>ab PP (.conv .i64 (.c b)) f fun b f=>vbin .mul e b fun b=>vbin .add d b fun b=>ab PP (.conv .i64 (.c c)) f fun d e=>ag PP cO [(.int .i64 32)] e fun e f=>vbin .lss c zJ fun c=>ag PP gO [c] f fun c f=>ab PP (.conv .i64 (.c c)) f fun c f=>vbin .mul e c fun c=>vbin .add d c fun c=>∃(d:HJ),( ∀(a:Nat->D) (b:Heap),d [a 9] b->ag PP cN [(a 9)] b fun a b=>K a b)/\pK f b c a d
theorem Da (a0:D) (a1:D) (a2:D) (h0:Heap) (K:HK):yq a0 a1 a2 h0 K=dZ zq K [a0,a1,a2] h0:=by kernel_rfl
def Ai:TL
 | _=>none
def Eh:TT
 | _=>none
noncomputable abbrev yM:=cFn PP true cN Ai (cDr PP 7 Eh)
noncomputable def zp:aH:=⟨7,aR yM,[.t 2]⟩
theorem Du:yM=some zp:=by kernel_rfl
def yp (a:D) (b:Heap) (K:HK):Prop :=
 ab PP (.conv .u64 (.c a)) b fun a b=>ab PP (.conv .u32 (.c a)) b fun a b=>ab PP (.conv .i32 (.c a)) b fun a b=>K a b
theorem C9 (a0:D) (h0:Heap) (K:HK):yp a0 h0 K=dZ zp K [a0] h0:=by kernel_rfl
end Go.Am
namespace Go.Am
open Go Go.Proofs
def xw:TL
 | _=>none
def Cw:TT
 | _=>none
noncomputable abbrev uO:=cFn PP true mW xw (cDr PP 76 Cw)
noncomputable def vo:aH:=⟨76,aR uO,[.t 6]⟩
theorem A9:uO=some vo:=by kernel_rfl
def uu (a:D) (b:D) (c:D) (d:Heap) (K:HK):Prop :=
 vbin .rem c (.int .i64 32) fun e=>vbin .add e (.int .i64 32) fun e=>vbin .rem e (.int .i64 32) fun e=>vbin .eql a (.int .i64 10) fun f=>vcond f (vbin .add b c fun a=>K a d) (vbin .eql a (.int .i64 11) fun f=>vcond f (vbin .sub b c fun a=>K a d) (vbin .eql a (.int .i64 12) fun f=>vcond f (vbin .mul b c fun a=>K a d) (vbin .eql a (.int .i64 13) fun f=>vcond f (ag PP gy [b,c] d fun a b=>K a b) (vbin .eql a (.int .i64 14) fun f=>vcond f (ag PP gy [b,c] d fun a d=>vbin .mul c a fun a=>vbin .sub b a fun a=>K a d) (vbin .eql a (.int .i64 15) fun f=>vcond f (vbin .mul b c fun a=>ag PP eE [a,(.int .i64 65536)] d fun a b=>K a b) (vbin .eql a (.int .i64 16) fun f=>vcond f (vbin .eql c zI fun a=>vcond a (K zI d) (vbin .mul (.int .i64 65536) b fun a=>ag PP mX [a,c] d fun a b=>K a b)) (vbin .eql a (.int .i64 20) fun f=>vcond f (ag PP cO [e] d fun a c=>vbin .mul b a fun a=>K a c) (vbin .eql a (.int .i64 21) fun f=>vcond f (ag PP cO [e] d fun a c=>ag PP eE [b,a] c fun a b=>K a b) (vbin .eql a (.int .i64 22) fun a=>vcond a (ab PP (.mn (.c b) (.c c)) d fun a b=>K a b) (ab PP (.mx (.c b) (.c c)) d fun a b=>K a b))))))))))
theorem AN (a0:D) (a1:D) (a2:D) (h0:Heap) (K:HK):uu a0 a1 a2 h0 K=dZ vo K [a0,a1,a2] h0:=by kernel_rfl
def qh:TL
 | _=>none
def tm:TT
 | 2=>some ([0,1,3,7,15,0,0,64,192,448,960,0,4032,8128,16320,0,32768,131008,262143,524287,1048575],[17,20],[4,18])|_=>none
noncomputable abbrev mG:=cFn PP true aN qh (cDr PP 32 tm)
noncomputable def mN:aH:=⟨32,aR mG,[]⟩
theorem sN:mG=some mN:=by kernel_rfl
def mq (a:D) (b:D) (c:Heap) (K:HK):Prop :=
 ab PP (.box (.c b)) c fun b c=>xF a 0 c fun c d=>xF c 2 d fun c d=>xF c 7 d fun c d=>xL c 1 false d fun c d=>bQ c d fun c=>vbin .sub c (.int .i64 1) fun c=>yF a 0 d fun e=>yF e 2 d fun e=>yF e 7 d fun e=>yL e 1 false d fun f=>yF a 0 d fun a=>yF a 2 d fun a=>yF a 7 d fun a=>yL a 1 false d fun a=>yI a c 14 d fun a=>yF a 0 d fun a=>yL a 1 false d fun a=>yL b 15 true d fun b=>aq PP (.bldS false 15 1 (.agg [zI,zI,zI,zI,zI,zJ,zI,zI,zJ,zI,zI,zJ,zI,zI,zJ]) [(0,(.c b))]) d fun b=>yI f c 14 d fun g=>yF g 0 d fun h=>ab PP (.app (.c a) (.c b) 15 120 (.agg [zI,zI,zI,zI,zI,zJ,zI,zI,zJ,zI,zI,zJ,zI,zI,zJ])) d fun a b=>((yL e 1 false b fun a=>aF [a] [f])/\(yI f c 14 b fun a=>aF [a] [g])/\True)/\xS h a 1 b fun a b=>((yL e 1 false b fun a=>aF [a] [f])/\(yI f c 14 b fun a=>aF [a] [g])/\True)/\K (.tup []) b
theorem rU (a0:D) (a1:D) (h0:Heap) (K:HK):mq a0 a1 h0 K=dZ mN K [a0,a1] h0:=by kernel_rfl
def CN:TL
 | _=>none
def FO:TT
 | _=>none
noncomputable abbrev BU:=cFn PP true dp CN (cDr PP 5 FO)
noncomputable def Cf:aH:=⟨5,aR BU,[.cell 2 3 true]⟩
theorem Fz:BU=some Cf:=by kernel_rfl
def BI (a:D) (b:Heap) (K:HK):Prop :=
 ab PP (.alloc (.agg [zI,zI,zJ])) b fun b c=>ab PP (.bld [zI,zI,zJ] [(0,1,(.c (.int .i64 2))),(1,1,(.c a))]) c fun a c=>xS b a 3 c fun a c=>xL b 3 true c fun a b=>K a c
theorem Fh (a0:D) (h0:Heap) (K:HK):BI a0 h0 K=dZ Cf K [a0] h0:=by kernel_rfl
def xu:TL
 | _=>none
def Cu:TT
 | _=>none
noncomputable abbrev uM:=cFn PP true eD xu (cDr PP 5 Cu)
noncomputable def vk:aH:=⟨5,aR uM,[.cell 2 3 true]⟩
theorem A7:uM=some vk:=by kernel_rfl
def uq (a:D) (b:Heap) (K:HK):Prop :=
 ab PP (.alloc (.agg [zI,zI,zJ])) b fun b c=>ab PP (.bld [zI,zI,zJ] [(0,1,(.c (.int .i64 1))),(2,1,(.c a))]) c fun a c=>xS b a 3 c fun a c=>xL b 3 true c fun a b=>K a c
theorem AL (a0:D) (h0:Heap) (K:HK):uq a0 h0 K=dZ vk K [a0] h0:=by kernel_rfl
def oU:TL
 | _=>none
def qH:TT
 | 18=>some ([0,0,0,4,12,30,62,0,0,0,524,2046,4095],[3,10,12],[999999])|21=>some ([0,0,0,4,0,30,63],[3,6],[999999])|22=>some ([0,0,0,0,8,30,63],[4,6],[999999])|_=>none
noncomputable abbrev lR:=cFn PP true hU oU (cDr PP 133 qH)
noncomputable def lW:aH:=⟨133,aR lR,[]⟩
theorem qz:lR=some lW:=by kernel_rfl
def lM (a:D) (b:Heap) (K:HK):Prop :=
 ag PP ak [a] b fun b c=>vbin .rem b (.int .i64 16) fun b=>vbin .lss b (.int .i64 3) fun d=>vcond d (ag PP ak [a] c fun b c=>vbin .rem b (.int .i64 7) fun b=>vbin .add (.int .i64 1) b fun b=>ag PP bg [a] c fun c d=>ab PP (.bld [zI,zI,zI,zI,zI,zJ,zI,zI,zJ,zI,zI,zJ,zI,zI,zJ] [(0,1,(.c (.int .i64 5))),(1,1,(.c b)),(3,3,(.c c))]) d fun b c=>ag PP aN [a,b] c fun a b=>K (.tup []) b) (vbin .lss b (.int .i64 7) fun d=>vcond d (ag PP ak [a] c fun b c=>vbin .rem b (.int .i64 20) fun b=>vbin .add (.int .i64 10) b fun b=>ag PP bg [a] c fun c d=>ag PP aY [a] d fun d e=>ag PP aY [a] e fun e f=>ab PP (.bld [zI,zI,zI,zI,zI,zJ,zI,zI,zJ,zI,zI,zJ,zI,zI,zJ] [(0,1,(.c (.int .i64 3))),(1,1,(.c b)),(3,3,(.c c)),(6,3,(.c d)),(9,3,(.c e))]) f fun b c=>ag PP aN [a,b] c fun a b=>K (.tup []) b) (vbin .eql b (.int .i64 7) fun d=>vcond d (ag PP ak [a] c fun b c=>vbin .rem b (.int .i64 5) fun b=>vbin .add (.int .i64 1) b fun b=>ag PP bg [a] c fun c d=>ag PP aY [a] d fun d e=>ab PP (.bld [zI,zI,zI,zI,zI,zJ,zI,zI,zJ,zI,zI,zJ,zI,zI,zJ] [(0,1,(.c (.int .i64 2))),(1,1,(.c b)),(3,3,(.c c)),(6,3,(.c d))]) e fun b c=>ag PP aN [a,b] c fun a b=>K (.tup []) b) (vbin .eql b (.int .i64 8) fun d=>vcond d (ag PP bg [a] c fun b c=>ag PP aY [a] c fun c d=>ag PP aY [a] d fun d e=>ag PP aY [a] e fun e f=>ab PP (.bld [zI,zI,zI,zI,zI,zJ,zI,zI,zJ,zI,zI,zJ,zI,zI,zJ] [(0,1,(.c (.int .i64 4))),(3,3,(.c b)),(6,3,(.c c)),(9,3,(.c d)),(12,3,(.c e))]) f fun b c=>ag PP aN [a,b] c fun a b=>K (.tup []) b) (vbin .eql b (.int .i64 9) fun d=>vcond d (ag PP bg [a] c fun b c=>ag PP aY [a] c fun c d=>ab PP (.bld [zI,zI,zI,zI,zI,zJ,zI,zI,zJ,zI,zI,zJ,zI,zI,zJ] [(0,1,(.c (.int .i64 1))),(3,3,(.c b)),(6,3,(.c c))]) d fun b c=>ag PP aN [a,b] c fun a b=>K (.tup []) b) (vbin .eql b (.int .i64 10) fun d=>vcond d (ag PP ak [a] c fun b c=>vbin .rem b (.int .i64 3) fun b=>ag PP bg [a] c fun c d=>ab PP (.bld [zI,zI,zI,zI,zI,zJ,zI,zI,zJ,zI,zI,zJ,zI,zI,zJ] [(0,1,(.c (.int .i64 6))),(2,1,(.c b)),(3,3,(.c c))]) d fun b c=>ag PP aN [a,b] c fun a b=>K (.tup []) b) (vbin .eql b (.int .i64 11) fun d=>vcond d (ag PP ak [a] c fun b c=>vbin .rem b (.int .i64 2) fun b=>vbin .add (.int .i64 1) b fun b=>ab PP (.bld [zI,zI,zI,zI,zI,zJ,zI,zI,zJ,zI,zI,zJ,zI,zI,zJ] [(0,1,(.c (.int .i64 10))),(1,1,(.c b))]) c fun b c=>ag PP aN [a,b] c fun a b=>K (.tup []) b) (vbin .eql b (.int .i64 12) fun d=>vcond d (ag PP eO [a,(.bool false)] c fun b c=>ab PP (.ext (.c b) 0) c fun c d=>ab PP (.ext (.c b) 1) d fun b d=>ab PP (.alloc (.agg [zI,zI,zJ])) d fun d e=>xS d b 3 e fun b e=>aq PP (.bldS false 1 6 zI [(0,(.c (.int .i64 10))),(1,(.c (.int .i64 22))),(2,(.c (.int .i64 23))),(3,(.c (.int .i64 17))),(4,(.c (.int .i64 18))),(5,(.c (.int .i64 19)))]) e fun b=>yL d 3 true e fun f=>ag PP ak [a] e fun e g=>((yL d 3 true g fun a=>aF [a] [f])/\True)/\vbin .rem e (.int .i64 6) fun e=>yI b e 1 g fun h=>yL h 1 false g fun i=>ag PP aY [a] g fun g j=>((yI b e 1 j fun a=>aF [a] [h])/\(yL h 1 false j fun a=>aF [a] [i])/\(yL d 3 true j fun a=>aF [a] [f])/\True)/\aq PP (.bld [zI,zI,zI,zI,zI,zJ,zI,zI,zJ,zI,zI,zJ,zI,zI,zJ] [(0,1,(.c (.int .i64 9))),(1,1,(.c i)),(2,1,(.c c)),(6,3,(.c f)),(9,3,(.c g))]) j fun b=>ag PP aN [a,b] j fun a b=>K (.tup []) b) (ag PP eO [a,(.bool true)] c fun c d=>ab PP (.ext (.c c) 0) d fun d e=>ab PP (.ext (.c c) 1) e fun c e=>ab PP (.alloc (.agg [zI,zI,zJ])) e fun e f=>xS e c 3 f fun c f=>vbin .eql b (.int .i64 13) fun b=>vcond b (yL e 3 true f fun b=>ag PP bg [a] f fun c f=>((yL e 3 true f fun a=>aF [a] [b])/\True)/\aq PP (.bld [zI,zI,zI,zI,zI,zJ,zI,zI,zJ,zI,zI,zJ,zI,zI,zJ] [(0,1,(.c (.int .i64 7))),(2,1,(.c d)),(3,3,(.c c)),(6,3,(.c b))]) f fun b=>ag PP aN [a,b] f fun a b=>K (.tup []) b) (yL e 3 true f fun b=>ag PP aY [a] f fun c f=>((yL e 3 true f fun a=>aF [a] [b])/\True)/\aq PP (.bld [zI,zI,zI,zI,zI,zJ,zI,zI,zJ,zI,zI,zJ,zI,zI,zJ] [(0,1,(.c (.int .i64 8))),(2,1,(.c d)),(6,3,(.c b)),(9,3,(.c c))]) f fun b=>ag PP aN [a,b] f fun a b=>K (.tup []) b)))))))))
theorem qq (a0:D) (h0:Heap) (K:HK):lM a0 h0 K=dZ lW K [a0] h0:=by kernel_rfl
def tC:TL
 | 8000002=>some ([],[])|_=>none
def wW:TT
 | _=>none
noncomputable abbrev pT:=cFn PP true fF tC (cDr PP 34 wW)
noncomputable def ki:aH:=⟨34,aR pT,[.t 6]⟩
theorem wG:pT=some ki:=by kernel_rfl
def pM (a:D) (b:D) (c:D) (d:Heap) (K:HK) (KP:Heap->Prop):Prop :=
 vbin .lss c zJ fun e=>vguard e false (fun a=>a c d) d fun d f=>vguard e false (fun a=>ab PP (.conv .i64 (.c d)) f fun b c=>a b c) f fun d f=>vguard e false (fun b=>b a f) f fun f g=>vguard e false (fun a=>xF f 0 g fun b c=>a b c) g fun f g=>vguard e false (fun a=>xF f 0 g fun b c=>a b c) g fun f g=>vguard e false (fun a=>xF f 5 g fun b c=>a b c) g fun f g=>vguard e false (fun a=>xL f 1 false g fun b c=>a b c) g fun f g=>vguard e false (fun a=>a b g) g fun g h=>vguard e false (fun a=>xI f g 4 h fun b c=>a b c) h fun f g=>vguard e false (fun a=>xF f 3 g fun b c=>a b c) g fun f g=>vguard e false (fun a=>xL f 1 false g fun b c=>a b c) g fun f g=>vguard e false (fun a=>vbin .geq d f fun b=>a b g) g fun d f=>ab PP (.pick (.c e) (.c (.bool true)) (.c d)) f fun d e=>vcond d ( ∀_:LEnv,KP e) (ag PP fU [a,b] e fun a d=>xI a b 1 d fun a b=>xL a 1 false b fun a b=>xI a c 1 b fun a b=>xL a 1 false b fun a b=>K a b)
theorem wz (a0:D) (a1:D) (a2:D) (h0:Heap) (K:HK) (KP:Heap->Prop):pM a0 a1 a2 h0 K KP=vcC PP ki.code (fun x e h'=>match x with|.exit _=>False|.pan=>KP h'|_=>iB PP ki.res K e h') (params [a0,a1,a2] 0) h0:=by kernel_rfl
def tD:TL
 | _=>none
def wX:TT
 | 1=>some ([0,1,3,7,15,31,63,127,255,15,527,2047,4095,8191,16383,32767],[],[])|2=>some ([0,0,2,6,14,0,32,126,255,511,1023],[7,10],[])|_=>none
noncomputable abbrev pU:=cFn PP true fG tD (cDr PP 30 wX)
noncomputable def p0:aH:=⟨30,aR pU,[]⟩
theorem wH:pU=some p0:=by kernel_rfl
def pN (a:D) (b:D) (c:Heap) (K:HK):Prop :=
 ab PP (.box (.c b)) c fun b c=>yF b 0 c fun d=>yL d 1 false c fun d=>vbin .neq d (.int .i64 4) fun d=>aP d true (fun b=>b a) fun e=>aP d true (fun a=>yF e 0 c fun b=>a b) fun e=>aP d true (fun a=>yF e 0 c fun b=>a b) fun e=>aP d true (fun a=>yF e 5 c fun b=>a b) fun e=>aP d true (fun a=>yL e 1 false c fun b=>a b) fun e=>aP d true (fun a=>yF b 6 c fun b=>a b) fun f=>aP d true (fun a=>yL f 1 false c fun b=>a b) fun f=>aP d true (fun a=>yI e f 4 c fun b=>a b) fun e=>aP d true (fun a=>yF e 1 c fun b=>a b) fun e=>aP d true (fun a=>yL e 1 false c fun b=>a b) fun e=>aP d true (fun a=>vbin .eql e (.int .i64 3) fun b=>a b) fun e=>aq PP (.pick (.c d) (.c e) (.c (.bool false))) c fun d=>vcond d (K (.tup []) c) (yF a 0 c fun d=>yF d 19 c fun d=>yL d 1 false c fun d=>yL b 9 true c fun b=>aq PP (.bldS false 9 1 (.agg [zI,zI,zI,zI,zI,zI,zI,zI,zJ]) [(0,(.c b))]) c fun b=>yF a 0 c fun a=>yF a 19 c fun a=>ab PP (.app (.c d) (.c b) 9 72 (.agg [zI,zI,zI,zI,zI,zI,zI,zI,zJ])) c fun b c=>xS a b 1 c fun a b=>K (.tup []) b)
theorem wA (a0:D) (a1:D) (h0:Heap) (K:HK):pN a0 a1 h0 K=dZ p0 K [a0,a1] h0:=by kernel_rfl
def Aa:TL
 | _=>none
def D9:TT
 | _=>none
noncomputable abbrev yB:=cFn PP true kM Aa (cDr PP 103 D9)
noncomputable def yZ:aH:=⟨103,aR yB,[.t 6,.t 7]⟩
theorem Dl:yB=some yZ:=by kernel_rfl
def xY (a:D) (b:D) (c:D) (d:Heap) (K:HK):Prop :=
 ab PP (.conv .i64 (.c b)) d fun d e=>ab PP (.conv .i64 (.c c)) e fun e f=>ag PP iE [b,c] f fun f g=>ab PP (.ext (.c f) 0) g fun g h=>ab PP (.ext (.c f) 1) h fun f h=>vbin .eql a (.int .i64 10) fun i=>vcond i (vbin .add b c fun a=>K (.tup [a,zI]) h) (vbin .eql a (.int .i64 11) fun i=>vcond i (vbin .sub b c fun a=>K (.tup [a,zI]) h) (vbin .eql a (.int .i64 12) fun i=>vcond i (vbin .mul b c fun a=>K (.tup [a,zI]) h) (vbin .eql a (.int .i64 13) fun i=>vcond i (K (.tup [g,zI]) h) (vbin .eql a (.int .i64 14) fun g=>vcond g (K (.tup [f,zI]) h) (vbin .eql a (.int .i64 15) fun f=>vcond f (vbin .mul d e fun a=>vbin .shr a (.int .u64 16) fun a=>ab PP (.conv .i32 (.c a)) h fun a b=>K (.tup [a,zI]) b) (vbin .eql a (.int .i64 16) fun f=>vcond f (vbin .eql c zJ fun a=>vcond a (K (.tup [zJ,zI]) h) (vbin .shl d (.int .u64 16) fun a=>ag PP lu [a,e] h fun a b=>ab PP (.conv .i32 (.c a)) b fun a b=>K (.tup [a,zI]) b)) (vbin .eql a (.int .i64 17) fun d=>vcond d (vbin .and b c fun a=>K (.tup [a,zI]) h) (vbin .eql a (.int .i64 18) fun d=>vcond d (vbin .or b c fun a=>K (.tup [a,zI]) h) (vbin .eql a (.int .i64 19) fun d=>vcond d (vbin .xor b c fun a=>K (.tup [a,zI]) h) (vbin .eql a (.int .i64 20) fun d=>vcond d (vbin .and c (.int .i32 31) fun a=>vbin .shl b a fun a=>K (.tup [a,zI]) h) (vbin .eql a (.int .i64 21) fun d=>vcond d (vbin .and c (.int .i32 31) fun a=>vbin .shr b a fun a=>K (.tup [a,zI]) h) (vbin .eql a (.int .i64 22) fun d=>vcond d (ab PP (.mn (.c b) (.c c)) h fun a b=>K (.tup [a,zI]) b) (vbin .eql a (.int .i64 23) fun d=>vcond d (ab PP (.mx (.c b) (.c c)) h fun a b=>K (.tup [a,zI]) b) (ag PP gw [a,b,c] h fun a b=>ab PP (.ext (.c a) 0) b fun b c=>ab PP (.ext (.c a) 1) c fun a c=>K (.tup [b,a]) c))))))))))))))
theorem C0 (a0:D) (a1:D) (a2:D) (h0:Heap) (K:HK):xY a0 a1 a2 h0 K=dZ yZ K [a0,a1,a2] h0:=by kernel_rfl
def qZ:TL
 | 1000006=>some ([1,2,3,8],[])|_=>none
def vK:TT
 | 2=>some ([0,1,3,7,0,31,63],[],[])|4=>some ([0,1,3,7,0,31],[5],[])|_=>none
noncomputable abbrev nU:=cFn PP true jh qZ (cDr PP 51 vK)
noncomputable def og:aH:=⟨51,aR nU,[]⟩
theorem tT:nU=some og:=by kernel_rfl
def nN (a:D) (b:D) (c:D) (d:D) (e:Heap) (K:HK):Prop :=
 ag PP fU [a,b] e fun e f=>xF a 0 f fun f g=>xF f 0 g fun f g=>xF f 5 g fun f g=>xL f 1 false g fun f g=>xI f b 4 g fun f g=>xF f 1 g fun f g=>xL f 1 false g fun f g=>ab PP (.bld [zI,zI] [(0,1,(.c f)),(1,1,(.c b))]) g fun f g=>ab PP (.alloc (.agg [zI,zI])) g fun g h=>xS g f 2 h fun f h=>∃(f:HJ),( ∀(a:Nat->D) (g:Heap),f [] g->xI e b 1 g fun a b=>xL a 1 false b fun a b=>xI a c 1 b fun a b=>xS a d 1 b fun a b=>K (.tup []) b)/\yF a 0 h fun i=>yF i 20 h fun i=>yL i 1 false h fun i=>yL g 2 true h fun j=>aq PP (.look (.pair .i64) (.c i) (.c j) (.bool false) false) h fun i=>vun .not i fun i=>vcond i (xI e b 1 h fun h i=>xL h 1 false i fun h i=>ag PP aS [h] i fun h i=>xI e b 1 i fun i j=>xS i h 1 j fun h i=>yF a 0 i fun a=>yF a 20 i fun a=>yL a 1 false i fun a=>yL g 2 true i fun g=>ab PP (.mupd (.pair .i64) (.c a) (.c g) (.c (.bool true))) i fun a g=>aF [b,c,d,e] [b,c,d,e]/\f [] g) (aF [b,c,d,e] [b,c,d,e]/\f [] h)
theorem tL (a0:D) (a1:D) (a2:D) (a3:D) (h0:Heap) (K:HK):nN a0 a1 a2 a3 h0 K=dZ og K [a0,a1,a2,a3] h0:=by kernel_rfl
def tE:TL
 | 1000015=>some ([],[2])|1000010=>some ([],[3])|_=>none
def wY:TT
 | 8=>some ([0,1,3,7,0,16,63,127],[6],[999999])|11=>some ([0,1,3,7,0,16,48,112,0,256,768,1792,3840,0,8192,32767,65535,131071,131071,262143],[],[])|13=>some ([0,1,3,7,15,0,32,127,255,511],[],[])|_=>none
noncomputable abbrev pV:=cFn PP true jT tE (cDr PP 75 wY)
noncomputable def p6:aH:=⟨75,aR pV,[.t 8]⟩
theorem wJ:pV=some p6:=by kernel_rfl
def pO (a:D) (b:D) (c:D) (d:D) (e:Heap) (K:HK):Prop :=
 ab PP (.box (.c b)) e fun b e=>∃(f:HJ),( ∀(a:Nat->D) (b:Heap),f [a 2] b->K (a 2) b)/\xF b 0 e fun e g=>xL e 1 false g fun e g=>vbin .eql e (.int .i64 2) fun h=>vcond h (xF b 1 g fun a b=>xL a 1 false b fun a b=>ag PP qP [a,c] b fun a b=>ab PP (.ext (.c a) 0) b fun b c=>ab PP (.ext (.c a) 1) c fun a c=>aF [] []/\f [b] c) (vbin .eql e (.int .i64 3) fun h=>vcond h (xF b 1 g fun a b=>xL a 1 false b fun a b=>ag PP kM [a,c,d] b fun a b=>ab PP (.ext (.c a) 0) b fun b c=>ab PP (.ext (.c a) 1) c fun a c=>aF [] []/\f [b] c) (vbin .eql e (.int .i64 4) fun h=>vcond h ( ∃(e:HJ),( ∀(a:Nat->D) (b:Heap),e [a 3] b->aF [] []/\f [(a 3)] b)/\vbin .eql c zJ fun c=>vcond c (yF a 0 g fun a=>yF a 10 g fun a=>yL a 7 true g fun a=>yF b 12 g fun b=>yL b 3 true g fun b=>ag PP cP [a,b] g fun a b=>aF [] []/\e [a] b) (aF [] []/\e [d] g)) (vbin .eql e (.int .i64 5) fun d=>vcond d (yF a 0 g fun c=>yF c 0 g fun c=>yL c 8 true g fun c=>yF a 0 g fun d=>yF d 8 g fun d=>yL d 2 true g fun d=>yF a 0 g fun a=>yF a 10 g fun a=>yF a 0 g fun a=>yL a 1 false g fun a=>yF b 1 g fun b=>yL b 1 false g fun b=>aq PP (.call qS [(.c c),(.c d),(.c a),(.c b)]) g fun a=>aq PP (.ext (.c a) 0) g fun b=>aq PP (.ext (.c a) 1) g fun a=>aF [] []/\f [b] g) (vbin .eql e (.int .i64 6) fun d=>vcond d (yF a 0 g fun a=>yF a 8 g fun a=>yF a 1 g fun a=>yL a 1 false g fun a=>yF b 2 g fun b=>yL b 1 false g fun b=>yI a b 1 g fun a=>yL a 1 false g fun a=>aF [] []/\f [a] g) (aF [] []/\f [c] g)))))
theorem wB (a0:D) (a1:D) (a2:D) (a3:D) (h0:Heap) (K:HK):pO a0 a1 a2 a3 h0 K=dZ p6 K [a0,a1,a2,a3] h0:=by kernel_rfl
def CM:TL
 | _=>none
def FN:TT
 | _=>none
noncomputable abbrev BT:=cFn PP true qQ CM (cDr PP 40 FN)
noncomputable def Ce:aH:=⟨40,aR BT,[.t 8]⟩
theorem Fy:BT=some Ce:=by kernel_rfl
def BH (a:D) (b:D) (c:D) (d:D) (e:Heap) (K:HK):Prop :=
 ab PP (.box (.c a)) e fun a e=>ab PP (.box (.c b)) e fun b e=>xF b 1 e fun e f=>xL e 1 false f fun e f=>vbin .eql e (.int .i64 1) fun e=>vcond e (xF a 7 f fun a b=>xL a 1 false b fun a b=>xI a c 1 b fun a b=>xL a 1 false b fun a b=>xI a d 1 b fun a b=>xL a 1 false b fun a b=>K a b) (xF b 1 f fun b e=>xL b 1 false e fun b e=>vbin .eql b (.int .i64 2) fun b=>vcond b (xF a 8 e fun a b=>xL a 1 false b fun a b=>xI a c 1 b fun a b=>xL a 1 false b fun a b=>xI a d 1 b fun a b=>xL a 1 false b fun a b=>K a b) (xF a 0 e fun a b=>xF a 5 b fun a b=>xL a 1 false b fun a b=>xI a c 1 b fun a b=>xL a 1 false b fun a b=>xI a d 1 b fun a b=>xL a 1 false b fun a b=>K a b))
theorem Fg (a0:D) (a1:D) (a2:D) (a3:D) (h0:Heap) (K:HK):BH a0 a1 a2 a3 h0 K=dZ Ce K [a0,a1,a2,a3] h0:=by kernel_rfl
def CL:TL
 | _=>none
def FM:TT
 | _=>none
noncomputable abbrev BS:=cFn PP true l8 CL (cDr PP 41 FM)
noncomputable def Cd:aH:=⟨41,aR BS,[]⟩
theorem Fx:BS=some Cd:=by kernel_rfl
def BG (a:D) (b:D) (c:D) (d:D) (e:D) (f:Heap) (K:HK):Prop :=
 ab PP (.box (.c a)) f fun a f=>ab PP (.box (.c b)) f fun b f=>xF b 1 f fun f g=>xL f 1 false g fun f g=>vbin .eql f (.int .i64 1) fun f=>vcond f (xF a 7 g fun a b=>xL a 1 false b fun a b=>xI a c 1 b fun a b=>xL a 1 false b fun a b=>xI a d 1 b fun a b=>xS a e 1 b fun a b=>K (.tup []) b) (xF b 1 g fun b f=>xL b 1 false f fun b f=>vbin .eql b (.int .i64 2) fun b=>vcond b (xF a 8 f fun a b=>xL a 1 false b fun a b=>xI a c 1 b fun a b=>xL a 1 false b fun a b=>xI a d 1 b fun a b=>xS a e 1 b fun a b=>K (.tup []) b) (xF a 0 f fun a b=>xF a 5 b fun a b=>xL a 1 false b fun a b=>xI a c 1 b fun a b=>xL a 1 false b fun a b=>xI a d 1 b fun a b=>xS a e 1 b fun a b=>K (.tup []) b))
theorem Ff (a0:D) (a1:D) (a2:D) (a3:D) (a4:D) (h0:Heap) (K:HK):BG a0 a1 a2 a3 a4 h0 K=dZ Cd K [a0,a1,a2,a3,a4] h0:=by kernel_rfl
def Ak:TL
 | _=>none
def Ej:TT
 | _=>none
noncomputable abbrev yO:=cFn PP true oH Ak (cDr PP 43 Ej)
noncomputable def zr:aH:=⟨43,aR yO,[.cell 4 2 true]⟩
theorem Dw:yO=some zr:=by kernel_rfl
def yr (a:D) (b:D) (c:Heap) (K:HK):Prop :=
 ab PP (.alloc (.agg [zJ,zI])) c fun c d=>ab PP (.conv .i64 (.c b)) d fun b d=>vbin .eql a (.int .i64 1) fun e=>vcond e (vun .neg b fun a=>ag PP cN [a] d fun a b=>ab PP (.bld [zJ,zI] [(0,1,(.c a))]) b fun a b=>xS c a 2 b fun a b=>xL c 2 true b fun a c=>K a b) (vbin .eql a (.int .i64 2) fun e=>vcond e (vun .neg b fun a=>vbin .sub a (.int .i64 1) fun a=>ag PP cN [a] d fun a b=>ab PP (.bld [zJ,zI] [(0,1,(.c a))]) b fun a b=>xS c a 2 b fun a b=>xL c 2 true b fun a c=>K a b) (vbin .eql a (.int .i64 3) fun e=>vcond e (vun .neg b fun a=>ab PP (.mx (.c b) (.c a)) d fun a b=>ag PP cN [a] b fun a b=>ab PP (.bld [zJ,zI] [(0,1,(.c a))]) b fun a b=>xS c a 2 b fun a b=>xL c 2 true b fun a c=>K a b) (vbin .eql a (.int .i64 4) fun e=>vcond e (vbin .mul b (.int .i64 65536) fun a=>ag PP cN [a] d fun a b=>ab PP (.bld [zJ,zI] [(0,1,(.c a))]) b fun a b=>xS c a 2 b fun a b=>xL c 2 true b fun a c=>K a b) (vbin .eql a (.int .i64 5) fun a=>vcond a (ag PP eE [b,(.int .i64 65536)] d fun a b=>ag PP cN [a] b fun a b=>ab PP (.bld [zJ,zI] [(0,1,(.c a))]) b fun a b=>xS c a 2 b fun a b=>xL c 2 true b fun a c=>K a b) (ab PP (.bld [zJ,zI] [(1,1,(.c (.int .i64 1)))]) d fun a b=>xS c a 2 b fun a b=>xL c 2 true b fun a c=>K a b)))))
theorem Db (a0:D) (a1:D) (h0:Heap) (K:HK):yr a0 a1 h0 K=dZ zr K [a0,a1] h0:=by kernel_rfl
def Af:TL
 | _=>none
def Ee:TT
 | 4=>some ([0,0,0,0,8,0,32,120,0,256,0,0,2048,7168,0,0,32768,114688,262143,524287],[],[])|_=>none
noncomputable abbrev yH:=cFn PP true oD Af (cDr PP 63 Ee)
noncomputable def zl:aH:=⟨63,aR yH,[.cell 8 2 true]⟩
theorem Dr:yH=some zl:=by kernel_rfl
def yj (a:D) (b:D) (c:D) (d:D) (e:Heap) (K:HK):Prop :=
 ab PP (.box (.c a)) e fun a e=>ab PP (.box (.c b)) e fun b e=>ab PP (.alloc (.agg [zJ,zI])) e fun e f=>vbin .lss d (.int .i64 1) fun g=>vguard g false (fun a=>a d f) f fun f h=>vguard g false (fun a=>vbin .gtr f (.int .i64 7) fun b=>a b h) h fun f h=>ab PP (.pick (.c g) (.c (.bool true)) (.c f)) h fun f g=>vguard f false (fun a=>a c g) g fun g h=>vguard f false (fun a=>vbin .lss g zI fun b=>a b h) h fun g h=>ab PP (.pick (.c f) (.c (.bool true)) (.c g)) h fun f g=>vguard f false (fun a=>a c g) g fun g h=>vguard f false (fun a=>xF b 0 h fun b c=>a b c) h fun h i=>vguard f false (fun a=>xL h 1 false i fun b c=>a b c) i fun h i=>vguard f false (fun b=>xF a 0 i fun a c=>b a c) i fun i j=>vguard f false (fun a=>xL i 1 false j fun b c=>a b c) j fun i j=>vguard f false (fun a=>vbin .mul h i fun b=>a b j) j fun h i=>vguard f false (fun a=>vbin .geq g h fun b=>a b i) i fun g h=>ab PP (.pick (.c f) (.c (.bool true)) (.c g)) h fun f g=>vcond f (ab PP (.bld [zJ,zI] [(1,1,(.c (.int .i64 1)))]) g fun a b=>xS e a 2 b fun a b=>xL e 2 true b fun a c=>K a b) (xL a 8 true g fun f g=>ag PP vU [f,c] g fun f g=>ab PP (.ext (.c f) 0) g fun g h=>ab PP (.ext (.c f) 1) h fun f h=>yF b 0 h fun b=>yL b 1 false h fun b=>yF a 0 h fun i=>yL i 1 false h fun i=>vbin .mul b i fun b=>yF a 0 h fun i=>yL i 1 false h fun i=>yF a 1 h fun j=>yL j 1 false h fun j=>vbin .rem f j fun j=>yF a 1 h fun a=>yL a 1 false h fun a=>vbin .quo f a fun a=>aq PP (.bldS false 1 8 zI [(0,(.c zI)),(1,(.c c)),(2,(.c f)),(3,(.c g)),(4,(.c b)),(5,(.c i)),(6,(.c j)),(7,(.c a))]) h fun a=>xI a d 1 h fun a b=>xL a 1 false b fun a b=>ab PP (.conv .i32 (.c a)) b fun a b=>ab PP (.bld [zJ,zI] [(0,1,(.c a))]) b fun a b=>xS e a 2 b fun a b=>xL e 2 true b fun a c=>K a b)
theorem C6 (a0:D) (a1:D) (a2:D) (a3:D) (h0:Heap) (K:HK):yj a0 a1 a2 a3 h0 K=dZ zl K [a0,a1,a2,a3] h0:=by kernel_rfl
def xE:TL
 | 1000008=>some ([5],[])|3=>some ([1,5,11,12],[13])|_=>none
def CE:TT
 | _=>none
noncomputable abbrev uW:=cFn PP true mY xE (cDr PP 27 CE)
noncomputable def vA:aH:=⟨27,aR uW,[.t 4]⟩
theorem Bh:uW=some vA:=by kernel_rfl
def nL (a:Heap) (b:D) (c:D) (d:D) (e:D) (f:HJ):Prop :=
 ∃(g:Nat->HJ) (h:Nat),g h [zI] a/\∀(a:Nat) (h:Nat->D) (i:Heap),g a [h 13] i->vbin .lss (h 13) b fun j=>vcond j (xI c (h 13) 4 i fun f i=>xL f 4 true i fun f i=>ab PP (.alloc (.agg [(.str ⟨#[]⟩),zI,zI,zI])) i fun i j=>xS i f 4 j fun f j=>xL i 4 true j fun f i=>ag PP jr [f,d] i fun f i=>ab PP (.mk 1 4 zJ (.c f) (.c f)) i fun f i=>xI e (h 13) 1 i fun i j=>xS i f 1 j fun f i=>vbin .add (h 13) (.int .i64 1) fun f=>aF [d,e,c,b] [d,e,c,b]/\∃b,b<a/\g b [f] i) (aF [e] [e]/\f [] i)
def uD (a:D) (b:D) (c:Heap) (K:HK):Prop :=
 bQ a c fun d=>ab PP (.mk 1 24 .nil (.c d) (.c d)) c fun c d=>∃(e:HJ),( ∀(a:Nat->D) (b:Heap),e [] b->K c b)/\bQ a d fun f=>nL d f a b c e
theorem AV (a0:D) (a1:D) (h0:Heap) (K:HK):uD a0 a1 h0 K=dZ vA K [a0,a1] h0:=by kernel_rfl
def xx:TL
 | 1000007=>some ([],[3])|3=>some ([0],[3,4])|_=>none
def Cx:TT
 | _=>none
noncomputable abbrev uP:=cFn PP true cO xx (cDr PP 13 Cx)
noncomputable def vq:aH:=⟨13,aR uP,[.t 2]⟩
theorem Ba:uP=some vq:=by kernel_rfl
def nJ (a:Heap) (b:D) (c:HJ):Prop :=
 ∃(d:Nat->HJ) (e:Nat),d e [(.int .i64 1),zI] a/\∀(a:Nat) (e:Nat->D) (f:Heap),d a [e 3,e 4] f->vbin .lss (e 4) b fun g=>vcond g (vbin .mul (.int .i64 2) (e 3) fun c=>vbin .add (e 4) (.int .i64 1) fun e=>aF [b] [b]/\∃b,b<a/\d b [c,e] f) (aF [] []/\c [(e 3)] f)
def uv (a:D) (b:Heap) (K:HK):Prop :=
 ∃(c:HJ),( ∀(a:Nat->D) (b:Heap),c [a 3] b->K (a 3) b)/\nJ b a c
theorem AO (a0:D) (h0:Heap) (K:HK):uv a0 h0 K=dZ vq K [a0] h0:=by kernel_rfl
def qW:TL
 | _=>none
def vH:TT
 | _=>none
noncomputable abbrev nR:=cFn PP true gy qW (cDr PP 10 vH)
noncomputable def nZ:aH:=⟨10,aR nR,[.t 4]⟩
theorem tQ:nR=some nZ:=by kernel_rfl
def nI (a:D) (b:D) (c:Heap) (K:HK):Prop :=
 vbin .eql b zI fun d=>vcond d (K zI c) (vbin .quo a b fun a=>K a c)
theorem tI (a0:D) (a1:D) (h0:Heap) (K:HK):nI a0 a1 h0 K=dZ nZ K [a0,a1] h0:=by kernel_rfl
def xy:TL
 | 1000005=>some ([],[5])|_=>none
def Cy:TT
 | _=>none
noncomputable abbrev uQ:=cFn PP true eE xy (cDr PP 16 Cy)
noncomputable def vr:aH:=⟨16,aR uQ,[.t 4]⟩
theorem Bb:uQ=some vr:=by kernel_rfl
def uw (a:D) (b:D) (c:Heap) (K:HK):Prop :=
 vbin .quo a b fun d=>∃(e:HJ),( ∀(a:Nat->D) (b:Heap),e [a 5] b->K (a 5) b)/\vbin .rem a b fun a=>vbin .lss a zI fun a=>vcond a (vbin .sub d (.int .i64 1) fun a=>aF [] []/\e [a] c) (aF [] []/\e [d] c)
theorem AP (a0:D) (a1:D) (h0:Heap) (K:HK):uw a0 a1 h0 K=dZ vr K [a0,a1] h0:=by kernel_rfl
def xz:TL
 | _=>none
def Cz:TT
 | _=>none
noncomputable abbrev uR:=cFn PP true mX xz (cDr PP 15 Cz)
noncomputable def vt:aH:=⟨15,aR uR,[.t 4]⟩
theorem Bc:uR=some vt:=by kernel_rfl
def uy (a:D) (b:D) (c:Heap) (K:HK):Prop :=
 vbin .lss b zI fun d=>vcond d (vun .neg a fun a=>vun .neg b fun b=>ag PP eE [a,b] c fun a b=>K a b) (ag PP eE [a,b] c fun a b=>K a b)
theorem AQ (a0:D) (a1:D) (h0:Heap) (K:HK):uy a0 a1 h0 K=dZ vt K [a0,a1] h0:=by kernel_rfl
def nu:TL
 | 1000005=>some ([0,5],[6])|_=>none
def qa:TT
 | 5=>some ([0,0,0,4,0,16,48,112,240,0,1008,2032,4080,8176,16368,32764,65534,131071],[3,17],[999999])|6=>some ([0,0,1,7],[3],[])|_=>none
noncomputable abbrev kA:=cFn PP true eO nu (cDr PP 39 qa)
noncomputable def kF:aH:=⟨39,aR kA,[.t 4,.cell 5 3 true]⟩
theorem pA:kA=some kF:=by kernel_rfl
def ku (a:D) (b:D) (c:Heap) (K:HK):Prop :=
 ab PP (.alloc (.agg [zI,zI,zJ])) c fun c d=>ag PP ak [a] d fun d e=>vbin .rem d (.int .i64 5) fun d=>∃(f:HJ),( ∀(b:Nat->D) (d:Heap),f [b 6] d->ag PP bg [a] d fun d e=>ab PP (.alloc (.agg [zI,zI,zJ])) e fun e f=>xS e d 3 f fun d f=>yL e 3 true f fun d=>yF a 0 f fun g=>yF g 2 f fun h=>yF h 5 f fun i=>yL i 1 false f fun j=>yI j (b 6) 4 f fun k=>yF k 3 f fun l=>yL l 1 false f fun m=>vbin .sub m (.int .i64 1) fun n=>aq PP (.conv .i32 (.c n)) f fun n=>ag PP aY [a] f fun f o=>((yL e 3 true o fun a=>aF [a] [d])/\(yF a 0 o fun a=>aF [a] [g])/\(yF g 2 o fun a=>aF [a] [h])/\(yF h 5 o fun a=>aF [a] [i])/\(yL i 1 false o fun a=>aF [a] [j])/\(yI j (b 6) 4 o fun a=>aF [a] [k])/\(yF k 3 o fun a=>aF [a] [l])/\(yL l 1 false o fun a=>aF [a] [m])/\True)/\aq PP (.call eD [(.c n)]) o fun g=>aq PP (.bld [zI,zI,zI,zI,zI,zJ,zI,zI,zJ,zI,zI,zJ,zI,zI,zJ] [(0,1,(.c (.int .i64 3))),(1,1,(.c (.int .i64 17))),(3,3,(.c d)),(6,3,(.c f)),(9,3,(.c g))]) o fun d=>ag PP aN [a,d] o fun a d=>yL e 3 true d fun a=>xS c a 3 d fun a d=>xL c 3 true d fun a c=>K (.tup [(b 6),a]) d)/\vbin .eql d (.int .i64 3) fun g=>vguard g true (fun a=>a b e) e fun b e=>vguard g true (fun a=>vun .not b fun b=>a b e) e fun b e=>ab PP (.pick (.c g) (.c b) (.c (.bool false))) e fun b e=>vcond b (aF [a,c] [a,c]/\f [zI] e) (aF [a,c] [a,c]/\f [d] e)
theorem pk (a0:D) (a1:D) (h0:Heap) (K:HK):ku a0 a1 h0 K=dZ kF K [a0,a1] h0:=by kernel_rfl
def ql:TL
 | _=>none
def tv:TT
 | _=>none
noncomputable abbrev mJ:=cFn PP true fU ql (cDr PP 31 tv)
noncomputable def mQ:aH:=⟨31,aR mJ,[.t 4]⟩
theorem sV:mJ=some mQ:=by kernel_rfl
def mC (a:D) (b:D) (c:Heap) (K:HK):Prop :=
 xF a 0 c fun c d=>xF c 0 d fun c d=>xF c 5 d fun c d=>xL c 1 false d fun c d=>xI c b 4 d fun b c=>xF b 1 c fun b c=>xL b 1 false c fun b c=>vbin .eql b (.int .i64 1) fun d=>vcond d (xF a 0 c fun a b=>xF a 17 b fun a b=>xL a 1 false b fun a b=>K a b) (vbin .eql b (.int .i64 2) fun b=>vcond b (xF a 0 c fun a b=>xF a 18 b fun a b=>xL a 1 false b fun a b=>K a b) (xF a 0 c fun a b=>xF a 10 b fun a b=>xF a 5 b fun a b=>xL a 1 false b fun a b=>K a b))
theorem sg (a0:D) (a1:D) (h0:Heap) (K:HK):mC a0 a1 h0 K=dZ mQ K [a0,a1] h0:=by kernel_rfl
def qe:TL
 | _=>none
def ti:TT
 | 4=>some ([0,0,3,7,0,0,48,112,15,511],[],[])|_=>none
noncomputable abbrev mD:=cFn PP true iE qe (cDr PP 23 ti)
noncomputable def mK:aH:=⟨23,aR mD,[.t 4,.t 5]⟩
theorem sG:mD=some mK:=by kernel_rfl
def ml (a:D) (b:D) (c:Heap) (K:HK):Prop :=
 vbin .eql b zJ fun d=>vcond d (K (.tup [zJ,a]) c) (ab PP (.conv .i64 (.c a)) c fun a c=>ab PP (.conv .i64 (.c b)) c fun b c=>vbin .quo a b fun d=>aq PP (.conv .i32 (.c d)) c fun d=>vbin .rem a b fun a=>aq PP (.conv .i32 (.c a)) c fun a=>K (.tup [d,a]) c)
theorem rN (a0:D) (a1:D) (h0:Heap) (K:HK):ml a0 a1 h0 K=dZ mK K [a0,a1] h0:=by kernel_rfl
def vX:TL
 | 1000005=>some ([],[5])|_=>none
def zG:TT
 | 1=>some ([0,0,3,0,0,24,7,127],[],[])|_=>none
noncomputable abbrev sk:=cFn PP true lu vX (cDr PP 25 zG)
noncomputable def sH:aH:=⟨25,aR sk,[.t 4]⟩
theorem yY:sk=some sH:=by kernel_rfl
def rO (a:D) (b:D) (c:Heap) (K:HK):Prop :=
 vbin .quo a b fun d=>vbin .rem a b fun a=>∃(e:HJ),( ∀(a:Nat->D) (b:Heap),e [a 5] b->K (a 5) b)/\vbin .neq a zI fun f=>vguard f true (fun b=>b a c) c fun a c=>vguard f true (fun b=>vbin .lss a zI fun a=>b a c) c fun a c=>vguard f true (fun a=>a b c) c fun b c=>vguard f true (fun a=>vbin .lss b zI fun b=>a b c) c fun b c=>vguard f true (fun d=>ab PP (.eqv true false [.b] (.c a) (.c b)) c fun a b=>d a b) c fun a b=>ab PP (.pick (.c f) (.c a) (.c (.bool false))) b fun a b=>vcond a (vbin .sub d (.int .i64 1) fun a=>aF [] []/\e [a] b) (aF [] []/\e [d] b)
theorem xX (a0:D) (a1:D) (h0:Heap) (K:HK):rO a0 a1 h0 K=dZ sH K [a0,a1] h0:=by kernel_rfl
def qV:TL
 | _=>none
def vG:TT
 | _=>none
noncomputable abbrev nQ:=cFn PP true gw qV (cDr PP 45 vG)
noncomputable def nX:aH:=⟨45,aR nQ,[.t 6,.t 7]⟩
theorem tP:nQ=some nX:=by kernel_rfl
def nD (a:D) (b:D) (c:D) (d:Heap) (K:HK):Prop :=
 vbin .eql a (.int .i64 24) fun e=>vcond e (vbin .eql b c fun a=>ag PP cr [a] d fun a b=>K (.tup [a,zI]) b) (vbin .eql a (.int .i64 25) fun e=>vcond e (vbin .neq b c fun a=>ag PP cr [a] d fun a b=>K (.tup [a,zI]) b) (vbin .eql a (.int .i64 26) fun e=>vcond e (vbin .lss b c fun a=>ag PP cr [a] d fun a b=>K (.tup [a,zI]) b) (vbin .eql a (.int .i64 27) fun e=>vcond e (vbin .leq b c fun a=>ag PP cr [a] d fun a b=>K (.tup [a,zI]) b) (vbin .eql a (.int .i64 28) fun e=>vcond e (vbin .gtr b c fun a=>ag PP cr [a] d fun a b=>K (.tup [a,zI]) b) (vbin .eql a (.int .i64 29) fun a=>vcond a (vbin .geq b c fun a=>ag PP cr [a] d fun a b=>K (.tup [a,zI]) b) (K (.tup [zJ,(.int .i64 1)]) d))))))
theorem tH (a0:D) (a1:D) (a2:D) (h0:Heap) (K:HK):nD a0 a1 a2 h0 K=dZ nX K [a0,a1,a2] h0:=by kernel_rfl
end Go.Am
namespace Go.Am
open Go Go.Proofs
def CJ:TL
 | 1000014=>some ([],[])|1000010=>some ([1],[])|_=>none
def FL:TT
 | _=>none
noncomputable abbrev BR:=cFn PP true qP CJ (cDr PP 28 FL)
noncomputable def Cc:aH:=⟨28,aR BR,[.t 4,.t 5]⟩
theorem Fw:BR=some Cc:=by kernel_rfl
def BF (a:D) (b:D) (c:Heap) (K:HK):Prop :=
 ∃(d:HJ),( ∀(a:Nat->D) (b:Heap),d [] b->K (.tup [zJ,(.int .i64 1)]) b)/\∃(e:HJ),( ∀(a:Nat->D) (c:Heap),e [] c->vun .neg b fun a=>K (.tup [a,zI]) c)/\vbin .eql a (.int .i64 3) fun f=>vcond f (vbin .geq b zJ fun a=>vcond a (K (.tup [b,zI]) c) (aF [b] [b]/\e [] c)) (vbin .eql a (.int .i64 1) fun f=>vcond f (aF [b] [b]/\e [] c) (vbin .eql a (.int .i64 2) fun e=>vcond e (vun .xor b fun a=>K (.tup [a,zI]) c) (vbin .eql a (.int .i64 4) fun e=>vcond e (vbin .shl b (.int .u64 16) fun a=>K (.tup [a,zI]) c) (vbin .eql a (.int .i64 5) fun a=>vcond a (vbin .shr b (.int .u64 16) fun a=>K (.tup [a,zI]) c) (aF [] []/\d [] c)))))
theorem Fe (a0:D) (a1:D) (h0:Heap) (K:HK):BF a0 a1 h0 K=dZ Cc K [a0,a1] h0:=by kernel_rfl
def CS:TL
 | 1000023=>some ([],[13])|_=>none
def FU:TT
 | _=>none
noncomputable abbrev BZ:=cFn PP true qS CS (cDr PP 63 FU)
noncomputable def Ck:aH:=⟨63,aR BZ,[.t 8,.t 9]⟩
theorem FF:BZ=some Ck:=by kernel_rfl
def BN (a:D) (b:D) (c:D) (d:D) (e:Heap) (K:HK):Prop :=
 ab PP (.box (.c a)) e fun a e=>ab PP (.box (.c b)) e fun b e=>xF b 0 e fun b e=>xL b 1 false e fun b e=>xF a 0 e fun e f=>xL e 1 false f fun e f=>vbin .mul b e fun b=>vbin .lss c zI fun e=>vguard e false (fun a=>a c f) f fun f g=>vguard e false (fun a=>a b g) g fun g h=>vguard e false (fun a=>vbin .geq f g fun b=>a b h) h fun f g=>ab PP (.pick (.c e) (.c (.bool true)) (.c f)) g fun e f=>vcond e (K (.tup [zJ,(.int .i64 1)]) f) (xL a 8 true f fun e f=>ag PP qR [e,c] f fun e f=>ab PP (.ext (.c e) 0) f fun f g=>ab PP (.ext (.c e) 1) g fun e g=>∃(h:HJ),( ∀(a:Nat->D) (b:Heap),h [a 13] b->ab PP (.conv .i32 (.c (a 13))) b fun a b=>K (.tup [a,zI]) b)/\vbin .eql d (.int .i64 1) fun i=>vcond i (aF [] []/\h [c] g) (vbin .eql d (.int .i64 2) fun c=>vcond c (aF [] []/\h [e] g) (vbin .eql d (.int .i64 3) fun c=>vcond c (aF [] []/\h [f] g) (vbin .eql d (.int .i64 4) fun c=>vcond c (aF [] []/\h [b] g) (vbin .eql d (.int .i64 5) fun b=>vcond b (xF a 0 g fun a b=>xL a 1 false b fun a b=>aF [] []/\h [a] b) (vbin .eql d (.int .i64 6) fun b=>vcond b (xF a 1 g fun a b=>xL a 1 false b fun a b=>vbin .rem e a fun a=>aF [] []/\h [a] b) (vbin .eql d (.int .i64 7) fun b=>vcond b (xF a 1 g fun a b=>xL a 1 false b fun a b=>vbin .quo e a fun a=>aF [] []/\h [a] b) (K (.tup [zJ,(.int .i64 1)]) g))))))))
theorem Fo (a0:D) (a1:D) (a2:D) (a3:D) (h0:Heap) (K:HK):BN a0 a1 a2 a3 h0 K=dZ Ck K [a0,a1,a2,a3] h0:=by kernel_rfl
def EN:TL
 | _=>none
def GH:TT
 | 1=>some ([0,0,2,7,0,0,32,112,15,511],[],[])|_=>none
noncomputable abbrev Fu:=cFn PP true vU EN (cDr PP 14 GH)
noncomputable def FA:aH:=⟨14,aR Fu,[.t 4,.t 5]⟩
theorem F9:Fu=some FA:=by kernel_rfl
def Fi (a:D) (b:D) (c:Heap) (K:HK):Prop :=
 ab PP (.box (.c a)) c fun a c=>yF a 0 c fun d=>yL d 1 false c fun d=>vbin .quo b d fun d=>yF a 0 c fun a=>yL a 1 false c fun a=>vbin .rem b a fun a=>K (.tup [d,a]) c
theorem F7 (a0:D) (a1:D) (h0:Heap) (K:HK):Fi a0 a1 h0 K=dZ FA K [a0,a1] h0:=by kernel_rfl
def vW:TL
 | _=>none
def zF:TT
 | _=>none
noncomputable abbrev sj:=cFn PP true cr vW (cDr PP 4 zF)
noncomputable def sF:aH:=⟨4,aR sj,[.t 2]⟩
theorem yX:sj=some sF:=by kernel_rfl
def rM (a:D) (b:Heap) (K:HK):Prop :=
 vcond a (K (.int .i32 1) b) (K (.int .i32 0) b)
theorem xW (a0:D) (h0:Heap) (K:HK):rM a0 h0 K=dZ sF K [a0] h0:=by kernel_rfl
def CR:TL
 | _=>none
def FT:TT
 | 1=>some ([0,0,2,7,0,0,32,112,15,511],[],[])|_=>none
noncomputable abbrev BY:=cFn PP true qR CR (cDr PP 14 FT)
noncomputable def Cj:aH:=⟨14,aR BY,[.t 4,.t 5]⟩
theorem FE:BY=some Cj:=by kernel_rfl
def BM (a:D) (b:D) (c:Heap) (K:HK):Prop :=
 ab PP (.box (.c a)) c fun a c=>yF a 0 c fun d=>yL d 1 false c fun d=>vbin .quo b d fun d=>yF a 0 c fun a=>yL a 1 false c fun a=>vbin .rem b a fun a=>K (.tup [d,a]) c
theorem Fm (a0:D) (a1:D) (h0:Heap) (K:HK):BM a0 a1 h0 K=dZ Cj K [a0,a1] h0:=by kernel_rfl
end Go.Am
namespace Go.Am
open Go Go.Proofs
def lL (a:D) (b:Heap) (K:HK):Prop :=
 xF a 0 b fun b c=>xF b 2 c fun b c=>xF b 6 c fun b c=>xL b 1 false c fun b c=>bQ b c fun b=>vbin .mul (.int .i64 2) b fun b=>vbin .add (.int .i64 6) b fun b=>ag PP ak [a] c fun c d=>vbin .rem c (.int .i64 3) fun c=>vbin .add (.int .i64 1) c fun c=>vbin .add b (.int .i64 2) fun e=>xF a 0 d fun d f=>xF d 2 f fun d f=>xF d 2 f fun d f=>xS d e 1 f fun d e=>xF a 0 e fun d e=>xF d 2 e fun d e=>xF d 7 e fun d e=>xL d 1 false e fun d e=>bQ d e fun d=>ag PP dp [b] e fun e f=>ag PP eD [zJ] f fun f g=>ab PP (.bld [zI,zI,zI,zI,zI,zJ,zI,zI,zJ,zI,zI,zJ,zI,zI,zJ] [(0,1,(.c (.int .i64 1))),(3,3,(.c e)),(6,3,(.c f))]) g fun e f=>ag PP aN [a,e] f fun e f=>xF a 0 f fun e f=>xF e 2 f fun e f=>xF e 7 f fun e f=>xL e 1 false f fun e f=>vbin .sub d (.int .i64 1) fun g=>ab PP (.bld [zI,zI] [(0,1,(.c d)),(1,1,(.c zI))]) f fun f h=>ab PP (.bld [zI,zI,zI,zI,zJ,zI,zI,zJ,zI,zI,zJ,zI,zI] [(0,1,(.c (.int .i64 1))),(11,2,(.c f))]) h fun f h=>xI e g 14 h fun e g=>xF e 1 g fun e g=>xS e f 13 g fun e f=>∃(e:HJ),( ∀(a:Nat->D) (b:Heap),e [a 0,a 2,a 3,a 4] b->ag PP bh [(a 0)] b fun b c=>vbin .add (a 2) (.int .i64 1) fun b=>ag PP dp [b] c fun b c=>ag PP dp [(a 2)] c fun c d=>ab PP (.conv .i32 (.c (a 3))) d fun d e=>ag PP eD [d] e fun d e=>ab PP (.bld [zI,zI,zI,zI,zI,zJ,zI,zI,zJ,zI,zI,zJ,zI,zI,zJ] [(0,1,(.c (.int .i64 3))),(1,1,(.c (.int .i64 26))),(3,3,(.c b)),(6,3,(.c c)),(9,3,(.c d))]) e fun b c=>ag PP aN [(a 0),b] c fun b c=>yF (a 0) 0 c fun b=>yF b 2 c fun b=>yF b 7 c fun b=>yL b 1 false c fun b=>vbin .add (a 2) (.int .i64 1) fun d=>aq PP (.call dp [(.c d)]) c fun d=>vbin .add (a 4) (.int .i64 1) fun e=>vbin .add (a 4) (.int .i64 2) fun f=>aq PP (.bld [zI,zI] [(0,1,(.c e)),(1,1,(.c f))]) c fun e=>aq PP (.bld [zI,zI,zI,zI,zJ,zI,zI,zJ,zI,zI,zJ,zI,zI] [(0,1,(.c (.int .i64 2))),(5,3,(.c d)),(11,2,(.c e))]) c fun d=>yI b (a 4) 14 c fun b=>yF b 1 c fun b=>xS b d 13 c fun b c=>ag PP bh [(a 0)] c fun b c=>ag PP dp [(a 2)] c fun b c=>ag PP dp [(a 2)] c fun c d=>ag PP eD [(.int .i32 1)] d fun d e=>ab PP (.bld [zI,zI,zI,zI,zI,zJ,zI,zI,zJ,zI,zI,zJ,zI,zI,zJ] [(0,1,(.c (.int .i64 3))),(1,1,(.c (.int .i64 10))),(3,3,(.c b)),(6,3,(.c c)),(9,3,(.c d))]) e fun b c=>ag PP aN [(a 0),b] c fun b c=>ag PP ct [(a 0)] c fun b c=>xF (a 0) 0 c fun b c=>xF b 2 c fun b c=>xF b 7 c fun b c=>xL b 1 false c fun b c=>vbin .add (a 4) (.int .i64 1) fun d=>ab PP (.bld [zI,zI] [(0,1,(.c (a 4))),(1,1,(.c zI))]) c fun c e=>ab PP (.bld [zI,zI,zI,zI,zJ,zI,zI,zJ,zI,zI,zJ,zI,zI] [(0,1,(.c (.int .i64 1))),(11,2,(.c c))]) e fun c e=>xI b d 14 e fun b d=>xF b 1 d fun b d=>xS b c 13 d fun b c=>∃(b:HJ),( ∀(a:Nat->D) (c:Heap),b [a 0,a 4,a 119] c->vcond (a 119) (yF (a 0) 0 c fun b=>yF b 2 c fun d=>yF d 7 c fun e=>yL e 1 false c fun f=>vbin .add (a 4) (.int .i64 1) fun g=>vbin .add (a 4) (.int .i64 2) fun h=>aq PP (.bld [zI,zI] [(0,1,(.c (a 4))),(1,1,(.c h))]) c fun h=>ag PP bg [(a 0)] c fun c i=>((yF (a 0) 0 i fun a=>aF [a] [b])/\(yF b 2 i fun a=>aF [a] [d])/\(yF d 7 i fun a=>aF [a] [e])/\(yL e 1 false i fun a=>aF [a] [f])/\True)/\aq PP (.bld [zI,zI,zI,zI,zJ,zI,zI,zJ,zI,zI,zJ,zI,zI] [(0,1,(.c (.int .i64 2))),(5,3,(.c c)),(11,2,(.c h))]) i fun a=>yI f g 14 i fun b=>yF b 1 i fun b=>xS b a 13 i fun a b=>K (.tup []) b) (K (.tup []) c))/\ag PP ak [(a 0)] c fun c d=>vbin .rem c (.int .i64 3) fun c=>vbin .eql c zI fun c=>aF [] []/\b [(a 0),(a 4),c] d)/\xF a 0 f fun f g=>xF f 2 g fun f g=>xF f 6 g fun f g=>xL f 1 false g fun f g=>ab PP (.bld [zI,zI,zI] [(0,1,(.c d)),(1,1,(.c b)),(2,1,(.c c))]) g fun g h=>ab PP (.bldS true 3 1 (.agg [zI,zI,zI]) [(0,(.c g))]) h fun g h=>ab PP (.app (.c f) (.c g) 3 24 (.agg [zI,zI,zI])) h fun f g=>xF a 0 g fun g h=>xF g 2 h fun g h=>xF g 6 h fun g h=>xS g f 1 h fun f g=>aF [] []/\e [a,b,c,d] g
set_option maxHeartbeats 0 in
theorem qp (a0:D) (h0:Heap) (K:HK):lL a0 h0 K=dZ lV K [a0] h0:=by kernel_rfl
end Go.Am
namespace Go.Am
open Go Go.Proofs
def rZ (a:D) (b:D) (c:Heap) (K:HK):Prop :=
 ab PP (.box (.c a)) c fun a c=>ab PP (.box (.c b)) c fun b c=>ab PP (.alloc (.agg [zI,zI,zI,zI,zI,.nil,.nil,.nil,zI,.nil,zI,zI,zI,zI,.nil,.nil,.nil,.nil,.nil,.nil,zI])) c fun c d=>xL a 1 true d fun a d=>ag PP oC [a] d fun a d=>ab PP (.bld [zI,zI,zI,zI,zI,.nil,.nil,.nil,zI,.nil,zI,zI,zI,zI,.nil,.nil,.nil,.nil,.nil,.nil,zI] [(0,8,(.c a))]) d fun a d=>ab PP (.alloc (.agg [zI,zI,zI,zI,zI,.nil,.nil,.nil,zI,.nil,zI,zI,zI,zI,.nil,.nil,.nil,.nil,.nil,.nil,zI])) d fun d e=>xS d a 21 e fun a e=>∃(a:HJ),( ∀(e:Nat->D) (f:Heap),a [] f->xF d 0 f fun a e=>xL a 8 true e fun a e=>xF b 0 e fun e f=>xL e 13 true f fun e f=>ag PP lC [a,e] f fun a e=>xF d 8 e fun e f=>xS e a 2 f fun a e=>xF b 13 e fun a e=>xL a 1 false e fun a e=>ab PP (.conv .i64 (.c a)) e fun a e=>xF d 8 e fun e f=>xF e 0 f fun e f=>xL e 1 false f fun e f=>xF d 0 f fun f g=>xF f 0 g fun f g=>xL f 1 false g fun f g=>vbin .mul e f fun e=>vbin .rem a e fun a=>yF d 0 g fun e=>yL e 8 true g fun e=>yF d 8 g fun f=>yL f 2 true g fun f=>yF b 14 g fun h=>yL h 1 false g fun h=>vbin .rem h (.int .u8 13) fun h=>aq PP (.conv .i64 (.c h)) g fun h=>yF d 0 g fun i=>yL i 8 true g fun i=>yF b 0 g fun b=>yL b 13 true g fun b=>aq PP (.call lB [(.c i),(.c b)]) g fun b=>aq PP (.call mV [(.c e),(.c f),(.c a),(.c h),(.c b)]) g fun a=>yF d 10 g fun b=>xS b a 11 g fun a b=>xL d 21 true b fun a b=>xS c a 21 b fun a b=>xL c 21 true b fun a c=>K a b)/\xF b 13 e fun e f=>xL e 1 false f fun e f=>vbin .geq e (.int .u8 128) fun e=>vcond e (xF d 0 f fun e f=>xL e 8 true f fun e f=>ag PP lA [e] f fun e f=>xF d 0 f fun f g=>xS f e 8 g fun e f=>aF [b,c,d] [b,c,d]/\a [] f) (aF [b,c,d] [b,c,d]/\a [] f)
set_option maxHeartbeats 0 in
theorem yu (a0:D) (a1:D) (h0:Heap) (K:HK):rZ a0 a1 h0 K=dZ sT K [a0,a1] h0:=by kernel_rfl
end Go.Am
namespace Go.Am
open Go Go.Proofs
end Go.Am
namespace Go.Am
open Go Go.Proofs
end Go.Am
namespace Go.Am
open Go Go.Proofs
def mB (a:D) (b:D) (c:D) (d:Heap) (K:HK):Prop :=
 ab PP (.box (.c a)) d fun a d=>ab PP (.box (.c b)) d fun b d=>ab PP (.box (.c c)) d fun c d=>ag PP jg [] d fun d e=>vun .not d fun f=>vcond f (K (.bool false) e) (xL a 1 true e fun a e=>xL b 15 true e fun b e=>ag PP lE [a,b] e fun a b=>ab PP (.alloc (.agg [zI,zI,zI,zI,zI,.nil,.nil,.nil,zI,.nil,zI,zI,zI,zI,.nil,.nil,.nil,.nil,.nil,.nil,zI])) b fun b e=>xS b a 21 e fun a e=>xF b 0 e fun a e=>xL a 8 true e fun a e=>xF b 8 e fun e f=>xL e 2 true f fun e f=>xF b 10 f fun f g=>xL f 11 true g fun f g=>ag PP fu [a,e,f,zI] g fun a e=>ab PP (.alloc (.agg [zI,zI,zI,zI,.nil,.nil,.nil,.nil,.nil,.nil,zI])) e fun e f=>xS e a 11 f fun a f=>xF b 0 f fun a f=>xL a 8 true f fun a f=>xF b 10 f fun f g=>xF f 0 g fun f g=>xL f 7 true g fun f g=>ab PP (.iadda (.c c) (.c (.int .i64 1)) 2 1) g fun g h=>xL g 1 false h fun g h=>ab PP (.conv .i32 (.c g)) h fun g h=>ag PP iH [a,f,g] h fun a f=>ab PP (.alloc (.agg [zI,zI,zI,zI,.nil,.nil,.nil,zI])) f fun f g=>xS f a 8 g fun a g=>xF b 0 g fun a g=>xL a 8 true g fun a g=>xF b 8 g fun g h=>xL g 2 true h fun g h=>xF b 10 h fun h i=>xF h 0 i fun h i=>xF h 0 i fun h i=>xL h 1 false i fun h i=>ag PP eF [a,g,h] i fun a g=>ab PP (.alloc (.agg [zI,zI,zI,zI,.nil,.nil,.nil,zI])) g fun g h=>xS g a 8 h fun a h=>xF b 0 h fun a h=>xL a 8 true h fun a h=>xF b 8 h fun h i=>xL h 2 true i fun h i=>xF b 10 i fun i j=>xF i 0 j fun i j=>xL i 7 true j fun i j=>ag PP cQ [a,h,i] j fun a h=>vun .not a fun a=>vguard a false (fun a=>xF b 0 h fun b c=>a b c) h fun h i=>vguard a false (fun a=>xL h 8 true i fun b c=>a b c) i fun h i=>vguard a false (fun a=>xF b 8 i fun b c=>a b c) i fun i j=>vguard a false (fun a=>xL i 2 true j fun b c=>a b c) j fun i j=>vguard a false (fun a=>xF e 0 j fun b c=>a b c) j fun e j=>vguard a false (fun a=>xL e 7 true j fun b c=>a b c) j fun e j=>vguard a false (fun a=>ag PP cQ [h,i,e] j fun b c=>a b c) j fun e h=>vguard a false (fun a=>vun .not e fun b=>a b h) h fun e h=>ab PP (.pick (.c a) (.c (.bool true)) (.c e)) h fun a e=>vguard a false (fun a=>xF b 0 e fun b c=>a b c) e fun e h=>vguard a false (fun a=>xL e 8 true h fun b c=>a b c) h fun e h=>vguard a false (fun a=>xF b 8 h fun b c=>a b c) h fun h i=>vguard a false (fun a=>xL h 2 true i fun b c=>a b c) i fun h i=>vguard a false (fun a=>xF f 0 i fun b c=>a b c) i fun f i=>vguard a false (fun a=>xL f 7 true i fun b c=>a b c) i fun f i=>vguard a false (fun a=>ag PP cQ [e,h,f] i fun b c=>a b c) i fun e f=>vguard a false (fun a=>vun .not e fun b=>a b f) f fun e f=>ab PP (.pick (.c a) (.c (.bool true)) (.c e)) f fun a e=>vguard a false (fun a=>xF b 0 e fun b c=>a b c) e fun e f=>vguard a false (fun a=>xL e 8 true f fun b c=>a b c) f fun e f=>vguard a false (fun a=>xF b 8 f fun b c=>a b c) f fun f h=>vguard a false (fun a=>xL f 2 true h fun b c=>a b c) h fun f h=>vguard a false (fun a=>xF g 0 h fun b c=>a b c) h fun h i=>vguard a false (fun a=>xL h 7 true i fun b c=>a b c) i fun h i=>vguard a false (fun a=>ag PP cQ [e,f,h] i fun b c=>a b c) i fun e f=>vguard a false (fun a=>vun .not e fun b=>a b f) f fun e f=>ab PP (.pick (.c a) (.c (.bool true)) (.c e)) f fun a e=>vguard a false (fun a=>xF g 7 e fun b c=>a b c) e fun e f=>vguard a false (fun a=>xL e 1 false f fun b c=>a b c) f fun e f=>vguard a false (fun a=>vbin .neq e zI fun b=>a b f) f fun e f=>ab PP (.pick (.c a) (.c (.bool true)) (.c e)) f fun a e=>vcond a (K (.bool false) e) (xF b 10 e fun a e=>xF a 0 e fun a e=>xL a 7 true e fun a e=>ag PP gx [a] e fun a e=>ab PP (.alloc (.agg [zI,zI,zI,zI,.nil,.nil,.nil])) e fun e f=>xS e a 7 f fun a f=>∃(a:HJ),( ∀(c:Nat->D) (f:Heap),a [] f->yF b 0 f fun a=>yL a 8 true f fun a=>yF b 8 f fun c=>yL c 2 true f fun c=>yL e 7 true f fun g=>aq PP (.call cQ [(.c a),(.c c),(.c g)]) f fun a=>yF b 0 f fun c=>yL c 8 true f fun c=>yF b 8 f fun b=>yL b 2 true f fun b=>yL e 7 true f fun e=>aq PP (.call mU [(.c c),(.c b),(.c e)]) f fun b=>aq PP (.eqv false false [.b] (.c a) (.c b)) f fun a=>aP a true (fun a=>a d) fun b=>aq PP (.pick (.c a) (.c b) (.c (.bool false))) f fun a=>K a f)/\ab PP (.iadda (.c c) (.c zI) 2 1) f fun f g=>xL f 1 false g fun f g=>vbin .and f (.int .i64 7) fun f=>vbin .eql f zI fun h=>vcond h (xF e 0 g fun f g=>xL f 1 false g fun f g=>ab PP (.iadda (.c c) (.c (.int .i64 1)) 2 1) g fun c g=>xL c 1 false g fun c g=>vbin .add f c fun c=>xF e 0 g fun f g=>xS f c 1 g fun c f=>aF [d,b,e] [d,b,e]/\a [] f) (vbin .eql f (.int .i64 1) fun h=>vcond h (ab PP (.iadda (.c c) (.c (.int .i64 1)) 2 1) g fun c f=>xL c 1 false f fun c f=>vbin .and c (.int .i64 7) fun c=>xF e 1 f fun f g=>xS f c 1 g fun c f=>aF [d,b,e] [d,b,e]/\a [] f) (vbin .eql f (.int .i64 2) fun h=>vcond h (xF e 2 g fun f g=>xL f 1 false g fun f g=>ab PP (.iadda (.c c) (.c (.int .i64 1)) 2 1) g fun c g=>xL c 1 false g fun c g=>vbin .add f c fun c=>xF e 2 g fun f g=>xS f c 1 g fun c f=>aF [d,b,e] [d,b,e]/\a [] f) (vbin .eql f (.int .i64 3) fun h=>vcond h (xF e 3 g fun f g=>xL f 1 false g fun f g=>ab PP (.iadda (.c c) (.c (.int .i64 1)) 2 1) g fun c g=>xL c 1 false g fun c g=>vbin .add f c fun c=>xF e 3 g fun f g=>xS f c 1 g fun c f=>aF [d,b,e] [d,b,e]/\a [] f) (vbin .eql f (.int .i64 4) fun h=>vcond h (xF e 4 g fun f g=>xL f 1 false g fun f g=>ab PP (.iadda (.c c) (.c (.int .i64 1)) 2 1) g fun c g=>xL c 1 false g fun c g=>ab PP (.conv .i32 (.c c)) g fun c g=>ab PP (.bldS true 1 1 zJ [(0,(.c c))]) g fun c g=>ab PP (.app (.c f) (.c c) 1 4 zJ) g fun c f=>xF e 4 f fun f g=>xS f c 1 g fun c f=>aF [d,b,e] [d,b,e]/\a [] f) (vbin .eql f (.int .i64 5) fun h=>vcond h (xF e 6 g fun f g=>xL f 1 false g fun f g=>ab PP (.iadda (.c c) (.c (.int .i64 1)) 2 1) g fun c g=>xL c 1 false g fun c g=>ab PP (.conv .i32 (.c c)) g fun c g=>ab PP (.bldS true 1 1 zJ [(0,(.c c))]) g fun c g=>ab PP (.app (.c f) (.c c) 1 4 zJ) g fun c f=>xF e 6 f fun f g=>xS f c 1 g fun c f=>aF [d,b,e] [d,b,e]/\a [] f) (vbin .eql f (.int .i64 6) fun c=>vcond c (xF e 5 g fun c f=>xL c 1 false f fun c f=>ab PP (.bldS true 1 1 .nil [(0,(.c .nil))]) f fun f g=>ab PP (.app (.c c) (.c f) 1 24 .nil) g fun c f=>xF e 5 f fun f g=>xS f c 1 g fun c f=>aF [d,b,e] [d,b,e]/\a [] f) (xF e 1 g fun c f=>xS c (.int .i64 3) 1 f fun c f=>xF e 2 f fun c f=>xS c zI 1 f fun c f=>aF [d,b,e] [d,b,e]/\a [] f)))))))))
set_option maxHeartbeats 0 in
theorem sf (a0:D) (a1:D) (a2:D) (h0:Heap) (K:HK):mB a0 a1 a2 h0 K=dZ mP K [a0,a1,a2] h0:=by kernel_rfl
end Go.Am
namespace Go.Am
open Go Go.Proofs
end Go.Am

namespace Go.Am
open Go Go.Proofs
def CQ:TL
 | _=>none
def FR:TT
 | 10=>some ([0,1,0,4,15,31,63,127,63,319,1023,2047,4095,8191,8191,8191,40959,131071,262143,524287,1048575,2097151,1048575,8388607,16777215,33554431,67108863,134217727,134217727,402653183,1073741823,2147483647,4294967295,8589934591,17179869183],[],[])|_=>none
noncomputable abbrev BX:=cFn PP true jg CQ (cDr PP 118 FR)
noncomputable def Ci:aH:=⟨118,aR BX,[.t 0]⟩
theorem FD:BX=some Ci:=by kernel_rfl
def BL (a:Heap) (K:HK):Prop :=
 ag PP gW [(.int .i64 4)] a fun a b=>ag PP gW [(.int .i64 2)] b fun b c=>ab PP (.bld [zI,.nil] [(0,1,(.c (.int .i64 1)))]) c fun c d=>ab PP (.alloc (.agg [zI,zI,zI,zI,zI,.nil,.nil,.nil])) d fun d e=>ab PP (.alloc (.agg [zI,zI,zI,zI,zI,.nil,.nil,.nil])) e fun e f=>ab PP (.alloc (.agg [zI,.nil])) f fun f g=>xS d a 8 g fun a g=>xS e b 8 g fun a b=>xS f c 2 b fun a b=>xL d 8 true b fun a b=>xL f 2 true b fun b c=>ag PP eF [a,b,(.int .i64 2)] c fun a b=>ab PP (.alloc (.agg [zI,zI,zI,zI,.nil,.nil,.nil,zI])) b fun b c=>xS b a 8 c fun a c=>xL d 8 true c fun a c=>xL f 2 true c fun c g=>ag PP eF [a,c,(.int .i64 4)] g fun a c=>ab PP (.alloc (.agg [zI,zI,zI,zI,.nil,.nil,.nil,zI])) c fun c g=>xS c a 8 g fun a g=>xF b 7 g fun a g=>xL a 1 false g fun a g=>vbin .neq a zI fun a=>vguard a false (fun a=>xF c 7 g fun b c=>a b c) g fun c g=>vguard a false (fun a=>xL c 1 false g fun b c=>a b c) g fun c g=>vguard a false (fun a=>vbin .neq c (.int .i64 1) fun b=>a b g) g fun c g=>ab PP (.pick (.c a) (.c (.bool true)) (.c c)) g fun a c=>vguard a false (fun a=>xF b 0 c fun b c=>a b c) c fun c g=>vguard a false (fun a=>xF c 1 g fun b c=>a b c) g fun c g=>vguard a false (fun a=>xL c 1 false g fun b c=>a b c) g fun c g=>vguard a false (fun a=>vbin .neq c (.int .i64 1) fun b=>a b g) g fun c g=>ab PP (.pick (.c a) (.c (.bool true)) (.c c)) g fun a c=>vguard a false (fun a=>xF b 0 c fun b c=>a b c) c fun c g=>vguard a false (fun a=>xF c 4 g fun b c=>a b c) g fun c g=>vguard a false (fun a=>xL c 1 false g fun b c=>a b c) g fun c g=>vguard a false (fun a=>bQ c g fun b=>a b g) g fun c g=>vguard a false (fun a=>vbin .neq c (.int .i64 1) fun b=>a b g) g fun c g=>ab PP (.pick (.c a) (.c (.bool true)) (.c c)) g fun a c=>vcond a (K (.bool false) c) (xL d 8 true c fun a c=>xL f 2 true c fun c g=>xF b 0 g fun g h=>xL g 7 true h fun g h=>ab PP (.bldS true 1 4 zJ [(0,(.c zJ)),(1,(.c zJ)),(2,(.c zJ)),(3,(.c zJ))]) h fun h i=>ab PP (.bldS true 1 1 .nil [(0,(.c h))]) i fun h i=>ab PP (.bldS true 1 1 .nil [(0,(.c .nil))]) i fun i j=>ab PP (.bld [zI,zI,zI,zI,.nil,.nil,.nil,.nil,.nil,.nil,zI] [(0,7,(.c g)),(7,1,(.c h)),(8,1,(.c i))]) j fun g h=>ag PP fu [a,c,g,zI] h fun a c=>ab PP (.alloc (.agg [zI,zI,zI,zI,.nil,.nil,.nil,.nil,.nil,.nil,zI])) c fun c g=>xS c a 11 g fun a g=>xL e 8 true g fun a e=>xL f 2 true e fun e g=>xF b 0 g fun g h=>xL g 7 true h fun g h=>ab PP (.bldS true 1 2 zJ [(0,(.c zJ)),(1,(.c zJ))]) h fun h i=>ab PP (.bldS true 1 1 .nil [(0,(.c h))]) i fun h i=>ab PP (.bldS true 1 1 .nil [(0,(.c .nil))]) i fun i j=>ab PP (.bld [zI,zI,zI,zI,.nil,.nil,.nil,.nil,.nil,.nil,zI] [(0,7,(.c g)),(7,1,(.c h)),(8,1,(.c i))]) j fun g h=>ag PP fu [a,e,g,zI] h fun a e=>ab PP (.alloc (.agg [zI,zI,zI,zI,.nil,.nil,.nil,.nil,.nil,.nil,zI])) e fun e g=>xS e a 11 g fun a g=>xF c 10 g fun a g=>xL a 1 false g fun a g=>vbin .neq a zI fun a=>vguard a false (fun a=>xF e 10 g fun b c=>a b c) g fun g h=>vguard a false (fun a=>xL g 1 false h fun b c=>a b c) h fun g h=>vguard a false (fun a=>vbin .neq g (.int .i64 70) fun b=>a b h) h fun g h=>ab PP (.pick (.c a) (.c (.bool true)) (.c g)) h fun a g=>vguard a false (fun a=>xF c 9 g fun b c=>a b c) g fun g h=>vguard a false (fun a=>xL g 1 false h fun b c=>a b c) h fun g h=>vguard a false (fun a=>ab PP (.bld [zI,zI,zI,zI,zI,zI,zI,zI,zJ] [(0,1,(.c (.int .i64 2))),(2,1,(.c (.int .i64 2))),(5,1,(.c (.int .i64 1))),(7,1,(.c (.int .i64 2))),(8,1,(.c (.int .i32 7)))]) h fun b c=>a b c) h fun h i=>vguard a false (fun a=>ab PP (.bldS true 9 1 (.agg [zI,zI,zI,zI,zI,zI,zI,zI,zJ]) [(0,(.c h))]) i fun b c=>a b c) i fun h i=>vguard a false (fun a=>ag PP fj [g,h] i fun b c=>a b c) i fun g h=>vguard a false (fun a=>vun .not g fun b=>a b h) h fun g h=>ab PP (.pick (.c a) (.c (.bool true)) (.c g)) h fun a g=>vguard a false (fun a=>xF e 9 g fun b c=>a b c) g fun g h=>vguard a false (fun a=>xL g 1 false h fun b c=>a b c) h fun g h=>vguard a false (fun a=>bQ g h fun b=>a b h) h fun g h=>vguard a false (fun a=>vbin .neq g zI fun b=>a b h) h fun g h=>ab PP (.pick (.c a) (.c (.bool true)) (.c g)) h fun a g=>vguard a false (fun a=>xF c 0 g fun b c=>a b c) g fun g h=>vguard a false (fun a=>xF g 1 h fun b c=>a b c) h fun g h=>vguard a false (fun a=>xL g 1 false h fun b c=>a b c) h fun g h=>vguard a false (fun a=>vbin .neq g (.int .i64 3) fun b=>a b h) h fun g h=>ab PP (.pick (.c a) (.c (.bool true)) (.c g)) h fun a g=>vcond a (K (.bool false) g) (yF c 7 g fun a=>yL a 1 false g fun a=>aq PP (.bldS false 1 4 zJ [(0,(.c zJ)),(1,(.c zJ)),(2,(.c (.int .i32 7))),(3,(.c zJ))]) g fun h=>aq PP (.bldS false 1 1 .nil [(0,(.c h))]) g fun h=>aq PP (.call kN [(.c a),(.c h)]) g fun a=>aP a true (fun a=>yF e 7 g fun b=>a b) fun e=>aP a true (fun a=>yL e 1 false g fun b=>a b) fun e=>aP a true (fun a=>aq PP (.bldS false 1 2 zJ [(0,(.c zJ)),(1,(.c zJ))]) g fun b=>a b) fun h=>aP a true (fun a=>aq PP (.bldS false 1 1 .nil [(0,(.c h))]) g fun b=>a b) fun h=>aP a true (fun a=>aq PP (.call kN [(.c e),(.c h)]) g fun b=>a b) fun e=>aq PP (.pick (.c a) (.c e) (.c (.bool false))) g fun a=>aP a true (fun a=>yL d 8 true g fun b=>a b) fun e=>aP a true (fun a=>yL f 2 true g fun b=>a b) fun f=>aP a true (fun a=>yF c 0 g fun b=>a b) fun c=>aP a true (fun a=>yL c 7 true g fun b=>a b) fun c=>aP a true (fun a=>aq PP (.call cQ [(.c e),(.c f),(.c c)]) g fun b=>a b) fun c=>aq PP (.pick (.c a) (.c c) (.c (.bool false))) g fun a=>aP a true (fun a=>yF b 0 g fun b=>a b) fun c=>aP a true (fun a=>yL c 7 true g fun b=>a b) fun c=>aP a true (fun a=>aq PP (.call mb [(.c (.int .i32 9))]) g fun b=>a b) fun e=>aP a true (fun a=>aq PP (.call cP [(.c c),(.c e)]) g fun b=>a b) fun c=>aP a true (fun a=>vbin .eql c (.int .i32 9) fun b=>a b) fun c=>aq PP (.pick (.c a) (.c c) (.c (.bool false))) g fun a=>aP a true (fun a=>yL d 8 true g fun b=>a b) fun c=>aP a true (fun a=>yF b 0 g fun b=>a b) fun b=>aP a true (fun a=>yL b 7 true g fun b=>a b) fun b=>aP a true (fun a=>aq PP (.call iH [(.c c),(.c b),(.c (.int .i32 1))]) g fun b=>a b) fun b=>aP a true (fun a=>aq PP (.fld (.c b) 7 1 false) g fun b=>a b) fun b=>aP a true (fun a=>vbin .eql b (.int .i64 1) fun b=>a b) fun b=>aq PP (.pick (.c a) (.c b) (.c (.bool false))) g fun a=>K a g))
theorem Fl (h0:Heap) (K:HK):BL h0 K=dZ Ci K [] h0:=by kernel_rfl
end Go.Am
