/- The texts of the functions of this chapter, as the abstract machine has them. No condition. -/
import Derived.Test.YtemgkmgmnnaloaaProg
import Derived.KernelRfl
import Derived.Test.YtemgkmgmnnaloaaA3
set_option linter.unnecessarySimpa false
set_option linter.defProp false
set_option linter.unusedSectionVars false
set_option linter.unusedSimpArgs false
set_option linter.unusedVariables false
namespace Go.Am
open Go Go.Proofs
noncomputable abbrev PP:Program:=Try.prog
abbrev xL (a:D) (n:Nat) (b:Bool) (h:Heap) (K:HK):Prop:=ab PP (.ld (.c a) n b) h K
abbrev yL (a:D) (n:Nat) (b:Bool) (h:Heap) (K:D->Prop):Prop:=au PP (.ld (.c a) n b) h K
abbrev xF (a:D) (n:Nat) (h:Heap) (K:HK):Prop:=ab PP (.fadd (.c a) n) h K
abbrev yF (a:D) (n:Nat) (h:Heap) (K:D->Prop):Prop:=au PP (.fadd (.c a) n) h K
abbrev xI (a b:D) (n:Nat) (h:Heap) (K:HK):Prop:=ab PP (.iadd (.c a) (.c b) n) h K
abbrev yI (a b:D) (n:Nat) (h:Heap) (K:D->Prop):Prop:=au PP (.iadd (.c a) (.c b) n) h K
abbrev xS (a b:D) (n:Nat) (h:Heap) (K:HK):Prop:=ab PP (.st (.c a) (.c b) n) h K
abbrev eo (F:aK) (K:HK) (l:List D) (h:Heap):Prop:=vcC PP F.code (fun x e h'=>match x with|.exit _=>False|.pan=>False|_=>iy PP F.res K e h') (params l 0) h
abbrev zI:D:=.int .i64 0
abbrev zJ:D:=.int .i32 0
def aS:Option aK->bS
 | some F=>F.code
 | none=>.skip
abbrev lf:FuncId:=5
abbrev jb:FuncId:=9
abbrev lb:FuncId:=10
abbrev fo:FuncId:=11
abbrev kV:FuncId:=12
abbrev kC:FuncId:=13
abbrev kW:FuncId:=14
abbrev fM:FuncId:=15
abbrev jI:FuncId:=16
abbrev cN:FuncId:=19
abbrev lV:FuncId:=20
abbrev lW:FuncId:=21
abbrev kE:FuncId:=22
abbrev iD:FuncId:=23
abbrev fj:FuncId:=25
abbrev oi:FuncId:=26
abbrev gC:FuncId:=27
abbrev ff:FuncId:=29
abbrev gZ:FuncId:=30
abbrev oe:FuncId:=31
abbrev kX:FuncId:=32
abbrev kZ:FuncId:=33
abbrev mI:FuncId:=34
abbrev kY:FuncId:=35
abbrev qI:FuncId:=36
abbrev gN:FuncId:=37
abbrev mH:FuncId:=38
abbrev qJ:FuncId:=39
abbrev oj:FuncId:=40
abbrev fh:FuncId:=41
abbrev iE:FuncId:=42
abbrev fG:FuncId:=43
abbrev mN:FuncId:=44
abbrev bT:FuncId:=45
abbrev bE:FuncId:=46
abbrev gT:FuncId:=50
abbrev ak:FuncId:=51
abbrev la:FuncId:=52
abbrev dY:FuncId:=53
abbrev dw:FuncId:=54
abbrev bf:FuncId:=55
abbrev aZ:FuncId:=56
abbrev aY:FuncId:=57
abbrev ck:FuncId:=58
abbrev gk:FuncId:=59
abbrev dZ:FuncId:=60
abbrev aR:FuncId:=61
abbrev jk:FuncId:=62
abbrev gF:FuncId:=63
abbrev kU:FuncId:=64
abbrev ca:FuncId:=65
abbrev kT:FuncId:=66
abbrev kD:FuncId:=67
abbrev mJ:FuncId:=68
abbrev bu:FuncId:=69
abbrev gE:FuncId:=70
abbrev jj:FuncId:=71
abbrev du:FuncId:=72
abbrev eH:FuncId:=73
abbrev gR:FuncId:=74
abbrev ja:FuncId:=75
abbrev kB:FuncId:=76
abbrev cK:FuncId:=77
abbrev mK:FuncId:=78
abbrev aN:FuncId:=79
abbrev dg:FuncId:=80
abbrev et:FuncId:=81
abbrev hY:FuncId:=82
abbrev fC:FuncId:=83
abbrev fF:FuncId:=84
abbrev kA:FuncId:=85
abbrev jc:FuncId:=86
abbrev jJ:FuncId:=87
abbrev qF:FuncId:=88
abbrev lU:FuncId:=89
abbrev oh:FuncId:=90
abbrev og:FuncId:=91
abbrev mM:FuncId:=92
abbrev cM:FuncId:=93
abbrev gD:FuncId:=94
abbrev ez:FuncId:=95
abbrev mL:FuncId:=96
abbrev eN:FuncId:=97
abbrev fV:FuncId:=98
abbrev iC:FuncId:=99
abbrev kS:FuncId:=100
abbrev gB:FuncId:=101
abbrev qE:FuncId:=102
abbrev qH:FuncId:=103
abbrev vt:FuncId:=104
abbrev cf:FuncId:=105
abbrev qG:FuncId:=106
end Go.Am
namespace Go.Am
open Go Go.Proofs
def ox:TL
 | 1000016=>some ([7,9,10,11],[])|9=>some ([2,7,8,9,10,11],[12,13])|_=>none
def qu:TT
 | 6=>some ([0,1,3,7,0,16,48,127,255,511],[3,7],[999999])|_=>none
noncomputable abbrev lF:=cFn PP true lf ox (cDr PP 101 qu)
noncomputable def lL:aK:=⟨101,aS lF,[.t 6]⟩
theorem qi:lF=some lL:=by kernel_rfl
end Go.Am
namespace Go.Am
open Go Go.Proofs
def vI:TL
 | 1000005=>some ([3,4,5],[])|_=>none
def zy:TT
 | 6=>some ([0,1,0,4,0,0,32,96,224,0,512,0,2048,7680,16383,32767,65535],[16],[])|_=>none
noncomputable abbrev rZ:=cFn PP true lb vI (cDr PP 51 zy)
noncomputable def sE:aK:=⟨51,aS rZ,[.cell 4 21 true]⟩
theorem y0:rZ=some sE:=by kernel_rfl
def zU:TL
 | _=>none
def DQ:TT
 | _=>none
noncomputable abbrev yt:=cFn PP true fo zU (cDr PP 36 DQ)
noncomputable def yZ:aK:=⟨36,aS yt,[.cell 8 11 true]⟩
theorem C0:yt=some yZ:=by kernel_rfl
def xX (a:D) (b:D) (c:D) (d:D) (e:Heap) (K:HK):Prop :=
 ab PP (.box (.c a)) e fun a e=>ab PP (.box (.c b)) e fun b e=>ab PP (.box (.c c)) e fun c e=>ab PP (.alloc (.agg [zI,zI,zI,zI,.nil,.nil,.nil,.nil,.nil,.nil,zI])) e fun e f=>xL a 8 true f fun a f=>xL b 2 true f fun b f=>xF c 0 f fun f g=>xL f 7 true g fun f g=>xF c 7 g fun g h=>xL g 1 false h fun g h=>xF c 8 h fun c h=>xL c 1 false h fun c h=>ag PP qI [a,b,f,g,c,d] h fun a b=>ab PP (.ext (.c a) 0) b fun b c=>ab PP (.ext (.c a) 1) c fun c d=>ab PP (.ext (.c a) 2) d fun d f=>ab PP (.ext (.c a) 3) f fun f g=>ab PP (.ext (.c a) 4) g fun a g=>ab PP (.alloc (.agg [zI,zI,zI,zI,.nil,.nil,.nil])) g fun g h=>xS g b 7 h fun b h=>xL g 7 true h fun b g=>ab PP (.bld [zI,zI,zI,zI,.nil,.nil,.nil,.nil,.nil,.nil,zI] [(0,7,(.c b)),(7,1,(.c c)),(8,1,(.c d)),(9,1,(.c f)),(10,1,(.c a))]) g fun a b=>xS e a 11 b fun a b=>xL e 11 true b fun a c=>K a b
theorem CF (a0:D) (a1:D) (a2:D) (a3:D) (h0:Heap) (K:HK):xX a0 a1 a2 a3 h0 K=eo yZ K [a0,a1,a2,a3] h0:=by kernel_rfl
def vC:TL
 | 1000015=>some ([5,10,12],[])|8=>some ([4,5,6,7,10,11,12,13],[14])|_=>none
def zr:TT
 | 5=>some ([0,1,0,4,15,0,32,127,255,0,1023],[1,4,7,9,10],[999998,3])|10=>some ([0,0,0,0,0,24,56,0,128,0,0,1024,0,8064,16383,32767],[14,15],[999999])|_=>none
noncomputable abbrev rT:=cFn PP true kV vC (cDr PP 76 zr)
noncomputable def ss:aK:=⟨76,aS rT,[.cell 10 11 true]⟩
theorem yJ:rT=some ss:=by kernel_rfl
def ma (a:Heap) (b:D) (c:D) (d:D) (e:D) (f:D) (g:D) (h:D) (i:D) (j:HJ) (K:HK):Prop :=
 ∃(k:Nat->HJ) (l:Nat),k l [zI] a/\∀(a:Nat) (l:Nat->D) (m:Heap),k a [l 14] m->cb b m fun n=>vbin .lss (l 14) n fun n=>vcond n (yL c 8 true m fun j=>yL d 2 true m fun n=>yL e 11 true m fun o=>yI b (l 14) 15 m fun p=>yL p 15 true m fun p=>yF f 0 m fun q=>yL q 1 false m fun q=>yF f 2 m fun r=>yL r 1 false m fun r=>au PP (.bld [zI,zI,zI,zI,zI,zI,zI,zI,zJ] [(2,1,(.c q)),(3,1,(.c g)),(4,1,(.c r)),(5,1,(.c (l 14)))]) m fun q=>ag PP gN [j,n,o,p,q] m fun j m=>xS e j 11 m fun j m=>xF e 10 m fun j m=>xL j 1 false m fun j m=>vbin .neq j zI fun j=>vcond j (xF e 10 m fun a b=>xL a 1 false b fun a b=>xF h 10 b fun b c=>xS b a 1 c fun a b=>xL h 11 true b fun a b=>xS i a 11 b fun a b=>xL i 11 true b fun a c=>K a b) (vbin .add (l 14) (.int .i64 1) fun j=>aG [g,c,d,f,i,h,e,b] [g,c,d,f,i,h,e,b]/\∃b,b<a/\k b [j] m)) (aG [c,i,e] [c,i,e]/\j [] m)
def rD (a:D) (b:D) (c:D) (d:D) (e:D) (f:Heap) (K:HK):Prop :=
 ab PP (.box (.c a)) f fun a f=>ab PP (.box (.c b)) f fun b f=>ab PP (.box (.c c)) f fun c f=>ab PP (.box (.c d)) f fun d f=>ab PP (.alloc (.agg [zI,zI,zI,zI,.nil,.nil,.nil,.nil,.nil,.nil,zI])) f fun f g=>xL c 7 true g fun g h=>ab PP (.iadda (.c d) (.c zI) 2 1) h fun h i=>xL h 1 false i fun h i=>ab PP (.iadda (.c d) (.c (.int .i64 1)) 2 1) i fun i j=>xL i 1 false j fun i j=>ab PP (.bld [zI,zI,zI,zI,.nil,.nil,.nil,.nil,.nil,.nil,zI] [(0,7,(.c g)),(7,1,(.c h)),(8,1,(.c i))]) j fun g h=>ab PP (.alloc (.agg [zI,zI,zI,zI,.nil,.nil,.nil,.nil,.nil,.nil,zI])) h fun h i=>xS h g 11 i fun g i=>xF c 1 i fun g i=>xL g 1 false i fun g i=>vbin .neq g (.int .i64 1) fun g=>vcond g (xF h 10 i fun a b=>xS a (.int .i64 1) 1 b fun a b=>xL h 11 true b fun a b=>xS f a 11 b fun a b=>xL f 11 true b fun a c=>K a b) (yL c 7 true i fun g=>au PP (.iadda (.c d) (.c zI) 2 1) i fun j=>yL j 1 false i fun k=>au PP (.iadda (.c d) (.c (.int .i64 1)) 2 1) i fun l=>yL l 1 false i fun m=>ag PP iD [g] i fun i n=>((au PP (.iadda (.c d) (.c zI) 2 1) n fun a=>aG [a] [j])/\(yL j 1 false n fun a=>aG [a] [k])/\(au PP (.iadda (.c d) (.c (.int .i64 1)) 2 1) n fun a=>aG [a] [l])/\(yL l 1 false n fun a=>aG [a] [m])/\True)/\ag PP fj [k] n fun n o=>((au PP (.iadda (.c d) (.c (.int .i64 1)) 2 1) o fun a=>aG [a] [l])/\(yL l 1 false o fun a=>aG [a] [m])/\True)/\ag PP fj [m] o fun o p=>au PP (.bld [zI,zI,zI,zI,.nil,.nil,.nil,.nil,.nil,.nil,zI] [(0,7,(.c i)),(7,1,(.c n)),(8,1,(.c o))]) p fun i=>ab PP (.alloc (.agg [zI,zI,zI,zI,.nil,.nil,.nil,.nil,.nil,.nil,zI])) p fun n o=>((yL c 7 true o fun a=>aG [a] [g])/\(au PP (.iadda (.c d) (.c zI) 2 1) o fun a=>aG [a] [j])/\(yL j 1 false o fun a=>aG [a] [k])/\(au PP (.iadda (.c d) (.c (.int .i64 1)) 2 1) o fun a=>aG [a] [l])/\(yL l 1 false o fun a=>aG [a] [m])/\True)/\xS n i 11 o fun d g=>xF a 7 g fun d g=>xL d 1 false g fun d g=>xF c 2 g fun g i=>xL g 1 false i fun g i=>xI d g 14 i fun d g=>xF d 0 g fun d g=>xL d 1 false g fun d g=>∃(i:HJ),( ∀(b:Nat->D) (c:Heap),i [] c->xL a 8 true c fun a b=>xF n 0 b fun b c=>xL b 7 true c fun b c=>ag PP mH [a,b] c fun a b=>xF n 0 b fun b c=>xS b a 7 c fun a b=>xL n 11 true b fun a b=>xS f a 11 b fun a b=>xL f 11 true b fun a c=>K a b)/\ma g d a b n c e h f i K)
theorem xE (a0:D) (a1:D) (a2:D) (a3:D) (a4:D) (h0:Heap) (K:HK):rD a0 a1 a2 a3 a4 h0 K=eo ss K [a0,a1,a2,a3,a4] h0:=by kernel_rfl
def zV:TL
 | _=>none
def DR:TT
 | _=>none
noncomputable abbrev yu:=cFn PP true kC zV (cDr PP 19 DR)
noncomputable def y8:aK:=⟨19,aS yu,[.cell 6 8 true]⟩
theorem C2:yu=some y8:=by kernel_rfl
def xZ (a:D) (b:D) (c:D) (d:Heap) (K:HK):Prop :=
 ab PP (.box (.c a)) d fun a d=>ab PP (.box (.c b)) d fun b d=>ab PP (.alloc (.agg [zI,zI,zI,zI,.nil,.nil,.nil,zI])) d fun d e=>xL a 8 true e fun a e=>xL b 7 true e fun b e=>ag PP qJ [a,b,c] e fun a b=>ab PP (.ext (.c a) 0) b fun b c=>ab PP (.ext (.c a) 1) c fun a c=>ab PP (.alloc (.agg [zI,zI,zI,zI,.nil,.nil,.nil])) c fun c e=>xS c b 7 e fun b e=>xL c 7 true e fun b c=>ab PP (.bld [zI,zI,zI,zI,.nil,.nil,.nil,zI] [(0,7,(.c b)),(7,1,(.c a))]) c fun a b=>xS d a 8 b fun a b=>xL d 8 true b fun a c=>K a b
theorem CG (a0:D) (a1:D) (a2:D) (h0:Heap) (K:HK):xZ a0 a1 a2 h0 K=eo y8 K [a0,a1,a2] h0:=by kernel_rfl
def vD:TL
 | 1000008=>some ([6,7,8],[])|_=>none
def zt:TT
 | _=>none
noncomputable abbrev rU:=cFn PP true kW vD (cDr PP 40 zt)
noncomputable def su:aK:=⟨40,aS rU,[.cell 6 8 true]⟩
theorem yK:rU=some su:=by kernel_rfl
def rE (a:D) (b:D) (c:D) (d:Heap) (K:HK):Prop :=
 ab PP (.box (.c a)) d fun a d=>ab PP (.box (.c b)) d fun b d=>ab PP (.alloc (.agg [zI,zI,zI,zI,.nil,.nil,.nil,zI])) d fun d e=>xF b 1 e fun e f=>xL e 1 false f fun e f=>vbin .neq e (.int .i64 2) fun e=>vcond e (xL b 7 true f fun a b=>ab PP (.bld [zI,zI,zI,zI,.nil,.nil,.nil,zI] [(0,7,(.c a)),(7,1,(.c (.int .i64 1)))]) b fun a b=>xS d a 8 b fun a b=>xL d 8 true b fun a c=>K a b) (xF a 7 f fun a e=>xL a 1 false e fun a e=>xF b 2 e fun e f=>xL e 1 false f fun e f=>xI a e 14 f fun a e=>xF a 1 e fun a e=>xL a 13 true e fun a e=>ab PP (.alloc (.agg [zI,zI,zI,zI,zJ,zI,zI,zJ,zI,zI,zJ,zI,zI])) e fun e f=>xS e a 13 f fun a f=>xL b 7 true f fun a b=>ag PP iD [a] b fun a b=>ab PP (.alloc (.agg [zI,zI,zI,zI,.nil,.nil,.nil])) b fun b f=>xS b a 7 f fun a f=>∃(a:HJ),( ∀(c:Nat->D) (f:Heap),a [] f->xF b 1 f fun a c=>xS a (.int .i64 1) 1 c fun a c=>xF e 11 c fun a c=>ab PP (.iadda (.c a) (.c zI) 2 1) c fun a c=>xL a 1 false c fun a c=>xF b 2 c fun c e=>xS c a 1 e fun a c=>xL b 7 true c fun a b=>ab PP (.bld [zI,zI,zI,zI,.nil,.nil,.nil,zI] [(0,7,(.c a))]) b fun a b=>xS d a 8 b fun a b=>xL d 8 true b fun a c=>K a b)/\xF e 0 f fun f g=>xL f 1 false g fun f g=>vbin .eql f (.int .i64 4) fun f=>vcond f (xF b 4 g fun f g=>xL f 1 false g fun f g=>xF e 2 g fun g h=>xF g 1 h fun g h=>xL g 1 false h fun g h=>xI f g 1 h fun f g=>xS f c 1 g fun c f=>aG [d,e,b] [d,e,b]/\a [] f) (aG [d,e,b] [d,e,b]/\a [] g))
theorem xG (a0:D) (a1:D) (a2:D) (h0:Heap) (K:HK):rE a0 a1 a2 h0 K=eo su K [a0,a1,a2] h0:=by kernel_rfl
def xh:TL
 | _=>none
def BZ:TT
 | _=>none
noncomputable abbrev uA:=cFn PP true fM xh (cDr PP 19 BZ)
noncomputable def uQ:aK:=⟨19,aS uA,[.cell 6 8 true]⟩
theorem AO:uA=some uQ:=by kernel_rfl
def ud (a:D) (b:D) (c:D) (d:Heap) (K:HK):Prop :=
 ab PP (.box (.c a)) d fun a d=>ab PP (.box (.c b)) d fun b d=>ab PP (.alloc (.agg [zI,zI,zI,zI,.nil,.nil,.nil,zI])) d fun d e=>xL a 8 true e fun a e=>xL b 2 true e fun b e=>ag PP oj [a,b,c] e fun a b=>ab PP (.ext (.c a) 0) b fun b c=>ab PP (.ext (.c a) 1) c fun a c=>ab PP (.alloc (.agg [zI,zI,zI,zI,.nil,.nil,.nil])) c fun c e=>xS c b 7 e fun b e=>xL c 7 true e fun b c=>ab PP (.bld [zI,zI,zI,zI,.nil,.nil,.nil,zI] [(0,7,(.c b)),(7,1,(.c a))]) c fun a b=>xS d a 8 b fun a b=>xL d 8 true b fun a c=>K a b
theorem Ax (a0:D) (a1:D) (a2:D) (h0:Heap) (K:HK):ud a0 a1 a2 h0 K=eo uQ K [a0,a1,a2] h0:=by kernel_rfl
def s8:TL
 | _=>none
def wC:TT
 | 3=>some ([0,0,2,6,0,16,48,0,128,384,1023,2047,4095],[12],[])|_=>none
noncomputable abbrev pE:=cFn PP true jI s8 (cDr PP 31 wC)
noncomputable def pL:aK:=⟨31,aS pE,[.cell 6 8 true]⟩
theorem v5:pE=some pL:=by kernel_rfl
def ph (a:D) (b:D) (c:D) (d:Heap) (K:HK):Prop :=
 ab PP (.box (.c a)) d fun a d=>ab PP (.box (.c b)) d fun b d=>ab PP (.alloc (.agg [zI,zI,zI,zI,.nil,.nil,.nil,zI])) d fun d e=>vbin .lss c zI fun f=>vguard f false (fun a=>a c e) e fun e g=>vguard f false (fun a=>xF b 0 g fun b c=>a b c) g fun b g=>vguard f false (fun a=>xL b 1 false g fun b c=>a b c) g fun b g=>vguard f false (fun b=>xF a 0 g fun a c=>b a c) g fun g h=>vguard f false (fun a=>xL g 1 false h fun b c=>a b c) h fun g h=>vguard f false (fun a=>vbin .mul b g fun b=>a b h) h fun b g=>vguard f false (fun a=>vbin .geq e b fun b=>a b g) g fun b e=>ab PP (.pick (.c f) (.c (.bool true)) (.c b)) e fun b e=>vcond b (ab PP (.bld [zI,zI,zI,zI,.nil,.nil,.nil,zI] [(7,1,(.c (.int .i64 1)))]) e fun a b=>xS d a 8 b fun a b=>xL d 8 true b fun a c=>K a b) (yF a 2 e fun b=>yL b 1 false e fun b=>au PP (.mk 1 4 zJ (.c b) (.c b)) e fun b=>yF a 5 e fun f=>yL f 1 false e fun f=>au PP (.call fh [(.c f),(.c (.int .i64 3))]) e fun f=>yF a 3 e fun a=>yL a 1 false e fun a=>au PP (.mk 1 4 zJ (.c a) (.c a)) e fun a=>au PP (.bld [zI,zI,zI,zI,.nil,.nil,.nil] [(0,1,(.c c)),(1,1,(.c (.int .i64 1))),(4,1,(.c b)),(5,1,(.c f)),(6,1,(.c a))]) e fun a=>au PP (.bld [zI,zI,zI,zI,.nil,.nil,.nil,zI] [(0,7,(.c a))]) e fun a=>xS d a 8 e fun a b=>xL d 8 true b fun a c=>K a b)
theorem vT (a0:D) (a1:D) (a2:D) (h0:Heap) (K:HK):ph a0 a1 a2 h0 K=eo pL K [a0,a1,a2] h0:=by kernel_rfl
end Go.Am
namespace Go.Am
open Go Go.Proofs
def z7:TL
 | _=>none
def DV:TT
 | _=>none
noncomputable abbrev yy:=cFn PP true cN z7 (cDr PP 16 DV)
noncomputable def zf:aK:=⟨16,aS yy,[.t 4]⟩
theorem C6:yy=some zf:=by kernel_rfl
def yd (a:D) (b:D) (c:Heap) (K:HK):Prop :=
 ab PP (.box (.c a)) c fun a c=>ab PP (.box (.c b)) c fun b c=>xF b 0 c fun c d=>xL c 1 false d fun c d=>vbin .eql c (.int .i64 2) fun c=>vcond c (xF a 4 d fun a c=>xL a 1 false c fun a c=>xF b 1 c fun b c=>xL b 1 false c fun b c=>xI a b 1 c fun a b=>xL a 1 false b fun a b=>K a b) (xF b 2 d fun a b=>xL a 1 false b fun a b=>K a b)
theorem CL (a0:D) (a1:D) (h0:Heap) (K:HK):yd a0 a1 h0 K=eo zf K [a0,a1] h0:=by kernel_rfl
def Ck:TL
 | _=>none
def Fk:TT
 | _=>none
noncomputable abbrev Bw:=cFn PP true lV Ck (cDr PP 5 Fk)
noncomputable def BH:aK:=⟨5,aS Bw,[.cell 2 3 true]⟩
theorem E6:Bw=some BH:=by kernel_rfl
def Bj (a:D) (b:Heap) (K:HK):Prop :=
 ab PP (.alloc (.agg [zI,zI,zJ])) b fun b c=>ab PP (.bld [zI,zI,zJ] [(0,1,(.c (.int .i64 2))),(1,1,(.c a))]) c fun a c=>xS b a 3 c fun a c=>xL b 3 true c fun a b=>K a c
theorem EO (a0:D) (h0:Heap) (K:HK):Bj a0 h0 K=eo BH K [a0] h0:=by kernel_rfl
def Cl:TL
 | _=>none
def Fl:TT
 | _=>none
noncomputable abbrev By:=cFn PP true lW Cl (cDr PP 5 Fl)
noncomputable def BI:aK:=⟨5,aS By,[.cell 2 3 true]⟩
theorem E7:By=some BI:=by kernel_rfl
def Bk (a:D) (b:Heap) (K:HK):Prop :=
 ab PP (.alloc (.agg [zI,zI,zJ])) b fun b c=>ab PP (.bld [zI,zI,zJ] [(0,1,(.c (.int .i64 1))),(2,1,(.c a))]) c fun a c=>xS b a 3 c fun a c=>xL b 3 true c fun a b=>K a c
theorem EP (a0:D) (h0:Heap) (K:HK):Bk a0 h0 K=eo BI K [a0] h0:=by kernel_rfl
def Aa:TL
 | 1000014=>some ([],[])|_=>none
def DW:TT
 | _=>none
noncomputable abbrev yz:=cFn PP true kE Aa (cDr PP 108 DW)
noncomputable def zg:aK:=⟨108,aS yz,[.t 6]⟩
theorem C7:yz=some zg:=by kernel_rfl
def ye (a:D) (b:D) (c:D) (d:Heap) (K:HK):Prop :=
 ab PP (.box (.c a)) d fun a d=>ab PP (.box (.c b)) d fun b d=>ab PP (.box (.c c)) d fun c d=>∃(e:HJ),( ∀(a:Nat->D) (b:Heap),e [] b->K (.bool false) b)/\xF c 0 d fun d f=>xL d 1 false f fun d f=>vbin .lss d zI fun d=>vguard d false (fun a=>xF c 0 f fun b c=>a b c) f fun f g=>vguard d false (fun a=>xL f 1 false g fun b c=>a b c) g fun f g=>vguard d false (fun a=>xF b 0 g fun b c=>a b c) g fun b g=>vguard d false (fun a=>xL b 1 false g fun b c=>a b c) g fun b g=>vguard d false (fun b=>xF a 0 g fun a c=>b a c) g fun g h=>vguard d false (fun a=>xL g 1 false h fun b c=>a b c) h fun g h=>vguard d false (fun a=>vbin .mul b g fun b=>a b h) h fun b g=>vguard d false (fun a=>vbin .geq f b fun b=>a b g) g fun b f=>ab PP (.pick (.c d) (.c (.bool true)) (.c b)) f fun b d=>vguard b false (fun a=>xF c 3 d fun b c=>a b c) d fun d f=>vguard b false (fun a=>xL d 1 false f fun b c=>a b c) f fun d f=>vguard b false (fun a=>vbin .lss d zI fun b=>a b f) f fun d f=>ab PP (.pick (.c b) (.c (.bool true)) (.c d)) f fun b d=>vcond b (aG [] []/\e [] d) (xF c 2 d fun b d=>xL b 1 false d fun b d=>vbin .lss b zI fun b=>vguard b false (fun a=>xF c 2 d fun b c=>a b c) d fun d f=>vguard b false (fun a=>xL d 1 false f fun b c=>a b c) f fun d f=>vguard b false (fun b=>xF a 7 f fun a c=>b a c) f fun f g=>vguard b false (fun a=>xL f 1 false g fun b c=>a b c) g fun f g=>vguard b false (fun a=>cb f g fun b=>a b g) g fun f g=>vguard b false (fun a=>vbin .geq d f fun b=>a b g) g fun d f=>ab PP (.pick (.c b) (.c (.bool true)) (.c d)) f fun b d=>vcond b (aG [] []/\e [] d) (xF c 4 d fun b d=>xL b 1 false d fun b d=>cb b d fun b=>xF a 2 d fun d f=>xL d 1 false f fun d f=>vbin .neq b d fun b=>vguard b false (fun a=>xF c 6 f fun b c=>a b c) f fun d f=>vguard b false (fun a=>xL d 1 false f fun b c=>a b c) f fun d f=>vguard b false (fun a=>cb d f fun b=>a b f) f fun d f=>vguard b false (fun b=>xF a 3 f fun a c=>b a c) f fun f g=>vguard b false (fun a=>xL f 1 false g fun b c=>a b c) g fun f g=>vguard b false (fun a=>vbin .neq d f fun b=>a b g) g fun d f=>ab PP (.pick (.c b) (.c (.bool true)) (.c d)) f fun b d=>vguard b false (fun b=>xF a 5 d fun a c=>b a c) d fun d f=>vguard b false (fun a=>xL d 1 false f fun b c=>a b c) f fun d f=>vguard b false (fun a=>xF c 5 f fun b c=>a b c) f fun f g=>vguard b false (fun a=>xL f 1 false g fun b c=>a b c) g fun f g=>vguard b false (fun a=>ag PP mN [d,(.int .i64 3),f] g fun b c=>a b c) g fun d f=>vguard b false (fun a=>vun .not d fun b=>a b f) f fun d f=>ab PP (.pick (.c b) (.c (.bool true)) (.c d)) f fun b d=>vcond b (aG [] []/\e [] d) (xF c 1 d fun b d=>xL b 1 false d fun b d=>vbin .eql b (.int .i64 1) fun b=>vcond b (K (.bool true) d) (xF c 1 d fun b d=>xL b 1 false d fun b d=>vbin .eql b (.int .i64 2) fun b=>vcond b (xF a 7 d fun a b=>xL a 1 false b fun a b=>xF c 2 b fun b c=>xL b 1 false c fun b c=>xI a b 14 c fun a b=>xF a 1 b fun a b=>xF a 0 b fun a b=>xL a 1 false b fun a b=>vbin .eql a (.int .i64 3) fun c=>vguard c false (fun c=>c a b) b fun a b=>vguard c false (fun c=>vbin .eql a (.int .i64 4) fun a=>c a b) b fun a b=>ab PP (.pick (.c c) (.c (.bool true)) (.c a)) b fun a b=>K a b) (xF c 1 d fun a b=>xL a 1 false b fun a b=>vbin .eql a (.int .i64 3) fun a=>vcond a (xF c 4 b fun a b=>xL a 1 false b fun a b=>xF c 6 b fun b d=>xL b 1 false d fun b d=>ab PP (.bldS true 1 2 .nil [(0,(.c a)),(1,(.c b))]) d fun a b=>xF c 5 b fun b d=>xL b 1 false d fun b d=>ab PP (.app (.c a) (.c b) 1 24 .nil) d fun a b=>ag PP bT [a] b fun a b=>xF c 2 b fun b c=>xL b 1 false c fun b c=>vbin .eql b zI fun b=>vguard b true (fun b=>b a c) c fun a c=>vguard b true (fun a=>a (.fn fG [] []) c) c fun c d=>vguard b true (fun b=>ag PP bE [a,c] d fun a c=>b a c) d fun a c=>vguard b true (fun b=>vun .not a fun a=>b a c) c fun a c=>ab PP (.pick (.c b) (.c a) (.c (.bool false))) c fun a b=>K a b) (aG [] []/\e [] b))))))
theorem CM (a0:D) (a1:D) (a2:D) (h0:Heap) (K:HK):ye a0 a1 a2 h0 K=eo zg K [a0,a1,a2] h0:=by kernel_rfl
def zL:TL
 | _=>none
def DH:TT
 | _=>none
noncomputable abbrev yh:=cFn PP true iD zL (cDr PP 18 DH)
noncomputable def yN:aK:=⟨18,aS yh,[.cell 2 7 true]⟩
theorem CR:yh=some yN:=by kernel_rfl
def xJ (a:D) (b:Heap) (K:HK):Prop :=
 ab PP (.box (.c a)) b fun a b=>ab PP (.alloc (.agg [zI,zI,zI,zI,.nil,.nil,.nil])) b fun b c=>ab PP (.bldS true 1 0 zJ []) c fun c d=>xF a 4 d fun d e=>xL d 1 false e fun d e=>ab PP (.app (.c c) (.c d) 1 4 zJ) e fun c d=>xF a 4 d fun d e=>xS d c 1 e fun c d=>xF a 5 d fun c d=>xL c 1 false d fun c d=>ag PP fj [c] d fun c d=>xF a 5 d fun d e=>xS d c 1 e fun c d=>ab PP (.bldS true 1 0 zJ []) d fun c d=>xF a 6 d fun d e=>xL d 1 false e fun d e=>ab PP (.app (.c c) (.c d) 1 4 zJ) e fun c d=>xF a 6 d fun d e=>xS d c 1 e fun c d=>xL a 7 true d fun a c=>xS b a 7 c fun a c=>xL b 7 true c fun a b=>K a c
theorem Cw (a0:D) (h0:Heap) (K:HK):xJ a0 h0 K=eo yN K [a0] h0:=by kernel_rfl
def zQ:TL
 | 1000007=>some ([],[3])|3=>some ([0],[3,4])|_=>none
def DM:TT
 | _=>none
noncomputable abbrev yn:=cFn PP false fj zQ (cDr PP 22 DM)
noncomputable def yU:aK:=⟨22,aS yn,[.t 2]⟩
theorem CW:yn=some yU:=by kernel_rfl
def pn (a:D) (b:Heap) (c:D) (d:HJ):Prop :=
 ∃(e:Nat->HJ) (f:Nat),e f [a,zI] b/\∀(a:Nat) (b:Nat->D) (f:Heap),e a [b 3,b 4] f->cb c f fun g=>vbin .lss (b 4) g fun g=>vcond g (ab PP (.bldS false 1 0 zJ []) f fun d f=>xI c (b 4) 1 f fun f g=>xL f 1 false g fun f g=>ab PP (.app (.c d) (.c f) 1 4 zJ) g fun d f=>ab PP (.bldS false 1 1 .nil [(0,(.c d))]) f fun d f=>ab PP (.app (.c (b 3)) (.c d) 1 24 .nil) f fun d f=>vbin .add (b 4) (.int .i64 1) fun b=>aG [c] [c]/\∃c,c<a/\e c [d,b] f) (aG [] []/\d [(b 3)] f)
def xR (a:D) (b:Heap) (K:HK):Prop :=
 ab PP (.bldS false 1 0 .nil []) b fun b c=>∃(d:HJ),( ∀(a:Nat->D) (b:Heap),d [a 3] b->K (a 3) b)/\pn b c a d
theorem CB (a0:D) (h0:Heap) (K:HK):xR a0 h0 K=eo yU K [a0] h0:=by kernel_rfl
def zX:TL
 | 1000009=>some ([7],[9])|1000015=>some ([7,9],[10])|_=>none
def DS:TT
 | 3=>some ([0,1,3,7,15,31,15,79,207,511,1023,2047,4095,8191,16383,32767,65535,131071,262143,131071,655359,131071,2228223,7995391,16383999,33161215,67108863,134217727,268435455,536870911,1073741823,536870911,2684354559,8589934591,17179869183,34359738367,68719476735,137438953471],[],[])|8=>some ([0,0,2,7,15,0,32,127,255,511],[],[])|14=>some ([0,0,2,7,15,0,32,0,255,511],[9],[])|_=>none
noncomputable abbrev yv:=cFn PP true oi zX (cDr PP 107 DS)
noncomputable def y9:aK:=⟨107,aS yv,[.t 8]⟩
theorem C3:yv=some y9:=by kernel_rfl
def ya (a:D) (b:D) (c:D) (d:D) (e:Heap) (K:HK):Prop :=
 ab PP (.box (.c a)) e fun a e=>ab PP (.box (.c d)) e fun d e=>xF d 0 e fun e f=>xL e 1 false f fun e f=>vbin .eql e (.int .i64 4) fun e=>vcond e (K (.bool true) f) (yF d 6 f fun e=>yL e 1 false f fun e=>vbin .lss e zI fun e=>aw e false (fun a=>yF d 6 f fun b=>a b) fun g=>aw e false (fun a=>yL g 1 false f fun b=>a b) fun g=>aw e false (fun b=>yF a 5 f fun a=>b a) fun h=>aw e false (fun a=>yL h 1 false f fun b=>a b) fun h=>aw e false (fun a=>cb h f fun b=>a b) fun h=>aw e false (fun a=>vbin .geq g h fun b=>a b) fun g=>au PP (.pick (.c e) (.c (.bool true)) (.c g)) f fun e=>aw e false (fun a=>yF d 7 f fun b=>a b) fun g=>aw e false (fun a=>yL g 1 false f fun b=>a b) fun g=>aw e false (fun a=>vbin .lss g zI fun b=>a b) fun g=>au PP (.pick (.c e) (.c (.bool true)) (.c g)) f fun e=>aw e false (fun a=>yF d 7 f fun b=>a b) fun g=>aw e false (fun a=>yL g 1 false f fun b=>a b) fun g=>aw e false (fun b=>yF a 5 f fun a=>b a) fun h=>aw e false (fun a=>yL h 1 false f fun b=>a b) fun h=>aw e false (fun a=>yF d 6 f fun b=>a b) fun i=>aw e false (fun a=>yL i 1 false f fun b=>a b) fun i=>aw e false (fun a=>yI h i 4 f fun b=>a b) fun h=>aw e false (fun a=>yF h 3 f fun b=>a b) fun h=>aw e false (fun a=>yL h 1 false f fun b=>a b) fun h=>aw e false (fun a=>vbin .geq g h fun b=>a b) fun g=>au PP (.pick (.c e) (.c (.bool true)) (.c g)) f fun e=>aw e false (fun b=>yF a 5 f fun a=>b a) fun g=>aw e false (fun a=>yL g 1 false f fun b=>a b) fun g=>aw e false (fun a=>yF d 6 f fun b=>a b) fun h=>aw e false (fun a=>yL h 1 false f fun b=>a b) fun h=>aw e false (fun a=>yI g h 4 f fun b=>a b) fun g=>aw e false (fun a=>yF g 1 f fun b=>a b) fun g=>aw e false (fun a=>yL g 1 false f fun b=>a b) fun g=>aw e false (fun a=>vbin .eql g (.int .i64 3) fun b=>a b) fun g=>au PP (.pick (.c e) (.c (.bool true)) (.c g)) f fun e=>vcond e (K (.bool false) f) ( ∃(e:HJ),( ∀(a:Nat->D) (b:Heap),e [a 9] b->yF d 6 b fun c=>yL c 1 false b fun c=>yI (a 9) c 1 b fun c=>yL c 1 false b fun c=>yF d 7 b fun e=>yL e 1 false b fun e=>yI c e 1 b fun c=>yL c 1 false b fun c=>xF d 0 b fun b e=>xL b 1 false e fun b e=>vbin .eql b (.int .i64 1) fun b=>vcond b (xF d 8 e fun a b=>xL a 1 false b fun a b=>vbin .eql a c fun a=>K a b) ( ∃(b:HJ),( ∀(c:Nat->D) (e:Heap),b [c 10] e->yF d 6 e fun b=>yL b 1 false e fun b=>yI (a 9) b 1 e fun a=>yL a 1 false e fun a=>yF d 7 e fun b=>yL b 1 false e fun b=>yI a b 1 e fun a=>xS a (c 10) 1 e fun a b=>xF d 0 b fun a b=>xL a 1 false b fun a b=>vbin .eql a (.int .i64 3) fun a=>vguard a false (fun a=>xF d 0 b fun b c=>a b c) b fun b c=>vguard a false (fun a=>xL b 1 false c fun b c=>a b c) c fun b c=>vguard a false (fun a=>vbin .eql b (.int .i64 2) fun b=>a b c) c fun b c=>ab PP (.pick (.c a) (.c (.bool true)) (.c b)) c fun a b=>K a b)/\xF d 0 e fun e f=>xL e 1 false f fun e f=>vbin .eql e (.int .i64 3) fun e=>vcond e (xF d 1 f fun e f=>xL e 1 false f fun e f=>xF d 8 f fun f g=>xL f 1 false g fun f g=>ag PP gT [e,c,f] g fun c e=>ab PP (.fld (.c c) 0 1 false) e fun c e=>aG [d,(a 9)] [d,(a 9)]/\b [c] e) (xF d 8 f fun c e=>xL c 1 false e fun c e=>aG [d,(a 9)] [d,(a 9)]/\b [c] e)))/\xF a 5 f fun a f=>xL a 1 false f fun a f=>xF d 6 f fun f g=>xL f 1 false g fun f g=>xI a f 4 g fun a f=>xF a 1 f fun a f=>xL a 1 false f fun a f=>vbin .eql a (.int .i64 2) fun a=>vcond a (aG [d] [d]/\e [c] f) (aG [d] [d]/\e [b] f)))
theorem CH (a0:D) (a1:D) (a2:D) (a3:D) (h0:Heap) (K:HK):ya a0 a1 a2 a3 h0 K=eo y9 K [a0,a1,a2,a3] h0:=by kernel_rfl
def zO:TL
 | 1000009=>some ([],[])|4=>some ([0,1],[5])|_=>none
def DK:TT
 | 6=>some ([0,0,3,7,0,0,48,112,255,511],[],[])|_=>none
noncomputable abbrev yk:=cFn PP true gC zO (cDr PP 27 DK)
noncomputable def yQ:aK:=⟨27,aS yk,[.t 4]⟩
theorem CU:yk=some yQ:=by kernel_rfl
def pk (a:Heap) (b:D) (c:D) (d:HJ) (K:HK):Prop :=
 ∃(e:Nat->HJ) (f:Nat),e f [zI] a/\∀(a:Nat) (f:Nat->D) (g:Heap),e a [f 5] g->cb b g fun h=>vbin .lss (f 5) h fun h=>vcond h (yI b (f 5) 1 g fun d=>yL d 1 false g fun d=>yI c (f 5) 1 g fun h=>yL h 1 false g fun h=>au PP (.call iE [(.c d),(.c h)]) g fun d=>vun .not d fun d=>vcond d (K (.bool false) g) (vbin .add (f 5) (.int .i64 1) fun d=>aG [b,c] [b,c]/\∃b,b<a/\e b [d] g)) (aG [] []/\d [] g)
def xN (a:D) (b:D) (c:Heap) (K:HK):Prop :=
 cb a c fun d=>cb b c fun e=>vbin .neq d e fun d=>vcond d (K (.bool false) c) ( ∃(d:HJ),( ∀(a:Nat->D) (b:Heap),d [] b->K (.bool true) b)/\pk c a b d K)
theorem Cz (a0:D) (a1:D) (h0:Heap) (K:HK):xN a0 a1 h0 K=eo yQ K [a0,a1] h0:=by kernel_rfl
def oq:TL
 | 1000009=>some ([],[])|4=>some ([0,1],[5])|_=>none
def qo:TT
 | 6=>some ([0,0,3,7,0,0,48,112,255],[],[])|_=>none
noncomputable abbrev lB:=cFn PP true ff oq (cDr PP 26 qo)
noncomputable def lH:aK:=⟨26,aS lB,[.t 4]⟩
theorem qe:lB=some lH:=by kernel_rfl
def iU (a:Heap) (b:D) (c:D) (d:HJ) (K:HK):Prop :=
 ∃(e:Nat->HJ) (f:Nat),e f [zI] a/\∀(a:Nat) (f:Nat->D) (g:Heap),e a [f 5] g->cb b g fun h=>vbin .lss (f 5) h fun h=>vcond h (yI b (f 5) 9 g fun d=>yL d 9 true g fun d=>yI c (f 5) 9 g fun h=>yL h 9 true g fun h=>au PP (.eqv true true [.i,.i,.i,.i,.i,.i,.i,.i,.i] (.c d) (.c h)) g fun d=>vcond d (K (.bool false) g) (vbin .add (f 5) (.int .i64 1) fun d=>aG [b,c] [b,c]/\∃b,b<a/\e b [d] g)) (aG [] []/\d [] g)
def lv (a:D) (b:D) (c:Heap) (K:HK):Prop :=
 cb a c fun d=>cb b c fun e=>vbin .neq d e fun d=>vcond d (K (.bool false) c) ( ∃(d:HJ),( ∀(a:Nat->D) (b:Heap),d [] b->K (.bool true) b)/\iU c a b d K)
theorem p6 (a0:D) (a1:D) (h0:Heap) (K:HK):lv a0 a1 h0 K=eo lH K [a0,a1] h0:=by kernel_rfl
def s9:TL
 | _=>none
def wD:TT
 | _=>none
noncomputable abbrev pF:=cFn PP true gZ s9 (cDr PP 18 wD)
noncomputable def pM:aK:=⟨18,aS pF,[.cell 2 8 true]⟩
theorem v7:pF=some pM:=by kernel_rfl
def pr (a:D) (b:Heap) (K:HK):Prop :=
 ab PP (.alloc (.agg [zI,zI,zI,zI,zI,.nil,.nil,.nil])) b fun b c=>ag PP lV [zI] c fun c d=>ab PP (.bld [zI,zI,zI,zI,zI,zJ,zI,zI,zJ,zI,zI,zJ,zI,zI,zJ] [(0,1,(.c (.int .i64 5))),(1,1,(.c (.int .i64 1))),(3,3,(.c c))]) d fun c d=>ag PP lV [zI] d fun d e=>ag PP lW [(.int .i32 7)] e fun e f=>ab PP (.bld [zI,zI,zI,zI,zI,zJ,zI,zI,zJ,zI,zI,zJ,zI,zI,zJ] [(0,1,(.c (.int .i64 8))),(6,3,(.c d)),(9,3,(.c e))]) f fun d e=>ab PP (.bldS true 15 2 (.agg [zI,zI,zI,zI,zI,zJ,zI,zI,zJ,zI,zI,zJ,zI,zI,zJ]) [(0,(.c c)),(1,(.c d))]) e fun c d=>ab PP (.bld [(.str ⟨#[]⟩),zI,zI,zI] [(0,1,(.c (.str ⟨#[97]⟩))),(1,1,(.c (.int .i64 1))),(2,1,(.c (.int .i64 1))),(3,1,(.c a))]) d fun a d=>ab PP (.bldS true 4 1 (.agg [(.str ⟨#[]⟩),zI,zI,zI]) [(0,(.c a))]) d fun a d=>ab PP (.bld [zI,zI,zI,zI,zJ,zI,zI,zJ,zI,zI,zJ,zI,zI] [(0,1,(.c (.int .i64 5)))]) d fun d e=>ab PP (.bld [.nil,zI,zI,zI,zI,zJ,zI,zI,zJ,zI,zI,zJ,zI,zI] [(0,1,(.c c)),(1,13,(.c d))]) e fun c d=>ab PP (.bldS true 14 1 (.agg [.nil,zI,zI,zI,zI,zJ,zI,zI,zJ,zI,zI,zJ,zI,zI]) [(0,(.c c))]) d fun c d=>ab PP (.bld [zI,zI,zI,zI,zI,.nil,.nil,.nil] [(0,1,(.c (.int .i64 4))),(1,1,(.c (.int .i64 1))),(2,1,(.c (.int .i64 1))),(5,1,(.c a)),(7,1,(.c c))]) d fun a c=>xS b a 8 c fun a c=>xL b 8 true c fun a b=>K a c
theorem vU (a0:D) (h0:Heap) (K:HK):pr a0 h0 K=eo pM K [a0] h0:=by kernel_rfl
def zM:TL
 | 1000008=>some ([2,3],[])|4=>some ([2,3],[4])|1000019=>some ([2,3],[])|8=>some ([2,3],[5])|1000010=>some ([2,3,5],[])|1000015=>some ([2,3,5],[])|1000024=>some ([2,3],[])|_=>none
def DI:TT
 | 2=>some ([0,0,0,4,12,30,62,12,254,511,1023,2047],[3,11],[999999])|4=>some ([0,1,3,7,15,31,63,127,7,263,775,1799,3847,7943,16383,32767,65535],[],[])|17=>some ([0,1,3,7,15,0,0,64,192,448,0,1216,0,7360,0,31936,0,65536,196608,524224,1048575,2097151,4194303],[7,11,13,15,22],[999999])|23=>some ([0,1,3,7,15,0,32,96,224,480,992,2016,0,8191,16383,32767],[15],[])|_=>none
noncomputable abbrev yi:=cFn PP true oe zM (cDr PP 153 DI)
noncomputable def yO:aK:=⟨153,aS yi,[.cell 2 8 true]⟩
theorem CS:yi=some yO:=by kernel_rfl
def jP (a:D) (b:Heap) (c:D) (d:D) (e:HJ):Prop :=
 ∃(f:Nat->HJ) (g:Nat),f g [a] b/\∀(a:Nat) (b:Nat->D) (g:Heap),f a [b 5] g->vbin .gtr (b 5) zI fun h=>vcond h ( ∃(e:HJ),( ∀(g:Nat->D) (h:Heap),e [] h->vbin .sub (b 5) (.int .i64 1) fun b=>aG [c,d] [c,d]/\∃c,c<a/\f c [b] h)/\ag PP ak [d] g fun a f=>vbin .rem a (.int .i64 3) fun a=>ag PP dY [d,a] f fun a f=>∃(a:HJ),( ∀(f:Nat->D) (g:Heap),a [] g->xF d 0 g fun a f=>xF a 2 f fun a f=>xF a 7 f fun a f=>xL a 1 false f fun a f=>cb a f fun a=>vbin .sub a (.int .i64 1) fun a=>xF d 0 f fun f g=>xF f 2 g fun f g=>xF f 7 g fun f g=>xL f 1 false g fun f g=>vbin .add a (.int .i64 1) fun h=>ab PP (.bld [zI,zI] [(0,1,(.c h)),(1,1,(.c zI))]) g fun g h=>ab PP (.bld [zI,zI,zI,zI,zJ,zI,zI,zJ,zI,zI,zJ,zI,zI] [(0,1,(.c (.int .i64 3))),(11,2,(.c g))]) h fun g h=>xI f a 14 h fun f h=>xF f 1 h fun f h=>xS f g 13 h fun f g=>ag PP ak [d] g fun f g=>vbin .rem f (.int .i64 3) fun f=>vbin .eql f zI fun f=>vcond f (yF d 0 g fun f=>yF f 2 g fun h=>yF h 7 g fun i=>yL i 1 false g fun j=>vbin .add a (.int .i64 1) fun k=>au PP (.bld [zI,zI] [(0,1,(.c k)),(1,1,(.c zI))]) g fun k=>ag PP ak [d] g fun g l=>((yF d 0 l fun a=>aG [a] [f])/\(yF f 2 l fun a=>aG [a] [h])/\(yF h 7 l fun a=>aG [a] [i])/\(yL i 1 false l fun a=>aG [a] [j])/\True)/\vbin .rem g (.int .i64 6) fun g=>vbin .add (.int .i64 1) g fun g=>ag PP aZ [d] l fun l m=>((yF d 0 m fun a=>aG [a] [f])/\(yF f 2 m fun a=>aG [a] [h])/\(yF h 7 m fun a=>aG [a] [i])/\(yL i 1 false m fun a=>aG [a] [j])/\True)/\ag PP aY [d] m fun m n=>((yF d 0 n fun a=>aG [a] [f])/\(yF f 2 n fun a=>aG [a] [h])/\(yF h 7 n fun a=>aG [a] [i])/\(yL i 1 false n fun a=>aG [a] [j])/\True)/\ag PP aY [d] n fun n o=>((yF d 0 o fun a=>aG [a] [f])/\(yF f 2 o fun a=>aG [a] [h])/\(yF h 7 o fun a=>aG [a] [i])/\(yL i 1 false o fun a=>aG [a] [j])/\True)/\au PP (.bld [zI,zI,zI,zI,zJ,zI,zI,zJ,zI,zI,zJ,zI,zI] [(0,1,(.c (.int .i64 4))),(1,1,(.c g)),(2,3,(.c l)),(5,3,(.c m)),(8,3,(.c n)),(11,2,(.c k))]) o fun f=>yI j a 14 o fun a=>yF a 1 o fun a=>xS a f 13 o fun a f=>aG [c,d,(b 5)] [c,d,(b 5)]/\e [] f) (aG [c,d,(b 5)] [c,d,(b 5)]/\e [] g))/\ag PP ak [d] f fun e f=>vbin .rem e (.int .i64 3) fun e=>vbin .eql e zI fun e=>vcond e (ag PP dw [d] f fun e f=>ag PP bf [d] f fun e f=>aG [c,d,(b 5)] [c,d,(b 5)]/\a [] f) (aG [c,d,(b 5)] [c,d,(b 5)]/\a [] f)) (aG [c,d] [c,d]/\e [] g)
def jO (a:D) (b:Heap) (c:D) (d:D) (e:HJ):Prop :=
 ∃(f:Nat->HJ) (g:Nat),f g [a] b/\∀(a:Nat) (b:Nat->D) (g:Heap),f a [b 4] g->vbin .gtr (b 4) zI fun h=>aw h true (fun a=>a c) fun i=>aw h true (fun a=>yF i 0 g fun b=>a b) fun i=>aw h true (fun a=>yF i 2 g fun b=>a b) fun i=>aw h true (fun a=>yF i 0 g fun b=>a b) fun i=>aw h true (fun a=>yL i 1 false g fun b=>a b) fun i=>aw h true (fun a=>a c) fun j=>aw h true (fun a=>yF j 0 g fun b=>a b) fun j=>aw h true (fun a=>yF j 2 g fun b=>a b) fun j=>aw h true (fun a=>yF j 1 g fun b=>a b) fun j=>aw h true (fun a=>yL j 1 false g fun b=>a b) fun j=>aw h true (fun a=>vbin .mul (.int .i64 2) j fun b=>a b) fun j=>aw h true (fun a=>vbin .rem i j fun b=>a b) fun i=>aw h true (fun a=>vbin .eql i zI fun b=>a b) fun i=>au PP (.pick (.c h) (.c i) (.c (.bool false))) g fun h=>vcond h (xF c 0 g fun e g=>xF e 2 g fun e g=>xF e 1 g fun e g=>xL e 1 false g fun e g=>vbin .mul (.int .i64 2) e fun e=>xF c 0 g fun g h=>xF g 2 h fun g h=>xF g 1 h fun g h=>xS g e 1 h fun e g=>vbin .sub (b 4) (.int .i64 1) fun b=>aG [d,c] [d,c]/\∃c,c<a/\f c [b] g) (aG [d,c] [d,c]/\e [] g)
def xK (a:D) (b:Heap) (K:HK):Prop :=
 ab PP (.box (.c a)) b fun a b=>ab PP (.alloc (.agg [zI,zI,zI,zI,zI,.nil,.nil,.nil])) b fun b c=>xF a 0 c fun a c=>xL a 1 false c fun a c=>ab PP (.bld [.nil,zI,zI,zI,zI,zI,zI,.nil,.nil,.nil] [(0,1,(.c a))]) c fun a c=>ab PP (.box (.c a)) c fun a c=>au PP (.bldS false 1 5 zI [(0,(.c (.int .i64 4))),(1,(.c (.int .i64 1))),(2,(.c (.int .i64 2))),(3,(.c (.int .i64 8))),(4,(.c (.int .i64 6)))]) c fun d=>ag PP ak [a] c fun c e=>vbin .rem c (.int .i64 5) fun c=>yI d c 1 e fun c=>yL c 1 false e fun c=>au PP (.call la []) e fun d=>au PP (.bld [zI,zI,zI,zI,zI,.nil,.nil,.nil] [(0,1,(.c c)),(1,1,(.c (.int .i64 1))),(2,1,(.c (.int .i64 6))),(4,1,(.c (.int .i64 3))),(5,1,(.c d))]) e fun c=>yF a 0 e fun d=>yF d 2 e fun d=>xS d c 8 e fun c d=>∃(c:HJ),( ∀(d:Nat->D) (e:Heap),c [] e->∃(c:HJ),( ∀(d:Nat->D) (e:Heap),c [] e->ag PP ak [a] e fun c d=>vbin .rem c (.int .i64 3) fun c=>ag PP dY [a,c] d fun c d=>∃(c:HJ),( ∀(d:Nat->D) (e:Heap),c [] e->yF a 0 e fun c=>yF c 2 e fun c=>yF c 7 e fun c=>yL c 1 false e fun c=>yF a 0 e fun d=>yF d 2 e fun d=>yF d 7 e fun d=>yL d 1 false e fun d=>cb d e fun d=>vbin .sub d (.int .i64 1) fun d=>au PP (.bld [zI,zI,zI,zI,zJ,zI,zI,zJ,zI,zI,zJ,zI,zI] [(0,1,(.c (.int .i64 5)))]) e fun f=>yI c d 14 e fun c=>yF c 1 e fun c=>xS c f 13 e fun c d=>xF a 0 d fun a c=>xF a 2 c fun a c=>xL a 8 true c fun a c=>xS b a 8 c fun a c=>xL b 8 true c fun a b=>K a c)/\ag PP ak [a] d fun d e=>vbin .rem d (.int .i64 3) fun d=>vbin .eql d zI fun d=>vcond d (ag PP dw [a] e fun d e=>ag PP bf [a] e fun d e=>ag PP ck [a] e fun d e=>aG [b,a] [b,a]/\c [] e) (aG [b,a] [b,a]/\c [] e))/\ag PP ak [a] e fun d e=>vbin .rem d (.int .i64 3) fun d=>jP d e b a c)/\ag PP ak [a] d fun d e=>vbin .rem d (.int .i64 3) fun d=>jO d e a b c
theorem Cx (a0:D) (h0:Heap) (K:HK):xK a0 h0 K=eo yO K [a0] h0:=by kernel_rfl
def vE:TL
 | 1000009=>some ([1,2,3],[])|3=>some ([1,2,3],[4])|_=>none
def zu:TT
 | _=>none
noncomputable abbrev rV:=cFn PP true kX vE (cDr PP 32 zu)
noncomputable def sw:aK:=⟨32,aS rV,[.cell 2 8 true]⟩
theorem yM:rV=some sw:=by kernel_rfl
def mb (a:Heap) (b:D) (c:D) (d:D) (e:HJ):Prop :=
 ∃(f:Nat->HJ) (g:Nat),f g [zI] a/\∀(a:Nat) (g:Nat->D) (h:Heap),f a [g 4] h->cb b h fun i=>vbin .lss (g 4) i fun i=>vcond i (xI b (g 4) 4 h fun e h=>xL e 4 true h fun e h=>ab PP (.alloc (.agg [(.str ⟨#[]⟩),zI,zI,zI])) h fun h i=>xS h e 4 i fun e i=>xF h 3 i fun e i=>xL e 1 false i fun e i=>vbin .quo e (.int .i64 2) fun e=>ab PP (.mx (.c e) (.c (.int .i64 1))) i fun e i=>xF h 3 i fun i j=>xS i e 1 j fun e i=>xL h 4 true i fun e h=>xI b (g 4) 4 h fun h i=>xS h e 4 i fun e h=>vbin .add (g 4) (.int .i64 1) fun e=>aG [c,d,b] [c,d,b]/\∃b,b<a/\f b [e] h) (aG [c,d,b] [c,d,b]/\e [] h)
def rG (a:D) (b:Heap) (K:HK):Prop :=
 ab PP (.box (.c a)) b fun a b=>ab PP (.alloc (.agg [zI,zI,zI,zI,zI,.nil,.nil,.nil])) b fun b c=>ab PP (.bldS true 4 0 (.agg [(.str ⟨#[]⟩),zI,zI,zI]) []) c fun c d=>xF a 5 d fun d e=>xL d 1 false e fun d e=>ab PP (.app (.c c) (.c d) 4 40 (.agg [(.str ⟨#[]⟩),zI,zI,zI])) e fun c d=>∃(e:HJ),( ∀(d:Nat->D) (f:Heap),e [] f->xF a 5 f fun d e=>xS d c 1 e fun c d=>xL a 8 true d fun a c=>xS b a 8 c fun a c=>xL b 8 true c fun a b=>K a c)/\mb d c a b e
theorem xH (a0:D) (h0:Heap) (K:HK):rG a0 h0 K=eo sw K [a0] h0:=by kernel_rfl
def vG:TL
 | 1000005=>some ([2,3,4,5],[])|1000009=>some ([4,5],[])|5=>some ([2,3,4,5],[6])|_=>none
def zw:TT
 | 3=>some ([0,1,0,4,12,31,63,127,255],[8],[])|7=>some ([0,1,0,4,0,28,60,124,252,511,1023,2047],[9,11],[])|_=>none
noncomputable abbrev rX:=cFn PP true kZ vG (cDr PP 42 zw)
noncomputable def sC:aK:=⟨42,aS rX,[.cell 4 2 true]⟩
theorem yS:rX=some sC:=by kernel_rfl
def mh (a:Heap) (b:D) (c:D) (d:D) (e:D) (f:HJ):Prop :=
 ∃(g:Nat->HJ) (h:Nat),g h [zI] a/\∀(a:Nat) (h:Nat->D) (i:Heap),g a [h 6] i->xF b 4 i fun i j=>xL i 1 false j fun i j=>vbin .lss (h 6) i fun i=>vcond i (yF c 1 j fun f=>yL f 1 false j fun f=>vbin .rem (h 6) (.int .i64 8) fun i=>yF d 1 j fun k=>au PP (.iadda (.c k) (.c i) 8 1) j fun i=>yL i 1 false j fun i=>au PP (.conv .i32 (.c i)) j fun i=>au PP (.bldS false 1 1 zJ [(0,(.c i))]) j fun i=>yF c 1 j fun k=>ab PP (.app (.c f) (.c i) 1 4 zJ) j fun f i=>xS k f 1 i fun f i=>vbin .add (h 6) (.int .i64 1) fun f=>aG [b,d,e,c] [b,d,e,c]/\∃b,b<a/\g b [f] i) (aG [e,c] [e,c]/\f [] j)
def rK (a:D) (b:D) (c:Heap) (K:HK):Prop :=
 ab PP (.box (.c a)) c fun a c=>ab PP (.box (.c b)) c fun b c=>ab PP (.alloc (.agg [zI,.nil])) c fun c d=>xF b 0 d fun d e=>xL d 1 false e fun d e=>vbin .rem d (.int .u8 3) fun d=>ab PP (.conv .i64 (.c d)) e fun d e=>vbin .add (.int .i64 1) d fun d=>ab PP (.bld [zI,.nil] [(0,1,(.c d))]) e fun d e=>ab PP (.alloc (.agg [zI,.nil])) e fun e f=>xS e d 2 f fun d f=>∃(d:HJ),( ∀(f:Nat->D) (g:Heap),d [] g->∃(d:HJ),( ∀(a:Nat->D) (b:Heap),d [] b->xL e 2 true b fun a b=>xS c a 2 b fun a b=>xL c 2 true b fun a c=>K a b)/\mh g a e b c d)/\xF a 0 f fun f g=>xL f 1 false g fun f g=>vbin .gtr f zI fun f=>vcond f (yF e 0 g fun f=>yL f 1 false g fun f=>yF a 0 g fun h=>yL h 1 false g fun h=>vbin .quo (.int .i64 4096) h fun h=>au PP (.mn (.c f) (.c h)) g fun f=>au PP (.mx (.c f) (.c (.int .i64 1))) g fun f=>yF e 0 g fun h=>xS h f 1 g fun f g=>aG [a,b,c,e] [a,b,c,e]/\d [] g) (aG [a,b,c,e] [a,b,c,e]/\d [] g)
theorem xP (a0:D) (a1:D) (h0:Heap) (K:HK):rK a0 a1 h0 K=eo sC K [a0,a1] h0:=by kernel_rfl
end Go.Am
namespace Go.Am
open Go Go.Proofs
def w7:TL
 | 1000012=>some ([10,11],[])|3=>some ([3,5,6,10,11],[12])|1000005=>some ([3,5,6,10,11,12],[])|_=>none
def BQ:TT
 | 1=>some ([0,0,0,7,15,0,0,64,207,511,0,2047],[3,8,10,11],[999998,2])|_=>none
noncomputable abbrev uk:=cFn PP true mI w7 (cDr PP 66 BQ)
noncomputable def uH:aK:=⟨66,aS uk,[.cell 10 11 true]⟩
theorem AF:uk=some uH:=by kernel_rfl
def np (a:Heap) (b:D) (c:D) (d:D) (e:D) (f:D) (g:HJ) (K:HK):Prop :=
 ∃(h:Nat->HJ) (i:Nat),h i [zI] a/\∀(a:Nat) (i:Nat->D) (j:Heap),h a [i 12] j->vbin .lss (i 12) b fun k=>vguard k true (fun a=>xF c 0 j fun b c=>a b c) j fun j l=>vguard k true (fun a=>xF j 1 l fun b c=>a b c) l fun j l=>vguard k true (fun a=>xL j 1 false l fun b c=>a b c) l fun j l=>vguard k true (fun a=>vbin .neq j (.int .i64 3) fun b=>a b l) l fun j l=>ab PP (.pick (.c k) (.c j) (.c (.bool false))) l fun j k=>vcond j ( ∃(g:HJ),( ∀(j:Nat->D) (k:Heap),g [] k->vbin .add (i 12) (.int .i64 1) fun g=>aG [b,d,e,f,c] [b,d,e,f,c]/\∃b,b<a/\h b [g] k)/\xF c 0 k fun a h=>xF a 1 h fun a h=>xL a 1 false h fun a h=>vbin .eql a (.int .i64 2) fun a=>vcond a (xL d 8 true h fun a h=>xF c 0 h fun h j=>xL h 7 true j fun h j=>vbin .rem (i 12) (.int .i64 3) fun k=>ab PP (.conv .i32 (.c k)) j fun j k=>ag PP kW [a,h,j] k fun a h=>ab PP (.fld (.c a) 0 7 true) h fun a h=>xF c 0 h fun h j=>xS h a 7 j fun a h=>aG [b,d,e,f,c,(i 12)] [b,d,e,f,c,(i 12)]/\g [] h) (xL d 8 true h fun a h=>xL e 2 true h fun h j=>xF c 0 j fun j k=>xL j 7 true k fun j k=>xF c 7 k fun k l=>xL k 1 false l fun k l=>xF c 8 l fun l m=>xL l 1 false m fun l m=>ab PP (.bld [.nil,.nil] [(0,1,(.c k)),(1,1,(.c l))]) m fun k l=>ag PP kV [a,h,j,k,(i 12)] l fun a h=>ab PP (.alloc (.agg [zI,zI,zI,zI,.nil,.nil,.nil,.nil,.nil,.nil,zI])) h fun h j=>xS h a 11 j fun a j=>xF h 10 j fun a j=>xL a 1 false j fun a j=>vbin .neq a zI fun a=>vcond a (xL c 11 true j fun a b=>xS f a 11 b fun a b=>xL f 11 true b fun a c=>K a b) (xL h 11 true j fun a h=>xS c a 11 h fun a h=>aG [b,d,e,f,c,(i 12)] [b,d,e,f,c,(i 12)]/\g [] h))) (aG [f,c] [f,c]/\g [] k)
def tS (a:D) (b:D) (c:D) (d:D) (e:D) (f:Heap) (K:HK):Prop :=
 ab PP (.box (.c a)) f fun a f=>ab PP (.box (.c b)) f fun b f=>ab PP (.alloc (.agg [zI,zI,zI,zI,.nil,.nil,.nil,.nil,.nil,.nil,zI])) f fun f g=>yL a 8 true g fun h=>yL b 2 true g fun i=>yF a 5 g fun j=>yL j 1 false g fun k=>ag PP jI [h,i,c] g fun c g=>((yF a 5 g fun a=>aG [a] [j])/\(yL j 1 false g fun a=>aG [a] [k])/\True)/\au PP (.fld (.c c) 0 7 true) g fun c=>ag PP fh [k,(.int .i64 2)] g fun g l=>au PP (.bld [zI,zI,zI,zI,.nil,.nil,.nil,.nil,.nil,.nil,zI] [(0,7,(.c c)),(7,1,(.c e)),(8,1,(.c g))]) l fun c=>ab PP (.alloc (.agg [zI,zI,zI,zI,.nil,.nil,.nil,.nil,.nil,.nil,zI])) l fun e g=>((yL a 8 true g fun a=>aG [a] [h])/\(yL b 2 true g fun a=>aG [a] [i])/\(yF a 5 g fun a=>aG [a] [j])/\(yL j 1 false g fun a=>aG [a] [k])/\True)/\xS e c 11 g fun c g=>∃(c:HJ),( ∀(a:Nat->D) (b:Heap),c [] b->xF e 9 b fun a b=>ab PP (.st (.c a) (.c .nil) 1) b fun a b=>xL e 11 true b fun a b=>xS f a 11 b fun a b=>xL f 11 true b fun a c=>K a b)/\np g d e a b f c K
theorem Ao (a0:D) (a1:D) (a2:D) (a3:D) (a4:D) (h0:Heap) (K:HK):tS a0 a1 a2 a3 a4 h0 K=eo uH K [a0,a1,a2,a3,a4] h0:=by kernel_rfl
def vF:TL
 | 1000010=>some ([5],[])|3=>some ([3,5],[6])|1000005=>some ([3,5,6],[])|6=>some ([3,5,6],[7])|_=>none
def zv:TT
 | 8=>some ([0,0,3,7,0,0,0,96,224,0,992,2016,4064,0,0,24576,57344,122880,262112,524287,1048575],[20],[])|_=>none
noncomputable abbrev rW:=cFn PP true kY vF (cDr PP 47 zv)
noncomputable def sB:aK:=⟨47,aS rW,[.t 4]⟩
theorem yR:rW=some sB:=by kernel_rfl
def mg (a:Heap) (b:D) (c:Nat->D) (d:D) (e:HJ):Prop :=
 ∃(f:Nat->HJ) (g:Nat),f g [zI] a/\∀(a:Nat) (g:Nat->D) (h:Heap),f a [g 7] h->xI b (c 6) 1 h fun h i=>xL h 1 false i fun h i=>cb h i fun h=>vbin .lss (g 7) h fun h=>vcond h (yI b (c 6) 1 i fun e=>yL e 1 false i fun e=>vbin .add (c 6) (g 7) fun h=>vbin .rem h (.int .i64 4) fun h=>yF d 9 i fun j=>au PP (.iadda (.c j) (.c h) 4 1) i fun h=>yL h 1 false i fun h=>au PP (.conv .i32 (.c h)) i fun h=>vbin .mul (g 7) (c 6) fun j=>vbin .rem j (.int .i64 5) fun j=>au PP (.conv .i32 (.c j)) i fun j=>vbin .add h j fun h=>yI e (g 7) 1 i fun e=>xS e h 1 i fun e h=>vbin .add (g 7) (.int .i64 1) fun e=>aG [d,b,(c 6)] [d,b,(c 6)]/\∃b,b<a/\f b [e] h) (aG [d,b,(c 6)] [d,b,(c 6)]/\e [] i)
def mf (a:Heap) (b:D) (c:D) (d:HJ):Prop :=
 ∃(e:Nat->HJ) (f:Nat),e f [zI] a/\∀(a:Nat) (f:Nat->D) (g:Heap),e a [f 6] g->cb b g fun h=>vbin .lss (f 6) h fun h=>vcond h ( ∃(d:HJ),( ∀(g:Nat->D) (h:Heap),d [] h->vbin .add (f 6) (.int .i64 1) fun d=>aG [c,b] [c,b]/\∃b,b<a/\e b [d] h)/\mg g b f c d) (aG [b] [b]/\d [] g)
def rJ (a:D) (b:D) (c:Heap) (K:HK):Prop :=
 ab PP (.box (.c a)) c fun a c=>ab PP (.box (.c b)) c fun b c=>xF a 5 c fun a c=>xL a 1 false c fun a c=>ag PP fh [a,(.int .i64 1)] c fun a c=>∃(d:HJ),( ∀(b:Nat->D) (c:Heap),d [] c->K a c)/\mf c a b d
theorem xO (a0:D) (a1:D) (h0:Heap) (K:HK):rJ a0 a1 h0 K=eo sB K [a0,a1] h0:=by kernel_rfl
def Cq:TL
 | 1000012=>some ([12,13,14,15,16,17],[])|7=>some ([5,8,12,13,14,15,16,17,64,65],[66])|8000009=>some ([1],[])|_=>none
def Fs:TT
 | 2=>some ([0,0,0,1,11,31,63,127],[3,4,5,6,7],[1,2])|4=>some ([0,0,0,0,8,0,56,0,255,511,1023],[4,6,7,9],[999998,2])|5=>some ([0,0,0,0,8,24,0,64,248,0,512,2040,4089,8185,16377,32761,65531,131067,262139,524283,1048575,2097151,4194303,8388607],[5,8,11,15,19,23],[999999])|11=>some ([0,1,0,4,12,28,0,64,192,448,0,1024,3072,7168,3,16447,50175,131071,262143],[1,14,15,16,17,18],[999999])|_=>none
def BM:F9:=⟨96,
 [(.pg [⟨(some 6),.box (.t 0),none⟩,
  ⟨(some 7),.box (.t 1),none⟩,
  ⟨(some 8),.box (.t 2),none⟩,
  ⟨(some 9),.box (.t 3),none⟩,
  ⟨(some 10),.box (.t 4),none⟩,
  ⟨(some 12),.alloc (.agg [(.int .i64 0),(.int .i64 0),(.int .i64 0),(.int .i64 0),.nil,.nil,.nil]),none⟩,
  ⟨(some 13),.alloc .nil,none⟩,
  ⟨(some 14),.alloc .nil,none⟩,
  ⟨(some 15),.alloc .nil,none⟩,
  ⟨(some 16),.alloc (.int .i64 0),none⟩]),(.seq (.pg [⟨(some 20),.fadd (.t 8) 1,none⟩,
  ⟨(some 21),.ld (.t 20) 1 false,none⟩,
  ⟨(some 22),.bin .neq (.t 21) (.c (.int .i64 1)),none⟩]) <|
 .cond (.t 22) (.seq (.dreg [⟨(some 23),.ld (.t 8) 7 true,none⟩,
  ⟨(some 24),.ld (.t 9) 1 false,none⟩,
  ⟨(some 25),.ld (.t 10) 1 false,none⟩] [⟨none,.st (.t 12) (.t 23) 7,none⟩,
  ⟨none,.st (.t 13) (.t 24) 1,none⟩,
  ⟨none,.st (.t 14) (.t 25) 1,none⟩,
  ⟨none,.st (.t 15) (.c .nil) 1,none⟩,
  ⟨none,.st (.t 16) (.c (.int .i64 1)) 1,none⟩] [⟨(some 24),.ld (.t 9) 1 false,none⟩,
  ⟨(some 25),.ld (.t 10) 1 false,none⟩]) <|
 .ret) (.skip))],gk,[],[(.t 8),(.t 9),(.t 10),(.t 12),(.t 13),(.t 14),(.t 15),(.t 16)],26,
 .seq (.seq (.dreg [⟨(some 34),.mov (.c .undef),none⟩] [] []) <|
 .seq (.dreg [⟨(some 27),.ld (.t 6) 8 true,none⟩,
  ⟨(some 28),.ld (.t 7) 2 true,none⟩,
  ⟨(some 29),.ld (.t 8) 7 true,none⟩,
  ⟨(some 30),.ld (.t 9) 1 false,none⟩,
  ⟨(some 32),.ld (.t 10) 1 false,none⟩] [⟨(some 31),.call dZ [(.t 30)],none⟩] [⟨(some 27),.ld (.t 6) 8 true,none⟩,
  ⟨(some 28),.ld (.t 7) 2 true,none⟩,
  ⟨(some 29),.ld (.t 8) 7 true,none⟩,
  ⟨(some 32),.ld (.t 10) 1 false,none⟩]) <|
 .seq (.dreg [] [⟨(some 33),.call dZ [(.t 32)],none⟩] [⟨(some 27),.ld (.t 6) 8 true,none⟩,
  ⟨(some 28),.ld (.t 7) 2 true,none⟩,
  ⟨(some 29),.ld (.t 8) 7 true,none⟩]) <|
 .seq (.dreg [] [⟨(some 34),.mkm (.pair .i64),none⟩] [⟨(some 27),.ld (.t 6) 8 true,none⟩,
  ⟨(some 28),.ld (.t 7) 2 true,none⟩,
  ⟨(some 29),.ld (.t 8) 7 true,none⟩,
  ⟨(some 30),.ld (.t 9) 1 false,none⟩,
  ⟨(some 32),.ld (.t 10) 1 false,none⟩]) <|
 .seq (.dreg [⟨(some 35),.bld [(.int .i64 0),(.int .i64 0),(.int .i64 0),(.int .i64 0),(.int .i64 0),.nil,.nil,.nil,(.int .i64 0),.nil,(.int .i64 0),(.int .i64 0),(.int .i64 0),(.int .i64 0),.nil,.nil,.nil,.nil,.nil,.nil,.nilmap] [(0,8,(.t 27)),(8,2,(.t 28)),(10,7,(.t 29)),(17,1,(.t 31)),(18,1,(.t 33)),(20,1,(.t 34))],none⟩] [⟨(some 36),.box (.t 35),none⟩] []) <|
 .dreg [⟨(some 17),.mov (.t 36),none⟩] [] []) <|
 .seq (.seq (.dreg [⟨(some 37),.mov (.t 17),none⟩,
  ⟨(some 38),.mov (.t 17),none⟩,
  ⟨(some 39),.mov (.t 17),none⟩,
  ⟨(some 40),.fadd (.t 8) 4,none⟩,
  ⟨(some 41),.ld (.t 40) 1 false,none⟩,
  ⟨(some 43),.fadd (.t 8) 6,none⟩,
  ⟨(some 44),.ld (.t 43) 1 false,none⟩,
  ⟨(some 46),.fadd (.t 8) 5,none⟩,
  ⟨(some 47),.ld (.t 46) 1 false,none⟩] [⟨(some 42),.call aR [(.t 41)],none⟩] [⟨(some 43),.fadd (.t 8) 6,none⟩,
  ⟨(some 44),.ld (.t 43) 1 false,none⟩,
  ⟨(some 46),.fadd (.t 8) 5,none⟩,
  ⟨(some 47),.ld (.t 46) 1 false,none⟩]) <|
 .seq (.dreg [] [⟨(some 45),.call aR [(.t 44)],none⟩] [⟨(some 46),.fadd (.t 8) 5,none⟩,
  ⟨(some 47),.ld (.t 46) 1 false,none⟩]) <|
 .seq (.dreg [] [⟨(some 48),.call dZ [(.t 47)],none⟩] []) <|
 .seq (.dreg [⟨(some 49),.fadd (.t 37) 0,none⟩,
  ⟨(some 50),.fadd (.t 49) 10,none⟩,
  ⟨(some 51),.fadd (.t 50) 4,none⟩] [⟨none,.st (.t 51) (.t 42) 1,none⟩] []) <|
 .seq (.dreg [⟨(some 52),.fadd (.t 38) 0,none⟩,
  ⟨(some 53),.fadd (.t 52) 10,none⟩,
  ⟨(some 54),.fadd (.t 53) 6,none⟩] [⟨none,.st (.t 54) (.t 45) 1,none⟩] []) <|
 .seq (.dreg [⟨(some 55),.fadd (.t 39) 0,none⟩,
  ⟨(some 56),.fadd (.t 55) 10,none⟩,
  ⟨(some 57),.fadd (.t 56) 5,none⟩] [⟨none,.st (.t 57) (.t 48) 1,none⟩] []) <|
 .dreg [] [] []) <|
 .seqj [12,13,14,15,16,17] [] (.seq (.pg [⟨(some 58),.fadd (.t 6) 7,none⟩,
  ⟨(some 59),.ld (.t 58) 1 false,none⟩,
  ⟨(some 60),.fadd (.t 8) 2,none⟩,
  ⟨(some 61),.ld (.t 60) 1 false,none⟩,
  ⟨(some 62),.iadd (.t 59) (.t 61) 14,none⟩,
  ⟨(some 63),.fadd (.t 62) 0,none⟩,
  ⟨(some 64),.ld (.t 63) 1 false,none⟩,
  ⟨(some 65),.len (.t 64),none⟩,
  ⟨(some 66),.mov (.c (.int .i64 0)),none⟩]) <|
 .block 0 (.loop [5,8,12,13,14,15,16,17,64,65] [66] (.seq (.pg [⟨(some 67),.bin .lss (.t 66) (.t 65),none⟩]) <|
 .seq (.cond (.t 67) (.skip) (.exit 0)) <|
 .seq (.block 1 (.seq (.pg [⟨(some 68),.mov (.t 66),none⟩,
  ⟨(some 69),.iadd (.t 64) (.t 66) 15,none⟩,
  ⟨(some 70),.ld (.t 69) 15 true,none⟩,
  ⟨(some 19),.alloc (.agg [(.int .i64 0),(.int .i64 0),(.int .i64 0),(.int .i64 0),(.int .i64 0),(.int .i32 0),(.int .i64 0),(.int .i64 0),(.int .i32 0),(.int .i64 0),(.int .i64 0),(.int .i32 0),(.int .i64 0),(.int .i64 0),(.int .i32 0)]),none⟩,
  ⟨(some 18),.mov (.t 68),none⟩,
  ⟨none,.st (.t 19) (.t 70) 15,none⟩]) <|
 .regx [⟨(some 71),.mov (.t 17),none⟩,
  ⟨(some 72),.ld (.t 19) 15 true,none⟩,
  ⟨(some 73),.fadd (.t 8) 0,none⟩,
  ⟨(some 74),.ld (.t 73) 1 false,none⟩,
  ⟨(some 75),.mov (.t 5),none⟩,
  ⟨(some 76),.fadd (.t 8) 2,none⟩,
  ⟨(some 77),.ld (.t 76) 1 false,none⟩,
  ⟨(some 78),.mov (.t 18),none⟩,
  ⟨(some 79),.bld [(.int .i64 0),(.int .i64 0),(.int .i64 0),(.int .i64 0),(.int .i64 0),(.int .i64 0),(.int .i64 0),(.int .i64 0),(.int .i32 0)] [(2,1,(.t 74)),(3,1,(.t 75)),(4,1,(.t 77)),(5,1,(.t 78))],none⟩,
  ⟨(some 80),.call jk [(.t 71),(.t 72),(.t 79)],none⟩])) <|
 .pg [⟨(some 81),.bin .add (.t 66) (.c (.int .i64 1)),none⟩,
  ⟨(some 66),.mov (.t 81),none⟩]))) <|
 .seq (.seq (.dreg [⟨(some 82),.mov (.t 17),none⟩,
  ⟨(some 84),.mov (.t 17),none⟩,
  ⟨(some 85),.fadd (.t 84) 0,none⟩,
  ⟨(some 86),.fadd (.t 85) 17,none⟩,
  ⟨(some 87),.ld (.t 86) 1 false,none⟩,
  ⟨(some 88),.mov (.t 17),none⟩,
  ⟨(some 89),.fadd (.t 88) 0,none⟩,
  ⟨(some 90),.fadd (.t 89) 18,none⟩,
  ⟨(some 91),.ld (.t 90) 1 false,none⟩,
  ⟨(some 92),.mov (.t 17),none⟩,
  ⟨(some 93),.fadd (.t 92) 0,none⟩,
  ⟨(some 94),.fadd (.t 93) 19,none⟩,
  ⟨(some 95),.ld (.t 94) 1 false,none⟩] [⟨(some 83),.call gF [(.t 82)],none⟩] [⟨(some 85),.fadd (.t 84) 0,none⟩,
  ⟨(some 86),.fadd (.t 85) 17,none⟩,
  ⟨(some 87),.ld (.t 86) 1 false,none⟩,
  ⟨(some 89),.fadd (.t 88) 0,none⟩,
  ⟨(some 90),.fadd (.t 89) 18,none⟩,
  ⟨(some 91),.ld (.t 90) 1 false,none⟩,
  ⟨(some 93),.fadd (.t 92) 0,none⟩,
  ⟨(some 94),.fadd (.t 93) 19,none⟩,
  ⟨(some 95),.ld (.t 94) 1 false,none⟩]) <|
 .seq (.dreg [] [⟨none,.st (.t 12) (.t 83) 7,none⟩] [⟨(some 85),.fadd (.t 84) 0,none⟩,
  ⟨(some 86),.fadd (.t 85) 17,none⟩,
  ⟨(some 87),.ld (.t 86) 1 false,none⟩,
  ⟨(some 89),.fadd (.t 88) 0,none⟩,
  ⟨(some 90),.fadd (.t 89) 18,none⟩,
  ⟨(some 91),.ld (.t 90) 1 false,none⟩,
  ⟨(some 93),.fadd (.t 92) 0,none⟩,
  ⟨(some 94),.fadd (.t 93) 19,none⟩,
  ⟨(some 95),.ld (.t 94) 1 false,none⟩]) <|
 .seq (.dreg [] [⟨none,.st (.t 13) (.t 87) 1,none⟩] [⟨(some 89),.fadd (.t 88) 0,none⟩,
  ⟨(some 90),.fadd (.t 89) 18,none⟩,
  ⟨(some 91),.ld (.t 90) 1 false,none⟩,
  ⟨(some 93),.fadd (.t 92) 0,none⟩,
  ⟨(some 94),.fadd (.t 93) 19,none⟩,
  ⟨(some 95),.ld (.t 94) 1 false,none⟩]) <|
 .seq (.dreg [] [⟨none,.st (.t 14) (.t 91) 1,none⟩] [⟨(some 93),.fadd (.t 92) 0,none⟩,
  ⟨(some 94),.fadd (.t 93) 19,none⟩,
  ⟨(some 95),.ld (.t 94) 1 false,none⟩]) <|
 .seq (.dreg [] [⟨none,.st (.t 15) (.t 95) 1,none⟩] []) <|
 .seq (.dreg [] [⟨none,.st (.t 16) (.c (.int .i64 0)) 1,none⟩] []) <|
 .dreg [] [] []) <|
 .ret,
 [.cell 12 7 true,.cell 13 1 false,.cell 14 1 false,.cell 15 1 false,.cell 16 1 false]⟩
theorem Fb:cFnD PP true qI Cq (cDr PP 96 Fs)=some BM:=by kernel_rfl
def rO (a:Heap) (b:D) (c:D) (d:D) (e:D) (f:D) (g:D) (h:D) (i:D) (j:D) (k:D) (l:D) (m:D) (n:HJ) (K:HK):Prop :=
 ∃(o:Nat->HJ) (p:Nat),o p [zI] a/\∀(a:Nat) (p:Nat->D) (q:Heap),o a [p 66] q->vbin .lss (p 66) b fun r=>vcond r (xI c (p 66) 15 q fun n q=>xL n 15 true q fun n q=>ab PP (.alloc (.agg [zI,zI,zI,zI,zI,zJ,zI,zI,zJ,zI,zI,zJ,zI,zI,zJ])) q fun q r=>xS q n 15 r fun n r=>xL q 15 true r fun n q=>xF d 0 q fun q r=>xL q 1 false r fun q r=>xF d 2 r fun r s=>xL r 1 false s fun r s=>ab PP (.bld [zI,zI,zI,zI,zI,zI,zI,zI,zJ] [(2,1,(.c q)),(3,1,(.c e)),(4,1,(.c r)),(5,1,(.c (p 66)))]) s fun q r=>Ij PP jk [f,n,q] r (fun a=>Od PP gk [d,g,h,i,j,k,l,m] a fun a=>xL i 7 true a fun b c=>xL j 1 false a fun c d=>xL k 1 false a fun d e=>xL l 1 false a fun e f=>xL m 1 false a fun f g=>K (.tup [b,c,d,e,f]) a) fun g h=>vbin .add (p 66) (.int .i64 1) fun g=>aG [e,d,i,j,k,l,m,f,c,b] [e,d,i,j,k,l,m,f,c,b]/\∃b,b<a/\o b [g] h) (aG [i,j,k,l,m,f] [i,j,k,l,m,f]/\n [] q)
def Bp (a:D) (b:D) (c:D) (d:D) (e:D) (f:D) (g:Heap) (K:HK):Prop :=
 ab PP (.box (.c a)) g fun a g=>ab PP (.box (.c b)) g fun b g=>ab PP (.box (.c c)) g fun c g=>ab PP (.box (.c d)) g fun d g=>ab PP (.box (.c e)) g fun e g=>ab PP (.alloc (.agg [zI,zI,zI,zI,.nil,.nil,.nil])) g fun g h=>ab PP (.alloc .nil) h fun h i=>ab PP (.alloc .nil) i fun i j=>ab PP (.alloc .nil) j fun j k=>ab PP (.alloc zI) k fun k l=>xF c 1 l fun l m=>xL l 1 false m fun l m=>vbin .neq l (.int .i64 1) fun l=>vcond l (yL c 7 true m fun a=>yL d 1 false m fun b=>yL e 1 false m fun c=>xS g a 7 m fun a f=>((yL d 1 false f fun a=>aG [a] [b])/\(yL e 1 false f fun a=>aG [a] [c])/\True)/\xS h b 1 f fun a f=>((yL d 1 false f fun a=>aG [a] [b])/\(yL e 1 false f fun a=>aG [a] [c])/\True)/\xS i c 1 f fun a f=>((yL d 1 false f fun a=>aG [a] [b])/\(yL e 1 false f fun a=>aG [a] [c])/\True)/\ab PP (.st (.c j) (.c .nil) 1) f fun a f=>((yL d 1 false f fun a=>aG [a] [b])/\(yL e 1 false f fun a=>aG [a] [c])/\True)/\xS k (.int .i64 1) 1 f fun a f=>((yL d 1 false f fun a=>aG [a] [b])/\(yL e 1 false f fun a=>aG [a] [c])/\True)/\xL g 7 true f fun a b=>xL h 1 false f fun b c=>xL i 1 false f fun c d=>xL j 1 false f fun d e=>xL k 1 false f fun e g=>K (.tup [a,b,c,d,e]) f) (yL a 8 true m fun l=>yL b 2 true m fun n=>yL c 7 true m fun o=>yL d 1 false m fun p=>yL e 1 false m fun q=>ag PP dZ [p] m fun m r=>((yL a 8 true r fun a=>aG [a] [l])/\(yL b 2 true r fun a=>aG [a] [n])/\(yL c 7 true r fun a=>aG [a] [o])/\(yL e 1 false r fun a=>aG [a] [q])/\True)/\ag PP dZ [q] r fun r s=>((yL a 8 true s fun a=>aG [a] [l])/\(yL b 2 true s fun a=>aG [a] [n])/\(yL c 7 true s fun a=>aG [a] [o])/\True)/\ab PP (.mkm (.pair .i64)) s fun s t=>((yL a 8 true t fun a=>aG [a] [l])/\(yL b 2 true t fun a=>aG [a] [n])/\(yL c 7 true t fun a=>aG [a] [o])/\(yL d 1 false t fun a=>aG [a] [p])/\(yL e 1 false t fun a=>aG [a] [q])/\True)/\au PP (.bld [zI,zI,zI,zI,zI,.nil,.nil,.nil,zI,.nil,zI,zI,zI,zI,.nil,.nil,.nil,.nil,.nil,.nil,.nilmap] [(0,8,(.c l)),(8,2,(.c n)),(10,7,(.c o)),(17,1,(.c m)),(18,1,(.c r)),(20,1,(.c s))]) t fun b=>ab PP (.box (.c b)) t fun b l=>yF c 4 l fun m=>yL m 1 false l fun m=>yF c 6 l fun n=>yL n 1 false l fun o=>yF c 5 l fun p=>yL p 1 false l fun q=>ag PP aR [m] l fun l m=>((yF c 6 m fun a=>aG [a] [n])/\(yL n 1 false m fun a=>aG [a] [o])/\(yF c 5 m fun a=>aG [a] [p])/\(yL p 1 false m fun a=>aG [a] [q])/\True)/\ag PP aR [o] m fun m n=>((yF c 5 n fun a=>aG [a] [p])/\(yL p 1 false n fun a=>aG [a] [q])/\True)/\ag PP dZ [q] n fun n o=>yF b 0 o fun p=>yF p 10 o fun p=>yF p 4 o fun p=>xS p l 1 o fun l o=>yF b 0 o fun l=>yF l 10 o fun l=>yF l 6 o fun l=>xS l m 1 o fun l m=>yF b 0 m fun l=>yF l 10 m fun l=>yF l 5 m fun l=>xS l n 1 m fun l m=>∃(l:HJ),( ∀(a:Nat->D) (c:Heap),l [] c->yF b 0 c fun a=>yF a 17 c fun d=>yL d 1 false c fun e=>yF b 0 c fun f=>yF f 18 c fun l=>yL l 1 false c fun m=>yF b 0 c fun n=>yF n 19 c fun o=>yL o 1 false c fun p=>ag PP gF [b] c fun c q=>((yF b 0 q fun b=>aG [b] [a])/\(yF a 17 q fun a=>aG [a] [d])/\(yL d 1 false q fun a=>aG [a] [e])/\(yF b 0 q fun a=>aG [a] [f])/\(yF f 18 q fun a=>aG [a] [l])/\(yL l 1 false q fun a=>aG [a] [m])/\(yF b 0 q fun a=>aG [a] [n])/\(yF n 19 q fun a=>aG [a] [o])/\(yL o 1 false q fun a=>aG [a] [p])/\True)/\xS g c 7 q fun c q=>((yF b 0 q fun b=>aG [b] [a])/\(yF a 17 q fun a=>aG [a] [d])/\(yL d 1 false q fun a=>aG [a] [e])/\(yF b 0 q fun a=>aG [a] [f])/\(yF f 18 q fun a=>aG [a] [l])/\(yL l 1 false q fun a=>aG [a] [m])/\(yF b 0 q fun a=>aG [a] [n])/\(yF n 19 q fun a=>aG [a] [o])/\(yL o 1 false q fun a=>aG [a] [p])/\True)/\xS h e 1 q fun a c=>((yF b 0 c fun a=>aG [a] [f])/\(yF f 18 c fun a=>aG [a] [l])/\(yL l 1 false c fun a=>aG [a] [m])/\(yF b 0 c fun a=>aG [a] [n])/\(yF n 19 c fun a=>aG [a] [o])/\(yL o 1 false c fun a=>aG [a] [p])/\True)/\xS i m 1 c fun a c=>((yF b 0 c fun a=>aG [a] [n])/\(yF n 19 c fun a=>aG [a] [o])/\(yL o 1 false c fun a=>aG [a] [p])/\True)/\xS j p 1 c fun a b=>xS k zI 1 b fun a b=>xL g 7 true b fun a c=>xL h 1 false b fun c d=>xL i 1 false b fun d e=>xL j 1 false b fun e f=>xL k 1 false b fun f g=>K (.tup [a,c,d,e,f]) b)/\xF a 7 m fun a m=>xL a 1 false m fun a m=>xF c 2 m fun m n=>xL m 1 false n fun m n=>xI a m 14 n fun a m=>xF a 0 m fun a m=>xL a 1 false m fun a m=>cb a m fun n=>rO m n a c f b d e g h i j k l K)
theorem EU (a0:D) (a1:D) (a2:D) (a3:D) (a4:D) (a5:D) (h0:Heap) (K:HK):Bp a0 a1 a2 a3 a4 a5 h0 K=Ik PP BM K (params [a0,a1,a2,a3,a4,a5] 0) h0:=by kernel_rfl
def m8:TL
 | 1000006=>some ([5,6,7,8,9,10,12],[13])|_=>none
def pQ:TT
 | 12=>some ([0,1,3,0,8,0,32,0,128,480,1023,2047],[9,11],[999999])|14=>some ([0,1,3,0,8,24,0,0,0,256,0,1984,4095,8191],[11,13],[999999])|_=>none
noncomputable abbrev ki:=cFn PP true gN m8 (cDr PP 63 pQ)
noncomputable def ko:aK:=⟨63,aS ki,[.cell 10 11 true]⟩
theorem oY:ki=some ko:=by kernel_rfl
def jY (a:D) (b:D) (c:D) (d:D) (e:D) (f:Heap) (K:HK):Prop :=
 ab PP (.box (.c a)) f fun a f=>ab PP (.box (.c b)) f fun b f=>ab PP (.box (.c c)) f fun c f=>ab PP (.box (.c d)) f fun d f=>ab PP (.box (.c e)) f fun e f=>ab PP (.alloc (.agg [zI,zI,zI,zI,.nil,.nil,.nil,.nil,.nil,.nil,zI])) f fun f g=>xF d 0 g fun g h=>xL g 1 false h fun g h=>∃(i:HJ),( ∀(h:Nat->D) (j:Heap),i [h 13] j->vcond (h 13) (xL a 8 true j fun a b=>xL c 11 true b fun b c=>xL d 15 true c fun c d=>xL e 9 true d fun d e=>ag PP kU [a,b,c,d] e fun a b=>xS f a 11 b fun a b=>xL f 11 true b fun a c=>K a b) (vbin .eql g (.int .i64 10) fun h=>vcond h (xF e 0 j fun a b=>xS a (.int .i64 4) 1 b fun a b=>xF d 1 b fun a b=>xL a 1 false b fun a b=>xF e 1 b fun b d=>xS b a 1 d fun a b=>xF c 9 b fun a b=>xL a 1 false b fun a b=>xL e 9 true b fun b d=>ab PP (.bldS true 9 1 (.agg [zI,zI,zI,zI,zI,zI,zI,zI,zJ]) [(0,(.c b))]) d fun b d=>ab PP (.app (.c a) (.c b) 9 72 (.agg [zI,zI,zI,zI,zI,zI,zI,zI,zJ])) d fun a b=>xF c 9 b fun b d=>xS b a 1 d fun a b=>xL c 11 true b fun a b=>xS f a 11 b fun a b=>xL f 11 true b fun a c=>K a b) (vbin .eql g (.int .i64 12) fun e=>vcond e (yF c 0 j fun a=>yF a 6 j fun b=>yL b 1 false j fun e=>yF d 2 j fun g=>yL g 1 false j fun h=>yF c 0 j fun i=>yL i 7 true j fun i=>yF d 6 j fun k=>yL k 3 true j fun k=>ag PP ca [i,k] j fun i j=>((yF c 0 j fun b=>aG [b] [a])/\(yF a 6 j fun a=>aG [a] [b])/\(yL b 1 false j fun a=>aG [a] [e])/\(yF d 2 j fun a=>aG [a] [g])/\(yL g 1 false j fun a=>aG [a] [h])/\True)/\yI e h 1 j fun a=>xS a i 1 j fun a b=>xL c 11 true b fun a b=>xS f a 11 b fun a b=>xL f 11 true b fun a c=>K a b) (yF c 0 j fun e=>yF e 4 j fun g=>yL g 1 false j fun h=>yF d 3 j fun i=>yF i 1 j fun k=>yL k 1 false j fun l=>yL a 8 true j fun a=>yL b 2 true j fun b=>yF c 0 j fun m=>yL m 7 true j fun m=>yL d 15 true j fun n=>ag PP kT [a,b,m,n] j fun a b=>((yF c 0 b fun a=>aG [a] [e])/\(yF e 4 b fun a=>aG [a] [g])/\(yL g 1 false b fun a=>aG [a] [h])/\(yF d 3 b fun a=>aG [a] [i])/\(yF i 1 b fun a=>aG [a] [k])/\(yL k 1 false b fun a=>aG [a] [l])/\True)/\yI h l 1 b fun d=>xS d a 1 b fun a b=>xL c 11 true b fun a b=>xS f a 11 b fun a b=>xL f 11 true b fun a c=>K a b))))/\vbin .eql g (.int .i64 7) fun j=>vcond j (aG [a,b,c,d,e,f,g] [a,b,c,d,e,f,g]/\i [j] h) (vbin .eql g (.int .i64 8) fun j=>vcond j (aG [a,b,c,d,e,f,g] [a,b,c,d,e,f,g]/\i [j] h) (vbin .eql g (.int .i64 9) fun j=>aG [a,b,c,d,e,f,g] [a,b,c,d,e,f,g]/\i [j] h))
theorem oQ (a0:D) (a1:D) (a2:D) (a3:D) (a4:D) (h0:Heap) (K:HK):jY a0 a1 a2 a3 a4 h0 K=eo ko K [a0,a1,a2,a3,a4] h0:=by kernel_rfl
def wZ:TL
 | 1000013=>some ([3,4],[])|_=>none
def BO:TT
 | 11=>some ([0,1,0,4,0,16,48,0,128,384,0,1024,3072,8191,16383],[14],[])|_=>none
noncomputable abbrev ui:=cFn PP true mH wZ (cDr PP 54 BO)
noncomputable def uF:aK:=⟨54,aS ui,[.cell 4 7 true]⟩
theorem AD:ui=some uF:=by kernel_rfl
def tQ (a:D) (b:D) (c:Heap) (K:HK):Prop :=
 ab PP (.box (.c a)) c fun a c=>ab PP (.box (.c b)) c fun b c=>ab PP (.alloc (.agg [zI,zI,zI,zI,.nil,.nil,.nil])) c fun c d=>xF a 7 d fun d e=>xL d 1 false e fun d e=>xF b 2 e fun e f=>xL e 1 false f fun e f=>xI d e 14 f fun d e=>xF d 1 e fun d e=>xL d 13 true e fun d e=>ab PP (.alloc (.agg [zI,zI,zI,zI,zJ,zI,zI,zJ,zI,zI,zJ,zI,zI])) e fun e f=>xS e d 13 f fun d f=>∃(d:HJ),( ∀(a:Nat->D) (e:Heap),d [] e->xL b 7 true e fun a b=>xS c a 7 b fun a b=>xL c 7 true b fun a c=>K a b)/\xF e 0 f fun f g=>xL f 1 false g fun f g=>vbin .eql f (.int .i64 1) fun h=>vcond h (xF e 11 g fun a e=>ab PP (.iadda (.c a) (.c zI) 2 1) e fun a e=>xL a 1 false e fun a e=>xF b 2 e fun e f=>xS e a 1 f fun a e=>aG [b,c] [b,c]/\d [] e) (vbin .eql f (.int .i64 2) fun h=>vcond h (xF e 11 g fun a f=>ab PP (.iadda (.c a) (.c (.int .i64 1)) 2 1) f fun a f=>xL a 1 false f fun a f=>xF b 2 f fun f g=>xS f a 1 g fun a f=>xL b 7 true f fun a f=>xF e 5 f fun f g=>xL f 3 true g fun f g=>ag PP ca [a,f] g fun a f=>vbin .neq a zJ fun a=>vcond a (xF e 11 f fun a e=>ab PP (.iadda (.c a) (.c zI) 2 1) e fun a e=>xL a 1 false e fun a e=>xF b 2 e fun e f=>xS e a 1 f fun a e=>aG [b,c] [b,c]/\d [] e) (aG [b,c] [b,c]/\d [] f)) (vbin .eql f (.int .i64 5) fun e=>vcond e (yF b 0 g fun d=>yL d 1 false g fun d=>yF b 3 g fun b=>yL b 1 false g fun b=>yF a 2 g fun e=>yL e 1 false g fun e=>au PP (.mk 1 4 zJ (.c e) (.c e)) g fun e=>yF a 5 g fun f=>yL f 1 false g fun f=>au PP (.call fh [(.c f),(.c (.int .i64 3))]) g fun f=>yF a 3 g fun a=>yL a 1 false g fun a=>au PP (.mk 1 4 zJ (.c a) (.c a)) g fun a=>au PP (.bld [zI,zI,zI,zI,.nil,.nil,.nil] [(0,1,(.c d)),(1,1,(.c (.int .i64 3))),(3,1,(.c b)),(4,1,(.c e)),(5,1,(.c f)),(6,1,(.c a))]) g fun a=>xS c a 7 g fun a b=>xL c 7 true b fun a c=>K a b) (xF b 1 g fun a e=>xS a (.int .i64 2) 1 e fun a e=>aG [b,c] [b,c]/\d [] e)))
theorem Al (a0:D) (a1:D) (h0:Heap) (K:HK):tQ a0 a1 h0 K=eo uF K [a0,a1] h0:=by kernel_rfl
def Cr:TL
 | 1000009=>some ([4,6],[])|_=>none
def Ft:TT
 | 4=>some ([0,1,3,0,8,31,63],[4,6],[1,2])|_=>none
noncomputable abbrev BC:=cFn PP true qJ Cr (cDr PP 40 Ft)
noncomputable def BN:aK:=⟨40,aS BC,[.cell 6 7 true,.t 7]⟩
theorem Fc:BC=some BN:=by kernel_rfl
def Bq (a:D) (b:D) (c:D) (d:Heap) (K:HK):Prop :=
 ab PP (.box (.c a)) d fun a d=>ab PP (.box (.c b)) d fun b d=>ab PP (.alloc (.agg [zI,zI,zI,zI,.nil,.nil,.nil])) d fun d e=>xF b 1 e fun e f=>xL e 1 false f fun e f=>vbin .neq e (.int .i64 2) fun e=>vcond e (xL b 7 true f fun a b=>xS d a 7 b fun a b=>xL d 7 true b fun a c=>K (.tup [a,(.int .i64 1)]) b) (xF a 7 f fun a e=>xL a 1 false e fun a e=>xF b 2 e fun e f=>xL e 1 false f fun e f=>xI a e 14 f fun a e=>xF a 1 e fun a e=>xL a 13 true e fun a e=>ab PP (.alloc (.agg [zI,zI,zI,zI,zJ,zI,zI,zJ,zI,zI,zJ,zI,zI])) e fun e f=>xS e a 13 f fun a f=>yF e 11 f fun a=>au PP (.iadda (.c a) (.c zI) 2 1) f fun g=>yL g 1 false f fun h=>yF b 1 f fun i=>yF b 2 f fun j=>xS i (.int .i64 1) 1 f fun f i=>((au PP (.iadda (.c a) (.c zI) 2 1) i fun a=>aG [a] [g])/\(yL g 1 false i fun a=>aG [a] [h])/\True)/\xS j h 1 i fun f i=>((au PP (.iadda (.c a) (.c zI) 2 1) i fun a=>aG [a] [g])/\(yL g 1 false i fun a=>aG [a] [h])/\True)/\∃(a:HJ),( ∀(c:Nat->D) (e:Heap),a [] e->xL b 7 true e fun a b=>xS d a 7 b fun a b=>xL d 7 true b fun a c=>K (.tup [a,zI]) b)/\xF e 0 i fun f g=>xL f 1 false g fun f g=>vbin .eql f (.int .i64 4) fun f=>vcond f (xF b 4 g fun f g=>xL f 1 false g fun f g=>ag PP aR [f] g fun f g=>xF b 4 g fun g h=>xS g f 1 h fun f g=>xF b 4 g fun f g=>xL f 1 false g fun f g=>xF e 2 g fun e g=>xF e 1 g fun e g=>xL e 1 false g fun e g=>xI f e 1 g fun e f=>xS e c 1 f fun c e=>aG [b,d] [b,d]/\a [] e) (aG [b,d] [b,d]/\a [] g))
theorem EV (a0:D) (a1:D) (a2:D) (h0:Heap) (K:HK):Bq a0 a1 a2 h0 K=eo BN K [a0,a1,a2] h0:=by kernel_rfl
def Ab:TL
 | _=>none
def DX:TT
 | _=>none
noncomputable abbrev yA:=cFn PP true oj Ab (cDr PP 23 DX)
noncomputable def zh:aK:=⟨23,aS yA,[.cell 6 7 true,.t 7]⟩
theorem C8:yA=some zh:=by kernel_rfl
def yf (a:D) (b:D) (c:D) (d:Heap) (K:HK):Prop :=
 ab PP (.box (.c a)) d fun a d=>ab PP (.box (.c b)) d fun b d=>ab PP (.alloc (.agg [zI,zI,zI,zI,.nil,.nil,.nil])) d fun d e=>vbin .lss c zI fun f=>vguard f false (fun a=>a c e) e fun e g=>vguard f false (fun a=>xF b 0 g fun b c=>a b c) g fun b g=>vguard f false (fun a=>xL b 1 false g fun b c=>a b c) g fun b g=>vguard f false (fun b=>xF a 0 g fun a c=>b a c) g fun g h=>vguard f false (fun a=>xL g 1 false h fun b c=>a b c) h fun g h=>vguard f false (fun a=>vbin .mul b g fun b=>a b h) h fun b g=>vguard f false (fun a=>vbin .geq e b fun b=>a b g) g fun b e=>ab PP (.pick (.c f) (.c (.bool true)) (.c b)) e fun b e=>vcond b (ab PP (.bld [zI,zI,zI,zI,.nil,.nil,.nil] []) e fun a b=>xS d a 7 b fun a b=>xL d 7 true b fun a c=>K (.tup [a,(.int .i64 1)]) b) (xL a 8 true e fun a b=>ag PP kD [a,c,zI,(.int .i64 1)] b fun a b=>xS d a 7 b fun a b=>xL d 7 true b fun a c=>K (.tup [a,zI]) b)
theorem CN (a0:D) (a1:D) (a2:D) (h0:Heap) (K:HK):yf a0 a1 a2 h0 K=eo zh K [a0,a1,a2] h0:=by kernel_rfl
def zN:TL
 | 1000007=>some ([],[5])|3=>some ([0,1],[5,6])|_=>none
def DJ:TT
 | _=>none
noncomputable abbrev yj:=cFn PP false fh zN (cDr PP 25 DJ)
noncomputable def yP:aK:=⟨25,aS yj,[.t 4]⟩
theorem CT:yj=some yP:=by kernel_rfl
def pj (a:D) (b:Heap) (c:D) (d:D) (e:HJ):Prop :=
 ∃(f:Nat->HJ) (g:Nat),f g [a,zI] b/\∀(a:Nat) (b:Nat->D) (g:Heap),f a [b 5,b 6] g->cb c g fun h=>vbin .lss (b 6) h fun h=>vcond h (xI c (b 6) 4 g fun e g=>xL e 4 true g fun e g=>ag PP mJ [e,d] g fun e g=>ab PP (.mk 1 4 zJ (.c e) (.c e)) g fun e g=>ab PP (.bldS false 1 1 .nil [(0,(.c e))]) g fun e g=>ab PP (.app (.c (b 5)) (.c e) 1 24 .nil) g fun e g=>vbin .add (b 6) (.int .i64 1) fun b=>aG [c,d] [c,d]/\∃c,c<a/\f c [e,b] g) (aG [] []/\e [(b 5)] g)
def xM (a:D) (b:D) (c:Heap) (K:HK):Prop :=
 ab PP (.bldS false 1 0 .nil []) c fun c d=>∃(e:HJ),( ∀(a:Nat->D) (b:Heap),e [a 5] b->K (a 5) b)/\pj c d a b e
theorem Cy (a0:D) (a1:D) (h0:Heap) (K:HK):xM a0 a1 h0 K=eo yP K [a0,a1] h0:=by kernel_rfl
def pY:TL
 | 1000009=>some ([],[])|4=>some ([0,1],[5])|_=>none
def sX:TT
 | 6=>some ([0,0,3,7,0,0,48,112,255],[],[])|_=>none
noncomputable abbrev mq:=cFn PP true iE pY (cDr PP 26 sX)
noncomputable def mC:aK:=⟨26,aS mq,[.t 4]⟩
theorem sA:mq=some mC:=by kernel_rfl
def jA (a:Heap) (b:D) (c:D) (d:HJ) (K:HK):Prop :=
 ∃(e:Nat->HJ) (f:Nat),e f [zI] a/\∀(a:Nat) (f:Nat->D) (g:Heap),e a [f 5] g->cb b g fun h=>vbin .lss (f 5) h fun h=>vcond h (yI b (f 5) 1 g fun d=>yL d 1 false g fun d=>yI c (f 5) 1 g fun h=>yL h 1 false g fun h=>vbin .neq d h fun d=>vcond d (K (.bool false) g) (vbin .add (f 5) (.int .i64 1) fun d=>aG [b,c] [b,c]/\∃b,b<a/\e b [d] g)) (aG [] []/\d [] g)
def me (a:D) (b:D) (c:Heap) (K:HK):Prop :=
 cb a c fun d=>cb b c fun e=>vbin .neq d e fun d=>vcond d (K (.bool false) c) ( ∃(d:HJ),( ∀(a:Nat->D) (b:Heap),d [] b->K (.bool true) b)/\jA c a b d K)
theorem rI (a0:D) (a1:D) (h0:Heap) (K:HK):me a0 a1 h0 K=eo mC K [a0,a1] h0:=by kernel_rfl
def th:TL
 | _=>none
def wH:TT
 | _=>none
noncomputable abbrev pJ:=cFn PP true fG th (cDr PP 5 wH)
noncomputable def pP:aK:=⟨5,aS pJ,[.t 2]⟩
theorem wh:pJ=some pP:=by kernel_rfl
def pC (a:D) (b:Heap) (K:HK):Prop :=
 vbin .neq a zJ fun a=>K a b
theorem vY (a0:D) (h0:Heap) (K:HK):pC a0 h0 K=eo pP K [a0] h0:=by kernel_rfl
def xl:TL
 | _=>none
def Cc:TT
 | _=>none
noncomputable abbrev uD:=cFn PP true mN xl (cDr PP 11 Cc)
noncomputable def uT:aK:=⟨11,aS uD,[.t 6]⟩
theorem AR:uD=some uT:=by kernel_rfl
def ug (a:D) (b:D) (c:D) (d:Heap) (K:HK):Prop :=
 ab PP (.box (.c b)) d fun b d=>ab PP (.mkf gE [] [(.c b)]) d fun b d=>ag PP bu [a,c,b] d fun a b=>K a b
theorem AA (a0:D) (a1:D) (a2:D) (h0:Heap) (K:HK):ug a0 a1 a2 h0 K=eo uT K [a0,a1,a2] h0:=by kernel_rfl
def iF:TL
 | 1000010=>some ([0],[3])|3=>some ([0,9,10],[3,11])|1000009=>some ([0,9,10,11],[3])|1000016=>some ([],[6])|11=>some ([25,26],[6,27])|_=>none
def iY:TT
 | _=>none
noncomputable abbrev fK:=cFn PP true bT iF (cDr PP 36 iY)
noncomputable def fL:aK:=⟨36,aS fK,[.t 2]⟩
theorem iT:fK=some fL:=by kernel_rfl
def cv (a:D) (b:Heap) (c:D) (d:D) (e:HJ):Prop :=
 ∃(f:Nat->HJ) (g:Nat),f g [a,zI] b/\∀(a:Nat) (b:Nat->D) (g:Heap),f a [b 6,b 27] g->vbin .lss (b 27) c fun h=>vcond h (xI d (b 27) 1 g fun e g=>xL e 1 false g fun e g=>ab PP (.app (.c (b 6)) (.c e) 1 4 zJ) g fun e g=>vbin .add (b 27) (.int .i64 1) fun b=>aG [d,c] [d,c]/\∃c,c<a/\f c [e,b] g) (aG [] []/\e [(b 6)] g)
def eK (a:Heap) (b:D) (c:D) (d:HJ):Prop :=
 ∃(e:Nat->HJ) (f:Nat),e f [zI,zI] a/\∀(a:Nat) (f:Nat->D) (g:Heap),e a [f 3,f 11] g->vbin .lss (f 11) b fun h=>vcond h ( ∃(d:HJ),( ∀(g:Nat->D) (h:Heap),d [g 3] h->vbin .add (f 11) (.int .i64 1) fun d=>aG [c,c,b] [c,c,b]/\∃b,b<a/\e b [(g 3),d] h)/\xI c (f 11) 1 g fun a e=>xL a 1 false e fun a e=>cb a e fun a=>vbin .add (f 3) a fun a=>vbin .lss a zI fun g=>vcond g (ab PP (.dead) e fun e g=>ab PP (.dead) g fun e g=>aG [c,c,b,(f 11)] [c,c,b,(f 11)]/\d [a] g) (aG [c,c,b,(f 11)] [c,c,b,(f 11)]/\d [a] e)) (aG [c] [c]/\d [(f 3)] g)
def fJ (a:D) (b:Heap) (K:HK):Prop :=
 ∃(c:HJ),( ∀(b:Nat->D) (d:Heap),c [b 3] d->ag PP du [.nil,(b 3)] d fun b c=>∃(d:HJ),( ∀(a:Nat->D) (b:Heap),d [a 6] b->K (a 6) b)/\cb a c fun e=>cv b c e a d)/\cb a b fun d=>eK b d a c
theorem iR (a0:D) (h0:Heap) (K:HK):fJ a0 h0 K=eo fL K [a0] h0:=by kernel_rfl
def gl:TL
 | _=>none
def gL:TT
 | _=>none
noncomputable abbrev dD:=cFn PP true bE gl (cDr PP 9 gL)
noncomputable def dK:aK:=⟨9,aS dD,[.t 4]⟩
theorem gI:dD=some dK:=by kernel_rfl
def dB (a:D) (b:D) (c:Heap) (K:HK):Prop :=
 ag PP eH [a,b] c fun a b=>vbin .geq a zI fun a=>K a b
theorem gH (a0:D) (a1:D) (h0:Heap) (K:HK):dB a0 a1 h0 K=eo dK K [a0,a1] h0:=by kernel_rfl
def xf:TL
 | _=>none
def BY:TT
 | _=>none
noncomputable abbrev uz:=cFn PP true gT xf (cDr PP 47 BY)
noncomputable def uP:aK:=⟨47,aS uz,[.cell 6 2 true]⟩
theorem AN:uz=some uP:=by kernel_rfl
def uc (a:D) (b:D) (c:D) (d:Heap) (K:HK):Prop :=
 ab PP (.alloc (.agg [zJ,zI])) d fun d e=>vbin .lss a (.int .i64 10) fun f=>vguard f false (fun b=>b a e) e fun e g=>vguard f false (fun a=>vbin .gtr e (.int .i64 29) fun b=>a b g) g fun e g=>ab PP (.pick (.c f) (.c (.bool true)) (.c e)) g fun e f=>vcond e (ab PP (.bld [zJ,zI] [(1,1,(.c (.int .i64 1)))]) f fun a b=>xS d a 2 b fun a b=>xL d 2 true b fun a c=>K a b) (vbin .geq a (.int .i64 24) fun e=>vcond e (ab PP (.conv .i64 (.c b)) f fun b e=>ab PP (.conv .i64 (.c c)) e fun c e=>ag PP ja [a,b,c] e fun a b=>ag PP gR [a] b fun a b=>ab PP (.bld [zJ,zI] [(0,1,(.c a))]) b fun a b=>xS d a 2 b fun a b=>xL d 2 true b fun a c=>K a b) (vbin .eql a (.int .i64 17) fun e=>vguard e false (fun b=>b a f) f fun f g=>vguard e false (fun a=>vbin .eql f (.int .i64 18) fun b=>a b g) g fun f g=>ab PP (.pick (.c e) (.c (.bool true)) (.c f)) g fun e f=>vguard e false (fun b=>b a f) f fun f g=>vguard e false (fun a=>vbin .eql f (.int .i64 19) fun b=>a b g) g fun f g=>ab PP (.pick (.c e) (.c (.bool true)) (.c f)) g fun e f=>vcond e (ag PP kB [a,b,c] f fun a b=>ab PP (.bld [zJ,zI] [(0,1,(.c a))]) b fun a b=>xS d a 2 b fun a b=>xL d 2 true b fun a c=>K a b) (ab PP (.conv .i64 (.c b)) f fun b e=>ab PP (.conv .i64 (.c c)) e fun c e=>ag PP mK [a,b,c] e fun a b=>ag PP cK [a] b fun a b=>ab PP (.bld [zJ,zI] [(0,1,(.c a))]) b fun a b=>xS d a 2 b fun a b=>xL d 2 true b fun a c=>K a b)))
theorem Aw (a0:D) (a1:D) (a2:D) (h0:Heap) (K:HK):uc a0 a1 a2 h0 K=eo uP K [a0,a1,a2] h0:=by kernel_rfl
def ot:TL
 | _=>none
def qp:TT
 | 2=>some ([0,1,3,7,0,16,48,112,240,511],[],[])|4=>some ([0,1,3,7,0,16,48,112,240,511,1023,2047,4095],[],[])|_=>none
noncomputable abbrev lC:=cFn PP true ak ot (cDr PP 32 qp)
noncomputable def lI:aK:=⟨32,aS lC,[.t 2]⟩
theorem qf:lC=some lI:=by kernel_rfl
def lx (a:D) (b:Heap) (K:HK):Prop :=
 xF a 0 b fun b c=>xF b 1 c fun b c=>xL b 1 false c fun b c=>vbin .add b (.int .i64 1) fun b=>xF a 0 c fun c d=>xF c 1 d fun c d=>xS c b 1 d fun b c=>yF a 0 c fun b=>yF b 1 c fun b=>yL b 1 false c fun b=>yF a 0 c fun d=>yF d 0 c fun d=>yL d 1 false c fun d=>cb d c fun d=>vbin .gtr b d fun b=>vcond b (K zI c) (yF a 0 c fun b=>yF b 0 c fun b=>yL b 1 false c fun b=>yF a 0 c fun a=>yF a 1 c fun a=>yL a 1 false c fun a=>vbin .sub a (.int .i64 1) fun a=>yI b a 1 c fun a=>yL a 1 false c fun a=>au PP (.conv .i64 (.c a)) c fun a=>K a c)
theorem p8 (a0:D) (h0:Heap) (K:HK):lx a0 h0 K=eo lI K [a0] h0:=by kernel_rfl
def vH:TL
 | _=>none
def zx:TT
 | _=>none
noncomputable abbrev rY:=cFn PP true la vH (cDr PP 7 zx)
noncomputable def sD:aK:=⟨7,aS rY,[.t 0]⟩
theorem yV:rY=some sD:=by kernel_rfl
def rL (a:Heap) (K:HK):Prop :=
 ab PP (.bld [(.str ⟨#[]⟩),zI,zI,zI] [(0,1,(.c (.str ⟨#[97]⟩))),(1,1,(.c (.int .i64 1))),(2,1,(.c (.int .i64 1))),(3,1,(.c (.int .i64 8)))]) a fun a b=>ab PP (.bld [(.str ⟨#[]⟩),zI,zI,zI] [(0,1,(.c (.str ⟨#[102]⟩))),(1,1,(.c (.int .i64 1))),(2,1,(.c (.int .i64 2))),(3,1,(.c (.int .i64 4)))]) b fun b c=>ab PP (.bld [(.str ⟨#[]⟩),zI,zI,zI] [(0,1,(.c (.str ⟨#[115]⟩))),(1,1,(.c (.int .i64 2))),(2,1,(.c (.int .i64 1))),(3,1,(.c (.int .i64 8)))]) c fun c d=>ab PP (.bld [(.str ⟨#[]⟩),zI,zI,zI] [(0,1,(.c (.str ⟨#[112]⟩))),(1,1,(.c (.int .i64 3))),(2,1,(.c (.int .i64 1))),(3,1,(.c (.int .i64 4)))]) d fun d e=>ab PP (.bld [(.str ⟨#[]⟩),zI,zI,zI] [(0,1,(.c (.str ⟨#[98]⟩))),(1,1,(.c (.int .i64 2))),(2,1,(.c (.int .i64 3))),(3,1,(.c (.int .i64 4)))]) e fun e f=>ab PP (.bldS true 4 5 (.agg [(.str ⟨#[]⟩),zI,zI,zI]) [(0,(.c a)),(1,(.c b)),(2,(.c c)),(3,(.c d)),(4,(.c e))]) f fun a b=>K a b
theorem xT (h0:Heap) (K:HK):rL h0 K=eo sD K [] h0:=by kernel_rfl
def mO:TL
 | 1000012=>some ([0],[])|4=>some ([0,5],[6])|1000011=>some ([0,5,6],[])|_=>none
def nX:TT
 | 9=>some ([0,1,3,7,15,0,0,64,0,256,0,1216,0,0,12288,31936,65472,0,131072,0,527552,0,0,6291456,16256192,33426624,67108800,134217664,268435455,536870911,1073741823],[7,11,20,30],[999999])|_=>none
noncomputable abbrev jB:=cFn PP true dY mO (cDr PP 77 nX)
noncomputable def jE:aK:=⟨77,aS jB,[]⟩
theorem nM:jB=some jE:=by kernel_rfl
def iq (a:D) (b:Heap) (c:D) (d:D) (e:HJ):Prop :=
 ∃(f:Nat->HJ) (g:Nat),f g [a] b/\∀(a:Nat) (b:Nat->D) (g:Heap),f a [b 6] g->vbin .lss (b 6) c fun h=>vcond h (ag PP ck [d] g fun e g=>xF d 0 g fun e g=>xF e 2 g fun e g=>xF e 7 g fun e g=>xL e 1 false g fun e g=>vbin .add (b 6) (.int .i64 1) fun h=>ab PP (.bld [zI,zI] [(0,1,(.c h)),(1,1,(.c zI))]) g fun g h=>ab PP (.bld [zI,zI,zI,zI,zJ,zI,zI,zJ,zI,zI,zJ,zI,zI] [(0,1,(.c (.int .i64 1))),(11,2,(.c g))]) h fun g h=>xI e (b 6) 14 h fun e h=>xF e 1 h fun e h=>xS e g 13 h fun e g=>∃(e:HJ),( ∀(g:Nat->D) (h:Heap),e [] h->ag PP bf [d] h fun e g=>vbin .add (b 6) (.int .i64 1) fun b=>aG [d,c] [d,c]/\∃c,c<a/\f c [b] g)/\ag PP ak [d] g fun a f=>vbin .rem a (.int .i64 2) fun a=>vbin .eql a zI fun a=>vcond a (yF d 0 f fun a=>yF a 2 f fun g=>yF g 7 f fun h=>yL h 1 false f fun i=>vbin .add (b 6) (.int .i64 1) fun j=>vbin .sub c (b 6) fun k=>vbin .add (b 6) (.int .i64 1) fun l=>vbin .sub c (b 6) fun m=>ag PP aZ [d] f fun f n=>((yF d 0 n fun b=>aG [b] [a])/\(yF a 2 n fun a=>aG [a] [g])/\(yF g 7 n fun a=>aG [a] [h])/\(yL h 1 false n fun a=>aG [a] [i])/\True)/\ag PP ak [d] n fun n o=>((yF d 0 o fun b=>aG [b] [a])/\(yF a 2 o fun a=>aG [a] [g])/\(yF g 7 o fun a=>aG [a] [h])/\(yL h 1 false o fun a=>aG [a] [i])/\True)/\vbin .rem n k fun k=>vbin .add j k fun j=>ag PP ak [d] o fun k n=>((yF d 0 n fun b=>aG [b] [a])/\(yF a 2 n fun a=>aG [a] [g])/\(yF g 7 n fun a=>aG [a] [h])/\(yL h 1 false n fun a=>aG [a] [i])/\True)/\vbin .rem k m fun a=>vbin .add l a fun a=>au PP (.bld [zI,zI] [(0,1,(.c j)),(1,1,(.c a))]) n fun a=>au PP (.bld [zI,zI,zI,zI,zJ,zI,zI,zJ,zI,zI,zJ,zI,zI] [(0,1,(.c (.int .i64 2))),(5,3,(.c f)),(11,2,(.c a))]) n fun a=>yI i (b 6) 14 n fun f=>yF f 1 n fun f=>xS f a 13 n fun a f=>aG [d,c,(b 6)] [d,c,(b 6)]/\e [] f) (aG [d,c,(b 6)] [d,c,(b 6)]/\e [] f)) (aG [d] [d]/\e [] g)
def jy (a:D) (b:D) (c:Heap) (K:HK):Prop :=
 ag PP bf [a] c fun c d=>xF a 0 d fun c d=>xF c 2 d fun c d=>xF c 7 d fun c d=>xL c 1 false d fun c d=>cb c d fun c=>vbin .sub c (.int .i64 1) fun c=>vbin .add c b fun b=>∃(e:HJ),( ∀(b:Nat->D) (c:Heap),e [] c->ag PP ck [a] c fun a b=>K (.tup []) b)/\iq c d b a e
theorem nr (a0:D) (a1:D) (h0:Heap) (K:HK):jy a0 a1 h0 K=eo jE K [a0,a1] h0:=by kernel_rfl
end Go.Am
namespace Go.Am
open Go Go.Proofs
def ou:TL
 | 1000008=>some ([],[0,2,3,4])|1000016=>some ([],[0,4,119])|_=>none
def qq:TT
 | 9=>some ([0,1,3,7,15,0,0,64,192,0,512,0,2048,7680,16320,32767,65535,131071],[17],[])|15=>some ([0,1,3,7,15,0,32,0,128,0,0,1024,3584,8064,16383,32767,65535],[8,16],[999999])|_=>none
noncomputable abbrev lD:=cFn PP true dw ou (cDr PP 136 qq)
noncomputable def lJ:aK:=⟨136,aS lD,[]⟩
theorem qg:lD=some lJ:=by kernel_rfl
def ng:TL
 | _=>none
def pT:TT
 | _=>none
noncomputable abbrev km:=cFn PP true bf ng (cDr PP 14 pT)
noncomputable def kx:aK:=⟨14,aS km,[]⟩
theorem pc:km=some kx:=by kernel_rfl
def kh (a:D) (b:Heap) (K:HK):Prop :=
 xF a 0 b fun b c=>xF b 2 c fun b c=>xF b 7 c fun b c=>xL b 1 false c fun b c=>ab PP (.bld [.nil,zI,zI,zI,zI,zJ,zI,zI,zJ,zI,zI,zJ,zI,zI] []) c fun c d=>ab PP (.bldS true 14 1 (.agg [.nil,zI,zI,zI,zI,zJ,zI,zI,zJ,zI,zI,zJ,zI,zI]) [(0,(.c c))]) d fun c d=>ab PP (.app (.c b) (.c c) 14 128 (.agg [.nil,zI,zI,zI,zI,zJ,zI,zI,zJ,zI,zI,zJ,zI,zI])) d fun b c=>xF a 0 c fun a c=>xF a 2 c fun a c=>xF a 7 c fun a c=>xS a b 1 c fun a b=>K (.tup []) b
theorem oW (a0:D) (h0:Heap) (K:HK):kh a0 h0 K=eo kx K [a0] h0:=by kernel_rfl
def pW:TL
 | _=>none
def sV:TT
 | _=>none
noncomputable abbrev mm:=cFn PP true aZ pW (cDr PP 7 sV)
noncomputable def mA:aK:=⟨7,aS mm,[.cell 2 3 true]⟩
theorem jF:mm=some mA:=by kernel_rfl
def iL (a:D) (b:Heap) (K:HK):Prop :=
 ab PP (.alloc (.agg [zI,zI,zJ])) b fun b c=>ag PP ak [a] c fun a c=>vbin .rem a (.int .i64 6) fun a=>ag PP dg [a] c fun a c=>xS b a 3 c fun a c=>xL b 3 true c fun a b=>K a c
theorem jz (a0:D) (h0:Heap) (K:HK):iL a0 h0 K=eo mA K [a0] h0:=by kernel_rfl
def pV:TL
 | _=>none
def sU:TT
 | _=>none
noncomputable abbrev ml:=cFn PP true aY pV (cDr PP 18 sU)
noncomputable def mz:aK:=⟨18,aS ml,[.cell 2 3 true]⟩
theorem jD:ml=some mz:=by kernel_rfl
def iK (a:D) (b:Heap) (K:HK):Prop :=
 ab PP (.alloc (.agg [zI,zI,zJ])) b fun b c=>ag PP ak [a] c fun a c=>vbin .rem a (.int .i64 3) fun d=>vbin .eql d zI fun d=>vcond d (vbin .quo a (.int .i64 3) fun a=>ab PP (.conv .i32 (.c a)) c fun a c=>vbin .sub a (.int .i32 20) fun a=>ag PP et [a] c fun a c=>xS b a 3 c fun a c=>xL b 3 true c fun a b=>K a c) (vbin .quo a (.int .i64 3) fun a=>vbin .rem a (.int .i64 6) fun a=>ag PP dg [a] c fun a c=>xS b a 3 c fun a c=>xL b 3 true c fun a b=>K a c)
theorem jx (a0:D) (h0:Heap) (K:HK):iK a0 h0 K=eo mz K [a0] h0:=by kernel_rfl
def na:TL
 | 1=>some ([0],[2])|_=>none
def pS:TT
 | _=>none
noncomputable abbrev kl:=cFn PP true ck na (cDr PP 12 pS)
noncomputable def ku:aK:=⟨12,aS kl,[]⟩
theorem pa:kl=some ku:=by kernel_rfl
def iM (a:D) (b:Heap) (c:D) (K:HK):Prop :=
 ∃(d:Nat->HJ) (e:Nat),d e [a] b/\∀(a:Nat) (b:Nat->D) (e:Heap),d a [b 2] e->vbin .gtr (b 2) zI fun f=>vcond f (ag PP hY [c] e fun e f=>vbin .sub (b 2) (.int .i64 1) fun b=>aG [c] [c]/\∃c,c<a/\d c [b] f) (K (.tup []) e)
def kg (a:D) (b:Heap) (K:HK):Prop :=
 ag PP ak [a] b fun b c=>vbin .rem b (.int .i64 5) fun b=>iM b c a K
theorem oU (a0:D) (h0:Heap) (K:HK):kg a0 h0 K=eo ku K [a0] h0:=by kernel_rfl
def zY:TL
 | _=>none
def DT:TT
 | _=>none
noncomputable abbrev yw:=cFn PP true dZ zY (cDr PP 11 DT)
noncomputable def zc:aK:=⟨11,aS yw,[.t 2]⟩
theorem C4:yw=some zc:=by kernel_rfl
def yb (a:D) (b:Heap) (K:HK):Prop :=
 cb a b fun c=>ab PP (.mk 1 24 .nil (.c c) (.c c)) b fun b c=>ab PP (.cpy (.c b) (.c a) 1) c fun a c=>K b c
theorem CI (a0:D) (h0:Heap) (K:HK):yb a0 h0 K=eo zc K [a0] h0:=by kernel_rfl
def iP:TL
 | _=>none
def jo:TT
 | _=>none
noncomputable abbrev fX:=cFn PP true aR iP (cDr PP 8 jo)
noncomputable def fY:aK:=⟨8,aS fX,[.t 2]⟩
theorem eV:fX=some fY:=by kernel_rfl
def de (a:D) (b:Heap) (K:HK):Prop :=
 ab PP (.nilq false (.c a)) b fun b c=>vcond b (K .nil c) (ab PP (.bldS true 1 0 zJ []) c fun b c=>ab PP (.app (.c b) (.c a) 1 4 zJ) c fun a b=>K a b)
theorem eU (a0:D) (h0:Heap) (K:HK):de a0 h0 K=eo fY K [a0] h0:=by kernel_rfl
def xn:TL
 | 1000027=>some ([0,4],[8])|1000012=>some ([0,4,5,6,7,25],[50])|1000018=>some ([0,4,5,6],[9])|8000006=>some ([1],[])|8000011=>some ([1],[])|_=>none
def Cd:TT
 | 1=>some ([0,1,3,7,0,16,63,0,128,384,896,0,2048,8191,16383,32767],[6,13],[999999])|7=>some ([0,1,0,4,0,0,32,99,227,495,1007,2047,4095],[6,8,10,12],[1])|12=>some ([0,1,0,4,0,0,32,99,227,495,1007,2047,4095],[6,8,10,12],[1])|15=>some ([0,1,0,4,15,31],[3,5],[1])|16=>some ([0,1,0,0,8,0,60,0,255,511,1023,1023,2047],[6],[999999])|20=>some ([0,1,0,4,15,31],[3,5],[1])|23=>some ([0,1,3,7,15,0,32,0,255,511],[9],[])|25=>some ([0,1,3,7,15,0,32,127,255,511],[],[])|26=>some ([0,1,3,7,15,0,32,96,0,511,1023],[10],[])|_=>none
noncomputable abbrev uE:=cFn PP true jk xn (cDr PP 137 Cd)
noncomputable def mU:aK:=⟨137,aS uE,[]⟩
theorem AS:uE=some mU:=by kernel_rfl
def uh (a:D) (b:D) (c:D) (d:Heap) (K:HK) (KP:Heap->Prop):Prop :=
 ab PP (.box (.c b)) d fun b d=>ab PP (.box (.c c)) d fun c d=>yF a 0 d fun e=>yF e 10 d fun e=>yL e 7 true d fun e=>yF b 6 d fun f=>yL f 3 true d fun f=>yF a 0 d fun g=>yF g 10 d fun h=>yL h 7 true d fun i=>yF b 9 d fun j=>yL j 3 true d fun k=>ag PP cN [e,f] d fun d e=>((yF a 0 e fun a=>aG [a] [g])/\(yF g 10 e fun a=>aG [a] [h])/\(yL h 7 true e fun a=>aG [a] [i])/\(yF b 9 e fun a=>aG [a] [j])/\(yL j 3 true e fun a=>aG [a] [k])/\True)/\ag PP cN [i,k] e fun e f=>∃(g:HJ),( ∀(c:Nat->D) (d:Heap),g [c 8] d->yF a 0 d fun a=>yF a 10 d fun a=>yF a 4 d fun a=>yL a 1 false d fun a=>yF b 3 d fun b=>yF b 1 d fun b=>yL b 1 false d fun b=>yI a b 1 d fun a=>xS a (c 8) 1 d fun a b=>K (.tup []) b)/\xF b 0 f fun f h=>xL f 1 false h fun f h=>vbin .eql f (.int .i64 7) fun i=>vcond i (xF b 2 h fun e f=>xL e 1 false f fun e f=>Ij PP fC [a,e,d] f (fun a=>KP a) fun e f=>yF b 2 f fun h=>yL h 1 false f fun i=>au PP (.conv .i64 (.c d)) f fun d=>yF c 0 f fun j=>yF c 6 f fun k=>yF c 7 f fun l=>yF c 8 f fun m=>xS j (.int .i64 1) 1 f fun f j=>((yL h 1 false j fun a=>aG [a] [i])/\True)/\xS k i 1 j fun f j=>((yL h 1 false j fun a=>aG [a] [i])/\True)/\xS l d 1 j fun d f=>((yL h 1 false f fun a=>aG [a] [i])/\True)/\xS m e 1 f fun d f=>((yL h 1 false f fun a=>aG [a] [i])/\True)/\xL c 9 true f fun c d=>ag PP fF [a,c] d fun c d=>aG [a,b] [a,b]/\g [e] d) ( ∃(i:HJ),( ∀(h:Nat->D) (j:Heap),i [h 50] j->vcond (h 50) (xF b 2 j fun f g=>xL f 1 false g fun f g=>Ij PP fC [a,f,d] g (fun a=>KP a) fun f g=>yF b 2 g fun f=>yL f 1 false g fun h=>au PP (.conv .i64 (.c d)) g fun i=>yF c 0 g fun j=>yF c 6 g fun k=>yF c 7 g fun l=>yF c 8 g fun m=>xS j (.int .i64 2) 1 g fun g j=>((yL f 1 false j fun a=>aG [a] [h])/\True)/\xS k h 1 j fun g j=>((yL f 1 false j fun a=>aG [a] [h])/\True)/\xS l i 1 j fun g i=>((yL f 1 false i fun a=>aG [a] [h])/\True)/\xS m e 1 i fun g i=>((yL f 1 false i fun a=>aG [a] [h])/\True)/\∃(f:HJ),( ∀(e:Nat->D) (g:Heap),f [e 9] g->xF b 2 g fun b f=>xL b 1 false f fun b f=>ag PP jc [a,b,d,(e 9)] f fun b d=>xL c 9 true d fun b c=>ag PP fF [a,b] c fun a b=>K (.tup []) b)/\xF b 0 i fun g h=>xL g 1 false h fun g h=>vbin .eql g (.int .i64 9) fun g=>vcond g (yF b 1 h fun g=>yL g 1 false h fun i=>yF c 0 h fun j=>yF c 1 h fun k=>xS j (.int .i64 3) 1 h fun h j=>((yL g 1 false j fun a=>aG [a] [i])/\True)/\xS k i 1 j fun h j=>((yL g 1 false j fun a=>aG [a] [i])/\True)/\yF b 1 j fun g=>yL g 1 false j fun h=>yF b 2 j fun i=>yL i 1 false j fun i=>ag PP fC [a,i,d] j fun i j=>((yF b 1 j fun a=>aG [a] [g])/\(yL g 1 false j fun a=>aG [a] [h])/\True)/\au PP (.call kA [(.c h),(.c i),(.c e)]) j fun e=>au PP (.ext (.c e) 0) j fun g=>au PP (.ext (.c e) 1) j fun e=>aG [a,b,c,d] [a,b,c,d]/\f [g] j) (aG [a,b,c,d] [a,b,c,d]/\f [e] h)) (vbin .eql f (.int .i64 10) fun h=>vcond h (yF b 1 j fun b=>yL b 1 false j fun d=>yF c 0 j fun e=>yF c 1 j fun f=>xS e (.int .i64 4) 1 j fun e g=>((yL b 1 false g fun a=>aG [a] [d])/\True)/\xS f d 1 g fun e f=>((yL b 1 false f fun a=>aG [a] [d])/\True)/\xL c 9 true f fun b c=>ag PP fF [a,b] c fun a b=>K (.tup []) b) (vbin .eql f (.int .i64 12) fun c=>vcond c (yF a 0 j fun a=>yF a 10 j fun a=>yF a 6 j fun a=>yL a 1 false j fun a=>yF b 2 j fun b=>yL b 1 false j fun b=>yI a b 1 j fun a=>xS a d 1 j fun a b=>K (.tup []) b) (vbin .eql f (.int .i64 11) fun c=>vcond c (yF a 0 j fun c=>yF c 10 j fun c=>yF c 6 j fun c=>yL c 1 false j fun c=>yF b 2 j fun d=>yL d 1 false j fun d=>yI c d 1 j fun c=>yL c 1 false j fun c=>aG [a,b] [a,b]/\g [c] j) (xL b 15 true j fun c f=>ag PP jJ [a,c,d,e] f fun c d=>aG [a,b] [a,b]/\g [c] d)))))/\vbin .eql f (.int .i64 8) fun g=>vcond g (aG [a,b,c,d,e,f] [a,b,c,d,e,f]/\i [g] h) (vbin .eql f (.int .i64 9) fun g=>aG [a,b,c,d,e,f] [a,b,c,d,e,f]/\i [g] h))
theorem AB (a0:D) (a1:D) (a2:D) (h0:Heap) (K:HK) (KP:Heap->Prop):uh a0 a1 a2 h0 K KP=vcC PP mU.code (fun x e h'=>match x with|.exit _=>False|.pan=>KP h'|_=>iy PP mU.res K e h') (params [a0,a1,a2] 0) h0:=by kernel_rfl
def qP:TL
 | 1000013=>some ([0,2],[])|_=>none
def ve:TT
 | 1=>some ([0,1,3,7,15,0,32,96,224,480,1023,2047,4095,0,16383],[13,14],[])|7=>some ([0,1,3,7,0,16,63,127],[6],[999999])|11=>some ([0,1,3,7,0,16,48,112,240,0,512,1536,3584,7680,16383,32767],[15],[])|_=>none
noncomputable abbrev nJ:=cFn PP true gF qP (cDr PP 77 ve)
noncomputable def nR:aK:=⟨77,aS nJ,[.cell 2 7 true]⟩
theorem tG:nJ=some nR:=by kernel_rfl
def nB (a:D) (b:Heap) (K:HK):Prop :=
 ab PP (.alloc (.agg [zI,zI,zI,zI,.nil,.nil,.nil])) b fun b c=>yF a 0 c fun d=>yF d 0 c fun d=>yF d 7 c fun d=>yL d 1 false c fun d=>yF a 0 c fun e=>yF e 10 c fun e=>yF e 2 c fun e=>yL e 1 false c fun e=>yI d e 14 c fun d=>yF d 1 c fun d=>yL d 13 true c fun d=>ab PP (.alloc (.agg [zI,zI,zI,zI,zJ,zI,zI,zJ,zI,zI,zJ,zI,zI])) c fun c e=>xS c d 13 e fun d e=>∃(d:HJ),( ∀(c:Nat->D) (e:Heap),d [] e->xF a 0 e fun a c=>xF a 10 c fun a c=>xL a 7 true c fun a c=>xS b a 7 c fun a c=>xL b 7 true c fun a b=>K a c)/\xF c 0 e fun e f=>xL e 1 false f fun e f=>vbin .eql e (.int .i64 1) fun g=>vcond g (xF c 11 f fun c e=>ab PP (.iadda (.c c) (.c zI) 2 1) e fun c e=>xL c 1 false e fun c e=>xF a 0 e fun e f=>xF e 10 f fun e f=>xF e 2 f fun e f=>xS e c 1 f fun c e=>aG [a,b] [a,b]/\d [] e) (vbin .eql e (.int .i64 2) fun g=>vcond g (yF a 0 f fun e=>yF e 10 f fun e=>yL e 7 true f fun e=>yF c 5 f fun g=>yL g 3 true f fun g=>ag PP cN [e,g] f fun e f=>vbin .neq e zJ fun e=>vcond e (xF c 11 f fun c e=>ab PP (.iadda (.c c) (.c zI) 2 1) e fun c e=>xL c 1 false e fun c e=>xF a 0 e fun e f=>xF e 10 f fun e f=>xF e 2 f fun e f=>xS e c 1 f fun c e=>aG [a,b] [a,b]/\d [] e) (xF c 11 f fun c e=>ab PP (.iadda (.c c) (.c (.int .i64 1)) 2 1) e fun c e=>xL c 1 false e fun c e=>xF a 0 e fun e f=>xF e 10 f fun e f=>xF e 2 f fun e f=>xS e c 1 f fun c e=>aG [a,b] [a,b]/\d [] e)) (vbin .eql e (.int .i64 5) fun c=>vcond c (yF a 0 f fun c=>yF c 0 f fun c=>yL c 8 true f fun c=>yF a 0 f fun d=>yF d 10 f fun d=>yF d 0 f fun d=>yL d 1 false f fun d=>yF a 0 f fun a=>yF a 10 f fun a=>yF a 3 f fun a=>yL a 1 false f fun a=>au PP (.call kD [(.c c),(.c d),(.c a),(.c (.int .i64 3))]) f fun a=>xS b a 7 f fun a c=>xL b 7 true c fun a b=>K a c) (xF a 0 f fun c e=>xF c 10 e fun c e=>xF c 1 e fun c e=>xS c (.int .i64 2) 1 e fun c e=>aG [a,b] [a,b]/\d [] e)))
theorem tx (a0:D) (h0:Heap) (K:HK):nB a0 h0 K=eo nR K [a0] h0:=by kernel_rfl
def vA:TL
 | 1000016=>some ([5,6,7,8,9,10,11,12],[])|1000018=>some ([5,6,7,8,9,10,11,12],[])|1000022=>some ([5,7,8,9],[])|1000024=>some ([5,8],[])|_=>none
def zq:TT
 | 6=>some ([0,1,0,4,15,0,0,0,128,0,1023,2047,4095],[4,10],[999999])|20=>some ([0,0,0,4,0,0,32,0,0,480,992,2047],[9,11],[999999])|_=>none
noncomputable abbrev rS:=cFn PP true kU vA (cDr PP 107 zq)
noncomputable def sq:aK:=⟨107,aS rS,[.cell 8 11 true]⟩
theorem yH:rS=some sq:=by kernel_rfl
def rC (a:D) (b:D) (c:D) (d:D) (e:Heap) (K:HK):Prop :=
 ab PP (.box (.c a)) e fun a e=>ab PP (.box (.c b)) e fun b e=>ab PP (.box (.c c)) e fun c e=>ab PP (.box (.c d)) e fun d e=>ab PP (.alloc (.agg [zI,zI,zI,zI,.nil,.nil,.nil,.nil,.nil,.nil,zI])) e fun e f=>xF a 5 f fun a f=>xL a 1 false f fun a f=>xF c 2 f fun f g=>xL f 1 false g fun f g=>xI a f 4 g fun a f=>xL a 4 true f fun a f=>ab PP (.alloc (.agg [(.str ⟨#[]⟩),zI,zI,zI])) f fun f g=>xS f a 4 g fun a g=>xF b 0 g fun a g=>xL a 7 true g fun a g=>xF c 6 g fun g h=>xL g 3 true h fun g h=>ag PP ca [a,g] h fun a g=>ab PP (.conv .i64 (.c a)) g fun a g=>vbin .lss a zI fun h=>vguard h false (fun b=>b a g) g fun g i=>vguard h false (fun a=>xF f 3 i fun b c=>a b c) i fun i j=>vguard h false (fun a=>xL i 1 false j fun b c=>a b c) j fun i j=>vguard h false (fun a=>vbin .geq g i fun b=>a b j) j fun g i=>ab PP (.pick (.c h) (.c (.bool true)) (.c g)) i fun g h=>vcond g (xF b 10 h fun a c=>xS a (.int .i64 70) 1 c fun a c=>xL b 11 true c fun a b=>xS e a 11 b fun a b=>xL e 11 true b fun a c=>K a b) (yF b 0 h fun g=>yL g 7 true h fun g=>yF c 9 h fun i=>yL i 3 true h fun i=>yL b 11 true h fun j=>yL f 4 true h fun k=>yF c 2 h fun l=>yL l 1 false h fun m=>ag PP ca [g,i] h fun g h=>((yL b 11 true h fun a=>aG [a] [j])/\(yL f 4 true h fun a=>aG [a] [k])/\(yF c 2 h fun a=>aG [a] [l])/\(yL l 1 false h fun a=>aG [a] [m])/\True)/\ag PP qF [j,k,m,a] h fun h i=>xF d 0 i fun i j=>xS i (.int .i64 2) 1 j fun i j=>xF c 2 j fun i j=>xL i 1 false j fun i j=>xF d 6 j fun j k=>xS j i 1 k fun i j=>xF d 7 j fun i j=>xS i a 1 j fun i j=>xF d 8 j fun i j=>xS i g 1 j fun i j=>∃(i:HJ),( ∀(j:Nat->D) (k:Heap),i [] k->∃(i:HJ),( ∀(j:Nat->D) (k:Heap),i [] k->∃(i:HJ),( ∀(a:Nat->D) (c:Heap),i [] c->∃(a:HJ),( ∀(c:Nat->D) (d:Heap),a [] d->xL b 11 true d fun a b=>xS e a 11 b fun a b=>xL e 11 true b fun a c=>K a b)/\xF f 1 c fun c f=>xL c 1 false f fun c f=>vbin .neq c (.int .i64 3) fun c=>vcond c (xF b 9 f fun c f=>xL c 1 false f fun c f=>xL d 9 true f fun d f=>ab PP (.bldS true 9 1 (.agg [zI,zI,zI,zI,zI,zI,zI,zI,zJ]) [(0,(.c d))]) f fun d f=>ab PP (.app (.c c) (.c d) 9 72 (.agg [zI,zI,zI,zI,zI,zI,zI,zI,zJ])) f fun c d=>xF b 9 d fun d f=>xS d c 1 f fun c d=>aG [b,e] [b,e]/\a [] d) (aG [b,e] [b,e]/\a [] f))/\xF c 0 k fun j k=>xL j 1 false k fun j k=>vbin .eql j (.int .i64 9) fun j=>vcond j (xF d 0 k fun j k=>xS j (.int .i64 3) 1 k fun j k=>xF c 1 k fun j k=>xL j 1 false k fun j k=>xF d 1 k fun k l=>xS k j 1 l fun j k=>yL b 11 true k fun j=>yL f 4 true k fun l=>yF c 2 k fun m=>yL m 1 false k fun n=>yF c 1 k fun o=>yL o 1 false k fun o=>ag PP gT [o,h,g] k fun g h=>((yL b 11 true h fun a=>aG [a] [j])/\(yL f 4 true h fun a=>aG [a] [l])/\(yF c 2 h fun a=>aG [a] [m])/\(yL m 1 false h fun a=>aG [a] [n])/\True)/\au PP (.fld (.c g) 0 1 false) h fun c=>ag PP lU [j,l,n,a,c] h fun a c=>aG [b,d,e,f] [b,d,e,f]/\i [] c) (aG [b,d,e,f] [b,d,e,f]/\i [] k))/\xF c 0 k fun j k=>xL j 1 false k fun j k=>vbin .eql j (.int .i64 8) fun j=>vcond j (xL b 11 true k fun j k=>xL f 4 true k fun k l=>xF c 2 l fun l m=>xL l 1 false m fun l m=>ag PP lU [j,k,l,a,g] m fun j k=>aG [b,c,d,e,f,a,g,h] [b,c,d,e,f,a,g,h]/\i [] k) (aG [b,c,d,e,f,a,g,h] [b,c,d,e,f,a,g,h]/\i [] k))/\xF c 0 j fun j k=>xL j 1 false k fun j k=>vbin .eql j (.int .i64 7) fun j=>vcond j (xF d 0 k fun j k=>xS j (.int .i64 1) 1 k fun j k=>xF d 8 k fun j k=>xS j h 1 k fun j k=>xF b 0 k fun j k=>xF j 4 k fun j k=>xL j 1 false k fun j k=>xF c 3 k fun k l=>xF k 1 l fun k l=>xL k 1 false l fun k l=>xI j k 1 l fun j k=>xS j h 1 k fun j k=>aG [b,c,d,e,f,a,g,h] [b,c,d,e,f,a,g,h]/\i [] k) (aG [b,c,d,e,f,a,g,h] [b,c,d,e,f,a,g,h]/\i [] k))
theorem xD (a0:D) (a1:D) (a2:D) (a3:D) (h0:Heap) (K:HK):rC a0 a1 a2 a3 h0 K=eo sq K [a0,a1,a2,a3] h0:=by kernel_rfl
def w6:TL
 | _=>none
def BP:TT
 | _=>none
noncomputable abbrev uj:=cFn PP true ca w6 (cDr PP 16 BP)
noncomputable def uG:aK:=⟨16,aS uj,[.t 4]⟩
theorem AE:uj=some uG:=by kernel_rfl
def tR (a:D) (b:D) (c:Heap) (K:HK):Prop :=
 ab PP (.box (.c a)) c fun a c=>ab PP (.box (.c b)) c fun b c=>xF b 0 c fun c d=>xL c 1 false d fun c d=>vbin .eql c (.int .i64 2) fun c=>vcond c (xF a 4 d fun a c=>xL a 1 false c fun a c=>xF b 1 c fun b c=>xL b 1 false c fun b c=>xI a b 1 c fun a b=>xL a 1 false b fun a b=>K a b) (xF b 2 d fun a b=>xL a 1 false b fun a b=>K a b)
theorem An (a0:D) (a1:D) (h0:Heap) (K:HK):tR a0 a1 h0 K=eo uG K [a0,a1] h0:=by kernel_rfl
def vz:TL
 | _=>none
def zp:TT
 | 1=>some ([0,0,2,7,0,0,32,127,255,511],[3,7],[999999])|_=>none
noncomputable abbrev rR:=cFn PP true kT vz (cDr PP 72 zp)
noncomputable def so:aK:=⟨72,aS rR,[.t 8]⟩
theorem yG:rR=some so:=by kernel_rfl
def rB (a:D) (b:D) (c:D) (d:D) (e:Heap) (K:HK):Prop :=
 ab PP (.box (.c a)) e fun a e=>ab PP (.box (.c b)) e fun b e=>ab PP (.box (.c c)) e fun c e=>ab PP (.box (.c d)) e fun d e=>yL c 7 true e fun f=>yF d 6 e fun g=>yL g 3 true e fun g=>yL c 7 true e fun h=>yF d 9 e fun i=>yL i 3 true e fun j=>ag PP ca [f,g] e fun e f=>((yL c 7 true f fun a=>aG [a] [h])/\(yF d 9 f fun a=>aG [a] [i])/\(yL i 3 true f fun a=>aG [a] [j])/\True)/\ag PP ca [h,j] f fun f g=>xF d 0 g fun g h=>xL g 1 false h fun g h=>vbin .eql g (.int .i64 2) fun i=>vcond i (xF d 1 h fun a b=>xL a 1 false b fun a b=>ag PP oh [a,e] b fun a b=>ab PP (.fld (.c a) 0 1 false) b fun a b=>K a b) (vbin .eql g (.int .i64 3) fun i=>vcond i (xF d 1 h fun a b=>xL a 1 false b fun a b=>ag PP gT [a,e,f] b fun a b=>ab PP (.fld (.c a) 0 1 false) b fun a b=>K a b) (vbin .eql g (.int .i64 4) fun i=>vcond i (vbin .neq e zJ fun a=>vcond a (K f h) (xL c 7 true h fun a b=>xF d 12 b fun b c=>xL b 3 true c fun b c=>ag PP ca [a,b] c fun a b=>K a b)) (vbin .eql g (.int .i64 5) fun f=>vcond f (xL a 8 true h fun a e=>xL b 2 true e fun b e=>xF c 0 e fun c e=>xL c 1 false e fun c e=>xF d 1 e fun d e=>xL d 1 false e fun d e=>ag PP og [a,b,c,d] e fun a b=>ab PP (.fld (.c a) 0 1 false) b fun a b=>K a b) (vbin .eql g (.int .i64 6) fun a=>vcond a (xF b 1 h fun a b=>xL a 1 false b fun a b=>xF d 2 b fun b c=>xL b 1 false c fun b c=>xI a b 1 c fun a b=>xL a 1 false b fun a b=>K a b) (vbin .eql g (.int .i64 11) fun a=>vcond a (xF c 6 h fun a b=>xL a 1 false b fun a b=>xF d 2 b fun b c=>xL b 1 false c fun b c=>xI a b 1 c fun a b=>xL a 1 false b fun a b=>K a b) (K e h))))))
theorem xC (a0:D) (a1:D) (a2:D) (a3:D) (h0:Heap) (K:HK):rB a0 a1 a2 a3 h0 K=eo so K [a0,a1,a2,a3] h0:=by kernel_rfl
def zZ:TL
 | _=>none
def DU:TT
 | 1=>some ([0,0,0,0,8,24,0,64,192,0,512,1536,4095,8191],[13],[])|_=>none
noncomputable abbrev yx:=cFn PP true kD zZ (cDr PP 22 DU)
noncomputable def ze:aK:=⟨22,aS yx,[.cell 8 7 true]⟩
theorem C5:yx=some ze:=by kernel_rfl
def yc (a:D) (b:D) (c:D) (d:D) (e:Heap) (K:HK):Prop :=
 ab PP (.box (.c a)) e fun a e=>ab PP (.alloc (.agg [zI,zI,zI,zI,.nil,.nil,.nil])) e fun e f=>yF a 2 f fun g=>yL g 1 false f fun g=>au PP (.mk 1 4 zJ (.c g) (.c g)) f fun g=>yF a 5 f fun h=>yL h 1 false f fun h=>au PP (.call mM [(.c h),(.c (.int .i64 3))]) f fun h=>yF a 3 f fun a=>yL a 1 false f fun a=>au PP (.mk 1 4 zJ (.c a) (.c a)) f fun a=>au PP (.bld [zI,zI,zI,zI,.nil,.nil,.nil] [(0,1,(.c b)),(1,1,(.c d)),(3,1,(.c c)),(4,1,(.c g)),(5,1,(.c h)),(6,1,(.c a))]) f fun a=>xS e a 7 f fun a b=>xL e 7 true b fun a c=>K a b
theorem CJ (a0:D) (a1:D) (a2:D) (a3:D) (h0:Heap) (K:HK):yc a0 a1 a2 a3 h0 K=eo ze K [a0,a1,a2,a3] h0:=by kernel_rfl
def w9:TL
 | _=>none
def BS:TT
 | _=>none
noncomputable abbrev uq:=cFn PP true mJ w9 (cDr PP 11 BS)
noncomputable def uJ:aK:=⟨11,aS uq,[.t 4]⟩
theorem AH:uq=some uJ:=by kernel_rfl
def tU (a:D) (b:D) (c:Heap) (K:HK):Prop :=
 ab PP (.box (.c a)) c fun a c=>xF a 1 c fun c d=>xL c 1 false d fun c d=>vbin .eql c b fun b=>vcond b (xF a 3 d fun a b=>xL a 1 false b fun a b=>K a b) (K zI d)
theorem Aq (a0:D) (a1:D) (h0:Heap) (K:HK):tU a0 a1 h0 K=eo uJ K [a0,a1] h0:=by kernel_rfl
def cn:TL
 | 1000011=>some ([],[])|4=>some ([1,2,15,16],[17])|_=>none
def cC:TT
 | _=>none
noncomputable abbrev bA:=cFn PP true bu cn (cDr PP 32 cC)
noncomputable def bB:aK:=⟨32,aS bA,[.t 6]⟩
theorem cw:bA=some bB:=by kernel_rfl
def bq (a:Heap) (b:D) (c:D) (d:D) (e:D) (f:HJ) (K:HK):Prop :=
 ∃(g:Nat->HJ) (h:Nat),g h [zI] a/\∀(a:Nat) (h:Nat->D) (i:Heap),g a [h 17] i->vbin .lss (h 17) b fun j=>vcond j (xI c (h 17) 4 i fun f i=>xL f 4 true i fun f i=>ab PP (.alloc (.agg [(.str ⟨#[]⟩),zI,zI,zI])) i fun i j=>xS i f 4 j fun f j=>xI d (h 17) 1 j fun f j=>xL f 1 false j fun f j=>xL i 4 true j fun i j=>ab PP (.callv (.c e) [(.c i),(.c f)]) j fun f i=>vun .not f fun f=>vcond f (K (.bool false) i) (vbin .add (h 17) (.int .i64 1) fun f=>aG [d,e,c,b] [d,e,c,b]/\∃b,b<a/\g b [f] i)) (aG [] []/\f [] i)
def bw (a:D) (b:D) (c:D) (d:Heap) (K:HK):Prop :=
 cb a d fun e=>cb b d fun f=>vbin .neq e f fun e=>vcond e (K (.bool false) d) ( ∃(e:HJ),( ∀(a:Nat->D) (b:Heap),e [] b->K (.bool true) b)/\cb a d fun f=>bq d f a b c e K)
theorem cu (a0:D) (a1:D) (a2:D) (h0:Heap) (K:HK):bw a0 a1 a2 h0 K=eo bB K [a0,a1,a2] h0:=by kernel_rfl
def qN:TL
 | _=>none
def u9:TT
 | _=>none
noncomputable abbrev nH:=cFn PP true gE qN (cDr PP 12 u9)
noncomputable def nP:aK:=⟨12,aS nH,[.t 5]⟩
theorem tE:nH=some nP:=by kernel_rfl
def ny (a:D) (b:D) (c:D) (d:Heap) (K:HK):Prop :=
 ab PP (.box (.c a)) d fun a d=>xL a 4 true d fun a d=>xL c 1 false d fun c d=>ag PP jj [a,c] d fun a c=>cb b c fun b=>vbin .eql a b fun a=>K a c
theorem tu (a0:D) (a1:D) (a2:D) (h0:Heap) (K:HK):ny a0 a1 a2 h0 K=eo nP K [a0,a1,a2] h0:=by kernel_rfl
def xj:TL
 | _=>none
def Ca:TT
 | _=>none
noncomputable abbrev uB:=cFn PP true jj xj (cDr PP 11 Ca)
noncomputable def uR:aK:=⟨11,aS uB,[.t 4]⟩
theorem AP:uB=some uR:=by kernel_rfl
def ue (a:D) (b:D) (c:Heap) (K:HK):Prop :=
 ab PP (.box (.c a)) c fun a c=>xF a 1 c fun c d=>xL c 1 false d fun c d=>vbin .neq c b fun b=>vcond b (K zI d) (xF a 3 d fun a b=>xL a 1 false b fun a b=>K a b)
theorem Ay (a0:D) (a1:D) (h0:Heap) (K:HK):ue a0 a1 h0 K=eo uR K [a0,a1] h0:=by kernel_rfl
def gV:TL
 | 1000008=>some ([],[])|2=>some ([0,1,7],[8])|_=>none
def ir:TT
 | _=>none
noncomputable abbrev eL:=cFn PP true eH gV (cDr PP 19 ir)
noncomputable def eM:aK:=⟨19,aS eL,[.t 4]⟩
theorem ik:eL=some eM:=by kernel_rfl
def dA (a:Heap) (b:D) (c:D) (d:D) (e:HJ) (K:HK):Prop :=
 ∃(f:Nat->HJ) (g:Nat),f g [zI] a/\∀(a:Nat) (g:Nat->D) (h:Heap),f a [g 8] h->vbin .lss (g 8) b fun i=>vcond i (xI c (g 8) 1 h fun e h=>xL e 1 false h fun e h=>ab PP (.callv (.c d) [(.c e)]) h fun e h=>vcond e (K (g 8) h) (vbin .add (g 8) (.int .i64 1) fun e=>aG [c,d,b] [c,d,b]/\∃b,b<a/\f b [e] h)) (aG [] []/\e [] h)
def eJ (a:D) (b:D) (c:Heap) (K:HK):Prop :=
 ∃(d:HJ),( ∀(a:Nat->D) (b:Heap),d [] b->K (.int .i64 (-1)) b)/\cb a c fun e=>dA c e a b d K
theorem ij (a0:D) (a1:D) (h0:Heap) (K:HK):eJ a0 a1 h0 K=eo eM K [a0,a1] h0:=by kernel_rfl
def xe:TL
 | _=>none
def BX:TT
 | _=>none
noncomputable abbrev uy:=cFn PP true gR xe (cDr PP 4 BX)
noncomputable def uO:aK:=⟨4,aS uy,[.t 2]⟩
theorem AM:uy=some uO:=by kernel_rfl
def tZ (a:D) (b:Heap) (K:HK):Prop :=
 vcond a (K (.int .i32 1) b) (K (.int .i32 0) b)
theorem Av (a0:D) (h0:Heap) (K:HK):tZ a0 h0 K=eo uO K [a0] h0:=by kernel_rfl
def qM:TL
 | _=>none
def u6:TT
 | _=>none
noncomputable abbrev nG:=cFn PP true ja qM (cDr PP 36 u6)
noncomputable def nO:aK:=⟨36,aS nG,[.t 6]⟩
theorem tD:nG=some nO:=by kernel_rfl
def nw (a:D) (b:D) (c:D) (d:Heap) (K:HK):Prop :=
 vbin .eql a (.int .i64 24) fun e=>vcond e (vbin .eql b c fun a=>K a d) (vbin .eql a (.int .i64 25) fun e=>vcond e (vbin .neq b c fun a=>K a d) (vbin .eql a (.int .i64 26) fun e=>vcond e (vbin .lss b c fun a=>K a d) (vbin .eql a (.int .i64 27) fun e=>vcond e (vbin .leq b c fun a=>K a d) (vbin .eql a (.int .i64 28) fun a=>vcond a (vbin .gtr b c fun a=>K a d) (vbin .geq b c fun a=>K a d)))))
theorem tq (a0:D) (a1:D) (a2:D) (h0:Heap) (K:HK):nw a0 a1 a2 h0 K=eo nO K [a0,a1,a2] h0:=by kernel_rfl
def zS:TL
 | 1000013=>some ([],[9])|3=>some ([0,7,8],[9,10])|1000010=>some ([0,7,8,9,10,11,12],[13])|1000012=>some ([0,7,8,9,10],[13])|_=>none
def DO:TT
 | 5=>some ([0,0,2,7,15,0,0,70,230,486,223,2047],[],[])|_=>none
noncomputable abbrev yq:=cFn PP true kB zS (cDr PP 68 DO)
noncomputable def yX:aK:=⟨68,aS yq,[.t 6]⟩
theorem CY:yq=some yX:=by kernel_rfl
def po (a:Heap) (b:D) (c:D) (d:D) (e:HJ):Prop :=
 ∃(f:Nat->HJ) (g:Nat),f g [zI,zI] a/\∀(a:Nat) (g:Nat->D) (h:Heap),f a [g 9,g 10] h->vbin .lss (g 10) (.int .i64 32) fun i=>vcond i (au PP (.call cM [(.c (g 10))]) h fun e=>vbin .quo b e fun e=>vbin .rem e (.int .i64 2) fun e=>au PP (.call cM [(.c (g 10))]) h fun i=>vbin .quo c i fun i=>vbin .rem i (.int .i64 2) fun i=>vbin .mul e i fun j=>∃(k:HJ),( ∀(h:Nat->D) (j:Heap),k [h 13] j->∃(k:HJ),( ∀(e:Nat->D) (h:Heap),k [e 13] h->ag PP cM [(g 10)] h fun h i=>vbin .mul (e 13) h fun e=>vbin .add (g 9) e fun e=>vbin .add (g 10) (.int .i64 1) fun g=>aG [d,b,c] [d,b,c]/\∃b,b<a/\f b [e,g] i)/\vbin .eql d (.int .i64 19) fun a=>vcond a (vbin .add e i fun a=>vbin .rem a (.int .i64 2) fun a=>aG [d,b,c,(g 9),(g 10)] [d,b,c,(g 9),(g 10)]/\k [a] j) (aG [d,b,c,(g 9),(g 10)] [d,b,c,(g 9),(g 10)]/\k [(h 13)] j))/\vbin .eql d (.int .i64 18) fun a=>vcond a (ab PP (.mx (.c e) (.c i)) h fun a f=>aG [d,b,c,(g 9),(g 10),e,i] [d,b,c,(g 9),(g 10),e,i]/\k [a] f) (aG [d,b,c,(g 9),(g 10),e,i] [d,b,c,(g 9),(g 10),e,i]/\k [j] h)) (aG [] []/\e [(g 9)] h)
def xV (a:D) (b:D) (c:D) (d:Heap) (K:HK):Prop :=
 ab PP (.conv .i64 (.c b)) d fun d e=>ag PP cM [(.int .i64 32)] e fun e f=>vbin .lss b zJ fun b=>ag PP gR [b] f fun b f=>ab PP (.conv .i64 (.c b)) f fun b f=>vbin .mul e b fun b=>vbin .add d b fun b=>ab PP (.conv .i64 (.c c)) f fun d e=>ag PP cM [(.int .i64 32)] e fun e f=>vbin .lss c zJ fun c=>ag PP gR [c] f fun c f=>ab PP (.conv .i64 (.c c)) f fun c f=>vbin .mul e c fun c=>vbin .add d c fun c=>∃(d:HJ),( ∀(a:Nat->D) (b:Heap),d [a 9] b->ag PP cK [(a 9)] b fun a b=>K a b)/\po f b c a d
theorem CD (a0:D) (a1:D) (a2:D) (h0:Heap) (K:HK):xV a0 a1 a2 h0 K=eo yX K [a0,a1,a2] h0:=by kernel_rfl
def zR:TL
 | _=>none
def DN:TT
 | _=>none
noncomputable abbrev yp:=cFn PP true cK zR (cDr PP 7 DN)
noncomputable def yW:aK:=⟨7,aS yp,[.t 2]⟩
theorem CX:yp=some yW:=by kernel_rfl
def xU (a:D) (b:Heap) (K:HK):Prop :=
 ab PP (.conv .u64 (.c a)) b fun a b=>ab PP (.conv .u32 (.c a)) b fun a b=>ab PP (.conv .i32 (.c a)) b fun a b=>K a b
theorem CC (a0:D) (h0:Heap) (K:HK):xU a0 h0 K=eo yW K [a0] h0:=by kernel_rfl
end Go.Am
namespace Go.Am
open Go Go.Proofs
def xa:TL
 | _=>none
def BT:TT
 | _=>none
noncomputable abbrev ur:=cFn PP true mK xa (cDr PP 76 BT)
noncomputable def uK:aK:=⟨76,aS ur,[.t 6]⟩
theorem AI:ur=some uK:=by kernel_rfl
def tV (a:D) (b:D) (c:D) (d:Heap) (K:HK):Prop :=
 vbin .rem c (.int .i64 32) fun e=>vbin .add e (.int .i64 32) fun e=>vbin .rem e (.int .i64 32) fun e=>vbin .eql a (.int .i64 10) fun f=>vcond f (vbin .add b c fun a=>K a d) (vbin .eql a (.int .i64 11) fun f=>vcond f (vbin .sub b c fun a=>K a d) (vbin .eql a (.int .i64 12) fun f=>vcond f (vbin .mul b c fun a=>K a d) (vbin .eql a (.int .i64 13) fun f=>vcond f (ag PP gD [b,c] d fun a b=>K a b) (vbin .eql a (.int .i64 14) fun f=>vcond f (ag PP gD [b,c] d fun a d=>vbin .mul c a fun a=>vbin .sub b a fun a=>K a d) (vbin .eql a (.int .i64 15) fun f=>vcond f (vbin .mul b c fun a=>ag PP ez [a,(.int .i64 65536)] d fun a b=>K a b) (vbin .eql a (.int .i64 16) fun f=>vcond f (vbin .eql c zI fun a=>vcond a (K zI d) (vbin .mul (.int .i64 65536) b fun a=>ag PP mL [a,c] d fun a b=>K a b)) (vbin .eql a (.int .i64 20) fun f=>vcond f (ag PP cM [e] d fun a c=>vbin .mul b a fun a=>K a c) (vbin .eql a (.int .i64 21) fun f=>vcond f (ag PP cM [e] d fun a c=>ag PP ez [b,a] c fun a b=>K a b) (vbin .eql a (.int .i64 22) fun a=>vcond a (ab PP (.mn (.c b) (.c c)) d fun a b=>K a b) (ab PP (.mx (.c b) (.c c)) d fun a b=>K a b))))))))))
theorem Ar (a0:D) (a1:D) (a2:D) (h0:Heap) (K:HK):tV a0 a1 a2 h0 K=eo uK K [a0,a1,a2] h0:=by kernel_rfl
def pX:TL
 | _=>none
def sW:TT
 | 2=>some ([0,1,3,7,15,0,0,64,192,448,960,0,4032,8128,16320,0,32768,131008,262143,524287,1048575],[17,20],[4,18])|_=>none
noncomputable abbrev mo:=cFn PP true aN pX (cDr PP 32 sW)
noncomputable def mB:aK:=⟨32,aS mo,[]⟩
theorem sy:mo=some mB:=by kernel_rfl
def mc (a:D) (b:D) (c:Heap) (K:HK):Prop :=
 ab PP (.box (.c b)) c fun b c=>xF a 0 c fun c d=>xF c 2 d fun c d=>xF c 7 d fun c d=>xL c 1 false d fun c d=>cb c d fun c=>vbin .sub c (.int .i64 1) fun c=>yF a 0 d fun e=>yF e 2 d fun e=>yF e 7 d fun e=>yL e 1 false d fun f=>yF a 0 d fun a=>yF a 2 d fun a=>yF a 7 d fun a=>yL a 1 false d fun a=>yI a c 14 d fun a=>yF a 0 d fun a=>yL a 1 false d fun a=>yL b 15 true d fun b=>au PP (.bldS false 15 1 (.agg [zI,zI,zI,zI,zI,zJ,zI,zI,zJ,zI,zI,zJ,zI,zI,zJ]) [(0,(.c b))]) d fun b=>yI f c 14 d fun g=>yF g 0 d fun h=>ab PP (.app (.c a) (.c b) 15 120 (.agg [zI,zI,zI,zI,zI,zJ,zI,zI,zJ,zI,zI,zJ,zI,zI,zJ])) d fun a b=>((yL e 1 false b fun a=>aG [a] [f])/\(yI f c 14 b fun a=>aG [a] [g])/\True)/\xS h a 1 b fun a b=>((yL e 1 false b fun a=>aG [a] [f])/\(yI f c 14 b fun a=>aG [a] [g])/\True)/\K (.tup []) b
theorem rH (a0:D) (a1:D) (h0:Heap) (K:HK):mc a0 a1 h0 K=eo mB K [a0,a1] h0:=by kernel_rfl
def Cj:TL
 | _=>none
def Fj:TT
 | _=>none
noncomputable abbrev Bv:=cFn PP true dg Cj (cDr PP 5 Fj)
noncomputable def BG:aK:=⟨5,aS Bv,[.cell 2 3 true]⟩
theorem E3:Bv=some BG:=by kernel_rfl
def Bi (a:D) (b:Heap) (K:HK):Prop :=
 ab PP (.alloc (.agg [zI,zI,zJ])) b fun b c=>ab PP (.bld [zI,zI,zJ] [(0,1,(.c (.int .i64 2))),(1,1,(.c a))]) c fun a c=>xS b a 3 c fun a c=>xL b 3 true c fun a b=>K a c
theorem EM (a0:D) (h0:Heap) (K:HK):Bi a0 h0 K=eo BG K [a0] h0:=by kernel_rfl
def w8:TL
 | _=>none
def BR:TT
 | _=>none
noncomputable abbrev uo:=cFn PP true et w8 (cDr PP 5 BR)
noncomputable def uI:aK:=⟨5,aS uo,[.cell 2 3 true]⟩
theorem AG:uo=some uI:=by kernel_rfl
def tT (a:D) (b:Heap) (K:HK):Prop :=
 ab PP (.alloc (.agg [zI,zI,zJ])) b fun b c=>ab PP (.bld [zI,zI,zJ] [(0,1,(.c (.int .i64 1))),(2,1,(.c a))]) c fun a c=>xS b a 3 c fun a c=>xL b 3 true c fun a b=>K a c
theorem Ap (a0:D) (h0:Heap) (K:HK):tT a0 h0 K=eo uI K [a0] h0:=by kernel_rfl
def ow:TL
 | _=>none
def qt:TT
 | 18=>some ([0,0,0,4,12,30,62,0,0,0,524,2046,4095],[3,10,12],[999999])|21=>some ([0,0,0,4,0,30,63],[3,6],[999999])|22=>some ([0,0,0,0,8,30,63],[4,6],[999999])|_=>none
noncomputable abbrev lE:=cFn PP true hY ow (cDr PP 133 qt)
noncomputable def lK:aK:=⟨133,aS lE,[]⟩
theorem qh:lE=some lK:=by kernel_rfl
def lz (a:D) (b:Heap) (K:HK):Prop :=
 ag PP ak [a] b fun b c=>vbin .rem b (.int .i64 16) fun b=>vbin .lss b (.int .i64 3) fun d=>vcond d (ag PP ak [a] c fun b c=>vbin .rem b (.int .i64 7) fun b=>vbin .add (.int .i64 1) b fun b=>ag PP aZ [a] c fun c d=>ab PP (.bld [zI,zI,zI,zI,zI,zJ,zI,zI,zJ,zI,zI,zJ,zI,zI,zJ] [(0,1,(.c (.int .i64 5))),(1,1,(.c b)),(3,3,(.c c))]) d fun b c=>ag PP aN [a,b] c fun a b=>K (.tup []) b) (vbin .lss b (.int .i64 7) fun d=>vcond d (ag PP ak [a] c fun b c=>vbin .rem b (.int .i64 20) fun b=>vbin .add (.int .i64 10) b fun b=>ag PP aZ [a] c fun c d=>ag PP aY [a] d fun d e=>ag PP aY [a] e fun e f=>ab PP (.bld [zI,zI,zI,zI,zI,zJ,zI,zI,zJ,zI,zI,zJ,zI,zI,zJ] [(0,1,(.c (.int .i64 3))),(1,1,(.c b)),(3,3,(.c c)),(6,3,(.c d)),(9,3,(.c e))]) f fun b c=>ag PP aN [a,b] c fun a b=>K (.tup []) b) (vbin .eql b (.int .i64 7) fun d=>vcond d (ag PP ak [a] c fun b c=>vbin .rem b (.int .i64 5) fun b=>vbin .add (.int .i64 1) b fun b=>ag PP aZ [a] c fun c d=>ag PP aY [a] d fun d e=>ab PP (.bld [zI,zI,zI,zI,zI,zJ,zI,zI,zJ,zI,zI,zJ,zI,zI,zJ] [(0,1,(.c (.int .i64 2))),(1,1,(.c b)),(3,3,(.c c)),(6,3,(.c d))]) e fun b c=>ag PP aN [a,b] c fun a b=>K (.tup []) b) (vbin .eql b (.int .i64 8) fun d=>vcond d (ag PP aZ [a] c fun b c=>ag PP aY [a] c fun c d=>ag PP aY [a] d fun d e=>ag PP aY [a] e fun e f=>ab PP (.bld [zI,zI,zI,zI,zI,zJ,zI,zI,zJ,zI,zI,zJ,zI,zI,zJ] [(0,1,(.c (.int .i64 4))),(3,3,(.c b)),(6,3,(.c c)),(9,3,(.c d)),(12,3,(.c e))]) f fun b c=>ag PP aN [a,b] c fun a b=>K (.tup []) b) (vbin .eql b (.int .i64 9) fun d=>vcond d (ag PP aZ [a] c fun b c=>ag PP aY [a] c fun c d=>ab PP (.bld [zI,zI,zI,zI,zI,zJ,zI,zI,zJ,zI,zI,zJ,zI,zI,zJ] [(0,1,(.c (.int .i64 1))),(3,3,(.c b)),(6,3,(.c c))]) d fun b c=>ag PP aN [a,b] c fun a b=>K (.tup []) b) (vbin .eql b (.int .i64 10) fun d=>vcond d (ag PP ak [a] c fun b c=>vbin .rem b (.int .i64 3) fun b=>ag PP aZ [a] c fun c d=>ab PP (.bld [zI,zI,zI,zI,zI,zJ,zI,zI,zJ,zI,zI,zJ,zI,zI,zJ] [(0,1,(.c (.int .i64 6))),(2,1,(.c b)),(3,3,(.c c))]) d fun b c=>ag PP aN [a,b] c fun a b=>K (.tup []) b) (vbin .eql b (.int .i64 11) fun d=>vcond d (ag PP ak [a] c fun b c=>vbin .rem b (.int .i64 2) fun b=>vbin .add (.int .i64 1) b fun b=>ab PP (.bld [zI,zI,zI,zI,zI,zJ,zI,zI,zJ,zI,zI,zJ,zI,zI,zJ] [(0,1,(.c (.int .i64 10))),(1,1,(.c b))]) c fun b c=>ag PP aN [a,b] c fun a b=>K (.tup []) b) (vbin .eql b (.int .i64 12) fun d=>vcond d (ag PP eN [a,(.bool false)] c fun b c=>ab PP (.ext (.c b) 0) c fun c d=>ab PP (.ext (.c b) 1) d fun b d=>ab PP (.alloc (.agg [zI,zI,zJ])) d fun d e=>xS d b 3 e fun b e=>au PP (.bldS false 1 6 zI [(0,(.c (.int .i64 10))),(1,(.c (.int .i64 22))),(2,(.c (.int .i64 23))),(3,(.c (.int .i64 17))),(4,(.c (.int .i64 18))),(5,(.c (.int .i64 19)))]) e fun b=>yL d 3 true e fun f=>ag PP ak [a] e fun e g=>((yL d 3 true g fun a=>aG [a] [f])/\True)/\vbin .rem e (.int .i64 6) fun e=>yI b e 1 g fun h=>yL h 1 false g fun i=>ag PP aY [a] g fun g j=>((yI b e 1 j fun a=>aG [a] [h])/\(yL h 1 false j fun a=>aG [a] [i])/\(yL d 3 true j fun a=>aG [a] [f])/\True)/\au PP (.bld [zI,zI,zI,zI,zI,zJ,zI,zI,zJ,zI,zI,zJ,zI,zI,zJ] [(0,1,(.c (.int .i64 9))),(1,1,(.c i)),(2,1,(.c c)),(6,3,(.c f)),(9,3,(.c g))]) j fun b=>ag PP aN [a,b] j fun a b=>K (.tup []) b) (ag PP eN [a,(.bool true)] c fun c d=>ab PP (.ext (.c c) 0) d fun d e=>ab PP (.ext (.c c) 1) e fun c e=>ab PP (.alloc (.agg [zI,zI,zJ])) e fun e f=>xS e c 3 f fun c f=>vbin .eql b (.int .i64 13) fun b=>vcond b (yL e 3 true f fun b=>ag PP aZ [a] f fun c f=>((yL e 3 true f fun a=>aG [a] [b])/\True)/\au PP (.bld [zI,zI,zI,zI,zI,zJ,zI,zI,zJ,zI,zI,zJ,zI,zI,zJ] [(0,1,(.c (.int .i64 7))),(2,1,(.c d)),(3,3,(.c c)),(6,3,(.c b))]) f fun b=>ag PP aN [a,b] f fun a b=>K (.tup []) b) (yL e 3 true f fun b=>ag PP aY [a] f fun c f=>((yL e 3 true f fun a=>aG [a] [b])/\True)/\au PP (.bld [zI,zI,zI,zI,zI,zJ,zI,zI,zJ,zI,zI,zJ,zI,zI,zJ] [(0,1,(.c (.int .i64 8))),(2,1,(.c d)),(6,3,(.c b)),(9,3,(.c c))]) f fun b=>ag PP aN [a,b] f fun a b=>K (.tup []) b)))))))))
theorem qa (a0:D) (h0:Heap) (K:HK):lz a0 h0 K=eo lK K [a0] h0:=by kernel_rfl
def td:TL
 | 8000002=>some ([],[])|_=>none
def wE:TT
 | _=>none
noncomputable abbrev pG:=cFn PP true fC td (cDr PP 34 wE)
noncomputable def jS:aK:=⟨34,aS pG,[.t 6]⟩
theorem v8:pG=some jS:=by kernel_rfl
def pt (a:D) (b:D) (c:D) (d:Heap) (K:HK) (KP:Heap->Prop):Prop :=
 vbin .lss c zJ fun e=>vguard e false (fun a=>a c d) d fun d f=>vguard e false (fun a=>ab PP (.conv .i64 (.c d)) f fun b c=>a b c) f fun d f=>vguard e false (fun b=>b a f) f fun f g=>vguard e false (fun a=>xF f 0 g fun b c=>a b c) g fun f g=>vguard e false (fun a=>xF f 0 g fun b c=>a b c) g fun f g=>vguard e false (fun a=>xF f 5 g fun b c=>a b c) g fun f g=>vguard e false (fun a=>xL f 1 false g fun b c=>a b c) g fun f g=>vguard e false (fun a=>a b g) g fun g h=>vguard e false (fun a=>xI f g 4 h fun b c=>a b c) h fun f g=>vguard e false (fun a=>xF f 3 g fun b c=>a b c) g fun f g=>vguard e false (fun a=>xL f 1 false g fun b c=>a b c) g fun f g=>vguard e false (fun a=>vbin .geq d f fun b=>a b g) g fun d f=>ab PP (.pick (.c e) (.c (.bool true)) (.c d)) f fun d e=>vcond d ( ∀_:LEnv,KP e) (ag PP fV [a,b] e fun a d=>xI a b 1 d fun a b=>xL a 1 false b fun a b=>xI a c 1 b fun a b=>xL a 1 false b fun a b=>K a b)
theorem vV (a0:D) (a1:D) (a2:D) (h0:Heap) (K:HK) (KP:Heap->Prop):pt a0 a1 a2 h0 K KP=vcC PP jS.code (fun x e h'=>match x with|.exit _=>False|.pan=>KP h'|_=>iy PP jS.res K e h') (params [a0,a1,a2] 0) h0:=by kernel_rfl
def tf:TL
 | _=>none
def wF:TT
 | 1=>some ([0,1,3,7,15,31,63,127,255,15,527,2047,4095,8191,16383,32767],[],[])|2=>some ([0,0,2,6,14,0,32,126,255,511,1023],[7,10],[])|_=>none
noncomputable abbrev pH:=cFn PP true fF tf (cDr PP 30 wF)
noncomputable def pN:aK:=⟨30,aS pH,[]⟩
theorem wc:pH=some pN:=by kernel_rfl
def pA (a:D) (b:D) (c:Heap) (K:HK):Prop :=
 ab PP (.box (.c b)) c fun b c=>yF b 0 c fun d=>yL d 1 false c fun d=>vbin .neq d (.int .i64 4) fun d=>aw d true (fun b=>b a) fun e=>aw d true (fun a=>yF e 0 c fun b=>a b) fun e=>aw d true (fun a=>yF e 0 c fun b=>a b) fun e=>aw d true (fun a=>yF e 5 c fun b=>a b) fun e=>aw d true (fun a=>yL e 1 false c fun b=>a b) fun e=>aw d true (fun a=>yF b 6 c fun b=>a b) fun f=>aw d true (fun a=>yL f 1 false c fun b=>a b) fun f=>aw d true (fun a=>yI e f 4 c fun b=>a b) fun e=>aw d true (fun a=>yF e 1 c fun b=>a b) fun e=>aw d true (fun a=>yL e 1 false c fun b=>a b) fun e=>aw d true (fun a=>vbin .eql e (.int .i64 3) fun b=>a b) fun e=>au PP (.pick (.c d) (.c e) (.c (.bool false))) c fun d=>vcond d (K (.tup []) c) (yF a 0 c fun d=>yF d 19 c fun d=>yL d 1 false c fun d=>yL b 9 true c fun b=>au PP (.bldS false 9 1 (.agg [zI,zI,zI,zI,zI,zI,zI,zI,zJ]) [(0,(.c b))]) c fun b=>yF a 0 c fun a=>yF a 19 c fun a=>ab PP (.app (.c d) (.c b) 9 72 (.agg [zI,zI,zI,zI,zI,zI,zI,zI,zJ])) c fun b c=>xS a b 1 c fun a b=>K (.tup []) b)
theorem vW (a0:D) (a1:D) (h0:Heap) (K:HK):pA a0 a1 h0 K=eo pN K [a0,a1] h0:=by kernel_rfl
def zK:TL
 | _=>none
def DG:TT
 | _=>none
noncomputable abbrev yg:=cFn PP true kA zK (cDr PP 103 DG)
noncomputable def yE:aK:=⟨103,aS yg,[.t 6,.t 7]⟩
theorem CQ:yg=some yE:=by kernel_rfl
def xB (a:D) (b:D) (c:D) (d:Heap) (K:HK):Prop :=
 ab PP (.conv .i64 (.c b)) d fun d e=>ab PP (.conv .i64 (.c c)) e fun e f=>ag PP iC [b,c] f fun f g=>ab PP (.ext (.c f) 0) g fun g h=>ab PP (.ext (.c f) 1) h fun f h=>vbin .eql a (.int .i64 10) fun i=>vcond i (vbin .add b c fun a=>K (.tup [a,zI]) h) (vbin .eql a (.int .i64 11) fun i=>vcond i (vbin .sub b c fun a=>K (.tup [a,zI]) h) (vbin .eql a (.int .i64 12) fun i=>vcond i (vbin .mul b c fun a=>K (.tup [a,zI]) h) (vbin .eql a (.int .i64 13) fun i=>vcond i (K (.tup [g,zI]) h) (vbin .eql a (.int .i64 14) fun g=>vcond g (K (.tup [f,zI]) h) (vbin .eql a (.int .i64 15) fun f=>vcond f (vbin .mul d e fun a=>vbin .shr a (.int .u64 16) fun a=>ab PP (.conv .i32 (.c a)) h fun a b=>K (.tup [a,zI]) b) (vbin .eql a (.int .i64 16) fun f=>vcond f (vbin .eql c zJ fun a=>vcond a (K (.tup [zJ,zI]) h) (vbin .shl d (.int .u64 16) fun a=>ag PP kS [a,e] h fun a b=>ab PP (.conv .i32 (.c a)) b fun a b=>K (.tup [a,zI]) b)) (vbin .eql a (.int .i64 17) fun d=>vcond d (vbin .and b c fun a=>K (.tup [a,zI]) h) (vbin .eql a (.int .i64 18) fun d=>vcond d (vbin .or b c fun a=>K (.tup [a,zI]) h) (vbin .eql a (.int .i64 19) fun d=>vcond d (vbin .xor b c fun a=>K (.tup [a,zI]) h) (vbin .eql a (.int .i64 20) fun d=>vcond d (vbin .and c (.int .i32 31) fun a=>vbin .shl b a fun a=>K (.tup [a,zI]) h) (vbin .eql a (.int .i64 21) fun d=>vcond d (vbin .and c (.int .i32 31) fun a=>vbin .shr b a fun a=>K (.tup [a,zI]) h) (vbin .eql a (.int .i64 22) fun d=>vcond d (ab PP (.mn (.c b) (.c c)) h fun a b=>K (.tup [a,zI]) b) (vbin .eql a (.int .i64 23) fun d=>vcond d (ab PP (.mx (.c b) (.c c)) h fun a b=>K (.tup [a,zI]) b) (ag PP gB [a,b,c] h fun a b=>ab PP (.ext (.c a) 0) b fun b c=>ab PP (.ext (.c a) 1) c fun a c=>K (.tup [b,a]) c))))))))))))))
theorem Cv (a0:D) (a1:D) (a2:D) (h0:Heap) (K:HK):xB a0 a1 a2 h0 K=eo yE K [a0,a1,a2] h0:=by kernel_rfl
def qO:TL
 | 1000006=>some ([1,2,3,8],[])|_=>none
def vc:TT
 | 2=>some ([0,1,3,7,0,31,63],[],[])|4=>some ([0,1,3,7,0,31],[5],[])|_=>none
noncomputable abbrev nI:=cFn PP true jc qO (cDr PP 51 vc)
noncomputable def nQ:aK:=⟨51,aS nI,[]⟩
theorem tF:nI=some nQ:=by kernel_rfl
def nA (a:D) (b:D) (c:D) (d:D) (e:Heap) (K:HK):Prop :=
 ag PP fV [a,b] e fun e f=>xF a 0 f fun f g=>xF f 0 g fun f g=>xF f 5 g fun f g=>xL f 1 false g fun f g=>xI f b 4 g fun f g=>xF f 1 g fun f g=>xL f 1 false g fun f g=>ab PP (.bld [zI,zI] [(0,1,(.c f)),(1,1,(.c b))]) g fun f g=>ab PP (.alloc (.agg [zI,zI])) g fun g h=>xS g f 2 h fun f h=>∃(f:HJ),( ∀(a:Nat->D) (g:Heap),f [] g->xI e b 1 g fun a b=>xL a 1 false b fun a b=>xI a c 1 b fun a b=>xS a d 1 b fun a b=>K (.tup []) b)/\yF a 0 h fun i=>yF i 20 h fun i=>yL i 1 false h fun i=>yL g 2 true h fun j=>au PP (.look (.pair .i64) (.c i) (.c j) (.bool false) false) h fun i=>vun .not i fun i=>vcond i (xI e b 1 h fun h i=>xL h 1 false i fun h i=>ag PP aR [h] i fun h i=>xI e b 1 i fun i j=>xS i h 1 j fun h i=>yF a 0 i fun a=>yF a 20 i fun a=>yL a 1 false i fun a=>yL g 2 true i fun g=>ab PP (.mupd (.pair .i64) (.c a) (.c g) (.c (.bool true))) i fun a g=>aG [b,c,d,e] [b,c,d,e]/\f [] g) (aG [b,c,d,e] [b,c,d,e]/\f [] h)
theorem tv (a0:D) (a1:D) (a2:D) (a3:D) (h0:Heap) (K:HK):nA a0 a1 a2 a3 h0 K=eo nQ K [a0,a1,a2,a3] h0:=by kernel_rfl
def tg:TL
 | 1000015=>some ([],[2])|1000010=>some ([],[3])|_=>none
def wG:TT
 | 8=>some ([0,1,3,7,0,16,63,127],[6],[999999])|11=>some ([0,1,3,7,0,16,48,112,0,256,768,1792,3840,0,8192,32767,65535,131071,131071,262143],[],[])|13=>some ([0,1,3,7,15,0,32,127,255,511],[],[])|_=>none
noncomputable abbrev pI:=cFn PP true jJ tg (cDr PP 75 wG)
noncomputable def pO:aK:=⟨75,aS pI,[.t 8]⟩
theorem we:pI=some pO:=by kernel_rfl
def pB (a:D) (b:D) (c:D) (d:D) (e:Heap) (K:HK):Prop :=
 ab PP (.box (.c b)) e fun b e=>∃(f:HJ),( ∀(a:Nat->D) (b:Heap),f [a 2] b->K (a 2) b)/\xF b 0 e fun e g=>xL e 1 false g fun e g=>vbin .eql e (.int .i64 2) fun h=>vcond h (xF b 1 g fun a b=>xL a 1 false b fun a b=>ag PP qE [a,c] b fun a b=>ab PP (.ext (.c a) 0) b fun b c=>ab PP (.ext (.c a) 1) c fun a c=>aG [] []/\f [b] c) (vbin .eql e (.int .i64 3) fun h=>vcond h (xF b 1 g fun a b=>xL a 1 false b fun a b=>ag PP kA [a,c,d] b fun a b=>ab PP (.ext (.c a) 0) b fun b c=>ab PP (.ext (.c a) 1) c fun a c=>aG [] []/\f [b] c) (vbin .eql e (.int .i64 4) fun h=>vcond h ( ∃(e:HJ),( ∀(a:Nat->D) (b:Heap),e [a 3] b->aG [] []/\f [(a 3)] b)/\vbin .eql c zJ fun c=>vcond c (yF a 0 g fun a=>yF a 10 g fun a=>yL a 7 true g fun a=>yF b 12 g fun b=>yL b 3 true g fun b=>ag PP cN [a,b] g fun a b=>aG [] []/\e [a] b) (aG [] []/\e [d] g)) (vbin .eql e (.int .i64 5) fun d=>vcond d (yF a 0 g fun c=>yF c 0 g fun c=>yL c 8 true g fun c=>yF a 0 g fun d=>yF d 8 g fun d=>yL d 2 true g fun d=>yF a 0 g fun a=>yF a 10 g fun a=>yF a 0 g fun a=>yL a 1 false g fun a=>yF b 1 g fun b=>yL b 1 false g fun b=>au PP (.call qH [(.c c),(.c d),(.c a),(.c b)]) g fun a=>au PP (.ext (.c a) 0) g fun b=>au PP (.ext (.c a) 1) g fun a=>aG [] []/\f [b] g) (vbin .eql e (.int .i64 6) fun d=>vcond d (yF a 0 g fun a=>yF a 8 g fun a=>yF a 1 g fun a=>yL a 1 false g fun a=>yF b 2 g fun b=>yL b 1 false g fun b=>yI a b 1 g fun a=>yL a 1 false g fun a=>aG [] []/\f [a] g) (aG [] []/\f [c] g)))))
theorem vX (a0:D) (a1:D) (a2:D) (a3:D) (h0:Heap) (K:HK):pB a0 a1 a2 a3 h0 K=eo pO K [a0,a1,a2,a3] h0:=by kernel_rfl
def Ci:TL
 | _=>none
def Fi:TT
 | _=>none
noncomputable abbrev Bu:=cFn PP true qF Ci (cDr PP 40 Fi)
noncomputable def BF:aK:=⟨40,aS Bu,[.t 8]⟩
theorem E2:Bu=some BF:=by kernel_rfl
def Bh (a:D) (b:D) (c:D) (d:D) (e:Heap) (K:HK):Prop :=
 ab PP (.box (.c a)) e fun a e=>ab PP (.box (.c b)) e fun b e=>xF b 1 e fun e f=>xL e 1 false f fun e f=>vbin .eql e (.int .i64 1) fun e=>vcond e (xF a 7 f fun a b=>xL a 1 false b fun a b=>xI a c 1 b fun a b=>xL a 1 false b fun a b=>xI a d 1 b fun a b=>xL a 1 false b fun a b=>K a b) (xF b 1 f fun b e=>xL b 1 false e fun b e=>vbin .eql b (.int .i64 2) fun b=>vcond b (xF a 8 e fun a b=>xL a 1 false b fun a b=>xI a c 1 b fun a b=>xL a 1 false b fun a b=>xI a d 1 b fun a b=>xL a 1 false b fun a b=>K a b) (xF a 0 e fun a b=>xF a 5 b fun a b=>xL a 1 false b fun a b=>xI a c 1 b fun a b=>xL a 1 false b fun a b=>xI a d 1 b fun a b=>xL a 1 false b fun a b=>K a b))
theorem EL (a0:D) (a1:D) (a2:D) (a3:D) (h0:Heap) (K:HK):Bh a0 a1 a2 a3 h0 K=eo BF K [a0,a1,a2,a3] h0:=by kernel_rfl
def Ch:TL
 | _=>none
def Fh:TT
 | _=>none
noncomputable abbrev Bt:=cFn PP true lU Ch (cDr PP 41 Fh)
noncomputable def BE:aK:=⟨41,aS Bt,[]⟩
theorem E1:Bt=some BE:=by kernel_rfl
def Bg (a:D) (b:D) (c:D) (d:D) (e:D) (f:Heap) (K:HK):Prop :=
 ab PP (.box (.c a)) f fun a f=>ab PP (.box (.c b)) f fun b f=>xF b 1 f fun f g=>xL f 1 false g fun f g=>vbin .eql f (.int .i64 1) fun f=>vcond f (xF a 7 g fun a b=>xL a 1 false b fun a b=>xI a c 1 b fun a b=>xL a 1 false b fun a b=>xI a d 1 b fun a b=>xS a e 1 b fun a b=>K (.tup []) b) (xF b 1 g fun b f=>xL b 1 false f fun b f=>vbin .eql b (.int .i64 2) fun b=>vcond b (xF a 8 f fun a b=>xL a 1 false b fun a b=>xI a c 1 b fun a b=>xL a 1 false b fun a b=>xI a d 1 b fun a b=>xS a e 1 b fun a b=>K (.tup []) b) (xF a 0 f fun a b=>xF a 5 b fun a b=>xL a 1 false b fun a b=>xI a c 1 b fun a b=>xL a 1 false b fun a b=>xI a d 1 b fun a b=>xS a e 1 b fun a b=>K (.tup []) b))
theorem EK (a0:D) (a1:D) (a2:D) (a3:D) (a4:D) (h0:Heap) (K:HK):Bg a0 a1 a2 a3 a4 h0 K=eo BE K [a0,a1,a2,a3,a4] h0:=by kernel_rfl
def zT:TL
 | _=>none
def DP:TT
 | _=>none
noncomputable abbrev yr:=cFn PP true oh zT (cDr PP 43 DP)
noncomputable def yY:aK:=⟨43,aS yr,[.cell 4 2 true]⟩
theorem CZ:yr=some yY:=by kernel_rfl
def xW (a:D) (b:D) (c:Heap) (K:HK):Prop :=
 ab PP (.alloc (.agg [zJ,zI])) c fun c d=>ab PP (.conv .i64 (.c b)) d fun b d=>vbin .eql a (.int .i64 1) fun e=>vcond e (vun .neg b fun a=>ag PP cK [a] d fun a b=>ab PP (.bld [zJ,zI] [(0,1,(.c a))]) b fun a b=>xS c a 2 b fun a b=>xL c 2 true b fun a c=>K a b) (vbin .eql a (.int .i64 2) fun e=>vcond e (vun .neg b fun a=>vbin .sub a (.int .i64 1) fun a=>ag PP cK [a] d fun a b=>ab PP (.bld [zJ,zI] [(0,1,(.c a))]) b fun a b=>xS c a 2 b fun a b=>xL c 2 true b fun a c=>K a b) (vbin .eql a (.int .i64 3) fun e=>vcond e (vun .neg b fun a=>ab PP (.mx (.c b) (.c a)) d fun a b=>ag PP cK [a] b fun a b=>ab PP (.bld [zJ,zI] [(0,1,(.c a))]) b fun a b=>xS c a 2 b fun a b=>xL c 2 true b fun a c=>K a b) (vbin .eql a (.int .i64 4) fun e=>vcond e (vbin .mul b (.int .i64 65536) fun a=>ag PP cK [a] d fun a b=>ab PP (.bld [zJ,zI] [(0,1,(.c a))]) b fun a b=>xS c a 2 b fun a b=>xL c 2 true b fun a c=>K a b) (vbin .eql a (.int .i64 5) fun a=>vcond a (ag PP ez [b,(.int .i64 65536)] d fun a b=>ag PP cK [a] b fun a b=>ab PP (.bld [zJ,zI] [(0,1,(.c a))]) b fun a b=>xS c a 2 b fun a b=>xL c 2 true b fun a c=>K a b) (ab PP (.bld [zJ,zI] [(1,1,(.c (.int .i64 1)))]) d fun a b=>xS c a 2 b fun a b=>xL c 2 true b fun a c=>K a b)))))
theorem CE (a0:D) (a1:D) (h0:Heap) (K:HK):xW a0 a1 h0 K=eo yY K [a0,a1] h0:=by kernel_rfl
def zP:TL
 | _=>none
def DL:TT
 | 4=>some ([0,0,0,0,8,0,32,120,0,256,0,0,2048,7168,0,0,32768,114688,262143,524287],[],[])|_=>none
noncomputable abbrev yl:=cFn PP true og zP (cDr PP 63 DL)
noncomputable def yT:aK:=⟨63,aS yl,[.cell 8 2 true]⟩
theorem CV:yl=some yT:=by kernel_rfl
def xQ (a:D) (b:D) (c:D) (d:D) (e:Heap) (K:HK):Prop :=
 ab PP (.box (.c a)) e fun a e=>ab PP (.box (.c b)) e fun b e=>ab PP (.alloc (.agg [zJ,zI])) e fun e f=>vbin .lss d (.int .i64 1) fun g=>vguard g false (fun a=>a d f) f fun f h=>vguard g false (fun a=>vbin .gtr f (.int .i64 7) fun b=>a b h) h fun f h=>ab PP (.pick (.c g) (.c (.bool true)) (.c f)) h fun f g=>vguard f false (fun a=>a c g) g fun g h=>vguard f false (fun a=>vbin .lss g zI fun b=>a b h) h fun g h=>ab PP (.pick (.c f) (.c (.bool true)) (.c g)) h fun f g=>vguard f false (fun a=>a c g) g fun g h=>vguard f false (fun a=>xF b 0 h fun b c=>a b c) h fun h i=>vguard f false (fun a=>xL h 1 false i fun b c=>a b c) i fun h i=>vguard f false (fun b=>xF a 0 i fun a c=>b a c) i fun i j=>vguard f false (fun a=>xL i 1 false j fun b c=>a b c) j fun i j=>vguard f false (fun a=>vbin .mul h i fun b=>a b j) j fun h i=>vguard f false (fun a=>vbin .geq g h fun b=>a b i) i fun g h=>ab PP (.pick (.c f) (.c (.bool true)) (.c g)) h fun f g=>vcond f (ab PP (.bld [zJ,zI] [(1,1,(.c (.int .i64 1)))]) g fun a b=>xS e a 2 b fun a b=>xL e 2 true b fun a c=>K a b) (xL a 8 true g fun f g=>ag PP vt [f,c] g fun f g=>ab PP (.ext (.c f) 0) g fun g h=>ab PP (.ext (.c f) 1) h fun f h=>yF b 0 h fun b=>yL b 1 false h fun b=>yF a 0 h fun i=>yL i 1 false h fun i=>vbin .mul b i fun b=>yF a 0 h fun i=>yL i 1 false h fun i=>yF a 1 h fun j=>yL j 1 false h fun j=>vbin .rem f j fun j=>yF a 1 h fun a=>yL a 1 false h fun a=>vbin .quo f a fun a=>au PP (.bldS false 1 8 zI [(0,(.c zI)),(1,(.c c)),(2,(.c f)),(3,(.c g)),(4,(.c b)),(5,(.c i)),(6,(.c j)),(7,(.c a))]) h fun a=>xI a d 1 h fun a b=>xL a 1 false b fun a b=>ab PP (.conv .i32 (.c a)) b fun a b=>ab PP (.bld [zJ,zI] [(0,1,(.c a))]) b fun a b=>xS e a 2 b fun a b=>xL e 2 true b fun a c=>K a b)
theorem CA (a0:D) (a1:D) (a2:D) (a3:D) (h0:Heap) (K:HK):xQ a0 a1 a2 a3 h0 K=eo yT K [a0,a1,a2,a3] h0:=by kernel_rfl
def xk:TL
 | 1000008=>some ([5],[])|3=>some ([1,5,11,12],[13])|_=>none
def Cb:TT
 | _=>none
noncomputable abbrev uC:=cFn PP true mM xk (cDr PP 27 Cb)
noncomputable def uS:aK:=⟨27,aS uC,[.t 4]⟩
theorem AQ:uC=some uS:=by kernel_rfl
def nx (a:Heap) (b:D) (c:D) (d:D) (e:D) (f:HJ):Prop :=
 ∃(g:Nat->HJ) (h:Nat),g h [zI] a/\∀(a:Nat) (h:Nat->D) (i:Heap),g a [h 13] i->vbin .lss (h 13) b fun j=>vcond j (xI c (h 13) 4 i fun f i=>xL f 4 true i fun f i=>ab PP (.alloc (.agg [(.str ⟨#[]⟩),zI,zI,zI])) i fun i j=>xS i f 4 j fun f j=>xL i 4 true j fun f i=>ag PP jj [f,d] i fun f i=>ab PP (.mk 1 4 zJ (.c f) (.c f)) i fun f i=>xI e (h 13) 1 i fun i j=>xS i f 1 j fun f i=>vbin .add (h 13) (.int .i64 1) fun f=>aG [d,e,c,b] [d,e,c,b]/\∃b,b<a/\g b [f] i) (aG [e] [e]/\f [] i)
def uf (a:D) (b:D) (c:Heap) (K:HK):Prop :=
 cb a c fun d=>ab PP (.mk 1 24 .nil (.c d) (.c d)) c fun c d=>∃(e:HJ),( ∀(a:Nat->D) (b:Heap),e [] b->K c b)/\cb a d fun f=>nx d f a b c e
theorem Az (a0:D) (a1:D) (h0:Heap) (K:HK):uf a0 a1 h0 K=eo uS K [a0,a1] h0:=by kernel_rfl
def xb:TL
 | 1000007=>some ([],[3])|3=>some ([0],[3,4])|_=>none
def BU:TT
 | _=>none
noncomputable abbrev uu:=cFn PP true cM xb (cDr PP 13 BU)
noncomputable def uL:aK:=⟨13,aS uu,[.t 2]⟩
theorem AJ:uu=some uL:=by kernel_rfl
def nv (a:Heap) (b:D) (c:HJ):Prop :=
 ∃(d:Nat->HJ) (e:Nat),d e [(.int .i64 1),zI] a/\∀(a:Nat) (e:Nat->D) (f:Heap),d a [e 3,e 4] f->vbin .lss (e 4) b fun g=>vcond g (vbin .mul (.int .i64 2) (e 3) fun c=>vbin .add (e 4) (.int .i64 1) fun e=>aG [b] [b]/\∃b,b<a/\d b [c,e] f) (aG [] []/\c [(e 3)] f)
def tW (a:D) (b:Heap) (K:HK):Prop :=
 ∃(c:HJ),( ∀(a:Nat->D) (b:Heap),c [a 3] b->K (a 3) b)/\nv b a c
theorem As (a0:D) (h0:Heap) (K:HK):tW a0 h0 K=eo uL K [a0] h0:=by kernel_rfl
def qL:TL
 | _=>none
def uZ:TT
 | _=>none
noncomputable abbrev nF:=cFn PP true gD qL (cDr PP 10 uZ)
noncomputable def nN:aK:=⟨10,aS nF,[.t 4]⟩
theorem tC:nF=some nN:=by kernel_rfl
def nu (a:D) (b:D) (c:Heap) (K:HK):Prop :=
 vbin .eql b zI fun d=>vcond d (K zI c) (vbin .quo a b fun a=>K a c)
theorem tm (a0:D) (a1:D) (h0:Heap) (K:HK):nu a0 a1 h0 K=eo nN K [a0,a1] h0:=by kernel_rfl
def xc:TL
 | 1000005=>some ([],[5])|_=>none
def BV:TT
 | _=>none
noncomputable abbrev uv:=cFn PP true ez xc (cDr PP 16 BV)
noncomputable def uM:aK:=⟨16,aS uv,[.t 4]⟩
theorem AK:uv=some uM:=by kernel_rfl
def tX (a:D) (b:D) (c:Heap) (K:HK):Prop :=
 vbin .quo a b fun d=>∃(e:HJ),( ∀(a:Nat->D) (b:Heap),e [a 5] b->K (a 5) b)/\vbin .rem a b fun a=>vbin .lss a zI fun a=>vcond a (vbin .sub d (.int .i64 1) fun a=>aG [] []/\e [a] c) (aG [] []/\e [d] c)
theorem At (a0:D) (a1:D) (h0:Heap) (K:HK):tX a0 a1 h0 K=eo uM K [a0,a1] h0:=by kernel_rfl
def xd:TL
 | _=>none
def BW:TT
 | _=>none
noncomputable abbrev uw:=cFn PP true mL xd (cDr PP 15 BW)
noncomputable def uN:aK:=⟨15,aS uw,[.t 4]⟩
theorem AL:uw=some uN:=by kernel_rfl
def tY (a:D) (b:D) (c:Heap) (K:HK):Prop :=
 vbin .lss b zI fun d=>vcond d (vun .neg a fun a=>vun .neg b fun b=>ag PP ez [a,b] c fun a b=>K a b) (ag PP ez [a,b] c fun a b=>K a b)
theorem Au (a0:D) (a1:D) (h0:Heap) (K:HK):tY a0 a1 h0 K=eo uN K [a0,a1] h0:=by kernel_rfl
def m9:TL
 | 1000005=>some ([0,5],[6])|_=>none
def pR:TT
 | 5=>some ([0,0,0,4,0,16,48,112,240,0,1008,2032,4080,8176,16368,32764,65534,131071],[3,17],[999999])|6=>some ([0,0,1,7],[3],[])|_=>none
noncomputable abbrev kj:=cFn PP true eN m9 (cDr PP 39 pR)
noncomputable def kr:aK:=⟨39,aS kj,[.t 4,.cell 5 3 true]⟩
theorem oZ:kj=some kr:=by kernel_rfl
def jZ (a:D) (b:D) (c:Heap) (K:HK):Prop :=
 ab PP (.alloc (.agg [zI,zI,zJ])) c fun c d=>ag PP ak [a] d fun d e=>vbin .rem d (.int .i64 5) fun d=>∃(f:HJ),( ∀(b:Nat->D) (d:Heap),f [b 6] d->ag PP aZ [a] d fun d e=>ab PP (.alloc (.agg [zI,zI,zJ])) e fun e f=>xS e d 3 f fun d f=>yL e 3 true f fun d=>yF a 0 f fun g=>yF g 2 f fun h=>yF h 5 f fun i=>yL i 1 false f fun j=>yI j (b 6) 4 f fun k=>yF k 3 f fun l=>yL l 1 false f fun m=>vbin .sub m (.int .i64 1) fun n=>au PP (.conv .i32 (.c n)) f fun n=>ag PP aY [a] f fun f o=>((yL e 3 true o fun a=>aG [a] [d])/\(yF a 0 o fun a=>aG [a] [g])/\(yF g 2 o fun a=>aG [a] [h])/\(yF h 5 o fun a=>aG [a] [i])/\(yL i 1 false o fun a=>aG [a] [j])/\(yI j (b 6) 4 o fun a=>aG [a] [k])/\(yF k 3 o fun a=>aG [a] [l])/\(yL l 1 false o fun a=>aG [a] [m])/\True)/\au PP (.call et [(.c n)]) o fun g=>au PP (.bld [zI,zI,zI,zI,zI,zJ,zI,zI,zJ,zI,zI,zJ,zI,zI,zJ] [(0,1,(.c (.int .i64 3))),(1,1,(.c (.int .i64 17))),(3,3,(.c d)),(6,3,(.c f)),(9,3,(.c g))]) o fun d=>ag PP aN [a,d] o fun a d=>yL e 3 true d fun a=>xS c a 3 d fun a d=>xL c 3 true d fun a c=>K (.tup [(b 6),a]) d)/\vbin .eql d (.int .i64 3) fun g=>vguard g true (fun a=>a b e) e fun b e=>vguard g true (fun a=>vun .not b fun b=>a b e) e fun b e=>ab PP (.pick (.c g) (.c b) (.c (.bool false))) e fun b e=>vcond b (aG [a,c] [a,c]/\f [zI] e) (aG [a,c] [a,c]/\f [d] e)
theorem oT (a0:D) (a1:D) (h0:Heap) (K:HK):jZ a0 a1 h0 K=eo kr K [a0,a1] h0:=by kernel_rfl
def pZ:TL
 | _=>none
def sY:TT
 | _=>none
noncomputable abbrev mu:=cFn PP true fV pZ (cDr PP 31 sY)
noncomputable def mD:aK:=⟨31,aS mu,[.t 4]⟩
theorem sF:mu=some mD:=by kernel_rfl
def mi (a:D) (b:D) (c:Heap) (K:HK):Prop :=
 xF a 0 c fun c d=>xF c 0 d fun c d=>xF c 5 d fun c d=>xL c 1 false d fun c d=>xI c b 4 d fun b c=>xF b 1 c fun b c=>xL b 1 false c fun b c=>vbin .eql b (.int .i64 1) fun d=>vcond d (xF a 0 c fun a b=>xF a 17 b fun a b=>xL a 1 false b fun a b=>K a b) (vbin .eql b (.int .i64 2) fun b=>vcond b (xF a 0 c fun a b=>xF a 18 b fun a b=>xL a 1 false b fun a b=>K a b) (xF a 0 c fun a b=>xF a 10 b fun a b=>xF a 5 b fun a b=>xL a 1 false b fun a b=>K a b))
theorem rN (a0:D) (a1:D) (h0:Heap) (K:HK):mi a0 a1 h0 K=eo mD K [a0,a1] h0:=by kernel_rfl
def pU:TL
 | _=>none
def sT:TT
 | 4=>some ([0,0,3,7,0,0,48,112,15,511],[],[])|_=>none
noncomputable abbrev mj:=cFn PP true iC pU (cDr PP 23 sT)
noncomputable def my:aK:=⟨23,aS mj,[.t 4,.t 5]⟩
theorem sj:mj=some my:=by kernel_rfl
def l8 (a:D) (b:D) (c:Heap) (K:HK):Prop :=
 vbin .eql b zJ fun d=>vcond d (K (.tup [zJ,a]) c) (ab PP (.conv .i64 (.c a)) c fun a c=>ab PP (.conv .i64 (.c b)) c fun b c=>vbin .quo a b fun d=>au PP (.conv .i32 (.c d)) c fun d=>vbin .rem a b fun a=>au PP (.conv .i32 (.c a)) c fun a=>K (.tup [d,a]) c)
theorem ru (a0:D) (a1:D) (h0:Heap) (K:HK):l8 a0 a1 h0 K=eo my K [a0,a1] h0:=by kernel_rfl
def vw:TL
 | 1000005=>some ([],[5])|_=>none
def zo:TT
 | 1=>some ([0,0,3,0,0,24,7,127],[],[])|_=>none
noncomputable abbrev rQ:=cFn PP true kS vw (cDr PP 25 zo)
noncomputable def sk:aK:=⟨25,aS rQ,[.t 4]⟩
theorem yD:rQ=some sk:=by kernel_rfl
def rA (a:D) (b:D) (c:Heap) (K:HK):Prop :=
 vbin .quo a b fun d=>vbin .rem a b fun a=>∃(e:HJ),( ∀(a:Nat->D) (b:Heap),e [a 5] b->K (a 5) b)/\vbin .neq a zI fun f=>vguard f true (fun b=>b a c) c fun a c=>vguard f true (fun b=>vbin .lss a zI fun a=>b a c) c fun a c=>vguard f true (fun a=>a b c) c fun b c=>vguard f true (fun a=>vbin .lss b zI fun b=>a b c) c fun b c=>vguard f true (fun d=>ab PP (.eqv true false [.b] (.c a) (.c b)) c fun a b=>d a b) c fun a b=>ab PP (.pick (.c f) (.c a) (.c (.bool false))) b fun a b=>vcond a (vbin .sub d (.int .i64 1) fun a=>aG [] []/\e [a] b) (aG [] []/\e [d] b)
theorem xA (a0:D) (a1:D) (h0:Heap) (K:HK):rA a0 a1 h0 K=eo sk K [a0,a1] h0:=by kernel_rfl
def qK:TL
 | _=>none
def uY:TT
 | _=>none
noncomputable abbrev nE:=cFn PP true gB qK (cDr PP 45 uY)
noncomputable def nL:aK:=⟨45,aS nE,[.t 6,.t 7]⟩
theorem tB:nE=some nL:=by kernel_rfl
def nk (a:D) (b:D) (c:D) (d:Heap) (K:HK):Prop :=
 vbin .eql a (.int .i64 24) fun e=>vcond e (vbin .eql b c fun a=>ag PP cf [a] d fun a b=>K (.tup [a,zI]) b) (vbin .eql a (.int .i64 25) fun e=>vcond e (vbin .neq b c fun a=>ag PP cf [a] d fun a b=>K (.tup [a,zI]) b) (vbin .eql a (.int .i64 26) fun e=>vcond e (vbin .lss b c fun a=>ag PP cf [a] d fun a b=>K (.tup [a,zI]) b) (vbin .eql a (.int .i64 27) fun e=>vcond e (vbin .leq b c fun a=>ag PP cf [a] d fun a b=>K (.tup [a,zI]) b) (vbin .eql a (.int .i64 28) fun e=>vcond e (vbin .gtr b c fun a=>ag PP cf [a] d fun a b=>K (.tup [a,zI]) b) (vbin .eql a (.int .i64 29) fun a=>vcond a (vbin .geq b c fun a=>ag PP cf [a] d fun a b=>K (.tup [a,zI]) b) (K (.tup [zJ,(.int .i64 1)]) d))))))
theorem tk (a0:D) (a1:D) (a2:D) (h0:Heap) (K:HK):nk a0 a1 a2 h0 K=eo nL K [a0,a1,a2] h0:=by kernel_rfl
end Go.Am
namespace Go.Am
open Go Go.Proofs
def Cg:TL
 | 1000014=>some ([],[])|1000010=>some ([1],[])|_=>none
def Fg:TT
 | _=>none
noncomputable abbrev Bs:=cFn PP true qE Cg (cDr PP 28 Fg)
noncomputable def BD:aK:=⟨28,aS Bs,[.t 4,.t 5]⟩
theorem E0:Bs=some BD:=by kernel_rfl
def Bf (a:D) (b:D) (c:Heap) (K:HK):Prop :=
 ∃(d:HJ),( ∀(a:Nat->D) (b:Heap),d [] b->K (.tup [zJ,(.int .i64 1)]) b)/\∃(e:HJ),( ∀(a:Nat->D) (c:Heap),e [] c->vun .neg b fun a=>K (.tup [a,zI]) c)/\vbin .eql a (.int .i64 3) fun f=>vcond f (vbin .geq b zJ fun a=>vcond a (K (.tup [b,zI]) c) (aG [b] [b]/\e [] c)) (vbin .eql a (.int .i64 1) fun f=>vcond f (aG [b] [b]/\e [] c) (vbin .eql a (.int .i64 2) fun e=>vcond e (vun .xor b fun a=>K (.tup [a,zI]) c) (vbin .eql a (.int .i64 4) fun e=>vcond e (vbin .shl b (.int .u64 16) fun a=>K (.tup [a,zI]) c) (vbin .eql a (.int .i64 5) fun a=>vcond a (vbin .shr b (.int .u64 16) fun a=>K (.tup [a,zI]) c) (aG [] []/\d [] c)))))
theorem EJ (a0:D) (a1:D) (h0:Heap) (K:HK):Bf a0 a1 h0 K=eo BD K [a0,a1] h0:=by kernel_rfl
def Co:TL
 | 1000023=>some ([],[13])|_=>none
def Fp:TT
 | _=>none
noncomputable abbrev BB:=cFn PP true qH Co (cDr PP 63 Fp)
noncomputable def BL:aK:=⟨63,aS BB,[.t 8,.t 9]⟩
theorem Fa:BB=some BL:=by kernel_rfl
def Bo (a:D) (b:D) (c:D) (d:D) (e:Heap) (K:HK):Prop :=
 ab PP (.box (.c a)) e fun a e=>ab PP (.box (.c b)) e fun b e=>xF b 0 e fun b e=>xL b 1 false e fun b e=>xF a 0 e fun e f=>xL e 1 false f fun e f=>vbin .mul b e fun b=>vbin .lss c zI fun e=>vguard e false (fun a=>a c f) f fun f g=>vguard e false (fun a=>a b g) g fun g h=>vguard e false (fun a=>vbin .geq f g fun b=>a b h) h fun f g=>ab PP (.pick (.c e) (.c (.bool true)) (.c f)) g fun e f=>vcond e (K (.tup [zJ,(.int .i64 1)]) f) (xL a 8 true f fun e f=>ag PP qG [e,c] f fun e f=>ab PP (.ext (.c e) 0) f fun f g=>ab PP (.ext (.c e) 1) g fun e g=>∃(h:HJ),( ∀(a:Nat->D) (b:Heap),h [a 13] b->ab PP (.conv .i32 (.c (a 13))) b fun a b=>K (.tup [a,zI]) b)/\vbin .eql d (.int .i64 1) fun i=>vcond i (aG [] []/\h [c] g) (vbin .eql d (.int .i64 2) fun c=>vcond c (aG [] []/\h [e] g) (vbin .eql d (.int .i64 3) fun c=>vcond c (aG [] []/\h [f] g) (vbin .eql d (.int .i64 4) fun c=>vcond c (aG [] []/\h [b] g) (vbin .eql d (.int .i64 5) fun b=>vcond b (xF a 0 g fun a b=>xL a 1 false b fun a b=>aG [] []/\h [a] b) (vbin .eql d (.int .i64 6) fun b=>vcond b (xF a 1 g fun a b=>xL a 1 false b fun a b=>vbin .rem e a fun a=>aG [] []/\h [a] b) (vbin .eql d (.int .i64 7) fun b=>vcond b (xF a 1 g fun a b=>xL a 1 false b fun a b=>vbin .quo e a fun a=>aG [] []/\h [a] b) (K (.tup [zJ,(.int .i64 1)]) g))))))))
theorem ET (a0:D) (a1:D) (a2:D) (a3:D) (h0:Heap) (K:HK):Bo a0 a1 a2 a3 h0 K=eo BL K [a0,a1,a2,a3] h0:=by kernel_rfl
def Eh:TL
 | _=>none
def Gf:TT
 | 1=>some ([0,0,2,7,0,0,32,112,15,511],[],[])|_=>none
noncomputable abbrev EY:=cFn PP true vt Eh (cDr PP 14 Gf)
noncomputable def E5:aK:=⟨14,aS EY,[.t 4,.t 5]⟩
theorem FE:EY=some E5:=by kernel_rfl
def EN (a:D) (b:D) (c:Heap) (K:HK):Prop :=
 ab PP (.box (.c a)) c fun a c=>yF a 0 c fun d=>yL d 1 false c fun d=>vbin .quo b d fun d=>yF a 0 c fun a=>yL a 1 false c fun a=>vbin .rem b a fun a=>K (.tup [d,a]) c
theorem FD (a0:D) (a1:D) (h0:Heap) (K:HK):EN a0 a1 h0 K=eo E5 K [a0,a1] h0:=by kernel_rfl
def vv:TL
 | _=>none
def zn:TT
 | _=>none
noncomputable abbrev rP:=cFn PP true cf vv (cDr PP 4 zn)
noncomputable def sg:aK:=⟨4,aS rP,[.t 2]⟩
theorem yC:rP=some sg:=by kernel_rfl
def rl (a:D) (b:Heap) (K:HK):Prop :=
 vcond a (K (.int .i32 1) b) (K (.int .i32 0) b)
theorem xz (a0:D) (h0:Heap) (K:HK):rl a0 h0 K=eo sg K [a0] h0:=by kernel_rfl
def Cn:TL
 | _=>none
def Fo:TT
 | 1=>some ([0,0,2,7,0,0,32,112,15,511],[],[])|_=>none
noncomputable abbrev BA:=cFn PP true qG Cn (cDr PP 14 Fo)
noncomputable def BK:aK:=⟨14,aS BA,[.t 4,.t 5]⟩
theorem E9:BA=some BK:=by kernel_rfl
def Bm (a:D) (b:D) (c:Heap) (K:HK):Prop :=
 ab PP (.box (.c a)) c fun a c=>yF a 0 c fun d=>yL d 1 false c fun d=>vbin .quo b d fun d=>yF a 0 c fun a=>yL a 1 false c fun a=>vbin .rem b a fun a=>K (.tup [d,a]) c
theorem ES (a0:D) (a1:D) (h0:Heap) (K:HK):Bm a0 a1 h0 K=eo BK K [a0,a1] h0:=by kernel_rfl
end Go.Am
namespace Go.Am
open Go Go.Proofs
def ly (a:D) (b:Heap) (K:HK):Prop :=
 xF a 0 b fun b c=>xF b 2 c fun b c=>xF b 6 c fun b c=>xL b 1 false c fun b c=>cb b c fun b=>vbin .mul (.int .i64 2) b fun b=>vbin .add (.int .i64 6) b fun b=>ag PP ak [a] c fun c d=>vbin .rem c (.int .i64 3) fun c=>vbin .add (.int .i64 1) c fun c=>vbin .add b (.int .i64 2) fun e=>xF a 0 d fun d f=>xF d 2 f fun d f=>xF d 2 f fun d f=>xS d e 1 f fun d e=>xF a 0 e fun d e=>xF d 2 e fun d e=>xF d 7 e fun d e=>xL d 1 false e fun d e=>cb d e fun d=>ag PP dg [b] e fun e f=>ag PP et [zJ] f fun f g=>ab PP (.bld [zI,zI,zI,zI,zI,zJ,zI,zI,zJ,zI,zI,zJ,zI,zI,zJ] [(0,1,(.c (.int .i64 1))),(3,3,(.c e)),(6,3,(.c f))]) g fun e f=>ag PP aN [a,e] f fun e f=>xF a 0 f fun e f=>xF e 2 f fun e f=>xF e 7 f fun e f=>xL e 1 false f fun e f=>vbin .sub d (.int .i64 1) fun g=>ab PP (.bld [zI,zI] [(0,1,(.c d)),(1,1,(.c zI))]) f fun f h=>ab PP (.bld [zI,zI,zI,zI,zJ,zI,zI,zJ,zI,zI,zJ,zI,zI] [(0,1,(.c (.int .i64 1))),(11,2,(.c f))]) h fun f h=>xI e g 14 h fun e g=>xF e 1 g fun e g=>xS e f 13 g fun e f=>∃(e:HJ),( ∀(a:Nat->D) (b:Heap),e [a 0,a 2,a 3,a 4] b->ag PP bf [(a 0)] b fun b c=>vbin .add (a 2) (.int .i64 1) fun b=>ag PP dg [b] c fun b c=>ag PP dg [(a 2)] c fun c d=>ab PP (.conv .i32 (.c (a 3))) d fun d e=>ag PP et [d] e fun d e=>ab PP (.bld [zI,zI,zI,zI,zI,zJ,zI,zI,zJ,zI,zI,zJ,zI,zI,zJ] [(0,1,(.c (.int .i64 3))),(1,1,(.c (.int .i64 26))),(3,3,(.c b)),(6,3,(.c c)),(9,3,(.c d))]) e fun b c=>ag PP aN [(a 0),b] c fun b c=>yF (a 0) 0 c fun b=>yF b 2 c fun b=>yF b 7 c fun b=>yL b 1 false c fun b=>vbin .add (a 2) (.int .i64 1) fun d=>au PP (.call dg [(.c d)]) c fun d=>vbin .add (a 4) (.int .i64 1) fun e=>vbin .add (a 4) (.int .i64 2) fun f=>au PP (.bld [zI,zI] [(0,1,(.c e)),(1,1,(.c f))]) c fun e=>au PP (.bld [zI,zI,zI,zI,zJ,zI,zI,zJ,zI,zI,zJ,zI,zI] [(0,1,(.c (.int .i64 2))),(5,3,(.c d)),(11,2,(.c e))]) c fun d=>yI b (a 4) 14 c fun b=>yF b 1 c fun b=>xS b d 13 c fun b c=>ag PP bf [(a 0)] c fun b c=>ag PP dg [(a 2)] c fun b c=>ag PP dg [(a 2)] c fun c d=>ag PP et [(.int .i32 1)] d fun d e=>ab PP (.bld [zI,zI,zI,zI,zI,zJ,zI,zI,zJ,zI,zI,zJ,zI,zI,zJ] [(0,1,(.c (.int .i64 3))),(1,1,(.c (.int .i64 10))),(3,3,(.c b)),(6,3,(.c c)),(9,3,(.c d))]) e fun b c=>ag PP aN [(a 0),b] c fun b c=>ag PP ck [(a 0)] c fun b c=>xF (a 0) 0 c fun b c=>xF b 2 c fun b c=>xF b 7 c fun b c=>xL b 1 false c fun b c=>vbin .add (a 4) (.int .i64 1) fun d=>ab PP (.bld [zI,zI] [(0,1,(.c (a 4))),(1,1,(.c zI))]) c fun c e=>ab PP (.bld [zI,zI,zI,zI,zJ,zI,zI,zJ,zI,zI,zJ,zI,zI] [(0,1,(.c (.int .i64 1))),(11,2,(.c c))]) e fun c e=>xI b d 14 e fun b d=>xF b 1 d fun b d=>xS b c 13 d fun b c=>∃(b:HJ),( ∀(a:Nat->D) (c:Heap),b [a 0,a 4,a 119] c->vcond (a 119) (yF (a 0) 0 c fun b=>yF b 2 c fun d=>yF d 7 c fun e=>yL e 1 false c fun f=>vbin .add (a 4) (.int .i64 1) fun g=>vbin .add (a 4) (.int .i64 2) fun h=>au PP (.bld [zI,zI] [(0,1,(.c (a 4))),(1,1,(.c h))]) c fun h=>ag PP aZ [(a 0)] c fun c i=>((yF (a 0) 0 i fun a=>aG [a] [b])/\(yF b 2 i fun a=>aG [a] [d])/\(yF d 7 i fun a=>aG [a] [e])/\(yL e 1 false i fun a=>aG [a] [f])/\True)/\au PP (.bld [zI,zI,zI,zI,zJ,zI,zI,zJ,zI,zI,zJ,zI,zI] [(0,1,(.c (.int .i64 2))),(5,3,(.c c)),(11,2,(.c h))]) i fun a=>yI f g 14 i fun b=>yF b 1 i fun b=>xS b a 13 i fun a b=>K (.tup []) b) (K (.tup []) c))/\ag PP ak [(a 0)] c fun c d=>vbin .rem c (.int .i64 3) fun c=>vbin .eql c zI fun c=>aG [] []/\b [(a 0),(a 4),c] d)/\xF a 0 f fun f g=>xF f 2 g fun f g=>xF f 6 g fun f g=>xL f 1 false g fun f g=>ab PP (.bld [zI,zI,zI] [(0,1,(.c d)),(1,1,(.c b)),(2,1,(.c c))]) g fun g h=>ab PP (.bldS true 3 1 (.agg [zI,zI,zI]) [(0,(.c g))]) h fun g h=>ab PP (.app (.c f) (.c g) 3 24 (.agg [zI,zI,zI])) h fun f g=>xF a 0 g fun g h=>xF g 2 h fun g h=>xF g 6 h fun g h=>xS g f 1 h fun f g=>aG [] []/\e [a,b,c,d] g
set_option maxHeartbeats 0 in
theorem p9 (a0:D) (h0:Heap) (K:HK):ly a0 h0 K=eo lJ K [a0] h0:=by kernel_rfl
end Go.Am
namespace Go.Am
open Go Go.Proofs
def rM (a:D) (b:D) (c:Heap) (K:HK):Prop :=
 ab PP (.box (.c a)) c fun a c=>ab PP (.box (.c b)) c fun b c=>ab PP (.alloc (.agg [zI,zI,zI,zI,zI,.nil,.nil,.nil,zI,.nil,zI,zI,zI,zI,.nil,.nil,.nil,.nil,.nil,.nil,zI])) c fun c d=>xL a 1 true d fun a d=>ag PP oe [a] d fun a d=>ab PP (.bld [zI,zI,zI,zI,zI,.nil,.nil,.nil,zI,.nil,zI,zI,zI,zI,.nil,.nil,.nil,.nil,.nil,.nil,zI] [(0,8,(.c a))]) d fun a d=>ab PP (.alloc (.agg [zI,zI,zI,zI,zI,.nil,.nil,.nil,zI,.nil,zI,zI,zI,zI,.nil,.nil,.nil,.nil,.nil,.nil,zI])) d fun d e=>xS d a 21 e fun a e=>∃(a:HJ),( ∀(e:Nat->D) (f:Heap),a [] f->xF d 0 f fun a e=>xL a 8 true e fun a e=>xF b 0 e fun e f=>xL e 13 true f fun e f=>ag PP kZ [a,e] f fun a e=>xF d 8 e fun e f=>xS e a 2 f fun a e=>xF b 13 e fun a e=>xL a 1 false e fun a e=>ab PP (.conv .i64 (.c a)) e fun a e=>xF d 8 e fun e f=>xF e 0 f fun e f=>xL e 1 false f fun e f=>xF d 0 f fun f g=>xF f 0 g fun f g=>xL f 1 false g fun f g=>vbin .mul e f fun e=>vbin .rem a e fun a=>yF d 0 g fun e=>yL e 8 true g fun e=>yF d 8 g fun f=>yL f 2 true g fun f=>yF b 14 g fun h=>yL h 1 false g fun h=>vbin .rem h (.int .u8 13) fun h=>au PP (.conv .i64 (.c h)) g fun h=>yF d 0 g fun i=>yL i 8 true g fun i=>yF b 0 g fun b=>yL b 13 true g fun b=>au PP (.call kY [(.c i),(.c b)]) g fun b=>au PP (.call mI [(.c e),(.c f),(.c a),(.c h),(.c b)]) g fun a=>yF d 10 g fun b=>xS b a 11 g fun a b=>xL d 21 true b fun a b=>xS c a 21 b fun a b=>xL c 21 true b fun a c=>K a b)/\xF b 13 e fun e f=>xL e 1 false f fun e f=>vbin .geq e (.int .u8 128) fun e=>vcond e (xF d 0 f fun e f=>xL e 8 true f fun e f=>ag PP kX [e] f fun e f=>xF d 0 f fun f g=>xS f e 8 g fun e f=>aG [b,c,d] [b,c,d]/\a [] f) (aG [b,c,d] [b,c,d]/\a [] f)
set_option maxHeartbeats 0 in
theorem xY (a0:D) (a1:D) (h0:Heap) (K:HK):rM a0 a1 h0 K=eo sE K [a0,a1] h0:=by kernel_rfl
end Go.Am
namespace Go.Am
open Go Go.Proofs
end Go.Am
namespace Go.Am
open Go Go.Proofs
end Go.Am
namespace Go.Am
open Go Go.Proofs
end Go.Am
namespace Go.Am
open Go Go.Proofs
def iV (a:Heap) (b:D) (c:D) (d:D) (e:D) (f:D) (g:D) (h:HJ) (K:HK):Prop :=
 ∃(i:Nat->HJ) (j:Nat),i j [(.int .i64 (-1)),zI] a/\∀(a:Nat) (j:Nat->D) (k:Heap),i a [j 12,j 13] k->xF b 9 k fun k l=>xL k 1 false l fun k l=>cb k l fun k=>vbin .lss (j 13) k fun k=>vcond k (xF b 9 l fun h k=>xL h 1 false k fun h k=>xI h (j 13) 9 k fun h k=>xL h 9 true k fun h k=>ab PP (.alloc (.agg [zI,zI,zI,zI,zI,zI,zI,zI,zJ])) k fun k l=>xS k h 9 l fun h l=>xF k 2 l fun h l=>xL h 1 false l fun h l=>xF c 10 l fun l m=>xF l 0 m fun l m=>xF l 0 m fun l m=>xL l 1 false m fun l m=>vbin .neq h l fun h=>vguard h false (fun a=>xF k 3 m fun b c=>a b c) m fun l m=>vguard h false (fun a=>xL l 1 false m fun b c=>a b c) m fun l m=>vguard h false (fun a=>a d m) m fun m n=>vguard h false (fun a=>vbin .neq l m fun b=>a b n) n fun l m=>ab PP (.pick (.c h) (.c (.bool true)) (.c l)) m fun h l=>vguard h false (fun a=>xF k 4 l fun b c=>a b c) l fun l m=>vguard h false (fun a=>xL l 1 false m fun b c=>a b c) m fun l m=>vguard h false (fun a=>xF c 10 m fun b c=>a b c) m fun m n=>vguard h false (fun a=>xF m 0 n fun b c=>a b c) n fun m n=>vguard h false (fun a=>xF m 2 n fun b c=>a b c) n fun m n=>vguard h false (fun a=>xL m 1 false n fun b c=>a b c) n fun m n=>vguard h false (fun a=>vbin .neq l m fun b=>a b n) n fun l m=>ab PP (.pick (.c h) (.c (.bool true)) (.c l)) m fun h l=>vguard h false (fun a=>xF k 5 l fun b c=>a b c) l fun l m=>vguard h false (fun a=>xL l 1 false m fun b c=>a b c) m fun l m=>vguard h false (fun a=>a (j 12) m) m fun m n=>vguard h false (fun a=>vbin .leq l m fun b=>a b n) n fun l m=>ab PP (.pick (.c h) (.c (.bool true)) (.c l)) m fun h l=>vguard h false (fun a=>xF c 0 l fun b c=>a b c) l fun l m=>vguard h false (fun a=>xL l 8 true m fun b c=>a b c) m fun l m=>vguard h false (fun a=>a e m) m fun m n=>vguard h false (fun a=>a f n) n fun n o=>vguard h false (fun a=>xL k 9 true o fun b c=>a b c) o fun o p=>vguard h false (fun a=>ag PP oi [l,m,n,o] p fun b c=>a b c) p fun l m=>vguard h false (fun a=>vun .not l fun b=>a b m) m fun l m=>ab PP (.pick (.c h) (.c (.bool true)) (.c l)) m fun h l=>vcond h (K (.bool false) l) (xF k 5 l fun h k=>xL h 1 false k fun h k=>vbin .add (j 13) (.int .i64 1) fun j=>aG [d,g,c,b,e,f] [d,g,c,b,e,f]/\∃b,b<a/\i b [h,j] k)) (aG [g,b,e,f] [g,b,e,f]/\h [] l)
def lA (a:D) (b:D) (c:D) (d:Heap) (K:HK):Prop :=
 ab PP (.box (.c a)) d fun a d=>ab PP (.box (.c b)) d fun b d=>ag PP jb [] d fun d e=>vun .not d fun f=>vcond f (K (.bool false) e) (xL a 1 true e fun a e=>xL b 15 true e fun b e=>ag PP lb [a,b] e fun a b=>ab PP (.alloc (.agg [zI,zI,zI,zI,zI,.nil,.nil,.nil,zI,.nil,zI,zI,zI,zI,.nil,.nil,.nil,.nil,.nil,.nil,zI])) b fun b e=>xS b a 21 e fun a e=>xF b 0 e fun a e=>xL a 8 true e fun a e=>xF b 8 e fun e f=>xL e 2 true f fun e f=>xF b 10 f fun f g=>xL f 11 true g fun f g=>ag PP fo [a,e,f,c] g fun a e=>ab PP (.alloc (.agg [zI,zI,zI,zI,.nil,.nil,.nil,.nil,.nil,.nil,zI])) e fun e f=>xS e a 11 f fun a f=>yF b 10 f fun a=>yF a 7 f fun a=>yL a 1 false f fun a=>yF b 10 f fun g=>yF g 8 f fun h=>yL h 1 false f fun i=>ag PP fj [a] f fun a f=>((yF b 10 f fun a=>aG [a] [g])/\(yF g 8 f fun a=>aG [a] [h])/\(yL h 1 false f fun a=>aG [a] [i])/\True)/\ag PP fj [i] f fun f g=>∃(h:HJ),( ∀(b:Nat->D) (c:Heap),h [] c->xF e 7 c fun b c=>xL b 1 false c fun b c=>ag PP gC [b,a] c fun a b=>vguard a true (fun a=>xF e 8 b fun b c=>a b c) b fun b c=>vguard a true (fun a=>xL b 1 false c fun b c=>a b c) c fun b c=>vguard a true (fun a=>a f c) c fun c e=>vguard a true (fun a=>ag PP gC [b,c] e fun b c=>a b c) e fun b c=>ab PP (.pick (.c a) (.c b) (.c (.bool false))) c fun a b=>vguard a true (fun a=>a d b) b fun b c=>ab PP (.pick (.c a) (.c b) (.c (.bool false))) c fun a b=>K a b)/\iV g e b c a f d h K)
set_option maxHeartbeats 0 in
theorem qc (a0:D) (a1:D) (a2:D) (h0:Heap) (K:HK):lA a0 a1 a2 h0 K=eo lL K [a0,a1,a2] h0:=by kernel_rfl
end Go.Am

namespace Go.Am
open Go Go.Proofs
def Cm:TL
 | _=>none
def Fm:TT
 | 10=>some ([0,1,0,4,15,31,63,127,63,319,1023,2047,4095,8191,8191,8191,40959,131071,262143,524287,1048575,2097151,1048575,8388607,16777215,33554431,67108863,134217727,134217727,402653183,1073741823,2147483647,4294967295,8589934591,17179869183],[],[])|_=>none
noncomputable abbrev Bz:=cFn PP true jb Cm (cDr PP 118 Fm)
noncomputable def BJ:aK:=⟨118,aS Bz,[.t 0]⟩
theorem E8:Bz=some BJ:=by kernel_rfl
def Bl (a:Heap) (K:HK):Prop :=
 ag PP gZ [(.int .i64 4)] a fun a b=>ag PP gZ [(.int .i64 2)] b fun b c=>ab PP (.bld [zI,.nil] [(0,1,(.c (.int .i64 1)))]) c fun c d=>ab PP (.alloc (.agg [zI,zI,zI,zI,zI,.nil,.nil,.nil])) d fun d e=>ab PP (.alloc (.agg [zI,zI,zI,zI,zI,.nil,.nil,.nil])) e fun e f=>ab PP (.alloc (.agg [zI,.nil])) f fun f g=>xS d a 8 g fun a g=>xS e b 8 g fun a b=>xS f c 2 b fun a b=>xL d 8 true b fun a b=>xL f 2 true b fun b c=>ag PP fM [a,b,(.int .i64 2)] c fun a b=>ab PP (.alloc (.agg [zI,zI,zI,zI,.nil,.nil,.nil,zI])) b fun b c=>xS b a 8 c fun a c=>xL d 8 true c fun a c=>xL f 2 true c fun c g=>ag PP fM [a,c,(.int .i64 4)] g fun a c=>ab PP (.alloc (.agg [zI,zI,zI,zI,.nil,.nil,.nil,zI])) c fun c g=>xS c a 8 g fun a g=>xF b 7 g fun a g=>xL a 1 false g fun a g=>vbin .neq a zI fun a=>vguard a false (fun a=>xF c 7 g fun b c=>a b c) g fun c g=>vguard a false (fun a=>xL c 1 false g fun b c=>a b c) g fun c g=>vguard a false (fun a=>vbin .neq c (.int .i64 1) fun b=>a b g) g fun c g=>ab PP (.pick (.c a) (.c (.bool true)) (.c c)) g fun a c=>vguard a false (fun a=>xF b 0 c fun b c=>a b c) c fun c g=>vguard a false (fun a=>xF c 1 g fun b c=>a b c) g fun c g=>vguard a false (fun a=>xL c 1 false g fun b c=>a b c) g fun c g=>vguard a false (fun a=>vbin .neq c (.int .i64 1) fun b=>a b g) g fun c g=>ab PP (.pick (.c a) (.c (.bool true)) (.c c)) g fun a c=>vguard a false (fun a=>xF b 0 c fun b c=>a b c) c fun c g=>vguard a false (fun a=>xF c 4 g fun b c=>a b c) g fun c g=>vguard a false (fun a=>xL c 1 false g fun b c=>a b c) g fun c g=>vguard a false (fun a=>cb c g fun b=>a b g) g fun c g=>vguard a false (fun a=>vbin .neq c (.int .i64 1) fun b=>a b g) g fun c g=>ab PP (.pick (.c a) (.c (.bool true)) (.c c)) g fun a c=>vcond a (K (.bool false) c) (xL d 8 true c fun a c=>xL f 2 true c fun c g=>xF b 0 g fun g h=>xL g 7 true h fun g h=>ab PP (.bldS true 1 4 zJ [(0,(.c zJ)),(1,(.c zJ)),(2,(.c zJ)),(3,(.c zJ))]) h fun h i=>ab PP (.bldS true 1 1 .nil [(0,(.c h))]) i fun h i=>ab PP (.bldS true 1 1 .nil [(0,(.c .nil))]) i fun i j=>ab PP (.bld [zI,zI,zI,zI,.nil,.nil,.nil,.nil,.nil,.nil,zI] [(0,7,(.c g)),(7,1,(.c h)),(8,1,(.c i))]) j fun g h=>ag PP fo [a,c,g,zI] h fun a c=>ab PP (.alloc (.agg [zI,zI,zI,zI,.nil,.nil,.nil,.nil,.nil,.nil,zI])) c fun c g=>xS c a 11 g fun a g=>xL e 8 true g fun a e=>xL f 2 true e fun e g=>xF b 0 g fun g h=>xL g 7 true h fun g h=>ab PP (.bldS true 1 2 zJ [(0,(.c zJ)),(1,(.c zJ))]) h fun h i=>ab PP (.bldS true 1 1 .nil [(0,(.c h))]) i fun h i=>ab PP (.bldS true 1 1 .nil [(0,(.c .nil))]) i fun i j=>ab PP (.bld [zI,zI,zI,zI,.nil,.nil,.nil,.nil,.nil,.nil,zI] [(0,7,(.c g)),(7,1,(.c h)),(8,1,(.c i))]) j fun g h=>ag PP fo [a,e,g,zI] h fun a e=>ab PP (.alloc (.agg [zI,zI,zI,zI,.nil,.nil,.nil,.nil,.nil,.nil,zI])) e fun e g=>xS e a 11 g fun a g=>xF c 10 g fun a g=>xL a 1 false g fun a g=>vbin .neq a zI fun a=>vguard a false (fun a=>xF e 10 g fun b c=>a b c) g fun g h=>vguard a false (fun a=>xL g 1 false h fun b c=>a b c) h fun g h=>vguard a false (fun a=>vbin .neq g (.int .i64 70) fun b=>a b h) h fun g h=>ab PP (.pick (.c a) (.c (.bool true)) (.c g)) h fun a g=>vguard a false (fun a=>xF c 9 g fun b c=>a b c) g fun g h=>vguard a false (fun a=>xL g 1 false h fun b c=>a b c) h fun g h=>vguard a false (fun a=>ab PP (.bld [zI,zI,zI,zI,zI,zI,zI,zI,zJ] [(0,1,(.c (.int .i64 2))),(2,1,(.c (.int .i64 2))),(5,1,(.c (.int .i64 1))),(7,1,(.c (.int .i64 2))),(8,1,(.c (.int .i32 7)))]) h fun b c=>a b c) h fun h i=>vguard a false (fun a=>ab PP (.bldS true 9 1 (.agg [zI,zI,zI,zI,zI,zI,zI,zI,zJ]) [(0,(.c h))]) i fun b c=>a b c) i fun h i=>vguard a false (fun a=>ag PP ff [g,h] i fun b c=>a b c) i fun g h=>vguard a false (fun a=>vun .not g fun b=>a b h) h fun g h=>ab PP (.pick (.c a) (.c (.bool true)) (.c g)) h fun a g=>vguard a false (fun a=>xF e 9 g fun b c=>a b c) g fun g h=>vguard a false (fun a=>xL g 1 false h fun b c=>a b c) h fun g h=>vguard a false (fun a=>cb g h fun b=>a b h) h fun g h=>vguard a false (fun a=>vbin .neq g zI fun b=>a b h) h fun g h=>ab PP (.pick (.c a) (.c (.bool true)) (.c g)) h fun a g=>vguard a false (fun a=>xF c 0 g fun b c=>a b c) g fun g h=>vguard a false (fun a=>xF g 1 h fun b c=>a b c) h fun g h=>vguard a false (fun a=>xL g 1 false h fun b c=>a b c) h fun g h=>vguard a false (fun a=>vbin .neq g (.int .i64 3) fun b=>a b h) h fun g h=>ab PP (.pick (.c a) (.c (.bool true)) (.c g)) h fun a g=>vcond a (K (.bool false) g) (yF c 7 g fun a=>yL a 1 false g fun a=>au PP (.bldS false 1 4 zJ [(0,(.c zJ)),(1,(.c zJ)),(2,(.c (.int .i32 7))),(3,(.c zJ))]) g fun h=>au PP (.bldS false 1 1 .nil [(0,(.c h))]) g fun h=>au PP (.call gC [(.c a),(.c h)]) g fun a=>aw a true (fun a=>yF e 7 g fun b=>a b) fun e=>aw a true (fun a=>yL e 1 false g fun b=>a b) fun e=>aw a true (fun a=>au PP (.bldS false 1 2 zJ [(0,(.c zJ)),(1,(.c zJ))]) g fun b=>a b) fun h=>aw a true (fun a=>au PP (.bldS false 1 1 .nil [(0,(.c h))]) g fun b=>a b) fun h=>aw a true (fun a=>au PP (.call gC [(.c e),(.c h)]) g fun b=>a b) fun e=>au PP (.pick (.c a) (.c e) (.c (.bool false))) g fun a=>aw a true (fun a=>yL d 8 true g fun b=>a b) fun e=>aw a true (fun a=>yL f 2 true g fun b=>a b) fun f=>aw a true (fun a=>yF c 0 g fun b=>a b) fun c=>aw a true (fun a=>yL c 7 true g fun b=>a b) fun c=>aw a true (fun a=>au PP (.call kE [(.c e),(.c f),(.c c)]) g fun b=>a b) fun c=>au PP (.pick (.c a) (.c c) (.c (.bool false))) g fun a=>aw a true (fun a=>yF b 0 g fun b=>a b) fun c=>aw a true (fun a=>yL c 7 true g fun b=>a b) fun c=>aw a true (fun a=>au PP (.call lW [(.c (.int .i32 9))]) g fun b=>a b) fun e=>aw a true (fun a=>au PP (.call cN [(.c c),(.c e)]) g fun b=>a b) fun c=>aw a true (fun a=>vbin .eql c (.int .i32 9) fun b=>a b) fun c=>au PP (.pick (.c a) (.c c) (.c (.bool false))) g fun a=>aw a true (fun a=>yL d 8 true g fun b=>a b) fun c=>aw a true (fun a=>yF b 0 g fun b=>a b) fun b=>aw a true (fun a=>yL b 7 true g fun b=>a b) fun b=>aw a true (fun a=>au PP (.call kC [(.c c),(.c b),(.c (.int .i32 1))]) g fun b=>a b) fun b=>aw a true (fun a=>au PP (.fld (.c b) 7 1 false) g fun b=>a b) fun b=>aw a true (fun a=>vbin .eql b (.int .i64 1) fun b=>a b) fun b=>au PP (.pick (.c a) (.c b) (.c (.bool false))) g fun a=>K a g))
theorem ER (h0:Heap) (K:HK):Bl h0 K=eo BJ K [] h0:=by kernel_rfl
end Go.Am
