/- The texts of the functions of this chapter, as the abstract machine has them. No condition. -/
import Derived.Test.YtllpdgfanfffnaaGreatProg
import Derived.KernelRfl
import Derived.Test.YtllpdgfanfffnaaGreatA2
set_option linter.unnecessarySimpa false
set_option linter.defProp false
set_option linter.unusedSectionVars false
set_option linter.unusedSimpArgs false
set_option linter.unusedVariables false
namespace Go.Am
open Go Go.Proofs
noncomputable abbrev PP:Program:=Tryz.prog
abbrev fX:FuncId:=3
abbrev iE:FuncId:=8
abbrev pf:FuncId:=9
abbrev tP:FuncId:=10
abbrev tO:FuncId:=11
abbrev kP:FuncId:=12
abbrev tM:FuncId:=13
abbrev jC:FuncId:=14
abbrev gg:FuncId:=15
abbrev oK:FuncId:=16
abbrev iC:FuncId:=17
abbrev bZ:FuncId:=18
abbrev jo:FuncId:=19
abbrev bY:FuncId:=20
abbrev gG:FuncId:=21
abbrev gZ:FuncId:=22
abbrev bM:FuncId:=23
abbrev dG:FuncId:=24
abbrev cJ:FuncId:=26
abbrev kT:FuncId:=27
abbrev g9:FuncId:=28
abbrev tN:FuncId:=29
abbrev jB:FuncId:=30
abbrev tR:FuncId:=31
abbrev aw:FuncId:=32
abbrev pj:FuncId:=33
abbrev fc:FuncId:=34
abbrev dM:FuncId:=35
abbrev bt:FuncId:=36
abbrev bh:FuncId:=37
abbrev bg:FuncId:=38
abbrev cH:FuncId:=39
abbrev kN:FuncId:=40
abbrev br:FuncId:=41
abbrev aX:FuncId:=42
abbrev bu:FuncId:=43
abbrev fo:FuncId:=44
abbrev gH:FuncId:=45
abbrev tL:FuncId:=46
abbrev gq:FuncId:=47
abbrev jq:FuncId:=48
abbrev dH:FuncId:=49
abbrev iD:FuncId:=50
abbrev kM:FuncId:=51
abbrev cU:FuncId:=52
abbrev kI:FuncId:=53
abbrev pe:FuncId:=54
abbrev m9:FuncId:=55
abbrev bn:FuncId:=56
abbrev qY:FuncId:=57
abbrev cC:FuncId:=58
abbrev nW:FuncId:=59
abbrev cI:FuncId:=60
abbrev aV:FuncId:=61
abbrev fp:FuncId:=62
abbrev jI:FuncId:=63
abbrev du:FuncId:=65
abbrev iX:FuncId:=66
abbrev iW:FuncId:=67
abbrev kL:FuncId:=68
abbrev qX:FuncId:=69
abbrev kK:FuncId:=70
abbrev mC:FuncId:=71
abbrev ra:FuncId:=72
abbrev kJ:FuncId:=73
abbrev dB:FuncId:=74
abbrev ct:FuncId:=75
abbrev tQ:FuncId:=76
abbrev wV:FuncId:=77
abbrev pg:FuncId:=78
abbrev pn:FuncId:=79
abbrev gf:FuncId:=80
abbrev m8:FuncId:=81
abbrev kH:FuncId:=82
abbrev fK:FuncId:=83
abbrev cZ:FuncId:=84
abbrev fB:FuncId:=85
abbrev qZ:FuncId:=89
abbrev jD:FuncId:=90
abbrev re:FuncId:=91
abbrev dL:FuncId:=92
abbrev dq:FuncId:=93
abbrev Bb:FuncId:=94
abbrev lZ:FuncId:=95
abbrev wY:FuncId:=96
abbrev oJ:FuncId:=97
abbrev bA:FuncId:=98
abbrev kG:FuncId:=99
abbrev mz:FuncId:=110
abbrev Ba:FuncId:=111
abbrev nc:FuncId:=112
abbrev Gr:FuncId:=113
abbrev cL:FuncId:=114
abbrev tS:FuncId:=115
abbrev bG:FuncId:=116
abbrev kR:FuncId:=122
abbrev wW:FuncId:=123
abbrev gh:FuncId:=124
abbrev cX:FuncId:=125
abbrev iF:FuncId:=126
abbrev kS:FuncId:=127
abbrev cD:FuncId:=129
abbrev eM:FuncId:=130
abbrev na:FuncId:=131
abbrev Cu:FuncId:=132
abbrev kQ:FuncId:=133
def aU:Option aN->ACode
 | some F=>F.code
 | none=>.skip
abbrev dt (F:aN) (K:HKq) (l:List D) (h:Heap):Prop:=vcC PP F.code (λ x e h'=>match x with|.exit _=>False|.pan=>False|.jump _=>False|_=>K1 PP F.res K e h') (params l 0) h
abbrev zI:D:=.int .i64 0
abbrev zJ:D:=.int .i32 0
abbrev xB (a:D) (h:Heap) (K:HKq):Prop:=ab PP (.box (.c a)) h K
abbrev xC (k:IntKind) (a:D) (h:Heap) (K:HKq):Prop:=ab PP (.conv k (.c a)) h K
abbrev xF (a:D) (n:Nat) (h:Heap) (K:HKq):Prop:=ab PP (.fadd (.c a) n) h K
abbrev xI (a b:D) (n:Nat) (h:Heap) (K:HKq):Prop:=ab PP (.iadd (.c a) (.c b) n) h K
abbrev xJ (a b:D) (n m:Nat) (h:Heap) (K:HKq):Prop:=ab PP (.iadda (.c a) (.c b) n m) h K
abbrev xL (a:D) (n:Nat) (b:Bool) (h:Heap) (K:HKq):Prop:=ab PP (.ld (.c a) n b) h K
abbrev xP (a b c:D) (h:Heap) (K:HKq):Prop:=ab PP (.pick (.c a) (.c b) (.c c)) h K
abbrev xS (a b:D) (n:Nat) (h:Heap) (K:HKq):Prop:=ab PP (.st (.c a) (.c b) n) h K
abbrev yC (k:IntKind) (a:D) (h:Heap) (K:D->Prop):Prop:=au PP (.conv k (.c a)) h K
abbrev yF (a:D) (n:Nat) (h:Heap) (K:D->Prop):Prop:=au PP (.fadd (.c a) n) h K
abbrev yI (a b:D) (n:Nat) (h:Heap) (K:D->Prop):Prop:=au PP (.iadd (.c a) (.c b) n) h K
abbrev yJ (a b:D) (n m:Nat) (h:Heap) (K:D->Prop):Prop:=au PP (.iadda (.c a) (.c b) n m) h K
abbrev yL (a:D) (n:Nat) (b:Bool) (h:Heap) (K:D->Prop):Prop:=au PP (.ld (.c a) n b) h K
abbrev yP (a b c:D) (h:Heap) (K:D->Prop):Prop:=au PP (.pick (.c a) (.c b) (.c c)) h K
end Go.Am
namespace Go.Am
open Go Go.Proofs
def Bg:TLq
 | 1000008=>some ([4,5],[])|3=>some ([1,4,5],[6])|1000005=>some ([1,4,5,6],[])|_=>none
def EO:TTq
 | _=>none
noncomputable abbrev yb:=cFn PP true pf Bg (cDr PP 40 EO)
noncomputable def yo:aN:=⟨40,aU yb,[.cell 4 8 true]⟩
theorem El:yb=some yo:=by kernel_rfl
def qu (a:Heap) (b c d:D) (e:HJq):Prop :=
 ∃(f:Nat->HJq) (g:Nat),f g [(.int .i64 0)] a/\∀(a:Nat) (g:Nat->D) (h:Heap),f a [g 6] h->xF b 7 h λ h i=>xL h 1 false i λ h i=>aM h i λ h=>vbin .lss (g 6) h λ h=>vcond h ( ∃(e:HJq),( ∀(h:Nat->D) (i:Heap),e [] i->vbin .add (g 6) (.int .i64 1) λ e=>aD [c,d,b] [c,d,b]/\∃b,b<a/\f b [e] i)/\vbin .rem (g 6) (.int .i64 32) λ a=>xC .u64 a i λ a f=>vbin .shr c a λ a=>vbin .and a (.int .u32 1) λ a=>vbin .eql a (.int .u32 1) λ a=>vguard a true (λ a=>xF b 7 f λ b c=>a b c) f λ f h=>vguard a true (λ a=>xL f 1 false h λ b c=>a b c) h λ f h=>vguard a true (λ a=>a (g 6) h) h λ h i=>vguard a true (λ a=>xI f h 14 i λ b c=>a b c) i λ f h=>vguard a true (λ a=>xF f 1 h λ b c=>a b c) h λ f h=>vguard a true (λ a=>xF f 0 h λ b c=>a b c) h λ f h=>vguard a true (λ a=>xL f 1 false h λ b c=>a b c) h λ f h=>vguard a true (λ a=>vbin .eql f (.int .i64 1) λ b=>a b h) h λ f h=>xP a f (.bool false) h λ a f=>vcond a (xF b 7 f λ a f=>xL a 1 false f λ a f=>xI a (g 6) 14 f λ a f=>xF a 1 f λ a f=>xF a 0 f λ a f=>xS a (.int .i64 3) 1 f λ a f=>aD [c,d,b,(g 6)] [c,d,b,(g 6)]/\e [] f) (aD [c,d,b,(g 6)] [c,d,b,(g 6)]/\e [] f)) (aD [d,b] [d,b]/\e [] i)
def xH (a b:D) (c:Heap) (K:HKq):Prop :=
 xB a c λ a c=>ab PP (.alloc (.agg [zI,zI,zI,zI,zI,.nil,.nil,.nil])) c λ c d=>xL a 8 true d λ a d=>ag PP tR [a] d λ a d=>ab PP (.alloc (.agg [zI,zI,zI,zI,zI,.nil,.nil,.nil])) d λ d e=>xS d a 8 e λ a e=>∃(a:HJq),( ∀(b:Nat->D) (e:Heap),a [] e->xL d 8 true e λ a b=>xS c a 8 b λ a b=>xL c 8 true b λ a c=>K a b)/\qu e d b c a
theorem Dy (a0:D) (a1:D) (h0:Heap) (K:HKq):xH a0 a1 h0 K=dt yo K [a0,a1] h0:=by kernel_rfl
def Fg:TLq
 | 1000008=>some ([2,3],[])|4=>some ([2,3],[4])|1000019=>some ([2,3],[])|8=>some ([2,3],[5])|1000010=>some ([2,3,5],[])|1000015=>some ([2,3,5],[])|1000024=>some ([2,3],[])|_=>none
def IX:TTq
 | 2=>some ([0,0,0,4,12,30,62,12,254,511,1023,2047],[3,11],[999999])|4=>some ([0,1,3,7,15,31,63,127,7,263,775,1799,3847,7943,16383,32767,65535],[],[])|17=>some ([0,1,3,7,15,0,0,64,192,448,0,1216,0,7360,0,31936,0,65536,196608,524224,1048575,2097151,4194303],[7,11,13,15,22],[999999])|23=>some ([0,1,3,7,15,0,32,96,224,480,992,2016,0,8191,16383,32767],[15],[])|_=>none
noncomputable abbrev D7:=cFn PP true tP Fg (cDr PP 153 IX)
noncomputable def Ev:aN:=⟨153,aU D7,[.cell 2 8 true]⟩
theorem H6:D7=some Ev:=by kernel_rfl
def nM (a:D) (b:Heap) (c d:D) (e:HJq):Prop :=
 ∃(f:Nat->HJq) (g:Nat),f g [a] b/\∀(a:Nat) (b:Nat->D) (g:Heap),f a [b 5] g->vbin .gtr (b 5) (.int .i64 0) λ h=>vcond h ( ∃(e:HJq),( ∀(g:Nat->D) (h:Heap),e [] h->vbin .sub (b 5) (.int .i64 1) λ b=>aD [c,d] [c,d]/\∃c,c<a/\f c [b] h)/\ag PP aw [d] g λ a f=>vbin .rem a (.int .i64 3) λ a=>ag PP fc [d,a] f λ a f=>∃(a:HJq),( ∀(f:Nat->D) (g:Heap),a [] g->xF d 0 g λ a f=>xF a 2 f λ a f=>xF a 7 f λ a f=>xL a 1 false f λ a f=>aM a f λ a=>vbin .sub a (.int .i64 1) λ a=>xF d 0 f λ f g=>xF f 2 g λ f g=>xF f 7 g λ f g=>xL f 1 false g λ f g=>vbin .add a (.int .i64 1) λ h=>ab PP (.bld [zI,zI] [(0,1,(.c h)),(1,1,(.c (.int .i64 0)))]) g λ g h=>ab PP (.bld [zI,zI,zI,zI,zJ,zI,zI,zJ,zI,zI,zJ,zI,zI] [(0,1,(.c (.int .i64 3))),(11,2,(.c g))]) h λ g h=>xI f a 14 h λ f h=>xF f 1 h λ f h=>xS f g 13 h λ f g=>ag PP aw [d] g λ f g=>vbin .rem f (.int .i64 3) λ f=>vbin .eql f (.int .i64 0) λ f=>vcond f (yF d 0 g λ f=>yF f 2 g λ h=>yF h 7 g λ i=>yL i 1 false g λ j=>vbin .add a (.int .i64 1) λ k=>au PP (.bld [zI,zI] [(0,1,(.c k)),(1,1,(.c (.int .i64 0)))]) g λ k=>ag PP aw [d] g λ g l=>((yF d 0 l λ a=>aD [a] [f])/\(yF f 2 l λ a=>aD [a] [h])/\(yF h 7 l λ a=>aD [a] [i])/\(yL i 1 false l λ a=>aD [a] [j])/\True)/\vbin .rem g (.int .i64 6) λ g=>vbin .add (.int .i64 1) g λ g=>ag PP bh [d] l λ l m=>((yF d 0 m λ a=>aD [a] [f])/\(yF f 2 m λ a=>aD [a] [h])/\(yF h 7 m λ a=>aD [a] [i])/\(yL i 1 false m λ a=>aD [a] [j])/\True)/\ag PP bg [d] m λ m n=>((yF d 0 n λ a=>aD [a] [f])/\(yF f 2 n λ a=>aD [a] [h])/\(yF h 7 n λ a=>aD [a] [i])/\(yL i 1 false n λ a=>aD [a] [j])/\True)/\ag PP bg [d] n λ n o=>((yF d 0 o λ a=>aD [a] [f])/\(yF f 2 o λ a=>aD [a] [h])/\(yF h 7 o λ a=>aD [a] [i])/\(yL i 1 false o λ a=>aD [a] [j])/\True)/\au PP (.bld [zI,zI,zI,zI,zJ,zI,zI,zJ,zI,zI,zJ,zI,zI] [(0,1,(.c (.int .i64 4))),(1,1,(.c g)),(2,3,(.c l)),(5,3,(.c m)),(8,3,(.c n)),(11,2,(.c k))]) o λ f=>yI j a 14 o λ a=>yF a 1 o λ a=>xS a f 13 o λ a f=>aD [c,d,(b 5)] [c,d,(b 5)]/\e [] f) (aD [c,d,(b 5)] [c,d,(b 5)]/\e [] g))/\ag PP aw [d] f λ e f=>vbin .rem e (.int .i64 3) λ e=>vbin .eql e (.int .i64 0) λ e=>vcond e (ag PP dM [d] f λ e f=>ag PP bt [d] f λ e f=>aD [c,d,(b 5)] [c,d,(b 5)]/\a [] f) (aD [c,d,(b 5)] [c,d,(b 5)]/\a [] f)) (aD [c,d] [c,d]/\e [] g)
def nK (a:D) (b:Heap) (c d:D) (e:HJq):Prop :=
 ∃(f:Nat->HJq) (g:Nat),f g [a] b/\∀(a:Nat) (b:Nat->D) (g:Heap),f a [b 4] g->vbin .gtr (b 4) (.int .i64 0) λ h=>ai h true (λ a=>a c) λ i=>ai h true (λ a=>yF i 0 g λ b=>a b) λ i=>ai h true (λ a=>yF i 2 g λ b=>a b) λ i=>ai h true (λ a=>yF i 0 g λ b=>a b) λ i=>ai h true (λ a=>yL i 1 false g λ b=>a b) λ i=>ai h true (λ a=>a c) λ j=>ai h true (λ a=>yF j 0 g λ b=>a b) λ j=>ai h true (λ a=>yF j 2 g λ b=>a b) λ j=>ai h true (λ a=>yF j 1 g λ b=>a b) λ j=>ai h true (λ a=>yL j 1 false g λ b=>a b) λ j=>ai h true (λ a=>vbin .mul (.int .i64 2) j λ b=>a b) λ j=>ai h true (λ a=>vbin .rem i j λ b=>a b) λ i=>ai h true (λ a=>vbin .eql i (.int .i64 0) λ b=>a b) λ i=>yP h i (.bool false) g λ h=>vcond h (xF c 0 g λ e g=>xF e 2 g λ e g=>xF e 1 g λ e g=>xL e 1 false g λ e g=>vbin .mul (.int .i64 2) e λ e=>xF c 0 g λ g h=>xF g 2 h λ g h=>xF g 1 h λ g h=>xS g e 1 h λ e g=>vbin .sub (b 4) (.int .i64 1) λ b=>aD [d,c] [d,c]/\∃c,c<a/\f c [b] g) (aD [d,c] [d,c]/\e [] g)
def DH (a:D) (b:Heap) (K:HKq):Prop :=
 xB a b λ a b=>ab PP (.alloc (.agg [zI,zI,zI,zI,zI,.nil,.nil,.nil])) b λ b c=>xF a 0 c λ a c=>xL a 1 false c λ a c=>ab PP (.bld [.nil,zI,zI,zI,zI,zI,zI,.nil,.nil,.nil] [(0,1,(.c a))]) c λ a c=>xB a c λ a c=>au PP (.bldS false 1 5 (.int .i64 0) [(0,(.c (.int .i64 4))),(1,(.c (.int .i64 1))),(2,(.c (.int .i64 2))),(3,(.c (.int .i64 8))),(4,(.c (.int .i64 6)))]) c λ d=>ag PP aw [a] c λ c e=>vbin .rem c (.int .i64 5) λ c=>yI d c 1 e λ c=>yL c 1 false e λ c=>au PP (.call pj []) e λ d=>au PP (.bld [zI,zI,zI,zI,zI,.nil,.nil,.nil] [(0,1,(.c c)),(1,1,(.c (.int .i64 1))),(2,1,(.c (.int .i64 6))),(4,1,(.c (.int .i64 3))),(5,1,(.c d))]) e λ c=>yF a 0 e λ d=>yF d 2 e λ d=>xS d c 8 e λ c d=>∃(c:HJq),( ∀(d:Nat->D) (e:Heap),c [] e->∃(c:HJq),( ∀(d:Nat->D) (e:Heap),c [] e->ag PP aw [a] e λ c d=>vbin .rem c (.int .i64 3) λ c=>ag PP fc [a,c] d λ c d=>∃(c:HJq),( ∀(d:Nat->D) (e:Heap),c [] e->yF a 0 e λ c=>yF c 2 e λ c=>yF c 7 e λ c=>yL c 1 false e λ c=>yF a 0 e λ d=>yF d 2 e λ d=>yF d 7 e λ d=>yL d 1 false e λ d=>aM d e λ d=>vbin .sub d (.int .i64 1) λ d=>au PP (.bld [zI,zI,zI,zI,zJ,zI,zI,zJ,zI,zI,zJ,zI,zI] [(0,1,(.c (.int .i64 5)))]) e λ f=>yI c d 14 e λ c=>yF c 1 e λ c=>xS c f 13 e λ c d=>xF a 0 d λ a c=>xF a 2 c λ a c=>xL a 8 true c λ a c=>xS b a 8 c λ a c=>xL b 8 true c λ a b=>K a c)/\ag PP aw [a] d λ d e=>vbin .rem d (.int .i64 3) λ d=>vbin .eql d (.int .i64 0) λ d=>vcond d (ag PP dM [a] e λ d e=>ag PP bt [a] e λ d e=>ag PP cH [a] e λ d e=>aD [b,a] [b,a]/\c [] e) (aD [b,a] [b,a]/\c [] e))/\ag PP aw [a] e λ d e=>vbin .rem d (.int .i64 3) λ d=>nM d e b a c)/\ag PP aw [a] d λ d e=>vbin .rem d (.int .i64 3) λ d=>nK d e a b c
theorem HL (a0:D) (h0:Heap) (K:HKq):DH a0 h0 K=dt Ev K [a0] h0:=by kernel_rfl
def Fe:TLq
 | 1000023=>some ([2,3],[])|4=>some ([0,2,3,4],[5])|1000022=>some ([0,2,3,4,5,6],[])|1000014=>some ([0,2,3,4,5,6,7],[])|1000016=>some ([0,2,3,4,5,6,7],[])|1000018=>some ([0,2,3,4,5,6],[])|1000020=>some ([0,2,3,4,5,6],[])|_=>none
def IV:TTq
 | 9=>some ([0,0,3,7,15,31,0,127,0,0,768,1792,3840,7936,0,32512,65535,131071,262143],[18],[])|_=>none
noncomputable abbrev D5:=cFn PP true tO Fe (cDr PP 85 IV)
noncomputable def Et:aN:=⟨85,aU D5,[.cell 2 8 true]⟩
theorem H4:D5=some Et:=by kernel_rfl
def nJ (a:Heap) (b c d e:D) (f:HJq):Prop :=
 ∃(g:Nat->HJq) (h:Nat),g h [(.int .i64 0)] a/\∀(a:Nat) (h:Nat->D) (i:Heap),g a [h 5] i->vbin .lss (h 5) b λ j=>vcond j (ab PP (.bld [zI,zI,zI,zI,zJ,zI,zI,zJ,zI,zI,zJ,zI,zI] [(0,1,(.c (.int .i64 5)))]) i λ f i=>ab PP (.alloc (.agg [zI,zI,zI,zI,zJ,zI,zI,zJ,zI,zI,zJ,zI,zI])) i λ i j=>xS i f 13 j λ f j=>∃(f:HJq),( ∀(j:Nat->D) (k:Heap),f [] k->xF c 7 k λ f j=>xL f 1 false j λ f j=>xL i 13 true j λ i j=>ab PP (.bld [.nil,zI,zI,zI,zI,zJ,zI,zI,zJ,zI,zI,zJ,zI,zI] [(1,13,(.c i))]) j λ i j=>ab PP (.bldS true 14 1 (.agg [.nil,zI,zI,zI,zI,zJ,zI,zI,zJ,zI,zI,zJ,zI,zI]) [(0,(.c i))]) j λ i j=>ab PP (.app (.c f) (.c i) 14 128 (.agg [.nil,zI,zI,zI,zI,zJ,zI,zI,zJ,zI,zI,zJ,zI,zI])) j λ f i=>xF c 7 i λ i j=>xS i f 1 j λ f i=>vbin .add (h 5) (.int .i64 1) λ f=>aD [d,e,c,b] [d,e,c,b]/\∃b,b<a/\g b [f] i)/\aM d j λ a=>vbin .lss (h 5) a λ a=>vcond a (xI d (h 5) 3 j λ a g=>xJ a (.int .i64 0) 3 1 g λ a g=>xL a 1 false g λ a g=>vbin .rem a (.int .u8 8) λ a=>xC .i64 a g λ a g=>yI d (h 5) 3 g λ j=>yJ j (.int .i64 1) 3 1 g λ j=>yL j 1 false g λ j=>yC .i64 j g λ j=>vbin .rem j b λ j=>yI d (h 5) 3 g λ k=>yJ k (.int .i64 2) 3 1 g λ k=>yL k 1 false g λ k=>yC .i64 k g λ k=>vbin .rem k b λ k=>au PP (.bld [zI,zI] [(0,1,(.c j)),(1,1,(.c k))]) g λ j=>yF i 11 g λ k=>xS k j 2 g λ g j=>∃(g:HJq),( ∀(j:Nat->D) (k:Heap),g [] k->∃(g:HJq),( ∀(j:Nat->D) (k:Heap),g [] k->∃(g:HJq),( ∀(a:Nat->D) (j:Heap),g [] j->∃(a:HJq),( ∀(g:Nat->D) (j:Heap),a [] j->xF i 0 j λ a g=>xL a 1 false g λ a g=>vbin .eql a (.int .i64 1) λ a=>vguard a false (λ a=>xF i 0 g λ b c=>a b c) g λ g j=>vguard a false (λ a=>xL g 1 false j λ b c=>a b c) j λ g j=>vguard a false (λ a=>vbin .eql g (.int .i64 3) λ b=>a b j) j λ g j=>xP a (.bool true) g j λ a g=>vcond a (xF i 11 g λ a g=>xJ a (.int .i64 0) 2 1 g λ a g=>xL a 1 false g λ a g=>ab PP (.bld [zI,zI] [(0,1,(.c a)),(1,1,(.c (.int .i64 0)))]) g λ a g=>xF i 11 g λ g j=>xS g a 2 j λ a g=>aD [d,e,c,b,(h 5),i] [d,e,c,b,(h 5),i]/\f [] g) (aD [d,e,c,b,(h 5),i] [d,e,c,b,(h 5),i]/\f [] g))/\xF i 0 j λ f g=>xL f 1 false g λ f g=>vbin .eql f (.int .i64 5) λ f=>vcond f (ab PP (.bld [zI,zI] []) g λ f g=>xF i 11 g λ g j=>xS g f 2 j λ f g=>aD [d,e,c,b,(h 5),i] [d,e,c,b,(h 5),i]/\a [] g) (aD [d,e,c,b,(h 5),i] [d,e,c,b,(h 5),i]/\a [] g))/\vbin .eql a (.int .i64 6) λ a=>vcond a (xF i 0 k λ a f=>xS a (.int .i64 3) 1 f λ a f=>aD [d,e,c,b,(h 5),i] [d,e,c,b,(h 5),i]/\g [] f) (aD [d,e,c,b,(h 5),i] [d,e,c,b,(h 5),i]/\g [] k))/\vbin .eql a (.int .i64 5) λ f=>vcond f (xF i 0 k λ f j=>xS f (.int .i64 1) 1 j λ f j=>aD [d,e,c,b,(h 5),i,a] [d,e,c,b,(h 5),i,a]/\g [] j) (aD [d,e,c,b,(h 5),i,a] [d,e,c,b,(h 5),i,a]/\g [] k))/\vbin .lss a (.int .i64 5) λ f=>vcond f (xF i 0 j λ f j=>xS f (.int .i64 2) 1 j λ f j=>ab PP (.bld [zI,zI,zJ] [(0,1,(.c (.int .i64 2)))]) j λ f j=>xF i 5 j λ j k=>xS j f 3 k λ f j=>aD [d,e,c,b,(h 5),i,a] [d,e,c,b,(h 5),i,a]/\g [] j) (aD [d,e,c,b,(h 5),i,a] [d,e,c,b,(h 5),i,a]/\g [] j)) (aD [d,e,c,b,(h 5),i] [d,e,c,b,(h 5),i]/\f [] j)) (aD [e,c] [e,c]/\f [] i)
def DF (a:D) (b:Heap) (K:HKq):Prop :=
 ab PP (.alloc (.agg [zI,zI,zI,zI,zI,.nil,.nil,.nil])) b λ b c=>ab PP (.bld [zI,zI,zI,zI,zI,.nil,.nil,.nil] [(0,1,(.c (.int .i64 4))),(1,1,(.c (.int .i64 2))),(2,1,(.c (.int .i64 1)))]) c λ c d=>ab PP (.alloc (.agg [zI,zI,zI,zI,zI,.nil,.nil,.nil])) d λ d e=>xS d c 8 e λ c e=>aM a e λ c=>ab PP (.mn (.c c) (.c (.int .i64 8))) e λ c e=>ab PP (.mx (.c c) (.c (.int .i64 1))) e λ c e=>∃(f:HJq),( ∀(a:Nat->D) (c:Heap),f [] c->xL d 8 true c λ a c=>xS b a 8 c λ a c=>xL b 8 true c λ a b=>K a c)/\nJ e c d a b f
theorem HJ (a0:D) (h0:Heap) (K:HKq):DF a0 h0 K=dt Et K [a0] h0:=by kernel_rfl
def Fk:TLq
 | 9000002=>some ([1,2],[3,4,5])|1000009=>some ([1,2,3],[5])|1000017=>some ([2,8],[])|12=>some ([2,3,8,45,46],[47])|_=>none
def I1:TTq
 | 9=>some ([0,1,3,0,8,7,63],[6],[])|_=>none
noncomputable abbrev Eb:=cFn PP true kP Fk (cDr PP 61 I1)
noncomputable def EC:aN:=⟨61,aU Eb,[.cell 2 2 true]⟩
theorem Ia:Eb=some EC:=by kernel_rfl
def gz (a:Heap) (b c d e f:D) (g:HJq):Prop :=
 ∃(h:Nat->HJq) (i:Nat),h i [(.int .i64 0)] a/\∀(a:Nat) (i:Nat->D) (j:Heap),h a [i 47] j->vbin .lss (i 47) b λ k=>vcond k (xI c (i 47) 1 j λ g j=>xL g 1 false j λ g j=>xF d 1 j λ j k=>xL j 1 false k λ j k=>ab PP (.look (.int .i64) (.c e) (.c g) .nil false) k λ g k=>ab PP (.bldS true 1 1 .nil [(0,(.c g))]) k λ g k=>ab PP (.app (.c j) (.c g) 1 24 .nil) k λ g j=>xF d 1 j λ j k=>xS j g 1 k λ g j=>vbin .add (i 47) (.int .i64 1) λ g=>aD [f,e,d,c,b] [f,e,d,c,b]/\∃b,b<a/\h b [g] j) (aD [f,d] [f,d]/\g [] j)
def uU (a:Heap) (b c d:D) (e:Nat->D) (f:D) (g:HJq):Prop :=
 ∃(h:Nat->HJq) (i:Nat),h i [(.int .i64 0)] a/\∀(a:Nat) (i:Nat->D) (j:Heap),h a [i 47] j->vbin .lss (i 47) b λ k=>vcond k (xI c (i 47) 1 j λ g j=>xL g 1 false j λ g j=>xF d 1 j λ j k=>xL j 1 false k λ j k=>ab PP (.look (.int .i64) (.c (e 3)) (.c g) .nil false) k λ g k=>ab PP (.bldS true 1 1 .nil [(0,(.c g))]) k λ g k=>ab PP (.app (.c j) (.c g) 1 24 .nil) k λ g j=>xF d 1 j λ j k=>xS j g 1 k λ g j=>vbin .add (i 47) (.int .i64 1) λ g=>aD [f,(e 3),d,c,b] [f,(e 3),d,c,b]/\∃b,b<a/\h b [g] j) (aD [f,d] [f,d]/\g [] j)
def DN (a:D) (b:Heap) (K:HKq):Prop :=
 xB a b λ a b=>ab PP (.alloc (.agg [.nil,.nil])) b λ b c=>∃(d:Nat->HJq),(ab PP (.KL (.int .i64)) c λ c e=>∃(f:HJq),( ∀(e:Nat->D) (g:Heap),f [e 5] g->aM (e 5) g λ f=>vbin .gtr f (.int .i64 0) λ f=>vcond f (yI (e 5) (.int .i64 0) 1 g λ f=>yL f 1 false g λ f=>au PP (.mZ (.c (e 5)) (some (.c (.int .i64 1))) none none 1) g λ e=>0=0/\aD [a,b] [a,b]/\∃a,d a [c,f,e] g) (ag PP bu [c] g λ a d=>ag PP br [a] d λ a d=>ab PP (.bld [.nil,.nil] [(0,1,(.c a))]) d λ a d=>ab PP (.alloc (.agg [.nil,.nil])) d λ d e=>xS d a 2 e λ a e=>∃(a:HJq),( ∀(c:Nat->D) (e:Heap),a [] e->xL d 2 true e λ a c=>xS b a 2 c λ a c=>xL b 2 true c λ a b=>K a c)/\xF d 0 e λ e f=>xL e 1 false f λ e f=>aM e f λ g=>gz f g e d c b a))/\ab PP (.look (.int .i64) (.c c) (.c (.int .i64 0)) .nil false) e λ d e=>ab PP (.nilq false (.c d)) e λ d e=>vcond d (xL a 8 true e λ d e=>ag PP kN [d,(.int .i64 0)] e λ d e=>ab PP (.ext (.c d) 0) e λ e g=>ab PP (.ext (.c d) 1) g λ d g=>ag PP aX [e] g λ e g=>ag PP br [e] g λ e g=>ab PP (.mupd (.int .i64) (.c c) (.c (.int .i64 0)) (.c e)) g λ e g=>ag PP aX [d] g λ d e=>ag PP br [d] e λ d e=>ab PP (.app (.c .nil) (.c d) 1 8 (.int .i64 0)) e λ d e=>aD [a,b,c] [a,b,c]/\f [d] e) (aD [a,b,c] [a,b,c]/\f [.nil] e))/\∀(c:Nat) (e:Nat->D) (f:Heap),d c [e 3,e 4,e 5] f->∃(g:HJq),( ∀(f:Nat->D) (h:Heap),g [f 5] h->aM (f 5) h λ g=>vbin .gtr g (.int .i64 0) λ g=>vcond g (yI (f 5) (.int .i64 0) 1 h λ g=>yL g 1 false h λ g=>au PP (.mZ (.c (f 5)) (some (.c (.int .i64 1))) none none 1) h λ f=>0=0/\aD [a,b] [a,b]/\∃a,a<c/\d a [(e 3),g,f] h) (ag PP bu [(e 3)] h λ a c=>ag PP br [a] c λ a c=>ab PP (.bld [.nil,.nil] [(0,1,(.c a))]) c λ a c=>ab PP (.alloc (.agg [.nil,.nil])) c λ c d=>xS c a 2 d λ a d=>∃(a:HJq),( ∀(d:Nat->D) (e:Heap),a [] e->xL c 2 true e λ a c=>xS b a 2 c λ a c=>xL b 2 true c λ a b=>K a c)/\xF c 0 d λ d f=>xL d 1 false f λ d f=>aM d f λ g=>uU f g d c e b a))/\ab PP (.look (.int .i64) (.c (e 3)) (.c (e 4)) .nil false) f λ c d=>ab PP (.nilq false (.c c)) d λ c d=>vcond c (xL a 8 true d λ c d=>ag PP kN [c,(e 4)] d λ c d=>ab PP (.ext (.c c) 0) d λ d f=>ab PP (.ext (.c c) 1) f λ c f=>ag PP aX [d] f λ d f=>ag PP br [d] f λ d f=>ab PP (.mupd (.int .i64) (.c (e 3)) (.c (e 4)) (.c d)) f λ d f=>ag PP aX [c] f λ c d=>ag PP br [c] d λ c d=>ab PP (.app (.c (e 5)) (.c c) 1 8 (.int .i64 0)) d λ c d=>aD [a,b,(e 3)] [a,b,(e 3)]/\g [c] d) (aD [a,b,(e 3)] [a,b,(e 3)]/\g [(e 5)] d)
theorem HP (a0:D) (h0:Heap) (K:HKq):DN a0 h0 K=dt EC K [a0] h0:=by kernel_rfl
def E6:TLq
 | 1000009=>some ([1,2],[3])|4=>some ([1,2,4],[3,5])|1000006=>some ([1,2,4,5],[3])|1000014=>some ([2,6],[])|10=>some ([1,2,3,6],[7])|_=>none
def IN:TTq
 | 12=>some ([0,1,0,0,0,24,56,124,252,511,1023,2047],[9,11],[])|_=>none
noncomputable abbrev DW:=cFn PP true tM E6 (cDr PP 62 IN)
noncomputable def Ej:aN:=⟨62,aU DW,[.cell 2 2 true]⟩
theorem HX:DW=some Ej:=by kernel_rfl
def uM (a:Heap) (b:Nat->D) (c d e:D) (f:HJq):Prop :=
 ∃(g:Nat->HJq) (h:Nat),g h [(.int .i64 0)] a/\∀(a:Nat) (h:Nat->D) (i:Heap),g a [h 7] i->aM (b 3) i λ j=>vbin .lss (h 7) j λ j=>vcond j (yF c 1 i λ f=>yL f 1 false i λ f=>yL d 8 true i λ j=>yI (b 3) (h 7) 1 i λ k=>yL k 1 false i λ k=>au PP (.call tL [(.c j),(.c k)]) i λ j=>au PP (.bldS false 1 1 .nil [(0,(.c j))]) i λ j=>yF c 1 i λ k=>ab PP (.app (.c f) (.c j) 1 24 .nil) i λ f i=>xS k f 1 i λ f i=>vbin .add (h 7) (.int .i64 1) λ f=>aD [d,e,(b 3),c] [d,e,(b 3),c]/\∃b,b<a/\g b [f] i) (aD [e,c] [e,c]/\f [] i)
def uL (a:D) (b:Heap) (c d e:D) (f:HJq):Prop :=
 ∃(g:Nat->HJq) (h:Nat),g h [a,(.int .i64 0)] b/\∀(a:Nat) (b:Nat->D) (h:Heap),g a [b 3,b 5] h->xF c 7 h λ h i=>xL h 1 false i λ h i=>aM h i λ h=>vbin .lss (b 5) h λ h=>vcond h ( ∃(f:HJq),( ∀(h:Nat->D) (i:Heap),f [h 3] i->vbin .add (b 5) (.int .i64 1) λ b=>aD [c,d,e] [c,d,e]/\∃c,c<a/\g c [(h 3),b] i)/\xI e (b 5) 1 i λ a g=>xL a 1 false g λ a g=>vguard a true (λ a=>xF c 7 g λ b c=>a b c) g λ g h=>vguard a true (λ a=>xL g 1 false h λ b c=>a b c) h λ g h=>vguard a true (λ a=>a (b 5) h) h λ h i=>vguard a true (λ a=>xI g h 14 i λ b c=>a b c) i λ g h=>vguard a true (λ a=>xF g 1 h λ b c=>a b c) h λ g h=>vguard a true (λ a=>xF g 0 h λ b c=>a b c) h λ g h=>vguard a true (λ a=>xL g 1 false h λ b c=>a b c) h λ g h=>vguard a true (λ a=>vbin .eql g (.int .i64 3) λ b=>a b h) h λ g h=>xP a g (.bool false) h λ a g=>vcond a (xF c 7 g λ a g=>xL a 1 false g λ a g=>xI a (b 5) 14 g λ a g=>xF a 1 g λ a g=>xF a 11 g λ a g=>xJ a (.int .i64 0) 2 1 g λ a g=>xL a 1 false g λ a g=>ag PP gH [(b 3),a] g λ a g=>aD [c,d,e,(b 5)] [c,d,e,(b 5)]/\f [a] g) (aD [c,d,e,(b 5)] [c,d,e,(b 5)]/\f [(b 3)] g)) (aD [c,d] [c,d]/\f [(b 3)] i)
def Dw (a:D) (b:Heap) (K:HKq):Prop :=
 xB a b λ a b=>ab PP (.alloc (.agg [.nil,.nil])) b λ b c=>ab PP (.bldS true 1 1 (.int .i64 0) [(0,(.c (.int .i64 0)))]) c λ c d=>xL a 8 true d λ d e=>ag PP fo [d] e λ d e=>∃(f:HJq),( ∀(c:Nat->D) (d:Heap),f [c 3] d->ab PP (.bld [.nil,.nil] [(0,1,(.c (c 3)))]) d λ d e=>ab PP (.alloc (.agg [.nil,.nil])) e λ e f=>xS e d 2 f λ d f=>∃(d:HJq),( ∀(a:Nat->D) (c:Heap),d [] c->xL e 2 true c λ a c=>xS b a 2 c λ a c=>xL b 2 true c λ a b=>K a c)/\uM f c e a b d)/\uL c e a b d f
theorem HD (a0:D) (h0:Heap) (K:HKq):Dw a0 h0 K=dt Ej K [a0] h0:=by kernel_rfl
end Go.Am
namespace Go.Am
open Go Go.Proofs
def E9:TLq
 | 1000020=>some ([2,3],[])|5=>some ([1,2,3,4,5],[6])|1000014=>some ([1,2,3,4,5],[6])|8=>some ([1,2,3,4,5],[6,7])|1000010=>some ([1,2,3,4,5,7],[6])|14=>some ([1,2,3,4,5],[6,8])|1000016=>some ([1,2,3,4,5,8],[6])|_=>none
def IS:TTq
 | _=>none
noncomputable abbrev DZ:=cFn PP true gg E9 (cDr PP 66 IS)
noncomputable def Eo:aN:=⟨66,aU DZ,[.cell 2 2 true]⟩
theorem H0:DZ=some Eo:=by kernel_rfl
def nI (a:Nat->D) (b:Heap) (c d e f g:D) (h:Nat) (i:Nat->HJq):Prop :=
 ∃(j:Nat->HJq) (k:Nat),j k [(a 6),(.int .i64 0)] b/\∀(a:Nat) (b:Nat->D) (k:Heap),j a [b 6,b 8] k->xF c 1 k λ k l=>xL k 1 false l λ k l=>aM k l λ k=>vbin .lss (b 8) k λ k=>vcond k ( ∃(h:HJq),( ∀(i:Nat->D) (k:Heap),h [i 6] k->vbin .add (b 8) (.int .i64 1) λ b=>aD [d,e,c,f,g] [d,e,c,f,g]/\∃c,c<a/\j c [(i 6),b] k)/\xF c 1 l λ a i=>xL a 1 false i λ a i=>xI a (b 8) 1 i λ a i=>xL a 1 false i λ a i=>vguard a true (λ a=>xL d 8 true i λ b c=>a b c) i λ i j=>vguard a true (λ a=>a f j) j λ j k=>vguard a true (λ a=>xL c 2 true k λ b c=>a b c) k λ k l=>vguard a true (λ a=>a (b 8) l) l λ l m=>vguard a true (λ a=>ag PP dH [i,j,k,l] m λ b c=>a b c) m λ i j=>vguard a true (λ a=>vun .not i λ b=>a b j) j λ i j=>xP a i (.bool false) j λ a i=>vcond a (xF c 1 i λ a i=>xL a 1 false i λ a i=>xI a (b 8) 1 i λ a i=>xS a (.bool false) 1 i λ a i=>aD [d,e,c,f,g,(b 8)] [d,e,c,f,g,(b 8)]/\h [(.bool true)] i) (aD [d,e,c,f,g,(b 8)] [d,e,c,f,g,(b 8)]/\h [(b 6)] i)) (aD [d,e,c,f,g] [d,e,c,f,g]/\∃a,a<h/\i a [(b 6)] l)
def nH (a:Heap) (b c d e f:D) (g:HJq):Prop :=
 ∃(h:Nat->HJq) (i:Nat),h i [(.bool false),(.int .i64 0)] a/\∀(a:Nat) (i:Nat->D) (j:Heap),h a [i 6,i 7] j->xF b 0 j λ j k=>xL j 1 false k λ j k=>aM j k λ j=>vbin .lss (i 7) j λ j=>vcond j ( ∃(g:HJq),( ∀(j:Nat->D) (k:Heap),g [j 6] k->vbin .add (i 7) (.int .i64 1) λ g=>aD [c,d,b,e,f] [c,d,b,e,f]/\∃b,b<a/\h b [(j 6),g] k)/\xF b 0 k λ a h=>xL a 1 false h λ a h=>xI a (i 7) 1 h λ a h=>xL a 1 false h λ a h=>vguard a true (λ a=>xL c 8 true h λ b c=>a b c) h λ h j=>vguard a true (λ a=>a e j) j λ j k=>vguard a true (λ a=>a f k) k λ k l=>vguard a true (λ a=>xL b 2 true l λ b c=>a b c) l λ l m=>vguard a true (λ a=>a (i 7) m) m λ m n=>vguard a true (λ a=>ag PP jq [h,j,k,l,m] n λ b c=>a b c) n λ h j=>vguard a true (λ a=>vun .not h λ b=>a b j) j λ h j=>xP a h (.bool false) j λ a h=>vcond a (xF b 0 h λ a h=>xL a 1 false h λ a h=>xI a (i 7) 1 h λ a h=>xS a (.bool false) 1 h λ a h=>aD [c,d,b,e,f,(i 7)] [c,d,b,e,f,(i 7)]/\g [(.bool true)] h) (aD [c,d,b,e,f,(i 7)] [c,d,b,e,f,(i 7)]/\g [(i 6)] h)) (aD [c,d,b,e,f] [c,d,b,e,f]/\g [(i 6)] k)
def nG (a:Heap) (b c d e f:D) (g:HJq):Prop :=
 ∃(h:Nat->HJq) (i:Nat),h i [(.bool true)] a/\∀(a:Nat) (i:Nat->D) (j:Heap),h a [i 6] j->vcond (i 6) ( ∃(g:HJq),( ∀(i:Nat->D) (j:Heap),g [i 6] j->nI i j b c d e f a h)/\nH j b c d e f g) (aD [d,b] [d,b]/\g [] j)
def DB (a:D) (b:Heap) (K:HKq):Prop :=
 xB a b λ a b=>ab PP (.alloc (.agg [.nil,.nil])) b λ b c=>xL a 8 true c λ c d=>ag PP gZ [c,(.bool true)] d λ c d=>ab PP (.alloc (.agg [.nil,.nil])) d λ d e=>xS d c 2 e λ c e=>xL a 8 true e λ c e=>ag PP fo [c] e λ c e=>xL a 8 true e λ e f=>ag PP gq [e] f λ e f=>∃(g:HJq),( ∀(a:Nat->D) (c:Heap),g [] c->xL d 2 true c λ a c=>xS b a 2 c λ a c=>xL b 2 true c λ a b=>K a c)/\nG f d a b c e g
theorem HG (a0:D) (h0:Heap) (K:HKq):DB a0 h0 K=dt Eo K [a0] h0:=by kernel_rfl
def E8:TLq
 | 1000010=>some ([1,2,4,5,7],[6])|5=>some ([1,2,4,5,7],[6,8])|1000015=>some ([2,4,5,7],[])|10=>some ([1,2,4,5,7],[6,9])|1000031=>some ([4,5],[])|16=>some ([2,4,5,10,11],[7])|1000025=>some ([2,4,5,10,11],[7])|19=>some ([2,4,5,10,11],[7,12])|1000021=>some ([2,4,5,10,11,12],[7])|25=>some ([2,4,5,10,11],[7,13])|1000027=>some ([2,4,5,10,11,13],[7])|_=>none
def IQ:TTq
 | 7=>some ([0,1,0,0,8,0,56,120,248,504,504,504,2552,7672,16376,32760,65528,131064,262136,524287,1048575],[20],[])|12=>some ([0,1,0,0,8,0,56,120,248,504,504,504,2552,7672,16376,32760,65528,131064,262136,524287,1048575],[20],[])|_=>none
noncomputable abbrev DY:=cFn PP true oK E8 (cDr PP 142 IQ)
noncomputable def En:aN:=⟨142,aU DY,[.cell 4 2 true]⟩
theorem HZ:DY=some En:=by kernel_rfl
def nF (a:Nat->D) (b:Heap) (c d e f g:D) (h:Nat) (i:Nat->HJq):Prop :=
 ∃(j:Nat->HJq) (k:Nat),j k [(a 7),(.int .i64 0)] b/\∀(a:Nat) (b:Nat->D) (k:Heap),j a [b 7,b 13] k->xF c 1 k λ k l=>xL k 1 false l λ k l=>aM k l λ k=>vbin .lss (b 13) k λ k=>vcond k ( ∃(h:HJq),( ∀(i:Nat->D) (k:Heap),h [i 7] k->vbin .add (b 13) (.int .i64 1) λ b=>aD [d,e,c,f,g] [d,e,c,f,g]/\∃c,c<a/\j c [(i 7),b] k)/\xF c 1 l λ a i=>xL a 1 false i λ a i=>xI a (b 13) 1 i λ a i=>xL a 1 false i λ a i=>vguard a true (λ a=>xL d 8 true i λ b c=>a b c) i λ i j=>vguard a true (λ a=>a f j) j λ j k=>vguard a true (λ a=>xL c 2 true k λ b c=>a b c) k λ k l=>vguard a true (λ a=>a (b 13) l) l λ l m=>vguard a true (λ a=>ag PP dH [i,j,k,l] m λ b c=>a b c) m λ i j=>vguard a true (λ a=>vun .not i λ b=>a b j) j λ i j=>xP a i (.bool false) j λ a i=>vcond a (xF c 1 i λ a i=>xL a 1 false i λ a i=>xI a (b 13) 1 i λ a i=>xS a (.bool false) 1 i λ a i=>aD [d,e,c,f,g,(b 13)] [d,e,c,f,g,(b 13)]/\h [(.bool true)] i) (aD [d,e,c,f,g,(b 13)] [d,e,c,f,g,(b 13)]/\h [(b 7)] i)) (aD [d,e,c,f,g] [d,e,c,f,g]/\∃a,a<h/\i a [(b 7)] l)
def nC (a:Heap) (b c d e f:D) (g:HJq):Prop :=
 ∃(h:Nat->HJq) (i:Nat),h i [(.bool false),(.int .i64 0)] a/\∀(a:Nat) (i:Nat->D) (j:Heap),h a [i 7,i 12] j->xF b 0 j λ j k=>xL j 1 false k λ j k=>aM j k λ j=>vbin .lss (i 12) j λ j=>vcond j ( ∃(g:HJq),( ∀(j:Nat->D) (k:Heap),g [j 7] k->vbin .add (i 12) (.int .i64 1) λ g=>aD [c,d,b,e,f] [c,d,b,e,f]/\∃b,b<a/\h b [(j 7),g] k)/\xF b 0 k λ a h=>xL a 1 false h λ a h=>xI a (i 12) 1 h λ a h=>xL a 1 false h λ a h=>vguard a true (λ a=>xL c 8 true h λ b c=>a b c) h λ h j=>vguard a true (λ a=>a e j) j λ j k=>vguard a true (λ a=>a f k) k λ k l=>vguard a true (λ a=>xL b 2 true l λ b c=>a b c) l λ l m=>vguard a true (λ a=>a (i 12) m) m λ m n=>vguard a true (λ a=>ag PP jq [h,j,k,l,m] n λ b c=>a b c) n λ h j=>vguard a true (λ a=>vun .not h λ b=>a b j) j λ h j=>xP a h (.bool false) j λ a h=>vcond a (xF b 0 h λ a h=>xL a 1 false h λ a h=>xI a (i 12) 1 h λ a h=>xS a (.bool false) 1 h λ a h=>aD [c,d,b,e,f,(i 12)] [c,d,b,e,f,(i 12)]/\g [(.bool true)] h) (aD [c,d,b,e,f,(i 12)] [c,d,b,e,f,(i 12)]/\g [(i 7)] h)) (aD [c,d,b,e,f] [c,d,b,e,f]/\g [(i 7)] k)
def ny (a:D) (b:Heap) (c d e f g:D) (h:HJq):Prop :=
 ∃(i:Nat->HJq) (j:Nat),i j [a] b/\∀(a:Nat) (b:Nat->D) (j:Heap),i a [b 7] j->vcond (b 7) ( ∃(b:HJq),( ∀(h:Nat->D) (j:Heap),b [h 7] j->nF h j c d e f g a i)/\nC j c d e f g b) (aD [e,c] [e,c]/\h [] j)
def nw (a:Nat->D) (b:Heap) (c d e f g:D) (h:HJq):Prop :=
 ∃(i:Nat->HJq) (j:Nat),i j [(a 6),(.int .i64 0)] b/\∀(a:Nat) (b:Nat->D) (j:Heap),i a [b 6,b 9] j->xF c 1 j λ j k=>xL j 1 false k λ j k=>aM j k λ j=>vbin .lss (b 9) j λ j=>vguard j true (λ a=>a d k) k λ k l=>vguard j true (λ a=>aM k l λ b=>a b l) l λ k l=>vguard j true (λ a=>vbin .gtr k (.int .i64 0) λ b=>a b l) l λ k l=>xP j k (.bool false) l λ j k=>vcond j (yF c 1 k λ h=>yL h 1 false k λ h=>yF c 1 k λ j=>yL j 1 false k λ j=>yI j (b 9) 1 k λ j=>yL j 1 false k λ j=>ai j true (λ a=>a d) λ l=>ai j true (λ a=>a (b 6)) λ m=>ai j true (λ a=>a d) λ n=>ai j true (λ a=>aM n k λ b=>a b) λ n=>ai j true (λ a=>vbin .rem m n λ b=>a b) λ m=>ai j true (λ a=>yI l m 1 k λ b=>a b) λ l=>ai j true (λ a=>yL l 1 false k λ b=>a b) λ l=>ai j true (λ a=>vbin .rem l (.int .u8 4) λ b=>a b) λ l=>ai j true (λ a=>vbin .neq l (.int .u8 0) λ b=>a b) λ l=>yP j l (.bool false) k λ j=>yI h (b 9) 1 k λ h=>xS h j 1 k λ h j=>vbin .add (b 6) (.int .i64 1) λ h=>vbin .add (b 9) (.int .i64 1) λ b=>aD [d,e,f,c,g] [d,e,f,c,g]/\∃c,c<a/\i c [h,b] j) (aD [e,f,c,g] [e,f,c,g]/\h [] k)
def nv (a:Heap) (b c d e f:D) (g:HJq):Prop :=
 ∃(h:Nat->HJq) (i:Nat),h i [(.int .i64 0),(.int .i64 0)] a/\∀(a:Nat) (i:Nat->D) (j:Heap),h a [i 6,i 8] j->xF b 0 j λ j k=>xL j 1 false k λ j k=>aM j k λ j=>vbin .lss (i 8) j λ j=>vguard j true (λ a=>a c k) k λ k l=>vguard j true (λ a=>aM k l λ b=>a b l) l λ k l=>vguard j true (λ a=>vbin .gtr k (.int .i64 0) λ b=>a b l) l λ k l=>xP j k (.bool false) l λ j k=>vcond j (yF b 0 k λ g=>yL g 1 false k λ g=>yF b 0 k λ j=>yL j 1 false k λ j=>yI j (i 8) 1 k λ j=>yL j 1 false k λ j=>ai j true (λ a=>a c) λ l=>ai j true (λ a=>a (i 6)) λ m=>ai j true (λ a=>a c) λ n=>ai j true (λ a=>aM n k λ b=>a b) λ n=>ai j true (λ a=>vbin .rem m n λ b=>a b) λ m=>ai j true (λ a=>yI l m 1 k λ b=>a b) λ l=>ai j true (λ a=>yL l 1 false k λ b=>a b) λ l=>ai j true (λ a=>vbin .rem l (.int .u8 4) λ b=>a b) λ l=>ai j true (λ a=>vbin .neq l (.int .u8 0) λ b=>a b) λ l=>yP j l (.bool false) k λ j=>yI g (i 8) 1 k λ g=>xS g j 1 k λ g j=>vbin .add (i 6) (.int .i64 1) λ g=>vbin .add (i 8) (.int .i64 1) λ i=>aD [c,d,e,b,f] [c,d,e,b,f]/\∃b,b<a/\h b [g,i] j) (aD [c,d,e,b,f] [c,d,e,b,f]/\g [(i 6)] k)
def DA (a b:D) (c:Heap) (K:HKq):Prop :=
 xB a c λ a c=>ab PP (.alloc (.agg [.nil,.nil])) c λ c d=>xL a 8 true d λ d e=>ag PP gg [d] e λ d e=>ab PP (.alloc (.agg [.nil,.nil])) e λ e f=>xS e d 2 f λ d f=>aM b f λ d=>vbin .gtr d (.int .i64 0) λ d=>∃(g:HJq),( ∀(f:Nat->D) (h:Heap),g [f 6] h->∃(g:HJq),( ∀(b:Nat->D) (f:Heap),g [] f->xL a 8 true f λ b f=>ag PP fo [b] f λ b f=>xL a 8 true f λ f g=>ag PP gq [f] g λ f g=>∃(h:HJq),( ∀(a:Nat->D) (b:Heap),h [] b->xL e 2 true b λ a b=>xS c a 2 b λ a b=>xL c 2 true b λ a c=>K a b)/\ny d g e a c b f h)/\nw f h e b a c d g)/\nv f e b a c d g
theorem HF (a0:D) (a1:D) (h0:Heap) (K:HKq):DA a0 a1 h0 K=dt En K [a0,a1] h0:=by kernel_rfl
def E4:TLq
 | 1000009=>some ([],[])|4=>some ([2,3],[5])|_=>none
def IL:TTq
 | 6=>some ([0,1,0,7,15,0,32,0,224,480,1023,2047],[],[])|_=>none
noncomputable abbrev DU:=cFn PP true iC E4 (cDr PP 40 IL)
noncomputable def Eh:aN:=⟨40,aU DU,[.t 4]⟩
theorem HV:DU=some Eh:=by kernel_rfl
def uH (a:Heap) (b c:D) (d:HJq) (K:HKq):Prop :=
 ∃(e:Nat->HJq) (f:Nat),e f [(.int .i64 0)] a/\∀(a:Nat) (f:Nat->D) (g:Heap),e a [f 5] g->xF b 1 g λ g h=>xL g 1 false h λ g h=>aM g h λ g=>vbin .lss (f 5) g λ g=>vcond g (yF b 1 h λ d=>yL d 1 false h λ d=>yI d (f 5) 1 h λ d=>yL d 1 false h λ d=>yF c 1 h λ g=>yL g 1 false h λ g=>yI g (f 5) 1 h λ g=>yL g 1 false h λ g=>au PP (.call iD [(.c d),(.c g)]) h λ d=>vun .not d λ d=>vcond d (K (.bool false) h) (vbin .add (f 5) (.int .i64 1) λ d=>aD [b,c] [b,c]/\∃b,b<a/\e b [d] h)) (aD [] []/\d [] h)
def Du (a b:D) (c:Heap) (K:HKq):Prop :=
 xB a c λ a c=>xB b c λ b c=>xF a 0 c λ c d=>xL c 1 false d λ c d=>xF b 0 d λ d e=>xL d 1 false e λ d e=>ag PP iD [c,d] e λ c d=>vun .not c λ c=>vguard c false (λ b=>xF a 1 d λ a c=>b a c) d λ d e=>vguard c false (λ a=>xL d 1 false e λ b c=>a b c) e λ d e=>vguard c false (λ a=>aM d e λ b=>a b e) e λ d e=>vguard c false (λ a=>xF b 1 e λ b c=>a b c) e λ e f=>vguard c false (λ a=>xL e 1 false f λ b c=>a b c) f λ e f=>vguard c false (λ a=>aM e f λ b=>a b f) f λ e f=>vguard c false (λ a=>vbin .neq d e λ b=>a b f) f λ d e=>xP c (.bool true) d e λ c d=>vcond c (K (.bool false) d) ( ∃(c:HJq),( ∀(a:Nat->D) (b:Heap),c [] b->K (.bool true) b)/\uH d a b c K)
theorem HB (a0:D) (a1:D) (h0:Heap) (K:HKq):Du a0 a1 h0 K=dt Eh K [a0,a1] h0:=by kernel_rfl
def CQ:TLq
 | 1000024=>some ([],[])|4=>some ([2,3,29,30],[31])|1000023=>some ([2,3,29,30,31],[])|9=>some ([2,3,6,29,30,31,45,46],[47])|1000022=>some ([2,3,6,29,30,31,45,46,47],[])|1000015=>some ([2,3,6,8,29,30,31,45,46,47],[9])|15=>some ([2,3,6,9,29,30,31,45,46,47,68,69],[70])|_=>none
def Hi:TTq
 | 6=>some ([0,0,0,4,0,28,60,127,255],[],[])|_=>none
noncomputable abbrev As:=cFn PP true bZ CQ (cDr PP 85 Hi)
noncomputable def AJ:aN:=⟨85,aU As,[.t 4]⟩
theorem Gd:As=some AJ:=by kernel_rfl
def sX (a:Heap) (b c:D) (d:Nat->D) (e f g h i:D) (j:Nat->D) (k:D) (l:Nat->D) (m:HJq) (K:HKq):Prop :=
 ∃(n:Nat->HJq) (o:Nat),n o [(.int .i64 0)] a/\∀(a:Nat) (o:Nat->D) (p:Heap),n a [o 70] p->vbin .lss (o 70) b λ q=>vcond q (xI c (o 70) 1 p λ m p=>xL m 1 false p λ m p=>ag PP cU [(d 9),m] p λ m p=>ab PP (.ext (.c m) 0) p λ p q=>ab PP (.ext (.c m) 1) q λ m p=>vun .not m λ m=>vcond m (K (.int .i64 100) p) (vbin .add (o 70) (.int .i64 1) λ m=>aD [e,f,g,(d 9),h,i,(j 31),g,k,(l 47),c,b] [e,f,g,(d 9),h,i,(j 31),g,k,(l 47),c,b]/\∃b,b<a/\n b [m] p)) (aD [e,f,g,h,i,(j 31),g,k,(l 47)] [e,f,g,h,i,(j 31),g,k,(l 47)]/\m [] p)
def sW (a:Heap) (b c d e f g:D) (h:Nat->D) (i:HJq) (K:HKq):Prop :=
 ∃(j:Nat->HJq) (k:Nat),j k [(.int .i64 0)] a/\∀(a:Nat) (k:Nat->D) (l:Heap),j a [k 47] l->vbin .lss (k 47) b λ m=>vcond m ( ∃(i:HJq),( ∀(l:Nat->D) (m:Heap),i [] m->vbin .add (k 47) (.int .i64 1) λ i=>aD [c,d,e,f,g,(h 31),e,b] [c,d,e,f,g,(h 31),e,b]/\∃b,b<a/\j b [i] m)/\xI e (k 47) 1 l λ a j=>xL a 1 false j λ a j=>∃(l:HJq),( ∀(j:Nat->D) (m:Heap),l [j 9] m->xF c 7 m λ l m=>xL l 1 false m λ l m=>xI l a 14 m λ a l=>xF a 1 l λ a l=>xL a 13 true l λ a l=>ag PP g9 [a] l λ a l=>aM a l λ m=>sX l m a j c d e f g h b k i K)/\xF c 7 j λ i j=>xL i 1 false j λ i j=>xI i a 14 j λ i j=>xF i 1 j λ i j=>xF i 0 j λ i j=>xL i 1 false j λ i j=>vbin .eql i (.int .i64 3) λ i=>vcond i (xF d 0 j λ i j=>xL i 1 false j λ i j=>aD [c,d,e,a,f,g,(h 31),e,b,(k 47)] [c,d,e,a,f,g,(h 31),e,b,(k 47)]/\l [i] j) (aD [c,d,e,a,f,g,(h 31),e,b,(k 47)] [c,d,e,a,f,g,(h 31),e,b,(k 47)]/\l [e] j)) (aD [c,d,f,g,(h 31)] [c,d,f,g,(h 31)]/\i [] l)
def sV (a:Heap) (b c d e:D) (f:HJq) (K:HKq):Prop :=
 ∃(g:Nat->HJq) (h:Nat),g h [(.int .i64 0)] a/\∀(a:Nat) (h:Nat->D) (i:Heap),g a [h 31] i->vbin .lss (h 31) b λ j=>vcond j ( ∃(f:HJq),( ∀(i:Nat->D) (j:Heap),f [] j->vbin .add (h 31) (.int .i64 1) λ f=>aD [c,d,e,b] [c,d,e,b]/\∃b,b<a/\g b [f] j)/\xI e (h 31) 1 i λ a g=>xL a 1 false g λ a g=>yL c 8 true g λ i=>yF d 0 g λ j=>yL j 1 false g λ j=>yI j (h 31) 1 g λ j=>yL j 1 false g λ j=>au PP (.call kM [(.c i),(.c a),(.c j)]) g λ i=>vun .not i λ i=>vcond i (K (.int .i64 100) g) (aM a g λ i=>sW g i c d a e b h f K)) (aD [] []/\f [] i)
def Ab (a b:D) (c:Heap) (K:HKq):Prop :=
 xB a c λ a c=>xB b c λ b c=>xL a 8 true c λ c d=>xF b 0 d λ d e=>xL d 1 false e λ d e=>ag PP kM [c,d,(.int .i64 0)] e λ c d=>vun .not c λ c=>vguard c false (λ a=>xF b 1 d λ b c=>a b c) d λ d e=>vguard c false (λ a=>xL d 1 false e λ b c=>a b c) e λ d e=>vguard c false (λ a=>aM d e λ b=>a b e) e λ d e=>vguard c false (λ a=>xF b 0 e λ b c=>a b c) e λ e f=>vguard c false (λ a=>xL e 1 false f λ b c=>a b c) f λ e f=>vguard c false (λ a=>aM e f λ b=>a b f) f λ e f=>vguard c false (λ a=>vbin .neq d e λ b=>a b f) f λ d e=>xP c (.bool true) d e λ c d=>vcond c (K (.int .i64 100) d) ( ∃(c:HJq),( ∀(a:Nat->D) (b:Heap),c [] b->K (.int .i64 0) b)/\xF b 1 d λ d e=>xL d 1 false e λ d e=>aM d e λ f=>sV e f a b d c K)
theorem FT (a0:D) (a1:D) (h0:Heap) (K:HKq):Ab a0 a1 h0 K=dt AJ K [a0,a1] h0:=by kernel_rfl
def CC:TLq
 | 1000009=>some ([],[])|4=>some ([2,3],[5])|_=>none
def G6:TTq
 | 6=>some ([0,0,2,0,14,30,63,127,255,511,1023,511,4095,8191,511,16895,511,115199,246271,524287,1048575,2097151,4194303,8388607,8388607,25165823,8388607,125829119,260046847,8388607,545259519,2147483647,4294967295,8589934591],[],[])|_=>none
noncomputable abbrev Ag:=cFn PP true jo CC (cDr PP 67 G6)
noncomputable def Ax:aN:=⟨67,aU Ag,[.t 4]⟩
theorem F3:Ag=some Ax:=by kernel_rfl
def sH (a:Heap) (b c:D) (d:HJq) (K:HKq):Prop :=
 ∃(e:Nat->HJq) (f:Nat),e f [(.int .i64 0)] a/\∀(a:Nat) (f:Nat->D) (g:Heap),e a [f 5] g->xF b 0 g λ g h=>xL g 1 false h λ g h=>aM g h λ g=>vbin .lss (f 5) g λ g=>vcond g (yL c 8 true h λ d=>yF b 1 h λ g=>yL g 1 false h λ g=>yI g (f 5) 1 h λ g=>yL g 1 false h λ g=>au PP (.call kI [(.c d),(.c g)]) h λ d=>vun .not d λ d=>ai d false (λ a=>yF b 1 h λ b=>a b) λ g=>ai d false (λ a=>yL g 1 false h λ b=>a b) λ g=>ai d false (λ a=>a (f 5)) λ i=>ai d false (λ a=>yI g i 1 h λ b=>a b) λ g=>ai d false (λ a=>yL g 1 false h λ b=>a b) λ g=>ai d false (λ a=>yF b 0 h λ b=>a b) λ i=>ai d false (λ a=>yL i 1 false h λ b=>a b) λ i=>ai d false (λ a=>a (f 5)) λ j=>ai d false (λ a=>yI i j 1 h λ b=>a b) λ i=>ai d false (λ a=>yL i 1 false h λ b=>a b) λ i=>ai d false (λ a=>au PP (.call cJ [(.c g),(.c i)]) h λ b=>a b) λ g=>ai d false (λ a=>vun .not g λ b=>a b) λ g=>yP d (.bool true) g h λ d=>ai d false (λ a=>yL c 8 true h λ b=>a b) λ g=>ai d false (λ a=>yF b 1 h λ b=>a b) λ i=>ai d false (λ a=>yL i 1 false h λ b=>a b) λ i=>ai d false (λ a=>a (f 5)) λ j=>ai d false (λ a=>yI i j 1 h λ b=>a b) λ i=>ai d false (λ a=>yL i 1 false h λ b=>a b) λ i=>ai d false (λ a=>yF b 0 h λ b=>a b) λ j=>ai d false (λ a=>yL j 1 false h λ b=>a b) λ j=>ai d false (λ a=>au PP (.call pe [(.c g),(.c i),(.c j)]) h λ b=>a b) λ g=>ai d false (λ a=>vun .not g λ b=>a b) λ g=>yP d (.bool true) g h λ d=>vcond d (K (.int .i64 100) h) (vbin .add (f 5) (.int .i64 1) λ d=>aD [c,b] [c,b]/\∃b,b<a/\e b [d] h)) (aD [] []/\d [] h)
def zS (a b:D) (c:Heap) (K:HKq):Prop :=
 xB a c λ a c=>xB b c λ b c=>xL a 8 true c λ c d=>xF b 0 d λ d e=>xL d 1 false e λ d e=>ag PP kI [c,d] e λ c d=>vun .not c λ c=>vguard c false (λ a=>xF b 0 d λ b c=>a b c) d λ d e=>vguard c false (λ a=>xL d 1 false e λ b c=>a b c) e λ d e=>vguard c false (λ a=>ag PP cJ [d,(.int .i64 0)] e λ b c=>a b c) e λ d e=>vguard c false (λ a=>vun .not d λ b=>a b e) e λ d e=>xP c (.bool true) d e λ c d=>vguard c false (λ a=>xF b 1 d λ b c=>a b c) d λ d e=>vguard c false (λ a=>xL d 1 false e λ b c=>a b c) e λ d e=>vguard c false (λ a=>aM d e λ b=>a b e) e λ d e=>vguard c false (λ a=>xF b 0 e λ b c=>a b c) e λ e f=>vguard c false (λ a=>xL e 1 false f λ b c=>a b c) f λ e f=>vguard c false (λ a=>aM e f λ b=>a b f) f λ e f=>vguard c false (λ a=>vbin .neq d e λ b=>a b f) f λ d e=>xP c (.bool true) d e λ c d=>vcond c (K (.int .i64 100) d) ( ∃(c:HJq),( ∀(a:Nat->D) (b:Heap),c [] b->K (.int .i64 0) b)/\sH d b a c K)
theorem FG (a0:D) (a1:D) (h0:Heap) (K:HKq):zS a0 a1 h0 K=dt Ax K [a0,a1] h0:=by kernel_rfl
def CP:TLq
 | 1000012=>some ([],[])|5=>some ([2,3,16,17],[18])|_=>none
def Hh:TTq
 | _=>none
noncomputable abbrev Ar:=cFn PP true bY CP (cDr PP 45 Hh)
noncomputable def AI:aN:=⟨45,aU Ar,[.t 4]⟩
theorem Gc:Ar=some AI:=by kernel_rfl
def sU (a:Heap) (b c d e:D) (f:HJq) (K:HKq):Prop :=
 ∃(g:Nat->HJq) (h:Nat),g h [(.int .i64 0)] a/\∀(a:Nat) (h:Nat->D) (i:Heap),g a [h 18] i->vbin .lss (h 18) b λ j=>vcond j (xI c (h 18) 1 i λ f i=>xL f 1 false i λ f i=>ab PP (.bldS true 1 2 (.int .i64 0) [(0,(.c (.int .i64 3))),(1,(.c (.int .i64 4)))]) i λ i j=>xF d 7 j λ j k=>xL j 1 false k λ j k=>xI j (h 18) 14 k λ j k=>xF j 1 k λ j k=>xF j 0 k λ j k=>xL j 1 false k λ j k=>ag PP bn [i,j] k λ i j=>vguard f true (λ a=>a i j) j λ i j=>xP f i (.bool false) j λ f i=>vguard f true (λ a=>xF e 0 i λ b c=>a b c) i λ i j=>vguard f true (λ a=>xL i 1 false j λ b c=>a b c) j λ i j=>vguard f true (λ a=>a (h 18) j) j λ j k=>vguard f true (λ a=>xI i j 1 k λ b c=>a b c) k λ i j=>vguard f true (λ a=>xL i 1 false j λ b c=>a b c) j λ i j=>vguard f true (λ a=>vun .not i λ b=>a b j) j λ i j=>xP f i (.bool false) j λ f i=>vcond f (K (.int .i64 90) i) (vbin .add (h 18) (.int .i64 1) λ f=>aD [d,e,c,b] [d,e,c,b]/\∃b,b<a/\g b [f] i)) (aD [] []/\f [] i)
def Aa (a b:D) (c:Heap) (K:HKq):Prop :=
 xB a c λ a c=>xB b c λ b c=>xL a 8 true c λ c d=>xL b 2 true d λ d e=>ag PP m9 [c,d] e λ c d=>vbin .neq c (.int .i64 0) λ e=>vcond e (K c d) ( ∃(c:HJq),( ∀(a:Nat->D) (b:Heap),c [] b->K (.int .i64 0) b)/\xL a 8 true d λ d e=>ag PP kT [d] e λ d e=>aM d e λ f=>sU e f d a b c K)
theorem FR (a0:D) (a1:D) (h0:Heap) (K:HKq):Aa a0 a1 h0 K=dt AI K [a0,a1] h0:=by kernel_rfl
def CB:TLq
 | 1000012=>some ([],[])|6=>some ([2,3,6],[7])|_=>none
def G5:TTq
 | _=>none
noncomputable abbrev Af:=cFn PP true gG CB (cDr PP 51 G5)
noncomputable def Aw:aN:=⟨51,aU Af,[.t 4]⟩
theorem F0:Af=some Aw:=by kernel_rfl
def sG (a:Heap) (b c d:D) (e:HJq) (K:HKq):Prop :=
 ∃(f:Nat->HJq) (g:Nat),f g [(.int .i64 0)] a/\∀(a:Nat) (g:Nat->D) (h:Heap),f a [g 7] h->xF b 7 h λ h i=>xL h 1 false i λ h i=>aM h i λ h=>vbin .lss (g 7) h λ h=>vcond h (xF b 7 i λ e h=>xL e 1 false h λ e h=>xI e (g 7) 14 h λ e h=>xF e 1 h λ e h=>xF e 0 h λ e h=>xL e 1 false h λ e h=>xI c (g 7) 1 h λ h i=>xL h 1 false i λ h i=>vguard h true (λ a=>a e i) i λ i j=>vguard h true (λ a=>vbin .eql i (.int .i64 3) λ b=>a b j) j λ i j=>vguard h true (λ a=>a i j) j λ i j=>vguard i false (λ a=>a e j) j λ e j=>vguard i false (λ a=>vbin .eql e (.int .i64 4) λ b=>a b j) j λ e j=>vguard h true (λ a=>xP i (.bool true) e j λ b c=>a b c) j λ e i=>xP h e (.bool false) i λ e h=>vguard e true (λ a=>xF d 0 h λ b c=>a b c) h λ h i=>vguard e true (λ a=>xL h 1 false i λ b c=>a b c) i λ h i=>vguard e true (λ a=>a (g 7) i) i λ i j=>vguard e true (λ a=>xI h i 1 j λ b c=>a b c) j λ h i=>vguard e true (λ a=>xL h 1 false i λ b c=>a b c) i λ h i=>vguard e true (λ a=>vun .not h λ b=>a b i) i λ h i=>xP e h (.bool false) i λ e h=>vcond e (K (.int .i64 90) h) (vbin .add (g 7) (.int .i64 1) λ e=>aD [b,d,c] [b,d,c]/\∃b,b<a/\f b [e] h)) (aD [] []/\e [] i)
def zR (a b:D) (c:Heap) (K:HKq):Prop :=
 xB a c λ a c=>xB b c λ b c=>xL a 8 true c λ c d=>xL b 2 true d λ d e=>ag PP qY [c,d] e λ c d=>vbin .neq c (.int .i64 0) λ e=>vcond e (K c d) (xL a 8 true d λ c d=>ag PP fo [c] d λ c d=>∃(e:HJq),( ∀(a:Nat->D) (b:Heap),e [] b->K (.int .i64 0) b)/\sG d a c b e K)
theorem FF (a0:D) (a1:D) (h0:Heap) (K:HKq):zR a0 a1 h0 K=dt Aw K [a0,a1] h0:=by kernel_rfl
def Ho:TLq
 | 1000007=>some ([1,4,5],[])|3=>some ([1,4,5],[6])|1000011=>some ([4,5],[])|7=>some ([1,4,5],[7])|_=>none
def Kx:TTq
 | 1=>some ([0,1,3,7,0,16,48,127,0,511],[3,6,8,9],[999996,0,1,2])|_=>none
noncomputable abbrev GM:=cFn PP true gZ Ho (cDr PP 41 Kx)
noncomputable def GW:aN:=⟨41,aU GM,[.cell 4 2 true]⟩
theorem yq:GM=some GW:=by kernel_rfl
def pL (a:Heap) (b c d:D) (e:HJq):Prop :=
 ∃(f:Nat->HJq) (g:Nat),f g [(.int .i64 0)] a/\∀(a:Nat) (g:Nat->D) (h:Heap),f a [g 7] h->xF b 1 h λ h i=>xL h 1 false i λ h i=>aM h i λ h=>vbin .lss (g 7) h λ h=>vcond h (xF b 1 i λ e h=>xL e 1 false h λ e h=>xI e (g 7) 1 h λ e h=>xS e c 1 h λ e h=>vbin .add (g 7) (.int .i64 1) λ e=>aD [c,d,b] [c,d,b]/\∃b,b<a/\f b [e] h) (aD [d,b] [d,b]/\e [] i)
def pK (a:Heap) (b c d:D) (e:HJq):Prop :=
 ∃(f:Nat->HJq) (g:Nat),f g [(.int .i64 0)] a/\∀(a:Nat) (g:Nat->D) (h:Heap),f a [g 6] h->xF b 0 h λ h i=>xL h 1 false i λ h i=>aM h i λ h=>vbin .lss (g 6) h λ h=>vcond h (xF b 0 i λ e h=>xL e 1 false h λ e h=>xI e (g 6) 1 h λ e h=>xS e c 1 h λ e h=>vbin .add (g 6) (.int .i64 1) λ e=>aD [c,d,b] [c,d,b]/\∃b,b<a/\f b [e] h) (aD [c,d,b] [c,d,b]/\e [] i)
def xN (a b:D) (c:Heap) (K:HKq):Prop :=
 xB a c λ a c=>ab PP (.alloc (.agg [.nil,.nil])) c λ c d=>yF a 7 d λ e=>yL e 1 false d λ f=>aM f d λ g=>yF a 2 d λ h=>yL h 1 false d λ i=>ab PP (.mkc 1 (.c g) (.c g)) d λ d j=>ab PP (.mkc 1 (.c i) (.c i)) j λ d j=>ab PP (.mk 1 1 (.bool false) (.c g) (.c g)) j λ d j=>((yF a 2 j λ a=>aD [a] [h])/\(yL h 1 false j λ a=>aD [a] [i])/\True)/\ab PP (.mk 1 1 (.bool false) (.c i) (.c i)) j λ j k=>((yF a 7 k λ a=>aD [a] [e])/\(yL e 1 false k λ a=>aD [a] [f])/\(au PP (.len (.c f)) k λ a=>aD [a] [g])/\True)/\au PP (.bld [.nil,.nil] [(0,1,(.c d)),(1,1,(.c j))]) k λ d=>ab PP (.alloc (.agg [.nil,.nil])) k λ j k=>((yF a 7 k λ a=>aD [a] [e])/\(yL e 1 false k λ a=>aD [a] [f])/\(au PP (.len (.c f)) k λ a=>aD [a] [g])/\(yF a 2 k λ a=>aD [a] [h])/\(yL h 1 false k λ a=>aD [a] [i])/\True)/\xS j d 2 k λ a d=>∃(a:HJq),( ∀(d:Nat->D) (e:Heap),a [] e->∃(a:HJq),( ∀(b:Nat->D) (d:Heap),a [] d->xL j 2 true d λ a b=>xS c a 2 b λ a b=>xL c 2 true b λ a c=>K a b)/\pL e j b c a)/\pK d j b c a
theorem xM (a0:D) (a1:D) (h0:Heap) (K:HKq):xN a0 a1 h0 K=dt GW K [a0,a1] h0:=by kernel_rfl
def xe:TLq
 | _=>none
def AW:TTq
 | _=>none
noncomputable abbrev te:=cFn PP true bM xe (cDr PP 11 AW)
noncomputable def tA:aN:=⟨11,aU te,[.t 6]⟩
theorem zz:te=some tA:=by kernel_rfl
def sT (a b c:D) (d:Heap) (K:HKq):Prop :=
 xB a d λ a d=>xB b d λ b d=>xB c d λ c d=>xF a 1 d λ a d=>xL a 1 false d λ a d=>ab PP (.mkf nW [] [(.c b),(.c c)]) d λ b c=>ag PP cC [a,b] c λ a b=>K a b
theorem zn (a0:D) (a1:D) (a2:D) (h0:Heap) (K:HKq):sT a0 a1 a2 h0 K=dt tA K [a0,a1,a2] h0:=by kernel_rfl
def w8:TLq
 | 1000007=>some ([],[])|2=>some ([1,2,3],[7])|_=>none
def AS:TTq
 | _=>none
noncomputable abbrev s8:=cFn PP true dG w8 (cDr PP 31 AS)
noncomputable def tp:aN:=⟨31,aU s8,[.t 6]⟩
theorem zv:s8=some tp:=by kernel_rfl
def nZ (a:Heap) (b c d:D) (e:HJq) (K:HKq):Prop :=
 ∃(f:Nat->HJq) (g:Nat),f g [(.int .i64 0)] a/\∀(a:Nat) (g:Nat->D) (h:Heap),f a [g 7] h->xF b 1 h λ h i=>xL h 1 false i λ h i=>aM h i λ h=>vbin .lss (g 7) h λ h=>vcond h (xF b 1 i λ e h=>xL e 1 false h λ e h=>xI e (g 7) 1 h λ e h=>xL e 1 false h λ e h=>ag PP cJ [e,c] h λ e h=>vguard e true (λ a=>xF b 1 h λ b c=>a b c) h λ h i=>vguard e true (λ a=>xL h 1 false i λ b c=>a b c) i λ h i=>vguard e true (λ a=>a (g 7) i) i λ i j=>vguard e true (λ a=>xI h i 1 j λ b c=>a b c) j λ h i=>vguard e true (λ a=>xL h 1 false i λ b c=>a b c) i λ h i=>vguard e true (λ a=>a d i) i λ i j=>vguard e true (λ a=>ag PP cJ [h,i] j λ b c=>a b c) j λ h i=>xP e h (.bool false) i λ e h=>vcond e (K (.bool true) h) (vbin .add (g 7) (.int .i64 1) λ e=>aD [c,d,b] [c,d,b]/\∃b,b<a/\f b [e] h)) (aD [] []/\e [] i)
def sF (a b c:D) (d:Heap) (K:HKq):Prop :=
 xB a d λ a d=>∃(e:HJq),( ∀(a:Nat->D) (b:Heap),e [] b->K (.bool false) b)/\nZ d a b c e K
theorem zj (a0:D) (a1:D) (a2:D) (h0:Heap) (K:HKq):sF a0 a1 a2 h0 K=dt tp K [a0,a1,a2] h0:=by kernel_rfl
def Hq:TLq
 | 1000007=>some ([],[])|2=>some ([0,1],[5])|_=>none
def Kz:TTq
 | _=>none
noncomputable abbrev GO:=cFn PP true cJ Hq (cDr PP 18 Kz)
noncomputable def GY:aN:=⟨18,aU GO,[.t 4]⟩
theorem yu:GO=some GY:=by kernel_rfl
def pR (a:Heap) (b c:D) (d:HJq) (K:HKq):Prop :=
 ∃(e:Nat->HJq) (f:Nat),e f [(.int .i64 0)] a/\∀(a:Nat) (f:Nat->D) (g:Heap),e a [f 5] g->aM b g λ h=>vbin .lss (f 5) h λ h=>vcond h (xI b (f 5) 1 g λ d g=>xL d 1 false g λ d g=>vbin .eql d c λ d=>vcond d (K (.bool true) g) (vbin .add (f 5) (.int .i64 1) λ d=>aD [b,c] [b,c]/\∃b,b<a/\e b [d] g)) (aD [] []/\d [] g)
def xT (a b:D) (c:Heap) (K:HKq):Prop :=
 ∃(d:HJq),( ∀(a:Nat->D) (b:Heap),d [] b->K (.bool false) b)/\pR c a b d K
theorem xR (a0:D) (a1:D) (h0:Heap) (K:HKq):xT a0 a1 h0 K=dt GY K [a0,a1] h0:=by kernel_rfl
def Fm:TLq
 | 1000015=>some ([3],[])|4=>some ([1,3],[4])|8=>some ([1,3,35,36],[4,37])|1000014=>some ([1,3,35,36,37],[4])|_=>none
def I5:TTq
 | _=>none
noncomputable abbrev Ec:=cFn PP true kT Fm (cDr PP 55 I5)
noncomputable def EF:aN:=⟨55,aU Ec,[.t 2]⟩
theorem Ic:Ec=some EF:=by kernel_rfl
def uZ (a:D) (b:Heap) (c d e f:D) (g:Nat) (h:Nat->HJq):Prop :=
 ∃(i:Nat->HJq) (j:Nat),i j [a,(.int .i64 0)] b/\∀(a:Nat) (b:Nat->D) (j:Heap),i a [b 4,b 37] j->vbin .lss (b 37) c λ k=>vcond k ( ∃(g:HJq),( ∀(h:Nat->D) (j:Heap),g [h 4] j->vbin .add (b 37) (.int .i64 1) λ b=>aD [d,e,f,c] [d,e,f,c]/\∃c,c<a/\i c [(h 4),b] j)/\xI f (b 37) 1 j λ a h=>xL a 1 false h λ a h=>xI e a 1 h λ h i=>xL h 1 false i λ h i=>vun .not h λ h=>vcond h (xI e a 1 i λ h i=>xS h (.bool true) 1 i λ h i=>ab PP (.bldS true 1 1 (.int .i64 0) [(0,(.c a))]) i λ a h=>ab PP (.app (.c (b 4)) (.c a) 1 8 (.int .i64 0)) h λ a h=>aD [d,e,f,c,(b 37)] [d,e,f,c,(b 37)]/\g [a] h) (aD [d,e,f,c,(b 37)] [d,e,f,c,(b 37)]/\g [(b 4)] i)) (aD [d,e] [d,e]/\∃a,a<g/\h a [(b 4)] j)
def uY (a:D) (b:Heap) (c d:D) (e:HJq):Prop :=
 ∃(f:Nat->HJq) (g:Nat),f g [a] b/\∀(a:Nat) (b:Nat->D) (g:Heap),f a [b 4] g->aM (b 4) g λ h=>vbin .gtr h (.int .i64 0) λ h=>vcond h (aM (b 4) g λ e=>vbin .sub e (.int .i64 1) λ e=>xI (b 4) e 1 g λ e g=>xL e 1 false g λ e g=>aM (b 4) g λ h=>vbin .sub h (.int .i64 1) λ h=>ab PP (.mZ (.c (b 4)) none (some (.c h)) none 1) g λ b g=>xF c 7 g λ g h=>xL g 1 false h λ g h=>xI g e 14 h λ e g=>xF e 1 g λ e g=>xL e 13 true g λ e g=>ag PP g9 [e] g λ e g=>aM e g λ h=>uZ b g h c d e a f) (aD [d] [d]/\e [] g)
def DQ (a:D) (b:Heap) (K:HKq):Prop :=
 xB a b λ a b=>xF a 7 b λ b c=>xL b 1 false c λ b c=>aM b c λ b=>ab PP (.mk 1 1 (.bool false) (.c b) (.c b)) c λ b c=>xI b (.int .i64 0) 1 c λ c d=>xS c (.bool true) 1 d λ c d=>∃(c:HJq),( ∀(a:Nat->D) (d:Heap),c [] d->K b d)/\ab PP (.bldS true 1 1 (.int .i64 0) [(0,(.c (.int .i64 0)))]) d λ d e=>uY d e a b c
theorem HQ (a0:D) (h0:Heap) (K:HKq):DQ a0 h0 K=dt EF K [a0] h0:=by kernel_rfl
def Hu:TLq
 | _=>none
def KD:TTq
 | _=>none
noncomputable abbrev GU:=cFn PP true g9 Hu (cDr PP 26 KD)
noncomputable def G2:aN:=⟨26,aU GU,[.t 2]⟩
theorem Kr:GU=some G2:=by kernel_rfl
def GK (a:D) (b:Heap) (K:HKq):Prop :=
 xB a b λ a b=>xF a 0 b λ b c=>xL b 1 false c λ b c=>vbin .eql b (.int .i64 5) λ b=>vcond b (K .nil c) (xF a 0 c λ b c=>xL b 1 false c λ b c=>vbin .eql b (.int .i64 2) λ b=>vguard b true (λ b=>xF a 11 c λ a c=>b a c) c λ c d=>vguard b true (λ a=>xJ c (.int .i64 0) 2 1 d λ b c=>a b c) d λ c d=>vguard b true (λ a=>xL c 1 false d λ b c=>a b c) d λ c d=>vguard b true (λ b=>xF a 11 d λ a c=>b a c) d λ d e=>vguard b true (λ a=>xJ d (.int .i64 1) 2 1 e λ b c=>a b c) e λ d e=>vguard b true (λ a=>xL d 1 false e λ b c=>a b c) e λ d e=>vguard b true (λ a=>vbin .neq c d λ b=>a b e) e λ c d=>xP b c (.bool false) d λ b c=>vcond b (xF a 11 c λ a b=>ab PP (.SP (.c a) 2) b λ a b=>K a b) (xF a 11 c λ a b=>xJ a (.int .i64 0) 2 1 b λ a b=>xL a 1 false b λ a b=>ab PP (.bldS true 1 1 (.int .i64 0) [(0,(.c a))]) b λ a b=>K a b))
theorem Ka (a0:D) (h0:Heap) (K:HKq):GK a0 h0 K=dt G2 K [a0] h0:=by kernel_rfl
def E7:TLq
 | 1000007=>some ([2,3],[])|3=>some ([1,2,3],[4])|_=>none
def IP:TTq
 | 5=>some ([0,1,0,0,8,0,56,120,252,508,1023,2047,4095],[2,8,9,10,12],[999995])|_=>none
noncomputable abbrev DX:=cFn PP false tN E7 (cDr PP 30 IP)
noncomputable def Ek:aN:=⟨30,aU DX,[.cell 2 2 true]⟩
theorem HY:DX=some Ek:=by kernel_rfl
def uN (a:Heap) (b c d:D) (e:HJq):Prop :=
 ∃(f:Nat->HJq) (g:Nat),f g [(.int .i64 0)] a/\∀(a:Nat) (g:Nat->D) (h:Heap),f a [g 4] h->xF b 1 h λ h i=>xL h 1 false i λ h i=>aM h i λ h=>vbin .lss (g 4) h λ h=>vcond h (yF c 1 i λ e=>yL e 1 false i λ h=>yF b 1 i λ j=>yL j 1 false i λ k=>yI k (g 4) 1 i λ l=>yL l 1 false i λ m=>ab PP (.bldS false 1 0 (.int .i64 0) []) i λ i n=>((yF c 1 n λ a=>aD [a] [e])/\(yL e 1 false n λ a=>aD [a] [h])/\(yF b 1 n λ a=>aD [a] [j])/\(yL j 1 false n λ a=>aD [a] [k])/\(yI k (g 4) 1 n λ a=>aD [a] [l])/\(yL l 1 false n λ a=>aD [a] [m])/\True)/\ab PP (.app (.c i) (.c m) 1 8 (.int .i64 0)) n λ i j=>((yF c 1 j λ a=>aD [a] [e])/\(yL e 1 false j λ a=>aD [a] [h])/\True)/\ab PP (.bldS false 1 1 .nil [(0,(.c i))]) j λ i j=>((yF c 1 j λ a=>aD [a] [e])/\(yL e 1 false j λ a=>aD [a] [h])/\True)/\ab PP (.app (.c h) (.c i) 1 24 .nil) j λ e h=>yF c 1 h λ i=>xS i e 1 h λ e h=>vbin .add (g 4) (.int .i64 1) λ e=>aD [b,d,c] [b,d,c]/\∃b,b<a/\f b [e] h) (aD [d,c] [d,c]/\e [] i)
def Dx (a:D) (b:Heap) (K:HKq):Prop :=
 xB a b λ a b=>ab PP (.alloc (.agg [.nil,.nil])) b λ b c=>ab PP (.bldS false 1 0 (.int .i64 0) []) c λ c d=>xF a 0 d λ d e=>xL d 1 false e λ d e=>ab PP (.app (.c c) (.c d) 1 8 (.int .i64 0)) e λ c d=>ab PP (.bld [.nil,.nil] [(0,1,(.c c))]) d λ c d=>ab PP (.alloc (.agg [.nil,.nil])) d λ d e=>xS d c 2 e λ c e=>∃(c:HJq),( ∀(a:Nat->D) (e:Heap),c [] e->xL d 2 true e λ a c=>xS b a 2 c λ a c=>xL b 2 true c λ a b=>K a c)/\uN e a d b c
theorem HE (a0:D) (h0:Heap) (K:HKq):Dx a0 h0 K=dt Ek K [a0] h0:=by kernel_rfl
def zc:TLq
 | 1000005=>some ([4,5],[])|_=>none
def Cf:TTq
 | _=>none
noncomputable abbrev vc:=cFn PP true jB zc (cDr PP 31 Cf)
noncomputable def vu:aN:=⟨31,aU vc,[.cell 4 8 true]⟩
theorem BV:vc=some vu:=by kernel_rfl
def uW (a b:D) (c:Heap) (K:HKq):Prop :=
 ab PP (.alloc (.agg [zI,zI,zI,zI,zI,.nil,.nil,.nil])) c λ c d=>ab PP (.bld [zI,zI] [(0,1,(.c (.int .i64 1))),(1,1,(.c (.int .i64 0)))]) d λ d e=>ab PP (.bld [zI,zI,zI,zI,zJ,zI,zI,zJ,zI,zI,zJ,zI,zI] [(0,1,(.c (.int .i64 1))),(11,2,(.c d))]) e λ d e=>ab PP (.bld [.nil,zI,zI,zI,zI,zJ,zI,zI,zJ,zI,zI,zJ,zI,zI] [(1,13,(.c d))]) e λ d e=>ag PP cI [(.int .i64 0)] e λ e f=>ab PP (.bld [zI,zI,zI,zI,zI,zJ,zI,zI,zJ,zI,zI,zJ,zI,zI,zJ] [(0,1,(.c (.int .i64 5))),(1,1,(.c a)),(3,3,(.c e))]) f λ a e=>ab PP (.bldS true 15 1 (.agg [zI,zI,zI,zI,zI,zJ,zI,zI,zJ,zI,zI,zJ,zI,zI,zJ]) [(0,(.c a))]) e λ a e=>ag PP cI [(.int .i64 0)] e λ e f=>ab PP (.bld [zI,zI] [(0,1,(.c (.int .i64 2))),(1,1,(.c (.int .i64 3)))]) f λ f g=>ab PP (.bld [zI,zI,zI,zI,zJ,zI,zI,zJ,zI,zI,zJ,zI,zI] [(0,1,(.c (.int .i64 2))),(5,3,(.c e)),(11,2,(.c f))]) g λ e f=>ab PP (.bld [.nil,zI,zI,zI,zI,zJ,zI,zI,zJ,zI,zI,zJ,zI,zI] [(0,1,(.c a)),(1,13,(.c e))]) f λ a e=>ab PP (.bld [zI,zI] [(0,1,(.c (.int .i64 1))),(1,1,(.c (.int .i64 0)))]) e λ e f=>ab PP (.bld [zI,zI,zI,zI,zJ,zI,zI,zJ,zI,zI,zJ,zI,zI] [(0,1,(.c (.int .i64 3))),(11,2,(.c e))]) f λ e f=>ab PP (.bld [.nil,zI,zI,zI,zI,zJ,zI,zI,zJ,zI,zI,zJ,zI,zI] [(1,13,(.c e))]) f λ e f=>ab PP (.bld [zI,zI,zI,zI,zJ,zI,zI,zJ,zI,zI,zJ,zI,zI] [(0,1,(.c (.int .i64 5)))]) f λ f g=>ab PP (.bld [.nil,zI,zI,zI,zI,zJ,zI,zI,zJ,zI,zI,zJ,zI,zI] [(1,13,(.c f))]) g λ f g=>ab PP (.bldS true 14 4 (.agg [.nil,zI,zI,zI,zI,zJ,zI,zI,zJ,zI,zI,zJ,zI,zI]) [(0,(.c d)),(1,(.c a)),(2,(.c e)),(3,(.c f))]) g λ a d=>ab PP (.bld [zI,zI,zI,zI,zI,.nil,.nil,.nil] [(0,1,(.c (.int .i64 4))),(1,1,(.c (.int .i64 1))),(2,1,(.c (.int .i64 1))),(7,1,(.c a))]) d λ a d=>ab PP (.alloc (.agg [zI,zI,zI,zI,zI,.nil,.nil,.nil])) d λ d e=>xS d a 8 e λ a e=>∃(a:HJq),( ∀(b:Nat->D) (e:Heap),a [] e->xL d 8 true e λ a b=>xS c a 8 b λ a b=>xL c 8 true b λ a c=>K a b)/\vcond b (xF d 7 e λ b e=>xL b 1 false e λ b e=>xI b (.int .i64 0) 14 e λ b e=>xF b 1 e λ b e=>xF b 0 e λ b e=>xS b (.int .i64 3) 1 e λ b e=>aD [c,d] [c,d]/\a [] e) (aD [c,d] [c,d]/\a [] e)
theorem BI (a0:D) (a1:D) (h0:Heap) (K:HKq):uW a0 a1 h0 K=dt vu K [a0,a1] h0:=by kernel_rfl
end Go.Am
namespace Go.Am
open Go Go.Proofs
def Fi:TLq
 | 1000009=>some ([1,2],[3])|5=>some ([1,2],[3,4])|_=>none
def IZ:TTq
 | 7=>some ([0,0,0,4,0,28,60,124,254,0,512,0,3584,7680,15872,32766,65534,131071,262143],[1,8,16,17,18],[999999])|_=>none
noncomputable abbrev D9:=cFn PP true tR Fi (cDr PP 44 IZ)
noncomputable def Ey:aN:=⟨44,aU D9,[.cell 2 8 true]⟩
theorem H8:D9=some Ey:=by kernel_rfl
def uR (a:D) (b:Heap) (c d:D) (e:HJq):Prop :=
 ∃(f:Nat->HJq) (g:Nat),f g [a,(.int .i64 0)] b/\∀(a:Nat) (b:Nat->D) (g:Heap),f a [b 3,b 4] g->xF c 7 g λ g h=>xL g 1 false h λ g h=>aM g h λ g=>vbin .lss (b 4) g λ g=>vcond g (yF c 7 h λ e=>yL e 1 false h λ g=>yI g (b 4) 14 h λ i=>yF i 0 h λ j=>yL j 1 false h λ k=>yF c 7 h λ l=>yL l 1 false h λ m=>yI m (b 4) 14 h λ n=>yF n 1 h λ o=>yL o 13 true h λ p=>ab PP (.bldS true 15 0 (.agg [zI,zI,zI,zI,zI,zJ,zI,zI,zJ,zI,zI,zJ,zI,zI,zJ]) []) h λ h q=>((yF c 7 q λ a=>aD [a] [e])/\(yL e 1 false q λ a=>aD [a] [g])/\(yI g (b 4) 14 q λ a=>aD [a] [i])/\(yF i 0 q λ a=>aD [a] [j])/\(yL j 1 false q λ a=>aD [a] [k])/\(yF c 7 q λ a=>aD [a] [l])/\(yL l 1 false q λ a=>aD [a] [m])/\(yI m (b 4) 14 q λ a=>aD [a] [n])/\(yF n 1 q λ a=>aD [a] [o])/\(yL o 13 true q λ a=>aD [a] [p])/\True)/\ab PP (.app (.c h) (.c k) 15 120 (.agg [zI,zI,zI,zI,zI,zJ,zI,zI,zJ,zI,zI,zJ,zI,zI,zJ])) q λ e g=>((yF c 7 g λ a=>aD [a] [l])/\(yL l 1 false g λ a=>aD [a] [m])/\(yI m (b 4) 14 g λ a=>aD [a] [n])/\(yF n 1 g λ a=>aD [a] [o])/\(yL o 13 true g λ a=>aD [a] [p])/\True)/\au PP (.bld [.nil,zI,zI,zI,zI,zJ,zI,zI,zJ,zI,zI,zJ,zI,zI] [(0,1,(.c e)),(1,13,(.c p))]) g λ e=>ab PP (.bldS true 14 1 (.agg [.nil,zI,zI,zI,zI,zJ,zI,zI,zJ,zI,zI,zJ,zI,zI]) [(0,(.c e))]) g λ e g=>ab PP (.app (.c (b 3)) (.c e) 14 128 (.agg [.nil,zI,zI,zI,zI,zJ,zI,zI,zJ,zI,zI,zJ,zI,zI])) g λ e g=>vbin .add (b 4) (.int .i64 1) λ b=>aD [c,d] [c,d]/\∃c,c<a/\f c [e,b] g) (aD [c,d] [c,d]/\e [(b 3)] h)
def DJ (a:D) (b:Heap) (K:HKq):Prop :=
 xB a b λ a b=>ab PP (.alloc (.agg [zI,zI,zI,zI,zI,.nil,.nil,.nil])) b λ b c=>ab PP (.bldS true 4 0 (.agg [(.str ⟨#[]⟩),(.int .i64 0),(.int .i64 0),(.int .i64 0)]) []) c λ c d=>xF a 5 d λ d e=>xL d 1 false e λ d e=>ab PP (.app (.c c) (.c d) 4 40 (.agg [(.str ⟨#[]⟩),(.int .i64 0),(.int .i64 0),(.int .i64 0)])) e λ c d=>xF a 5 d λ d e=>xS d c 1 e λ c d=>ab PP (.bldS true 3 0 (.agg [zI,zI,zI]) []) d λ c d=>xF a 6 d λ d e=>xL d 1 false e λ d e=>ab PP (.app (.c c) (.c d) 3 24 (.agg [zI,zI,zI])) e λ c d=>xF a 6 d λ d e=>xS d c 1 e λ c d=>ab PP (.bldS true 14 0 (.agg [.nil,zI,zI,zI,zI,zJ,zI,zI,zJ,zI,zI,zJ,zI,zI]) []) d λ c d=>∃(e:HJq),( ∀(c:Nat->D) (d:Heap),e [c 3] d->xF a 7 d λ d e=>xS d (c 3) 1 e λ c d=>xL a 8 true d λ a c=>xS b a 8 c λ a c=>xL b 8 true c λ a b=>K a c)/\uR c d a b e
theorem HN (a0:D) (h0:Heap) (K:HKq):DJ a0 h0 K=dt Ey K [a0] h0:=by kernel_rfl
def tX:TLq
 | _=>none
def wL:TTq
 | 2=>some ([0,1,3,7,0,16,48,112,240,511],[],[])|4=>some ([0,1,3,7,0,16,48,112,240,511,1023,2047,4095],[],[])|_=>none
noncomputable abbrev pX:=cFn PP true aw tX (cDr PP 32 wL)
noncomputable def qa:aN:=⟨32,aU pX,[.t 2]⟩
theorem wv:pX=some qa:=by kernel_rfl
def pO (a:D) (b:Heap) (K:HKq):Prop :=
 xF a 0 b λ b c=>xF b 1 c λ b c=>xL b 1 false c λ b c=>vbin .add b (.int .i64 1) λ b=>xF a 0 c λ c d=>xF c 1 d λ c d=>xS c b 1 d λ b c=>yF a 0 c λ b=>yF b 1 c λ b=>yL b 1 false c λ b=>yF a 0 c λ d=>yF d 0 c λ d=>yL d 1 false c λ d=>aM d c λ d=>vbin .gtr b d λ b=>vcond b (K (.int .i64 0) c) (yF a 0 c λ b=>yF b 0 c λ b=>yL b 1 false c λ b=>yF a 0 c λ a=>yF a 1 c λ a=>yL a 1 false c λ a=>vbin .sub a (.int .i64 1) λ a=>yI b a 1 c λ a=>yL a 1 false c λ a=>yC .i64 a c λ a=>K a c)
theorem v7 (a0:D) (h0:Heap) (K:HKq):pO a0 h0 K=dt qa K [a0] h0:=by kernel_rfl
def Bj:TLq
 | _=>none
def ES:TTq
 | _=>none
noncomputable abbrev ye:=cFn PP true pj Bj (cDr PP 7 ES)
noncomputable def yw:aN:=⟨7,aU ye,[.t 0]⟩
theorem Ez:ye=some yw:=by kernel_rfl
def xU (a:Heap) (K:HKq):Prop :=
 ab PP (.bld [(.str ⟨#[]⟩),(.int .i64 0),(.int .i64 0),(.int .i64 0)] [(0,1,(.c (.str ⟨#[97]⟩))),(1,1,(.c (.int .i64 1))),(2,1,(.c (.int .i64 1))),(3,1,(.c (.int .i64 8)))]) a λ a b=>ab PP (.bld [(.str ⟨#[]⟩),(.int .i64 0),(.int .i64 0),(.int .i64 0)] [(0,1,(.c (.str ⟨#[102]⟩))),(1,1,(.c (.int .i64 1))),(2,1,(.c (.int .i64 2))),(3,1,(.c (.int .i64 4)))]) b λ b c=>ab PP (.bld [(.str ⟨#[]⟩),(.int .i64 0),(.int .i64 0),(.int .i64 0)] [(0,1,(.c (.str ⟨#[115]⟩))),(1,1,(.c (.int .i64 2))),(2,1,(.c (.int .i64 1))),(3,1,(.c (.int .i64 8)))]) c λ c d=>ab PP (.bld [(.str ⟨#[]⟩),(.int .i64 0),(.int .i64 0),(.int .i64 0)] [(0,1,(.c (.str ⟨#[112]⟩))),(1,1,(.c (.int .i64 3))),(2,1,(.c (.int .i64 1))),(3,1,(.c (.int .i64 4)))]) d λ d e=>ab PP (.bld [(.str ⟨#[]⟩),(.int .i64 0),(.int .i64 0),(.int .i64 0)] [(0,1,(.c (.str ⟨#[98]⟩))),(1,1,(.c (.int .i64 2))),(2,1,(.c (.int .i64 3))),(3,1,(.c (.int .i64 4)))]) e λ e f=>ab PP (.bldS true 4 5 (.agg [(.str ⟨#[]⟩),(.int .i64 0),(.int .i64 0),(.int .i64 0)]) [(0,(.c a)),(1,(.c b)),(2,(.c c)),(3,(.c d)),(4,(.c e))]) f λ a b=>K a b
theorem DK (h0:Heap) (K:HKq):xU h0 K=dt yw K [] h0:=by kernel_rfl
def rf:TLq
 | 1000012=>some ([0],[])|4=>some ([0,5],[6])|1000011=>some ([0,5,6],[])|_=>none
def tH:TTq
 | 9=>some ([0,1,3,7,15,0,0,64,0,256,0,1216,0,0,12288,31936,65472,0,131072,0,527552,0,0,6291456,16256192,33426624,67108800,134217664,268435455,536870911,1073741823],[7,11,20,30],[999999])|_=>none
noncomputable abbrev mR:=cFn PP true fc rf (cDr PP 77 tH)
noncomputable def mU:aN:=⟨77,aU mR,[]⟩
theorem tu:mR=some mU:=by kernel_rfl
def kf (a:D) (b:Heap) (c d:D) (e:HJq):Prop :=
 ∃(f:Nat->HJq) (g:Nat),f g [a] b/\∀(a:Nat) (b:Nat->D) (g:Heap),f a [b 6] g->vbin .lss (b 6) c λ h=>vcond h (ag PP cH [d] g λ e g=>xF d 0 g λ e g=>xF e 2 g λ e g=>xF e 7 g λ e g=>xL e 1 false g λ e g=>vbin .add (b 6) (.int .i64 1) λ h=>ab PP (.bld [zI,zI] [(0,1,(.c h)),(1,1,(.c (.int .i64 0)))]) g λ g h=>ab PP (.bld [zI,zI,zI,zI,zJ,zI,zI,zJ,zI,zI,zJ,zI,zI] [(0,1,(.c (.int .i64 1))),(11,2,(.c g))]) h λ g h=>xI e (b 6) 14 h λ e h=>xF e 1 h λ e h=>xS e g 13 h λ e g=>∃(e:HJq),( ∀(g:Nat->D) (h:Heap),e [] h->ag PP bt [d] h λ e g=>vbin .add (b 6) (.int .i64 1) λ b=>aD [d,c] [d,c]/\∃c,c<a/\f c [b] g)/\ag PP aw [d] g λ a f=>vbin .rem a (.int .i64 2) λ a=>vbin .eql a (.int .i64 0) λ a=>vcond a (yF d 0 f λ a=>yF a 2 f λ g=>yF g 7 f λ h=>yL h 1 false f λ i=>vbin .add (b 6) (.int .i64 1) λ j=>vbin .sub c (b 6) λ k=>vbin .add (b 6) (.int .i64 1) λ l=>vbin .sub c (b 6) λ m=>ag PP bh [d] f λ f n=>((yF d 0 n λ b=>aD [b] [a])/\(yF a 2 n λ a=>aD [a] [g])/\(yF g 7 n λ a=>aD [a] [h])/\(yL h 1 false n λ a=>aD [a] [i])/\True)/\ag PP aw [d] n λ n o=>((yF d 0 o λ b=>aD [b] [a])/\(yF a 2 o λ a=>aD [a] [g])/\(yF g 7 o λ a=>aD [a] [h])/\(yL h 1 false o λ a=>aD [a] [i])/\True)/\vbin .rem n k λ k=>vbin .add j k λ j=>ag PP aw [d] o λ k n=>((yF d 0 n λ b=>aD [b] [a])/\(yF a 2 n λ a=>aD [a] [g])/\(yF g 7 n λ a=>aD [a] [h])/\(yL h 1 false n λ a=>aD [a] [i])/\True)/\vbin .rem k m λ a=>vbin .add l a λ a=>au PP (.bld [zI,zI] [(0,1,(.c j)),(1,1,(.c a))]) n λ a=>au PP (.bld [zI,zI,zI,zI,zJ,zI,zI,zJ,zI,zI,zJ,zI,zI] [(0,1,(.c (.int .i64 2))),(5,3,(.c f)),(11,2,(.c a))]) n λ a=>yI i (b 6) 14 n λ f=>yF f 1 n λ f=>xS f a 13 n λ a f=>aD [d,c,(b 6)] [d,c,(b 6)]/\e [] f) (aD [d,c,(b 6)] [d,c,(b 6)]/\e [] f)) (aD [d] [d]/\e [] g)
def mM (a b:D) (c:Heap) (K:HKq):Prop :=
 ag PP bt [a] c λ c d=>xF a 0 d λ c d=>xF c 2 d λ c d=>xF c 7 d λ c d=>xL c 1 false d λ c d=>aM c d λ c=>vbin .sub c (.int .i64 1) λ c=>vbin .add c b λ b=>∃(e:HJq),( ∀(b:Nat->D) (c:Heap),e [] c->ag PP cH [a] c λ a b=>K (.tup []) b)/\kf c d b a e
theorem sN (a0:D) (a1:D) (h0:Heap) (K:HKq):mM a0 a1 h0 K=dt mU K [a0,a1] h0:=by kernel_rfl
def tY:TLq
 | 1000008=>some ([],[0,2,3,4])|1000016=>some ([],[0,4,119])|_=>none
def wM:TTq
 | 9=>some ([0,1,3,7,15,0,0,64,192,0,512,0,2048,7680,16320,32767,65535,131071],[17],[])|15=>some ([0,1,3,7,15,0,32,0,128,0,0,1024,3584,8064,16383,32767,65535],[8,16],[999999])|_=>none
noncomputable abbrev pY:=cFn PP true dM tY (cDr PP 136 wM)
noncomputable def qb:aN:=⟨136,aU pY,[]⟩
theorem wx:pY=some qb:=by kernel_rfl
def pP (a:D) (b:Heap) (K:HKq):Prop :=
 xF a 0 b λ b c=>xF b 2 c λ b c=>xF b 6 c λ b c=>xL b 1 false c λ b c=>aM b c λ b=>vbin .mul (.int .i64 2) b λ b=>vbin .add (.int .i64 6) b λ b=>ag PP aw [a] c λ c d=>vbin .rem c (.int .i64 3) λ c=>vbin .add (.int .i64 1) c λ c=>vbin .add b (.int .i64 2) λ e=>xF a 0 d λ d f=>xF d 2 f λ d f=>xF d 2 f λ d f=>xS d e 1 f λ d e=>xF a 0 e λ d e=>xF d 2 e λ d e=>xF d 7 e λ d e=>xL d 1 false e λ d e=>aM d e λ d=>ag PP cI [b] e λ e f=>ag PP fp [(.int .i32 0)] f λ f g=>ab PP (.bld [zI,zI,zI,zI,zI,zJ,zI,zI,zJ,zI,zI,zJ,zI,zI,zJ] [(0,1,(.c (.int .i64 1))),(3,3,(.c e)),(6,3,(.c f))]) g λ e f=>ag PP aV [a,e] f λ e f=>xF a 0 f λ e f=>xF e 2 f λ e f=>xF e 7 f λ e f=>xL e 1 false f λ e f=>vbin .sub d (.int .i64 1) λ g=>ab PP (.bld [zI,zI] [(0,1,(.c d)),(1,1,(.c (.int .i64 0)))]) f λ f h=>ab PP (.bld [zI,zI,zI,zI,zJ,zI,zI,zJ,zI,zI,zJ,zI,zI] [(0,1,(.c (.int .i64 1))),(11,2,(.c f))]) h λ f h=>xI e g 14 h λ e g=>xF e 1 g λ e g=>xS e f 13 g λ e f=>∃(e:HJq),( ∀(a:Nat->D) (b:Heap),e [a 0,a 2,a 3,a 4] b->ag PP bt [(a 0)] b λ b c=>vbin .add (a 2) (.int .i64 1) λ b=>ag PP cI [b] c λ b c=>ag PP cI [(a 2)] c λ c d=>xC .i32 (a 3) d λ d e=>ag PP fp [d] e λ d e=>ab PP (.bld [zI,zI,zI,zI,zI,zJ,zI,zI,zJ,zI,zI,zJ,zI,zI,zJ] [(0,1,(.c (.int .i64 3))),(1,1,(.c (.int .i64 26))),(3,3,(.c b)),(6,3,(.c c)),(9,3,(.c d))]) e λ b c=>ag PP aV [(a 0),b] c λ b c=>yF (a 0) 0 c λ b=>yF b 2 c λ b=>yF b 7 c λ b=>yL b 1 false c λ b=>vbin .add (a 2) (.int .i64 1) λ d=>au PP (.call cI [(.c d)]) c λ d=>vbin .add (a 4) (.int .i64 1) λ e=>vbin .add (a 4) (.int .i64 2) λ f=>au PP (.bld [zI,zI] [(0,1,(.c e)),(1,1,(.c f))]) c λ e=>au PP (.bld [zI,zI,zI,zI,zJ,zI,zI,zJ,zI,zI,zJ,zI,zI] [(0,1,(.c (.int .i64 2))),(5,3,(.c d)),(11,2,(.c e))]) c λ d=>yI b (a 4) 14 c λ b=>yF b 1 c λ b=>xS b d 13 c λ b c=>ag PP bt [(a 0)] c λ b c=>ag PP cI [(a 2)] c λ b c=>ag PP cI [(a 2)] c λ c d=>ag PP fp [(.int .i32 1)] d λ d e=>ab PP (.bld [zI,zI,zI,zI,zI,zJ,zI,zI,zJ,zI,zI,zJ,zI,zI,zJ] [(0,1,(.c (.int .i64 3))),(1,1,(.c (.int .i64 10))),(3,3,(.c b)),(6,3,(.c c)),(9,3,(.c d))]) e λ b c=>ag PP aV [(a 0),b] c λ b c=>ag PP cH [(a 0)] c λ b c=>xF (a 0) 0 c λ b c=>xF b 2 c λ b c=>xF b 7 c λ b c=>xL b 1 false c λ b c=>vbin .add (a 4) (.int .i64 1) λ d=>ab PP (.bld [zI,zI] [(0,1,(.c (a 4))),(1,1,(.c (.int .i64 0)))]) c λ c e=>ab PP (.bld [zI,zI,zI,zI,zJ,zI,zI,zJ,zI,zI,zJ,zI,zI] [(0,1,(.c (.int .i64 1))),(11,2,(.c c))]) e λ c e=>xI b d 14 e λ b d=>xF b 1 d λ b d=>xS b c 13 d λ b c=>∃(b:HJq),( ∀(a:Nat->D) (c:Heap),b [a 0,a 4,a 119] c->vcond (a 119) (yF (a 0) 0 c λ b=>yF b 2 c λ d=>yF d 7 c λ e=>yL e 1 false c λ f=>vbin .add (a 4) (.int .i64 1) λ g=>vbin .add (a 4) (.int .i64 2) λ h=>au PP (.bld [zI,zI] [(0,1,(.c (a 4))),(1,1,(.c h))]) c λ h=>ag PP bh [(a 0)] c λ c i=>((yF (a 0) 0 i λ a=>aD [a] [b])/\(yF b 2 i λ a=>aD [a] [d])/\(yF d 7 i λ a=>aD [a] [e])/\(yL e 1 false i λ a=>aD [a] [f])/\True)/\au PP (.bld [zI,zI,zI,zI,zJ,zI,zI,zJ,zI,zI,zJ,zI,zI] [(0,1,(.c (.int .i64 2))),(5,3,(.c c)),(11,2,(.c h))]) i λ a=>yI f g 14 i λ b=>yF b 1 i λ b=>xS b a 13 i λ a b=>K (.tup []) b) (K (.tup []) c))/\ag PP aw [(a 0)] c λ c d=>vbin .rem c (.int .i64 3) λ c=>vbin .eql c (.int .i64 0) λ c=>aD [] []/\b [(a 0),(a 4),c] d)/\xF a 0 f λ f g=>xF f 2 g λ f g=>xF f 6 g λ f g=>xL f 1 false g λ f g=>ab PP (.bld [zI,zI,zI] [(0,1,(.c d)),(1,1,(.c b)),(2,1,(.c c))]) g λ g h=>ab PP (.bldS true 3 1 (.agg [zI,zI,zI]) [(0,(.c g))]) h λ g h=>ab PP (.app (.c f) (.c g) 3 24 (.agg [zI,zI,zI])) h λ f g=>xF a 0 g λ g h=>xF g 2 h λ g h=>xF g 6 h λ g h=>xS g f 1 h λ f g=>aD [] []/\e [a,b,c,d] g
theorem v8 (a0:D) (h0:Heap) (K:HKq):pP a0 h0 K=dt qb K [a0] h0:=by kernel_rfl
def sq:TLq
 | _=>none
def vH:TTq
 | _=>none
noncomputable abbrev ou:=cFn PP true bt sq (cDr PP 14 vH)
noncomputable def oA:aN:=⟨14,aU ou,[]⟩
theorem uz:ou=some oA:=by kernel_rfl
def oh (a:D) (b:Heap) (K:HKq):Prop :=
 xF a 0 b λ b c=>xF b 2 c λ b c=>xF b 7 c λ b c=>xL b 1 false c λ b c=>ab PP (.bld [.nil,zI,zI,zI,zI,zJ,zI,zI,zJ,zI,zI,zJ,zI,zI] []) c λ c d=>ab PP (.bldS true 14 1 (.agg [.nil,zI,zI,zI,zI,zJ,zI,zI,zJ,zI,zI,zJ,zI,zI]) [(0,(.c c))]) d λ c d=>ab PP (.app (.c b) (.c c) 14 128 (.agg [.nil,zI,zI,zI,zI,zJ,zI,zI,zJ,zI,zI,zJ,zI,zI])) d λ b c=>xF a 0 c λ a c=>xF a 2 c λ a c=>xF a 7 c λ a c=>xS a b 1 c λ a b=>K (.tup []) b
theorem uu (a0:D) (h0:Heap) (K:HKq):oh a0 h0 K=dt oA K [a0] h0:=by kernel_rfl
def vO:TLq
 | _=>none
def yZ:TTq
 | _=>none
noncomputable abbrev qH:=cFn PP true bh vO (cDr PP 7 yZ)
noncomputable def qO:aN:=⟨7,aU qH,[.cell 2 3 true]⟩
theorem mV:qH=some qO:=by kernel_rfl
def lC (a:D) (b:Heap) (K:HKq):Prop :=
 ab PP (.alloc (.agg [zI,zI,zJ])) b λ b c=>ag PP aw [a] c λ a c=>vbin .rem a (.int .i64 6) λ a=>ag PP cI [a] c λ a c=>xS b a 3 c λ a c=>xL b 3 true c λ a b=>K a c
theorem mN (a0:D) (h0:Heap) (K:HKq):lC a0 h0 K=dt qO K [a0] h0:=by kernel_rfl
def vM:TLq
 | _=>none
def yY:TTq
 | _=>none
noncomputable abbrev qG:=cFn PP true bg vM (cDr PP 18 yY)
noncomputable def qN:aN:=⟨18,aU qG,[.cell 2 3 true]⟩
theorem mT:qG=some qN:=by kernel_rfl
def lB (a:D) (b:Heap) (K:HKq):Prop :=
 ab PP (.alloc (.agg [zI,zI,zJ])) b λ b c=>ag PP aw [a] c λ a c=>vbin .rem a (.int .i64 3) λ d=>vbin .eql d (.int .i64 0) λ d=>vcond d (vbin .quo a (.int .i64 3) λ a=>xC .i32 a c λ a c=>vbin .sub a (.int .i32 20) λ a=>ag PP fp [a] c λ a c=>xS b a 3 c λ a c=>xL b 3 true c λ a b=>K a c) (vbin .quo a (.int .i64 3) λ a=>vbin .rem a (.int .i64 6) λ a=>ag PP cI [a] c λ a c=>xS b a 3 c λ a c=>xL b 3 true c λ a b=>K a c)
theorem mL (a0:D) (h0:Heap) (K:HKq):lB a0 h0 K=dt qN K [a0] h0:=by kernel_rfl
def so:TLq
 | 1=>some ([0],[2])|_=>none
def vG:TTq
 | _=>none
noncomputable abbrev ot:=cFn PP true cH so (cDr PP 12 vG)
noncomputable def oz:aN:=⟨12,aU ot,[]⟩
theorem uy:ot=some oz:=by kernel_rfl
def lD (a:D) (b:Heap) (c:D) (K:HKq):Prop :=
 ∃(d:Nat->HJq) (e:Nat),d e [a] b/\∀(a:Nat) (b:Nat->D) (e:Heap),d a [b 2] e->vbin .gtr (b 2) (.int .i64 0) λ f=>vcond f (ag PP jI [c] e λ e f=>vbin .sub (b 2) (.int .i64 1) λ b=>aD [c] [c]/\∃c,c<a/\d c [b] f) (K (.tup []) e)
def og (a:D) (b:Heap) (K:HKq):Prop :=
 ag PP aw [a] b λ b c=>vbin .rem b (.int .i64 5) λ b=>lD b c a K
theorem ur (a0:D) (h0:Heap) (K:HKq):og a0 h0 K=dt oz K [a0] h0:=by kernel_rfl
def Fj:TLq
 | 1000016=>some ([4,5],[])|3=>some ([2,4,5],[6])|7=>some ([2,4,5,7,30,31],[6,32])|1000015=>some ([2,4,5,7,30,31,32],[6])|_=>none
def I0:TTq
 | 4=>some ([0,1,0,4,12,31,63,127,0,511],[8,9],[])|_=>none
noncomputable abbrev Ea:=cFn PP true kN Fj (cDr PP 56 I0)
noncomputable def EB:aN:=⟨56,aU Ea,[.t 4,.t 5]⟩
theorem H9:Ea=some EB:=by kernel_rfl
def uT (a:D) (b:Heap) (c d e f g h:D) (i:Nat) (j:Nat->HJq):Prop :=
 ∃(k:Nat->HJq) (l:Nat),k l [a,(.int .i64 0)] b/\∀(a:Nat) (b:Nat->D) (l:Heap),k a [b 6,b 32] l->vbin .lss (b 32) c λ m=>vcond m ( ∃(i:HJq),( ∀(j:Nat->D) (l:Heap),i [j 6] l->vbin .add (b 32) (.int .i64 1) λ b=>aD [d,e,f,g,h,c] [d,e,f,g,h,c]/\∃c,c<a/\k c [(j 6),b] l)/\xI h (b 32) 1 l λ a j=>xL a 1 false j λ a j=>xF g 0 j λ j k=>xL j 1 false k λ j k=>vbin .eql j (.int .i64 3) λ j=>vcond j (ab PP (.mupd (.int .i64) (.c f) (.c a) (.c (.bool true))) k λ a j=>aD [d,e,f,g,h,c,(b 32)] [d,e,f,g,h,c,(b 32)]/\i [(b 6)] j) (ab PP (.look (.int .i64) (.c e) (.c a) (.bool false) false) k λ j k=>vun .not j λ j=>vcond j (ab PP (.mupd (.int .i64) (.c e) (.c a) (.c (.bool true))) k λ j k=>ab PP (.bldS true 1 1 (.int .i64 0) [(0,(.c a))]) k λ a j=>ab PP (.app (.c (b 6)) (.c a) 1 8 (.int .i64 0)) j λ a j=>aD [d,e,f,g,h,c,(b 32)] [d,e,f,g,h,c,(b 32)]/\i [a] j) (aD [d,e,f,g,h,c,(b 32)] [d,e,f,g,h,c,(b 32)]/\i [(b 6)] k))) (aD [d,e,f] [d,e,f]/\∃a,a<i/\j a [(b 6)] l)
def uS (a:D) (b:Heap) (c d e:D) (f:HJq):Prop :=
 ∃(g:Nat->HJq) (h:Nat),g h [a] b/\∀(a:Nat) (b:Nat->D) (h:Heap),g a [b 6] h->aM (b 6) h λ i=>vbin .gtr i (.int .i64 0) λ i=>vcond i (yF c 7 h λ f=>yL f 1 false h λ f=>yI (b 6) (.int .i64 0) 1 h λ i=>yL i 1 false h λ i=>yI f i 14 h λ f=>yF f 1 h λ f=>yL f 13 true h λ f=>ab PP (.alloc (.agg [zI,zI,zI,zI,zJ,zI,zI,zJ,zI,zI,zJ,zI,zI])) h λ h i=>xS h f 13 i λ f i=>ab PP (.mZ (.c (b 6)) (some (.c (.int .i64 1))) none none 1) i λ b f=>xL h 13 true f λ f i=>ag PP g9 [f] i λ f i=>aM f i λ j=>uT b i j c d e h f a g) (aD [d,e] [d,e]/\f [] h)
def DM (a b:D) (c:Heap) (K:HKq):Prop :=
 xB a c λ a c=>ab PP (.KL (.int .i64)) c λ c d=>ab PP (.mupd (.int .i64) (.c c) (.c b) (.c (.bool true))) d λ d e=>ab PP (.KL (.int .i64)) e λ d e=>ab PP (.bldS true 1 1 (.int .i64 0) [(0,(.c b))]) e λ b e=>∃(f:HJq),( ∀(a:Nat->D) (b:Heap),f [] b->K (.tup [c,d]) b)/\uS b e a c d f
theorem HO (a0:D) (a1:D) (h0:Heap) (K:HKq):DM a0 a1 h0 K=dt EB K [a0,a1] h0:=by kernel_rfl
def iH:TLq
 | _=>none
def jl:TTq
 | _=>none
noncomputable abbrev eH:=cFn PP true aX iH (cDr PP 4 jl)
noncomputable def eK:aN:=⟨4,aU eH,[.t 2]⟩
theorem ji:eH=some eK:=by kernel_rfl
def ep (a:D) (b:Heap) (K:HKq):Prop :=
 xB a b λ a b=>ab PP (.mkf iX [] [(.c a)]) b λ a b=>K a b
theorem jg (a0:D) (h0:Heap) (K:HKq):ep a0 h0 K=dt eK K [a0] h0:=by kernel_rfl
def iG:TLq
 | _=>none
def jk:TTq
 | _=>none
noncomputable abbrev ew:=cFn PP true bu iG (cDr PP 4 jk)
noncomputable def eJ:aN:=⟨4,aU ew,[.t 2]⟩
theorem jh:ew=some eJ:=by kernel_rfl
def eo (a:D) (b:Heap) (K:HKq):Prop :=
 xB a b λ a b=>ab PP (.mkf iW [] [(.c a)]) b λ a b=>K a b
theorem jf (a0:D) (h0:Heap) (K:HKq):eo a0 h0 K=dt eJ K [a0] h0:=by kernel_rfl
def CM:TLq
 | 1000015=>some ([3],[])|4=>some ([1,3],[4])|1000006=>some ([1,3,4],[])|7=>some ([1,3,4],[5])|1000009=>some ([1,3,4,5],[])|11=>some ([1,3,4,5,6],[7])|_=>none
def He:TTq
 | _=>none
noncomputable abbrev Ao:=cFn PP true fo CM (cDr PP 54 He)
noncomputable def AF:aN:=⟨54,aU Ao,[.t 2]⟩
theorem Ga:Ao=some AF:=by kernel_rfl
def sR (a:Heap) (b c:D) (d:Nat->D) (e:D) (f:Nat->D) (g:HJq):Prop :=
 ∃(h:Nat->HJq) (i:Nat),h i [(.int .i64 0)] a/\∀(a:Nat) (i:Nat->D) (j:Heap),h a [i 7] j->aM b j λ k=>vbin .lss (i 7) k λ k=>vguard k true (λ a=>a c j) j λ j l=>vguard k true (λ a=>a (d 5) l) l λ l m=>vguard k true (λ a=>xI j l 1 m λ b c=>a b c) m λ j l=>vguard k true (λ a=>xL j 1 false l λ b c=>a b c) l λ j l=>xP k j (.bool false) l λ j k=>vcond j (xI b (i 7) 1 k λ g j=>xL g 1 false j λ g j=>xI c g 1 j λ g j=>xS g (.bool true) 1 j λ g j=>vbin .add (i 7) (.int .i64 1) λ g=>aD [e,c,(f 4),(d 5),b] [e,c,(f 4),(d 5),b]/\∃b,b<a/\h b [g] j) (aD [e,c,(f 4),(d 5)] [e,c,(f 4),(d 5)]/\g [] k)
def sQ (a:Heap) (b c:D) (d:Nat->D) (e:HJq):Prop :=
 ∃(f:Nat->HJq) (g:Nat),f g [(.int .i64 0)] a/\∀(a:Nat) (g:Nat->D) (h:Heap),f a [g 5] h->xF b 7 h λ h i=>xL h 1 false i λ h i=>aM h i λ h=>vbin .lss (g 5) h λ h=>vcond h ( ∃(e:HJq),( ∀(h:Nat->D) (i:Heap),e [] i->vbin .add (g 5) (.int .i64 1) λ e=>aD [b,c,(d 4)] [b,c,(d 4)]/\∃b,b<a/\f b [e] i)/\xF b 7 i λ a f=>xL a 1 false f λ a f=>xI a (g 5) 14 f λ a f=>xF a 1 f λ a f=>xL a 13 true f λ a f=>ag PP kL [a] f λ a f=>sR f a c g b d e) (aD [b,c,(d 4)] [b,c,(d 4)]/\e [] i)
def sP (a:Heap) (b c:D) (d:HJq):Prop :=
 ∃(e:Nat->HJq) (f:Nat),e f [(.int .i64 0)] a/\∀(a:Nat) (f:Nat->D) (g:Heap),e a [f 4] g->xF b 7 g λ g h=>xL g 1 false h λ g h=>aM g h λ g=>vbin .lss (f 4) g λ g=>vcond g ( ∃(d:HJq),( ∀(g:Nat->D) (h:Heap),d [] h->vbin .add (f 4) (.int .i64 1) λ d=>aD [b,c] [b,c]/\∃b,b<a/\e b [d] h)/\sQ h b c f d) (aD [c] [c]/\d [] h)
def zZ (a:D) (b:Heap) (K:HKq):Prop :=
 xB a b λ a b=>xF a 7 b λ b c=>xL b 1 false c λ b c=>aM b c λ b=>ab PP (.mk 1 1 (.bool false) (.c b) (.c b)) c λ b c=>xI b (.int .i64 0) 1 c λ c d=>xS c (.bool true) 1 d λ c d=>∃(c:HJq),( ∀(a:Nat->D) (d:Heap),c [] d->K b d)/\sP d a b c
theorem FP (a0:D) (h0:Heap) (K:HKq):zZ a0 h0 K=dt AF K [a0] h0:=by kernel_rfl
def CO:TLq
 | 1000007=>some ([0,1],[5])|4=>some ([0,1],[5])|_=>none
def Hg:TTq
 | 6=>some ([0,0,0,6,15,0,32,127,0,0,768,2047,4095],[0,4,7,11],[999999])|_=>none
noncomputable abbrev Aq:=cFn PP true gH CO (cDr PP 36 Hg)
noncomputable def AH:aN:=⟨36,aU Aq,[.t 4]⟩
theorem tx:Aq=some AH:=by kernel_rfl
def ml (a:Heap) (b c:D) (d:HJq):Prop :=
 ∃(e:Nat->HJq) (f:Nat),e f [(.int .i64 0)] a/\∀(a:Nat) (f:Nat->D) (g:Heap),e a [f 5] g->aM b g λ h=>vbin .lss (f 5) h λ h=>vguard h true (λ a=>a b g) g λ g i=>vguard h true (λ a=>a (f 5) i) i λ i j=>vguard h true (λ a=>xI g i 1 j λ b c=>a b c) j λ g i=>vguard h true (λ a=>xL g 1 false i λ b c=>a b c) i λ g i=>vguard h true (λ a=>a c i) i λ i j=>vguard h true (λ a=>vbin .lss g i λ b=>a b j) j λ g i=>xP h g (.bool false) i λ g h=>vcond g (vbin .add (f 5) (.int .i64 1) λ d=>aD [b,c] [b,c]/\∃b,b<a/\e b [d] h) (aD [b,c] [b,c]/\d [(f 5)] h)
def rI (a b:D) (c:Heap) (K:HKq):Prop :=
 ag PP cJ [a,b] c λ c d=>vcond c (K a d) ( ∃(c:HJq),( ∀(d:Nat->D) (e:Heap),c [d 5] e->au PP (.mZ (.c a) none (some (.c (d 5))) none 1) e λ c=>au PP (.bldS false 1 1 (.int .i64 0) [(0,(.c b))]) e λ b=>au PP (.mZ (.c a) (some (.c (d 5))) none none 1) e λ f=>ab PP (.bldS true 1 0 (.int .i64 0) []) e λ e g=>((au PP (.mZ (.c a) none (some (.c (d 5))) none 1) g λ a=>aD [a] [c])/\(au PP (.mZ (.c a) (some (.c (d 5))) none none 1) g λ a=>aD [a] [f])/\True)/\ab PP (.app (.c e) (.c c) 1 8 (.int .i64 0)) g λ c e=>((au PP (.mZ (.c a) (some (.c (d 5))) none none 1) e λ a=>aD [a] [f])/\True)/\ab PP (.app (.c c) (.c b) 1 8 (.int .i64 0)) e λ b c=>((au PP (.mZ (.c a) (some (.c (d 5))) none none 1) c λ a=>aD [a] [f])/\True)/\ab PP (.app (.c b) (.c f) 1 8 (.int .i64 0)) c λ a b=>K a b)/\ml d a b c)
theorem sS (a0:D) (a1:D) (h0:Heap) (K:HKq):rI a0 a1 h0 K=dt AH K [a0,a1] h0:=by kernel_rfl
def E5:TLq
 | 1000014=>some ([],[5])|3=>some ([2],[5,6])|1000005=>some ([2,6],[5])|6=>some ([2,6],[5,7])|1000008=>some ([2,6,7],[5])|10=>some ([2,6,7,8],[5,9])|_=>none
def IM:TTq
 | 8=>some ([0,0,0,6,14,31,63],[],[])|_=>none
noncomputable abbrev DV:=cFn PP true tL E5 (cDr PP 44 IM)
noncomputable def Ei:aN:=⟨44,aU DV,[.t 4]⟩
theorem HW:DV=some Ei:=by kernel_rfl
def uK (a:Nat->D) (b:Heap) (c d:D) (e:Nat->D) (f:HJq):Prop :=
 ∃(g:Nat->HJq) (h:Nat),g h [(a 5),(.int .i64 0)] b/\∀(b:Nat) (h:Nat->D) (i:Heap),g b [h 5,h 9] i->aM c i λ j=>vbin .lss (h 9) j λ j=>vcond j (xI c (h 9) 1 i λ f i=>xL f 1 false i λ f i=>ag PP gH [(h 5),f] i λ f i=>vbin .add (h 9) (.int .i64 1) λ h=>aD [d,(e 6),(a 7),c] [d,(e 6),(a 7),c]/\∃a,a<b/\g a [f,h] i) (aD [d,(e 6),(a 7)] [d,(e 6),(a 7)]/\f [(h 5)] i)
def uJ (a:Nat->D) (b:Heap) (c:D) (d:HJq):Prop :=
 ∃(e:Nat->HJq) (f:Nat),e f [(a 5),(.int .i64 0)] b/\∀(b:Nat) (f:Nat->D) (g:Heap),e b [f 5,f 7] g->aM (f 5) g λ h=>vbin .lss (f 7) h λ h=>vcond h ( ∃(d:HJq),( ∀(g:Nat->D) (h:Heap),d [g 5] h->vbin .add (f 7) (.int .i64 1) λ d=>aD [c,(a 6)] [c,(a 6)]/\∃a,a<b/\e a [(g 5),d] h)/\yL c 8 true g λ b=>yI (f 5) (f 7) 1 g λ e=>yL e 1 false g λ e=>au PP (.call qX [(.c b),(.c e)]) g λ b=>uK f g b c a d) (aD [c,(a 6)] [c,(a 6)]/\d [(f 5)] g)
def uI (a:D) (b:Heap) (c:D) (d:HJq):Prop :=
 ∃(e:Nat->HJq) (f:Nat),e f [a,(.int .i64 0)] b/\∀(a:Nat) (b:Nat->D) (f:Heap),e a [b 5,b 6] f->xF c 7 f λ f g=>xL f 1 false g λ f g=>aM f g λ f=>vbin .lss (b 6) f λ f=>vcond f ( ∃(d:HJq),( ∀(f:Nat->D) (g:Heap),d [f 5] g->vbin .add (b 6) (.int .i64 1) λ b=>aD [c] [c]/\∃c,c<a/\e c [(f 5),b] g)/\uJ b g c d) (aD [] []/\d [(b 5)] g)
def Dv (a b:D) (c:Heap) (K:HKq):Prop :=
 xB a c λ a c=>ab PP (.bldS true 1 1 (.int .i64 0) [(0,(.c b))]) c λ b c=>∃(d:HJq),( ∀(a:Nat->D) (b:Heap),d [a 5] b->K (a 5) b)/\uI b c a d
theorem HC (a0:D) (a1:D) (h0:Heap) (K:HKq):Dv a0 a1 h0 K=dt Ei K [a0,a1] h0:=by kernel_rfl
def y8:TLq
 | 1000014=>some ([5],[])|4=>some ([1,3,4,5],[6])|1000006=>some ([1,3,4,5,6],[])|7=>some ([1,3,4,5,6],[7])|1000009=>some ([1,3,4,5,6,7],[])|_=>none
def Cd:TTq
 | 1=>some ([0,1,3,0,15,31,63],[1,2,4],[999999])|_=>none
noncomputable abbrev u7:=cFn PP true gq y8 (cDr PP 92 Cd)
noncomputable def vq:aN:=⟨92,aU u7,[.t 2]⟩
theorem BT:u7=some vq:=by kernel_rfl
def jM (a:Heap) (b c d e:D) (f:Nat->D) (g:HJq):Prop :=
 ∃(h:Nat->HJq) (i:Nat),h i [(.int .i64 0)] a/\∀(a:Nat) (i:Nat->D) (j:Heap),h a [i 7] j->xF b 7 j λ j k=>xL j 1 false k λ j k=>aM j k λ j=>vbin .lss (i 7) j λ j=>vcond j ( ∃(g:HJq),( ∀(j:Nat->D) (k:Heap),g [] k->vbin .add (i 7) (.int .i64 1) λ g=>aD [b,c,d,e,(f 6)] [b,c,d,e,(f 6)]/\∃b,b<a/\h b [g] k)/\xF b 7 k λ a h=>xL a 1 false h λ a h=>xI a (i 7) 14 h λ a h=>xF a 1 h λ a h=>xL a 13 true h λ a h=>ag PP kJ [a] h λ a h=>xI c (i 7) 1 h λ h j=>xL h 1 false j λ h j=>vun .not h λ h=>vguard h false (λ a=>a c j) j λ j k=>vguard h false (λ a=>a (f 6) k) k λ k l=>vguard h false (λ a=>xI j k 1 l λ b c=>a b c) l λ j k=>vguard h false (λ a=>xL j 1 false k λ b c=>a b c) k λ j k=>vguard h false (λ a=>vun .not j λ b=>a b k) k λ j k=>xP h (.bool true) j k λ h j=>vguard h false (λ b=>b a j) j λ j k=>vguard h false (λ a=>aM j k λ b=>a b k) k λ j k=>vguard h false (λ a=>vbin .neq j (.int .i64 2) λ b=>a b k) k λ j k=>xP h (.bool true) j k λ h j=>vguard h false (λ a=>a (i 7) j) j λ j k=>vguard h false (λ a=>a (f 6) k) k λ k l=>vguard h false (λ a=>vbin .neq j k λ b=>a b l) l λ j k=>vguard h false (λ a=>a j k) k λ j k=>vguard j true (λ a=>a d k) k λ k l=>vguard j true (λ a=>a (i 7) l) l λ l m=>vguard j true (λ a=>a (f 6) m) m λ m n=>vguard j true (λ a=>ag PP dB [k,l,m] n λ b c=>a b c) n λ k l=>vguard h false (λ a=>xP j k (.bool false) l λ b c=>a b c) l λ j k=>xP h (.bool true) j k λ h j=>vcond h (aD [b,c,d,e,(f 6),(i 7)] [b,c,d,e,(f 6),(i 7)]/\g [] j) (xI a (.int .i64 0) 1 j λ h j=>xL h 1 false j λ h j=>ag PP dB [d,h,(f 6)] j λ h j=>vguard h false (λ a=>a d j) j λ j k=>vguard h false (λ b=>b a k) k λ a k=>vguard h false (λ b=>xI a (.int .i64 1) 1 k λ a c=>b a c) k λ a k=>vguard h false (λ b=>xL a 1 false k λ a c=>b a c) k λ a k=>vguard h false (λ a=>a (f 6) k) k λ k l=>vguard h false (λ b=>ag PP dB [j,a,k] l λ a c=>b a c) l λ a j=>xP h (.bool true) a j λ a h=>vcond a (xI e (f 6) 1 h λ a h=>xL a 1 false h λ a h=>ab PP (.bldS true 1 1 (.int .i64 0) [(0,(.c (i 7)))]) h λ h j=>ab PP (.app (.c a) (.c h) 1 8 (.int .i64 0)) j λ a h=>xI e (f 6) 1 h λ h j=>xS h a 1 j λ a h=>aD [b,c,d,e,(f 6),(i 7)] [b,c,d,e,(f 6),(i 7)]/\g [] h) (aD [b,c,d,e,(f 6),(i 7)] [b,c,d,e,(f 6),(i 7)]/\g [] h))) (aD [b,c,d,e,(f 6)] [b,c,d,e,(f 6)]/\g [] k)
def pN (a:Heap) (b c d e:D) (f:HJq):Prop :=
 ∃(g:Nat->HJq) (h:Nat),g h [(.int .i64 0)] a/\∀(a:Nat) (h:Nat->D) (i:Heap),g a [h 6] i->xF b 7 i λ i j=>xL i 1 false j λ i j=>aM i j λ i=>vbin .lss (h 6) i λ i=>vcond i ( ∃(f:HJq),( ∀(i:Nat->D) (j:Heap),f [] j->vbin .add (h 6) (.int .i64 1) λ f=>aD [b,c,d,e] [b,c,d,e]/\∃b,b<a/\g b [f] j)/\jM j b c d e h f) (aD [e] [e]/\f [] j)
def uQ (a:D) (b:Heap) (K:HKq):Prop :=
 xB a b λ a b=>yL a 8 true b λ c=>yL a 8 true b λ d=>ag PP mC [c] b λ b c=>((yL a 8 true c λ a=>aD [a] [d])/\True)/\ag PP kK [b,(.int .i64 0),(.int .i64 (-1))] c λ b c=>((yL a 8 true c λ a=>aD [a] [d])/\True)/\ag PP ra [d] c λ c d=>xF a 7 d λ d e=>xL d 1 false e λ d e=>aM d e λ d=>ab PP (.mk 1 24 .nil (.c d) (.c d)) e λ d e=>∃(f:HJq),( ∀(a:Nat->D) (b:Heap),f [] b->K d b)/\pN e a b c d f
theorem BG (a0:D) (h0:Heap) (K:HKq):uQ a0 h0 K=dt vq K [a0] h0:=by kernel_rfl
def CE:TLq
 | 1000010=>some ([],[])|4=>some ([2,4,5,8],[11])|_=>none
def G7:TTq
 | 7=>some ([0,1,0,7,15,31,63,127,127,383,127,1919,3967,8063,16255,32767,65535,131071],[],[])|_=>none
noncomputable abbrev Ah:=cFn PP true jq CE (cDr PP 52 G7)
noncomputable def Ay:aN:=⟨52,aU Ah,[.t 10]⟩
theorem F4:Ah=some Ay:=by kernel_rfl
def sK (a:Heap) (b c d e:D) (f:HJq) (K:HKq):Prop :=
 ∃(g:Nat->HJq) (h:Nat),g h [(.int .i64 0)] a/\∀(a:Nat) (h:Nat->D) (i:Heap),g a [h 11] i->xI b c 1 i λ i j=>xL i 1 false j λ i j=>aM i j λ i=>vbin .lss (h 11) i λ i=>vcond i (xI b c 1 j λ f i=>xL f 1 false i λ f i=>xI f (h 11) 1 i λ f i=>xL f 1 false i λ f i=>yF d 0 i λ j=>yL j 1 false i λ j=>yI j f 1 i λ j=>yL j 1 false i λ j=>vun .not j λ j=>ai j false (λ a=>yL d 2 true i λ b=>a b) λ k=>ai j false (λ a=>yF e 7 i λ b=>a b) λ l=>ai j false (λ a=>yL l 1 false i λ b=>a b) λ l=>ai j false (λ a=>a f) λ f=>ai j false (λ a=>yI l f 14 i λ b=>a b) λ f=>ai j false (λ a=>yF f 1 i λ b=>a b) λ f=>ai j false (λ a=>yF f 5 i λ b=>a b) λ f=>ai j false (λ a=>yL f 3 true i λ b=>a b) λ f=>ai j false (λ a=>au PP (.call ct [(.c k),(.c f)]) i λ b=>a b) λ f=>ai j false (λ a=>vun .not f λ b=>a b) λ f=>yP j (.bool true) f i λ f=>vcond f (K (.bool false) i) (vbin .add (h 11) (.int .i64 1) λ f=>aD [b,c,e,d] [b,c,e,d]/\∃b,b<a/\g b [f] i)) (aD [] []/\f [] j)
def zT (a b c d e:D) (f:Heap) (K:HKq):Prop :=
 xB a f λ a f=>xB d f λ d f=>xI b e 1 f λ b f=>xL b 1 false f λ b f=>vun .not b λ b=>vcond b (K (.bool false) f) ( ∃(b:HJq),( ∀(a:Nat->D) (c:Heap),b [] c->K (.bool true) c)/\sK f c e d a b K)
theorem FH (a0:D) (a1:D) (a2:D) (a3:D) (a4:D) (h0:Heap) (K:HKq):zT a0 a1 a2 a3 a4 h0 K=dt Ay K [a0,a1,a2,a3,a4] h0:=by kernel_rfl
end Go.Am
namespace Go.Am
open Go Go.Proofs
def w9:TLq
 | 1000014=>some ([],[])|2=>some ([1,3,4,6],[9])|1000004=>some ([1,3,4,6,9],[])|8=>some ([1,3,4,6,9],[10])|_=>none
def AT:TTq
 | _=>none
noncomputable abbrev s9:=cFn PP true dH w9 (cDr PP 91 AT)
noncomputable def tq:aN:=⟨91,aU s9,[.t 8]⟩
theorem zw:s9=some tq:=by kernel_rfl
def je (a:Heap) (b:D) (c:Nat->D) (d e f:D) (g:HJq) (K:HKq):Prop :=
 ∃(h:Nat->HJq) (i:Nat),h i [(.int .i64 0)] a/\∀(a:Nat) (i:Nat->D) (j:Heap),h a [i 10] j->xF b 7 j λ j k=>xL j 1 false k λ j k=>xI j (c 9) 14 k λ j k=>xF j 0 k λ j k=>xL j 1 false k λ j k=>aM j k λ j=>vbin .lss (i 10) j λ j=>vcond j (xF b 7 k λ g j=>xL g 1 false j λ g j=>xI g (c 9) 14 j λ g j=>xF g 0 j λ g j=>xL g 1 false j λ g j=>xI g (i 10) 15 j λ g j=>xL g 15 true j λ g j=>ab PP (.alloc (.agg [zI,zI,zI,zI,zI,zJ,zI,zI,zJ,zI,zI,zJ,zI,zI,zJ])) j λ j k=>xS j g 15 k λ g k=>xL j 15 true k λ g k=>ag PP wV [g] k λ g k=>vbin .eql g d λ g=>vguard g true (λ a=>xF e 0 k λ b c=>a b c) k λ k l=>vguard g true (λ a=>xL k 1 false l λ b c=>a b c) l λ k l=>vguard g true (λ a=>a (c 9) l) l λ l m=>vguard g true (λ a=>xI k l 1 m λ b c=>a b c) m λ k l=>vguard g true (λ a=>xL k 1 false l λ b c=>a b c) l λ k l=>vguard g true (λ a=>vun .not k λ b=>a b l) l λ k l=>vguard g true (λ a=>a k l) l λ k l=>vguard k false (λ a=>xL j 15 true l λ b c=>a b c) l λ l m=>vguard k false (λ a=>ag PP pg [l] m λ b c=>a b c) m λ l m=>vguard k false (λ a=>vun .not l λ b=>a b m) m λ l m=>vguard g true (λ a=>xP k (.bool true) l m λ b c=>a b c) m λ k l=>vguard g true (λ a=>a k l) l λ k l=>vguard k false (λ a=>xL e 2 true l λ b c=>a b c) l λ l m=>vguard k false (λ a=>xF j 6 m λ b c=>a b c) m λ m n=>vguard k false (λ a=>xL m 3 true n λ b c=>a b c) n λ m n=>vguard k false (λ a=>ag PP ct [l,m] n λ b c=>a b c) n λ l m=>vguard k false (λ a=>vun .not l λ b=>a b m) m λ l m=>vguard g true (λ a=>xP k (.bool true) l m λ b c=>a b c) m λ k l=>vguard g true (λ a=>a k l) l λ k l=>vguard k false (λ a=>xL e 2 true l λ b c=>a b c) l λ l m=>vguard k false (λ a=>xF j 9 m λ b c=>a b c) m λ m n=>vguard k false (λ a=>xL m 3 true n λ b c=>a b c) n λ m n=>vguard k false (λ a=>ag PP ct [l,m] n λ b c=>a b c) n λ l m=>vguard k false (λ a=>vun .not l λ b=>a b m) m λ l m=>vguard g true (λ a=>xP k (.bool true) l m λ b c=>a b c) m λ k l=>vguard g true (λ a=>a k l) l λ k l=>vguard k false (λ a=>xL e 2 true l λ b c=>a b c) l λ l m=>vguard k false (λ a=>xF j 12 m λ b c=>a b c) m λ j m=>vguard k false (λ a=>xL j 3 true m λ b c=>a b c) m λ j m=>vguard k false (λ a=>ag PP ct [l,j] m λ b c=>a b c) m λ j l=>vguard k false (λ a=>vun .not j λ b=>a b l) l λ j l=>vguard g true (λ a=>xP k (.bool true) j l λ b c=>a b c) l λ j k=>xP g j (.bool false) k λ g j=>vcond g (K (.bool false) j) (vbin .add (i 10) (.int .i64 1) λ g=>aD [f,d,b,e,(c 9)] [f,d,b,e,(c 9)]/\∃b,b<a/\h b [g] j)) (aD [f,d,b,e,(c 9)] [f,d,b,e,(c 9)]/\g [] k)
def od (a:Heap) (b c d e:D) (f:HJq) (K:HKq):Prop :=
 ∃(g:Nat->HJq) (h:Nat),g h [(.int .i64 0)] a/\∀(a:Nat) (h:Nat->D) (i:Heap),g a [h 9] i->xF b 7 i λ i j=>xL i 1 false j λ i j=>aM i j λ i=>vbin .lss (h 9) i λ i=>vcond i ( ∃(f:HJq),( ∀(i:Nat->D) (j:Heap),f [] j->vbin .add (h 9) (.int .i64 1) λ f=>aD [c,d,b,e] [c,d,b,e]/\∃b,b<a/\g b [f] j)/\xI c (h 9) 1 j λ a g=>xL a 1 false g λ a g=>vun .not a λ a=>vcond a (aD [c,d,b,e,(h 9)] [c,d,b,e,(h 9)]/\f [] g) (xF b 7 g λ a g=>xL a 1 false g λ a g=>xI a (h 9) 14 g λ a g=>xF a 1 g λ a g=>xL a 13 true g λ a g=>ag PP tQ [a] g λ a g=>vbin .eql a d λ a=>vcond a (K (.bool false) g) (je g b h d e c f K))) (aD [] []/\f [] j)
def sI (a b c d:D) (e:Heap) (K:HKq):Prop :=
 xB a e λ a e=>xB c e λ c e=>∃(f:HJq),( ∀(a:Nat->D) (b:Heap),f [] b->K (.bool true) b)/\od e a b d c f K
theorem zk (a0:D) (a1:D) (a2:D) (a3:D) (h0:Heap) (K:HKq):sI a0 a1 a2 a3 h0 K=dt tq K [a0,a1,a2,a3] h0:=by kernel_rfl
def xd:TLq
 | 1000009=>some ([],[])|4=>some ([0,1],[5])|_=>none
def AV:TTq
 | 6=>some ([0,0,3,7,0,0,48,112,255],[],[])|_=>none
noncomputable abbrev tc:=cFn PP true iD xd (cDr PP 26 AV)
noncomputable def tv:aN:=⟨26,aU tc,[.t 4]⟩
theorem zy:tc=some tv:=by kernel_rfl
def oi (a:Heap) (b c:D) (d:HJq) (K:HKq):Prop :=
 ∃(e:Nat->HJq) (f:Nat),e f [(.int .i64 0)] a/\∀(a:Nat) (f:Nat->D) (g:Heap),e a [f 5] g->aM b g λ h=>vbin .lss (f 5) h λ h=>vcond h (yI b (f 5) 1 g λ d=>yL d 1 false g λ d=>yI c (f 5) 1 g λ h=>yL h 1 false g λ h=>vbin .neq d h λ d=>vcond d (K (.bool false) g) (vbin .add (f 5) (.int .i64 1) λ d=>aD [b,c] [b,c]/\∃b,b<a/\e b [d] g)) (aD [] []/\d [] g)
def sO (a b:D) (c:Heap) (K:HKq):Prop :=
 aM a c λ d=>aM b c λ e=>vbin .neq d e λ d=>vcond d (K (.bool false) c) ( ∃(d:HJq),( ∀(a:Nat->D) (b:Heap),d [] b->K (.bool true) b)/\oi c a b d K)
theorem zm (a0:D) (a1:D) (h0:Heap) (K:HKq):sO a0 a1 h0 K=dt tv K [a0,a1] h0:=by kernel_rfl
def Bk:TLq
 | 1000008=>some ([1,2],[])|2=>some ([1,2,3,9,10],[11])|_=>none
def ET:TTq
 | _=>none
noncomputable abbrev yf:=cFn PP true kM Bk (cDr PP 42 ET)
noncomputable def yx:aN:=⟨42,aU yf,[.t 6]⟩
theorem EA:yf=some yx:=by kernel_rfl
def qw (a:Heap) (b c d e:D) (f:HJq) (K:HKq):Prop :=
 ∃(g:Nat->HJq) (h:Nat),g h [(.int .i64 0)] a/\∀(a:Nat) (h:Nat->D) (i:Heap),g a [h 11] i->vbin .lss (h 11) b λ j=>vcond j (xI c (h 11) 1 i λ f i=>xL f 1 false i λ f i=>vbin .lss f (.int .i64 0) λ j=>vguard j false (λ a=>a f i) i λ i k=>vguard j false (λ a=>xF d 7 k λ b c=>a b c) k λ k l=>vguard j false (λ a=>xL k 1 false l λ b c=>a b c) l λ k l=>vguard j false (λ a=>aM k l λ b=>a b l) l λ k l=>vguard j false (λ a=>vbin .geq i k λ b=>a b l) l λ i k=>xP j (.bool true) i k λ i j=>vguard i false (λ a=>a (h 11) j) j λ j k=>vguard i false (λ a=>vbin .gtr j (.int .i64 0) λ b=>a b k) k λ j k=>vguard i false (λ a=>a j k) k λ j k=>vguard j true (λ a=>a c k) k λ k l=>vguard j true (λ a=>a (h 11) l) l λ l m=>vguard j true (λ a=>vbin .sub l (.int .i64 1) λ b=>a b m) m λ l m=>vguard j true (λ a=>xI k l 1 m λ b c=>a b c) m λ k l=>vguard j true (λ a=>xL k 1 false l λ b c=>a b c) l λ k l=>vguard j true (λ a=>a f l) l λ f l=>vguard j true (λ a=>vbin .geq k f λ b=>a b l) l λ f k=>vguard i false (λ a=>xP j f (.bool false) k λ b c=>a b c) k λ f j=>xP i (.bool true) f j λ f i=>vcond f (K (.bool false) i) (vbin .add (h 11) (.int .i64 1) λ f=>aD [c,e,d,c,b] [c,e,d,c,b]/\∃b,b<a/\g b [f] i)) (aD [c,e] [c,e]/\f [] i)
def xV (a b c:D) (d:Heap) (K:HKq):Prop :=
 xB a d λ a d=>∃(e:HJq),( ∀(a:Nat->D) (d:Heap),e [] d->ag PP bn [b,c] d λ a b=>K a b)/\aM b d λ f=>qw d f b a c e K
theorem DL (a0:D) (a1:D) (a2:D) (h0:Heap) (K:HKq):xV a0 a1 a2 h0 K=dt yx K [a0,a1,a2] h0:=by kernel_rfl
def jJ:TLq
 | 1000009=>some ([0,1,6],[7])|3=>some ([0,1,6],[7,8])|_=>none
def kC:TTq
 | _=>none
noncomputable abbrev fP:=cFn PP true cU jJ (cDr PP 54 kC)
noncomputable def fR:aN:=⟨54,aU fP,[.t 4,.t 5]⟩
theorem kr:fP=some fR:=by kernel_rfl
def ej (a:D) (b:Heap) (c d:D) (e:HJq):Prop :=
 ∃(f:Nat->HJq) (g:Nat),f g [(.int .i64 0),a] b/\∀(b:Nat) (g:Nat->D) (h:Heap),f b [g 7,g 8] h->vbin .lss (g 7) (g 8) λ i=>vcond i (vbin .add (g 7) (g 8) λ e=>xC .u64 e h λ e h=>vbin .shr e (.int .u64 1) λ e=>xC .i64 e h λ e h=>xI c e 1 h λ h i=>xL h 1 false i λ h i=>ag PP pn [h,d] i λ h i=>vcond h (vbin .add e (.int .i64 1) λ e=>aD [c,d,a] [c,d,a]/\∃a,a<b/\f a [e,(g 8)] i) (aD [c,d,a] [c,d,a]/\∃a,a<b/\f a [(g 7),e] i)) (aD [c,d,a] [c,d,a]/\e [(g 7)] h)
def fN (a b:D) (c:Heap) (K:HKq):Prop :=
 aM a c λ d=>∃(e:HJq),( ∀(c:Nat->D) (f:Heap),e [c 7] f->vbin .lss (c 7) d λ d=>vguard d true (λ b=>b a f) f λ e f=>vguard d true (λ a=>a (c 7) f) f λ f g=>vguard d true (λ a=>xI e f 1 g λ b c=>a b c) g λ e f=>vguard d true (λ a=>xL e 1 false f λ b c=>a b c) f λ e f=>vguard d true (λ a=>a b f) f λ f g=>vguard d true (λ a=>vbin .eql e f λ b=>a b g) g λ e f=>vguard d true (λ a=>a e f) f λ e f=>vguard e false (λ b=>b a f) f λ a f=>vguard e false (λ a=>a (c 7) f) f λ f g=>vguard e false (λ b=>xI a f 1 g λ a c=>b a c) g λ a f=>vguard e false (λ b=>xL a 1 false f λ a c=>b a c) f λ a f=>vguard e false (λ b=>ag PP gf [a] f λ a c=>b a c) f λ a f=>vguard e false (λ b=>b a f) f λ a f=>vguard a true (λ a=>a b f) f λ b f=>vguard a true (λ a=>ag PP gf [b] f λ b c=>a b c) f λ b f=>vguard e false (λ c=>xP a b (.bool false) f λ a b=>c a b) f λ a b=>vguard d true (λ c=>xP e (.bool true) a b λ a b=>c a b) b λ a b=>xP d a (.bool false) b λ a b=>K (.tup [(c 7),a]) b)/\ej d c a b e
theorem ko (a0:D) (a1:D) (h0:Heap) (K:HKq):fN a0 a1 h0 K=dt fR K [a0,a1] h0:=by kernel_rfl
def Bf:TLq
 | 1000007=>some ([],[])|2=>some ([1,2],[5])|_=>none
def EN:TTq
 | 4=>some ([0,0,3,7,15,31,63,63,255,511,63,1087,3135,8191,16383,32767,65535,131071,262143,524287,524287,1572863,4194303,8388607,524287,524287,50855935,117964799,268435455,536870911,1073741823],[],[])|_=>none
noncomputable abbrev ya:=cFn PP true kI Bf (cDr PP 43 EN)
noncomputable def yn:aN:=⟨43,aU ya,[.t 4]⟩
theorem Eg:ya=some yn:=by kernel_rfl
def qt (a:Heap) (b c:D) (d:HJq) (K:HKq):Prop :=
 ∃(e:Nat->HJq) (f:Nat),e f [(.int .i64 0)] a/\∀(a:Nat) (f:Nat->D) (g:Heap),e a [f 5] g->aM b g λ h=>vbin .lss (f 5) h λ h=>vcond h (yI b (f 5) 1 g λ d=>yL d 1 false g λ d=>vbin .lss d (.int .i64 0) λ d=>ai d false (λ a=>a b) λ h=>ai d false (λ a=>a (f 5)) λ i=>ai d false (λ a=>yI h i 1 g λ b=>a b) λ h=>ai d false (λ a=>yL h 1 false g λ b=>a b) λ h=>ai d false (λ a=>yF c 7 g λ b=>a b) λ i=>ai d false (λ a=>yL i 1 false g λ b=>a b) λ i=>ai d false (λ a=>aM i g λ b=>a b) λ i=>ai d false (λ a=>vbin .geq h i λ b=>a b) λ h=>yP d (.bool true) h g λ d=>ai d false (λ a=>a (f 5)) λ h=>ai d false (λ a=>vbin .gtr h (.int .i64 0) λ b=>a b) λ h=>ai d false (λ a=>a h) λ h=>ai h true (λ a=>a b) λ i=>ai h true (λ a=>a (f 5)) λ j=>ai h true (λ a=>vbin .sub j (.int .i64 1) λ b=>a b) λ j=>ai h true (λ a=>yI i j 1 g λ b=>a b) λ i=>ai h true (λ a=>yL i 1 false g λ b=>a b) λ i=>ai h true (λ a=>a b) λ j=>ai h true (λ a=>a (f 5)) λ k=>ai h true (λ a=>yI j k 1 g λ b=>a b) λ j=>ai h true (λ a=>yL j 1 false g λ b=>a b) λ j=>ai h true (λ a=>vbin .geq i j λ b=>a b) λ i=>ai d false (λ a=>yP h i (.bool false) g λ b=>a b) λ h=>yP d (.bool true) h g λ d=>vcond d (K (.bool false) g) (vbin .add (f 5) (.int .i64 1) λ d=>aD [b,c] [b,c]/\∃b,b<a/\e b [d] g)) (aD [] []/\d [] g)
def xG (a b:D) (c:Heap) (K:HKq):Prop :=
 xB a c λ a c=>∃(d:HJq),( ∀(a:Nat->D) (b:Heap),d [] b->K (.bool true) b)/\qt c b a d K
theorem Dt (a0:D) (a1:D) (h0:Heap) (K:HKq):xG a0 a1 h0 K=dt yn K [a0,a1] h0:=by kernel_rfl
def Be:TLq
 | 1000012=>some ([],[])|2=>some ([1,2,3],[7])|1000004=>some ([1,2,3,7],[])|7=>some ([1,2,3,7,8,9],[10])|_=>none
def EM:TTq
 | 4=>some ([0,1,0,0,12,28,63,127,255,0,1023],[9,10],[])|_=>none
noncomputable abbrev x9:=cFn PP true pe Be (cDr PP 60 EM)
noncomputable def ym:aN:=⟨60,aU x9,[.t 6]⟩
theorem Ef:x9=some ym:=by kernel_rfl
def qq (a:Heap) (b c d e f:D) (g:Nat->D) (h:HJq) (K:HKq):Prop :=
 ∃(i:Nat->HJq) (j:Nat),i j [(.int .i64 0)] a/\∀(a:Nat) (j:Nat->D) (k:Heap),i a [j 10] k->aM b k λ l=>vbin .lss (j 10) l λ l=>vcond l (xF c 0 k λ h k=>xL h 1 false k λ h k=>vbin .eql h (.int .i64 3) λ h=>vguard h true (λ a=>a d k) k λ k l=>vguard h true (λ a=>a b l) l λ l m=>vguard h true (λ a=>a (j 10) m) m λ m n=>vguard h true (λ a=>xI l m 1 n λ b c=>a b c) n λ l m=>vguard h true (λ a=>xL l 1 false m λ b c=>a b c) m λ l m=>vguard h true (λ a=>ag PP cJ [k,l] m λ b c=>a b c) m λ k l=>vguard h true (λ a=>vun .not k λ b=>a b l) l λ k l=>xP h k (.bool false) l λ h k=>vguard h false (λ a=>xF c 0 k λ b c=>a b c) k λ k l=>vguard h false (λ a=>xL k 1 false l λ b c=>a b c) l λ k l=>vguard h false (λ a=>vbin .neq k (.int .i64 3) λ b=>a b l) l λ k l=>vguard h false (λ a=>a k l) l λ k l=>vguard k true (λ a=>a e l) l λ l m=>vguard k true (λ a=>a b m) m λ m n=>vguard k true (λ a=>a (j 10) n) n λ n o=>vguard k true (λ a=>xI m n 1 o λ b c=>a b c) o λ m n=>vguard k true (λ a=>xL m 1 false n λ b c=>a b c) n λ m n=>vguard k true (λ a=>ag PP cJ [l,m] n λ b c=>a b c) n λ l m=>vguard k true (λ a=>vun .not l λ b=>a b m) m λ l m=>vguard h false (λ a=>xP k l (.bool false) m λ b c=>a b c) m λ k l=>xP h (.bool true) k l λ h k=>vcond h (K (.bool false) k) (vbin .add (j 10) (.int .i64 1) λ h=>aD [e,d,f,(g 7),c,b] [e,d,f,(g 7),c,b]/\∃b,b<a/\i b [h] k)) (aD [e,d,f,(g 7)] [e,d,f,(g 7)]/\h [] k)
def qp (a:Heap) (b c d:D) (e:HJq) (K:HKq):Prop :=
 ∃(f:Nat->HJq) (g:Nat),f g [(.int .i64 0)] a/\∀(a:Nat) (g:Nat->D) (h:Heap),f a [g 7] h->aM b h λ i=>vbin .lss (g 7) i λ i=>vcond i ( ∃(e:HJq),( ∀(h:Nat->D) (i:Heap),e [] i->vbin .add (g 7) (.int .i64 1) λ e=>aD [b,c,d] [b,c,d]/\∃b,b<a/\f b [e] i)/\yF d 7 h λ a=>yL a 1 false h λ a=>yI b (g 7) 1 h λ f=>yL f 1 false h λ f=>yI a f 14 h λ a=>yF a 1 h λ a=>yL a 13 true h λ a=>ab PP (.alloc (.agg [zI,zI,zI,zI,zJ,zI,zI,zJ,zI,zI,zJ,zI,zI])) h λ f h=>xS f a 13 h λ a h=>xL f 13 true h λ a h=>ag PP kL [a] h λ a h=>qq h a f c b d g e K) (aD [] []/\e [] h)
def xE (a b c:D) (d:Heap) (K:HKq):Prop :=
 xB a d λ a d=>∃(e:HJq),( ∀(a:Nat->D) (b:Heap),e [] b->K (.bool true) b)/\qp d b c a e K
theorem Ds (a0:D) (a1:D) (a2:D) (h0:Heap) (K:HKq):xE a0 a1 a2 h0 K=dt ym K [a0,a1,a2] h0:=by kernel_rfl
def y7:TLq
 | 1000008=>some ([4],[])|4000006=>some ([3,4],[1000000])|_=>none
def Cc:TTq
 | _=>none
noncomputable abbrev u6:=cFn PP true m9 y7 (cDr PP 28 Cc)
noncomputable def vo:aN:=⟨28,aU u6,[.cell 4 1 false]⟩
theorem BQ:u6=some vo:=by kernel_rfl
def jQ:ACode:=.reg [⟨(some 5),.alloc (.agg [(.bool false),(.int .i64 0),.nil,(.bool false)]),none⟩,
  ⟨none,.st (.t 5) (.t 23) 4,none⟩]
def jP:ACode:=.block 1 (.seq (.reg [⟨(some 24),.ld (.t 3) 2 true,none⟩,
  ⟨(some 25),.ld (.t 5) 4 true,none⟩,
  ⟨(some 26),.call kH [(.t 24),(.t 25)],none⟩,
  ⟨(some 27),.un .not (.t 26),none⟩]) <|
 .cond (.t 27) (.seq (.reg [⟨none,.st (.t 4) (.c (.int .i64 100)) 1,none⟩]) <|
 .ret) (.skip))
def pH (a:Nat) (b:dT) (c d e:D) (f:Heap) (K:HKq):Prop :=
 ab PP (.alloc (.agg [(.bool false),zI,.nil,(.bool false)])) f λ f g=>xS f c 4 g λ c g=>Ex.normal=Ex.normal/\g a=.lp .ready b/\xL d 2 true (aF g a (.lp .busy b)) λ c d=>xL f 4 true d λ d f=>ag PP kH [c,d] f λ c d=>vun .not c λ c=>vcond c (xS e (.int .i64 100) 1 d λ c d=>d a=.lp .busy b/\K (.bool false) (aF d a (.lp (.done .ret) b))) (d a=.lp .busy b/\K (.bool true) (aF d a (.lp .ready b)))
theorem vY (n0:Nat) (B0:dT) (a23:D) (a3:D) (a4:D) (h0:Heap) (K:HKq):pH n0 B0 a23 a3 a4 h0 K=O3 PP n0 B0 [23] [a23] [(3,a3),(4,a4)] jQ jP h0 K:=by kernel_rfl
def uG (a b:D) (c:Heap) (K:HKq):Prop :=
 xB a c λ a c=>xB b c λ b c=>ab PP (.alloc (.int .i64 0)) c λ c d=>xF b 0 d λ d e=>xL d 1 false e λ d e=>aM d e λ d=>xF a 7 e λ e f=>xL e 1 false f λ e f=>aM e f λ e=>vbin .neq d e λ d=>vguard d false (λ a=>xF b 1 f λ b c=>a b c) f λ e f=>vguard d false (λ a=>xL e 1 false f λ b c=>a b c) f λ e f=>vguard d false (λ a=>aM e f λ b=>a b f) f λ e f=>vguard d false (λ b=>xF a 2 f λ a c=>b a c) f λ f g=>vguard d false (λ a=>xL f 1 false g λ b c=>a b c) g λ f g=>vguard d false (λ a=>vbin .neq e f λ b=>a b g) g λ e f=>xP d (.bool true) e f λ d e=>vcond d (xS c (.int .i64 100) 1 e λ a b=>xL c 1 false b λ a c=>K a b) ( ∃(d:HJq),( ∀(a:Nat->D) (b:Heap),d [] b->xS c (.int .i64 0) 1 b λ a b=>xL c 1 false b λ a c=>K a b)/\xL a 8 true e λ a e=>ag PP m8 [a] e λ a e=>SW PP a [23] [(3,b),(4,c)] jQ jP e λ a b=>lW a b (aD [c] [c]/\d [] (aF b a .dead)) (λ a=>(a=1000000/\(False))\/(False)) ((1000000=1000000/\(xL c 1 false (aF b a .dead) λ c d=>K c (aF b a .dead)))\/(False)))
theorem BF (a0:D) (a1:D) (h0:Heap) (K:HKq):uG a0 a1 h0 K=dt vo K [a0,a1] h0:=by kernel_rfl
def l7:TLq
 | _=>none
def m7:TTq
 | _=>none
noncomputable abbrev iq:=cFn PP true bn l7 (cDr PP 9 m7)
noncomputable def iw:aN:=⟨9,aU iq,[.t 4]⟩
theorem mS:iq=some iw:=by kernel_rfl
def ik (a b:D) (c:Heap) (K:HKq):Prop :=
 ag PP fK [a,b] c λ a b=>vbin .geq a (.int .i64 0) λ a=>K a b
theorem mK (a0:D) (a1:D) (h0:Heap) (K:HKq):ik a0 a1 h0 K=dt iw K [a0,a1] h0:=by kernel_rfl
def CF:TLq
 | 1000011=>some ([2,3,5],[])|6=>some ([2,3,5,6],[7])|1000016=>some ([],[])|11=>some ([2,3,5],[8])|_=>none
def G8:TTq
 | _=>none
noncomputable abbrev Ai:=cFn PP true qY CF (cDr PP 69 G8)
noncomputable def Az:aN:=⟨69,aU Ai,[.t 4]⟩
theorem F5:Ai=some Az:=by kernel_rfl
def mj (a:Heap) (b c d:D) (e:HJq) (K:HKq):Prop :=
 ∃(f:Nat->HJq) (g:Nat),f g [(.int .i64 0)] a/\∀(a:Nat) (g:Nat->D) (h:Heap),f a [g 8] h->xF b 1 h λ h i=>xL h 1 false i λ h i=>aM h i λ h=>vbin .lss (g 8) h λ h=>vcond h (xF b 1 i λ e h=>xL e 1 false h λ e h=>xI e (g 8) 1 h λ e h=>xL e 1 false h λ e h=>vguard e true (λ a=>xL c 8 true h λ b c=>a b c) h λ h i=>vguard e true (λ a=>a d i) i λ i j=>vguard e true (λ a=>xL b 2 true j λ b c=>a b c) j λ j k=>vguard e true (λ a=>a (g 8) k) k λ k l=>vguard e true (λ a=>ag PP dH [h,i,j,k] l λ b c=>a b c) l λ h i=>vguard e true (λ a=>vun .not h λ b=>a b i) i λ h i=>xP e h (.bool false) i λ e h=>vcond e (K (.int .i64 100) h) (vbin .add (g 8) (.int .i64 1) λ e=>aD [c,b,d] [c,b,d]/\∃b,b<a/\f b [e] h)) (aD [] []/\e [] i)
def mi (a:Heap) (b c d e:D) (f:HJq) (K:HKq):Prop :=
 ∃(g:Nat->HJq) (h:Nat),g h [(.int .i64 0)] a/\∀(a:Nat) (h:Nat->D) (i:Heap),g a [h 7] i->xF b 0 i λ i j=>xL i 1 false j λ i j=>aM i j λ i=>vbin .lss (h 7) i λ i=>vcond i (xF b 0 j λ f i=>xL f 1 false i λ f i=>xI f (h 7) 1 i λ f i=>xL f 1 false i λ f i=>vguard f true (λ a=>xL c 8 true i λ b c=>a b c) i λ i j=>vguard f true (λ a=>a d j) j λ j k=>vguard f true (λ a=>a e k) k λ k l=>vguard f true (λ a=>xL b 2 true l λ b c=>a b c) l λ l m=>vguard f true (λ a=>a (h 7) m) m λ m n=>vguard f true (λ a=>ag PP jq [i,j,k,l,m] n λ b c=>a b c) n λ i j=>vguard f true (λ a=>vun .not i λ b=>a b j) j λ i j=>xP f i (.bool false) j λ f i=>vcond f (K (.int .i64 100) i) (vbin .add (h 7) (.int .i64 1) λ f=>aD [c,b,d,e] [c,b,d,e]/\∃b,b<a/\g b [f] i)) (aD [c,b,d] [c,b,d]/\f [] j)
def zU (a b:D) (c:Heap) (K:HKq):Prop :=
 xB a c λ a c=>xB b c λ b c=>xF b 0 c λ c d=>xL c 1 false d λ c d=>aM c d λ c=>xF a 7 d λ d e=>xL d 1 false e λ d e=>aM d e λ d=>vbin .neq c d λ c=>vguard c false (λ a=>xF b 1 e λ b c=>a b c) e λ d e=>vguard c false (λ a=>xL d 1 false e λ b c=>a b c) e λ d e=>vguard c false (λ a=>aM d e λ b=>a b e) e λ d e=>vguard c false (λ b=>xF a 2 e λ a c=>b a c) e λ e f=>vguard c false (λ a=>xL e 1 false f λ b c=>a b c) f λ e f=>vguard c false (λ a=>vbin .neq d e λ b=>a b f) f λ d e=>xP c (.bool true) d e λ c d=>vcond c (K (.int .i64 100) d) (xL a 8 true d λ c d=>ag PP fo [c] d λ c d=>xL a 8 true d λ d e=>ag PP gq [d] e λ d e=>∃(f:HJq),( ∀(d:Nat->D) (e:Heap),f [] e->∃(d:HJq),( ∀(a:Nat->D) (b:Heap),d [] b->K (.int .i64 0) b)/\mj e b a c d K)/\mi e b a c d f K)
theorem FJ (a0:D) (a1:D) (h0:Heap) (K:HKq):zU a0 a1 h0 K=dt Az K [a0,a1] h0:=by kernel_rfl
def iZ:TLq
 | _=>none
def jH:TTq
 | _=>none
noncomputable abbrev fh:=cFn PP true cC iZ (cDr PP 9 jH)
noncomputable def fj:aN:=⟨9,aU fh,[.t 4]⟩
theorem jy:fh=some fj:=by kernel_rfl
def fg (a b:D) (c:Heap) (K:HKq):Prop :=
 ag PP cZ [a,b] c λ a b=>vbin .geq a (.int .i64 0) λ a=>K a b
theorem ju (a0:D) (a1:D) (h0:Heap) (K:HKq):fg a0 a1 h0 K=dt fj K [a0,a1] h0:=by kernel_rfl
def sr:TLq
 | _=>none
def vI:TTq
 | _=>none
noncomputable abbrev ow:=cFn PP true nW sr (cDr PP 13 vI)
noncomputable def oC:aN:=⟨13,aU ow,[.t 4]⟩
theorem uA:ow=some oC:=by kernel_rfl
def oj (a b c:D) (d:Heap) (K:HKq):Prop :=
 xL b 1 false d λ b d=>ag PP bn [a,b] d λ b d=>vguard b true (λ b=>b a d) d λ a d=>vguard b true (λ a=>xL c 1 false d λ b c=>a b c) d λ c d=>vguard b true (λ b=>ag PP bn [a,c] d λ a c=>b a c) d λ a c=>xP b a (.bool false) c λ a b=>K a b
theorem uw (a0:D) (a1:D) (a2:D) (h0:Heap) (K:HKq):oj a0 a1 a2 h0 K=dt oC K [a0,a1,a2] h0:=by kernel_rfl
def Hp:TLq
 | _=>none
def Ky:TTq
 | _=>none
noncomputable abbrev GN:=cFn PP true cI Hp (cDr PP 5 Ky)
noncomputable def GX:aN:=⟨5,aU GN,[.cell 2 3 true]⟩
theorem Kl:GN=some GX:=by kernel_rfl
def GG (a:D) (b:Heap) (K:HKq):Prop :=
 ab PP (.alloc (.agg [zI,zI,zJ])) b λ b c=>ab PP (.bld [zI,zI,zJ] [(0,1,(.c (.int .i64 2))),(1,1,(.c a))]) c λ a c=>xS b a 3 c λ a c=>xL b 3 true c λ a b=>K a c
theorem J4 (a0:D) (h0:Heap) (K:HKq):GG a0 h0 K=dt GX K [a0] h0:=by kernel_rfl
def vP:TLq
 | _=>none
def y0:TTq
 | 2=>some ([0,1,3,7,15,0,0,64,192,448,960,0,4032,8128,16320,0,32768,131008,262143,524287,1048575],[17,20],[4,18])|_=>none
noncomputable abbrev qI:=cFn PP true aV vP (cDr PP 32 y0)
noncomputable def qP:aN:=⟨32,aU qI,[]⟩
theorem yt:qI=some qP:=by kernel_rfl
def qv (a b:D) (c:Heap) (K:HKq):Prop :=
 xB b c λ b c=>xF a 0 c λ c d=>xF c 2 d λ c d=>xF c 7 d λ c d=>xL c 1 false d λ c d=>aM c d λ c=>vbin .sub c (.int .i64 1) λ c=>yF a 0 d λ e=>yF e 2 d λ e=>yF e 7 d λ e=>yL e 1 false d λ f=>yF a 0 d λ a=>yF a 2 d λ a=>yF a 7 d λ a=>yL a 1 false d λ a=>yI a c 14 d λ a=>yF a 0 d λ a=>yL a 1 false d λ a=>yL b 15 true d λ b=>au PP (.bldS false 15 1 (.agg [zI,zI,zI,zI,zI,zJ,zI,zI,zJ,zI,zI,zJ,zI,zI,zJ]) [(0,(.c b))]) d λ b=>yI f c 14 d λ g=>yF g 0 d λ h=>ab PP (.app (.c a) (.c b) 15 120 (.agg [zI,zI,zI,zI,zI,zJ,zI,zI,zJ,zI,zI,zJ,zI,zI,zJ])) d λ a b=>((yL e 1 false b λ a=>aD [a] [f])/\(yI f c 14 b λ a=>aD [a] [g])/\True)/\xS h a 1 b λ a b=>((yL e 1 false b λ a=>aD [a] [f])/\(yI f c 14 b λ a=>aD [a] [g])/\True)/\K (.tup []) b
theorem xQ (a0:D) (a1:D) (h0:Heap) (K:HKq):qv a0 a1 h0 K=dt qP K [a0,a1] h0:=by kernel_rfl
def CN:TLq
 | _=>none
def Hf:TTq
 | _=>none
noncomputable abbrev Ap:=cFn PP true fp CN (cDr PP 5 Hf)
noncomputable def AG:aN:=⟨5,aU Ap,[.cell 2 3 true]⟩
theorem Gb:Ap=some AG:=by kernel_rfl
def z7 (a:D) (b:Heap) (K:HKq):Prop :=
 ab PP (.alloc (.agg [zI,zI,zJ])) b λ b c=>ab PP (.bld [zI,zI,zJ] [(0,1,(.c (.int .i64 1))),(2,1,(.c a))]) c λ a c=>xS b a 3 c λ a c=>xL b 3 true c λ a b=>K a c
theorem FQ (a0:D) (h0:Heap) (K:HKq):z7 a0 h0 K=dt AG K [a0] h0:=by kernel_rfl
def tZ:TLq
 | _=>none
def wN:TTq
 | 18=>some ([0,0,0,4,12,30,62,0,0,0,524,2046,4095],[3,10,12],[999999])|21=>some ([0,0,0,4,0,30,63],[3,6],[999999])|22=>some ([0,0,0,0,8,30,63],[4,6],[999999])|_=>none
noncomputable abbrev pZ:=cFn PP true jI tZ (cDr PP 133 wN)
noncomputable def qc:aN:=⟨133,aU pZ,[]⟩
theorem wy:pZ=some qc:=by kernel_rfl
def pQ (a:D) (b:Heap) (K:HKq):Prop :=
 ag PP aw [a] b λ b c=>vbin .rem b (.int .i64 16) λ b=>vbin .lss b (.int .i64 3) λ d=>vcond d (ag PP aw [a] c λ b c=>vbin .rem b (.int .i64 7) λ b=>vbin .add (.int .i64 1) b λ b=>ag PP bh [a] c λ c d=>ab PP (.bld [zI,zI,zI,zI,zI,zJ,zI,zI,zJ,zI,zI,zJ,zI,zI,zJ] [(0,1,(.c (.int .i64 5))),(1,1,(.c b)),(3,3,(.c c))]) d λ b c=>ag PP aV [a,b] c λ a b=>K (.tup []) b) (vbin .lss b (.int .i64 7) λ d=>vcond d (ag PP aw [a] c λ b c=>vbin .rem b (.int .i64 20) λ b=>vbin .add (.int .i64 10) b λ b=>ag PP bh [a] c λ c d=>ag PP bg [a] d λ d e=>ag PP bg [a] e λ e f=>ab PP (.bld [zI,zI,zI,zI,zI,zJ,zI,zI,zJ,zI,zI,zJ,zI,zI,zJ] [(0,1,(.c (.int .i64 3))),(1,1,(.c b)),(3,3,(.c c)),(6,3,(.c d)),(9,3,(.c e))]) f λ b c=>ag PP aV [a,b] c λ a b=>K (.tup []) b) (vbin .eql b (.int .i64 7) λ d=>vcond d (ag PP aw [a] c λ b c=>vbin .rem b (.int .i64 5) λ b=>vbin .add (.int .i64 1) b λ b=>ag PP bh [a] c λ c d=>ag PP bg [a] d λ d e=>ab PP (.bld [zI,zI,zI,zI,zI,zJ,zI,zI,zJ,zI,zI,zJ,zI,zI,zJ] [(0,1,(.c (.int .i64 2))),(1,1,(.c b)),(3,3,(.c c)),(6,3,(.c d))]) e λ b c=>ag PP aV [a,b] c λ a b=>K (.tup []) b) (vbin .eql b (.int .i64 8) λ d=>vcond d (ag PP bh [a] c λ b c=>ag PP bg [a] c λ c d=>ag PP bg [a] d λ d e=>ag PP bg [a] e λ e f=>ab PP (.bld [zI,zI,zI,zI,zI,zJ,zI,zI,zJ,zI,zI,zJ,zI,zI,zJ] [(0,1,(.c (.int .i64 4))),(3,3,(.c b)),(6,3,(.c c)),(9,3,(.c d)),(12,3,(.c e))]) f λ b c=>ag PP aV [a,b] c λ a b=>K (.tup []) b) (vbin .eql b (.int .i64 9) λ d=>vcond d (ag PP bh [a] c λ b c=>ag PP bg [a] c λ c d=>ab PP (.bld [zI,zI,zI,zI,zI,zJ,zI,zI,zJ,zI,zI,zJ,zI,zI,zJ] [(0,1,(.c (.int .i64 1))),(3,3,(.c b)),(6,3,(.c c))]) d λ b c=>ag PP aV [a,b] c λ a b=>K (.tup []) b) (vbin .eql b (.int .i64 10) λ d=>vcond d (ag PP aw [a] c λ b c=>vbin .rem b (.int .i64 3) λ b=>ag PP bh [a] c λ c d=>ab PP (.bld [zI,zI,zI,zI,zI,zJ,zI,zI,zJ,zI,zI,zJ,zI,zI,zJ] [(0,1,(.c (.int .i64 6))),(2,1,(.c b)),(3,3,(.c c))]) d λ b c=>ag PP aV [a,b] c λ a b=>K (.tup []) b) (vbin .eql b (.int .i64 11) λ d=>vcond d (ag PP aw [a] c λ b c=>vbin .rem b (.int .i64 2) λ b=>vbin .add (.int .i64 1) b λ b=>ab PP (.bld [zI,zI,zI,zI,zI,zJ,zI,zI,zJ,zI,zI,zJ,zI,zI,zJ] [(0,1,(.c (.int .i64 10))),(1,1,(.c b))]) c λ b c=>ag PP aV [a,b] c λ a b=>K (.tup []) b) (vbin .eql b (.int .i64 12) λ d=>vcond d (ag PP fB [a,(.bool false)] c λ b c=>ab PP (.ext (.c b) 0) c λ c d=>ab PP (.ext (.c b) 1) d λ b d=>ab PP (.alloc (.agg [zI,zI,zJ])) d λ d e=>xS d b 3 e λ b e=>au PP (.bldS false 1 6 (.int .i64 0) [(0,(.c (.int .i64 10))),(1,(.c (.int .i64 22))),(2,(.c (.int .i64 23))),(3,(.c (.int .i64 17))),(4,(.c (.int .i64 18))),(5,(.c (.int .i64 19)))]) e λ b=>yL d 3 true e λ f=>ag PP aw [a] e λ e g=>((yL d 3 true g λ a=>aD [a] [f])/\True)/\vbin .rem e (.int .i64 6) λ e=>yI b e 1 g λ h=>yL h 1 false g λ i=>ag PP bg [a] g λ g j=>((yI b e 1 j λ a=>aD [a] [h])/\(yL h 1 false j λ a=>aD [a] [i])/\(yL d 3 true j λ a=>aD [a] [f])/\True)/\au PP (.bld [zI,zI,zI,zI,zI,zJ,zI,zI,zJ,zI,zI,zJ,zI,zI,zJ] [(0,1,(.c (.int .i64 9))),(1,1,(.c i)),(2,1,(.c c)),(6,3,(.c f)),(9,3,(.c g))]) j λ b=>ag PP aV [a,b] j λ a b=>K (.tup []) b) (ag PP fB [a,(.bool true)] c λ c d=>ab PP (.ext (.c c) 0) d λ d e=>ab PP (.ext (.c c) 1) e λ c e=>ab PP (.alloc (.agg [zI,zI,zJ])) e λ e f=>xS e c 3 f λ c f=>vbin .eql b (.int .i64 13) λ b=>vcond b (yL e 3 true f λ b=>ag PP bh [a] f λ c f=>((yL e 3 true f λ a=>aD [a] [b])/\True)/\au PP (.bld [zI,zI,zI,zI,zI,zJ,zI,zI,zJ,zI,zI,zJ,zI,zI,zJ] [(0,1,(.c (.int .i64 7))),(2,1,(.c d)),(3,3,(.c c)),(6,3,(.c b))]) f λ b=>ag PP aV [a,b] f λ a b=>K (.tup []) b) (yL e 3 true f λ b=>ag PP bg [a] f λ c f=>((yL e 3 true f λ a=>aD [a] [b])/\True)/\au PP (.bld [zI,zI,zI,zI,zI,zJ,zI,zI,zJ,zI,zI,zJ,zI,zI,zJ] [(0,1,(.c (.int .i64 8))),(2,1,(.c d)),(6,3,(.c b)),(9,3,(.c c))]) f λ b=>ag PP aV [a,b] f λ a b=>K (.tup []) b)))))))))
theorem wg (a0:D) (h0:Heap) (K:HKq):pQ a0 h0 K=dt qc K [a0] h0:=by kernel_rfl
def Ff:TLq
 | _=>none
def IW:TTq
 | _=>none
noncomputable abbrev D6:=cFn PP true kL Ff (cDr PP 30 IW)
noncomputable def Eu:aN:=⟨30,aU D6,[.t 2]⟩
theorem H5:D6=some Eu:=by kernel_rfl
def DG (a:D) (b:Heap) (K:HKq):Prop :=
 xB a b λ a b=>xF a 0 b λ b c=>xL b 1 false c λ b c=>vbin .eql b (.int .i64 5) λ b=>vcond b (ab PP (.bldS true 1 0 (.int .i64 0) []) c λ a b=>K a b) (xF a 0 c λ b c=>xL b 1 false c λ b c=>vbin .eql b (.int .i64 2) λ b=>vguard b true (λ b=>xF a 11 c λ a c=>b a c) c λ c d=>vguard b true (λ a=>xJ c (.int .i64 0) 2 1 d λ b c=>a b c) d λ c d=>vguard b true (λ a=>xL c 1 false d λ b c=>a b c) d λ c d=>vguard b true (λ b=>xF a 11 d λ a c=>b a c) d λ d e=>vguard b true (λ a=>xJ d (.int .i64 1) 2 1 e λ b c=>a b c) e λ d e=>vguard b true (λ a=>xL d 1 false e λ b c=>a b c) e λ d e=>vguard b true (λ a=>vbin .neq c d λ b=>a b e) e λ c d=>xP b c (.bool false) d λ b c=>vcond b (xF a 11 c λ b c=>xJ b (.int .i64 0) 2 1 c λ b c=>xL b 1 false c λ b c=>xF a 11 c λ a c=>xJ a (.int .i64 1) 2 1 c λ a c=>xL a 1 false c λ a c=>ab PP (.bldS true 1 2 (.int .i64 0) [(0,(.c b)),(1,(.c a))]) c λ a b=>K a b) (xF a 11 c λ a b=>xJ a (.int .i64 0) 2 1 b λ a b=>xL a 1 false b λ a b=>ab PP (.bldS true 1 1 (.int .i64 0) [(0,(.c a))]) b λ a b=>K a b))
theorem HK (a0:D) (h0:Heap) (K:HKq):DG a0 h0 K=dt Eu K [a0] h0:=by kernel_rfl
def CA:TLq
 | _=>none
def G4:TTq
 | _=>none
noncomputable abbrev Ae:=cFn PP true qX CA (cDr PP 21 G4)
noncomputable def Av:aN:=⟨21,aU Ae,[.t 4]⟩
theorem FZ:Ae=some Av:=by kernel_rfl
def zQ (a b:D) (c:Heap) (K:HKq):Prop :=
 xB a c λ a c=>xF a 7 c λ c d=>xL c 1 false d λ c d=>xI c b 14 d λ c d=>xF c 1 d λ c d=>xF c 0 d λ c d=>xL c 1 false d λ c d=>vbin .eql c (.int .i64 3) λ c=>vcond c (ab PP (.bldS true 1 0 (.int .i64 0) []) d λ a b=>K a b) (xF a 7 d λ a c=>xL a 1 false c λ a c=>xI a b 14 c λ a b=>xF a 1 b λ a b=>xL a 13 true b λ a b=>ag PP kL [a] b λ a b=>K a b)
theorem FE (a0:D) (a1:D) (h0:Heap) (K:HKq):zQ a0 a1 h0 K=dt Av K [a0,a1] h0:=by kernel_rfl
def Fc:TLq
 | 1000017=>some ([7],[])|6=>some ([0,2,7],[8])|10=>some ([0,2,7,9],[8,10])|1000012=>some ([0,2,7,9,10],[8])|_=>none
def IU:TTq
 | _=>none
noncomputable abbrev D4:=cFn PP true kK Fc (cDr PP 66 IU)
noncomputable def Er:aN:=⟨66,aU D4,[.t 6]⟩
theorem H3:D4=some Er:=by kernel_rfl
def uP (a:D) (b:Heap) (c d e f:D) (g:Nat) (h:Nat->HJq):Prop :=
 ∃(i:Nat->HJq) (j:Nat),i j [a,(.int .i64 0)] b/\∀(a:Nat) (b:Nat->D) (j:Heap),i a [b 8,b 10] j->xI c d 1 j λ j k=>xL j 1 false k λ j k=>aM j k λ j=>vbin .lss (b 10) j λ j=>vcond j ( ∃(g:HJq),( ∀(h:Nat->D) (j:Heap),g [h 8] j->vbin .add (b 10) (.int .i64 1) λ b=>aD [c,e,f,d] [c,e,f,d]/\∃c,c<a/\i c [(h 8),b] j)/\xI c d 1 k λ a h=>xL a 1 false h λ a h=>xI a (b 10) 1 h λ a h=>xL a 1 false h λ a h=>xI f a 1 h λ h i=>xL h 1 false i λ h i=>vun .not h λ h=>vguard h true (λ b=>b a i) i λ i j=>vguard h true (λ a=>a e j) j λ j k=>vguard h true (λ a=>vbin .neq i j λ b=>a b k) k λ i j=>xP h i (.bool false) j λ h i=>vcond h (xI f a 1 i λ h i=>xS h (.bool true) 1 i λ h i=>ab PP (.bldS true 1 1 (.int .i64 0) [(0,(.c a))]) i λ a h=>ab PP (.app (.c (b 8)) (.c a) 1 8 (.int .i64 0)) h λ a h=>aD [c,e,f,d,(b 10)] [c,e,f,d,(b 10)]/\g [a] h) (aD [c,e,f,d,(b 10)] [c,e,f,d,(b 10)]/\g [(b 8)] i)) (aD [c,e,f] [c,e,f]/\∃a,a<g/\h a [(b 8)] k)
def uO (a:D) (b:Heap) (c d e:D) (f:HJq):Prop :=
 ∃(g:Nat->HJq) (h:Nat),g h [a] b/\∀(a:Nat) (b:Nat->D) (h:Heap),g a [b 8] h->aM (b 8) h λ i=>vbin .gtr i (.int .i64 0) λ i=>vcond i (xI (b 8) (.int .i64 0) 1 h λ f h=>xL f 1 false h λ f h=>ab PP (.mZ (.c (b 8)) (some (.c (.int .i64 1))) none none 1) h λ b h=>uP b h c f d e a g) (aD [e] [e]/\f [] h)
def DD (a b c:D) (d:Heap) (K:HKq):Prop :=
 aM a d λ e=>ab PP (.mk 1 1 (.bool false) (.c e) (.c e)) d λ d e=>vbin .eql b c λ f=>vcond f (K d e) (xI d b 1 e λ e f=>xS e (.bool true) 1 f λ e f=>ab PP (.bldS true 1 1 (.int .i64 0) [(0,(.c b))]) f λ b e=>∃(f:HJq),( ∀(a:Nat->D) (b:Heap),f [] b->K d b)/\uO b e a c d f)
theorem HI (a0:D) (a1:D) (a2:D) (h0:Heap) (K:HKq):DD a0 a1 a2 h0 K=dt Er K [a0,a1,a2] h0:=by kernel_rfl
def CI:TLq
 | 1000007=>some ([],[3])|3=>some ([1],[3,4])|_=>none
def Hb:TTq
 | _=>none
noncomputable abbrev Al:=cFn PP true mC CI (cDr PP 24 Hb)
noncomputable def AD:aN:=⟨24,aU Al,[.t 2]⟩
theorem F8:Al=some AD:=by kernel_rfl
def sM (a:D) (b:Heap) (c:D) (d:HJq):Prop :=
 ∃(e:Nat->HJq) (f:Nat),e f [a,(.int .i64 0)] b/\∀(a:Nat) (b:Nat->D) (f:Heap),e a [b 3,b 4] f->xF c 7 f λ f g=>xL f 1 false g λ f g=>aM f g λ f=>vbin .lss (b 4) f λ f=>vcond f (xF c 7 g λ d f=>xL d 1 false f λ d f=>xI d (b 4) 14 f λ d f=>xF d 1 f λ d f=>xL d 13 true f λ d f=>ag PP kJ [d] f λ d f=>ab PP (.bldS true 1 1 .nil [(0,(.c d))]) f λ d f=>ab PP (.app (.c (b 3)) (.c d) 1 24 .nil) f λ d f=>vbin .add (b 4) (.int .i64 1) λ b=>aD [c] [c]/\∃c,c<a/\e c [d,b] f) (aD [] []/\d [(b 3)] g)
def zX (a:D) (b:Heap) (K:HKq):Prop :=
 xB a b λ a b=>ab PP (.bldS true 1 0 .nil []) b λ b c=>∃(d:HJq),( ∀(a:Nat->D) (b:Heap),d [a 3] b->K (a 3) b)/\sM b c a d
theorem FN (a0:D) (h0:Heap) (K:HKq):zX a0 h0 K=dt AD K [a0] h0:=by kernel_rfl
end Go.Am
namespace Go.Am
open Go Go.Proofs
def Fb:TLq
 | _=>none
def IT:TTq
 | _=>none
noncomputable abbrev D3:=cFn PP true kJ Fb (cDr PP 30 IT)
noncomputable def Ep:aN:=⟨30,aU D3,[.t 2]⟩
theorem H2:D3=some Ep:=by kernel_rfl
def DC (a:D) (b:Heap) (K:HKq):Prop :=
 xB a b λ a b=>xF a 0 b λ b c=>xL b 1 false c λ b c=>vbin .eql b (.int .i64 5) λ b=>vcond b (ab PP (.bldS true 1 0 (.int .i64 0) []) c λ a b=>K a b) (xF a 0 c λ b c=>xL b 1 false c λ b c=>vbin .eql b (.int .i64 2) λ b=>vguard b true (λ b=>xF a 11 c λ a c=>b a c) c λ c d=>vguard b true (λ a=>xJ c (.int .i64 0) 2 1 d λ b c=>a b c) d λ c d=>vguard b true (λ a=>xL c 1 false d λ b c=>a b c) d λ c d=>vguard b true (λ b=>xF a 11 d λ a c=>b a c) d λ d e=>vguard b true (λ a=>xJ d (.int .i64 1) 2 1 e λ b c=>a b c) e λ d e=>vguard b true (λ a=>xL d 1 false e λ b c=>a b c) e λ d e=>vguard b true (λ a=>vbin .neq c d λ b=>a b e) e λ c d=>xP b c (.bool false) d λ b c=>vcond b (xF a 11 c λ b c=>xJ b (.int .i64 0) 2 1 c λ b c=>xL b 1 false c λ b c=>xF a 11 c λ a c=>xJ a (.int .i64 1) 2 1 c λ a c=>xL a 1 false c λ a c=>ab PP (.bldS true 1 2 (.int .i64 0) [(0,(.c b)),(1,(.c a))]) c λ a b=>K a b) (xF a 11 c λ a b=>xJ a (.int .i64 0) 2 1 b λ a b=>xL a 1 false b λ a b=>ab PP (.bldS true 1 1 (.int .i64 0) [(0,(.c a))]) b λ a b=>K a b))
theorem HH (a0:D) (h0:Heap) (K:HKq):DC a0 h0 K=dt Ep K [a0] h0:=by kernel_rfl
def CJ:TLq
 | _=>none
def Hc:TTq
 | _=>none
noncomputable abbrev An:=cFn PP true dB CJ (cDr PP 22 Hc)
noncomputable def AE:aN:=⟨22,aU An,[.t 6]⟩
theorem F9:An=some AE:=by kernel_rfl
def zY (a b c:D) (d:Heap) (K:HKq):Prop :=
 vbin .eql b c λ e=>vguard e false (λ b=>b a d) d λ d f=>vguard e false (λ a=>a b f) f λ b f=>vguard e false (λ a=>a c f) f λ c f=>vguard e false (λ a=>ag PP kK [d,b,c] f λ b c=>a b c) f λ b c=>vguard e false (λ b=>b a c) c λ a c=>vguard e false (λ b=>aM a c λ a=>b a c) c λ a c=>vguard e false (λ b=>vbin .sub a (.int .i64 1) λ a=>b a c) c λ a c=>vguard e false (λ d=>xI b a 1 c λ a b=>d a b) c λ a b=>vguard e false (λ c=>xL a 1 false b λ a b=>c a b) b λ a b=>vguard e false (λ c=>vun .not a λ a=>c a b) b λ a b=>xP e (.bool true) a b λ a b=>K a b
theorem FO (a0:D) (a1:D) (a2:D) (h0:Heap) (K:HKq):zY a0 a1 a2 h0 K=dt AE K [a0,a1,a2] h0:=by kernel_rfl
def xc:TLq
 | _=>none
def AU:TTq
 | _=>none
noncomputable abbrev ta:=cFn PP true ct xc (cDr PP 16 AU)
noncomputable def tt:aN:=⟨16,aU ta,[.t 4]⟩
theorem zx:ta=some tt:=by kernel_rfl
def sJ (a b:D) (c:Heap) (K:HKq):Prop :=
 xB a c λ a c=>xB b c λ b c=>xF b 0 c λ c d=>xL c 1 false d λ c d=>vbin .neq c (.int .i64 2) λ c=>vguard c false (λ b=>xF a 1 d λ a c=>b a c) d λ a d=>vguard c false (λ b=>xL a 1 false d λ a c=>b a c) d λ a d=>vguard c false (λ a=>xF b 1 d λ b c=>a b c) d λ b d=>vguard c false (λ a=>xL b 1 false d λ b c=>a b c) d λ b d=>vguard c false (λ c=>xI a b 1 d λ a b=>c a b) d λ a b=>vguard c false (λ c=>xL a 1 false b λ a b=>c a b) b λ a b=>xP c (.bool true) a b λ a b=>K a b
theorem zl (a0:D) (a1:D) (h0:Heap) (K:HKq):sJ a0 a1 h0 K=dt tt K [a0,a1] h0:=by kernel_rfl
def Fh:TLq
 | _=>none
def IY:TTq
 | _=>none
noncomputable abbrev D8:=cFn PP true tQ Fh (cDr PP 10 IY)
noncomputable def Ew:aN:=⟨10,aU D8,[.t 2]⟩
theorem H7:D8=some Ew:=by kernel_rfl
def DI (a:D) (b:Heap) (K:HKq):Prop :=
 xB a b λ a b=>xF a 2 b λ b c=>xF b 0 c λ b c=>xL b 1 false c λ b c=>vbin .eql b (.int .i64 2) λ b=>vcond b (xF a 2 c λ a b=>xF a 1 b λ a b=>xL a 1 false b λ a b=>K a b) (K (.int .i64 (-1)) c)
theorem HM (a0:D) (h0:Heap) (K:HKq):DI a0 h0 K=dt Ew K [a0] h0:=by kernel_rfl
def Hr:TLq
 | _=>none
def KA:TTq
 | _=>none
noncomputable abbrev GP:=cFn PP true wV Hr (cDr PP 10 KA)
noncomputable def GZ:aN:=⟨10,aU GP,[.t 2]⟩
theorem Km:GP=some GZ:=by kernel_rfl
def GH (a:D) (b:Heap) (K:HKq):Prop :=
 xB a b λ a b=>xF a 3 b λ b c=>xF b 0 c λ b c=>xL b 1 false c λ b c=>vbin .eql b (.int .i64 2) λ b=>vcond b (xF a 3 c λ a b=>xF a 1 b λ a b=>xL a 1 false b λ a b=>K a b) (K (.int .i64 (-1)) c)
theorem J5 (a0:D) (h0:Heap) (K:HKq):GH a0 h0 K=dt GZ K [a0] h0:=by kernel_rfl
def Bh:TLq
 | 1000008=>some ([1,4],[5])|_=>none
def EP:TTq
 | _=>none
noncomputable abbrev yc:=cFn PP true pg Bh (cDr PP 26 EP)
noncomputable def yp:aN:=⟨26,aU yc,[.t 2]⟩
theorem Em:yc=some yp:=by kernel_rfl
def xK (a:D) (b:Heap) (K:HKq):Prop :=
 xB a b λ a b=>xF a 0 b λ b c=>xL b 1 false c λ b c=>∃(d:HJq),( ∀(c:Nat->D) (e:Heap),d [c 5] e->vcond (c 5) (K (.bool true) e) (vbin .eql b (.int .i64 5) λ b=>vcond b (xF a 1 e λ b c=>xL b 1 false c λ b c=>vbin .eql b (.int .i64 3) λ b=>vguard b false (λ b=>xF a 1 c λ a c=>b a c) c λ c d=>vguard b false (λ a=>xL c 1 false d λ b c=>a b c) d λ c d=>vguard b false (λ a=>vbin .eql c (.int .i64 4) λ b=>a b d) d λ c d=>xP b (.bool true) c d λ b c=>vguard b false (λ b=>xF a 1 c λ a c=>b a c) c λ a c=>vguard b false (λ b=>xL a 1 false c λ a c=>b a c) c λ a c=>vguard b false (λ b=>vbin .eql a (.int .i64 5) λ a=>b a c) c λ a c=>xP b (.bool true) a c λ a b=>K a b) (K (.bool false) e)))/\vbin .eql b (.int .i64 1) λ e=>vcond e (aD [a,b] [a,b]/\d [e] c) (vbin .eql b (.int .i64 2) λ e=>vcond e (aD [a,b] [a,b]/\d [e] c) (vbin .eql b (.int .i64 3) λ e=>vcond e (aD [a,b] [a,b]/\d [e] c) (vbin .eql b (.int .i64 4) λ e=>vcond e (aD [a,b] [a,b]/\d [e] c) (vbin .eql b (.int .i64 6) λ e=>aD [a,b] [a,b]/\d [e] c))))
theorem Dz (a0:D) (h0:Heap) (K:HKq):xK a0 h0 K=dt yp K [a0] h0:=by kernel_rfl
def Bo:TLq
 | _=>none
def EW:TTq
 | _=>none
noncomputable abbrev yi:=cFn PP true pn Bo (cDr PP 17 EW)
noncomputable def yE:aN:=⟨17,aU yi,[.t 4]⟩
theorem EG:yi=some yE:=by kernel_rfl
def x6 (a b:D) (c:Heap) (K:HKq):Prop :=
 ag PP jD [a] c λ c d=>vguard c true (λ a=>a b d) d λ d e=>vguard c true (λ a=>ag PP jD [d] e λ b c=>a b c) e λ d e=>vguard c true (λ a=>vun .not d λ b=>a b e) e λ d e=>xP c d (.bool false) e λ c d=>vguard c false (λ b=>b a d) d λ a d=>vguard c false (λ a=>a b d) d λ b d=>vguard c false (λ c=>vbin .lss a b λ a=>c a d) d λ a b=>xP c (.bool true) a b λ a b=>K a b
theorem DR (a0:D) (a1:D) (h0:Heap) (K:HKq):x6 a0 a1 h0 K=dt yE K [a0,a1] h0:=by kernel_rfl
def tW:TLq
 | _=>none
def wK:TTq
 | _=>none
noncomputable abbrev pW:=cFn PP true gf tW (cDr PP 6 wK)
noncomputable def p8:aN:=⟨6,aU pW,[.t 2]⟩
theorem wu:pW=some p8:=by kernel_rfl
def pI (a:D) (b:Heap) (K:HKq):Prop :=
 vbin .neq a a λ a=>K a b
theorem vZ (a0:D) (h0:Heap) (K:HKq):pI a0 h0 K=dt p8 K [a0] h0:=by kernel_rfl
def y6:TLq
 | _=>none
def Ca:TTq
 | 1=>some ([0,1,0,7,0,0,63,127],[1,3,4,5,6,7],[999996,2,3])|_=>none
noncomputable abbrev u5:=cFn PP true m8 y6 (cDr PP 10 Ca)
noncomputable def vk:aN:=⟨10,aU u5,[.t 2]⟩
theorem BP:u5=some vk:=by kernel_rfl
def uF (a:D) (b:Heap) (K:HKq):Prop :=
 xB a b λ a b=>yL a 8 true b λ c=>yL a 8 true b λ d=>ag PP kT [c] b λ b e=>((yL a 8 true e λ a=>aD [a] [d])/\True)/\ag PP re [d] e λ e f=>ab PP (.alloc .nil) f λ f g=>((yL a 8 true g λ a=>aD [a] [c])/\(yL a 8 true g λ a=>aD [a] [d])/\True)/\ab PP (.alloc .nil) g λ g h=>((yL a 8 true h λ a=>aD [a] [c])/\(yL a 8 true h λ a=>aD [a] [d])/\True)/\xS f b 1 h λ b c=>xS g e 1 c λ b c=>ab PP (.mkf dL [] [(.c a),(.c f),(.c g)]) c λ a b=>K a b
theorem BE (a0:D) (h0:Heap) (K:HKq):uF a0 h0 K=dt vk K [a0] h0:=by kernel_rfl
def Bd:TLq
 | _=>none
def EL:TTq
 | _=>none
noncomputable abbrev x8:=cFn PP true kH Bd (cDr PP 22 EL)
noncomputable def yl:aN:=⟨22,aU x8,[.t 4]⟩
theorem Ed:x8=some yl:=by kernel_rfl
def xD (a b:D) (c:Heap) (K:HKq):Prop :=
 xB a c λ a c=>xB b c λ b c=>xL a 2 true c λ c d=>xF b 0 d λ d e=>xL d 2 true e λ d e=>ag PP oJ [c,d] e λ c d=>xF c 0 d λ c d=>xL c 1 false d λ c d=>vun .not c λ c=>vcond c (K (.bool true) d) (xF b 3 d λ c d=>xL c 1 false d λ c d=>vun .not c λ c=>vguard c true (λ a=>xF b 2 d λ b c=>a b c) d λ b d=>vguard c true (λ a=>xL b 1 false d λ b c=>a b c) d λ b d=>vguard c true (λ b=>ab PP (.mkf kG [] [(.c a)]) d λ a c=>b a c) d λ a d=>vguard c true (λ c=>ag PP bA [b,a] d λ a b=>c a b) d λ a b=>vguard c true (λ c=>vun .not a λ a=>c a b) b λ a b=>xP c a (.bool false) b λ a b=>K a b)
theorem Dn (a0:D) (a1:D) (h0:Heap) (K:HKq):xD a0 a1 h0 K=dt yl K [a0,a1] h0:=by kernel_rfl
def oN:TLq
 | 1000008=>some ([],[])|2=>some ([0,1,7],[8])|_=>none
def qe:TTq
 | _=>none
noncomputable abbrev kh:=cFn PP true fK oN (cDr PP 19 qe)
noncomputable def ki:aN:=⟨19,aU kh,[.t 4]⟩
theorem p9:kh=some ki:=by kernel_rfl
def ij (a:Heap) (b c d:D) (e:HJq) (K:HKq):Prop :=
 ∃(f:Nat->HJq) (g:Nat),f g [(.int .i64 0)] a/\∀(a:Nat) (g:Nat->D) (h:Heap),f a [g 8] h->vbin .lss (g 8) b λ i=>vcond i (xI c (g 8) 1 h λ e h=>xL e 1 false h λ e h=>vbin .eql d e λ e=>vcond e (K (g 8) h) (vbin .add (g 8) (.int .i64 1) λ e=>aD [c,d,b] [c,d,b]/\∃b,b<a/\f b [e] h)) (aD [] []/\e [] h)
def jZ (a b:D) (c:Heap) (K:HKq):Prop :=
 ∃(d:HJq),( ∀(a:Nat->D) (b:Heap),d [] b->K (.int .i64 (-1)) b)/\aM a c λ e=>ij c e a b d K
theorem pJ (a0:D) (a1:D) (h0:Heap) (K:HKq):jZ a0 a1 h0 K=dt ki K [a0,a1] h0:=by kernel_rfl
def kj:TLq
 | 1000008=>some ([],[])|2=>some ([0,1,7],[8])|_=>none
def lI:TTq
 | _=>none
noncomputable abbrev ga:=cFn PP true cZ kj (cDr PP 19 lI)
noncomputable def gb:aN:=⟨19,aU ga,[.t 4]⟩
theorem lF:ga=some gb:=by kernel_rfl
def ff (a:Heap) (b c d:D) (e:HJq) (K:HKq):Prop :=
 ∃(f:Nat->HJq) (g:Nat),f g [(.int .i64 0)] a/\∀(a:Nat) (g:Nat->D) (h:Heap),f a [g 8] h->vbin .lss (g 8) b λ i=>vcond i (xI c (g 8) 1 h λ e h=>xL e 1 false h λ e h=>ab PP (.callv (.c d) [(.c e)]) h λ e h=>vcond e (K (g 8) h) (vbin .add (g 8) (.int .i64 1) λ e=>aD [c,d,b] [c,d,b]/\∃b,b<a/\f b [e] h)) (aD [] []/\e [] h)
def fZ (a b:D) (c:Heap) (K:HKq):Prop :=
 ∃(d:HJq),( ∀(a:Nat->D) (b:Heap),d [] b->K (.int .i64 (-1)) b)/\aM a c λ e=>ff c e a b d K
theorem lq (a0:D) (a1:D) (h0:Heap) (K:HKq):fZ a0 a1 h0 K=dt gb K [a0,a1] h0:=by kernel_rfl
def sk:TLq
 | 1000005=>some ([0,5],[6])|_=>none
def vC:TTq
 | 5=>some ([0,0,0,4,0,16,48,112,240,0,1008,2032,4080,8176,16368,32764,65534,131071],[3,17],[999999])|6=>some ([0,0,1,7],[3],[])|_=>none
noncomputable abbrev oq:=cFn PP true fB sk (cDr PP 39 vC)
noncomputable def oy:aN:=⟨39,aU oq,[.t 4,.cell 5 3 true]⟩
theorem ux:oq=some oy:=by kernel_rfl
def oe (a b:D) (c:Heap) (K:HKq):Prop :=
 ab PP (.alloc (.agg [zI,zI,zJ])) c λ c d=>ag PP aw [a] d λ d e=>vbin .rem d (.int .i64 5) λ d=>∃(f:HJq),( ∀(b:Nat->D) (d:Heap),f [b 6] d->ag PP bh [a] d λ d e=>ab PP (.alloc (.agg [zI,zI,zJ])) e λ e f=>xS e d 3 f λ d f=>yL e 3 true f λ d=>yF a 0 f λ g=>yF g 2 f λ h=>yF h 5 f λ i=>yL i 1 false f λ j=>yI j (b 6) 4 f λ k=>yF k 3 f λ l=>yL l 1 false f λ m=>vbin .sub m (.int .i64 1) λ n=>yC .i32 n f λ n=>ag PP bg [a] f λ f o=>((yL e 3 true o λ a=>aD [a] [d])/\(yF a 0 o λ a=>aD [a] [g])/\(yF g 2 o λ a=>aD [a] [h])/\(yF h 5 o λ a=>aD [a] [i])/\(yL i 1 false o λ a=>aD [a] [j])/\(yI j (b 6) 4 o λ a=>aD [a] [k])/\(yF k 3 o λ a=>aD [a] [l])/\(yL l 1 false o λ a=>aD [a] [m])/\True)/\au PP (.call fp [(.c n)]) o λ g=>au PP (.bld [zI,zI,zI,zI,zI,zJ,zI,zI,zJ,zI,zI,zJ,zI,zI,zJ] [(0,1,(.c (.int .i64 3))),(1,1,(.c (.int .i64 17))),(3,3,(.c d)),(6,3,(.c f)),(9,3,(.c g))]) o λ d=>ag PP aV [a,d] o λ a d=>yL e 3 true d λ a=>xS c a 3 d λ a d=>xL c 3 true d λ a c=>K (.tup [(b 6),a]) d)/\vbin .eql d (.int .i64 3) λ g=>vguard g true (λ a=>a b e) e λ b e=>vguard g true (λ a=>vun .not b λ b=>a b e) e λ b e=>xP g b (.bool false) e λ b e=>vcond b (aD [a,c] [a,c]/\f [(.int .i64 0)] e) (aD [a,c] [a,c]/\f [d] e)
theorem uq (a0:D) (a1:D) (h0:Heap) (K:HKq):oe a0 a1 h0 K=dt oy K [a0,a1] h0:=by kernel_rfl
def CH:TLq
 | _=>none
def Ha:TTq
 | 1=>some ([0,0,2,6,14,30,63,127,255],[4,6],[999999])|_=>none
noncomputable abbrev Ak:=cFn PP true qZ CH (cDr PP 11 Ha)
noncomputable def AB:aN:=⟨11,aU Ak,[.t 2]⟩
theorem F7:Ak=some AB:=by kernel_rfl
def zW (a:D) (b:Heap) (K:HKq):Prop :=
 xB a b λ a b=>yL a 8 true b λ c=>yF a 7 b λ d=>yL d 1 false b λ d=>aM d b λ d=>ab PP (.mk 1 1 (.bool false) (.c d) (.c d)) b λ b d=>((yL a 8 true d λ a=>aD [a] [c])/\True)/\au PP (.bld [.nil,.nil] [(0,1,(.c b))]) d λ a=>ag PP mz [c,a,(.int .i64 0)] d λ a b=>au PP (.fld (.c a) 1 1 false) b λ a=>K a b
theorem FM (a0:D) (h0:Heap) (K:HKq):zW a0 h0 K=dt AB K [a0] h0:=by kernel_rfl
def zf:TLq
 | _=>none
def Ci:TTq
 | _=>none
noncomputable abbrev vj:=cFn PP true jD zf (cDr PP 6 Ci)
noncomputable def vw:aN:=⟨6,aU vj,[.t 2]⟩
theorem BY:vj=some vw:=by kernel_rfl
def u4 (a:D) (b:Heap) (K:HKq):Prop :=
 vbin .neq a a λ a=>K a b
theorem BM (a0:D) (h0:Heap) (K:HKq):u4 a0 h0 K=dt vw K [a0] h0:=by kernel_rfl
def CR:TLq
 | 1000027=>some ([3],[])|5=>some ([1,3,4,5,24,25],[26])|1000026=>some ([1,3,4,5,24,25,26],[])|1000019=>some ([1,3,4,5,6,9,24,25,26],[])|11=>some ([1,3,4,5,6,9,24,25,26,47,48],[49])|1000018=>some ([1,3,4,5,6,9,24,25,26,47,48,49],[])|4000016=>some ([1,3,4,5,6,9,24,25,26,47,48,49],[4])|20=>some ([1,3,4,5,6,24,25,26,71,72],[73])|1000025=>some ([1,3,4,5,6,24,25,26,71,72,73],[])|_=>none
def Hj:TTq
 | 8=>some ([0,1,3,7,0,31,63,127,255,511,1023,2047,4095],[],[])|23=>some ([0,0,0,0,12,28,0,64,252,511,1023],[8,10],[9])|_=>none
noncomputable abbrev Au:=cFn PP true re CR (cDr PP 95 Hj)
noncomputable def AK:aN:=⟨95,aU Au,[.t 2]⟩
theorem Ge:Au=some AK:=by kernel_rfl
def mv:ACode:=.reg [⟨(some 12),.mov (.t 56),none⟩]
def mu:ACode:=.block 5 (.seq (.seq (.reg [⟨(some 57),.mov (.t 12),none⟩,
  ⟨(some 58),.ld (.t 5) 1 false,none⟩,
  ⟨(some 59),.ld (.t 6) 1 false,none⟩,
  ⟨(some 60),.iadd (.t 58) (.t 59) 1,none⟩,
  ⟨(some 61),.ld (.t 60) 1 false,none⟩,
  ⟨(some 62),.bin .eql (.t 57) (.t 61),none⟩]) <|
 .cond (.t 62) (.exit 4) (.skip)) <|
 .reg [⟨(some 63),.ld (.t 9) 1 false,none⟩,
  ⟨(some 64),.mov (.t 12),none⟩,
  ⟨(some 65),.bldS true 1 1 (.int .i64 0) [(0,(.t 64))],none⟩,
  ⟨(some 66),.app (.t 63) (.t 65) 1 8 (.int .i64 0),none⟩,
  ⟨none,.st (.t 9) (.t 66) 1,none⟩])
def mm (a:Nat) (b:dT) (c d e f g h i j k l m n o:D) (p:Heap) (K:HKq):Prop :=
 Ex.normal=Ex.normal/\p a=.lp .ready b/\xL g 1 false (aF p a (.lp .busy b)) λ d e=>xL h 1 false e λ e f=>xI d e 1 f λ d e=>xL d 1 false e λ d e=>vbin .eql c d λ d=>vcond d (e a=.lp .busy b/\K (.bool false) (aF e a (.lp (.done (.exit 4)) b))) (xL i 1 false e λ d e=>ab PP (.bldS true 1 1 (.int .i64 0) [(0,(.c c))]) e λ c e=>ab PP (.app (.c d) (.c c) 1 8 (.int .i64 0)) e λ c d=>xS i c 1 d λ c d=>d a=.lp .busy b/\K (.bool true) (aF d a (.lp .ready b)))
theorem zq (n0:Nat) (B0:dT) (a56:D) (a1:D) (a3:D) (a4:D) (a5:D) (a6:D) (a9:D) (a24:D) (a25:D) (a26:D) (a47:D) (a48:D) (a49:D) (h0:Heap) (K:HKq):mm n0 B0 a56 a1 a3 a4 a5 a6 a9 a24 a25 a26 a47 a48 a49 h0 K=O3 PP n0 B0 [56] [a56] [(1,a1),(3,a3),(4,a4),(5,a5),(6,a6),(9,a9),(24,a24),(25,a25),(26,a26),(47,a47),(48,a48),(49,a49)] mv mu h0 K:=by kernel_rfl
def iK (a:Heap) (b c d e f g h i:D) (j:Nat->D) (k:D) (l:HJq):Prop :=
 ∃(m:Nat->HJq) (n:Nat),m n [(.int .i64 0)] a/\∀(a:Nat) (n:Nat->D) (o:Heap),m a [n 73] o->vbin .lss (n 73) b λ p=>vcond p ( ∃(l:HJq),( ∀(o:Nat->D) (p:Heap),l [] p->vbin .add (n 73) (.int .i64 1) λ l=>aD [c,d,e,f,g,h,i,(j 26),k,b] [c,d,e,f,g,h,i,(j 26),k,b]/\∃b,b<a/\m b [l] p)/\xI k (n 73) 1 o λ a m=>xL a 1 false m λ a m=>xF c 7 m λ m o=>xL m 1 false o λ m o=>aM m o λ m=>vbin .lss a m λ m=>vcond m (yI d a 1 o λ m=>yL m 1 false o λ m=>yL g 1 false o λ p=>au PP (.bldS false 1 1 (.int .i64 0) [(0,(.c p))]) o λ p=>yI d a 1 o λ q=>ab PP (.app (.c m) (.c p) 1 8 (.int .i64 0)) o λ m o=>((yI d a 1 o λ a=>aD [a] [q])/\True)/\xS q m 1 o λ m o=>((yI d a 1 o λ a=>aD [a] [q])/\True)/\aD [c,d,e,f,g,h,i,(j 26),k,b,(n 73)] [c,d,e,f,g,h,i,(j 26),k,b,(n 73)]/\l [] o) (aD [c,d,e,f,g,h,i,(j 26),k,b,(n 73)] [c,d,e,f,g,h,i,(j 26),k,b,(n 73)]/\l [] o)) (aD [c,d,e,f,h,i,(j 26)] [c,d,e,f,h,i,(j 26)]/\l [] o)
def mq (a:Heap) (b c d e f g h i j:D) (k:Nat->D) (l:D) (m:HJq) (K:HKq):Prop :=
 ∃(n:Nat->HJq) (o:Nat),n o [(.int .i64 0)] a/\∀(a:Nat) (o:Nat->D) (p:Heap),n a [o 49] p->vbin .lss (o 49) b λ q=>vcond q ( ∃(m:HJq),( ∀(p:Nat->D) (q:Heap),m [] q->vbin .add (o 49) (.int .i64 1) λ m=>aD [c,d,e,f,g,h,i,j,(k 26),l,b] [c,d,e,f,g,h,i,j,(k 26),l,b]/\∃b,b<a/\n b [m] q)/\xI l (o 49) 1 p λ a n=>xL a 1 false n λ a n=>xL f 1 false n λ n p=>ag PP Gr [n,a] p λ a n=>SW PP a [56] [(1,c),(3,d),(4,e),(5,f),(6,g),(9,h),(24,i),(25,j),(26,(k 26)),(47,l),(48,b),(49,(o 49))] mv mu n λ a n=>lW a n (aD [c,d,e,f,g,h,i,j,(k 26),l,b,(o 49)] [c,d,e,f,g,h,i,j,(k 26),l,b,(o 49)]/\m [] (aF n a .dead)) (λ p=>(p=4/\(aD [c,d,e,f,g,h,i,j,(k 26),l,b,(o 49)] [c,d,e,f,g,h,i,j,(k 26),l,b,(o 49)]/\m [] (aF n a .dead)))\/(False)) ((4=1000000/\(K .undef (aF n a .dead)))\/(False))) (aD [c,d,e,f,g,h,i,j,(k 26)] [c,d,e,f,g,h,i,j,(k 26)]/\m [] p)
def mo (a:Heap) (b c d e f g:D) (h:HJq) (K:HKq):Prop :=
 ∃(i:Nat->HJq) (j:Nat),i j [(.int .i64 0)] a/\∀(a:Nat) (j:Nat->D) (k:Heap),i a [j 26] k->vbin .lss (j 26) b λ l=>vcond l ( ∃(h:HJq),( ∀(k:Nat->D) (l:Heap),h [] l->vbin .add (j 26) (.int .i64 1) λ h=>aD [c,d,e,f,g,b] [c,d,e,f,g,b]/\∃b,b<a/\i b [h] l)/\xI g (j 26) 14 k λ a i=>xL a 14 true i λ a i=>ab PP (.alloc (.int .i64 0)) i λ i k=>ab PP (.alloc (.agg [.nil,zI,zI,zI,zI,zJ,zI,zI,zJ,zI,zI,zJ,zI,zI])) k λ k l=>xS i (j 26) 1 l λ l m=>xS k a 14 m λ a l=>xF k 1 l λ a k=>xL a 13 true k λ a k=>ag PP g9 [a] k λ a k=>yF e 0 k λ l=>yF l 2 k λ l=>yL l 1 false k λ l=>yL i 1 false k λ m=>yI l m 1 k λ l=>yL l 1 false k λ l=>vbin .lss l (.int .i64 0) λ l=>ai l false (λ b=>b a) λ m=>ai l false (λ a=>aM m k λ b=>a b) λ m=>ai l false (λ a=>vbin .neq m (.int .i64 2) λ b=>a b) λ m=>yP l (.bool true) m k λ l=>vcond l (aD [c,d,e,f,g,b,(j 26)] [c,d,e,f,g,b,(j 26)]/\h [] k) (ab PP (.alloc .nil) k λ k l=>∃(m:HJq),( ∀(a:Nat->D) (l:Heap),m [] l->xL k 1 false l λ a l=>ag PP du [a] l λ a l=>xL k 1 false l λ a k=>ag PP cL [a] k λ a k=>aM a k λ l=>iK k l c d e f i g b j a h)/\aM a l λ h=>mq l h c d e f i k g b j a m K)) (aD [d] [d]/\h [] k)
def Ad (a:D) (b:Heap) (K:HKq):Prop :=
 xB a b λ a b=>xF a 7 b λ b c=>xL b 1 false c λ b c=>aM b c λ b=>ab PP (.mk 1 24 .nil (.c b) (.c b)) c λ b c=>xL a 8 true c λ c d=>ag PP Ba [c] d λ c d=>ag PP nc [c] d λ d e=>ab PP (.alloc .nil) e λ e f=>xS e d 1 f λ d f=>∃(d:HJq),( ∀(a:Nat->D) (c:Heap),d [] c->K b c)/\xF a 7 f λ f g=>xL f 1 false g λ f g=>aM f g λ h=>mo g h a b c e f d K
theorem FU (a0:D) (h0:Heap) (K:HKq):Ad a0 h0 K=dt AK K [a0] h0:=by kernel_rfl
def tV:TLq
 | 1=>some ([0,1,2,3,16,17],[18])|1000021=>some ([0,1,2,3,16,17,18],[])|1000013=>some ([0,1,2,3,6,7,16,17,18],[])|7=>some ([0,1,2,3,6,7,16,17,18,38,39],[40])|1000019=>some ([0,1,2,3,6,16,17,18],[])|13=>some ([0,1,2,3,6,7,16,17,18,65,66],[67])|_=>none
def wJ:TTq
 | 15=>some ([0,1,3,0,8,0,32,0,128,504,1019,0,2048,8187,0,32763,65535,0,262143],[1,10,13,15,17,18],[999996,4])|_=>none
noncomputable abbrev pV:=cFn PP true dL tV (cDr PP 113 wJ)
noncomputable def p7:aN:=⟨113,aU pV,[]⟩
theorem wq:pV=some p7:=by kernel_rfl
def gM (a:Heap) (b c d e f g h i j k:D) (l:Nat->D) (m:HJq) (K:HKq):Prop :=
 ∃(n:Nat->HJq) (o:Nat),n o [(.int .i64 0)] a/\∀(a:Nat) (o:Nat->D) (p:Heap),n a [o 67] p->vbin .lss (o 67) b λ q=>vcond q (xI c (o 67) 15 p λ m p=>xL m 15 true p λ m p=>ab PP (.alloc (.agg [zI,zI,zI,zI,zI,zJ,zI,zI,zJ,zI,zI,zJ,zI,zI,zJ])) p λ p q=>xS p m 15 q λ m q=>yL p 15 true q λ m=>yF p 6 q λ r=>yL r 3 true q λ s=>yF p 9 q λ t=>yL t 3 true q λ u=>yF p 12 q λ v=>yL v 3 true q λ w=>au PP (.bldS false 3 3 (.agg [zI,zI,zJ]) [(0,(.c s)),(1,(.c u)),(2,(.c w))]) q λ x=>yL d 2 true q λ y=>au PP (.bldS false 2 1 (.agg [(.bool false),zI]) [(0,(.c y))]) q λ z=>yL p 15 true q λ A=>ag PP Bb [m] q λ q B=>((yF p 6 B λ a=>aD [a] [r])/\(yL r 3 true B λ a=>aD [a] [s])/\(yF p 9 B λ a=>aD [a] [t])/\(yL t 3 true B λ a=>aD [a] [u])/\(yF p 12 B λ a=>aD [a] [v])/\(yL v 3 true B λ a=>aD [a] [w])/\(yL d 2 true B λ a=>aD [a] [y])/\(yL p 15 true B λ a=>aD [a] [A])/\True)/\au PP (.bld [(.bool false),zI] [(1,1,(.c q))]) B λ q=>ag PP dq [x] B λ x B=>((yL d 2 true B λ a=>aD [a] [y])/\(yL p 15 true B λ a=>aD [a] [A])/\True)/\ab PP (.app (.c x) (.c z) 2 16 (.agg [(.bool false),zI])) B λ x z=>((yL p 15 true z λ a=>aD [a] [A])/\True)/\ag PP lZ [A] z λ z B=>au PP (.bld [(.bool false),zI,.nil,(.bool false)] [(0,2,(.c q)),(2,1,(.c x)),(3,1,(.c z))]) B λ q=>ab PP (.alloc (.agg [(.bool false),zI,.nil,(.bool false)])) B λ x z=>((yL p 15 true z λ a=>aD [a] [m])/\(yF p 6 z λ a=>aD [a] [r])/\(yL r 3 true z λ a=>aD [a] [s])/\(yF p 9 z λ a=>aD [a] [t])/\(yL t 3 true z λ a=>aD [a] [u])/\(yF p 12 z λ a=>aD [a] [v])/\(yL v 3 true z λ a=>aD [a] [w])/\(yL d 2 true z λ a=>aD [a] [y])/\(yL p 15 true z λ a=>aD [a] [A])/\True)/\xS x q 4 z λ m p=>xF x 0 p λ m p=>xF m 1 p λ m p=>xL m 1 false p λ m p=>vbin .geq m (.int .i64 0) λ m=>vguard m true (λ a=>a e p) p λ p q=>vguard m true (λ a=>xL x 4 true q λ b c=>a b c) q λ q r=>vguard m true (λ a=>ab PP (.callv (.c p) [(.c q)]) r λ b c=>a b c) r λ p q=>vguard m true (λ a=>vun .not p λ b=>a b q) q λ p q=>xP m p (.bool false) q λ m p=>vcond m (K (.tup []) p) (vbin .add (o 67) (.int .i64 1) λ m=>aD [e,f,g,h,i,d,j,k,(l 18),c,b] [e,f,g,h,i,d,j,k,(l 18),c,b]/\∃b,b<a/\n b [m] p)) (aD [e,f,g,h,i,j,k,(l 18)] [e,f,g,h,i,j,k,(l 18)]/\m [] p)
def dY (a:Heap) (b c d e f g h i j k:D) (l:Nat->D) (m:HJq) (K:HKq):Prop :=
 ∃(n:Nat->HJq) (o:Nat),n o [(.int .i64 0)] a/\∀(a:Nat) (o:Nat->D) (p:Heap),n a [o 40] p->vbin .lss (o 40) b λ q=>vcond q (xI c (o 40) 1 p λ m p=>xL m 1 false p λ m p=>xF d 7 p λ p q=>xL p 1 false q λ p q=>xI p m 14 q λ p q=>xF p 1 q λ p q=>xF p 5 q λ p q=>xL p 3 true q λ p q=>ab PP (.bldS true 3 1 (.agg [zI,zI,zJ]) [(0,(.c p))]) q λ p q=>ag PP dq [p] q λ p q=>ab PP (.bld [(.bool false),zI] [(0,1,(.c (.bool true))),(1,1,(.c m))]) q λ m q=>ab PP (.bldS true 2 1 (.agg [(.bool false),zI]) [(0,(.c m))]) q λ m q=>ab PP (.app (.c p) (.c m) 2 16 (.agg [(.bool false),zI])) q λ m p=>xL e 2 true p λ p q=>ab PP (.bld [(.bool false),zI,.nil,(.bool false)] [(0,2,(.c p)),(2,1,(.c m))]) q λ m p=>ab PP (.callv (.c f) [(.c m)]) p λ m p=>vun .not m λ m=>vcond m (K (.tup []) p) (vbin .add (o 40) (.int .i64 1) λ m=>aD [f,d,g,h,i,e,j,k,(l 18),c,b] [f,d,g,h,i,e,j,k,(l 18),c,b]/\∃b,b<a/\n b [m] p)) (aD [f,d,g,h,i,e,j,k,(l 18)] [f,d,g,h,i,e,j,k,(l 18)]/\m [] p)
def lP (a:Heap) (b c d e f g:D) (K:HKq):Prop :=
 ∃(h:Nat->HJq) (i:Nat),h i [(.int .i64 0)] a/\∀(a:Nat) (i:Nat->D) (j:Heap),h a [i 18] j->vbin .lss (i 18) b λ k=>vcond k ( ∃(k:HJq),( ∀(j:Nat->D) (l:Heap),k [] l->vbin .add (i 18) (.int .i64 1) λ i=>aD [c,d,e,f,g,b] [c,d,e,f,g,b]/\∃b,b<a/\h b [i] l)/\xI g (i 18) 14 j λ a h=>xL a 14 true h λ a h=>ab PP (.alloc (.agg [.nil,zI,zI,zI,zI,zJ,zI,zI,zJ,zI,zI,zJ,zI,zI])) h λ h j=>xS h a 14 j λ a j=>ab PP (.bld [(.bool false),zI] [(0,1,(.c (.bool true))),(1,1,(.c (i 18)))]) j λ a j=>ab PP (.alloc (.agg [(.bool false),zI])) j λ j l=>xS j a 2 l λ a l=>xL e 1 false l λ a l=>xI a (i 18) 1 l λ a l=>xL a 1 false l λ a l=>vun .not a λ a=>vcond a (xL j 2 true l λ a h=>ab PP (.bld [(.bool false),zI,.nil,(.bool false)] [(0,2,(.c a)),(3,1,(.c (.bool true)))]) h λ a h=>ab PP (.callv (.c c) [(.c a)]) h λ a h=>vun .not a λ a=>vcond a (K (.tup []) h) (aD [c,d,e,f,g,b,(i 18)] [c,d,e,f,g,b,(i 18)]/\k [] h)) ( ∃(a:HJq),( ∀(l:Nat->D) (m:Heap),a [] m->∃(a:HJq),( ∀(j:Nat->D) (l:Heap),a [] l->xF h 1 l λ a h=>xL a 13 true h λ a h=>ag PP wY [a] h λ a h=>vbin .geq a (.int .i64 0) λ j=>vguard j true (λ a=>a c h) h λ h l=>vguard j true (λ b=>b a l) l λ a l=>vguard j true (λ b=>ab PP (.bld [(.bool false),zI] [(1,1,(.c a))]) l λ a c=>b a c) l λ a l=>vguard j true (λ b=>ab PP (.bld [(.bool false),zI,.nil,(.bool false)] [(0,2,(.c a)),(3,1,(.c (.bool true)))]) l λ a c=>b a c) l λ a l=>vguard j true (λ b=>ab PP (.callv (.c h) [(.c a)]) l λ a c=>b a c) l λ a h=>vguard j true (λ b=>vun .not a λ a=>b a h) h λ a h=>xP j a (.bool false) h λ a h=>vcond a (K (.tup []) h) (aD [c,d,e,f,g,b,(i 18)] [c,d,e,f,g,b,(i 18)]/\k [] h))/\xF h 0 m λ k l=>xL k 1 false l λ k l=>aM k l λ m=>gM l m k j c d e f h g b i a K)/\xL f 1 false l λ k l=>xI k (i 18) 1 l λ k l=>xL k 1 false l λ k l=>aM k l λ m=>dY l m k d j c e f h g b i a K)) (K (.tup []) j)
def pG (a b c d:D) (e:Heap) (K:HKq):Prop :=
 xF b 7 e λ e f=>xL e 1 false f λ e f=>aM e f λ g=>lP f g a b c d e K
theorem vX (a0:D) (a1:D) (a2:D) (a3:D) (h0:Heap) (K:HKq):pG a0 a1 a2 a3 h0 K=dt p7 K [a0,a1,a2,a3] h0:=by kernel_rfl
def sj:TLq
 | 1000009=>some ([],[3])|3=>some ([6,7],[3,8])|1000008=>some ([6,7,8],[3])|_=>none
def vz:TTq
 | _=>none
noncomputable abbrev oo:=cFn PP true dq sj (cDr PP 23 vz)
noncomputable def ox:aN:=⟨23,aU oo,[.t 2]⟩
theorem lE:oo=some ox:=by kernel_rfl
def gj (a:Heap) (b c:D) (d:HJq):Prop :=
 ∃(e:Nat->HJq) (f:Nat),e f [.nil,(.int .i64 0)] a/\∀(a:Nat) (f:Nat->D) (g:Heap),e a [f 3,f 8] g->vbin .lss (f 8) b λ h=>vcond h ( ∃(d:HJq),( ∀(g:Nat->D) (h:Heap),d [g 3] h->vbin .add (f 8) (.int .i64 1) λ d=>aD [c,b] [c,b]/\∃b,b<a/\e b [(g 3),d] h)/\xI c (f 8) 3 g λ a e=>xL a 3 true e λ a e=>ab PP (.alloc (.agg [zI,zI,zJ])) e λ e g=>xS e a 3 g λ a g=>xF e 0 g λ a g=>xL a 1 false g λ a g=>vbin .eql a (.int .i64 2) λ a=>vcond a (xF e 1 g λ a e=>xL a 1 false e λ a e=>ab PP (.bld [(.bool false),zI] [(1,1,(.c a))]) e λ a e=>ab PP (.bldS true 2 1 (.agg [(.bool false),zI]) [(0,(.c a))]) e λ a e=>ab PP (.app (.c (f 3)) (.c a) 2 16 (.agg [(.bool false),zI])) e λ a e=>aD [c,b,(f 8)] [c,b,(f 8)]/\d [a] e) (aD [c,b,(f 8)] [c,b,(f 8)]/\d [(f 3)] g)) (aD [] []/\d [(f 3)] g)
def jd (a:D) (b:Heap) (K:HKq):Prop :=
 ∃(c:HJq),( ∀(a:Nat->D) (b:Heap),c [a 3] b->K (a 3) b)/\aM a b λ d=>gj b d a c
theorem ll (a0:D) (h0:Heap) (K:HKq):jd a0 h0 K=dt ox K [a0] h0:=by kernel_rfl
def Jq:TLq
 | _=>none
def L8:TTq
 | _=>none
noncomputable abbrev Kg:=cFn PP true Bb Jq (cDr PP 6 L8)
noncomputable def Kt:aN:=⟨6,aU Kg,[.t 2]⟩
theorem KX:Kg=some Kt:=by kernel_rfl
def Kc (a:D) (b:Heap) (K:HKq):Prop :=
 xB a b λ a b=>xF a 3 b λ a b=>xL a 3 true b λ a b=>ag PP tS [a] b λ a b=>K a b
theorem KU (a0:D) (h0:Heap) (K:HKq):Kc a0 h0 K=dt Kt K [a0] h0:=by kernel_rfl
def w7:TLq
 | 1000008=>some ([1,4],[5])|_=>none
def AR:TTq
 | _=>none
noncomputable abbrev s7:=cFn PP true lZ w7 (cDr PP 18 AR)
noncomputable def tm:aN:=⟨18,aU s7,[.t 2]⟩
theorem zu:s7=some tm:=by kernel_rfl
def sE (a:D) (b:Heap) (K:HKq):Prop :=
 xB a b λ a b=>xF a 0 b λ b c=>xL b 1 false c λ b c=>∃(d:HJq),( ∀(c:Nat->D) (e:Heap),d [c 5] e->vcond (c 5) (K (.bool false) e) (vbin .eql b (.int .i64 5) λ b=>vcond b (ab PP (.bldS true 1 3 (.int .i64 0) [(0,(.c (.int .i64 3))),(1,(.c (.int .i64 4))),(2,(.c (.int .i64 5)))]) e λ b c=>xF a 1 c λ a c=>xL a 1 false c λ a c=>ag PP bn [b,a] c λ a b=>vun .not a λ a=>K a b) (K (.bool true) e)))/\vbin .eql b (.int .i64 1) λ e=>vcond e (aD [a,b] [a,b]/\d [e] c) (vbin .eql b (.int .i64 2) λ e=>vcond e (aD [a,b] [a,b]/\d [e] c) (vbin .eql b (.int .i64 3) λ e=>vcond e (aD [a,b] [a,b]/\d [e] c) (vbin .eql b (.int .i64 4) λ e=>vcond e (aD [a,b] [a,b]/\d [e] c) (vbin .eql b (.int .i64 6) λ e=>aD [a,b] [a,b]/\d [e] c))))
theorem zi (a0:D) (h0:Heap) (K:HKq):sE a0 h0 K=dt tm K [a0] h0:=by kernel_rfl
def Hv:TLq
 | _=>none
def KF:TTq
 | _=>none
noncomputable abbrev GV:=cFn PP true wY Hv (cDr PP 6 KF)
noncomputable def G3:aN:=⟨6,aU GV,[.t 2]⟩
theorem Ks:GV=some G3:=by kernel_rfl
def GL (a:D) (b:Heap) (K:HKq):Prop :=
 xB a b λ a b=>xF a 2 b λ a b=>xL a 3 true b λ a b=>ag PP tS [a] b λ a b=>K a b
theorem Kb (a0:D) (h0:Heap) (K:HKq):GL a0 h0 K=dt G3 K [a0] h0:=by kernel_rfl
def E3:TLq
 | _=>none
def IK:TTq
 | _=>none
noncomputable abbrev DT:=cFn PP true oJ E3 (cDr PP 17 IK)
noncomputable def Ee:aN:=⟨17,aU DT,[.t 4]⟩
theorem HU:DT=some Ee:=by kernel_rfl
def Dq (a b:D) (c:Heap) (K:HKq):Prop :=
 xB a c λ a c=>xB b c λ b c=>xF b 0 c λ c d=>xL c 1 false d λ c d=>vcond c (xF a 0 d λ a c=>xL a 1 false c λ a c=>xF b 1 c λ b c=>xL b 1 false c λ b c=>xI a b 1 c λ a b=>K a b) (xF a 1 d λ a c=>xL a 1 false c λ a c=>xF b 1 c λ b c=>xL b 1 false c λ b c=>xI a b 1 c λ a b=>K a b)
theorem HA (a0:D) (a1:D) (h0:Heap) (K:HKq):Dq a0 a1 h0 K=dt Ee K [a0,a1] h0:=by kernel_rfl
def dA:TLq
 | _=>none
def dK:TTq
 | _=>none
noncomputable abbrev bV:=cFn PP true bA dA (cDr PP 9 dK)
noncomputable def bW:aN:=⟨9,aU bV,[.t 4]⟩
theorem dJ:bV=some bW:=by kernel_rfl
def bT (a b:D) (c:Heap) (K:HKq):Prop :=
 ag PP bG [a,b] c λ a b=>vbin .geq a (.int .i64 0) λ a=>K a b
theorem dI (a0:D) (a1:D) (h0:Heap) (K:HKq):bT a0 a1 h0 K=dt bW K [a0,a1] h0:=by kernel_rfl
def vK:TLq
 | _=>none
def yX:TTq
 | _=>none
noncomputable abbrev qF:=cFn PP true kG vK (cDr PP 10 yX)
noncomputable def qM:aN:=⟨10,aU qF,[.t 3]⟩
theorem yk:qF=some qM:=by kernel_rfl
def qo (a b:D) (c:Heap) (K:HKq):Prop :=
 xB a c λ a c=>xL b 2 true c λ b c=>xL a 2 true c λ a c=>ag PP oJ [b,a] c λ a b=>xF a 0 b λ a b=>xL a 1 false b λ a b=>vun .not a λ a=>K a b
theorem xA (a0:D) (a1:D) (h0:Heap) (K:HKq):qo a0 a1 h0 K=dt qM K [a0,a1] h0:=by kernel_rfl
end Go.Am
namespace Go.Am
open Go Go.Proofs
def CG:TLq
 | 1000009=>some ([2,4,6],[])|4=>some ([2,3,4,6,7],[8])|1000006=>some ([2,3,4,6,7,8],[])|_=>none
def G9:TTq
 | 6=>some ([0,1,0,0,12,28,63,127,255],[],[999999])|7=>some ([0,0,0,0,12,28,63,127],[6,7],[999999])|_=>none
noncomputable abbrev Aj:=cFn PP true mz CG (cDr PP 49 G9)
noncomputable def AA:aN:=⟨49,aU Aj,[.cell 6 2 true]⟩
theorem F6:Aj=some AA:=by kernel_rfl
def sL (a:Heap) (b c d e f:D) (g:HJq):Prop :=
 ∃(h:Nat->HJq) (i:Nat),h i [(.int .i64 0)] a/\∀(a:Nat) (i:Nat->D) (j:Heap),h a [i 8] j->aM b j λ k=>vbin .lss (i 8) k λ k=>vcond k ( ∃(g:HJq),( ∀(j:Nat->D) (k:Heap),g [] k->vbin .add (i 8) (.int .i64 1) λ g=>aD [c,d,e,f,b] [c,d,e,f,b]/\∃b,b<a/\h b [g] k)/\yF e 0 j λ a=>yL a 1 false j λ a=>yI b (i 8) 1 j λ h=>yL h 1 false j λ h=>yI a h 1 j λ a=>yL a 1 false j λ a=>vun .not a λ a=>vcond a (yL d 8 true j λ a=>yL e 2 true j λ h=>yI b (i 8) 1 j λ k=>yL k 1 false j λ k=>ag PP mz [a,h,k] j λ a h=>xS e a 2 h λ a h=>aD [c,d,e,f,b,(i 8)] [c,d,e,f,b,(i 8)]/\g [] h) (aD [c,d,e,f,b,(i 8)] [c,d,e,f,b,(i 8)]/\g [] j)) (aD [c,e,f] [c,e,f]/\g [] j)
def zV (a b c:D) (d:Heap) (K:HKq):Prop :=
 xB a d λ a d=>xB b d λ b d=>ab PP (.alloc (.agg [.nil,.nil])) d λ d e=>xF b 0 e λ e f=>xL e 1 false f λ e f=>xI e c 1 f λ e f=>xS e (.bool true) 1 f λ e f=>xF a 7 f λ e f=>xL e 1 false f λ e f=>xI e c 14 f λ e f=>xF e 1 f λ e f=>xL e 13 true f λ e f=>ag PP kJ [e] f λ e f=>∃(g:HJq),( ∀(a:Nat->D) (e:Heap),g [] e->ab PP (.bldS true 1 1 (.int .i64 0) [(0,(.c c))]) e λ a c=>xF b 1 c λ c e=>xL c 1 false e λ c e=>ab PP (.app (.c a) (.c c) 1 8 (.int .i64 0)) e λ a c=>xF b 1 c λ c e=>xS c a 1 e λ a c=>xL b 2 true c λ a b=>xS d a 2 b λ a b=>xL d 2 true b λ a c=>K a b)/\sL f e c a b d g
theorem FK (a0:D) (a1:D) (a2:D) (h0:Heap) (K:HKq):zV a0 a1 a2 h0 K=dt AA K [a0,a1,a2] h0:=by kernel_rfl
def Jo:TLq
 | 1000011=>some ([3,4,5],[])|5=>some ([1,3,4,5,25,26],[27])|1000010=>some ([1,3,4,5,25,26,27],[])|10=>some ([3,4,5],[])|1000019=>some ([3,4,5,8],[9])|13=>some ([3,4,5,8,56,57],[9,58])|1000018=>some ([3,4,5,8,56,57,58],[9])|_=>none
def L6:TTq
 | _=>none
noncomputable abbrev Ke:=cFn PP true Ba Jo (cDr PP 85 L6)
noncomputable def Ko:aN:=⟨85,aU Ke,[.t 2]⟩
theorem KV:Ke=some Ko:=by kernel_rfl
def rK (a:Heap) (b c d e f g:D) (h:HJq):Prop :=
 ∃(i:Nat->HJq) (j:Nat),i j [(.int .i64 (-1)),(.int .i64 0)] a/\∀(a:Nat) (j:Nat->D) (k:Heap),i a [j 9,j 58] k->vbin .lss (j 58) b λ l=>vcond l ( ∃(h:HJq),( ∀(k:Nat->D) (l:Heap),h [k 9] l->vbin .add (j 58) (.int .i64 1) λ h=>aD [c,d,e,f,g,b] [c,d,e,f,g,b]/\∃b,b<a/\i b [(k 9),h] l)/\xI g (j 58) 1 k λ a i=>xL a 1 false i λ a i=>xF f 0 i λ i k=>xF i 2 k λ i k=>xL i 1 false k λ i k=>xI i a 1 k λ i k=>xL i 1 false k λ i k=>vbin .lss i (.int .i64 0) λ i=>vcond i (aD [c,d,e,f,g,b,(j 58)] [c,d,e,f,g,b,(j 58)]/\h [a] k) (aD [c,d,e,f,g,b,(j 58)] [c,d,e,f,g,b,(j 58)]/\h [(j 9)] k)) (aD [c,d,e,f] [c,d,e,f]/\h [(j 9)] k)
def Ac (a:Heap) (b c d:D) (K:HKq):Prop :=
 ∃(e:Nat->HJq) (f:Nat),e f [] a/\∀(a:Nat) (f:Nat->D) (g:Heap),e a [] g->ag PP kR [b,c] g λ f g=>∃(h:HJq),( ∀(g:Nat->D) (i:Heap),h [g 9] i->vbin .lss (g 9) (.int .i64 0) λ h=>vcond h (K f i) (xI b c 1 i λ f h=>xL f 1 false h λ f h=>ab PP (.bldS true 1 1 (.int .i64 0) [(0,(.c (g 9)))]) h λ g h=>ab PP (.app (.c f) (.c g) 1 8 (.int .i64 0)) h λ f g=>xI b c 1 g λ g h=>xS g f 1 h λ f g=>aD [d,c,b] [d,c,b]/\∃b,b<a/\e b [] g))/\xF d 0 g λ a e=>xF a 1 e λ a e=>xL a 1 false e λ a e=>aM a e λ g=>rK e g d c b f a h
def rJ (a:Heap) (b c d e f g:D) (h:HJq):Prop :=
 ∃(i:Nat->HJq) (j:Nat),i j [(.int .i64 0)] a/\∀(a:Nat) (j:Nat->D) (k:Heap),i a [j 27] k->vbin .lss (j 27) b λ l=>vcond l ( ∃(h:HJq),( ∀(k:Nat->D) (l:Heap),h [] l->vbin .add (j 27) (.int .i64 1) λ h=>aD [c,d,e,f,g,b] [c,d,e,f,g,b]/\∃b,b<a/\i b [h] l)/\xI g (j 27) 1 k λ a i=>xL a 1 false i λ a i=>xF c 7 i λ i k=>xL i 1 false k λ i k=>xI i a 14 k λ i k=>xF i 1 k λ i k=>xF i 0 k λ i k=>xL i 1 false k λ i k=>vbin .eql i (.int .i64 5) λ i=>vcond i (xI f e 1 k λ i k=>xL i 1 false k λ i k=>ab PP (.bldS true 1 1 (.int .i64 0) [(0,(.c a))]) k λ a k=>ab PP (.app (.c i) (.c a) 1 8 (.int .i64 0)) k λ a i=>xI f e 1 i λ i k=>xS i a 1 k λ a i=>aD [c,d,e,f,g,b,(j 27)] [c,d,e,f,g,b,(j 27)]/\h [] i) (aD [c,d,e,f,g,b,(j 27)] [c,d,e,f,g,b,(j 27)]/\h [] k)) (aD [d,e,f] [d,e,f]/\h [] k)
def J7 (a:D) (b:Heap) (K:HKq):Prop :=
 xB a b λ a b=>xL a 8 true b λ b c=>ag PP wW [b] c λ b c=>ag PP kR [b,(.int .i64 0)] c λ b c=>xF a 7 c λ c d=>xL c 1 false d λ c d=>aM c d λ c=>ag PP gh [b] d λ d e=>ab PP (.bldS true 1 1 .nil [(0,(.c .nil))]) e λ e f=>ab PP (.app (.c d) (.c e) 1 24 .nil) f λ d e=>∃(f:HJq),( ∀(a:Nat->D) (e:Heap),f [] e->Ac e d c b K)/\xF b 0 e λ e g=>xF e 1 g λ e g=>xL e 1 false g λ e g=>aM e g λ h=>rJ g h a b c d e f
theorem KS (a0:D) (h0:Heap) (K:HKq):J7 a0 h0 K=dt Ko K [a0] h0:=by kernel_rfl
def ze:TLq
 | 9000002=>some ([0],[3,4])|1000020=>some ([3],[])|5=>some ([0,3,4,37,38],[39])|1000017=>some ([0,3,4,6,37,38,39],[7])|9=>some ([0,3,4,6,37,38,39,46,47],[7,48])|1000016=>some ([0,3,4,6,37,38,39,46,47,48],[7])|_=>none
def Cg:TTq
 | 3=>some ([0,0,2,6,14,30,62,0,128,384,896,1920,3968,8191,16383],[14],[])|_=>none
noncomputable abbrev ve:=cFn PP true nc ze (cDr PP 80 Cg)
noncomputable def vv:aN:=⟨80,aU ve,[.t 2]⟩
theorem BX:ve=some vv:=by kernel_rfl
def jN (a:Heap) (b c d e f g h:D) (i:Nat->D) (j:D) (k:HJq):Prop :=
 ∃(l:Nat->HJq) (m:Nat),l m [(.int .i64 (-1)),(.int .i64 0)] a/\∀(a:Nat) (m:Nat->D) (n:Heap),l a [m 7,m 48] n->vbin .lss (m 48) b λ o=>vcond o ( ∃(k:HJq),( ∀(n:Nat->D) (o:Heap),k [n 7] o->vbin .add (m 48) (.int .i64 1) λ k=>aD [c,d,e,f,g,h,(i 39),j,b] [c,d,e,f,g,h,(i 39),j,b]/\∃b,b<a/\l b [(n 7),k] o)/\xI j (m 48) 1 n λ a l=>xL a 1 false l λ a l=>xI d a 1 l λ l n=>xL l 1 false n λ l n=>vbin .lss l (.int .i64 0) λ l=>vcond l (aD [c,d,e,f,g,h,(i 39),j,b,(m 48)] [c,d,e,f,g,h,(i 39),j,b,(m 48)]/\k [(m 7)] n) (vbin .lss (m 7) (.int .i64 0) λ l=>vcond l (aD [c,d,e,f,g,h,(i 39),j,b,(m 48)] [c,d,e,f,g,h,(i 39),j,b,(m 48)]/\k [a] n) (ag PP iF [c,d,(m 7),a] n λ a l=>aD [c,d,e,f,g,h,(i 39),j,b,(m 48)] [c,d,e,f,g,h,(i 39),j,b,(m 48)]/\k [a] l))) (aD [c,d,e,f,g,h,(i 39)] [c,d,e,f,g,h,(i 39)]/\k [(m 7)] n)
def gk (a:Heap) (b c d e:D) (f:Nat->HJq) (g:D) (h:HJq):Prop :=
 ∃(i:Nat->HJq) (j:Nat),i j [(.int .i64 0)] a/\∀(a:Nat) (j:Nat->D) (k:Heap),i a [j 39] k->vbin .lss (j 39) b λ l=>vcond l (xI c (j 39) 1 k λ h k=>xL h 1 false k λ h k=>∃(l:HJq),( ∀(k:Nat->D) (m:Heap),l [k 7] m->xI d h 1 m λ l m=>xL l 1 false m λ l m=>vbin .neq (k 7) l λ l=>vcond l (xI d h 1 m λ a b=>xS a (k 7) 1 b λ a b=>0=0/\aD [e] [e]/\∃a,f a [d,g] b) (vbin .add (j 39) (.int .i64 1) λ f=>aD [e,d,g,c,b] [e,d,g,c,b]/\∃b,b<a/\i b [f] m))/\xI g h 1 k λ a f=>xL a 1 false f λ a f=>aM a f λ i=>jN f i e d g h c b j a l) (aD [d] [d]/\h [] k)
def BK (a:Heap) (b c:D) (d:Nat->D) (e f g:D) (h:Nat->D) (i:D) (j:HJq):Prop :=
 ∃(k:Nat->HJq) (l:Nat),k l [(.int .i64 (-1)),(.int .i64 0)] a/\∀(a:Nat) (l:Nat->D) (m:Heap),k a [l 7,l 48] m->vbin .lss (l 48) b λ n=>vcond n ( ∃(j:HJq),( ∀(m:Nat->D) (n:Heap),j [m 7] n->vbin .add (l 48) (.int .i64 1) λ j=>aD [c,(d 3),(d 4),e,f,g,(h 39),i,b] [c,(d 3),(d 4),e,f,g,(h 39),i,b]/\∃b,b<a/\k b [(m 7),j] n)/\xI i (l 48) 1 m λ a k=>xL a 1 false k λ a k=>xI (d 3) a 1 k λ k m=>xL k 1 false m λ k m=>vbin .lss k (.int .i64 0) λ k=>vcond k (aD [c,(d 3),(d 4),e,f,g,(h 39),i,b,(l 48)] [c,(d 3),(d 4),e,f,g,(h 39),i,b,(l 48)]/\j [(l 7)] m) (vbin .lss (l 7) (.int .i64 0) λ k=>vcond k (aD [c,(d 3),(d 4),e,f,g,(h 39),i,b,(l 48)] [c,(d 3),(d 4),e,f,g,(h 39),i,b,(l 48)]/\j [a] m) (ag PP iF [c,(d 3),(l 7),a] m λ a k=>aD [c,(d 3),(d 4),e,f,g,(h 39),i,b,(l 48)] [c,(d 3),(d 4),e,f,g,(h 39),i,b,(l 48)]/\j [a] k))) (aD [c,(d 3),(d 4),e,f,g,(h 39)] [c,(d 3),(d 4),e,f,g,(h 39)]/\j [(l 7)] m)
def pS (a:Heap) (b c:D) (d:Nat->D) (e:D) (f:Nat) (g:Nat->HJq) (h:HJq):Prop :=
 ∃(i:Nat->HJq) (j:Nat),i j [(.int .i64 0)] a/\∀(a:Nat) (j:Nat->D) (k:Heap),i a [j 39] k->vbin .lss (j 39) b λ l=>vcond l (xI c (j 39) 1 k λ h k=>xL h 1 false k λ h k=>∃(l:HJq),( ∀(k:Nat->D) (m:Heap),l [k 7] m->xI (d 3) h 1 m λ l m=>xL l 1 false m λ l m=>vbin .neq (k 7) l λ l=>vcond l (xI (d 3) h 1 m λ a b=>xS a (k 7) 1 b λ a b=>0=0/\aD [e] [e]/\∃a,a<f/\g a [(d 3),(d 4)] b) (vbin .add (j 39) (.int .i64 1) λ f=>aD [e,(d 3),(d 4),c,b] [e,(d 3),(d 4),c,b]/\∃b,b<a/\i b [f] m))/\xI (d 4) h 1 k λ a f=>xL a 1 false f λ a f=>aM a f λ g=>BK f g e d h c b j a l) (aD [(d 3)] [(d 3)]/\h [] k)
def uX (a:D) (b:Heap) (K:HKq):Prop :=
 ∃(c:Nat->HJq),(ab PP (.bldS true 1 1 (.int .i64 0) [(0,(.c (.int .i64 (-1))))]) b λ b d=>xF a 0 d λ d e=>xF d 0 e λ d e=>xL d 1 false e λ d e=>aM d e λ d=>ag PP cX [b,d] e λ b d=>ag PP gh [a] d λ d e=>yF a 0 e λ f=>yF f 1 e λ f=>yL f 1 false e λ f=>yI f (.int .i64 0) 1 e λ f=>yL f 1 false e λ f=>yF a 0 e λ g=>yF g 1 e λ g=>yL g 1 false e λ g=>yI g (.int .i64 0) 1 e λ g=>yL g 1 false e λ g=>yI b f 1 e λ f=>xS f g 1 e λ e f=>∃(e:HJq),( ∀(a:Nat->D) (c:Heap),e [] c->K b c)/\xF a 0 f λ f g=>xF f 1 g λ f g=>xL f 1 false g λ f g=>ab PP (.mZ (.c f) (some (.c (.int .i64 1))) none none 1) g λ f g=>aM f g λ h=>gk g h f b a c d e)/\∀(b:Nat) (d:Nat->D) (e:Heap),c b [d 3,d 4] e->∃(f:HJq),( ∀(a:Nat->D) (b:Heap),f [] b->K (d 3) b)/\xF a 0 e λ e g=>xF e 1 g λ e g=>xL e 1 false g λ e g=>ab PP (.mZ (.c e) (some (.c (.int .i64 1))) none none 1) g λ e g=>aM e g λ h=>pS g h e d a b c f
theorem BJ (a0:D) (h0:Heap) (K:HKq):uX a0 h0 K=dt vv K [a0] h0:=by kernel_rfl
def Ht:TLq
 | _=>none
def KC:TTq
 | _=>none
noncomputable abbrev GR:=cFn PP true Gr Ht (cDr PP 6 KC)
noncomputable def G1:aN:=⟨6,aU GR,[.t 4]⟩
theorem Kp:GR=some G1:=by kernel_rfl
def GJ (a b:D) (c:Heap) (K:HKq):Prop :=
 xB a c λ a c=>xB b c λ b c=>ab PP (.mkf kS [] [(.c b),(.c a)]) c λ a b=>K a b
theorem J8 (a0:D) (a1:D) (h0:Heap) (K:HKq):GJ a0 a1 h0 K=dt G1 K [a0,a1] h0:=by kernel_rfl
def Jp:TLq
 | _=>none
def L7:TTq
 | _=>none
noncomputable abbrev Kf:=cFn PP true tS Jp (cDr PP 8 L7)
noncomputable def Kq:aN:=⟨8,aU Kf,[.t 2]⟩
theorem KW:Kf=some Kq:=by kernel_rfl
def J9 (a:D) (b:Heap) (K:HKq):Prop :=
 xB a b λ a b=>xF a 0 b λ b c=>xL b 1 false c λ b c=>vbin .neq b (.int .i64 2) λ b=>vcond b (K (.int .i64 (-1)) c) (xF a 1 c λ a b=>xL a 1 false b λ a b=>K a b)
theorem KT (a0:D) (h0:Heap) (K:HKq):J9 a0 h0 K=dt Kq K [a0] h0:=by kernel_rfl
def dZ:TLq
 | 1000008=>some ([],[])|2=>some ([0,1,7],[8])|_=>none
def eY:TTq
 | _=>none
noncomputable abbrev cf:=cFn PP true bG dZ (cDr PP 19 eY)
noncomputable def cj:aN:=⟨19,aU cf,[.t 4]⟩
theorem eQ:cf=some cj:=by kernel_rfl
def bS (a:Heap) (b c d:D) (e:HJq) (K:HKq):Prop :=
 ∃(f:Nat->HJq) (g:Nat),f g [(.int .i64 0)] a/\∀(a:Nat) (g:Nat->D) (h:Heap),f a [g 8] h->vbin .lss (g 8) b λ i=>vcond i (xI c (g 8) 2 h λ e h=>xL e 2 true h λ e h=>ab PP (.callv (.c d) [(.c e)]) h λ e h=>vcond e (K (g 8) h) (vbin .add (g 8) (.int .i64 1) λ e=>aD [c,d,b] [c,d,b]/\∃b,b<a/\f b [e] h)) (aD [] []/\e [] h)
def cc (a b:D) (c:Heap) (K:HKq):Prop :=
 ∃(d:HJq),( ∀(a:Nat->D) (b:Heap),d [] b->K (.int .i64 (-1)) b)/\aM a c λ e=>bS c e a b d K
theorem eP (a0:D) (a1:D) (h0:Heap) (K:HKq):cc a0 a1 h0 K=dt cj K [a0,a1] h0:=by kernel_rfl
def Bl:TLq
 | 1000013=>some ([5],[])|8=>some ([5,32,33],[34])|_=>none
def EU:TTq
 | 1=>some ([0,0,0,4,14,31,63,0,255],[4,6,7,8],[999996,2])|_=>none
noncomputable abbrev yg:=cFn PP true kR Bl (cDr PP 48 EU)
noncomputable def yB:aN:=⟨48,aU yg,[.t 4]⟩
theorem ED:yg=some yB:=by kernel_rfl
def qB (a:Heap) (b c d:D) (e:HJq):Prop :=
 ∃(f:Nat->HJq) (g:Nat),f g [(.int .i64 0)] a/\∀(a:Nat) (g:Nat->D) (h:Heap),f a [g 34] h->vbin .lss (g 34) b λ i=>vcond i (xI c (g 34) 1 h λ e h=>xL e 1 false h λ e h=>xL d 1 false h λ h i=>xF h 0 i λ h i=>xF h 2 i λ h i=>xL h 1 false i λ h i=>xI h e 1 i λ e h=>xS e (g 34) 1 h λ e h=>vbin .add (g 34) (.int .i64 1) λ e=>aD [d,c,b] [d,c,b]/\∃b,b<a/\f b [e] h) (aD [d] [d]/\e [] h)
def xZ (a b:D) (c:Heap) (K:HKq):Prop :=
 xB a c λ a c=>yL a 1 false c λ d=>au PP (.bldS false 1 1 (.int .i64 0) [(0,(.c (.int .i64 (-1))))]) c λ e=>yL a 1 false c λ f=>aM f c λ g=>ag PP cX [e,g] c λ c e=>((yL a 1 false e λ a=>aD [a] [d])/\True)/\au PP (.bld [.nil,.nil,.nil] [(0,1,(.c d)),(2,1,(.c c))]) e λ c=>xB c e λ c e=>ab PP (.alloc .nilp) e λ e h=>((yL a 1 false h λ a=>aD [a] [d])/\(yL a 1 false h λ a=>aD [a] [f])/\(au PP (.len (.c f)) h λ a=>aD [a] [g])/\True)/\xS e c 1 h λ c d=>xL a 1 false d λ c d=>aM c d λ c=>ab PP (.mk 1 1 (.bool false) (.c c) (.c c)) d λ c d=>ab PP (.alloc .nil) d λ d f=>xS d c 1 f λ c f=>ab PP (.alloc .nilfn) f λ c f=>ab PP (.mkf cD [] [(.c d),(.c a),(.c c),(.c e)]) f λ a d=>xS c a 1 d λ a d=>xL c 1 false d λ a c=>ab PP (.callv (.c a) [(.c b)]) c λ a b=>xL e 1 false b λ a b=>xF a 0 b λ a b=>xF a 1 b λ a b=>xL a 1 false b λ a b=>ag PP eM [a] b λ a b=>∃(a:HJq),( ∀(b:Nat->D) (c:Heap),a [] c->xL e 1 false c λ a b=>K a b)/\xL e 1 false b λ b c=>xF b 0 c λ b c=>xF b 1 c λ b c=>xL b 1 false c λ b c=>aM b c λ d=>qB c d b e a
theorem DO (a0:D) (a1:D) (h0:Heap) (K:HKq):xZ a0 a1 h0 K=dt yB K [a0,a1] h0:=by kernel_rfl
def Hs:TLq
 | 1000008=>some ([3],[])|3=>some ([3,11,12],[13])|_=>none
def KB:TTq
 | _=>none
noncomputable abbrev GQ:=cFn PP true wW Hs (cDr PP 26 KB)
noncomputable def G0:aN:=⟨26,aU GQ,[.t 2]⟩
theorem Kn:GQ=some G0:=by kernel_rfl
def x3 (a:Heap) (b c d:D) (e:HJq):Prop :=
 ∃(f:Nat->HJq) (g:Nat),f g [(.int .i64 0)] a/\∀(a:Nat) (g:Nat->D) (h:Heap),f a [g 13] h->vbin .lss (g 13) b λ i=>vcond i (xI c (g 13) 14 h λ e h=>xL e 14 true h λ e h=>ab PP (.alloc (.agg [.nil,zI,zI,zI,zI,zJ,zI,zI,zJ,zI,zI,zJ,zI,zI])) h λ h i=>xS h e 14 i λ e i=>xF h 1 i λ e h=>xL e 13 true h λ e h=>ag PP g9 [e] h λ e h=>xI d (g 13) 1 h λ h i=>xS h e 1 i λ e h=>vbin .add (g 13) (.int .i64 1) λ e=>aD [d,c,b] [d,c,b]/\∃b,b<a/\f b [e] h) (aD [d] [d]/\e [] h)
def GI (a:D) (b:Heap) (K:HKq):Prop :=
 xB a b λ a b=>xF a 7 b λ b c=>xL b 1 false c λ b c=>aM b c λ b=>ab PP (.mk 1 24 .nil (.c b) (.c b)) c λ b c=>∃(d:HJq),( ∀(a:Nat->D) (c:Heap),d [] c->K b c)/\xF a 7 c λ a c=>xL a 1 false c λ a c=>aM a c λ e=>x3 c e a b d
theorem J6 (a0:D) (h0:Heap) (K:HKq):GI a0 h0 K=dt G0 K [a0] h0:=by kernel_rfl
def ua:TLq
 | 1000012=>some ([3],[])|3=>some ([0,3,17,18],[19])|1000011=>some ([0,3,17,18,19],[])|6=>some ([0,3,5,17,18,19,29,30],[31])|_=>none
def wO:TTq
 | _=>none
noncomputable abbrev p5:=cFn PP true gh ua (cDr PP 48 wO)
noncomputable def qd:aN:=⟨48,aU p5,[.t 2]⟩
theorem wz:p5=some qd:=by kernel_rfl
def lT (a:Heap) (b c d e f g h:D) (i:Nat->D) (j:HJq):Prop :=
 ∃(k:Nat->HJq) (l:Nat),k l [(.int .i64 0)] a/\∀(a:Nat) (l:Nat->D) (m:Heap),k a [l 31] m->vbin .lss (l 31) b λ n=>vcond n (xI c (l 31) 1 m λ j m=>xL j 1 false m λ j m=>xI d j 1 m λ m n=>xL m 1 false n λ m n=>ab PP (.bldS true 1 1 (.int .i64 0) [(0,(.c e))]) n λ n o=>ab PP (.app (.c m) (.c n) 1 8 (.int .i64 0)) o λ m n=>xI d j 1 n λ j n=>xS j m 1 n λ j m=>vbin .add (l 31) (.int .i64 1) λ j=>aD [f,d,e,g,h,(i 19),c,b] [f,d,e,g,h,(i 19),c,b]/\∃b,b<a/\k b [j] m) (aD [f,d,g,h,(i 19)] [f,d,g,h,(i 19)]/\j [] m)
def lQ (a:Heap) (b c d e:D) (f:HJq):Prop :=
 ∃(g:Nat->HJq) (h:Nat),g h [(.int .i64 0)] a/\∀(a:Nat) (h:Nat->D) (i:Heap),g a [h 19] i->vbin .lss (h 19) b λ j=>vcond j ( ∃(f:HJq),( ∀(i:Nat->D) (j:Heap),f [] j->vbin .add (h 19) (.int .i64 1) λ f=>aD [c,d,e,b] [c,d,e,b]/\∃b,b<a/\g b [f] j)/\xI e (h 19) 1 i λ a g=>xL a 1 false g λ a g=>xF c 0 g λ g i=>xF g 0 i λ g i=>xL g 1 false i λ g i=>xI g a 1 i λ g i=>xL g 1 false i λ g i=>aM g i λ j=>lT i j g d a c e b h f) (aD [d] [d]/\f [] i)
def pU (a:D) (b:Heap) (K:HKq):Prop :=
 xF a 0 b λ b c=>xF b 0 c λ b c=>xL b 1 false c λ b c=>aM b c λ b=>ab PP (.mk 1 24 .nil (.c b) (.c b)) c λ b c=>∃(d:HJq),( ∀(a:Nat->D) (c:Heap),d [] c->K b c)/\xF a 0 c λ c e=>xF c 1 e λ c e=>xL c 1 false e λ c e=>aM c e λ f=>lQ e f a b c d
theorem wh (a0:D) (h0:Heap) (K:HKq):pU a0 h0 K=dt qd K [a0] h0:=by kernel_rfl
def nh:TLq
 | 1000004=>some ([0,1],[])|1000007=>some ([0,6],[])|1000011=>some ([7],[])|8=>some ([7],[8])|_=>none
def o6:TTq
 | 9=>some ([0,0,0,6,0,0,48,126,255,511],[7,8,9],[])|_=>none
noncomputable abbrev jv:=cFn PP true cX nh (cDr PP 48 o6)
noncomputable def jw:aN:=⟨48,aU jv,[.t 4]⟩
theorem oT:jv=some jw:=by kernel_rfl
def gQ (a:D) (b:Heap) (c:D) (d:HJq):Prop :=
 ∃(e:Nat->HJq) (f:Nat),e f [a] b/\∀(a:Nat) (b:Nat->D) (f:Heap),e a [b 8] f->aM c f λ g=>vbin .lss (b 8) g λ g=>vcond g (au PP (.mZ (.c c) (some (.c (b 8))) none none 1) f λ d=>au PP (.mZ (.c c) none (some (.c (b 8))) none 1) f λ g=>ab PP (.Iy (.c d) (.c g) 1) f λ d f=>vbin .add (b 8) d λ b=>aD [c] [c]/\∃c,c<a/\e c [b] f) (aD [c] [c]/\d [] f)
def jt (a b:D) (c:Heap) (K:HKq):Prop :=
 ∃(d:HJq),( ∀(c:Nat->D) (e:Heap),d [] e->aM a e λ c=>xC .u64 c e λ c d=>xC .u64 b d λ b d=>ag PP na [c,b] d λ b c=>ab PP (.ext (.c b) 0) c λ c d=>ab PP (.ext (.c b) 1) d λ b d=>∃(e:HJq),( ∀(c:Nat->D) (d:Heap),e [] d->xC .i64 b d λ b c=>ab PP (.mk 1 8 (.int .i64 0) (.c b) (.c b)) c λ b c=>ab PP (.Iy (.c b) (.c a) 1) c λ a c=>∃(d:HJq),( ∀(a:Nat->D) (c:Heap),d [] c->K b c)/\gQ a c b d)/\vbin .gtr c (.int .u64 0) λ c=>vguard c false (λ a=>a b d) d λ d f=>vguard c false (λ a=>vbin .gtr d (.int .u64 9223372036854775807) λ b=>a b f) f λ d f=>xP c (.bool true) d f λ c d=>vcond c (ab PP (.dead) d λ c d=>ab PP (.dead) d λ c d=>aD [a,b] [a,b]/\e [] d) (aD [a,b] [a,b]/\e [] d))/\vbin .lss b (.int .i64 0) λ e=>vcond e (ab PP (.dead) c λ c e=>ab PP (.dead) e λ c e=>aD [a,b] [a,b]/\d [] e) (aD [a,b] [a,b]/\d [] c)
theorem oQ (a0:D) (a1:D) (h0:Heap) (K:HKq):jt a0 a1 h0 K=dt jw K [a0,a1] h0:=by kernel_rfl
def xg:TLq
 | 1000006=>some ([],[2])|1=>some ([0,1],[2,3])|_=>none
def AY:TTq
 | 2=>some ([0,1,3,7,0,31,63,0,128,384,896,0,3968,8064,16383],[],[])|_=>none
noncomputable abbrev th:=cFn PP true iF xg (cDr PP 36 AY)
noncomputable def tC:aN:=⟨36,aU th,[.t 8]⟩
theorem zB:th=some tC:=by kernel_rfl
def om (a b:D) (c:Heap) (d e:D) (f:HJq):Prop :=
 ∃(g:Nat->HJq) (h:Nat),g h [a,b] c/\∀(a:Nat) (b:Nat->D) (c:Heap),g a [b 2,b 3] c->vbin .neq (b 2) (b 3) λ h=>vcond h (yF d 0 c λ f=>yF f 2 c λ f=>yL f 1 false c λ f=>yI f (b 2) 1 c λ f=>yL f 1 false c λ f=>yF d 0 c λ h=>yF h 2 c λ h=>yL h 1 false c λ h=>yI h (b 3) 1 c λ h=>yL h 1 false c λ h=>vbin .gtr f h λ f=>vcond f (xI e (b 2) 1 c λ c f=>xL c 1 false f λ c f=>aD [d,e] [d,e]/\∃d,d<a/\g d [c,(b 3)] f) (xI e (b 3) 1 c λ c f=>xL c 1 false f λ c f=>aD [d,e] [d,e]/\∃d,d<a/\g d [(b 2),c] f)) (aD [] []/\f [(b 2)] c)
def sZ (a b c d:D) (e:Heap) (K:HKq):Prop :=
 ∃(f:HJq),( ∀(a:Nat->D) (b:Heap),f [a 2] b->K (a 2) b)/\om c d e a b f
theorem zp (a0:D) (a1:D) (a2:D) (a3:D) (h0:Heap) (K:HKq):sZ a0 a1 a2 a3 h0 K=dt tC K [a0,a1,a2,a3] h0:=by kernel_rfl
def Bn:TLq
 | 0=>some ([0,1,2],[])|_=>none
def EV:TTq
 | 0=>some ([0,0,3,7,15,15,63,127,15,511,1023],[2],[999999])|_=>none
noncomputable abbrev yh:=cFn PP true kS Bn (cDr PP 19 EV)
noncomputable def yD:aN:=⟨19,aU yh,[]⟩
theorem EE:yh=some yD:=by kernel_rfl
def qD (a:Heap) (b c d:D) (K:HKq):Prop :=
 ∃(e:Nat->HJq) (f:Nat),e f [] a/\∀(a:Nat) (f:Nat->D) (g:Heap),e a [] g->yL b 1 false g λ f=>ab PP (.callv (.c c) [(.c f)]) g λ f g=>ai f true (λ a=>yL d 1 false g λ b=>a b) λ h=>ai f true (λ a=>yL b 1 false g λ b=>a b) λ i=>ai f true (λ a=>yI h i 1 g λ b=>a b) λ h=>ai f true (λ a=>yL h 1 false g λ b=>a b) λ h=>ai f true (λ a=>yL b 1 false g λ b=>a b) λ i=>ai f true (λ a=>vbin .neq h i λ b=>a b) λ h=>yP f h (.bool false) g λ f=>vcond f (xL d 1 false g λ f g=>xL b 1 false g λ g h=>xI f g 1 h λ f g=>xL f 1 false g λ f g=>xS b f 1 g λ f g=>aD [c,b,d] [c,b,d]/\∃b,b<a/\e b [] g) (K (.tup []) g)
def x5 (a b c:D) (d:Heap) (K:HKq):Prop :=
 qD d b a c K
theorem DP (a0:D) (a1:D) (a2:D) (h0:Heap) (K:HKq):x5 a0 a1 a2 h0 K=dt yD K [a0,a1,a2] h0:=by kernel_rfl
def vT:TLq
 | 1000008=>some ([0,4],[])|2=>some ([0,1,3,4,14,15],[16])|1000007=>some ([0,1,3,4,14,15,16],[])|_=>none
def y5:TTq
 | 7=>some ([0,0,2,6,14,0,32,126,255,511,1023],[7,10],[0])|_=>none
noncomputable abbrev qL:=cFn PP true cD vT (cDr PP 39 y5)
noncomputable def qT:aN:=⟨39,aU qL,[]⟩
theorem yA:qL=some qT:=by kernel_rfl
def mO (a:Heap) (b c d e f g:D) (h:HJq):Prop :=
 ∃(i:Nat->HJq) (j:Nat),i j [(.int .i64 0)] a/\∀(a:Nat) (j:Nat->D) (k:Heap),i a [j 16] k->vbin .lss (j 16) b λ l=>vcond l ( ∃(h:HJq),( ∀(k:Nat->D) (l:Heap),h [] l->vbin .add (j 16) (.int .i64 1) λ h=>aD [c,d,e,f,g,b] [c,d,e,f,g,b]/\∃b,b<a/\i b [h] l)/\xI g (j 16) 1 k λ a i=>xL a 1 false i λ a i=>xL d 1 false i λ i k=>xI i a 1 k λ i k=>xL i 1 false k λ i k=>vun .not i λ i=>vcond i (xL e 1 false k λ i k=>ab PP (.callv (.c i) [(.c a)]) k λ a i=>aD [c,d,e,f,g,b,(j 16)] [c,d,e,f,g,b,(j 16)]/\h [] i) (aD [c,d,e,f,g,b,(j 16)] [c,d,e,f,g,b,(j 16)]/\h [] k)) (aD [c,f] [c,f]/\h [] k)
def qC (a b c d e:D) (f:Heap) (K:HKq):Prop :=
 xL b 1 false f λ f g=>xI f a 1 g λ f g=>xS f (.bool true) 1 g λ f g=>∃(f:HJq),( ∀(b:Nat->D) (c:Heap),f [] c->yL e 1 false c λ b=>yL e 1 false c λ d=>yF d 0 c λ d=>yF d 1 c λ d=>yL d 1 false c λ d=>au PP (.bldS false 1 1 (.int .i64 0) [(0,(.c a))]) c λ a=>yF b 0 c λ f=>yF f 1 c λ f=>ab PP (.app (.c d) (.c a) 1 8 (.int .i64 0)) c λ a c=>((yL e 1 false c λ a=>aD [a] [b])/\True)/\xS f a 1 c λ a c=>((yL e 1 false c λ a=>aD [a] [b])/\True)/\K (.tup []) c)/\xL c 1 false g λ c g=>xI c a 1 g λ c g=>xL c 1 false g λ c g=>aM c g λ h=>mO g h a b d e c f
theorem xY (a0:D) (a1:D) (a2:D) (a3:D) (a4:D) (h0:Heap) (K:HKq):qC a0 a1 a2 a3 a4 h0 K=dt qT K [a0,a1,a2,a3,a4] h0:=by kernel_rfl
def mG:TLq
 | 1=>some ([0],[2,3])|_=>none
def oE:TTq
 | 3=>some ([0,0,0,0,0,0,48,112,0,0,768,1792,4083,8179,16383,32767],[13,15],[14])|_=>none
noncomputable abbrev iQ:=cFn PP true eM mG (cDr PP 28 oE)
noncomputable def iS:aN:=⟨28,aU iQ,[]⟩
theorem nP:iQ=some iS:=by kernel_rfl
def gy (a:D) (b:Heap) (c:D) (K:HKq):Prop :=
 ∃(d:Nat->HJq) (e:Nat),d e [(.int .i64 0),a] b/\∀(a:Nat) (b:Nat->D) (e:Heap),d a [b 2,b 3] e->vbin .lss (b 2) (b 3) λ f=>vcond f (yI c (b 3) 1 e λ f=>yL f 1 false e λ f=>yI c (b 2) 1 e λ g=>yL g 1 false e λ g=>yI c (b 2) 1 e λ h=>yI c (b 3) 1 e λ i=>xS h f 1 e λ e f=>((yI c (b 3) 1 f λ a=>aD [a] [i])/\True)/\xS i g 1 f λ e f=>((yI c (b 3) 1 f λ a=>aD [a] [i])/\True)/\vbin .add (b 2) (.int .i64 1) λ e=>vbin .sub (b 3) (.int .i64 1) λ b=>aD [c] [c]/\∃c,c<a/\d c [e,b] f) (K (.tup []) e)
def iP (a:D) (b:Heap) (K:HKq):Prop :=
 aM a b λ c=>vbin .sub c (.int .i64 1) λ c=>gy c b a K
theorem nq (a0:D) (h0:Heap) (K:HKq):iP a0 h0 K=dt iS K [a0] h0:=by kernel_rfl
def y9:TLq
 | _=>none
def Ce:TTq
 | _=>none
noncomputable abbrev u9:=cFn PP true na y9 (cDr PP 30 Ce)
noncomputable def vr:aN:=⟨30,aU u9,[.t 4,.t 5]⟩
theorem BU:u9=some vr:=by kernel_rfl
def uV (a b:D) (c:Heap) (K:HKq):Prop :=
 vcond (.bool false) (xC .u32 a c λ a c=>xC .u32 b c λ b c=>ag PP Cu [a,b] c λ a b=>ab PP (.ext (.c a) 0) b λ b c=>ab PP (.ext (.c a) 1) c λ a c=>xC .u64 b c λ b c=>xC .u64 a c λ a c=>K (.tup [b,a]) c) (ag PP kQ [a,b] c λ a b=>ab PP (.ext (.c a) 0) b λ b c=>ab PP (.ext (.c a) 1) c λ a c=>K (.tup [b,a]) c)
theorem BH (a0:D) (a1:D) (h0:Heap) (K:HKq):uV a0 a1 h0 K=dt vr K [a0,a1] h0:=by kernel_rfl
def vQ:TLq
 | _=>none
def y3:TTq
 | _=>none
noncomputable abbrev qJ:=cFn PP true kQ vQ (cDr PP 51 y3)
noncomputable def qQ:aN:=⟨51,aU qJ,[.t 4,.t 5]⟩
theorem yy:qJ=some qQ:=by kernel_rfl
end Go.Am
namespace Go.Am
open Go Go.Proofs
def qz (a b:D) (c:Heap) (K:HKq):Prop :=
 vbin .and a (.int .u64 4294967295) λ d=>vbin .shr a (.int .u64 32) λ e=>vbin .and b (.int .u64 4294967295) λ f=>vbin .shr b (.int .u64 32) λ g=>vbin .mul d f λ h=>vbin .mul e f λ f=>vbin .shr h (.int .u64 32) λ h=>vbin .add f h λ f=>vbin .and f (.int .u64 4294967295) λ h=>vbin .shr f (.int .u64 32) λ f=>vbin .mul d g λ d=>vbin .add h d λ d=>vbin .mul e g λ e=>vbin .add e f λ e=>vbin .shr d (.int .u64 32) λ d=>vbin .add e d λ d=>vbin .mul a b λ a=>K (.tup [d,a]) c
theorem xW (a0:D) (a1:D) (h0:Heap) (K:HKq):qz a0 a1 h0 K=dt qQ K [a0,a1] h0:=by kernel_rfl
end Go.Am
namespace Go.Am
open Go Go.Proofs
def Bi:TLq
 | 1000010=>some ([3,4,5],[])|5=>some ([1,3,4,5],[6])|1000007=>some ([1,3,4,5,6],[])|1000015=>some ([3],[])|10=>some ([3,4,5],[7])|1000012=>some ([3,4,5,7],[])|_=>none
def ER:TTq
 | 13=>some ([0,0,0,6,14,0,0,0,0,384,896,1984,4032,8160,0,16384,65504,131071,262143],[5,13,16,18],[999999])|_=>none
noncomputable abbrev yd:=cFn PP true ra Bi (cDr PP 72 ER)
noncomputable def yr:aN:=⟨72,aU yd,[.t 2]⟩
theorem Es:yd=some yr:=by kernel_rfl
def lz (a:D) (b:Heap) (c d e:D) (f:HJq):Prop :=
 ∃(g:Nat->HJq) (h:Nat),g h [a] b/\∀(a:Nat) (b:Nat->D) (h:Heap),g a [b 7] h->vbin .geq (b 7) (.int .i64 0) λ i=>vcond i ( ∃(f:HJq),( ∀(h:Nat->D) (i:Heap),f [] i->vbin .sub (b 7) (.int .i64 1) λ b=>aD [c,d,e] [c,d,e]/\∃c,c<a/\g c [b] i)/\xI e (b 7) 1 h λ a g=>xL a 1 false g λ a g=>ag PP kK [c,a,(.int .i64 (-1))] g λ a g=>xI a d 1 g λ a g=>xL a 1 false g λ a g=>vun .not a λ a=>vcond a (yI e (b 7) 1 g λ a=>yL a 1 false g λ h=>yI e (b 7) 1 g λ i=>yL i 1 false g λ j=>yI c j 1 g λ k=>yL k 1 false g λ l=>au PP (.bldS false 1 1 (.int .i64 0) [(0,(.c d))]) g λ m=>ab PP (.bldS true 1 0 (.int .i64 0) []) g λ g n=>((yI e (b 7) 1 n λ b=>aD [b] [a])/\(yL a 1 false n λ a=>aD [a] [h])/\(yI e (b 7) 1 n λ a=>aD [a] [i])/\(yL i 1 false n λ a=>aD [a] [j])/\(yI c j 1 n λ a=>aD [a] [k])/\(yL k 1 false n λ a=>aD [a] [l])/\True)/\ab PP (.app (.c g) (.c l) 1 8 (.int .i64 0)) n λ g i=>((yI e (b 7) 1 i λ b=>aD [b] [a])/\(yL a 1 false i λ a=>aD [a] [h])/\True)/\ab PP (.app (.c g) (.c m) 1 8 (.int .i64 0)) i λ g i=>((yI e (b 7) 1 i λ b=>aD [b] [a])/\(yL a 1 false i λ a=>aD [a] [h])/\True)/\yI c h 1 i λ a=>xS a g 1 i λ a g=>aD [c,d,e,(b 7)] [c,d,e,(b 7)]/\f [] g) (aD [c,d,e,(b 7)] [c,d,e,(b 7)]/\f [] g)) (aD [c] [c]/\f [] h)
def ly (a:Heap) (b c d e:D) (f:HJq):Prop :=
 ∃(g:Nat->HJq) (h:Nat),g h [(.int .i64 0)] a/\∀(a:Nat) (h:Nat->D) (i:Heap),g a [h 6] i->vbin .lss (h 6) b λ j=>vcond j ( ∃(f:HJq),( ∀(i:Nat->D) (j:Heap),f [] j->vbin .add (h 6) (.int .i64 1) λ f=>aD [c,d,b,e] [c,d,b,e]/\∃b,b<a/\g b [f] j)/\xF c 7 i λ a g=>xL a 1 false g λ a g=>xI a (h 6) 14 g λ a g=>xF a 1 g λ a g=>xF a 0 g λ a g=>xL a 1 false g λ a g=>vbin .eql a (.int .i64 5) λ a=>vcond a (ab PP (.bldS true 1 1 (.int .i64 0) [(0,(.c b))]) g λ a g=>xI d (h 6) 1 g λ g i=>xS g a 1 i λ a g=>aD [c,d,b,e,(h 6)] [c,d,b,e,(h 6)]/\f [] g) (aD [c,d,b,e,(h 6)] [c,d,b,e,(h 6)]/\f [] g)) (aD [d,b,e] [d,b,e]/\f [] i)
def xO (a:D) (b:Heap) (K:HKq):Prop :=
 xB a b λ a b=>xL a 8 true b λ b c=>ag PP mC [b] c λ b c=>ab PP (.bldS true 1 0 (.int .i64 0) []) c λ c d=>ab PP (.bldS true 1 1 .nil [(0,(.c c))]) d λ c d=>ab PP (.app (.c b) (.c c) 1 24 .nil) d λ b c=>xF a 7 c λ c d=>xL c 1 false d λ c d=>aM c d λ c=>xL a 8 true d λ d e=>ag PP qZ [d] e λ d e=>∃(f:HJq),( ∀(a:Nat->D) (e:Heap),f [] e->∃(a:HJq),( ∀(c:Nat->D) (d:Heap),a [] d->K b d)/\aM d e λ f=>vbin .sub f (.int .i64 1) λ f=>lz f e b c d a)/\ly e c a b d f
theorem DE (a0:D) (h0:Heap) (K:HKq):xO a0 h0 K=dt yr K [a0] h0:=by kernel_rfl
end Go.Am
namespace Go.Am
open Go Go.Proofs
def xf:TLq
 | 1000025=>some ([2,4],[])|_=>none
def AX:TTq
 | 12=>some ([0,1,0,0,15,0,32,0,128,480,1023,2047,4095],[10,12],[])|15=>some ([0,1,0,7,15,0,32,96,0,480,0,1024,4095,8191],[13],[])|19=>some ([0,1,0,0,8,0,56,120,0,0,1016,0,2048,0,14336,30720,0,65536,260096,524280,1048575,2097151],[19,21],[1,20])|21=>some ([0,1,0,0,8,0,56,120,0,256,768,2040,4095,8191],[11,13],[999995])|8=>some ([0,1,0,0,8,0,56,120,0,256,768,2040,4095,8191],[11,13],[1,12])|_=>none
noncomputable abbrev tf:=cFn PP false jC xf (cDr PP 151 AX)
noncomputable def tB:aN:=⟨151,aU tf,[.cell 4 2 true]⟩
theorem zA:tf=some tB:=by kernel_rfl
def sY (a b:D) (c:Heap) (K:HKq):Prop :=
 xB a c λ a c=>xB b c λ b c=>ab PP (.alloc (.agg [.nil,.nil])) c λ c d=>xL a 2 true d λ d e=>ag PP tN [d] e λ d e=>xS a d 2 e λ d e=>xF a 0 e λ d e=>xL d 1 false e λ d e=>aM d e λ d=>vbin .eql d (.int .i64 0) λ d=>vguard d false (λ b=>xF a 1 e λ a c=>b a c) e λ e f=>vguard d false (λ a=>xL e 1 false f λ b c=>a b c) f λ e f=>vguard d false (λ a=>aM e f λ b=>a b f) f λ e f=>vguard d false (λ a=>vbin .eql e (.int .i64 0) λ b=>a b f) f λ e f=>xP d (.bool true) e f λ d e=>vcond d (xL a 2 true e λ a b=>xS c a 2 b λ a b=>xL c 2 true b λ a c=>K a b) (xF b 1 e λ d e=>xL d 1 false e λ d e=>xC .i64 d e λ d e=>xF a 0 e λ e f=>xL e 1 false f λ e f=>aM e f λ e=>vbin .rem d e λ d=>xF b 1 f λ e f=>xL e 1 false f λ e f=>xC .i64 e f λ e f=>xF a 1 f λ f g=>xL f 1 false g λ f g=>aM f g λ f=>vbin .rem e f λ e=>xF a 1 g λ f g=>xL f 1 false g λ f g=>xI f e 1 g λ f g=>xL f 1 false g λ f g=>aM f g λ f=>∃(h:HJq),( ∀(b:Nat->D) (d:Heap),h [] d->xL a 2 true d λ a b=>xS c a 2 b λ a b=>xL c 2 true b λ a c=>K a b)/\xF b 0 g λ g i=>xL g 1 false i λ g i=>vbin .rem g (.int .u8 7) λ g=>vbin .eql g (.int .u8 0) λ j=>vcond j (xF a 0 i λ e f=>xL e 1 false f λ e f=>xF b 3 f λ b f=>xL b 1 false f λ b f=>xI e d 1 f λ d e=>xS d b 1 e λ b d=>aD [a,c] [a,c]/\h [] d) (vbin .eql g (.int .u8 1) λ j=>vcond j (yF a 0 i λ b=>yL b 1 false i λ b=>au PP (.mZ (.c b) none (some (.c d)) (some (.c d)) 1) i λ b=>yF a 0 i λ e=>yL e 1 false i λ e=>vbin .add d (.int .i64 1) λ d=>au PP (.mZ (.c e) (some (.c d)) none none 1) i λ d=>yF a 0 i λ e=>ab PP (.app (.c b) (.c d) 1 8 (.int .i64 0)) i λ b d=>xS e b 1 d λ b d=>aD [a,c] [a,c]/\h [] d) (vbin .eql g (.int .u8 2) λ d=>vcond d (vbin .gtr f (.int .i64 0) λ d=>vcond d (yF a 1 i λ d=>yL d 1 false i λ d=>yI d e 1 i λ d=>yL d 1 false i λ d=>yF b 2 i λ e=>yL e 1 false i λ e=>yC .i64 e i λ e=>vbin .rem e f λ e=>yF b 3 i λ b=>yL b 1 false i λ b=>yI d e 1 i λ d=>xS d b 1 i λ b d=>aD [a,c] [a,c]/\h [] d) (aD [a,c] [a,c]/\h [] i)) (vbin .eql g (.int .u8 3) λ d=>vcond d (vbin .gtr f (.int .i64 0) λ d=>vcond d (xF b 2 i λ b d=>xL b 1 false d λ b d=>xC .i64 b d λ b d=>vbin .rem b f λ b=>yF a 1 d λ f=>yL f 1 false d λ g=>yF a 1 d λ i=>yL i 1 false d λ i=>yI i e 1 d λ i=>yL i 1 false d λ i=>au PP (.mZ (.c i) none (some (.c b)) (some (.c b)) 1) d λ i=>yF a 1 d λ j=>yL j 1 false d λ j=>yI j e 1 d λ j=>yL j 1 false d λ j=>vbin .add b (.int .i64 1) λ b=>au PP (.mZ (.c j) (some (.c b)) none none 1) d λ b=>yI g e 1 d λ j=>ab PP (.app (.c i) (.c b) 1 8 (.int .i64 0)) d λ b d=>((yL f 1 false d λ a=>aD [a] [g])/\(yI g e 1 d λ a=>aD [a] [j])/\True)/\xS j b 1 d λ b d=>((yL f 1 false d λ a=>aD [a] [g])/\(yI g e 1 d λ a=>aD [a] [j])/\True)/\aD [a,c] [a,c]/\h [] d) (aD [a,c] [a,c]/\h [] i)) (vbin .eql g (.int .u8 4) λ d=>vcond d (yF a 1 i λ d=>yL d 1 false i λ f=>yF a 1 i λ g=>yL g 1 false i λ g=>yI g e 1 i λ g=>yL g 1 false i λ g=>yF b 3 i λ b=>yL b 1 false i λ b=>vbin .and b (.int .i64 15) λ b=>ag PP gH [g,b] i λ b g=>((yF a 1 g λ a=>aD [a] [d])/\(yL d 1 false g λ a=>aD [a] [f])/\True)/\yI f e 1 g λ d=>xS d b 1 g λ b d=>aD [a,c] [a,c]/\h [] d) (vbin .eql g (.int .u8 5) λ d=>vcond d (xF a 1 i λ b d=>xL b 1 false d λ b d=>ab PP (.bldS false 1 1 (.int .i64 0) [(0,(.c (.int .i64 0)))]) d λ d e=>ab PP (.bldS false 1 1 .nil [(0,(.c d))]) e λ d e=>ab PP (.app (.c b) (.c d) 1 24 .nil) e λ b d=>xF a 1 d λ d e=>xS d b 1 e λ b d=>aD [a,c] [a,c]/\h [] d) (yF a 1 i λ d=>yL d 1 false i λ f=>yF a 1 i λ g=>yL g 1 false i λ g=>yI g e 1 i λ g=>yL g 1 false i λ g=>yF b 3 i λ b=>yL b 1 false i λ b=>au PP (.bldS false 1 1 (.int .i64 0) [(0,(.c b))]) i λ b=>yI f e 1 i λ j=>ab PP (.app (.c g) (.c b) 1 8 (.int .i64 0)) i λ b g=>((yL d 1 false g λ a=>aD [a] [f])/\(yI f e 1 g λ a=>aD [a] [j])/\True)/\xS j b 1 g λ b g=>((yL d 1 false g λ a=>aD [a] [f])/\(yI f e 1 g λ a=>aD [a] [j])/\True)/\aD [a,c] [a,c]/\h [] g)))))))
theorem zo (a0:D) (a1:D) (h0:Heap) (K:HKq):sY a0 a1 h0 K=dt tB K [a0,a1] h0:=by kernel_rfl
end Go.Am
namespace Go.Am
open Go Go.Proofs
def jK:TLq
 | 1000024=>some ([7],[])|6=>some ([5,7,8],[9])|1000008=>some ([5,7,8,9],[])|1000018=>some ([],[5,7,8,9,10,12,14])|18=>some ([5,7,8,9,10,12,14],[17])|_=>none
def kD:TTq
 | 4=>some ([0,1,0,4,12,28,63,0,255,511,1023],[1,6,8],[999999])|15=>some ([0,0,3,7,15,31,31,127,31,31,1023,2047,4095,8191,16383,16383,65535,16383,16383,524287,1048575,2097151,4194303,8388607,8388607,33554431,8388607,8388607,268435455,536870911,1073741823,2147483647,4294967295,4294967295,17179869183,4294967295,4294967295,137438953471,274877906943,549755813887,1099511627775,2199023255551,2199023255551,6597069766655,17592186044415,2199023255551,2199023255551,105553116266495,281474976710655,562949953421311,1125899906842623],[],[])|21=>some ([0,0,0,7,0,0,0,127,255,511,1023,1023,1023,8191,1023,1023,1023,131071,262143,524287],[],[])|_=>none
noncomputable abbrev fQ:=cFn PP true fX jK (cDr PP 149 kD)
noncomputable def fS:aN:=⟨149,aU fQ,[.t 6]⟩
theorem ku:fQ=some fS:=by kernel_rfl
def et (a:Heap) (b:Nat->D) (c d e:D) (f:Nat->D) (g:HJq) (K:HKq):Prop :=
 ∃(h:Nat->HJq) (i:Nat),h i [(.int .i64 (-1))] a/\∀(a:Nat) (i:Nat->D) (j:Heap),h a [i 17] j->xF (b 10) 7 j λ j k=>xL j 1 false k λ j k=>aM j k λ j=>vbin .leq (i 17) j λ j=>vcond j (xJ (b 5) (.int .i64 1) 2 4 k λ c d=>xF c 3 d λ c d=>xL c 1 false d λ c d=>vbin .rem c (.int .i64 20) λ c=>yL (b 14) 2 true d λ e=>au PP (.call bM [(.c e),(.c (i 17)),(.c c)]) d λ e=>yL (b 14) 2 true d λ f=>au PP (.call dG [(.c f),(.c (i 17)),(.c c)]) d λ f=>au PP (.eqv true false [.b] (.c e) (.c f)) d λ e=>ai e false (λ a=>yL (b 12) 2 true d λ b=>a b) λ f=>ai e false (λ a=>a (i 17)) λ g=>ai e false (λ a=>a c) λ j=>ai e false (λ a=>au PP (.call bM [(.c f),(.c g),(.c j)]) d λ b=>a b) λ f=>ai e false (λ a=>yL (b 12) 2 true d λ b=>a b) λ g=>ai e false (λ a=>a (i 17)) λ j=>ai e false (λ a=>a c) λ c=>ai e false (λ a=>au PP (.call dG [(.c g),(.c j),(.c c)]) d λ b=>a b) λ c=>ai e false (λ a=>au PP (.eqv true false [.b] (.c f) (.c c)) d λ b=>a b) λ c=>yP e (.bool true) c d λ c=>vcond c (K (.bool false) d) (vbin .add (i 17) (.int .i64 1) λ c=>aD [(b 5),(b 7),(b 8),(b 9),(b 10),(b 12),(b 14)] [(b 5),(b 7),(b 8),(b 9),(b 10),(b 12),(b 14)]/\∃b,b<a/\h b [c] d)) (aD [(b 5),(b 7),(b 8),(b 9)] [c,d,e,(f 9)]/\g [] k)
def er (a:Heap) (b c d:D) (e:HJq) (K:HKq):Prop :=
 ∃(f:Nat->HJq) (g:Nat),f g [(.int .i64 0)] a/\∀(a:Nat) (g:Nat->D) (h:Heap),f a [g 9] h->vbin .lss (g 9) (.int .i64 2) λ i=>vcond i ( ∃(e:HJq),( ∀(h:Nat->D) (i:Heap),e [] i->vbin .add (g 9) (.int .i64 1) λ e=>aD [b,c,d] [b,c,d]/\∃b,b<a/\f b [e] i)/\xI d (g 9) 8 h λ a f=>xL a 8 true f λ a f=>ab PP (.alloc (.agg [zI,zI,zI,zI,zI,.nil,.nil,.nil])) f λ f h=>xS f a 8 h λ a h=>xL f 8 true h λ a h=>ag PP kP [a] h λ a h=>ab PP (.alloc (.agg [.nil,.nil])) h λ h i=>xS h a 2 i λ a i=>xL f 8 true i λ a i=>ag PP tM [a] i λ a i=>ab PP (.alloc (.agg [.nil,.nil])) i λ i j=>xS i a 2 j λ a j=>xL i 2 true j λ a j=>xJ b (.int .i64 0) 2 4 j λ j k=>xL j 4 true k λ j k=>ag PP jC [a,j] k λ a j=>ab PP (.alloc (.agg [.nil,.nil])) j λ j k=>xS j a 2 k λ a k=>xL j 2 true k λ a k=>xJ b (.int .i64 1) 2 4 k λ k l=>xL k 4 true l λ k l=>ag PP jC [a,k] l λ a k=>ab PP (.alloc (.agg [.nil,.nil])) k λ k l=>xS k a 2 l λ a l=>xL f 8 true l λ a l=>ag PP gg [a] l λ a l=>ab PP (.alloc (.agg [.nil,.nil])) l λ l m=>xS l a 2 m λ a m=>xL f 8 true m λ a m=>xJ b (.int .i64 0) 2 4 m λ m n=>xF m 1 n λ m n=>xL m 1 false n λ m n=>xJ b (.int .i64 0) 2 4 n λ n o=>xF n 2 o λ n o=>xL n 1 false o λ n o=>xJ b (.int .i64 1) 2 4 o λ o p=>xF o 1 p λ o p=>xL o 1 false p λ o p=>ab PP (.bldS true 1 3 (.int .u8 0) [(0,(.c m)),(1,(.c n)),(2,(.c o))]) p λ m n=>ag PP oK [a,m] n λ a m=>ab PP (.alloc (.agg [.nil,.nil])) m λ m n=>xS m a 2 n λ a n=>∃(a:HJq),( ∀(f:Nat->D) (h:Heap),a [f 5,f 7,f 8,f 9,f 10,f 12,f 14] h->et h f b c d g e K)/\yL h 2 true n λ e=>yL i 2 true n λ h=>au PP (.call iC [(.c e),(.c h)]) n λ e=>vun .not e λ e=>ai e false (λ a=>yL f 8 true n λ b=>a b) λ h=>ai e false (λ a=>yL j 2 true n λ b=>a b) λ o=>ai e false (λ a=>au PP (.call bZ [(.c h),(.c o)]) n λ b=>a b) λ h=>ai e false (λ a=>yL f 8 true n λ b=>a b) λ o=>ai e false (λ a=>yL j 2 true n λ b=>a b) λ j=>ai e false (λ a=>au PP (.call jo [(.c o),(.c j)]) n λ b=>a b) λ j=>ai e false (λ a=>vbin .neq h j λ b=>a b) λ h=>yP e (.bool true) h n λ e=>ai e false (λ a=>yL f 8 true n λ b=>a b) λ h=>ai e false (λ a=>yL k 2 true n λ b=>a b) λ j=>ai e false (λ a=>au PP (.call bZ [(.c h),(.c j)]) n λ b=>a b) λ h=>ai e false (λ a=>yL f 8 true n λ b=>a b) λ j=>ai e false (λ a=>yL k 2 true n λ b=>a b) λ o=>ai e false (λ a=>au PP (.call jo [(.c j),(.c o)]) n λ b=>a b) λ j=>ai e false (λ a=>vbin .neq h j λ b=>a b) λ h=>yP e (.bool true) h n λ e=>ai e false (λ a=>yL f 8 true n λ b=>a b) λ h=>ai e false (λ a=>yL l 2 true n λ b=>a b) λ j=>ai e false (λ a=>au PP (.call bY [(.c h),(.c j)]) n λ b=>a b) λ h=>ai e false (λ a=>yL f 8 true n λ b=>a b) λ j=>ai e false (λ a=>yL l 2 true n λ b=>a b) λ l=>ai e false (λ a=>au PP (.call gG [(.c j),(.c l)]) n λ b=>a b) λ j=>ai e false (λ a=>vbin .neq h j λ b=>a b) λ h=>yP e (.bool true) h n λ e=>ai e false (λ a=>yL f 8 true n λ b=>a b) λ h=>ai e false (λ a=>yL m 2 true n λ b=>a b) λ j=>ai e false (λ a=>au PP (.call bY [(.c h),(.c j)]) n λ b=>a b) λ h=>ai e false (λ a=>yL f 8 true n λ b=>a b) λ j=>ai e false (λ a=>yL m 2 true n λ b=>a b) λ l=>ai e false (λ a=>au PP (.call gG [(.c j),(.c l)]) n λ b=>a b) λ j=>ai e false (λ a=>vbin .neq h j λ b=>a b) λ h=>yP e (.bool true) h n λ e=>ai e false (λ a=>yL f 8 true n λ b=>a b) λ h=>ai e false (λ a=>yL f 8 true n λ b=>a b) λ j=>ai e false (λ a=>au PP (.call gZ [(.c j),(.c (.bool true))]) n λ b=>a b) λ j=>ai e false (λ a=>au PP (.call bY [(.c h),(.c j)]) n λ b=>a b) λ h=>ai e false (λ a=>yL f 8 true n λ b=>a b) λ j=>ai e false (λ a=>yL f 8 true n λ b=>a b) λ l=>ai e false (λ a=>au PP (.call gZ [(.c l),(.c (.bool true))]) n λ b=>a b) λ l=>ai e false (λ a=>au PP (.call gG [(.c j),(.c l)]) n λ b=>a b) λ j=>ai e false (λ a=>vbin .neq h j λ b=>a b) λ h=>yP e (.bool true) h n λ e=>vcond e (K (.bool false) n) (aD [] []/\a [b,c,d,(g 9),f,i,k] n)) (aD [c] [c]/\e [] h)
def fO (a b c:D) (d:Heap) (K:HKq):Prop :=
 xB a d λ a d=>xB c d λ c d=>ag PP iE [] d λ d e=>vun .not d λ f=>vcond f (K (.bool false) e) (yL a 1 true e λ a=>yJ c (.int .i64 0) 2 4 e λ f=>yF f 3 e λ g=>yL g 1 false e λ h=>yC .u32 h e λ i=>ag PP tP [a] e λ a e=>((yJ c (.int .i64 0) 2 4 e λ a=>aD [a] [f])/\(yF f 3 e λ a=>aD [a] [g])/\(yL g 1 false e λ a=>aD [a] [h])/\True)/\ag PP pf [a,i] e λ a e=>ag PP tO [b] e λ b e=>au PP (.bldS false 8 2 (.agg [zI,zI,zI,zI,zI,.nil,.nil,.nil]) [(0,(.c a)),(1,(.c b))]) e λ a=>∃(b:HJq),( ∀(a:Nat->D) (c:Heap),b [] c->K d c)/\er e c d a b K)
theorem kp (a0:D) (a1:D) (a2:D) (h0:Heap) (K:HKq):fO a0 a1 a2 h0 K=dt fS K [a0,a1,a2] h0:=by kernel_rfl
end Go.Am
namespace Go.Am
open Go Go.Proofs
def vS:TLq
 | _=>none
def y4:TTq
 | 7=>some ([0,0,2,7,15,31,63,63,191,511,1023,2047,4095,8191,8191,32767,65535,131071],[],[])|_=>none
noncomputable abbrev qK:=cFn PP false iE vS (cDr PP 76 y4)
noncomputable def qS:aN:=⟨76,aU qK,[.t 0]⟩
theorem yz:qK=some qS:=by kernel_rfl
def qA (a:Heap) (K:HKq):Prop :=
 ag PP jB [(.int .i64 3),(.bool false)] a λ a b=>ab PP (.alloc (.agg [zI,zI,zI,zI,zI,.nil,.nil,.nil])) b λ b c=>xS b a 8 c λ a c=>ag PP jB [(.int .i64 2),(.bool true)] c λ a c=>ab PP (.alloc (.agg [zI,zI,zI,zI,zI,.nil,.nil,.nil])) c λ c d=>xS c a 8 d λ a d=>xL b 8 true d λ a d=>ag PP kP [a] d λ a d=>ab PP (.alloc (.agg [.nil,.nil])) d λ d e=>xS d a 2 e λ a e=>xL c 8 true e λ a e=>ag PP kP [a] e λ a e=>ab PP (.alloc (.agg [.nil,.nil])) e λ e f=>xS e a 2 f λ a f=>xL b 8 true f λ a f=>xL d 2 true f λ f g=>ag PP bZ [a,f] g λ a f=>vbin .neq a (.int .i64 0) λ a=>vguard a false (λ a=>xL c 8 true f λ b c=>a b c) f λ f g=>vguard a false (λ a=>xL d 2 true g λ b c=>a b c) g λ g h=>vguard a false (λ a=>ag PP bZ [f,g] h λ b c=>a b c) h λ f g=>vguard a false (λ a=>vbin .neq f (.int .i64 0) λ b=>a b g) g λ f g=>xP a (.bool true) f g λ a f=>vguard a false (λ a=>xL b 8 true f λ b c=>a b c) f λ f g=>vguard a false (λ a=>xL e 2 true g λ b c=>a b c) g λ g h=>vguard a false (λ a=>ag PP bZ [f,g] h λ b c=>a b c) h λ f g=>vguard a false (λ a=>vbin .neq f (.int .i64 100) λ b=>a b g) g λ f g=>xP a (.bool true) f g λ a f=>vguard a false (λ a=>xL b 8 true f λ b c=>a b c) f λ f g=>vguard a false (λ a=>ab PP (.bld [.nil,.nil] []) g λ b c=>a b c) g λ g h=>vguard a false (λ a=>ag PP bZ [f,g] h λ b c=>a b c) h λ f g=>vguard a false (λ a=>vbin .neq f (.int .i64 100) λ b=>a b g) g λ f g=>xP a (.bool true) f g λ a f=>vcond a (K (.bool false) f) (yL b 8 true f λ a=>yL b 8 true f λ g=>au PP (.call gg [(.c g)]) f λ g=>au PP (.call bY [(.c a),(.c g)]) f λ a=>vbin .neq a (.int .i64 0) λ a=>ai a false (λ a=>yL c 8 true f λ b=>a b) λ g=>ai a false (λ a=>yL c 8 true f λ b=>a b) λ c=>ai a false (λ a=>au PP (.call gg [(.c c)]) f λ b=>a b) λ c=>ai a false (λ a=>au PP (.call bY [(.c g),(.c c)]) f λ b=>a b) λ c=>ai a false (λ a=>vbin .neq c (.int .i64 90) λ b=>a b) λ c=>yP a (.bool true) c f λ a=>ai a false (λ a=>yL b 8 true f λ b=>a b) λ b=>ai a false (λ a=>au PP (.bld [.nil,.nil] []) f λ b=>a b) λ c=>ai a false (λ a=>au PP (.call bY [(.c b),(.c c)]) f λ b=>a b) λ b=>ai a false (λ a=>vbin .neq b (.int .i64 100) λ b=>a b) λ b=>yP a (.bool true) b f λ a=>vcond a (K (.bool false) f) (xL d 2 true f λ a b=>ab PP (.bldS false 1 2 (.int .i64 0) [(0,(.c (.int .i64 0))),(1,(.c (.int .i64 1)))]) b λ b c=>ab PP (.bldS false 1 4 (.int .i64 0) [(0,(.c (.int .i64 0))),(1,(.c (.int .i64 1))),(2,(.c (.int .i64 2))),(3,(.c (.int .i64 3)))]) c λ c f=>ab PP (.bldS false 1 3 (.int .i64 0) [(0,(.c (.int .i64 1))),(1,(.c (.int .i64 2))),(2,(.c (.int .i64 3)))]) f λ f g=>ab PP (.bldS false 1 2 .nil [(0,(.c c)),(1,(.c f))]) g λ c f=>ab PP (.bld [.nil,.nil] [(0,1,(.c b)),(1,1,(.c c))]) f λ b c=>ag PP iC [a,b] c λ a b=>vguard a true (λ a=>xL e 2 true b λ b c=>a b c) b λ b c=>vguard a true (λ a=>ab PP (.bldS false 1 2 (.int .i64 0) [(0,(.c (.int .i64 0))),(1,(.c (.int .i64 1)))]) c λ b c=>a b c) c λ c f=>vguard a true (λ a=>ab PP (.bldS false 1 1 (.int .i64 0) [(0,(.c (.int .i64 0)))]) f λ b c=>a b c) f λ f g=>vguard a true (λ a=>ab PP (.bldS false 1 3 (.int .i64 0) [(0,(.c (.int .i64 1))),(1,(.c (.int .i64 2))),(2,(.c (.int .i64 3)))]) g λ b c=>a b c) g λ g h=>vguard a true (λ a=>ab PP (.bldS false 1 2 .nil [(0,(.c f)),(1,(.c g))]) h λ b c=>a b c) h λ f g=>vguard a true (λ a=>ab PP (.bld [.nil,.nil] [(0,1,(.c c)),(1,1,(.c f))]) g λ b c=>a b c) g λ c f=>vguard a true (λ a=>ag PP iC [b,c] f λ b c=>a b c) f λ b c=>xP a b (.bool false) c λ a b=>vguard a true (λ a=>xL d 2 true b λ b c=>a b c) b λ b c=>vguard a true (λ a=>ag PP bM [b,(.int .i64 0),(.int .i64 3)] c λ b c=>a b c) c λ b c=>xP a b (.bool false) c λ a b=>vguard a true (λ a=>xL e 2 true b λ b c=>a b c) b λ b c=>vguard a true (λ a=>ag PP bM [b,(.int .i64 0),(.int .i64 3)] c λ b c=>a b c) c λ b c=>vguard a true (λ a=>vun .not b λ b=>a b c) c λ b c=>xP a b (.bool false) c λ a b=>K a b))
theorem xX (h0:Heap) (K:HKq):qA h0 K=dt qS K [] h0:=by kernel_rfl
end Go.Am
