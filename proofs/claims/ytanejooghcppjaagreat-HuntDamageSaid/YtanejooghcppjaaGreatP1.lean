/- What the functions of this chapter give, on plain data. No condition. -/
import Derived.Tactics
import Derived.Tactics2
import Derived.Defers
import Derived.Recover
import Derived.Laws.Pointers
import Derived.TacticsInMore
import Derived.RegionIn
import Derived.RecoverIn
import Derived.Test.YtanejooghcppjaaGreatT1
set_option linter.unnecessarySimpa false
set_option linter.defProp false
set_option linter.unusedSectionVars false
set_option linter.unusedSimpArgs false
set_option linter.unusedVariables false
namespace Go.Am
open Go
variable [ck]
variable {P:Program}
structure MS where
 group:Int
 sub:Int
 regs:Int
 loops:List Loop
 blocks:List Block
def EG (bs:List Nat):D:=.sl (bs.map λ(b:Nat)=>.int .u8 (b:Int))
def dZ (bs:List Nat) (k:Nat) (arrs:D) (s:MS) (vL vB:D):D :=
 .agg [EG bs,.int .i64 (k:Int),.int .i64 s.group,.int .i64 s.sub,.int .i64 s.regs,.int .i64 0,.int .i64 3,arrs,vL,vB]
def cJ (vs:List D) (bs:List Block):List D:=List.zipWith (λ v b=>D.agg (v::b.t.cs)) vs bs
def cj (l:List D):List Nat:=l.flatMap D.nR
structure Rows (h:Heap) (loops:List Loop) (blocks:List Block) (vL vB:D) (vs:List D):Prop where
 oL:Own 3 h vL (loops.map Loop.e)
 oB:Own 14 h vB (cJ vs blocks)
 len:vs.length=blocks.length
 oI:∀(k:Nat) (v:D) (b:Block),vs[k]?=some v->blocks[k]?=some b->Own 15 h v (b.i.map aW.e)
 nd:(cj (vL::vB::vs)).Nodup
structure aY (h:Heap) (n k:Nat) (arrs:D) (s:MS):Prop where
 st:∃(bs:List Nat) (j:Nat) (vL vB:D) (vs:List D),(∀b∈bs,b<=255)/\bs.length<=9223372036854775807/\j<=k/\h n=.box (dZ bs j arrs s vL vB)/\Rows h s.loops s.blocks vL vB vs
def aQ (n:Nat) (h h':Heap):Prop:=∀m d,m≠n->h m=.box d->h' m=.box d
theorem aQ.rfl {n:Nat}{h:Heap}:aQ n h h:=λ _ _ _ h=>h
theorem aQ.trans {n:Nat}{a b c:Heap}(h:aQ n a b) (k:aQ n b c):aQ n a c:=λ m d hm hd=>k m d hm (h m d hm hd)
theorem aQ.self {n:Nat}{h:Heap}{s:Slot}:aQ n h (ak h n s):=λ m d hm hd=>by grind [aa]
theorem aQ.new {n m:Nat}{h:Heap}{s:Slot}(hm:h m=.free):aQ n h (ak h m s):=λ k d _ hd=>by
 grind [aa]
theorem fA {esz:Nat}{h h':Heap}{v:D}{els:List D}(ho:Own esz h v els) (hk:∀k∈v.nR,h' k=h k):Own esz h' v els:=by
 rcases ho with ho|⟨q,rfl,hq⟩
 ·exact Or.inl ho
 ·exact Or.inr ⟨q,rfl,by grind [D.nR]⟩
theorem wD {esz:Nat}{h:Heap}{v:D}{els:List D}(ho:Own esz h v els){k:Nat}(hk:k∈v.nR):h k=.arr esz els:=by
 rcases ho with⟨rfl,-⟩|⟨q,rfl,hq⟩
 ·simp[D.nR]at hk
 grind [D.nR]
theorem Rows.congr {h h':Heap}{loops:List Loop}{blocks:List Block}{vL vB:D}{vs:List D}(r:Rows h loops blocks vL vB vs) (hk:∀k,k∈cj (vL::vB::vs)->h' k=h k):Rows h' loops blocks vL vB vs:=by
 have mem:∀v,v∈vL::vB::vs->∀k∈v.nR,k∈cj (vL::vB::vs):=λ v u k G=>List.mem_flatMap.2 ⟨v,u,G⟩
 refine⟨fA r.oL λ k q=>hk k (mem _ (by simp) k q),fA r.oB λ k q=>hk k (mem _ (by simp) k q),r.len,λ k v b u hb=>fA (r.oI k v b u hb) λ j q=>hk j (mem v ?_ j q),r.nd⟩;grind
theorem Rows.arr {h:Heap}{loops:List Loop}{blocks:List Block}{vL vB:D}{vs:List D}(r:Rows h loops blocks vL vB vs){k:Nat}(hk:k∈cj (vL::vB::vs)):∃e l,h k=.arr e l:=by
 obtain⟨v,G,u⟩:=List.mem_flatMap.1 hk;rcases List.mem_cons.1 G with rfl|G
 ·exact⟨_,_,wD r.oL u⟩
 rcases List.mem_cons.1 G with rfl|G
 ·exact⟨_,_,wD r.oB u⟩
 obtain⟨i,hi⟩:=db G
 obtain⟨b,hb⟩:∃b,blocks[i]?=some b:=by
  have:=(aq.1 hi).1;exact⟨blocks[i]'(by rw[<- r.len];exact this),aG _⟩
 exact⟨_,_,wD (r.oI i v b hi hb) u⟩
theorem Rows.box {h:Heap}{loops:List Loop}{blocks:List Block}{vL vB:D}{vs:List D}(r:Rows h loops blocks vL vB vs){n:Nat}{d:D}(hn:h n=.box d) (s:Slot):Rows (ak h n s) loops blocks vL vB vs :=
 r.congr λ k hk=>by
  obtain⟨e,l,u⟩:=r.arr hk;grind [aa]
theorem Rows.free {h:Heap}{loops:List Loop}{blocks:List Block}{vL vB:D}{vs:List D}(r:Rows h loops blocks vL vB vs){n:Nat}(hn:h n=.free) (s:Slot):Rows (ak h n s) loops blocks vL vB vs :=
 r.congr λ k hk=>by
  obtain⟨e,l,u⟩:=r.arr hk;grind [aa]
theorem aY.new {h:Heap}{n k:Nat}{arrs:D}{s:MS}(r:aY h n k arrs s){m:Nat}(hm:h m=.free) (x:Slot):aY (ak h m x) n k arrs s/\m≠n:=by
 obtain⟨bs,j,vL,vB,vs,h1,h2,h3,h4,u⟩:=r.st;have hne:n≠m:=by grind
 exact⟨⟨bs,j,vL,vB,vs,h1,h2,h3,by grind [aa],u.free hm x⟩,hne.symm⟩
theorem aY.aM {h:Heap}{n k:Nat}{arrs:D}{s:MS}(r:aY h n k arrs s){m:Nat}{d:D}(hm:h m=.box d) (hne:m≠n) (x:Slot):aY (ak h m x) n k arrs s:=by
 obtain⟨bs,j,vL,vB,vs,h1,h2,h3,h4,u⟩:=r.st;exact⟨bs,j,vL,vB,vs,h1,h2,h3,by grind [aa],u.box hm x⟩
theorem aY.le {h:Heap}{n k k':Nat}{arrs:D}{s:MS}(r:aY h n k arrs s) (hk:k<=k'):aY h n k' arrs s:=by
 obtain⟨bs,j,vL,vB,vs,h1,h2,h3,h4,u⟩:=r.st;exact⟨bs,j,vL,vB,vs,h1,h2,by omega,h4,u⟩
theorem aaF {KH:HKq}{h:Heap}{esz bytes:Nat}{z s d:D}{els:List D}(ho:Own esz h s els) (hd:aD d) (hc:d.cells.length=esz) (hb:(els.length+1)*bytes<=140737488355328) (hl:els.length+1<=9223372036854775807)
  (hk:∀m h',h m=.free->h' m=.arr esz (els++[d])->(∀k,k≠m->k∉s.nR->h' k=h k)->KH (.ms m 0 (els.length+1)) h'):ab P (.app (.c s) (.c (.sl [d])) esz bytes z) h KH:=by
 refine⟨λ e he=>by grind,λ y hy=>by grind,?_⟩;rcases ho with⟨rfl,rfl⟩|⟨m,rfl,hm⟩
 ·exact⟨⟨by simpa using hb,by simp⟩,λ n t=>hk n _ t.free (af _ _ _) λ k hk _=>aa _ _ hk⟩
 ·refine⟨els,.of hm,by simp,⟨by simpa using hb,by simpa using hl⟩,λ n t=>⟨?_,λ h0=>absurd rfl h0⟩⟩;refine hk n _ t.free (af _ _ _) λ k u hne=>?_
  grind [D.nR,aa]
theorem Nv {KH:HKq}{h:Heap}{esz bytes:Nat}{z z' s d:D}{els:List D}(ho:Own esz h s els) (hd:xt d) (hc:d.cells.length=esz) (hb:(els.length+1)*bytes<=140737488355328) (hl:els.length+1<=9223372036854775807)
  (hk:∀m h',h m=.free->h' m=.arr esz (els++[d])->(∀k,k≠m->k∉s.nR->h k≠.free->h' k=h k)->KH (.ms m 0 (els.length+1)) h') :
  ab P (.bldS true esz 1 z [(0,.c d)]) h λ x h1=>ab P (.app (.c s) (.c x) esz bytes z') h1 KH:=by
 refine Qm hd.vd hd.one hc λ u t=>?_
 have hx:((ak h u (.arr esz [d])) u).row=some (esz,[d]):=by rw[af];rfl
 refine⟨[d],hx,by simp,?_⟩;simp only[List.drop_zero,List.take_succ_cons,List.take_zero];refine⟨λ y hy=>by simp at hy;subst hy;exact hd.one,?_⟩
 have kS:∀n,pB (ak h u (.arr esz [d])) n->h n=.free/\n≠u:=by
  grind [ak,pB]
 rcases ho with⟨rfl,rfl⟩|⟨m,rfl,hm⟩
 ·refine⟨⟨by simpa using hb,by simp⟩,λ n tn=>?_⟩;obtain⟨f1,f2⟩:=kS n tn;exact hk n _ f1 (af _ _ _) λ k hk _ G=>by rw[aa _ _ hk,aa _ _ (t.ne G)]
 ·have H:m≠u:=t.ne (by rw[hm];simp);refine⟨els,.of (by grind [aa]),by simp,⟨by simpa using hb,by simpa using hl⟩,λ n tn=>⟨?_,λ h0=>absurd rfl h0⟩⟩;grind [D.nR,aa,ak,pB]
end Go.Am
namespace Go.Am
open Go
theorem u4 {n:Int}:aV PP cD [.int .i64 n] (· = (kG n).e):=by
 refine bt LA (aC _ _ _) rfl (Ln _ _) ?_;dsimp only[Ie,xL,xS];rw[lN];simp[sC,Ab,Y7,h_ldp,BT,Nq,TQ,mR,fillD,iJ];exact JQ (fQ.bR ⟨2,n,0⟩) rfl
theorem wX {v:Int}:aV PP fo [.int .i32 v] (· = (Const v).e):=by
 refine bt HC (aC _ _ _) rfl (Ho _ _) ?_;dsimp only[C9,xL,xS];rw[lN];simp[sC,Ab,Y7,h_ldp,BT,Nq,TQ,mR,fillD,iJ];exact JQ (fQ.bR ⟨1,0,v⟩) rfl
theorem NC {h:Heap}{n j:Nat}{bs:List Nat}{rest:List D}(hn:h n=.box (.agg (EG bs::.int .i64 (j:Int)::rest))) (hb:∀b∈bs,b<=255) (hl:bs.length<=9223372036854775807) (hj:j<4611686018427387904){KH:HKq}
  (hK:∀b:Nat,b<=255->KH (.int .i64 (b:Int)) (ak h n (.box (.agg (EG bs::.int .i64 ((j+1:Nat):Int)::rest))))):ag PP aw [.ptr n 0 0] h KH:=by
 refine aI zi (aC _ _ _) rfl (yZ _ _) ?_;dsimp only[qY,xF,xL,xS,yC,yF,yI,yL];have S:IntKind.i64.wrap ((j:Int)+1)=((j+1:Nat):Int):=by grind [wrap64]
 simp only[↓wU,hn,Slot.live,Slot.used,true_and,↓kT,↓bg,fZ,Nat.zero_add,List.getElem?_cons_succ,List.getElem?_cons_zero,↓ca,S,↓fG];refine⟨rfl,by simp,by simp,?_⟩;have u:setCells (D.agg (EG bs::.int .i64 (j:Int)::rest)) 1 (D.int .i64 ((j+1:Nat):Int)).cells=.agg (EG bs::.int .i64 ((j+1:Nat):Int)::rest):=by simp[setCells]
 rw[u];obtain⟨G,O⟩:∃G,G=ak h n (.box (.agg (EG bs::.int .i64 ((j+1:Nat):Int)::rest))):=⟨_,rfl⟩;rw[<- O]at hK ⊢;have I:G n=.box (.agg (EG bs::.int .i64 ((j+1:Nat):Int)::rest)):=by rw[O,af]
 have T:(∃v,G n=.box v)=True:=eq_true ⟨_,I⟩;simp only[↓bw,I,Slot.used,true_and,↓fB,↓kT,I,↓bg,fZ,Nat.zero_add,List.getElem?_cons_succ,List.getElem?_cons_zero,EG,↓gd,aE,↓zy];by_cases hc:bs.length<j+1
 ·grind [ai]
 ·have H:¬(bs.length:Int)<((j+1:Nat):Int):=by omega
  have Q:IntKind.i64.wrap (((j+1:Nat):Int)-1)=(j:Int):=by grind [wrap64]
  simp only[H,decide_false,ah,↓mz,Q,↓eD,↓jq,aE];grind [wrap64,lV,kH,bg,Ag,eZ]
theorem gB {h:Heap}{n k:Nat}{arrs:D}{s:MS}(r:aY h n k arrs s) (hk:k<1000000){KH:HKq}(hK:∀(b:Nat) (h':Heap),b<=255->aY h' n (k+1) arrs s->aQ n h h'->KH (.int .i64 (b:Int)) h') :
  ag PP aw [.ptr n 0 0] h KH:=by
 obtain⟨bs,j,vL,vB,vs,h1,h2,h3,h4,u⟩:=r.st;refine NC h4 h1 h2 (by omega) λ b hb=>hK b _ hb ⟨bs,j+1,vL,vB,vs,h1,h2,by omega,af _ _ _,u.box h4 _⟩ aQ.self
theorem bC (a b:Nat):((a:Int).tmod (b:Int))=((a % b:Nat):Int):=(Int.ofNat_tmod a b).symm
theorem H7 {h:Heap}{n k:Nat}{arrs:D}{s:MS}(r:aY h n k arrs s) (hk:k<1000000){KH:HKq}(hK:∀(b:Nat) (h':Heap),b<6->aY h' n (k+1) arrs s->aQ n h h'->KH (kG (b:Int)).e h') :
  ag PP bf [.ptr n 0 0] h KH:=by
 refine aI oW (aC _ _ _) rfl (ox _ _) ?_;dsimp only[mY,xL,xS];rw[fc];intro m t;obtain⟨O,hne⟩:=r.new t.free (.box (.agg [(.int .i64 0),(.int .i64 0),(.int .i32 0)]));refine gB O hk λ b h' hb I u=>?_
 have hm:=u m _ hne (af _ _ _);have Q:((b:Int).tmod 6)=((b % 6:Nat):Int):=bC b 6;rw[cy];refine⟨by omega,?_⟩;rw[Q];refine gN u4 ⟨bh,trivial⟩ ?_;simp only[↓fG,hm];refine⟨by first|rfl|trivial,(fQ.bR _).one,by first|rfl|trivial,by simp,?_⟩;have G:setCells (.agg [(.int .i64 0),(.int .i64 0),(.int .i32 0)]) 0 (kG ((b % 6:Nat):Int)).e.cells=(kG ((b % 6:Nat):Int)).e:=rfl;rw[G];simp only[↓kT,af,true_and];refine⟨by simp[fQ.e,fQ.cs],?_⟩;refine hK (b % 6) _ (Nat.mod_lt _ (by omega)) (I.aM hm hne _) λ q d hq hd=>?_
 have H:q≠m:=by rintro rfl;rw[t.free]at hd;cases hd
 rw[aa _ _ H];exact u q d hq (by grind [aa])
def Ia (o:fQ):Prop:=(∃b:Nat,b<6/\o=kG b)\/∃v:Int,-20<=v/\v<=65/\o=Const v
theorem C6 {h:Heap}{n k:Nat}{arrs:D}{s:MS}(r:aY h n k arrs s) (hk:k<1000000){KH:HKq}(hK:∀(o:fQ) (h':Heap),Ia o->aY h' n (k+1) arrs s->aQ n h h'->KH o.e h') :
  ag PP bc [.ptr n 0 0] h KH:=by
 refine aI oT (aC _ _ _) rfl (ou _ _) ?_;dsimp only[mX,xC,xL,xS];rw[fc];intro m t;obtain⟨S,hne⟩:=r.new t.free (.box (.agg [(.int .i64 0),(.int .i64 0),(.int .i32 0)]));refine gB S hk λ b h' hb Q u=>?_
 have hm:=u m _ hne (af _ _ _)
 have fin:∀o:fQ,Ia o->ab PP (.st (.c (.ptr m 0 0)) (.c o.e) 3) h' λ _ h1=>ab PP (.ld (.c (.ptr m 0 0)) 3 true) h1 λ a _=>KH a h1:=by
  intro o ho;simp only[↓fG,hm];refine⟨by first|rfl|trivial,(fQ.bR _).one,by first|rfl|trivial,by simp[fQ.e,fQ.cs],?_⟩;have H:setCells (.agg [(.int .i64 0),(.int .i64 0),(.int .i32 0)]) 0 o.e.cells=o.e:=rfl;rw[H];simp only[↓kT,af,true_and];refine⟨by simp[fQ.e,fQ.cs],?_⟩;refine hK o _ ho (Q.aM hm hne _) λ q d hq hd=>?_
  have I:q≠m:=by rintro rfl;rw[t.free]at hd;cases hd
  rw[aa _ _ I];exact u q d hq (by grind [aa])
 have e3:((b:Int).tmod 3)=((b % 3:Nat):Int):=bC b 3
 have d3:IntKind.i64.wrap ((b:Int).tdiv 3)=((b / 3:Nat):Int):=by
  grind [wrap64]
 rw[cy];refine⟨by omega,?_⟩;rw[e3,bZ];by_cases hc:b % 3=0
 ·have G:((b % 3:Nat):Int)=0:=by omega
  simp only[G,decide_true,ai,↓ss];refine⟨by omega,?_⟩;have w:IntKind.i32.wrap ((b / 3:Nat):Int)=((b / 3:Nat):Int):=by grind [IntKind.wrap,IntKind.bits]
  have O:IntKind.i32.wrap (((b / 3:Nat):Int)-20)=((b / 3:Nat):Int)-20:=by grind [IntKind.wrap,IntKind.signed,IntKind.bits]
  rw[d3,eZ,w,mz,O];refine gN wX ⟨bh,trivial⟩ ?_;exact fin _ (Or.inr ⟨_,by omega,by omega,rfl⟩)
 ·have G:¬((b % 3:Nat):Int)=0:=by omega
  simp only[G,decide_false,ah,↓ss];refine⟨by omega,?_⟩;rw[d3,cy];refine⟨by omega,?_⟩;have T:(((b / 3:Nat):Int).tmod 6)=((b / 3 % 6:Nat):Int):=bC (b / 3) 6;rw[T];refine gN u4 ⟨bh,trivial⟩ ?_;exact fin _ (Or.inl ⟨b / 3 % 6,Nat.mod_lt _ (by omega),rfl⟩)
theorem lR {vs:List D}{bs:List Block}(h:vs.length=bs.length):(cJ vs bs).length=bs.length:=by simp[cJ,h]
theorem SZ {vs:List D}{bs:List Block}(h:vs.length=bs.length) (v:D) (b:Block):cJ (vs++[v]) (bs++[b])=cJ vs bs++[.agg (v::b.t.cs)]:=by
 simp[cJ,List.zipWith_append h]
theorem Hj {vs:List D}{bs:List Block}{k:Nat}{v:D}{b:Block}(h1:vs[k]?=some v) (h2:bs[k]?=some b):(cJ vs bs)[k]?=some (.agg (v::b.t.cs)):=by
 simp[cJ,List.getElem?_zipWith,h1,h2]
theorem MI {vs:List D}{bs:List Block}(h:vs.length=bs.length){k:Nat}(hk:k<bs.length) (v:D) (b:Block):(cJ vs bs).set k (.agg (v::b.t.cs))=cJ (vs.set k v) (bs.set k b):=by
 refine List.ext_getElem? λ i=>?_
 grind [cJ]
theorem E6 {esz:Nat}{h:Heap}{v:D}{els:List D}(ho:Own esz h v els) (hne:els≠[]):∃n,v=.ms n 0 els.length/\h n=.arr esz els:=by
 rcases ho with⟨-,h2⟩|h
 ·exact absurd h2 hne
 ·exact h
theorem XG:(D.agg (.nil::mH.cs))=.agg [.nil,.int .i64 0,.int .i64 0,.int .i64 0,.int .i64 0,.int .i32 0,.int .i64 0,.int .i64 0,.int .i32 0,.int .i64 0,.int .i64 0,.int .i32 0,.int .i64 0,.int .i64 0]:=rfl
theorem cM {d:D}{l:List D}:cj (d::l)=d.nR++cj l:=by simp[cj]
theorem DW {l l':List D}:cj (l++l')=cj l++cj l':=by simp[cj]
theorem sy {d:D}{l:List D}(h:d∈l){k:Nat}(hk:k∈d.nR):k∈cj l:=List.mem_flatMap.2 ⟨d,h,hk⟩
theorem Ys {h:Heap}{n k:Nat}{arrs:D}{s:MS}(r:aY h n k arrs s) (hlen:s.blocks.length<1000){KH:HKq}
  (hK:∀h':Heap,aY h' n k arrs { s with blocks:=s.blocks++[⟨[],mH⟩] }->aQ n h h'->KH (.tup []) h'):ag PP br [.ptr n 0 0] h KH:=by
 refine aI xl (aC _ _ _) rfl (w9 _ _) ?_;dsimp only[pI,xF,xL,xS];obtain⟨bs,j,vL,vB,vs,h1,h2,h3,h4,u⟩:=r.st;simp only[↓wU,h4,Slot.live,Slot.used,true_and,↓kT,dZ,↓bg,fZ,Nat.zero_add,Nat.reduceAdd,List.getElem?_cons_succ,List.getElem?_cons_zero,↓Ab];refine⟨by intro p hp;simp at hp,?_⟩;have S:=lR u.len;simp only[List.map_nil,fillD];have hd:xt (D.agg (.nil::mH.cs)):=cF (by simp[Term.cs,mH]);rw[<- XG];refine Nv u.oB hd rfl (by rw[S];omega) (by rw[S];omega) λ m h' f1 f2 f3=>?_
 have U:n≠m:=by grind
 have W:n∉vB.nR:=λ hm=>by have:=wD u.oB hm;rw[h4]at this;cases this
 have a1:h' n=h n:=f3 n U W (by rw[h4];simp);simp only[↓wU,a1,h4,Slot.live,Slot.used,true_and,dZ,Nat.zero_add,Nat.reduceAdd,↓fG];refine⟨rfl,by simp,by simp,?_⟩;refine hK _ ⟨bs,j,vL,.ms m 0 ((cJ vs s.blocks).length+1),vs++[.nil],h1,h2,h3,?_,?_⟩ λ q d hq hd=>?_
 ·rw[af];simp[setCells,dZ]
 ·
  have O:∀k',k'∈cj (vL::vB::vs)->h k'≠.free:=λ k' H=>by obtain⟨e,l,G⟩:=u.arr H;rw[G];simp
  have Q:m∉cj (vL::vB::vs):=λ hm=>O m hm f1
  have V:=u.nd;rw[cM,cM]at V Q;simp only[List.mem_append,not_or]at Q
  have same:∀k',k'∈cj (vL::vs)->(ak h' n (.box (setCells (.agg [EG bs,.int .i64 (j:Int),.int .i64 s.group,.int .i64 s.sub,.int .i64 s.regs,.int .i64 0,.int .i64 3,arrs,vL,vB]) 9 (D.ms m 0 ((cJ vs s.blocks).length+1)).cells))) k'=h k':=by
   intro k' H;rw[cM,List.mem_append]at H;have Z:k'∈cj (vL::vB::vs):=by grind [cM]
   have e1:k'≠n:=by
    rintro rfl;obtain⟨e,l,G⟩:=u.arr Z;rw[h4]at G;cases G
   grind [aa]
  have T:Own 14 h' (.ms m 0 ((cJ vs s.blocks).length+1)) (cJ (vs++[.nil]) (s.blocks++[⟨[],mH⟩])):=by
   rw[SZ u.len];exact Or.inr ⟨m,by simp,f2⟩
  refine⟨fA u.oL λ k' q=>same k' (sy (by simp) q),fA T λ k' q=>?_,by simp[u.len],λ i v b I hb=>?_,?_⟩
  ·grind [D.nR,aa]
  ·rcases Nat.lt_or_ge i vs.length with hi|hi
   ·rw[List.getElem?_append_left hi]at I;rw[List.getElem?_append_left (by rw[<- u.len];exact hi)]at hb;refine fA (u.oI i v b I hb) λ k' q=>same k' (sy ?_ q)
    grind
   ·rw[List.getElem?_append_right hi]at I;rw[List.getElem?_append_right (by rw[<- u.len];exact hi)]at hb
    have hz:i-vs.length=0:=by
     grind
    rw[<- u.len,hz]at hb;rw[hz]at I;simp at I hb;subst I hb;exact Or.inl ⟨rfl,rfl⟩
  ·rw[cM,cM,DW];grind [D.nR,cj]
 ·rw[aa _ _ hq];have e2:q≠m:=by grind
  have e3:q∉vB.nR:=λ hm=>by have:=wD u.oB hm;rw[hd]at this;cases this
  grind
def Om (bs:List Block) (i:Nat) (t:Term):List Block:=bs.modify i λ b=>{ b with t:=t }
def Li (bs:List Block) (i:Nat) (x:aW):List Block:=bs.modify i λ b=>{ b with i:=b.i++[x] }
theorem wK {α:Type}{l:List α}{i:Nat}{a:α}{f:α->α}(h:l[i]?=some a):l.modify i f=l.set i (f a):=by
 refine List.ext_getElem? λ k=>?_
 grind
theorem Ke {bs:List Block}{i:Nat}{t:Term}:(Om bs i t).length=bs.length:=by simp[Om]
theorem Pu {bs:List Block}{i:Nat}{t:aW}:(Li bs i t).length=bs.length:=by simp[Li]
theorem aY.some {h:Heap}{n k:Nat}{arrs:D}{s:MS}(r:aY h n k arrs s) (hne:s.blocks≠[]):∃(bs:List Nat) (j:Nat) (vL:D) (nb:Nat) (vs:List D),(∀b∈bs,b<=255)/\bs.length<=9223372036854775807/\j<=k /\
  h n=.box (dZ bs j arrs s vL (.ms nb 0 s.blocks.length))/\h nb=.arr 14 (cJ vs s.blocks)/\Rows h s.loops s.blocks vL (.ms nb 0 s.blocks.length) vs:=by
 obtain⟨bs,j,vL,vB,vs,h1,h2,h3,h4,u⟩:=r.st;have G:=lR u.len
 obtain⟨nb,H,e2⟩:=E6 u.oB (by
  grind)
 grind
theorem Rows.abG {h:Heap}{loops:List Loop}{blocks blocks':List Block}{vL:D}{nb:Nat}{vs vs':List D}(r:Rows h loops blocks vL (.ms nb 0 blocks.length) vs) (hl:blocks'.length=blocks.length) (hv:vs'.length=blocks'.length){h':Heap}
  (hkeep:∀k,k∈cj (vL::vs)->k∈cj (vL::vs')->h' k=h k) (hnb:h' nb=.arr 14 (cJ vs' blocks')) (hL:∀k∈vL.nR,h' k=h k)
  (hI:∀(k:Nat) (v:D) (b:Block),vs'[k]?=some v->blocks'[k]?=some b->Own 15 h' v (b.i.map aW.e)) (hnd:(cj (vL::D.ms nb 0 blocks.length::vs')).Nodup):Rows h' loops blocks' vL (.ms nb 0 blocks'.length) vs':=by
 refine⟨fA r.oL hL,Or.inr ⟨nb,by rw[lR hv],hnb⟩,hv,hI,?_⟩;rw[hl];exact hnd
theorem Rows.fresh {h:Heap}{loops:List Loop}{blocks:List Block}{vL vB:D}{vs:List D}(r:Rows h loops blocks vL vB vs){m:Nat}(hm:h m=.free):m∉cj (vL::vB::vs):=λ hk=>by
 obtain⟨e,l,u⟩:=r.arr hk;rw[hm]at u;cases u
theorem E9 {vL:D}{nb l:Nat}{vs:List D}(h:(cj (vL::D.ms nb 0 l::vs)).Nodup):nb∉cj (vL::vs)/\(cj (vL::vs)).Nodup:=by
 grind [D.nR,cj]
theorem XL {h:Heap}{n k i:Nat}{arrs:D}{s:MS}{t:Term}{bs:List Nat}{j nb:Nat}{vL:D}{vs:List D}(h1:∀b∈bs,b<=255) (h2:bs.length<=9223372036854775807) (h3:j<=k) (h4:h n=.box (dZ bs j arrs s vL (.ms nb 0 s.blocks.length)))
  (h5:h nb=.arr 14 (cJ vs s.blocks)) (h6:Rows h s.loops s.blocks vL (.ms nb 0 s.blocks.length) vs) (hi:i<s.blocks.length) {KH:HKq}
  (hK:∀h',aY h' n k arrs { s with blocks:=Om s.blocks i t }->aQ n h h'->KH .undef h'):ab PP (.st (.c (.ptr nb i 1)) (.c t.e) 13) h KH:=by
 have T:=lR h6.len;obtain⟨v,W⟩:∃v,vs[i]?=some v:=⟨vs[i]'(by rw[h6.len];exact hi),aG _⟩;obtain⟨b,hb⟩:∃b,s.blocks[i]?=some b:=⟨s.blocks[i],aG _⟩;have I:=Hj W hb;rw[fG];simp only[h5,I,Option.some.injEq,forall_eq'];refine⟨rfl,(Term.bR t).one,by rw[T];exact hi,by simp[Term.e,Term.cs],?_⟩;have G:setCells (.agg (v::b.t.cs)) 1 t.e.cells=.agg (v::t.cs):=by simp[setCells,Term.e,Term.cs]
 rw[G]
 have H:Om s.blocks i t=s.blocks.set i { b with t:=t }:=by
  rw[Om];exact wK hb
 have e1:(cJ vs s.blocks).set i (.agg (v::t.cs))=cJ vs (Om s.blocks i t):=by
  have:=MI h6.len hi v { b with t:=t };rw[show vs.set i v=vs from ?_]at this
  ·rw[H];exact this
  ·refine List.ext_getElem? λ q=>?_
   grind
 rw[e1];have O:n≠nb:=by grind
 obtain⟨Q,Z⟩:=E9 h6.nd;refine hK _ ⟨bs,j,vL,.ms nb 0 (Om s.blocks i t).length,vs,h1,h2,h3,?_,?_⟩ λ q d hq hd=>?_
 ·rw[aa _ _ O,h4,Ke];rfl
 ·refine Rows.abG h6 (by rw[Ke]) (by rw[Ke];exact h6.len) (λ q hq _=>?_) (af _ _ _) (λ q hq=>?_) (λ q v' b' u a1=>?_) h6.nd
  ·grind [aa]
  ·grind [aa,cM]
  ·obtain⟨b2,V,U⟩:∃b2,s.blocks[q]?=some b2/\b'.i=b2.i:=by
    grind
   rw[U];refine fA (h6.oI q v' b2 u V) λ q' S=>?_
   rw[aa _ _ (by rintro rfl;exact Q (by rw[cM];simp[sy (aK u) S]))]
 grind [aa]
set_option maxHeartbeats 1000000 in
theorem acE {h:Heap}{n k:Nat}{arrs:D}{s:MS}{x:aW}{L:Nat}(r:aY h n k arrs s) (hL:s.blocks.length=L+1) (hlen:L<1000) (hil:∀b∈s.blocks,b.i.length<1000){KH:HKq}
  (hK:∀h':Heap,aY h' n k arrs { s with blocks:=Li s.blocks L x }->aQ n h h'->KH (.tup []) h'):ag PP aR [.ptr n 0 0,x.e] h KH:=by
 refine aI Bo (aC _ _ _) rfl (Aw _ _ _) ?_;dsimp only[sH,xB,xF,xL,xS,yF,yI,yL];rw[jX];refine⟨(aW.bR x).one,λ m t=>?_⟩;obtain⟨r1,g1⟩:=r.new t.free (.box x.e);obtain⟨hA,eA⟩:∃hA,hA=ak h m (.box x.e):=⟨_,rfl⟩;rw[<- eA]at r1 ⊢;have am:hA m=.box x.e:=by rw[eA,af]
 have V:aQ n h hA:=by rw[eA];exact aQ.new t.free
 obtain⟨bs,j,vL,nb,vs,h1,h2,h3,h4,h5,S⟩:=r1.some (by grind);have a6:=lR S.len;have H:s.blocks.length=L+1:=hL;obtain⟨v,hv⟩:∃v,vs[L]?=some v:=⟨vs[L]'(by rw[S.len,H];omega),aG _⟩;obtain⟨b,hb⟩:∃b,s.blocks[L]?=some b:=⟨s.blocks[L]'(by rw[H];omega),aG _⟩;have U:=Hj hv hb;have w1:IntKind.i64.wrap (((L+1:Nat):Int)-1)=(L:Int):=by grind [wrap64]
 have c1:(0:Int)<=(L:Int):=by omega
 have c2:(L:Int)<((L+1:Nat):Int):=by omega
 have g6:=hil b (aK hb);have oV:=S.oI L v b hv hb;have T:(∃els,(Slot.arr 14 (cJ vs s.blocks)).row=some (14,els))=True:=eq_true ⟨_,rfl⟩;have e4:(L<(cJ vs s.blocks).length)=True:=eq_true (by rw[a6,H];omega);simp only[↓wU,h4,Slot.used,true_and,↓kT,dZ,↓bg,fZ,Nat.zero_add,Nat.reduceAdd,List.getElem?_cons_succ,List.getElem?_cons_zero,↓ko,h5,Slot.live,H,↓mz,w1,↓bw,↓fB,↓eD,↓cv,c1,c2,T,aT,e4,U,Option.some.injEq,forall_eq',am,↓iJ];refine⟨Nat.le_refl _,?_⟩
 have a7:∀{Q:D->Prop}{h:Heap}{z:D},(∀y∈z.cells,y.vone=true)->Q (.sl [x.e])->an PP (.bldS false 15 1 z [(0,.c (.agg (List.take 15 (List.drop 0 x.e.cells))))]) h Q:=by
  intro Q h z hz hq;have e1:D.agg (List.take 15 (List.drop 0 x.e.cells))=x.e:=rfl;rw[e1];refine⟨?_,?_,hz,hq⟩
  ·intro p hp;simp[Arg.get]at hp;subst hp;exact⟨Nat.one_pos,rfl,(aW.bR x).one⟩
  ·intro p hp;simp[Arg.get]at hp;subst hp;intro y hy;simp[aW.e,aW.cs]at hy;rcases hy with rfl|rfl|rfl|rfl|rfl|rfl|rfl|rfl|rfl|rfl|rfl|rfl|rfl|rfl|rfl<;>rfl
 refine a7 (by simp) ?_;refine aaF oV (aW.bR x).one rfl (by simp;omega) (by simp;omega) λ G hB f1 f2 f3=>?_
 have vB:nb∉v.nR:=λ hm=>by
  have:=(E9 S.nd).1;exact this (by rw[cM];exact List.mem_append_right _ (sy (aK hv) hm))
 have vN:n∉v.nR:=λ hm=>by have:=wD oV hm;rw[h4]at this;cases this
 have n2:n≠G:=by grind
 have b2:nb≠G:=by grind
 have c6:n≠nb:=by grind
 have g4:hB n=Slot.box (dZ bs j arrs s vL (D.ms nb 0 s.blocks.length)):=by rw[f3 n n2 vN];exact h4
 have g5:hB nb=Slot.arr 14 (cJ vs s.blocks):=by rw[f3 nb b2 vB];exact h5
 simp only[g4,g5,dZ,fZ,List.getElem?_cons_succ,List.getElem?_cons_zero,H,ae,T,true_and,↓fG];have a5:setCells (.agg (v::b.t.cs)) 0 (D.ms G 0 ((List.map aW.e b.i).length+1)).cells=.agg (D.ms G 0 ((List.map aW.e b.i).length+1)::b.t.cs):=by simp[setCells]
 refine⟨rfl,by simp,by rw[a6,H];omega,by simp,λ d hd=>?_⟩;rw[U]at hd;cases hd;rw[a5]
 have c5:(cJ vs s.blocks).set L (.agg (D.ms G 0 ((List.map aW.e b.i).length+1)::b.t.cs))=cJ (vs.set L (.ms G 0 (b.i.length+1))) (Li s.blocks L x):=by
  have:=MI S.len (k:=L) (by rw[H];omega) (.ms G 0 (b.i.length+1)) { b with i:=b.i++[x] };grind [Li,wK]
 rw[c5];obtain⟨W,eC⟩:∃W,W=ak hB nb (.arr 14 (cJ (vs.set L (.ms G 0 (b.i.length+1))) (Li s.blocks L x))):=⟨_,rfl⟩;rw[<- eC];have k4:W n=Slot.box (dZ bs j arrs s vL (D.ms nb 0 s.blocks.length)):=by rw[eC,aa _ _ c6];exact g4
 have k5:W nb=.arr 14 (cJ (vs.set L (.ms G 0 (b.i.length+1))) (Li s.blocks L x)):=by rw[eC,af]
 have k6:∀q,q≠G->q∉v.nR->q≠nb->W q=hA q:=λ q q1 q2 q3=>by rw[eC,aa _ _ q3];exact f3 q q1 q2
 have k7:W G=.arr 15 (b.i.map aW.e++[x.e]):=by rw[eC,aa _ _ b2.symm];exact f2
 simp only[k4,k5,dZ,fZ,List.getElem?_cons_succ,List.getElem?_cons_zero,H,ae,true_and];refine⟨by simp[Slot.row],?_⟩;have fr:G∉cj (vL::D.ms nb 0 s.blocks.length::vs):=S.fresh f1;have a2:(vs.set L (D.ms G 0 (b.i.length+1))).length=(Li s.blocks L x).length:=by rw[List.length_set,S.len,Pu]
 obtain⟨g0,c8⟩:=E9 S.nd;have c9:L<vs.length:=(aq.1 hv).1
 have split:∃p q,vs=p++v::q/\p.length=L:=by
  refine⟨vs.take L,vs.drop (L+1),?_,by simp;omega⟩;grind [List.take_append_drop,List.drop_eq_getElem_cons]
 obtain⟨p,q,c4,e5⟩:=split
 have c3:vs.set L (D.ms G 0 (b.i.length+1))=p++D.ms G 0 (b.i.length+1)::q:=by
  rw[c4, <- e5];simp
 have a1:(cj (vL::vs)).Nodup:=c8;rw[c4,cM,DW,cM]at a1;have Z:=List.nodup_append.1 a1;have c7:=List.nodup_append.1 Z.2.1;have e7:=List.nodup_append.1 c7.2.1
 have e6:∀k',k'∈v.nR->∀u,(u∈vL.nR\/u∈cj p\/u∈cj q)->u≠k':=by
  grind
 have a8:∀u,(u∈vL.nR\/u∈cj p\/u∈cj q)->u≠G/\u∉v.nR/\u≠nb:=by
  grind [cj]
 refine hK _ ⟨bs,j,vL,.ms nb 0 (Li s.blocks L x).length,vs.set L (.ms G 0 (b.i.length+1)),h1,h2,h3,by rw[Pu];exact k4,?_⟩ λ q' d hq hd=>?_
 ·refine⟨fA S.oL λ k' g3=>?_,Or.inr ⟨nb,by rw[lR a2],k5⟩,a2,λ k' v' b' O I=>?_,?_⟩
  ·grind
  ·rw[Li,wK hb]at I;rw[List.getElem?_set]at O I;by_cases e:L=k'
   ·subst e;rw[if_pos rfl,if_pos c9]at O;rw[if_pos rfl,if_pos (by rw[H];omega)]at I;cases O;cases I;exact Or.inr ⟨G,by simp,by rw[k7];simp⟩
   ·rw[if_neg e]at O I;refine fA (S.oI k' v' b' O I) λ u g2=>?_
    grind [cj,List.getElem?_append_left,sy,List.mem_of_getElem?]
  ·rw[c3,cM,cM,DW,cM];show(vL.nR++(nb::(cj p++(G::cj q)))).Nodup
   have e8:∀u,(u∈vL.nR\/u∈cj p\/u∈cj q)->u≠nb:=λ u h=>(a8 u h).2.2
   have e9:∀u,(u∈vL.nR\/u∈cj p\/u∈cj q)->u≠G:=λ u h=>(a8 u h).1
   refine List.nodup_append.2 ⟨Z.1,?_,?_⟩
   ·grind
   grind
 ·have e0:=V q' d hq hd;have q1:q'≠G:=by grind
  have q2:q'∉v.nR:=λ hm=>by have:=wD oV hm;rw[e0]at this;cases this
  grind
end Go.Am
namespace Go.Am
open Go
theorem fQ.len (o:fQ):o.e.cells.length=3:=rfl
theorem fQ.Ko (o:fQ):o.e.cells.all D.one=true:=rfl
theorem Term.len (o:Term):o.e.cells.length=13:=rfl
def qT (s:MS) (pre:List Block) (is:List aW) (t:Term):MS:={ s with blocks:=pre++[⟨is,t⟩] }
structure TB (pre:List Block) (is:List aW) (N:Nat):Prop where
 p:pre.length<=50
 b:∀b∈pre,b.i.length<=100
 i:is.length<=N
theorem TB.le {pre:List Block}{is is':List aW}{N M:Nat}(b:TB pre is N) (h:is'.length<=M):TB pre is' M:=⟨b.p,b.b,h⟩
theorem HX {α:Type}(l:List α) (a:α) (f:α->α):(l++[a]).modify l.length f=l++[f a]:=by
 rw[wK (a:=a) (by simp)];simp
theorem VT {h:Heap}{n k:Nat}{arrs:D}{s:MS}{pre:List Block}{is:List aW}{t:Term}{x:aW}(r:aY h n k arrs (qT s pre is t)) (hb:TB pre is 900){KH:HKq}
  (hK:∀h':Heap,aY h' n k arrs (qT s pre (is++[x]) t)->aQ n h h'->KH (.tup []) h'):ag PP aR [.ptr n 0 0,x.e] h KH:=by
 refine acE (L:=pre.length) r (by simp[qT]) (by have:=hb.p;omega) (λ b u=>?_) λ h' r' hk=>hK h' ?_ hk
 ·simp only[qT,List.mem_append,List.mem_singleton]at u;rcases u with u|rfl
  ·have:=hb.b b u;omega
  ·have:=hb.i;simp only;omega
 grind [Li,qT,HX]
def C7:List fv:=[⟨⟨#[97]⟩,1,1,8⟩,⟨⟨#[102]⟩,1,2,4⟩,⟨⟨#[115]⟩,2,1,8⟩,⟨⟨#[112]⟩,3,1,4⟩,⟨⟨#[98]⟩,2,3,4⟩]
def bE:D:=.sl (C7.map fv.e)
def Ld (n:Int):Int:=if n=0\/n=2 then 8 else 4
def HY (d:fQ) (a:fQ) (n:Int):aW:=⟨3,17,0,d,a,Const (Ld n-1),aF⟩
theorem aY.box {h:Heap}{n k:Nat}{arrs:D}{s:MS}(r:aY h n k arrs s):∃(bs:List Nat) (j:Nat) (vL vB:D),h n=.box (dZ bs j arrs s vL vB):=by
 obtain⟨bs,j,vL,vB,vs,-,-,-,h1,-⟩:=r.st;exact⟨_,_,_,_,h1⟩
section
variable {P:Program}{KH:HKq}{K:D->Prop}{h:Heap}
theorem ldO {m:Nat}{o:fQ}(a:h m=.box o.e):ab P (.ld (.c (.ptr m 0 0)) 3 true) h KH=KH o.e h:=eR a
theorem Mb {m:Nat}{o:fQ}(a:h m=.box o.e):an P (.ld (.c (.ptr m 0 0)) 3 true) h K=K o.e:=by rw[fB,ldO a]
theorem stO {m:Nat}{o o':fQ}(a:h m=.box o.e):ab P (.st (.c (.ptr m 0 0)) (.c o'.e) 3) h KH=KH .undef (ak h m (.box o'.e)):=by
 grind [fQ.e,fQ.cs,adk]
theorem NW {n i j o:Nat}(a:(h n).used=true):an P (.fadd (.c (.ptr n i j)) o) h K=K (.ptr n i (j+o)):=by rw[bw,a];simp
theorem jc {n i j o:Nat}(a:(h n).used=true):ab P (.fadd (.c (.ptr n i j)) o) h KH=KH (.ptr n i (j+o)) h:=by rw[wU,a];simp
end
def QF (q:Nat):D:=((C7.map fv.e)[q]?).getD .undef
theorem MO (q:Nat) (hq:q<5):(C7.map fv.e)[q]?=some (QF q)/\(QF q).cells.length=4/\(QF q).cells[3]?=some (.int .i64 (Ld q)):=by
 have:q=0\/q=1\/q=2\/q=3\/q=4:=by omega
 rcases this with rfl|rfl|rfl|rfl|rfl<;>exact⟨rfl,rfl,rfl⟩
theorem w6 (q:Int):Ld q=8\/Ld q=4:=by unfold Ld;split<;>simp
theorem La {P:Program}{K:D->Prop}{h:Heap}{q:Nat}(hq:q<5):an P (.iadd (.c (.sl (C7.map fv.e))) (.c (.int .i64 (q:Int))) 4) h K=K (.vp (QF q) 0):=by
 grind [MO,C7,eD,jq,Int.toNat_natCast]
theorem Pm {P:Program}{K:D->Prop}{h:Heap}{q:Nat}(hq:q<5):an P (.ld (.c (.vp (QF q) 3)) 1 false) h K=K (.int .i64 (Ld q)):=by
 rw[fB,kH,bg,(MO q hq).2.2]
theorem Pn {P:Program}{K:D->Prop}{h:Heap}{q:Nat}:an P (.fadd (.c (.vp (QF q) 0)) 3) h K=K (.vp (QF q) 3):=rfl
theorem RJ {h:Heap}{n k:Nat}{s:MS}{pre:List Block}{is:List aW}{t:Term}{priv:Bool}(r:aY h n k bE (qT s pre is t)) (hb:TB pre is 800) (hk:k<900000){KH:HKq}
  (hK:∀(q:Nat) (d:Nat) (a:fQ) (h':Heap),q<5->(priv=false->q≠3)->d<6->Ia a->aY h' n (k+3) bE (qT s pre (is++[HY (kG d) a q]) t)->aQ n h h'->KH (.tup [.int .i64 (q:Int),(kG (d:Int)).e]) h') :
  ag PP gQ [.ptr n 0 0,.bool priv] h KH:=by
 refine aI xj (aC _ _ _) rfl (w7 _ _ _) ?_;dsimp only[pG,xL,xP,xS,yC,yF,yI,yL];rw[fc];intro m t0;obtain⟨r1,hne⟩:=r.new t0.free (.box aF.e);have k1:aQ n h (ak h m (.box aF.e)):=aQ.new t0.free;refine gB r1 (by omega) λ b hA _ r2 k2=>?_
 have hm:=k2 m _ hne (af _ _ _);have S:=k1.trans k2;rw[cy];refine⟨by omega,?_⟩;have e5:((b:Int).tmod 5)=((b % 5:Nat):Int):=bC b 5;rw[e5];refine⟨λ qs h'=>∃q:Nat,qs=[.int .i64 (q:Int)]/\q<5/\(priv=false->q≠3)/\aY h' n (k+1) bE (qT s pre is t)/\h' m=.box aF.e/\aQ n h h',?_,?_⟩
 ·rintro f hB ⟨q,hq,I,hp,r3,Z,k3⟩;simp only[av,and_true]at hq;rw[hq];refine H7 r3 (by omega) λ d T hd r4 k4=>?_
  rw[fc];intro G t5;obtain⟨r5,O⟩:=r4.new t5.free (.box aF.e);have a2:=(aQ.new t5.free:aQ n T (ak T G (.box aF.e))) m _ hne (k4 m _ hne Z);have k5:=(k3.trans k4).trans (aQ.new t5.free:aQ n T (ak T G (.box aF.e)));have a5:=af T G (.box aF.e);have c4:m≠G:=t5.ne (by rw[k4 m _ hne Z];simp);show ab PP _ (ak T G (.box aF.e)) _
  generalize ak T G (.box aF.e)=hD at r5 a2 k5 a5;have a6:=af hD G (.box (kG (d:Int)).e);have r6:=r5.aM a5 O (.box (kG (d:Int)).e);have W:ak hD G (.box (kG (d:Int)).e) m=.box aF.e:=by grind [aa]
  rw[stO a5]
  have k6:aQ n h (ak hD G (.box (kG (d:Int)).e)):=λ Q d' u H=>by
   have h1:=k5 Q d' u H;by_cases e:Q=G
   ·subst e;exfalso;have h2:=k4 Q d' u (k3 Q d' u H);rw[t5.free]at h2;cases h2
   grind [aa]
  generalize ak hD G (.box (kG (d:Int)).e)=hE at r6 W k6 a6;obtain⟨bs,j,vL,vB,e⟩:=r6.box;have eu:(hE n).used=true:=by rw[e];rfl
  unfold dZ at e;have w1:IntKind.i64.wrap (Ld q-1)=Ld q-1:=by rcases w6 q with h|h<;>rw[h]<;>rfl
  have w2:IntKind.i32.wrap (Ld q-1)=Ld q-1:=by rcases w6 q with h|h<;>rw[h]<;>rfl
  simp only[↓Mb a6,↓NW eu,Nat.zero_add,Nat.reduceAdd,↓aX e (j:=7) rfl,bE,↓La I,↓Pn,↓Pm I,↓mz,w1,↓Ag,↓eZ,w2];refine C6 r6 (by omega) λ o hF ho r7 k7=>?_
  have a7:=k7 G _ O a6;have a1:=k7 m _ hne W;obtain⟨c5,j',c2,c3,e'⟩:=r7.box;have c1:(hF n).used=true:=by rw[e'];rfl
  unfold dZ at e';simp only[↓Mb a7,↓NW c1,Nat.zero_add,Nat.reduceAdd,↓aX e' (j:=7) rfl,bE,↓La I,↓Pn,↓Pm I,ae,true_and];refine M6 wX ⟨bh,trivial⟩ ?_;rw[RF,Ab];refine⟨Ee rfl,?_⟩;refine VT (x:=HY (kG d) o q) r7 (hb.le (by have:=hb.i;omega)) λ hG r8 k8=>?_
  have a8:=k8 G _ O a7;have V:=k8 m _ hne a1;simp only[↓Mb a8,↓stO V,↓ldO (af _ _ _)];refine hK q d o _ I hp hd ho (r8.aM V hne _) λ Q d' u H=>?_
  have h1:=k8 Q d' u (k7 Q d' u (k6 Q d' u H));by_cases ee:Q=m
  ·subst ee;rw[t0.free]at H;cases H
  grind [aa]
 ·rw[bZ];by_cases h3:b % 5=3
  ·have U:(((b % 5:Nat):Int)=3)=True:=eq_true (by omega);simp only[U,decide_true,↓gtt,↓gtf,↓gff,↓gft,↓Od];cases priv
   ·simp only[Bool.not_false,↓zN,↓ai];exact⟨rfl,0,rfl,by omega,λ _=>by omega,r2,hm,S⟩
   ·simp only[Bool.not_true,↓zN,↓ah];exact⟨rfl,b % 5,rfl,Nat.mod_lt _ (by omega),λ h=>(by cases h),r2,hm,S⟩
  ·have U:(((b % 5:Nat):Int)=3)=False:=eq_false (by omega);simp only[U,decide_false,↓gtt,↓gtf,↓gff,↓gft,↓Od,↓JW,↓C2,↓ah];exact⟨rfl,b % 5,rfl,Nat.mod_lt _ (by omega),λ _=>h3,r2,hm,S⟩
end Go.Am
namespace Go.Am
open Go
def uh (R:Int) (o:fQ):Prop:=∃r:Int,0<=r/\r<R/\o=kG r
def jH (R:Int) (o:fQ):Prop:=uh R o\/∃v:Int,-2147483648<=v/\v<=2147483647/\o=Const v
theorem uh.val {R:Int}{o:fQ}(h:uh R o):jH R o:=Or.inl h
theorem uh.mono {R R':Int}(h:R<=R'){o:fQ}(r:uh R o):uh R' o:=by obtain⟨a,b,c,d⟩:=r;exact⟨a,b,by omega,d⟩
theorem jH.mono {R R':Int}(h:R<=R'){o:fQ}(r:jH R o):jH R' o:=r.imp (uh.mono h) id
theorem Ia.o {o:fQ}(h:Ia o):jH 6 o:=by
 rcases h with⟨b,hb,rfl⟩|⟨v,h1,h2,rfl⟩
 ·exact Or.inl ⟨b,by omega,by omega,rfl⟩
 ·exact Or.inr ⟨v,by omega,by omega,rfl⟩
theorem gg {b:Nat}(h:b<6):uh 6 (kG (b:Int)):=⟨b,by omega,by omega,rfl⟩
inductive Eu (R:Int):aW->Prop
 | mov (d a:fQ) (h1:uh R d) (h2:jH R a):Eu R ⟨1,0,0,d,a,aF,aF⟩
 | un (s:Int) (d a:fQ) (h0:1<=s/\s<=5) (h1:uh R d) (h2:jH R a):Eu R ⟨2,s,0,d,a,aF,aF⟩
 | bin (s:Int) (d a b:fQ) (h0:10<=s/\s<=29) (h1:uh R d) (h2:jH R a) (h3:jH R b):Eu R ⟨3,s,0,d,a,b,aF⟩
 | sel (d a b c:fQ) (h1:uh R d) (h2:jH R a) (h3:jH R b) (h4:jH R c):Eu R ⟨4,0,0,d,a,b,c⟩
 | id (s:Int) (d:fQ) (h0:1<=s/\s<=7) (h1:uh R d):Eu R ⟨5,s,0,d,aF,aF,aF⟩
 | param (n:Int) (d:fQ) (h0:0<=n/\n<3) (h1:uh R d):Eu R ⟨6,0,n,d,aF,aF,aF⟩
 | load (n:Int) (d a:fQ) (h0:0<=n/\n<5) (h1:uh R d) (h2:jH R a):Eu R ⟨7,0,n,d,a,aF,aF⟩
 | store (n:Int) (a b:fQ) (h0:0<=n/\n<5) (h1:jH R a) (h2:jH R b):Eu R ⟨8,0,n,aF,a,b,aF⟩
 | atom (s n:Int) (a b:fQ) (hs:s=10\/s=22\/s=23\/s=17\/s=18\/s=19) (h0:0<=n/\n<5/\n≠3) (h1:jH R a) (h2:jH R b):Eu R ⟨9,s,n,aF,a,b,aF⟩
 | fence (s:Int) (h0:s=1\/s=2):Eu R ⟨10,s,0,aF,aF,aF,aF⟩
theorem Eu.mono {R R':Int}(h:R<=R'){x:aW}(i:Eu R x):Eu R' x:=by
 cases i with
 | mov d a h1 h2=>exact .mov d a (h1.mono h) (h2.mono h)
 | un s d a h0 h1 h2=>exact .un s d a h0 (h1.mono h) (h2.mono h)
 | bin s d a b h0 h1 h2 h3=>exact .bin s d a b h0 (h1.mono h) (h2.mono h) (h3.mono h)
 | sel d a b c h1 h2 h3 h4=>exact .sel d a b c (h1.mono h) (h2.mono h) (h3.mono h) (h4.mono h)
 | id s d h0 h1=>exact .id s d h0 (h1.mono h)
 | param n d h0 h1=>exact .param n d h0 (h1.mono h)
 | load n d a h0 h1 h2=>exact .load n d a h0 (h1.mono h) (h2.mono h)
 | store n a b h0 h1 h2=>exact .store n a b h0 (h1.mono h) (h2.mono h)
 | atom s n a b hs h0 h1 h2=>exact .atom s n a b hs h0 (h1.mono h) (h2.mono h)
 | fence s h0=>exact .fence s h0
def qp (R:Int) (xs:List aW):Prop:=∀(k:Nat) (x:aW),xs[k]?=some x->Eu R x/\((x.op=7\/x.op=8\/x.op=9)->∃(j:Nat) (a:fQ),k=j+1/\xs[j]?=some (HY x.a a x.n)/\jH R a)
theorem qp.nil {R:Int}:qp R []:=λ k x h=>by simp at h
theorem qp.one {R:Int}{x:aW}(i:Eu R x) (h:¬(x.op=7\/x.op=8\/x.op=9)):qp R [x]:=λ k y hy=>by
 grind
theorem qp.two {R:Int}{x y:aW}{a:fQ}(hx:Eu R x) (hy:Eu R y) (he:x=HY y.a a y.n) (ha:jH R a) (hn:¬(x.op=7\/x.op=8\/x.op=9)):qp R [x,y]:=λ k z u=>by
 match k with
 | 0=>grind
 | 1=>grind
 | k+2=>simp at u
theorem qp.append {R:Int}{xs ys:List aW}(hx:qp R xs) (hy:qp R ys):qp R (xs++ys):=λ k x h=>by
 rcases Nat.lt_or_ge k xs.length with hk|hk
 ·rw[List.getElem?_append_left hk]at h;obtain⟨h1,h2⟩:=hx k x h;refine⟨h1,λ ho=>?_⟩;obtain⟨j,a,e,q,v⟩:=h2 ho;exact⟨j,a,e,by grind,v⟩
 ·rw[List.getElem?_append_right hk]at h;obtain⟨h1,h2⟩:=hy _ x h;refine⟨h1,λ ho=>?_⟩;obtain⟨j,a,e,q,v⟩:=h2 ho;exact⟨xs.length+j,a,by omega,by grind,v⟩
theorem qp.mono {R R':Int}(h:R<=R'){xs:List aW}(x:qp R xs):qp R' xs:=λ k y hy=>by
 obtain⟨h1,h2⟩:=x k y hy;refine⟨h1.mono h,λ ho=>?_⟩;obtain⟨j,a,e,q,v⟩:=h2 ho;exact⟨j,a,e,q,v.mono h⟩
theorem Nn {d:Nat}{a:fQ}{q:Nat}(hd:d<6) (ha:Ia a):Eu 6 (HY (kG (d:Int)) a (q:Int)) :=
 .bin 17 _ _ _ (by omega) (gg hd) ha.o (Or.inr ⟨Ld q-1,by grind [w6],by grind [w6],rfl⟩)
theorem mT {h:Heap}{n k:Nat}{arrs:D}{s:MS}{pre:List Block}{is:List aW}{t:Term}{z:List D}{ps:List (Nat×Nat×Arg)}{KH:HKq}(x:aW) (r:aY h n k arrs (qT s pre is t)) (hb:TB pre is 900)
  (hf:Fu z.length (ps.map λ p=>(p.1,p.2.1,p.2.2.get []))=true) (hx:D.agg (fillD z (ps.map λ p=>(p.1,p.2.1,(p.2.2.get []).cells)))=x.e)
  (hK:∀h':Heap,aY h' n k arrs (qT s pre (is++[x]) t)->aQ n h h'->KH (.tup []) h') :
  ab PP (.bld z ps) h λ a h1=>ag PP aR [.ptr n 0 0,a] h1 KH:=by
 grind [Ab,Ee,VT]
theorem K9 {h:Heap}{n k:Nat}{arrs:D}{s:MS}{pre:List Block}{is:List aW}{t:Term}{z:List D}{ps:List (Nat×Nat×Arg)}{KH:HKq}(x:aW) (r:aY h n k arrs (qT s pre is t)) (hb:TB pre is 900)
  (hf:Fu z.length (ps.map λ p=>(p.1,p.2.1,p.2.2.get []))=true) (hx:D.agg (fillD z (ps.map λ p=>(p.1,p.2.1,(p.2.2.get []).cells)))=x.e)
  (hK:∀h':Heap,aY h' n k arrs (qT s pre (is++[x]) t)->aQ n h h'->KH (.tup []) h') :
  an PP (.bld z ps) h λ a=>ag PP aR [.ptr n 0 0,a] h KH:=by
 rw[RF];exact mT x r hb hf hx hK
set_option maxHeartbeats 1000000 in
theorem aaY {h:Heap}{n k:Nat}{s:MS}{pre:List Block}{is:List aW}{t:Term}(r:aY h n k bE (qT s pre is t)) (hb:TB pre is 700) (hk:k<800000){KH:HKq}
  (hK:∀(xs:List aW) (h':Heap),qp 6 xs->xs.length<=2->aY h' n (k+10) bE (qT s pre (is++xs) t)->aQ n h h'->KH (.tup []) h') :
  ag PP lF [.ptr n 0 0] h KH:=by
 refine aI zk (aC _ _ _) rfl (y8 _ _) ?_;dsimp only[ra,xS,yI,yL];have I:TB pre is 900:=hb.le (by have:=hb.i;omega);refine gB r (by omega) λ b0 h1 _ r1 k1=>?_
 rw[cy];refine⟨by omega,?_⟩;have c1:((b0:Int).tmod 16)=((b0 % 16:Nat):Int):=bC b0 16;rw[c1];have a1:b0 % 16<16:=Nat.mod_lt _ (by omega);generalize b0 % 16=c at a1;rw[fK];by_cases c3:c<3
 ·simp only[show((c:Int)<3)=True from eq_true (by omega),decide_true,↓ai];refine gB r1 (by omega) λ b h2 _ U O=>?_
  rw[cy];refine⟨by omega,?_⟩;rw[show((b:Int).tmod 7)=((b % 7:Nat):Int) from bC b 7,ca,wrap64 (by omega) (by omega)];refine H7 U (by omega) λ d h3 hd H Z=>?_
  refine mT ⟨5,1+((b % 7:Nat):Int),0,kG d,aF,aF,aF⟩ H I rfl rfl λ h4 G k4=>?_
  exact hK _ h4 (.one (.id _ _ (by omega) (gg hd)) (by simp)) (by simp) (G.le (by omega)) (((k1.trans O).trans Z).trans k4)
 simp only[show((c:Int)<3)=False from eq_false (by omega),decide_false,↓ah];rw[fK];by_cases c2:c<7
 ·simp only[show((c:Int)<7)=True from eq_true (by omega),decide_true,↓ai];refine gB r1 (by omega) λ b h2 _ U O=>?_
  rw[cy];refine⟨by omega,?_⟩;rw[show((b:Int).tmod 20)=((b % 20:Nat):Int) from bC b 20,ca,wrap64 (by omega) (by omega)];refine H7 U (by omega) λ d h3 hd H Z=>?_
  refine C6 H (by omega) λ o h4 ho G k4=>?_
  refine C6 G (by omega) λ p h5 hp r5 W=>?_
  refine mT ⟨3,10+((b % 20:Nat):Int),0,kG d,o,p,aF⟩ r5 I rfl rfl λ h6 r6 k6=>?_
  exact hK _ h6 (.one (.bin _ _ _ _ (by omega) (gg hd) ho.o hp.o) (by simp)) (by simp) (r6.le (by omega)) (((((k1.trans O).trans Z).trans k4).trans W).trans k6)
 simp only[show((c:Int)<7)=False from eq_false (by omega),decide_false,↓ah];rw[bZ];by_cases S:c=7
 ·simp only[show((c:Int)=7)=True from eq_true (by omega),decide_true,↓ai];refine gB r1 (by omega) λ b h2 _ U O=>?_
  rw[cy];refine⟨by omega,?_⟩;rw[show((b:Int).tmod 5)=((b % 5:Nat):Int) from bC b 5,ca,wrap64 (by omega) (by omega)];refine H7 U (by omega) λ d h3 hd H Z=>?_
  refine C6 H (by omega) λ o h4 ho G k4=>?_
  refine mT ⟨2,1+((b % 5:Nat):Int),0,kG d,o,aF,aF⟩ G I rfl rfl λ h6 r6 k6=>?_
  exact hK _ h6 (.one (.un _ _ _ (by omega) (gg hd) ho.o) (by simp)) (by simp) (r6.le (by omega)) ((((k1.trans O).trans Z).trans k4).trans k6)
 simp only[show((c:Int)=7)=False from eq_false (by omega),decide_false,↓ah];rw[bZ];by_cases h8:c=8
 ·simp only[show((c:Int)=8)=True from eq_true (by omega),decide_true,↓ai];refine H7 r1 (by omega) λ d h3 hd H Z=>?_
  refine C6 H (by omega) λ o h4 ho G k4=>?_
  refine C6 G (by omega) λ p h5 hp r5 W=>?_
  refine C6 r5 (by omega) λ q h6 hq r6 k6=>?_
  refine mT ⟨4,0,0,kG d,o,p,q⟩ r6 I rfl rfl λ S u V=>?_
  exact hK _ S (.one (.sel _ _ _ _ (gg hd) ho.o hp.o hq.o) (by simp)) (by simp) (u.le (by omega)) (((((k1.trans Z).trans k4).trans W).trans k6).trans V)
 simp only[show((c:Int)=8)=False from eq_false (by omega),decide_false,↓ah];rw[bZ];by_cases h9:c=9
 ·simp only[show((c:Int)=9)=True from eq_true (by omega),decide_true,↓ai];refine H7 r1 (by omega) λ d h3 hd H Z=>?_
  refine C6 H (by omega) λ o h4 ho G k4=>?_
  refine mT ⟨1,0,0,kG d,o,aF,aF⟩ G I rfl rfl λ S u V=>?_
  exact hK _ S (.one (.mov _ _ (gg hd) ho.o) (by simp)) (by simp) (u.le (by omega)) (((k1.trans Z).trans k4).trans V)
 simp only[show((c:Int)=9)=False from eq_false (by omega),decide_false,↓ah];rw[bZ];by_cases c7:c=10
 ·simp only[show((c:Int)=10)=True from eq_true (by omega),decide_true,↓ai];refine gB r1 (by omega) λ b h2 _ U O=>?_
  rw[cy];refine⟨by omega,?_⟩;rw[show((b:Int).tmod 3)=((b % 3:Nat):Int) from bC b 3];refine H7 U (by omega) λ d h3 hd H Z=>?_
  refine mT ⟨6,0,((b % 3:Nat):Int),kG d,aF,aF,aF⟩ H I rfl rfl λ S u V=>?_
  exact hK _ S (.one (.param _ _ (by omega) (gg hd)) (by simp)) (by simp) (u.le (by omega)) (((k1.trans O).trans Z).trans V)
 simp only[show((c:Int)=10)=False from eq_false (by omega),decide_false,↓ah];rw[bZ];by_cases c6:c=11
 ·simp only[show((c:Int)=11)=True from eq_true (by omega),decide_true,↓ai];refine gB r1 (by omega) λ b h2 _ U O=>?_
  rw[cy];refine⟨by omega,?_⟩;rw[show((b:Int).tmod 2)=((b % 2:Nat):Int) from bC b 2,ca,wrap64 (by omega) (by omega)];refine mT ⟨10,1+((b % 2:Nat):Int),0,aF,aF,aF,aF⟩ U I rfl rfl λ S u V=>?_
  exact hK _ S (.one (.fence _ (by omega)) (by simp)) (by simp) (u.le (by omega)) ((k1.trans O).trans V)
 simp only[show((c:Int)=11)=False from eq_false (by omega),decide_false,↓ah];rw[bZ];by_cases c5:c=12
 ·simp only[show((c:Int)=12)=True from eq_true (by omega),decide_true,↓ai];refine RJ r1 (hb.le (by have:=hb.i;omega)) (by omega) λ q d a h2 hq hp hd ha U O=>?_
  simp only[↓Vr,↓Vp];rw[fc];intro m t0;obtain⟨H,hne⟩:=U.new t0.free (.box aF.e);have a3:=af h2 m (.box aF.e);have Z:aQ n h2 (ak h2 m (.box aF.e)):=aQ.new t0.free;show ab PP _ (ak h2 m (.box aF.e)) _
  have key:aQ n h2 (ak (ak h2 m (.box aF.e)) m (.box (kG (d:Int)).e)):=by rw[lf];exact aQ.new t0.free
  rw[stO a3];have G:=H.aM a3 hne (.box (kG (d:Int)).e);have a4:=af (ak h2 m (.box aF.e)) m (.box (kG (d:Int)).e);generalize ak (ak h2 m (.box aF.e)) m (.box (kG (d:Int)).e)=h3 at key G a4
  have a8:∀{Q:D->Prop},an PP (.bldS false 1 6 (.int .i64 0) [(0,(.c (.int .i64 10))),(1,(.c (.int .i64 22))),(2,(.c (.int .i64 23))),(3,(.c (.int .i64 17))),(4,(.c (.int .i64 18))),(5,(.c (.int .i64 19)))]) h3 Q=Q (.sl [.int .i64 10,.int .i64 22,.int .i64 23,.int .i64 17,.int .i64 18,.int .i64 19]):=by
   intro Q;apply propext;constructor
   ·exact λ hh=>hh.2.2.2
   ·intro hq;refine⟨Hm rfl,?_,by simp,hq⟩;intro p hp;simp[Arg.get]at hp;rcases hp with rfl|rfl|rfl|rfl|rfl|rfl<;>simp
  simp only[a8,↓Mb a4];refine gB G (by omega) λ b h4 _ r5 W=>?_
  have a5:=W m _ hne a4;simp only[↓Mb a5,ae,true_and];rw[cy];refine⟨by omega,?_⟩;rw[show((b:Int).tmod 6)=((b % 6:Nat):Int) from bC b 6]
  obtain⟨T,a2,a7⟩:∃T:Int,([.int .i64 10,.int .i64 22,.int .i64 23,.int .i64 17,.int .i64 18,.int .i64 19]:List D)[b % 6]?=some (.int .i64 T)/\(T=10\/T=22\/T=23\/T=17\/T=18\/T=19):=by
   grind
  have hi:∀{h:Heap}{Q:D->Prop},an PP (.iadd (.c (.sl [.int .i64 10,.int .i64 22,.int .i64 23,.int .i64 17,.int .i64 18,.int .i64 19])) (.c (.int .i64 ((b % 6:Nat):Int))) 1) h Q=Q (.vp (.int .i64 T) 0):=by
   intro h Q;rw[eD,jq,aT,a2];apply propext;constructor
   ·grind
   ·intro hq;exact⟨by omega,by simp;omega,λ d hd=>by cases hd;exact⟨rfl,hq⟩⟩
  have hl:∀{h:Heap}{Q:D->Prop},an PP (.ld (.c (.vp (.int .i64 T) 0)) 1 false) h Q=Q (.int .i64 T):=λ {h Q}=>by rw[fB,kH,bg];rfl
  simp only[↓hi,↓hl];refine C6 r5 (by omega) λ o h5 ho r6 k6=>?_
  have a6:=k6 m _ hne a5;simp only[↓hi,↓hl,↓Mb a6,ae,true_and];refine K9 ⟨9,T,q,aF,kG d,o,aF⟩ r6 (hb.le (by have:=hb.i;simp;omega)) rfl rfl λ S u V=>?_
  rw[List.append_assoc]at u;exact hK _ S (.two (a:=a) (Nn hd ha) (.atom T (q:Int) _ _ a7 ⟨Int.natCast_nonneg q,Int.ofNat_lt.2 hq,λ e=>hp rfl (Int.ofNat_inj.1 e)⟩ (Or.inl (gg hd)) ho.o) rfl ha.o (by simp[HY])) (by simp) (u.le (by omega)) (((((k1.trans O).trans key).trans W).trans k6).trans V)
 simp only[show((c:Int)=12)=False from eq_false (by omega),decide_false,↓ah];refine RJ r1 (hb.le (by have:=hb.i;omega)) (by omega) λ q d a h2 hq hp hd ha U O=>?_
 simp only[↓Vr,↓Vp];rw[fc];intro m t0;obtain⟨H,hne⟩:=U.new t0.free (.box aF.e);have a3:=af h2 m (.box aF.e);show ab PP _ (ak h2 m (.box aF.e)) _
 have key:aQ n h2 (ak (ak h2 m (.box aF.e)) m (.box (kG (d:Int)).e)):=by rw[lf];exact aQ.new t0.free
 rw[stO a3];have G:=H.aM a3 hne (.box (kG (d:Int)).e);have a4:=af (ak h2 m (.box aF.e)) m (.box (kG (d:Int)).e);generalize ak (ak h2 m (.box aF.e)) m (.box (kG (d:Int)).e)=h3 at key G a4;rw[bZ];by_cases c4:c=13
 ·simp only[show((c:Int)=13)=True from eq_true (by omega),decide_true,↓ai,↓Mb a4];refine H7 G (by omega) λ e h4 he r5 W=>?_
  have a5:=W m _ hne a4;simp only[↓Mb a5,ae,true_and];refine K9 ⟨7,0,q,kG e,kG d,aF,aF⟩ r5 (hb.le (by have:=hb.i;simp;omega)) rfl rfl λ S u V=>?_
  rw[List.append_assoc]at u;exact hK _ S (.two (a:=a) (Nn hd ha) (.load (q:Int) _ _ ⟨Int.natCast_nonneg q,Int.ofNat_lt.2 hq⟩ (gg he) (Or.inl (gg hd))) rfl ha.o (by simp[HY])) (by simp) (u.le (by omega)) ((((k1.trans O).trans key).trans W).trans V)
 ·simp only[show((c:Int)=13)=False from eq_false (by omega),decide_false,↓ah,↓Mb a4];refine C6 G (by omega) λ o h4 ho r5 W=>?_
  have a5:=W m _ hne a4;simp only[↓Mb a5,ae,true_and];refine K9 ⟨8,0,q,aF,kG d,o,aF⟩ r5 (hb.le (by have:=hb.i;simp;omega)) rfl rfl λ S u V=>?_
  rw[List.append_assoc]at u;exact hK _ S (.two (a:=a) (Nn hd ha) (.store (q:Int) _ _ ⟨Int.natCast_nonneg q,Int.ofNat_lt.2 hq⟩ (Or.inl (gg hd)) ho.o) rfl ha.o (by simp[HY])) (by simp) (u.le (by omega)) ((((k1.trans O).trans key).trans W).trans V)
theorem JK {h:Heap}{n k:Nat}{s:MS}{pre:List Block}{is:List aW}{t:Term}(r:aY h n k bE (qT s pre is t)) (hb:TB pre is 600) (hk:k<700000){KH:HKq}
  (hK:∀(xs:List aW) (h':Heap),qp 6 xs->xs.length<=8->aY h' n (k+50) bE (qT s pre (is++xs) t)->aQ n h h'->KH (.tup []) h') :
  ag PP cV [.ptr n 0 0] h KH:=by
 refine aI xk (aC _ _ _) rfl (w8 _ _) ?_;unfold pH;refine gB r (by omega) λ b h1 _ I Q=>?_
 rw[cy];refine⟨by omega,?_⟩;rw[show((b:Int).tmod 5)=((b % 5:Nat):Int) from bC b 5];have u:b % 5<5:=Nat.mod_lt _ (by omega);generalize b % 5=c at u;unfold mZ;refine⟨λ j q h'=>j<=4/\q=[.int .i64 (j:Int)]/\∃xs:List aW,qp 6 xs/\xs.length<=2*(4-j)/\aY h' n (k+1+10*(4-j)) bE (qT s pre (is++xs) t)/\aQ n h h',c,⟨by omega,rfl,[],.nil,by simp,by simpa using I.le (by omega),Q⟩,?_⟩;rintro j f h2 ⟨U,hq,xs,hx,hl,G,H⟩;simp only[av,and_true]at hq;rw[hq,zy];by_cases h0:0<j
 ·simp only[show((0:Int)<(j:Int))=True from eq_true (by omega),decide_true,↓ai];refine aaY G (hb.le (by have:=hb.i;simp;omega)) (by omega) λ ys h3 hy S T O=>?_
  rw[mz,wrap64 (by omega) (by omega)];refine⟨rfl,j-1,by omega,by omega,by congr 2;omega,xs++ys,hx.append hy,by simp;omega,?_,H.trans O⟩;grind
 ·simp only[show((0:Int)<(j:Int))=False from eq_false (by omega),decide_false,↓ah];exact hK xs h2 hx (by omega) (G.le (by omega)) H
end Go.Am
namespace Go.Am
open Go
theorem fF {P:Program}{h:Heap}{KH:HKq}{z:List D}{ps:List (Nat×Nat×Arg)}(hf:Fu z.length (ps.map λ p=>(p.1,p.2.1,p.2.2.get []))=true) :
  ab P (.bld z ps) h KH=KH (.agg (fillD z (ps.map λ p=>(p.1,p.2.1,(p.2.2.get []).cells)))) h:=by
 grind [Ab,Ee]
theorem lS {P:Program}{h:Heap}{K:D->Prop}{z:List D}{ps:List (Nat×Nat×Arg)}(hf:Fu z.length (ps.map λ p=>(p.1,p.2.1,p.2.2.get []))=true) :
  an P (.bld z ps) h K=K (.agg (fillD z (ps.map λ p=>(p.1,p.2.1,(p.2.2.get []).cells)))):=by
 rw[RF,fF hf]
inductive NO (N:Nat) (R:Int):Term->Prop
 | jump (a:Nat) (h:a<N):NO N R ⟨1,0,aF,aF,aF,a,0⟩
 | branch (o:fQ) (a b:Nat) (ho:uh R o) (h1:a<N) (h2:b<N):NO N R ⟨2,0,aF,o,aF,a,b⟩
 | barrier (a:Nat) (h:a<N):NO N R ⟨3,0,aF,aF,aF,a,0⟩
 | collect (s:Int) (d a b:fQ) (t:Nat) (hs:1<=s/\s<=6) (hd:uh R d) (ha:jH R a) (hb:jH R b) (h:t<N):NO N R ⟨4,s,d,a,b,t,0⟩
 | exit:NO N R ⟨5,0,aF,aF,aF,0,0⟩
theorem NO.mono {N N':Nat}{R R':Int}(hN:N<=N') (hR:R<=R'){t:Term}(h:NO N R t):NO N' R' t:=by
 cases h with
 | jump a h=>exact .jump a (by omega)
 | branch o a b ho h1 h2=>exact .branch o a b (ho.mono hR) (by omega) (by omega)
 | barrier a h=>exact .barrier a (by omega)
 | collect s d a b t hs hd ha hb h=>exact .collect s d a b t hs (hd.mono hR) (ha.mono hR) (hb.mono hR) (by omega)
 | exit=>exact .exit
structure BOk (N:Nat) (R:Int) (b:Block):Prop where
 xs:qp R b.i
 len:b.i.length<=20
 t:NO N R b.t
def pg (N:Nat) (R:Int) (bs:List Block):Prop:=∀b∈bs,BOk N R b
theorem pg.mono {N N':Nat}{R R':Int}(hN:N<=N') (hR:R<=R'){bs:List Block}(h:pg N R bs):pg N' R' bs:=λ b hb=>⟨(h b hb).xs.mono hR,(h b hb).len,(h b hb).t.mono hN hR⟩
theorem pg.snoc {N:Nat}{R:Int}{bs:List Block}{b:Block}(h:pg N R bs) (hb:BOk N R b):pg N R (bs++[b]):=λ c hc=>by
 rcases List.mem_append.1 hc with hc|hc
 ·exact h c hc
 grind
theorem pg.nil {N:Nat}{R:Int}:pg N R []:=λ _ h=>by cases h
theorem pg.bnd {N:Nat}{R:Int}{bs:List Block}(h:pg N R bs) (hl:bs.length<=50){is:List aW}{M:Nat}(hi:is.length<=M):TB bs is M:=⟨hl,λ b hb=>by have:=(h b hb).len;omega,hi⟩
theorem sw {h:Heap}{n k:Nat}{arrs:D}{s:MS}{pre:List Block}{is:List aW}{t0:Term}(r:aY h n k arrs (qT s pre is t0)) :
  ∃(bs:List Nat) (j:Nat) (vL:D) (nb:Nat),h n=.box (.agg [EG bs,.int .i64 (j:Int),.int .i64 s.group,.int .i64 s.sub,.int .i64 s.regs,.int .i64 0,.int .i64 3,arrs,vL,.ms nb 0 (pre.length+1)])/\(h n).used=true/\(h nb).live=true /\
   (∀(t:Term) {KH:HKq},(∀h',aY h' n k arrs (qT s pre is t)->aQ n h h'->KH .undef h') ->
    ab PP (.iadd (.c (.ms nb 0 (pre.length+1))) (.c (.int .i64 (pre.length:Int))) 14) h λ a h1=>ab PP (.fadd (.c a) 1) h1 λ b h2=>ab PP (.st (.c b) (.c t.e) 13) h2 KH) /\
   (∀(t:Term) {KH:HKq},(∀h',aY h' n k arrs (qT s pre is t)->aQ n h h'->KH .undef h') ->
    an PP (.iadd (.c (.ms nb 0 (pre.length+1))) (.c (.int .i64 (pre.length:Int))) 14) h λ a=>an PP (.fadd (.c a) 1) h λ b=>ab PP (.st (.c b) (.c t.e) 13) h KH):=by
 obtain⟨bs,j,vL,nb,vs,h1,h2,h3,h4,u,H⟩:=r.some (by simp[qT]);have hl:(qT s pre is t0).blocks.length=pre.length+1:=by simp[qT]
 have I:h n=.box (.agg [EG bs,.int .i64 (j:Int),.int .i64 s.group,.int .i64 s.sub,.int .i64 s.regs,.int .i64 0,.int .i64 3,arrs,vL,.ms nb 0 (pre.length+1)]):=by rw[h4,dZ,hl];rfl
 have st:∀(t:Term) {KH:HKq},(∀h',aY h' n k arrs (qT s pre is t)->aQ n h h'->KH .undef h')->ab PP (.st (.c (.ptr nb pre.length 1)) (.c t.e) 13) h KH:=by
  intro t KH G;refine XL (i:=pre.length) h1 h2 h3 h4 u H (by rw[hl];omega) λ h' r' k'=>G h' ?_ k'
  grind [Om,qT,HX]
 have T:((0:Int)<=(pre.length:Int))=True:=eq_true (by omega);have S:((pre.length:Int)<((pre.length+1:Nat):Int))=True:=eq_true (by omega);have Q:(∃els,(h nb).row=some (14,els))=True:=eq_true ⟨_,by rw[u];rfl⟩;have O:(h nb).used=true:=by rw[u];rfl
 refine⟨bs,j,vL,nb,I,by rw[h4];rfl,by rw[u];rfl,λ t KH G=>?_,λ t KH G=>?_⟩
 ·grind [cv,jc]
 grind [eD,cv,NW]
theorem Ao {h:Heap}{n k:Nat}{arrs:D}{s:MS}{bs:List Block}(r:aY h n k arrs { s with blocks:=bs }) (hl:bs.length<=50){KH:HKq}
  (hK:∀h':Heap,aY h' n k arrs (qT s bs [] mH)->aQ n h h'->KH (.tup []) h'):ag PP br [.ptr n 0 0] h KH :=
 Ys r (by simp only;omega) λ h' r' k'=>hK h' r' k'
theorem WU {h:Heap}{n k:Nat}{arrs:D}{s:MS}{v:Int}(r:aY h n k arrs s){KH:HKq}
  (hK:∀h':Heap,aY h' n k arrs { s with regs:=v }->aQ n h h'->KH .undef h'):ab PP (.st (.c (.ptr n 0 4)) (.c (.int .i64 v)) 1) h KH:=by
 obtain⟨bs,j,vL,vB,vs,h1,h2,h3,h4,u⟩:=r.st;rw[fG,h4];refine⟨rfl,by simp,rfl,by simp[dZ],?_⟩;exact hK _ ⟨bs,j,vL,vB,vs,h1,h2,h3,by rw[af];simp[dZ,setCells],u.box h4 _⟩ aQ.self
theorem ZG {h:Heap}{n k:Nat}{arrs:D}{s:MS}{v:Int}(r:aY h n k arrs s){KH:HKq}
  (hK:∀h':Heap,aY h' n k arrs { s with sub:=v }->aQ n h h'->KH .undef h'):ab PP (.st (.c (.ptr n 0 3)) (.c (.int .i64 v)) 1) h KH:=by
 obtain⟨bs,j,vL,vB,vs,h1,h2,h3,h4,u⟩:=r.st;rw[fG,h4];refine⟨rfl,by simp,rfl,by simp[dZ],?_⟩;exact hK _ ⟨bs,j,vL,vB,vs,h1,h2,h3,by rw[af];simp[dZ,setCells],u.box h4 _⟩ aQ.self
theorem app_loop {h:Heap}{n k:Nat}{arrs:D}{s:MS}{l:Loop}{bytes:Nat}{z z':D}(r:aY h n k arrs s) (hl:s.loops.length<=1000) (hby:bytes<=1000){bs0:List Nat}{j0:Nat}{vL:D}{vB:D}(e:h n=.box (dZ bs0 j0 arrs s vL vB)){KH:HKq}
  (hK:∀h':Heap,aY h' n k arrs { s with loops:=s.loops++[l] }->aQ n h h'->KH .undef h') :
  ab PP (.bldS true 3 1 z [(0,.c l.e)]) h λ x h1=>ab PP (.app (.c vL) (.c x) 3 bytes z') h1 λ v h2=>ab PP (.fadd (.c (.ptr n 0 0)) 0) h2 λ a h3=>ab PP (.fadd (.c a) 2) h3 λ b h4=>ab PP (.fadd (.c b) 6) h4 λ c h5=>ab PP (.st (.c c) (.c v) 1) h5 KH:=by
 obtain⟨bs,j,T,U,vs,h1,h2,h3,h4,h5⟩:=r.st
 have ee:vL=T/\vB=U/\bs0=bs/\j0=j:=by
  rw[e]at h4;simp only[dZ,Slot.box.injEq,D.agg.injEq,av,D.int.injEq,and_true,true_and,EG,D.sl.injEq]at h4;obtain⟨q1,q2,q3,q4⟩:=h4;refine⟨q3,q4,?_,by omega⟩;have:=congrArg (List.map (λ d=>match d with|D.int _ i=>i.toNat|_=>0)) q1;simpa[List.map_map,Function.comp_def] using this
 obtain⟨rfl,rfl,rfl,rfl⟩:=ee
 have a1:((List.map Loop.e s.loops).length+1)*bytes<=140737488355328:=by
  rw[aE];exact Nat.le_trans (Nat.mul_le_mul (show s.loops.length+1<=1001 by omega) hby) (by omega)
 refine Nv h5.oL (Loop.bR l) rfl a1 (by rw[aE];omega) λ m h' f1 f2 f3=>?_
 have V:n≠m:=by grind
 have W:n∉vL.nR:=λ hm=>by have:=wD h5.oL hm;rw[h4]at this;cases this
 have S:h' n=h n:=f3 n V W (by rw[h4];simp);have eu:(h' n).used=true:=by rw[S,h4];rfl
 simp only[↓jc eu,Nat.zero_add,Nat.reduceAdd];rw[fG,S,h4];refine⟨rfl,by simp,rfl,by simp[dZ],?_⟩;have H:∀k',k'∈cj (vL::vB::vs)->h k'≠.free:=λ k' Q=>by obtain⟨e,l,u⟩:=h5.arr Q;rw[u];simp
 have G:m∉cj (vL::vB::vs):=λ hm=>H m hm f1
 have O:=h5.nd;rw[cM]at O G;simp only[List.mem_append,not_or]at G;have I:=List.nodup_append.1 O
 have same:∀{x:Slot}(k':Nat),k'∈cj (vB::vs)->(ak h' n x) k'=h k':=by
  intro x k' Q;have Z:k'∈cj (vL::vB::vs):=by grind [cM]
  have e1:k'≠n:=by
   rintro rfl;obtain⟨e,l,u⟩:=h5.arr Z;rw[h4]at u;cases u
  grind [aa]
 refine hK _ ⟨bs0,j0,.ms m 0 ((List.map Loop.e s.loops).length+1),vB,vs,h1,h2,h3,by rw[af];simp[dZ,setCells],?_⟩ λ q d hq hd=>?_
 ·refine⟨Or.inr ⟨m,by simp,by grind [aa]⟩,fA h5.oB λ k' q=>same k' (sy (by simp) q),h5.len,λ i v b hv hb=>fA (h5.oI i v b hv hb) λ k' q=>same k' (sy ?_ q),?_⟩
  ·grind
  ·rw[cM];exact List.nodup_cons.2 ⟨G.2,I.2.1⟩
 ·rw[aa _ _ hq];have e2:q≠m:=by grind
  have e3:q∉vL.nR:=λ hm=>by have:=wD h5.oL hm;rw[hd]at this;cases this
  grind
structure NQ (h:Heap) (n k:Nat) (arrs:D) (s:MS) (vL vB:D):Prop where
 st:∃(bs:List Nat) (j:Nat) (vs:List D),(∀b∈bs,b<=255)/\bs.length<=9223372036854775807/\j<=k/\h n=.box (dZ bs j arrs s vL vB)/\Rows h s.loops s.blocks vL vB vs
theorem NQ.rel {h:Heap}{n k:Nat}{arrs:D}{s:MS}{vL vB:D}(r:NQ h n k arrs s vL vB):aY h n k arrs s:=by
 obtain⟨bs,j,vs,h1,h2,h3,h4,u⟩:=r.st;exact⟨bs,j,vL,vB,vs,h1,h2,h3,h4,u⟩
theorem aY.v {h:Heap}{n k:Nat}{arrs:D}{s:MS}(r:aY h n k arrs s):∃vL vB,NQ h n k arrs s vL vB:=by
 obtain⟨bs,j,vL,vB,vs,h1,h2,h3,h4,u⟩:=r.st;exact⟨vL,vB,bs,j,vs,h1,h2,h3,h4,u⟩
theorem NQ.new {h:Heap}{n k:Nat}{arrs:D}{s:MS}{vL vB:D}(r:NQ h n k arrs s vL vB){m:Nat}(hm:h m=.free) (x:Slot):NQ (ak h m x) n k arrs s vL vB/\m≠n:=by
 obtain⟨bs,j,vs,h1,h2,h3,h4,u⟩:=r.st;have hne:n≠m:=by grind
 exact⟨⟨bs,j,vs,h1,h2,h3,by grind [aa],u.free hm x⟩,hne.symm⟩
theorem NQ.aM {h:Heap}{n k:Nat}{arrs:D}{s:MS}{vL vB:D}(r:NQ h n k arrs s vL vB){m:Nat}{d:D}(hm:h m=.box d) (hne:m≠n) (x:Slot):NQ (ak h m x) n k arrs s vL vB:=by
 obtain⟨bs,j,vs,h1,h2,h3,h4,u⟩:=r.st;exact⟨bs,j,vs,h1,h2,h3,by grind [aa],u.box hm x⟩
theorem NQ.le {h:Heap}{n k k':Nat}{arrs:D}{s:MS}{vL vB:D}(r:NQ h n k arrs s vL vB) (hk:k<=k'):NQ h n k' arrs s vL vB:=by
 obtain⟨bs,j,vs,h1,h2,h3,h4,u⟩:=r.st;exact⟨bs,j,vs,h1,h2,by omega,h4,u⟩
theorem Fy {h:Heap}{n k:Nat}{arrs:D}{s:MS}{vL vB:D}(r:NQ h n k arrs s vL vB) (hk:k<1000000){KH:HKq}(hK:∀(b:Nat) (h':Heap),b<=255->NQ h' n (k+1) arrs s vL vB->aQ n h h'->KH (.int .i64 (b:Int)) h') :
  ag PP aw [.ptr n 0 0] h KH:=by
 obtain⟨bs,j,vs,h1,h2,h3,h4,u⟩:=r.st;refine NC h4 h1 h2 (by omega) λ b hb=>hK b _ hb ⟨bs,j+1,vs,h1,h2,by omega,af _ _ _,u.box h4 _⟩ aQ.self
theorem Qy {vL vB:D}{h:Heap}{n k:Nat}{arrs:D}{s:MS}(r:NQ h n k arrs s vL vB) (hk:k<1000000){KH:HKq}(hK:∀(b:Nat) (h':Heap),b<6->NQ h' n (k+1) arrs s vL vB->aQ n h h'->KH (kG (b:Int)).e h') :
  ag PP bf [.ptr n 0 0] h KH:=by
 refine aI oW (aC _ _ _) rfl (ox _ _) ?_;dsimp only[mY,xL,xS];rw[fc];intro m t;obtain⟨O,hne⟩:=r.new t.free (.box (.agg [(.int .i64 0),(.int .i64 0),(.int .i32 0)]));refine Fy O hk λ b h' hb I u=>?_
 have hm:=u m _ hne (af _ _ _);have Q:((b:Int).tmod 6)=((b % 6:Nat):Int):=bC b 6;rw[cy];refine⟨by omega,?_⟩;rw[Q];refine gN u4 ⟨bh,trivial⟩ ?_;simp only[↓fG,hm];refine⟨by first|rfl|trivial,(fQ.bR _).one,by first|rfl|trivial,by simp,?_⟩;have G:setCells (.agg [(.int .i64 0),(.int .i64 0),(.int .i32 0)]) 0 (kG ((b % 6:Nat):Int)).e.cells=(kG ((b % 6:Nat):Int)).e:=rfl;rw[G];simp only[↓kT,af,true_and];refine⟨by simp[fQ.e,fQ.cs],?_⟩;refine hK (b % 6) _ (Nat.mod_lt _ (by omega)) (I.aM hm hne _) λ q d hq hd=>?_
 have H:q≠m:=by rintro rfl;rw[t.free]at hd;cases hd
 rw[aa _ _ H];exact u q d hq (by grind [aa])
theorem VQ {vL vB:D}{h:Heap}{n k:Nat}{arrs:D}{s:MS}(r:NQ h n k arrs s vL vB) (hk:k<1000000){KH:HKq}(hK:∀(o:fQ) (h':Heap),Ia o->NQ h' n (k+1) arrs s vL vB->aQ n h h'->KH o.e h') :
  ag PP bc [.ptr n 0 0] h KH:=by
 refine aI oT (aC _ _ _) rfl (ou _ _) ?_;dsimp only[mX,xC,xL,xS];rw[fc];intro m t;obtain⟨S,hne⟩:=r.new t.free (.box (.agg [(.int .i64 0),(.int .i64 0),(.int .i32 0)]));refine Fy S hk λ b h' hb Q u=>?_
 have hm:=u m _ hne (af _ _ _)
 have fin:∀o:fQ,Ia o->ab PP (.st (.c (.ptr m 0 0)) (.c o.e) 3) h' λ _ h1=>ab PP (.ld (.c (.ptr m 0 0)) 3 true) h1 λ a _=>KH a h1:=by
  intro o ho;simp only[↓fG,hm];refine⟨by first|rfl|trivial,(fQ.bR _).one,by first|rfl|trivial,by simp[fQ.e,fQ.cs],?_⟩;have H:setCells (.agg [(.int .i64 0),(.int .i64 0),(.int .i32 0)]) 0 o.e.cells=o.e:=rfl;rw[H];simp only[↓kT,af,true_and];refine⟨by simp[fQ.e,fQ.cs],?_⟩;refine hK o _ ho (Q.aM hm hne _) λ q d hq hd=>?_
  have I:q≠m:=by rintro rfl;rw[t.free]at hd;cases hd
  rw[aa _ _ I];exact u q d hq (by grind [aa])
 have e3:((b:Int).tmod 3)=((b % 3:Nat):Int):=bC b 3
 have d3:IntKind.i64.wrap ((b:Int).tdiv 3)=((b / 3:Nat):Int):=by
  grind [wrap64]
 rw[cy];refine⟨by omega,?_⟩;rw[e3,bZ];by_cases hc:b % 3=0
 ·have G:((b % 3:Nat):Int)=0:=by omega
  simp only[G,decide_true,ai,↓ss];refine⟨by omega,?_⟩;have w:IntKind.i32.wrap ((b / 3:Nat):Int)=((b / 3:Nat):Int):=by grind [IntKind.wrap,IntKind.bits]
  have O:IntKind.i32.wrap (((b / 3:Nat):Int)-20)=((b / 3:Nat):Int)-20:=by grind [IntKind.wrap,IntKind.signed,IntKind.bits]
  rw[d3,eZ,w,mz,O];refine gN wX ⟨bh,trivial⟩ ?_;exact fin _ (Or.inr ⟨_,by omega,by omega,rfl⟩)
 ·have G:¬((b % 3:Nat):Int)=0:=by omega
  simp only[G,decide_false,ah,↓ss];refine⟨by omega,?_⟩;rw[d3,cy];refine⟨by omega,?_⟩;have T:(((b / 3:Nat):Int).tmod 6)=((b / 3 % 6:Nat):Int):=bC (b / 3) 6;rw[T];refine gN u4 ⟨bh,trivial⟩ ?_;exact fin _ (Or.inl ⟨b / 3 % 6,Nat.mod_lt _ (by omega),rfl⟩)
theorem iY {h:Heap}{n k:Nat}{arrs:D}{s:MS}{pre:List Block}{is:List aW}{t0:Term}{vL vB:D}(r:NQ h n k arrs (qT s pre is t0) vL vB) :
  ∃(bs:List Nat) (j:Nat) (nb:Nat),vB=.ms nb 0 (pre.length+1)/\h n=.box (.agg [EG bs,.int .i64 (j:Int),.int .i64 s.group,.int .i64 s.sub,.int .i64 s.regs,.int .i64 0,.int .i64 3,arrs,vL,vB])/\(h n).used=true /\
   (∀(t:Term) {KH:HKq},(∀h',aY h' n k arrs (qT s pre is t)->aQ n h h'->KH .undef h') ->
    an PP (.iadd (.c vB) (.c (.int .i64 (pre.length:Int))) 14) h λ a=>an PP (.fadd (.c a) 1) h λ b=>ab PP (.st (.c b) (.c t.e) 13) h KH):=by
 obtain⟨bs,j,vs,h1,h2,h3,h4,W⟩:=r.st;obtain⟨S,V,I,u,G,Q,-,-,st⟩:=sw r.rel;rw[h4]at G;simp only[dZ,Slot.box.injEq,D.agg.injEq,av,and_true]at G;obtain⟨U,-,-,-,-,-,-,-,T,H⟩:=G;refine⟨bs,j,u,H,by rw[h4];rfl,Q,λ t KH O=>?_⟩;rw[H];exact st t O
theorem Rj {esz:Nat}{h:Heap}{v:D}{els:List D}(ho:Own esz h v els){K:D->Prop}:bq v h K=K (.int .i64 (els.length:Int)):=by
 rcases ho with⟨rfl,rfl⟩|⟨m,rfl,hm⟩
 ·rfl
 grind [ko,Slot.live]
theorem Rc {h:Heap}{n k:Nat}{arrs:D}{s:MS}(r:aY h n k arrs s):∃(bs:List Nat) (j:Nat) (vL vB:D),
  h n=.box (dZ bs j arrs s vL vB)/\(h n).used=true/\(∀K:D->Prop,bq vL h K=K (.int .i64 (s.loops.length:Int))):=by
 obtain⟨bs,j,vL,vB,vs,h1,h2,h3,h4,u⟩:=r.st;exact⟨bs,j,vL,vB,h4,by rw[h4];rfl,λ K=>by rw[Rj u.oL,aE]⟩
def P4 (s:MS) (hd:Nat) (b:Int):MS:={ s with regs:=6+2*(s.loops.length:Int)+2,loops:=s.loops++[⟨(hd:Int),6+2*(s.loops.length:Int),b⟩] }
set_option maxHeartbeats 2000000 in
theorem aaX {h:Heap}{n k:Nat}{s:MS}{pre:List Block}{is:List aW}{t:Term}(r:aY h n k bE (qT s pre is t)) (hA:pg (pre.length+1) s.regs pre) (hX:qp s.regs is) (hi:is.length<=10) (hp:pre.length<=40)
  (hq:s.loops.length<=10) (hR:s.regs=6+2*(s.loops.length:Int)) (hk:k<600000) {KH:HKq}
  (hK:∀(b:Int) (bs:List Block) (h':Heap),1<=b->b<=3->bs.length=pre.length+3->pg (pre.length+4) (s.regs+2) bs->aY h' n (k+100) bE { P4 s (pre.length+1) b with blocks:=bs }->aQ n h h'->KH (.tup []) h') :
  ag PP fC [.ptr n 0 0] h KH:=by
 refine aI zj (aC _ _ _) rfl (y7 _ _) ?_;dsimp only[qZ,xC,xF,xI,xL,xS,yF,yI,yL];obtain⟨r0,j0,e5,o6,e0,l4,l8⟩:=Rc r;unfold dZ at e0;have c8:∀K:D->Prop,bq e5 h K=K (.int .i64 (s.loops.length:Int)):=l8;generalize c2:s.loops.length=q at *;simp only[↓jc l4,Nat.zero_add,Nat.reduceAdd,↓cT e0 (j:=8) rfl,c8];rw[CY,wrap64 (by omega) (by omega),ca,wrap64 (by omega) (by omega)];refine gB r (by omega) λ b h1 _ r1 k1=>?_
 rw[cy];refine⟨by omega,?_⟩;rw[show((b:Int).tmod 3)=((b % 3:Nat):Int) from bC b 3,ca,wrap64 (by omega) (by omega),ca,wrap64 (by omega) (by omega)];have q1:b % 3<3:=Nat.mod_lt _ (by omega);generalize q0:1+((b % 3:Nat):Int)=u;have V:1<=u:=by omega
 have U:u<=3:=by omega
 obtain⟨-,-,-,-,-,l3,-⟩:=Rc r1;simp only[↓jc l3,Nat.zero_add,Nat.reduceAdd];refine WU (v:=6+2*(q:Int)+2) r1 λ h2 r2 k2=>?_
 have r2:aY h2 n (k+1) bE (qT { s with regs:=6+2*(q:Int)+2 } pre is t):=r2;obtain⟨q9,j2,o4,o9,e2,l0,g2,-,-⟩:=sw r2;simp only[↓jc l0,Nat.zero_add,Nat.reduceAdd,↓cT e2 (j:=9) rfl,↓ko,g2,true_and];refine gN u4 ⟨bh,trivial⟩ ?_;refine gN wX ⟨bh,trivial⟩ ?_;have j5:∀{c1:List aW},c1.length<=900->TB pre c1 900:=λ hh=>hA.bnd (by omega) hh
 refine mT ⟨1,0,0,kG (6+2*(q:Int)),Const 0,aF,aF⟩ r2 (j5 (by omega)) rfl rfl λ h3 r3 k3=>?_
 obtain⟨q8,j3,o3,o8,e3,k0,p1,YS,-⟩:=sw r3;simp only[↓jc k0,Nat.zero_add,Nat.reduceAdd,↓cT e3 (j:=9) rfl];rw[mz,wrap64 (by omega) (by omega),fF rfl,fF rfl,show((pre.length+1:Nat):Int)-1=(pre.length:Int) by omega];refine YS ⟨1,0,aF,aF,aF,((pre.length+1:Nat):Int),0⟩ λ h4 r4 k4=>?_
 have g3:=(((k1.trans k2).trans k3).trans k4)
 refine⟨λ qs h'=>qs=[.ptr n 0 0,.int .i64 (6+2*(q:Int)),.int .i64 u,.int .i64 ((pre.length+1:Nat):Int)] /\
  aY h' n (k+1) bE (qT (P4 s (pre.length+1) u) pre (is++[⟨1,0,0,kG (6+2*(q:Int)),Const 0,aF,aF⟩]) ⟨1,0,aF,aF,aF,((pre.length+1:Nat):Int),0⟩)/\aQ n h h',?_,?_⟩
 ·rintro f h5 ⟨hf,r5,k5⟩;simp only[av,and_true]at hf;obtain⟨f0,f2,f3,f4⟩:=hf;rw[f0,f2,f3,f4];clear YS e3 e2 e0;have n2:(P4 s (pre.length+1) u).regs=s.regs+2:=by simp only[P4,c2];omega
  have rn:uh (s.regs+2) (kG (6+2*(q:Int))):=⟨_,by omega,by omega,rfl⟩;have a5:uh (s.regs+2) (kG (6+2*(q:Int)+1)):=⟨_,by omega,by omega,rfl⟩;obtain⟨B1,a1⟩:∃B:Block,B=⟨is++[⟨1,0,0,kG (6+2*(q:Int)),Const 0,aF,aF⟩],⟨1,0,aF,aF,aF,((pre.length+1:Nat):Int),0⟩⟩:=⟨_,rfl⟩
  have A1:pg (pre.length+4) (s.regs+2) (pre++[B1]):=(hA.mono (by omega) (by omega)).snoc (by
   rw[a1]
   exact⟨(hX.mono (by omega)).append (.one (.mov _ _ rn (Or.inr ⟨0,by omega,by omega,rfl⟩)) (by simp)),by simp;omega,.jump (pre.length+1) (by omega)⟩)
  have a7:aY h5 n (k+1) bE { P4 s (pre.length+1) u with blocks:=pre++[B1] }:=by rw[a1];exact r5
  have l1:(pre++[B1]).length=pre.length+1:=by simp
  clear a1 r5;generalize pre++[B1]=H at A1 a7 l1;refine Ao a7 (by omega) λ h6 r6 k6=>?_
  rw[ca,wrap64 (by omega) (by omega)];refine gN u4 ⟨bh,trivial⟩ ?_;refine gN u4 ⟨bh,trivial⟩ ?_;rw[eZ,show IntKind.i32.wrap u=u by grind [IntKind.wrap,IntKind.bits]];refine gN wX ⟨bh,trivial⟩ ?_;refine mT ⟨3,26,0,kG (6+2*(q:Int)+1),kG (6+2*(q:Int)),Const u,aF⟩ r6 (A1.bnd (by omega) (by simp)) rfl rfl λ h7 r7 k7=>?_
  obtain⟨q6,j7,o1,o7,e7,j8,p0,-,W⟩:=sw r7;simp only[↓NW j8,Nat.zero_add,Nat.reduceAdd,↓aX e7 (j:=9) rfl];rw[ca,wrap64 (by omega) (by omega)];refine M6 u4 ⟨bh,trivial⟩ ?_;rw[ca,wrap64 (by omega) (by omega),ca,wrap64 (by omega) (by omega),lS rfl,lS rfl];rw[l1]at W ⊢;refine W ⟨2,0,aF,kG (6+2*(q:Int)+1),aF,((pre.length+1:Nat):Int)+1,((pre.length+1:Nat):Int)+2⟩ λ h8 r8 k8=>?_
  obtain⟨B2,Z⟩:∃B:Block,B=⟨[]++[⟨3,26,0,kG (6+2*(q:Int)+1),kG (6+2*(q:Int)),Const u,aF⟩],⟨2,0,aF,kG (6+2*(q:Int)+1),aF,((pre.length+1:Nat):Int)+1,((pre.length+1:Nat):Int)+2⟩⟩:=⟨_,rfl⟩
  have A2:pg (pre.length+4) (s.regs+2) (H++[B2]):=A1.snoc (by
   rw[Z]
   exact⟨.one (.bin _ _ _ _ (by omega) a5 rn.val (Or.inr ⟨u,by omega,by omega,rfl⟩)) (by simp),by simp,.branch _ (pre.length+2) (pre.length+3) a5 (by omega) (by omega)⟩)
  have a6:aY h8 n (k+1) bE { P4 s (pre.length+1) u with blocks:=H++[B2] }:=by rw[Z];exact r8
  have l2:(H++[B2]).length=pre.length+2:=by simp;omega
  clear Z r8 W e7;generalize H++[B2]=T at A2 a6 l2;refine Ao a6 (by omega) λ h9 r9 k9=>?_
  refine gN u4 ⟨bh,trivial⟩ ?_;refine gN u4 ⟨bh,trivial⟩ ?_;refine gN wX ⟨bh,trivial⟩ ?_;refine mT ⟨3,10,0,kG (6+2*(q:Int)),kG (6+2*(q:Int)),Const 1,aF⟩ r9 (A2.bnd (by omega) (by simp)) rfl rfl λ q5 g1 g9=>?_
  refine JK g1 (A2.bnd (by omega) (by simp)) (by omega) λ xs q4 j1 p5 e9 g8=>?_
  obtain⟨o0,p4,m2,m7,e1,c7,m9,I,-⟩:=sw e9;simp only[↓jc c7,Nat.zero_add,Nat.reduceAdd,↓cT e1 (j:=9) rfl];rw[ca,wrap64 (by omega) (by omega),fF rfl,fF rfl];rw[l2]at I ⊢;rw[show((pre.length+1:Nat):Int)+1=((pre.length+2:Nat):Int) by omega];refine I ⟨1,0,aF,aF,aF,((pre.length+1:Nat):Int),0⟩ λ q3 a8 g7=>?_
  clear I e1
  have O:qp (s.regs+2) ([]++[⟨3,10,0,kG (6+2*(q:Int)),kG (6+2*(q:Int)),Const 1,aF⟩]++xs) :=
   (qp.one (.bin _ _ _ _ (by omega) rn rn.val (Or.inr ⟨1,by omega,by omega,rfl⟩)) (by simp)).append (j1.mono (by omega))
  have Q:([]++[⟨3,10,0,kG (6+2*(q:Int)),kG (6+2*(q:Int)),Const 1,aF⟩]++xs:List aW).length<=20:=by simp;omega
  generalize ([]++[⟨3,10,0,kG (6+2*(q:Int)),kG (6+2*(q:Int)),Const 1,aF⟩]++xs:List aW)=ys at O Q a8;have kk:=((((((k5.trans k6).trans k7).trans k8).trans k9).trans g9).trans g8).trans g7;refine⟨λ qs h'=>∃c:Bool,qs=[.ptr n 0 0,.int .i64 ((pre.length+1:Nat):Int),.bool c]/\aY h' n (k+52) bE (qT (P4 s (pre.length+1) u) T ys ⟨1,0,aF,aF,aF,((pre.length+1:Nat):Int),0⟩)/\aQ n h h',?_,?_⟩
  ·rintro g c3 ⟨c,hg,G,S⟩;simp only[av,and_true]at hg;obtain⟨g0,g4,c4⟩:=hg;rw[g0,g4,c4]
   cases c with
   | false =>
    rw[ah];exact hK u _ c3 V U (by simp;omega) (A2.snoc ⟨O,Q,.jump (pre.length+1) (by omega)⟩) (G.le (by omega)) S
   | true =>
    rw[ai];obtain⟨m1,m3,G⟩:=G.v;obtain⟨n9,p3,m5,n5,m0,c6,-⟩:=iY G;simp only[↓NW c6,Nat.zero_add,Nat.reduceAdd,↓aX m0 (j:=9) rfl];rw[ca,wrap64 (by omega) (by omega),ca,wrap64 (by omega) (by omega),lS rfl];refine Qy G (by omega) λ d q2 hd e8 g6=>?_
    obtain⟨n7,p2,m4,n3,l9,c5,a2⟩:=iY e8;simp only[↓NW c5,Nat.zero_add,Nat.reduceAdd,↓aX l9 (j:=9) rfl,ae,true_and];rw[lS rfl,show((pre.length+1:Nat):Int)+1=(T.length:Int) by omega];refine a2 ⟨2,0,aF,kG d,aF,((pre.length+1:Nat):Int),((pre.length+1:Nat):Int)+2⟩ λ j6 e6 g5=>?_
    exact hK u _ j6 V U (by simp;omega) (A2.snoc ⟨O,Q,.branch (kG d) (pre.length+1) (pre.length+3) ((gg hd).mono (by omega)) (by omega) (by omega)⟩) (e6.le (by omega)) ((S.trans g6).trans g5)
  ·refine gB a8 (by omega) λ b' c3 _ G S=>?_
   rw[cy];refine⟨by omega,?_⟩;rw[bZ];exact⟨rfl,_,rfl,G.le (by omega),kk.trans S⟩
 ·obtain⟨q7,j4,o2,o5,e4,j9,-⟩:=Rc r4;have c9:=e4;unfold dZ at c9;simp only[↓jc j9,Nat.zero_add,Nat.reduceAdd,↓cT c9 (j:=8) rfl];rw[fF rfl];refine app_loop (l:=⟨((pre.length+1:Nat):Int),6+2*(q:Int),u⟩) r4 (by simp only[qT];omega) (by omega) e4 λ h5 r5 k5=>?_
  refine⟨by first|rfl|trivial,by first|rfl|trivial,?_,g3.trans k5⟩;have:P4 s (pre.length+1) u={ s with regs:=6+2*(q:Int)+2,loops:=s.loops++[⟨((pre.length+1:Nat):Int),6+2*(q:Int),u⟩] }:=by rw[P4,c2]
  rw[this];exact r5
end Go.Am
namespace Go.Am
open Go
set_option maxHeartbeats 2000000 in
theorem Pc {h:Heap}{n k m:Nat}{s:MS}{bs:List Block}(r:aY h n k bE { s with blocks:=bs }) (hA:pg (bs.length+1) s.regs bs) (hl:bs.length<=40) (hR:6<=s.regs) (hm:m<=2) (hk:k<500000){KH:HKq}
  (hK:∀(pre:List Block) (is:List aW) (h':Heap),pre.length=bs.length+m->pg (pre.length+1) s.regs pre->qp 6 is->is.length<=8->aY h' n (k+300) bE (qT s pre is mH)->aQ n h h'->KH (.tup []) h') :
  ag PP gh [.ptr n 0 0,.int .i64 (m:Int)] h KH:=by
 refine aI vO (aC _ _ _) rfl (vj _ _ _) ?_;dsimp only[ow,xF,xL];refine Ao r (by omega) λ h1 r1 k1=>?_
 obtain⟨j9,j1,c5,e9,e1,c2,a1,-,-⟩:=sw r1;simp only[↓jc c2,Nat.zero_add,Nat.reduceAdd,↓cT e1 (j:=9) rfl,↓ko,a1,true_and];rw[mz,wrap64 (by omega) (by omega),ca,wrap64 (by omega) (by omega),show((bs.length+1:Nat):Int)-1=(bs.length:Int) by omega];refine⟨λ O h'=>O=[]/\∃pre:List Block,pre.length=bs.length+m/\pg (pre.length+1) s.regs pre/\aY h' n (k+200) bE (qT s pre [] mH)/\aQ n h h',?_,?_⟩
 ·rintro f h2 ⟨-,pre,G,u,W,k2⟩;refine JK W (u.bnd (by omega) (by simp)) (by omega) λ xs h3 hx S V k3=>?_
  exact hK pre xs h3 G u hx S (V.le (by omega)) (k2.trans k3)
 ·dsimp only[lW,xF,xI,xL,xS,yF,yI,yL];refine⟨λ j O h'=>j<=m/\O=[.int .i64 ((bs.length+(m-j):Nat):Int)]/\∃pre:List Block,pre.length=bs.length+(m-j)/\pg (bs.length+m+1) s.regs pre/\aY h' n (k+80*(m-j)) bE (qT s pre [] mH)/\aQ n h h',m,⟨Nat.le_refl _,by simp,bs,by simp,hA.mono (by omega) (by omega),by simpa using r1,k1⟩,?_⟩;rintro j f h2 ⟨hj,hq,pre,G,u,W,k2⟩;simp only[av,and_true]at hq;rw[hq,fK,show(bs.length:Int)+(m:Int)=((bs.length+m:Nat):Int) by omega];by_cases h0:0<j
  ·simp only[show(((bs.length+(m-j):Nat):Int)<((bs.length+m:Nat):Int))=True from eq_true (by omega),decide_true,↓ai];refine JK W (u.bnd (by omega) (by simp)) (by omega) λ xs h3 hx S V k3=>?_
   rw[List.nil_append]at V;obtain⟨j4,j3,c4,e4,e3,c1,g0,YS,-⟩:=sw V;simp only[↓jc c1,Nat.zero_add,Nat.reduceAdd,↓cT e3 (j:=9) rfl];rw[ca,wrap64 (by omega) (by omega),fF rfl,fF rfl];rw[show((bs.length+(m-j):Nat):Int)+1=((bs.length+(m-j)+1:Nat):Int) by omega];rw[G]at YS ⊢;refine YS ⟨1,0,aF,aF,aF,((bs.length+(m-j)+1:Nat):Int),0⟩ λ h4 r4 k4=>?_
   clear YS e3;have Q:=(k2.trans k3).trans k4;refine⟨λ O h'=>O=[]/\∃T:Term,NO (bs.length+m+1) s.regs T/\aY h' n (k+80*(m-j)+60) bE (qT s pre xs T)/\aQ n h h',?_,?_⟩
   ·rintro g h5 ⟨-,T,hT,H,Z⟩;have A5:pg (bs.length+m+1) s.regs (pre++[⟨xs,T⟩]):=u.snoc ⟨hx.mono hR,by simp only;omega,hT⟩;refine Ao (bs:=pre++[⟨xs,T⟩]) H (by simp;omega) λ h6 U k6=>?_
    rw[ca,wrap64 (by omega) (by omega)];refine⟨rfl,j-1,by omega,by omega,?_,pre++[⟨xs,T⟩],by simp;omega,A5,U.le (by omega),Z.trans k6⟩;congr 2;omega
   ·refine gB r4 (by omega) λ b h5 _ H Z=>?_
    rw[cy];refine⟨by omega,?_⟩;rw[show((b:Int).tmod 2)=((b % 2:Nat):Int) from bC b 2,bZ];by_cases g3:b % 2=0
    ·simp only[show(((b % 2:Nat):Int)=0)=True from eq_true (by omega),decide_true,↓ai];obtain⟨c3,c6,H⟩:=H.v;obtain⟨j2,j5,e0,g7,e5,a8,-⟩:=iY H;simp only[↓NW a8,Nat.zero_add,Nat.reduceAdd,↓aX e5 (j:=9) rfl];rw[ca,wrap64 (by omega) (by omega),mz,wrap64 (by omega) (by omega),ca,wrap64 (by omega) (by omega),mz,wrap64 (by omega) (by omega)];refine Qy H (by omega) λ d h6 hd U k6=>?_
     obtain⟨j0,j6,c9,g6,e6,a7,-⟩:=iY U;simp only[↓NW a7,Nat.zero_add,Nat.reduceAdd,↓aX e6 (j:=9) rfl,ae,true_and];refine Fy U (by omega) λ x h7 _ r7 k7=>?_
     obtain⟨g9,j7,c8,g5,e7,a6,-⟩:=iY r7;simp only[↓NW a6,Nat.zero_add,Nat.reduceAdd,↓aX e7 (j:=9) rfl,ae,true_and];rw[cy];refine⟨by omega,?_⟩;rw[show((bs.length+m:Nat):Int)-((bs.length+(m-j):Nat):Int)=(j:Int) by omega,show((x:Int).tmod (j:Int))=((x % j:Nat):Int) from bC x j];have g2:x % j<j:=Nat.mod_lt _ h0;rw[ca,wrap64 (by omega) (by omega)];refine Fy r7 (by omega) λ y h8 _ r8 k8=>?_
     obtain⟨g8,j8,c7,g4,e8,a5,I⟩:=iY r8;simp only[↓NW a5,Nat.zero_add,Nat.reduceAdd,↓aX e8 (j:=9) rfl,ae,true_and];rw[cy];refine⟨by omega,?_⟩;rw[show((y:Int).tmod (j:Int))=((y % j:Nat):Int) from bC y j];have g1:y % j<j:=Nat.mod_lt _ h0;rw[ca,wrap64 (by omega) (by omega),lS rfl,lS rfl];rw[G]at I;refine I ⟨2,0,aF,kG d,aF,((bs.length+(m-j):Nat):Int)+1+((x % j:Nat):Int),((bs.length+(m-j):Nat):Int)+1+((y % j:Nat):Int)⟩ λ h9 r9 k9=>?_
     try simp only[ae,true_and]
     refine⟨_,?_,r9.le (by omega),((((Q.trans Z).trans k6).trans k7).trans k8).trans k9⟩;have e1:((bs.length+(m-j):Nat):Int)+1+((x % j:Nat):Int)=((bs.length+(m-j)+1+x % j:Nat):Int):=by omega
     have e2:((bs.length+(m-j):Nat):Int)+1+((y % j:Nat):Int)=((bs.length+(m-j)+1+y % j:Nat):Int):=by omega
     rw[e1,e2];exact .branch _ _ _ ((gg hd).mono hR) (by omega) (by omega)
    ·simp only[show(((b % 2:Nat):Int)=0)=False from eq_false (by omega),decide_false,↓ah]
     try simp only[ae,true_and]
     exact⟨_,.jump _ (by omega),H.le (by omega),Q.trans Z⟩
  ·simp only[show(((bs.length+(m-j):Nat):Int)<((bs.length+m:Nat):Int))=False from eq_false (by omega),decide_false,↓ah];have a2:j=0:=by omega
   subst a2
   try simp only[ae,true_and]
   exact⟨pre,by omega,by grind,W.le (by omega),k2⟩
end Go.Am
namespace Go.Am
open Go
theorem Nh {esz:Nat}{h:Heap}{v:D}{els:List D}(ho:Own esz h v els) (hv:∀x∈els,∀y∈x.cells,y.vone=true):rM h v/\(v.fzc h).vone=true/\v.one=true/\Wk (v.fzc h) (.sl els):=by
 rcases ho with⟨rfl,rfl⟩|⟨m,rfl,hm⟩
 ·exact⟨trivial,rfl,rfl,.nil⟩
 ·have u:(h m).row=some (esz,els):=by rw[hm];rfl
  have e:(D.ms m 0 els.length).fzc h=.sl els:=by simp[D.fzc,u]
  exact⟨⟨esz,els,u,by simp,λ x hx=>hv x (by simpa using hx)⟩,by rw[e];rfl,rfl,by rw[e];exact .refl _⟩
theorem KA {l:List aW}:∀x,x∈l.map aW.e->∀y∈x.cells,y.vone=true:=by
 intro x hx y hy;obtain⟨a,-,rfl⟩:=List.mem_map.1 hx;simp[aW.e,aW.cs]at hy;rcases hy with rfl|rfl|rfl|rfl|rfl|rfl|rfl|rfl|rfl|rfl|rfl|rfl|rfl|rfl|rfl<;>rfl
theorem P6 {l:List Loop}:∀x,x∈l.map Loop.e->∀y∈x.cells,y.vone=true:=by
 intro x hx y hy;obtain⟨a,-,rfl⟩:=List.mem_map.1 hx;simp[Loop.e]at hy;rcases hy with rfl|rfl|rfl<;>rfl
theorem uB {t:Term}:∀x∈t.cs,x.vone=true/\x.nR=[]/\(∀h,x.fzc h=x/\rM h x):=by
 intro x hx;simp[Term.cs]at hx;rcases hx with rfl|rfl|rfl|rfl|rfl|rfl|rfl|rfl|rfl|rfl|rfl|rfl|rfl<;>exact⟨rfl,rfl,λ h=>⟨rfl,trivial⟩⟩
theorem Q3 {t:Term}{h:Heap}:t.cs.map (D.fzc h)=t.cs:=by
 rw[List.map_congr_left (λ x hx=>((uB x hx).2.2 h).1)];simp
theorem MJ {vs:List D}{bs:List Block}(hl:vs.length=bs.length){e:D}(he:e∈cJ vs bs):∃(i:Nat) (v:D) (b:Block),vs[i]?=some v/\bs[i]?=some b/\e=.agg (v::b.t.cs):=by
 grind [List.getElem?_of_mem,cJ]
theorem UR {h:Heap}{loops:List Loop}{blocks:List Block}{vL vB:D}{vs:List D}(r:Rows h loops blocks vL vB vs) (hne:blocks≠[]) (g sb rg:Int) :
  ∃h'',NT h h''/\lD (.agg [.int .i64 g,.int .i64 sb,.int .i64 rg,.int .i64 0,.int .i64 3,bE,vL,vB])/\yb h'' (.agg [.int .i64 g,.int .i64 sb,.int .i64 rg,.int .i64 0,.int .i64 3,bE,vL,vB]) /\
   ((D.agg [.int .i64 g,.int .i64 sb,.int .i64 rg,.int .i64 0,.int .i64 3,bE,vL,vB]).fzt h'').JR=true /\
   Wk ((D.agg [.int .i64 g,.int .i64 sb,.int .i64 rg,.int .i64 0,.int .i64 3,bE,vL,vB]).fzt h'') (Code.e ⟨g,sb,rg,0,3,C7,loops,blocks⟩):=by
 have T:=lR r.len
 obtain⟨nb,e1,e2⟩:=E6 r.oB (by
  grind)
 subst e1;obtain⟨Q,a1⟩:=E9 r.nd
 have names:∀k,k∈(cJ vs blocks).flatMap D.nm->k∈cj vs:=by
  intro k hk;obtain⟨e,he,O⟩:=List.mem_flatMap.1 hk;obtain⟨i,v,b,H,hb,rfl⟩:=MJ r.len he;simp only[D.nm,List.mem_flatMap,List.mem_cons]at O;obtain⟨x,hx|hx,G⟩:=O
  ·subst hx;exact sy (aK H) G
  ·rw[(uB x hx).2.1]at G;cases G
 have hd:Sd h nb 14 (cJ vs blocks):=by
  refine⟨λ hm=>Q (by grind [cM]),λ e he=>?_⟩;obtain⟨i,v,b,H,hb,rfl⟩:=MJ r.len he;obtain⟨f1,f2,f3,-⟩:=Nh (r.oI i v b H hb) KA;refine⟨λ x hx=>?_,λ x hx=>?_,λ y hy=>?_⟩
  ·grind [D.cells,D.cu,uB]
  ·simp only[D.cells,List.mem_cons]at hx;rcases hx with rfl|hx
   ·exact f1
   ·exact((uB x hx).2.2 h).2
  grind [D.fz,D.cells,Q3,uB]
 refine⟨iP h nb 14 (cJ vs blocks),.step e2 hd (.refl _),?_⟩;obtain⟨u,U⟩:∃u,u=iP h nb 14 (cJ vs blocks):=⟨_,rfl⟩;rw[<- U];have S:u nb=.arr 14 ((cJ vs blocks).map (D.fz h)):=by rw[U];exact uV
 have oL:Own 3 u vL (loops.map Loop.e):=fA r.oL λ k hk=>by
  rw[U];grind [KB,cM]
 obtain⟨l1,Z,W,V⟩:=Nh oL P6;have I:(u nb).row=some (14,(cJ vs blocks).map (D.fz h)):=by rw[S];rfl
 have eB:(D.ms nb 0 (cJ vs blocks).length).fzc u=.sl ((cJ vs blocks).map (D.fz h)):=by
  grind [D.fzc,List.take_of_length_le]
 have e:(D.agg [.int .i64 g,.int .i64 sb,.int .i64 rg,.int .i64 0,.int .i64 3,bE,vL,.ms nb 0 (cJ vs blocks).length]).fzt u =
   .agg [.int .i64 g,.int .i64 sb,.int .i64 rg,.int .i64 0,.int .i64 3,bE,vL.fzc u,.sl ((cJ vs blocks).map (D.fz h))]:=by
  simp only[D.fzt,D.fz,List.map_cons,List.map_nil,eB];rfl
 refine⟨λ x hx=>?_,λ x hx=>?_,?_,?_⟩
 ·simp only[D.cells,List.mem_cons,List.not_mem_nil,or_false]at hx;rcases hx with rfl|rfl|rfl|rfl|rfl|rfl|rfl|rfl<;>first|rfl|exact W
 ·simp only[D.cells,List.mem_cons,List.not_mem_nil,or_false]at hx;rcases hx with rfl|rfl|rfl|rfl|rfl|rfl|rfl|rfl<;>first|exact trivial|exact l1|skip
  refine⟨14,_,I,by simp,λ x hx y hy=>?_⟩;have hx:=List.mem_of_mem_drop (List.mem_of_mem_take hx);obtain⟨a,ha,rfl⟩:=List.mem_map.1 hx;exact(hd.el a ha).2.2 y hy
 ·rw[e];show([D.int .i64 g,.int .i64 sb,.int .i64 rg,.int .i64 0,.int .i64 3,bE,vL.fzc u,.sl ((cJ vs blocks).map (D.fz h))].all D.vone)=true
  simp only[List.all_cons,List.all_nil,N8,Z,bE,QY,Bool.and_true,Bool.and_self]
 ·rw[e];refine Wk.abc (.cons (.refl _) (.cons (.refl _) (.cons (.refl _) (.cons (.refl _) (.cons (.refl _) (.cons (.refl _) (.cons V (.cons ?_ .nil))))))));refine .sl _ _ (by simp[T]) λ i x y hx hy=>?_
  simp only[List.getElem?_map,Option.map_eq_some_iff]at hx hy;obtain⟨x,hx,rfl⟩:=hx;obtain⟨b,hb,rfl⟩:=hy
  obtain⟨v,H⟩:∃v,vs[i]?=some v:=by
   have:=(aq.1 hb).1;exact⟨vs[i]'(by rw[r.len];exact this),aG _⟩
  rw[Hj H hb]at hx;cases hx;simp only[D.fz,List.map_cons,Q3,Block.e];exact Wk.abc (.cons (Nh (r.oI i v b H hb) KA).2.2.2 .rfl)
theorem VX:aV PP qR [] (· = bE):=by
 refine bt Gk (aC _ _ _) rfl (FJ _) ?_;unfold Az;rw[fF rfl,fF rfl,fF rfl,fF rfl,fF rfl];refine⟨Hm rfl,λ _=>?_,λ n t=>?_⟩
 ·intro p hp;simp[Arg.get]at hp;rcases hp with rfl|rfl|rfl|rfl|rfl<;>(intro x hx;simp[D.cells,fillD]at hx;rcases hx with rfl|rfl|rfl|rfl<;>exact trivial)
 ·show yn _ (.ms n 0 5) (ak bP n (.arr 4 (C7.map fv.e)))
  refine WH (n:=n) (els:=C7.map fv.e) (esz:=4) (by rw[af];rfl) ?_ rfl;intro x hx y hy;obtain⟨a,-,rfl⟩:=List.mem_map.1 hx;simp[fv.e]at hy;rcases hy with rfl|rfl|rfl|rfl<;>rfl
def Zn (N:Nat) (R:Int) (l:Loop):Prop:=(∃hd:Nat,l.head=hd/\hd<N)/\(0<=l.tT/\l.tT<R)/\1<=l.bound/\l.bound<=3
structure HM (c:Code):Prop where
 group:c.group=4\/c.group=1\/c.group=2\/c.group=8\/c.group=6
 sub:c.sub=1\/c.sub=2\/c.sub=4\/c.sub=8
 dvd:c.group.tmod c.sub=0
 regs:c.regs=6+2*(c.loops.length:Int)
 slots:c.slots=0
 params:c.params=3
 arrays:c.arrays=C7
 nl:c.loops.length<=3
 loops:∀l∈c.loops,Zn c.b.length c.regs l
 nb:1<=c.b.length/\c.b.length<=18
 b:pg c.b.length c.regs c.b
def Cv (bs:List Nat):D:=.agg [EG bs]
def z8:D:=.agg [.int .i64 0,.int .i64 0,.int .i64 0,.int .i64 0,.int .i64 0,.nil,.nil,.nil]
structure Hd (g sb:Int):Prop where
 group:g=4\/g=1\/g=2\/g=8\/g=6
 sub:sb=1\/sb=2\/sb=4\/sb=8
 dvd:g.tmod sb=0
structure QN (s:MS) (bs:List Block) (q:Nat):Prop where
 hd:Hd s.group s.sub
 regs:s.regs=6+2*(s.loops.length:Int)
 nl:s.loops.length<=q
 nb:bs.length<=6*q
 loops:∀l∈s.loops,Zn bs.length s.regs l
 b:pg (bs.length+1) s.regs bs
theorem Uw {h:Heap}:Rows h [] [] .nil .nil []:=⟨Or.inl ⟨rfl,rfl⟩,Or.inl ⟨rfl,rfl⟩,rfl,λ k v b u=>by simp at u,by simp[cj,D.nR]⟩
theorem OB {h:Heap}{n k:Nat}{s:MS}{pre:List Block}{is:List aW}{q:Nat}(hs:Hd s.group s.sub) (hR:s.regs=6+2*(s.loops.length:Int)) (hl:s.loops.length<=q) (hq:q<=9) (hp:pre.length<=6*q+2) (hq2:q<=2)
  (hL:∀l∈s.loops,Zn (pre.length+1) s.regs l) (hA:pg (pre.length+1) s.regs pre) (hX:qp 6 is) (hi:is.length<=8) (r:aY h n k bE (qT s pre is mH)) (hk:k<400000) {KH:HKq}
  (hK:∀(s':MS) (pre':List Block) (h':Heap),s'.group=s.group->s'.sub=s.sub->s'.regs=6+2*(s'.loops.length:Int)->s'.loops.length<=q+1->pre'.length<=6*q+5->(∀l,l∈s'.loops->Zn (pre'.length+1) s'.regs l)->pg (pre'.length+1) s'.regs pre' ->
   aY h' n (k+100) bE (qT s' pre' [] mH)->aQ n h h'->KH (.tup []) h') :
  ag PP fC [.ptr n 0 0] h λ _ h1=>ag PP br [.ptr n 0 0] h1 KH:=by
 refine aaX r hA (hX.mono (by omega)) (by omega) (by omega) (by omega) hR (by omega) λ b bs h1 I H U G Q T=>?_
 refine Ao (bs:=bs) Q (by omega) λ h2 O S=>?_
 have u:(P4 s (pre.length+1) b).regs=s.regs+2:=by simp only[P4];omega
 refine hK (P4 s (pre.length+1) b) bs h2 rfl rfl ?_ ?_ (by omega) ?_ ?_ O (T.trans S)
 ·simp only[P4,List.length_append,List.length_singleton];omega
 ·simp only[P4,List.length_append,List.length_singleton];omega
 ·intro l hl;rw[u];simp only[P4,List.mem_append,List.mem_singleton]at hl;rcases hl with hl|rfl
  ·obtain⟨⟨hd,W,e2⟩,e3,V⟩:=hL l hl;exact⟨⟨hd,W,by omega⟩,⟨e3.1,by omega⟩,V⟩
  ·exact⟨⟨pre.length+1,rfl,by omega⟩,⟨by simp only;omega,by simp only;omega⟩,I,H⟩
 ·rw[u];exact G.mono (by omega) (by omega)
set_option maxHeartbeats 4000000 in
theorem XQ {h:Heap}{n nz k c:Nat}{s:MS}(hne:nz≠n) (hc:c<=2) (hs:QN s [] 0) (r:aY h n k bE { s with blocks:=[] }) (hk:k<=1000) (hz:h nz=.box z8){J:HJq}
  (hJ:∀(s':MS) (bs:List Block) (h':Heap),QN s' bs 2->aY h' n (k+2000) bE { s' with blocks:=bs }->h' nz=.box z8->J [] h') :
  pz (.int .i64 (c:Int)) h (.ptr nz 0 0) (.ptr n 0 0) J:=by
 dsimp only[pz,xF,xI,xL,xS,yF,yI,yL];refine⟨λ j U h'=>j<=c/\U=[.int .i64 (j:Int)]/\∃(s':MS) (bs:List Block),QN s' bs (c-j)/\aY h' n (k+1000*(c-j)) bE { s' with blocks:=bs }/\h' nz=.box z8,c,⟨Nat.le_refl _,rfl,s,[],by simpa using hs,by simpa using r,hz⟩,?_⟩;rintro j f h1 ⟨hj,hq,s1,bs,u,r1,a2⟩;simp only[av,and_true]at hq;rw[hq,zy];by_cases h0:0<j
 ·simp only[show((0:Int)<(j:Int))=True from eq_true (by omega),decide_true,↓ai];have nl:=u.nl;have nb:=u.nb;refine⟨λ U h'=>U=[]/\∃(s':MS) (bs:List Block),QN s' bs (c-(j-1))/\aY h' n (k+1000*(c-j)+1000) bE { s' with blocks:=bs }/\h' nz=.box z8,?_,?_⟩
  ·rintro g h2 ⟨-,s2,l0,e0,r2,c8⟩;rw[mz,wrap64 (by omega) (by omega)];refine⟨rfl,j-1,by omega,by omega,by congr 2;omega,s2,l0,e0,r2.le (by omega),c8⟩
  ·refine gB r1 (by omega) λ b h2 _ r2 k2=>?_
   rw[cy];refine⟨by omega,?_⟩;rw[show((b:Int).tmod 3)=((b % 3:Nat):Int) from bC b 3];have hm:b % 3<3:=Nat.mod_lt _ (by omega);refine Pc r2 u.b (by omega) (by have:=u.regs;omega) (by omega) (by omega) λ pre is h3 m9 a5 hX hi r3 k3=>?_
   have c7:=k3 nz _ hne (k2 nz _ hne a2)
   have a6:∀l∈s1.loops,Zn (pre.length+1) s1.regs l:=λ l hl=>by
    obtain⟨⟨hd,e1,e2⟩,e3⟩:=u.loops l hl;exact⟨⟨hd,e1,by omega⟩,e3⟩
   refine⟨λ U h'=>U=[]/\∃(s':MS) (H:List Block) (O:List aW),Hd s'.group s'.sub/\s'.regs=6+2*(s'.loops.length:Int)/\s'.loops.length<=(c-j)+1/\H.length<=6*(c-j)+5/\(∀l,l∈s'.loops->Zn (H.length+1) s'.regs l) /\
    pg (H.length+1) s'.regs H/\qp s'.regs O/\O.length<=8/\aY h' n (k+1000*(c-j)+500) bE (qT s' H O mH)/\h' nz=.box z8,?_,?_⟩
   ·rintro g h4 ⟨-,s4,G,W,g1,g2,g3,g4,g5,g6,g7,g8,r4,I⟩;obtain⟨o5,j4,l9,m5,e4,k0,c3,a8,-⟩:=sw r4;simp only[↓jc k0,Nat.zero_add,Nat.reduceAdd,↓cT e4 (j:=9) rfl,↓ko,c3,true_and];rw[mz,wrap64 (by omega) (by omega)];rw[show((G.length+1:Nat):Int)-1=(G.length:Int) by omega,ca,wrap64 (by omega) (by omega),fF rfl,fF rfl]
    have hT:∀(T:Term) (h':Heap),NO (G.length+2) s4.regs T->aY h' n (k+1000*(c-j)+600) bE (qT s4 G W T)->h' nz=.box z8 ->
      ∃(s':MS) (bs:List Block),QN s' bs (c-(j-1))/\aY h' n (k+1000*(c-j)+1000) bE { s' with blocks:=bs }/\h' nz=.box z8:=by
     intro T h' hT r' c9;refine⟨s4,G++[⟨W,T⟩],⟨g1,g2,by omega,by simp;omega,?_,?_⟩,r'.le (by omega),c9⟩
     ·grind
     ·simp only[List.length_append,List.length_singleton];exact(g6.mono (by omega) (by omega)).snoc ⟨g7,by simp only;omega,hT⟩
    refine a8 ⟨3,0,aF,aF,aF,(G.length:Int)+1,0⟩ λ h5 r5 k5=>?_
    have c6:=k5 nz _ hne I;refine gB r5 (by omega) λ b5 h6 _ S k6=>?_
    have Z:=k6 nz _ hne c6;rw[cy];refine⟨by omega,?_⟩;rw[show((b5:Int).tmod 3)=((b5 % 3:Nat):Int) from bC b5 3,bZ];by_cases g9:b5 % 3=0
    ·simp only[show(((b5 % 3:Nat):Int)=0)=True from eq_true (by omega),decide_true,↓ai];obtain⟨l8,m0,S⟩:=S.v;obtain⟨o4,j6,m4,o0,e6,j5,-⟩:=iY S;simp only[↓NW j5,Nat.zero_add,Nat.reduceAdd,↓aX e6 (j:=9) rfl];rw[ca,wrap64 (by omega) (by omega),lS rfl];refine Fy S (by omega) λ b7 h7 _ r7 k7=>?_
     obtain⟨o3,j7,m3,n9,e7,j3,-⟩:=iY r7;simp only[↓NW j3,Nat.zero_add,Nat.reduceAdd,↓aX e7 (j:=9) rfl,ae,true_and];rw[cy];refine⟨by omega,?_⟩;rw[show((b7:Int).tmod 6)=((b7 % 6:Nat):Int) from bC b7 6];have n2:b7 % 6<6:=Nat.mod_lt _ (by omega);rw[ca,wrap64 (by omega) (by omega)];refine Qy r7 (by omega) λ d h8 hd r8 k8=>?_
     obtain⟨o2,j8,m2,n7,e8,j2,-⟩:=iY r8;simp only[↓NW j2,Nat.zero_add,Nat.reduceAdd,↓aX e8 (j:=9) rfl,ae,true_and];refine VQ r8 (by omega) λ o h9 ho r9 k9=>?_
     obtain⟨o1,j9,m1,n5,e9,j1,-⟩:=iY r9;simp only[↓NW j1,Nat.zero_add,Nat.reduceAdd,↓aX e9 (j:=9) rfl,ae,true_and];refine VQ r9 (by omega) λ p n3 hp c2 c5=>?_
     obtain⟨l4,m7,l2,l3,k1,a7,Q⟩:=iY c2;simp only[↓NW a7,Nat.zero_add,Nat.reduceAdd,↓aX k1 (j:=9) rfl,ae,true_and];rw[lS rfl];refine Q ⟨4,1+((b7 % 6:Nat):Int),kG d,o,p,(G.length:Int)+1,0⟩ λ j0 c1 c4=>?_
     have a1:=c4 nz _ hne (c5 nz _ hne (k9 nz _ hne (k8 nz _ hne (k7 nz _ hne Z))))
     try simp only[ae,true_and]
     exact hT _ j0 (.collect _ _ _ _ (G.length+1) (by omega) ((gg hd).mono (by omega)) (ho.o.mono (by omega)) (hp.o.mono (by omega)) (by omega)) (c1.le (by omega)) a1
    ·simp only[show(((b5 % 3:Nat):Int)=0)=False from eq_false (by omega),decide_false,↓ah]
     try simp only[ae,true_and]
     exact hT _ h6 (.barrier (G.length+1) (by omega)) (S.le (by omega)) Z
   ·refine gB r3 (by omega) λ b4 h4 _ r4 k4=>?_
    have I:=k4 nz _ hne c7;rw[cy];refine⟨by omega,?_⟩;rw[show((b4:Int).tmod 3)=((b4 % 3:Nat):Int) from bC b4 3,bZ];by_cases g9:b4 % 3=0
    ·simp only[show(((b4 % 3:Nat):Int)=0)=True from eq_true (by omega),decide_true,↓ai];refine OB (q:=c-j) u.hd u.regs nl (by omega) (by omega) (by omega) a6 a5 hX hi r4 (by omega) λ s5 V h5 e1 e2 e3 e4 e5 e6 e7 r5 k5=>?_
     try simp only[ae,true_and]
     exact⟨s5,V,[],by rw[e1,e2];exact u.hd,e3,e4,e5,e6,e7,.nil,by simp,r5.le (by omega),k5 nz _ hne I⟩
    ·simp only[show(((b4 % 3:Nat):Int)=0)=False from eq_false (by omega),decide_false,↓ah]
     try simp only[ae,true_and]
     exact⟨s1,pre,is,u.hd,u.regs,by omega,by omega,a6,a5,hX.mono (by have:=u.regs;omega),hi,r4.le (by omega),I⟩
 ·simp only[show((0:Int)<(j:Int))=False from eq_false (by omega),decide_false,↓ah];have g0:j=0:=by omega
  subst g0;have s2:QN s1 bs 2:=⟨u.hd,u.regs,by have:=u.nl;omega,by have:=u.nb;omega,u.loops,u.b⟩;exact⟨rfl,hJ s1 bs h1 s2 (r1.le (by omega)) a2⟩
end Go.Am
namespace Go.Am
open Go
set_option maxHeartbeats 1000000 in
theorem XP {h:Heap}{n nz k c:Nat}{s:MS}(hc:c<=2) (hg:s.group=4\/s.group=1\/s.group=2\/s.group=8\/s.group=6) (h1:s.sub=1) (hr:s.regs=6) (hl:s.loops=[]) (r:aY h n k bE { s with blocks:=[] }) (hne:nz≠n) (hz:h nz=.box z8){J:HJq}
  (hJ:∀(s':MS) (h':Heap),Hd s'.group s'.sub->s'.regs=6->s'.loops=[]->aY h' n k bE { s' with blocks:=[] }->h' nz=.box z8->J [] h') :
  pw (.int .i64 (c:Int)) h (.ptr n 0 0) (.ptr nz 0 0) J:=by
 dsimp only[pw,xF,xL,xS,yF,yL,yP]
 refine⟨λ j V h'=>j<=c/\V=[.int .i64 (j:Int)]/\∃s':MS,Hd s'.group s'.sub/\(j=2->s'.sub=1)/\(j=1->s'.sub<=2)/\s'.regs=6/\s'.loops=[]/\aY h' n k bE { s' with blocks:=[] }/\h' nz=.box z8,c,
  ⟨Nat.le_refl _,rfl,s,⟨hg,by omega,by grind⟩,λ _=>h1,λ _=>by omega,hr,hl,r,hz⟩,?_⟩
 rintro j f h2 ⟨hj,hq,s2,hd,Z,a1,G,H,Q,u⟩;simp only[av,and_true]at hq;rw[hq,zy];obtain⟨a2,j2,S,T,e2,O,-⟩:=Rc Q;unfold dZ at e2;by_cases h0:0<j
 ·simp only[show((0:Int)<(j:Int))=True from eq_true (by omega),decide_true,↓aaH,↓NW O,Nat.zero_add,Nat.reduceAdd,↓aX e2 (j:=2) rfl,↓aX e2 (j:=3) rfl]
  have hsb:s2.sub=1\/s2.sub=2:=by
   rcases hd.sub with h|h|h|h
   ·exact Or.inl h
   ·exact Or.inr h
   ·grind
   grind
  rw[CY,wrap64 (by omega) (by omega),cy];refine⟨by omega,?_⟩;rw[bZ];by_cases I:s2.group.tmod (2*s2.sub)=0
  ·simp only[I,decide_true,↓qV,↓zN,↓ai,↓jc O,Nat.zero_add,Nat.reduceAdd,↓cT e2 (j:=3) rfl];rw[CY,wrap64 (by omega) (by omega)];refine ZG (v:=2*s2.sub) Q λ h3 U W=>?_
   rw[mz,wrap64 (by omega) (by omega)];refine⟨rfl,j-1,by omega,by omega,by congr 2;omega,{ s2 with sub:=2*s2.sub },⟨hd.group,by simp only;omega,I⟩,λ e=>by omega,λ e=>?_,G,H,U,W nz _ hne u⟩;grind
  ·simp only[I,decide_false,↓qV,↓zN,↓ah];exact⟨rfl,hJ s2 h2 hd G H Q u⟩
 ·simp only[show((0:Int)<(j:Int))=False from eq_false (by omega),decide_false,↓aaI,↓BO,↓qV,↓C2,↓ah];exact⟨rfl,hJ s2 h2 hd G H Q u⟩
theorem ldC {P:Program}{h:Heap}{KH:HKq}{n:Nat}{a b c1 c2 c3 c4 c5 c6 c7 c8:D}(e:h n=.box (.agg [a,b,c1,c2,c3,c4,c5,c6,c7,c8])):ab P (.ld (.c (.ptr n 0 2)) 8 true) h KH=KH (.agg [c1,c2,c3,c4,c5,c6,c7,c8]) h:=SJ e (by simp)
theorem stZ {P:Program}{h:Heap}{KH:HKq}{nz:Nat}{c1 c2 c3 c4 c5 c6 c7 c8:D}(e:h nz=.box z8) (ho:(D.agg [c1,c2,c3,c4,c5,c6,c7,c8]).cells.all D.one=true) :
  ab P (.st (.c (.ptr nz 0 0)) (.c (.agg [c1,c2,c3,c4,c5,c6,c7,c8])) 8) h KH=KH .undef (ak h nz (.box (.agg [c1,c2,c3,c4,c5,c6,c7,c8]))):=by
 rw[fG,e];apply propext;constructor
 ·exact λ u=>u.2.2.2.2
 ·exact λ hk=>⟨rfl,List.all_eq_true.1 ho,rfl,by simp[z8],hk⟩
theorem E5 {esz:Nat}{h:Heap}{v:D}{els:List D}(ho:Own esz h v els):v.one=true:=by
 rcases ho with⟨rfl,-⟩|⟨m,rfl,-⟩<;>rfl
set_option maxHeartbeats 4000000 in
theorem aaZ {bs:List Nat}(hb:∀b∈bs,b<=255) (hl:bs.length<=9223372036854775807):aV PP wF [Cv bs] (λ r=>∃c:Code,HM c/\r=c.e):=by
 refine aV.wk (K:=λ r=>∃c:Code,HM c/\Wk r c.e) (Mi (aI Jh (aC _ _ _) rfl (I5 _ _) ?_)) λ r hr=>by
  obtain⟨c,hc,hw⟩:=hr;exact⟨c.e,hw,rfl,c,hc,rfl⟩
 dsimp only[FF,xB,xF,xL,xS,yF,yI,yL];rw[jX];refine⟨(cF (by simp[EG]):xt (Cv bs)).one,λ n0 t0=>?_⟩;rw[fc];intro u tz;have nn:n0≠u:=tz.ne (by rw[af];simp);have a0:ak (ak bP n0 (.box (Cv bs))) u (.box z8) n0=.box (Cv bs):=by rw[aa _ _ nn,af]
 have az:ak (ak bP n0 (.box (Cv bs))) u (.box z8) u=.box z8:=af _ _ _;show ab PP _ (ak (ak bP n0 (.box (Cv bs))) u (.box z8)) _
 generalize ak (ak bP n0 (.box (Cv bs))) u (.box z8)=hA at a0 az;have h8:(hA n0).used=true:=by rw[a0];rfl
 unfold Cv at a0;simp only[↓jc h8,Nat.zero_add,↓cT a0 (j:=0) rfl]
 rw[fF rfl,show D.agg (fillD [.nil,.int .i64 0,.int .i64 0,.int .i64 0,.int .i64 0,.int .i64 0,.int .i64 0,.nil,.nil,.nil] (List.map (λ p=>(p.fst,p.snd.fst,(Arg.get [] p.snd.snd).cells)) [(0,1,Arg.c (EG bs))])) =
  .agg (EG bs::.int .i64 ((0:Nat):Int)::[.int .i64 0,.int .i64 0,.int .i64 0,.int .i64 0,.int .i64 0,.nil,.nil,.nil]) from rfl,jX]
 refine⟨List.all_eq_true.1 rfl,λ n tn=>?_⟩;have H:u≠n:=tn.ne (by rw[az];simp);have b1:ak hA n (.box (.agg (EG bs::.int .i64 ((0:Nat):Int)::[.int .i64 0,.int .i64 0,.int .i64 0,.int .i64 0,.int .i64 0,.nil,.nil,.nil]))) n=.box (.agg (EG bs::.int .i64 ((0:Nat):Int)::[.int .i64 0,.int .i64 0,.int .i64 0,.int .i64 0,.int .i64 0,.nil,.nil,.nil])):=af _ _ _;have bz:ak hA n (.box (.agg (EG bs::.int .i64 ((0:Nat):Int)::[.int .i64 0,.int .i64 0,.int .i64 0,.int .i64 0,.int .i64 0,.nil,.nil,.nil]))) u=.box z8:=by grind [aa]
 show an PP _ (ak hA n (.box (.agg (EG bs::.int .i64 ((0:Nat):Int)::[.int .i64 0,.int .i64 0,.int .i64 0,.int .i64 0,.int .i64 0,.nil,.nil,.nil])))) _
 generalize ak hA n (.box (.agg (EG bs::.int .i64 ((0:Nat):Int)::[.int .i64 0,.int .i64 0,.int .i64 0,.int .i64 0,.int .i64 0,.nil,.nil,.nil])))=hB at b1 bz
 have e8:∀{Q:D->Prop},an PP (.bldS false 1 5 (.int .i64 0) [(0,(.c (.int .i64 4))),(1,(.c (.int .i64 1))),(2,(.c (.int .i64 2))),(3,(.c (.int .i64 8))),(4,(.c (.int .i64 6)))]) hB Q=Q (.sl [.int .i64 4,.int .i64 1,.int .i64 2,.int .i64 8,.int .i64 6]):=by
  intro Q;apply propext;constructor
  ·exact λ hh=>hh.2.2.2
  ·intro hq;refine⟨Hm rfl,?_,by simp,hq⟩;intro p hp;simp[Arg.get]at hp;rcases hp with rfl|rfl|rfl|rfl|rfl<;>simp
 simp only[e8];refine NC b1 hb hl (by omega) λ b j8=>?_
 have c1:=af hB n (.box (.agg (EG bs::.int .i64 ((0+1:Nat):Int)::[.int .i64 0,.int .i64 0,.int .i64 0,.int .i64 0,.int .i64 0,.nil,.nil,.nil])));have cz:ak hB n (.box (.agg (EG bs::.int .i64 ((0+1:Nat):Int)::[.int .i64 0,.int .i64 0,.int .i64 0,.int .i64 0,.int .i64 0,.nil,.nil,.nil]))) u=.box z8:=by grind [aa]
 generalize ak hB n (.box (.agg (EG bs::.int .i64 ((0+1:Nat):Int)::[.int .i64 0,.int .i64 0,.int .i64 0,.int .i64 0,.int .i64 0,.nil,.nil,.nil])))=hC at c1 cz;rw[cy];refine⟨by omega,?_⟩;rw[show((b:Int).tmod 5)=((b % 5:Nat):Int) from bC b 5]
 obtain⟨g,hg,c9⟩:∃g:Int,([.int .i64 4,.int .i64 1,.int .i64 2,.int .i64 8,.int .i64 6]:List D)[b % 5]?=some (.int .i64 g)/\(g=4\/g=1\/g=2\/g=8\/g=6):=by
  grind
 have hi:∀{Q:D->Prop},an PP (.iadd (.c (.sl [.int .i64 4,.int .i64 1,.int .i64 2,.int .i64 8,.int .i64 6])) (.c (.int .i64 ((b % 5:Nat):Int))) 1) hC Q=Q (.vp (.int .i64 g) 0):=by
  intro Q;rw[eD,jq,aT,hg];apply propext;constructor
  ·grind
  ·intro hq;exact⟨by omega,by simp;omega,λ d hd=>by cases hd;exact⟨rfl,hq⟩⟩
 have c8:∀{Q:D->Prop},an PP (.ld (.c (.vp (.int .i64 g) 0)) 1 false) hC Q=Q (.int .i64 g):=λ {Q}=>by rw[fB,kH,bg];rfl
 simp only[↓hi,↓c8];refine M6 VX trivial ?_;have g9:(hC n).used=true:=by rw[c1];rfl
 rw[lS rfl];simp only[↓NW g9,Nat.zero_add];rw[fG,c1];refine⟨rfl,?_,rfl,by simp,?_⟩
 ·intro x hx;simp[fillD,D.cells,Arg.get,bE]at hx;rcases hx with rfl|rfl|rfl|rfl|rfl|rfl|rfl|rfl<;>rfl
 have es:setCells (.agg (EG bs::.int .i64 ((0+1:Nat):Int)::[.int .i64 0,.int .i64 0,.int .i64 0,.int .i64 0,.int .i64 0,.nil,.nil,.nil])) 2 (D.agg (fillD [.int .i64 0,.int .i64 0,.int .i64 0,.int .i64 0,.int .i64 0,.nil,.nil,.nil] (List.map (λ p=>(p.fst,p.snd.fst,(Arg.get [] p.snd.snd).cells)) [(0,1,Arg.c (.int .i64 g)),(1,1,Arg.c (.int .i64 1)),(2,1,Arg.c (.int .i64 6)),(4,1,Arg.c (.int .i64 3)),(5,1,Arg.c bE)]))).cells =
   dZ bs 1 bE ⟨g,1,6,[],[]⟩ .nil .nil:=rfl
 rw[es];have r0:aY (ak hC n (.box (dZ bs 1 bE ⟨g,1,6,[],[]⟩ .nil .nil))) n 1 bE { (⟨g,1,6,[],[]⟩:MS) with blocks:=[] }:=⟨bs,1,.nil,.nil,[],hb,hl,Nat.le_refl _,af _ _ _,Uw⟩;have dz:ak hC n (.box (dZ bs 1 bE ⟨g,1,6,[],[]⟩ .nil .nil)) u=.box z8:=by grind [aa]
 generalize ak hC n (.box (dZ bs 1 bE ⟨g,1,6,[],[]⟩ .nil .nil))=hD at r0 dz;refine⟨λ qs h'=>qs=[]/\∃s:MS,Hd s.group s.sub/\s.regs=6/\s.loops=[]/\aY h' n 10 bE { s with blocks:=[] }/\h' u=.box z8,?_,?_⟩
 ·rintro f1 h1 ⟨-,s1,e0,c7,a6,r1,z1⟩;refine⟨λ qs h'=>qs=[]/\∃(s':MS) (bs:List Block),QN s' bs 2/\aY h' n 3000 bE { s' with blocks:=bs }/\h' u=.box z8,?_,?_⟩
  ·rintro f2 h2 ⟨-,s2,k9,G,r2,z2⟩;have nl:=G.nl;have nb:=G.nb;refine gB r2 (by omega) λ b3 h3 _ r3 k3=>?_
   rw[cy];refine⟨by omega,?_⟩;rw[show((b3:Int).tmod 3)=((b3 % 3:Nat):Int) from bC b3 3];have hm:b3 % 3<3:=Nat.mod_lt _ (by omega);refine Pc r3 G.b (by omega) (by have:=G.regs;omega) (by omega) (by omega) λ pre is h4 j4 a2 hX a7 r4 k4=>?_
   have z4:=k4 u _ H (k3 u _ H z2)
   have a8:∀l∈s2.loops,Zn (pre.length+1) s2.regs l:=λ l hl=>by
    obtain⟨⟨hd,e1,e2⟩,e3⟩:=G.loops l hl;exact⟨⟨hd,e1,by omega⟩,e3⟩
   refine⟨λ qs h'=>qs=[]/\∃(s':MS) (I:List Block) (a1:List aW),Hd s'.group s'.sub/\s'.regs=6+2*(s'.loops.length:Int)/\s'.loops.length<=3/\I.length<=17/\(∀l,l∈s'.loops->Zn (I.length+1) s'.regs l) /\
    pg (I.length+1) s'.regs I/\qp s'.regs a1/\a1.length<=8/\aY h' n 9000 bE (qT s' I a1 mH)/\h' u=.box z8,?_,?_⟩
   ·rintro f5 h5 ⟨-,S,T,j3,g1,g2,g3,g4,g5,g6,g7,g8,r5,z5⟩;obtain⟨j1,c2,r5⟩:=r5.v;obtain⟨k8,j5,j2,j9,e5,g0,c3⟩:=iY r5
    have c4:∀{Q:D->Prop},bq c2 h5 Q=Q (.int .i64 ((T.length+1:Nat):Int)):=by
     intro Q;obtain⟨_,_,vs,_,_,_,q4,V⟩:=r5.st;rw[Rj V.oB,lR V.len];simp[qT]
    simp only[↓NW g0,Nat.zero_add,Nat.reduceAdd,↓aX e5 (j:=9) rfl,c4];rw[mz,wrap64 (by omega) (by omega),lS rfl,show((T.length+1:Nat):Int)-1=(T.length:Int) by omega];refine c3 ⟨5,0,aF,aF,aF,0,0⟩ λ h6 r6 k6=>?_
    have z6:=k6 u _ H z5;obtain⟨k0,j6,W,Z,j0,q1,q2,q3,q4,V⟩:=r6.st;have e9:(h6 n).used=true:=by rw[q4];rfl
    unfold dZ at q4;simp only[↓jc e9,Nat.zero_add,Nat.reduceAdd,↓ldC q4];have o1:=E5 V.oL;have o2:=E5 V.oB;rw[stZ z6 (by simp[D.cells,o1,o2,bE])]
    have a5:=eR (P:=PP) (KH:=λ U _=>∃O,NT (ak h6 u (.box (.agg [.int .i64 S.group,.int .i64 S.sub,.int .i64 S.regs,.int .i64 0,.int .i64 3,bE,W,Z]))) O/\lD U/\yb O U/\(U.fzt O).JR=true/\∃c:Code,HM c/\Wk (U.fzt O) c.e)
     (af h6 u (.box (.agg [.int .i64 S.group,.int .i64 S.sub,.int .i64 S.regs,.int .i64 0,.int .i64 3,bE,W,Z])))
    refine a5.mpr ?_;have rr:=V.box z6 (.box (.agg [.int .i64 S.group,.int .i64 S.sub,.int .i64 S.regs,.int .i64 0,.int .i64 3,bE,W,Z]));obtain⟨O,i1,i2,i3,i4,i5⟩:=UR rr (by simp[qT]) S.group S.sub S.regs;refine⟨O,i1,i2,i3,i4,_,?_,i5⟩;refine⟨g1.group,g1.sub,g1.dvd,g2,rfl,rfl,rfl,g3,?_,?_,?_⟩
    ·grind [qT]
    ·grind [qT]
    ·simp only[qT,List.length_append,List.length_singleton];exact g6.snoc ⟨g7,by simp only;omega,.exit⟩
   ·refine gB r4 (by omega) λ b5 h5 _ r5 k5=>?_
    have z5:=k5 u _ H z4;rw[cy];refine⟨by omega,?_⟩;rw[show((b5:Int).tmod 3)=((b5 % 3:Nat):Int) from bC b5 3,bZ];by_cases j7:b5 % 3=0
    ·simp only[show(((b5 % 3:Nat):Int)=0)=True from eq_true (by omega),decide_true,↓ai];refine OB (q:=2) G.hd G.regs nl (by omega) (by omega) (by omega) a8 a2 hX a7 r5 (by omega) λ s6 pre6 h6 e1 e2 e3 e4 e5 e6 e7 r6 k6=>?_
     refine JK r6 (e7.bnd (by omega) (by simp)) (by omega) λ xs h7 c5 c6 r7 k7=>?_
     try simp only[ae,true_and]
     exact⟨s6,pre6,xs,by rw[e1,e2];exact G.hd,e3,e4,by omega,e6,e7,c5.mono (by omega),c6,r7.le (by omega),k7 u _ H (k6 u _ H z5)⟩
    ·simp only[show(((b5 % 3:Nat):Int)=0)=False from eq_false (by omega),decide_false,↓ah]
     try simp only[ae,true_and]
     exact⟨s2,pre,is,G.hd,G.regs,by omega,by omega,a8,a2,hX.mono (by have:=G.regs;omega),a7,r5.le (by omega),z5⟩
  ·refine gB r1 (by omega) λ b2 h2 _ r2 k2=>?_
   have z2:=k2 u _ H z1;rw[cy];refine⟨by omega,?_⟩;rw[show((b2:Int).tmod 3)=((b2 % 3:Nat):Int) from bC b2 3];have hm:b2 % 3<3:=Nat.mod_lt _ (by omega);refine XQ H (by omega) ⟨e0,by rw[c7,a6];rfl,by rw[a6];simp,by simp,(by grind),pg.nil⟩ r2 (by omega) z2 λ s' h9 h' q1 q2 q3=>⟨rfl,s',h9,q1,q2.le (by omega),q3⟩
 ·refine gB r0 (by omega) λ b1 h1 _ r1 k1=>?_
  have z1:=k1 u _ H dz;rw[cy];refine⟨by omega,?_⟩;rw[show((b1:Int).tmod 3)=((b1 % 3:Nat):Int) from bC b1 3];have hm:b1 % 3<3:=Nat.mod_lt _ (by omega);exact XP (by omega) c9 rfl rfl rfl r1 H z1 λ s' h' q1 q2 q3 q4 V=>⟨rfl,s',q1,q2,q3,q4.le (by omega),V⟩
end Go.Am
namespace Go.Am
open Go
abbrev qF (n:Int):Int:=IntKind.i32.wrap n
abbrev mm (n:Int):Prop:=-2147483648<=n/\n<=2147483647
theorem PJ {n:Int}(h:mm n):IntKind.i64.wrap n=n:=wrap64 (by have:=h.1;omega) (by have:=h.2;omega)
def YP (s a:Int):Int :=
 if s=3 then(if 0<=a then a else qF (0-a)) else if s=1 then qF (0-a) else if s=2 then ibits .xor .i32 (-1) a else if s=4 then Kz .i32 a 16 else Ky .i32 a 16
theorem Xj (b:Bool):aV PP cN [.bool b] (· = .int .i32 (if b then 1 else 0)):=by
 refine bt Gc (aC _ _ _) rfl (FB _ _) ?_;unfold As;cases b<;>simp[↓ai,↓ah,↓jM]
theorem dX {k k':IntKind}{a b:Int}{h:Heap}{K:D->Prop}:yn K (.tup [.int k a,.int k' b]) h=K (.tup [.int k a,.int k' b]):=by
 apply propext;refine⟨λ h=>?_,λ hk=>⟨λ x hx=>?_,λ x hx=>?_,?_,?_⟩⟩
 ·have:=h.2.2.2;simpa[D.fzt,D.fz,D.fzc] using this
 ·simp at hx;rcases hx with rfl|rfl<;>exact λ y hy=>by simp[D.cells]at hy;subst hy;rfl
 ·simp at hx;rcases hx with rfl|rfl<;>exact λ y hy=>by simp[D.cells]at hy;subst hy;trivial
 ·simp[D.fzt,D.fz,D.fzc,D.JR,D.vd,D.vone]
 ·simpa[D.fzt,D.fz,D.fzc] using hk
theorem adr {s a:Int}(hs:1<=s/\s<=5):aV PP zO [.int .i64 s,.int .i32 a] (· = .tup [.int .i32 (YP s a),.int .i64 0]):=by
 refine bt Lz (aC _ _ _) rfl (Lm _ _ _) ?_;unfold Ic;refine⟨λ _ _=>False,λ _ _ h=>h.elim,?_⟩;refine⟨λ _ _=>s=1\/(s=3/\¬0<=a),λ _ G u=>?_,?_⟩
 ·simp only[↓TO,dX];rcases u with rfl|⟨rfl,h⟩
  ·rfl
  ·simp[YP,h]
 ·have:s=1\/s=2\/s=3\/s=4\/s=5:=by omega
  rcases this with rfl|rfl|rfl|rfl|rfl
  ·simp[↓bZ,↓ai,↓ah,ae]
  ·simp[↓bZ,↓ai,↓ah,↓YO,dX,YP];rfl
  ·by_cases h:0<=a
   ·simp[↓bZ,↓ai,↓ah,↓EL,h,dX,YP]
   ·simp[↓bZ,↓ai,↓ah,↓EL,h,ae]
  ·simp[↓bZ,↓ai,↓ah,↓Oc,dX,YP]
  ·simp[↓bZ,↓ai,↓ah,↓QZ,dX,YP]
def Xg (a b:Int):Int:=if b=0 then 0 else qF (a.tdiv b)
def W5 (a b:Int):Int:=if b=0 then a else a.tmod b
theorem WO {a b:Int}(ha:mm a) (hb:b≠0) : -2147483648<=a.tdiv b/\a.tdiv b<=2147483648:=by
 have h1:(a.tdiv b).natAbs<=a.natAbs:=by rw[Int.natAbs_tdiv];exact Nat.div_le_self _ _
 have:=ha.1;have:=ha.2;omega
theorem Q0 {a b:Int}(ha:mm a):mm (a.tmod b):=by
 have h1:(a.tmod b).natAbs<=a.natAbs:=by rw[Int.natAbs_tmod];exact Nat.mod_le _ _
 have h2:0<=a->0<=a.tmod b:=λ h=>Int.tmod_nonneg b h
 have h3:a<=0->a.tmod b<=0:=λ h=>by
  have:=Int.tmod_nonneg b (show 0 <= -a by omega);rw[Int.neg_tmod]at this;omega
 have:=ha.1;have:=ha.2;unfold mm;omega
theorem abw {n:Int}(h:mm n):qF n=n:=by
 unfold qF IntKind.wrap;simp only[IntKind.signed,IntKind.bits];have:=h.1;have:=h.2;simp;omega
theorem ab1 {a b:Int}(ha:mm a) (hb:mm b):aV PP mI [.int .i32 a,.int .i32 b] (· = .tup [.int .i32 (Xg a b),.int .i32 (W5 a b)]):=by
 refine bt Bk (aC _ _ _) rfl (At _ _ _) ?_;dsimp only[sG,xC,yC];by_cases h:b=0
 ·simp[↓bZ,↓ai,h,dX,Xg,W5]
 ·have h1:=WO ha h;have h2:=Q0 (b:=b) ha;have u:IntKind.i64.wrap (a.tdiv b)=a.tdiv b:=wrap64 (by omega) (by omega);simp[↓bZ,↓ah,h,↓eZ,PJ ha,PJ hb,↓ss,↓cy,u,↓Ag,dX,Xg,W5,abw h2]
def Aq (a b:Int):Int:=if(if b<0 then 0<a.tmod b else a.tmod b<0) then a.tdiv b-1 else a.tdiv b
theorem Xl {a b:Int}(hb:b≠0) (ha : -4611686018427387904<=a/\a<=4611686018427387904):aV PP qN [.int .i64 a,.int .i64 b] (· = .int .i64 (Aq a b)):=by
 refine bt Gd (aC _ _ _) rfl (FC _ _ _) ?_;dsimp only[Au,xP];have hq:(a.tdiv b).natAbs<=a.natAbs:=by rw[Int.natAbs_tdiv];exact Nat.div_le_self _ _
 have H:IntKind.i64.wrap (a.tdiv b)=a.tdiv b:=wrap64 (by omega) (by omega);have u:IntKind.i64.wrap (a.tdiv b-1)=a.tdiv b-1:=wrap64 (by omega) (by omega);simp only[↓ss,↓cy,H,true_and];refine⟨hb,hb,λ l _=>l=[.int .i64 (Aq a b)],λ f h G=>?_,?_⟩
 ·simp at G;rw[G,jM]
 ·by_cases h0:a.tmod b=0
  ·simp[↓mA,h0,gS,ae,Aq]
  ·by_cases h1:a.tmod b<0
   ·by_cases h2:b<0
    ·have h3:¬0<a.tmod b:=by omega
     simp[↓mA,h0,gS,↓fK,h1,h2,↓MB,veqv,eqCells,D.isAgg,aD,D.cells,D.one,ae,Aq,h3]
    ·simp[↓mA,h0,gS,↓fK,h1,h2,↓MB,veqv,eqCells,D.isAgg,aD,D.cells,D.one,↓mz,u,ae,Aq]
   ·by_cases h2:b<0
    ·have h3:0<a.tmod b:=by omega
     simp[↓mA,h0,gS,↓fK,h1,h2,↓MB,veqv,eqCells,D.isAgg,aD,D.cells,D.one,↓mz,u,ae,Aq,h3]
    ·simp[↓mA,h0,gS,↓fK,h1,h2,↓MB,veqv,eqCells,D.isAgg,aD,D.cells,D.one,ae,Aq]
def Yp (s a b:Int):Bool:=if s=24 then decide (a=b) else if s=25 then !decide (a=b) else if s=26 then decide (a<b) else if s=27 then decide (a<=b) else if s=28 then decide (b<a) else decide (b<=a)
def b01 (b:Bool):Int:=if b then 1 else 0
theorem ab2 {s a b:Int}(hs:24<=s/\s<=29):aV PP ky [.int .i64 s,.int .i32 a,.int .i32 b] (· = .tup [.int .i32 (b01 (Yp s a b)),.int .i64 0]):=by
 refine bt CQ (aC _ _ _) rfl (CG _ _ _ _) ?_;unfold ve
 have go:∀(x:Bool),ag PP cN [.bool x] bP λ G u=>yn (· = .tup [.int .i32 (b01 x),.int .i64 0]) (.tup [G,.int .i64 0]) u:=by
  intro x;refine bk (Xj x) (by simp[D.vd,D.vone,aD,D.cells,D.one]) ?_;rintro _ rfl;rw[dX];rfl
 have:s=24\/s=25\/s=26\/s=27\/s=28\/s=29:=by omega
 rcases this with rfl|rfl|rfl|rfl|rfl|rfl
 all_goals simp[↓bZ,↓mA,↓fK,↓Oe,↓zy,↓EL,↓ai,↓ah,Yp]
 all_goals exact go _
theorem acN (b:Int):ibits .and .i32 b 31=b % 32:=by
 have u:(BitVec.ofInt 32 31).toNat=31:=by decide
 show IntKind.i32.wrap ((BitVec.ofInt 32 b &&& BitVec.ofInt 32 31).toNat:Int)=_
 rw[BitVec.toNat_and,BitVec.toNat_ofInt,u,show(31:Nat)=2 ^ 5-1 by decide,Nat.and_two_pow_sub_one_eq_mod];have h:qF (((b % 4294967296).toNat % 2 ^ 5:Nat):Int)=(((b % 4294967296).toNat % 2 ^ 5:Nat):Int):=abw ⟨by omega,by omega⟩;have h':=h;unfold qF at h';show IntKind.i32.wrap (((b % ((2 ^ 32:Nat):Int)).toNat % 2 ^ 5:Nat):Int)=_
 rw[show(((2 ^ 32:Nat):Int))=4294967296 by decide,h'];omega
theorem aam {a b:Int}(ha:mm a) (hb:mm b) : -4611686018427387904<=a*b/\a*b<=4611686018427387904:=by
 have h:(a*b).natAbs<=2147483648*2147483648:=by
  rw[Int.natAbs_mul];exact Nat.mul_le_mul (by have:=ha.1;have:=ha.2;omega) (by have:=hb.1;have:=hb.2;omega)
 omega
def Pj (s a b:Int):Int :=
 if s=10 then qF (a+b) else if s=11 then qF (a-b) else if s=12 then qF (a*b) else if s=13 then Xg a b else if s=14 then W5 a b
 else if s=15 then qF ((a*b).fdiv 65536) else if s=16 then(if b=0 then 0 else qF (Aq (a*65536) b))
 else if s=17 then ibits .and .i32 a b else if s=18 then ibits .or .i32 a b else if s=19 then ibits .xor .i32 a b
 else if s=20 then Kz .i32 a (b % 32) else if s=21 then Ky .i32 a (b % 32) else if s=22 then(if b<a then b else a) else if s=23 then(if a<b then b else a)
 else b01 (Yp s a b)
theorem Y0 {s a b:Int}(hs:10<=s/\s<=29) (ha:mm a) (hb:mm b):aV PP qh [.int .i64 s,.int .i32 a,.int .i32 b] (· = .tup [.int .i32 (Pj s a b),.int .i64 0]):=by
 refine bt Jg (aC _ _ _) rfl (I4 _ _ _ _) ?_;dsimp only[FD,xC];simp only[↓eZ,PJ ha,PJ hb];refine bk (ab1 ha hb) (by simp[D.vd,D.vone,aD,D.cells,D.one]) ?_;rintro _ rfl;simp only[↓h_ext,List.getElem?_cons_zero,List.getElem?_cons_succ];have Q:=acN b;have Z:=aam ha hb;have V:IntKind.i64.wrap (a*b)=a*b:=wrap64 (by omega) (by omega)
 have s1:Kz .i64 a 16=a*65536:=by
  unfold Kz;have:a*2 ^ (min (16:Int).toNat IntKind.i64.bits)=a*65536:=by rfl
  rw[this,wrap64 (by have:=ha.1;omega) (by have:=ha.2;omega)]
 have s2:Ky .i64 (a*b) 16=(a*b).fdiv 65536:=rfl;have W:0<=b % 32:=Int.emod_nonneg _ (by omega)
 have go:∀(h:Heap),24<=s->ag PP ky [.int .i64 s,.int .i32 a,.int .i32 b] h λ u O=>ab PP (.ext (.c u) 0) O λ U I=>ab PP (.ext (.c u) 1) I λ T H=>yn (· = .tup [.int .i32 (b01 (Yp s a b)),.int .i64 0]) (.tup [U,T]) H:=by
  intro h G;refine bk (ab2 ⟨G,hs.2⟩) (by simp[D.vd,D.vone,aD,D.cells,D.one]) ?_;rintro _ rfl;simp only[↓h_ext,List.getElem?_cons_zero,List.getElem?_cons_succ];simp[dX]
 have:s=10\/s=11\/s=12\/s=13\/s=14\/s=15\/s=16\/s=17\/s=18\/s=19\/s=20\/s=21\/s=22\/s=23\/24<=s:=by omega
 rcases this with rfl|rfl|rfl|rfl|rfl|rfl|rfl|rfl|rfl|rfl|rfl|rfl|rfl|rfl|S
 case inr.inr.inr.inr.inr.inr.inl =>
  by_cases h0:b=0
  ·simp[↓bZ,↓ai,↓ah,h0,dX,Pj]
  ·simp only[↓bZ,↓ai,↓ah,↓Oc,s1,h0,true_and,decide_true,decide_false,Int.reduceEq];refine⟨by omega,?_⟩;refine bk (Xl h0 (by have:=ha.1;have:=ha.2;omega)) (by simp[D.vd,D.vone,aD,D.cells,D.one]) ?_;rintro _ rfl;simp[↓eZ,dX,Pj,h0]
 case inr.inr.inr.inr.inr.inr.inr.inr.inr.inr.inr.inr.inr.inr =>
  have:s≠10/\s≠11/\s≠12/\s≠13/\s≠14/\s≠15/\s≠16/\s≠17/\s≠18/\s≠19/\s≠20/\s≠21/\s≠22/\s≠23:=by omega
  obtain⟨t1,t2,t3,t4,t5,t6,t7,t8,t9,t10,t11,t12,t13,t14⟩:=this;simp[↓bZ,↓ah,t1,t2,t3,t4,t5,t6,t7,t8,t9,t10,t11,t12,t13,t14,Pj];exact go _ S
 all_goals simp[↓bZ,↓ai,↓ah,↓ca,↓mz,↓CY,↓Mj,↓WK,↓YN,↓Oc,↓QZ,↓SR,↓Yb,↓eZ,Q,V,s1,s2,W,dX,Pj]
variable [ck]
variable {P:Program}{KH:HKq}{K:D->Prop}{l:LH}
theorem Ps {d:D}:aD d=(d.cells.all D.one=true):=by
 apply propext;exact(List.all_eq_true).symm
theorem z7 {d:D}(hn:l.nf) (hd:d.cells.all D.one=true):ab P (.box (.c d)) l.h KH=KH (.ptr l.length 0 0) (LH.h (l++[.box d])):=by
 grind [acb,Ps]
end Go.Am
namespace Go.Am
open Go
theorem bd3 {d:D}(h:d.vone=true):d.vd=true/\aD d:=by
 cases d<;>first|(exact⟨rfl,λ x hx=>by simp[D.cells]at hx;subst hx;rfl⟩)|(simp[D.vone]at h)
theorem Ko {ds:List D}(h:ds.all D.vone=true):∀d∈ds,d.vd=true/\aD d:=λ d hd=>bd3 (List.all_eq_true.1 h d hd)
theorem Rx {a m:Int}(ha:mm a) (hm:1<=m):mm (a.fdiv m):=by
 rw[Int.fdiv_eq_ediv_of_nonneg a (by omega)];have:=ha.1;have:=ha.2;by_cases h:0<=a
 ·have h1:=Int.ediv_nonneg h (show 0<=m by omega);have h2:=Int.ediv_le_self m h;exact⟨by omega,by omega⟩
 ·have h1:=Int.ediv_neg_of_neg_of_pos (show a<0 by omega) (show 0<m by omega)
  have h2:a<=a / m:=(Int.le_ediv_iff_mul_le (show 0<m by omega)).2 (by
   have:=Int.mul_le_mul_of_nonpos_left (show a<=0 by omega) hm
   omega)
  exact⟨by omega,by omega⟩
theorem nf0:LH.nf []:=by simp
structure bG where
 groups:Int
 args:List Int
def bG.e (l:bG):D:=.agg [.int .i64 l.groups,words l.args]
theorem Code.on (c:Code):c.e.cells.all D.one=true:=rfl
theorem bG.on (l:bG):l.e.cells.all D.one=true:=rfl
theorem ads {c:Code}{i:Int}(hg:1<=c.group) (hi:0<=i/\i<=1000000):aV PP zQ [c.e,.int .i64 i] (· = .tup [.int .i64 (i.tdiv c.group),.int .i64 (i.tmod c.group)]):=by
 refine bt LF (aC _ _ _) rfl (Ls _ _ _) ?_;dsimp only[Ih,xB,yF,yL];have hq:(i.tdiv c.group).natAbs<=i.natAbs:=by rw[Int.natAbs_tdiv];exact Nat.div_le_self _ _
 have u:IntKind.i64.wrap (i.tdiv c.group)=i.tdiv c.group:=wrap64 (by omega) (by omega);have h0:c.group≠0:=by omega
 rw[lN,z7 nf0 (Code.on c)];simp[↓bw,BT,↓fB,h_ldp,Code.e,↓bg,↓ss,↓cy,u,h0,D.cells];exact dX.mpr rfl
def idP (g sb n item s:Int):Int :=
 if s=1 then item else if s=2 then item.tmod g else if s=3 then item.tdiv g else if s=4 then n*g else if s=5 then g else if s=6 then(item.tmod g).tmod sb else(item.tmod g).tdiv sb
theorem kL (c:Code):c.e.vd=true/\aD c.e:=⟨rfl,List.all_eq_true.1 (Code.on c)⟩
theorem dT {k:IntKind}{n:Int}:(D.int k n).vd=true/\aD (D.int k n):=bd3 rfl
theorem ZD {c:Code}{n:Int}:∀d,d∈[c.e,D.int .i64 n]->d.vd=true/\aD d:=λ d hd=>by
 simp at hd;rcases hd with rfl|rfl
 ·exact kL c
 ·exact dT
structure abl (c:Code) (l:bG) (item:Int):Prop where
 g:1<=c.group/\c.group<=64
 s:1<=c.sub/\c.sub<=64
 n:1<=l.groups/\l.groups<=64
 i:0<=item/\item<l.groups*c.group
theorem gm {c:Code}{l:bG}{item:Int}(h:abl c l item):l.groups*c.group<=4096:=by
 have h1:l.groups*c.group<=64*c.group:=Int.mul_le_mul_of_nonneg_right h.n.2 (by have:=h.g.1;omega);have:=h.g.2;omega
theorem adt {c:Code}{l:bG}{item s:Int}(h:abl c l item) (hs:1<=s/\s<=7):aV PP zR [c.e,l.e,.int .i64 item,.int .i64 s] (· = .tup [.int .i32 (qF (idP c.group c.sub l.groups item s)),.int .i64 0]):=by
 refine bt LG (aC _ _ _) rfl (Lt _ _ _ _ _) ?_;dsimp only[Ii,xB,xC,xF,xL,xP];have S:=gm h;have:=h.i.1;have:=h.i.2;have:=h.g.1;have:=h.s.1;have:=h.g.2;have:=h.n.1;have O:IntKind.i64.wrap (l.groups*c.group)=l.groups*c.group:=wrap64 (by omega) (by omega)
 have hq:((item.tmod c.group).tdiv c.sub).natAbs<=item.natAbs:=by
  rw[Int.natAbs_tdiv,Int.natAbs_tmod];exact Nat.le_trans (Nat.div_le_self _ _) (Nat.mod_le _ _)
 have I:IntKind.i64.wrap ((item.tmod c.group).tdiv c.sub)=(item.tmod c.group).tdiv c.sub:=wrap64 (by omega) (by omega);have n0:¬item<0:=by omega
 have n1:¬l.groups*c.group<=item:=by omega
 have Q:c.sub≠0:=by omega
 rw[lN,z7 nf0 (Code.on c)];simp only[List.nil_append,List.length_nil];rw[z7 (by simp) (bG.on l)];obtain⟨H,u⟩:∃H,H=LH.h ([Slot.box c.e]++[Slot.box l.e]):=⟨_,rfl⟩;have a0:H 0=.box c.e:=by rw[u];rfl
 have T:H 1=.box l.e:=by rw[u];rfl
 rw[<- u];simp only[List.length_singleton,↓wU,a0,T,Slot.used,true_and,↓kT,Code.e,bG.e,↓bg,fZ,Nat.zero_add,List.getElem?_cons_zero,List.getElem?_cons_succ,↓CY,O,↓fK,n0,decide_false,↓gS,↓EL,n1];rw[iJ];refine⟨by simp,?_⟩;refine bk (ads h.g.1 ⟨h.i.1,by omega⟩) ZD ?_;rintro _ rfl;simp only[↓h_ext,List.getElem?_cons_zero,List.getElem?_cons_succ];refine⟨λ x _=>x=[.int .i64 (idP c.group c.sub l.groups item s)],λ f h2 G=>?_,?_⟩
 ·simp only[av,and_true]at G;rw[G];simp[↓eZ,dX]
 ·have:s=1\/s=2\/s=3\/s=4\/s=5\/s=6\/s=7:=by omega
  rcases this with rfl|rfl|rfl|rfl|rfl|rfl|rfl
  all_goals simp[↓bZ,↓gS,a0,Code.e,D.cells,ae,idP,↓cy,↓ss,I,Q]
def A3 (h:Heap) (d:D) (l:List Int):Prop:=d=words l\/∃n,d=.ms n 0 l.length/\h n=.arr 1 (l.map (.int .i32))
theorem A3.one {h:Heap}{d:D}{l:List Int}(r:A3 h d l):d.one=true:=by
 rcases r with rfl|⟨n,rfl,_⟩<;>rfl
theorem A3.ext {h h':Heap}{d:D}{l:List Int}(x:Ext h h') (r:A3 h d l):A3 h' d l:=by
 rcases r with rfl|⟨n,rfl,hn⟩
 ·exact Or.inl rfl
 ·exact Or.inr ⟨n,rfl,by rw[x n (by rw[hn];simp)];exact hn⟩
theorem T8 {P:Program}{h:Heap}{d:D}{l:List Int}(r:A3 h d l){i:Nat}{v:Int}(hi:l[i]?=some v){KH:HKq}(hK:KH (.int .i32 v) h) :
  ab P (.iadd (.c d) (.c (.int .i64 (i:Int))) 1) h λ a h1=>ab P (.ld (.c a) 1 false) h1 KH:=by
 have u:=(aq.1 hi).1;rcases r with rfl|⟨n,rfl,hn⟩
 ·simp only[words,↓jq,aE];refine⟨by omega,by omega,λ x hx=>?_⟩
  have:x=.int .i32 v:=by
   rw[List.getElem?_map,show((i:Int)).toNat=i by omega,hi]at hx;simpa using hx.symm
  subst this;refine⟨rfl,?_⟩;simp only[↓kH,↓bg,lV,List.getElem?_cons_zero];exact hK
 ·simp only[↓cv,hn,Slot.row];refine⟨by omega,by omega,⟨_,rfl⟩,?_⟩;rw[kT,hn];refine⟨by simp;omega,λ x hx=>?_⟩
  have:x=.int .i32 v:=by
   rw[List.getElem?_map,show 0+((i:Int)).toNat=i by omega,hi]at hx;simpa using hx.symm
  subst this;simp only[↓bg,lV,List.getElem?_cons_zero];exact hK
def bN (regs:List Int) (o:fQ):Int:=if o.kind=2 then regs.getD o.n.toNat 0 else o.v
theorem jH.cases {R:Int}{o:fQ}(h:jH R o):(∃r:Nat,(r:Int)<R/\o=⟨2,(r:Int),0⟩)\/∃v:Int,mm v/\o=⟨1,0,v⟩:=by
 rcases h with⟨r,h1,h2,rfl⟩|⟨v,h1,h2,rfl⟩
 ·exact Or.inl ⟨r.toNat,by omega,by simp[kG];omega⟩
 ·exact Or.inr ⟨v,⟨h1,h2⟩,rfl⟩
def CP (R:Int) (o:fQ):Prop:=o.kind=2->∃r:Nat,o.n=(r:Int)/\(r:Int)<R
theorem jH.r {R:Int}{o:fQ}(h:jH R o):CP R o:=by
 rcases h.cases with⟨k,hk,rfl⟩|⟨v,u,rfl⟩
 ·exact λ _=>⟨k,rfl,hk⟩
 ·exact λ h=>by cases h
theorem dO {R:Int}:CP R aF:=λ h=>by cases h
theorem PM {h:Heap}{i0 i1 i2 i3 dR dP dS:D}{regs:List Int}{o:fQ}(hi:[i0,i1,i2,i3,dP,dS].all D.one=true) (r:A3 h dR regs) (ho:CP regs.length o){KH:HKq}
  (hK:∀h',Ext h h'->KH (.int .i32 (bN regs o)) h') :
  ab PP (.box (.c (.agg [i0,i1,i2,i3,dR,dP,dS]))) h λ a3 h4=>ab PP (.box (.c o.e)) h4 λ a5 h6 =>
   ab PP (.fadd (.c a5) 0) h6 λ a7 h8=>ab PP (.ld (.c a7) 1 false) h8 λ a9 h10=>vbin .eql a9 (.int .i64 2) λ a11 =>
   vcond a11 (ab PP (.fadd (.c a3) 4) h10 λ a12 h13=>ab PP (.ld (.c a12) 1 false) h13 λ a14 h15=>ab PP (.fadd (.c a5) 1) h15 λ a16 h17=>ab PP (.ld (.c a16) 1 false) h17 λ a18 h19 =>
    ab PP (.iadd (.c a14) (.c a18) 1) h19 λ a20 h21=>ab PP (.ld (.c a20) 1 false) h21 λ a22 h23=>KH a22 h23)
   (ab PP (.fadd (.c a5) 2) h10 λ a24 h25=>ab PP (.ld (.c a24) 1 false) h25 λ a26 h27=>KH a26 h27):=by
 simp at hi;obtain⟨o0,Z,W,V,U,T⟩:=hi;rw[jX];refine⟨λ x hx=>?_,λ n t=>?_⟩
 ·simp[D.cells]at hx;rcases hx with rfl|rfl|rfl|rfl|rfl|rfl|rfl<;>first|assumption|exact r.one
 rw[jX];refine⟨List.all_eq_true.1 (fQ.Ko o),λ m t2=>?_⟩;obtain⟨H,I⟩:∃H,H=ak (ak h n (.box (.agg [i0,i1,i2,i3,dR,dP,dS]))) m (.box o.e):=⟨_,rfl⟩;have O:n≠m:=t2.ne (by simp[ak]);have S:H n=.box (.agg [i0,i1,i2,i3,dR,dP,dS]):=by rw[I,aa _ _ O,af]
 have G:H m=.box (.agg [.int .i64 o.kind,.int .i64 o.n,.int .i32 o.v]):=by rw[I,af];rfl
 have ex:Ext h H:=by rw[I];exact(Ext.new t _).trans (Ext.new t2 _)
 rw[<- I];by_cases u:o.kind=2
 ·obtain⟨k,hn,hk⟩:=ho u;have Q:k<regs.length:=by omega
  have hg:regs[k]?=some (regs.getD k 0):=by simp[Q]
  simp only[↓kn S,↓kn G,↓cT S (j:=4) rfl,↓cT G (j:=0) rfl,↓cT G (j:=1) rfl,↓bZ,u,hn,decide_true,↓ai,true_and];refine T8 (r.ext ex) hg ?_;have:=hK H ex;simpa[bN,u,hn] using this
 ·simp only[↓kn S,↓kn G,↓cT G (j:=0) rfl,↓cT G (j:=2) rfl,↓bZ,u,decide_false,↓ah,true_and];have:=hK H ex;simpa[bN,u] using this
theorem Rg {h:Heap}{i0 i1 i2 i3 dR dP dS:D}{regs:List Int}{o:fQ}(hi:[i0,i1,i2,i3,dP,dS].all D.one=true) (r:A3 h dR regs) (ho:CP regs.length o){KH:HKq}
  (hK:∀h',Ext h h'->KH (.int .i32 (bN regs o)) h'):ag PP cP [.agg [i0,i1,i2,i3,dR,dP,dS],o.e] h KH:=by
 refine aI Jl (aC _ _ _) rfl (I9 _ _ _) ?_;dsimp only[FR,xB,xF,xI,xL];exact PM hi r ho hK
abbrev Mm:=List (List Int)
structure Ev where
 kind:Int
 op:Int
 item:Int
 aM:Int
 block:Int
 at_:Int
 arr:Int
 i:Int
 v:Int
deriving DecidableEq,Inhabited
def Ev.cs (e:Ev):List D:=[.int .i64 e.kind,.int .i64 e.op,.int .i64 e.item,.int .i64 e.aM,.int .i64 e.block,.int .i64 e.at_,.int .i64 e.arr,.int .i64 e.i,.int .i32 e.v]
def Ev.e (e:Ev):D:=.agg e.cs
theorem Ev.bR (o:Ev):xt o.e:=cF (by simp[Ev.cs])
def aZ (m:Mm):D:=.sl (m.map words)
structure It where
 id:Int
 at_:Int
 block:Int
 epoch:Int
 regs:List Int
 priv:Mm
deriving DecidableEq,Inhabited
def It.cs (x:It):List D:=[.int .i64 x.id,.int .i64 x.at_,.int .i64 x.block,.int .i64 x.epoch,words x.regs,aZ x.priv,.sl []]
def It.e (x:It):D:=.agg x.cs
theorem It.bR (o:It):xt o.e:=cF (by simp[It.cs,words,aZ])
structure St where
 regs:List Int
 mem:Nat->Mm
 ev:List Ev
def dV (c:Code) (n:Nat):Nat:=((c.arrays[n]?).map fv.space).getD 0 |>.toNat
def kg (c:Code) (n:Nat):Int:=((c.arrays[n]?).map fv.len).getD 0
def St.word (st:St) (s n i:Nat):Int:=((st.mem s).getD n []).getD i 0
def Sz (m:Mm) (n i:Nat) (v:Int):Mm:=m.set n ((m.getD n []).set i v)
def St.put (st:St) (s n i:Nat) (v:Int):St:={ st with mem:=ak st.mem s (Sz (st.mem s) n i v) }
def St.tell (st:St) (c:Code) (e:Ev):St:={ st with ev:=if e.kind≠4/\dV c e.arr.toNat=3 then st.ev else st.ev++[e] }
def St.tT (st:St) (k:Nat) (v:Int):St:={ st with regs:=st.regs.set k v }
def sx (c:Code) (l:bG) (id:Int) (x:aW) (regs:List Int):Int :=
 if x.op=2 then YP x.sub (bN regs x.a)
 else if x.op=3 then Pj x.sub (bN regs x.a) (bN regs x.b)
 else if x.op=4 then(if bN regs x.a=0 then bN regs x.c else bN regs x.b)
 else if x.op=5 then qF (idP c.group c.sub l.groups id x.sub)
 else if x.op=6 then l.args.getD x.n.toNat 0
 else bN regs x.a
def evL (e:Ev) (x:aW) (a w:Int):Ev:={ e with kind:=1,arr:=x.n,i:=a,v:=w }
def Ww (e:Ev) (x:aW) (a b:Int):Ev:={ e with kind:=2,arr:=x.n,i:=a,v:=b }
def Yi (e:Ev) (x:aW) (a b:Int):Ev:={ e with kind:=3,op:=x.sub,arr:=x.n,i:=a,v:=b }
def Yh (e:Ev) (x:aW):Ev:={ e with kind:=4,op:=x.sub }
def lP (c:Code) (l:bG) (id:Int) (x:aW) (e:Ev) (st:St):Option St :=
 let a:=bN st.regs x.a
 let b:=bN st.regs x.b
 let n:=x.n.toNat
 let s:=dV c n
 if x.op=7 then
  if 0<=a/\a<kg c n then
   let w:=st.word s n a.toNat
   some ((st.tell c (evL e x a w)).tT x.d.n.toNat w)
  else none
 else if x.op=8 then
  if 0<=a/\a<kg c n then some ((st.put s n a.toNat b).tell c (Ww e x a b)) else none
 else if x.op=9 then
  if 0<=a/\a<kg c n then some ((st.put s n a.toNat (Pj x.sub (st.word s n a.toNat) b)).tell c (Yi e x a b)) else none
 else if x.op=10 then some (st.tell c (Yh e x))
 else some (st.tT x.d.n.toNat (sx c l id x st.regs))
def ev0 (id aM block k:Int):Ev:=⟨0,0,id,aM,block,k,0,0,0⟩
def runP (c:Code) (l:bG) (id aM block:Int):List aW->Nat->St->Option St
 | [],_,st=>some st
 | x::r,k,st=>(lP c l id x (ev0 id aM block k) st).bind (runP c l id aM block r (k+1))
def mo (ar:List fv) (s:Int):Mm:=ar.map λ a=>List.replicate (if a.space=s then a.len else 0).toNat 0
def cC (c:Code) (id epoch at_:Int):It:=⟨id,at_,0,epoch,List.replicate c.regs.toNat 0,mo c.arrays 3⟩
def hU (c:Code) (b:Int):Term:=((c.b[b.toNat]?).map Block.t).getD mH
def cb (c:Code) (it:It):It :=
 let t:=hU c it.block
 if t.kind=1 then { it with block:=t.to0 }
 else if t.kind=2 then { it with block:=if bN it.regs t.a≠0 then t.to0 else t.to1 }
 else if t.kind=5 then cC c it.id it.epoch 3
 else { it with at_:=2 }
def Qb (c:Code) (b:Int):List aW:=((c.b[b.toNat]?).map Block.i).getD []
structure Stp where
 it:It
 g:Mm
 s:Mm
 ev:List Ev
 e:Int
def Q5 (it:It) (g s:Mm):St:=⟨it.regs,λ k=>if k=1 then g else if k=2 then s else it.priv,[]⟩
def stepP (c:Code) (l:bG) (it:It) (g s:Mm) (aM:Int):Stp :=
 if it.at_≠1 then ⟨it,g,s,[],1⟩
 else match runP c l it.id aM it.block (Qb c it.block) 0 (Q5 it g s) with
  | none=>⟨it,g,s,[],70⟩
  | some st=>⟨cb c { it with regs:=st.regs,priv:=st.mem 3 },st.mem 1,st.mem 2,st.ev,0⟩
def pF (c:Code) (it:It) (v:Int):It×Int :=
 if it.at_≠2 then(it,1)
 else
  let t:=hU c it.block
  ({ it with at_:=1,block:=t.to0,regs:=if t.kind=4 then it.regs.set t.d.n.toNat v else it.regs },0)
def Zp (a:fv):Prop:=(a.space=1\/a.space=2\/a.space=3)/\1<=a.len/\a.len<=8
def PH (a:fv) (s:Nat):Nat:=(if a.space=(s:Int) then a.len else 0).toNat
structure cq (ar:List fv) (s:Nat) (m:Mm):Prop where
 len:m.length=ar.length
 w:∀(i:Nat) (a:fv) (w:List Int),ar[i]?=some a->m[i]?=some w->w.length=PH a s/\∀v∈w,mm v
structure Bi (c:Code) (x:aW):Prop where
 ok:Eu c.regs x
 n:x.op=7\/x.op=8\/x.op=9->∃k:Nat,x.n=(k:Int)/\k<c.arrays.length
 p:x.op=6->0<=x.n/\x.n<c.params
structure ba (c:Code):Prop where
 group:1<=c.group/\c.group<=8
 sub:1<=c.sub/\c.sub<=8
 regs:1<=c.regs/\c.regs<=12
 slots:c.slots=0
 params:0<=c.params/\c.params<=8
 nar:c.arrays.length<=8
 ar:∀a∈c.arrays,Zp a
 nb:1<=c.b.length/\c.b.length<=100
 xs:∀b∈c.b,(∀x∈b.i,Bi c x)/\b.i.length<=20/\NO c.b.length c.regs b.t
structure bY (c:Code) (l:bG):Prop where
 n:1<=l.groups/\l.groups<=64
 a:(l.args.length:Int)=c.params
 w:∀v∈l.args,mm v
structure Hz (c:Code) (st:St):Prop where
 len:(st.regs.length:Int)=c.regs
 regs:∀v∈st.regs,mm v
 mem:∀s,1<=s->s<=3->cq c.arrays s (st.mem s)
theorem ba.l1 {c:Code}{l:bG}{id:Int}(h:ba c) (hl:bY c l) (hi:0<=id/\id<l.groups*c.group):abl c l id :=
 ⟨⟨h.group.1,by have:=h.group.2;omega⟩,⟨h.sub.1,by have:=h.sub.2;omega⟩,hl.n,hi⟩
theorem JE {l:List Int}(h:∀v∈l,mm v) (i:Nat):mm (l.getD i 0):=by
 rw[List.getD_eq_getElem?_getD]
 cases e:l[i]? with
 | none=>exact⟨by simp,by simp⟩
 | some v=>exact h v (aK e)
theorem JD {l:List Int}(h:∀v∈l,mm v){i:Nat}{w:Int}(hw:mm w):∀v,v∈l.set i w->mm v:=λ v u=>by
 rcases List.mem_or_eq_of_mem_set u with u|rfl
 ·exact h v u
 ·exact hw
theorem oh {R:Int}{regs:List Int}{o:fQ}(h:∀v∈regs,mm v) (ho:jH R o):mm (bN regs o):=by
 rcases ho.cases with⟨r,h1,rfl⟩|⟨v,h1,rfl⟩
 ·simp only[bN];exact JE h _
 ·simpa[bN] using h1
theorem dW (n:Int):mm (qF n):=by
 have e:qF n=(if(n % 4294967296)<2147483648 then n % 4294967296 else n % 4294967296-4294967296):=by
  simp only[qF,IntKind.wrap,IntKind.signed,IntKind.bits];simp;split<;>omega
 rw[e];constructor<;>split<;>omega
theorem St.EI {c:Code}{st:St}(h:Hz c st){s n:Nat}(hs:1<=s/\s<=3) (hc:ba c) (i:Nat):mm (st.word s n i):=by
 have hm:=h.mem s hs.1 hs.2;unfold St.word;rw[List.getD_eq_getElem?_getD (l:=st.mem s)]
 cases e:(st.mem s)[n]? with
 | none=>exact⟨by simp,by simp⟩
 | some w =>
  have hn:=(aq.1 e).1;rw[hm.len]at hn;exact JE (hm.w n _ w (aG hn) e).2 _
inductive xh where
 | no
 | box
 | map
 | regs
 | ev
 | sl
 | mem (s:Nat)
 | row (s i:Nat)
deriving DecidableEq
abbrev Ro:=Nat->xh
def wr (w:List Int):List D:=w.map (.int .i32)
theorem GA (w:List Int):(wr w).length=w.length:=by simp[wr]
theorem MZ {w:List Int}{i:Nat}:(wr w)[i]?=(w[i]?).map (.int .i32):=by simp[wr]
theorem MY {w:List Int}{i:Nat}{v:Int}:(wr w).set i (.int .i32 v)=wr (w.set i v):=by simp[wr,List.map_set]
def zg (h:Heap) (ro:Ro) (r:xh) (d:D) (w:List Int):Prop:=d=words w\/∃q,d=.ms q 0 w.length/\h q=.arr 1 (wr w)/\ro q=r
def Je (h:Heap) (ro:Ro) (d:D) (w:List Int):Prop:=∃q,d=.ms q 0 w.length/\h q=.arr 1 (wr w)/\ro q=.regs
structure zh (h:Heap) (ro:Ro) (s:Nat) (m:Mm) (k:Nat) (els:List D):Prop where
 hk:h k=.arr 1 els
 rk:ro k=.mem s
 len:els.length=m.length
 el:∀(i:Nat) (e:D) (w:List Int),els[i]?=some e->m[i]?=some w->zg h ro (.row s i) e w
def Gb (h:Heap) (ro:Ro) (s:Nat) (d:D) (m:Mm):Prop:=∃k els,d=.ms k 0 m.length/\zh h ro s m k els
def YL (h:Heap) (ro:Ro) (d:D) (evs:List Ev):Prop:=(d=.nil/\evs=[])\/∃k,d=.ms k 0 evs.length/\h k=.arr 9 (evs.map Ev.e)/\ro k=.ev
def Wx (h:Heap) (ro:Ro) (d:D):Prop:=d=.nil\/d=.sl []\/∃k,d=.ms k 0 0/\h k=.arr 1 []/\ro k=.sl
structure Sc (h:Heap) (ro:Ro) (dR dE dS:D) (dm:Nat->D) (st:St):Prop where
 regs:Je h ro dR st.regs
 mem:∀s,1<=s->s<=3->Gb h ro s (dm s) (st.mem s)
 ev:YL h ro dE st.ev
 sl:Wx h ro dS
def xh.core:xh->Bool
 | .no=>false
 | .box=>false
 | .map=>false
 | _=>true
def gH (h:Heap) (ro:Ro) (h':Heap) (ro':Ro):Prop:=∀k,h k≠.free->(ro k).core=true->h' k=h k/\ro' k=ro k
theorem dD {h:Heap}{k e:Nat}{l:List D}(x:h k=.arr e l):h k≠.free:=by rw[x];simp
theorem zg.aS {h h':Heap}{ro ro':Ro}(k:gH h ro h' ro'){r:xh}(hr:r.core=true){d:D}{w:List Int}(x:zg h ro r d w):zg h' ro' r d w:=by
 rcases x with x|⟨q,h1,h2,h3⟩
 ·exact Or.inl x
 ·obtain⟨G,u⟩:=k q (dD h2) (by rw[h3];exact hr);exact Or.inr ⟨q,h1,by rw[G];exact h2,by rw[u];exact h3⟩
theorem Je.aS {h h':Heap}{ro ro':Ro}(k:gH h ro h' ro'){d:D}{w:List Int}(x:Je h ro d w):Je h' ro' d w:=by
 obtain⟨q,h1,h2,h3⟩:=x;obtain⟨G,u⟩:=k q (dD h2) (by rw[h3];rfl);exact⟨q,h1,by rw[G];exact h2,by rw[u];exact h3⟩
theorem zh.aS {h h':Heap}{ro ro':Ro}(k:gH h ro h' ro'){s q:Nat}{m:Mm}{els:List D}(x:zh h ro s m q els):zh h' ro' s m q els:=by
 obtain⟨G,u⟩:=k q (dD x.hk) (by rw[x.rk];rfl);exact⟨by rw[G];exact x.hk,by rw[u];exact x.rk,x.len,λ i e w h1 h2=>(x.el i e w h1 h2).aS k rfl⟩
theorem Gb.aS {h h':Heap}{ro ro':Ro}(k:gH h ro h' ro'){s:Nat}{d:D}{m:Mm}(x:Gb h ro s d m):Gb h' ro' s d m:=by
 obtain⟨q,els,h1,h2⟩:=x;exact⟨q,els,h1,h2.aS k⟩
theorem YL.aS {h h':Heap}{ro ro':Ro}(k:gH h ro h' ro'){d:D}{w:List Ev}(x:YL h ro d w):YL h' ro' d w:=by
 rcases x with x|⟨q,h1,h2,h3⟩
 ·exact Or.inl x
 obtain⟨G,u⟩:=k q (dD h2) (by rw[h3];rfl);exact Or.inr ⟨q,h1,by rw[G];exact h2,by rw[u];exact h3⟩
theorem Wx.aS {h h':Heap}{ro ro':Ro}(k:gH h ro h' ro'){d:D}(x:Wx h ro d):Wx h' ro' d:=by
 rcases x with x|x|⟨q,h1,h2,h3⟩
 ·exact Or.inl x
 ·exact Or.inr (Or.inl x)
 obtain⟨G,u⟩:=k q (dD h2) (by rw[h3];rfl);exact Or.inr (Or.inr ⟨q,h1,by rw[G];exact h2,by rw[u];exact h3⟩)
theorem Sc.aS {h h':Heap}{ro ro':Ro}(k:gH h ro h' ro'){dR dE dS:D}{dm:Nat->D}{st:St}(x:Sc h ro dR dE dS dm st):Sc h' ro' dR dE dS dm st :=
 ⟨x.regs.aS k,λ s h1 h2=>(x.mem s h1 h2).aS k,x.ev.aS k,x.sl.aS k⟩
theorem zg.row {h:Heap}{ro:Ro}{r:xh}{d:D}{w:List Int}(x:zg h ro r d w):A3 h d w:=by
 rcases x with x|⟨q,h1,h2,-⟩
 ·exact Or.inl x
 ·exact Or.inr ⟨q,h1,h2⟩
theorem Je.row {h:Heap}{ro:Ro}{d:D}{w:List Int}(x:Je h ro d w):A3 h d w:=by
 obtain⟨q,h1,h2,-⟩:=x;exact Or.inr ⟨q,h1,h2⟩
theorem Gb.one {h:Heap}{ro:Ro}{s:Nat}{d:D}{m:Mm}(x:Gb h ro s d m):d.one=true:=by obtain⟨k,els,rfl,-⟩:=x;rfl
theorem Je.one {h:Heap}{ro:Ro}{d:D}{m:List Int}(x:Je h ro d m):d.one=true:=by obtain⟨k,rfl,-⟩:=x;rfl
theorem YL.one {h:Heap}{ro:Ro}{d:D}{m:List Ev}(x:YL h ro d m):d.one=true:=by rcases x with⟨rfl,-⟩|⟨k,rfl,-⟩<;>rfl
theorem Wx.one {h:Heap}{ro:Ro}{d:D}(x:Wx h ro d):d.one=true:=by rcases x with rfl|rfl|⟨k,rfl,-⟩<;>rfl
def Fr (ro:Ro) (h:Heap) (ro':Ro) (h':Heap):Prop:=∀k,h k≠.free->ro' k=ro k/\h' k≠.free/\(ro k=.no->h' k=h k)
theorem Fr.refl {ro:Ro}{h:Heap}:Fr ro h ro h:=λ _ hk=>⟨rfl,hk,λ _=>rfl⟩
theorem Fr.trans {r1 r2 r3:Ro}{h1 h2 h3:Heap}(a:Fr r1 h1 r2 h2) (b:Fr r2 h2 r3 h3):Fr r1 h1 r3 h3:=λ k hk=>by
 obtain⟨u,G,a3⟩:=a k hk;obtain⟨b1,b2,b3⟩:=b k G;exact⟨b1.trans u,b2,λ hn=>(b3 (u.trans hn)).trans (a3 hn)⟩
theorem Fr.new {ro:Ro}{h:Heap}{n:Nat}(hn:h n=.free) (r:xh){s:Slot}:Fr ro h (ak ro n r) (ak h n s):=λ k hk=>by
 have:k≠n:=by rintro rfl;exact hk hn
 rw[aa _ _ this,aa _ _ this];exact⟨rfl,hk,λ _=>rfl⟩
theorem Fr.ext {ro:Ro}{h h':Heap}(x:Ext h h'):Fr ro h ro h':=λ k hk=>⟨rfl,by rw[x k hk];exact hk,λ _=>x k hk⟩
theorem Fr.aM {ro:Ro}{h:Heap}{n:Nat}(hn:ro n≠.no){s:Slot}(hs:s≠.free):Fr ro h ro (ak h n s):=λ k hk=>by
 refine⟨rfl,?_,λ hr=>?_⟩
 ·by_cases e:k=n
  ·subst e;rw[af];exact hs
  ·rw[aa _ _ e];exact hk
 ·have:k≠n:=by rintro rfl;exact hn hr
  rw[aa _ _ this]
theorem gH.new {ro:Ro}{h:Heap}{n:Nat}(hn:h n=.free) (r:xh){s:Slot}:gH h ro (ak h n s) (ak ro n r):=λ k hk _=>by
 have:k≠n:=by rintro rfl;exact hk hn
 rw[aa _ _ this,aa _ _ this];exact⟨rfl,rfl⟩
theorem gH.ext {ro:Ro}{h h':Heap}(x:Ext h h'):gH h ro h' ro:=λ k hk _=>⟨x k hk,rfl⟩
theorem gH.aM {ro:Ro}{h:Heap}{n:Nat}(hn:(ro n).core=false){s:Slot}:gH h ro (ak h n s) ro:=λ k _ hc=>by
 have:k≠n:=by rintro rfl;rw[hn]at hc;cases hc
 rw[aa _ _ this];exact⟨rfl,rfl⟩
theorem gH.trans {r1 r2 r3:Ro}{h1 h2 h3:Heap}(a:gH h1 r1 h2 r2) (b:gH h2 r2 h3 r3):gH h1 r1 h3 r3:=λ k hk hc=>by
 obtain⟨G,u⟩:=a k hk hc;obtain⟨b1,b2⟩:=b k (by rw[G];exact hk) (by rw[u];exact hc);exact⟨b1.trans G,b2.trans u⟩
theorem Z2 {P:Program}{h:Heap}{ro:Ro}{dR dE dS:D}{dm:Nat->D}{st:St}(x:Sc h ro dR dE dS dm st){i:Nat}{v:Int}(hi:i<st.regs.length){KH:HKq}
  (hK:∀q,ro q=.regs->Sc (ak h q (.arr 1 (wr (st.regs.set i v)))) ro dR dE dS dm (st.tT i v)->KH .undef (ak h q (.arr 1 (wr (st.regs.set i v))))) :
  ab P (.iadd (.c dR) (.c (.int .i64 (i:Int))) 1) h λ a h1=>ab P (.st (.c a) (.c (.int .i32 v)) 1) h1 KH:=by
 obtain⟨q,rfl,h2,h3⟩:=x.regs;simp only[↓cv,h2,Slot.row];refine⟨by omega,by omega,⟨_,rfl⟩,?_⟩;rw[fG,h2];refine⟨rfl,by simp,by simp[wr];omega,by simp,λ d hd=>?_⟩
 have e:setCells d 0 (D.int .i32 v).cells=.int .i32 v:=by
  rw[MZ,Option.map_eq_some_iff]at hd;obtain⟨z,-,rfl⟩:=hd;rfl
 rw[e,show 0+((i:Int)).toNat=i by omega,MY];refine hK q h3 ⟨⟨q,by simp[St.tT],by rw[af];rfl,h3⟩,λ s h1 h4=>?_,?_,?_⟩
 ·obtain⟨k,els,T,e2⟩:=x.mem s h1 h4;have O:k≠q:=by rintro rfl;have:=e2.rk;rw[h3]at this;cases this
  refine⟨k,els,T,by rw[aa _ _ O];exact e2.hk,e2.rk,e2.len,λ j e w H G=>?_⟩;rcases e2.el j e w H G with g|⟨p,u,S,Q⟩
  ·exact Or.inl g
  ·have I:p≠q:=by rintro rfl;rw[h3]at Q;cases Q
   exact Or.inr ⟨p,u,by rw[aa _ _ I];exact S,Q⟩
 ·rcases x.ev with g|⟨k,H,G,u⟩
  ·exact Or.inl g
  ·have:k≠q:=by rintro rfl;rw[h3]at u;cases u
   exact Or.inr ⟨k,H,by rw[aa _ _ this];exact G,u⟩
 ·rcases x.sl with g|g|⟨k,H,G,u⟩
  ·exact Or.inl g
  ·exact Or.inr (Or.inl g)
  ·have:k≠q:=by rintro rfl;rw[h3]at u;cases u
   exact Or.inr (Or.inr ⟨k,H,by rw[aa _ _ this];exact G,u⟩)
theorem W4 {P:Program}{h:Heap}{d:D}{l:List Int}(r:A3 h d l){i:Nat}{v:Int}{k:IntKind}(hi:l[i]?=some v){KH:HKq}(hK:KH (.int .i32 v) h) :
  ab P (.iadd (.c d) (.c (.int k (i:Int))) 1) h λ a h1=>ab P (.ld (.c a) 1 false) h1 KH:=T8 r hi hK
theorem UK {P:Program}{h:Heap}{ro:Ro}{s:Nat}{d:D}{m:Mm}(x:Gb h ro s d m){n:Nat}(hn:n<m.length){KH:HKq}
  (hK:∀e w,m[n]?=some w->zg h ro (.row s n) e w->KH e h):ab P (.iadd (.c d) (.c (.int .i64 (n:Int))) 1) h λ a h1=>ab P (.ld (.c a) 1 false) h1 KH:=by
 obtain⟨k,els,rfl,y⟩:=x;simp only[↓cv,y.hk,Slot.row];refine⟨by omega,by omega,⟨_,rfl⟩,?_⟩;rw[kT,y.hk];have hl:=y.len;refine⟨by simp;omega,λ e he=>?_⟩;rw[show 0+((n:Int)).toNat=n by omega]at he;have hw:m[n]?=some (m[n]):=aG hn;have hr:=y.el n e _ he hw
 have hc:e.cells=[e]:=by
  rcases hr with rfl|⟨q,rfl,-⟩<;>rfl
 simp only[↓bg,hc,List.getElem?_cons_zero];exact hK e _ hw hr
theorem aao {P:Program}{h:Heap}{ro:Ro}{s:Nat}{d:D}{m:Mm}(x:Gb h ro s d m){n i:Nat}{v:Int}{w:List Int}(hn:m[n]?=some w) (hi:w[i]?=some v){KH:HKq}{k:IntKind}(hK:KH (.int .i32 v) h) :
  ab P (.iadd (.c d) (.c (.int .i64 (n:Int))) 1) h λ a h1=>ab P (.ld (.c a) 1 false) h1 λ b h2=>ab P (.iadd (.c b) (.c (.int k (i:Int))) 1) h2 λ e h3=>ab P (.ld (.c e) 1 false) h3 KH:=by
 refine UK x (aq.1 hn).1 λ e w' u hr=>?_
 rw[hn]at u;cases u;exact W4 hr.row hi hK
abbrev nM (c:Code) (l:bG) (it:It) (dR dP dL dG dH dE:D) (nm:Nat):List D :=
  [.int .i64 c.group,.int .i64 c.sub,.int .i64 c.regs,.int .i64 c.slots,.int .i64 c.params,.sl (c.arrays.map fv.e),.sl (c.loops.map Loop.e),.sl (c.b.map Block.e),
   .int .i64 l.groups,words l.args,.int .i64 it.id,.int .i64 it.at_,.int .i64 it.block,.int .i64 it.epoch,dR,dP,dL,dG,dH,dE,.mp nm]
def nq (s i:Int):D:=.agg [.int .i64 s,.int .i64 i]
structure fH (h:Heap) (ro:Ro) (n:Nat) (c:Code) (l:bG) (it:It) (dR dL dE:D) (dm:Nat->D) (nm:Nat) (ents:List (D×D)) (st:St):Prop where
 box:h n=.box (.agg (nM c l it dR (dm 3) dL (dm 1) (dm 2) dE nm))
 rb:ro n=.box
 sr:Sc h ro dR dE dL dm st
 map:h nm=.map (.pair .i64) ents
 rm:ro nm=.map
 keys:∀p∈ents,(KeyT.pair .i64).okB p.1=true
 tru:∀p∈ents,p.2=.bool true
 own:∀(s i k:Nat) (els:List D) (e:D) (w:List Int),1<=s->s<=3->dm s=.ms k 0 (st.mem s).length->h k=.arr 1 els->els[i]?=some e->(st.mem s)[i]?=some w ->
  (mget ents (nq s i)=none->e=words w)/\(mget ents (nq s i)≠none->∃q,e=.ms q 0 w.length/\h q=.arr 1 (wr w)/\ro q=.row s i)
def QO (h:Heap) (ro:Ro) (n:Nat) (c:Code) (l:bG) (it:It) (st:St):Prop:=∃dR dL dE dm nm ents,fH h ro n c l it dR dL dE dm nm ents st
theorem Lb {P:Program}{c:Code}{k:Nat}{r:fv}(hr:c.arrays[k]?=some r){h:Heap}{KH:HKq}:ab P (.iadd (.c (.sl (c.arrays.map fv.e))) (.c (.int .i64 (k:Int))) 4) h KH=KH (.vp r.e 0) h:=by
 have hk:=(aq.1 hr).1;rw[jq,aT,List.getElem?_map,hr,aE];apply propext;constructor
 ·rintro⟨-,-,h⟩;exact(h _ rfl).2
 ·intro u;exact⟨by omega,by omega,λ d hd=>by cases hd;exact⟨rfl,u⟩⟩
theorem QE {P:Program}{r:fv}{h:Heap}{KH:HKq}:ab P (.ld (.c (.vp r.e 1)) 1 false) h KH=KH (.int .i64 r.space) h:=by rw[kH,bg];rfl
theorem aba {P:Program}{r:fv}{h:Heap}{KH:HKq}:ab P (.ld (.c (.vp r.e 3)) 1 false) h KH=KH (.int .i64 r.len) h:=by rw[kH,bg];rfl
theorem qW {c:Code}{k:Nat}{r:fv}(hr:c.arrays[k]?=some r):dV c k=r.space.toNat:=by simp[dV,hr]
theorem MP {c:Code}{k:Nat}{r:fv}(hr:c.arrays[k]?=some r):kg c k=r.len:=by simp[kg,hr]
theorem ba.at {c:Code}(hc:ba c){k:Nat}(hk:k<c.arrays.length):∃r,c.arrays[k]?=some r/\Zp r:=by
 exact⟨c.arrays[k],aG hk,hc.ar _ (List.getElem_mem hk)⟩
theorem qX {c:Code}(hc:ba c){k:Nat}(hk:k<c.arrays.length):1<=dV c k/\dV c k<=3:=by
 obtain⟨r,hr,ho⟩:=hc.at hk;rw[qW hr];rcases ho.1 with h|h|h<;>rw[h]<;>simp
section
variable {h:Heap}{ro:Ro}{n:Nat}{c:Code}{l:bG}{it:It}{dR dL dE:D}{dm:Nat->D}{nm:Nat}{ents:List (D×D)}{st:St}
theorem fH.used (x:fH h ro n c l it dR dL dE dm nm ents st):(h n).used=true:=by rw[x.box];rfl
theorem Ov (x:fH h ro n c l it dR dL dE dm nm ents st) (hc:ba c){k:Nat}(hk:k<c.arrays.length){KH:HKq}(hK:KH (dm (dV c k)) h):ag PP jv [.ptr n 0 0,.int .i64 (k:Int)] h KH:=by
 refine aI Bz (aC _ _ _) rfl (AI _ _ _) ?_;dsimp only[sN,xF,xI,xL];obtain⟨r,hr,ho⟩:=hc.at hk;have e:=x.box;rw[qW hr]at hK;simp only[↓jc x.used,Nat.zero_add,Nat.reduceAdd,↓cT e (j:=5) rfl,↓Lb hr,↓BY,↓QE,↓bZ,true_and];rcases ho.1 with h1|h1|h1
 ·rw[h1]at hK ⊢;simp only[decide_true,↓ai,↓cT e (j:=17) rfl];exact hK
 ·rw[h1]at hK ⊢;simp only[Int.reduceEq,decide_false,↓ah,decide_true,↓ai,↓cT e (j:=18) rfl];exact hK
 ·rw[h1]at hK ⊢;simp only[Int.reduceEq,decide_false,↓ah,↓cT e (j:=15) rfl];exact hK
theorem QS {c:Code}{st:St}(hc:ba c) (hw:Hz c st){k i:Nat}(hk:k<c.arrays.length) (hi:(i:Int)<kg c k) :
  ∃w,(st.mem (dV c k))[k]?=some w/\w[i]?=some (st.word (dV c k) k i)/\i<w.length:=by
 obtain⟨r,hr,ho⟩:=hc.at hk;obtain⟨b1,b2⟩:=qX hc hk;have hm:=hw.mem _ b1 b2;have hl:k<(st.mem (dV c k)).length:=by rw[hm.len];exact hk
 have hg:=aG hl;refine⟨_,hg,?_⟩;have G:=(hm.w k r _ hr hg).1;rw[MP hr]at hi;have hs:r.space=((dV c k:Nat):Int):=by rw[qW hr];rcases ho.1 with h|h|h<;>rw[h]<;>rfl
 have u:i<((st.mem (dV c k))[k]).length:=by rw[G];unfold PH;rw[if_pos hs];omega
 refine⟨?_,u⟩;unfold St.word;rw[List.getD_eq_getElem?_getD (l:=st.mem (dV c k)),hg,Option.getD_some,List.getD_eq_getElem?_getD,aG u,Option.getD_some]
theorem PW (x:fH h ro n c l it dR dL dE dm nm ents st) (hc:ba c) (hw:Hz c st){k:Nat}(hk:k<c.arrays.length){a:Int}(ha:mm a){KH:HKq}{KP:Heap->Prop}
  (hK:0<=a/\a<kg c k->KH (.int .i32 (st.word (dV c k) k a.toNat)) h) (hP:¬(0<=a/\a<kg c k)->KP h):nP PP iZ [.ptr n 0 0,.int .i64 (k:Int),.int .i32 a] h KH KP:=by
 refine Pw Ez (aC _ _ _) rfl (El _ _ _ _) ?_;dsimp only[xE,xC,xF,xI,xL,xP];obtain⟨r,hr,ho⟩:=hc.at hk;obtain⟨b1,b2⟩:=qX hc hk;have e:=x.box;have hl:=MP hr;rw[fK];by_cases h0:a<0
 ·simp only[h0,decide_true,↓gS,↓zN];exact λ _=>hP (by omega)
 ·have u:IntKind.i64.wrap a=a:=PJ ha;simp only[h0,decide_false,↓gff,↓jc x.used,Nat.zero_add,Nat.reduceAdd,↓cT e (j:=5) rfl,↓Lb hr,↓BY,↓aba,↓eZ,u,↓EL,true_and,↓C2];by_cases h1:r.len<=a
  ·simp only[h1,decide_true,↓ai];exact λ _=>hP (by omega)
  ·simp only[h1,decide_false,↓ah];refine Ov x hc hk ?_;obtain⟨i,rfl⟩:∃i:Nat,a=(i:Int):=⟨a.toNat,by omega⟩;obtain⟨w,H,G,-⟩:=QS hc hw hk (i:=i) (by omega);exact aao (x.sr.mem _ b1 b2) H G (hK (by omega))
end
theorem Nf {h:Heap}{w:List Int}(hw:w≠[]) (hl:w.length<=1000000){KH:HKq}
  (hK:∀(q:Nat) (h':Heap),h q=.free->h' q=.arr 1 (wr w)->(∀k,h k≠.free->h' k=h k)->KH (.ms q 0 w.length) h'):ag PP aU [words w] h KH:=by
 refine aI iB (aC _ _ _) rfl (iA _ _) ?_;unfold fh;obtain⟨a,r,rfl⟩:=List.exists_cons_of_ne_nil hw;have:∀{KH:HKq},ab PP (.nilq false (.c (words (a::r)))) h KH=KH (.bool false) h:=rfl;rw[this,ah];refine KL λ n t=>?_
 refine⟨λ d hd=>?_,λ y hy=>?_,[],.of (af _ _ _),rfl,⟨?_,?_⟩,λ m t2=>⟨?_,λ h0=>absurd rfl h0⟩⟩
 ·simp only[words,List.mem_map]at hd;obtain⟨z,-,rfl⟩:=hd;rfl
 ·simp only[words,List.mem_map]at hy;obtain⟨z,-,rfl⟩:=hy;simp
 ·simp at hl ⊢;omega
 ·simp at hl ⊢;omega
 ·have u:=t2.free;have G:m≠n:=by rintro rfl;rw[af]at u;cases u
  have:=hK m (ak (ak (ak h n (.arr 1 [])) n .dead) m (.arr 1 (wr (a::r)))) (by rw[aa _ _ G]at u;exact u) (af _ _ _) λ k hk=>by
   have h1:k≠n:=t.ne hk;have h2:k≠m:=t2.ne (by rw[aa _ _ h1];exact hk);rw[aa _ _ h2,aa _ _ h1,aa _ _ h1]
  simpa[wr,words] using this
end Go.Am
namespace Go.Am
open Go
theorem wT {s i:Int}:(KeyT.pair .i64).okB (nq s i)=true:=rfl
theorem oo {a b:D}(ha:(KeyT.pair .i64).okB a=true) (hb:(KeyT.pair .i64).okB b=true):keySame a b=true↔a=b:=by
 obtain⟨p,q,rfl⟩:=mG ha;obtain⟨r,s,rfl⟩:=mG hb;simp[keySame]
theorem G0 {k k' v:D}(hk:(KeyT.pair .i64).okB k=true) (hk':(KeyT.pair .i64).okB k'=true):∀(l:List (D×D)),(∀p∈l,(KeyT.pair .i64).okB p.1=true)->(k'=k->mget (mset l k v) k'=some v)/\(k'≠k->mget (mset l k v) k'=mget l k')
 | [],_=>by
  simp only[mset,mget];refine⟨λ e=>by rw[if_pos ((oo hk' hk).2 e)],λ e=>by rw[if_neg (λ h=>e ((oo hk' hk).1 h))]⟩
 | (a,b)::r,h=>by
  have ha:=h (a,b) (by simp);obtain⟨i1,i2⟩:=G0 (v:=v) hk hk' r λ p hp=>h p (by simp[hp])
  simp only[mset];by_cases e:keySame k a=true
  ·have u:=(oo hk ha).1 e;subst u;rw[if_pos e];simp only[mget];refine⟨λ e2=>by rw[if_pos ((oo hk' hk).2 e2)],λ e2=>?_⟩;have:¬keySame k' k=true:=λ h=>e2 ((oo hk' hk).1 h)
   rw[if_neg this,if_neg this]
  ·rw[if_neg e];simp only[mget];refine⟨λ e2=>?_,λ e2=>?_⟩
   ·subst e2;rw[if_neg e];exact i1 rfl
   ·by_cases e3:keySame k' a=true
    ·rw[if_pos e3,if_pos e3]
    ·rw[if_neg e3,if_neg e3];exact i2 e2
theorem Ms {k v:D}(hk:(KeyT.pair .i64).okB k=true):∀(l:List (D×D)),(∀p∈l,(KeyT.pair .i64).okB p.1=true)->∀p,p∈mset l k v->(KeyT.pair .i64).okB p.1=true
 | [],_,p,hp=>by simp[mset]at hp;subst hp;exact hk
 | (a,b)::r,h,p,hp=>by
  simp only[mset]at hp;by_cases e:keySame k a=true
  ·rw[if_pos e]at hp;rcases List.mem_cons.1 hp with rfl|hp
   ·exact h (a,b) (by simp)
   ·exact h p (by simp[hp])
  ·rw[if_neg e]at hp;rcases List.mem_cons.1 hp with rfl|hp
   ·exact h (a,b) (by simp)
   ·exact Ms hk r (λ p hp=>h p (by simp[hp])) p hp
theorem OC {k:D}:∀(l:List (D×D)),(∀p∈l,p.2=.bool true)->∀p,p∈mset l k (.bool true)->p.2=.bool true
 | [],_,p,hp=>by simp[mset]at hp;subst hp;rfl
 | (a,b)::r,h,p,hp=>by
  simp only[mset]at hp;by_cases e:keySame k a=true
  ·rw[if_pos e]at hp;rcases List.mem_cons.1 hp with rfl|hp
   ·rfl
   ·exact h p (by simp[hp])
  ·rw[if_neg e]at hp;rcases List.mem_cons.1 hp with rfl|hp
   ·exact h (a,b) (by simp)
   ·exact OC r (λ p hp=>h p (by simp[hp])) p hp
theorem OD {k v:D}:∀(l:List (D×D)),(∀p∈l,p.2=.bool true)->mget l k=some v->v=.bool true
 | [],_,u=>by cases u
 | (a,b)::r,h,u=>by
  simp only[mget]at u;by_cases e:keySame k a=true
  ·rw[if_pos e]at u;cases u;exact h _ (List.mem_cons_self)
  ·rw[if_neg e]at u;exact OD r (λ p hp=>h p (by simp[hp])) u
def vK (E:xh->Prop) (h:Heap) (ro:Ro) (h':Heap) (ro':Ro):Prop:=∀k,h k≠.free->E (ro k)->h' k=h k/\ro' k=ro k
section
variable {E:xh->Prop}{h h':Heap}{ro ro':Ro}
theorem zg.jW (k:vK E h ro h' ro'){r:xh}(hr:E r){d:D}{w:List Int}(x:zg h ro r d w):zg h' ro' r d w:=by
 rcases x with x|⟨q,h1,h2,h3⟩
 ·exact Or.inl x
 ·obtain⟨G,u⟩:=k q (dD h2) (by rw[h3];exact hr);exact Or.inr ⟨q,h1,by rw[G];exact h2,by rw[u];exact h3⟩
theorem Je.jW (k:vK E h ro h' ro') (hr:E .regs){d:D}{w:List Int}(x:Je h ro d w):Je h' ro' d w:=by
 obtain⟨q,h1,h2,h3⟩:=x;obtain⟨G,u⟩:=k q (dD h2) (by rw[h3];exact hr);exact⟨q,h1,by rw[G];exact h2,by rw[u];exact h3⟩
theorem zh.jW (k:vK E h ro h' ro'){s q:Nat}(hr:E (.mem s)) (hr2:∀i,E (.row s i)){m:Mm}{els:List D}(x:zh h ro s m q els):zh h' ro' s m q els:=by
 obtain⟨G,u⟩:=k q (dD x.hk) (by rw[x.rk];exact hr);exact⟨by rw[G];exact x.hk,by rw[u];exact x.rk,x.len,λ i e w h1 h2=>(x.el i e w h1 h2).jW k (hr2 i)⟩
theorem Gb.jW (k:vK E h ro h' ro'){s:Nat}(hr:E (.mem s)) (hr2:∀i,E (.row s i)){d:D}{m:Mm}(x:Gb h ro s d m):Gb h' ro' s d m:=by
 obtain⟨q,els,h1,h2⟩:=x;exact⟨q,els,h1,h2.jW k hr hr2⟩
theorem YL.jW (k:vK E h ro h' ro') (hr:E .ev){d:D}{w:List Ev}(x:YL h ro d w):YL h' ro' d w:=by
 rcases x with x|⟨q,h1,h2,h3⟩
 ·exact Or.inl x
 obtain⟨G,u⟩:=k q (dD h2) (by rw[h3];exact hr);exact Or.inr ⟨q,h1,by rw[G];exact h2,by rw[u];exact h3⟩
theorem Wx.jW (k:vK E h ro h' ro') (hr:E .sl){d:D}(x:Wx h ro d):Wx h' ro' d:=by
 rcases x with x|x|⟨q,h1,h2,h3⟩
 ·exact Or.inl x
 ·exact Or.inr (Or.inl x)
 obtain⟨G,u⟩:=k q (dD h2) (by rw[h3];exact hr);exact Or.inr (Or.inr ⟨q,h1,by rw[G];exact h2,by rw[u];exact h3⟩)
end
theorem Sc.ZZ {h:Heap}{ro:Ro}{dR dE dS:D}{dm:Nat->D}{st:St}(x:Sc h ro dR dE dS dm st){s i q:Nat}{w w':List Int}{kk:Nat}{els:List D}(hs:1<=s/\s<=3) (hd:dm s=.ms kk 0 (st.mem s).length) (hkk:h kk=.arr 1 els)
  (he:els[i]?=some (.ms q 0 w.length)) (hi:(st.mem s)[i]?=some w) (hq:h q=.arr 1 (wr w)) (rq:ro q=.row s i) (hl:w'.length=w.length) :
  Sc (ak h q (.arr 1 (wr w'))) ro dR dE dS dm { st with mem:=ak st.mem s ((st.mem s).set i w') }:=by
 have G:vK (λ r=>r≠.row s i) h ro (ak h q (.arr 1 (wr w'))) ro:=λ k _ hr=>by
  rw[aa _ _ (by rintro rfl;exact hr rq)];exact⟨rfl,rfl⟩
 refine⟨x.regs.jW G (by simp),λ s' h1 h2=>?_,x.ev.jW G (by simp),x.sl.jW G (by simp)⟩;by_cases e:s'=s
 ·subst e;simp only[af];obtain⟨k,u,Q,H⟩:=x.mem s' h1 h2;rw[hd]at Q;simp only[D.ms.injEq,true_and,and_true]at Q;subst Q;have:u=els:=by have:=H.hk;rw[hkk]at this;simpa using this.symm
  subst this;have O:kk≠q:=by rintro rfl;have:=H.rk;rw[rq]at this;cases this
  refine⟨kk,u,by rw[hd];simp,by rw[aa _ _ O];exact hkk,H.rk,by simp[H.len],λ j e v v1 v2=>?_⟩;by_cases S:j=i
  ·subst S;rw[he]at v1;cases v1;have I:=(aq.1 hi).1;rw[List.getElem?_set_self I]at v2;cases v2;exact Or.inr ⟨q,by rw[hl],af _ _ _,rq⟩
  ·rw[List.getElem?_set_ne (Ne.symm S)]at v2;exact(H.el j e v v1 v2).jW G (by simp[S])
 ·simp only[aa _ _ e];exact(x.mem s' h1 h2).jW G (by simp) (by simp[e])
section
variable {h:Heap}{ro:Ro}{n:Nat}{c:Code}{l:bG}{it:It}{dR dL dE:D}{dm:Nat->D}{nm:Nat}{ents:List (D×D)}{st:St}
theorem fH.new (x:fH h ro n c l it dR dL dE dm nm ents st){m:Nat}(hm:h m=.free) (s:Slot):fH (ak h m s) (ak ro m .no) n c l it dR dL dE dm nm ents st:=by
 have ne:∀k,h k≠.free->k≠m:=by rintro k hk rfl;exact hk hm
 have hn:=ne n (by rw[x.box];simp);have u:=ne nm (by rw[x.map];simp);refine⟨by rw[aa _ _ hn];exact x.box,by rw[aa _ _ hn];exact x.rb,x.sr.aS (gH.new hm _),by rw[aa _ _ u];exact x.map,by rw[aa _ _ u];exact x.rm,x.keys,x.tru,λ s i k els e w s1 s2 hd hk he hw=>?_⟩;obtain⟨k',I,G,U⟩:=x.sr.mem s s1 s2;rw[hd]at G;simp only[D.ms.injEq,true_and,and_true]at G;subst G;rw[aa _ _ (ne k (dD U.hk))]at hk;obtain⟨T,S⟩:=x.own s i k els e w s1 s2 hd hk he hw;refine⟨T,λ hne=>?_⟩;obtain⟨q,Q,H,O⟩:=S hne;have:=ne q (dD H);exact⟨q,Q,by rw[aa _ _ this];exact H,by rw[aa _ _ this];exact O⟩
theorem fH.ownRow (x:fH h ro n c l it dR dL dE dm nm ents st){s i kk q:Nat}{els:List D}{w:List Int}(hs:1<=s/\s<=3) (hd:dm s=.ms kk 0 (st.mem s).length) (hkk:h kk=.arr 1 els) (hi:(st.mem s)[i]?=some w)
  {h1:Heap}(hq:h q=.free) (hq1:h1 q=.arr 1 (wr w)) (h1k:∀k,h k≠.free->h1 k=h k) :
  fH (ak (ak h1 kk (.arr 1 (els.set i (.ms q 0 w.length)))) nm (.map (.pair .i64) (mset ents (nq s i) (.bool true)))) (ak ro q (.row s i)) n c l it dR dL dE dm nm (mset ents (nq s i) (.bool true)) st /\
   Fr ro h (ak ro q (.row s i)) (ak (ak h1 kk (.arr 1 (els.set i (.ms q 0 w.length)))) nm (.map (.pair .i64) (mset ents (nq s i) (.bool true)))):=by
 obtain⟨k0,u,S,g2⟩:=x.sr.mem s hs.1 hs.2;rw[hd]at S;simp only[D.ms.injEq,true_and,and_true]at S;subst S;have:u=els:=by have:=g2.hk;rw[hkk]at this;simpa using this.symm
 subst this;have neq:∀k,h k≠.free->k≠q:=by rintro k hk rfl;exact hk hq
 have a8:kk≠nm:=by rintro rfl;have:=x.map;rw[hkk]at this;cases this
 obtain⟨H,Z⟩:∃H,H=ak (ak h1 kk (.arr 1 (u.set i (.ms q 0 w.length)))) nm (.map (.pair .i64) (mset ents (nq s i) (.bool true))):=⟨_,rfl⟩;rw[<- Z];have same:∀k,h k≠.free->k≠kk->k≠nm->H k=h k:=λ k hk e1 e2=>by rw[Z,aa _ _ e2,aa _ _ e1];exact h1k k hk
 have T:H kk=.arr 1 (u.set i (.ms q 0 w.length)):=by rw[Z,aa _ _ a8,af]
 have a5:H nm=.map (.pair .i64) (mset ents (nq s i) (.bool true)):=by rw[Z,af]
 have qk:q≠kk:=λ e=>neq kk (dD hkk) e.symm
 have qn:q≠nm:=λ e=>neq nm (by rw[x.map];simp) e.symm
 have Hq:H q=.arr 1 (wr w):=by rw[Z,aa _ _ qn,aa _ _ qk];exact hq1
 have U:∀k,h k≠.free->ak ro q (.row s i) k=ro k:=λ k hk=>aa _ _ (neq k hk)
 have I:=g2.rk
 have Q:vK (λ r=>r≠.mem s/\r≠.map) h ro H (ak ro q (.row s i)):=λ k hk hr =>
  ⟨same k hk (by rintro rfl;exact hr.1 I) (by rintro rfl;exact hr.2 x.rm),U k hk⟩
 have a7:n≠kk:=by rintro rfl;have:=x.box;rw[hkk]at this;cases this
 have a6:n≠nm:=by rintro rfl;have:=x.box;rw[x.map]at this;cases this
 have W:h n≠.free:=by rw[x.box];simp
 have hlen:=g2.len;have c6:=(aq.1 hi).1;refine⟨⟨by rw[same n W a7 a6];exact x.box,by rw[U n W];exact x.rb,?_,a5,by rw[U nm (by rw[x.map];simp)];exact x.rm,Ms wT _ x.keys,OC _ x.tru,λ s' i' k els e w' s1 s2 G hk he O=>?_⟩,λ k hk=>?_⟩
 ·refine⟨x.sr.regs.jW Q (by simp),λ s' s1 s2=>?_,x.sr.ev.jW Q (by simp),x.sr.sl.jW Q (by simp)⟩;by_cases e:s'=s
  ·subst e;refine⟨kk,_,hd,T,by rw[U kk (dD hkk)];exact I,by simp[hlen],λ j e v v1 v2=>?_⟩;by_cases ej:j=i
   ·subst ej;rw[List.getElem?_set_self (by omega)]at v1;cases v1;rw[hi]at v2;cases v2;exact Or.inr ⟨q,rfl,Hq,af _ _ _⟩
   ·rw[List.getElem?_set_ne (Ne.symm ej)]at v1;exact(g2.el j e v v1 v2).jW Q (by simp)
  ·exact(x.sr.mem s' s1 s2).jW Q (by simp[e]) (by simp)
 ·obtain⟨p1,p2⟩:=G0 (k:=nq s i) (k':=nq s' i') (v:=.bool true) wT wT ents x.keys;by_cases es:s'=s
  ·subst es;rw[hd]at G;simp only[D.ms.injEq,true_and,and_true]at G;subst G;rw[T]at hk;simp only[Slot.arr.injEq,true_and]at hk;subst hk;by_cases ei:i'=i
   ·subst ei;rw[p1 rfl];rw[List.getElem?_set_self (by omega)]at he;cases he;rw[hi]at O;cases O;exact⟨λ h=>(by cases h),λ _=>⟨q,rfl,Hq,af _ _ _⟩⟩
   ·have hne:nq s' i'≠nq s' i:=by simp[nq];omega
    rw[p2 hne];rw[List.getElem?_set_ne (Ne.symm ei)]at he;obtain⟨a1,a2⟩:=x.own s' i' kk u e w' s1 s2 hd hkk he O;refine⟨a1,λ hn=>?_⟩;obtain⟨V,b1,b2,b3⟩:=a2 hn;obtain⟨c1,c2⟩:=Q V (dD b2) (by rw[b3];simp);exact⟨V,b1,by rw[c1];exact b2,by rw[c2];exact b3⟩
  ·have hne:nq s' i'≠nq s i:=by simp[nq];omega
   rw[p2 hne];obtain⟨k',c5,S,g3⟩:=x.sr.mem s' s1 s2;rw[G]at S;simp only[D.ms.injEq,true_and,and_true]at S;subst S;have c4:k≠kk:=by rintro rfl;have:=g3.rk;rw[I]at this;simp at this;exact es this.symm
   have c3:k≠nm:=by rintro rfl;have:=g3.hk;rw[x.map]at this;cases this
   rw[same k (dD g3.hk) c4 c3]at hk;obtain⟨a1,a2⟩:=x.own s' i' k els e w' s1 s2 G hk he O;refine⟨a1,λ hn=>?_⟩;obtain⟨V,b1,b2,b3⟩:=a2 hn;obtain⟨c1,c2⟩:=Q V (dD b2) (by rw[b3];simp);exact⟨V,b1,by rw[c1];exact b2,by rw[c2];exact b3⟩
 ·refine⟨U k hk,?_,λ hr=>same k hk (by rintro rfl;rw[I]at hr;cases hr) (by rintro rfl;rw[x.rm]at hr;cases hr)⟩;by_cases e1:k=nm
  ·subst e1;rw[a5];simp
  by_cases e2:k=kk
  ·subst e2;rw[T];simp
  rw[same k hk e2 e1];exact hk
end
end Go.Am
namespace Go.Am
open Go
theorem VB {P:Program}{kt:KeyT}{x k:Arg}{z:D}{ok:Bool}{h:Heap}{K:D->Prop}:an P (.look kt x k z ok) h K=ab P (.look kt x k z ok) h λ d _=>K d:=rfl
theorem aaB {P:Program}{nm:Nat}{key:D}{h:Heap}{ents:List (D×D)}(hm:h nm=.map (.pair .i64) ents) (hk:(KeyT.pair .i64).okB key=true){K:HKq} :
  ab P (.look (.pair .i64) (.c (.mp nm)) (.c key) (.bool false) false) h K=K ((mget ents key).getD (.bool false)) h:=by
 simp only[ab,vcOp,Arg.get,hk,hm,true_and];rfl
theorem aaA {P:Program}{nm:Nat}{key v:D}{h:Heap}{ents:List (D×D)}(hm:h nm=.map (.pair .i64) ents) (hk:(KeyT.pair .i64).okB key=true) (hv:v.one=true){K:HKq} :
  ab P (.mupd (.pair .i64) (.c (.mp nm)) (.c key) (.c v)) h K=K .undef (ak h nm (.map (.pair .i64) (mset ents key v))):=by
 simp only[ab,vcOp,Arg.get,hk,hv,hm,true_and]
theorem KU {P:Program}{fz:Bool}{esz:Nat}{z d:D}{h:Heap}{K:D->Prop}(h2:aD d) (h3:d.cells.length=esz) (hv:∀y∈d.cells,y.vone=true) (hz:∀y∈z.cells,y.vone=true) (hk:K (.sl [d])):an P (.bldS fz esz 1 z [(0,.c d)]) h K:=by
 refine⟨λ p hp=>by simp[Arg.get]at hp;subst hp;exact⟨Nat.one_pos,h3,h2⟩,λ p hp=>by simp[Arg.get]at hp;subst hp;exact hv,hz,?_⟩;simpa[Arg.get,setEls] using hk
section
variable {h:Heap}{ro:Ro}{n:Nat}{c:Code}{l:bG}{it:It}{dR dL dE:D}{dm:Nat->D}{nm:Nat}{ents:List (D×D)}{st:St}
theorem fH.store (x:fH h ro n c l it dR dL dE dm nm ents st){s k i:Nat}(hs:1<=s/\s<=3){w:List Int}(hk:(st.mem s)[k]?=some w) (hi:i<w.length) (hown:mget ents (nq s k)≠none){v:Int}{KH:HKq}
  (hK:∀h',Fr ro h ro h'->fH h' ro n c l it dR dL dE dm nm ents (st.put s k i v)->KH .undef h') :
  ab PP (.iadd (.c (dm s)) (.c (.int .i64 (k:Int))) 1) h λ a h1=>ab PP (.ld (.c a) 1 false) h1 λ b h2=>ab PP (.iadd (.c b) (.c (.int .i32 (i:Int))) 1) h2 λ e h3=>ab PP (.st (.c e) (.c (.int .i32 v)) 1) h3 KH:=by
 obtain⟨kk,els,hd,y⟩:=x.sr.mem s hs.1 hs.2;have a7:=(aq.1 hk).1;have hl:=y.len;have he:els[k]?=some (els[k]'(by omega)):=aG (by omega);obtain⟨q,hq,Q,hq2⟩:=(x.own s k kk els _ w hs.1 hs.2 hd y.hk he hk).2 hown;rw[hq]at he;rw[hd];simp only[↓cv,y.hk,Slot.row];refine⟨by omega,by omega,⟨_,rfl⟩,?_⟩;rw[kT,y.hk];refine⟨by simp;omega,λ e T=>?_⟩;rw[show 0+((k:Int)).toNat=k by omega,he]at T;cases T;simp only[↓bg,O9,List.getElem?_cons_zero,↓cv,Q,Slot.row];refine⟨by omega,by omega,⟨_,rfl⟩,?_⟩;rw[fG,Q];refine⟨rfl,by simp,by simp[wr];omega,by simp,λ d U=>?_⟩
 have e:setCells d 0 (D.int .i32 v).cells=.int .i32 v:=by
  rw[MZ,Option.map_eq_some_iff]at U;obtain⟨z,-,rfl⟩:=U;rfl
 rw[e,show 0+((i:Int)).toNat=i by omega,MY]
 have hp:st.put s k i v={ st with mem:=ak st.mem s ((st.mem s).set k (w.set i v)) }:=by
  simp only[St.put,Sz,List.getD_eq_getElem?_getD,hk,Option.getD_some]
 have hne:∀k',ro k'≠.row s k->k'≠q:=by rintro k' hr rfl;exact hr hq2
 have hn:=hne n (by rw[x.rb];simp);have a6:=hne nm (by rw[x.rm];simp);refine hK _ (Fr.aM (by rw[hq2];simp) (by simp)) ⟨by rw[aa _ _ hn];exact x.box,x.rb,?_,by rw[aa _ _ a6];exact x.map,x.rm,x.keys,x.tru,λ s' i' k' O e' w' s1 s2 I G H u=>?_⟩
 ·rw[hp];exact x.sr.ZZ hs hd y.hk he hk Q hq2 (by simp)
 ·obtain⟨k0,c1,W,g2⟩:=x.sr.mem s' s1 s2
  have hlen:((st.put s k i v).mem s').length=(st.mem s').length:=by
   rw[hp];by_cases es:s'=s
   ·subst es;simp
   ·simp[aa _ _ es]
  rw[hlen]at I;have S:=I;rw[W]at S;simp only[D.ms.injEq,true_and,and_true]at S;subst S;have a8:k0≠q:=hne k0 (by rw[g2.rk];simp);rw[aa _ _ a8]at G;by_cases es:s'=s/\i'=k
  ·obtain⟨rfl,rfl⟩:=es;rw[hd]at W;simp only[D.ms.injEq,true_and,and_true]at W;subst W;have:O=els:=by have:=y.hk;rw[G]at this;simpa using this
   subst this;rw[he]at H;cases H;rw[hp]at u;simp only[af]at u;rw[List.getElem?_set_self a7]at u;cases u;exact⟨λ h=>absurd h hown,λ _=>⟨q,by simp,by rw[af],hq2⟩⟩
  ·have a5:(st.mem s')[i']?=some w':=by
    rw[hp]at u;by_cases V:s'=s
    ·subst V;simp only[af]at u;rw[List.getElem?_set_ne (by rintro rfl;exact es ⟨rfl,rfl⟩)]at u;exact u
    ·simpa[aa _ _ V] using u
   obtain⟨a1,a2⟩:=x.own s' i' k0 O e' w' s1 s2 I G H a5;refine⟨a1,λ hh=>?_⟩;obtain⟨Z,b1,b2,b3⟩:=a2 hh;have:Z≠q:=hne Z (by rw[b3];simp;exact λ h1 h2=>es ⟨h1,h2⟩);exact⟨Z,b1,by rw[aa _ _ this];exact b2,b3⟩
theorem Xh (x:fH h ro n c l it dR dL dE dm nm ents st) (hc:ba c) (hw:Hz c st){k i:Nat}(hk:k<c.arrays.length) (hi:(i:Int)<kg c k){v:Int}{KH:HKq}
  (hK:∀h' ro',Fr ro h ro' h'->QO h' ro' n c l it (st.put (dV c k) k i v)->KH (.tup []) h'):ag PP nN [.ptr n 0 0,.int .i64 (k:Int),.int .i32 (i:Int),.int .i32 v] h KH:=by
 refine aI CU (aC _ _ _) rfl (CJ _ _ _ _ _) ?_;dsimp only[vr,xF,xI,xL,xS,yF,yL];obtain⟨r,hr,ho⟩:=hc.at hk;obtain⟨b1,b2⟩:=qX hc hk;obtain⟨w,H,c1,V⟩:=QS hc hw hk hi;have a5:r.space=((dV c k:Nat):Int):=by rw[qW hr];rcases ho.1 with h|h|h<;>rw[h]<;>rfl
 refine Ov x hc hk ?_;have e:=x.box;simp only[↓jc x.used,Nat.zero_add,Nat.reduceAdd,↓cT e (j:=5) rfl,↓Lb hr,↓BY,↓QE,↓acL,true_and];rw[fc];intro m t;rw[a5];rw[fG,af];refine⟨rfl,by simp,rfl,by simp,?_⟩;rw[lf];have ek:setCells (.agg [.int .i64 0,.int .i64 0]) 0 (D.agg [.int .i64 ((dV c k:Nat):Int),.int .i64 (k:Int)]).cells=nq (dV c k) k:=rfl;rw[ek];have u:=x.new t.free (.box (nq (dV c k) k));have f1:Fr ro h (ak ro m .no) (ak h m (.box (nq (dV c k) k))):=Fr.new t.free _;have hm:ak h m (.box (nq (dV c k) k)) m=.box (nq (dV c k) k):=af _ _ _;have rm:ak ro m .no m=.no:=af _ _ _;generalize ak h m (.box (nq (dV c k) k))=h1 at u f1 hm;generalize ak ro m .no=a1 at u f1 rm;refine⟨λ qs h'=>qs=[]/\∃ro' G,Fr ro h ro' h'/\fH h' ro' n c l it dR dL dE dm nm G st/\mget G (nq (dV c k) k)≠none,?_,?_⟩
 ·rintro f h' ⟨-,ro',G,f2,x2,hg⟩;refine x2.store (k:=k) ⟨b1,b2⟩ H V hg λ h3 f3 x3=>?_
  exact hK h3 ro' (f2.trans f3) ⟨_,_,_,_,_,_,x3⟩
 have eb:=u.box
 have a6:an PP (.ld (.c (.ptr m 0 0)) 2 true) h1=λ K=>K (nq (dV c k) k):=by
  funext K;rw[fB];exact eR hm
 simp only[↓bw,u.used,Nat.zero_add,Nat.reduceAdd,↓aX eb (j:=20) rfl,a6,↓VB,↓aaB u.map wT,true_and]
 cases hg:mget ents (nq (dV c k) k) with
 | some z =>
  have:=OD _ x.tru hg;subst this;simp only[Option.getD_some,↓XF,↓ah];exact⟨by simp,a1,ents,f1,u,by rw[hg];simp⟩
 | none =>
  simp only[Option.getD_none,↓aai,↓ai];obtain⟨O,els,hd,y⟩:=u.sr.mem _ b1 b2;have c2:=(aq.1 H).1;have hl:=y.len;have he:els[k]?=some (els[k]'(by omega)):=aG (by omega);have a7:=(u.own _ k O els _ w b1 b2 hd y.hk he H).1 hg;rw[a7]at he
  have a2:w.length<=1000000:=by
   have h1:=((hw.mem _ b1 b2).w k r w hr H).1;have:=ho.2.2;rw[h1];unfold PH;split<;>omega
  rw[hd];simp only[↓cv,y.hk,Slot.row];refine⟨by omega,by omega,⟨_,rfl⟩,?_⟩;rw[kT,y.hk];refine⟨by simp;omega,λ e Z=>?_⟩;rw[show 0+((k:Int)).toNat=k by omega,he]at Z;cases Z;have a8:(words w).cells=[words w]:=rfl;simp only[↓bg,a8,List.getElem?_cons_zero];refine Nf (by rintro rfl;simp at V) a2 λ q h2 hq hq2 I=>?_
  have Q:h2 O=.arr 1 els:=by rw[I O (dD y.hk)];exact y.hk
  simp only[↓cv,Q,Slot.row];refine⟨by omega,by omega,⟨_,rfl⟩,?_⟩;rw[fG,Q];refine⟨rfl,by simp,by simp;omega,by simp,λ d S=>?_⟩;rw[show 0+((k:Int)).toNat=k by omega]at S ⊢;rw[he]at S;cases S;have es:setCells (words w) 0 (D.ms q 0 w.length).cells=.ms q 0 w.length:=rfl;rw[es];obtain⟨y1,y2⟩:=u.ownRow ⟨b1,b2⟩ hd y.hk H hq hq2 I;have U:∀j d,h1 j=.box d->j≠O:=by rintro j d hj rfl;rw[y.hk]at hj;cases hj
  have n3:ak h2 O (.arr 1 (els.set k (.ms q 0 w.length))) n=.box (.agg (nM c l it dR (dm 3) dL (dm 1) (dm 2) dE nm)):=by
   rw[aa _ _ (U n _ u.box),I n (by rw[u.box];simp)];exact u.box
  have m3:ak h2 O (.arr 1 (els.set k (.ms q 0 w.length))) m=.box (nq (dV c k) k):=by
   rw[aa _ _ (U m _ hm),I m (by rw[hm];simp)];exact hm
  have T:ak h2 O (.arr 1 (els.set k (.ms q 0 w.length))) nm=.map (.pair .i64) ents:=by
   rw[aa _ _ (by rintro rfl;have:=u.map;rw[y.hk]at this;cases this),I nm (by rw[u.map];simp)];exact u.map
  generalize ak h2 O (.arr 1 (els.set k (.ms q 0 w.length)))=h3 at y1 y2 n3 m3 T;have u3:(h3 n).used=true:=by rw[n3];rfl
  have W:an PP (.ld (.c (.ptr m 0 0)) 2 true) h3=λ K=>K (nq (dV c k) k):=by
   funext K;rw[fB];exact eR m3
  simp only[↓bw,u3,Nat.zero_add,Nat.reduceAdd,↓aX n3 (j:=20) rfl,W,↓aaA T wT (show(D.bool true).one=true from rfl),true_and];refine⟨by simp,_,_,f1.trans y2,y1,?_⟩;rw[(G0 wT wT ents u.keys).1 rfl];simp
theorem PX (x:fH h ro n c l it dR dL dE dm nm ents st) (hc:ba c) (hw:Hz c st) (hev:st.ev.length<=1000000){e:Ev}(hk:e.kind≠4->∃k:Nat,e.arr=(k:Int)/\k<c.arrays.length){KH:HKq}
  (hK:∀h' ro',Fr ro h ro' h'->QO h' ro' n c l it (st.tell c e)->KH (.tup []) h'):ag PP ja [.ptr n 0 0,e.e] h KH:=by
 refine aI EA (aC _ _ _) rfl (Em _ _ _) ?_;dsimp only[xG,xB,xS,yF,yI,yL,yP];rw[jX];refine⟨e.bR.one,λ m t=>?_⟩;have u:=x.new t.free (.box e.e);have f1:Fr ro h (ak ro m .no) (ak h m (.box e.e)):=Fr.new t.free _;have hm:ak h m (.box e.e) m=.box (.agg e.cs):=af _ _ _;generalize ak h m (.box e.e)=h1 at u f1 hm;generalize ak ro m .no=G at u f1;have um:(h1 m).used=true:=by rw[hm];rfl
 have T:=u.box
 have app:st.tell c e={ st with ev:=st.ev++[e] } ->
   an PP (.ld (.c (.ptr n 0 19)) 1 false) h1 λ e7=>an PP (.ld (.c (.ptr m 0 0)) 9 true) h1 λ e6 =>
   an PP (.bldS false 9 1 (.agg [(.int .i64 0),(.int .i64 0),(.int .i64 0),(.int .i64 0),(.int .i64 0),(.int .i64 0),(.int .i64 0),(.int .i64 0),(.int .i32 0)]) [(0,(.c e6))]) h1 λ e5 =>
   ab PP (.app (.c e7) (.c e5) 9 72 (.agg [(.int .i64 0),(.int .i64 0),(.int .i64 0),(.int .i64 0),(.int .i64 0),(.int .i64 0),(.int .i64 0),(.int .i64 0),(.int .i32 0)])) h1 λ e4 c8 =>
   ab PP (.st (.c (.ptr n 0 19)) (.c e4) 1) c8 λ e1 Q=>KH (.tup []) Q:=by
  intro I
  have c5:an PP (.ld (.c (.ptr m 0 0)) 9 true) h1=λ K=>K e.e:=by
   funext K;rw[fB];exact eR hm
  simp only[↓aX T (j:=19) rfl,c5];refine KU e.bR.one rfl (by simp[Ev.e,Ev.cs]) (by simp) ?_
  have fin:∀(q:Nat) (h2:Heap),h1 q=.free->h2 q=.arr 9 ((st.ev++[e]).map Ev.e)->(∀k,h1 k≠.free->G k≠.ev->h2 k=h1 k)->(∀k,h1 k≠.free->h2 k≠.free)->ab PP (.st (.c (.ptr n 0 19)) (.c (.ms q 0 (st.ev.length+1))) 1) h2 λ e1 Q=>KH (.tup []) Q:=by
   intro q h2 hq hq2 a5 c9;have n2:h2 n=.box (.agg (nM c l it dR (dm 3) dL (dm 1) (dm 2) dE nm)):=by rw[a5 n (by rw[T];simp) (by rw[u.rb];simp)];exact T
   rw[fG,n2];refine⟨rfl,by simp,rfl,by simp,?_⟩;have es:setCells (.agg (nM c l it dR (dm 3) dL (dm 1) (dm 2) dE nm)) 19 (D.ms q 0 (st.ev.length+1)).cells=.agg (nM c l it dR (dm 3) dL (dm 1) (dm 2) (.ms q 0 (st.ev.length+1)) nm):=rfl;rw[es];have neq:∀k,h1 k≠.free->k≠q:=by rintro k hk rfl;exact hk hq
   have a8:=neq n (by rw[T];simp);obtain⟨H,S⟩:∃H,H=ak h2 n (.box (.agg (nM c l it dR (dm 3) dL (dm 1) (dm 2) (.ms q 0 (st.ev.length+1)) nm))):=⟨_,rfl⟩;rw[<- S];have same:∀k,h1 k≠.free->G k≠.ev->k≠n->H k=h1 k:=λ k a1 a2 a3=>by rw[S,aa _ _ a3];exact a5 k a1 a2
   have rr:∀k,h1 k≠.free->ak G q .ev k=G k:=λ k hk=>aa _ _ (neq k hk)
   have U:vK (λ r=>r≠.ev/\r≠.box) h1 G H (ak G q .ev):=λ k hk hr=>⟨same k hk hr.1 (by rintro rfl;exact hr.2 u.rb),rr k hk⟩
   have c4:nm≠n:=by rintro rfl;have:=u.box;rw[u.map]at this;cases this
   refine hK H (ak G q .ev) (f1.trans λ k hk=>⟨rr k hk,?_,λ hr=>same k hk (by rw[hr];simp) (by rintro rfl;rw[u.rb]at hr;cases hr)⟩) ⟨dR,dL,.ms q 0 (st.ev.length+1),dm,nm,ents,⟨by rw[S,af],by rw[rr n (by rw[T];simp)];exact u.rb,?_,?_,?_,u.keys,u.tru,?_⟩⟩
   ·by_cases a6:k=n
    ·subst a6;rw[S,af];simp
    ·rw[S,aa _ _ a6];exact c9 k hk
   ·rw[I];refine⟨u.sr.regs.jW U (by simp),λ s s1 s2=>(u.sr.mem s s1 s2).jW U (by simp) (by simp),Or.inr ⟨q,by simp,by rw[S,aa _ _ a8.symm];exact hq2,af _ _ _⟩,u.sr.sl.jW U (by simp)⟩
   ·rw[same nm (by rw[u.map];simp) (by rw[u.rm];simp) c4];exact u.map
   ·rw[rr nm (by rw[u.map];simp)];exact u.rm
   ·intro s i k els e' w s1 s2 hd hk he V;rw[I]at hd V;obtain⟨k0,e8,g1,g2⟩:=u.sr.mem s s1 s2;rw[g1]at hd;simp only[D.ms.injEq,true_and,and_true]at hd;subst hd;rw[(U k0 (dD g2.hk) (by rw[g2.rk];simp)).1]at hk;obtain⟨a1,a2⟩:=u.own s i k0 els e' w s1 s2 g1 hk he V;refine⟨a1,λ hh=>?_⟩;obtain⟨q',c1,c2,c3⟩:=a2 hh;obtain⟨d1,d2⟩:=U q' (dD c2) (by rw[c3];simp);exact⟨q',c1,by rw[d1];exact c2,by rw[d2];exact c3⟩
  have l1:(0+1)*72<=140737488355328:=by omega
  rcases u.sr.ev with⟨rfl,h0⟩|⟨q0,rfl,h2,h3⟩
  ·rw[h0]at fin;refine⟨λ y hy=>by simp at hy;subst hy;rfl,λ y hy=>by simp at hy;subst hy;exact e.bR.one,⟨by simp,by simp⟩,λ q t2=>?_⟩;exact fin q _ t2.free (by rw[af];rfl) (λ k hk _=>aa _ _ (t2.ne hk)) λ k hk=>by rw[aa _ _ (t2.ne hk)];exact hk
  ·refine⟨λ y hy=>by simp at hy;subst hy;rfl,λ y hy=>by simp at hy;subst hy;exact e.bR.one,_,.of h2,by simp,⟨by simp;omega,by simp;omega⟩,λ q t2=>⟨?_,λ h0=>absurd rfl h0⟩⟩;refine fin q _ t2.free (by rw[af];simp) (λ k hk hr=>?_) λ k hk=>?_
   ·rw[aa _ _ (t2.ne hk),aa _ _ (by rintro rfl;exact hr h3)]
   ·rw[aa _ _ (t2.ne hk)];by_cases e0:k=q0
    ·subst e0;rw[af];simp
    ·rw[aa _ _ e0];exact hk
 have Z:∀{K:D->Prop},an PP (.ld (.c (.ptr m 0 0)) 1 false) h1 K=K (.int .i64 e.kind):=λ {K}=>aX hm rfl
 have W:∀{K:D->Prop},an PP (.ld (.c (.ptr m 0 6)) 1 false) h1 K=K (.int .i64 e.arr):=λ {K}=>aX hm rfl
 simp only[↓bw,um,Nat.zero_add,Nat.reduceAdd,Z,↓mA,true_and];by_cases h4:e.kind=4
 ·simp only[h4,decide_true,Bool.not_true,↓aaI,↓BO,↓qV,↓C2,↓ah,u.used,↓bw,Nat.zero_add,Nat.reduceAdd,true_and];exact app (by simp[St.tell,h4])
 ·obtain⟨k,O,c6⟩:=hk h4;obtain⟨r,hr,ho⟩:=hc.at c6;have c7:∀{K:D->Prop},an PP (.iadd (.c (.sl (c.arrays.map fv.e))) (.c (.int .i64 (k:Int))) 4) h1 K=K (.vp r.e 0):=λ {K}=>by rw[eD,Lb hr]
  have a7:∀{K:D->Prop},an PP (.ld (.c (.vp r.e 1)) 1 false) h1 K=K (.int .i64 r.space):=λ {K}=>by rw[fB,QE]
  simp only[h4,decide_false,Bool.not_false,↓aaH,↓bw,u.used,um,Nat.zero_add,Nat.reduceAdd,↓aX T (j:=5) rfl,W,O,c7,↓qo,a7,↓bZ,↓qV,↓zN,true_and];by_cases h3:r.space=3
  ·simp only[h3,decide_true,↓ai];refine hK h1 G f1 ?_;have:st.tell c e=st:=by simp[St.tell,h4,O,qW hr,h3]
   rw[this];exact⟨_,_,_,_,_,_,u⟩
  ·simp only[h3,decide_false,↓ah];refine app ?_;have:r.space.toNat≠3:=by rcases ho.1 with h|h|h<;>rw[h]<;>first|omega|(exact absurd h h3)
   simp[St.tell,h4,O,qW hr,this]
end
end Go.Am
namespace Go.Am
open Go
theorem Eu.ops {R:Int}{x:aW}(h:Eu R x):CP R x.a/\CP R x.b/\CP R x.c:=by
 cases h with
 | mov d a h1 h2=>exact⟨h2.r,dO,dO⟩
 | un s d a h0 h1 h2=>exact⟨h2.r,dO,dO⟩
 | bin s d a b h0 h1 h2 h3=>exact⟨h2.r,h3.r,dO⟩
 | sel d a b c h1 h2 h3 h4=>exact⟨h2.r,h3.r,h4.r⟩
 | id s d h0 h1=>exact⟨dO,dO,dO⟩
 | param n d h0 h1=>exact⟨dO,dO,dO⟩
 | load n d a h0 h1 h2=>exact⟨h2.r,dO,dO⟩
 | store n a b h0 h1 h2=>exact⟨h1.r,h2.r,dO⟩
 | atom s n a b hs h0 h1 h2=>exact⟨h1.r,h2.r,dO⟩
 | fence s h0=>exact⟨dO,dO,dO⟩
theorem Bi.ops {c:Code}{x:aW}(h:Bi c x):CP c.regs x.a/\CP c.regs x.b/\CP c.regs x.c:=h.ok.ops
theorem W6 {P:Program}{h:Heap}{ro:Ro}{dR dE dS:D}{dm:Nat->D}{st:St}(x:Sc h ro dR dE dS dm st){i:Nat}{v:Int}(hi:i<st.regs.length){KH:HKq}
  (hK:∀q,ro q=.regs->Sc (ak h q (.arr 1 (wr (st.regs.set i v)))) ro dR dE dS dm (st.tT i v)->KH .undef (ak h q (.arr 1 (wr (st.regs.set i v))))) :
  an P (.iadd (.c dR) (.c (.int .i64 (i:Int))) 1) h λ a=>ab P (.st (.c a) (.c (.int .i32 v)) 1) h KH:=by
 rw[eD];obtain⟨q,rfl,h2,h3⟩:=x.regs;have:=Z2 (P:=P) x hi hK;rw[cv]at this ⊢;exact this
section
variable {h:Heap}{ro:Ro}{n:Nat}{c:Code}{l:bG}{it:It}{dR dL dE:D}{dm:Nat->D}{nm:Nat}{ents:List (D×D)}{st:St}
theorem fH.chg (x:fH h ro n c l it dR dL dE dm nm ents st){h':Heap}{ro':Ro}{st':St}(kp:vK (λ r=>r≠.no/\r≠.regs) h ro h' ro') (sr':Sc h' ro' dR dE dL dm st') (hm:st'.mem=st.mem):fH h' ro' n c l it dR dL dE dm nm ents st':=by
 obtain⟨n1,T⟩:=kp n (by rw[x.box];simp) (by rw[x.rb];simp);obtain⟨V,U⟩:=kp nm (by rw[x.map];simp) (by rw[x.rm];simp);refine⟨by rw[n1];exact x.box,by rw[T];exact x.rb,sr',by rw[V];exact x.map,by rw[U];exact x.rm,x.keys,x.tru,λ s i k els e w s1 s2 hd hk he hw=>?_⟩;rw[hm]at hd hw;obtain⟨G,O,I,H⟩:=x.sr.mem s s1 s2;rw[I]at hd;simp only[D.ms.injEq,true_and,and_true]at hd;subst hd;rw[(kp G (dD H.hk) (by rw[H.rk];simp)).1]at hk;obtain⟨a1,a2⟩:=x.own s i G els e w s1 s2 I hk he hw;refine⟨a1,λ W=>?_⟩;obtain⟨u,Z,S,Q⟩:=a2 W;obtain⟨d1,d2⟩:=kp u (dD S) (by rw[Q];simp);exact⟨u,Z,by rw[d1];exact S,by rw[d2];exact Q⟩
theorem fH.ext (x:fH h ro n c l it dR dL dE dm nm ents st){h':Heap}(e:Ext h h'):fH h' ro n c l it dR dL dE dm nm ents st :=
 x.chg (λ k hk _=>⟨e k hk,rfl⟩) (x.sr.aS (gH.ext e)) rfl
theorem fH.ab0 (x:fH h ro n c l it dR dL dE dm nm ents st){i:Nat}{v:Int}(hi:i<st.regs.length){KH:HKq}
  (hK:∀h',Fr ro h ro h'->fH h' ro n c l it dR dL dE dm nm ents (st.tT i v)->KH .undef h'):an PP (.iadd (.c dR) (.c (.int .i64 (i:Int))) 1) h λ a=>ab PP (.st (.c a) (.c (.int .i32 v)) 1) h KH:=by
 refine W6 x.sr hi λ q hq y=>hK _ (Fr.aM (by rw[hq];simp) (by simp)) (x.chg (λ k hk hr=>?_) y rfl)
 rw[aa _ _ (by rintro rfl;exact hr.2 hq)];exact⟨rfl,rfl⟩
theorem fH.Ko (x:fH h ro n c l it dR dL dE dm nm ents st):[D.int .i64 it.id,.int .i64 it.at_,.int .i64 it.block,.int .i64 it.epoch,dm 3,dL].all D.one=true:=by
 simp[(x.sr.mem 3 (by omega) (by omega)).one,x.sr.sl.one]
def Ty (it:It) (dR dP dL:D):D:=.agg [.int .i64 it.id,.int .i64 it.at_,.int .i64 it.block,.int .i64 it.epoch,dR,dP,dL]
theorem fH.XW (x:fH h ro n c l it dR dL dE dm nm ents st){K:D->Prop}:an PP (.ld (.c (.ptr n 0 10)) 7 true) h K=K (Ty it dR (dm 3) dL):=by
 rw[fB,SJ x.box (by simp[nM])];rfl
theorem Re (x:fH h ro n c l it dR dL dE dm nm ents st){o:fQ}(ho:CP st.regs.length o){KH:HKq}(hK:∀h',Ext h h'->fH h' ro n c l it dR dL dE dm nm ents st->KH (.int .i32 (bN st.regs o)) h') :
  ag PP cP [Ty it dR (dm 3) dL,o.e] h KH:=Rg x.Ko x.sr.regs.row ho λ h' e=>hK h' e (x.ext e)
theorem Z5 (x:fH h ro n c l it dR dL dE dm nm ents st) (hc:ba c) (hl:bY c l) (hid:0<=it.id/\it.id<l.groups*c.group) (hw:Hz c st){xi:aW}(hx:Bi c xi) (hop:xi.op<=6){KH:HKq}
  (hK:∀h',Ext h h'->KH (.int .i32 (sx c l it.id xi st.regs)) h'):ag PP pj [.ptr n 0 0,xi.e,.int .i32 (bN st.regs xi.a),.int .i32 (bN st.regs xi.b)] h KH:=by
 refine aI EB (aC _ _ _) rfl (En _ _ _ _ _) ?_;dsimp only[xH,xB,xF,xL,yF,yI,yL];rw[jX];refine⟨xi.bR.one,λ m t=>?_⟩;have H:=x.new t.free (.box xi.e);have f1:Ext h (ak h m (.box xi.e)):=Ext.new t _;have hm:ak h m (.box xi.e) m=.box (.agg xi.cs):=af _ _ _;generalize ak h m (.box xi.e)=h1 at H f1 hm;generalize ak ro m .no=a1 at H;have S:(h1 m).used=true:=by rw[hm];rfl
 have T:=H.box;refine⟨λ U h'=>U=[.int .i32 (sx c l it.id xi st.regs)]/\Ext h h',?_,?_⟩
 ·rintro f h' ⟨Q,e⟩;simp only[av,and_true]at Q;rw[Q];exact hK h' e
 have va:=λ {o:fQ}(ho:jH c.regs o)=>oh hw.regs ho
 have V:∀{K:D->Prop}{j:Nat},j+3<=15->an PP (.ld (.c (.ptr m 0 j)) 3 true) h1 K=K (.agg ((xi.cs.drop j).take 3)):=λ {K j} W=>by rw[fB,SJ hm (by simp[aW.cs];omega)]
 have O:∀{K:D->Prop}{j:Nat}{d:D},xi.cs[j]?=some d->an PP (.ld (.c (.ptr m 0 j)) 1 false) h1 K=K d:=λ {K j d} W=>aX hm W
 simp only[↓jc S,Nat.zero_add,↓cT hm (j:=0) rfl,↓cT hm (j:=1) rfl,↓bZ,true_and];obtain⟨hx,-,I⟩:=hx
 cases hx with
 | mov d a u h2 =>
  simp only[Int.reduceEq,decide_false,↓ah];exact⟨by simp,by simp[sx],f1⟩
 | un s d a h0 u h2 =>
  simp only[decide_true,↓ai];refine bk (adr h0) (Ko rfl) ?_;rintro _ rfl;simp only[↓Vr,↓Vp];exact⟨by simp,by simp[sx],f1⟩
 | bin s d a b h0 u h2 h3 =>
  simp only[Int.reduceEq,decide_false,↓ah,decide_true,↓ai];refine bk (Y0 h0 (va h2) (va h3)) (Ko rfl) ?_;rintro _ rfl;simp only[↓Vr,↓Vp];exact⟨by simp,by simp[sx],f1⟩
 | sel d a b Z u h2 h3 h4 =>
  simp only[Int.reduceEq,decide_false,↓ah,decide_true,↓ai];refine⟨λ U h'=>U=[.int .i32 (sx c l it.id ⟨4,0,0,d,a,b,Z⟩ st.regs)]/\Ext h h',?_,?_⟩
  ·rintro f h' ⟨Q,e⟩;simp only[av,and_true]at Q;rw[Q];exact⟨by simp,rfl,e⟩
  by_cases G:bN st.regs a=0
  ·simp only[G,decide_true,↓ai,↓bw,H.used,S,Nat.zero_add,Nat.reduceAdd,H.XW,↓V (j:=12) (by omega),true_and];refine Re H (o:=Z) (by rw[hw.len];exact h4.r) λ h' e _=>?_
   exact⟨by simp,by simp[sx,G],f1.trans e⟩
  ·simp only[G,decide_false,↓ah];exact⟨by simp,by simp[sx,G],f1⟩
 | id s d h0 u =>
  simp only[Int.reduceEq,decide_false,↓ah,decide_true,↓ai];have e8:∀{K:D->Prop},an PP (.ld (.c (.ptr n 0 0)) 8 true) h1 K=K c.e:=λ {K}=>by rw[fB,SJ T (by simp[nM])];rfl
  have e2:∀{K:D->Prop},an PP (.ld (.c (.ptr n 0 8)) 2 true) h1 K=K l.e:=λ {K}=>by rw[fB,SJ T (by simp[nM])];rfl
  simp only[↓bw,H.used,S,Nat.zero_add,Nat.reduceAdd,e8,e2,↓aX T (j:=10) rfl,↓O (j:=1) rfl,true_and];refine ud (adt (hc.l1 hl hid) h0) ?_ ?_
  ·intro z G;simp[Arg.get]at G;rcases G with rfl|rfl|rfl|rfl
   ·exact kL c
   ·exact⟨rfl,List.all_eq_true.1 (bG.on l)⟩
   ·exact dT
   ·exact dT
  ·simp only[↓Vw,↓Vv];exact⟨by simp,by simp[sx],f1⟩
 | param k d h0 u =>
  simp only[Int.reduceEq,decide_false,↓ah,decide_true,↓ai];simp only[↓bw,H.used,S,Nat.zero_add,Nat.reduceAdd,↓aX T (j:=9) rfl,↓O (j:=2) rfl,true_and];have a2:=hl.a;have I:=I rfl;simp only at I;obtain⟨i,rfl⟩:∃i:Nat,k=(i:Int):=⟨k.toNat,by omega⟩;have hi:l.args[i]?=some (l.args.getD i 0):=by rw[List.getD_eq_getElem?_getD,aG (by omega)];rfl
  rw[eD];simp only[words,↓jq,aE];refine⟨by omega,by omega,λ z G=>?_⟩
  have:z=.int .i32 (l.args.getD i 0):=by
   rw[List.getElem?_map,aT,hi]at G;simpa using G.symm
  subst this;refine⟨rfl,?_⟩;simp only[↓fB,↓kH,↓bg,lV,List.getElem?_cons_zero];refine⟨by simp,by simp[sx],f1⟩
 | load _ _ _ _ _ _=>simp at hop
 | store _ _ _ _ _ _=>simp at hop
 | atom _ _ _ _ _ _ _ _=>simp at hop
 | fence _ _=>simp at hop
end
end Go.Am
namespace Go.Am
open Go
theorem Eu.tT {R:Int}{x:aW}(h:Eu R x) (ho:x.op<=7):uh R x.d:=by
 cases h<;>first|assumption|simp at ho
theorem Eu.opc {R:Int}{x:aW}(h:Eu R x):x.op<=6\/x.op=7\/x.op=8\/x.op=9\/x.op=10:=by cases h<;>simp
theorem Eu.RP {R:Int}{x:aW}(h:Eu R x) (h9:x.op=9):10<=x.sub/\x.sub<=29:=by
 cases h with
 | atom s n a b hs h0 h1 h2=>rcases hs with rfl|rfl|rfl|rfl|rfl|rfl<;>simp
 | _=>simp at h9
theorem cr {p:Prop}[Decidable p] {a b:Int}(ha:mm a) (hb:mm b):mm (if p then a else b):=by split<;>assumption
theorem NJ {s a b:Int}(_hs:10<=s/\s<=29) (ha:mm a) (hb:mm b):mm (Pj s a b):=by
 have hp:1<=(2:Int) ^ (min (b % 32).toNat 32):=by
  have:0<(2:Int) ^ (min (b % 32).toNat 32):=Int.pow_pos (by omega);omega
 have z:mm 0:=⟨by omega,by omega⟩;have o:mm 1:=⟨by omega,by omega⟩
 exact cr (dW _)<|cr (dW _)<|cr (dW _)<|cr (cr z (dW _))<|cr (cr ha (Q0 ha))<|cr (dW _)<|cr (cr z (dW _)) <|
  cr (dW _)<|cr (dW _)<|cr (dW _)<|cr (dW _)<|cr (Rx ha hp)<|cr (cr hb ha)<|cr (cr hb ha) (cr o z)
theorem Bi.tT {c:Code}{x:aW}(h:Bi c x) (ho:x.op<=7):uh c.regs x.d:=h.ok.tT ho
theorem Bi.opc {c:Code}{x:aW}(h:Bi c x):x.op<=6\/x.op=7\/x.op=8\/x.op=9\/x.op=10:=h.ok.opc
theorem Bi.RP {c:Code}{x:aW}(h:Bi c x) (h9:x.op=9):10<=x.sub/\x.sub<=29:=h.ok.RP h9
theorem Bi.acc {c:Code}{x:aW}(h:Bi c x) (ho:x.op=7\/x.op=8\/x.op=9):∃k:Nat,x.n=(k:Int)/\k<c.arrays.length/\jH c.regs x.a/\(x.op≠7->jH c.regs x.b):=by
 obtain⟨k,G,u⟩:=h.n ho;refine⟨k,G,u,?_⟩;obtain⟨hx,-,-⟩:=h
 cases hx with
 | load k d a h0 h1 h2=>exact⟨h2,λ h=>absurd rfl h⟩
 | store k a b h0 h1 h2=>exact⟨h1,λ _=>h2⟩
 | atom s k a b hs h0 h1 h2=>exact⟨h1,λ _=>h2⟩
 | _=>simp at ho
theorem XV {P:Program}{h:Heap}{n j:Nat}{cs:List D}{d:D}(a:h n=.box (.agg cs)) (hj:cs[j]?=some d){K:D->Prop}:an P (.ld (.c (.ptr n 0 j)) 1 false) h K=K d:=aX a hj
theorem ZK {P:Program}{h:Heap}{n j:Nat}{e e':Ev}{d:D}(a:h n=.box e.e) (hd:d.one=true) (hs:setCells e.e j d.cells=e'.e) (hj:j+1<=9) (hc:d.cells=[d]){K:HKq}(hK:K .undef (ak h n (.box e'.e))) :
  ab P (.st (.c (.ptr n 0 j)) (.c d) 1) h K:=by
 rw[fG,a];refine⟨by rw[hc];rfl,λ x hx=>?_,rfl,?_,by rw[hs];exact hK⟩
 ·rw[hc]at hx;simp at hx;subst hx;exact hd
 ·simpa[Ev.e,Ev.cs] using hj
theorem uA {α:Type}{f:Nat->α}{n:Nat}{a b:α}:ak (ak f n a) n b=ak f n b:=lf f n a b
theorem Fr.PN {ro ro':Ro}{h g:Heap}{p:Nat}{s:Slot}(f:Fr ro h ro' g) (hp:h p=.free):Fr ro h ro' (ak g p s):=λ k hk=>by
 have:k≠p:=by rintro rfl;exact hk hp
 rw[aa _ _ this];exact f k hk
theorem Uq {ar:List fv}{s:Nat}{m:Mm}(h:cq ar s m){n i:Nat}{v:Int}(hv:mm v):cq ar s (Sz m n i v):=by
 refine⟨by simp[Sz,h.len],λ j a w ha hw=>?_⟩;unfold Sz at hw;by_cases e:n=j
 ·subst e;have u:=(aq.1 hw).1;simp only[List.length_set]at u;rw[List.getElem?_set_self u]at hw;cases hw;rw[List.getD_eq_getElem?_getD,aG u,Option.getD_some];obtain⟨H,G⟩:=h.w n a _ ha (aG u);exact⟨by simp[H],JD G hv⟩
 ·rw[List.getElem?_set_ne e]at hw;exact h.w j a w ha hw
theorem Hz.put {c:Code}{st:St}(h:Hz c st){s k i:Nat}{v:Int}(hv:mm v):Hz c (st.put s k i v):=by
 refine⟨h.len,h.regs,λ s' s1 s2=>?_⟩;simp only[St.put];by_cases e:s'=s
 ·subst e;rw[af];exact Uq (h.mem s' s1 s2) hv
 ·rw[aa _ _ e];exact h.mem s' s1 s2
theorem H3 {P:Program}{h:Heap}{m p:Nat}{xs:List D}{e e':Ev}{j g:Nat}{z d:D}(hm:h m=.box (.agg xs)) (hp:h p=.box e.e) (hmp:m≠p) (hd:d.one=true) (hc:d.cells=[d]) (hj:j+1<=9) (hs:setCells e.e j d.cells=e'.e) (hg:xs[g]?=some z)
  {K:Heap->Prop}(hK:K (ak h p (.box e'.e))) :
  ab P (.st (.c (.ptr p 0 j)) (.c d) 1) h λ _ h1=>((an P (.ld (.c (.ptr m 0 g)) 1 false) h1 λ a=>aB [a] [z])/\True)/\K h1:=by
 refine ZK hp hd hs hj hc ?_;have u:ak h p (.box e'.e) m=.box (.agg xs):=by rw[aa _ _ hmp];exact hm
 refine⟨⟨?_,trivial⟩,hK⟩;rw[XV u hg];simp
theorem MG {P:Program}{h:Heap}{m p:Nat}{xi:aW}{e:Ev}(hm:h m=.box (.agg xi.cs)) (hp:h p=.box e.e) (hmp:m≠p){kd a w:Int}{K:Heap->Prop}(hK:K (ak h p (.box ({ e with kind:=kd,arr:=xi.n,i:=a,v:=w }:Ev).e))) :
  ab P (.st (.c (.ptr p 0 0)) (.c (.int .i64 kd)) 1) h λ _ h1=>((an P (.ld (.c (.ptr m 0 2)) 1 false) h1 λ a=>aB [a] [.int .i64 xi.n])/\True) /\
  ab P (.st (.c (.ptr p 0 6)) (.c (.int .i64 xi.n)) 1) h1 λ _ h1=>((an P (.ld (.c (.ptr m 0 2)) 1 false) h1 λ a=>aB [a] [.int .i64 xi.n])/\True) /\
  ab P (.st (.c (.ptr p 0 7)) (.c (.int .i64 a)) 1) h1 λ _ h1=>((an P (.ld (.c (.ptr m 0 2)) 1 false) h1 λ a=>aB [a] [.int .i64 xi.n])/\True) /\
  ab P (.st (.c (.ptr p 0 8)) (.c (.int .i32 w)) 1) h1 λ _ h1=>((an P (.ld (.c (.ptr m 0 2)) 1 false) h1 λ a=>aB [a] [.int .i64 xi.n])/\True)/\K h1:=by
 have u:∀{s:Slot}{g:Heap},g m=.box (.agg xi.cs)->ak g p s m=.box (.agg xi.cs):=λ {s g} hg=>by rw[aa _ _ hmp];exact hg
 refine H3 (e':={ e with kind:=kd }) hm hp hmp rfl rfl (by omega) rfl rfl ?_;refine H3 (e':={ e with kind:=kd,arr:=xi.n }) (u hm) (af _ _ _) hmp rfl rfl (by omega) rfl rfl ?_;refine H3 (e':={ e with kind:=kd,arr:=xi.n,i:=a }) (u (u hm)) (af _ _ _) hmp rfl rfl (by omega) rfl rfl ?_;refine H3 (e':={ e with kind:=kd,arr:=xi.n,i:=a,v:=w }) (u (u (u hm))) (af _ _ _) hmp rfl rfl (by omega) rfl rfl ?_;rw[uA,uA,uA];exact hK
section
variable {h:Heap}{ro:Ro}{n:Nat}{c:Code}{l:bG}{it:It}{dR dL dE:D}{dm:Nat->D}{nm:Nat}{ents:List (D×D)}{st:St}
theorem fH.aM (x:fH h ro n c l it dR dL dE dm nm ents st){m:Nat}(hm:ro m=.no) (s:Slot):fH (ak h m s) ro n c l it dR dL dE dm nm ents st :=
 x.chg (λ k _ hr=>⟨aa _ _ (by rintro rfl;exact hr.1 hm),rfl⟩) (x.sr.aS (gH.aM (by rw[hm];rfl))) rfl
theorem adq (x:QO h ro n c l it st) (hc:ba c) (hl:bY c l) (hid:0<=it.id/\it.id<l.groups*c.group) (hw:Hz c st) (hev:st.ev.length<=900000){xi:aW}(hx:Bi c xi){e:Ev}{KH:HKq}{KP:Heap->Prop}
  (hK:∀st' h' ro',lP c l it.id xi e st=some st'->Fr ro h ro' h'->QO h' ro' n c l it st'->KH (.tup []) h') (hP:∀h' ro',lP c l it.id xi e st=none->Fr ro h ro' h'->KP h') :
  nP PP nX [.ptr n 0 0,xi.e,e.e] h KH KP:=by
 refine Pw HJ (aC _ _ _) rfl (Hw _ _ _ _) ?_;dsimp only[Dg,xB,xF,xL,xS,yC,yF,yI,yL];obtain⟨dR,dL,dE,dm,nm,ents,x⟩:=x;rw[jX];refine⟨xi.bR.one,λ m t=>?_⟩;have x1:=x.new t.free (.box xi.e);have f1:Fr ro h (ak ro m .no) (ak h m (.box xi.e)):=Fr.new t.free _;have hm:ak h m (.box xi.e) m=.box (.agg xi.cs):=af _ _ _;have rm:ak ro m .no m=.no:=af _ _ _;generalize c3:ak h m (.box xi.e)=h1 at x1 f1 hm;replace c3:=c3.symm;generalize ak ro m .no=a7 at x1 f1 rm;rw[jX];refine⟨e.bR.one,λ p t2=>?_⟩;have G:m≠p:=t2.ne (by rw[hm];simp);have x2:=x1.new t2.free (.box e.e);have f2:Fr ro h (ak a7 p .no) (ak h1 p (.box e.e)):=f1.trans (Fr.new t2.free _);have Q:ak h1 p (.box e.e) m=.box (.agg xi.cs):=by rw[aa _ _ G];exact hm
 have W:ak h1 p (.box e.e) p=.box e.e:=af _ _ _;have e1:ak a7 p .no m=.no:=by rw[aa _ _ G];exact rm
 have T:ak a7 p .no p=.no:=af _ _ _;generalize ak h1 p (.box e.e)=h2 at x2 f2 Q W;generalize ak a7 p .no=O at x2 f2 e1 T;have a8:h p=.free:=by have:=t2.free;rw[c3,aa _ _ G.symm]at this;exact this
 clear x1 f1 hm rm x t t2 c3;have um:(h2 m).used=true:=by rw[Q];rfl
 have c6:∀{h':Heap}{K:D->Prop}{j:Nat},h' m=.box (.agg xi.cs)->j+3<=15->an PP (.ld (.c (.ptr m 0 j)) 3 true) h' K=K (.agg ((xi.cs.drop j).take 3)):=λ {h' K j} hm hj=>by rw[fB,SJ hm (by simp[aW.cs];omega)]
 obtain⟨oa,ob,oc⟩:=hx.ops;simp only[↓bw,x2.used,um,Nat.zero_add,Nat.reduceAdd,x2.XW,↓c6 Q (j:=6) (by omega),↓c6 Q (j:=9) (by omega),true_and];refine Re x2 (o:=xi.a) (by rw[hw.len];exact oa) λ h3 e3 x3=>?_
 have a2:h3 m=.box (.agg xi.cs):=by rw[e3 m (by rw[Q];simp)];exact Q
 have c9:(h3 m).used=true:=by rw[a2];rfl
 simp only[↓bw,x3.used,c9,Nat.zero_add,Nat.reduceAdd,x3.XW,↓c6 a2 (j:=9) (by omega),ae,true_and];refine Re x3 (o:=xi.b) (by rw[hw.len];exact ob) λ h4 e4 x4=>?_
 have u:h4 m=.box (.agg xi.cs):=by rw[e4 m (by rw[a2];simp)];exact a2
 have c2:h4 p=.box e.e:=by rw[e4 p (by rw[e3 p (by rw[W];simp),W];simp),e3 p (by rw[W];simp)];exact W
 have f4:Fr ro h O h4:=f2.trans ((Fr.ext e3).trans (Fr.ext e4));have S:(h4 m).used=true:=by rw[u];rfl
 have c4:(h4 p).used=true:=by rw[c2];rfl
 clear c9 um x3 x2 Q W a2 e3 e4 f2;refine⟨λ qs h'=>∃(v:Int) (ro':Ro) (st':St),qs=[.int .i32 v]/\Fr ro h ro' h'/\h' m=.box (.agg xi.cs)/\QO h' ro' n c l it st'/\xi.op<=7/\st'.regs=st.regs/\lP c l it.id xi e st=some (st'.tT xi.d.n.toNat v),?_,?_⟩
 ·rintro f h' ⟨v,ro',st',hf,f5,I,⟨k0,k6,k8,j8,j6,j3,x5⟩,hop,g6,e7⟩;simp only[av,and_true]at hf;have a6:(h' m).used=true:=by rw[I];rfl
  obtain⟨r,r0,r1,hd⟩:=hx.tT hop;obtain⟨i,rfl⟩:∃i:Nat,r=(i:Int):=⟨r.toNat,by omega⟩;have j0:xi.cs[4]?=some (.int .i64 (i:Int)):=by simp[aW.cs,hd,kG]
  simp only[↓bw,x5.used,a6,Nat.zero_add,Nat.reduceAdd,↓aX x5.box (j:=14) rfl,↓XV I j0,hf,true_and];refine x5.ab0 (by rw[g6];have:=hw.len;omega) λ h6 f6 x6=>?_
  have e6:xi.d.n.toNat=i:=by rw[hd];rfl
  rw[e6]at e7;exact hK _ h6 ro' e7 (f5.trans f6) ⟨_,_,_,_,_,_,x6⟩
 have va:=λ {o:fQ}(ho:jH c.regs o)=>oh hw.regs ho
 simp only[↓jc S,Nat.zero_add,↓cT u (j:=0) rfl,↓bZ,true_and]
 have U:xi.op<=6->lP c l it.id xi e st=some (st.tT xi.d.n.toNat (sx c l it.id xi st.regs)):=by
  intro ho;unfold lP;rw[if_neg (by omega),if_neg (by omega),if_neg (by omega),if_neg (by omega)]
 have ldE:∀{g:Heap}{e':Ev}{K:HKq},g p=.box e'.e->ab PP (.ld (.c (.ptr p 0 0)) 9 true) g K=K e'.e g:=λ {g e' K} hg=>by rw[SJ (cs:=e'.cs) hg (by simp[Ev.cs])];rfl
 by_cases h7:xi.op=7
 ·obtain⟨k,V,k2,k3,-⟩:=hx.acc (Or.inl h7);have ha:=va k3;have wa:IntKind.i64.wrap (bN st.regs xi.a)=bN st.regs xi.a:=PJ ha
  have iS:lP c l it.id xi e st=if 0<=bN st.regs xi.a/\bN st.regs xi.a<kg c k then some ((st.tell c (evL e xi (bN st.regs xi.a) (st.word (dV c k) k (bN st.regs xi.a).toNat))).tT xi.d.n.toNat (st.word (dV c k) k (bN st.regs xi.a).toNat)) else none:=by
   unfold lP;rw[if_pos h7,V];rfl
  simp only[h7,decide_true,↓ai,↓jc S,Nat.zero_add,↓cT u (j:=2) rfl,true_and];rw[V];refine PW x4 hc hw k2 ha (λ a1=>?_) (λ H=>hP h4 O (by rw[iS,if_neg H]) f4);simp only[↓bw,S,c4,Nat.zero_add,↓XV u (j:=2) rfl,↓Ag,↓eZ,wa,true_and];refine MG u c2 G ?_;rw[ldE (af _ _ _)];have x5:=x4.aM T (.box (evL e xi (bN st.regs xi.a) (st.word (dV c k) k (bN st.regs xi.a).toNat)).e);refine PX x5 hc hw (by omega) (e:=evL e xi (bN st.regs xi.a) (st.word (dV c k) k (bN st.regs xi.a).toNat)) (λ _=>⟨k,V,k2⟩) λ h6 c5 f6 x6=>?_
  refine⟨_,c5,st.tell c _,rfl,(f4.PN a8).trans f6,?_,x6,by omega,rfl,by rw[iS,if_pos a1]⟩;rw[(f6 m (by rw[aa _ _ G,u];simp)).2.2 e1,aa _ _ G];exact u
 simp only[h7,decide_false,↓ah];refine⟨λ qs h'=>qs=[.bool (decide (xi.op=8\/xi.op=9))]/\h'=h4,?_,?_⟩
 ·rintro f h' ⟨hf,rfl⟩;simp only[av,and_true]at hf;rw[hf];by_cases c7:xi.op=8\/xi.op=9
  ·obtain⟨k,V,k2,k3,k4⟩:=hx.acc (by omega);have k4:=k4 h7;have ha:=va k3;have hb:=va k4;have wa:IntKind.i64.wrap (bN st.regs xi.a)=bN st.regs xi.a:=PJ ha;simp only[c7,decide_true,↓ai,↓jc S,Nat.zero_add,↓cT u (j:=2) rfl,true_and];rw[V]
   have iN:¬(0<=bN st.regs xi.a/\bN st.regs xi.a<kg c k)->lP c l it.id xi e st=none:=by
    intro H;unfold lP;rw[if_neg h7];rcases c7 with h8|h9
    ·rw[if_pos h8,V];exact if_neg H
    ·rw[if_neg (by omega),if_pos h9,V];exact if_neg H
   refine PW x4 hc hw k2 ha (λ a1=>?_) (λ H=>hP h' O (iN H) f4);simp only[↓bw,S,c4,Nat.zero_add,↓XV u (j:=2) rfl,↓Ag,↓eZ,wa,true_and];refine MG u c2 G ?_;have x5:=x4.aM T (.box (Ww e xi (bN st.regs xi.a) (bN st.regs xi.b)).e);have f5:Fr ro h O (ak h' p (.box (Ww e xi (bN st.regs xi.a) (bN st.regs xi.b)).e)):=f4.PN a8;have I:ak h' p (.box (Ww e xi (bN st.regs xi.a) (bN st.regs xi.b)).e) m=.box (.agg xi.cs):=by rw[aa _ _ G];exact u
   have c1:ak h' p (.box (Ww e xi (bN st.regs xi.a) (bN st.regs xi.b)).e) p=.box (Ww e xi (bN st.regs xi.a) (bN st.regs xi.b)).e:=af _ _ _;have e0:({ e with kind:=2,arr:=xi.n,i:=bN st.regs xi.a,v:=bN st.regs xi.b }:Ev)=Ww e xi (bN st.regs xi.a) (bN st.regs xi.b):=rfl;rw[e0];generalize ak h' p (.box (Ww e xi (bN st.regs xi.a) (bN st.regs xi.b)).e)=h5 at x5 f5 I c1;obtain⟨i,hi⟩:∃i:Nat,bN st.regs xi.a=(i:Int):=⟨(bN st.regs xi.a).toNat,by omega⟩;have a6:(h5 m).used=true:=by rw[I];rfl
   have g0:(h5 p).used=true:=by rw[c1];rfl
   refine⟨λ qs g=>∃(v:Int) (e':Ev),mm v/\qs=[.int .i32 v]/\g p=.box e'.e/\g m=.box (.agg xi.cs)/\fH g O n c l it dR dL dE dm nm ents st/\Fr ro h O g/\e'.arr=xi.n/\lP c l it.id xi e st=some ((st.put (dV c k) k i v).tell c e'),?_,?_⟩
   ·rintro f g ⟨v,e',hv,hf,g1,g2,x6,f6,g3,g4⟩;simp only[av,and_true]at hf;have a5:(g m).used=true:=by rw[g2];rfl
    simp only[↓jc a5,Nat.zero_add,↓cT g2 (j:=2) rfl];rw[hf,V,hi];refine Xh x6 hc hw k2 (by rw[<- hi];exact a1.2) λ g7 j4 f7 x7=>?_
    obtain⟨j9,k5,k7,j7,j5,j2,x7⟩:=x7;have g8:g7 p=.box e'.e:=by rw[(f7 p (by rw[g1];simp)).2.2 T];exact g1
    rw[ldE g8];refine PX x7 hc ?_ (by simp only[St.put];omega) (λ _=>⟨k,by rw[g3,V],k2⟩) λ g9 g5 f9 x9=>?_
    ·exact hw.put hv
    ·exact hK _ g9 g5 g4 (f6.trans (f7.trans f9)) x9
   simp only[↓jc a6,Nat.zero_add,↓cT I (j:=0) rfl,↓bZ,true_and];by_cases h9:xi.op=9
   ·have e8:=hx.RP h9;simp only[h9,decide_true,↓ai,↓bw,a6,g0,Nat.zero_add,↓XV I (j:=1) rfl,true_and];refine H3 (e':={ (Ww e xi (bN st.regs xi.a) (bN st.regs xi.b)) with kind:=3 }) I c1 G rfl rfl (by omega) rfl rfl ?_;refine H3 (e':=Yi e xi (bN st.regs xi.a) (bN st.regs xi.b)) (by rw[aa _ _ G];exact I) (af _ _ _) G rfl rfl (by omega) rfl rfl ?_;rw[uA];have x6:=x5.aM T (.box (Yi e xi (bN st.regs xi.a) (bN st.regs xi.b)).e);have f6:Fr ro h O (ak h5 p (.box (Yi e xi (bN st.regs xi.a) (bN st.regs xi.b)).e)):=f5.PN a8;have Z:ak h5 p (.box (Yi e xi (bN st.regs xi.a) (bN st.regs xi.b)).e) m=.box (.agg xi.cs):=by rw[aa _ _ G];exact I
    have e9:ak h5 p (.box (Yi e xi (bN st.regs xi.a) (bN st.regs xi.b)).e) p=.box (Yi e xi (bN st.regs xi.a) (bN st.regs xi.b)).e:=af _ _ _;generalize ak h5 p (.box (Yi e xi (bN st.regs xi.a) (bN st.regs xi.b)).e)=h6 at x6 f6 Z e9;have a5:(h6 m).used=true:=by rw[Z];rfl
    simp only[↓bw,a5,Nat.zero_add,↓XV Z (j:=1) rfl,↓XV Z (j:=2) rfl,true_and];rw[V];refine(PW x6 hc hw k2 ha (λ _=>?_) (λ H=>H a1)).call;simp only[↓bw,a5,Nat.zero_add,↓XV Z (j:=1) rfl,ae,true_and];refine ud (Y0 e8 (St.EI hw (qX hc k2) hc _) hb) (Ko rfl) ?_;simp only[↓Vw,↓Vv];refine⟨_,_,NJ e8 (St.EI hw (qX hc k2) hc _) hb,rfl,e9,Z,x6,f6,V,?_⟩;unfold lP;rw[if_neg h7,if_neg (by omega),if_pos h9,V,aT,if_pos a1,hi];rfl
   ·have h8:xi.op=8:=by omega
    simp only[h9,decide_false,↓ah];refine⟨_,_,hb,rfl,c1,I,x5,f5,rfl,?_⟩;unfold lP;rw[if_neg h7,if_pos h8,V,aT,if_pos a1,hi];rfl
  simp only[c7,decide_false,↓ah];by_cases c8:xi.op=10
  ·simp only[c8,decide_true,↓ai,↓bw,S,c4,Nat.zero_add,↓XV u (j:=1) rfl,true_and];refine H3 (e':={ e with kind:=4 }) u c2 G rfl rfl (by omega) rfl rfl ?_;refine H3 (e':=Yh e xi) (by rw[aa _ _ G];exact u) (af _ _ _) G rfl rfl (by omega) rfl rfl ?_;rw[uA,ldE (af _ _ _)];have x5:=x4.aM T (.box (Yh e xi).e);refine PX x5 hc hw (by omega) (λ hne=>absurd rfl hne) λ h6 c5 f6 x6=>?_
   refine hK _ h6 c5 ?_ ?_ x6
   ·unfold lP;rw[if_neg (by omega),if_neg (by omega),if_neg (by omega),if_pos c8]
   ·exact(f4.PN a8).trans f6
  have hop:xi.op<=6:=by have:=hx.opc;omega
  simp only[c8,decide_false,↓ah,show ¬xi.op=12 by omega,show ¬xi.op=11 by omega];have j1:∀{K:HKq},ab PP (.ld (.c (.ptr m 0 0)) 15 true) h' K=K xi.e h':=λ {K}=>by rw[SJ u (by simp[aW.cs])];rfl
  rw[j1];refine Z5 x4 hc hl hid hw hx hop λ h5 e5=>?_
  exact⟨_,O,st,rfl,f4.trans (Fr.ext e5),by rw[e5 m (by rw[u];simp)];exact u,⟨_,_,_,_,_,_,x4.ext e5⟩,by omega,rfl,U hop⟩
 ·by_cases h8:xi.op=8
  ·simp only[h8,decide_true,↓ai];simp
  ·simp only[h8,decide_false,↓ah];simp
end
end Go.Am
namespace Go.Am
open Go
def fv.sz (a:fv) (s:Int):Int:=if a.space=s then a.len else 0
abbrev uv (s:Int) (a:fv):Nat:=(if a.space=s then a.len else 0).toNat
abbrev zW (s:Int) (aL:List fv):Mm:=mo aL s
theorem fv.vd (a:fv):a.e.vd=true/\aD a.e:=(fv.bR a).pair
theorem fv.cells (a:fv):a.e.cells=[.str a.name,.int .i64 a.space,.int .i64 a.type,.int .i64 a.len]:=rfl
theorem Uk (a:fv) (s:Int):aV PP nU [a.e,.int .i64 s] (· = .int .i64 (a.sz s)):=by
 refine bt HG (aC _ _ _) rfl (Ht _ _ _) ?_;dsimp only[Dd,xB,xF,xL];rw[lN,z7 nf0 rfl];by_cases h:a.space=s<;>simp[↓U9,BT,h_ldp,fv.e,↓bg,↓mA,h,↓ai,↓ah,jM,fv.sz]
theorem Xi (a:fv) (s:Int):aV PP tU [a.e,.int .i64 s] (· = .int .i64 (a.sz s)):=by
 refine bt HD (aC _ _ _) rfl (Hp _ _ _) ?_;dsimp only[Da,xB,xF,xL];rw[lN,z7 nf0 rfl];by_cases h:a.space=s<;>simp[↓U9,BT,h_ldp,fv.e,↓bg,↓bZ,h,↓ai,↓ah,jM,fv.sz]
theorem Zq (s:Int) (aL:List fv):(zW s aL).length=aL.length:=by simp[zW,mo]
theorem abC {a:fv}{s:Int}(h:0<=a.len/\a.len<=15):a.sz s=(uv s a:Int)/\uv s a<=15:=by
 unfold uv fv.sz;split<;>omega
def MX (z:Nat):List D:=List.replicate z (.int .i32 0)
theorem NY (z:Nat):(MX z).length=z:=by simp[MX]
theorem WA (z:Nat):D.sl (MX z)=words (List.replicate z 0):=by simp[MX,words]
theorem TC (z:Nat):∀x,x∈MX z->∀y∈x.cells,y.vone=true:=by
 intro x hx y hy;rw[List.eq_of_mem_replicate hx]at hy;simp at hy;subst hy;rfl
def abh (s:Int) (aL:List fv) (M i:Nat) (els:List D) (h:Heap):Prop :=
 els.length=aL.length/\h M=.arr 1 els/\(∀j,j<i->∃k a,els[j]?=some (.ms k 0 (uv s a))/\aL[j]?=some a/\h k=.arr 1 (MX (uv s a))/\k≠M)/\∀j,i<=j->j<aL.length->els[j]?=some .nil
theorem aaJ {h:Heap}{k:Nat}{els:List D}(hk:(h k).row=some (1,els)):(D.ms k 0 els.length).fz h=.sl els:=by
 simp[D.fz,D.fzc,hk]
theorem Se {s:Int}{aL:List fv}{M:Nat}{els:List D}{h:Heap}(hz:abh s aL M aL.length els h):Deep h M els/\els.map (D.fz h)=(zW s aL).map words:=by
 obtain⟨h1,h2,h3,-⟩:=hz
 have H:∀k z,h k=.arr 1 (MX z)->(D.ms k 0 z).fz h=words (List.replicate z 0):=λ k z hk=>by
  have:=aaJ (h:=h) (k:=k) (els:=MX z) (by rw[hk];rfl);rw[NY]at this;rw[this,WA]
 refine⟨⟨λ hm=>?_,λ e he=>?_⟩,?_⟩
 ·simp only[List.mem_flatMap]at hm;obtain⟨e,he,hm⟩:=hm;obtain⟨j,u⟩:=List.mem_iff_getElem?.1 he;have O:=(aq.1 u).1;obtain⟨k,a,G,-,-,Q⟩:=h3 j (by omega);rw[u]at G;cases G;simp[D.nm,D.nR]at hm;exact Q hm.symm
 ·obtain⟨j,u⟩:=List.mem_iff_getElem?.1 he;have O:=(aq.1 u).1;obtain⟨k,a,G,-,I,-⟩:=h3 j (by omega);rw[u]at G;cases G;refine⟨rfl,λ y hy=>?_,?_,rfl⟩
  ·simp only[D.cells,List.mem_singleton]at hy;subst hy;refine⟨1,MX (uv s a),by rw[I];rfl,by rw[NY];omega,λ x hx=>TC _ x (List.mem_of_mem_drop (List.mem_of_mem_take hx))⟩
  ·rw[H k _ I];rfl
 ·apply List.ext_getElem?;intro j;rcases Nat.lt_or_ge j aL.length with u|u
  ·obtain⟨k,a,G,S,I,-⟩:=h3 j u;rw[List.getElem?_map,G,List.getElem?_map,zW,mo,List.getElem?_map,S];simp only[Option.map_some];rw[H k _ I]
  ·rw[List.getElem?_eq_none (by rw[aE];omega),List.getElem?_eq_none (by rw[aE,Zq];omega)]
theorem Ul {aL:List fv}(h8:aL.length<=8) (hb:∀a∈aL,0<=a.len/\a.len<=15) (s:Int):aV PP nV [.sl (aL.map fv.e),.int .i64 s] (· = aZ (zW s aL)):=by
 refine PK (aI HH (aC _ _ _) rfl (Hu _ _ _) ?_);unfold De;simp only[↓gd,aE];rw[SU];refine⟨by omega,by omega,by omega,by omega,λ M tM=>?_⟩;rw[aT];refine⟨λ _ h'=>∃els,abh s aL M aL.length els h',?_,?_⟩
 ·rintro _ h' ⟨els,W⟩;obtain⟨d1,d2⟩:=Se W;exact⟨M,els,by rw[W.1],W.2.1,d1,by rw[d2];rfl⟩
 dsimp only[vn,xI,xL,xS];refine⟨λ k x h'=>∃(i:Nat) (els:List D),x=[.int .i64 i]/\k+i=aL.length/\abh s aL M i els h',aL.length,⟨0,_,rfl,rfl,by simp,af _ _ _,λ j T=>by omega,λ j _ T=>by simp[T]⟩,?_⟩;rintro k f h' ⟨i,els,hf,a8,z1,S,z3,z4⟩;simp only[av,and_true]at hf;rw[hf];simp only[↓fK];by_cases hi:i<aL.length
 case neg =>
  have G:¬(i:Int)<(aL.length:Int):=by omega
  have a5:i=aL.length:=by omega
  simp only[G,decide_false,ah,ae,true_and];subst a5;exact⟨els,z1,S,z3,z4⟩
 have G:(i:Int)<(aL.length:Int):=by omega
 have w1:IntKind.i64.wrap ((i:Int)+1)=((i+1:Nat):Int):=by rw[wrap64 (by omega) (by omega)];rfl
 obtain⟨a,ha⟩:∃a,aL[i]?=some a:=⟨_,aG hi⟩;obtain⟨V,a7⟩:=abC (s:=s) (hb a (aK ha));simp only[G,decide_true,ai,↓jq,aE,aT,List.getElem?_map,ha,Option.map_some];refine⟨by omega,trivial,λ d hd=>?_⟩;cases hd;refine⟨rfl,?_⟩;simp only[↓kH,fv.cells,↓iJ];refine⟨by simp,?_⟩;rw[fc];intro b tb;have H:M≠b:=tb.ne (by rw[S];simp);rw[fG];simp only[af,lf];have I:setCells (D.agg [.str ⟨#[]⟩,.int .i64 0,.int .i64 0,.int .i64 0]) 0 (D.agg (List.take 4 (List.drop 0 [D.str a.name,.int .i64 a.space,.int .i64 a.type,.int .i64 a.len]))).cells=a.e:=rfl;rw[I];refine⟨rfl,(fv.vd a).2,trivial,by simp,?_⟩;simp only[↓kT,af,fv.cells,↓iJ];refine⟨trivial,by simp,?_⟩;refine bk (Uk a s) (λ d hd=>?_) ?_
 ·simp only[List.mem_cons,List.not_mem_nil,or_false]at hd;rcases hd with rfl|rfl
  ·exact fv.vd a
  ·exact⟨rfl,by simp⟩
 rintro _ rfl;rw[V,SU];refine⟨by omega,by omega,by omega,by omega,λ n1 t1=>?_⟩;have u:M≠n1:=t1.ne (by rw[aa _ _ H,S];simp);have a6:b≠n1:=t1.ne (by rw[af];simp);rw[aT];have Q:ak (ak h' b (.box a.e)) n1 (.arr 1 (List.replicate (uv s a) (.int .i32 0))) M=.arr 1 els:=by rw[aa _ _ u,aa _ _ H,S]
 rw[cv];refine⟨by omega,by omega,⟨els,by rw[Q];rfl⟩,?_⟩;rw[fG];simp only[Q,Nat.zero_add,aT];refine⟨rfl,by simp,by omega,by omega,λ d hd=>?_⟩;rw[z4 i (Nat.le_refl _) hi]at hd;cases hd;simp only[↓ca,w1,ae,true_and];have Z:setCells D.nil 0 (D.ms n1 0 (uv s a)).cells=.ms n1 0 (uv s a):=rfl;rw[Z];refine⟨k-1,by omega,i+1,els.set i (.ms n1 0 (uv s a)),rfl,by omega,by simp[z1],af _ _ _,λ j T=>?_,λ j T a2=>?_⟩
 ·rcases Nat.lt_or_ge j i with h|h
  ·obtain⟨k',a',q1,q2,U,q4⟩:=z3 j h;have O:k'≠b:=tb.ne (by rw[U];simp);have a1:k'≠n1:=t1.ne (by rw[aa _ _ O,U];simp);refine⟨k',a',by rw[List.getElem?_set_ne (by omega)];exact q1,q2,?_,q4⟩;rw[aa _ _ q4,aa _ _ a1,aa _ _ O,U]
  ·obtain rfl:j=i:=by omega
   refine⟨n1,a,by rw[List.getElem?_set_self (by omega)],ha,?_,u.symm⟩;rw[aa _ _ u.symm,af];rfl
 ·rw[List.getElem?_set_ne (by omega)];exact z4 j (by omega) a2
section
variable {h:Heap}
structure LN (h:Heap) (d d':D):Prop where
 one:d.one=true
 ok:rM h d
 v:(d.fzc h).vone=true
 wk:Wk (d.fzc h) d'
theorem bD {d:D}(hv:d.vone=true):LN h d d:=by
 obtain⟨u,-,a3⟩:=GZ (h:=h) hv;exact⟨D.cu hv,a3,by rw[u];exact hv,by rw[u];exact .refl d⟩
theorem jB:LN h .nil (.sl []):=⟨rfl,trivial,rfl,.nil⟩
theorem fT {n e:Nat}{els:List D}(hn:h n=.arr e els) (hv:∀x∈els,∀y∈x.cells,y.vone=true):LN h (.ms n 0 els.length) (.sl els):=by
 have hr:(h n).row=some (e,els):=by rw[hn];rfl
 refine⟨rfl,⟨e,els,hr,by simp,λ x hx=>hv x (List.mem_of_mem_drop (List.mem_of_mem_take hx))⟩,?_,?_⟩
 ·simp[D.fzc,hr,D.vone]
 ·simp only[D.fzc,hr,List.drop_zero];rw[List.take_of_length_le (Nat.le_refl _)];exact .refl _
inductive Iv (h:Heap):List D->List D->Prop where
 | nil:Iv h [] []
 | cons {d d':D}{r r':List D}(a:LN h d d') (k:Iv h r r'):Iv h (d::r) (d'::r')
theorem Iv.all {cs cs':List D}(k:Iv h cs cs'):(∀x∈cs,x.one=true)/\(∀x∈cs,rM h x)/\(∀x,x∈cs.map (D.fzc h)->x.vone=true)/\Sb (cs.map (D.fzc h)) cs':=by
 induction k with
 | nil=>exact⟨by simp,by simp,by simp,.nil⟩
 | cons a k u =>
  obtain⟨i1,i2,i3,i4⟩:=u;refine⟨λ x hx=>?_,λ x hx=>?_,λ x hx=>?_,.cons a.wk i4⟩
  ·rcases List.mem_cons.1 hx with rfl|hx
   ·exact a.one
   ·exact i1 x hx
  ·rcases List.mem_cons.1 hx with rfl|hx
   ·exact a.ok
   ·exact i2 x hx
  ·rcases List.mem_cons.1 hx with rfl|hx
   ·exact a.v
   ·exact i3 x hx
structure Wz (h:Heap) (d d':D):Prop where
 one:aD d
 ok:pD h d
 v:(d.fz h).vd=true
 v':d'.vd=true
 wk:Wk (d.fz h) d'
theorem jk {d:D}(h1:d.one=true):d.cells=[d]:=by cases d<;>first|rfl|cases h1
theorem Vd {d:D}(h1:d.one=true):d.fz h=d.fzc h:=by cases d<;>first|rfl|cases h1
theorem QX {d:D}(h1:d.vone=true):d.vd=true:=by cases d<;>first|rfl|cases h1
theorem LN.d {d d':D}(a:LN h d d'):Wz h d d':=by
 have hc:=jk a.one;refine⟨λ x hx=>?_,λ x hx=>?_,?_,?_,?_⟩
 ·rw[hc]at hx;simp at hx;subst hx;exact a.one
 ·rw[hc]at hx;simp at hx;subst hx;exact a.ok
 ·rw[Vd a.one];exact QX a.v
 ·exact QX (by rw[a.wk.vone];exact a.v)
 ·rw[Vd a.one];exact a.wk
theorem TG {xs ys:List D}(w:Sb xs ys) (hv:∀x∈xs,x.vone=true):∀y∈ys,y.vone=true:=by
 induction w with
 | nil=>simp
 | cons a k u =>
  intro y hy;rcases List.mem_cons.1 hy with rfl|hy
  ·rw[a.vone];exact hv _ (by simp)
  ·exact u (λ x hx=>hv x (by simp[hx])) y hy
theorem Iv.agg {cs cs':List D}(k:Iv h cs cs'):Wz h (.agg cs) (.agg cs'):=by
 obtain⟨i1,i2,i3,i4⟩:=k.all;refine⟨i1,i2,?_,?_,.abc i4⟩
 ·simp only[D.fz,D.vd,List.all_eq_true];exact i3
 ·simp only[D.vd,List.all_eq_true];exact TG i4 i3
inductive PD (h:Heap):List D->List D->Prop where
 | nil:PD h [] []
 | cons {d d':D}{r r':List D}(a:Wz h d d') (k:PD h r r'):PD h (d::r) (d'::r')
theorem PD.all {cs cs':List D}(k:PD h cs cs'):(∀x∈cs,aD x)/\(∀x∈cs,pD h x)/\(∀x,x∈cs.map (D.fz h)->x.vd=true)/\(∀x,x∈cs'->x.vd=true)/\Sb (cs.map (D.fz h)) cs':=by
 induction k with
 | nil=>exact⟨by simp,by simp,by simp,by simp,.nil⟩
 | cons a k u =>
  obtain⟨i1,i2,i3,i5,i4⟩:=u;refine⟨λ x hx=>?_,λ x hx=>?_,λ x hx=>?_,λ x hx=>?_,.cons a.wk i4⟩
  ·rcases List.mem_cons.1 hx with rfl|hx
   ·exact a.one
   ·exact i1 x hx
  ·rcases List.mem_cons.1 hx with rfl|hx
   ·exact a.ok
   ·exact i2 x hx
  ·rcases List.mem_cons.1 hx with rfl|hx
   ·exact a.v
   ·exact i3 x hx
  ·rcases List.mem_cons.1 hx with rfl|hx
   ·exact a.v'
   ·exact i5 x hx
def HA (K:D->Prop) (r:D) (h':Heap):Prop:=∃h'',NT h' h''/\lD r/\yb h'' r/\(r.fzt h'').JR=true/\∃r',Wk (r.fzt h'') r'/\r'.JR=true/\K r'
theorem ju {P:Program}{f:FuncId}{ds:List D}{K:D->Prop}(ha:ag P f ds bP (HA K)):aV P f ds K :=
 aV.wk (K:=λ r=>∃r',Wk r r'/\r'.JR=true/\K r') (Mi ha) λ _ hr=>hr
theorem eE {h h'':Heap}{K:D->Prop}{ds ds':List D}(i:NT h h'') (k:PD h'' ds ds') (hK:K (.tup ds')):HA K (.tup ds) h:=by
 obtain⟨i1,i2,i3,i5,i4⟩:=k.all;refine⟨h'',i,i1,i2,?_,.tup ds',?_,?_,hK⟩
 ·simp only[D.fzt,D.JR,List.all_eq_true];exact i3
 ·exact .tup _ _ i4.get.1 i4.get.2
 ·simp only[D.JR,List.all_eq_true];exact i5
theorem uF {h h'':Heap}{K:D->Prop}{d d':D}(ht:∀ds,d≠.tup ds) (ht':∀ds,d'≠.tup ds) (i:NT h h'') (k:Wz h'' d d') (hK:K d'):HA K d h:=by
 have u:d.fzt h''=d.fz h'':=by cases d<;>first|rfl|exact absurd rfl (ht _)
 have e2:∀x:D,(∀ds,x≠.tup ds)->x.JR=x.vd:=λ x hx=>by cases x<;>first|rfl|exact absurd rfl (hx _)
 have nt:∀ds,d.fz h''≠.tup ds:=λ ds e=>by
  have:=k.v;rw[e]at this;cases this
 refine⟨h'',i,?_,?_,?_,d',by rw[u];exact k.wk,by rw[e2 _ ht'];exact k.v',hK⟩
 ·cases d<;>first|exact k.one|exact absurd rfl (ht _)
 ·cases d<;>first|exact k.ok|exact absurd rfl (ht _)
 ·rw[u,e2 _ nt];exact k.v
theorem Iv.XE:∀{cs:List D},(∀x∈cs,x.vone=true)->Iv h cs cs
 | [],_=>.nil
 | x::r,u=>.cons (bD (u x (by simp))) (Iv.XE λ y hy=>u y (by simp[hy]))
theorem Ca {d:D}(hd:xt d):Wz h d d:=by
 obtain⟨u,-,a3⟩:=zt (h:=h) hd.vd;exact⟨hd.one,a3,by rw[u];exact hd.vd,hd.vd,by rw[u];exact .refl _⟩
end
theorem WC (w:List Int):∀x,x∈wr w->∀y∈x.cells,y.vone=true:=λ x hx y hy=>by
 simp only[wr,List.mem_map]at hx;obtain⟨z,-,rfl⟩:=hx;simp at hy;subst hy;rfl
theorem zg.fz {h:Heap}{ro:Ro}{r:xh}{d:D}{w:List Int}(x:zg h ro r d w):d.fz h=words w/\aD d/\pD h d/\∀n∈d.nm,ro n=r:=by
 rcases x with rfl|⟨q,rfl,h2,h3⟩
 ·obtain⟨G,u,a3⟩:=zt (h:=h) (d:=words w) rfl;exact⟨G,by simp[words],a3,by rw[u];simp⟩
 ·have f:=fT (h:=h) h2 (WC w);rw[GA]at f;have hr:(h q).row=some (1,wr w):=by rw[h2];rfl
  refine⟨?_,by simp,f.d.ok,λ n hn=>?_⟩
  ·simp only[D.fz,D.fzc,hr,List.drop_zero];rw[List.take_of_length_le (by rw[GA];exact Nat.le_refl _)];rfl
  ·simp[D.nm,D.nR]at hn;subst hn;exact h3
theorem zh.SQ {h:Heap}{ro:Ro}{s k:Nat}{m:Mm}{els:List D}(y:zh h ro s m k els) :
  Sd h k 1 els/\els.map (D.fz h)=m.map words/\∀j,(∀i,ro j≠.row s i)->j≠k->iP h k 1 els j=h j:=by
 have hl:=y.len
 have get:∀e∈els,∃i w,zg h ro (.row s i) e w:=λ e he=>by
  obtain⟨i,hi⟩:=db he;have:=(aq.1 hi).1;exact⟨i,m[i],y.el i e _ hi (aG (by omega))⟩
 have nm:∀n,n∈els.flatMap D.nm->∃i,ro n=.row s i:=λ n hn=>by
  obtain⟨e,he,hn⟩:=List.mem_flatMap.1 hn;obtain⟨i,w,hr⟩:=get e he;exact⟨i,hr.fz.2.2.2 n hn⟩
 refine⟨⟨λ hm=>?_,λ e he=>?_⟩,?_,λ j G hne=>?_⟩
 ·obtain⟨i,hi⟩:=nm k hm;rw[y.rk]at hi;cases hi
 ·obtain⟨i,w,hr⟩:=get e he;obtain⟨f1,f2,f3,-⟩:=hr.fz;exact⟨f2,f3,by rw[f1];intro z u;simp[words]at u;subst u;rfl⟩
 ·refine List.ext_getElem? λ i=>?_
  rw[List.getElem?_map,List.getElem?_map];rcases Nat.lt_or_ge i els.length with hi|hi
  ·have h1:=aG hi;have h2:m[i]?=some (m[i]'(by omega)):=aG (by omega);rw[h1,h2];simp only[Option.map_some];rw[(y.el i _ _ h1 h2).fz.1]
  ·rw[List.getElem?_eq_none hi,List.getElem?_eq_none (by omega)];rfl
 ·exact KB hne λ hm=>by
   obtain⟨i,hi⟩:=nm j hm;exact G i hi
theorem Sc.out {h:Heap}{ro:Ro}{dR dE dL:D}{dm:Nat->D}{st:St}(x:Sc h ro dR dE dL dm st) :
  ∃h'',NT h h''/\LN h'' dR (words st.regs)/\LN h'' dE (.sl (st.ev.map Ev.e))/\LN h'' dL (.sl [])/\(∀s,1<=s->s<=3->LN h'' (dm s) (aZ (st.mem s)))/\∀k,ro k=.no->h'' k=h k:=by
 obtain⟨u,H,d1,Q⟩:=x.mem 1 (by omega) (by omega);obtain⟨G,e2,d2,T⟩:=x.mem 2 (by omega) (by omega);obtain⟨I,e3,d3,W⟩:=x.mem 3 (by omega) (by omega);have a5:u≠G:=by rintro rfl;have:=Q.rk;rw[T.rk]at this;simp at this
 have a2:u≠I:=by rintro rfl;have:=Q.rk;rw[W.rk]at this;simp at this
 have a1:G≠I:=by rintro rfl;have:=T.rk;rw[W.rk]at this;simp at this
 obtain⟨p1,p2,p3⟩:=Q.SQ;have U:vK (λ r=>r≠.mem 1/\∀i,r≠.row 1 i) h ro (iP h u 1 H) ro:=λ k _ hr=>⟨p3 k hr.2 (by rintro rfl;exact hr.1 Q.rk),rfl⟩
 have z2:=T.jW U (by simp) (by simp);have z3:=W.jW U (by simp) (by simp);obtain⟨q1,q2,q3⟩:=z2.SQ;have a6:vK (λ r=>r≠.mem 2/\∀i,r≠.row 2 i) (iP h u 1 H) ro (iP (iP h u 1 H) G 1 e2) ro:=λ k _ hr=>⟨q3 k hr.2 (by rintro rfl;exact hr.1 T.rk),rfl⟩
 have w3:=z3.jW a6 (by simp) (by simp);obtain⟨r1,r2,Z⟩:=w3.SQ;have i1:iP h u 1 H u=.arr 1 (st.mem 1 |>.map words):=by rw[uV,p2]
 have i2:iP (iP h u 1 H) G 1 e2 G=.arr 1 (st.mem 2 |>.map words):=by rw[uV,q2]
 have i3:iP (iP (iP h u 1 H) G 1 e2) I 1 e3 I=.arr 1 (st.mem 3 |>.map words):=by rw[uV,r2]
 have O:∀k,(∀s,ro k≠.mem s)->(∀s i,ro k≠.row s i)->iP (iP (iP h u 1 H) G 1 e2) I 1 e3 k=h k:=λ k a b=>by
  rw[Z k (b 3) (by rintro rfl;exact a _ W.rk),q3 k (b 2) (by rintro rfl;exact a _ T.rk),p3 k (b 1) (by rintro rfl;exact a _ Q.rk)]
 have mv:∀(m:Mm) (x:D),x∈m.map words->∀y∈x.cells,y.vone=true:=λ m x hx y hy=>by
  simp only[List.mem_map]at hx;obtain⟨z,-,rfl⟩:=hx;simp[words]at hy;subst hy;rfl
 refine⟨_,.step Q.hk p1 (.step z2.hk q1 (.step w3.hk r1 (.refl _))),?_,?_,?_,λ s s1 s2=>?_,λ k hk=>O k (by rw[hk];simp) (by rw[hk];simp)⟩
 ·obtain⟨q,rfl,V,S⟩:=x.regs;have:=fT (h:=iP (iP (iP h u 1 H) G 1 e2) I 1 e3) (n:=q) (e:=1) (els:=wr st.regs) (by rw[O q (by rw[S];simp) (by rw[S];simp)];exact V) (WC _);rw[GA]at this;exact this
 ·rcases x.ev with⟨rfl,hz⟩|⟨q,rfl,V,S⟩
  ·rw[hz];exact jB
  ·have:=fT (h:=iP (iP (iP h u 1 H) G 1 e2) I 1 e3) (n:=q) (e:=9) (els:=st.ev.map Ev.e) (by rw[O q (by rw[S];simp) (by rw[S];simp)];exact V) (λ x hx y hy=>by
    simp only[List.mem_map]at hx;obtain⟨z,-,rfl⟩:=hx;simp[Ev.e,Ev.cs]at hy
    rcases hy with rfl|rfl|rfl|rfl|rfl|rfl|rfl|rfl|rfl<;>rfl)
   rw[aE]at this;exact this
 ·rcases x.sl with rfl|rfl|⟨q,rfl,V,S⟩
  ·exact jB
  ·exact bD rfl
  ·exact fT (els:=[]) (by rw[O q (by rw[S];simp) (by rw[S];simp)];exact V) (by simp)
 ·have:s=1\/s=2\/s=3:=by omega
  rcases this with rfl|rfl|rfl
  ·rw[d1];have:=fT (h:=iP (iP (iP h u 1 H) G 1 e2) I 1 e3) (n:=u) (e:=1) (els:=(st.mem 1).map words) (by rw[Z u (by rw[Q.rk];simp) a2,q3 u (by rw[Q.rk];simp) a5];exact i1) (mv _);rw[aE]at this;exact this
  ·rw[d2];have:=fT (h:=iP (iP (iP h u 1 H) G 1 e2) I 1 e3) (n:=G) (e:=1) (els:=(st.mem 2).map words) (by rw[Z G (by rw[T.rk];simp) a1];exact i2) (mv _);rw[aE]at this;exact this
  ·rw[d3];have:=fT (h:=iP (iP (iP h u 1 H) G 1 e2) I 1 e3) (n:=I) (e:=1) (els:=(st.mem 3).map words) i3 (mv _);rw[aE]at this;exact this
end Go.Am
namespace Go.Am
open Go
theorem Y8 {P:Program}{m off len esz:Nat}{x:D}{h:Heap}{KH:HKq}:ab P (.MK (.c (.ms m off len)) (.c x) esz) h KH=velems esz x h λ ys=>(∀y∈ys,aD y)/\∃els,h m=.arr esz els/\off+len<=els.length /\
    KH (.int .i64 (min ys.length len:Nat)) (ak h m (.arr esz (els.take off++ys.take len++els.drop (off+min ys.length len)))):=rfl
theorem OE {m:Mm}{h:Heap}{K:D->Prop}:bq (aZ m) h K=K (.int .i64 (m.length:Int)):=by simp[aZ,gd]
theorem Nc {h:Heap}{m:Mm}(hl:m.length<=1000000){KH:HKq}(hK:∀q,h q=.free->KH (.ms q 0 m.length) (ak h q (.arr 1 (m.map words)))):ag PP gi [aZ m] h KH:=by
 refine aI Jj (aC _ _ _) rfl (I7 _ _) ?_;unfold FP;rw[OE,SU];refine⟨by omega,by omega,by omega,by omega,λ q t=>?_⟩;rw[aT,Y8];refine⟨λ e he=>?_,λ y hy=>?_,_,af _ _ _,by simp,?_⟩
 ·simp only[List.mem_map]at he;obtain⟨z,-,rfl⟩:=he;rfl
 ·simp only[List.mem_map]at hy;obtain⟨z,-,rfl⟩:=hy;simp[words]
 ·rw[lf];have:=hK q t.free
  have e:(List.replicate m.length D.nil).take 0++(m.map words).take m.length++(List.replicate m.length D.nil).drop (0+min (m.map words).length m.length)=m.map words:=by
   rw[List.take_zero,List.nil_append,List.take_of_length_le (by simp),List.drop_of_length_le (by simp),List.append_nil]
  rw[e];exact this
theorem Sw (n:Nat):D.sl (List.replicate n (.int .i32 0))=words (List.replicate n 0):=by simp[words]
theorem Rf {c:Code}(hc:ba c){id ep at_:Int}:aV PP qi [c.e,.int .i64 id,.int .i64 ep,.int .i64 at_] (· = (cC c id ep at_).e):=by
 refine bt Jk (aC _ _ _) rfl (I8 _ _ _ _ _) ?_;dsimp only[FQ,xB,xL,xS,yF,yL];rw[lN,z7 nf0 (Code.on c),sC (by simp)];have hr:=hc.regs;have hs:=hc.slots;obtain⟨H,I⟩:∃H,H=LH.h ([]++[Slot.box c.e]++[.box (.agg [.int .i64 0,.int .i64 0,.int .i64 0,.int .i64 0,.nil,.nil,.nil])]):=⟨_,rfl⟩;rw[<- I];have h0:H 0=.box (.agg [.int .i64 c.group,.int .i64 c.sub,.int .i64 c.regs,.int .i64 c.slots,.int .i64 c.params,.sl (c.arrays.map fv.e),.sl (c.loops.map Loop.e),.sl (c.b.map Block.e)]):=by rw[I];rfl
 have h1:H 1=.box (.agg [.int .i64 0,.int .i64 0,.int .i64 0,.int .i64 0,.nil,.nil,.nil]):=by rw[I];rfl
 have G:(H 0).used=true:=by rw[h0];rfl
 have u:∀{K:D->Prop}{n:Int},0<=n->n<=1000->K (words (List.replicate n.toNat 0))->an PP (.mk 1 4 (.int .i32 0) (.c (.int .i64 n)) (.c (.int .i64 n))) H K:=λ {K n} Q S hk =>
  ⟨⟨Q,by omega,by omega,by omega⟩,⟨rfl,by simp⟩,by rw[Sw];exact hk⟩
 simp only[List.nil_append,List.length_nil,List.length_singleton,↓bw,G,Nat.zero_add,↓aX h0 (j:=2) rfl,true_and];refine u (by omega) (by omega) ?_;simp only[↓bw,G,Nat.zero_add,↓aX h0 (j:=5) rfl,true_and];refine ud (Ul hc.nar (λ a ha=>⟨by have:=(hc.ar a ha).2;omega,by have:=(hc.ar a ha).2;omega⟩) 3) ?_ ?_
 ·intro z O;simp[Arg.get]at O;rcases O with rfl|rfl
  ·exact bd3 rfl
  ·exact dT
 simp only[↓bw,G,Nat.zero_add,↓aX h0 (j:=3) rfl,true_and];refine u (by omega) (by omega) ?_;rw[lS rfl,fG,h1]
 have e:(D.agg (fillD [.int .i64 0,.int .i64 0,.int .i64 0,.int .i64 0,.nil,.nil,.nil] ([(0,1,Arg.c (D.int .i64 id)),(1,1,.c (.int .i64 at_)),(3,1,.c (.int .i64 ep)),(4,1,.c (words (List.replicate c.regs.toNat 0))),(5,1,.c (aZ (zW 3 c.arrays))),(6,1,.c (words (List.replicate c.slots.toNat 0)))].map λ p=>(p.1,p.2.1,(p.2.2.get []).cells))))=(cC c id ep at_).e:=by
  rw[hs];rfl
 rw[e];refine⟨rfl,(It.bR _).one,rfl,Nat.le_refl _,?_⟩;have es:setCells (.agg [.int .i64 0,.int .i64 0,.int .i64 0,.int .i64 0,.nil,.nil,.nil]) 0 (cC c id ep at_).e.cells=(cC c id ep at_).e:=rfl;rw[es];have:∀{K:HKq},ab PP (.ld (.c (.ptr 1 0 0)) 7 true) (ak H 1 (.box (cC c id ep at_).e)) K=K (cC c id ep at_).e (ak H 1 (.box (cC c id ep at_).e)):=λ {K}=>eR (cs:=(cC c id ep at_).cs) (af _ _ _)
 rw[this];exact JQ (It.bR _) rfl
theorem ba.RL {c:Code}(_hc:ba c){b:Int}(hb:0<=b/\b<(c.b.length:Int)):∃(k:Nat) (B:Block),b=(k:Int)/\c.b[k]?=some B/\B∈c.b/\hU c b=B.t/\Qb c b=B.i:=by
 have hk:b.toNat<c.b.length:=by omega
 have hg:=aG hk;exact⟨b.toNat,_,by omega,hg,List.getElem_mem hk,by simp[hU,hg],by simp[Qb,hg]⟩
theorem K8 {P:Program}{c:Code}{k:Nat}{B:Block}(hb:c.b[k]?=some B){h:Heap}{KH:HKq}:ab P (.iadd (.c (.sl (c.b.map Block.e))) (.c (.int .i64 (k:Int))) 14) h KH=KH (.vp B.e 0) h:=by
 have hk:=(aq.1 hb).1;rw[jq,aT,List.getElem?_map,hb,aE];apply propext;constructor
 ·rintro⟨-,-,h⟩;exact(h _ rfl).2
 ·intro u;exact⟨by omega,by omega,λ d hd=>by cases hd;exact⟨rfl,u⟩⟩
theorem VZ {P:Program}{B:Block}{h:Heap}{KH:HKq}:ab P (.ld (.c (.vp B.e 1)) 13 true) h KH=KH B.t.e h:=by
 rw[kH,iJ];have e:(B.e.cells.drop 1).take 13=B.t.cs:=rfl;have l:B.e.cells.length=14:=rfl;rw[e,l];simp[Term.e]
theorem acH {P:Program}{B:Block}{h:Heap}{KH:HKq}:ab P (.ld (.c (.vp B.e 0)) 1 false) h KH=KH (.sl (B.i.map aW.e)) h:=by rw[kH,bg];rfl
theorem NO.ops {N:Nat}{R:Int}{t:Term}(h:NO N R t):CP R t.a/\(t.kind=1\/t.kind=2\/t.kind=3\/t.kind=4\/t.kind=5):=by
 cases h with
 | jump a h=>exact⟨dO,by simp⟩
 | branch o a b ho h1 h2=>exact⟨ho.val.r,by simp⟩
 | barrier a h=>exact⟨dO,by simp⟩
 | collect s d a b t hs hd ha hb h=>exact⟨ha.r,by simp⟩
 | exit=>exact⟨dO,by simp⟩
section
variable {h:Heap}{ro:Ro}{n:Nat}{c:Code}{l:bG}{it:It}{dR dL dE:D}{dm:Nat->D}{nm:Nat}{ents:List (D×D)}{st:St}
theorem fH.T0 (x:fH h ro n c l it dR dL dE dm nm ents st) (it':It):fH (ak h n (.box (.agg (nM c l it' dR (dm 3) dL (dm 1) (dm 2) dE nm)))) ro n c l it' dR dL dE dm nm ents st:=by
 have u:vK (λ r=>r≠.box) h ro (ak h n (.box (.agg (nM c l it' dR (dm 3) dL (dm 1) (dm 2) dE nm)))) ro:=λ k _ hr=>⟨aa _ _ (by rintro rfl;exact hr x.rb),rfl⟩
 obtain⟨V,U⟩:=u nm (by rw[x.map];simp) (by rw[x.rm];simp);refine⟨af _ _ _,x.rb,x.sr.aS (gH.aM (by rw[x.rb];rfl)),by rw[V];exact x.map,by rw[U];exact x.rm,x.keys,x.tru,λ s i k els e w s1 s2 hd hk he hw=>?_⟩;obtain⟨H,Q,O,I⟩:=x.sr.mem s s1 s2;rw[O]at hd;simp only[D.ms.injEq,true_and,and_true]at hd;subst hd;rw[(u H (dD I.hk) (by rw[I.rk];simp)).1]at hk;obtain⟨a1,a2⟩:=x.own s i H els e w s1 s2 O hk he hw;refine⟨a1,λ W=>?_⟩;obtain⟨G,Z,T,S⟩:=a2 W;obtain⟨d1,d2⟩:=u G (dD T) (by rw[S];simp);exact⟨G,Z,by rw[d1];exact T,by rw[d2];exact S⟩
def Oz (c:Code) (it1:It) (dR dP dL:D):D:=if(hU c it1.block).kind=5 then(cC c it1.id it1.epoch 3).e else Ty (cb c it1) dR dP dL
theorem Xk (x:fH h ro n c l it dR dL dE dm nm ents st) (hc:ba c) (hw:Hz c st) (hb:0<=it.block/\it.block<(c.b.length:Int)){KH:HKq}
  (hK:∀h' ro' it',Fr ro h ro' h'->fH h' ro' n c l it' dR dL dE dm nm ents st->KH (Oz c { it with regs:=st.regs,priv:=st.mem 3 } dR (dm 3) dL) h'):ag PP kC [.ptr n 0 0] h KH:=by
 refine aI CV (aC _ _ _) rfl (CM _ _) ?_;dsimp only[vt,xF,xJ,xL,xS,yF,yI,yL];obtain⟨k,B,c5,hB,c6,ht,hi⟩:=hc.RL hb;obtain⟨-,-,hT⟩:=hc.xs B c6;obtain⟨ho,c4⟩:=hT.ops;rw[fc];intro m t;have x1:=x.new t.free (.box (.agg [.int .i64 0,.int .i64 0,.int .i64 0,.int .i64 0,.nil,.nil,.nil]));have f1:Fr ro h (ak ro m .no) (ak h m (.box (.agg [.int .i64 0,.int .i64 0,.int .i64 0,.int .i64 0,.nil,.nil,.nil]))):=Fr.new t.free _;have hm:ak h m (.box (.agg [.int .i64 0,.int .i64 0,.int .i64 0,.int .i64 0,.nil,.nil,.nil])) m=.box (.agg [.int .i64 0,.int .i64 0,.int .i64 0,.int .i64 0,.nil,.nil,.nil]):=af _ _ _;have rm:ak ro m .no m=.no:=af _ _ _;have a7:=t.free;generalize ak h m (.box (.agg [.int .i64 0,.int .i64 0,.int .i64 0,.int .i64 0,.nil,.nil,.nil]))=h1 at x1 f1 hm;generalize ak ro m .no=Z at x1 f1 rm;clear x t;have c1:∀{K:D->Prop},an PP (.iadd (.c (.sl (c.b.map Block.e))) (.c (.int .i64 it.block)) 14) h1 K=K (.vp B.e 0):=λ {K}=>by rw[c5,eD,K8 hB]
 have a8:∀{K:D->Prop},an PP (.ld (.c (.vp B.e 1)) 13 true) h1 K=K B.t.e:=λ {K}=>by rw[fB,VZ]
 simp only[↓bw,x1.used,Nat.zero_add,Nat.reduceAdd,↓aX x1.box (j:=7) rfl,↓aX x1.box (j:=12) rfl,c1,↓qo,a8,true_and];rw[fc];intro p t2;rw[fG,af];refine⟨rfl,B.t.bR.one,rfl,Nat.le_refl _,?_⟩;rw[lf];have es:setCells (.agg [(.int .i64 0),(.int .i64 0),(.int .i64 0),(.int .i64 0),(.int .i32 0),(.int .i64 0),(.int .i64 0),(.int .i32 0),(.int .i64 0),(.int .i64 0),(.int .i32 0),(.int .i64 0),(.int .i64 0)]) 0 B.t.e.cells=.agg B.t.cs:=rfl;rw[es];have a6:m≠p:=t2.ne (by rw[hm];simp);have H:=x1.new t2.free (.box (.agg B.t.cs));have f2:Fr ro h (ak Z p .no) (ak h1 p (.box (.agg B.t.cs))):=f1.trans (Fr.new t2.free _);have T:ak h1 p (.box (.agg B.t.cs)) m=.box (.agg [.int .i64 0,.int .i64 0,.int .i64 0,.int .i64 0,.nil,.nil,.nil]):=by rw[aa _ _ a6];exact hm
 have S:ak h1 p (.box (.agg B.t.cs)) p=.box (.agg B.t.cs):=af _ _ _;have O:ak Z p .no m=.no:=by rw[aa _ _ a6];exact rm
 have c3:ak Z p .no p=.no:=af _ _ _;generalize ak h1 p (.box (.agg B.t.cs))=h2 at H f2 T S;generalize ak Z p .no=Q at H f2 O c3;clear x1 f1 hm rm t2 c1 a8;have up:(h2 p).used=true:=by rw[S];rfl
 obtain⟨u,G⟩:∃u:It,u={ it with regs:=st.regs,priv:=st.mem 3 }:=⟨_,rfl⟩;rw[<- G]at hK;have U:hU c u.block=B.t:=by rw[G];exact ht
 have o3:=(H.sr.mem 3 (by omega) (by omega)).one;have oR:=H.sr.regs.one;have oL:=H.sr.sl.one;refine⟨λ qs h'=>Fr ro h Q h'/\fH h' Q n c l (cb c u) dR dL dE dm nm ents st/\h' m=.box (.agg [.int .i64 0,.int .i64 0,.int .i64 0,.int .i64 0,.nil,.nil,.nil])/\(hU c u.block).kind≠5,?_,?_⟩
 ·rintro f h' ⟨f3,x3,a1,h5⟩;have e7:∀{K:HKq},ab PP (.ld (.c (.ptr n 0 10)) 7 true) h' K=K (Ty (cb c u) dR (dm 3) dL) h':=λ {K}=>by rw[SJ x3.box (by simp[nM])];rfl
  simp only[↓jc x3.used,Nat.zero_add,e7,true_and];rw[fG,a1];refine⟨rfl,λ z W=>?_,rfl,Nat.le_refl _,?_⟩
  ·simp[Ty]at W;rcases W with rfl|rfl|rfl|rfl|rfl|rfl|rfl<;>first|rfl|assumption
  have e8:setCells (.agg [.int .i64 0,.int .i64 0,.int .i64 0,.int .i64 0,.nil,.nil,.nil]) 0 (Ty (cb c u) dR (dm 3) dL).cells=Ty (cb c u) dR (dm 3) dL:=rfl;rw[e8];have e9:∀{g:Heap}{K:HKq},ab PP (.ld (.c (.ptr m 0 0)) 7 true) (ak g m (.box (Ty (cb c u) dR (dm 3) dL))) K=K (Ty (cb c u) dR (dm 3) dL) (ak g m (.box (Ty (cb c u) dR (dm 3) dL))):=λ {g K}=>eR (af _ _ _)
  rw[e9];have:=hK (ak h' m (.box (Ty (cb c u) dR (dm 3) dL))) Q _ (f3.PN a7) (x3.aM O _);simp only[Oz,h5,if_false]at this;exact this
 have ub:∀{g:Heap}{j:Nat}{d:D}{K:HKq},g p=.box (.agg B.t.cs)->B.t.cs[j]?=some d->ab PP (.ld (.c (.ptr p 0 j)) 1 false) g K=K d g:=λ a b=>cT a b
 have ia:∀{g:Heap}{a:Int}{i:Nat}{K:HKq},a=(i:Int)->i<2->g p=.box (.agg B.t.cs)->ab PP (.iadda (.c (.ptr p 0 11)) (.c (.int .i64 a)) 2 1) g K=K (.ptr p 0 (11+i)) g:=λ {g a i K} ha hi hg=>by
  subst ha;have:ab PP (.iadda (.c (.ptr p 0 11)) (.c (.int .i64 (i:Int))) 2 1) g K=(0<=(i:Int)/\(i:Int)<((2:Nat):Int)/\(g p).live=true/\K (.ptr p 0 (11+(i:Int).toNat*1)) g):=rfl;rw[this,hg];apply propext;constructor
  ·rintro⟨-,-,-,h⟩;simpa using h
  ·intro h;exact⟨by omega,by omega,rfl,by simpa using h⟩
 have c2:∀{g:Heap}{a2:Ro}{it':It}{b:Int}{K:Heap->Prop},fH g a2 n c l it dR dL dE dm nm ents st->K (ak g n (.box (.agg (nM c l { it with block:=b } dR (dm 3) dL (dm 1) (dm 2) dE nm))))->ab PP (.st (.c (.ptr n 0 12)) (.c (.int .i64 b)) 1) g λ _ h'=>K h':=λ {g a2 it' b K} y hk=>by
  rw[fG,y.box];exact⟨rfl,by simp,rfl,by simp[nM],hk⟩
 have I:∀{g:Heap}{b:Int},fH g Q n c l it dR dL dE dm nm ents st->Fr ro h Q g->g m=.box (.agg [.int .i64 0,.int .i64 0,.int .i64 0,.int .i64 0,.nil,.nil,.nil])->(hU c u.block).kind≠5->cb c u={ u with block:=b }->ab PP (.st (.c (.ptr n 0 12)) (.c (.int .i64 b)) 1) g λ _ h' =>
   Fr ro h Q h'/\fH h' Q n c l (cb c u) dR dL dE dm nm ents st/\h' m=.box (.agg [.int .i64 0,.int .i64 0,.int .i64 0,.int .i64 0,.nil,.nil,.nil])/\(hU c u.block).kind≠5:=by
  intro g b y fg gm h5 hl;refine c2 (it':=it) y ⟨fg.trans (Fr.aM (by rw[y.rb];simp) (by simp)),?_,?_,h5⟩
  ·rw[hl];have:=y.T0 { u with block:=b };rw[G]at this ⊢;exact this
  ·rw[aa _ _ (by rintro rfl;rw[y.rb]at O;cases O)];exact gm
 simp only[↓jc up,Nat.zero_add,↓ub S (j:=0) rfl,↓bZ,true_and];rcases c4 with h0|h0|h0|h0|h0
 ·simp only[h0,decide_true,↓ai,↓jc up,Nat.zero_add,true_and];rw[ia (a:=0) (i:=0) rfl (by omega) S,ub S (j:=11) rfl];simp only[↓jc H.used,Nat.zero_add,Nat.reduceAdd,ae,true_and];refine I H f2 T (by rw[U,h0];simp) ?_;simp[cb,U,h0]
 ·simp only[h0,Int.reduceEq,decide_false,decide_true,↓ai,↓ah,↓bw,H.used,up,Nat.zero_add,Nat.reduceAdd,H.XW,true_and];have e3:∀{K:D->Prop},an PP (.ld (.c (.ptr p 0 5)) 3 true) h2 K=K B.t.a.e:=λ {K}=>by rw[fB,SJ S (by simp[Term.cs])];rfl
  rw[e3];refine Re H (by rw[hw.len];exact ho) λ h3 e3 x3=>?_
  have V:h3 p=.box (.agg B.t.cs):=by rw[e3 p (by rw[S];simp)];exact S
  have a1:h3 m=.box (.agg [.int .i64 0,.int .i64 0,.int .i64 0,.int .i64 0,.nil,.nil,.nil]):=by rw[e3 m (by rw[T];simp)];exact T
  have a5:(h3 p).used=true:=by rw[V];rfl
  rw[mA];by_cases W:bN st.regs B.t.a=0
  ·simp only[W,decide_true,Bool.not_true,↓ah,↓jc a5,Nat.zero_add,true_and];rw[ia (a:=1) (i:=1) rfl (by omega) V,ub V (j:=12) rfl];simp only[↓jc x3.used,Nat.zero_add,Nat.reduceAdd,ae,true_and];refine I x3 (f2.trans (Fr.ext e3)) a1 (by rw[U,h0];simp) ?_;simp[cb,U,h0];rw[G];simp[W]
  ·simp only[W,decide_false,Bool.not_false,↓ai,↓jc a5,Nat.zero_add,true_and];rw[ia (a:=0) (i:=0) rfl (by omega) V,ub V (j:=11) rfl];simp only[↓jc x3.used,Nat.zero_add,Nat.reduceAdd,ae,true_and];refine I x3 (f2.trans (Fr.ext e3)) a1 (by rw[U,h0];simp) ?_;simp[cb,U,h0];rw[G];simp[W]
 ·simp only[h0,Int.reduceEq,decide_false,↓ah,↓jc H.used,Nat.zero_add,Nat.reduceAdd,ae,true_and];rw[fG,H.box];refine⟨rfl,by simp,rfl,by simp[nM],f2.trans (Fr.aM (by rw[H.rb];simp) (by simp)),?_,?_,by rw[U,h0];simp⟩
  ·have e:cb c u={ u with at_:=2 }:=by simp[cb,U,h0]
   rw[e];have:=H.T0 { u with at_:=2 };rw[G]at this ⊢;exact this
  ·rw[aa _ _ (by rintro rfl;rw[H.rb]at O;cases O)];exact T
 ·simp only[h0,Int.reduceEq,decide_false,↓ah,↓jc H.used,Nat.zero_add,Nat.reduceAdd,ae,true_and];rw[fG,H.box];refine⟨rfl,by simp,rfl,by simp[nM],f2.trans (Fr.aM (by rw[H.rb];simp) (by simp)),?_,?_,by rw[U,h0];simp⟩
  ·have e:cb c u={ u with at_:=2 }:=by simp[cb,U,h0]
   rw[e];have:=H.T0 { u with at_:=2 };rw[G]at this ⊢;exact this
  ·rw[aa _ _ (by rintro rfl;rw[H.rb]at O;cases O)];exact T
 ·simp only[h0,Int.reduceEq,decide_false,decide_true,↓ai,↓ah,↓bw,H.used,Nat.zero_add,Nat.reduceAdd,↓aX H.box (j:=10) rfl,↓aX H.box (j:=13) rfl,true_and];have e8:∀{K:D->Prop},an PP (.ld (.c (.ptr n 0 0)) 8 true) h2 K=K c.e:=λ {K}=>by rw[fB,SJ H.box (by simp[nM])];rfl
  rw[e8];refine ud (Rf hc) ?_ ?_
  ·intro z W;simp[Arg.get]at W;rcases W with rfl|rfl|rfl|rfl
   ·exact kL c
   ·exact dT
   ·exact dT
   ·exact dT
  rw[fG,T];refine⟨rfl,(It.bR _).one,rfl,Nat.le_refl _,?_⟩;have e9:setCells (.agg [.int .i64 0,.int .i64 0,.int .i64 0,.int .i64 0,.nil,.nil,.nil]) 0 (cC c it.id it.epoch 3).e.cells=(cC c it.id it.epoch 3).e:=rfl;rw[e9];have c7:∀{g:Heap}{K:HKq},ab PP (.ld (.c (.ptr m 0 0)) 7 true) (ak g m (.box (cC c it.id it.epoch 3).e)) K=K (cC c it.id it.epoch 3).e (ak g m (.box (cC c it.id it.epoch 3).e)):=λ {g K}=>eR (cs:=(cC c it.id it.epoch 3).cs) (af _ _ _)
  rw[c7];have:=hK (ak h2 m (.box (cC c it.id it.epoch 3).e)) Q it (f2.PN a7) (H.aM O _);simp only[Oz,U,h0,if_true]at this;rw[G]at this;exact this
end
end Go.Am
namespace Go.Am
open Go Go.Proofs
theorem acM {vals:Array Value}(h:vals.size=8):∃a b c d e f g i:Value,vals = #[a,b,c,d,e,f,g,i]:=by
 obtain⟨l⟩:=vals
 match l,h with
 | [a,b,c,d,e,f,g,i],_=>exact⟨a,b,c,d,e,f,g,i,rfl⟩
theorem So:Idle PP jU 8:=by
 intro w vals hs;obtain⟨a,b,c,d,e,f,g,i,rfl⟩:=acM hs;refine CallsDIn.mono (R:=λ e u w'=>e=.returned (.tuple #[])/\u=.returning/\w'=w) ?_ (by rintro e u w' ⟨rfl,rfl,rfl⟩;exact⟨_,rfl,rfl,rfl⟩);refine callsDIn_of_wpSIn Tryz.func95 rfl trivial λ c₀ cs hu=>?_
 apply wpSIn_seq;apply wpSIn_region;simp[wpOpsSIn,go_sem,recoverD,hu,Tryz.ntmps95,Exit.thenS];apply wpSIn_seq;apply wpSIn_region;simp[wpOpsSIn,go_sem,Exit.thenS];refine wpSIn_cond (t:=false) (by simp[Act.eval]) ?_;simp only[dj,if_false];refine wpSIn_of_wpIn rfl (wpIn_skip ?_);cases c₀;simp_all [bodyPostS,results]
theorem grow {c:Ctx}(hr:au c) (o:Obj):c.le ⟨c.ρ,c.X,c.h,c.hp.push o⟩/\au ⟨c.ρ,c.X,c.h,c.hp.push o⟩:=by
 have hg:∀g,g<c.hp.size->(c.hp.push o)[g]?=c.hp[g]?:=λ g h=>by rw[Array.getElem?_push,if_neg (by omega)]
 have lt:∀{g:Nat}{x:Obj},c.hp[g]?=some x->g<c.hp.size:=λ h=>(Array.getElem?_eq_some_iff.1 h).1
 have hle:c.le ⟨c.ρ,c.X,c.h,c.hp.push o⟩ :=
  ⟨by simp,rfl,λ g h _=>hg g h,λ g cur _ _ h=>⟨cur,by rw[<- h];exact hg g (lt h),rfl⟩,λ g r h=>⟨r,by rw[<- h];exact hg g (lt h),rfl⟩,λ _ _=>rfl,λ _=>Trans.refl _,λ n g hm hρ _=>⟨n,hm,hρ⟩⟩
 refine⟨hle,λ n=>kr hle (hr.slot n) (λ _ _=>rfl) (λ g hm hρ=>?_),hr.inj,hr.apart,λ g hx=>by have:=hr.xlt g hx;simp;omega,hr.fin,hr.glob.mono hle,by have:=hr.lo;simp;omega⟩;have hs:=hr.slot n;refine hg g ?_
 cases hn:c.h n with
 | free=>rw[hn]at hm;cases hm
 | dead=>rw[hn]at hm;cases hm
 | box v=>rw[hn]at hs;obtain⟨u,cur,ty,h1,h2,-⟩:=hs;rw[hρ]at h1;cases h1;exact lt h2
 | arr e l =>
  rw[hn]at hs;obtain⟨-,-,-,⟨h1,-⟩|⟨u,cur,ty,h1,h2,-⟩⟩:=hs
  ·rw[hρ]at h1;cases h1
  ·rw[hρ]at h1;cases h1;exact lt h2
 | frz e l=>rw[hn]at hm;cases hm
 | lp st B=>rw[hn]at hs;obtain⟨u,t,d,h1,h2,-⟩:=hs;rw[hρ]at h1;cases h1;exact lt h2
 | map kt l=>rw[hn]at hs;obtain⟨u,t,d,h1,h2,-⟩:=hs;rw[hρ]at h1;cases h1;exact lt h2
theorem WT (w:World):(Instr.typeAssert (.iface 190 (.agg #[])) 20 190 true).run PP w=.ok (.tuple #[.agg #[],.bool true]) w:=by kernel_rfl
def YK (o:Oper):Prop:=(∃t x,o.op=.load t x)\/∃t x y,o.op=.store t x y
theorem adA {F:Fence}{n:Nat}{o:Oper}{a:Act}{w:World}{next next':Act->World->Prop}{Q:Exit->Act->World->Prop}{dfs:List Deferred}(hd:a.defers=dfs) (hn:∀v w',next (a.put o.dst v) w'->next' (a.put o.dst v) w'){s:Sem Value}
  (h:o.uponIn F n PP a next Q ((do pure (Next.value (<- s)):Sem Next).run PP w)):o.uponIn F n PP a next' (λ e a' w'=>Q e a' w'/\a'.defers=dfs) ((do pure (Next.value (<- s)):Sem Next).run PP w):=by
 simp only[Sem.run_bind]at h ⊢
 cases hr:s.run PP w with
 | ok v w'=>rw[hr]at h;exact hn v w' h
 | halt x w' =>
  rw[hr]at h
  cases x with
  | panic v=>exact⟨h,hd⟩
  | _=>exact h
theorem adB {F:Fence}{n:Nat}{o:Oper}{a:Act}{w:World}{next next':Act->World->Prop}{Q:Exit->Act->World->Prop}{dfs:List Deferred}(hd:a.defers=dfs) (hn:∀v w',next (a.put o.dst v) w'->next' (a.put o.dst v) w'){s:Sem Unit}
  (h:o.uponIn F n PP a next Q ((do s;pure Next.skip:Sem Next).run PP w)):o.uponIn F n PP a next' (λ e a' w'=>Q e a' w'/\a'.defers=dfs) ((do s;pure Next.skip:Sem Next).run PP w):=by
 simp only[Sem.run_bind]at h ⊢
 cases hr:s.run PP w with
 | ok v w'=>rw[hr]at h;exact hn _ w' h
 | halt x w' =>
  rw[hr]at h
  cases x with
  | panic v=>exact⟨h,hd⟩
  | _=>exact h
theorem aaq {F:Fence}{n:Nat}{o:Oper}{a:Act}{w:World}{next next':Act->World->Prop}{Q:Exit->Act->World->Prop}{dfs:List Deferred}(hd:a.defers=dfs) (hn:∀v w',next (a.put o.dst v) w'->next' (a.put o.dst v) w') (ho:YK o)
  (h:o.uponIn F n PP a next Q ((execOp a.eval o).run PP w)):o.uponIn F n PP a next' (λ e a' w'=>Q e a' w'/\a'.defers=dfs) ((execOp a.eval o).run PP w):=by
 rcases ho with⟨t,x,e⟩|⟨t,x,y,e⟩
 ·simp only[execOp,e]at h ⊢;exact adA hd hn h
 ·simp only[execOp,e]at h ⊢;exact adB hd hn h
theorem SG {F:Fence}{n:Nat}{ops:Array Oper}{Q:Exit->Act->World->Prop}{dfs:List Deferred}(hops:∀(i:Nat) (o:Oper),ops[i]?=some o->YK o) :
  ∀(l:List Nat) (a:Act) (w:World),a.defers=dfs->wpOpsIn F n PP ops Q l a w->wpOpsIn F n PP ops (λ e a' w'=>Q e a' w'/\a'.defers=dfs) l a w:=by
 intro l
 induction l with
 | nil=>exact λ a w hd h=>⟨h,hd⟩
 | cons i rest u =>
  intro a w hd h;have put:∀v dst,(a.put dst v).defers=dfs:=λ v dst=>by cases dst<;>exact hd
  simp only[wpOpsIn]at h ⊢
  cases ho:ops[i]? with
  | none=>rw[ho]at h;exact u a w hd h
  | some o =>
   rw[ho]at h;simp only at h ⊢;by_cases hw:Region.wanted o (yielded ops a.tmps)=true
   ·rw[if_pos hw]at h ⊢;refine⟨h.1,?_⟩;have h2:=h.2
    have G:∀c,o.op≠.defer c:=by
     rcases hops i o ho with⟨t,x,e⟩|⟨t,x,y,e⟩<;>rw[e]<;>intro c hc<;>cases hc
    rw[Oper.semAt_eq _ _ _ G]at h2 ⊢;exact aaq hd (λ v w' H=>u _ _ (put _ _) H) (hops i o ho) h2
   ·rw[if_neg hw]at h ⊢;exact⟨h.1,u _ _ (put _ _) h.2⟩
def l5:List AOper:=[⟨(some 22),.ld (.t 0) 7 true,none⟩,⟨(some 23),.ld (.t 1) 1 false,none⟩,⟨(some 24),.ld (.t 2) 1 false,none⟩,⟨none,.st (.t 3) (.t 22) 7,none⟩,⟨none,.st (.t 4) (.t 23) 1,none⟩,⟨none,.st (.t 5) (.t 24) 1,none⟩,⟨none,.st (.t 6) (.c .nil) 1,none⟩,
  ⟨none,.st (.t 7) (.c (.int .i64 70)) 1,none⟩]
noncomputable def Uz:Array Oper:=match Tryz.f95.body with
 | some (.seq _ (.seq _ (.cond _ (.seq _ (.region _ ops _)) _)))=>ops
 | _=> #[]
theorem Xw:(Uz.toList.drop 0).mapM (cOper PP true 25 Uz)=some l5:=by kernel_rfl
theorem ops5_ls (i:Nat) (o:Oper) (h:Uz[i]?=some o):YK o:=by
 have:Uz.toList.all (λ o=>match o.op with|.load _ _=>true|.store _ _ _=>true|_=>false)=true:=by kernel_rfl
 have hm:o∈Uz.toList:=by
  rw[<- Array.getElem?_toList]at h;exact aK h
 have:=(List.all_eq_true.1 this) o hm;unfold YK;split at this
 ·rename_i t x e;exact Or.inl ⟨t,x,e⟩
 ·rename_i t x y e;exact Or.inr ⟨t,x,y,e⟩
 ·cases this
theorem Sp {ds:List D}{h:Heap}{K:Heap->Prop}(hds:ds.length=8) (hv:zu PP l5 (λ _ h'=>K h') (params ds 0) h):Wv PP jU ds h K:=by
 intro c0 w vals hh hp hr hs hrel;obtain⟨a,b,c,d,e,f,g,i,rfl⟩:=acM (hs.trans hds);have c2:ck.panv=Value.iface 190 (.agg #[]):=rfl;rw[c2]
 generalize hR:(λ(e:Ending) (u:FrameMode) (w':World)=>∃(v:Value) (ρ:Nat->Option Nat) (h':Heap),e=.returned v/\u=.panicking [{ v:=Value.iface 190 (.agg #[]),recovered:=true }] /\
   c0.le ⟨ρ,c0.X,h',w'.heap⟩/\au ⟨ρ,c0.X,h',w'.heap⟩/\WS w w'/\K h')=R
 refine callsDIn_of_wpSIn Tryz.func95 rfl trivial λ c₀ cs hu=>?_
 apply wpSIn_seq;apply wpSIn_region;simp[wpOpsSIn,go_sem,recoverD,hu,Tryz.ntmps95,Exit.thenS];apply wpSIn_seq;apply wpSIn_region;simp[wpOpsSIn,go_sem,Exit.thenS];refine wpSIn_cond (t:=true) (by simp[Act.eval]) ?_;simp only[if_true];apply wpSIn_seq;apply wpSIn_seq;apply wpSIn_region;simp[wpOpsSIn,go_sem,Exit.thenS,WT];apply wpSIn_seq;apply wpSIn_region;simp[wpOpsSIn,go_sem,Exit.thenS];refine wpSIn_cond (t:=false) (by simp[Act.eval]) ?_;simp only[dj,if_false];refine wpSIn_of_wpIn rfl (wpIn_skip ?_);refine wpSIn_of_wpIn rfl ?_;obtain⟨g1,g2⟩:=grow hr (Obj.cells #[] 190);have G:(w.alloc (Obj.cells #[] 190)).heap=c0.hp.push (Obj.cells #[] 190):=by rw[hp];rfl
 generalize W:w.alloc (Obj.cells #[] 190)=V at G ⊢;have a8:WS w V:=by subst W;exact⟨rfl,rfl,rfl⟩
 obtain⟨T,O⟩:∃T:Ctx,T=⟨c0.ρ,c0.X,c0.h,c0.hp.push (Obj.cells #[] 190)⟩:=⟨_,rfl⟩;rw[<- O]at g1 g2;obtain⟨S,H⟩:∃S:Ctx,S=⟨c0.ρ,⟨c0.X.p,c0.X.lo,[]⟩,c0.h,V.heap⟩:=⟨_,rfl⟩;have I:ni T S:=by subst H O;exact⟨rfl,rfl,λ _=>Iff.rfl,by rw[G],λ _ _ _ _ h=>by rw[G];exact h,λ _ _ h=>by rw[G];exact h,λ _ _ _ h=>by rw[G];exact h⟩
 have a7:fj S:=λ k o hk=>by
  have:=g2.glob k o hk;subst H O;refine⟨by rw[G];exact this.1,λ ho=>this.2 ((I.own k).1 ho),by rw[G];exact this.3⟩
 have a5:au S:=g2.aM I a7 (by subst H;have:=g2.lo;subst O;rw[G];exact this)
 let U:Act:=⟨#[a,b,c,d,e,f,g,i]++(((((((((((((Array.replicate 17 Go.undef).setIfInBounds 3 (Value.iface 190 (Value.agg #[]))).setIfInBounds 0 (Value.iface 190 (Value.agg #[]))).setIfInBounds 4 (Value.iface 190 (Value.agg #[]))).setIfInBounds 5 (Value.bool true)).setIfInBounds 7 (Value.iface 190 (Value.agg #[]))).setIfInBounds
  8 (Value.tuple #[Value.agg #[],Value.bool true])).setIfInBounds 6 (Value.tuple #[Value.agg #[],Value.bool true])).setIfInBounds 9 (Value.agg #[])).setIfInBounds 10 (Value.bool true)).setIfInBounds 1 (Value.pointer (some { block:=w.heap.size,off:=0 }))).setIfInBounds 2 (Value.bool true)).setIfInBounds 11 (Value.bool true)).setIfInBounds 12 (Value.bool !true),[]⟩
 have Z:oe S 25 (params ds 0).get U:=by
  refine⟨a7,a5.lo,fV.nil (by subst H;rfl),by simp[U],λ k=>?_⟩;rw[qL];split
  ·rename_i hk;rw[Nat.sub_zero];have a6:k<ds.length:=by omega
   have c3:k<8:=by omega
   have:ds.getD k .undef=ds[k]:=by simp[List.getD,a6]
   rw[this];have:=((hrel k ds[k] (aG a6)).mono (g1)).aM I
   have e1:U.tmps.getD k Go.undef=(#[a,b,c,d,e,f,g,i]:Array Value).getD k Go.undef:=by
    simp only[U,Array.getD_eq_getD_getElem?];rw[Array.getElem?_append_left (by simpa using c3)]
   rw[e1];exact this
  ·exact .undef _
 have c4:S.h=h:=by subst H;exact hh
 have c5:=K3 (nt:=25) l5 0 Xw hv;have hq:=c5 none S V U (λ e a' w'=>e=.normal/\Fin S V 25 (up λ _ h'=>K h') a' w') c4 (by subst H;rfl) a5 Z (λ a' w' hf=>⟨rfl,hf⟩);have hq2:=SG (dfs:=[]) ops5_ls _ U V rfl hq;have a2:=wpIn_region (id:=5) hq2;refine wpIn_mono a2 ?_;rintro x a' w' ⟨⟨rfl,ρ,t,h',r1,r2,r3,r4,e',rfl,hk⟩,hd⟩
 have hle:T.le ⟨ρ,T.X,h',w'.heap⟩:=by
  have:=r1.Tx T.X T.X rfl;subst H O;rw[G]at this;exact this
 have Q:c0.le ⟨ρ,c0.X,h',w'.heap⟩:=by
  have:=g1.trans hle;subst O;exact this
 refine⟨hd,_,rfl,.tuple #[],by simp[results,go_sem,Tryz.f95],?_⟩;rw[<- hR];refine⟨_,ρ,h',rfl,rfl,Q,?_,a8.trans r3,hk⟩;refine au.aM (c:=⟨ρ,S.X,h',w'.heap⟩) (c':=⟨ρ,c0.X,h',w'.heap⟩) ⟨rfl,rfl,λ g=>by subst H;exact Iff.rfl,rfl,λ _ _ _ _ h=>h,λ _ _ h=>h,λ _ _ _ h=>h⟩ r2 (hr.glob.mono Q) (Nat.le_trans hr.lo Q.size)
theorem ZC {s a:Int}(ha:mm a):mm (YP s a) :=
 cr (cr ha (dW _))<|cr (dW _)<|cr (dW _)<|cr (dW _) (Rx ha (by simp[IntKind.bits]))
theorem Us {c:Code}{l:bG}{id:Int}{x:aW}{st:St}(hl:bY c l) (hw:Hz c st) (hx:Bi c x) (hop:x.op<=6):mm (sx c l id x st.regs):=by
 have va:=λ {o:fQ}(ho:jH c.regs o)=>oh hw.regs ho
 have z:mm 0:=⟨by omega,by omega⟩;unfold sx;obtain⟨hx,-,-⟩:=hx
 cases hx with
 | mov d a h1 h2=>simpa using va h2
 | un s d a h0 h1 h2=>simpa using ZC (va h2)
 | bin s d a b h0 h1 h2 h3=>simpa using NJ h0 (va h2) (va h3)
 | sel d a b u h1 h2 h3 h4=>simpa using cr (va h4) (va h3)
 | id s d h0 h1=>simpa using dW _
 | param k d h0 h1=>simpa using JE hl.w _
 | load _ _ _ _ _ _=>simp at hop
 | store _ _ _ _ _ _=>simp at hop
 | atom _ _ _ _ _ _ _ _=>simp at hop
 | fence _ _=>simp at hop
theorem Hz.tT {c:Code}{st:St}(h:Hz c st){k:Nat}{v:Int}(hv:mm v):Hz c (st.tT k v):=⟨by simpa[St.tT] using h.len,JD h.regs hv,h.mem⟩
theorem Hz.tell {c:Code}{st:St}(h:Hz c st) (e:Ev):Hz c (st.tell c e):=⟨h.len,h.regs,h.mem⟩
theorem EN {c:Code}{st:St}{e:Ev}:(st.tell c e).ev.length<=st.ev.length+1:=by
 simp only[St.tell];split<;>simp
theorem OK {c:Code}{l:bG}{id:Int}{x:aW}{e:Ev}{st st':St}(hc:ba c) (hl:bY c l) (hw:Hz c st) (hx:Bi c x) (h:lP c l id x e st=some st'):Hz c st'/\st'.ev.length<=st.ev.length+1:=by
 unfold lP at h;by_cases u:x.op=7
 ·rw[if_pos u]at h;split at h
  ·obtain⟨k,h1,h2,h3,-⟩:=hx.acc (Or.inl u);cases h;rw[h1];exact⟨(hw.tell _).tT (St.EI hw (qX hc h2) hc _),EN⟩
  ·cases h
 rw[if_neg u]at h;by_cases I:x.op=8
 ·rw[if_pos I]at h;split at h
  ·obtain⟨k,h1,h2,h3,h4⟩:=hx.acc (Or.inr (Or.inl I));cases h;exact⟨(hw.put (oh hw.regs (h4 u))).tell _,EN⟩
  ·cases h
 rw[if_neg I]at h;by_cases H:x.op=9
 ·rw[if_pos H]at h;split at h
  ·obtain⟨k,h1,h2,h3,h4⟩:=hx.acc (Or.inr (Or.inr H));cases h;rw[h1];exact⟨(hw.put (NJ (hx.RP H) (St.EI hw (qX hc h2) hc _) (oh hw.regs (h4 u)))).tell _,EN⟩
  ·cases h
 rw[if_neg H]at h;by_cases G:x.op=10
 ·rw[if_pos G]at h;cases h;exact⟨hw.tell _,EN⟩
 rw[if_neg G]at h;cases h;have hop:x.op<=6:=by have:=hx.opc;omega
 exact⟨hw.tT (Us hl hw hx hop),by simp[St.tT]⟩
theorem Q8 {c:Code}{l:bG}{id aM block:Int}(hc:ba c) (hl:bY c l):∀(xs:List aW) (k:Nat) (st st':St),(∀x∈xs,Bi c x)->Hz c st->runP c l id aM block xs k st=some st'->Hz c st'/\st'.ev.length<=st.ev.length+xs.length
 | [],k,st,st',_,hw,h=>by cases h;exact⟨hw,by simp⟩
 | x::r,k,st,st',hx,hw,h=>by
  simp only[runP,Option.bind_eq_some_iff]at h;obtain⟨s1,h1,h2⟩:=h;obtain⟨G,l1⟩:=OK hc hl hw (hx x (by simp)) h1;obtain⟨u,H⟩:=Q8 hc hl r (k+1) s1 st' (λ y hy=>hx y (by simp[hy])) G h2;exact⟨u,by simp;omega⟩
structure ItW (c:Code) (l:bG) (it:It):Prop where
 id:0<=it.id/\it.id<l.groups*c.group
 at_:it.at_=1\/it.at_=2\/it.at_=3
 block:0<=it.block/\it.block<(c.b.length:Int)
 len:(it.regs.length:Int)=c.regs
 regs:∀v∈it.regs,mm v
 priv:cq c.arrays 3 it.priv
theorem TW {c:Code}{l:bG}{it:It}{g s:Mm}(h:ItW c l it) (hg:cq c.arrays 1 g) (hs:cq c.arrays 2 s):Hz c (Q5 it g s):=by
 refine⟨h.len,h.regs,λ k h1 h2=>?_⟩;have:k=1\/k=2\/k=3:=by omega
 rcases this with rfl|rfl|rfl
 ·exact hg
 ·exact hs
 ·exact h.priv
theorem Up {h:Heap}{KH:HKq}(h1:KH .nil h)
  (hK:∀(q:Nat) (h':Heap),h q=.free->h' q=.arr 1 []->(∀k,h k≠.free->h' k=h k)->KH (.ms q 0 0) h'):ag PP aU [.sl []] h KH:=by
 refine aI iB (aC _ _ _) rfl (iA _ _) ?_;unfold fh;have:∀{KH:HKq},ab PP (.nilq false (.c (.sl []))) h KH=(KH (.bool true) h/\KH (.bool false) h):=rfl;rw[this,ah,ai];refine⟨h1,KL λ n t=>?_⟩;refine⟨λ d hd=>(by cases hd),λ y hy=>(by cases hy),[],.of (af _ _ _),rfl,⟨by simp,by simp⟩,λ m t2=>⟨?_,λ h0=>absurd rfl h0⟩⟩;have u:=t2.free;have G:m≠n:=by rintro rfl;rw[af]at u;cases u
 exact hK m (ak (ak (ak h n (.arr 1 [])) n .dead) m (.arr 1 [])) (by rw[aa _ _ G]at u;exact u) (af _ _ _) λ k hk=>by
  have h1:k≠n:=t.ne hk;have h2:k≠m:=t2.ne (by rw[aa _ _ h1];exact hk);rw[aa _ _ h2,aa _ _ h1,aa _ _ h1]
theorem gH.adu {ro:Ro}{h h':Heap}{n:Nat}(hn:h n=.free) (hk:∀k,h k≠.free->h' k=h k) (r:xh):gH h ro h' (ak ro n r):=λ k u _=>by
 have:k≠n:=by rintro rfl;exact u hn
 exact⟨hk k u,aa _ _ this⟩
theorem PS {a b c d e f g i:Nat}{h:Heap}{K:Heap->Prop}
  (hv:ab PP (.ld (.c (.ptr a 0 0)) 7 true) h λ x h1=>ab PP (.ld (.c (.ptr b 0 0)) 1 false) h1 λ y h2=>ab PP (.ld (.c (.ptr c 0 0)) 1 false) h2 λ z h3 =>
   ab PP (.st (.c (.ptr d 0 0)) (.c x) 7) h3 λ _ h4=>ab PP (.st (.c (.ptr e 0 0)) (.c y) 1) h4 λ _ h5=>ab PP (.st (.c (.ptr f 0 0)) (.c z) 1) h5 λ _ h6 =>
   ab PP (.st (.c (.ptr g 0 0)) (.c .nil) 1) h6 λ _ h7=>ab PP (.st (.c (.ptr i 0 0)) (.c (.int .i64 70)) 1) h7 λ _ h8=>K h8) :
  Wv PP jU [.ptr a 0 0,.ptr b 0 0,.ptr c 0 0,.ptr d 0 0,.ptr e 0 0,.ptr f 0 0,.ptr g 0 0,.ptr i 0 0] h K:=Sp rfl hv
structure gy (h:Heap) (c:Code) (l:bG) (it:It) (g s:Mm):Prop where
 b0:h 0=.box c.e
 b1:h 1=.box l.e
 b2:h 2=.box (.agg it.cs)
 b3:h 3=.box (aZ g)
 b4:h 4=.box (aZ s)
 b5:h 5=.box (.agg [.int .i64 0,.int .i64 0,.int .i64 0,.int .i64 0,.nil,.nil,.nil])
 b6:h 6=.box .nil
 b7:h 7=.box .nil
 b8:h 8=.box .nil
 b9:h 9=.box (.int .i64 0)
theorem gy.aS {h h':Heap}{c:Code}{l:bG}{it:It}{g s:Mm}(b:gy h c l it g s) (k:∀j,j<10->h' j=h j):gy h' c l it g s :=
  ⟨by rw[k 0 (by omega)];exact b.b0,by rw[k 1 (by omega)];exact b.b1,by rw[k 2 (by omega)];exact b.b2,by rw[k 3 (by omega)];exact b.b3,by rw[k 4 (by omega)];exact b.b4,
   by rw[k 5 (by omega)];exact b.b5,by rw[k 6 (by omega)];exact b.b6,by rw[k 7 (by omega)];exact b.b7,by rw[k 8 (by omega)];exact b.b8,by rw[k 9 (by omega)];exact b.b9⟩
theorem gy.nf {h:Heap}{c:Code}{l:bG}{it:It}{g s:Mm}(b:gy h c l it g s){j:Nat}(hj:j<10):h j≠.free:=by
 have:j=0\/j=1\/j=2\/j=3\/j=4\/j=5\/j=6\/j=7\/j=8\/j=9:=by omega
 rcases this with rfl|rfl|rfl|rfl|rfl|rfl|rfl|rfl|rfl|rfl
 ·rw[b.b0];simp
 ·rw[b.b1];simp
 ·rw[b.b2];simp
 ·rw[b.b3];simp
 ·rw[b.b4];simp
 ·rw[b.b5];simp
 ·rw[b.b6];simp
 ·rw[b.b7];simp
 ·rw[b.b8];simp
 ·rw[b.b9];simp
section
variable {h:Heap}{c:Code}{l:bG}{it:It}{g s:Mm}{K:D->Prop}
theorem gy.lc (b:gy h c l it g s):an PP (.ld (.c (.ptr 0 0 0)) 8 true) h K=K c.e:=by rw[fB];exact eR b.b0
theorem gy.ll (b:gy h c l it g s):an PP (.ld (.c (.ptr 1 0 0)) 2 true) h K=K l.e:=by rw[fB];exact eR b.b1
theorem gy.li (b:gy h c l it g s):an PP (.ld (.c (.ptr 2 0 0)) 7 true) h K=K it.e:=by rw[fB];exact eR b.b2
theorem ub {n:Nat}{d:D}(a:h n=.box d) (hd:d.cells=[d]){KH:HKq}:ab PP (.ld (.c (.ptr n 0 0)) 1 false) h KH=KH d h:=by
 rw[kT,a];simp[bg,hd]
theorem sj {n:Nat}{d:D}(a:h n=.box d) (hd:d.cells=[d]):an PP (.ld (.c (.ptr n 0 0)) 1 false) h K=K d:=by rw[fB,ub a hd]
theorem gy.lg (b:gy h c l it g s):an PP (.ld (.c (.ptr 3 0 0)) 1 false) h K=K (aZ g):=sj b.b3 rfl
theorem gy.ls (b:gy h c l it g s):an PP (.ld (.c (.ptr 4 0 0)) 1 false) h K=K (aZ s):=sj b.b4 rfl
theorem zo {n:Nat}{d d':D}(a:h n=.box d) (hd:d.cells=[d]) (hd':d'.cells=[d']) (ho:d'.one=true){KH:HKq}:ab PP (.st (.c (.ptr n 0 0)) (.c d') 1) h KH=KH .undef (ak h n (.box d')):=by
 have e:setCells d 0 d'.cells=d':=by
  rw[hd']
  cases d with
  | agg cs =>
   exfalso;have h0:cs=[D.agg cs]:=hd;have:=congrArg (λ x:List D=>SizeOf.sizeOf x) h0;simp at this;omega
  | _=>rfl
 rw[fG,a];apply propext;constructor
 ·rintro⟨-,-,-,-,h⟩;rw[e]at h;exact h
 ·intro h;exact⟨by rw[hd'];rfl,λ x hx=>by rw[hd']at hx;simp at hx;subst hx;exact ho,rfl,by rw[hd];simp,by rw[e];exact h⟩
end
theorem UZ (it:It):aD it.e:=it.bR.one
theorem aaL {h:Heap}{dI dG dS dE:D}{cs:List D}(hI:dI=.agg cs) (hcs:cs.length=7) (oI:aD dI) (b5:h 5=.box (.agg [.int .i64 0,.int .i64 0,.int .i64 0,.int .i64 0,.nil,.nil,.nil])) (b6:h 6=.box .nil) (b7:h 7=.box .nil) (b8:h 8=.box .nil) (b9:h 9=.box (.int .i64 0))
  (hG:dG.cells=[dG]/\dG.one=true) (hS:dS.cells=[dS]/\dS.one=true) (hE:dE.cells=[dE]/\dE.one=true) {n:Int}{R1 R2 R3 R4 R5:Heap->Prop}
  (hR:∀h',(∀k,k≠5->k≠6->k≠7->k≠8->k≠9->h' k=h k)->R1 h'/\R2 h'/\R3 h'/\R4 h'/\R5 h') {KH:HKq}
  (hK:∀h',(∀k,k≠5->k≠6->k≠7->k≠8->k≠9->h' k=h k)->KH (.tup [dI,dG,dS,dE,.int .i64 n]) h') :
  ab PP (.st (.c (.ptr 5 0 0)) (.c dI) 7) h λ _ h1=>R1 h1/\ab PP (.st (.c (.ptr 6 0 0)) (.c dG) 1) h1 λ _ h2=>R2 h2/\ab PP (.st (.c (.ptr 7 0 0)) (.c dS) 1) h2 λ _ h3=>R3 h3 /\
  ab PP (.st (.c (.ptr 8 0 0)) (.c dE) 1) h3 λ _ h4=>R4 h4/\ab PP (.st (.c (.ptr 9 0 0)) (.c (.int .i64 n)) 1) h4 λ _ h5=>R5 h5 /\
  ab PP (.ld (.c (.ptr 5 0 0)) 7 true) h5 λ a _=>ab PP (.ld (.c (.ptr 6 0 0)) 1 false) h5 λ b _=>ab PP (.ld (.c (.ptr 7 0 0)) 1 false) h5 λ c _=>ab PP (.ld (.c (.ptr 8 0 0)) 1 false) h5 λ d _ =>
  ab PP (.ld (.c (.ptr 9 0 0)) 1 false) h5 λ e _=>KH (.tup [a,b,c,d,e]) h5:=by
 subst hI;rw[fG,b5];refine⟨hcs,oI,rfl,by simp[hcs],?_⟩
 have es:setCells (.agg [.int .i64 0,.int .i64 0,.int .i64 0,.int .i64 0,.nil,.nil,.nil]) 0 (D.agg cs).cells=.agg cs:=by
  simp only[setCells,fZ,List.take_zero,List.nil_append,hcs];simp
 rw[es];obtain⟨h1,T⟩:∃h1,h1=ak h 5 (.box (.agg cs)):=⟨_,rfl⟩;rw[<- T];have u:∀k,k≠5->h1 k=h k:=λ k hk=>by rw[T,aa _ _ hk]
 have V:h1 5=.box (.agg cs):=by rw[T,af]
 refine⟨(hR h1 λ k a _ _ _ _=>u k a).1,?_⟩;rw[zo (by rw[u 6 (by omega)];exact b6) rfl hG.1 hG.2];obtain⟨h2,e2⟩:∃h2,h2=ak h1 6 (.box dG):=⟨_,rfl⟩;rw[<- e2];have G:∀k,k≠6->h2 k=h1 k:=λ k hk=>by rw[e2,aa _ _ hk]
 refine⟨(hR h2 λ k a b _ _ _=>by rw[G k b,u k a]).2.1,?_⟩;rw[zo (by rw[G 7 (by omega),u 7 (by omega)];exact b7) rfl hS.1 hS.2];obtain⟨h3,e3⟩:∃h3,h3=ak h2 7 (.box dS):=⟨_,rfl⟩;rw[<- e3];have H:∀k,k≠7->h3 k=h2 k:=λ k hk=>by rw[e3,aa _ _ hk]
 refine⟨(hR h3 λ k a b c _ _=>by rw[H k c,G k b,u k a]).2.2.1,?_⟩;rw[zo (by rw[H 8 (by omega),G 8 (by omega),u 8 (by omega)];exact b8) rfl hE.1 hE.2];obtain⟨h4,S⟩:∃h4,h4=ak h3 8 (.box dE):=⟨_,rfl⟩;rw[<- S];have I:∀k,k≠8->h4 k=h3 k:=λ k hk=>by rw[S,aa _ _ hk]
 refine⟨(hR h4 λ k a b c d _=>by rw[I k d,H k c,G k b,u k a]).2.2.2.1,?_⟩;rw[zo (by rw[I 9 (by omega),H 9 (by omega),G 9 (by omega),u 9 (by omega)];exact b9) rfl rfl rfl];obtain⟨h5,Q⟩:∃h5,h5=ak h4 9 (.box (.int .i64 n)):=⟨_,rfl⟩;rw[<- Q];have O:∀k,k≠9->h5 k=h4 k:=λ k hk=>by rw[Q,aa _ _ hk]
 have U:∀k,k≠5->k≠6->k≠7->k≠8->k≠9->h5 k=h k:=λ k a b c d e=>by rw[O k e,I k d,H k c,G k b,u k a]
 refine⟨(hR h5 U).2.2.2.2,?_⟩
 have l5:∀{KH:HKq},ab PP (.ld (.c (.ptr 5 0 0)) 7 true) h5 KH=KH (.agg cs) h5:=λ {KH}=>by
  rw[<- hcs];exact eR (by rw[O 5 (by omega),I 5 (by omega),H 5 (by omega),G 5 (by omega)];exact V)
 rw[l5,ub (d:=dG) (by rw[O 6 (by omega),I 6 (by omega),H 6 (by omega),e2,af]) hG.1,ub (d:=dS) (by rw[O 7 (by omega),I 7 (by omega),e3,af]) hS.1,ub (d:=dE) (by rw[O 8 (by omega),S,af]) hE.1,
  ub (d:=.int .i64 n) (by rw[Q,af]) rfl]
 exact hK h5 U
end Go.Am
namespace Go.Am
open Go
def WQ (r:Stp):D:=.tup [r.it.e,aZ r.g,aZ r.s,.sl (r.ev.map Ev.e),.int .i64 r.e]
theorem wL {m:Mm}:(aZ m).cells=[aZ m]/\(aZ m).one=true:=⟨rfl,rfl⟩
theorem aah {d:D}(h:d.one=true):d.cells=[d]/\d.one=true:=⟨jk h,h⟩
theorem XZ {P:Program}{xs:List aW}{k:Nat}{x:aW}(hx:xs[k]?=some x){h:Heap}{KH:HKq}:ab P (.iadd (.c (.sl (xs.map aW.e))) (.c (.int .i64 (k:Int))) 15) h KH=KH (.vp x.e 0) h:=by
 have hk:=(aq.1 hx).1;rw[jq,aT,List.getElem?_map,hx,aE];apply propext;constructor
 ·rintro⟨-,-,h⟩;exact(h _ rfl).2
 ·intro u;exact⟨by omega,by omega,λ d hd=>by cases hd;exact⟨rfl,u⟩⟩
theorem XY {P:Program}{x:aW}{h:Heap}{KH:HKq}:ab P (.ld (.c (.vp x.e 0)) 15 true) h KH=KH x.e h:=by
 rw[kH,iJ];have e:(x.e.cells.drop 0).take 15=x.cs:=rfl;have l:x.e.cells.length=15:=rfl;rw[e,l];simp[aW.e]
theorem Ot {c:Code}{l:bG}{it:It}{g s:Mm}{aM n:Int}{h:Heap}(hs:stepP c l it g s aM=⟨it,g,s,[],n⟩):HA (· = WQ (stepP c l it g s aM)) (.tup [it.e,aZ g,aZ s,.nil,.int .i64 n]) h:=by
 refine eE (.refl h) (.cons (Ca it.bR) (.cons (bD rfl).d (.cons (bD rfl).d (.cons jB.d (.cons (bD rfl).d .nil))))) ?_;rw[hs];rfl
theorem acw {h:Heap}{dI dG dS dE:D}{cs:List D}(hI:dI=.agg cs) (hcs:cs.length=7) (oI:aD dI) (b5:h 5=.box (.agg [.int .i64 0,.int .i64 0,.int .i64 0,.int .i64 0,.nil,.nil,.nil])) (b6:h 6=.box .nil) (b7:h 7=.box .nil) (b8:h 8=.box .nil) (b9:h 9=.box (.int .i64 0))
  (hG:dG.cells=[dG]/\dG.one=true) (hS:dS.cells=[dS]/\dS.one=true) (hE:dE.cells=[dE]/\dE.one=true) {n:Int}{R1 R2 R3:Heap->Prop}
  (hR:∀h',(∀k,k≠5->k≠6->k≠7->k≠8->k≠9->h' k=h k)->R1 h'/\R2 h'/\R3 h') {KH:HKq}
  (hK:∀h',(∀k,k≠5->k≠6->k≠7->k≠8->k≠9->h' k=h k)->KH (.tup [dI,dG,dS,dE,.int .i64 n]) h') :
  ab PP (.st (.c (.ptr 5 0 0)) (.c dI) 7) h λ _ h1=>R1 h1/\ab PP (.st (.c (.ptr 6 0 0)) (.c dG) 1) h1 λ _ h2=>R2 h2/\ab PP (.st (.c (.ptr 7 0 0)) (.c dS) 1) h2 λ _ h3=>R3 h3 /\
  ab PP (.st (.c (.ptr 8 0 0)) (.c dE) 1) h3 λ _ h4=>ab PP (.st (.c (.ptr 9 0 0)) (.c (.int .i64 n)) 1) h4 λ _ h5 =>
  ab PP (.ld (.c (.ptr 5 0 0)) 7 true) h5 λ a _=>ab PP (.ld (.c (.ptr 6 0 0)) 1 false) h5 λ b _=>ab PP (.ld (.c (.ptr 7 0 0)) 1 false) h5 λ c _=>ab PP (.ld (.c (.ptr 8 0 0)) 1 false) h5 λ d _ =>
  ab PP (.ld (.c (.ptr 9 0 0)) 1 false) h5 λ e _=>KH (.tup [a,b,c,d,e]) h5:=by
 have:=aaL (h:=h) (n:=n) (R1:=R1) (R2:=R2) (R3:=R3) (R4:=λ _=>True) (R5:=λ _=>True) hI hcs oI b5 b6 b7 b8 b9 hG hS hE (λ h' hk=>⟨(hR h' hk).1,(hR h' hk).2.1,(hR h' hk).2.2,trivial,trivial⟩) hK;simp only[true_and]at this;exact this
theorem acv {h:Heap}{dI dG dS dE:D}{cs:List D}(hI:dI=.agg cs) (hcs:cs.length=7) (oI:aD dI) (b5:h 5=.box (.agg [.int .i64 0,.int .i64 0,.int .i64 0,.int .i64 0,.nil,.nil,.nil])) (b6:h 6=.box .nil) (b7:h 7=.box .nil) (b8:h 8=.box .nil) (b9:h 9=.box (.int .i64 0))
  (hG:dG.cells=[dG]/\dG.one=true) (hS:dS.cells=[dS]/\dS.one=true) (hE:dE.cells=[dE]/\dE.one=true) {n:Int}{KH:HKq}(hK:∀h',KH (.tup [dI,dG,dS,dE,.int .i64 n]) h') :
  ab PP (.st (.c (.ptr 5 0 0)) (.c dI) 7) h λ _ h1=>ab PP (.st (.c (.ptr 6 0 0)) (.c dG) 1) h1 λ _ h2=>ab PP (.st (.c (.ptr 7 0 0)) (.c dS) 1) h2 λ _ h3 =>
  ab PP (.st (.c (.ptr 8 0 0)) (.c dE) 1) h3 λ _ h4=>ab PP (.st (.c (.ptr 9 0 0)) (.c (.int .i64 n)) 1) h4 λ _ h5 =>
  ab PP (.ld (.c (.ptr 5 0 0)) 7 true) h5 λ a _=>ab PP (.ld (.c (.ptr 6 0 0)) 1 false) h5 λ b _=>ab PP (.ld (.c (.ptr 7 0 0)) 1 false) h5 λ c _=>ab PP (.ld (.c (.ptr 8 0 0)) 1 false) h5 λ d _ =>
  ab PP (.ld (.c (.ptr 9 0 0)) 1 false) h5 λ e _=>KH (.tup [a,b,c,d,e]) h5:=by
 have:=aaL (h:=h) (n:=n) (R1:=λ _=>True) (R2:=λ _=>True) (R3:=λ _=>True) (R4:=λ _=>True) (R5:=λ _=>True) hI hcs oI b5 b6 b7 b8 b9 hG hS hE (λ h' hk=>⟨trivial,trivial,trivial,trivial,trivial⟩) (λ h' _=>hK h');simp only[true_and]at this;exact this
theorem aac {h:Heap}{c:Code}{it:It}{st:St}{dR dP dL:D}(hR:LN h dR (words st.regs)) (hP:LN h dP (aZ (st.mem 3))) (hL:LN h dL (.sl [])) :
  Wz h (Oz c { it with regs:=st.regs,priv:=st.mem 3 } dR dP dL) (cb c { it with regs:=st.regs,priv:=st.mem 3 }).e:=by
 obtain⟨u,h1⟩:∃u:It,u={ it with regs:=st.regs,priv:=st.mem 3 }:=⟨_,rfl⟩;rw[<- h1];have H:u.regs=st.regs:=by rw[h1]
 have I:u.priv=st.mem 3:=by rw[h1]
 unfold Oz;by_cases G:(hU c u.block).kind=5
 ·rw[if_pos G];have:cb c u=cC c u.id u.epoch 3:=by simp[cb,G]
  rw[this];exact Ca (It.bR _)
 ·rw[if_neg G]
  have e:(cb c u).regs=st.regs/\(cb c u).priv=st.mem 3:=by
   rw[<- H, <- I];simp only[cb];split
   ·exact⟨rfl,rfl⟩
   ·split
    ·exact⟨rfl,rfl⟩
    ·first|exact⟨rfl,rfl⟩|(rw[if_neg G];exact⟨rfl,rfl⟩)
  have:(cb c u).e=.agg [.int .i64 (cb c u).id,.int .i64 (cb c u).at_,.int .i64 (cb c u).block,.int .i64 (cb c u).epoch,words st.regs,aZ (st.mem 3),.sl []]:=by rw[<- e.1, <- e.2];rfl
  rw[this];exact(Iv.cons (bD rfl) (.cons (bD rfl) (.cons (bD rfl) (.cons (bD rfl) (.cons hR (.cons hP (.cons hL .nil))))))).agg
theorem Uy {c:Code}{it:It}{dR dP dL:D}(oR:dR.one=true) (oP:dP.one=true) (oL:dL.one=true):∃cs,Oz c it dR dP dL=.agg cs/\cs.length=7/\aD (Oz c it dR dP dL):=by
 unfold Oz;split
 ·exact⟨_,rfl,rfl,(It.bR _).one⟩
 ·refine⟨_,rfl,rfl,λ z u=>?_⟩;simp[Ty]at u;rcases u with rfl|rfl|rfl|rfl|rfl|rfl|rfl<;>first|rfl|assumption
theorem Uo {h:Heap}{ro:Ro}{KH:HKq}(hK:∀(dL:D) (h':Heap) (ro':Ro),(∀k,h k≠.free->h' k=h k/\ro' k=ro k)->Wx h' ro' dL->KH dL h'):ag PP aU [.sl []] h KH:=by
 refine Up (hK .nil h ro (λ k _=>⟨rfl,rfl⟩) (Or.inl rfl)) λ q h' hq hq2 hk=>?_
 refine hK (.ms q 0 0) h' (ak ro q .sl) (λ k u=>⟨hk k u,?_⟩) (Or.inr (Or.inr ⟨q,rfl,hq2,af _ _ _⟩));rw[aa _ _ (by rintro rfl;exact u hq)]
theorem Um {c:Code}{l:bG}{it:It}{g s:Mm}{aM:Int}(hc:ba c) (hl:bY c l) (hi:ItW c l it) (hg:cq c.arrays 1 g) (hs:cq c.arrays 2 s) :
  aV PP sA [c.e,l.e,it.e,aZ g,aZ s,.int .i64 aM] (· = WQ (stepP c l it g s aM)):=by
 refine ju (Wi LI (aC _ _ _) So rfl (Lu _ _ _ _ _ _ _) ?_);dsimp only[Ij,xB,xF,xI,xL,xS,yF,yL]
 rw[lN,z7 nf0 (Code.on c),z7 (by simp) (bG.on l),z7 (by simp) (show it.e.cells.all D.one=true from rfl),z7 (by simp) (show(aZ g).cells.all D.one=true from rfl),z7 (by simp) (show(aZ s).cells.all D.one=true from rfl),
  sC (by simp),sC (by simp),sC (by simp),sC (by simp),sC (by simp)]
 simp only[List.nil_append,List.length_nil,List.length_singleton,List.cons_append,List.length_cons,Nat.zero_add,Nat.reduceAdd];obtain⟨H,hH⟩:∃H,H=LH.h [Slot.box c.e,.box l.e,.box it.e,.box (aZ g),.box (aZ s),.box (.agg [.int .i64 0,.int .i64 0,.int .i64 0,.int .i64 0,.nil,.nil,.nil]),.box .nil,.box .nil,.box .nil,.box (.int .i64 0)]:=⟨_,rfl⟩;rw[<- hH];have B:gy H c l it g s:=by rw[hH];exact⟨rfl,rfl,rfl,rfl,rfl,rfl,rfl,rfl,rfl,rfl⟩
 have g9:∀k,10<=k->H k=.free:=λ k hk=>by rw[hH];exact LH.aaC (by simpa using hk)
 clear hH;have u2:(H 2).used=true:=by rw[B.b2];rfl
 simp only[↓jc u2,Nat.zero_add,↓cT B.b2 (j:=1) rfl,↓mA,true_and];by_cases ha:it.at_=1
 case neg =>
  simp only[ha,decide_false,Bool.not_false,↓ai,B.li,B.lg,B.ls];refine aaL (cs:=it.cs) rfl rfl (UZ it) B.b5 B.b6 B.b7 B.b8 B.b9 wL wL ⟨rfl,rfl⟩ (λ h' hk=>?_) λ h' hk=>?_
  ·have e3:h' 3=.box (aZ g):=by rw[hk 3 (by omega) (by omega) (by omega) (by omega) (by omega)];exact B.b3
   have e4:h' 4=.box (aZ s):=by rw[hk 4 (by omega) (by omega) (by omega) (by omega) (by omega)];exact B.b4
   have:((an PP (.ld (.c (.ptr 3 0 0)) 1 false) h' λ a=>aB [a] [aZ g])/\(an PP (.ld (.c (.ptr 4 0 0)) 1 false) h' λ a=>aB [a] [aZ s])/\True):=⟨by rw[sj e3 rfl];simp,by rw[sj e4 rfl];simp,trivial⟩;exact⟨this,this,this,this,this⟩
  ·exact Ot (by simp[stepP,ha])
 simp only[ha,decide_true,Bool.not_true,↓ah,B.lc,B.ll,B.li,B.lg,B.ls];obtain⟨ro0,e8⟩:∃ro0:Ro,ro0=λ _=>xh.no:=⟨_,rfl⟩
 have r0:∀k,ro0 k=.no:=λ k=>by rw[e8]
 clear e8 g9 u2;have mw:∀{m:Mm}{sp:Nat},cq c.arrays sp m->m.length<=8:=λ hm=>by rw[hm.len];exact hc.nar
 have mk:∀{h:Heap}{ro:Ro}{sp q:Nat}{m:Mm},h q=.arr 1 (m.map words)->ro q=.mem sp->zh h ro sp m q (m.map words):=λ {h ro sp q m} h1 h2 =>
  ⟨h1,h2,by simp,λ i e w he hw=>by
   rw[List.getElem?_map,hw]at he;cases he
   exact Or.inl rfl⟩
 refine Nc (by have:=mw hg;omega) λ T f1=>?_
 have B1:gy (ak H T (.arr 1 (g.map words))) c l it g s:=B.aS λ j u=>aa _ _ (by rintro rfl;exact B.nf u f1)
 have R1:∀k,k<10->ak ro0 T (.mem 1) k=.no:=λ k hk=>by rw[aa _ _ (by rintro rfl;exact B.nf hk f1)];exact r0 k
 have M1:zh (ak H T (.arr 1 (g.map words))) (ak ro0 T (.mem 1)) 1 g T (g.map words):=mk (af _ _ _) (af _ _ _);generalize ak H T (.arr 1 (g.map words))=h1 at B1 M1;generalize ak ro0 T (.mem 1)=e9 at R1 M1;clear B r0;simp only[B1.lc,B1.ll,B1.li,B1.ls,ae,true_and,and_true];refine Nc (by have:=mw hs;omega) λ S f2=>?_
 have Q:gy (ak h1 S (.arr 1 (s.map words))) c l it g s:=B1.aS λ j u=>aa _ _ (by rintro rfl;exact B1.nf u f2)
 have R2:∀k,k<10->ak e9 S (.mem 2) k=.no:=λ k hk=>by rw[aa _ _ (by rintro rfl;exact B1.nf hk f2)];exact R1 k hk
 have e6:=M1.aS (gH.new f2 (.mem 2) (s:=.arr 1 (s.map words)));have M2:zh (ak h1 S (.arr 1 (s.map words))) (ak e9 S (.mem 2)) 2 s S (s.map words):=mk (af _ _ _) (af _ _ _);generalize ak h1 S (.arr 1 (s.map words))=h2 at Q M2 e6;generalize ak e9 S (.mem 2)=W at R2 M2 e6;clear B1 R1 M1;simp only[Q.lc,Q.ll,Q.li,ae,true_and,and_true];show ∀nm,pB h2 nm->_
 intro nm t3;have f3:=t3.free;have B3:gy (ak h2 nm (.map (.pair .i64) [])) c l it g s:=Q.aS λ j u=>aa _ _ (by rintro rfl;exact Q.nf u f3)
 have R3:∀k,k<10->ak W nm .map k=.no:=λ k hk=>by rw[aa _ _ (by rintro rfl;exact Q.nf hk f3)];exact R2 k hk
 have e5:=e6.aS (gH.new f3 .map (s:=.map (.pair .i64) []));have c9:=M2.aS (gH.new f3 .map (s:=.map (.pair .i64) []));have N3:ak h2 nm (.map (.pair .i64) []) nm=.map (.pair .i64) []:=af _ _ _;have g6:ak W nm .map nm=.map:=af _ _ _;generalize ak h2 nm (.map (.pair .i64) [])=h3 at B3 e5 c9 N3;generalize ak W nm .map=c3 at R3 e5 c9 g6;clear Q R2 e6 M2 t3;simp only[B3.lc,B3.ll,B3.li,B3.lg,B3.ls,ae,true_and,and_true];rw[lS rfl,jX]
 have k4:D.agg (fillD [.int .i64 0,.int .i64 0,.int .i64 0,.int .i64 0,.int .i64 0,.nil,.nil,.nil,.int .i64 0,.nil,.int .i64 0,.int .i64 0,.int .i64 0,.int .i64 0,.nil,.nil,.nil,.nil,.nil,.nil,.nilmap]
   ([(0,8,Arg.c c.e),(8,2,.c l.e),(10,7,.c it.e),(17,1,.c (.ms T 0 g.length)),(18,1,.c (.ms S 0 s.length)),(20,1,.c (.mp nm))].map λ p=>(p.1,p.2.1,(p.2.2.get []).cells))) =
   .agg (nM c l it (words it.regs) (aZ it.priv) (.sl []) (.ms T 0 g.length) (.ms S 0 s.length) .nil nm):=rfl
 rw[k4];refine⟨λ z hz=>?_,λ n t4=>?_⟩
 ·simp[nM]at hz;rcases hz with rfl|rfl|rfl|rfl|rfl|rfl|rfl|rfl|rfl|rfl|rfl|rfl|rfl|rfl|rfl|rfl|rfl|rfl|rfl|rfl|rfl<;>rfl
 have f4:=t4.free;obtain⟨bx,Z⟩:∃bx,bx=Slot.box (.agg (nM c l it (words it.regs) (aZ it.priv) (.sl []) (.ms T 0 g.length) (.ms S 0 s.length) .nil nm)):=⟨_,rfl⟩;rw[<- Z];have B4:gy (ak h3 n bx) c l it g s:=B3.aS λ j u=>aa _ _ (by rintro rfl;exact B3.nf u f4)
 have R4:∀k,k<10->ak c3 n .box k=.no:=λ k hk=>by rw[aa _ _ (by rintro rfl;exact B3.nf hk f4)];exact R3 k hk
 have e0:=e5.aS (gH.new f4 .box (s:=bx));have c8:=c9.aS (gH.new f4 .box (s:=bx));have j6:nm≠n:=t4.ne (by rw[N3];simp);have N4:ak h3 n bx nm=.map (.pair .i64) []:=by rw[aa _ _ j6];exact N3
 have g5:ak c3 n .box nm=.map:=by rw[aa _ _ j6];exact g6
 have X4:ak h3 n bx n=bx:=af _ _ _;have g3:ak c3 n .box n=.box:=af _ _ _;generalize ak h3 n bx=h4 at B4 e0 c8 N4 X4;generalize ak c3 n .box=U at R4 e0 c8 g5 g3;clear B3 R3 e5 c9 N3 g6 t4 k4;have j2:(h4 2).used=true:=by rw[B4.b2];rfl
 simp only[↓bw,j2,Nat.zero_add,↓aX B4.b2 (j:=4) rfl,↓aX B4.b2 (j:=5) rfl,↓aX B4.b2 (j:=6) rfl,true_and];have k0:=hi.len;have n5:=hc.regs;refine Nf (w:=it.regs) (by rintro h;rw[h]at k0;simp at k0;omega) (by omega) λ V h5 f5 a5 k5=>?_
 have B5:gy h5 c l it g s:=B4.aS λ j u=>k5 j (B4.nf u)
 have R5:∀k,k<10->ak U V .regs k=.no:=λ k hk=>by rw[aa _ _ (by rintro rfl;exact B4.nf hk f5)];exact R4 k hk
 have K5:gH h4 U h5 (ak U V .regs):=gH.adu f5 k5 _;have g8:=e0.aS K5;have g7:=c8.aS K5;have g0:∀k,h4 k≠.free->k≠V:=by rintro k hk rfl;exact hk f5
 have N5:h5 nm=.map (.pair .i64) []:=by rw[k5 nm (by rw[N4];simp)];exact N4
 have X5:h5 n=bx:=by rw[k5 n (by rw[X4,Z];simp)];exact X4
 have g4:ak U V .regs nm=.map:=by rw[aa _ _ (g0 nm (by rw[N4];simp))];exact g5
 have g2:ak U V .regs n=.box:=by rw[aa _ _ (g0 n (by rw[X4,Z];simp))];exact g3
 have G5:Je h5 (ak U V .regs) (.ms V 0 it.regs.length) it.regs:=⟨V,rfl,a5,af _ _ _⟩;generalize ak U V .regs=j4 at R5 g8 g7 g4 g2 G5;clear K5 B4 R4 e0 c8 N4 g5 X4 g3 j2 k5 a5 g0;have j1:(h5 2).used=true:=by rw[B5.b2];rfl
 simp only[↓bw,j1,Nat.zero_add,↓aX B5.b2 (j:=5) rfl,↓aX B5.b2 (j:=6) rfl,ae,true_and,and_true];refine Uo (ro:=j4) λ dL h6 G k6 L6=>?_
 have B6:gy h6 c l it g s:=B5.aS λ j u=>(k6 j (B5.nf u)).1
 have R6:∀k,k<10->G k=.no:=λ k hk=>by rw[(k6 k (B5.nf hk)).2];exact R5 k hk
 have K6:gH h5 j4 h6 G:=λ k hf _=>k6 k hf
 have l3:=g8.aS K6;have l0:=g7.aS K6;have G6:=G5.aS K6;obtain⟨a6,b6⟩:=k6 nm (by rw[N5];simp);have N6:h6 nm=.map (.pair .i64) []:=by rw[a6];exact N5
 have k9:G nm=.map:=by rw[b6];exact g4
 obtain⟨c6,d6⟩:=k6 n (by rw[X5,Z];simp);have X6:h6 n=bx:=by rw[c6];exact X5
 have k8:G n=.box:=by rw[d6];exact g2
 clear B5 R5 g8 g7 N5 g4 X5 g2 G5 K6 k6 a6 b6 c6 d6 j1;have j0:(h6 2).used=true:=by rw[B6.b2];rfl
 simp only[j0,↓aX B6.b2 (j:=5) rfl,ae,true_and];refine Nc (by have:=mw hi.priv;omega) λ I f7=>?_
 have B7:gy (ak h6 I (.arr 1 (it.priv.map words))) c l it g s:=B6.aS λ j u=>aa _ _ (by rintro rfl;exact B6.nf u f7)
 have R7:∀k,k<10->ak G I (.mem 3) k=.no:=λ k hk=>by rw[aa _ _ (by rintro rfl;exact B6.nf hk f7)];exact R6 k hk
 have K7:gH h6 G (ak h6 I (.arr 1 (it.priv.map words))) (ak G I (.mem 3)):=gH.new f7 _;have c2:=l3.aS K7;have c1:=l0.aS K7;have G7:=G6.aS K7;have L7:=L6.aS K7;have a8:zh (ak h6 I (.arr 1 (it.priv.map words))) (ak G I (.mem 3)) 3 it.priv I (it.priv.map words):=mk (af _ _ _) (af _ _ _);have j8:nm≠I:=by rintro rfl;rw[N6]at f7;cases f7
 have j5:n≠I:=by rintro rfl;rw[X6,Z]at f7;cases f7
 have N7:ak h6 I (.arr 1 (it.priv.map words)) nm=.map (.pair .i64) []:=by rw[aa _ _ j8];exact N6
 have X7:ak h6 I (.arr 1 (it.priv.map words)) n=bx:=by rw[aa _ _ j5];exact X6
 have c7:ak G I (.mem 3) nm=.map:=by rw[aa _ _ j8];exact k9
 have O:ak G I (.mem 3) n=.box:=by rw[aa _ _ j5];exact k8
 generalize ak h6 I (.arr 1 (it.priv.map words))=h7 at B7 c2 c1 a8 G7 L7 N7 X7;generalize ak G I (.mem 3)=a1 at R7 c2 c1 a8 G7 L7 c7 O;clear B6 R6 l3 l0 G6 L6 N6 X6 k9 k8 K7 j0;rw[Z]at X7;have oL:=L7.one;have u7:(h7 n).used=true:=by rw[X7];rfl
 have e7:∀{KH:HKq},(∀h',fH h' a1 n c l it (.ms V 0 it.regs.length) dL .nil (λ k=>if k=1 then .ms T 0 g.length else if k=2 then .ms S 0 s.length else .ms I 0 it.priv.length) nm [] (Q5 it g s)->gy h' c l it g s->KH .undef h') ->
   (h7 n).used=true/\(h7 n).used=true/\(h7 n).used=true/\ab PP (.st (.c (.ptr n 0 (10+4))) (.c (.ms V 0 it.regs.length)) 1) h7 λ _ h8=>(h8 n).used=true/\(h8 n).used=true/\(h8 n).used=true /\
    ab PP (.st (.c (.ptr n 0 (10+6))) (.c dL) 1) h8 λ _ h9=>(h9 n).used=true/\(h9 n).used=true/\(h9 n).used=true/\ab PP (.st (.c (.ptr n 0 (10+5))) (.c (.ms I 0 it.priv.length)) 1) h9 KH:=by
  intro KH hK;refine⟨u7,u7,u7,?_⟩;rw[fG,X7];refine⟨rfl,by simp,rfl,by simp[nM],?_⟩;refine⟨by rw[af];rfl,by rw[af];rfl,by rw[af];rfl,?_⟩;have cL:dL.cells=[dL]:=jk oL;rw[fG,af];refine⟨by rw[cL];rfl,λ z hz=>by rw[cL]at hz;simp at hz;subst hz;exact oL,rfl,by simp[nM,setCells],?_⟩;refine⟨by rw[af];rfl,by rw[af];rfl,by rw[af];rfl,?_⟩;rw[fG,af];refine⟨rfl,by simp,rfl,by simp[nM,setCells,cL],?_⟩;rw[lf,lf,cL]
  have e:setCells (setCells (setCells (.agg (nM c l it (words it.regs) (aZ it.priv) (.sl []) (.ms T 0 g.length) (.ms S 0 s.length) .nil nm)) (10+4) (D.ms V 0 it.regs.length).cells) (10+6) [dL]) (10+5) (D.ms I 0 it.priv.length).cells =
    .agg (nM c l it (.ms V 0 it.regs.length) (.ms I 0 it.priv.length) dL (.ms T 0 g.length) (.ms S 0 s.length) .nil nm):=rfl
  rw[e];have kb:(a1 n).core=false:=by rw[O];rfl
  have l9:nm≠n:=by rintro rfl;rw[c7]at O;cases O
  have KK:gH h7 a1 (ak h7 n (.box (.agg (nM c l it (.ms V 0 it.regs.length) (.ms I 0 it.priv.length) dL (.ms T 0 g.length) (.ms S 0 s.length) .nil nm)))) a1:=gH.aM kb;refine hK _ ⟨af _ _ _,O,⟨G7.aS KK,λ k k1 k2=>?_,Or.inl ⟨rfl,rfl⟩,L7.aS KK⟩,by rw[aa _ _ l9];exact N7,c7,by simp,by simp,λ sp i k els e w s1 s2 hd hk he hw=>?_⟩ (B7.aS λ j u=>aa _ _ (by rintro rfl;rw[R7 j u]at O;cases O))
  ·have:k=1\/k=2\/k=3:=by omega
   rcases this with rfl|rfl|rfl
   ·exact⟨T,_,rfl,c2.aS KK⟩
   ·exact⟨S,_,rfl,c1.aS KK⟩
   ·exact⟨I,_,rfl,a8.aS KK⟩
  ·refine⟨λ _=>?_,λ hne=>absurd rfl hne⟩;have:sp=1\/sp=2\/sp=3:=by omega
   rcases this with rfl|rfl|rfl
   ·simp only[if_true,D.ms.injEq,true_and]at hd;obtain⟨rfl,-⟩:=hd;rw[(c2.aS KK).hk]at hk;simp only[Slot.arr.injEq,true_and]at hk;subst hk;have a2:g[i]?=some w:=hw;rw[List.getElem?_map,a2]at he;exact(by simpa using he.symm)
   ·simp only[show ¬(2:Nat)=1 by omega,if_true,if_false,D.ms.injEq,true_and]at hd;obtain⟨rfl,-⟩:=hd;rw[(c1.aS KK).hk]at hk;simp only[Slot.arr.injEq,true_and]at hk;subst hk;have a2:s[i]?=some w:=hw;rw[List.getElem?_map,a2]at he;exact(by simpa using he.symm)
   ·simp only[show ¬(3:Nat)=1 by omega,show ¬(3:Nat)=2 by omega,if_false,D.ms.injEq,true_and]at hd;obtain⟨rfl,-⟩:=hd;rw[(a8.aS KK).hk]at hk;simp only[Slot.arr.injEq,true_and]at hk;subst hk;have a2:it.priv[i]?=some w:=hw;rw[List.getElem?_map,a2]at he;exact(by simpa using he.symm)
 refine e7 λ h8 X8 B8=>?_
 clear e7 B7 c2 c1 a8 G7 L7 N7 X7 c7 O u7 mk;generalize (λ k=>if k=1 then D.ms T 0 g.length else if k=2 then .ms S 0 s.length else .ms I 0 it.priv.length)=n9 at X8;have R8:=R7;obtain⟨k,B,m4,hB,m7,-,k3⟩:=hc.RL hi.block;obtain⟨m3,n3,-⟩:=hc.xs B m7
 have sP:stepP c l it g s aM=match runP c l it.id aM it.block B.i 0 (Q5 it g s) with
   | none=>⟨it,g,s,[],70⟩
   | some st=>⟨cb c { it with regs:=st.regs,priv:=st.mem 3 },st.mem 1,st.mem 2,st.ev,0⟩:=by
  unfold stepP;rw[if_neg (by simp[ha]),k3];all_goals cases runP c l it.id aM it.block B.i 0 (Q5 it g s)<;>rfl
 have w0:Hz c (Q5 it g s):=TW hi hg hs
 have m0:∀{ro:Ro},(∀k,k<10->ro k=.no)->ro n=.box->n≠5/\n≠6/\n≠7/\n≠8/\n≠9:=λ {ro} hr hn=>by
  refine⟨?_,?_,?_,?_,?_⟩<;>rintro rfl<;>rw[hr _ (by omega)]at hn<;>cases hn
 refine⟨λ _ h'=>∃(ro':Ro) (st':St),gy h' c l it g s/\(∀k,k<10->ro' k=.no)/\QO h' ro' n c l it st'/\Hz c st'/\runP c l it.id aM it.block B.i 0 (Q5 it g s)=some st',?_,?_⟩
 ·rintro _ h9 ⟨n2,j3,B9,R9,⟨dR,k7,dE,dm,j7,ents,X9⟩,W9,P9⟩;rw[P9]at sP;simp only[X9.used,↓aX X9.box (j:=17) rfl,↓aX X9.box (j:=18) rfl,↓aX X9.box (j:=19) rfl,true_and];refine Xk X9 hc W9 hi.block λ h' ro' m2 F X=>?_
  have R':∀k,k<10->ro' k=.no:=λ k hk=>by rw[(F k (B9.nf hk)).1];exact R9 k hk
  have B':gy h' c l it g s:=B9.aS λ j u=>(F j (B9.nf u)).2.2 (R9 j u)
  obtain⟨o5,o6,o7,o8,o9⟩:=m0 R' X.rb;have o1:=(X.sr.mem 1 (by omega) (by omega)).one;have o2:=(X.sr.mem 2 (by omega) (by omega)).one;have o3:=(X.sr.mem 3 (by omega) (by omega)).one;obtain⟨cs,e1,e2,e3⟩:=Uy (c:=c) (it:={ it with regs:=j3.regs,priv:=j3.mem 3 }) X.sr.regs.one o3 X.sr.sl.one;simp only[X.used,↓aX X.box (j:=17) rfl,↓aX X.box (j:=18) rfl,↓aX X.box (j:=19) rfl,ae,true_and,and_true];refine acw e1 e2 e3 B'.b5 B'.b6 B'.b7 B'.b8 B'.b9 (aah o1) (aah o2) (aah X.sr.ev.one) (λ c5 hk=>?_) λ c5 hk=>?_
  ·have hb:c5 n=.box (.agg (nM c l m2 dR (dm 3) k7 (dm 1) (dm 2) dE j7)):=by rw[hk n o5 o6 o7 o8 o9];exact X.box
   have hu:(c5 n).used=true:=by rw[hb];rfl
   simp only[hu,↓aX hb (j:=17) rfl,↓aX hb (j:=18) rfl,↓aX hb (j:=19) rfl,ae,true_and,and_true]
  ·have kk:gH h' ro' c5 ro':=λ k _ a7=>by
    have ne:∀j,j<10->k≠j:=λ j u=>by rintro rfl;rw[R' _ u]at a7;cases a7
    exact⟨hk k (ne 5 (by omega)) (ne 6 (by omega)) (ne 7 (by omega)) (ne 8 (by omega)) (ne 9 (by omega)),rfl⟩
   obtain⟨h3,i1,i2,i3,i4,i5,-⟩:=(X.sr.aS kk).out;refine eE i1 (.cons (aac i2 (i5 3 (by omega) (by omega)) i4) (.cons (i5 1 (by omega) (by omega)).d (.cons (i5 2 (by omega) (by omega)).d (.cons i3.d (.cons (bD rfl).d .nil))))) ?_;rw[sP];rfl
 have u0:(h8 0).used=true:=by rw[B8.b0];rfl
 have u2:(h8 2).used=true:=by rw[B8.b2];rfl
 have eb:∀{K:HKq},ab PP (.ld (.c (.ptr 0 0 7)) 1 false) h8 K=K (.sl (c.b.map Block.e)) h8:=λ {K}=>cT (cs:=[.int .i64 c.group,.int .i64 c.sub,.int .i64 c.regs,.int .i64 c.slots,.int .i64 c.params,.sl (c.arrays.map fv.e),.sl (c.loops.map Loop.e),.sl (c.b.map Block.e)]) B8.b0 rfl
 have m5:∀{K:HKq},ab PP (.iadd (.c (.sl (c.b.map Block.e))) (.c (.int .i64 it.block)) 14) h8 K=K (.vp B.e 0) h8:=λ {K}=>by rw[m4,K8 hB]
 simp only[↓jc u0,↓jc u2,Nat.zero_add,eb,↓cT B8.b2 (j:=2) rfl,true_and,m5,↓BY,↓acH,↓gd,aE];dsimp only[AJ,xF,xI,xL,xS]
 refine⟨λ m qs h'=>∃(i:Nat) (ro':Ro) (st':St),qs=[.int .i64 (i:Int)]/\m+i=B.i.length/\gy h' c l it g s/\(∀k,k<10->ro' k=.no)/\QO h' ro' n c l it st'/\Hz c st'/\st'.ev.length<=i /\
   runP c l it.id aM it.block (B.i.drop i) i st'=runP c l it.id aM it.block B.i 0 (Q5 it g s),B.i.length,⟨0,a1,Q5 it g s,rfl,by omega,B8,R8,⟨_,_,_,_,_,_,X8⟩,w0,by simp[Q5],by simp⟩,?_⟩
 rintro m f h' ⟨i,ro',st',hf,n7,B',R',X',W',E',P'⟩;simp only[av,and_true]at hf;rw[hf,fK];by_cases g1:i<B.i.length
 case neg =>
  simp only[show ¬((i:Int)<(B.i.length:Int)) by omega,decide_false,↓ah,ae,true_and];rw[List.drop_of_length_le (by omega)]at P';exact⟨ro',st',B',R',X',W',P'.symm⟩
 have hx:B.i[i]?=some B.i[i]:=aG g1;simp only[show((i:Int)<(B.i.length:Int)) by omega,decide_true,↓ai,↓XZ hx,↓XY];rw[fc];intro p tp;rw[fG,af];refine⟨rfl,(aW.bR _).one,rfl,Nat.le_refl _,?_⟩;rw[lf];have es:setCells (.agg [(.int .i64 0),(.int .i64 0),(.int .i64 0),(.int .i64 0),(.int .i64 0),(.int .i32 0),(.int .i64 0),(.int .i64 0),(.int .i32 0),(.int .i64 0),(.int .i64 0),(.int .i32 0),(.int .i64 0),(.int .i64 0),(.int .i32 0)]) 0 (aW.e B.i[i]).cells=.agg (aW.cs B.i[i]):=rfl;rw[es];obtain⟨dR,k7,dE,dm,j7,ents,X'⟩:=X';have Xn:=X'.new tp.free (.box (.agg (aW.cs B.i[i])));have fp:=tp.free;have Bn:gy (ak h' p (.box (.agg (aW.cs B.i[i])))) c l it g s:=B'.aS λ j u=>aa _ _ (by rintro rfl;exact B'.nf u fp)
 have Rn:∀k,k<10->ak ro' p .no k=.no:=λ k hk=>by
  by_cases e:k=p
  ·rw[e,af]
  ·rw[aa _ _ e];exact R' k hk
 have pb:ak h' p (.box (.agg (aW.cs B.i[i]))) p=.box (.agg (aW.cs B.i[i])):=af _ _ _;generalize ak h' p (.box (.agg (aW.cs B.i[i])))=hn at Xn Bn pb;generalize ak ro' p .no=m9 at Xn Rn;clear X' B' R';have l4:(hn 2).used=true:=by rw[Bn.b2];rfl
 have m1:∀{K:HKq},ab PP (.ld (.c (.ptr p 0 0)) 15 true) hn K=K (aW.e B.i[i]) hn:=λ {K}=>by rw[SJ pb (by simp[aW.cs])];rfl
 simp only[m1,↓jc l4,Nat.zero_add,↓cT Bn.b2 (j:=0) rfl,↓cT Bn.b2 (j:=2) rfl,true_and];rw[fF rfl]
 have ee:D.agg (fillD [.int .i64 0,.int .i64 0,.int .i64 0,.int .i64 0,.int .i64 0,.int .i64 0,.int .i64 0,.int .i64 0,.int .i32 0]
   ([(2,1,Arg.c (.int .i64 it.id)),(3,1,.c (.int .i64 aM)),(4,1,.c (.int .i64 it.block)),(5,1,.c (.int .i64 (i:Int)))].map λ p=>(p.1,p.2.1,(p.2.2.get []).cells)))=(ev0 it.id aM it.block (i:Int)).e:=rfl
 rw[ee]
 have P2:runP c l it.id aM it.block (B.i.drop i) i st'=(lP c l it.id B.i[i] (ev0 it.id aM it.block i) st').bind (runP c l it.id aM it.block (B.i.drop (i+1)) (i+1)):=by
  rw[List.drop_eq_getElem_cons g1];rfl
 have j9:=m3 _ (List.getElem_mem g1);refine adq ⟨_,_,_,_,_,_,Xn⟩ hc hl hi.id W' (by omega) j9 (λ l8 h2 W c4 F2 X2=>?_) (λ h2 W c4 F2=>?_)
 ·obtain⟨w2,l2⟩:=OK hc hl W' j9 c4;rw[c4]at P2;rw[ca,show IntKind.i64.wrap ((i:Int)+1)=((i+1:Nat):Int) by rw[wrap64 (by omega) (by omega)];rfl];refine⟨by simp,m-1,by omega,i+1,W,l8,rfl,by omega,Bn.aS λ j u=>(F2 j (Bn.nf u)).2.2 (Rn j u),λ k hk=>by rw[(F2 k (Bn.nf hk)).1];exact Rn k hk,X2,w2,by omega,?_⟩;rw[<- P',P2];rfl
 ·have Q:gy h2 c l it g s:=Bn.aS λ j u=>(F2 j (Bn.nf u)).2.2 (Rn j u)
  rw[c4]at P2;rw[<- P',P2]at sP;refine PS ?_;have i7:∀{K:HKq},ab PP (.ld (.c (.ptr 2 0 0)) 7 true) h2 K=K it.e h2:=λ {K}=>eR Q.b2
  rw[i7,ub Q.b3 rfl,ub Q.b4 rfl];refine acv (cs:=it.cs) rfl rfl (UZ it) Q.b5 Q.b6 Q.b7 Q.b8 Q.b9 wL wL ⟨rfl,rfl⟩ λ h'=>?_
  exact Ot sP
def qw (h:Heap) (ro:Ro) (h':Heap) (ro':Ro):Prop:=∀k,h k≠.free->h' k=h k/\ro' k=ro k
theorem qw.refl {h:Heap}{ro:Ro}:qw h ro h ro:=λ _ _=>⟨rfl,rfl⟩
theorem qw.trans {h1 h2 h3:Heap}{r1 r2 r3:Ro}(a:qw h1 r1 h2 r2) (b:qw h2 r2 h3 r3):qw h1 r1 h3 r3:=λ k hk=>by
 obtain⟨u,G⟩:=a k hk;obtain⟨b1,b2⟩:=b k (by rw[u];exact hk);exact⟨b1.trans u,b2.trans G⟩
theorem qw.aS {h h':Heap}{ro ro':Ro}(a:qw h ro h' ro'):gH h ro h' ro':=λ k hk _=>a k hk
theorem qw.new {h:Heap}{ro:Ro}{n:Nat}(hn:h n=.free) (r:xh) (s:Slot):qw h ro (ak h n s) (ak ro n r):=λ k hk=>by
 have:k≠n:=by rintro rfl;exact hk hn
 rw[aa _ _ this,aa _ _ this];exact⟨rfl,rfl⟩
theorem qw.free {h h':Heap}{ro ro':Ro}(a:qw h ro h' ro'){k:Nat}(hk:h' k=.free):h k=.free:=by
 cases e:h k<;>first|rfl|(exfalso;have:=(a k (by rw[e];simp)).1;rw[hk,e]at this;cases this)
theorem qw.fr {h h':Heap}{ro ro':Ro}(a:qw h ro h' ro'):Fr ro h ro' h':=λ k hk=>⟨(a k hk).2,by rw[(a k hk).1];exact hk,λ _=>(a k hk).1⟩
theorem qw.box {h h':Heap}{ro ro':Ro}(a:qw h ro h' ro'){k:Nat}{d:D}(hk:h k=.box d):h' k=.box d:=by rw[(a k (by rw[hk];simp)).1];exact hk
theorem SV {P:Program}{h:Heap}{KH:HKq}{esz bytes m:Nat}{z z' d:D}{els:List D}(hm:h m=.arr esz els) (h2:aD d) (h3:d.cells.length=esz) (hb:(els.length+1)*bytes<=140737488355328) (hl:els.length+1<=9223372036854775807)
  (hk:∀n h',h n=.free->h' n=.arr esz (els++[d])->(∀k,h k≠.free->k≠m->h' k=h k)->KH (.ms n 0 (els.length+1)) h'):ab P (.bldS false esz 1 z [(0,.c d)]) h λ x h1=>ab P (.app (.c (.ms m 0 els.length)) (.c x) esz bytes z') h1 KH:=by
 refine⟨λ p hp=>by simp[Arg.get]at hp;subst hp;exact⟨Nat.one_pos,h3,h2⟩,λ h=>(by cases h),λ n1 t1=>?_⟩;have hne:m≠n1:=t1.ne (by rw[hm];simp);have G:setEls (List.replicate 1 z) ([(0,Arg.c d)].map λ p=>(p.1,if(false:Bool)=true then(p.2.get []).fz h else p.2.get []))=[d]:=rfl;rw[G];simp only[dj,if_false];have hx:((ak h n1 (.arr esz [d])) n1).row=some (esz,[d]):=by rw[af];rfl
 refine⟨[d],hx,by simp,?_⟩;simp only[List.drop_zero,List.take_succ_cons,List.take_zero];refine⟨λ y hy=>by simp at hy;subst hy;exact h2,?_⟩;refine⟨els,.of (by rw[aa _ _ hne];exact hm),by simp,⟨by simpa using hb,by simpa using hl⟩,λ n t=>⟨?_,λ h0=>absurd rfl h0⟩⟩;have hn:=t.free;have H:n≠n1:=by rintro rfl;rw[af]at hn;cases hn
 rw[aa _ _ H]at hn;have:=hk n;simp only[List.length_cons,List.length_nil,Nat.zero_add];refine this _ hn (af _ _ _) λ k u I=>?_
 have O:k≠n:=by rintro rfl;exact u hn
 have e2:k≠n1:=t1.ne u;rw[aa _ _ O,aa _ _ I,aa _ _ e2]
theorem UM {h0 h2 h4:Heap}{ro0:Ro}{s q n2 n4:Nat}{m:Mm}{w:List Int}{els:List D}(y:zh h0 ro0 s m q els) (f2:h0 n2=.free) (a2:h2 n2=.arr 1 (wr w)) (k2:∀k,h0 k≠.free->h2 k=h0 k)
  (f4:h2 n4=.free) (a4:h4 n4=.arr 1 (els++[.ms n2 0 w.length])) (k4:∀k,h2 k≠.free->k≠q->h4 k=h2 k) :
  zh h4 (ak (ak ro0 n2 (.row s m.length)) n4 (.mem s)) s (m++[w]) n4 (els++[.ms n2 0 w.length]):=by
 have O:n2≠n4:=by rintro rfl;rw[a2]at f4;cases f4
 have I:n2≠q:=by rintro rfl;rw[y.hk]at f2;cases f2
 have H:h0 n4=.free:=by
  cases e:h0 n4<;>first|rfl|(exfalso;have:=k2 n4 (by rw[e];simp);rw[f4,e]at this;cases this)
 refine⟨a4,af _ _ _,by simp[y.len],λ i e v he G=>?_⟩;rcases Nat.lt_or_ge i els.length with hi|hi
 ·rw[List.getElem?_append_left hi]at he;rw[List.getElem?_append_left (by rw[<- y.len];exact hi)]at G;rcases y.el i e v he G with g|⟨p,Z,T,S⟩
  ·exact Or.inl g
  ·have u:h0 p≠.free:=dD T;have W:p≠n2:=by rintro rfl;exact u f2
   have V:p≠n4:=by rintro rfl;exact u H
   have U:p≠q:=by rintro rfl;have:=y.rk;rw[S]at this;cases this
   refine Or.inr ⟨p,Z,?_,by rw[aa _ _ V,aa _ _ W];exact S⟩;rw[k4 p (by rw[k2 p u];exact u) U,k2 p u];exact T
 ·have Q:i=els.length:=by
   have:=(aq.1 he).1;simp at this;omega
  subst Q;rw[List.getElem?_append_right (Nat.le_refl _),Nat.sub_self]at he;rw[y.len,List.getElem?_append_right (Nat.le_refl _),Nat.sub_self]at G;simp at he G;subst he G;exact Or.inr ⟨n2,rfl,by rw[k4 n2 (by rw[a2];simp) I];exact a2,by rw[aa _ _ O,af,y.len]⟩
theorem Nl {h h0 h2 h4:Heap}{ro ro0:Ro}{q n2 n4:Nat}{r2 r4:xh}(x:qw h ro h0 ro0) (hq:h q=.free) (f2:h0 n2=.free) (k2:∀k,h0 k≠.free->h2 k=h0 k) (f4:h2 n4=.free) (k4:∀k,h2 k≠.free->k≠q->h4 k=h2 k) :
  qw h ro h4 (ak (ak ro0 n2 r2) n4 r4)/\h n4=.free:=by
 have u:h0 n4=.free:=by
  cases e:h0 n4<;>first|rfl|(exfalso;have:=k2 n4 (by rw[e];simp);rw[f4,e]at this;cases this)
 refine⟨λ k hk=>?_,x.free u⟩;obtain⟨H,I⟩:=x k hk;have G:h0 k≠.free:=by rw[H];exact hk
 have e2:k≠n2:=by rintro rfl;exact G f2
 have O:k≠n4:=by rintro rfl;exact G u
 have eq:k≠q:=by rintro rfl;exact hk hq
 exact⟨by rw[k4 k (by rw[k2 k G];exact G) eq,k2 k G,H],by rw[aa _ _ O,aa _ _ e2,I]⟩
def NP (els:List D):Prop:=∀e∈els,∃q l,e=D.ms q 0 l
theorem NP.nil:NP []:=λ _ h=>by cases h
theorem NP.snoc {els:List D}(h:NP els) (q l:Nat):NP (els++[.ms q 0 l]):=λ e he=>by
 rcases List.mem_append.1 he with he|he
 ·exact h e he
 ·simp at he;exact⟨q,l,he⟩
def vJ (h:Heap) (ro:Ro) (s:Nat) (d:D) (m:Mm):Prop:=∃k els,d=.ms k 0 m.length/\zh h ro s m k els/\NP els
theorem vJ.r {h:Heap}{ro:Ro}{s:Nat}{d:D}{m:Mm}(x:vJ h ro s d m):Gb h ro s d m:=by
 obtain⟨k,els,h1,h2,-⟩:=x;exact⟨k,els,h1,h2⟩
theorem vJ.aS {h h':Heap}{ro ro':Ro}(k:gH h ro h' ro'){s:Nat}{d:D}{m:Mm}(x:vJ h ro s d m):vJ h' ro' s d m:=by
 obtain⟨q,els,h1,h2,h3⟩:=x;exact⟨q,els,h1,h2.aS k,h3⟩
theorem vJ.one {h:Heap}{ro:Ro}{s:Nat}{d:D}{m:Mm}(x:vJ h ro s d m):d.one=true:=x.r.one
structure MmB (m:Mm):Prop where
 len:m.length<=1000
 w:∀w∈m,w.length<=1000
theorem cq.b {c:Code}{s:Nat}{m:Mm}(hc:ba c) (h:cq c.arrays s m):MmB m:=by
 refine⟨by have:=hc.nar;rw[h.len];omega,λ w hw=>?_⟩;obtain⟨i,hi⟩:=db hw;have u:=(aq.1 hi).1;rw[h.len]at u;have hg:=aG u;have:=(h.w i _ w hg hi).1;have ho:=hc.ar _ (List.getElem_mem u);rw[this];unfold PH;have:=ho.2.2;split<;>omega
theorem XM {P:Program}{m:Mm}{i:Nat}{w:List Int}(hw:m[i]?=some w){h:Heap}{KH:HKq}:ab P (.iadd (.c (aZ m)) (.c (.int .i64 (i:Int))) 1) h KH=KH (.vp (words w) 0) h:=by
 have hk:=(aq.1 hw).1;rw[aZ,jq,aT,List.getElem?_map,hw,aE];apply propext;constructor
 ·rintro⟨-,-,h⟩;exact(h _ rfl).2
 ·intro u;exact⟨by omega,by omega,λ d hd=>by cases hd;exact⟨rfl,u⟩⟩
theorem TF {P:Program}{w:List Int}{h:Heap}{KH:HKq}:ab P (.ld (.c (.vp (words w) 0)) 1 false) h KH=KH (words w) h:=by rw[kH,bg];rfl
abbrev SM:List D:=[.int .i64 0,.int .i64 0,.int .i64 0,.int .i64 0,.nil,.nil,.nil]
def SlO (h:Heap) (ro:Ro) (d:D):Prop:=∃k,d=.ms k 0 0/\h k=.arr 1 []/\ro k=.sl
theorem SlO.aS {h h':Heap}{ro ro':Ro}(k:gH h ro h' ro'){d:D}(x:SlO h ro d):SlO h' ro' d:=by
 obtain⟨q,h1,h2,h3⟩:=x;obtain⟨G,u⟩:=k q (dD h2) (by rw[h3];rfl);exact⟨q,h1,by rw[G];exact h2,by rw[u];exact h3⟩
structure lC (h0:Heap) (ro0:Ro) (h:Heap) (ro:Ro) (L:List (Nat×D)):Prop where
 nd:(L.map Prod.fst).Nodup
 at_:∀p∈L,h p.1=.box p.2/\ro p.1=.no/\h0 p.1=.free
 fr:Fr ro0 h0 ro h
theorem lC.nil {h:Heap}{ro:Ro}:lC h ro h ro []:=⟨.nil,λ _ h=>(by cases h),Fr.refl⟩
section
variable {h0 h:Heap}{ro0 ro:Ro}{L:List (Nat×D)}
theorem lC.push (B:lC h0 ro0 h ro L){n:Nat}(hn:h n=.free) (d:D):lC h0 ro0 (ak h n (.box d)) (ak ro n .no) ((n,d)::L):=by
 have ne:∀p∈L,p.1≠n:=λ p hp e=>by have:=(B.at_ p hp).1;rw[e,hn]at this;cases this
 have f0:h0 n=.free:=by
  cases e:h0 n<;>first|rfl|(exfalso;have:=(B.fr n (by rw[e];simp)).2.1;exact this hn)
 refine⟨?_,λ p hp=>?_,B.fr.trans (Fr.new hn _)⟩
 ·simp only[List.map_cons,List.nodup_cons];refine⟨λ hm=>?_,B.nd⟩;obtain⟨p,hp,e⟩:=List.mem_map.1 hm;exact ne p hp e
 ·rcases List.mem_cons.1 hp with rfl|hp
  ·exact⟨af _ _ _,af _ _ _,f0⟩
  ·obtain⟨a,b,c⟩:=B.at_ p hp;exact⟨by rw[aa _ _ (ne p hp)];exact a,by rw[aa _ _ (ne p hp)];exact b,c⟩
theorem lC.step (B:lC h0 ro0 h ro L){h':Heap}{ro':Ro}(F:Fr ro h ro' h'):lC h0 ro0 h' ro' L :=
 ⟨B.nd,λ p hp=>by
  obtain⟨a,b,c⟩:=B.at_ p hp;obtain⟨f1,-,f3⟩:=F p.1 (by rw[a];simp)
  exact⟨by rw[f3 b];exact a,by rw[f1];exact b,c⟩,B.fr.trans F⟩
theorem lC.get (B:lC h0 ro0 h ro L) (i:Nat){n:Nat}{d:D}(hi:L[i]?=some (n,d)):h n=.box d:=(B.at_ _ (aK hi)).1
theorem lC.rn (B:lC h0 ro0 h ro L) (i:Nat){n:Nat}{d:D}(hi:L[i]?=some (n,d)):ro n=.no:=(B.at_ _ (aK hi)).2.1
theorem lC.used (B:lC h0 ro0 h ro L) (i:Nat){n:Nat}{d:D}(hi:L[i]?=some (n,d)):(h n).used=true:=by rw[B.get i hi];rfl
theorem lC.aM (B:lC h0 ro0 h ro L) (i:Nat){n:Nat}{d:D}(hi:L[i]?=some (n,d)) (d':D):lC h0 ro0 (ak h n (.box d')) ro (L.set i (n,d')):=by
 have u:=(aq.1 hi).1
 have hm:(L.set i (n,d')).map Prod.fst=L.map Prod.fst:=by
  rw[List.map_set];refine List.ext_getElem? λ j=>?_
  rw[List.getElem?_set];split
  ·rename_i e;subst e;rw[List.getElem?_map,hi,if_pos (by simpa using u)];rfl
  ·rfl
 refine⟨by rw[hm];exact B.nd,λ p hp=>?_,B.fr.PN (B.at_ _ (aK hi)).2.2⟩;obtain⟨j,G⟩:=db hp;by_cases e:j=i
 ·subst e;rw[List.getElem?_set_self u]at G;cases G;exact⟨af _ _ _,B.rn _ hi,(B.at_ _ (aK hi)).2.2⟩
 ·rw[List.getElem?_set_ne (Ne.symm e)]at G;have I:=aK G;obtain⟨a,b,c⟩:=B.at_ p I
  have:p.1≠n:=by
   intro H;have Q:(L.map Prod.fst)[j]?=some n:=by rw[List.getElem?_map,G];simp[H]
   have S:(L.map Prod.fst)[i]?=some n:=by rw[List.getElem?_map,hi];rfl
   have O:j<(L.map Prod.fst).length:=(aq.1 Q).1;exact e ((List.getElem?_inj O B.nd).1 (Q.trans S.symm))
  exact⟨by rw[aa _ _ this];exact a,b,c⟩
end
abbrev ar0:List D:=[.str ⟨#[]⟩,.int .i64 0,.int .i64 0,.int .i64 0]
section
variable {h:Heap}{ro:Ro}{dR dE dL:D}{dm:Nat->D}{st:St}
end
end Go.Am
