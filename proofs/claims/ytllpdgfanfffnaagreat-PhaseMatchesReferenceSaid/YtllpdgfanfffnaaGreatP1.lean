/- What the functions of this chapter give, on plain data. No condition. -/
import Derived.Shelf.SlIterI.Nil
import Derived.Shelf.SortM.Plain
import Derived.Shelf.SortM.SortNone
import Derived.Test.YtllpdgfanfffnaaGreatT1
set_option linter.unnecessarySimpa false
set_option linter.defProp false
set_option linter.unusedSectionVars false
set_option linter.unusedSimpArgs false
set_option linter.unusedVariables false

namespace Go.Am
open Go
variable [ca]
variable {P:Program}{KH:HKq}{K:D->Prop}{l:LH}
end Go.Am
namespace Go.Am
open Go
variable [ca]
variable {P:Program}
structure MS where
 group:Int
 sub:Int
 regs:Int
 loops:List Loop
 blocks:List Block
def rW (bs:List Nat):D:=.sl (bs.map λ(b:Nat)=>.int .u8 (b:Int))
def dh (bs:List Nat) (k:Nat) (arrs:D) (s:MS) (vL vB:D):D :=
 .agg [rW bs,.int .i64 (k:Int),.int .i64 s.group,.int .i64 s.sub,.int .i64 s.regs,.int .i64 0,.int .i64 3,arrs,vL,vB]
def cy (vs:List D) (bs:List Block):List D:=List.zipWith (λ v b=>D.agg (v::b.t.cs)) vs bs
def bP (l:List D):List Nat:=l.flatMap D.lG
structure Rows (h:Heap) (loops:List Loop) (blocks:List Block) (vL vB:D) (vs:List D):Prop where
 oL:Own 3 h vL (loops.map Loop.e)
 oB:Own 14 h vB (cy vs blocks)
 len:vs.length=blocks.length
 oI:∀(k:Nat) (v:D) (b:Block),vs[k]?=some v->blocks[k]?=some b->Own 15 h v (b.i.map bj.e)
 nd:(bP (vL::vB::vs)).Nodup
structure bc (h:Heap) (n k:Nat) (arrs:D) (s:MS):Prop where
 st:∃(bs:List Nat) (j:Nat) (vL vB:D) (vs:List D),(∀b∈bs,b<=255)/\bs.length<=9223372036854775807/\j<=k/\h n=.box (dh bs j arrs s vL vB)/\Rows h s.loops s.blocks vL vB vs
def aS (n:Nat) (h h':Heap):Prop:=∀m d,m≠n->h m=.box d->h' m=.box d
theorem aS.rfl {n:Nat}{h:Heap}:aS n h h:=λ _ _ _ h=>h
theorem aS.trans {n:Nat}{a b c:Heap}(h:aS n a b) (k:aS n b c):aS n a c:=λ m d hm hd=>k m d hm (h m d hm hd)
theorem aS.self {n:Nat}{h:Heap}{s:Slot}:aS n h (aF h n s):=λ m d hm hd=>by grind [an]
theorem aS.new {n m:Nat}{h:Heap}{s:Slot}(hm:h m=.free):aS n h (aF h m s):=λ k d _ hd=>by
 grind [an]
theorem dF {esz:Nat}{h h':Heap}{v:D}{els:List D}(ho:Own esz h v els) (hk:∀k∈v.lG,h' k=h k):Own esz h' v els:=by
 rcases ho with ho|⟨q,rfl,G⟩
 ·exact Or.inl ho
 ·exact Or.inr ⟨q,rfl,by grind [D.lG]⟩
theorem tJ {esz:Nat}{h:Heap}{v:D}{els:List D}(ho:Own esz h v els){k:Nat}(hk:k∈v.lG):h k=.arr esz els:=by
 rcases ho with⟨rfl,-⟩|⟨q,rfl,G⟩
 ·simp[D.lG]at hk
 grind [D.lG]
theorem Rows.congr {h h':Heap}{loops:List Loop}{blocks:List Block}{vL vB:D}{vs:List D}(r:Rows h loops blocks vL vB vs) (hk:∀k,k∈bP (vL::vB::vs)->h' k=h k):Rows h' loops blocks vL vB vs:=by
 have mem:∀v,v∈vL::vB::vs->∀k∈v.lG,k∈bP (vL::vB::vs):=λ v G k H=>List.mem_flatMap.2 ⟨v,G,H⟩
 refine⟨dF r.oL λ k q=>hk k (mem _ (by simp) k q),dF r.oB λ k q=>hk k (mem _ (by simp) k q),r.len,λ k v b G hb=>dF (r.oI k v b G hb) λ j q=>hk j (mem v ?_ j q),r.nd⟩;grind
theorem Rows.arr {h:Heap}{loops:List Loop}{blocks:List Block}{vL vB:D}{vs:List D}(r:Rows h loops blocks vL vB vs){k:Nat}(hk:k∈bP (vL::vB::vs)):∃e l,h k=.arr e l:=by
 obtain⟨v,H,G⟩:=List.mem_flatMap.1 hk;rcases List.mem_cons.1 H with rfl|H
 ·exact⟨_,_,tJ r.oL G⟩
 rcases List.mem_cons.1 H with rfl|H
 ·exact⟨_,_,tJ r.oB G⟩
 obtain⟨i,hi⟩:=ba H
 obtain⟨b,hb⟩:∃b,blocks[i]?=some b:=by
  have:=(ar.1 hi).1;exact⟨blocks[i]'(by rw[<- r.len];exact this),aq _⟩
 exact⟨_,_,tJ (r.oI i v b hi hb) G⟩
theorem Rows.box {h:Heap}{loops:List Loop}{blocks:List Block}{vL vB:D}{vs:List D}(r:Rows h loops blocks vL vB vs){n:Nat}{d:D}(hn:h n=.box d) (s:Slot):Rows (aF h n s) loops blocks vL vB vs :=
 r.congr λ k H=>by
  obtain⟨e,l,G⟩:=r.arr H;grind [an]
theorem Rows.free {h:Heap}{loops:List Loop}{blocks:List Block}{vL vB:D}{vs:List D}(r:Rows h loops blocks vL vB vs){n:Nat}(hn:h n=.free) (s:Slot):Rows (aF h n s) loops blocks vL vB vs :=
 r.congr λ k H=>by
  obtain⟨e,l,G⟩:=r.arr H;grind [an]
theorem bc.new {h:Heap}{n k:Nat}{arrs:D}{s:MS}(r:bc h n k arrs s){m:Nat}(hm:h m=.free) (x:Slot):bc (aF h m x) n k arrs s/\m≠n:=by
 obtain⟨bs,j,vL,vB,vs,h1,h2,h3,h4,G⟩:=r.st;have hne:n≠m:=by grind
 exact⟨⟨bs,j,vL,vB,vs,h1,h2,h3,by grind [an],G.free hm x⟩,hne.symm⟩
theorem bc.bK {h:Heap}{n k:Nat}{arrs:D}{s:MS}(r:bc h n k arrs s){m:Nat}{d:D}(hm:h m=.box d) (hne:m≠n) (x:Slot):bc (aF h m x) n k arrs s:=by
 obtain⟨bs,j,vL,vB,vs,h1,h2,h3,h4,G⟩:=r.st;exact⟨bs,j,vL,vB,vs,h1,h2,h3,by grind [an],G.box hm x⟩
theorem bc.le {h:Heap}{n k k':Nat}{arrs:D}{s:MS}(r:bc h n k arrs s) (hk:k<=k'):bc h n k' arrs s:=by
 obtain⟨bs,j,vL,vB,vs,h1,h2,h3,h4,G⟩:=r.st;exact⟨bs,j,vL,vB,vs,h1,h2,by omega,h4,G⟩
theorem Pn {KH:HKq}{h:Heap}{esz bytes:Nat}{z s d:D}{els:List D}(ho:Own esz h s els) (hd:aL d) (hc:d.cells.length=esz) (hb:(els.length+1)*bytes<=140737488355328) (hl:els.length+1<=9223372036854775807)
  (hk:∀m h',h m=.free->h' m=.arr esz (els++[d])->(∀k,k≠m->k∉s.lG->h' k=h k)->KH (.ms m 0 (els.length+1)) h'):ab P (.app (.c s) (.c (.sl [d])) esz bytes z) h KH:=by
 refine⟨λ e he=>by grind,λ y hy=>by grind,?_⟩;rcases ho with⟨rfl,rfl⟩|⟨m,rfl,hm⟩
 ·exact⟨⟨by simpa using hb,by simp⟩,λ n t=>hk n _ t.free (av _ _ _) λ k hk _=>an _ _ hk⟩
 ·refine⟨els,.of hm,by simp,⟨by simpa using hb,by simpa using hl⟩,λ n t=>⟨?_,λ h0=>absurd rfl h0⟩⟩;refine hk n _ t.free (av _ _ _) λ k G hne=>?_
  grind [D.lG,an]
theorem Fs {KH:HKq}{h:Heap}{esz bytes:Nat}{z z' s d:D}{els:List D}(ho:Own esz h s els) (hd:kx d) (hc:d.cells.length=esz) (hb:(els.length+1)*bytes<=140737488355328) (hl:els.length+1<=9223372036854775807)
  (hk:∀m h',h m=.free->h' m=.arr esz (els++[d])->(∀k,k≠m->k∉s.lG->h k≠.free->h' k=h k)->KH (.ms m 0 (els.length+1)) h') :
  ab P (.bldS true esz 1 z [(0,.c d)]) h λ x h1=>ab P (.app (.c s) (.c x) esz bytes z') h1 KH:=by
 refine Mz hd.vd hd.one hc λ n5 t=>?_
 have hx:((aF h n5 (.arr esz [d])) n5).row=some (esz,[d]):=by rw[av];rfl
 refine⟨[d],hx,by simp,?_⟩;simp only[List.drop_zero,List.take_succ_cons,List.take_zero];refine⟨λ y hy=>by simp at hy;subst hy;exact hd.one,?_⟩
 have kU:∀n,qE (aF h n5 (.arr esz [d])) n->h n=.free/\n≠n5:=by
  grind [aF,qE]
 rcases ho with⟨rfl,rfl⟩|⟨m,rfl,hm⟩
 ·refine⟨⟨by simpa using hb,by simp⟩,λ n tn=>?_⟩;obtain⟨f1,f2⟩:=kU n tn;exact hk n _ f1 (av _ _ _) λ k hk _ G=>by rw[an _ _ hk,an _ _ (t.ne G)]
 ·have H:m≠n5:=t.ne (by rw[hm];simp);refine⟨els,.of (by grind [an]),by simp,⟨by simpa using hb,by simpa using hl⟩,λ n tn=>⟨?_,λ h0=>absurd rfl h0⟩⟩;grind [D.lG,an,aF,qE]
end Go.Am
namespace Go.Am
open Go
theorem uD {n:Int}:aK PP cI [.int .i64 n] (· = (gT n).e):=by
 refine aZ Kl (aG _ _ _) rfl (J4 _ _) ?_;dsimp only[GG,xL,xS];rw[Lb];simp[QA,nX,Yr,h_ldp,Mq,Mr,Tb,kY,fillD,mw];exact Nd (dn.b9 ⟨2,n,0⟩) rfl
theorem yW {v:Int}:aK PP fp [.int .i32 v] (· = (Const v).e):=by
 refine aZ Gb (aG _ _ _) rfl (FQ _ _) ?_;dsimp only[z7,xL,xS];rw[Lb];simp[QA,nX,Yr,h_ldp,Mq,Mr,Tb,kY,fillD,mw];exact Nd (dn.b9 ⟨1,0,v⟩) rfl
theorem MO {h:Heap}{n j:Nat}{bs:List Nat}{rest:List D}(hn:h n=.box (.agg (rW bs::.int .i64 (j:Int)::rest))) (hb:∀b∈bs,b<=255) (hl:bs.length<=9223372036854775807) (hj:j<4611686018427387904){KH:HKq}
  (hK:∀b:Nat,b<=255->KH (.int .i64 (b:Int)) (aF h n (.box (.agg (rW bs::.int .i64 ((j+1:Nat):Int)::rest))))):ag PP aw [.ptr n 0 0] h KH:=by
 refine aY wv (aG _ _ _) rfl (v7 _ _) ?_;dsimp only[pO,xF,xL,xS,yC,yF,yI,yL];have Z:IntKind.i64.wrap ((j:Int)+1)=((j+1:Nat):Int):=by grind [wrap64]
 simp only[↓kX,hn,Slot.live,Slot.used,true_and,↓zh,↓gd,mf,Nat.zero_add,List.getElem?_cons_succ,List.getElem?_cons_zero,↓fv,Z,↓kW];refine⟨rfl,by simp,by simp,?_⟩;have G:setCells (D.agg (rW bs::.int .i64 (j:Int)::rest)) 1 (D.int .i64 ((j+1:Nat):Int)).cells=.agg (rW bs::.int .i64 ((j+1:Nat):Int)::rest):=by simp[setCells]
 rw[G];obtain⟨hA,Q⟩:∃hA,hA=aF h n (.box (.agg (rW bs::.int .i64 ((j+1:Nat):Int)::rest))):=⟨_,rfl⟩;rw[<- Q]at hK ⊢;have I:hA n=.box (.agg (rW bs::.int .i64 ((j+1:Nat):Int)::rest)):=by rw[Q,av]
 have e1:(∃v,hA n=.box v)=True:=eq_true ⟨_,I⟩;simp only[↓Ix,I,Slot.used,true_and,↓mc,↓zh,I,↓gd,mf,Nat.zero_add,List.getElem?_cons_succ,List.getElem?_cons_zero,rW,↓bD,aH,↓rU];by_cases hc:bs.length<j+1
 ·grind [af]
 ·have H:¬(bs.length:Int)<((j+1:Nat):Int):=by omega
  have V:IntKind.i64.wrap (((j+1:Nat):Int)-1)=(j:Int):=by grind [wrap64]
  simp only[H,decide_false,ae,↓nT,V,↓gJ,↓Fq,aH];grind [wrap64,LC,zG,gd,Pu,jb]
theorem fu {h:Heap}{n k:Nat}{arrs:D}{s:MS}(r:bc h n k arrs s) (hk:k<1000000){KH:HKq}(hK:∀(b:Nat) (h':Heap),b<=255->bc h' n (k+1) arrs s->aS n h h'->KH (.int .i64 (b:Int)) h') :
  ag PP aw [.ptr n 0 0] h KH:=by
 obtain⟨bs,j,vL,vB,vs,h1,h2,h3,h4,G⟩:=r.st;refine MO h4 h1 h2 (by omega) λ b hb=>hK b _ hb ⟨bs,j+1,vL,vB,vs,h1,h2,by omega,av _ _ _,G.box h4 _⟩ aS.self
theorem bm (a b:Nat):((a:Int).tmod (b:Int))=((a % b:Nat):Int):=(Int.ofNat_tmod a b).symm
theorem GB {h:Heap}{n k:Nat}{arrs:D}{s:MS}(r:bc h n k arrs s) (hk:k<1000000){KH:HKq}(hK:∀(b:Nat) (h':Heap),b<6->bc h' n (k+1) arrs s->aS n h h'->KH (gT (b:Int)).e h') :
  ag PP bh [.ptr n 0 0] h KH:=by
 refine aY mV (aG _ _ _) rfl (mN _ _) ?_;dsimp only[lC,xL,xS];rw[gP];intro m t;obtain⟨V,hne⟩:=r.new t.free (.box (.agg [(.int .i64 0),(.int .i64 0),(.int .i32 0)]));refine fu V hk λ b h' hb Q G=>?_
 have hm:=G m _ hne (av _ _ _);have e6:((b:Int).tmod 6)=((b % 6:Nat):Int):=bm b 6;rw[cY];refine⟨by omega,?_⟩;rw[e6];refine gN uD ⟨aI,trivial⟩ ?_;simp only[↓kW,hm];refine⟨by first|rfl|trivial,(dn.b9 _).one,by first|rfl|trivial,by simp,?_⟩;have H:setCells (.agg [(.int .i64 0),(.int .i64 0),(.int .i32 0)]) 0 (gT ((b % 6:Nat):Int)).e.cells=(gT ((b % 6:Nat):Int)).e:=rfl;rw[H];simp only[↓zh,av,true_and];refine⟨by simp[dn.e,dn.cs],?_⟩;refine hK (b % 6) _ (Nat.mod_lt _ (by omega)) (Q.bK hm hne _) λ q d Z hd=>?_
 have I:q≠m:=by rintro rfl;rw[t.free]at hd;cases hd
 rw[an _ _ I];exact G q d Z (by grind [an])
def GF (o:dn):Prop:=(∃b:Nat,b<6/\o=gT b)\/∃v:Int,-20<=v/\v<=65/\o=Const v
theorem zO {h:Heap}{n k:Nat}{arrs:D}{s:MS}(r:bc h n k arrs s) (hk:k<1000000){KH:HKq}(hK:∀(o:dn) (h':Heap),GF o->bc h' n (k+1) arrs s->aS n h h'->KH o.e h') :
  ag PP bg [.ptr n 0 0] h KH:=by
 refine aY mT (aG _ _ _) rfl (mL _ _) ?_;dsimp only[lB,xC,xL,xS];rw[gP];intro m t;obtain⟨r1,hne⟩:=r.new t.free (.box (.agg [(.int .i64 0),(.int .i64 0),(.int .i32 0)]));refine fu r1 hk λ b h' hb Z G=>?_
 have hm:=G m _ hne (av _ _ _)
 have fin:∀o:dn,GF o->ab PP (.st (.c (.ptr m 0 0)) (.c o.e) 3) h' λ _ h1=>ab PP (.ld (.c (.ptr m 0 0)) 3 true) h1 λ a _=>KH a h1:=by
  intro o ho;simp only[↓kW,hm];refine⟨by first|rfl|trivial,(dn.b9 _).one,by first|rfl|trivial,by simp[dn.e,dn.cs],?_⟩;have I:setCells (.agg [(.int .i64 0),(.int .i64 0),(.int .i32 0)]) 0 o.e.cells=o.e:=rfl;rw[I];simp only[↓zh,av,true_and];refine⟨by simp[dn.e,dn.cs],?_⟩;refine hK o _ ho (Z.bK hm hne _) λ q d hq hd=>?_
  have Q:q≠m:=by rintro rfl;rw[t.free]at hd;cases hd
  rw[an _ _ Q];exact G q d hq (by grind [an])
 have e3:((b:Int).tmod 3)=((b % 3:Nat):Int):=bm b 3
 have d3:IntKind.i64.wrap ((b:Int).tdiv 3)=((b / 3:Nat):Int):=by
  grind [wrap64]
 rw[cY];refine⟨by omega,?_⟩;rw[e3,bq];by_cases hc:b % 3=0
 ·have H:((b % 3:Nat):Int)=0:=by omega
  simp only[H,decide_true,af,↓Nm];refine⟨by omega,?_⟩;have w:IntKind.i32.wrap ((b / 3:Nat):Int)=((b / 3:Nat):Int):=by grind [IntKind.wrap,IntKind.bits]
  have V:IntKind.i32.wrap (((b / 3:Nat):Int)-20)=((b / 3:Nat):Int)-20:=by grind [IntKind.wrap,IntKind.signed,IntKind.bits]
  rw[d3,jb,w,nT,V];refine gN yW ⟨aI,trivial⟩ ?_;exact fin _ (Or.inr ⟨_,by omega,by omega,rfl⟩)
 ·have H:¬((b % 3:Nat):Int)=0:=by omega
  simp only[H,decide_false,ae,↓Nm];refine⟨by omega,?_⟩;rw[d3,cY];refine⟨by omega,?_⟩;have e6:(((b / 3:Nat):Int).tmod 6)=((b / 3 % 6:Nat):Int):=bm (b / 3) 6;rw[e6];refine gN uD ⟨aI,trivial⟩ ?_;exact fin _ (Or.inl ⟨b / 3 % 6,Nat.mod_lt _ (by omega),rfl⟩)
theorem jY {vs:List D}{bs:List Block}(h:vs.length=bs.length):(cy vs bs).length=bs.length:=by simp[cy,h]
theorem Sb {vs:List D}{bs:List Block}(h:vs.length=bs.length) (v:D) (b:Block):cy (vs++[v]) (bs++[b])=cy vs bs++[.agg (v::b.t.cs)]:=by
 simp[cy,List.zipWith_append h]
theorem Fx {vs:List D}{bs:List Block}{k:Nat}{v:D}{b:Block}(h1:vs[k]?=some v) (h2:bs[k]?=some b):(cy vs bs)[k]?=some (.agg (v::b.t.cs)):=by
 simp[cy,List.getElem?_zipWith,h1,h2]
theorem Lu {vs:List D}{bs:List Block}(h:vs.length=bs.length){k:Nat}(hk:k<bs.length) (v:D) (b:Block):(cy vs bs).set k (.agg (v::b.t.cs))=cy (vs.set k v) (bs.set k b):=by
 refine List.ext_getElem? λ i=>?_
 grind [cy]
theorem Cr {esz:Nat}{h:Heap}{v:D}{els:List D}(ho:Own esz h v els) (hne:els≠[]):∃n,v=.ms n 0 els.length/\h n=.arr esz els:=by
 rcases ho with⟨-,h2⟩|h
 ·exact absurd h2 hne
 ·exact h
theorem WJ:(D.agg (.nil::lY.cs))=.agg [.nil,.int .i64 0,.int .i64 0,.int .i64 0,.int .i64 0,.int .i32 0,.int .i64 0,.int .i64 0,.int .i32 0,.int .i64 0,.int .i64 0,.int .i32 0,.int .i64 0,.int .i64 0]:=rfl
theorem cB {d:D}{l:List D}:bP (d::l)=d.lG++bP l:=by simp[bP]
theorem A9 {l l':List D}:bP (l++l')=bP l++bP l':=by simp[bP]
theorem qi {d:D}{l:List D}(h:d∈l){k:Nat}(hk:k∈d.lG):k∈bP l:=List.mem_flatMap.2 ⟨d,h,hk⟩
theorem Xy {h:Heap}{n k:Nat}{arrs:D}{s:MS}(r:bc h n k arrs s) (hlen:s.blocks.length<1000){KH:HKq}
  (hK:∀h':Heap,bc h' n k arrs { s with blocks:=s.blocks++[⟨[],lY⟩] }->aS n h h'->KH (.tup []) h'):ag PP bt [.ptr n 0 0] h KH:=by
 refine aY uz (aG _ _ _) rfl (uu _ _) ?_;dsimp only[oh,xF,xL,xS];obtain⟨bs,j,vL,vB,vs,h1,h2,h3,h4,G⟩:=r.st;simp only[↓kX,h4,Slot.live,Slot.used,true_and,↓zh,dh,↓gd,mf,Nat.zero_add,Nat.reduceAdd,List.getElem?_cons_succ,List.getElem?_cons_zero,↓nX];refine⟨by intro p hp;simp at hp,?_⟩;have a1:=jY G.len;simp only[List.map_nil,fillD];have hd:kx (D.agg (.nil::lY.cs)):=bw (by simp[Term.cs,lY]);rw[<- WJ];refine Fs G.oB hd rfl (by rw[a1];omega) (by rw[a1];omega) λ m h' f1 f2 f3=>?_
 have a6:n≠m:=by grind
 have a8:n∉vB.lG:=λ hm=>by have:=tJ G.oB hm;rw[h4]at this;cases this
 have b2:h' n=h n:=f3 n a6 a8 (by rw[h4];simp);simp only[↓kX,b2,h4,Slot.live,Slot.used,true_and,dh,Nat.zero_add,Nat.reduceAdd,↓kW];refine⟨rfl,by simp,by simp,?_⟩;refine hK _ ⟨bs,j,vL,.ms m 0 ((cy vs s.blocks).length+1),vs++[.nil],h1,h2,h3,?_,?_⟩ λ q d hq hd=>?_
 ·rw[av];simp[setCells,dh]
 ·
  have V:∀k',k'∈bP (vL::vB::vs)->h k'≠.free:=λ k' I=>by obtain⟨e,l,H⟩:=G.arr I;rw[H];simp
  have Z:m∉bP (vL::vB::vs):=λ hm=>V m hm f1
  have a7:=G.nd;rw[cB,cB]at a7 Z;simp only[List.mem_append,not_or]at Z
  have same:∀k',k'∈bP (vL::vs)->(aF h' n (.box (setCells (.agg [rW bs,.int .i64 (j:Int),.int .i64 s.group,.int .i64 s.sub,.int .i64 s.regs,.int .i64 0,.int .i64 3,arrs,vL,vB]) 9 (D.ms m 0 ((cy vs s.blocks).length+1)).cells))) k'=h k':=by
   intro k' I;rw[cB,List.mem_append]at I;have b1:k'∈bP (vL::vB::vs):=by grind [cB]
   have e1:k'≠n:=by
    rintro rfl;obtain⟨e,l,H⟩:=G.arr b1;rw[h4]at H;cases H
   grind [an]
  have a2:Own 14 h' (.ms m 0 ((cy vs s.blocks).length+1)) (cy (vs++[.nil]) (s.blocks++[⟨[],lY⟩])):=by
   rw[Sb G.len];exact Or.inr ⟨m,by simp,f2⟩
  refine⟨dF G.oL λ k' q=>same k' (qi (by simp) q),dF a2 λ k' q=>?_,by simp[G.len],λ i v b Q hb=>?_,?_⟩
  ·grind [D.lG,an]
  ·rcases Nat.lt_or_ge i vs.length with hi|hi
   ·rw[List.getElem?_append_left hi]at Q;rw[List.getElem?_append_left (by rw[<- G.len];exact hi)]at hb;refine dF (G.oI i v b Q hb) λ k' q=>same k' (qi ?_ q)
    grind
   ·rw[List.getElem?_append_right hi]at Q;rw[List.getElem?_append_right (by rw[<- G.len];exact hi)]at hb
    have hz:i-vs.length=0:=by
     grind
    rw[<- G.len,hz]at hb;rw[hz]at Q;simp at Q hb;subst Q hb;exact Or.inl ⟨rfl,rfl⟩
  ·rw[cB,cB,A9];grind [D.lG,bP]
 ·rw[an _ _ hq];have e2:q≠m:=by grind
  have e3:q∉vB.lG:=λ hm=>by have:=tJ G.oB hm;rw[hd]at this;cases this
  grind
def Nu (bs:List Block) (i:Nat) (t:Term):List Block:=bs.modify i λ b=>{ b with t:=t }
def JZ (bs:List Block) (i:Nat) (x:bj):List Block:=bs.modify i λ b=>{ b with i:=b.i++[x] }
theorem tU {α:Type}{l:List α}{i:Nat}{a:α}{f:α->α}(h:l[i]?=some a):l.modify i f=l.set i (f a):=by
 refine List.ext_getElem? λ k=>?_
 grind
theorem I6 {bs:List Block}{i:Nat}{t:Term}:(Nu bs i t).length=bs.length:=by simp[Nu]
theorem OM {bs:List Block}{i:Nat}{t:bj}:(JZ bs i t).length=bs.length:=by simp[JZ]
theorem bc.some {h:Heap}{n k:Nat}{arrs:D}{s:MS}(r:bc h n k arrs s) (hne:s.blocks≠[]):∃(bs:List Nat) (j:Nat) (vL:D) (nb:Nat) (vs:List D),(∀b∈bs,b<=255)/\bs.length<=9223372036854775807/\j<=k /\
  h n=.box (dh bs j arrs s vL (.ms nb 0 s.blocks.length))/\h nb=.arr 14 (cy vs s.blocks)/\Rows h s.loops s.blocks vL (.ms nb 0 s.blocks.length) vs:=by
 obtain⟨bs,j,vL,vB,vs,h1,h2,h3,h4,G⟩:=r.st;have H:=jY G.len
 obtain⟨nb,Q,I⟩:=Cr G.oB (by
  grind)
 grind
theorem Rows.aaZ {h:Heap}{loops:List Loop}{blocks blocks':List Block}{vL:D}{nb:Nat}{vs vs':List D}(r:Rows h loops blocks vL (.ms nb 0 blocks.length) vs) (hl:blocks'.length=blocks.length) (hv:vs'.length=blocks'.length){h':Heap}
  (hkeep:∀k,k∈bP (vL::vs)->k∈bP (vL::vs')->h' k=h k) (hnb:h' nb=.arr 14 (cy vs' blocks')) (hL:∀k∈vL.lG,h' k=h k)
  (hI:∀(k:Nat) (v:D) (b:Block),vs'[k]?=some v->blocks'[k]?=some b->Own 15 h' v (b.i.map bj.e)) (hnd:(bP (vL::D.ms nb 0 blocks.length::vs')).Nodup):Rows h' loops blocks' vL (.ms nb 0 blocks'.length) vs':=by
 refine⟨dF r.oL hL,Or.inr ⟨nb,by rw[jY hv],hnb⟩,hv,hI,?_⟩;rw[hl];exact hnd
theorem Rows.fresh {h:Heap}{loops:List Loop}{blocks:List Block}{vL vB:D}{vs:List D}(r:Rows h loops blocks vL vB vs){m:Nat}(hm:h m=.free):m∉bP (vL::vB::vs):=λ H=>by
 obtain⟨e,l,G⟩:=r.arr H;rw[hm]at G;cases G
theorem Ct {vL:D}{nb l:Nat}{vs:List D}(h:(bP (vL::D.ms nb 0 l::vs)).Nodup):nb∉bP (vL::vs)/\(bP (vL::vs)).Nodup:=by
 grind [D.lG,bP]
theorem WO {h:Heap}{n k i:Nat}{arrs:D}{s:MS}{t:Term}{bs:List Nat}{j nb:Nat}{vL:D}{vs:List D}(h1:∀b∈bs,b<=255) (h2:bs.length<=9223372036854775807) (h3:j<=k) (h4:h n=.box (dh bs j arrs s vL (.ms nb 0 s.blocks.length)))
  (h5:h nb=.arr 14 (cy vs s.blocks)) (h6:Rows h s.loops s.blocks vL (.ms nb 0 s.blocks.length) vs) (hi:i<s.blocks.length) {KH:HKq}
  (hK:∀h',bc h' n k arrs { s with blocks:=Nu s.blocks i t }->aS n h h'->KH .undef h'):ab PP (.st (.c (.ptr nb i 1)) (.c t.e) 13) h KH:=by
 have a6:=jY h6.len;obtain⟨v,hv⟩:∃v,vs[i]?=some v:=⟨vs[i]'(by rw[h6.len];exact hi),aq _⟩;obtain⟨b,hb⟩:∃b,s.blocks[i]?=some b:=⟨s.blocks[i],aq _⟩;have Q:=Fx hv hb;rw[kW];simp only[h5,Q,Option.some.injEq,forall_eq'];refine⟨rfl,(Term.b9 t).one,by rw[a6];exact hi,by simp[Term.e,Term.cs],?_⟩;have H:setCells (.agg (v::b.t.cs)) 1 t.e.cells=.agg (v::t.cs):=by simp[setCells,Term.e,Term.cs]
 rw[H]
 have I:Nu s.blocks i t=s.blocks.set i { b with t:=t }:=by
  rw[Nu];exact tU hb
 have e1:(cy vs s.blocks).set i (.agg (v::t.cs))=cy vs (Nu s.blocks i t):=by
  have:=Lu h6.len hi v { b with t:=t };rw[show vs.set i v=vs from ?_]at this
  ·rw[I];exact this
  ·refine List.ext_getElem? λ q=>?_
   grind
 rw[e1];have Z:n≠nb:=by grind
 obtain⟨a1,b1⟩:=Ct h6.nd;refine hK _ ⟨bs,j,vL,.ms nb 0 (Nu s.blocks i t).length,vs,h1,h2,h3,?_,?_⟩ λ q d hq hd=>?_
 ·rw[an _ _ Z,h4,I6];rfl
 ·refine Rows.aaZ h6 (by rw[I6]) (by rw[I6];exact h6.len) (λ q hq _=>?_) (av _ _ _) (λ q hq=>?_) (λ q v' b' G b3=>?_) h6.nd
  ·grind [an]
  ·grind [an,cB]
  ·obtain⟨V,a8,a7⟩:∃V,s.blocks[q]?=some V/\b'.i=V.i:=by
    grind
   rw[a7];refine dF (h6.oI q v' V G a8) λ q' a2=>?_
   rw[an _ _ (by rintro rfl;exact a1 (by rw[cB];simp[qi (ak G) a2]))]
 grind [an]
set_option maxHeartbeats 1000000 in
theorem acb {h:Heap}{n k:Nat}{arrs:D}{s:MS}{x:bj}{L:Nat}(r:bc h n k arrs s) (hL:s.blocks.length=L+1) (hlen:L<1000) (hil:∀b∈s.blocks,b.i.length<1000){KH:HKq}
  (hK:∀h':Heap,bc h' n k arrs { s with blocks:=JZ s.blocks L x }->aS n h h'->KH (.tup []) h'):ag PP aV [.ptr n 0 0,x.e] h KH:=by
 refine aY yt (aG _ _ _) rfl (xQ _ _ _) ?_;dsimp only[qv,xB,xF,xL,xS,yF,yI,yL];rw[Jy];refine⟨(bj.b9 x).one,λ m t=>?_⟩;obtain⟨r1,e9⟩:=r.new t.free (.box x.e);obtain⟨hA,eA⟩:∃hA,hA=aF h m (.box x.e):=⟨_,rfl⟩;rw[<- eA]at r1 ⊢;have am:hA m=.box x.e:=by rw[eA,av]
 have a6:aS n h hA:=by rw[eA];exact aS.new t.free
 obtain⟨bs,j,vL,nb,vs,h1,h2,h3,h4,h5,h6⟩:=r1.some (by grind);have b4:=jY h6.len;have I:s.blocks.length=L+1:=hL;obtain⟨v,hv⟩:∃v,vs[L]?=some v:=⟨vs[L]'(by rw[h6.len,I];omega),aq _⟩;obtain⟨b,hb⟩:∃b,s.blocks[L]?=some b:=⟨s.blocks[L]'(by rw[I];omega),aq _⟩;have a2:=Fx hv hb;have w1:IntKind.i64.wrap (((L+1:Nat):Int)-1)=(L:Int):=by grind [wrap64]
 have c1:(0:Int)<=(L:Int):=by omega
 have c2:(L:Int)<((L+1:Nat):Int):=by omega
 have g2:=hil b (ak hb);have oV:=h6.oI L v b hv hb;have a1:(∃els,(Slot.arr 14 (cy vs s.blocks)).row=some (14,els))=True:=eq_true ⟨_,rfl⟩;have e2:(L<(cy vs s.blocks).length)=True:=eq_true (by rw[b4,I];omega);simp only[↓kX,h4,Slot.used,true_and,↓zh,dh,↓gd,mf,Nat.zero_add,Nat.reduceAdd,List.getElem?_cons_succ,List.getElem?_cons_zero,↓bH,h5,Slot.live,I,↓nT,w1,↓Ix,↓mc,↓gJ,↓pw,c1,c2,a1,aE,e2,a2,Option.some.injEq,forall_eq',am,↓mw];refine⟨Nat.le_refl _,?_⟩
 have b5:∀{Q:D->Prop}{h:Heap}{z:D},(∀y∈z.cells,y.vone=true)->Q (.sl [x.e])->au PP (.bldS false 15 1 z [(0,.c (.agg (List.take 15 (List.drop 0 x.e.cells))))]) h Q:=by
  intro Q h z hz hq;have e1:D.agg (List.take 15 (List.drop 0 x.e.cells))=x.e:=rfl;rw[e1];refine⟨?_,?_,hz,hq⟩
  ·intro p hp;simp[Arg.get]at hp;subst hp;exact⟨Nat.one_pos,rfl,(bj.b9 x).one⟩
  ·intro p hp;simp[Arg.get]at hp;subst hp;intro y hy;simp[bj.e,bj.cs]at hy;rcases hy with rfl|rfl|rfl|rfl|rfl|rfl|rfl|rfl|rfl|rfl|rfl|rfl|rfl|rfl|rfl<;>rfl
 refine b5 (by simp) ?_;refine Pn oV (bj.b9 x).one rfl (by simp;omega) (by simp;omega) λ H hB f1 f2 f3=>?_
 have vB:nb∉v.lG:=λ hm=>by
  have:=(Ct h6.nd).1;exact this (by rw[cB];exact List.mem_append_right _ (qi (ak hv) hm))
 have vN:n∉v.lG:=λ hm=>by have:=tJ oV hm;rw[h4]at this;cases this
 have n2:n≠H:=by grind
 have b2:nb≠H:=by grind
 have c5:n≠nb:=by grind
 have g4:hB n=Slot.box (dh bs j arrs s vL (D.ms nb 0 s.blocks.length)):=by rw[f3 n n2 vN];exact h4
 have g5:hB nb=Slot.arr 14 (cy vs s.blocks):=by rw[f3 nb b2 vB];exact h5
 simp only[g4,g5,dh,mf,List.getElem?_cons_succ,List.getElem?_cons_zero,I,aa,a1,true_and,↓kW];have b3:setCells (.agg (v::b.t.cs)) 0 (D.ms H 0 ((List.map bj.e b.i).length+1)).cells=.agg (D.ms H 0 ((List.map bj.e b.i).length+1)::b.t.cs):=by simp[setCells]
 refine⟨rfl,by simp,by rw[b4,I];omega,by simp,λ d hd=>?_⟩;rw[a2]at hd;cases hd;rw[b3]
 have c4:(cy vs s.blocks).set L (.agg (D.ms H 0 ((List.map bj.e b.i).length+1)::b.t.cs))=cy (vs.set L (.ms H 0 (b.i.length+1))) (JZ s.blocks L x):=by
  have:=Lu h6.len (k:=L) (by rw[I];omega) (.ms H 0 (b.i.length+1)) { b with i:=b.i++[x] };grind [JZ,tU]
 rw[c4];obtain⟨hC,eC⟩:∃hC,hC=aF hB nb (.arr 14 (cy (vs.set L (.ms H 0 (b.i.length+1))) (JZ s.blocks L x))):=⟨_,rfl⟩;rw[<- eC];have k4:hC n=Slot.box (dh bs j arrs s vL (D.ms nb 0 s.blocks.length)):=by rw[eC,an _ _ c5];exact g4
 have k5:hC nb=.arr 14 (cy (vs.set L (.ms H 0 (b.i.length+1))) (JZ s.blocks L x)):=by rw[eC,av]
 have k6:∀q,q≠H->q∉v.lG->q≠nb->hC q=hA q:=λ q q1 q2 q3=>by rw[eC,an _ _ q3];exact f3 q q1 q2
 have k7:hC H=.arr 15 (b.i.map bj.e++[x.e]):=by rw[eC,an _ _ b2.symm];exact f2
 simp only[k4,k5,dh,mf,List.getElem?_cons_succ,List.getElem?_cons_zero,I,aa,true_and];refine⟨by simp[Slot.row],?_⟩;have fr:H∉bP (vL::D.ms nb 0 s.blocks.length::vs):=h6.fresh f1;have b1:(vs.set L (D.ms H 0 (b.i.length+1))).length=(JZ s.blocks L x).length:=by rw[List.length_set,h6.len,OM]
 obtain⟨e8,c7⟩:=Ct h6.nd;have c8:L<vs.length:=(ar.1 hv).1
 have split:∃p q,vs=p++v::q/\p.length=L:=by
  refine⟨vs.take L,vs.drop (L+1),?_,by simp;omega⟩;grind [List.take_append_drop,List.drop_eq_getElem_cons]
 obtain⟨p,q,c3,e3⟩:=split
 have c0:vs.set L (D.ms H 0 (b.i.length+1))=p++D.ms H 0 (b.i.length+1)::q:=by
  rw[c3, <- e3];simp
 have a8:(bP (vL::vs)).Nodup:=c7;rw[c3,cB,A9,cB]at a8;have a7:=List.nodup_append.1 a8;have c6:=List.nodup_append.1 a7.2.1;have e5:=List.nodup_append.1 c6.2.1
 have e4:∀k',k'∈v.lG->∀G,(G∈vL.lG\/G∈bP p\/G∈bP q)->G≠k':=by
  grind
 have b7:∀G,(G∈vL.lG\/G∈bP p\/G∈bP q)->G≠H/\G∉v.lG/\G≠nb:=by
  grind [bP]
 refine hK _ ⟨bs,j,vL,.ms nb 0 (JZ s.blocks L x).length,vs.set L (.ms H 0 (b.i.length+1)),h1,h2,h3,by rw[OM];exact k4,?_⟩ λ q' d hq hd=>?_
 ·refine⟨dF h6.oL λ k' g1=>?_,Or.inr ⟨nb,by rw[jY b1],k5⟩,b1,λ k' v' b' Z V=>?_,?_⟩
  ·grind
  ·rw[JZ,tU hb]at V;rw[List.getElem?_set]at Z V;by_cases e:L=k'
   ·subst e;rw[if_pos rfl,if_pos c8]at Z;rw[if_pos rfl,if_pos (by rw[I];omega)]at V;cases Z;cases V;exact Or.inr ⟨H,by simp,by rw[k7];simp⟩
   ·rw[if_neg e]at Z V;refine dF (h6.oI k' v' b' Z V) λ G g0=>?_
    grind [bP,List.getElem?_append_left,qi,List.mem_of_getElem?]
  ·rw[c0,cB,cB,A9,cB];show(vL.lG++(nb::(bP p++(H::bP q)))).Nodup
   have e6:∀G,(G∈vL.lG\/G∈bP p\/G∈bP q)->G≠nb:=λ G h=>(b7 G h).2.2
   have e7:∀G,(G∈vL.lG\/G∈bP p\/G∈bP q)->G≠H:=λ G h=>(b7 G h).1
   refine List.nodup_append.2 ⟨a7.1,?_,?_⟩
   ·grind
   grind
 ·have e0:=a6 q' d hq hd;have q1:q'≠H:=by grind
  have q2:q'∉v.lG:=λ hm=>by have:=tJ oV hm;rw[e0]at this;cases this
  grind
end Go.Am
namespace Go.Am
open Go
theorem dn.len (o:dn):o.e.cells.length=3:=rfl
theorem dn.Wz (o:dn):o.e.cells.all D.one=true:=rfl
theorem Term.len (o:Term):o.e.cells.length=13:=rfl
def pq (s:MS) (pre:List Block) (is:List bj) (t:Term):MS:={ s with blocks:=pre++[⟨is,t⟩] }
structure SR (pre:List Block) (is:List bj) (N:Nat):Prop where
 p:pre.length<=50
 b:∀b∈pre,b.i.length<=100
 i:is.length<=N
theorem SR.le {pre:List Block}{is is':List bj}{N M:Nat}(b:SR pre is N) (h:is'.length<=M):SR pre is' M:=⟨b.p,b.b,h⟩
theorem Gs {α:Type}(l:List α) (a:α) (f:α->α):(l++[a]).modify l.length f=l++[f a]:=by
 rw[tU (a:=a) (by simp)];simp
theorem Vc {h:Heap}{n k:Nat}{arrs:D}{s:MS}{pre:List Block}{is:List bj}{t:Term}{x:bj}(r:bc h n k arrs (pq s pre is t)) (hb:SR pre is 900){KH:HKq}
  (hK:∀h':Heap,bc h' n k arrs (pq s pre (is++[x]) t)->aS n h h'->KH (.tup []) h'):ag PP aV [.ptr n 0 0,x.e] h KH:=by
 refine acb (L:=pre.length) r (by simp[pq]) (by have:=hb.p;omega) (λ b G=>?_) λ h' r' H=>hK h' ?_ H
 ·simp only[pq,List.mem_append,List.mem_singleton]at G;rcases G with G|rfl
  ·have:=hb.b b G;omega
  ·have:=hb.i;simp only;omega
 grind [JZ,pq,Gs]
def Dh:List qV:=[⟨⟨#[97]⟩,1,1,8⟩,⟨⟨#[102]⟩,1,2,4⟩,⟨⟨#[115]⟩,2,1,8⟩,⟨⟨#[112]⟩,3,1,4⟩,⟨⟨#[98]⟩,2,3,4⟩]
def bF:D:=.sl (Dh.map qV.e)
def xy (n:Int):Int:=if n=0\/n=2 then 8 else 4
def Gt (d:dn) (a:dn) (n:Int):bj:=⟨3,17,0,d,a,Const (xy n-1),aj⟩
theorem bc.box {h:Heap}{n k:Nat}{arrs:D}{s:MS}(r:bc h n k arrs s):∃(bs:List Nat) (j:Nat) (vL vB:D),h n=.box (dh bs j arrs s vL vB):=by
 obtain⟨bs,j,vL,vB,vs,-,-,-,h1,-⟩:=r.st;exact⟨_,_,_,_,h1⟩
section
variable {P:Program}{KH:HKq}{K:D->Prop}{h:Heap}
theorem ldO {m:Nat}{o:dn}(a:h m=.box o.e):ab P (.ld (.c (.ptr m 0 0)) 3 true) h KH=KH o.e h:=fV a
theorem KQ {m:Nat}{o:dn}(a:h m=.box o.e):au P (.ld (.c (.ptr m 0 0)) 3 true) h K=K o.e:=by rw[mc,ldO a]
theorem stO {m:Nat}{o o':dn}(a:h m=.box o.e):ab P (.st (.c (.ptr m 0 0)) (.c o'.e) 3) h KH=KH .undef (aF h m (.box o'.e)):=by
 grind [dn.e,dn.cs,ac0]
theorem lH {n i j o:Nat}(a:(h n).used=true):au P (.fadd (.c (.ptr n i j)) o) h K=K (.ptr n i (j+o)):=by rw[Ix,a];simp
theorem QI {n i j o:Nat}(a:(h n).used=true):ab P (.fadd (.c (.ptr n i j)) o) h KH=KH (.ptr n i (j+o)) h:=by rw[kX,a];simp
end
def PR (q:Nat):D:=((Dh.map qV.e)[q]?).getD .undef
theorem LJ (q:Nat) (hq:q<5):(Dh.map qV.e)[q]?=some (PR q)/\(PR q).cells.length=4/\(PR q).cells[3]?=some (.int .i64 (xy q)):=by
 have:q=0\/q=1\/q=2\/q=3\/q=4:=by omega
 rcases this with rfl|rfl|rfl|rfl|rfl<;>exact⟨rfl,rfl,rfl⟩
theorem uk (q:Int):xy q=8\/xy q=4:=by unfold xy;split<;>simp
theorem JT {P:Program}{K:D->Prop}{h:Heap}{q:Nat}(hq:q<5):au P (.iadd (.c (.sl (Dh.map qV.e))) (.c (.int .i64 (q:Int))) 4) h K=K (.vp (PR q) 0):=by
 grind [LJ,Dh,gJ,Fq,Int.toNat_natCast]
theorem OH {P:Program}{K:D->Prop}{h:Heap}{q:Nat}(hq:q<5):au P (.ld (.c (.vp (PR q) 3)) 1 false) h K=K (.int .i64 (xy q)):=by
 rw[mc,zG,gd,(LJ q hq).2.2]
theorem OI {P:Program}{K:D->Prop}{h:Heap}{q:Nat}:au P (.fadd (.c (.vp (PR q) 0)) 3) h K=K (.vp (PR q) 3):=rfl
theorem Q4 {h:Heap}{n k:Nat}{s:MS}{pre:List Block}{is:List bj}{t:Term}{priv:Bool}(r:bc h n k bF (pq s pre is t)) (hb:SR pre is 800) (hk:k<900000){KH:HKq}
  (hK:∀(q:Nat) (d:Nat) (a:dn) (h':Heap),q<5->(priv=false->q≠3)->d<6->GF a->bc h' n (k+3) bF (pq s pre (is++[Gt (gT d) a q]) t)->aS n h h'->KH (.tup [.int .i64 (q:Int),(gT (d:Int)).e]) h') :
  ag PP fB [.ptr n 0 0,.bool priv] h KH:=by
 refine aY ux (aG _ _ _) rfl (uq _ _ _) ?_;dsimp only[oe,xL,xP,xS,yC,yF,yI,yL];rw[gP];intro m t0;obtain⟨r1,hne⟩:=r.new t0.free (.box aj.e);have k1:aS n h (aF h m (.box aj.e)):=aS.new t0.free;refine fu r1 (by omega) λ b hA _ r2 k2=>?_
 have hm:=k2 m _ hne (av _ _ _);have a1:=k1.trans k2;rw[cY];refine⟨by omega,?_⟩;have e5:((b:Int).tmod 5)=((b % 5:Nat):Int):=bm b 5;rw[e5];refine⟨λ qs h'=>∃q:Nat,qs=[.int .i64 (q:Int)]/\q<5/\(priv=false->q≠3)/\bc h' n (k+1) bF (pq s pre is t)/\h' m=.box aj.e/\aS n h h',?_,?_⟩
 ·rintro f hB ⟨q,hq,Q,hp,r3,b3,k3⟩;simp only[ah,and_true]at hq;rw[hq];refine GB r3 (by omega) λ d hC hd r4 k4=>?_
  rw[gP];intro H t5;obtain⟨r5,V⟩:=r4.new t5.free (.box aj.e);have b5:=(aS.new t5.free:aS n hC (aF hC H (.box aj.e))) m _ hne (k4 m _ hne b3);have k5:=(k3.trans k4).trans (aS.new t5.free:aS n hC (aF hC H (.box aj.e)));have a5:=av hC H (.box aj.e);have c2:m≠H:=t5.ne (by rw[k4 m _ hne b3];simp);show ab PP _ (aF hC H (.box aj.e)) _
  generalize aF hC H (.box aj.e)=hD at r5 b5 k5 a5;have a6:=av hD H (.box (gT (d:Int)).e);have r6:=r5.bK a5 V (.box (gT (d:Int)).e);have b2:aF hD H (.box (gT (d:Int)).e) m=.box aj.e:=by grind [an]
  rw[stO a5]
  have k6:aS n h (aF hD H (.box (gT (d:Int)).e)):=λ Z d' G I=>by
   have h1:=k5 Z d' G I;by_cases e:Z=H
   ·subst e;exfalso;have h2:=k4 Z d' G (k3 Z d' G I);rw[t5.free]at h2;cases h2
   grind [an]
  generalize aF hD H (.box (gT (d:Int)).e)=hE at r6 b2 k6 a6;obtain⟨bs,j,vL,vB,e⟩:=r6.box;have eu:(hE n).used=true:=by rw[e];rfl
  unfold dh at e;have w1:IntKind.i64.wrap (xy q-1)=xy q-1:=by rcases uk q with h|h<;>rw[h]<;>rfl
  have w2:IntKind.i32.wrap (xy q-1)=xy q-1:=by rcases uk q with h|h<;>rw[h]<;>rfl
  simp only[↓KQ a6,↓lH eu,Nat.zero_add,Nat.reduceAdd,↓xm e (j:=7) rfl,bF,↓JT Q,↓OI,↓OH Q,↓nT,w1,↓Pu,↓jb,w2];refine zO r6 (by omega) λ o hF ho r7 k7=>?_
  have a7:=k7 H _ V a6;have b4:=k7 m _ hne b2;obtain⟨c3,j',c0,c1,e'⟩:=r7.box;have b7:(hF n).used=true:=by rw[e'];rfl
  unfold dh at e';simp only[↓KQ a7,↓lH b7,Nat.zero_add,Nat.reduceAdd,↓xm e' (j:=7) rfl,bF,↓JT Q,↓OI,↓OH Q,aa,true_and];refine L4 yW ⟨aI,trivial⟩ ?_;rw[Lz,nX];refine⟨uc rfl,?_⟩;refine Vc (x:=Gt (gT d) o q) r7 (hb.le (by have:=hb.i;omega)) λ hG r8 k8=>?_
  have a8:=k8 H _ V a7;have b1:=k8 m _ hne b4;simp only[↓KQ a8,↓stO b1,↓ldO (av _ _ _)];refine hK q d o _ Q hp hd ho (r8.bK b1 hne _) λ Z d' G I=>?_
  have h1:=k8 Z d' G (k7 Z d' G (k6 Z d' G I));by_cases ee:Z=m
  ·subst ee;rw[t0.free]at I;cases I
  grind [an]
 ·rw[bq];by_cases h3:b % 5=3
  ·have a2:(((b % 5:Nat):Int)=3)=True:=eq_true (by omega);simp only[a2,decide_true,↓gtt,↓gtf,↓gff,↓gft,↓cw];cases priv
   ·simp only[Bool.not_false,↓NB,↓af];exact⟨rfl,0,rfl,by omega,λ _=>by omega,r2,hm,a1⟩
   ·simp only[Bool.not_true,↓NB,↓ae];exact⟨rfl,b % 5,rfl,Nat.mod_lt _ (by omega),λ h=>(by cases h),r2,hm,a1⟩
  ·have a2:(((b % 5:Nat):Int)=3)=False:=eq_false (by omega);simp only[a2,decide_false,↓gtt,↓gtf,↓gff,↓gft,↓cw,↓B7,↓TR,↓ae];exact⟨rfl,b % 5,rfl,Nat.mod_lt _ (by omega),λ _=>h3,r2,hm,a1⟩
end Go.Am
namespace Go.Am
open Go
def oS (R:Int) (o:dn):Prop:=∃r:Int,0<=r/\r<R/\o=gT r
def uo (R:Int) (o:dn):Prop:=oS R o\/∃v:Int,-2147483648<=v/\v<=2147483647/\o=Const v
theorem oS.val {R:Int}{o:dn}(h:oS R o):uo R o:=Or.inl h
theorem oS.mono {R R':Int}(h:R<=R'){o:dn}(r:oS R o):oS R' o:=by obtain⟨a,b,c,d⟩:=r;exact⟨a,b,by omega,d⟩
theorem uo.mono {R R':Int}(h:R<=R'){o:dn}(r:uo R o):uo R' o:=r.imp (oS.mono h) id
theorem GF.o {o:dn}(h:GF o):uo 6 o:=by
 rcases h with⟨b,hb,rfl⟩|⟨v,h1,h2,rfl⟩
 ·exact Or.inl ⟨b,by omega,by omega,rfl⟩
 ·exact Or.inr ⟨v,by omega,by omega,rfl⟩
theorem eZ {b:Nat}(h:b<6):oS 6 (gT (b:Int)):=⟨b,by omega,by omega,rfl⟩
inductive Kh (R:Int):bj->Prop
 | mov (d a:dn) (h1:oS R d) (h2:uo R a):Kh R ⟨1,0,0,d,a,aj,aj⟩
 | un (s:Int) (d a:dn) (h0:1<=s/\s<=5) (h1:oS R d) (h2:uo R a):Kh R ⟨2,s,0,d,a,aj,aj⟩
 | bin (s:Int) (d a b:dn) (h0:10<=s/\s<=29) (h1:oS R d) (h2:uo R a) (h3:uo R b):Kh R ⟨3,s,0,d,a,b,aj⟩
 | sel (d a b c:dn) (h1:oS R d) (h2:uo R a) (h3:uo R b) (h4:uo R c):Kh R ⟨4,0,0,d,a,b,c⟩
 | id (s:Int) (d:dn) (h0:1<=s/\s<=7) (h1:oS R d):Kh R ⟨5,s,0,d,aj,aj,aj⟩
 | param (n:Int) (d:dn) (h0:0<=n/\n<3) (h1:oS R d):Kh R ⟨6,0,n,d,aj,aj,aj⟩
 | load (n:Int) (d a:dn) (h0:0<=n/\n<5) (h1:oS R d) (h2:oS R a):Kh R ⟨7,0,n,d,a,aj,aj⟩
 | store (n:Int) (a b:dn) (h0:0<=n/\n<5) (h1:oS R a) (h2:uo R b):Kh R ⟨8,0,n,aj,a,b,aj⟩
 | atom (s n:Int) (a b:dn) (hs:s=10\/s=22\/s=23\/s=17\/s=18\/s=19) (h0:0<=n/\n<5/\n≠3) (h1:oS R a) (h2:uo R b):Kh R ⟨9,s,n,aj,a,b,aj⟩
 | fence (s:Int) (h0:s=1\/s=2):Kh R ⟨10,s,0,aj,aj,aj,aj⟩
theorem Kh.mono {R R':Int}(h:R<=R'){x:bj}(i:Kh R x):Kh R' x:=by
 cases i with
 | mov d a h1 h2=>exact .mov d a (h1.mono h) (h2.mono h)
 | un s d a h0 h1 h2=>exact .un s d a h0 (h1.mono h) (h2.mono h)
 | bin s d a b h0 h1 h2 h3=>exact .bin s d a b h0 (h1.mono h) (h2.mono h) (h3.mono h)
 | sel d a b c h1 h2 h3 h4=>exact .sel d a b c (h1.mono h) (h2.mono h) (h3.mono h) (h4.mono h)
 | id s d h0 h1=>exact .id s d h0 (h1.mono h)
 | param n d h0 h1=>exact .param n d h0 (h1.mono h)
 | load n d a h0 h1 h2=>exact .load n d a h0 (h1.mono h) (h2.mono h)
 | store n a b h0 h1 h2=>exact .store n a b h0 (h1.mono h) (h2.mono h)
 | atom s n a b hs h0 h1 h2=>exact .atom s n a b hs h0 (h1.mono h) (h2.mono h)
 | fence s h0=>exact .fence s h0
def oP (R:Int) (xs:List bj):Prop:=∀(k:Nat) (x:bj),xs[k]?=some x->Kh R x/\((x.op=7\/x.op=8\/x.op=9)->∃(j:Nat) (a:dn),k=j+1/\xs[j]?=some (Gt x.a a x.n)/\uo R a)
theorem oP.nil {R:Int}:oP R []:=λ k x h=>by simp at h
theorem oP.one {R:Int}{x:bj}(i:Kh R x) (h:¬(x.op=7\/x.op=8\/x.op=9)):oP R [x]:=λ k y hy=>by
 grind
theorem oP.two {R:Int}{x y:bj}{a:dn}(hx:Kh R x) (hy:Kh R y) (he:x=Gt y.a a y.n) (ha:uo R a) (hn:¬(x.op=7\/x.op=8\/x.op=9)):oP R [x,y]:=λ k z G=>by
 match k with
 | 0=>grind
 | 1=>grind
 | k+2=>simp at G
theorem oP.append {R:Int}{xs ys:List bj}(hx:oP R xs) (hy:oP R ys):oP R (xs++ys):=λ k x h=>by
 rcases Nat.lt_or_ge k xs.length with G|G
 ·rw[List.getElem?_append_left G]at h;obtain⟨h1,h2⟩:=hx k x h;refine⟨h1,λ ho=>?_⟩;obtain⟨j,a,e,q,v⟩:=h2 ho;exact⟨j,a,e,by grind,v⟩
 ·rw[List.getElem?_append_right G]at h;obtain⟨h1,h2⟩:=hy _ x h;refine⟨h1,λ ho=>?_⟩;obtain⟨j,a,e,q,v⟩:=h2 ho;exact⟨xs.length+j,a,by omega,by grind,v⟩
theorem oP.mono {R R':Int}(h:R<=R'){xs:List bj}(x:oP R xs):oP R' xs:=λ k y hy=>by
 obtain⟨h1,h2⟩:=x k y hy;refine⟨h1.mono h,λ ho=>?_⟩;obtain⟨j,a,e,q,v⟩:=h2 ho;exact⟨j,a,e,q,v.mono h⟩
theorem Mm {d:Nat}{a:dn}{q:Nat}(hd:d<6) (ha:GF a):Kh 6 (Gt (gT (d:Int)) a (q:Int)) :=
 .bin 17 _ _ _ (by omega) (eZ hd) ha.o (Or.inr ⟨xy q-1,by grind [uk],by grind [uk],rfl⟩)
theorem lf {h:Heap}{n k:Nat}{arrs:D}{s:MS}{pre:List Block}{is:List bj}{t:Term}{z:List D}{ps:List (Nat×Nat×Arg)}{KH:HKq}(x:bj) (r:bc h n k arrs (pq s pre is t)) (hb:SR pre is 900)
  (hf:CZ z.length (ps.map λ p=>(p.1,p.2.1,p.2.2.get []))=true) (hx:D.agg (fillD z (ps.map λ p=>(p.1,p.2.1,(p.2.2.get []).cells)))=x.e)
  (hK:∀h':Heap,bc h' n k arrs (pq s pre (is++[x]) t)->aS n h h'->KH (.tup []) h') :
  ab PP (.bld z ps) h λ a h1=>ag PP aV [.ptr n 0 0,a] h1 KH:=by
 grind [nX,uc,Vc]
theorem JR {h:Heap}{n k:Nat}{arrs:D}{s:MS}{pre:List Block}{is:List bj}{t:Term}{z:List D}{ps:List (Nat×Nat×Arg)}{KH:HKq}(x:bj) (r:bc h n k arrs (pq s pre is t)) (hb:SR pre is 900)
  (hf:CZ z.length (ps.map λ p=>(p.1,p.2.1,p.2.2.get []))=true) (hx:D.agg (fillD z (ps.map λ p=>(p.1,p.2.1,(p.2.2.get []).cells)))=x.e)
  (hK:∀h':Heap,bc h' n k arrs (pq s pre (is++[x]) t)->aS n h h'->KH (.tup []) h') :
  au PP (.bld z ps) h λ a=>ag PP aV [.ptr n 0 0,a] h KH:=by
 rw[Lz];exact lf x r hb hf hx hK
set_option maxHeartbeats 1000000 in
theorem Z7 {h:Heap}{n k:Nat}{s:MS}{pre:List Block}{is:List bj}{t:Term}(r:bc h n k bF (pq s pre is t)) (hb:SR pre is 700) (hk:k<800000){KH:HKq}
  (hK:∀(xs:List bj) (h':Heap),oP 6 xs->xs.length<=2->bc h' n (k+10) bF (pq s pre (is++xs) t)->aS n h h'->KH (.tup []) h') :
  ag PP jI [.ptr n 0 0] h KH:=by
 refine aY wy (aG _ _ _) rfl (wg _ _) ?_;dsimp only[pQ,xS,yI,yL];have V:SR pre is 900:=hb.le (by have:=hb.i;omega);refine fu r (by omega) λ b0 h1 _ r1 k1=>?_
 rw[cY];refine⟨by omega,?_⟩;have b1:((b0:Int).tmod 16)=((b0 % 16:Nat):Int):=bm b0 16;rw[b1];have a1:b0 % 16<16:=Nat.mod_lt _ (by omega);generalize b0 % 16=c at a1;rw[nV];by_cases b3:c<3
 ·simp only[show((c:Int)<3)=True from eq_true (by omega),decide_true,↓af];refine fu r1 (by omega) λ b h2 _ r2 Z=>?_
  rw[cY];refine⟨by omega,?_⟩;rw[show((b:Int).tmod 7)=((b % 7:Nat):Int) from bm b 7,fv,wrap64 (by omega) (by omega)];refine GB r2 (by omega) λ d h3 hd I k3=>?_
  refine lf ⟨5,1+((b % 7:Nat):Int),0,gT d,aj,aj,aj⟩ I V rfl rfl λ h4 H k4=>?_
  exact hK _ h4 (.one (.id _ _ (by omega) (eZ hd)) (by simp)) (by simp) (H.le (by omega)) (((k1.trans Z).trans k3).trans k4)
 simp only[show((c:Int)<3)=False from eq_false (by omega),decide_false,↓ae];rw[nV];by_cases b2:c<7
 ·simp only[show((c:Int)<7)=True from eq_true (by omega),decide_true,↓af];refine fu r1 (by omega) λ b h2 _ r2 Z=>?_
  rw[cY];refine⟨by omega,?_⟩;rw[show((b:Int).tmod 20)=((b % 20:Nat):Int) from bm b 20,fv,wrap64 (by omega) (by omega)];refine GB r2 (by omega) λ d h3 hd I k3=>?_
  refine zO I (by omega) λ o h4 ho H k4=>?_
  refine zO H (by omega) λ p h5 hp r5 k5=>?_
  refine lf ⟨3,10+((b % 20:Nat):Int),0,gT d,o,p,aj⟩ r5 V rfl rfl λ h6 r6 k6=>?_
  exact hK _ h6 (.one (.bin _ _ _ _ (by omega) (eZ hd) ho.o hp.o) (by simp)) (by simp) (r6.le (by omega)) (((((k1.trans Z).trans k3).trans k4).trans k5).trans k6)
 simp only[show((c:Int)<7)=False from eq_false (by omega),decide_false,↓ae];rw[bq];by_cases h7:c=7
 ·simp only[show((c:Int)=7)=True from eq_true (by omega),decide_true,↓af];refine fu r1 (by omega) λ b h2 _ r2 Z=>?_
  rw[cY];refine⟨by omega,?_⟩;rw[show((b:Int).tmod 5)=((b % 5:Nat):Int) from bm b 5,fv,wrap64 (by omega) (by omega)];refine GB r2 (by omega) λ d h3 hd I k3=>?_
  refine zO I (by omega) λ o h4 ho H k4=>?_
  refine lf ⟨2,1+((b % 5:Nat):Int),0,gT d,o,aj,aj⟩ H V rfl rfl λ h6 r6 k6=>?_
  exact hK _ h6 (.one (.un _ _ _ (by omega) (eZ hd) ho.o) (by simp)) (by simp) (r6.le (by omega)) ((((k1.trans Z).trans k3).trans k4).trans k6)
 simp only[show((c:Int)=7)=False from eq_false (by omega),decide_false,↓ae];rw[bq];by_cases h8:c=8
 ·simp only[show((c:Int)=8)=True from eq_true (by omega),decide_true,↓af];refine GB r1 (by omega) λ d h3 hd I k3=>?_
  refine zO I (by omega) λ o h4 ho H k4=>?_
  refine zO H (by omega) λ p h5 hp r5 k5=>?_
  refine zO r5 (by omega) λ q h6 hq r6 k6=>?_
  refine lf ⟨4,0,0,gT d,o,p,q⟩ r6 V rfl rfl λ h7 G k7=>?_
  exact hK _ h7 (.one (.sel _ _ _ _ (eZ hd) ho.o hp.o hq.o) (by simp)) (by simp) (G.le (by omega)) (((((k1.trans k3).trans k4).trans k5).trans k6).trans k7)
 simp only[show((c:Int)=8)=False from eq_false (by omega),decide_false,↓ae];rw[bq];by_cases h9:c=9
 ·simp only[show((c:Int)=9)=True from eq_true (by omega),decide_true,↓af];refine GB r1 (by omega) λ d h3 hd I k3=>?_
  refine zO I (by omega) λ o h4 ho H k4=>?_
  refine lf ⟨1,0,0,gT d,o,aj,aj⟩ H V rfl rfl λ h7 G k7=>?_
  exact hK _ h7 (.one (.mov _ _ (eZ hd) ho.o) (by simp)) (by simp) (G.le (by omega)) (((k1.trans k3).trans k4).trans k7)
 simp only[show((c:Int)=9)=False from eq_false (by omega),decide_false,↓ae];rw[bq];by_cases c0:c=10
 ·simp only[show((c:Int)=10)=True from eq_true (by omega),decide_true,↓af];refine fu r1 (by omega) λ b h2 _ r2 Z=>?_
  rw[cY];refine⟨by omega,?_⟩;rw[show((b:Int).tmod 3)=((b % 3:Nat):Int) from bm b 3];refine GB r2 (by omega) λ d h3 hd I k3=>?_
  refine lf ⟨6,0,((b % 3:Nat):Int),gT d,aj,aj,aj⟩ I V rfl rfl λ h7 G k7=>?_
  exact hK _ h7 (.one (.param _ _ (by omega) (eZ hd)) (by simp)) (by simp) (G.le (by omega)) (((k1.trans Z).trans k3).trans k7)
 simp only[show((c:Int)=10)=False from eq_false (by omega),decide_false,↓ae];rw[bq];by_cases b7:c=11
 ·simp only[show((c:Int)=11)=True from eq_true (by omega),decide_true,↓af];refine fu r1 (by omega) λ b h2 _ r2 Z=>?_
  rw[cY];refine⟨by omega,?_⟩;rw[show((b:Int).tmod 2)=((b % 2:Nat):Int) from bm b 2,fv,wrap64 (by omega) (by omega)];refine lf ⟨10,1+((b % 2:Nat):Int),0,aj,aj,aj,aj⟩ r2 V rfl rfl λ h7 G k7=>?_
  exact hK _ h7 (.one (.fence _ (by omega)) (by simp)) (by simp) (G.le (by omega)) ((k1.trans Z).trans k7)
 simp only[show((c:Int)=11)=False from eq_false (by omega),decide_false,↓ae];rw[bq];by_cases b5:c=12
 ·simp only[show((c:Int)=12)=True from eq_true (by omega),decide_true,↓af];refine Q4 r1 (hb.le (by have:=hb.i;omega)) (by omega) λ q d a h2 hq hp hd ha r2 Z=>?_
  simp only[↓Xb,↓Xa];rw[gP];intro m t0;obtain⟨I,hne⟩:=r2.new t0.free (.box aj.e);have a3:=av h2 m (.box aj.e);have k3:aS n h2 (aF h2 m (.box aj.e)):=aS.new t0.free;show ab PP _ (aF h2 m (.box aj.e)) _
  have key:aS n h2 (aF (aF h2 m (.box aj.e)) m (.box (gT (d:Int)).e)):=by rw[LZ];exact aS.new t0.free
  rw[stO a3];have H:=I.bK a3 hne (.box (gT (d:Int)).e);have a4:=av (aF h2 m (.box aj.e)) m (.box (gT (d:Int)).e);generalize aF (aF h2 m (.box aj.e)) m (.box (gT (d:Int)).e)=h3 at key H a4
  have a8:∀{Q:D->Prop},au PP (.bldS false 1 6 (.int .i64 0) [(0,(.c (.int .i64 10))),(1,(.c (.int .i64 22))),(2,(.c (.int .i64 23))),(3,(.c (.int .i64 17))),(4,(.c (.int .i64 18))),(5,(.c (.int .i64 19)))]) h3 Q=Q (.sl [.int .i64 10,.int .i64 22,.int .i64 23,.int .i64 17,.int .i64 18,.int .i64 19]):=by
   intro Q;apply propext;constructor
   ·exact λ hh=>hh.2.2.2
   ·intro hq;refine⟨FD rfl,?_,by simp,hq⟩;intro p hp;simp[Arg.get]at hp;rcases hp with rfl|rfl|rfl|rfl|rfl|rfl<;>simp
  simp only[a8,↓KQ a4];refine fu H (by omega) λ b h4 _ r5 k5=>?_
  have a5:=k5 m _ hne a4;simp only[↓KQ a5,aa,true_and];rw[cY];refine⟨by omega,?_⟩;rw[show((b:Int).tmod 6)=((b % 6:Nat):Int) from bm b 6]
  obtain⟨sv,a2,a7⟩:∃sv:Int,([.int .i64 10,.int .i64 22,.int .i64 23,.int .i64 17,.int .i64 18,.int .i64 19]:List D)[b % 6]?=some (.int .i64 sv)/\(sv=10\/sv=22\/sv=23\/sv=17\/sv=18\/sv=19):=by
   grind
  have hi:∀{h:Heap}{Q:D->Prop},au PP (.iadd (.c (.sl [.int .i64 10,.int .i64 22,.int .i64 23,.int .i64 17,.int .i64 18,.int .i64 19])) (.c (.int .i64 ((b % 6:Nat):Int))) 1) h Q=Q (.vp (.int .i64 sv) 0):=by
   intro h Q;rw[gJ,Fq,aE,a2];apply propext;constructor
   ·grind
   ·intro hq;exact⟨by omega,by simp;omega,λ d hd=>by cases hd;exact⟨rfl,hq⟩⟩
  have hl:∀{h:Heap}{Q:D->Prop},au PP (.ld (.c (.vp (.int .i64 sv) 0)) 1 false) h Q=Q (.int .i64 sv):=λ {h Q}=>by rw[mc,zG,gd];rfl
  simp only[↓hi,↓hl];refine zO r5 (by omega) λ o h5 ho r6 k6=>?_
  have a6:=k6 m _ hne a5;simp only[↓hi,↓hl,↓KQ a6,aa,true_and];refine JR ⟨9,sv,q,aj,gT d,o,aj⟩ r6 (hb.le (by have:=hb.i;simp;omega)) rfl rfl λ h7 G k7=>?_
  rw[List.append_assoc]at G;exact hK _ h7 (.two (a:=a) (Mm hd ha) (.atom sv (q:Int) _ _ a7 ⟨Int.natCast_nonneg q,Int.ofNat_lt.2 hq,λ e=>hp rfl (Int.ofNat_inj.1 e)⟩ (eZ hd) ho.o) rfl ha.o (by simp[Gt])) (by simp) (G.le (by omega)) (((((k1.trans Z).trans key).trans k5).trans k6).trans k7)
 simp only[show((c:Int)=12)=False from eq_false (by omega),decide_false,↓ae];refine Q4 r1 (hb.le (by have:=hb.i;omega)) (by omega) λ q d a h2 hq hp hd ha r2 Z=>?_
 simp only[↓Xb,↓Xa];rw[gP];intro m t0;obtain⟨I,hne⟩:=r2.new t0.free (.box aj.e);have a3:=av h2 m (.box aj.e);show ab PP _ (aF h2 m (.box aj.e)) _
 have key:aS n h2 (aF (aF h2 m (.box aj.e)) m (.box (gT (d:Int)).e)):=by rw[LZ];exact aS.new t0.free
 rw[stO a3];have H:=I.bK a3 hne (.box (gT (d:Int)).e);have a4:=av (aF h2 m (.box aj.e)) m (.box (gT (d:Int)).e);generalize aF (aF h2 m (.box aj.e)) m (.box (gT (d:Int)).e)=h3 at key H a4;rw[bq];by_cases b4:c=13
 ·simp only[show((c:Int)=13)=True from eq_true (by omega),decide_true,↓af,↓KQ a4];refine GB H (by omega) λ e h4 he r5 k5=>?_
  have a5:=k5 m _ hne a4;simp only[↓KQ a5,aa,true_and];refine JR ⟨7,0,q,gT e,gT d,aj,aj⟩ r5 (hb.le (by have:=hb.i;simp;omega)) rfl rfl λ h7 G k7=>?_
  rw[List.append_assoc]at G;exact hK _ h7 (.two (a:=a) (Mm hd ha) (.load (q:Int) _ _ ⟨Int.natCast_nonneg q,Int.ofNat_lt.2 hq⟩ (eZ he) (eZ hd)) rfl ha.o (by simp[Gt])) (by simp) (G.le (by omega)) ((((k1.trans Z).trans key).trans k5).trans k7)
 ·simp only[show((c:Int)=13)=False from eq_false (by omega),decide_false,↓ae,↓KQ a4];refine zO H (by omega) λ o h4 ho r5 k5=>?_
  have a5:=k5 m _ hne a4;simp only[↓KQ a5,aa,true_and];refine JR ⟨8,0,q,aj,gT d,o,aj⟩ r5 (hb.le (by have:=hb.i;simp;omega)) rfl rfl λ h7 G k7=>?_
  rw[List.append_assoc]at G;exact hK _ h7 (.two (a:=a) (Mm hd ha) (.store (q:Int) _ _ ⟨Int.natCast_nonneg q,Int.ofNat_lt.2 hq⟩ (eZ hd) ho.o) rfl ha.o (by simp[Gt])) (by simp) (G.le (by omega)) ((((k1.trans Z).trans key).trans k5).trans k7)
theorem Iz {h:Heap}{n k:Nat}{s:MS}{pre:List Block}{is:List bj}{t:Term}(r:bc h n k bF (pq s pre is t)) (hb:SR pre is 600) (hk:k<700000){KH:HKq}
  (hK:∀(xs:List bj) (h':Heap),oP 6 xs->xs.length<=8->bc h' n (k+50) bF (pq s pre (is++xs) t)->aS n h h'->KH (.tup []) h') :
  ag PP cH [.ptr n 0 0] h KH:=by
 refine aY uy (aG _ _ _) rfl (ur _ _) ?_;unfold og;refine fu r (by omega) λ b h1 _ V k1=>?_
 rw[cY];refine⟨by omega,?_⟩;rw[show((b:Int).tmod 5)=((b % 5:Nat):Int) from bm b 5];have G:b % 5<5:=Nat.mod_lt _ (by omega);generalize b % 5=c at G;unfold lD;refine⟨λ j q h'=>j<=4/\q=[.int .i64 (j:Int)]/\∃xs:List bj,oP 6 xs/\xs.length<=2*(4-j)/\bc h' n (k+1+10*(4-j)) bF (pq s pre (is++xs) t)/\aS n h h',c,⟨by omega,rfl,[],.nil,by simp,by simpa using V.le (by omega),k1⟩,?_⟩;rintro j f h2 ⟨hj,Q,xs,hx,hl,H,I⟩;simp only[ah,and_true]at Q;rw[Q,rU];by_cases h0:0<j
 ·simp only[show((0:Int)<(j:Int))=True from eq_true (by omega),decide_true,↓af];refine Z7 H (hb.le (by have:=hb.i;simp;omega)) (by omega) λ ys h3 hy a1 r3 Z=>?_
  rw[nT,wrap64 (by omega) (by omega)];refine⟨rfl,j-1,by omega,by omega,by congr 2;omega,xs++ys,hx.append hy,by simp;omega,?_,I.trans Z⟩;grind
 ·simp only[show((0:Int)<(j:Int))=False from eq_false (by omega),decide_false,↓ae];exact hK xs h2 hx (by omega) (H.le (by omega)) I
end Go.Am
namespace Go.Am
open Go
theorem cx {P:Program}{h:Heap}{KH:HKq}{z:List D}{ps:List (Nat×Nat×Arg)}(hf:CZ z.length (ps.map λ p=>(p.1,p.2.1,p.2.2.get []))=true) :
  ab P (.bld z ps) h KH=KH (.agg (fillD z (ps.map λ p=>(p.1,p.2.1,(p.2.2.get []).cells)))) h:=by
 grind [nX,uc]
theorem nY {P:Program}{h:Heap}{K:D->Prop}{z:List D}{ps:List (Nat×Nat×Arg)}(hf:CZ z.length (ps.map λ p=>(p.1,p.2.1,p.2.2.get []))=true) :
  au P (.bld z ps) h K=K (.agg (fillD z (ps.map λ p=>(p.1,p.2.1,(p.2.2.get []).cells)))):=by
 rw[Lz,cx hf]
inductive zr (N:Nat) (R:Int):Term->Prop
 | jump (a:Nat) (h:a<N):zr N R ⟨1,0,aj,aj,aj,a,0⟩
 | branch (o:dn) (a b:Nat) (ho:oS R o) (h1:a<N) (h2:b<N):zr N R ⟨2,0,aj,o,aj,a,b⟩
 | barrier (a:Nat) (h:a<N):zr N R ⟨3,0,aj,aj,aj,a,0⟩
 | collect (s:Int) (d a b:dn) (t:Nat) (hs:1<=s/\s<=6) (hd:oS R d) (ha:uo R a) (hb:uo R b) (h:t<N):zr N R ⟨4,s,d,a,b,t,0⟩
 | exit:zr N R ⟨5,0,aj,aj,aj,0,0⟩
theorem zr.mono {N N':Nat}{R R':Int}(hN:N<=N') (hR:R<=R'){t:Term}(h:zr N R t):zr N' R' t:=by
 cases h with
 | jump a h=>exact .jump a (by omega)
 | branch o a b ho h1 h2=>exact .branch o a b (ho.mono hR) (by omega) (by omega)
 | barrier a h=>exact .barrier a (by omega)
 | collect s d a b t hs hd ha hb h=>exact .collect s d a b t hs (hd.mono hR) (ha.mono hR) (hb.mono hR) (by omega)
 | exit=>exact .exit
structure BOk (N:Nat) (R:Int) (b:Block):Prop where
 xs:oP R b.i
 len:b.i.length<=20
 t:zr N R b.t
def mX (N:Nat) (R:Int) (bs:List Block):Prop:=∀b∈bs,BOk N R b
theorem mX.mono {N N':Nat}{R R':Int}(hN:N<=N') (hR:R<=R'){bs:List Block}(h:mX N R bs):mX N' R' bs:=λ b hb=>⟨(h b hb).xs.mono hR,(h b hb).len,(h b hb).t.mono hN hR⟩
theorem mX.snoc {N:Nat}{R:Int}{bs:List Block}{b:Block}(h:mX N R bs) (hb:BOk N R b):mX N R (bs++[b]):=λ c hc=>by
 rcases List.mem_append.1 hc with hc|hc
 ·exact h c hc
 grind
theorem mX.nil {N:Nat}{R:Int}:mX N R []:=λ _ h=>by cases h
theorem mX.bnd {N:Nat}{R:Int}{bs:List Block}(h:mX N R bs) (hl:bs.length<=50){is:List bj}{M:Nat}(hi:is.length<=M):SR bs is M:=⟨hl,λ b hb=>by have:=(h b hb).len;omega,hi⟩
theorem qh {h:Heap}{n k:Nat}{arrs:D}{s:MS}{pre:List Block}{is:List bj}{t0:Term}(r:bc h n k arrs (pq s pre is t0)) :
  ∃(bs:List Nat) (j:Nat) (vL:D) (nb:Nat),h n=.box (.agg [rW bs,.int .i64 (j:Int),.int .i64 s.group,.int .i64 s.sub,.int .i64 s.regs,.int .i64 0,.int .i64 3,arrs,vL,.ms nb 0 (pre.length+1)])/\(h n).used=true/\(h nb).live=true /\
   (∀(t:Term) {KH:HKq},(∀h',bc h' n k arrs (pq s pre is t)->aS n h h'->KH .undef h') ->
    ab PP (.iadd (.c (.ms nb 0 (pre.length+1))) (.c (.int .i64 (pre.length:Int))) 14) h λ a h1=>ab PP (.fadd (.c a) 1) h1 λ b h2=>ab PP (.st (.c b) (.c t.e) 13) h2 KH) /\
   (∀(t:Term) {KH:HKq},(∀h',bc h' n k arrs (pq s pre is t)->aS n h h'->KH .undef h') ->
    au PP (.iadd (.c (.ms nb 0 (pre.length+1))) (.c (.int .i64 (pre.length:Int))) 14) h λ a=>au PP (.fadd (.c a) 1) h λ b=>ab PP (.st (.c b) (.c t.e) 13) h KH):=by
 obtain⟨bs,j,vL,nb,vs,h1,h2,h3,h4,G,I⟩:=r.some (by simp[pq]);have hl:(pq s pre is t0).blocks.length=pre.length+1:=by simp[pq]
 have Q:h n=.box (.agg [rW bs,.int .i64 (j:Int),.int .i64 s.group,.int .i64 s.sub,.int .i64 s.regs,.int .i64 0,.int .i64 3,arrs,vL,.ms nb 0 (pre.length+1)]):=by rw[h4,dh,hl];rfl
 have st:∀(t:Term) {KH:HKq},(∀h',bc h' n k arrs (pq s pre is t)->aS n h h'->KH .undef h')->ab PP (.st (.c (.ptr nb pre.length 1)) (.c t.e) 13) h KH:=by
  intro t KH H;refine WO (i:=pre.length) h1 h2 h3 h4 G I (by rw[hl];omega) λ h' r' k'=>H h' ?_ k'
  grind [Nu,pq,Gs]
 have c1:((0:Int)<=(pre.length:Int))=True:=eq_true (by omega);have c2:((pre.length:Int)<((pre.length+1:Nat):Int))=True:=eq_true (by omega);have Z:(∃els,(h nb).row=some (14,els))=True:=eq_true ⟨_,by rw[G];rfl⟩;have V:(h nb).used=true:=by rw[G];rfl
 refine⟨bs,j,vL,nb,Q,by rw[h4];rfl,by rw[G];rfl,λ t KH H=>?_,λ t KH H=>?_⟩
 ·grind [pw,QI]
 grind [gJ,pw,lH]
theorem xr {h:Heap}{n k:Nat}{arrs:D}{s:MS}{bs:List Block}(r:bc h n k arrs { s with blocks:=bs }) (hl:bs.length<=50){KH:HKq}
  (hK:∀h':Heap,bc h' n k arrs (pq s bs [] lY)->aS n h h'->KH (.tup []) h'):ag PP bt [.ptr n 0 0] h KH :=
 Xy r (by simp only;omega) λ h' r' k'=>hK h' r' k'
theorem Wg {h:Heap}{n k:Nat}{arrs:D}{s:MS}{v:Int}(r:bc h n k arrs s){KH:HKq}
  (hK:∀h':Heap,bc h' n k arrs { s with regs:=v }->aS n h h'->KH .undef h'):ab PP (.st (.c (.ptr n 0 4)) (.c (.int .i64 v)) 1) h KH:=by
 obtain⟨bs,j,vL,vB,vs,h1,h2,h3,h4,G⟩:=r.st;rw[kW,h4];refine⟨rfl,by simp,rfl,by simp[dh],?_⟩;exact hK _ ⟨bs,j,vL,vB,vs,h1,h2,h3,by rw[av];simp[dh,setCells],G.box h4 _⟩ aS.self
theorem Y6 {h:Heap}{n k:Nat}{arrs:D}{s:MS}{v:Int}(r:bc h n k arrs s){KH:HKq}
  (hK:∀h':Heap,bc h' n k arrs { s with sub:=v }->aS n h h'->KH .undef h'):ab PP (.st (.c (.ptr n 0 3)) (.c (.int .i64 v)) 1) h KH:=by
 obtain⟨bs,j,vL,vB,vs,h1,h2,h3,h4,G⟩:=r.st;rw[kW,h4];refine⟨rfl,by simp,rfl,by simp[dh],?_⟩;exact hK _ ⟨bs,j,vL,vB,vs,h1,h2,h3,by rw[av];simp[dh,setCells],G.box h4 _⟩ aS.self
theorem app_loop {h:Heap}{n k:Nat}{arrs:D}{s:MS}{l:Loop}{bytes:Nat}{z z':D}(r:bc h n k arrs s) (hl:s.loops.length<=1000) (hby:bytes<=1000){bs0:List Nat}{j0:Nat}{vL:D}{vB:D}(e:h n=.box (dh bs0 j0 arrs s vL vB)){KH:HKq}
  (hK:∀h':Heap,bc h' n k arrs { s with loops:=s.loops++[l] }->aS n h h'->KH .undef h') :
  ab PP (.bldS true 3 1 z [(0,.c l.e)]) h λ x h1=>ab PP (.app (.c vL) (.c x) 3 bytes z') h1 λ v h2=>ab PP (.fadd (.c (.ptr n 0 0)) 0) h2 λ a h3=>ab PP (.fadd (.c a) 2) h3 λ b h4=>ab PP (.fadd (.c b) 6) h4 λ c h5=>ab PP (.st (.c c) (.c v) 1) h5 KH:=by
 obtain⟨bs,j,a2,a6,vs,h1,h2,h3,h4,h5⟩:=r.st
 have ee:vL=a2/\vB=a6/\bs0=bs/\j0=j:=by
  rw[e]at h4;simp only[dh,Slot.box.injEq,D.agg.injEq,ah,D.int.injEq,and_true,true_and,rW,D.sl.injEq]at h4;obtain⟨q1,q2,q3,q4⟩:=h4;refine⟨q3,q4,?_,by omega⟩;have:=congrArg (List.map (λ d=>match d with|D.int _ i=>i.toNat|_=>0)) q1;simpa[List.map_map,Function.comp_def] using this
 obtain⟨rfl,rfl,rfl,rfl⟩:=ee
 have b2:((List.map Loop.e s.loops).length+1)*bytes<=140737488355328:=by
  rw[aH];exact Nat.le_trans (Nat.mul_le_mul (show s.loops.length+1<=1001 by omega) hby) (by omega)
 refine Fs h5.oL (Loop.b9 l) rfl b2 (by rw[aH];omega) λ m h' f1 f2 f3=>?_
 have a7:n≠m:=by grind
 have a8:n∉vL.lG:=λ hm=>by have:=tJ h5.oL hm;rw[h4]at this;cases this
 have a1:h' n=h n:=f3 n a7 a8 (by rw[h4];simp);have eu:(h' n).used=true:=by rw[a1,h4];rfl
 simp only[↓QI eu,Nat.zero_add,Nat.reduceAdd];rw[kW,a1,h4];refine⟨rfl,by simp,rfl,by simp[dh],?_⟩;have I:∀k',k'∈bP (vL::vB::vs)->h k'≠.free:=λ k' Z=>by obtain⟨e,l,G⟩:=h5.arr Z;rw[G];simp
 have H:m∉bP (vL::vB::vs):=λ hm=>I m hm f1
 have V:=h5.nd;rw[cB]at V H;simp only[List.mem_append,not_or]at H;have Q:=List.nodup_append.1 V
 have same:∀{x:Slot}(k':Nat),k'∈bP (vB::vs)->(aF h' n x) k'=h k':=by
  intro x k' Z;have b1:k'∈bP (vL::vB::vs):=by grind [cB]
  have e1:k'≠n:=by
   rintro rfl;obtain⟨e,l,G⟩:=h5.arr b1;rw[h4]at G;cases G
  grind [an]
 refine hK _ ⟨bs0,j0,.ms m 0 ((List.map Loop.e s.loops).length+1),vB,vs,h1,h2,h3,by rw[av];simp[dh,setCells],?_⟩ λ q d hq hd=>?_
 ·refine⟨Or.inr ⟨m,by simp,by grind [an]⟩,dF h5.oB λ k' q=>same k' (qi (by simp) q),h5.len,λ i v b hv hb=>dF (h5.oI i v b hv hb) λ k' q=>same k' (qi ?_ q),?_⟩
  ·grind
  ·rw[cB];exact List.nodup_cons.2 ⟨H.2,Q.2.1⟩
 ·rw[an _ _ hq];have e2:q≠m:=by grind
  have e3:q∉vL.lG:=λ hm=>by have:=tJ h5.oL hm;rw[hd]at this;cases this
  grind
structure M4 (h:Heap) (n k:Nat) (arrs:D) (s:MS) (vL vB:D):Prop where
 st:∃(bs:List Nat) (j:Nat) (vs:List D),(∀b∈bs,b<=255)/\bs.length<=9223372036854775807/\j<=k/\h n=.box (dh bs j arrs s vL vB)/\Rows h s.loops s.blocks vL vB vs
theorem M4.rel {h:Heap}{n k:Nat}{arrs:D}{s:MS}{vL vB:D}(r:M4 h n k arrs s vL vB):bc h n k arrs s:=by
 obtain⟨bs,j,vs,h1,h2,h3,h4,G⟩:=r.st;exact⟨bs,j,vL,vB,vs,h1,h2,h3,h4,G⟩
theorem bc.v {h:Heap}{n k:Nat}{arrs:D}{s:MS}(r:bc h n k arrs s):∃vL vB,M4 h n k arrs s vL vB:=by
 obtain⟨bs,j,vL,vB,vs,h1,h2,h3,h4,G⟩:=r.st;exact⟨vL,vB,bs,j,vs,h1,h2,h3,h4,G⟩
theorem M4.new {h:Heap}{n k:Nat}{arrs:D}{s:MS}{vL vB:D}(r:M4 h n k arrs s vL vB){m:Nat}(hm:h m=.free) (x:Slot):M4 (aF h m x) n k arrs s vL vB/\m≠n:=by
 obtain⟨bs,j,vs,h1,h2,h3,h4,G⟩:=r.st;have hne:n≠m:=by grind
 exact⟨⟨bs,j,vs,h1,h2,h3,by grind [an],G.free hm x⟩,hne.symm⟩
theorem M4.bK {h:Heap}{n k:Nat}{arrs:D}{s:MS}{vL vB:D}(r:M4 h n k arrs s vL vB){m:Nat}{d:D}(hm:h m=.box d) (hne:m≠n) (x:Slot):M4 (aF h m x) n k arrs s vL vB:=by
 obtain⟨bs,j,vs,h1,h2,h3,h4,G⟩:=r.st;exact⟨bs,j,vs,h1,h2,h3,by grind [an],G.box hm x⟩
theorem M4.le {h:Heap}{n k k':Nat}{arrs:D}{s:MS}{vL vB:D}(r:M4 h n k arrs s vL vB) (hk:k<=k'):M4 h n k' arrs s vL vB:=by
 obtain⟨bs,j,vs,h1,h2,h3,h4,G⟩:=r.st;exact⟨bs,j,vs,h1,h2,by omega,h4,G⟩
theorem Da {h:Heap}{n k:Nat}{arrs:D}{s:MS}{vL vB:D}(r:M4 h n k arrs s vL vB) (hk:k<1000000){KH:HKq}(hK:∀(b:Nat) (h':Heap),b<=255->M4 h' n (k+1) arrs s vL vB->aS n h h'->KH (.int .i64 (b:Int)) h') :
  ag PP aw [.ptr n 0 0] h KH:=by
 obtain⟨bs,j,vs,h1,h2,h3,h4,G⟩:=r.st;refine MO h4 h1 h2 (by omega) λ b hb=>hK b _ hb ⟨bs,j+1,vs,h1,h2,by omega,av _ _ _,G.box h4 _⟩ aS.self
theorem PI {vL vB:D}{h:Heap}{n k:Nat}{arrs:D}{s:MS}(r:M4 h n k arrs s vL vB) (hk:k<1000000){KH:HKq}(hK:∀(b:Nat) (h':Heap),b<6->M4 h' n (k+1) arrs s vL vB->aS n h h'->KH (gT (b:Int)).e h') :
  ag PP bh [.ptr n 0 0] h KH:=by
 refine aY mV (aG _ _ _) rfl (mN _ _) ?_;dsimp only[lC,xL,xS];rw[gP];intro m t;obtain⟨V,hne⟩:=r.new t.free (.box (.agg [(.int .i64 0),(.int .i64 0),(.int .i32 0)]));refine Da V hk λ b h' hb Q G=>?_
 have hm:=G m _ hne (av _ _ _);have e6:((b:Int).tmod 6)=((b % 6:Nat):Int):=bm b 6;rw[cY];refine⟨by omega,?_⟩;rw[e6];refine gN uD ⟨aI,trivial⟩ ?_;simp only[↓kW,hm];refine⟨by first|rfl|trivial,(dn.b9 _).one,by first|rfl|trivial,by simp,?_⟩;have H:setCells (.agg [(.int .i64 0),(.int .i64 0),(.int .i32 0)]) 0 (gT ((b % 6:Nat):Int)).e.cells=(gT ((b % 6:Nat):Int)).e:=rfl;rw[H];simp only[↓zh,av,true_and];refine⟨by simp[dn.e,dn.cs],?_⟩;refine hK (b % 6) _ (Nat.mod_lt _ (by omega)) (Q.bK hm hne _) λ q d Z hd=>?_
 have I:q≠m:=by rintro rfl;rw[t.free]at hd;cases hd
 rw[an _ _ I];exact G q d Z (by grind [an])
theorem Va {vL vB:D}{h:Heap}{n k:Nat}{arrs:D}{s:MS}(r:M4 h n k arrs s vL vB) (hk:k<1000000){KH:HKq}(hK:∀(o:dn) (h':Heap),GF o->M4 h' n (k+1) arrs s vL vB->aS n h h'->KH o.e h') :
  ag PP bg [.ptr n 0 0] h KH:=by
 refine aY mT (aG _ _ _) rfl (mL _ _) ?_;dsimp only[lB,xC,xL,xS];rw[gP];intro m t;obtain⟨r1,hne⟩:=r.new t.free (.box (.agg [(.int .i64 0),(.int .i64 0),(.int .i32 0)]));refine Da r1 hk λ b h' hb Z G=>?_
 have hm:=G m _ hne (av _ _ _)
 have fin:∀o:dn,GF o->ab PP (.st (.c (.ptr m 0 0)) (.c o.e) 3) h' λ _ h1=>ab PP (.ld (.c (.ptr m 0 0)) 3 true) h1 λ a _=>KH a h1:=by
  intro o ho;simp only[↓kW,hm];refine⟨by first|rfl|trivial,(dn.b9 _).one,by first|rfl|trivial,by simp[dn.e,dn.cs],?_⟩;have I:setCells (.agg [(.int .i64 0),(.int .i64 0),(.int .i32 0)]) 0 o.e.cells=o.e:=rfl;rw[I];simp only[↓zh,av,true_and];refine⟨by simp[dn.e,dn.cs],?_⟩;refine hK o _ ho (Z.bK hm hne _) λ q d hq hd=>?_
  have Q:q≠m:=by rintro rfl;rw[t.free]at hd;cases hd
  rw[an _ _ Q];exact G q d hq (by grind [an])
 have e3:((b:Int).tmod 3)=((b % 3:Nat):Int):=bm b 3
 have d3:IntKind.i64.wrap ((b:Int).tdiv 3)=((b / 3:Nat):Int):=by
  grind [wrap64]
 rw[cY];refine⟨by omega,?_⟩;rw[e3,bq];by_cases hc:b % 3=0
 ·have H:((b % 3:Nat):Int)=0:=by omega
  simp only[H,decide_true,af,↓Nm];refine⟨by omega,?_⟩;have w:IntKind.i32.wrap ((b / 3:Nat):Int)=((b / 3:Nat):Int):=by grind [IntKind.wrap,IntKind.bits]
  have V:IntKind.i32.wrap (((b / 3:Nat):Int)-20)=((b / 3:Nat):Int)-20:=by grind [IntKind.wrap,IntKind.signed,IntKind.bits]
  rw[d3,jb,w,nT,V];refine gN yW ⟨aI,trivial⟩ ?_;exact fin _ (Or.inr ⟨_,by omega,by omega,rfl⟩)
 ·have H:¬((b % 3:Nat):Int)=0:=by omega
  simp only[H,decide_false,ae,↓Nm];refine⟨by omega,?_⟩;rw[d3,cY];refine⟨by omega,?_⟩;have e6:(((b / 3:Nat):Int).tmod 6)=((b / 3 % 6:Nat):Int):=bm (b / 3) 6;rw[e6];refine gN uD ⟨aI,trivial⟩ ?_;exact fin _ (Or.inl ⟨b / 3 % 6,Nat.mod_lt _ (by omega),rfl⟩)
theorem gp {h:Heap}{n k:Nat}{arrs:D}{s:MS}{pre:List Block}{is:List bj}{t0:Term}{vL vB:D}(r:M4 h n k arrs (pq s pre is t0) vL vB) :
  ∃(bs:List Nat) (j:Nat) (nb:Nat),vB=.ms nb 0 (pre.length+1)/\h n=.box (.agg [rW bs,.int .i64 (j:Int),.int .i64 s.group,.int .i64 s.sub,.int .i64 s.regs,.int .i64 0,.int .i64 3,arrs,vL,vB])/\(h n).used=true /\
   (∀(t:Term) {KH:HKq},(∀h',bc h' n k arrs (pq s pre is t)->aS n h h'->KH .undef h') ->
    au PP (.iadd (.c vB) (.c (.int .i64 (pre.length:Int))) 14) h λ a=>au PP (.fadd (.c a) 1) h λ b=>ab PP (.st (.c b) (.c t.e) 13) h KH):=by
 obtain⟨bs,j,vs,h1,h2,h3,h4,h5⟩:=r.st;obtain⟨a1,j',Q,G,H,Z,-,-,st⟩:=qh r.rel;rw[h4]at H;simp only[dh,Slot.box.injEq,D.agg.injEq,ah,and_true]at H;obtain⟨q1,-,-,-,-,-,-,-,q3,I⟩:=H;refine⟨bs,j,G,I,by rw[h4];rfl,Z,λ t KH V=>?_⟩;rw[I];exact st t V
theorem Qy {esz:Nat}{h:Heap}{v:D}{els:List D}(ho:Own esz h v els){K:D->Prop}:aM v h K=K (.int .i64 (els.length:Int)):=by
 rcases ho with⟨rfl,rfl⟩|⟨m,rfl,hm⟩
 ·rfl
 grind [bH,Slot.live]
theorem Qs {h:Heap}{n k:Nat}{arrs:D}{s:MS}(r:bc h n k arrs s):∃(bs:List Nat) (j:Nat) (vL vB:D),
  h n=.box (dh bs j arrs s vL vB)/\(h n).used=true/\(∀K:D->Prop,aM vL h K=K (.int .i64 (s.loops.length:Int))):=by
 obtain⟨bs,j,vL,vB,vs,h1,h2,h3,h4,G⟩:=r.st;exact⟨bs,j,vL,vB,h4,by rw[h4];rfl,λ K=>by rw[Qy G.oL,aH]⟩
def Pf (s:MS) (hd:Nat) (b:Int):MS:={ s with regs:=6+2*(s.loops.length:Int)+2,loops:=s.loops++[⟨(hd:Int),6+2*(s.loops.length:Int),b⟩] }
set_option maxHeartbeats 2000000 in
theorem Z6 {h:Heap}{n k:Nat}{s:MS}{pre:List Block}{is:List bj}{t:Term}(r:bc h n k bF (pq s pre is t)) (hA:mX (pre.length+1) s.regs pre) (hX:oP s.regs is) (hi:is.length<=10) (hp:pre.length<=40)
  (hq:s.loops.length<=10) (hR:s.regs=6+2*(s.loops.length:Int)) (hk:k<600000) {KH:HKq}
  (hK:∀(b:Int) (bs:List Block) (h':Heap),1<=b->b<=3->bs.length=pre.length+3->mX (pre.length+4) (s.regs+2) bs->bc h' n (k+100) bF { Pf s (pre.length+1) b with blocks:=bs }->aS n h h'->KH (.tup []) h') :
  ag PP dM [.ptr n 0 0] h KH:=by
 refine aY wx (aG _ _ _) rfl (v8 _ _) ?_;dsimp only[pP,xC,xF,xI,xL,xS,yF,yI,yL];obtain⟨u3,j0,e6,p4,e0,l6,l8⟩:=Qs r;unfold dh at e0;have c8:∀K:D->Prop,aM e6 h K=K (.int .i64 (s.loops.length:Int)):=l8;generalize c2:s.loops.length=q at *;simp only[↓QI l6,Nat.zero_add,Nat.reduceAdd,↓RM e0 (j:=8) rfl,c8];rw[K3,wrap64 (by omega) (by omega),fv,wrap64 (by omega) (by omega)];refine fu r (by omega) λ b h1 _ r1 k1=>?_
 rw[cY];refine⟨by omega,?_⟩;rw[show((b:Int).tmod 3)=((b % 3:Nat):Int) from bm b 3,fv,wrap64 (by omega) (by omega),fv,wrap64 (by omega) (by omega)];have r0:b % 3<3:=Nat.mod_lt _ (by omega);generalize q9:1+((b % 3:Nat):Int)=G;have a7:1<=G:=by omega
 have a6:G<=3:=by omega
 obtain⟨-,-,-,-,-,l5,-⟩:=Qs r1;simp only[↓QI l5,Nat.zero_add,Nat.reduceAdd];refine Wg (v:=6+2*(q:Int)+2) r1 λ h2 r2 k2=>?_
 have r2:bc h2 n (k+1) bF (pq { s with regs:=6+2*(q:Int)+2 } pre is t):=r2;obtain⟨u2,j2,p2,q2,e2,l4,g3,-,-⟩:=qh r2;simp only[↓QI l4,Nat.zero_add,Nat.reduceAdd,↓RM e2 (j:=9) rfl,↓bH,g3,true_and];refine gN uD ⟨aI,trivial⟩ ?_;refine gN yW ⟨aI,trivial⟩ ?_;have j8:∀{c1:List bj},c1.length<=900->SR pre c1 900:=λ hh=>hA.bnd (by omega) hh
 refine lf ⟨1,0,0,gT (6+2*(q:Int)),Const 0,aj,aj⟩ r2 (j8 (by omega)) rfl rfl λ h3 r3 k3=>?_
 obtain⟨u1,j3,p1,q1,e3,l3,q4,Yh,-⟩:=qh r3;simp only[↓QI l3,Nat.zero_add,Nat.reduceAdd,↓RM e3 (j:=9) rfl];rw[nT,wrap64 (by omega) (by omega),cx rfl,cx rfl,show((pre.length+1:Nat):Int)-1=(pre.length:Int) by omega];refine Yh ⟨1,0,aj,aj,aj,((pre.length+1:Nat):Int),0⟩ λ h4 r4 k4=>?_
 have g5:=(((k1.trans k2).trans k3).trans k4)
 refine⟨λ qs h'=>qs=[.ptr n 0 0,.int .i64 (6+2*(q:Int)),.int .i64 G,.int .i64 ((pre.length+1:Nat):Int)] /\
  bc h' n (k+1) bF (pq (Pf s (pre.length+1) G) pre (is++[⟨1,0,0,gT (6+2*(q:Int)),Const 0,aj,aj⟩]) ⟨1,0,aj,aj,aj,((pre.length+1:Nat):Int),0⟩)/\aS n h h',?_,?_⟩
 ·rintro f h5 ⟨hf,r5,k5⟩;simp only[ah,and_true]at hf;obtain⟨f0,f2,f3,f4⟩:=hf;rw[f0,f2,f3,f4];clear Yh e3 e2 e0;have n1:(Pf s (pre.length+1) G).regs=s.regs+2:=by simp only[Pf,c2];omega
  have rn:oS (s.regs+2) (gT (6+2*(q:Int))):=⟨_,by omega,by omega,rfl⟩;have b4:oS (s.regs+2) (gT (6+2*(q:Int)+1)):=⟨_,by omega,by omega,rfl⟩;obtain⟨B1,b2⟩:∃B:Block,B=⟨is++[⟨1,0,0,gT (6+2*(q:Int)),Const 0,aj,aj⟩],⟨1,0,aj,aj,aj,((pre.length+1:Nat):Int),0⟩⟩:=⟨_,rfl⟩
  have A1:mX (pre.length+4) (s.regs+2) (pre++[B1]):=(hA.mono (by omega) (by omega)).snoc (by
   rw[b2]
   exact⟨(hX.mono (by omega)).append (.one (.mov _ _ rn (Or.inr ⟨0,by omega,by omega,rfl⟩)) (by simp)),by simp;omega,.jump (pre.length+1) (by omega)⟩)
  have b7:bc h5 n (k+1) bF { Pf s (pre.length+1) G with blocks:=pre++[B1] }:=by rw[b2];exact r5
  have l1:(pre++[B1]).length=pre.length+1:=by simp
  clear b2 r5;generalize pre++[B1]=I at A1 b7 l1;refine xr b7 (by omega) λ h6 r6 k6=>?_
  rw[fv,wrap64 (by omega) (by omega)];refine gN uD ⟨aI,trivial⟩ ?_;refine gN uD ⟨aI,trivial⟩ ?_;rw[jb,show IntKind.i32.wrap G=G by grind [IntKind.wrap,IntKind.bits]];refine gN yW ⟨aI,trivial⟩ ?_;refine lf ⟨3,26,0,gT (6+2*(q:Int)+1),gT (6+2*(q:Int)),Const G,aj⟩ r6 (A1.bnd (by omega) (by simp)) rfl rfl λ h7 r7 k7=>?_
  obtain⟨s6,j7,o3,q0,e7,k0,q3,-,a8⟩:=qh r7;simp only[↓lH k0,Nat.zero_add,Nat.reduceAdd,↓xm e7 (j:=9) rfl];rw[fv,wrap64 (by omega) (by omega)];refine L4 uD ⟨aI,trivial⟩ ?_;rw[fv,wrap64 (by omega) (by omega),fv,wrap64 (by omega) (by omega),nY rfl,nY rfl];rw[l1]at a8 ⊢;refine a8 ⟨2,0,aj,gT (6+2*(q:Int)+1),aj,((pre.length+1:Nat):Int)+1,((pre.length+1:Nat):Int)+2⟩ λ h8 r8 k8=>?_
  obtain⟨B2,b1⟩:∃B:Block,B=⟨[]++[⟨3,26,0,gT (6+2*(q:Int)+1),gT (6+2*(q:Int)),Const G,aj⟩],⟨2,0,aj,gT (6+2*(q:Int)+1),aj,((pre.length+1:Nat):Int)+1,((pre.length+1:Nat):Int)+2⟩⟩:=⟨_,rfl⟩
  have A2:mX (pre.length+4) (s.regs+2) (I++[B2]):=A1.snoc (by
   rw[b1]
   exact⟨.one (.bin _ _ _ _ (by omega) b4 rn.val (Or.inr ⟨G,by omega,by omega,rfl⟩)) (by simp),by simp,.branch _ (pre.length+2) (pre.length+3) b4 (by omega) (by omega)⟩)
  have b5:bc h8 n (k+1) bF { Pf s (pre.length+1) G with blocks:=I++[B2] }:=by rw[b1];exact r8
  have l2:(I++[B2]).length=pre.length+2:=by simp;omega
  clear b1 r8 a8 e7;generalize I++[B2]=a2 at A2 b5 l2;refine xr b5 (by omega) λ h9 r9 k9=>?_
  refine gN uD ⟨aI,trivial⟩ ?_;refine gN uD ⟨aI,trivial⟩ ?_;refine gN yW ⟨aI,trivial⟩ ?_;refine lf ⟨3,10,0,gT (6+2*(q:Int)),gT (6+2*(q:Int)),Const 1,aj⟩ r9 (A2.bnd (by omega) (by simp)) rfl rfl λ s5 g2 j5=>?_
  refine Iz g2 (A2.bnd (by omega) (by simp)) (by omega) λ xs s4 j6 q8 g1 j1=>?_
  obtain⟨o2,q7,m2,m6,e5,c7,n0,Q,-⟩:=qh g1;simp only[↓QI c7,Nat.zero_add,Nat.reduceAdd,↓RM e5 (j:=9) rfl];rw[fv,wrap64 (by omega) (by omega),cx rfl,cx rfl];rw[l2]at Q ⊢;rw[show((pre.length+1:Nat):Int)+1=((pre.length+2:Nat):Int) by omega];refine Q ⟨1,0,aj,aj,aj,((pre.length+1:Nat):Int),0⟩ λ s3 c0 g8=>?_
  clear Q e5
  have V:oP (s.regs+2) ([]++[⟨3,10,0,gT (6+2*(q:Int)),gT (6+2*(q:Int)),Const 1,aj⟩]++xs) :=
   (oP.one (.bin _ _ _ _ (by omega) rn rn.val (Or.inr ⟨1,by omega,by omega,rfl⟩)) (by simp)).append (j6.mono (by omega))
  have Z:([]++[⟨3,10,0,gT (6+2*(q:Int)),gT (6+2*(q:Int)),Const 1,aj⟩]++xs:List bj).length<=20:=by simp;omega
  generalize ([]++[⟨3,10,0,gT (6+2*(q:Int)),gT (6+2*(q:Int)),Const 1,aj⟩]++xs:List bj)=ys at V Z c0;have kk:=((((((k5.trans k6).trans k7).trans k8).trans k9).trans j5).trans j1).trans g8;refine⟨λ qs h'=>∃c:Bool,qs=[.ptr n 0 0,.int .i64 ((pre.length+1:Nat):Int),.bool c]/\bc h' n (k+52) bF (pq (Pf s (pre.length+1) G) a2 ys ⟨1,0,aj,aj,aj,((pre.length+1:Nat):Int),0⟩)/\aS n h h',?_,?_⟩
  ·rintro g c3 ⟨c,hg,H,a1⟩;simp only[ah,and_true]at hg;obtain⟨g0,g4,c4⟩:=hg;rw[g0,g4,c4]
   cases c with
   | false =>
    rw[ae];exact hK G _ c3 a7 a6 (by simp;omega) (A2.snoc ⟨V,Z,.jump (pre.length+1) (by omega)⟩) (H.le (by omega)) a1
   | true =>
    rw[af];obtain⟨m1,m3,H⟩:=H.v;obtain⟨o1,q6,m5,n4,m0,c6,-⟩:=gp H;simp only[↓lH c6,Nat.zero_add,Nat.reduceAdd,↓xm m0 (j:=9) rfl];rw[fv,wrap64 (by omega) (by omega),fv,wrap64 (by omega) (by omega),nY rfl];refine PI H (by omega) λ d s0 hd e9 g7=>?_
    obtain⟨o0,q5,m4,n3,l9,c5,b3⟩:=gp e9;simp only[↓lH c5,Nat.zero_add,Nat.reduceAdd,↓xm l9 (j:=9) rfl,aa,true_and];rw[nY rfl,show((pre.length+1:Nat):Int)+1=(a2.length:Int) by omega];refine b3 ⟨2,0,aj,gT d,aj,((pre.length+1:Nat):Int),((pre.length+1:Nat):Int)+2⟩ λ j9 e8 g6=>?_
    exact hK G _ j9 a7 a6 (by simp;omega) (A2.snoc ⟨V,Z,.branch (gT d) (pre.length+1) (pre.length+3) ((eZ hd).mono (by omega)) (by omega) (by omega)⟩) (e8.le (by omega)) ((a1.trans g7).trans g6)
  ·refine fu c0 (by omega) λ b' c3 _ H a1=>?_
   rw[cY];refine⟨by omega,?_⟩;rw[bq];exact⟨rfl,_,rfl,H.le (by omega),kk.trans a1⟩
 ·obtain⟨u0,j4,p0,p3,e4,l0,-⟩:=Qs r4;have e1:=e4;unfold dh at e1;simp only[↓QI l0,Nat.zero_add,Nat.reduceAdd,↓RM e1 (j:=8) rfl];rw[cx rfl];refine app_loop (l:=⟨((pre.length+1:Nat):Int),6+2*(q:Int),G⟩) r4 (by simp only[pq];omega) (by omega) e4 λ h5 r5 k5=>?_
  refine⟨by first|rfl|trivial,by first|rfl|trivial,?_,g5.trans k5⟩;have:Pf s (pre.length+1) G={ s with regs:=6+2*(q:Int)+2,loops:=s.loops++[⟨((pre.length+1:Nat):Int),6+2*(q:Int),G⟩] }:=by rw[Pf,c2]
  rw[this];exact r5
end Go.Am
namespace Go.Am
open Go
set_option maxHeartbeats 2000000 in
theorem On {h:Heap}{n k m:Nat}{s:MS}{bs:List Block}(r:bc h n k bF { s with blocks:=bs }) (hA:mX (bs.length+1) s.regs bs) (hl:bs.length<=40) (hR:6<=s.regs) (hm:m<=2) (hk:k<500000){KH:HKq}
  (hK:∀(pre:List Block) (is:List bj) (h':Heap),pre.length=bs.length+m->mX (pre.length+1) s.regs pre->oP 6 is->is.length<=8->bc h' n (k+300) bF (pq s pre is lY)->aS n h h'->KH (.tup []) h') :
  ag PP fc [.ptr n 0 0,.int .i64 (m:Int)] h KH:=by
 refine aY tu (aG _ _ _) rfl (sN _ _ _) ?_;dsimp only[mM,xF,xL];refine xr r (by omega) λ h1 r1 k1=>?_
 obtain⟨j0,j1,c0,c7,e1,b4,a2,-,-⟩:=qh r1;simp only[↓QI b4,Nat.zero_add,Nat.reduceAdd,↓RM e1 (j:=9) rfl,↓bH,a2,true_and];rw[nT,wrap64 (by omega) (by omega),fv,wrap64 (by omega) (by omega),show((bs.length+1:Nat):Int)-1=(bs.length:Int) by omega];refine⟨λ V h'=>V=[]/\∃pre:List Block,pre.length=bs.length+m/\mX (pre.length+1) s.regs pre/\bc h' n (k+200) bF (pq s pre [] lY)/\aS n h h',?_,?_⟩
 ·rintro f h2 ⟨-,pre,H,G,r2,k2⟩;refine Iz r2 (G.bnd (by omega) (by simp)) (by omega) λ xs h3 hx a1 r3 k3=>?_
  exact hK pre xs h3 H G hx a1 (r3.le (by omega)) (k2.trans k3)
 ·dsimp only[kf,xF,xI,xL,xS,yF,yI,yL];refine⟨λ j V h'=>j<=m/\V=[.int .i64 ((bs.length+(m-j):Nat):Int)]/\∃pre:List Block,pre.length=bs.length+(m-j)/\mX (bs.length+m+1) s.regs pre/\bc h' n (k+80*(m-j)) bF (pq s pre [] lY)/\aS n h h',m,⟨Nat.le_refl _,by simp,bs,by simp,hA.mono (by omega) (by omega),by simpa using r1,k1⟩,?_⟩;rintro j f h2 ⟨hj,hq,pre,H,G,r2,k2⟩;simp only[ah,and_true]at hq;rw[hq,nV,show(bs.length:Int)+(m:Int)=((bs.length+m:Nat):Int) by omega];by_cases h0:0<j
  ·simp only[show(((bs.length+(m-j):Nat):Int)<((bs.length+m:Nat):Int))=True from eq_true (by omega),decide_true,↓af];refine Iz r2 (G.bnd (by omega) (by simp)) (by omega) λ xs h3 hx a1 r3 k3=>?_
   rw[List.nil_append]at r3;obtain⟨g8,j3,b7,c6,e3,b3,c8,Yh,-⟩:=qh r3;simp only[↓QI b3,Nat.zero_add,Nat.reduceAdd,↓RM e3 (j:=9) rfl];rw[fv,wrap64 (by omega) (by omega),cx rfl,cx rfl];rw[show((bs.length+(m-j):Nat):Int)+1=((bs.length+(m-j)+1:Nat):Int) by omega];rw[H]at Yh ⊢;refine Yh ⟨1,0,aj,aj,aj,((bs.length+(m-j)+1:Nat):Int),0⟩ λ h4 r4 k4=>?_
   clear Yh e3;have Z:=(k2.trans k3).trans k4;refine⟨λ V h'=>V=[]/\∃T:Term,zr (bs.length+m+1) s.regs T/\bc h' n (k+80*(m-j)+60) bF (pq s pre xs T)/\aS n h h',?_,?_⟩
   ·rintro g h5 ⟨-,T,hT,I,k5⟩;have A5:mX (bs.length+m+1) s.regs (pre++[⟨xs,T⟩]):=G.snoc ⟨hx.mono hR,by simp only;omega,hT⟩;refine xr (bs:=pre++[⟨xs,T⟩]) I (by simp;omega) λ h6 r6 k6=>?_
    rw[fv,wrap64 (by omega) (by omega)];refine⟨rfl,j-1,by omega,by omega,?_,pre++[⟨xs,T⟩],by simp;omega,A5,r6.le (by omega),k5.trans k6⟩;congr 2;omega
   ·refine fu r4 (by omega) λ b h5 _ I k5=>?_
    rw[cY];refine⟨by omega,?_⟩;rw[show((b:Int).tmod 2)=((b % 2:Nat):Int) from bm b 2,bq];by_cases e9:b % 2=0
    ·simp only[show(((b % 2:Nat):Int)=0)=True from eq_true (by omega),decide_true,↓af];obtain⟨b5,c1,I⟩:=I.v;obtain⟨g7,j5,c5,g3,e5,b2,-⟩:=gp I;simp only[↓lH b2,Nat.zero_add,Nat.reduceAdd,↓xm e5 (j:=9) rfl];rw[fv,wrap64 (by omega) (by omega),nT,wrap64 (by omega) (by omega),fv,wrap64 (by omega) (by omega),nT,wrap64 (by omega) (by omega)];refine PI I (by omega) λ d h6 hd r6 k6=>?_
     obtain⟨g6,j6,c4,g2,e6,b1,-⟩:=gp r6;simp only[↓lH b1,Nat.zero_add,Nat.reduceAdd,↓xm e6 (j:=9) rfl,aa,true_and];refine Da r6 (by omega) λ x h7 _ r7 k7=>?_
     obtain⟨g5,j7,c3,g1,e7,a8,-⟩:=gp r7;simp only[↓lH a8,Nat.zero_add,Nat.reduceAdd,↓xm e7 (j:=9) rfl,aa,true_and];rw[cY];refine⟨by omega,?_⟩;rw[show((bs.length+m:Nat):Int)-((bs.length+(m-j):Nat):Int)=(j:Int) by omega,show((x:Int).tmod (j:Int))=((x % j:Nat):Int) from bm x j];have e4:x % j<j:=Nat.mod_lt _ h0;rw[fv,wrap64 (by omega) (by omega)];refine Da r7 (by omega) λ y h8 _ r8 k8=>?_
     obtain⟨g4,j8,c2,g0,e8,a7,Q⟩:=gp r8;simp only[↓lH a7,Nat.zero_add,Nat.reduceAdd,↓xm e8 (j:=9) rfl,aa,true_and];rw[cY];refine⟨by omega,?_⟩;rw[show((y:Int).tmod (j:Int))=((y % j:Nat):Int) from bm y j];have e0:y % j<j:=Nat.mod_lt _ h0;rw[fv,wrap64 (by omega) (by omega),nY rfl,nY rfl];rw[H]at Q;refine Q ⟨2,0,aj,gT d,aj,((bs.length+(m-j):Nat):Int)+1+((x % j:Nat):Int),((bs.length+(m-j):Nat):Int)+1+((y % j:Nat):Int)⟩ λ h9 r9 k9=>?_
     try simp only[aa,true_and]
     refine⟨_,?_,r9.le (by omega),((((Z.trans k5).trans k6).trans k7).trans k8).trans k9⟩;have e1:((bs.length+(m-j):Nat):Int)+1+((x % j:Nat):Int)=((bs.length+(m-j)+1+x % j:Nat):Int):=by omega
     have e2:((bs.length+(m-j):Nat):Int)+1+((y % j:Nat):Int)=((bs.length+(m-j)+1+y % j:Nat):Int):=by omega
     rw[e1,e2];exact .branch _ _ _ ((eZ hd).mono hR) (by omega) (by omega)
    ·simp only[show(((b % 2:Nat):Int)=0)=False from eq_false (by omega),decide_false,↓ae]
     try simp only[aa,true_and]
     exact⟨_,.jump _ (by omega),I.le (by omega),Z.trans k5⟩
  ·simp only[show(((bs.length+(m-j):Nat):Int)<((bs.length+m:Nat):Int))=False from eq_false (by omega),decide_false,↓ae];have a6:j=0:=by omega
   subst a6
   try simp only[aa,true_and]
   exact⟨pre,by omega,by grind,r2.le (by omega),k2⟩
end Go.Am
namespace Go.Am
open Go
theorem Mf {esz:Nat}{h:Heap}{v:D}{els:List D}(ho:Own esz h v els) (hv:∀x∈els,∀y∈x.cells,y.vone=true):p6 h v/\(v.fzc h).vone=true/\v.one=true/\Wk (v.fzc h) (.sl els):=by
 rcases ho with⟨rfl,rfl⟩|⟨m,rfl,hm⟩
 ·exact⟨trivial,rfl,rfl,.nil⟩
 ·have G:(h m).row=some (esz,els):=by rw[hm];rfl
  have e:(D.ms m 0 els.length).fzc h=.sl els:=by simp[D.fzc,G]
  exact⟨⟨esz,els,G,by simp,λ x hx=>hv x (by simpa using hx)⟩,by rw[e];rfl,rfl,by rw[e];exact .refl _⟩
theorem Ju {l:List bj}:∀x,x∈l.map bj.e->∀y∈x.cells,y.vone=true:=by
 intro x hx y hy;obtain⟨a,-,rfl⟩:=List.mem_map.1 hx;simp[bj.e,bj.cs]at hy;rcases hy with rfl|rfl|rfl|rfl|rfl|rfl|rfl|rfl|rfl|rfl|rfl|rfl|rfl|rfl|rfl<;>rfl
theorem Ph {l:List Loop}:∀x,x∈l.map Loop.e->∀y∈x.cells,y.vone=true:=by
 intro x hx y hy;obtain⟨a,-,rfl⟩:=List.mem_map.1 hx;simp[Loop.e]at hy;rcases hy with rfl|rfl|rfl<;>rfl
theorem rX {t:Term}:∀x∈t.cs,x.vone=true/\x.lG=[]/\(∀h,x.fzc h=x/\p6 h x):=by
 intro x hx;simp[Term.cs]at hx;rcases hx with rfl|rfl|rfl|rfl|rfl|rfl|rfl|rfl|rfl|rfl|rfl|rfl|rfl<;>exact⟨rfl,rfl,λ h=>⟨rfl,trivial⟩⟩
theorem Qf {t:Term}{h:Heap}:t.cs.map (D.fzc h)=t.cs:=by
 rw[List.map_congr_left (λ x hx=>((rX x hx).2.2 h).1)];simp
theorem Lv {vs:List D}{bs:List Block}(hl:vs.length=bs.length){e:D}(he:e∈cy vs bs):∃(i:Nat) (v:D) (b:Block),vs[i]?=some v/\bs[i]?=some b/\e=.agg (v::b.t.cs):=by
 grind [List.getElem?_of_mem,cy]
theorem Ui {h:Heap}{loops:List Loop}{blocks:List Block}{vL vB:D}{vs:List D}(r:Rows h loops blocks vL vB vs) (hne:blocks≠[]) (g sb rg:Int) :
  ∃h'',P1 h h''/\iM (.agg [.int .i64 g,.int .i64 sb,.int .i64 rg,.int .i64 0,.int .i64 3,bF,vL,vB])/\ti h'' (.agg [.int .i64 g,.int .i64 sb,.int .i64 rg,.int .i64 0,.int .i64 3,bF,vL,vB]) /\
   ((D.agg [.int .i64 g,.int .i64 sb,.int .i64 rg,.int .i64 0,.int .i64 3,bF,vL,vB]).fzt h'').M8=true /\
   Wk ((D.agg [.int .i64 g,.int .i64 sb,.int .i64 rg,.int .i64 0,.int .i64 3,bF,vL,vB]).fzt h'') (Code.e ⟨g,sb,rg,0,3,Dh,loops,blocks⟩):=by
 have a2:=jY r.len
 obtain⟨nb,e1,e2⟩:=Cr r.oB (by
  grind)
 subst e1;obtain⟨Z,a6⟩:=Ct r.nd
 have names:∀k,k∈(cy vs blocks).flatMap D.nm->k∈bP vs:=by
  intro k hk;obtain⟨e,he,V⟩:=List.mem_flatMap.1 hk;obtain⟨i,v,b,I,hb,rfl⟩:=Lv r.len he;simp only[D.nm,List.mem_flatMap,List.mem_cons]at V;obtain⟨x,hx|hx,H⟩:=V
  ·subst hx;exact qi (ak I) H
  ·rw[(rX x hx).2.1]at H;cases H
 have hd:Rj h nb 14 (cy vs blocks):=by
  refine⟨λ hm=>Z (by grind [cB]),λ e he=>?_⟩;obtain⟨i,v,b,I,hb,rfl⟩:=Lv r.len he;obtain⟨f1,f2,f3,-⟩:=Mf (r.oI i v b I hb) Ju;refine⟨λ x hx=>?_,λ x hx=>?_,λ y hy=>?_⟩
  ·grind [D.cells,D.kz,rX]
  ·simp only[D.cells,List.mem_cons]at hx;rcases hx with rfl|hx
   ·exact f1
   ·exact((rX x hx).2.2 h).2
  grind [D.fz,D.cells,Qf,rX]
 refine⟨zg h nb 14 (cy vs blocks),.step e2 hd (.refl _),?_⟩;obtain⟨G,eI⟩:∃G,G=zg h nb 14 (cy vs blocks):=⟨_,rfl⟩;rw[<- eI];have a1:G nb=.arr 14 ((cy vs blocks).map (D.fz h)):=by rw[eI];exact Lm
 have oL:Own 3 G vL (loops.map Loop.e):=dF r.oL λ k hk=>by
  rw[eI];grind [Jv,cB]
 obtain⟨l1,l2,l3,l4⟩:=Mf oL Ph;have Q:(G nb).row=some (14,(cy vs blocks).map (D.fz h)):=by rw[a1];rfl
 have eB:(D.ms nb 0 (cy vs blocks).length).fzc G=.sl ((cy vs blocks).map (D.fz h)):=by
  grind [D.fzc,List.take_of_length_le]
 have e:(D.agg [.int .i64 g,.int .i64 sb,.int .i64 rg,.int .i64 0,.int .i64 3,bF,vL,.ms nb 0 (cy vs blocks).length]).fzt G =
   .agg [.int .i64 g,.int .i64 sb,.int .i64 rg,.int .i64 0,.int .i64 3,bF,vL.fzc G,.sl ((cy vs blocks).map (D.fz h))]:=by
  simp only[D.fzt,D.fz,List.map_cons,List.map_nil,eB];rfl
 refine⟨λ x hx=>?_,λ x hx=>?_,?_,?_⟩
 ·simp only[D.cells,List.mem_cons,List.not_mem_nil,or_false]at hx;rcases hx with rfl|rfl|rfl|rfl|rfl|rfl|rfl|rfl<;>first|rfl|exact l3
 ·simp only[D.cells,List.mem_cons,List.not_mem_nil,or_false]at hx;rcases hx with rfl|rfl|rfl|rfl|rfl|rfl|rfl|rfl<;>first|exact trivial|exact l1|skip
  refine⟨14,_,Q,by simp,λ x hx y hy=>?_⟩;have hx:=List.mem_of_mem_drop (List.mem_of_mem_take hx);obtain⟨a,ha,rfl⟩:=List.mem_map.1 hx;exact(hd.el a ha).2.2 y hy
 ·rw[e];show([D.int .i64 g,.int .i64 sb,.int .i64 rg,.int .i64 0,.int .i64 3,bF,vL.fzc G,.sl ((cy vs blocks).map (D.fz h))].all D.vone)=true
  simp only[List.all_cons,List.all_nil,Ng,l2,bF,P6,Bool.and_true,Bool.and_self]
 ·rw[e];refine Wk.acs (.cons (.refl _) (.cons (.refl _) (.cons (.refl _) (.cons (.refl _) (.cons (.refl _) (.cons (.refl _) (.cons l4 (.cons ?_ .nil))))))));refine .sl _ _ (by simp[a2]) λ i x y hx hy=>?_
  simp only[List.getElem?_map,Option.map_eq_some_iff]at hx hy;obtain⟨x,hx,rfl⟩:=hx;obtain⟨b,hb,rfl⟩:=hy
  obtain⟨v,I⟩:∃v,vs[i]?=some v:=by
   have:=(ar.1 hb).1;exact⟨vs[i]'(by rw[r.len];exact this),aq _⟩
  rw[Fx I hb]at hx;cases hx;simp only[D.fz,List.map_cons,Qf,Block.e];exact Wk.acs (.cons (Mf (r.oI i v b I hb) Ju).2.2.2 .rfl)
theorem Vo:aK PP pj [] (· = bF):=by
 refine aZ Ez (aG _ _ _) rfl (DK _) ?_;unfold xU;rw[cx rfl,cx rfl,cx rfl,cx rfl,cx rfl];refine⟨FD rfl,λ _=>?_,λ n t=>?_⟩
 ·intro p hp;simp[Arg.get]at hp;rcases hp with rfl|rfl|rfl|rfl|rfl<;>(intro x hx;simp[D.cells,fillD]at hx;rcases hx with rfl|rfl|rfl|rfl<;>exact trivial)
 ·show ky _ (.ms n 0 5) (aF gY n (.arr 4 (Dh.map qV.e)))
  refine oD (n:=n) (els:=Dh.map qV.e) (esz:=4) (by rw[av];rfl) ?_ rfl;intro x hx y hy;obtain⟨a,-,rfl⟩:=List.mem_map.1 hx;simp[qV.e]at hy;rcases hy with rfl|rfl|rfl|rfl<;>rfl
def YP (N:Nat) (R:Int) (l:Loop):Prop:=(∃hd:Nat,l.head=hd/\hd<N)/\(0<=l.reg/\l.reg<R)/\1<=l.bound/\l.bound<=3
structure nQ (c:Code):Prop where
 group:c.group=4\/c.group=1\/c.group=2\/c.group=8\/c.group=6
 sub:c.sub=1\/c.sub=2\/c.sub=4\/c.sub=8
 dvd:c.group.tmod c.sub=0
 regs:c.regs=6+2*(c.loops.length:Int)
 slots:c.slots=0
 params:c.params=3
 arrays:c.arrays=Dh
 nl:c.loops.length<=3
 loops:∀l∈c.loops,YP c.b.length c.regs l
 nb:1<=c.b.length/\c.b.length<=18
 b:mX c.b.length c.regs c.b
def Cq (bs:List Nat):D:=.agg [rW bs]
def z8:D:=.agg [.int .i64 0,.int .i64 0,.int .i64 0,.int .i64 0,.int .i64 0,.nil,.nil,.nil]
structure Hd (g sb:Int):Prop where
 group:g=4\/g=1\/g=2\/g=8\/g=6
 sub:sb=1\/sb=2\/sb=4\/sb=8
 dvd:g.tmod sb=0
structure PZ (s:MS) (bs:List Block) (q:Nat):Prop where
 hd:Hd s.group s.sub
 regs:s.regs=6+2*(s.loops.length:Int)
 nl:s.loops.length<=q
 nb:bs.length<=6*q
 loops:∀l∈s.loops,YP bs.length s.regs l
 b:mX (bs.length+1) s.regs bs
theorem TT {h:Heap}:Rows h [] [] .nil .nil []:=⟨Or.inl ⟨rfl,rfl⟩,Or.inl ⟨rfl,rfl⟩,rfl,λ k v b G=>by simp at G,by simp[bP,D.lG]⟩
theorem ND {h:Heap}{n k:Nat}{s:MS}{pre:List Block}{is:List bj}{q:Nat}(hs:Hd s.group s.sub) (hR:s.regs=6+2*(s.loops.length:Int)) (hl:s.loops.length<=q) (hq:q<=9) (hp:pre.length<=6*q+2) (hq2:q<=2)
  (hL:∀l∈s.loops,YP (pre.length+1) s.regs l) (hA:mX (pre.length+1) s.regs pre) (hX:oP 6 is) (hi:is.length<=8) (r:bc h n k bF (pq s pre is lY)) (hk:k<400000) {KH:HKq}
  (hK:∀(s':MS) (pre':List Block) (h':Heap),s'.group=s.group->s'.sub=s.sub->s'.regs=6+2*(s'.loops.length:Int)->s'.loops.length<=q+1->pre'.length<=6*q+5->(∀l,l∈s'.loops->YP (pre'.length+1) s'.regs l)->mX (pre'.length+1) s'.regs pre' ->
   bc h' n (k+100) bF (pq s' pre' [] lY)->aS n h h'->KH (.tup []) h') :
  ag PP dM [.ptr n 0 0] h λ _ h1=>ag PP bt [.ptr n 0 0] h1 KH:=by
 refine Z6 r hA (hX.mono (by omega)) (by omega) (by omega) (by omega) hR (by omega) λ b bs h1 Q I a1 H Z k1=>?_
 refine xr (bs:=bs) Z (by omega) λ h2 V k2=>?_
 have G:(Pf s (pre.length+1) b).regs=s.regs+2:=by simp only[Pf];omega
 refine hK (Pf s (pre.length+1) b) bs h2 rfl rfl ?_ ?_ (by omega) ?_ ?_ V (k1.trans k2)
 ·simp only[Pf,List.length_append,List.length_singleton];omega
 ·simp only[Pf,List.length_append,List.length_singleton];omega
 ·intro l hl;rw[G];simp only[Pf,List.mem_append,List.mem_singleton]at hl;rcases hl with hl|rfl
  ·obtain⟨⟨hd,e1,e2⟩,e3,e4⟩:=hL l hl;exact⟨⟨hd,e1,by omega⟩,⟨e3.1,by omega⟩,e4⟩
  ·exact⟨⟨pre.length+1,rfl,by omega⟩,⟨by simp only;omega,by simp only;omega⟩,Q,I⟩
 ·rw[G];exact H.mono (by omega) (by omega)
set_option maxHeartbeats 4000000 in
theorem WT {h:Heap}{n nz k c:Nat}{s:MS}(hne:nz≠n) (hc:c<=2) (hs:PZ s [] 0) (r:bc h n k bF { s with blocks:=[] }) (hk:k<=1000) (hz:h nz=.box z8){J:HJq}
  (hJ:∀(s':MS) (bs:List Block) (h':Heap),PZ s' bs 2->bc h' n (k+2000) bF { s' with blocks:=bs }->h' nz=.box z8->J [] h') :
  nM (.int .i64 (c:Int)) h (.ptr nz 0 0) (.ptr n 0 0) J:=by
 dsimp only[nM,xF,xI,xL,xS,yF,yI,yL];refine⟨λ j qs h'=>j<=c/\qs=[.int .i64 (j:Int)]/\∃(s':MS) (bs:List Block),PZ s' bs (c-j)/\bc h' n (k+1000*(c-j)) bF { s' with blocks:=bs }/\h' nz=.box z8,c,⟨Nat.le_refl _,rfl,s,[],by simpa using hs,by simpa using r,hz⟩,?_⟩;rintro j f h1 ⟨hj,hq,s1,bs,G,r1,b1⟩;simp only[ah,and_true]at hq;rw[hq,rU];by_cases h0:0<j
 ·simp only[show((0:Int)<(j:Int))=True from eq_true (by omega),decide_true,↓af];have nl:=G.nl;have nb:=G.nb;refine⟨λ qs h'=>qs=[]/\∃(s':MS) (bs:List Block),PZ s' bs (c-(j-1))/\bc h' n (k+1000*(c-j)+1000) bF { s' with blocks:=bs }/\h' nz=.box z8,?_,?_⟩
  ·rintro g h2 ⟨-,s2,l3,j0,r2,e0⟩;rw[nT,wrap64 (by omega) (by omega)];refine⟨rfl,j-1,by omega,by omega,by congr 2;omega,s2,l3,j0,r2.le (by omega),e0⟩
  ·refine fu r1 (by omega) λ b h2 _ r2 k2=>?_
   rw[cY];refine⟨by omega,?_⟩;rw[show((b:Int).tmod 3)=((b % 3:Nat):Int) from bm b 3];have hm:b % 3<3:=Nat.mod_lt _ (by omega);refine On r2 G.b (by omega) (by have:=G.regs;omega) (by omega) (by omega) λ pre is h3 n0 b2 hX hi r3 k3=>?_
   have c8:=k3 nz _ hne (k2 nz _ hne b1)
   have b3:∀l∈s1.loops,YP (pre.length+1) s1.regs l:=λ l hl=>by
    obtain⟨⟨hd,e1,e2⟩,e3⟩:=G.loops l hl;exact⟨⟨hd,e1,by omega⟩,e3⟩
   refine⟨λ qs h'=>qs=[]/\∃(s':MS) (I:List Block) (V:List bj),Hd s'.group s'.sub/\s'.regs=6+2*(s'.loops.length:Int)/\s'.loops.length<=(c-j)+1/\I.length<=6*(c-j)+5/\(∀l,l∈s'.loops->YP (I.length+1) s'.regs l) /\
    mX (I.length+1) s'.regs I/\oP s'.regs V/\V.length<=8/\bc h' n (k+1000*(c-j)+500) bF (pq s' I V lY)/\h' nz=.box z8,?_,?_⟩
   ·rintro g h4 ⟨-,s4,H,a6,g1,g2,g3,g4,g5,g6,g7,g8,r4,Q⟩;obtain⟨p3,j4,l9,m5,e4,l1,c4,c1,-⟩:=qh r4;simp only[↓QI l1,Nat.zero_add,Nat.reduceAdd,↓RM e4 (j:=9) rfl,↓bH,c4,true_and];rw[nT,wrap64 (by omega) (by omega)];rw[show((H.length+1:Nat):Int)-1=(H.length:Int) by omega,fv,wrap64 (by omega) (by omega),cx rfl,cx rfl]
    have hT:∀(T:Term) (h':Heap),zr (H.length+2) s4.regs T->bc h' n (k+1000*(c-j)+600) bF (pq s4 H a6 T)->h' nz=.box z8 ->
      ∃(s':MS) (bs:List Block),PZ s' bs (c-(j-1))/\bc h' n (k+1000*(c-j)+1000) bF { s' with blocks:=bs }/\h' nz=.box z8:=by
     intro T h' hT r' g0;refine⟨s4,H++[⟨a6,T⟩],⟨g1,g2,by omega,by simp;omega,?_,?_⟩,r'.le (by omega),g0⟩
     ·grind
     ·simp only[List.length_append,List.length_singleton];exact(g6.mono (by omega) (by omega)).snoc ⟨g7,by simp only;omega,hT⟩
    refine c1 ⟨3,0,aj,aj,aj,(H.length:Int)+1,0⟩ λ h5 r5 k5=>?_
    have c7:=k5 nz _ hne Q;refine fu r5 (by omega) λ Z h6 _ r6 k6=>?_
    have a7:=k6 nz _ hne c7;rw[cY];refine⟨by omega,?_⟩;rw[show((Z:Int).tmod 3)=((Z % 3:Nat):Int) from bm Z 3,bq];by_cases j2:Z % 3=0
    ·simp only[show(((Z % 3:Nat):Int)=0)=True from eq_true (by omega),decide_true,↓af];obtain⟨l8,m0,r6⟩:=r6.v;obtain⟨p2,j6,m4,o2,e6,l0,-⟩:=gp r6;simp only[↓lH l0,Nat.zero_add,Nat.reduceAdd,↓xm e6 (j:=9) rfl];rw[fv,wrap64 (by omega) (by omega),nY rfl];refine Da r6 (by omega) λ b7 h7 _ r7 k7=>?_
     obtain⟨p1,j7,m3,o1,e7,k1,-⟩:=gp r7;simp only[↓lH k1,Nat.zero_add,Nat.reduceAdd,↓xm e7 (j:=9) rfl,aa,true_and];rw[cY];refine⟨by omega,?_⟩;rw[show((b7:Int).tmod 6)=((b7 % 6:Nat):Int) from bm b7 6];have n1:b7 % 6<6:=Nat.mod_lt _ (by omega);rw[fv,wrap64 (by omega) (by omega)];refine PI r7 (by omega) λ d h8 hd r8 k8=>?_
     obtain⟨p0,j8,m2,o0,e8,k0,-⟩:=gp r8;simp only[↓lH k0,Nat.zero_add,Nat.reduceAdd,↓xm e8 (j:=9) rfl,aa,true_and];refine Va r8 (by omega) λ o h9 ho r9 k9=>?_
     obtain⟨o3,j9,m1,n4,e9,j5,-⟩:=gp r9;simp only[↓lH j5,Nat.zero_add,Nat.reduceAdd,↓xm e9 (j:=9) rfl,aa,true_and];refine Va r9 (by omega) λ p n3 hp c3 c6=>?_
     obtain⟨l6,m6,l4,l5,l2,c0,a1⟩:=gp c3;simp only[↓lH c0,Nat.zero_add,Nat.reduceAdd,↓xm l2 (j:=9) rfl,aa,true_and];rw[nY rfl];refine a1 ⟨4,1+((b7 % 6:Nat):Int),gT d,o,p,(H.length:Int)+1,0⟩ λ j3 c2 c5=>?_
     have a8:=c5 nz _ hne (c6 nz _ hne (k9 nz _ hne (k8 nz _ hne (k7 nz _ hne a7))))
     try simp only[aa,true_and]
     exact hT _ j3 (.collect _ _ _ _ (H.length+1) (by omega) ((eZ hd).mono (by omega)) (ho.o.mono (by omega)) (hp.o.mono (by omega)) (by omega)) (c2.le (by omega)) a8
    ·simp only[show(((Z % 3:Nat):Int)=0)=False from eq_false (by omega),decide_false,↓ae]
     try simp only[aa,true_and]
     exact hT _ h6 (.barrier (H.length+1) (by omega)) (r6.le (by omega)) a7
   ·refine fu r3 (by omega) λ b4 h4 _ r4 k4=>?_
    have Q:=k4 nz _ hne c8;rw[cY];refine⟨by omega,?_⟩;rw[show((b4:Int).tmod 3)=((b4 % 3:Nat):Int) from bm b4 3,bq];by_cases j2:b4 % 3=0
    ·simp only[show(((b4 % 3:Nat):Int)=0)=True from eq_true (by omega),decide_true,↓af];refine ND (q:=c-j) G.hd G.regs nl (by omega) (by omega) (by omega) b3 b2 hX hi r4 (by omega) λ s5 a2 h5 e1 e2 e3 e4 e5 e6 e7 r5 k5=>?_
     try simp only[aa,true_and]
     exact⟨s5,a2,[],by rw[e1,e2];exact G.hd,e3,e4,e5,e6,e7,.nil,by simp,r5.le (by omega),k5 nz _ hne Q⟩
    ·simp only[show(((b4 % 3:Nat):Int)=0)=False from eq_false (by omega),decide_false,↓ae]
     try simp only[aa,true_and]
     exact⟨s1,pre,is,G.hd,G.regs,by omega,by omega,b3,b2,hX.mono (by have:=G.regs;omega),hi,r4.le (by omega),Q⟩
 ·simp only[show((0:Int)<(j:Int))=False from eq_false (by omega),decide_false,↓ae];have j1:j=0:=by omega
  subst j1;have s2:PZ s1 bs 2:=⟨G.hd,G.regs,by have:=G.nl;omega,by have:=G.nb;omega,G.loops,G.b⟩;exact⟨rfl,hJ s1 bs h1 s2 (r1.le (by omega)) b1⟩
end Go.Am
namespace Go.Am
open Go
set_option maxHeartbeats 1000000 in
theorem WR {h:Heap}{n nz k c:Nat}{s:MS}(hc:c<=2) (hg:s.group=4\/s.group=1\/s.group=2\/s.group=8\/s.group=6) (h1:s.sub=1) (hr:s.regs=6) (hl:s.loops=[]) (r:bc h n k bF { s with blocks:=[] }) (hne:nz≠n) (hz:h nz=.box z8){J:HJq}
  (hJ:∀(s':MS) (h':Heap),Hd s'.group s'.sub->s'.regs=6->s'.loops=[]->bc h' n k bF { s' with blocks:=[] }->h' nz=.box z8->J [] h') :
  nK (.int .i64 (c:Int)) h (.ptr n 0 0) (.ptr nz 0 0) J:=by
 dsimp only[nK,xF,xL,xS,yF,yL,yP]
 refine⟨λ j qs h'=>j<=c/\qs=[.int .i64 (j:Int)]/\∃s':MS,Hd s'.group s'.sub/\(j=2->s'.sub=1)/\(j=1->s'.sub<=2)/\s'.regs=6/\s'.loops=[]/\bc h' n k bF { s' with blocks:=[] }/\h' nz=.box z8,c,
  ⟨Nat.le_refl _,rfl,s,⟨hg,by omega,by grind⟩,λ _=>h1,λ _=>by omega,hr,hl,r,hz⟩,?_⟩
 rintro j f h2 ⟨hj,hq,s2,hd,a6,a7,H,I,Z,G⟩;simp only[ah,and_true]at hq;rw[hq,rU];obtain⟨a8,j2,a1,a2,e2,V,-⟩:=Qs Z;unfold dh at e2;by_cases h0:0<j
 ·simp only[show((0:Int)<(j:Int))=True from eq_true (by omega),decide_true,↓abJ,↓lH V,Nat.zero_add,Nat.reduceAdd,↓xm e2 (j:=2) rfl,↓xm e2 (j:=3) rfl]
  have hsb:s2.sub=1\/s2.sub=2:=by
   rcases hd.sub with h|h|h|h
   ·exact Or.inl h
   ·exact Or.inr h
   ·grind
   grind
  rw[K3,wrap64 (by omega) (by omega),cY];refine⟨by omega,?_⟩;rw[bq];by_cases Q:s2.group.tmod (2*s2.sub)=0
  ·simp only[Q,decide_true,↓jL,↓NB,↓af,↓QI V,Nat.zero_add,Nat.reduceAdd,↓RM e2 (j:=3) rfl];rw[K3,wrap64 (by omega) (by omega)];refine Y6 (v:=2*s2.sub) Z λ h3 r3 k3=>?_
   rw[nT,wrap64 (by omega) (by omega)];refine⟨rfl,j-1,by omega,by omega,by congr 2;omega,{ s2 with sub:=2*s2.sub },⟨hd.group,by simp only;omega,Q⟩,λ e=>by omega,λ e=>?_,H,I,r3,k3 nz _ hne G⟩;grind
  ·simp only[Q,decide_false,↓jL,↓NB,↓ae];exact⟨rfl,hJ s2 h2 hd H I Z G⟩
 ·simp only[show((0:Int)<(j:Int))=False from eq_false (by omega),decide_false,↓abK,↓yK,↓jL,↓TR,↓ae];exact⟨rfl,hJ s2 h2 hd H I Z G⟩
theorem ldC {P:Program}{h:Heap}{KH:HKq}{n:Nat}{a b c1 c2 c3 c4 c5 c6 c7 c8:D}(e:h n=.box (.agg [a,b,c1,c2,c3,c4,c5,c6,c7,c8])):ab P (.ld (.c (.ptr n 0 2)) 8 true) h KH=KH (.agg [c1,c2,c3,c4,c5,c6,c7,c8]) h:=RK e (by simp)
theorem stZ {P:Program}{h:Heap}{KH:HKq}{nz:Nat}{c1 c2 c3 c4 c5 c6 c7 c8:D}(e:h nz=.box z8) (ho:(D.agg [c1,c2,c3,c4,c5,c6,c7,c8]).cells.all D.one=true) :
  ab P (.st (.c (.ptr nz 0 0)) (.c (.agg [c1,c2,c3,c4,c5,c6,c7,c8])) 8) h KH=KH .undef (aF h nz (.box (.agg [c1,c2,c3,c4,c5,c6,c7,c8]))):=by
 rw[kW,e];apply propext;constructor
 ·exact λ H=>H.2.2.2.2
 ·exact λ G=>⟨rfl,List.all_eq_true.1 ho,rfl,by simp[z8],G⟩
theorem Qx {esz:Nat}{h:Heap}{v:D}{els:List D}(ho:Own esz h v els):v.one=true:=by
 rcases ho with⟨rfl,-⟩|⟨m,rfl,-⟩<;>rfl
set_option maxHeartbeats 4000000 in
theorem Z8 {bs:List Nat}(hb:∀b∈bs,b<=255) (hl:bs.length<=9223372036854775807):aK PP tP [Cq bs] (λ r=>∃c:Code,nQ c/\r=c.e):=by
 refine aK.wk (K:=λ r=>∃c:Code,nQ c/\Wk r c.e) (EJ (aY H6 (aG _ _ _) rfl (HL _ _) ?_)) λ r hr=>by
  obtain⟨c,hc,hw⟩:=hr;exact⟨c.e,hw,rfl,c,hc,rfl⟩
 dsimp only[DH,xB,xF,xL,xS,yF,yI,yL];rw[Jy];refine⟨(bw (by simp[rW]):kx (Cq bs)).one,λ n0 t0=>?_⟩;rw[gP];intro G tz;have nn:n0≠G:=tz.ne (by rw[av];simp);have a0:aF (aF gY n0 (.box (Cq bs))) G (.box z8) n0=.box (Cq bs):=by rw[an _ _ nn,av]
 have az:aF (aF gY n0 (.box (Cq bs))) G (.box z8) G=.box z8:=av _ _ _;show ab PP _ (aF (aF gY n0 (.box (Cq bs))) G (.box z8)) _
 generalize aF (aF gY n0 (.box (Cq bs))) G (.box z8)=hA at a0 az;have j1:(hA n0).used=true:=by rw[a0];rfl
 unfold Cq at a0;simp only[↓QI j1,Nat.zero_add,↓RM a0 (j:=0) rfl]
 rw[cx rfl,show D.agg (fillD [.nil,.int .i64 0,.int .i64 0,.int .i64 0,.int .i64 0,.int .i64 0,.int .i64 0,.nil,.nil,.nil] (List.map (λ p=>(p.fst,p.snd.fst,(Arg.get [] p.snd.snd).cells)) [(0,1,Arg.c (rW bs))])) =
  .agg (rW bs::.int .i64 ((0:Nat):Int)::[.int .i64 0,.int .i64 0,.int .i64 0,.int .i64 0,.int .i64 0,.nil,.nil,.nil]) from rfl,Jy]
 refine⟨List.all_eq_true.1 rfl,λ n tn=>?_⟩;have I:G≠n:=tn.ne (by rw[az];simp);have b1:aF hA n (.box (.agg (rW bs::.int .i64 ((0:Nat):Int)::[.int .i64 0,.int .i64 0,.int .i64 0,.int .i64 0,.int .i64 0,.nil,.nil,.nil]))) n=.box (.agg (rW bs::.int .i64 ((0:Nat):Int)::[.int .i64 0,.int .i64 0,.int .i64 0,.int .i64 0,.int .i64 0,.nil,.nil,.nil])):=av _ _ _;have bz:aF hA n (.box (.agg (rW bs::.int .i64 ((0:Nat):Int)::[.int .i64 0,.int .i64 0,.int .i64 0,.int .i64 0,.int .i64 0,.nil,.nil,.nil]))) G=.box z8:=by grind [an]
 show au PP _ (aF hA n (.box (.agg (rW bs::.int .i64 ((0:Nat):Int)::[.int .i64 0,.int .i64 0,.int .i64 0,.int .i64 0,.int .i64 0,.nil,.nil,.nil])))) _
 generalize aF hA n (.box (.agg (rW bs::.int .i64 ((0:Nat):Int)::[.int .i64 0,.int .i64 0,.int .i64 0,.int .i64 0,.int .i64 0,.nil,.nil,.nil])))=hB at b1 bz
 have g0:∀{Q:D->Prop},au PP (.bldS false 1 5 (.int .i64 0) [(0,(.c (.int .i64 4))),(1,(.c (.int .i64 1))),(2,(.c (.int .i64 2))),(3,(.c (.int .i64 8))),(4,(.c (.int .i64 6)))]) hB Q=Q (.sl [.int .i64 4,.int .i64 1,.int .i64 2,.int .i64 8,.int .i64 6]):=by
  intro Q;apply propext;constructor
  ·exact λ hh=>hh.2.2.2
  ·intro hq;refine⟨FD rfl,?_,by simp,hq⟩;intro p hp;simp[Arg.get]at hp;rcases hp with rfl|rfl|rfl|rfl|rfl<;>simp
 simp only[g0];refine MO b1 hb hl (by omega) λ b k8=>?_
 have c1:=av hB n (.box (.agg (rW bs::.int .i64 ((0+1:Nat):Int)::[.int .i64 0,.int .i64 0,.int .i64 0,.int .i64 0,.int .i64 0,.nil,.nil,.nil])));have cz:aF hB n (.box (.agg (rW bs::.int .i64 ((0+1:Nat):Int)::[.int .i64 0,.int .i64 0,.int .i64 0,.int .i64 0,.int .i64 0,.nil,.nil,.nil]))) G=.box z8:=by grind [an]
 generalize aF hB n (.box (.agg (rW bs::.int .i64 ((0+1:Nat):Int)::[.int .i64 0,.int .i64 0,.int .i64 0,.int .i64 0,.int .i64 0,.nil,.nil,.nil])))=hC at c1 cz;rw[cY];refine⟨by omega,?_⟩;rw[show((b:Int).tmod 5)=((b % 5:Nat):Int) from bm b 5]
 obtain⟨g,hg,e8⟩:∃g:Int,([.int .i64 4,.int .i64 1,.int .i64 2,.int .i64 8,.int .i64 6]:List D)[b % 5]?=some (.int .i64 g)/\(g=4\/g=1\/g=2\/g=8\/g=6):=by
  grind
 have hi:∀{Q:D->Prop},au PP (.iadd (.c (.sl [.int .i64 4,.int .i64 1,.int .i64 2,.int .i64 8,.int .i64 6])) (.c (.int .i64 ((b % 5:Nat):Int))) 1) hC Q=Q (.vp (.int .i64 g) 0):=by
  intro Q;rw[gJ,Fq,aE,hg];apply propext;constructor
  ·grind
  ·intro hq;exact⟨by omega,by simp;omega,λ d hd=>by cases hd;exact⟨rfl,hq⟩⟩
 have e0:∀{Q:D->Prop},au PP (.ld (.c (.vp (.int .i64 g) 0)) 1 false) hC Q=Q (.int .i64 g):=λ {Q}=>by rw[mc,zG,gd];rfl
 simp only[↓hi,↓e0];refine L4 Vo trivial ?_;have j0:(hC n).used=true:=by rw[c1];rfl
 rw[nY rfl];simp only[↓lH j0,Nat.zero_add];rw[kW,c1];refine⟨rfl,?_,rfl,by simp,?_⟩
 ·intro x hx;simp[fillD,D.cells,Arg.get,bF]at hx;rcases hx with rfl|rfl|rfl|rfl|rfl|rfl|rfl|rfl<;>rfl
 have es:setCells (.agg (rW bs::.int .i64 ((0+1:Nat):Int)::[.int .i64 0,.int .i64 0,.int .i64 0,.int .i64 0,.int .i64 0,.nil,.nil,.nil])) 2 (D.agg (fillD [.int .i64 0,.int .i64 0,.int .i64 0,.int .i64 0,.int .i64 0,.nil,.nil,.nil] (List.map (λ p=>(p.fst,p.snd.fst,(Arg.get [] p.snd.snd).cells)) [(0,1,Arg.c (.int .i64 g)),(1,1,Arg.c (.int .i64 1)),(2,1,Arg.c (.int .i64 6)),(4,1,Arg.c (.int .i64 3)),(5,1,Arg.c bF)]))).cells =
   dh bs 1 bF ⟨g,1,6,[],[]⟩ .nil .nil:=rfl
 rw[es];have r0:bc (aF hC n (.box (dh bs 1 bF ⟨g,1,6,[],[]⟩ .nil .nil))) n 1 bF { (⟨g,1,6,[],[]⟩:MS) with blocks:=[] }:=⟨bs,1,.nil,.nil,[],hb,hl,Nat.le_refl _,av _ _ _,TT⟩;have dz:aF hC n (.box (dh bs 1 bF ⟨g,1,6,[],[]⟩ .nil .nil)) G=.box z8:=by grind [an]
 generalize aF hC n (.box (dh bs 1 bF ⟨g,1,6,[],[]⟩ .nil .nil))=hD at r0 dz;refine⟨λ qs h'=>qs=[]/\∃s:MS,Hd s.group s.sub/\s.regs=6/\s.loops=[]/\bc h' n 10 bF { s with blocks:=[] }/\h' G=.box z8,?_,?_⟩
 ·rintro f1 h1 ⟨-,s1,e9,c8,b7,r1,z1⟩;refine⟨λ qs h'=>qs=[]/\∃(s':MS) (bs:List Block),PZ s' bs 2/\bc h' n 3000 bF { s' with blocks:=bs }/\h' G=.box z8,?_,?_⟩
  ·rintro f2 h2 ⟨-,s2,l2,H,r2,z2⟩;have nl:=H.nl;have nb:=H.nb;refine fu r2 (by omega) λ b3 h3 _ r3 k3=>?_
   rw[cY];refine⟨by omega,?_⟩;rw[show((b3:Int).tmod 3)=((b3 % 3:Nat):Int) from bm b3 3];have hm:b3 % 3<3:=Nat.mod_lt _ (by omega);refine On r3 H.b (by omega) (by have:=H.regs;omega) (by omega) (by omega) λ pre is h4 j9 a8 hX c0 r4 k4=>?_
   have z4:=k4 G _ I (k3 G _ I z2)
   have c2:∀l∈s2.loops,YP (pre.length+1) s2.regs l:=λ l hl=>by
    obtain⟨⟨hd,e1,e2⟩,e3⟩:=H.loops l hl;exact⟨⟨hd,e1,by omega⟩,e3⟩
   refine⟨λ qs h'=>qs=[]/\∃(s':MS) (V:List Block) (a7:List bj),Hd s'.group s'.sub/\s'.regs=6+2*(s'.loops.length:Int)/\s'.loops.length<=3/\V.length<=17/\(∀l,l∈s'.loops->YP (V.length+1) s'.regs l) /\
    mX (V.length+1) s'.regs V/\oP s'.regs a7/\a7.length<=8/\bc h' n 9000 bF (pq s' V a7 lY)/\h' G=.box z8,?_,?_⟩
   ·rintro f5 h5 ⟨-,s5,a1,j8,g1,g2,g3,g4,g5,g6,g7,g8,r5,z5⟩;obtain⟨j4,c3,r5⟩:=r5.v;obtain⟨l1,j5,j7,k9,e5,h9,c4⟩:=gp r5
    have c5:∀{Q:D->Prop},aM c3 h5 Q=Q (.int .i64 ((a1.length+1:Nat):Int)):=by
     intro Q;obtain⟨_,_,vs,_,_,_,q4,q5⟩:=r5.st;rw[Qy q5.oB,jY q5.len];simp[pq]
    simp only[↓lH h9,Nat.zero_add,Nat.reduceAdd,↓xm e5 (j:=9) rfl,c5];rw[nT,wrap64 (by omega) (by omega),nY rfl,show((a1.length+1:Nat):Int)-1=(a1.length:Int) by omega];refine c4 ⟨5,0,aj,aj,aj,0,0⟩ λ h6 r6 k6=>?_
    have z6:=k6 G _ I z5;obtain⟨l0,j6,a2,a6,j3,q1,q2,q3,q4,q5⟩:=r6.st;have h8:(h6 n).used=true:=by rw[q4];rfl
    unfold dh at q4;simp only[↓QI h8,Nat.zero_add,Nat.reduceAdd,↓ldC q4];have o1:=Qx q5.oL;have o2:=Qx q5.oB;rw[stZ z6 (by simp[D.cells,o1,o2,bF])]
    have b4:=fV (P:=PP) (KH:=λ a63 _=>∃Z,P1 (aF h6 G (.box (.agg [.int .i64 s5.group,.int .i64 s5.sub,.int .i64 s5.regs,.int .i64 0,.int .i64 3,bF,a2,a6]))) Z/\iM a63/\ti Z a63/\(a63.fzt Z).M8=true/\∃c:Code,nQ c/\Wk (a63.fzt Z) c.e)
     (av h6 G (.box (.agg [.int .i64 s5.group,.int .i64 s5.sub,.int .i64 s5.regs,.int .i64 0,.int .i64 3,bF,a2,a6])))
    refine b4.mpr ?_;have rr:=q5.box z6 (.box (.agg [.int .i64 s5.group,.int .i64 s5.sub,.int .i64 s5.regs,.int .i64 0,.int .i64 3,bF,a2,a6]));obtain⟨Z,i1,i2,i3,i4,i5⟩:=Ui rr (by simp[pq]) s5.group s5.sub s5.regs;refine⟨Z,i1,i2,i3,i4,_,?_,i5⟩;refine⟨g1.group,g1.sub,g1.dvd,g2,rfl,rfl,rfl,g3,?_,?_,?_⟩
    ·grind [pq]
    ·grind [pq]
    ·simp only[pq,List.length_append,List.length_singleton];exact g6.snoc ⟨g7,by simp only;omega,.exit⟩
   ·refine fu r4 (by omega) λ b5 h5 _ r5 k5=>?_
    have z5:=k5 G _ I z4;rw[cY];refine⟨by omega,?_⟩;rw[show((b5:Int).tmod 3)=((b5 % 3:Nat):Int) from bm b5 3,bq];by_cases k0:b5 % 3=0
    ·simp only[show(((b5 % 3:Nat):Int)=0)=True from eq_true (by omega),decide_true,↓af];refine ND (q:=2) H.hd H.regs nl (by omega) (by omega) (by omega) c2 a8 hX c0 r5 (by omega) λ s6 pre6 h6 e1 e2 e3 e4 e5 e6 e7 r6 k6=>?_
     refine Iz r6 (e7.bnd (by omega) (by simp)) (by omega) λ xs h7 c6 c7 r7 k7=>?_
     try simp only[aa,true_and]
     exact⟨s6,pre6,xs,by rw[e1,e2];exact H.hd,e3,e4,by omega,e6,e7,c6.mono (by omega),c7,r7.le (by omega),k7 G _ I (k6 G _ I z5)⟩
    ·simp only[show(((b5 % 3:Nat):Int)=0)=False from eq_false (by omega),decide_false,↓ae]
     try simp only[aa,true_and]
     exact⟨s2,pre,is,H.hd,H.regs,by omega,by omega,c2,a8,hX.mono (by have:=H.regs;omega),c0,r5.le (by omega),z5⟩
  ·refine fu r1 (by omega) λ b2 h2 _ r2 k2=>?_
   have z2:=k2 G _ I z1;rw[cY];refine⟨by omega,?_⟩;rw[show((b2:Int).tmod 3)=((b2 % 3:Nat):Int) from bm b2 3];have hm:b2 % 3<3:=Nat.mod_lt _ (by omega);refine WT I (by omega) ⟨e9,by rw[c8,b7];rfl,by rw[b7];simp,by simp,(by grind),mX.nil⟩ r2 (by omega) z2 λ s' j2 h' q1 q2 q3=>⟨rfl,s',j2,q1,q2.le (by omega),q3⟩
 ·refine fu r0 (by omega) λ b1 h1 _ r1 k1=>?_
  have z1:=k1 G _ I dz;rw[cY];refine⟨by omega,?_⟩;rw[show((b1:Int).tmod 3)=((b1 % 3:Nat):Int) from bm b1 3];have hm:b1 % 3<3:=Nat.mod_lt _ (by omega);exact WR (by omega) e8 rfl rfl rfl r1 I z1 λ s' h' q1 q2 q3 q4 q5=>⟨rfl,s',q1,q2,q3,q4.le (by omega),q5⟩
end Go.Am
namespace Go.Am
open Go Go.Proofs Go.Shelf Go.RowKit
def Lj:Go.Shelf.Ren:=⟨λ|7=>42|10=>66|n=>n,λ|23=>89|26=>3|3=>4|28=>94|0=>0|27=>93|33=>120|4=>4|n=>n,λ|n=>n⟩
theorem aby:Go.Proofs.SlLaysZI.n7 Tryz.prog Lj:={
 mixed:=by kernel_rfl,
 f7:=⟨Tryz.f42.name,by decide,Tryz.func42.trans (congrArg some (by kernel_rfl))⟩,
 f10:=⟨Tryz.f66.name,by decide,Tryz.func66.trans (congrArg some (by kernel_rfl))⟩,
 t0:=Tryz.underlying0,
 a0:=Tryz.isAgg0,
 z0:=Tryz.sizeOf0,
 v0:=Tryz.zeroValue0,
 t4:=Tryz.underlying4,
 a4:=Tryz.isAgg4,
 z4:=Tryz.sizeOf4,
 v4:=Tryz.zeroValue4,
 t23:=Tryz.underlying89,
 a23:=Tryz.isAgg89,
 z23:=Tryz.sizeOf89,
 v23:=Tryz.zeroValue89,
 t26:=Tryz.underlying3,
 a26:=Tryz.isAgg3,
 z26:=Tryz.sizeOf3,
 v26:=Tryz.zeroValue3,
 t27:=Tryz.underlying93,
 a27:=Tryz.isAgg93,
 z27:=Tryz.sizeOf93,
 v27:=Tryz.zeroValue93,
 t28:=Tryz.underlying94,
 a28:=Tryz.isAgg94,
 z28:=Tryz.sizeOf94,
 v28:=Tryz.zeroValue94,
 t33:=Tryz.underlying120,
 a33:=Tryz.isAgg120,
 z33:=Tryz.sizeOf120,
 v33:=Tryz.zeroValue120 }
def Li:Go.Shelf.Ren:=⟨λ|7=>43|10=>67|n=>n,λ|23=>88|26=>3|3=>41|28=>94|0=>0|27=>93|33=>120|4=>4|n=>n,λ|n=>n⟩
theorem abx:Go.Proofs.SlLaysZI.n7 Tryz.prog Li:={
 mixed:=by kernel_rfl,
 f7:=⟨Tryz.f43.name,by decide,Tryz.func43.trans (congrArg some (by kernel_rfl))⟩,
 f10:=⟨Tryz.f67.name,by decide,Tryz.func67.trans (congrArg some (by kernel_rfl))⟩,
 t0:=Tryz.underlying0,
 a0:=Tryz.isAgg0,
 z0:=Tryz.sizeOf0,
 v0:=Tryz.zeroValue0,
 t4:=Tryz.underlying4,
 a4:=Tryz.isAgg4,
 z4:=Tryz.sizeOf4,
 v4:=Tryz.zeroValue4,
 t23:=Tryz.underlying88,
 a23:=Tryz.isAgg88,
 z23:=Tryz.sizeOf88,
 v23:=Tryz.zeroValue88,
 t26:=Tryz.underlying3,
 a26:=Tryz.isAgg3,
 z26:=Tryz.sizeOf3,
 v26:=Tryz.zeroValue3,
 t27:=Tryz.underlying93,
 a27:=Tryz.isAgg93,
 z27:=Tryz.sizeOf93,
 v27:=Tryz.zeroValue93,
 t28:=Tryz.underlying94,
 a28:=Tryz.isAgg94,
 z28:=Tryz.sizeOf94,
 v28:=Tryz.zeroValue94,
 t33:=Tryz.underlying120,
 a33:=Tryz.isAgg120,
 z33:=Tryz.sizeOf120,
 v33:=Tryz.zeroValue120 }
def Gk:Go.Shelf.Ren:=⟨λ|6=>41|8=>64|9=>65|11=>86|13=>88|12=>87|23=>108|24=>109|14=>100|15=>101|16=>102|17=>103|18=>104|19=>105|20=>79|21=>106|22=>107|25=>117|26=>118|27=>119|28=>120|29=>121|30=>90|31=>128|n=>n,λ|26=>3|28=>94|24=>41|0=>0|3=>3|37=>79|48=>38|50=>160|4=>4|40=>153|39=>152|45=>104|5=>5|9=>9|51=>174|55=>178|57=>183|58=>184|33=>120|n=>n,λ|n=>n⟩
theorem Qj:Go.Proofs.SlLaysZI.n6 Tryz.prog Gk:={
 mixed:=by kernel_rfl,
 f6:=⟨Tryz.f41.name,by decide,Tryz.func41.trans (congrArg some (by kernel_rfl))⟩,
 f8:=⟨Tryz.f64.name,by decide,Tryz.func64.trans (congrArg some (by kernel_rfl))⟩,
 f11:=⟨Tryz.f86.name,by decide,Tryz.func86.trans (congrArg some (by kernel_rfl))⟩,
 t0:=Tryz.underlying0,
 a0:=Tryz.isAgg0,
 z0:=Tryz.sizeOf0,
 v0:=Tryz.zeroValue0,
 t24:=Tryz.underlying41,
 a24:=Tryz.isAgg41,
 z24:=Tryz.sizeOf41,
 v24:=Tryz.zeroValue41,
 t26:=Tryz.underlying3,
 a26:=Tryz.isAgg3,
 z26:=Tryz.sizeOf3,
 v26:=Tryz.zeroValue3,
 t28:=Tryz.underlying94,
 a28:=Tryz.isAgg94,
 z28:=Tryz.sizeOf94,
 v28:=Tryz.zeroValue94,
 i26:=by kernel_rfl }
def Rx:Go.Shelf.Ren:=⟨λ|5=>65|8=>88|7=>87|19=>108|20=>109|10=>100|11=>101|12=>102|13=>103|14=>104|15=>105|16=>79|17=>106|18=>107|30=>117|31=>118|32=>119|33=>120|34=>121|35=>90|40=>128|n=>n,λ|23=>41|25=>3|3=>3|32=>79|22=>41|0=>0|44=>38|46=>160|4=>4|36=>153|35=>152|41=>104|5=>5|9=>9|53=>174|57=>178|63=>183|64=>184|n=>n,λ|n=>n⟩
theorem Yi:Go.Proofs.SlLaysM.n5 Tryz.prog Rx:={
 mixed:=by kernel_rfl,
 f5:=⟨Tryz.f65.name,by decide,Tryz.func65.trans (congrArg some (by kernel_rfl))⟩,
 f7:=⟨Tryz.f87.name,by decide,Tryz.func87.trans (congrArg some (by kernel_rfl))⟩,
 f8:=Tryz.func88.trans (congrArg some (by kernel_rfl)),
 f10:=⟨Tryz.f100.name,by decide,Tryz.func100.trans (congrArg some (by kernel_rfl))⟩,
 f11:=⟨Tryz.f101.name,by decide,Tryz.func101.trans (congrArg some (by kernel_rfl))⟩,
 f12:=⟨Tryz.f102.name,by decide,Tryz.func102.trans (congrArg some (by kernel_rfl))⟩,
 f13:=⟨Tryz.f103.name,by decide,Tryz.func103.trans (congrArg some (by kernel_rfl))⟩,
 f14:=⟨Tryz.f104.name,by decide,Tryz.func104.trans (congrArg some (by kernel_rfl))⟩,
 f15:=⟨Tryz.f105.name,by decide,Tryz.func105.trans (congrArg some (by kernel_rfl))⟩,
 f16:=⟨Tryz.f79.name,by decide,Tryz.func79.trans (congrArg some (by kernel_rfl))⟩,
 f17:=⟨Tryz.f106.name,by decide,Tryz.func106.trans (congrArg some (by kernel_rfl))⟩,
 f18:=⟨Tryz.f107.name,by decide,Tryz.func107.trans (congrArg some (by kernel_rfl))⟩,
 f19:=Tryz.func108.trans (congrArg some (by kernel_rfl)),
 f20:=Tryz.func109.trans (congrArg some (by kernel_rfl)),
 f30:=⟨Tryz.f117.name,by decide,Tryz.func117.trans (congrArg some (by kernel_rfl))⟩,
 f31:=Tryz.func118.trans (congrArg some (by kernel_rfl)),
 f32:=Tryz.func119.trans (congrArg some (by kernel_rfl)),
 f33:=⟨Tryz.f120.name,by decide,Tryz.func120.trans (congrArg some (by kernel_rfl))⟩,
 f34:=⟨Tryz.f121.name,by decide,Tryz.func121.trans (congrArg some (by kernel_rfl))⟩,
 f35:=⟨Tryz.f90.name,by decide,Tryz.func90.trans (congrArg some (by kernel_rfl))⟩,
 f40:=⟨Tryz.f128.name,by decide,Tryz.func128.trans (congrArg some (by kernel_rfl))⟩,
 t0:=Tryz.underlying0,
 a0:=Tryz.isAgg0,
 z0:=Tryz.sizeOf0,
 v0:=Tryz.zeroValue0,
 t3:=Tryz.underlying3,
 a3:=Tryz.isAgg3,
 z3:=Tryz.sizeOf3,
 v3:=Tryz.zeroValue3,
 t4:=Tryz.underlying4,
 a4:=Tryz.isAgg4,
 z4:=Tryz.sizeOf4,
 v4:=Tryz.zeroValue4,
 t5:=Tryz.underlying5,
 a5:=Tryz.isAgg5,
 z5:=Tryz.sizeOf5,
 v5:=Tryz.zeroValue5,
 t9:=Tryz.underlying9,
 a9:=Tryz.isAgg9,
 z9:=Tryz.sizeOf9,
 v9:=Tryz.zeroValue9,
 t22:=Tryz.underlying41,
 a22:=Tryz.isAgg41,
 z22:=Tryz.sizeOf41,
 v22:=Tryz.zeroValue41,
 t23:=Tryz.underlying41,
 a23:=Tryz.isAgg41,
 z23:=Tryz.sizeOf41,
 v23:=Tryz.zeroValue41,
 t25:=Tryz.underlying3,
 a25:=Tryz.isAgg3,
 z25:=Tryz.sizeOf3,
 v25:=Tryz.zeroValue3,
 t32:=Tryz.underlying79,
 a32:=Tryz.isAgg79,
 z32:=Tryz.sizeOf79,
 v32:=Tryz.zeroValue79,
 t35:=Tryz.underlying152,
 a35:=Tryz.isAgg152,
 z35:=Tryz.sizeOf152,
 v35:=Tryz.zeroValue152,
 t36:=Tryz.underlying153,
 a36:=Tryz.isAgg153,
 z36:=Tryz.sizeOf153,
 v36:=Tryz.zeroValue153,
 t41:=Tryz.underlying104,
 a41:=Tryz.isAgg104,
 z41:=Tryz.sizeOf104,
 v41:=Tryz.zeroValue104,
 t44:=Tryz.underlying38,
 a44:=Tryz.isAgg38,
 z44:=Tryz.sizeOf38,
 v44:=Tryz.zeroValue38,
 t46:=Tryz.underlying160,
 a46:=Tryz.isAgg160,
 z46:=Tryz.sizeOf160,
 v46:=Tryz.zeroValue160,
 t53:=Tryz.underlying174,
 a53:=Tryz.isAgg174,
 z53:=Tryz.sizeOf174,
 v53:=Tryz.zeroValue174,
 t57:=Tryz.underlying178,
 a57:=Tryz.isAgg178,
 z57:=Tryz.sizeOf178,
 v57:=Tryz.zeroValue178,
 t63:=Tryz.underlying183,
 a63:=Tryz.isAgg183,
 z63:=Tryz.sizeOf183,
 v63:=Tryz.zeroValue183,
 t64:=Tryz.underlying184,
 a64:=Tryz.isAgg184,
 z64:=Tryz.sizeOf184,
 v64:=Tryz.zeroValue184 }
theorem Tk (m:Nat):AnyZI.SortsIn Tryz.prog Gk Fence.wide m :=
  ⟨λ rG off cap ss W H G hsz=>callsIn_wide.2 (AnyM.slices_Sort_int Yi rG off cap ss W H G hsz),
   λ p cap W=>callsIn_wide.2 (AnyM.slices_Sort_int_none Yi p cap W)⟩
def FV (F:FuncId):Prop:=∀(Bm b nn:Nat) (D0:DataW Unit) (R:Value->Option (DataW Unit×List MemPlace)) (w:World),Bm<w.heap.size->w.cell? ⟨Bm,0,none⟩=some (.map (some b))->w.ownsMap Tryz.prog 3 R b nn D0 ->
 Maps.size D0<=maxLen->Maps.size D0*8<=140737488355328->Calls Tryz.prog 41 #[.func (.func F) #[] #[.pointer (some ⟨Bm,0,none⟩)]] w λ e w'=>∃(v:Value) (ss:List Int),e=.returned v/\ss.Perm (intKeys D0) /\
  w'.ownsRow w.heap.size 3 1 v ss.length ((ss.mergeSort (λ x y=>decide (x<=y))).map encZ)/\(v=.slice none 0 0↔ss=[])/\Below w.heap.size w w'
theorem Uk:FV 66:=λ I b Q H R w hB hm hown h1 h2=>by
 refine(callsIn_wide (n:=5)).1 ?_
 have G:SeqGives Fence.wide 2 Tryz.prog 66 #[.pointer (some ⟨I,0,none⟩)] encZ (λ ss=>ss.Perm (intKeys H)) (Maps.size H) w :=
  AnyZI.keys_gives (ρ:=Lj) { aby with } Fence.wide _ trivial rfl (by omega) I b Q H w hB hm hown
 exact AnyZI.sorted_in Qj Fence.wide 5 trivial trivial trivial trivial rfl (by omega) (Tk _) (enters_of Tryz.func65 (by kernel_rfl) rfl) 66 _ trivial (enters_of Tryz.func66 (by kernel_rfl) rfl) _ _ h1 h2 w G
theorem ZA:FV 67:=λ I b Q H R w hB hm hown h1 h2=>by
 refine(callsIn_wide (n:=5)).1 ?_
 have G:SeqGives Fence.wide 2 Tryz.prog 67 #[.pointer (some ⟨I,0,none⟩)] encZ (λ ss=>ss.Perm (intKeys H)) (Maps.size H) w :=
  AnyZI.keys_gives (ρ:=Li) { abx with } Fence.wide _ trivial rfl (by omega) I b Q H w hB hm hown
 exact AnyZI.sorted_in Qj Fence.wide 5 trivial trivial trivial trivial rfl (by omega) (Tk _) (enters_of Tryz.func65 (by kernel_rfl) rfl) 67 _ trivial (enters_of Tryz.func67 (by kernel_rfl) rfl) _ _ h1 h2 w G
end Go.Am
namespace Go.Am
open Go Go.Proofs Go.RowKit
theorem Uq {c:Ctx}(hr:aA c){hp':Array Obj}(hs:c.hp.size<=hp'.size) (hb:∀k,k<c.hp.size->hp'[k]?=c.hp[k]?):c.le ⟨c.ρ,c.X,c.h,hp'⟩/\aA ⟨c.ρ,c.X,c.h,hp'⟩:=by
 have hle:c.le ⟨c.ρ,c.X,c.h,hp'⟩:=⟨hs,rfl,λ g hg _=>hb g hg,λ g cur ty fr h=>⟨cur,(hb g (Array.getElem?_eq_some_iff.1 h).1).trans h,rfl⟩,
  λ g r h=>⟨r,(hb g (Array.getElem?_eq_some_iff.1 h).1).trans h,rfl⟩,λ _ _=>rfl,λ _=>Trans.refl _,λ n g hm hρ _=>⟨n,hm,hρ⟩⟩
 exact⟨hle,⟨λ n=>iz hle (hr.slot n) (λ _ _=>rfl) (λ g hm hρ=>hb g (jE hr hm hρ)),hr.inj,hr.apart,λ g hx=>Nat.lt_of_lt_of_le (hr.xlt g hx) hs,hr.fin,hr.glob.mono hle,Nat.le_trans hr.lo hs⟩⟩
abbrev nL (l:List Nat):List D:=l.map λ(k:Nat)=>.int .i64 (k:Int)
theorem TG {c:Ctx}(hr:aA c){w':World}(hs:c.hp.size<=w'.heap.size) (hb:∀k,k<c.hp.size->w'.heap[k]?=c.hp[k]?){v:Value}{e:TypeId}{ks:List Nat}(ho:w'.ownsRow c.hp.size e 1 v ks.length (ks.map λ(k:Nat)=>Value.int .i64 (k:Int))) :
  aB ⟨c.ρ,c.X,c.h,w'.heap⟩ (.sl (nL ks)) v:=by
 rcases ho.2 with⟨rfl,h0⟩|⟨g,cap,cur,rfl,V,hg,h1,h2,h3,h4⟩
 ·have:ks=[]:=List.eq_nil_of_length_eq_zero h0;subst this;exact .iN none 0 (by unfold maxLen;omega)
 ·by_cases H:ks=[]
  ·subst H;exact .iN _ cap h2
  ·have hlen:ks.length=(nL ks).length:=by simp[nL]
   have hcell:∀i j d,aT (nL ks) i j=some d->j=0/\∃k,ks[i]?=some k/\d=.int .i64 (k:Int):=by
    grind [aT,D.cells]
   have G:∀(i k:Nat),ks[i]?=some k->cur.getD i Go.undef=.int .i64 (k:Int)/\i<cur.size:=by
    intro i k I;have hi:=(ar.1 I).1;have Z:(cur.toList.take (ks.length*1))[i]?=(ks.map λ(k:Nat)=>Value.int .i64 (k:Int))[i]?:=by rw[h4]
    rw[List.getElem?_take_of_lt (by omega),List.getElem?_map,I]at Z;have Q:i<cur.size:=by grind
    refine⟨?_,Q⟩;rw[<- aO];simp[List.getD,Z]
   rw[hlen];refine aB.sl (nL ks) g 0 cap 1 (λ i _=>cur.getD i Go.undef) (by simpa[nL] using H) (by rw[<- hlen];exact h1) h2 (by omega) (λ x hx=>?_) (λ i j d hd=>?_) (λ i j d hd=>?_) ?_ (λ i j d hd=>?_)
   ·simp only[nL,List.mem_map]at hx;obtain⟨k,-,rfl⟩:=hx;rfl
   ·obtain⟨-,k,-,rfl⟩:=hcell i j d hd;rfl
   ·grind [dC]
   ·rintro (hx|⟨n,hm,hρ⟩)
    ·have:=hr.xlt g hx;omega
    grind [jE]
   ·obtain⟨rfl,k,I,rfl⟩:=hcell i j d hd;rw[(G i k I).1];exact .int _ _
structure M5 (ents:List (D×D)) (ks:List Nat):Prop where
 key:∀p∈ents,∃k:Nat,k<1000000/\p.1=.int .i64 (k:Int)
 len:ents.length<=1000000
 inc:ks.Pairwise (· < ·)
 mem:∀k:Nat,k∈ks ↔ ∃p,p∈ents/\p.1=.int .i64 (k:Int)
def RU:Value->Option (DataW Unit×List MemPlace):=λ _=>some (.nil,[])
open Go.Maps in
theorem um {F:FuncId}(hF:FV F){n m:Nat}{h:Heap}{ents:List (D×D)}{ks:List Nat}(hn:h n=.box (.mp m)) (hm:h m=.map (.int .i64) ents) (hk:M5 ents ks){KH:HKq}
  (hK:KH (.sl (nL ks)) h):ag PP br [.fn F [] [.ptr n 0 0]] h KH:=by
 intro c w vals hh hp hr hs hrel;subst hh;have r0:=hrel 0 _ rfl
 obtain⟨va,c3⟩:∃va,vals = #[va]:=by
  obtain⟨l⟩:=vals
  match l,hs with
  | [x],_=>exact⟨x,rfl⟩
 subst c3;have e0:(#[va]:Array Value).getD 0 Go.undef=va:=rfl;rw[e0]at r0
 cases r0 with
 | fn _ _ _ xa xb hsa hsb hra hrb =>
  have rb:=hrb 0 _ rfl;obtain⟨xa⟩:=xa;obtain⟨xb⟩:=xb
  match xa,hsa,xb,hsb with
  | [],_,[pv],_ =>
   have e1:(#[pv]:Array Value).getD 0 Go.undef=pv:=rfl;rw[e1]at rb
   cases rb with
   | ptrDead _ _ _ _ _ hd=>rw[hn]at hd;cases hd
   | ptrRow _ _ _ _ _ _ H=>rw[hn]at H;cases H
   | ptrBox _ _ g v hv hρ =>
    have b3:=hr.slot n;rw[hn]at b3;obtain⟨g',cur,ty,q1,q2,q3,q4⟩:=b3;rw[hρ]at q1;cases q1;obtain⟨-,rm⟩:=q4 0 _ rfl;have g0:0<cur.size:=by rw[q3];simp[D.cells]
    generalize g3:cur.getD 0 Go.undef=cv at rm
    cases rm with
    | mpDead _ _ hd=>rw[hm]at hd;cases hd
    | mp _ gm kt g6 e9 c2 =>
     have b2:=hr.slot m;rw[hm]at b2;obtain⟨g5,es,clock,p1,p2,p3,c1,p4⟩:=b2;rw[c2]at p1;cases p1
     have hcell:w.cell? ⟨g,0,none⟩=some (.map (some gm)):=by
      grind [pD,dC]
     have zN:∀x∈es.toList,∃p,p∈ents/\∃k:Nat,k<1000000/\p.1=.int .i64 (k:Int)/\x.key=.int .i64 (k:Int):=by
      intro x hx;obtain⟨i,hi,rfl⟩:=List.mem_iff_getElem.1 hx;have e4:i<es.size:=by simpa using hi
      have a6:ents[i]?=some ents[i]:=aq (by omega);obtain⟨a1,a2,e,a3,a4,a5⟩:=p4 i _ a6;rw[Array.getElem?_eq_getElem e4]at a3;cases a3;obtain⟨k,Q,a7⟩:=hk.key _ (ak a6);refine⟨_,ak a6,k,Q,a7,?_⟩;rw[a7]at a4;have e5:es.toList[i]=es[i]:=by simp
      rw[e5];generalize es[i].key=kk at a4;cases a4;rfl
     have tn:∀p∈ents,∃x,x∈es.toList/\∀k:Nat,p.1=.int .i64 (k:Int)->x.key=.int .i64 (k:Int):=by
      intro p I;obtain⟨i,hi,rfl⟩:=List.mem_iff_getElem.1 I;have a6:ents[i]?=some ents[i]:=aq hi;obtain⟨a1,a2,e,a3,a4,a5⟩:=p4 i _ a6;refine⟨e,by grind,λ k Q=>?_⟩;rw[Q]at a4;generalize e.key=kk at a4;cases a4;rfl
     have e7:∀k:Nat,k<1000000->(Lit.int .i64 (k:Int)).wf=true:=by
      intro k Q;have e1:IntKind.i64.min = -9223372036854775808:=rfl;have e2:IntKind.i64.max=9223372036854775807:=rfl;grind [Lit.wf]
     have c4:∀x∈es.toList,∀k:Nat,k<1000000->x.key=.int .i64 (k:Int)->WideElems.rd Tryz.prog 3 RU x=some (.int .i64 (k:Int),.nil):=by
      intro x hx k Q a7;exact WideElems.rd_mk (R:=RU) (yv:=(.nil,[])) (key:=x.key) (val:=x.val) (born:=x.born) (by grind [keyOf_int_mk,Tryz.underlying3]) rfl
     have c0:WideElems.Fit Tryz.prog 3 RU es clock:=⟨by rw[p3];have:=hk.len;unfold maxLen;omega,c1,λ x hx=>by
      grind⟩
     have hown:w.ownsMap Tryz.prog 3 RU gm es.size (.map ((es.toList.map (WideElems.rg Tryz.prog 3 RU)).foldr DataW.insert [])):=⟨es,clock,by rw[<- hp];exact p2,c0,Nat.le_refl _,rfl⟩
     have Z:Maps.size (.map ((es.toList.map (WideElems.rg Tryz.prog 3 RU)).foldr DataW.insert []))=es.size:=by
      rw[Maps.size_eq,(WideShapes.sorted_perm _).length_eq];simp
     obtain⟨a8,hD,c5,-⟩:=hown.entries (int_keyed Tryz.underlying3);have g4:(es.toList.map (WideElems.rg Tryz.prog 3 RU)).foldr DataW.insert []=a8:=by simpa using hD
     have b1:∀p,p∈a8 ↔ ∃x,x∈es.toList/\WideElems.rg Tryz.prog 3 RU x=p:=by
      grind [mem_sorted]
     have b7:∀x:Int,x∈ks.map (λ(k:Nat)=>(k:Int))↔has (.map a8) (.int .i64 x)=true:=by
      intro x;rw[has_eq,List.any_eq_true,List.mem_map];constructor
      ·rintro⟨k,e3,rfl⟩;obtain⟨p,I,c6⟩:=(hk.mem k).1 e3;obtain⟨y,hy,e6⟩:=tn p I;obtain⟨k',Q,a7⟩:=hk.key p I;rw[c6]at a7
       have:k=k':=by
        grind
       subst this;exact⟨_,(b1 _).2 ⟨y,hy,rfl⟩,by grind [WideElems.rg_of,Lit.sameKey]⟩
      ·rintro⟨p,I,b4⟩;obtain⟨y,hy,rfl⟩:=(b1 p).1 I;obtain⟨q,hq,k,k1,k2,k3⟩:=zN y hy;rw[WideElems.rg_of (c4 y hy k k1 k3)]at b4;refine⟨k,(hk.mem k).2 ⟨q,hq,k2⟩,by simpa[Lit.sameKey] using b4⟩
     have c7:(ks.map λ(k:Nat)=>(k:Int)).Perm (intKeys (.map a8)):=perm_intKeys c5 (λ p I=>by
      grind [WideElems.rg_of]) (by
      rw[List.nodup_iff_pairwise_ne,List.pairwise_map]
      exact hk.inc.imp λ h1 h2=>by omega) b7
     have V:(ks.map λ(k:Nat)=>(k:Int)).mergeSort (λ x y=>decide (x<=y))=ks.map λ(k:Nat)=>(k:Int):=by
      refine List.mergeSort_of_pairwise ?_;rw[List.pairwise_map];exact hk.inc.imp λ h1=>by simp;omega
     refine(hF g gm es.size _ RU w (by grind) hcell hown (by rw[Z,p3];have:=hk.len;unfold maxLen;omega) (by rw[Z,p3];have:=hk.len;omega)).mono ?_;rintro e w' ⟨v,ss,rfl,e8,H,-,G⟩
     have b5:ss.Perm (ks.map λ(k:Nat)=>(k:Int)):=by
      grind
     have c8:ss.mergeSort (λ x y=>decide (x<=y))=ks.map λ(k:Nat)=>(k:Int):=(mergeSort_of_perm_i b5).trans V
     have hlen:ss.length=ks.length:=by have:=b5.length_eq;simpa using this
     rw[c8,hlen,List.map_map]at H;obtain⟨g1,g2⟩:=Uq (c:=c) hr (hp':=w'.heap) (by rw[hp];exact G.size) (λ k hk=>by rw[hp];exact G.block k (by rw[<- hp];exact hk));exact⟨v,.sl (nL ks),c.ρ,c.h,rfl,g1,g2,⟨G.os,G.tape,G.output⟩,TG hr (by rw[hp];exact G.size) (λ k hk=>by rw[hp];exact G.block k (by rw[<- hp];exact hk)) (by rw[hp];exact H),hK⟩
end Go.Am
namespace Go.Am
open Go
variable [ca]
variable {P:Program}{KH:HKq}{K:D->Prop}{h:Heap}{L:LSq}
def nD (k:Nat):D:=.int .i64 (k:Int)
def aR (l:List Nat):List D:=l.map nD
def QV (h:Heap) (L:LSq) (v:D) (T:List Nat):Prop :=
 (v=.nil/\T=[]/\Vs h L)\/∃m off els,v=.ms m off T.length/\Vs h ((m,.arr 1 els)::L)/\off+T.length<=els.length/\(els.drop off).take T.length=aR T/\∀x∈els,x.one=true
theorem Cw {l:List Nat}:∀x,x∈aR l->x.one=true:=λ x hx=>by
 simp only[aR,List.mem_map]at hx;obtain⟨k,-,rfl⟩:=hx;rfl
theorem tT {l:List Nat}:∀x,x∈aR l->aL x:=λ x hx=>by
 simp only[aR,List.mem_map]at hx;obtain⟨k,-,rfl⟩:=hx;exact(aI).one
theorem bk {l:List Nat}:(aR l).length=l.length:=by simp[aR]
theorem fC {l:List Nat}{i k:Nat}(h:l[i]?=some k):(aR l)[i]?=some (nD k):=by simp[aR,h]
variable {v:D}{T:List Nat}
theorem QV.vs (q:QV h L v T):Vs h L:=by
 rcases q with⟨-,-,V⟩|⟨m,off,els,-,V,-⟩
 ·exact V
 ·exact V.pop
theorem QV.len (q:QV h L v T):aM v h K=K (.int .i64 (T.length:Int)):=by
 rcases q with⟨rfl,rfl,V⟩|⟨m,off,els,rfl,V,-⟩
 ·rw[B6];rfl
 ·rw[bH];apply propext;exact⟨λ H=>H.2,λ G=>⟨by rw[V.get 0 _ _ rfl];rfl,G⟩⟩
theorem QV.nil (V:Vs h L):QV h L .nil []:=Or.inl ⟨rfl,rfl,V⟩
theorem QV.ex (q:QV h L v T) (hT:T≠[]):∃m off els,v=.ms m off T.length/\Vs h ((m,.arr 1 els)::L)/\off+T.length<=els.length/\(els.drop off).take T.length=aR T/\∀x∈els,x.one=true:=by
 rcases q with⟨-,rfl,-⟩|q
 ·exact absurd rfl hT
 ·exact q
theorem QV.get (q:QV h L v T){i k:Nat}(hk:T[i]?=some k){KH:HKq}(hK:KH (nD k) h):ab P (.iadd (.c v) (.c (.int .i64 (i:Int))) 1) h λ a h1=>ab P (.ld (.c a) 1 false) h1 KH:=by
 have hi:=(ar.1 hk).1;obtain⟨m,off,els,rfl,V,h1,h2,h3⟩:=q.ex (by rintro rfl;simp at hk);have hm:=V.get 0 _ _ rfl;rw[pw];refine⟨by omega,by omega,⟨els,by rw[hm];rfl⟩,?_⟩
 have he:els[off+i]?=some (nD k):=by
  have:=fC hk;grind
 rw[aE,V.yQ 0 rfl he rfl];exact hK
theorem QV.MJ (q:QV h L v T){i k:Nat}(hk:T[i]?=some k){K:D->Prop}(hK:K (nD k)):au P (.iadd (.c v) (.c (.int .i64 (i:Int))) 1) h λ a=>au P (.ld (.c a) 1 false) h K:=by
 have:=QV.get (P:=P) q hk (KH:=λ d _=>K d) hK;exact this
theorem QV.mZ (q:QV h L v T){lo hi:Option Nat}{a b:Nat}(ha:a=lo.getD 0) (hb:b=hi.getD T.length) (hab:a<=b) (hbl:b<=T.length) (hT:T≠[]){KH:HKq}(hK:∀v',QV h L v' ((T.drop a).take (b-a))->KH v' h) :
  ab P (.mZ (.c v) (lo.map λ(x:Nat)=>.c (.int .i64 (x:Int))) (hi.map λ(x:Nat)=>.c (.int .i64 (x:Int))) none 1) h KH:=by
 obtain⟨m,off,els,rfl,V,h1,h2,h3⟩:=q.ex hT;have hm:=V.get 0 _ _ rfl;have hl:((T.drop a).take (b-a)).length=b-a:=by grind
 have key:KH (.ms m (off+a) (b-a)) h:=by
  grind [aR,List.map_take,List.map_drop,List.drop_take,List.drop_drop,QV]
 have row:∃els,(h m).row=some (1,els):=⟨els,by rw[hm];rfl⟩
 cases lo with
 | none =>
  cases hi with
  | none=>simp at ha hb;subst ha;subst hb;exact⟨by omega,by omega,by omega,by omega,row,by simpa using key⟩
  | some y=>simp at ha hb;subst ha;subst hb;exact⟨by omega,by omega,by omega,by omega,row,by simpa using key⟩
 | some x =>
  cases hi with
  | none=>simp at ha hb;subst ha;subst hb;exact⟨by omega,by omega,by omega,by omega,row,by grind⟩
  | some y=>simp at ha hb;subst ha;subst hb;exact⟨by omega,by omega,by omega,by omega,row,by grind⟩
theorem QV.abW (q:QV h L v T){lo hi:Option Nat}{a b:Nat}(ha:a=lo.getD 0) (hb:b=hi.getD T.length) (hab:a<=b) (hbl:b<=T.length) (hT:T≠[]){K:D->Prop}(hK:∀v',QV h L v' ((T.drop a).take (b-a))->K v') :
  au P (.mZ (.c v) (lo.map λ(x:Nat)=>.c (.int .i64 (x:Int))) (hi.map λ(x:Nat)=>.c (.int .i64 (x:Int))) none 1) h K :=
 QV.mZ (P:=P) q ha hb hab hbl hT (KH:=λ d _=>K d) hK
theorem QV.one (V:Vs h L){z:D}{k:Nat}{fz:Bool}{KH:HKq}(hK:∀v h',QV h' L v [k]->KH v h'):ab P (.bldS fz 1 1 z [(0,.c (nD k))]) h KH:=by
 refine⟨λ p hp=>by simp[Arg.get]at hp;subst hp;exact⟨Nat.one_pos,rfl,(aI (k:=.i64) (n:=(k:Int))).one⟩,λ G p hp=>?_,λ n t=>?_⟩
 ·simp[Arg.get]at hp;subst hp;intro x hx;simp[nD,D.cells]at hx;subst hx;trivial
 ·have:KH (.ms n 0 1) (aF h n (.arr 1 [nD k])):=by
   refine hK _ _ (Or.inr ⟨n,0,[nD k],rfl,V.push t.free (by simp),by simp,by simp[aR],λ x hx=>by simp at hx;subst hx;rfl⟩)
  grind [Arg.get,setEls,D.fz,D.fzc,D.nm,D.lG,nD,Heap.freezeAll]
theorem Ln {s x z:D}{esz bytes:Nat}:ab P (.app (.c s) (.c x) esz bytes z) h KH=velems esz x h λ ys=>(∀y∈ys,aL y)/\match s with
  | .nil=>(ys.length*bytes<=140737488355328/\ys.length<=9223372036854775807)/\∀n,qE h n->KH (.ms n 0 ys.length) (aF h n (.arr esz ys))
  | .ms m off len=>∃els,FX h m esz els/\off+len=els.length/\((len+ys.length)*bytes<=140737488355328/\len+ys.length<=9223372036854775807) /\
    ∀n,qE h n->KH (.ms n 0 (len+ys.length)) (aF (aF h m .dead) n (.arr esz (els.drop off++ys))) /\
     (off≠0->KH (.ms n off (len+ys.length)) (aF (aF h m .dead) n (.arr esz (els++ys))))
  | _=>False:=rfl
theorem QV.app (q:QV h L v T){z x:D}{bytes:Nat}{ks:List Nat}{KH:HKq}(hx:∀{K:List D->Prop},K (aR ks)->velems 1 x h K) (hb:(T.length+ks.length)*bytes<=140737488355328) (hl:T.length+ks.length<=9223372036854775807)
  (hK:∀v h',QV h' L v (T++ks)->KH v h'):ab P (.app (.c v) (.c x) 1 bytes z) h KH:=by
 rw[Ln];refine hx ⟨tT,?_⟩;rcases q with⟨rfl,rfl,V⟩|⟨m,off,els,rfl,V,h1,h2,h3⟩
 ·refine⟨⟨by rw[bk];simpa using hb,by rw[bk];simpa using hl⟩,λ n t=>hK _ _ ?_⟩;rw[bk,List.nil_append];exact Or.inr ⟨n,0,aR ks,rfl,V.push t.free (by simp),by rw[bk];omega,by grind [bk],Cw⟩
 ·have hm:=V.get 0 _ _ rfl;have a1:(els.take (off+T.length)).length=off+T.length:=by rw[List.length_take];omega
  have H:∀x,x∈els.take (off+T.length)++aR ks->x.one=true:=λ x hx=>by
   grind [Cw]
  have I:(els.take (off+T.length)).drop off=aR T:=by grind
  have Q:aR T++aR ks=aR (T++ks):=by simp[aR]
  have hlen:(T++ks).length=T.length+ks.length:=List.length_append;refine⟨els.take (off+T.length),⟨els.drop (off+T.length),by rw[List.take_append_drop];exact hm⟩,a1.symm,⟨by rw[bk];exact hb,by rw[bk];exact hl⟩,λ n t=>?_⟩
  have Vn:∀G:List D,Vs (aF (aF h m .dead) n (.arr 1 G)) ((n,.arr 1 G)::L):=λ G=>by
   have hne:n≠m:=by rintro rfl;rw[t.free]at hm;cases hm
   have V1:Vs (aF h m .dead) L:=by
    refine V.pop.QC λ k s hi=>?_
    have:k≠m:=λ e=>by
     obtain⟨i,Z⟩:=hi;exact V.ne (i+1) 0 k m s _ (by simpa using Z) rfl (by omega) e
    exact an _ _ this
   exact V1.push (by rw[an _ _ hne];exact t.free) (by simp)
  rw[I,Q,bk];refine⟨hK _ _ (Or.inr ⟨n,0,aR (T++ks),by rw[hlen],Vn _,by rw[bk];omega,by grind [bk],Cw⟩),λ _=>hK _ _ (Or.inr ⟨n,off,els.take (off+T.length)++aR ks,by rw[hlen],Vn _,?_,?_,H⟩)⟩
  ·grind [bk]
  grind [bk]
theorem Vs.swap {x y:Nat×Slot}(V:Vs h (x::y::L)):Vs h (y::x::L):=by
 let f:Nat->Nat:=λ i=>if i=0 then 1 else if i=1 then 0 else i
 have G:∀i,(y::x::L)[i]?=(x::y::L)[f i]?:=λ i=>by
  grind
 have inj:∀i j,f i=f j->i=j:=λ i j h=>by
  grind
 exact⟨λ i n s hi=>V.get (f i) n s (by rw[<- G];exact hi),λ i j n m s s' hi I H=>V.ne (f i) (f j) n m s s' (by rw[<- G];exact hi) (by rw[<- G];exact I) λ e=>H (inj _ _ e),λ i n s hi=>V.lv (f i) n s (by rw[<- G];exact hi)⟩
theorem QV.bK (q:QV h L v T) (i:Nat){n:Nat}{s s':Slot}(hi:L[i]?=.some (n,s)) (hs:s'≠.free):QV (aF h n s') (L.set i (n,s')) v T:=by
 rcases q with⟨rfl,rfl,V⟩|⟨m,off,els,rfl,V,h1,h2,h3⟩
 ·exact Or.inl ⟨rfl,rfl,V.bK i hi hs⟩
 ·exact Or.inr ⟨m,off,els,rfl,by have:=V.bK (i+1) (n:=n) (s:=s) (by simpa using hi) hs;simpa using this,h1,h2,h3⟩
theorem QV.more (q:QV h L v T){n:Nat}(hn:h n=.free){s:Slot}(hs:s≠.free):QV (aF h n s) ((n,s)::L) v T:=by
 rcases q with⟨rfl,rfl,V⟩|⟨m,off,els,rfl,V,h1,h2,h3⟩
 ·exact Or.inl ⟨rfl,rfl,V.push hn hs⟩
 ·exact Or.inr ⟨m,off,els,rfl,(V.push hn hs).swap,h1,h2,h3⟩
theorem QV.less {x:Nat×Slot}(q:QV h (x::L) v T):QV h L v T:=by
 rcases q with⟨rfl,rfl,V⟩|⟨m,off,els,rfl,V,h1,h2,h3⟩
 ·exact Or.inl ⟨rfl,rfl,V.pop⟩
 ·exact Or.inr ⟨m,off,els,rfl,V.swap.pop,h1,h2,h3⟩
theorem Y8 {n j:Nat}{els:List D}{d:D}(hn:h n=.arr 1 els) (hj:j<els.length) (ho:d.one=true) (h1:∀x∈els,x.one=true):KH .undef (aF h n (.arr 1 (els.set j d)))->ab P (.st (.c (.ptr n j 0)) (.c d) 1) h KH:=by
 intro H;rw[kW,hn];have hc:∀d:D,d.one=true->d.cells=[d]:=λ d ho=>by cases d<;>first|rfl|cases ho
 refine⟨by rw[hc d ho];rfl,λ x hx=>by grind,hj,by omega,λ y hy=>?_⟩;have G:=h1 y (ak hy);have e:setCells y 0 d.cells=d:=by rw[hc d ho];cases y<;>first|rfl|cases G
 rw[e];exact H
theorem QV.wA (q:QV h L v T) (i:Nat){n j:Nat}{els:List D}{d:D}(hi:L[i]?=.some (n,.arr 1 els)) (hj:j<els.length) (ho:d.one=true) (h1:∀x∈els,x.one=true)
  (hK:∀h',QV h' (L.set i (n,.arr 1 (els.set j d))) v T->KH .undef h'):ab P (.st (.c (.ptr n j 0)) (.c d) 1) h KH :=
 Y8 (q.vs.get i _ _ hi) hj ho h1 (hK _ (q.bK i hi (by simp)))
theorem QV.alloc (q:QV h L v T){d:D}(hK:∀n h',QV h' ((n,.box d)::L) v T->KH (.ptr n 0 0) h'):ab P (.alloc d) h KH:=by
 rw[gP];exact λ n t=>hK n _ (q.more t.free (by simp))
theorem QV.mY (q:QV h L v T) (i:Nat){n s:Nat}{cs cs':List D}(hi:L[i]?=.some (n,.box (.agg cs))) (hl:cs.length=s) (hl':cs'.length=s) (ho:∀x,x∈cs'->x.one=true)
  (hK:∀h',QV h' (L.set i (n,.box (.agg cs'))) v T->KH .undef h'):ab P (.st (.c (.ptr n 0 0)) (.c (.agg cs')) s) h KH:=by
 rw[kW,q.vs.get i _ _ hi];refine⟨hl',ho,rfl,by simp[hl],?_⟩
 have e:setCells (.agg cs) 0 (D.agg cs').cells=.agg cs':=by
  show D.agg (cs.take 0++cs'++cs.drop (0+cs'.length))=_
  grind
 rw[e];exact hK _ (q.bK i hi (by simp))
theorem QV.ret (q:QV h L v T){K:D->Prop}(hk:K (.sl (aR T))) (hn:T=[]->K .nil):ky K v h:=by
 rcases q with⟨rfl,rfl,V⟩|⟨m,off,els,rfl,V,h1,h2,h3⟩
 ·rw[IC];exact hn rfl
 ·have G:(h m).row=some (1,els):=by rw[V.get 0 _ _ rfl];rfl
  have e:(D.ms m off T.length).fzt h=.sl (aR T):=by grind [D.fzt,D.fz,D.fzc]
  have H:∀x,x∈(els.drop off).take T.length->∀y∈x.cells,y.vone=true:=by
   rw[h2];intro x hx y hy;simp only[aR,List.mem_map]at hx;obtain⟨k,-,rfl⟩:=hx;simp[nD,D.cells]at hy;subst hy;rfl
  refine⟨(by simp:aL (D.ms m off T.length)),?_,by rw[e];rfl,by rw[e];exact hk⟩;intro x hx;simp only[D.cells,List.mem_singleton]at hx;subst hx;exact⟨1,els,G,h1,H⟩
theorem O4 {ks:List Nat}{K:List D->Prop}(hk:K (aR ks)):velems 1 (.sl (aR ks)) h K :=
 ⟨λ e he=>by simp only[aR,List.mem_map]at he;obtain⟨k,-,rfl⟩:=he;rfl,hk⟩
theorem QV.vel {ks:List Nat}(q:QV h L v ks){K:List D->Prop}(hk:K (aR ks)):velems 1 v h K:=by
 rcases q with⟨rfl,rfl,V⟩|⟨m,off,els,rfl,V,h1,h2,h3⟩
 ·exact hk
 ·exact⟨els,by rw[V.get 0 _ _ rfl];rfl,h1,by rw[h2];exact hk⟩
theorem QV.push (q:QV h L v T){z z':D}{bytes k:Nat}{fz:Bool}{KH:HKq}(hb:(T.length+1)*bytes<=140737488355328) (hl:T.length+1<=9223372036854775807)
  (hK:∀v h',QV h' L v (T++[k])->KH v h'):ab P (.bldS fz 1 1 z [(0,.c (nD k))]) h λ x h1=>ab P (.app (.c v) (.c x) 1 bytes z') h1 KH:=by
 rcases q with⟨rfl,rfl,V⟩|⟨m,off,els,rfl,V,h1,h2,h3⟩
 ·refine QV.one V λ x h1 G=>?_
  have H:QV h1 L .nil []:=QV.nil G.vs;exact H.app (ks:=[k]) (λ I=>G.vel I) (by simp at hb ⊢;omega) (by simp) hK
 ·refine QV.one V λ x h1 G=>?_
  have H:QV h1 L (.ms m off T.length) T:=Or.inr ⟨m,off,els,rfl,G.vs,by assumption,h2,h3⟩;exact H.app (ks:=[k]) (λ I=>G.vel I) (by simpa using hb) (by simpa using hl) hK
end Go.Am
namespace Go.Am
open Go Go.Proofs
def bf (t:Term):List Nat:=if t.kind=5 then [] else if t.kind=2/\t.to0≠t.to1 then [t.to0.toNat,t.to1.toNat] else [t.to0.toNat]
theorem zr.succ {N:Nat}{R:Int}{t:Term}(h:zr N R t):∀b,b∈bf t->b<N:=by
 intro b hb
 cases h with
 | branch o x y ho h1 h2 =>
  grind [bf]
 | jump a h=>simp[bf]at hb;omega
 | barrier a h=>simp[bf]at hb;omega
 | collect s d a b t hs hd ha G h=>simp[bf]at hb;omega
 | exit=>simp[bf]at hb
theorem NU {P:Program}{n i j l s:Nat}{k:IntKind}{a:Int}{h:Heap}{KH:HKq}:ab P (.iadda (.c (.ptr n i j)) (.c (.int k a)) l s) h KH=(0<=a/\a<l/\(h n).live=true/\KH (.ptr n i (j+a.toNat*s)) h):=rfl
theorem Vs.ZE {P:Program}{KH:HKq}{h:Heap}{L:LSq}(V:Vs h L) (i:Nat){n l j:Nat}{a:Nat}{d:D}(hi:L[i]?=some (n,.box d)) (h1:a<l):ab P (.iadda (.c (.ptr n 0 j)) (.c (.int .i64 (a:Int))) l 1) h KH=KH (.ptr n 0 (j+a)) h:=by
 rw[NU,V.get i _ _ hi];apply propext;constructor
 ·grind
 ·intro G;exact⟨by omega,by omega,rfl,by simpa using G⟩
theorem Vs.SP {P:Program}{KH:HKq}{h:Heap}{L:LSq}(V:Vs h L) (i:Nat){n l j:Nat}{cs:List D}(hi:L[i]?=some (n,.box (.agg cs))) (h0:0<l) (hl:l<=1000000) (hj:j+l<=cs.length) (hv:∀d,d∈(cs.drop j).take l->d.vone=true)
  (hK:∀h',KH (.sl ((cs.drop j).take l)) h'):ab P (.SP (.c (.ptr n 0 j)) l) h KH:=by
 show match h n with
  | .box (.agg cs)=>(0:Nat)=0/\0<l/\l<=1000000/\j+l<=cs.length/\(∀d,d∈(cs.drop j).take l->d.vone=true)/\KH (.sl ((cs.drop j).take l)) (aF h n .dead)
  | _=>False
 rw[V.get i _ _ hi];grind
theorem JP {N:Nat}{R:Int}{t:Term}(h:zr N R t):aK PP g9 [t.e] (· = .sl (aR (bf t))):=by
 refine aK.wk (K:=λ r=>r=.sl (aR (bf t))\/(r=.nil/\bf t=[])) (aZ Kr (aG _ _ _) rfl (Ka _ _) ?_) λ r hr=>?_
 ·dsimp only[GK,xB,xF,xJ,xL,xP];refine Vs.nil.box t.b9.one λ n2 h3 V=>?_
  have i0:∀{KH:HKq},ab PP (.iadda (.c (.ptr n2 0 11)) (.c (.int .i64 0)) 2 1) h3 KH=KH (.ptr n2 0 11) h3:=λ {KH}=>V.ZE 0 (a:=0) rfl (by omega)
  have i1:∀{KH:HKq},ab PP (.iadda (.c (.ptr n2 0 11)) (.c (.int .i64 1)) 2 1) h3 KH=KH (.ptr n2 0 12) h3:=λ {KH}=>V.ZE 0 (a:=1) rfl (by omega)
  have one:∀(a:Nat),ab PP (.bldS true 1 1 (.int .i64 0) [(0,.c (.int .i64 (a:Int)))]) h3 λ I H=>ky (λ r=>r=.sl (aR [a])\/r=.nil/\[a]=[]) I H:=λ a=>by
   exact QV.one (k:=a) V λ v h' q=>q.ret (Or.inl rfl) (by simp)
  cases h with
  | jump a ha =>
   simp (disch:=omega) only[↓V.fa 0 rfl,Nat.zero_add,↓V.bI 0 (j:=0) rfl rfl,↓cS,↓gS,↓i0,↓V.bI 0 (j:=11) rfl rfl];exact one a
  | barrier a ha =>
   simp (disch:=omega) only[↓V.fa 0 rfl,Nat.zero_add,↓V.bI 0 (j:=0) rfl rfl,↓cS,↓gS,↓i0,↓V.bI 0 (j:=11) rfl rfl];exact one a
  | collect s d a b t hs hd ha hb ht =>
   simp (disch:=omega) only[↓V.fa 0 rfl,Nat.zero_add,↓V.bI 0 (j:=0) rfl rfl,↓cS,↓gS,↓i0,↓V.bI 0 (j:=11) rfl rfl];exact one t
  | exit =>
   simp (disch:=omega) only[↓V.fa 0 rfl,Nat.zero_add,↓V.bI 0 (j:=0) rfl rfl,↓cS,↓gS];rw[IC];exact Or.inr ⟨rfl,rfl⟩
  | branch o a b ho ha hb =>
   simp (disch:=omega) only[↓V.fa 0 rfl,Nat.zero_add,↓V.bI 0 (j:=0) rfl rfl,↓cS,↓gS,↓i0,↓i1,↓V.bI 0 (j:=11) rfl rfl,↓V.bI 0 (j:=12) rfl rfl];by_cases G:a=b
   ·subst G;simp (disch:=omega) only[↓cS,↓gS,↓V.fa 0 rfl,Nat.zero_add,↓i0,↓V.bI 0 (j:=11) rfl rfl];have e:bf ⟨2,0,aj,o,aj,(a:Int),(a:Int)⟩=[a]:=by simp[bf]
    rw[e];exact one a
   ·simp (disch:=omega) only[↓cS,↓gS,↓V.fa 0 rfl,Nat.zero_add];have e:bf ⟨2,0,aj,o,aj,(a:Int),(b:Int)⟩=[a,b]:=by simp[bf];omega
    rw[e];refine V.SP 0 (cs:=(Term.cs ⟨2,0,aj,o,aj,(a:Int),(b:Int)⟩)) rfl (by omega) (by omega) (by simp[Term.cs]) (λ d hd=>by simp[Term.cs]at hd;rcases hd with rfl|rfl<;>rfl) λ h'=>?_
    rw[B3];exact Or.inl rfl
 ·rcases hr with rfl|⟨rfl,e⟩
  ·exact⟨_,.refl _,rfl,rfl⟩
  ·rw[e];exact⟨_,.nil,rfl,rfl⟩
inductive Path (E:Nat->List Nat) (s:Nat):Nat->Prop
 | refl:Path E s s
 | step {a b:Nat}(h:Path E s a) (hb:b∈E a):Path E s b
theorem Path.trans {E:Nat->List Nat}{a b c:Nat}(h:Path E a b) (k:Path E b c):Path E a c:=by
 induction k with
 | refl=>exact h
 | step _ hb G=>exact .step G hb
theorem Path.closed {E:Nat->List Nat}{s b:Nat}{S:Nat->Prop}(h:Path E s b) (hs:S s) (hc:∀a b,S a->b∈E a->S b):S b:=by
 induction h with
 | refl=>exact hs
 | step _ hb G=>exact hc _ _ G hb
def jS (p:Nat->Bool) (N:Nat):Nat:=(List.range N).countP λ k=> !p k
theorem JK {α:Type}{p q:α->Bool}:∀{l:List α},(∀x∈l,q x=true->p x=true)->(∃x,x∈l/\p x=true/\q x=false)->l.countP q+1<=l.countP p
 | [],_,⟨x,hx,_⟩=>by cases hx
 | y::l,h,⟨x,hx,h1,h2⟩=>by
  have hm:l.countP q<=l.countP p:=List.countP_mono_left λ z G H=>h z (by simp[G]) H
  rw[List.countP_cons,List.countP_cons];rcases List.mem_cons.1 hx with rfl|hx
  ·rw[h1,h2];simp;omega
  ·have:=JK (l:=l) (λ z G=>h z (by simp[G])) ⟨x,hx,h1,h2⟩;grind
theorem kB {p p':Nat->Bool}{N x:Nat}(h:∀k,p k=true->p' k=true) (hx:x<N) (h1:p x=false) (h2:p' x=true):jS p' N+1<=jS p N :=
 JK (λ k _ G=>by cases hp:p k<;>simp_all) ⟨x,by simpa using hx,by simp[h1],by simp[h2]⟩
end Go.Am
namespace Go.Am
open Go Go.Proofs
structure bp (c:Code):Prop where
 nb:1<=c.b.length/\c.b.length<=20
 t:∀B∈c.b,zr c.b.length c.regs B.t
theorem nQ.g {c:Code}(h:nQ c):bp c:=⟨⟨h.nb.1,Nat.le_trans h.nb.2 (by omega)⟩,λ B hB=>(h.b B hB).t⟩
def edg (c:Code) (a:Nat):List Nat:=match c.b[a]? with
 | some B=>bf B.t
 | none=>[]
theorem jr {c:Code}{a:Nat}{B:Block}(h:c.b[a]?=some B):edg c a=bf B.t:=by unfold edg;rw[h]
theorem cE {c:Code}(hc:bp c){a b:Nat}(h:b∈edg c a):b<c.b.length:=by
 unfold edg at h;split at h
 ·rename_i B hB;exact(hc.t B (ak hB)).succ b h
 ·cases h
def bL (S:List Bool):List D:=S.map .bool
theorem ic (S:List Bool):∀x,x∈bL S->x.one=true:=λ x hx=>by
 simp only[bL,List.mem_map]at hx;obtain⟨k,-,rfl⟩:=hx;rfl
theorem cr {S:List Bool}{i:Nat}{b:Bool}(h:S[i]?=some b):(bL S)[i]?=some (.bool b):=by simp[bL,h]
theorem hZ (S:List Bool) (i:Nat) (b:Bool):(bL S).set i (.bool b)=bL (S.set i b):=by simp[bL,List.map_set]
def hasB (S:List Bool) (k:Nat):Bool:=(S[k]?).getD false
theorem bJ {S:List Bool}{x k:Nat}(hx:x<S.length):hasB (S.set x true) k=(decide (k=x)||hasB S k):=by
 grind [hasB]
theorem bo {S:List Bool}{k:Nat}(hk:k<S.length):S[k]?=some (hasB S k):=by
 grind [hasB]
theorem wI (p:Nat->Bool) (N:Nat):jS p N<=N:=by
 grind [List.countP_le_length,jS]
structure OT (E:Nat->List Nat) (N s:Nat) (p:Nat->Bool) (T:List Nat):Prop where
 st:p s=true
 lt:∀k,p k=true->k<N
 td:∀k∈T,p k=true
 path:∀k,p k=true->Path E s k
 done:∀a b,p a=true->a∉T->b∈E a->p b=true
theorem OT.fin {E:Nat->List Nat}{N s:Nat}{p:Nat->Bool}(h:OT E N s p []) (k:Nat):p k=true↔Path E s k :=
 ⟨h.path k,λ hp=>hp.closed (S:=λ k=>p k=true) h.st λ a b ha hb=>h.done a b ha (by simp) hb⟩
structure lV (E:Nat->List Nat) (N s:Nat) (p:Nat->Bool) (T:List Nat) (a i:Nat):Prop where
 st:p s=true
 lt:∀k,p k=true->k<N
 td:∀k∈T,p k=true
 path:∀k,p k=true->Path E s k
 done:∀a' b,a'≠a->p a'=true->a'∉T->b∈E a'->p b=true
 pa:p a=true
 part:∀(j b:Nat),j<i->(E a)[j]?=some b->p b=true
theorem OT.pop {E:Nat->List Nat}{N s a:Nat}{p:Nat->Bool}{T T':List Nat}(h:OT E N s p T) (ha:a∈T) (hT:∀k,k∈T'->k∈T) (hT2:∀k∈T,k=a\/k∈T'):lV E N s p T' a 0 :=
 ⟨h.st,h.lt,λ k G=>h.td k (hT k G),h.path,λ a' b hne hp hn hb=>h.done a' b hp (λ hm=>by grind) hb,h.td a ha,λ j b H=>by omega⟩
theorem lV.end {E:Nat->List Nat}{N s a i:Nat}{p:Nat->Bool}{T:List Nat}(h:lV E N s p T a i) (hi:(E a).length<=i):OT E N s p T :=
 ⟨h.st,h.lt,h.td,h.path,λ a' b hp hn hb=>by
  by_cases e:a'=a
  ·subst e;obtain⟨j,G,rfl⟩:=List.mem_iff_getElem.1 hb;exact h.part j _ (by omega) (aq G)
  ·exact h.done a' b e hp hn hb⟩
theorem lV.T4 {E:Nat->List Nat}{N s a i b:Nat}{p:Nat->Bool}{T:List Nat}(h:lV E N s p T a i) (hb:(E a)[i]?=some b) (hp:p b=true):lV E N s p T a (i+1) :=
 ⟨h.st,h.lt,h.td,h.path,h.done,h.pa,λ j c G hc=>by
  by_cases e:j=i
  ·grind
  ·exact h.part j c (by omega) hc⟩
theorem lV.new {E:Nat->List Nat}{N s a i b:Nat}{p p':Nat->Bool}{T:List Nat}(h:lV E N s p T a i) (hb:(E a)[i]?=some b) (hlt:b<N) (hp':∀k,p' k=(decide (k=b)||p k)):lV E N s p' (T++[b]) a (i+1):=by
 have up:∀k,p k=true->p' k=true:=λ k G=>by rw[hp',G];simp
 have inv:∀k,p' k=true->k=b\/p k=true:=λ k G=>by grind
 refine⟨up s h.st,λ k G=>?_,λ k G=>?_,λ k G=>?_,λ a' c hne hp hn hc=>?_,up a h.pa,λ j c H hc=>?_⟩
 ·rcases inv k G with rfl|G
  ·exact hlt
  ·exact h.lt k G
 ·rcases List.mem_append.1 G with G|G
  ·exact up k (h.td k G)
  grind
 ·rcases inv k G with rfl|G
  ·exact .step (h.path a h.pa) (ak hb)
  ·exact h.path k G
 ·rcases inv a' hp with rfl|hp
  ·exact absurd (by simp) hn
  ·exact up c (h.done a' c hne hp (λ hm=>hn (by simp[hm])) hc)
 ·by_cases e:j=i
  ·grind
  ·exact up c (h.part j c (by omega) hc)
end Go.Am
namespace Go.Am
open Go Go.Proofs
section
variable {c:Code}{b:Nat}{B:Block}{P:Program}{KH:HKq}{h:Heap}{K:D->Prop}
theorem rE (hB:c.b[b]?=some B):ab P (.iadd (.c (.sl (c.b.map Block.e))) (.c (.int .i64 (b:Int))) 14) h KH=KH (.vp B.e 0) h :=
 iN (by omega) (by grind) rfl
theorem Ly (hB:c.b[b]?=some B):au P (.iadd (.c (.sl (c.b.map Block.e))) (.c (.int .i64 (b:Int))) 14) h K=K (.vp B.e 0):=by rw[gJ,rE hB]
theorem MX:ab P (.ld (.c (.vp B.e 1)) 13 true) h KH=KH B.t.e h:=by
 rw[zG,mw];apply propext;exact⟨λ H=>H.2,λ G=>⟨by show 1+13<=14;omega,G⟩⟩
theorem Of:au P (.ld (.c (.vp B.e 1)) 13 true) h K=K B.t.e:=by rw[mc,MX]
theorem Xk {d:D}{o:Nat}:au P (.fadd (.c (.vp d 0)) o) h K=K (.vp d o):=by rw[show au P (.fadd (.c (.vp d 0)) o) h K=ab P (.fadd (.c (.vp d 0)) o) h (λ d _=>K d) from rfl,KM]
end
theorem T8 {P:Program}{KH:HKq}{h:Heap}{l:List Nat}{i k:Nat}(hk:l[i]?=some k) (hK:KH (nD k) h):ab P (.iadd (.c (.sl (aR l))) (.c (.int .i64 (i:Int))) 1) h λ a h1=>ab P (.ld (.c a) 1 false) h1 KH:=by
 rw[iN (esz:=1) (d:=nD k) (by omega) (by rw[aE];exact fC hk) rfl,ni rfl];exact hK
theorem po {h:Heap}{K:D->Prop}{l:List Nat}:aM (.sl (aR l)) h K=K (.int .i64 (l.length:Int)):=by rw[bD,bk]
theorem Q7 {c:Code}(hc:bp c):aK PP kT [c.e] (λ r=>∃S:List Bool,r=.sl (bL S)/\S.length=c.b.length/\∀k,hasB S k=true↔Path (edg c) 0 k):=by
 have b5:=hc.nb;refine aZ Ic (aG _ _ _) rfl (HQ _ _) ?_;dsimp only[DQ,xB,xF,xI,xL,xS];refine Vs.nil.box c.b9.one λ n2 h3 V1=>?_
 simp only[↓V1.fa 0 rfl,Nat.zero_add,↓V1.bI 0 (j:=7) rfl rfl,bD,aH];generalize hN:c.b.length=N at *;refine V1.SQ (by omega) (by omega) λ n9 c5 V2=>?_
 have e0:List.replicate N (D.bool false)=bL (List.replicate N false):=by simp[bL]
 rw[e0]at V2;rw[V2.ia 0 rfl (by omega) (by omega)];refine V2.wA 0 rfl (by simp[bL];omega) rfl (ic _) λ b1 V3=>?_
 rw[show(0:Int).toNat=0 from rfl,hZ]at V3;replace V3:Vs b1 [(n9,.arr 1 (bL ((List.replicate N false).set 0 true))),(n2,.box c.e)]:=V3;refine⟨λ _ h=>∃S:List Bool,S.length=N/\(∀k,hasB S k=true↔Path (edg c) 0 k)/\Vs h [(n9,.arr 1 (bL S)),(n2,.box c.e)],?_,?_⟩
 ·rintro f h ⟨S,hS,hP,V⟩;have hl:D.ms n9 0 N=.ms n9 0 (bL S).length:=by simp[bL,hS]
  rw[hl];refine oD (esz:=1) (by rw[V.get 0 _ _ rfl];rfl) (λ x hx y hy=>?_) ⟨S,rfl,hS,hP⟩;simp only[bL,List.mem_map]at hx;obtain⟨b,-,rfl⟩:=hx;simp[D.cells]at hy;subst hy;rfl
 refine QV.one (k:=0) V3 λ v c4 q0=>?_
 dsimp only[uY,xF,xI,xL]
 refine⟨λ m l h=>∃(S:List Bool) (T:List Nat) (v:D),l=[v]/\S.length=N/\QV h [(n9,.arr 1 (bL S)),(n2,.box c.e)] v T/\OT (edg c) N 0 (hasB S) T/\m=2*jS (hasB S) N+T.length/\m<=1000,_,
  ⟨_,[0],v,rfl,by simp,q0,?_,rfl,by grind [wI]⟩,?_⟩
 ·have hb:∀k,hasB ((List.replicate N false).set 0 true) k=true->k=0:=λ k G=>by
   grind [hasB]
  have h0:hasB ((List.replicate N false).set 0 true) 0=true:=by grind [bJ]
  exact⟨h0,λ k G=>by rw[hb k G];omega,λ k G=>by grind,λ k G=>by rw[hb k G];exact .refl,λ a b ha hn _=>absurd (by simp[hb a ha]) hn⟩
 rintro m f h1 ⟨S,T,v,hl,hS,q,hs,hm,b7⟩;simp only[ah,and_true]at hl;simp only[hl,q.len,rU];by_cases hT:T=[]
 ·subst hT;simp only[List.length_nil,show((0:Nat):Int)=0 from rfl,Int.lt_irrefl,decide_false,↓ae,aa,true_and];exact⟨S,hS,hs.fin,q.vs⟩
 ·have c1:0<T.length:=List.length_pos_iff.2 hT;simp only[show((0:Int)<(T.length:Int))=True from eq_true (by omega),decide_true,↓af];generalize ha:T[T.length-1]?=oa
  cases oa with
  | none=>simp at ha;omega
  | some a =>
   have a6:=ak ha
   have c2:T=T.take (T.length-1)++[a]:=by
    have h1:T.take (T.length-1+1)=T:=List.take_of_length_le (by omega);grind [List.take_add_one]
   have c0:=hs.lt a (hs.td a a6);have hB:c.b[a]?=some c.b[a]:=aq (by omega);generalize c.b[a]=B at hB;have a8:=hc.t B (ak hB);rw[KG (by omega) (by omega),show(T.length:Int)-1=((T.length-1:Nat):Int) by omega];refine q.get ha ?_;rw[q.len,KG (by omega) (by omega),show(T.length:Int)-1=((T.length-1:Nat):Int) by omega];refine q.mZ (lo:=none) (hi:=some (T.length-1)) (a:=0) (b:=T.length-1) rfl rfl (by omega) (by omega) hT λ v' q'=>?_
   rw[List.drop_zero,Nat.sub_zero]at q';have V:=q'.vs;simp only[↓V.fa 1 rfl,Nat.zero_add,↓V.bI 1 (j:=7) rfl rfl,nD,↓rE hB,↓KM,↓MX];refine aW (JP a8) (λ d hd=>by simp at hd;subst hd;exact B.t.b9.pair) ?_;rintro _ rfl;rw[po, <- jr hB]
   have H:lV (edg c) N 0 (hasB S) (T.take (T.length-1)) a 0:=hs.pop a6 (λ k G=>List.mem_of_mem_take G) (λ k G=>by
    grind)
   have I:2*jS (hasB S) N+(T.take (T.length-1)).length<m:=by rw[List.length_take];omega
   dsimp only[uZ,xI,xL,xS]
   refine⟨λ k l h=>∃(i:Nat) (S:List Bool) (T:List Nat) (v:D),l=[v,.int .i64 (i:Int)]/\i<=(edg c a).length/\k=(edg c a).length-i/\S.length=N/\QV h [(n9,.arr 1 (bL S)),(n2,.box c.e)] v T/\lV (edg c) N 0 (hasB S) T a i/\2*jS (hasB S) N+T.length<m,_,
    ⟨0,S,_,v',rfl,by omega,rfl,hS,q',H,I⟩,?_⟩
   clear I H q' hm hs q hS;rintro k f2 h2 ⟨i,S,T,v,Z,hi,G,hS,q,hs,hm⟩;simp only[ah,and_true]at Z;obtain⟨e4,b2⟩:=Z;rw[e4,b2,nV];have c3:(edg c a).length<=2:=by grind [jr,bf]
   by_cases a7:i<(edg c a).length
   ·simp only[show((i:Int)<((edg c a).length:Int))=True from eq_true (by omega),decide_true,↓af];refine⟨λ l h=>∃(S:List Bool) (T:List Nat) (v:D),l=[v]/\S.length=N/\QV h [(n9,.arr 1 (bL S)),(n2,.box c.e)] v T/\lV (edg c) N 0 (hasB S) T a (i+1)/\2*jS (hasB S) N+T.length<m,?_,?_⟩
    ·rintro f3 h3 ⟨S,T,v,Q,g1,g2,g3,g4⟩;simp only[ah,and_true]at Q;rw[Q,bB (by omega) (by omega)];simp only[aa,true_and];exact⟨_,by omega,i+1,S,T,v,by simp,by omega,rfl,g1,g2,g3,g4⟩
    have hb:(edg c a)[i]?=some (edg c a)[i]:=aq a7;generalize (edg c a)[i]=b at hb;have a2:b<N:=by rw[<- hN];exact cE hc (ak hb)
    have V:=q.vs;refine T8 hb ?_;simp only[nD,↓V.ia 0 rfl (show(0:Int)<=(b:Int) by omega) (show(b:Int)<(N:Nat) by omega),aE,↓V.yQ 0 rfl (cr (bo (S:=S) (k:=b) (by omega))) rfl];cases a1:hasB S b
    ·simp only[↓T5,↓af];have b4:=hs.new (p':=hasB (S.set b true)) hb a2 λ k=>bJ (by omega)
     have b3:jS (hasB (S.set b true)) N+1<=jS (hasB S) N:=kB (x:=b) (λ k G=>by grind [bJ]) a2 a1 (by grind [bJ]);refine q.wA 0 rfl (by simp[bL];omega) rfl (ic _) λ h4 q4=>?_
     rw[hZ]at q4;replace q4:QV h4 [(n9,.arr 1 (bL (S.set b true))),(n2,.box c.e)] v T:=q4;refine q4.push (k:=b) (by omega) (by omega) λ v5 h5 q5=>?_
     grind [aa]
    ·simp only[↓WI,↓ae,aa,true_and];exact⟨S,T,v,rfl,hS,q,hs.T4 hb a1,hm⟩
   ·simp only[show((i:Int)<((edg c a).length:Int))=False from eq_false (by omega),decide_false,↓ae,aa,true_and];exact⟨_,hm,S,T,v,rfl,hS,q,hs.end (by omega),rfl,by omega⟩
end Go.Am
namespace Go.Am
open Go Go.Proofs
def zN (ks:List Nat):List (D×D):=ks.map λ k=>(nD k,.bool true)
theorem yR {a b:Nat}:keySame (nD a) (nD b)=decide (a=b):=by grind [keySame,nD]
theorem NI {k:Nat}:∀{ks:List Nat},mget (zN ks) (nD k)=if k∈ks then some (.bool true) else none
 | []=>by simp[zN,mget]
 | a::r=>by
  have G:=NI (k:=k) (ks:=r);grind [zN,mget,yR]
theorem NG {k:Nat}:∀{ks:List Nat},mset (zN ks) (nD k) (.bool true)=zN (if k∈ks then ks else ks++[k])
 | []=>by simp[zN,mset]
 | a::r=>by
  have G:=NG (k:=k) (ks:=r);grind [zN,mset,yR]
section
variable {P:Program}{KH:HKq}{h:Heap}{L:LSq}{v:D}{T:List Nat}
theorem Vs.KL (V:Vs h L){kt:KeyT}(hK:∀n h',Vs h' ((n,.map kt [])::L)->KH (.mp n) h'):ab P (.KL kt) h KH:=λ n t=>hK n _ (V.push t.free (by simp))
theorem QV.mset (q:QV h L v T) (i:Nat){n k:Nat}{ks:List Nat}(hi:L[i]?=some (n,.map (.int .i64) (zN ks))) (hK:∀h',QV h' (L.set i (n,.map (.int .i64) (zN (if k∈ks then ks else ks++[k])))) v T->KH .undef h') :
  ab P (.mupd (.int .i64) (.c (.mp n)) (.c (nD k)) (.c (.bool true))) h KH:=by
 refine⟨rfl,rfl,?_⟩;have hn:=q.vs.get i _ _ hi;simp only[Arg.get,hn];refine⟨trivial,?_⟩;rw[NG];exact hK _ (q.bK i hi (by simp))
theorem Vs.mset (V:Vs h L) (i:Nat){n k:Nat}{ks:List Nat}(hi:L[i]?=some (n,.map (.int .i64) (zN ks))) (hK:∀h',Vs h' (L.set i (n,.map (.int .i64) (zN (if k∈ks then ks else ks++[k]))))->KH .undef h') :
  ab P (.mupd (.int .i64) (.c (.mp n)) (.c (nD k)) (.c (.bool true))) h KH :=
 (QV.nil V).mset i hi λ h' q=>hK h' q.vs
theorem Vs.mget (V:Vs h L) (i:Nat){n k:Nat}{ks:List Nat}(hi:L[i]?=some (n,.map (.int .i64) (zN ks))) (hK:KH (.bool (decide (k∈ks))) h):ab P (.look (.int .i64) (.c (.mp n)) (.c (nD k)) (.bool false) false) h KH:=by
 refine⟨rfl,?_⟩;have hn:=V.get i _ _ hi;grind [Arg.get,NI]
end
def inE (c:Code) (a:Nat):List Nat:=match c.b[a]? with
 | some B=>if B.t.kind=3 then [] else bf B.t
 | none=>[]
def lJ (c:Code) (a:Nat):List Nat:=match c.b[a]? with
 | some B=>if B.t.kind=3 then bf B.t else []
 | none=>[]
structure adV (ks:List Nat) (N:Nat) (p:Nat->Prop):Prop where
 nd:ks.Nodup
 lt:∀k∈ks,k<N
 mem:∀k,k∈ks↔p k
def iY (ks:List Nat) (k:Nat):Bool:=decide (k∈ks)
theorem w6 {ks:List Nat}{k:Nat}:iY ks k=true↔k∈ks:=by simp[iY]
def JY (ks:List Nat) (k:Nat):List Nat:=if k∈ks then ks else ks++[k]
theorem wZ {ks:List Nat}{k x:Nat}:x∈JY ks k↔x=k\/x∈ks:=by
 grind [JY]
theorem Re {ks:List Nat}{k:Nat}(h:ks.Nodup):(JY ks k).Nodup:=by
 grind [JY]
theorem yN {ks:List Nat}{k x:Nat}:iY (JY ks k) x=(decide (x=k)||iY ks x):=by
 grind [iY,wZ]
theorem Mt {c:Code}{a:Nat}{B:Block}(hB:c.b[a]?=some B):inE c a=if B.t.kind=3 then [] else bf B.t:=by unfold inE;rw[hB]
theorem Cs {c:Code}{a:Nat}{B:Block}(hB:c.b[a]?=some B):lJ c a=if B.t.kind=3 then bf B.t else []:=by unfold lJ;rw[hB]
theorem QH {c:Code}{a b:Nat}(h:b∈inE c a):b∈edg c a:=by
 grind [inE,edg]
theorem rZ {c:Code}{a b:Nat}(h:b∈lJ c a):b∈edg c a:=by
 grind [lJ,edg]
structure Nxt (E:Nat->List Nat) (p:Nat->Bool) (T:List Nat) (nx:List Nat):Prop where
 nd:nx.Nodup
 ok:∀b∈nx,∃a,p a=true/\b∈E a
 done:∀a b,p a=true->a∉T->b∈E a->b∈nx
structure BN (E:Nat->List Nat) (p:Nat->Bool) (T:List Nat) (nx:List Nat) (a i:Nat):Prop where
 nd:nx.Nodup
 ok:∀b∈nx,∃a,p a=true/\b∈E a
 pa:p a=true
 done:∀a' b,a'≠a->p a'=true->a'∉T->b∈E a'->b∈nx
 part:∀(j b:Nat),j<i->(E a)[j]?=some b->b∈nx
section
variable {E:Nat->List Nat}{p p':Nat->Bool}{T T' nx:List Nat}{a i b:Nat}
theorem Nxt.pop (h:Nxt E p T nx) (pa:p a=true) (hT2:∀k∈T,k=a\/k∈T'):BN E p T' nx a 0 :=
 ⟨h.nd,h.ok,pa,λ a' b hne hp hn hb=>h.done a' b hp (λ hm=>by grind) hb,λ j b G=>by omega⟩
theorem BN.end (h:BN E p T nx a i) (hi:(E a).length<=i):Nxt E p T nx :=
 ⟨h.nd,h.ok,λ a' b hp hn hb=>by
  by_cases e:a'=a
  ·subst e;obtain⟨j,G,rfl⟩:=List.mem_iff_getElem.1 hb;exact h.part j _ (by omega) (aq G)
  ·exact h.done a' b e hp hn hb⟩
theorem BN.add (h:BN E p T nx a i) (hb:(E a)[i]?=some b):BN E p T (JY nx b) a (i+1) :=
 ⟨Re h.nd,λ x hx=>by
  rcases wZ.1 hx with rfl|hx
  ·exact⟨a,h.pa,ak hb⟩
  ·exact h.ok x hx,h.pa,λ a' x hne hp hn hx=>wZ.2 (Or.inr (h.done a' x hne hp hn hx)),λ j x G hx=>by
  by_cases e:j=i
  ·grind [wZ]
  ·exact wZ.2 (Or.inr (h.part j x (by omega) hx))⟩
theorem BN.skip (h:BN E p T nx a i) (he:E a=[]):BN E p T nx a (i+1):=⟨h.nd,h.ok,h.pa,h.done,λ j x _ hx=>by rw[he]at hx;simp at hx⟩
theorem BN.grow (h:BN E p T nx a i) (hp':∀k,p' k=(decide (k=b)||p k)):BN E p' (T++[b]) nx a i:=by
 have inv:∀k,p' k=true->k=b\/p k=true:=λ k H=>by grind
 refine⟨h.nd,λ x hx=>?_,by rw[hp',h.pa];simp,λ a' x hne hp hn hx=>?_,h.part⟩
 ·obtain⟨y,hy,G⟩:=h.ok x hx;grind
 ·rcases inv a' hp with rfl|hp
  ·exact absurd (by simp) hn
  ·exact h.done a' x hne hp (λ hm=>hn (by simp[hm])) hx
end
theorem lV.skip {E:Nat->List Nat}{N s a i:Nat}{p:Nat->Bool}{T:List Nat}(h:lV E N s p T a i) (he:E a=[]):lV E N s p T a (i+1) :=
 ⟨h.st,h.lt,h.td,h.path,h.done,h.pa,λ j x _ hx=>by rw[he]at hx;simp at hx⟩
theorem Vs.lH {P:Program}{h:Heap}{L:LSq}{K:D->Prop}(V:Vs h L) (i:Nat){n o:Nat}{s:Slot}(hi:L[i]?=some (n,s)):au P (.fadd (.c (.ptr n 0 0)) o) h K=K (.ptr n 0 o):=by
 rw[show au P (.fadd (.c (.ptr n 0 0)) o) h K=ab P (.fadd (.c (.ptr n 0 0)) o) h (λ d _=>K d) from rfl,V.fa i hi]
theorem Vs.gw {P:Program}{h:Heap}{L:LSq}{K:D->Prop}(V:Vs h L) (i:Nat){n j:Nat}{cs:List D}{e:D}(hi:L[i]?=some (n,.box (.agg cs))) (he:cs[j]?=some e):au P (.ld (.c (.ptr n 0 j)) 1 false) h K=K e:=by rw[mc,V.bI i hi he]
theorem Vs.erase {h:Heap}{L:LSq}(V:Vs h L) (i:Nat):Vs h (L.eraseIdx i):=by
 let f:Nat->Nat:=λ j=>if j<i then j else j+1
 have H:∀j,(L.eraseIdx i)[j]?=L[f j]?:=λ j=>by
  grind
 exact⟨λ j n s G=>V.get (f j) n s (by rw[<- H];exact G),λ j k n m s s' G Q I=>V.ne (f j) (f k) n m s s' (by rw[<- H];exact G) (by rw[<- H];exact Q) (λ e=>I (by
  grind)),λ j n s G=>V.lv (f j) n s (by rw[<- H];exact G)⟩
end Go.Am
namespace Go.Am
open Go Go.Proofs
theorem aan {c:Code}(hc:bp c){s:Nat}(hs:s<c.b.length){h:Heap}{L:LSq}(V0:Vs h L){KH:HKq}
  (hK:∀(h':Heap) (n5 n9:Nat) (ks nx:List Nat),Vs h' ((n9,.map (.int .i64) (zN nx))::(n5,.map (.int .i64) (zN ks))::L)->ks.Nodup->(∀k,k∈ks↔Path (inE c) s k) ->
   nx.Nodup->(∀b,b∈nx ↔ ∃a,Path (inE c) s a/\b∈lJ c a)->KH (.tup [.mp n5,.mp n9]) h'):ag PP kN [c.e,nD s] h KH:=by
 have c8:=hc.nb;refine aY H9 (aG _ _ _) rfl (HO _ _ _) ?_;dsimp only[DM,xB];refine V0.box c.b9.one λ n3 h4 V1=>?_
 refine V1.KL λ n5 h6 V2=>?_
 have c6:Vs h6 ((n5,.map (.int .i64) (zN []))::(n3,.box c.e)::L):=V2;refine c6.mset 0 (k:=s) rfl λ h8 V3=>?_
 refine V3.KL λ n9 c4 V4=>?_
 replace V4:Vs c4 ((n9,.map (.int .i64) (zN []))::(n5,.map (.int .i64) (zN [s]))::(n3,.box c.e)::L):=V4;generalize hN:c.b.length=N at *;refine QV.one (k:=s) V4 λ v e7 q0=>?_
 let L3:List Nat->List Nat->Nat->LSq:=λ nx ks _=>(n9,.map (.int .i64) (zN nx))::(n5,.map (.int .i64) (zN ks))::(n3,.box c.e)::L
 refine⟨λ _ h=>∃ks nx,Vs h (L3 nx ks 0)/\OT (inE c) N s (iY ks) []/\ks.Nodup/\Nxt (lJ c) (iY ks) [] nx,?_,?_⟩
 ·rintro f h' ⟨ks,nx,V,a2,G,a6⟩;refine hK h' n5 n9 ks nx (V.erase 2) G (λ k=>by rw[<- a2.fin,w6]) a6.nd λ b=>⟨λ hb=>?_,λ ⟨a,ha,a7⟩=>a6.done a b ((a2.fin a).2 ha) (by simp) a7⟩
  obtain⟨a,ha,a7⟩:=a6.ok b hb;exact⟨a,(a2.fin a).1 ha,a7⟩
 dsimp only[uS,xL,xS,yF,yI,yL]
 refine⟨λ m l h=>∃(ks nx T:List Nat) (v:D),l=[v]/\QV h (L3 nx ks 0) v T/\OT (inE c) N s (iY ks) T/\ks.Nodup/\Nxt (lJ c) (iY ks) T nx/\m=2*jS (iY ks) N+T.length/\m<=1000,_,
  ⟨[s],[],[s],v,rfl,q0,?_,by simp,?_,rfl,by grind [wI]⟩,?_⟩
 ·have hb:∀k,iY [s] k=true->k=s:=λ k H=>by grind [w6]
  have h0:iY [s] s=true:=by rw[w6];simp
  exact⟨h0,λ k H=>by rw[hb k H];exact hs,λ k H=>by grind,λ k H=>by rw[hb k H];exact .refl,λ a b ha hn _=>absurd (by simp[hb a ha]) hn⟩
 ·have hb:∀k,iY [s] k=true->k=s:=λ k H=>by grind [w6]
  exact⟨by simp,λ b hb=>(by cases hb),λ a b ha hn _=>absurd (by simp[hb a ha]) hn⟩
 rintro m f h1 ⟨ks,nx,T,v,hl,q,Q,G,hx,hm,e0⟩;simp only[ah,and_true]at hl;simp only[hl,q.len,rU]
 cases T with
 | nil =>
  simp only[List.length_nil,show((0:Nat):Int)=0 from rfl,Int.lt_irrefl,decide_false,↓ae,aa,true_and];exact⟨ks,nx,q.vs,Q,G,hx⟩
 | cons a T' =>
  have e3:0<(a::T').length:=by simp
  simp only[show((0:Int)<((a::T').length:Int))=True from eq_true (by omega),decide_true,↓af];have e2:=Q.lt a (Q.td a (by simp));have hB:c.b[a]?=some c.b[a]:=aq (by omega);generalize c.b[a]=B at hB;have b7:=hc.t B (ak hB);have V:=q.vs;simp only[↓V.lH 2 rfl,Nat.zero_add,↓V.gw 2 (j:=7) rfl rfl];refine q.MJ (i:=0) (k:=a) rfl ?_;simp only[nD,↓Ly hB,↓Xk,↓Of];refine q.alloc λ n29 e5 q1=>?_
  refine q1.mY 0 (cs':=B.t.cs) rfl rfl rfl (λ y hy=>by simp[Term.cs]at hy;rcases hy with rfl|rfl|rfl|rfl|rfl|rfl|rfl|rfl|rfl|rfl|rfl|rfl|rfl<;>rfl) λ c3 q2=>?_
  refine q2.mZ (lo:=some 1) (hi:=none) (a:=1) (b:=(a::T').length) rfl rfl (by simp) (Nat.le_refl _) (by simp) λ v' q'=>?_
  have e1:((a::T').drop 1).take ((a::T').length-1)=T':=by simp
  rw[e1]at q';replace q':QV c3 ((n29,.box B.t.e)::L3 nx ks 0) v' T':=q';have V':=q'.vs;rw[V'.fV 0 (s:=13) (cs:=B.t.cs) rfl rfl];refine aW (JP b7) (λ d hd=>by simp at hd;subst hd;exact B.t.b9.pair) ?_;rintro _ rfl;rw[po];have b1:lV (inE c) N s (iY ks) T' a 0:=Q.pop (by simp) (λ k H=>by simp[H]) (λ k H=>by simpa using H);have a8:BN (lJ c) (iY ks) T' nx a 0:=hx.pop (Q.td a (by simp)) (λ k H=>by simpa using H);have b2:2*jS (iY ks) N+T'.length<m:=by rw[hm];simp
  dsimp only[uT,xF,xI,xL]
  refine⟨λ k l h=>∃(i:Nat) (ks nx T:List Nat) (v:D),l=[v,.int .i64 (i:Int)]/\i<=(bf B.t).length/\k=(bf B.t).length-i/\QV h ((n29,.box B.t.e)::L3 nx ks 0) v T/\lV (inE c) N s (iY ks) T a i/\ks.Nodup/\BN (lJ c) (iY ks) T nx a i/\2*jS (iY ks) N+T.length<m,_,
   ⟨0,ks,nx,T',v',rfl,by omega,rfl,q',b1,G,a8,b2⟩,?_⟩
  clear b2 b1 a8 q' hm Q q q1 q2 G hx V V';rintro k f2 h2 ⟨i,ks,nx,T,v,b4,hi,H,q,hs,G,hx,hm⟩;simp only[ah,and_true]at b4;obtain⟨e6,c5⟩:=b4;rw[e6,c5,nV];have e4:(bf B.t).length<=2:=by grind [bf]
  by_cases c1:i<(bf B.t).length
  ·simp only[show((i:Int)<((bf B.t).length:Int))=True from eq_true (by omega),decide_true,↓af];refine⟨λ l h=>∃(ks nx T:List Nat) (v:D),l=[v]/\QV h ((n29,.box B.t.e)::L3 nx ks 0) v T/\lV (inE c) N s (iY ks) T a (i+1)/\ks.Nodup/\BN (lJ c) (iY ks) T nx a (i+1)/\2*jS (iY ks) N+T.length<m,?_,?_⟩
   ·rintro f3 h3 ⟨ks,nx,T,v,b3,g1,g2,g3,g4,g5⟩;simp only[ah,and_true]at b3;rw[b3,bB (by omega) (by omega)];simp only[aa,true_and];exact⟨_,by omega,i+1,ks,nx,T,v,by simp,by omega,rfl,g1,g2,g3,g4,g5⟩
   have hb:(bf B.t)[i]?=some (bf B.t)[i]:=aq c1;generalize (bf B.t)[i]=b at hb;have b5:b<N:=by rw[<- hN];exact b7.succ b (ak hb)
   have V:=q.vs;refine T8 hb ?_;simp only[↓V.fa 0 rfl,Nat.zero_add,↓V.bI 0 (j:=0) (cs:=B.t.cs) rfl rfl,bq];by_cases h3:B.t.kind=3
   ·have a1:inE c a=[]:=by rw[Mt hB,if_pos h3]
    have I:lJ c a=bf B.t:=by rw[Cs hB,if_pos h3]
    simp only[h3,decide_true,↓af];refine q.mset 1 (k:=b) rfl λ h5 q5=>?_
    simp only[aa,true_and];exact⟨ks,JY nx b,T,v,rfl,q5,hs.skip a1,G,hx.add (by rw[I];exact hb),hm⟩
   ·have a1:inE c a=bf B.t:=by rw[Mt hB,if_neg h3]
    have I:lJ c a=[]:=by rw[Cs hB,if_neg h3]
    simp only[h3,decide_false,↓ae];refine V.mget 2 (k:=b) rfl ?_;by_cases Z:b∈ks
    ·simp only[Z,decide_true,↓WI,↓ae,aa,true_and];exact⟨ks,nx,T,v,rfl,q,hs.T4 (by rw[a1];exact hb) (w6.2 Z),G,hx.skip I,hm⟩
    ·simp only[Z,decide_false,↓T5,↓af];have c2:iY ks b=false:=by simp[iY,Z]
     have c0:=hs.new (p':=iY (JY ks b)) (by rw[a1];exact hb) b5 λ k=>yN
     have c7:jS (iY (JY ks b)) N+1<=jS (iY ks) N:=kB (x:=b) (λ k H=>by rw[yN,H];simp) b5 c2 (by rw[yN];simp);refine q.mset 2 (k:=b) rfl λ h5 q5=>?_
     replace q5:QV h5 ((n29,.box B.t.e)::L3 nx (JY ks b) 0) v T:=q5;refine q5.push (k:=b) (by omega) (by omega) λ v6 h6 q6=>?_
     simp only[aa,true_and];exact⟨JY ks b,nx,T++[b],v6,rfl,q6,c0,Re G,(hx.skip I).grow (λ k=>yN),by grind⟩
  ·simp only[show((i:Int)<((bf B.t).length:Int))=False from eq_false (by omega),decide_false,↓ae,aa,true_and];refine⟨_,hm,ks,nx,T,v,rfl,q.less,hs.end ?_,G,hx.end ?_,rfl,by omega⟩
   ·grind [Mt]
   grind [Cs]
end Go.Am
namespace Go.Am
open Go Go.Proofs
theorem Vs.iff {h:Heap}{L:LSq}:Vs h L↔(∀n s,(n,s)∈L->h n=s/\s≠.free)/\(L.map Prod.fst).Nodup:=by
 constructor
 ·intro V;refine⟨λ n s hm=>?_,?_⟩
  ·obtain⟨i,hi⟩:=ba hm;exact⟨V.get i n s hi,V.lv i n s hi⟩
  ·rw[List.nodup_iff_pairwise_ne,List.pairwise_map,List.pairwise_iff_getElem];intro i j hi H G;exact V.ne i j _ _ L[i].2 L[j].2 (aq hi) (aq H) (by omega)
 ·rintro⟨h1,h2⟩;refine⟨λ i n s hi=>(h1 n s (ak hi)).1,λ i j n m s s' hi H G=>?_,λ i n s hi=>(h1 n s (ak hi)).2⟩;grind [List.pairwise_iff_getElem]
theorem Vs.perm {h:Heap}{L L':LSq}(p:L.Perm L') (V:Vs h L):Vs h L':=by
 grind [Vs.iff]
theorem Vs.JV {h:Heap}{X L:LSq}(V:Vs h (X++L)):Vs h L:=by
 grind [Vs.iff]
theorem QV.lift {h:Heap}{L:LSq}{v:D}{T:List Nat}(q:QV h L v T):∃Lq,Vs h Lq/\∀(h':Heap) (X:LSq),Vs h' (X++Lq)->QV h' (X++L) v T:=by
 rcases q with⟨rfl,rfl,V⟩|⟨m,off,els,rfl,V,h1,h2,h3⟩
 ·exact⟨L,V,λ h' X G=>Or.inl ⟨rfl,rfl,G⟩⟩
 ·exact⟨_,V,λ h' X G=>Or.inr ⟨m,off,els,rfl,G.perm List.perm_middle,h1,h2,h3⟩⟩
def QD (h:Heap) (L:LSq) (v:D) (T:List D):Prop :=
 (v=.nil/\T=[]/\Vs h L)\/∃m,v=.ms m 0 T.length/\Vs h ((m,.arr 1 T)::L)
theorem QD.vs {h:Heap}{L:LSq}{v:D}{T:List D}(q:QD h L v T):Vs h L:=by
 rcases q with⟨-,-,V⟩|⟨m,-,V⟩
 ·exact V
 ·exact V.pop
theorem QD.bK {h:Heap}{L:LSq}{v:D}{T:List D}(q:QD h L v T) (i:Nat){n:Nat}{s s':Slot}(hi:L[i]?=some (n,s)) (hs:s'≠.free):QD (aF h n s') (L.set i (n,s')) v T:=by
 rcases q with⟨rfl,rfl,V⟩|⟨m,rfl,V⟩
 ·exact Or.inl ⟨rfl,rfl,V.bK i hi hs⟩
 ·exact Or.inr ⟨m,rfl,by have:=V.bK (i+1) (n:=n) (s:=s) (by simpa using hi) hs;simpa using this⟩
theorem QD.push {h:Heap}{L:LSq}{v d:D}{T:List D}(q:QD h L v T){z z':D}{bytes:Nat}{KH:HKq}(hd:kx d) (h1:d.one=true) (hb:(T.length+1)*bytes<=140737488355328) (hl:T.length+1<=9223372036854775807)
  (hK:∀v h',QD h' L v (T++[d])->KH v h'):ab PP (.bldS true 1 1 z [(0,.c d)]) h λ x h1=>ab PP (.app (.c v) (.c x) 1 bytes z') h1 KH:=by
 have hc:d.cells.length=1:=by cases d<;>first|rfl|cases h1
 have hlen:T.length+1=(T++[d]).length:=by simp
 rcases q with⟨rfl,rfl,V⟩|⟨m,rfl,V⟩
 ·refine Fs (els:=[]) (Or.inl ⟨rfl,rfl⟩) hd hc hb hl λ m h' hm G I=>hK _ _ (Or.inr ⟨m,rfl,?_⟩)
  grind [D.lG,Vs.iff]
 ·refine Fs (els:=T) (Or.inr ⟨m,rfl,V.get 0 _ _ rfl⟩) hd hc hb hl λ H h' hm G I=>hK _ _ (Or.inr ⟨H,by rw[hlen],?_⟩)
  grind [D.lG,Vs.iff]
noncomputable def Mp (N:Nat) (p:Nat->Prop):List Nat:=(List.range N).filter λ k=>@decide (p k) (Classical.propDecidable _)
theorem dj {N:Nat}{p:Nat->Prop}{k:Nat}:k∈Mp N p↔k<N/\p k:=by simp[Mp]
theorem yO {N:Nat}{p:Nat->Prop}:(Mp N p).Pairwise (· < ·):=List.Pairwise.filter _ List.pairwise_lt_range
theorem oM {N:Nat}{p:Nat->Prop}:(Mp N p).length<=N:=by
 grind [Mp]
inductive St (c:Code):Nat->Prop
 | zero:St c 0
 | step {s a t:Nat}(h:St c s) (ha:Path (inE c) s a) (ht:t∈lJ c a):St c t
noncomputable def rl (c:Code) (s:Nat):List Nat:=Mp c.b.length (Path (inE c) s)
noncomputable def Yn (c:Code) (s:Nat):List Nat:=Mp c.b.length λ b=>∃a,Path (inE c) s a/\b∈lJ c a
noncomputable def jT (c:Code):List Nat:=Mp c.b.length (St c)
noncomputable def RE (c:Code):D:=.agg [.sl (aR (jT c)),.sl ((jT c).map λ s=>.sl (aR (rl c s)))]
theorem Me {c:Code}(hc:bp c){s a:Nat}(hs:s<c.b.length) (h:Path (inE c) s a):a<c.b.length:=by
 induction h with
 | refl=>exact hs
 | step _ hb _=>exact cE hc (QH hb)
theorem St.lt {c:Code}(hc:bp c){s:Nat}(h:St c s):s<c.b.length:=by
 cases h with
 | zero=>exact hc.nb.1
 | step _ _ ht=>exact cE hc (rZ ht)
theorem NN {ks l:List Nat}{N:Nat}(hN:N<=1000) (hlt:∀k∈ks,k<N) (hnd:ks.Nodup) (hl:l.Pairwise (· < ·)) (hm:∀k,k∈l↔k∈ks) (hlen:ks.length<=1000000):M5 (zN ks) l:=by
 refine⟨λ p hp=>?_,by simpa[zN] using hlen,hl,λ k=>?_⟩
 ·simp only[zN,List.mem_map]at hp;obtain⟨k,G,rfl⟩:=hp;exact⟨k,by have:=hlt k G;omega,rfl⟩
 ·rw[hm];constructor
  ·intro G;exact⟨(nD k,.bool true),by grind [zN],rfl⟩
  grind [zN,nD]
theorem sh {N:Nat}:∀{ks:List Nat},(∀k∈ks,k<N)->ks.Nodup->ks.length<=N:=by
 intro ks h1 h2
 have hp:ks.Perm ((List.range N).filter λ k=>decide (k∈ks)):=(List.perm_ext_iff_of_nodup h2 (List.Pairwise.filter _ List.nodup_range)).2 λ k=>by
  grind
 rw[hp.length_eq];grind
end Go.Am
namespace Go.Am
open Go Go.Proofs
noncomputable def xh (c:Code) (ss:List Nat):List (D×D):=ss.map λ s=>(nD s,.sl (aR (rl c s)))
theorem Lf {c:Code}{k:Nat}:∀{ss:List Nat},mget (xh c ss) (nD k)=if k∈ss then some (.sl (aR (rl c k))) else none
 | []=>by simp[xh,mget]
 | a::r=>by
  have G:=Lf (c:=c) (k:=k) (ss:=r);grind [xh,mget,yR]
theorem Ld {c:Code}{k:Nat}:∀{ss:List Nat},k∉ss->mset (xh c ss) (nD k) (.sl (aR (rl c k)))=xh c (ss++[k])
 | [],_=>by simp[xh,mset]
 | a::r,h=>by
  simp only[List.mem_cons,not_or]at h;have G:=Ld (c:=c) (k:=k) (ss:=r) h.2;grind [xh,mset,yR]
theorem Rg {h:Heap}{L:LSq}(V:Vs h L){m:Nat}{KH:HKq}(hK:∀k h',Vs h' ((k,.box (.mp m))::L)->KH (.fn 66 [] [.ptr k 0 0]) h'):ag PP aX [.mp m] h KH:=by
 refine aY ji (aG _ _ _) rfl (jg _ _) ?_;dsimp only[ep,xB];exact V.box (λ x hx=>by simp[D.cells]at hx;subst hx;rfl) λ k h' G=>hK k h' G
theorem XZ {h:Heap}{L:LSq}(V:Vs h L){m:Nat}{KH:HKq}(hK:∀k h',Vs h' ((k,.box (.mp m))::L)->KH (.fn 67 [] [.ptr k 0 0]) h'):ag PP bu [.mp m] h KH:=by
 refine aY jh (aG _ _ _) rfl (jf _ _) ?_;dsimp only[eo,xB];exact V.box (λ x hx=>by simp[D.cells]at hx;subst hx;rfl) λ k h' G=>hK k h' G
theorem Yp {P:Program}{h:Heap}{L:LSq}(V:Vs h L) (i:Nat){c:Code}{n k:Nat}{ss:List Nat}{KH:HKq}(hi:L[i]?=some (n,.map (.int .i64) (xh c ss)))
  (hK:KH (if k∈ss then .sl (aR (rl c k)) else .nil) h):ab P (.look (.int .i64) (.c (.mp n)) (.c (nD k)) .nil false) h KH:=by
 refine⟨rfl,?_⟩;have hn:=V.get i _ _ hi;grind [Arg.get,Lf]
noncomputable abbrev FL (c:Code) (ss:List Nat) (nl n4 n2:Nat):LSq:=[(nl,.map (.int .i64) (xh c ss)),(n4,.box (.agg [.nil,.nil])),(n2,.box c.e)]
theorem UF {c:Code}(hc:bp c){h:Heap}{n2 n4 nl x:Nat}{dx:D}(hdx:dx=nD x){ss T:List Nat}{v:D}{J:HJq}(q:QV h (FL c ss nl n4 n2) v T) (hx:x<c.b.length) (hT:T.length<=1000)
  (hJ:∀v' h' ss' T',QV h' (FL c ss' nl n4 n2) v' T'->((x∈ss/\ss'=ss/\T'=T)\/(x∉ss/\ss'=ss++[x]/\T'=T++Yn c x))->J [v'] h') :
  ab PP (.look (.int .i64) (.c (.mp nl)) (.c dx) .nil false) h λ a67 h68 =>
  ab PP (.nilq false (.c a67)) h68 λ a69 h70 =>
  vcond a69 (ab PP (.ld (.c (.ptr n2 0 0)) 8 true) h70 λ a71 h72 =>
  ag PP kN [a71,dx] h72 λ a73 h74 =>
  ab PP (.ext (.c a73) 0) h74 λ a75 h76 =>
  ab PP (.ext (.c a73) 1) h76 λ a77 h78 =>
  ag PP aX [a75] h78 λ a79 h80 =>
  ag PP br [a79] h80 λ a81 h82 =>
  ab PP (.mupd (.int .i64) (.c (.mp nl)) (.c dx) (.c a81)) h82 λ a83 h84 =>
  ag PP aX [a77] h84 λ a85 h86 =>
  ag PP br [a85] h86 λ a87 h88 =>
  ab PP (.app (.c v) (.c a87) 1 8 (.int .i64 0)) h88 λ a89 h90 =>
  aD [.ptr n2 0 0,.ptr n4 0 0,.mp nl] [.ptr n2 0 0,.ptr n4 0 0,.mp nl]/\J [a89] h90) (
  aD [.ptr n2 0 0,.ptr n4 0 0,.mp nl] [.ptr n2 0 0,.ptr n4 0 0,.mp nl]/\J [v] h70):=by
 subst hdx;have a7:=hc.nb;refine Yp q.vs 0 rfl ?_;by_cases G:x∈ss
 ·rw[if_pos G]
  have hne:rl c x≠[]:=λ e=>by
   have:x∈rl c x:=dj.2 ⟨hx,.refl⟩;rw[e]at this;cases this
  obtain⟨y,r,a1⟩:=List.exists_cons_of_ne_nil hne;rw[a1];show vcond (.bool false) _ _
  grind [ae,aa]
 ·rw[if_neg G];show vcond (.bool true) _ _
  rw[af,q.vs.fV 2 (s:=8) rfl rfl];obtain⟨Lq,V0,back⟩:=q.lift;refine aan hc hx V0 λ h1 n5 n9 ks nx V1 k1 k2 x1 x2=>?_
  rw[Xb,Xa];have I:∀k∈ks,k<c.b.length:=λ k Q=>Me hc hx ((k2 k).1 Q)
  have xlt:∀k∈nx,k<c.b.length:=λ k Q=>by
   obtain⟨a,-,ha⟩:=(x2 k).1 Q;exact cE hc (rZ ha)
  refine Rg V1 λ nk h2 V2=>?_
  refine um Uk (V2.get 0 _ _ rfl) (V2.get 2 _ _ rfl) (NN (N:=c.b.length) (l:=rl c x) (by omega) I k1 yO (λ k=>by grind [rl,dj]) (by have:=sh I k1;omega)) ?_;have q2:QV h2 ((nk,.box (.mp n5))::(n9,.map (.int .i64) (zN nx))::(n5,.map (.int .i64) (zN ks))::FL c ss nl n4 n2) v T:=back h2 [_,_,_] V2;refine⟨rfl,rfl,?_⟩;have a2:=q2.vs.get 3 _ _ rfl;simp only[Arg.get,a2];refine⟨trivial,?_⟩;rw[show(D.sl (nL (rl c x)))=.sl (aR (rl c x)) from rfl,Ld G];have V:=q2.bK 3 (s':=.map (.int .i64) (xh c (ss++[x]))) rfl (by simp);replace V:QV (aF h2 nl (.map (.int .i64) (xh c (ss++[x])))) ((nk,.box (.mp n5))::(n9,.map (.int .i64) (zN nx))::(n5,.map (.int .i64) (zN ks))::FL c (ss++[x]) nl n4 n2) v T:=V;generalize aF h2 nl (.map (.int .i64) (xh c (ss++[x])))=h3 at V;obtain⟨a8,V3,H⟩:=V.lift;refine Rg V3 λ Z h4 V4=>?_
  have q4:QV h4 ((Z,.box (.mp n9))::(nk,.box (.mp n5))::(n9,.map (.int .i64) (zN nx))::(n5,.map (.int .i64) (zN ks))::FL c (ss++[x]) nl n4 n2) v T:=H h4 [_] V4;have V5:=q4.vs
  refine um Uk (V5.get 0 _ _ rfl) (V5.get 2 _ _ rfl) (NN (N:=c.b.length) (l:=Yn c x) (by omega) xlt x1 yO (λ k=>by
   grind [Yn,dj]) (by have:=sh xlt x1;omega)) ?_
  have a6:(Yn c x).length<=c.b.length:=oM;refine q4.app (ks:=Yn c x) (λ Q=>O4 Q) (by omega) (by omega) λ v6 h6 q6=>?_
  simp only[aa,true_and];exact hJ _ _ _ _ q6.less.less.less.less (Or.inr ⟨G,rfl,rfl⟩)
end Go.Am
namespace Go.Am
open Go Go.Proofs
theorem acE {h:Heap}{a b c d:D}{f:Nat->D}{J:HJq}:uU h a b c f d J=gz h a b c (f 3) d J:=rfl
theorem RO {c:Code}{ss l:List Nat}{N:Nat}(hN:N<=1000) (hlt:∀k∈ss,k<N) (hnd:ss.Nodup) (hl:l.Pairwise (· < ·)) (hm:∀k,k∈l↔k∈ss):M5 (xh c ss) l:=by
 refine⟨λ p hp=>?_,by have:=sh hlt hnd;simp[xh];omega,hl,λ k=>?_⟩
 ·simp only[xh,List.mem_map]at hp;obtain⟨k,G,rfl⟩:=hp;exact⟨k,by have:=hlt k G;omega,rfl⟩
 ·rw[hm];constructor
  ·intro G;exact⟨(nD k,.sl (aR (rl c k))),by grind [xh],rfl⟩
  grind [xh,nD]
noncomputable def RA (c:Code) (l:List Nat):List D:=l.map λ s=>.sl (aR (rl c s))
theorem ZL {c:Code}(hc:bp c){h:Heap}{n2 n4 nl n26:Nat}{ss:List Nat}{L':LSq}(hss:∀k,k∈ss↔St c k){J:HJq}
  (V:Vs h ((n26,.box (.agg [.sl (aR (jT c)),.nil]))::FL c ss nl n4 n2))
  (hJ:∀h' v,QD h' ((n26,.box (.agg [.sl (aR (jT c)),v]))::FL c ss nl n4 n2) v (RA c (jT c))->J [] h') :
  gz h (.int .i64 ((jT c).length:Int)) (.sl (aR (jT c))) (.ptr n26 0 0) (.mp nl) (.ptr n4 0 0) J:=by
 have a2:=hc.nb;have a1:(jT c).length<=c.b.length:=oM;dsimp only[gz,xF,xI,xL,xS]
 refine⟨λ m l h=>∃(i:Nat) (v:D),i<=(jT c).length/\m=(jT c).length-i/\l=[.int .i64 (i:Int)]/\QD h ((n26,.box (.agg [.sl (aR (jT c)),v]))::FL c ss nl n4 n2) v (RA c ((jT c).take i)),_,
  ⟨0,.nil,by omega,rfl,rfl,Or.inl ⟨rfl,by simp[RA],V⟩⟩,?_⟩
 rintro m f h1 ⟨i,v,hi,hm,hl,q⟩;simp only[ah,and_true]at hl;rw[hl,nV];by_cases Q:i<(jT c).length
 ·have hk:(jT c)[i]?=some (jT c)[i]:=aq Q;generalize (jT c)[i]=k at hk;have Z:k∈ss:=(hss k).2 (dj.1 (ak hk)).2;simp only[show((i:Int)<((jT c).length:Int))=True from eq_true (by omega),decide_true,↓af];refine T8 hk ?_;have V1:=q.vs;simp only[↓V1.fa 0 rfl,Nat.zero_add,↓V1.bI 0 (j:=1) rfl rfl];refine Yp V1 1 rfl ?_;rw[if_pos Z];have H:(RA c ((jT c).take i)).length=i:=by simp[RA];omega
  refine q.push (d:=.sl (aR (rl c k))) FA rfl (by rw[H];omega) (by rw[H];omega) λ v2 h2 I=>?_
  have V2:=I.vs;simp only[↓V2.fa 0 rfl,Nat.zero_add];rw[kW,V2.get 0 _ _ rfl]
  have G:v2.one=true/\v2.cells=[v2]:=by
   rcases I with⟨rfl,-,-⟩|⟨m,rfl,-⟩<;>exact⟨rfl,rfl⟩
  refine⟨by rw[G.2];rfl,λ x hx=>by grind,rfl,by simp,?_⟩;have e:setCells (.agg [.sl (aR (jT c)),v]) 1 v2.cells=.agg [.sl (aR (jT c)),v2]:=by rw[G.2];rfl
  rw[e];have q3:=I.bK 0 (s':=.box (.agg [.sl (aR (jT c)),v2])) rfl (by simp);rw[bB (by omega) (by omega)];simp only[aa,true_and];refine⟨_,by omega,i+1,v2,by omega,rfl,by simp,?_⟩;grind [RA,List.take_add_one]
 grind [ae,aa]
theorem Yx {c:Code}(hc:bp c){h:Heap}{n2 n4 nl:Nat}{ss:List Nat}(V:Vs h (FL c ss nl n4 n2)) (hnd:ss.Nodup) (hss:∀k,k∈ss↔St c k){K:D->Prop}(hK:K (RE c)) :
  ag PP bu [.mp nl] h λ a20 h21 =>
  ag PP br [a20] h21 λ a22 h23 =>
  ab PP (.bld [.nil,.nil] [(0,1,(.c a22))]) h23 λ a24 h25 =>
  ab PP (.alloc (.agg [.nil,.nil])) h25 λ a26 h27 =>
  ab PP (.st (.c a26) (.c a24) 2) h27 λ a28 h29 =>
  ∃(J30:HJq),(∀(f31:Nat->D) (h32:Heap),J30 [] h32 ->
  ab PP (.ld (.c a26) 2 true) h32 λ a33 h34 =>
  ab PP (.st (.c (.ptr n4 0 0)) (.c a33) 2) h34 λ a35 h36 =>
  ab PP (.ld (.c (.ptr n4 0 0)) 2 true) h36 λ a37 _ =>
  ky K a37 h36) /\
  ab PP (.fadd (.c a26) 0) h29 λ a38 h39 =>
  ab PP (.ld (.c a38) 1 false) h39 λ a40 h41 =>
  aM a40 h41 λ a42 =>
  gz h41 a42 a40 a26 (.mp nl) (.ptr n4 0 0) J30:=by
 have a2:=hc.nb;refine XZ V λ nk h2 V2=>?_
 refine um ZA (V2.get 0 _ _ rfl) (V2.get 1 _ _ rfl) (RO (N:=c.b.length) (l:=jT c) (by omega) (λ k hk=>((hss k).1 hk).lt hc) hnd yO (λ k=>by rw[hss];unfold jT;rw[dj];exact⟨λ Z=>Z.2,λ Z=>⟨Z.lt hc,Z⟩⟩)) ?_;rw[nX];refine⟨uc rfl,?_⟩;refine V2.pop.alloc λ n26 h3 V3=>?_
 refine V3.mY (cs':=[.sl (aR (jT c)),.nil]) 0 rfl rfl rfl (λ y hy=>by simp at hy;rcases hy with rfl|rfl<;>rfl) λ h4 Q=>?_
 replace Q:Vs h4 ((n26,.box (.agg [.sl (aR (jT c)),.nil]))::FL c ss nl n4 n2):=Q;refine⟨λ _ h'=>∃v,QD h' ((n26,.box (.agg [.sl (aR (jT c)),v]))::FL c ss nl n4 n2) v (RA c (jT c)),?_,?_⟩
 ·rintro f h5 ⟨v,q⟩;have V5:=q.vs;rw[V5.fV 0 (s:=2) rfl rfl]
  have a1:v.one=true:=by
   rcases q with⟨rfl,-,-⟩|⟨m,rfl,-⟩<;>rfl
  rw[kW,V5.get 2 _ _ rfl];refine⟨rfl,λ x hx=>by simp[D.cells]at hx;rcases hx with rfl|rfl;rfl;exact a1,rfl,by simp,?_⟩;have e:setCells (.agg [.nil,.nil]) 0 (D.agg [.sl (aR (jT c)),v]).cells=.agg [.sl (aR (jT c)),v]:=rfl;rw[e];have q6:=q.bK 2 (s':=.box (.agg [.sl (aR (jT c)),v])) rfl (by simp);generalize aF h5 n4 (.box (.agg [.sl (aR (jT c)),v]))=h6 at q6;rw[q6.vs.fV 2 (s:=2) rfl rfl];rcases q6 with⟨rfl,I,V6⟩|⟨m,rfl,V6⟩
  ·exfalso;have h0:0∈jT c:=dj.2 ⟨a2.1,.zero⟩;have:jT c=[]:=by simpa[RA] using I
   rw[this]at h0;cases h0
  ·have H:(h6 m).row=some (1,RA c (jT c)):=by rw[V6.get 0 _ _ rfl];rfl
   have ez:(D.agg [.sl (aR (jT c)),.ms m 0 (RA c (jT c)).length]).fzt h6=RE c:=by
    grind [D.fzt,D.fz,D.fzc,RE,RA]
   refine⟨λ x hx=>by simp[D.cells]at hx;rcases hx with rfl|rfl<;>rfl,?_,by rw[ez];rfl,by rw[ez];exact hK⟩;intro x hx;simp only[D.cells,List.mem_cons,List.not_mem_nil,or_false]at hx;rcases hx with rfl|rfl
   ·trivial
   ·refine⟨1,_,H,by omega,λ x hx y hy=>?_⟩;have G:x∈RA c (jT c):=by simpa using hx
    simp only[RA,List.mem_map]at G;obtain⟨s,-,rfl⟩:=G;simp[D.cells]at hy;subst hy;rfl
 simp only[↓Q.fa 0 rfl,Nat.zero_add,↓Q.bI 0 (j:=0) rfl rfl,po];exact ZL hc (L':=[]) hss Q λ h' v q=>⟨v,q⟩
end Go.Am
namespace Go.Am
open Go Go.Proofs
structure P2 (c:Code) (ss T:List Nat) (x:Nat):Prop where
 nd:ss.Nodup
 st:∀k∈ss,St c k
 td:∀k∈T,St c k
 cur:St c x
 zero:0∈ss\/x=0\/0∈T
 done:∀s a t,s∈ss->Path (inE c) s a->t∈lJ c a->t∈ss\/t=x\/t∈T
structure AM (c:Code) (ss T:List Nat):Prop where
 nd:ss.Nodup
 st:∀k∈ss,St c k
 td:∀k∈T,St c k
 zero:0∈ss\/0∈T
 done:∀s a t,s∈ss->Path (inE c) s a->t∈lJ c a->t∈ss\/t∈T
theorem P2.T4 {c:Code}{ss T:List Nat}{x:Nat}(h:P2 c ss T x) (hx:x∈ss):AM c ss T :=
 ⟨h.nd,h.st,h.td,by rcases h.zero with h0|h0|h0;exact Or.inl h0;exact Or.inl (h0 ▸ hx);exact Or.inr h0,λ s a t hs ha ht=>by
  rcases h.done s a t hs ha ht with h1|h1|h1
  ·exact Or.inl h1
  ·exact Or.inl (h1 ▸ hx)
  ·exact Or.inr h1⟩
theorem P2.new {c:Code}(hc:bp c){ss T:List Nat}{x:Nat}(h:P2 c ss T x) (hx:x∉ss):AM c (ss++[x]) (T++Yn c x):=by
 refine⟨?_,λ k G=>?_,λ k G=>?_,?_,λ s a t hs ha ht=>?_⟩
 ·exact List.nodup_append.2 ⟨h.nd,by simp,λ a ha b hb=>by grind⟩
 ·rcases List.mem_append.1 G with G|G
  ·exact h.st k G
  ·simp at G;subst G;exact h.cur
 ·rcases List.mem_append.1 G with G|G
  ·exact h.td k G
  ·obtain⟨-,a,ha,hb⟩:=dj.1 G;exact .step h.cur ha hb
 ·rcases h.zero with h0|h0|h0
  ·exact Or.inl (by simp[h0])
  ·exact Or.inl (by simp[h0])
  grind
 ·rcases List.mem_append.1 hs with hs|hs
  ·rcases h.done s a t hs ha ht with h1|h1|h1
   ·exact Or.inl (by simp[h1])
   ·exact Or.inl (by simp[h1])
   grind
  ·simp at hs;subst hs;exact Or.inr (List.mem_append_right _ (dj.2 ⟨cE hc (rZ ht),a,ha,ht⟩))
theorem AM.next {c:Code}{ss T:List Nat}{x:Nat}(h:AM c ss (x::T)):P2 c ss T x :=
 ⟨h.nd,h.st,λ k G=>h.td k (by simp[G]),h.td x (by simp),by
  rcases h.zero with h0|h0
  ·exact Or.inl h0
  grind,λ s a t hs ha ht=>by
  rcases h.done s a t hs ha ht with h1|h1
  ·exact Or.inl h1
  grind⟩
theorem AM.fin {c:Code}{ss:List Nat}(h:AM c ss []) (k:Nat):k∈ss↔St c k:=by
 refine⟨h.st k,λ H=>?_⟩
 induction H with
 | zero=>rcases h.zero with h0|h0;exact h0;cases h0
 | step _ ha ht G=>rcases h.done _ _ _ G ha ht with h1|h1;exact h1;cases h1
theorem PL {c:Code}(hc:bp c):aK PP kP [c.e] (· = RE c):=by
 have Z:=hc.nb;refine aZ Ia (aG _ _ _) rfl (HP _ _) ?_;dsimp only[DN,xB,xF,xL,xS,yI,yL];refine Vs.nil.box c.b9.one λ n2 h3 V1=>?_
 refine V1.alloc λ I h5 V2=>?_
 let M:List Nat->List Nat->Nat:=λ ss T=>20*jS (iY ss) c.b.length+T.length
 refine⟨λ m l h=>∃(nl x:Nat) (ss T:List Nat) (v:D),l=[.mp nl,nD x,v]/\QV h (FL c ss nl I n2) v T/\P2 c ss T x/\m=M ss T/\m<=500,?_,?_⟩
 ·refine V2.KL λ nl a1 V3=>?_
  have q0:QV a1 (FL c [] nl I n2) .nil []:=QV.nil V3;have f0:P2 c [] [] 0:=⟨by simp,λ k Q=>(by cases Q),λ k Q=>(by cases Q),.zero,Or.inr (Or.inl rfl),λ s a t hs=>(by cases hs)⟩;refine⟨λ l h=>∃(ss T:List Nat) (v:D),l=[v]/\QV h (FL c ss nl I n2) v T/\AM c ss T/\M ss T<=480,?_,?_⟩
  ·rintro f h ⟨ss,T,v,hl,q,fi,hM⟩;simp only[ah,and_true]at hl;simp only[hl,q.len,rU]
   cases T with
   | nil =>
    simp only[List.length_nil,show((0:Nat):Int)=0 from rfl,Int.lt_irrefl,decide_false,↓ae];exact Yx hc q.vs fi.nd fi.fin rfl
   | cons x T' =>
    simp only[show((0:Int)<((x::T').length:Int))=True from eq_true (by grind),decide_true,↓af];refine q.MJ (i:=0) (k:=x) rfl ?_;refine q.abW (lo:=some 1) (hi:=none) (a:=1) (b:=(x::T').length) rfl rfl (by simp) (Nat.le_refl _) (by simp) λ v' G=>?_
    have e1:((x::T').drop 1).take ((x::T').length-1)=T':=by simp
    rw[e1]at G;simp only[aa,true_and];refine⟨_,nl,x,ss,T',v',rfl,G,fi.next,rfl,?_⟩;grind
  ·refine UF hc (x:=0) (J:=λ l h=>∃(ss T:List Nat) (v:D),l=[v]/\QV h (FL c ss nl I n2) v T/\AM c ss T/\M ss T<=480) rfl q0 Z.1 (by simp) λ v' h' H T' G V=>⟨H,T',v',rfl,G,?_,?_⟩
   ·rcases V with⟨h0,-,-⟩|⟨h0,rfl,rfl⟩
    ·cases h0
    ·exact f0.new hc h0
   grind [wI,Yn,oM]
 ·rintro m f h9 ⟨nl,x,ss,T,v,hl,q,fi,hm,a2⟩;simp only[ah,and_true]at hl;obtain⟨e3,e4,e5⟩:=hl;rw[e3,e4,e5];refine⟨λ l h=>∃(ss T:List Nat) (v:D),l=[v]/\QV h (FL c ss nl I n2) v T/\AM c ss T/\M ss T<=m,?_,?_⟩
  ·rintro f' h ⟨ss,T,v,hl,q,fi,hM⟩;simp only[ah,and_true]at hl;simp only[hl,q.len,rU]
   cases T with
   | nil =>
    simp only[List.length_nil,show((0:Nat):Int)=0 from rfl,Int.lt_irrefl,decide_false,↓ae,acE,e3];exact Yx hc q.vs fi.nd fi.fin rfl
   | cons x T' =>
    simp only[show((0:Int)<((x::T').length:Int))=True from eq_true (by grind),decide_true,↓af];refine q.MJ (i:=0) (k:=x) rfl ?_;refine q.abW (lo:=some 1) (hi:=none) (a:=1) (b:=(x::T').length) rfl rfl (by simp) (Nat.le_refl _) (by simp) λ v' G=>?_
    have e1:((x::T').drop 1).take ((x::T').length-1)=T':=by simp
    rw[e1]at G;simp only[aa,true_and];have:M ss (x::T')=M ss T'+1:=by grind
    exact⟨_,by omega,nl,x,ss,T',v',rfl,G,fi.next,rfl,by omega⟩
  ·refine UF hc (x:=x) (J:=λ l h=>∃(ss T:List Nat) (v:D),l=[v]/\QV h (FL c ss nl I n2) v T/\AM c ss T/\M ss T<=m) rfl q (fi.cur.lt hc) (by simp only[M]at hm;omega) λ v' h' H T' G V=>⟨H,T',v',rfl,G,?_,?_⟩
   ·rcases V with⟨h0,rfl,rfl⟩|⟨h0,rfl,rfl⟩
    ·exact fi.T4 h0
    ·exact fi.new hc h0
   ·rcases V with⟨h0,rfl,rfl⟩|⟨h0,rfl,rfl⟩
    ·omega
    ·have hu:jS (iY (ss++[x])) c.b.length+1<=jS (iY ss) c.b.length:=kB (x:=x) (λ k Q=>by grind [iY]) (fi.cur.lt hc) (by simp[iY,h0]) (by simp[iY]);grind [Yn,oM]
end Go.Am
namespace Go.Am
open Go Go.Proofs
theorem O8 {l:List Nat}:kx (.sl (aR l)):=FA
theorem J3 {α:Type}{ls:List α}{g:α->D}{cl:D}{p:α->Bool}{h:Heap}{KH:HKq}(hx:∀y,(g y).one=true) (hl:ls.length<=1000000)
  (hp:∀y∈ls,∀KH:HKq,KH (.bool (p y)) h->ab PP (.callv (.c cl) [.c (g y)]) h KH) (hK:KH (.bool (ls.any p)) h):ag PP cC [.sl (ls.map g),cl] h KH:=by
 refine aY jy (aG _ _ _) rfl (ju _ _ _) ?_;unfold fg
 have key:∀KH:HKq,(∀i:Int,(0<=i↔ls.any p=true)->KH (.int .i64 i) h)->ag PP cZ [.sl (ls.map g),cl] h KH:=by
  intro KH Z;refine aY lF (aG _ _ _) rfl (lq _ _ _) ?_;unfold fZ;refine⟨λ _ h'=>h'=h/\ls.any p=false,?_,?_⟩
  ·grind
  rw[bD,aH];dsimp only[ff,xI,xL];refine⟨λ m q h'=>h'=h/\∃i:Nat,i<=ls.length/\m=ls.length-i/\q=[.int .i64 (i:Int)]/\(ls.take i).any p=false,_,⟨rfl,0,by omega,rfl,rfl,by simp⟩,?_⟩;rintro m f _ ⟨rfl,i,hi,hm,Q,hn⟩;simp only[ah,and_true]at Q;rw[Q,nV];by_cases I:i<ls.length
  ·have hb:ls[i]?=some ls[i]:=aq I;have H:=ak hb;generalize ls[i]=b at hb H;have G:=hx b;have hc:(g b).cells.length=1:=by generalize g b=x at G;cases x<;>first|rfl|cases G
   simp only[show((i:Int)<(ls.length:Int))=True from eq_true (by omega),decide_true,↓af];rw[iN (d:=g b) (by omega) (by grind) hc,ni G];refine hp b H _ ?_;cases V:p b
   ·rw[ae,bB (by omega) (by omega)];simp only[aa,true_and];refine⟨_,by omega,i+1,by omega,rfl,by simp,?_⟩;grind [List.take_add_one]
   grind [af]
  grind [ae,aa]
 grind [Gi]
end Go.Am
namespace Go.Am
open Go Go.Proofs
section
variable {h:Heap}{L:LSq}{KH:HKq}
theorem Vs.Db (V:Vs h L){esz:Nat}{z:D}{fz:Bool}(hK:∀n h',Vs h' ((n,.arr esz [])::L)->KH (.ms n 0 0) h'):ab PP (.bldS fz esz 0 z []) h KH:=ZH λ n t=>hK n _ (V.push t.free (by simp))
theorem Vs.rH {m esz bytes:Nat}{els ys:List D}{x z:D}(V:Vs h ((m,.arr esz els)::L)) (hx:∀{K:List D->Prop},K ys->velems esz x h K) (hy:∀y∈ys,aL y) (hb:(els.length+ys.length)*bytes<=140737488355328) (hl:els.length+ys.length<=9223372036854775807)
  (hK:∀n h',Vs h' ((n,.arr esz (els++ys))::L)->KH (.ms n 0 (els.length+ys.length)) h'):ab PP (.app (.c (.ms m 0 els.length)) (.c x) esz bytes z) h KH:=by
 rw[Ln];refine hx ⟨hy,?_⟩;have hm:=V.get 0 _ _ rfl;refine⟨els,.of hm,by simp,⟨hb,hl⟩,λ n t=>⟨?_,λ h0=>absurd rfl h0⟩⟩;rw[List.drop_zero];refine hK n _ ?_;have hne:n≠m:=by rintro rfl;rw[t.free]at hm;cases hm
 have H:Vs (aF h m .dead) L:=by
  refine V.pop.QC λ k s hi=>?_
  have:k≠m:=λ e=>by
   obtain⟨i,G⟩:=hi;exact V.ne (i+1) 0 k m s _ (by simpa using G) rfl (by omega) e
  exact an _ _ this
 exact H.push (by rw[an _ _ hne];exact t.free) (by simp)
theorem Vs.adF {w:Nat}{els:List D}{t:Term}{z:D}(V:Vs h ((w,.arr 15 els)::L)) (hv:∀x∈els,∀y∈x.cells,y.vone=true)
  (hK:∀n h',Vs h' ((n,.arr 14 [.agg (.sl els::t.cs)])::L)->KH (.ms n 0 1) h'):ab PP (.bldS true 14 1 z [(0,.c (.agg (.ms w 0 els.length::t.cs)))]) h KH:=by
 have hw:=V.get 0 _ _ rfl;have G:(h w).row=some (15,els):=by rw[hw];rfl
 refine⟨λ p hp=>by
  simp[Arg.get]at hp;subst hp
  exact⟨Nat.one_pos,rfl,λ x hx=>by simp[D.cells,Term.cs]at hx;rcases hx with rfl|rfl|rfl|rfl|rfl|rfl|rfl|rfl|rfl|rfl|rfl|rfl|rfl|rfl<;>rfl⟩,λ _ p hp=>?_,λ n t0=>?_⟩
 ·simp[Arg.get]at hp;subst hp;intro x hx;simp only[D.cells,Term.cs,List.mem_cons,List.not_mem_nil,or_false]at hx;rcases hx with rfl|rfl|rfl|rfl|rfl|rfl|rfl|rfl|rfl|rfl|rfl|rfl|rfl|rfl
  ·exact⟨15,els,G,by simp,λ x hx y hy=>hv x (by simpa using hx) y hy⟩
  all_goals trivial
 ·have kU:(aF h w (.frz 15 els)) n=.free:=by
   have:n≠w:=by rintro rfl;rw[t0.free]at hw;cases hw
   rw[an _ _ this];exact t0.free
  have H:=(V.bK 0 (s':=.frz 15 els) rfl (by simp)).pop;have:=hK n _ (H.push kU (s:=.arr 14 [.agg (.sl els::t.cs)]) (by simp));simpa[Arg.get,Heap.freezeAll,Heap.freeze,hw,setEls,D.fz,D.fzc,D.nm,D.lG,Slot.row,Term.cs] using this
end
theorem ID {α:Type}{g:α->D}{l:List α}{esz:Nat}{h:Heap}(hc:∀x,(g x).cells.length=esz){K:List D->Prop}(hk:K (l.map g)):velems esz (.sl (l.map g)) h K :=
 ⟨λ e he=>by grind,hk⟩
theorem Mn {α:Type}{g:α->D}{l:List α}(hd:∀x,kx (g x)):∀y,y∈l.map g->aL y:=λ y hy=>by
 simp only[List.mem_map]at hy;obtain⟨x,-,rfl⟩:=hy;exact(hd x).one
theorem QG {l:List bj}:∀x,x∈l.map bj.e->∀y∈x.cells,y.vone=true:=by
 intro x hx y hy;simp only[List.mem_map]at hx;obtain⟨i,-,rfl⟩:=hx;simp[bj.e,bj.cs,D.cells]at hy;rcases hy with rfl|rfl|rfl|rfl|rfl|rfl|rfl|rfl|rfl|rfl|rfl|rfl|rfl|rfl|rfl<;>rfl
abbrev Iy (c:Code) (vA vL vB:D):D:=.agg [.int .i64 c.group,.int .i64 c.sub,.int .i64 c.regs,.int .i64 c.slots,.int .i64 c.params,vA,vL,vB]
theorem aas {c:Code}(hc:nQ c){h:Heap}{L:LSq}(V0:Vs h L){KH:HKq}
  (hK:∀h' nA nL nB,Vs h' ((nB,.arr 14 (c.b.map Block.e))::(nL,.arr 3 (c.loops.map Loop.e))::(nA,.arr 4 (c.arrays.map qV.e))::L) ->
   KH (Iy c (.ms nA 0 c.arrays.length) (.ms nL 0 c.loops.length) (.ms nB 0 c.b.length)) h'):ag PP tR [c.e] h KH:=by
 have c2:=hc.nb;have c1:=hc.nl;have a2:c.arrays.length=5:=by rw[hc.arrays];rfl
 refine aY H8 (aG _ _ _) rfl (HN _ _) ?_;dsimp only[DJ,xB,xF,xL,xS];refine V0.box c.b9.one λ n2 h3 V1=>?_
 refine V1.alloc λ n4 h5 V2=>?_
 refine V2.Db λ b4 h7 I=>?_
 simp only[↓I.fa 2 rfl,Nat.zero_add,↓I.bI 2 (j:=5) rfl rfl];refine I.rH (els:=[]) (ys:=c.arrays.map qV.e) (λ Z=>ID (g:=qV.e) (l:=c.arrays) (λ _=>rfl) Z) (Mn λ x=>x.b9) (by simp[a2]) (by simp[a2]) λ nA g0 V4=>?_
 simp only[List.length_nil,Nat.zero_add,aH,List.nil_append]at V4 ⊢;simp only[↓V4.fa 2 rfl,Nat.zero_add];refine V4.Yg 2 (j:=5) rfl (by simp) rfl λ e9 V5=>?_
 refine V5.Db λ b3 e8 V6=>?_
 simp only[↓V6.fa 3 rfl,Nat.zero_add,↓V6.bI 3 (j:=6) rfl rfl];refine V6.rH (els:=[]) (ys:=c.loops.map Loop.e) (λ Z=>ID (g:=Loop.e) (l:=c.loops) (λ _=>rfl) Z) (Mn λ x=>x.b9) (by simp;omega) (by simp;omega) λ nL e7 V7=>?_
 simp only[List.length_nil,Nat.zero_add,aH,List.nil_append]at V7 ⊢;simp only[↓V7.fa 3 rfl,Nat.zero_add];refine V7.Yg 3 (j:=6) rfl (by simp) rfl λ e6 V8=>?_
 refine V8.Db λ a1 b1 V9=>?_
 let BL:LSq:=[(nL,.arr 3 (c.loops.map Loop.e)),(nA,.arr 4 (c.arrays.map qV.e)),(n4,.box (.agg [.int .i64 0,.int .i64 0,.int .i64 0,.int .i64 0,.int .i64 0,.nil,.nil,.nil])),(n2,.box (Iy c (.ms nA 0 c.arrays.length) (.ms nL 0 c.loops.length) (.sl (c.b.map Block.e))))]++L
 replace V9:Vs b1 ((a1,.arr 14 [])::BL):=V9;refine⟨λ l h=>∃nB,l=[.ms nB 0 c.b.length]/\Vs h ((nB,.arr 14 (c.b.map Block.e))::BL),?_,?_⟩
 ·rintro f e5 ⟨nB,hl,V⟩;simp only[ah,and_true]at hl;rw[hl];simp only[↓V.fa 4 rfl,Nat.zero_add];refine V.Yg 4 (j:=7) rfl (by simp) rfl λ e1 V'=>?_
  simp only[↓V'.fV 4 (s:=8) rfl rfl];refine V'.mY (cs':=[.int .i64 c.group,.int .i64 c.sub,.int .i64 c.regs,.int .i64 c.slots,.int .i64 c.params,.ms nA 0 c.arrays.length,.ms nL 0 c.loops.length,.ms nB 0 c.b.length]) 3 rfl rfl rfl (λ y hy=>by simp at hy;rcases hy with rfl|rfl|rfl|rfl|rfl|rfl|rfl|rfl<;>rfl) λ e0 a6=>?_
  rw[a6.fV 3 (s:=8) rfl rfl];have I:=(a6.erase 3).erase 3;exact hK _ nA nL nB I
 dsimp only[uR,xF,xL,yF,yI,yL];refine⟨λ m l h=>∃(i nB:Nat),i<=c.b.length/\m=c.b.length-i/\l=[.ms nB 0 i,.int .i64 (i:Int)]/\Vs h ((nB,.arr 14 ((c.b.take i).map Block.e))::BL),_,⟨0,a1,by omega,rfl,rfl,V9⟩,?_⟩;rintro m f c8 ⟨i,nB,hi,hm,hl,V⟩;simp only[ah,and_true]at hl;obtain⟨e3,e4⟩:=hl;simp only[e3,e4,↓V.fa 4 rfl,Nat.zero_add,↓V.bI 4 (j:=7) rfl rfl,bD,aH,nV];by_cases a8:i<c.b.length
 ·have hB:c.b[i]?=some c.b[i]:=aq a8;have BO:=hc.b _ (ak hB);generalize c.b[i]=B at hB BO;have c3:=BO.len;have H:∀{h:Heap}{K:D->Prop},au PP (.ld (.c (.vp B.e 0)) 1 false) h K=K (.sl (B.i.map bj.e)):=λ {h K}=>by rw[mc];exact Fo rfl
  have G:∀{h:Heap}{K:D->Prop}{o:Nat},au PP (.fadd (.c (.vp B.e 0)) o) h K=K (.vp B.e o):=λ {h K o}=>Xk
  simp only[show((i:Int)<(c.b.length:Int))=True from eq_true (by omega),decide_true,↓af,↓V.lH 4 rfl,Nat.zero_add,↓V.gw 4 (j:=7) rfl rfl,↓Ly hB,↓G,↓H,↓Of];refine V.Db λ c0 c7 V1=>?_
  refine⟨by simp only[↓V1.lH 5 rfl,Nat.zero_add,↓V1.gw 5 (j:=7) rfl rfl,↓Ly hB,↓G,↓H,↓Of,aa,and_self],?_⟩;refine V1.rH (els:=[]) (ys:=B.i.map bj.e) (λ Z=>ID (g:=bj.e) (l:=B.i) (λ _=>rfl) Z) (Mn λ x=>x.b9) (by simp;omega) (by simp;omega) λ b7 c6 V2=>?_
  simp only[List.length_nil,Nat.zero_add,List.nil_append]at V2 ⊢;refine⟨by simp only[↓V2.lH 5 rfl,Nat.zero_add,↓V2.gw 5 (j:=7) rfl rfl,↓Ly hB,↓G,↓H,↓Of,aa,and_self],?_⟩;rw[nY rfl];refine Vs.adF (t:=B.t) V2 QG λ b5 c5 I=>?_
  have hlen:((c.b.take i).map Block.e).length=i:=by simp;omega
  have b2:=I.swap;rw[show D.ms nB 0 i=.ms nB 0 ((c.b.take i).map Block.e).length by rw[hlen]];have Q:=I.get 0 _ _ rfl;refine Vs.rH (ys:=[B.e]) b2 (λ Z=>⟨[B.e],by rw[Q];rfl,by simp,Z⟩) (λ y hy=>by simp at hy;subst hy;exact B.b9.one) (by rw[hlen];simp;omega) (by rw[hlen];simp;omega) λ a7 c4 V4=>?_
  rw[bB (by omega) (by omega),hlen];simp only[aa,true_and];refine⟨_,by omega,i+1,a7,by omega,rfl,by simp,?_⟩;have e2:(c.b.take (i+1)).map Block.e=(c.b.take i).map Block.e++[B.e]:=by rw[List.take_add_one,hB];simp
  rw[e2];exact V4.erase 1
 grind [ae,aa]
end Go.Am
namespace Go.Am
open Go Go.Proofs
def aag (mask:Int) (i:Nat):Bool:=decide (ibits .and .u32 (Jt .u32 mask ((i % 32:Nat):Int)) 1=1)
def XL (t:Term):Term:=if t.kind=1 then { t with kind:=3 } else t
def De (mask:Int) (i:Nat) (B:Block):Block:=if aag mask i then { B with t:=XL B.t } else B
def xw (c:Code) (mask:Int):Code:={ c with b:=c.b.mapIdx (De mask) }
theorem XK {N:Nat}{R:Int}{t:Term}(h:zr N R t):zr N R (XL t):=by
 cases h with
 | jump a h=>exact .barrier a h
 | branch o a b ho h1 h2=>exact .branch o a b ho h1 h2
 | barrier a h=>exact .barrier a h
 | collect s d a b t hs hd ha hb h=>exact .collect s d a b t hs hd ha hb h
 | exit=>exact .exit
theorem XN {N:Nat}{R:Int}{B:Block}{mask:Int}{i:Nat}(h:BOk N R B):BOk N R (De mask i B):=by
 unfold De;split
 ·exact⟨h.xs,h.len,XK h.t⟩
 ·exact h
theorem mJ {c:Code}{mask:Int}:(xw c mask).b.length=c.b.length:=by simp[xw]
theorem OD {c:Code}{mask:Int}{i:Nat}:(xw c mask).b[i]?=(c.b[i]?).map (De mask i):=by simp[xw]
theorem XM {c:Code}{mask:Int}(hc:nQ c):nQ (xw c mask):=by
 refine⟨hc.group,hc.sub,hc.dvd,hc.regs,hc.slots,hc.params,hc.arrays,hc.nl,?_,?_,λ B hB=>?_⟩
 ·rw[mJ];exact hc.loops
 ·rw[mJ];exact hc.nb
 ·rw[mJ];obtain⟨i,hi⟩:=ba hB;rw[OD]at hi;simp only[Option.map_eq_some_iff]at hi;obtain⟨H,G,rfl⟩:=hi;exact XN (hc.b H (ak G))
def Gj (c:Code) (mask:Int) (i:Nat):List Block:=(xw c mask).b.take i++c.b.drop i
theorem aaT {c:Code}{mask:Int}:Gj c mask 0=c.b:=by simp[Gj]
theorem Ti {c:Code}{mask:Int}:Gj c mask c.b.length=(xw c mask).b:=by
 grind [Gj,mJ]
theorem Qh {c:Code}{mask:Int}{i:Nat}{B:Block}(hB:c.b[i]?=some B):(Gj c mask i)[i]?=some B:=by
 grind [mJ,Gj]
theorem Qg {c:Code}{mask:Int}{i:Nat}{B:Block}(hB:c.b[i]?=some B):(Gj c mask i).set i (De mask i B)=Gj c mask (i+1):=by
 have hi:=(ar.1 hB).1;have h1:((xw c mask).b.take i).length=i:=by rw[List.length_take,mJ];omega
 have h2:c.b.drop i=B::c.b.drop (i+1):=by
  grind [List.drop_eq_getElem_cons]
 unfold Gj;rw[List.set_append_right _ _ (by omega),h1,Nat.sub_self,h2,List.set_cons_zero,List.take_add_one,OD,hB];simp
theorem Ns {c:Code}{mask:Int}{i:Nat}{B:Block}(hB:c.b[i]?=some B) (he:De mask i B=B):Gj c mask i=Gj c mask (i+1):=by
 have h1:=Qg (mask:=mask) hB;rw[he]at h1;rw[<- h1];refine List.ext_getElem? λ j=>?_
 grind [Qh]
theorem Vm {c:Code}(hc:nQ c){mask:Int}:aK PP pf [c.e,.int .u32 mask] (· = (xw c mask).e):=by
 have b3:=hc.nb;refine aZ El (aG _ _ _) rfl (Dy _ _ _) ?_;dsimp only[xH,xB,xL,xS];refine Vs.nil.box c.b9.one λ n3 h4 V1=>?_
 refine V1.alloc λ n5 h6 V2=>?_
 simp only[↓V2.fV 1 (s:=8) rfl rfl];refine aas hc V2 λ b7 nA nL I V3=>?_
 refine V3.alloc λ n11 b5 V4=>?_
 refine V4.mY (cs':=[.int .i64 c.group,.int .i64 c.sub,.int .i64 c.regs,.int .i64 c.slots,.int .i64 c.params,.ms nA 0 c.arrays.length,.ms nL 0 c.loops.length,.ms I 0 c.b.length]) 0 rfl rfl rfl (λ y hy=>by simp at hy;rcases hy with rfl|rfl|rfl|rfl|rfl|rfl|rfl|rfl<;>rfl) λ b2 V5=>?_
 let BL:List Block->LSq:=λ bs=>[(n11,.box (Iy c (.ms nA 0 c.arrays.length) (.ms nL 0 c.loops.length) (.ms I 0 c.b.length))),(I,.arr 14 (bs.map Block.e)),(nL,.arr 3 (c.loops.map Loop.e)),(nA,.arr 4 (c.arrays.map qV.e)),(n5,.box (.agg [.int .i64 0,.int .i64 0,.int .i64 0,.int .i64 0,.int .i64 0,.nil,.nil,.nil])),(n3,.box c.e)]
 replace V5:Vs b2 (BL c.b):=V5;refine⟨λ _ h=>Vs h (BL (xw c mask).b),?_,?_⟩
 ·rintro f b4 V;simp only[↓V.fV 0 (s:=8) rfl rfl];refine V.mY (cs':=[.int .i64 c.group,.int .i64 c.sub,.int .i64 c.regs,.int .i64 c.slots,.int .i64 c.params,.ms nA 0 c.arrays.length,.ms nL 0 c.loops.length,.ms I 0 c.b.length]) 4 rfl rfl rfl (λ y hy=>by simp at hy;rcases hy with rfl|rfl|rfl|rfl|rfl|rfl|rfl|rfl<;>rfl) λ Z V'=>?_
  rw[V'.fV 4 (s:=8) rfl rfl];have rB:(Z I).row=some (14,(xw c mask).b.map Block.e):=by rw[V'.get 1 _ _ rfl];rfl
  have rL:(Z nL).row=some (3,c.loops.map Loop.e):=by rw[V'.get 2 _ _ rfl];rfl
  have rA:(Z nA).row=some (4,c.arrays.map qV.e):=by rw[V'.get 3 _ _ rfl];rfl
  have ez:(Iy c (.ms nA 0 c.arrays.length) (.ms nL 0 c.loops.length) (.ms I 0 c.b.length)).fzt Z=(xw c mask).e:=by
   have e1:((xw c mask).b.map Block.e).take c.b.length=(xw c mask).b.map Block.e:=List.take_of_length_le (by rw[aH,mJ];omega);have e2:(c.loops.map Loop.e).take c.loops.length=c.loops.map Loop.e:=List.take_of_length_le (by rw[aH];omega);have e3:(c.arrays.map qV.e).take c.arrays.length=c.arrays.map qV.e:=List.take_of_length_le (by rw[aH];omega);simp only[D.fzt,D.fz,List.map_cons,List.map_nil,D.fzc,rA,rL,rB,List.drop_zero,e1,e2,e3,Code.e];rfl
  refine⟨λ x hx=>by simp[D.cells]at hx;rcases hx with rfl|rfl|rfl|rfl|rfl|rfl|rfl|rfl<;>rfl,?_,by rw[ez];rfl,ez⟩;intro x hx;simp only[D.cells,List.mem_cons,List.not_mem_nil,or_false]at hx;rcases hx with rfl|rfl|rfl|rfl|rfl|rfl|rfl|rfl
  iterate 5 trivial
  ·refine⟨4,_,rA,by simp,λ x hx y hy=>?_⟩;have G:x∈c.arrays.map qV.e:=List.mem_of_mem_drop (List.mem_of_mem_take hx);simp only[List.mem_map]at G;obtain⟨a,-,rfl⟩:=G;simp[qV.e,D.cells]at hy;rcases hy with rfl|rfl|rfl|rfl<;>rfl
  ·refine⟨3,_,rL,by simp,λ x hx y hy=>?_⟩;have G:x∈c.loops.map Loop.e:=List.mem_of_mem_drop (List.mem_of_mem_take hx);simp only[List.mem_map]at G;obtain⟨a,-,rfl⟩:=G;simp[Loop.e,D.cells]at hy;rcases hy with rfl|rfl|rfl<;>rfl
  ·refine⟨14,_,rB,by simp[mJ],λ x hx y hy=>?_⟩;have G:x∈(xw c mask).b.map Block.e:=List.mem_of_mem_drop (List.mem_of_mem_take hx);simp only[List.mem_map]at G;obtain⟨a,-,rfl⟩:=G;simp[Block.e,Term.cs,D.cells]at hy;rcases hy with rfl|rfl|rfl|rfl|rfl|rfl|rfl|rfl|rfl|rfl|rfl|rfl|rfl|rfl<;>rfl
 dsimp only[qu,xC,xF,xI,xL,xP,xS];refine⟨λ m l h=>∃i:Nat,i<=c.b.length/\m=c.b.length-i/\l=[.int .i64 (i:Int)]/\Vs h (BL (Gj c mask i)),_,⟨0,by omega,rfl,rfl,by rw[aaT];exact V5⟩,?_⟩;rintro m f H ⟨i,hi,hm,hl,V⟩;simp only[ah,and_true]at hl
 have hlen:∀{h:Heap}{K:D->Prop},Vs h (BL (Gj c mask i))->aM (.ms I 0 c.b.length) h K=K (.int .i64 (c.b.length:Int)):=λ {h K} V=>by
  rw[bH];apply propext;exact⟨λ hh=>hh.2,λ Q=>⟨by rw[V.get 1 _ _ rfl];rfl,Q⟩⟩
 simp only[hl,↓V.fa 0 rfl,Nat.zero_add,↓V.bI 0 (j:=7) rfl rfl,↓hlen V,nV];by_cases a8:i<c.b.length
 ·have hB:c.b[i]?=some c.b[i]:=aq a8;generalize c.b[i]=B at hB;have hS:=Qh (mask:=mask) hB;have hE:((Gj c mask i).map Block.e)[i]?=some B.e:=by grind
  have b1:=(ar.1 hE).1;have w:IntKind.u64.wrap ((i % 32:Nat):Int)=((i % 32:Nat):Int):=by grind [IntKind.wrap,IntKind.bits]
  simp only[show((i:Int)<(c.b.length:Int))=True from eq_true (by omega),decide_true,↓af];refine⟨λ _ h=>Vs h (BL (Gj c mask (i+1))),?_,?_⟩
  ·rintro f' h' V';rw[bB (by omega) (by omega)];simp only[aa,true_and];exact⟨_,by omega,i+1,by omega,rfl,by simp,V'⟩
  rw[cY];refine⟨by omega,?_⟩;rw[show((i:Int).tmod 32)=((i % 32:Nat):Int) from bm i 32,jb,w,P7];refine⟨by omega,?_⟩;rw[P8,bq];have a7:decide (ibits .and .u32 (Jt .u32 mask ((i % 32:Nat):Int)) 1=1)=aag mask i:=rfl;rw[a7]
  have f1:∀{KH:HKq},ab PP (.fadd (.c (.ptr I i 0)) 1) H KH=KH (.ptr I i 1) H:=λ {KH}=>by
   rw[kX,V.get 1 _ _ rfl];apply propext;exact⟨λ hh=>hh.2,λ Q=>⟨rfl,Q⟩⟩
  have f0:∀{KH:HKq},ab PP (.fadd (.c (.ptr I i 1)) 0) H KH=KH (.ptr I i 1) H:=λ {KH}=>by
   rw[kX,V.get 1 _ _ rfl];apply propext;exact⟨λ hh=>hh.2,λ Q=>⟨rfl,Q⟩⟩
  have lk:∀{KH:HKq},ab PP (.ld (.c (.ptr I i 1)) 1 false) H KH=KH (.int .i64 B.t.kind) H:=λ {KH}=>by
   rw[zh,V.get 1 _ _ rfl];grind [gd,Block.e,Term.cs,D.cells]
  cases a6:aag mask i
  ·have a1:De mask i B=B:=by unfold De;rw[a6];rfl
   simp only[↓gS];grind [aa,Ns]
  ·simp only[↓gS,↓V.fa 0 rfl,Nat.zero_add,↓V.bI 0 (j:=7) rfl rfl,↓V.ia 1 rfl (show(0:Int)<=(i:Int) by omega) (show(i:Int)<(c.b.length:Nat) by omega),aE,↓f1,↓f0,↓lk,bq];by_cases Q:B.t.kind=1
   ·have a2:De mask i B={ B with t:={ B.t with kind:=3 } }:=by grind [De,XL]
    simp only[Q,decide_true,↓gS,↓V.fa 0 rfl,Nat.zero_add,↓V.bI 0 (j:=7) rfl rfl,↓V.ia 1 rfl (show(0:Int)<=(i:Int) by omega) (show(i:Int)<(c.b.length:Nat) by omega),aE,↓f1,↓f0];rw[kW,V.get 1 _ _ rfl];refine⟨rfl,λ x hx=>by simp[D.cells]at hx;subst hx;rfl,b1,by omega,λ d hd=>?_⟩;rw[hE]at hd;cases hd;have e1:setCells B.e 1 (D.int .i64 3).cells=(De mask i B).e:=by rw[a2];rfl
    have e2:((Gj c mask i).map Block.e).set i (De mask i B).e=(Gj c mask (i+1)).map Block.e:=by rw[<- Qg hB,List.map_set]
    rw[e1,e2];simp only[aa,true_and];exact V.bK 1 (s':=.arr 14 ((Gj c mask (i+1)).map Block.e)) rfl (by simp)
   ·have a1:De mask i B=B:=by unfold De XL;rw[a6,if_pos rfl,if_neg Q]
    simp only[Q,decide_false,↓gS];grind [aa,Ns]
 ·have:i=c.b.length:=by omega
  subst this;rw[Ti]at V;simp only[show((c.b.length:Int)<(c.b.length:Int))=False from eq_false (by omega),decide_false,↓ae,aa,true_and];exact V
end Go.Am
namespace Go.Am
open Go Go.Proofs
noncomputable def Wt (c:Code):List (List Nat):=(jT c).map (rl c)
theorem Wv (c:Code):RE c=.agg [.sl (aR (jT c)),.sl ((Wt c).map λ l=>.sl (aR l))]:=by
 unfold RE Wt;rw[List.map_map];rfl
theorem Sc {c:Code}{a b:Nat}(h:b∈edg c a):b∈inE c a\/b∈lJ c a:=by
 unfold edg at h;grind [inE,lJ]
theorem K7 {c:Code}{a:Nat}:Path (edg c) 0 a ↔ ∃s,St c s/\Path (inE c) s a:=by
 constructor
 ·intro h
  induction h with
  | refl=>exact⟨0,.zero,.refl⟩
  | step _ hb G =>
   obtain⟨s,hs,hp⟩:=G;rcases Sc hb with hb|hb
   ·exact⟨s,hs,.step hp hb⟩
   ·exact⟨_,.step hs hp hb,.refl⟩
 ·rintro⟨s,hs,hp⟩
  have H:∀{s b:Nat},Path (inE c) s b->Path (edg c) 0 s->Path (edg c) 0 b:=λ h h0=>by
   induction h with
   | refl=>exact h0
   | step _ hb G=>exact .step G (QH hb)
  refine H hp ?_;clear hp
  induction hs with
  | zero=>exact .refl
  | step _ ha ht G=>exact .step (H ha G) (rZ ht)
end Go.Am

namespace Go.Am
open Go Go.Proofs
def c9 (w:Int) (p:List Bool×List Nat) (b:Nat):List Bool×List Nat:=if !hasB p.1 b&&decide ((b:Int)≠w) then(p.1.set b true,p.2++[b]) else p
def frRun (E:List (List Nat)) (w:Int):Nat->List Bool->List Nat->List Bool
 | 0,S,_=>S
 | _+1,S,[]=>S
 | n+1,S,a::T=>frRun E w n (((E[a]?).getD []).foldl (c9 w) (S,T)).1 (((E[a]?).getD []).foldl (c9 w) (S,T)).2
def lO (E:List (List Nat)) (s:Nat) (w:Int):List Bool :=
 if(s:Int)=w then List.replicate E.length false else frRun E w (3*E.length+3) ((List.replicate E.length false).set s true) [s]
theorem Lp {E:List (List Nat)}{w:Int}{n:Nat}{S:List Bool}:frRun E w n S []=S:=by cases n<;>rfl
end Go.Am
namespace Go.Am
open Go Go.Proofs
def aQ (l:List Int):List D:=l.map (.int .i64)
theorem gO {l:List Int}:(aQ l).length=l.length:=by simp[aQ]
theorem Yq (l:List Nat):aR l=aQ (l.map λ n:Nat=>(n:Int)):=by simp[aR,aQ,nD]
section
variable {P:Program}{KH:HKq}{K:D->Prop}{h:Heap}
theorem iDi {l:List Int}{i:Nat}{k:Int}(hk:l[i]?=some k) (hK:KH (.int .i64 k) h):ab P (.iadd (.c (.sl (aQ l))) (.c (.int .i64 (i:Int))) 1) h λ a h1=>ab P (.ld (.c a) 1 false) h1 KH:=by
 rw[iN (esz:=1) (d:=.int .i64 k) (by omega) (by rw[aE,aQ,List.getElem?_map,hk];rfl) rfl,ni rfl];exact hK
theorem WW {l:List Int}{i:Nat}{k:Int}(hk:l[i]?=some k):ab P (.iadd (.c (.sl (aQ l))) (.c (.int .i64 (i:Int))) 1) h KH=KH (.vp (.int .i64 k) 0) h :=
 iN (esz:=1) (d:=.int .i64 k) (by omega) (by rw[aE,aQ,List.getElem?_map,hk];rfl) rfl
theorem ldi {k:Int}:ab P (.ld (.c (.vp (.int .i64 k) 0)) 1 false) h KH=KH (.int .i64 k) h:=ni rfl
theorem xi {l:List Int}:aM (.sl (aQ l)) h K=K (.int .i64 (l.length:Int)):=by rw[bD,gO]
end
theorem Io {l:List Int}:kx (.sl (aQ l)):=FA
theorem ip (l:List Int) (k:Int):∀d,d∈[.sl (aQ l),.int .i64 k]->d.vd=true/\aL d:=λ d hd=>by simp at hd;rcases hd with rfl|rfl;exact Io.pair;exact aI.pair
theorem Vi {l:List Int}{k:Int}(hl:l.length<=1000000):aK PP fK [.sl (aQ l),.int .i64 k] (λ r=>∃i:Int,r=.int .i64 i/\(0<=i↔k∈l)):=by
 refine aZ p9 (aG _ _ _) rfl (pJ _ _ _) ?_;unfold jZ;refine⟨λ _ _=>k∉l,λ f h I=>?_,?_⟩
 ·grind [bC]
 rw[xi];dsimp only[ij,xI,xL];refine⟨λ m q _=>∃i:Nat,i<=l.length/\m=l.length-i/\q=[.int .i64 (i:Int)]/\k∉l.take i,_,⟨0,by omega,rfl,rfl,by simp⟩,?_⟩;rintro m f h ⟨i,hi,hm,H,hn⟩;simp only[ah,and_true]at H;rw[H,nV];by_cases G:i<l.length
 ·have hb:l[i]?=some l[i]:=aq G;generalize l[i]=b at hb;simp only[show((i:Int)<(l.length:Int))=True from eq_true (by omega),decide_true,↓af];refine iDi hb ?_;simp only[bq];by_cases he:k=b
  ·grind [af,bC]
  ·simp only[show(k=b)=False from eq_false he,decide_false,↓ae];rw[bB (by omega) (by omega)];simp only[aa,true_and];refine⟨_,by omega,i+1,by omega,rfl,by simp,?_⟩;grind [List.take_add_one]
 grind [ae,aa]
theorem mI {l:List Int}{k:Int}(hl:l.length<=1000000):aK PP bn [.sl (aQ l),.int .i64 k] (· = .bool (decide (k∈l))):=by
 refine aZ mS (aG _ _ _) rfl (mK _ _ _) ?_;unfold ik;refine aW (Vi hl) (ip l k) ?_;grind [Gi,bb]
def Kv (N:Nat) (l:List Int):Prop:=l.Pairwise (· < ·)/\∀b∈l,0<=b/\b<(N:Int)
instance (N:Nat) (l:List Int):Decidable (Kv N l):=inferInstanceAs (Decidable (_/\_))
theorem jn {N:Nat}{l:List Int}{i:Nat}{b:Int}(hb:l[i]?=some b):Kv N (l.take (i+1))↔Kv N (l.take i)/\(0<=b/\b<(N:Int))/\∀j a,j+1=i->l[j]?=some a->a<b:=by
 rw[List.take_add_one,hb];simp only[Option.toList_some,Kv,List.pairwise_append,List.mem_append,List.mem_singleton,List.pairwise_cons,List.not_mem_nil,false_implies,implies_true,List.Pairwise.nil,and_self,true_and];constructor
 ·rintro⟨⟨h1,h2⟩,h3⟩;refine⟨⟨h1,λ x hx=>h3 x (Or.inl hx)⟩,h3 b (Or.inr rfl),λ j a H ha=>h2 a ?_ b rfl⟩;rw[List.mem_iff_getElem?];exact⟨j,by grind⟩
 ·rintro⟨⟨h1,h2⟩,h3,h4⟩;refine⟨⟨h1,λ a ha x hx=>?_⟩,λ x hx=>?_⟩
  ·subst hx;obtain⟨j,H⟩:=ba ha
   have G:j<i:=by
    grind
   rw[List.getElem?_take,if_pos G]at H;rcases Nat.lt_or_ge (j+1) i with I|Q
   ·obtain⟨c,hc⟩:∃c,l[i-1]?=some c:=by
     grind
    grind [List.pairwise_iff_getElem]
   ·exact h4 j a (by omega) H
  grind
theorem NF {N:Nat}{l:List Int}(h:Kv N l) (i:Nat):Kv N (l.take i):=⟨h.1.sublist (List.take_sublist _ _),λ b hb=>h.2 b (List.mem_of_mem_take hb)⟩
def Hx (N:Nat) (l:List Int) (w:Int):Bool:=decide (Kv N l)&&decide (w∈l)
theorem Oo {c:Code}{l:List Int}{w:Int}(hnb:c.b.length<=1000) (hl:l.length<=1000000):aK PP kM [c.e,.sl (aQ l),.int .i64 w] (· = .bool (Hx c.b.length l w)):=by
 refine aZ EA (aG _ _ _) rfl (DL _ _ _ _) ?_;dsimp only[xV,xB];refine Vs.nil.box c.b9.one λ n4 h5 V=>?_
 refine⟨λ _ h=>h=h5/\Kv c.b.length l,?_,?_⟩
 ·rintro f _ ⟨rfl,H⟩;refine aW (mI hl) (ip l w) ?_;grind [bb,Hx]
 rw[xi];dsimp only[qw,xF,xI,xL,xP];refine⟨λ m q h=>h5=h/\∃i:Nat,i<=l.length/\m=l.length-i/\q=[.int .i64 (i:Int)]/\Kv c.b.length (l.take i),_,⟨rfl,0,by omega,rfl,rfl,⟨by simp,by simp⟩⟩,?_⟩;rintro m f h6 ⟨e6,i,hi,hm,hq,H⟩;subst e6;simp only[ah,and_true]at hq;rw[hq];by_cases Q:i<l.length
 ·have hb:l[i]?=some l[i]:=aq Q;generalize l[i]=b at hb
  have bad:¬Kv c.b.length (l.take (i+1))->ky (λ x=>x=.bool (Hx c.b.length l w)) (.bool false) h5:=λ hn=>by
   grind [bb,NF,Hx]
  rw[fY (by omega),af];refine iDi hb ?_;by_cases h0:b<0
  ·rw[fY h0];simp only[↓gS];exact bad λ h=>by have:=((jn hb).1 h).2.1;omega
  ·rw[fU (by omega)];simp only[↓gS,↓V.fa 0 rfl,Nat.zero_add,↓V.bI 0 (j:=7) rfl rfl,bD,aH];by_cases h1:(c.b.length:Int)<=b
   ·rw[geT h1];simp only[↓gS];grind [jn]
   ·rw[geF (by omega)];simp only[↓gS];have I:Kv c.b.length (l.take (i+1))->∃m,m<l.length-i/\∃G:Nat,G<=l.length/\m=l.length-G/\[D.int .i64 ((i:Int)+1)]=[.int .i64 (G:Int)]/\Kv c.b.length (l.take G):=λ h=>⟨_,by omega,i+1,by omega,rfl,by simp,h⟩
    cases i with
    | zero =>
     rw[WZ (by omega)];simp only[↓gS];rw[bB (by omega) (by omega)];simp only[aa,true_and];subst hm;exact I ((jn hb).2 ⟨H,⟨by omega,by omega⟩,λ j a hj=>by omega⟩)
    | succ j =>
     obtain⟨a,ha⟩:∃a,l[j]?=some a:=⟨l[j]'(by omega),aq _⟩;rw[Yt (by omega)];simp only[↓gS];rw[KG (by omega) (by omega)];have e1:(((j+1:Nat):Int)-1)=(j:Int):=by omega
     simp only[↓gS,e1,↓WW ha,↓ldi];by_cases Z:b<=a
     ·rw[geT Z];simp only[↓gS];grind [jn]
     ·rw[geF (by omega)];simp only[↓gS];rw[bB (by omega) (by omega)];simp only[aa,true_and];subst hm
      exact I ((jn hb).2 ⟨H,⟨by omega,by omega⟩,λ j' a' hj a1=>by
       grind⟩)
 ·have:i=l.length:=by omega
  subst this;rw[fU (by omega),ae];grind [aa]
end Go.Am
namespace Go.Am
open Go Go.Proofs
theorem Xw {a:Int}:aK PP jD [.int .i64 a] (· = .bool false):=by
 refine aZ BY (aG _ _ _) rfl (BM _ _) ?_;grind [u4,Ik,bb]
theorem Vd {a:Int}:aK PP gf [.int .i64 a] (· = .bool false):=by
 refine aZ wu (aG _ _ _) rfl (vZ _ _) ?_;grind [pI,Ik,bb]
theorem i1 (k:Int):∀d,d∈[D.int .i64 k]->d.vd=true/\aL d:=λ d hd=>by simp at hd;subst hd;exact aI.pair
theorem XB {a b:Int}:aK PP pn [.int .i64 a,.int .i64 b] (· = .bool (decide (a<b))):=by
 refine aZ EG (aG _ _ _) rfl (DR _ _ _) ?_;dsimp only[x6,xP];refine aW Xw (i1 a) ?_;rintro _ rfl;simp only[↓gS,nV];rw[bb]
theorem acX {n:Int}(h1:0<=n) (h2:n<=9223372036854775807):IntKind.u64.wrap n=n:=by
 grind [IntKind.wrap,IntKind.bits]
theorem aab {l:List Int}{k:Int}(hl:l.length<=1000000) (hs:l.Pairwise (· < ·)):aK PP cU [.sl (aQ l),.int .i64 k] (λ r=>∃i:Int,r=.tup [.int .i64 i,.bool (decide (k∈l))]):=by
 refine aZ kr (aG _ _ _) rfl (ko _ _ _) ?_;dsimp only[fN,xI,xL,xP];rw[xi]
 have mono:∀(i j:Nat) (a b:Int),l[i]?=some a->l[j]?=some b->i<j->a<b:=by
  grind [List.pairwise_iff_getElem]
 refine⟨λ q _=>∃i:Nat,q=[.int .i64 (i:Int)]/\i<=l.length/\(∀(x:Nat) (a:Int),x<i->l[x]?=some a->a<k)/\(∀(x:Nat) (a:Int),i<=x->l[x]?=some a->k<=a),?_,?_⟩
 ·rintro f h ⟨i,G,hi,Q,V⟩;simp only[ah,and_true]at G;rw[G]
  have ret:∀b:Bool,b=decide (k∈l)->ky (λ r=>∃i:Int,r=.tup [.int .i64 i,.bool (decide (k∈l))]) (.tup [.int .i64 (i:Int),.bool b]) h:=λ b hb=>by
   subst hb;exact IB (λ d hd=>by simp at hd;rcases hd with rfl|rfl;exact aI.pair;exact C5.pair) ⟨i,rfl⟩
  by_cases I:i<l.length
  ·have hb:l[i]?=some l[i]:=aq I;generalize l[i]=b at hb;rw[fY (by omega)];simp only[↓gS,↓WW hb,↓ldi];by_cases he:b=k
   ·rw[eqT he];simp only[↓gS];grind
   ·rw[eqF he];simp only[↓gS,↓WW hb,↓ldi];refine aW Vd (i1 b) ?_;rintro _ rfl;simp only[↓gS];grind [List.getElem?_of_mem]
  ·rw[fU (by omega)];simp only[↓gS];grind [List.getElem?_of_mem]
 dsimp only[ej,xC,xI,xL]
 refine⟨λ m q _=>∃i j:Nat,i<=j/\j<=l.length/\m=j-i/\q=[.int .i64 (i:Int),.int .i64 (j:Int)]/\(∀(x:Nat) (a:Int),x<i->l[x]?=some a->a<k)/\(∀(x:Nat) (a:Int),j<=x->l[x]?=some a->k<=a),_,
  ⟨0,l.length,by omega,by omega,rfl,rfl,λ x a hx=>by omega,λ x a hx ha=>by grind⟩,?_⟩
 rintro m f h ⟨i,j,a1,hj,hm,G,Q,V⟩;simp only[ah,and_true]at G;obtain⟨q1,q2⟩:=G;rw[q1,q2];by_cases I:i<j
 ·rw[fY (by omega),af,bB (by omega) (by omega),jb,acX (by omega) (by omega),P7];refine⟨by omega,?_⟩
  have e1:Jt .u64 ((i:Int)+(j:Int)) 1=(((i+j) / 2:Nat):Int):=by
   have:=Ul (i+j) 1 (by omega);simpa using this
  rw[e1,jb,wrap64 (by omega) (by omega)];have H:(i+j) / 2<l.length:=by omega
  have hb:l[(i+j) / 2]?=some l[(i+j) / 2]:=aq H;generalize l[(i+j) / 2]=b at hb;refine iDi hb ?_;refine aW XB (λ d hd=>by simp at hd;rcases hd with rfl|rfl<;>exact aI.pair) ?_;rintro _ rfl;by_cases Z:b<k
  ·simp only[Z,decide_true,↓af];rw[bB (by omega) (by omega)];simp only[aa,true_and];refine⟨_,?_,(i+j) / 2+1,j,by omega,hj,rfl,by simp,λ x a hx ha=>?_,V⟩
   ·omega
   grind
  ·simp only[Z,decide_false,↓ae];simp only[aa,true_and];refine⟨_,?_,i,(i+j) / 2,by omega,by omega,rfl,rfl,Q,λ x a hx ha=>?_⟩
   ·omega
   grind
 grind [fU,ae,aa]
def Rk (c:Code) (S l:List Int):Prop:=∀b∈l,∀B,c.b[b.toNat]?=some B->∀t,t∈bf B.t->(t:Int)∈(if B.t.kind=3 then S else l)
def OY (c:Code) (S:List Int) (R:List (List Int)):Prop :=
 Hx c.b.length S 0=true/\R.length=S.length/\∀(j:Nat) (l:List Int) (s:Int),R[j]?=some l->S[j]?=some s->Hx c.b.length l s=true/\Rk c S l
def jz (S:List Int) (R:List (List Int)):D:=.agg [.sl (aQ S),.sl (R.map λ l=>.sl (aQ l))]
theorem QF {N:Nat}{l:List Int}{w:Int}(h:Hx N l w=true):l.Pairwise (· < ·)/\(∀b∈l,0<=b/\b<(N:Int))/\w∈l:=by
 simp only[Hx,Bool.and_eq_true,decide_eq_true_eq]at h;exact⟨h.1.1,h.1.2,h.2⟩
theorem MT {c:Code}{S:List Int}{R:List (List Int)}(hc:bp c) (hS:S.length<=1000000) (hR:R.length<=1000000) (hRl:∀l∈R,l.length<=1000000) :
  aK PP bZ [c.e,jz S R] (λ r=>∃e:Int,r=.int .i64 e/\(e=0\/e=100)/\(e=0↔OY c S R)):=by
 have g5:=hc.nb;have g0:kx (jz S R):=bw (by simp)
 have bad:∀h:Heap,¬OY c S R->ky (λ r=>∃e:Int,r=.int .i64 e/\(e=0\/e=100)/\(e=0↔OY c S R)) (.int .i64 100) h:=λ h hn=>by
  grind [bC]
 refine aZ Gd (aG _ _ _) rfl (FT _ _ _) ?_;dsimp only[Ab,xB,xF,xL,xP];refine Vs.nil.box c.b9.one λ n3 h4 V1=>?_
 refine V1.box g0.one λ n5 G V=>?_
 have l3:∀{h:Heap}{K:HKq},Vs h [(n5,.box (jz S R)),(n3,.box c.e)]->ab PP (.ld (.c (.ptr n3 0 0)) 8 true) h K=K c.e h:=λ V=>V.fV 1 (s:=8) rfl rfl
 have g1:∀{h:Heap}{K:D->Prop},Vs h [(n5,.box (jz S R)),(n3,.box c.e)]->au PP (.ld (.c (.ptr n3 0 0)) 8 true) h K=K c.e:=λ V=>V.Bv 1 (s:=8) rfl rfl
 have a2:∀{K:HKq},ab PP (.ld (.c (.ptr n5 0 0)) 1 false) G K=K (.sl (aQ S)) G:=λ {K}=>V.bI 0 (j:=0) rfl rfl
 have b2:∀{K:HKq},ab PP (.ld (.c (.ptr n5 0 1)) 1 false) G K=K (.sl (R.map λ l=>.sl (aQ l))) G:=λ {K}=>V.bI 0 (j:=1) rfl rfl
 have c3:∀(l:List Int) (s:Int),∀d,d∈[c.e,.sl (aQ l),.int .i64 s]->d.vd=true/\aL d:=λ l s d hd=>by simp at hd;rcases hd with rfl|rfl|rfl;exact c.b9.pair;exact Io.pair;exact aI.pair
 simp only[↓l3 V,↓V.fa 0 rfl,Nat.zero_add,↓a2];refine aW (Oo (by omega) hS) (c3 S 0) ?_;rintro _ rfl;cases I:Hx c.b.length S 0
 ·simp only[↓gS];exact bad _ λ h=>by rw[h.1]at I;cases I
 simp only[↓gS,↓V.fa 0 rfl,Nat.zero_add,↓a2,↓b2,bD,aH,gO];by_cases hlen:R.length=S.length
 case neg =>
  rw[Zv (by omega)];simp only[↓gS];exact bad _ λ h=>hlen h.2.1
 rw[Ik (by omega)];simp only[↓gS];refine⟨λ _ h=>G=h/\OY c S R,?_,?_⟩
 ·grind [bC]
 try simp only[↓V.fa 0 rfl,Nat.zero_add,↓b2,bD,aH]
 have c7:∀{KH:HKq}{i:Nat}{l:List Int},R[i]?=some l->ab PP (.iadd (.c (.sl (R.map λ l=>.sl (aQ l)))) (.c (.int .i64 (i:Int))) 1) G KH=KH (.vp (.sl (aQ l)) 0) G:=λ hi =>
  iN (esz:=1) (by omega) (by grind) rfl
 dsimp only[sV,xI,xL,yF,yI,yL]
 refine⟨λ m q h=>G=h/\∃i:Nat,i<=R.length/\m=R.length-i/\q=[.int .i64 (i:Int)]/\∀(j:Nat) (l:List Int) (s:Int),j<i->R[j]?=some l->S[j]?=some s->Hx c.b.length l s=true/\Rk c S l,_,
  ⟨rfl,0,by omega,rfl,rfl,λ j l s hj=>by omega⟩,?_⟩
 rintro m f h ⟨e6,i,hi,hm,hq,c8⟩;subst e6;simp only[ah,and_true]at hq;rw[hq];by_cases e0:i<R.length
 case neg =>
  have:i=R.length:=by omega
  subst this;rw[fU (by omega),ae];simp only[aa,true_and];exact⟨I,hlen,λ j l s h1 h2=>c8 j l s (ar.1 h1).1 h1 h2⟩
 rw[fY (by omega),af];obtain⟨l,hl⟩:∃l,R[i]?=some l:=⟨R[i],aq e0⟩;obtain⟨s,hs⟩:∃s,S[i]?=some s:=⟨S[i]'(by omega),aq _⟩;have c2:=hRl l (ak hl)
 have no:(Hx c.b.length l s=true->¬Rk c S l)->¬OY c S R:=λ hn h=>by
  obtain⟨h1,h2⟩:=h.2.2 i l s hl hs;exact hn h1 h2
 refine⟨λ _ h=>G=h/\Hx c.b.length l s=true/\Rk c S l,?_,?_⟩
 ·rintro f2 h2 ⟨e2,b7⟩;rw[bB (by omega) (by omega)];simp only[aa,true_and];refine⟨_,by omega,e2,i+1,by omega,rfl,by simp,λ j l' s' hj h1 h2=>?_⟩;grind
 have c6:∀{KH:HKq},ab PP (.ld (.c (.vp (.sl (aQ l)) 0)) 1 false) G KH=KH (.sl (aQ l)) G:=λ {KH}=>ni rfl
 have dS:∀{K:D->Prop},au PP (.ld (.c (.ptr n5 0 0)) 1 false) G K=K (.sl (aQ S)):=λ {K}=>V.gw 0 (j:=0) rfl rfl
 have ds:∀{K:D->Prop},au PP (.iadd (.c (.sl (aQ S))) (.c (.int .i64 (i:Int))) 1) G K=K (.vp (.int .i64 s) 0):=λ {K}=>by rw[gJ,WW hs]
 have e9:∀{K:D->Prop},au PP (.ld (.c (.vp (.int .i64 s) 0)) 1 false) G K=K (.int .i64 s):=λ {K}=>sw rfl
 simp only[↓c7 hl,↓c6,↓g1 V,↓V.lH 0 rfl,Nat.zero_add,↓dS,↓ds,↓e9];refine db (Oo (by omega) c2) (c3 l s) ?_;cases e1:Hx c.b.length l s
 ·simp only[↓gS];grind
 simp only[↓gS,xi];obtain⟨a8,a7,-⟩:=QF e1;obtain⟨c4,g4,-⟩:=QF I;dsimp only[sW,xF,xI,xL]
 refine⟨λ m q h=>G=h/\∃k:Nat,k<=l.length/\m=l.length-k/\q=[.int .i64 (k:Int)]/\∀(x:Nat) (b:Int),x<k->l[x]?=some b->∀B,c.b[b.toNat]?=some B->∀t,t∈bf B.t->(t:Int)∈(if B.t.kind=3 then S else l),_,
  ⟨rfl,0,by omega,rfl,rfl,λ x b hx=>by omega⟩,?_⟩
 rintro m2 f2 h2 ⟨e2,k,hk,g7,b5,b7⟩;subst e2;simp only[ah,and_true]at b5;rw[b5];by_cases c1:k<l.length
 case neg =>
  have:k=l.length:=by omega
  subst this;rw[fU (by omega),ae];simp only[aa,true_and];refine λ b hb B hB t ht=>?_
  grind [List.getElem?_of_mem]
 rw[fY (by omega),af];obtain⟨b,hb⟩:∃b,l[k]?=some b:=⟨l[k],aq c1⟩;obtain⟨b0,b1⟩:=a7 b (ak hb);obtain⟨B,hB⟩:∃B,c.b[b.toNat]?=some B:=⟨c.b[b.toNat]'(by omega),aq _⟩;have e7:=hc.t B (ak hB);have eb:b=((b.toNat:Nat):Int):=by omega
 refine⟨λ _ h=>G=h/\∀t,t∈bf B.t->(t:Int)∈(if B.t.kind=3 then S else l),?_,?_⟩
 ·rintro f3 h3 ⟨e3,g3⟩;rw[bB (by omega) (by omega)];simp only[aa,true_and];refine⟨_,by omega,e3,k+1,by omega,rfl,by simp,λ x b' hx h1 B' h5 t ht=>?_⟩;grind
 have b3:∀{KH:HKq},ab PP (.iadd (.c (.sl (c.b.map Block.e))) (.c (.int .i64 b)) 14) G KH=KH (.vp B.e 0) G:=λ {KH}=>by rw[eb];exact rE hB
 simp only[↓WW hb,↓ldi];refine⟨λ q h=>G=h/\q=[.sl (aQ (if B.t.kind=3 then S else l))],?_,?_⟩
 ·rintro f3 h3 ⟨e3,H⟩;subst e3;simp only[ah,and_true]at H;simp only[H,↓V.fa 1 rfl,Nat.zero_add,↓V.bI 1 (j:=7) rfl rfl,↓b3,↓KM,↓MX];refine aW (JP e7) (λ d hd=>by simp at hd;subst hd;exact B.t.b9.pair) ?_;rintro _ rfl;rw[po];have g8:(bf B.t).length<=2:=by grind [bf]
  have Z:(if B.t.kind=3 then S else l).Pairwise (· < ·):=by split;exact c4;exact a8
  have Q:(if B.t.kind=3 then S else l).length<=1000000:=by split;exact hS;exact c2
  have a6:∀t,t∈bf B.t->(t:Int)∉(if B.t.kind=3 then S else l)->¬OY c S R:=λ t ht hn=>no λ _ a6=>hn (a6 b (ak hb) B hB t ht)
  generalize (if B.t.kind=3 then S else l)=w at Z Q a6 H ⊢;dsimp only[sX,xI,xL]
  refine⟨λ m q h=>G=h/\∃y:Nat,y<=(bf B.t).length/\m=(bf B.t).length-y/\q=[.int .i64 (y:Int)]/\∀(x t:Nat),x<y->(bf B.t)[x]?=some t->(t:Int)∈w,_,
   ⟨rfl,0,by omega,rfl,rfl,λ x t hx=>by omega⟩,?_⟩
  rintro m4 f4 h4 ⟨e4,y,hy,g6,b4,g2⟩;subst e4;simp only[ah,and_true]at b4;rw[b4];by_cases c0:y<(bf B.t).length
  ·rw[fY (by omega),af];obtain⟨t,ht⟩:∃t,(bf B.t)[y]?=some t:=⟨(bf B.t)[y],aq c0⟩;refine T8 ht ?_;simp only[H];refine aW (aab Q Z) (ip w (t:Int)) ?_;rintro _ ⟨i',rfl⟩;by_cases a1:(t:Int)∈w
   ·simp only[a1,decide_true,↓gS];rw[bB (by omega) (by omega)];simp only[aa,true_and];refine⟨_,by omega,y+1,by omega,rfl,by simp,λ x t' hx h1=>?_⟩;grind
   ·simp only[a1,decide_false,↓gS];grind
  grind [fU,ae,aa,List.getElem?_of_mem]
 ·have e8:∀{KH:HKq},ab PP (.fadd (.c (.vp B.e 1)) 0) G KH=KH (.vp B.e 1) G:=λ {KH}=>rfl
  have c5:∀{KH:HKq},ab PP (.ld (.c (.vp B.e 1)) 1 false) G KH=KH (.int .i64 B.t.kind) G:=λ {KH}=>Fo rfl
  simp only[↓V.fa 1 rfl,Nat.zero_add,↓V.bI 1 (j:=7) rfl rfl,↓b3,↓KM,↓e8,↓c5,bq];by_cases e5:B.t.kind=3
  ·simp only[e5,decide_true,↓af,↓V.fa 0 rfl,Nat.zero_add,↓a2,aa,true_and,if_true]
  grind [ae,aa]
end Go.Am
namespace Go.Am
open Go Go.Proofs
theorem sp (l:List Nat) (k:Nat):∀d,d∈[.sl (aR l),nD k]->d.vd=true/\aL d:=λ d hd=>by simp at hd;rcases hd with rfl|rfl;exact O8.pair;exact aI.pair
theorem ace {l:List Nat}{k:Nat}(hl:l.length<=1000000):aK PP cJ [.sl (aR l),nD k] (· = .bool (decide (k∈l))):=by
 refine aZ yu (aG _ _ _) rfl (xR _ _ _) ?_;unfold xT;refine⟨λ _ _=>k∉l,λ f h I=>?_,?_⟩
 ·rw[bb];simp[I]
 dsimp only[pR,xI,xL];refine⟨λ m q _=>∃i:Nat,i<=l.length/\m=l.length-i/\q=[.int .i64 (i:Int)]/\k∉l.take i,_,⟨0,by omega,rfl,rfl,by simp⟩,?_⟩;rintro m f h ⟨i,hi,hm,H,hn⟩;simp only[ah,and_true]at H;rw[po,H,nV];by_cases G:i<l.length
 ·have hb:l[i]?=some l[i]:=aq G;generalize l[i]=b at hb;simp only[show((i:Int)<(l.length:Int))=True from eq_true (by omega),decide_true,↓af];refine T8 hb ?_;simp only[nD,bq];by_cases he:b=k
  ·grind [af,bb]
  ·simp only[show((b:Int)=(k:Int))=False from eq_false (by omega),decide_false,↓ae];rw[bB (by omega) (by omega)];simp only[aa,true_and];refine⟨_,by omega,i+1,by omega,rfl,by simp,?_⟩;grind [List.take_add_one]
 grind [ae,aa]
def Br (l:List Nat) (k:Nat):List Nat:=if k∈l then l else l.filter (· < k)++[k]++l.filter (k < ·)
theorem CU {l:List Nat}{k x:Nat}:x∈Br l k↔x∈l\/x=k:=by
 grind [Br]
theorem NQ {l:List Nat}{k:Nat}(hl:l.Pairwise (· < ·)):(Br l k).Pairwise (· < ·):=by
 unfold Br;split
 ·exact hl
 ·rw[List.append_assoc,List.pairwise_append];refine⟨hl.filter _,?_,λ a ha b hb=>?_⟩
  ·grind
  grind
theorem Um {l:List Nat}{k:Nat}(hl:l.Pairwise (· < ·)):k∈l/\Br l k=l\/k∉l/\(Br l k).length=l.length+1:=by
 by_cases h:k∈l
 ·grind [Br]
 ·refine Or.inr ⟨h,?_⟩;unfold Br;rw[if_neg h]
  have:∀l:List Nat,k∉l->(l.filter (· < k)).length+(l.filter (k < ·)).length=l.length:=by
   intro l
   induction l with
   | nil=>intro _;rfl
   | cons a r G =>
    grind
  grind
theorem Tj {l:List Nat}{k at':Nat}(hl:l.Pairwise (· < ·)) (hk:k∉l) (hlo:∀(x a:Nat),x<at'->l[x]?=some a->a<k) (hhi:∀a,l[at']?=some a->k<=a):l.take at'=l.filter (· < k)/\l.drop at'=l.filter (k < ·):=by
 have e:=List.take_append_drop at' l
 have h1:∀a,a∈l.take at'->a<k:=λ a ha=>by
  grind [List.getElem?_of_mem]
 have h2:∀a,a∈l.drop at'->k<a:=λ a ha=>by
  have hne:a≠k:=by grind
  obtain⟨x,hx⟩:=ba ha;grind [List.pairwise_iff_getElem]
 have f1:∀(p:Nat->Bool) (A B:List Nat),(∀a∈A,p a=true)->(∀a∈B,p a=false)->(A++B).filter p=A:=λ p A B ha hb=>by
  grind [List.filter_eq_self,List.filter_eq_nil_iff]
 have f2:∀(p:Nat->Bool) (A B:List Nat),(∀a∈A,p a=false)->(∀a∈B,p a=true)->(A++B).filter p=B:=λ p A B ha hb=>by
  grind [List.filter_eq_self,List.filter_eq_nil_iff]
 constructor
 ·conv=>rhs;rw[<- e]
  exact(f1 _ _ _ (λ a h=>by simpa using h1 a h) (λ a h=>by have:=h2 a h;simp;omega)).symm
 ·conv=>rhs;rw[<- e]
  exact(f2 _ _ _ (λ a h=>by have:=h1 a h;simp;omega) (λ a h=>by simpa using h2 a h)).symm
theorem Tm {P:Program}{h:Heap}{KH:HKq}{xs:List D}{k n:Nat}(hk:k<=xs.length) (hc:∀d∈xs,d.cells.length=n):ab P (.mZ (.c (.sl xs)) none (some (.c (.int .i64 (k:Int)))) none n) h KH=KH (.sl (xs.take k)) h:=by
 rw[Mx];apply propext;constructor
 ·rintro⟨-,-,-,-,-,hk⟩;simpa using hk
 ·intro G;exact⟨by omega,by omega,by omega,by omega,hc,by simpa using G⟩
theorem Tn {P:Program}{h:Heap}{KH:HKq}{xs:List D}{k n:Nat}(hk:k<=xs.length) (hc:∀d∈xs,d.cells.length=n):ab P (.mZ (.c (.sl xs)) (some (.c (.int .i64 (k:Int)))) none none n) h KH=KH (.sl (xs.drop k)) h:=by
 grind [Mx,rQ,rP,List.take_of_length_le]
theorem T7 {l:List Nat}:∀d,d∈aR l->d.cells.length=1:=λ d hd=>by simp only[aR,List.mem_map]at hd;obtain⟨k,-,rfl⟩:=hd;rfl
theorem Mh {l:List Nat}:∀d,d∈aR l->aL d:=λ d hd=>by simp only[aR,List.mem_map]at hd;obtain⟨k,-,rfl⟩:=hd;exact aI.one
theorem Cv {l:List Nat}:∀x,x∈aR l->∀y∈x.cells,y.vone=true:=λ x hx y hy=>by
 simp only[aR,List.mem_map]at hx;obtain⟨k,-,rfl⟩:=hx;simp[nD,D.cells]at hy;subst hy;rfl
theorem Q8 {l:List Nat}{k:Nat}(hl:l.length<=100000) (hinc:l.Pairwise (· < ·)):aK PP gH [.sl (aR l),nD k] (· = .sl (aR (Br l k))):=by
 refine aZ tx (aG _ _ _) rfl (sS _ _ _) ?_;unfold rI;refine aW (ace (by omega)) (sp l k) ?_;rintro _ rfl;by_cases G:k∈l
 ·grind [af,B3,Br]
 simp only[G,decide_false,↓ae];refine⟨λ q h=>∃i:Nat,q=[.int .i64 (i:Int)]/\i<=l.length/\(∀(x a:Nat),x<i->l[x]?=some a->a<k)/\(∀a,l[i]?=some a->k<=a)/\Vs h [],?_,?_⟩
 ·rintro f h ⟨i,H,hi,I,a2,V⟩;simp only[ah,and_true]at H;obtain⟨e1,e2⟩:=Tj hinc G I a2
  have Q:∀{h:Heap}{K:D->Prop},au PP (.mZ (.c (.sl (aR l))) none (some (.c (.int .i64 (i:Int)))) none 1) h K=K (.sl (aR (l.filter (· < k)))):=λ {h K}=>by
   grind [JH,Tm,aR,T7,List.map_take]
  have dp:∀{h:Heap}{K:D->Prop},au PP (.mZ (.c (.sl (aR l))) (some (.c (.int .i64 (i:Int)))) none none 1) h K=K (.sl (aR (l.filter (k < ·)))):=λ {h K}=>by
   grind [JH,Tn,aR,T7,List.map_drop]
  have one:∀{h:Heap}{K:D->Prop},K (.sl (aR [k]))->au PP (.bldS false 1 1 (.int .i64 0) [(0,.c (nD k))]) h K:=λ {h K} G =>
   ⟨λ p hp=>by simp[Arg.get]at hp;subst hp;exact⟨Nat.one_pos,rfl,aI.one⟩,λ p hp=>by simp[Arg.get]at hp;subst hp;intro y hy;simp[nD,D.cells]at hy;subst hy;rfl,λ y hy=>by simp[D.cells]at hy;subst hy;rfl,G⟩
  have l1:(l.filter (· < k)).length<=l.length:=List.length_filter_le _ _;have l2:(l.filter (k < ·)).length<=l.length:=List.length_filter_le _ _;have vs:∀{ks:List Nat}{h:Heap}{K:List D->Prop},K (aR ks)->velems 1 (.sl (aR ks)) h K:=λ {ks h K} G=>⟨T7,G⟩
  simp only[H,↓Q,↓dp];refine one ?_;refine V.Db λ n11 b2 V1=>?_
  try simp only[↓Q,↓dp,aa,true_and]
  refine V1.rH (els:=[]) (ys:=aR (l.filter (· < k))) vs Mh (by simp[aR];omega) (by simp[aR];omega) λ m1 b1 V2=>?_
  rw[List.nil_append]at V2;rw[show([]:List D).length+(aR (l.filter (· < k))).length=(aR (l.filter (· < k))).length from Nat.zero_add _]
  try simp only[↓Q,↓dp,aa,true_and]
  refine V2.rH (ys:=aR [k]) vs Mh (by simp[aR];omega) (by simp[aR];omega) λ m2 a8 V3=>?_
  rw[show(aR (l.filter (· < k))).length+(aR [k]).length=(aR (l.filter (· < k))++aR [k]).length by simp]
  try simp only[↓Q,↓dp,aa,true_and]
  refine V3.rH (ys:=aR (l.filter (k < ·))) vs Mh (by simp[aR];omega) (by simp[aR];omega) λ m3 a7 V4=>?_
  rw[show(aR (l.filter (· < k))++aR [k]).length+(aR (l.filter (k < ·))).length=(aR (l.filter (· < k))++aR [k]++aR (l.filter (k < ·))).length by grind]
  have e3:aR (l.filter (· < k))++aR [k]++aR (l.filter (k < ·))=aR (Br l k):=by
   grind [Br,aR]
  rw[e3]at V4 ⊢;exact oD (esz:=1) (by rw[V4.get 0 _ _ rfl];rfl) Cv rfl
 dsimp only[ml,xI,xL,xP];refine⟨λ m q h=>Vs h []/\∃i:Nat,i<=l.length/\m=l.length-i/\q=[.int .i64 (i:Int)]/\∀(x a:Nat),x<i->l[x]?=some a->a<k,_,⟨Vs.nil,0,by omega,rfl,rfl,λ x a hx=>by omega⟩,?_⟩;rintro m f h ⟨V,i,hi,hm,H,I⟩;simp only[ah,and_true]at H;rw[po,H];by_cases a1:i<l.length
 ·have hb:l[i]?=some l[i]:=aq a1;generalize l[i]=b at hb;have Z:∀{KH:HKq},ab PP (.iadd (.c (.sl (aR l))) (.c (.int .i64 (i:Int))) 1) h KH=KH (.vp (nD b) 0) h:=λ {KH}=>iN (esz:=1) (d:=nD b) (by omega) (by rw[aE];exact fC hb) rfl
  have lv:∀{KH:HKq},ab PP (.ld (.c (.vp (nD b) 0)) 1 false) h KH=KH (nD b) h:=λ {KH}=>ni rfl
  rw[fY (by omega)];simp only[↓gS,↓Z,↓lv];simp only[nD];by_cases a6:b<k
  ·rw[fY (by omega)];simp only[↓gS];rw[bB (by omega) (by omega)];simp only[aa,true_and];refine⟨_,by omega,V,i+1,by omega,rfl,by simp,λ x a hx ha=>?_⟩;grind
  ·rw[fU (by omega)];simp only[↓gS,aa,true_and];grind
 ·rw[fU (by omega)];simp only[↓gS,aa,true_and];grind
end Go.Am
namespace Go.Am
open Go Go.Proofs
theorem QV.two {h:Heap}{L:LSq}(V:Vs h L){z:D}{j k:Nat}{KH:HKq}(hK:∀v h',QV h' L v [j,k]->KH v h'):ab PP (.bldS true 1 2 z [(0,.c (nD j)),(1,.c (nD k))]) h KH:=by
 refine⟨λ p hp=>?_,λ G p hp=>?_,λ n t=>?_⟩
 ·simp[Arg.get]at hp;rcases hp with rfl|rfl
  ·exact⟨by show 0<2;omega,rfl,aI.one⟩
  ·exact⟨by show 1<2;omega,rfl,aI.one⟩
 ·simp[Arg.get]at hp;rcases hp with rfl|rfl<;>(intro x hx;simp[nD,D.cells]at hx;subst hx;trivial)
 ·have:KH (.ms n 0 2) (aF h n (.arr 1 [nD j,nD k])):=by
   refine hK _ _ (Or.inr ⟨n,0,[nD j,nD k],rfl,V.push t.free (by simp),by simp,by simp[aR],λ x hx=>by simp at hx;rcases hx with rfl|rfl<;>rfl⟩)
  grind [Arg.get,setEls,D.fz,D.fzc,D.nm,D.lG,nD,Heap.freezeAll]
theorem MQ {N:Nat}{R:Int}{t:Term}(h:zr N R t):aK PP kL [t.e] (· = .sl (aR (bf t))):=by
 refine aZ H5 (aG _ _ _) rfl (HK _ _) ?_;dsimp only[DG,xB,xF,xJ,xL,xP];refine Vs.nil.box t.b9.one λ n2 h3 V=>?_
 have i0:∀{KH:HKq},ab PP (.iadda (.c (.ptr n2 0 11)) (.c (.int .i64 0)) 2 1) h3 KH=KH (.ptr n2 0 11) h3:=λ {KH}=>V.ZE 0 (a:=0) rfl (by omega)
 have i1:∀{KH:HKq},ab PP (.iadda (.c (.ptr n2 0 11)) (.c (.int .i64 1)) 2 1) h3 KH=KH (.ptr n2 0 12) h3:=λ {KH}=>V.ZE 0 (a:=1) rfl (by omega)
 have one:∀(a:Nat),ab PP (.bldS true 1 1 (.int .i64 0) [(0,.c (.int .i64 (a:Int)))]) h3 λ I H=>ky (λ r=>r=.sl (aR [a])) I H:=λ a=>by
  exact QV.one (k:=a) V λ v h' q=>q.ret rfl (by simp)
 cases h with
 | jump a ha =>
  simp (disch:=omega) only[↓V.fa 0 rfl,Nat.zero_add,↓V.bI 0 (j:=0) rfl rfl,↓cS,↓gS,↓i0,↓V.bI 0 (j:=11) rfl rfl];exact one a
 | barrier a ha =>
  simp (disch:=omega) only[↓V.fa 0 rfl,Nat.zero_add,↓V.bI 0 (j:=0) rfl rfl,↓cS,↓gS,↓i0,↓V.bI 0 (j:=11) rfl rfl];exact one a
 | collect s d a b t hs hd ha hb ht =>
  simp (disch:=omega) only[↓V.fa 0 rfl,Nat.zero_add,↓V.bI 0 (j:=0) rfl rfl,↓cS,↓gS,↓i0,↓V.bI 0 (j:=11) rfl rfl];exact one t
 | exit =>
  simp (disch:=omega) only[↓V.fa 0 rfl,Nat.zero_add,↓V.bI 0 (j:=0) rfl rfl,↓cS,↓gS];refine V.Db λ n11 Q Z=>?_
  exact oD (esz:=1) (els:=[]) (by rw[Z.get 0 _ _ rfl];rfl) (by simp) rfl
 | branch o a b ho ha hb =>
  simp (disch:=omega) only[↓V.fa 0 rfl,Nat.zero_add,↓V.bI 0 (j:=0) rfl rfl,↓cS,↓gS,↓i0,↓i1,↓V.bI 0 (j:=11) rfl rfl,↓V.bI 0 (j:=12) rfl rfl];by_cases G:a=b
  ·subst G;simp (disch:=omega) only[↓cS,↓gS,↓V.fa 0 rfl,Nat.zero_add,↓i0,↓V.bI 0 (j:=11) rfl rfl];have e:bf ⟨2,0,aj,o,aj,(a:Int),(a:Int)⟩=[a]:=by simp[bf]
   rw[e];exact one a
  ·simp (disch:=omega) only[↓cS,↓gS,↓V.fa 0 rfl,Nat.zero_add,↓i0,↓i1,↓V.bI 0 (j:=11) rfl rfl,↓V.bI 0 (j:=12) rfl rfl];have e:bf ⟨2,0,aj,o,aj,(a:Int),(b:Int)⟩=[a,b]:=by simp[bf];omega
   rw[e];exact QV.two (j:=a) (k:=b) V λ v h' q=>q.ret rfl (by simp)
theorem Xx {c:Code}{b:Nat}(hc:bp c) (hb:b<c.b.length):aK PP qX [c.e,nD b] (· = .sl (aR (inE c b))):=by
 refine aZ FZ (aG _ _ _) rfl (FE _ _ _) ?_;dsimp only[zQ,xB,xF,xI,xL];refine Vs.nil.box c.b9.one λ n3 h4 V=>?_
 have hB:c.b[b]?=some c.b[b]:=aq hb;have Z:=hc.t _ (ak hB);generalize c.b[b]=B at hB Z;have I:∀{KH:HKq},ab PP (.fadd (.c (.vp B.e 1)) 0) h4 KH=KH (.vp B.e 1) h4:=λ {KH}=>rfl
 have H:∀{KH:HKq},ab PP (.ld (.c (.vp B.e 1)) 1 false) h4 KH=KH (.int .i64 B.t.kind) h4:=λ {KH}=>Fo rfl
 have G:∀{KH:HKq},ab PP (.iadd (.c (.sl (c.b.map Block.e))) (.c (nD b)) 14) h4 KH=KH (.vp B.e 0) h4:=λ {KH}=>rE hB
 simp only[↓V.fa 0 rfl,Nat.zero_add,↓V.bI 0 (j:=7) rfl rfl,↓G,↓KM,↓I,↓H,bq];rw[Mt hB];by_cases Q:B.t.kind=3
 ·simp only[Q,decide_true,↓af,if_true];refine V.Db λ n11 a1 V1=>?_
  exact oD (esz:=1) (els:=[]) (by rw[V1.get 0 _ _ rfl];rfl) (by simp) rfl
 ·simp only[Q,decide_false,↓ae,if_false,↓V.fa 0 rfl,Nat.zero_add,↓V.bI 0 (j:=7) rfl rfl,↓G,↓KM,↓MX];refine aW (MQ Z) (λ d hd=>by simp at hd;subst hd;exact B.t.b9.pair) ?_;rintro _ rfl;rw[B3]
def LV (h:Heap) (L:LSq) (v:D) (T:List Nat):Prop:=(v=.sl (aR T)/\Vs h L)\/∃m,v=.ms m 0 T.length/\Vs h ((m,.arr 1 (aR T))::L)
section
variable {h:Heap}{L:LSq}{v:D}{T:List Nat}{K:D->Prop}{KH:HKq}
theorem LV.vs (q:LV h L v T):Vs h L:=by
 rcases q with⟨-,V⟩|⟨m,-,V⟩
 ·exact V
 ·exact V.pop
theorem LV.q (q:LV h L v T):(v=.sl (aR T))\/QV h L v T:=by
 rcases q with⟨e,V⟩|⟨m,e,V⟩
 ·exact Or.inl e
 ·exact Or.inr (Or.inr ⟨m,0,aR T,e,V,by simp[aR],List.take_of_length_le (by simp[aR]),λ x hx=>by simp only[aR,List.mem_map]at hx;obtain⟨k,-,rfl⟩:=hx;rfl⟩)
theorem LV.len (q:LV h L v T):aM v h K=K (.int .i64 (T.length:Int)):=by
 rcases q.q with e|q
 ·rw[e,po]
 ·exact q.len
theorem LV.get (q:LV h L v T){i k:Nat}(hk:T[i]?=some k) (hK:KH (nD k) h):ab PP (.iadd (.c v) (.c (.int .i64 (i:Int))) 1) h λ a h1=>ab PP (.ld (.c a) 1 false) h1 KH:=by
 rcases q.q with e|q
 ·rw[e];exact T8 hk hK
 ·exact q.get hk hK
theorem LV.MJ (q:LV h L v T){i k:Nat}(hk:T[i]?=some k) (hK:K (nD k)):au PP (.iadd (.c v) (.c (.int .i64 (i:Int))) 1) h λ a=>au PP (.ld (.c a) 1 false) h K:=by
 rcases q.q with e|q
 ·rw[e];exact T8 (P:=PP) (h:=h) (KH:=λ d _=>K d) hk hK
 ·exact q.MJ hk hK
theorem LV.one (V:Vs h L){z:D}{k:Nat}(hK:∀v h',LV h' L v [k]->KH v h'):ab PP (.bldS true 1 1 z [(0,.c (nD k))]) h KH:=by
 refine⟨λ p hp=>by simp[Arg.get]at hp;subst hp;exact⟨Nat.one_pos,rfl,(aI (k:=.i64) (n:=(k:Int))).one⟩,λ G p hp=>?_,λ n t=>?_⟩
 ·simp[Arg.get]at hp;subst hp;intro x hx;simp[nD,D.cells]at hx;subst hx;trivial
 ·have:KH (.ms n 0 1) (aF h n (.arr 1 [nD k])):=hK _ _ (Or.inr ⟨n,rfl,V.push t.free (by simp)⟩);grind [Arg.get,setEls,D.fz,D.fzc,D.nm,D.lG,nD,Heap.freezeAll]
theorem LV.ret (q:LV h L v T) (hk:K (.sl (aR T))):ky K v h:=by
 rcases q with⟨e,-⟩|⟨m,e,V⟩
 ·rw[e,B3];exact hk
 ·have G:v=.ms m 0 (aR T).length:=by rw[e];simp[aR]
  rw[G];exact oD (esz:=1) (by rw[V.get 0 _ _ rfl];rfl) Cv hk
theorem LV.call (q:LV h L v T){f:FuncId}{k:Nat}{r:D}(hv:aK PP f [.sl (aR T),nD k] (· = r)) (hK:∀h',Vs h' L->KH r h') (hF:r.flat=true->LV h L v T->KH r h):ag PP f [v,nD k] h KH:=by
 have q0:=q;rcases q with⟨e,V⟩|⟨m,e,V⟩
 ·rw[e];refine aW hv (sp T k) ?_;rintro _ rfl;exact hK _ V
 ·have e2:v=.ms m 0 (aR T).length:=by rw[e];simp[aR]
  rw[e2];have hn:=V.get 0 _ _ rfl;have G:(h m).row=some (1,aR T):=by rw[hn];rfl
  have e0:(D.ms m 0 (aR T).length).fz h=.sl (aR T):=by simp[D.fz,D.fzc,G]
  have e1:[D.ms m 0 (aR T).length,nD k].map (D.fz h)=[.sl (aR T),nD k]:=by rw[List.map_cons,e0];rfl
  have I:[D.ms m 0 (aR T).length,nD k].flatMap D.nm=[m]:=rfl;refine ag.mono ?_ (dQ (K:=(· = r)) (by rw[e1];exact hv) (λ d H=>?_))
  ·rintro r' h' ⟨Q,k2,k3⟩;rw[Q]at k2 k3 ⊢;by_cases Z:r.flat=true
   ·grind
   ·rw[k3 (by rw[I];simp[Z]),I];have:h.freezeAll [m]=aF h m (.frz 1 (aR T)):=by simp[Heap.freezeAll,Heap.freeze,hn]
    rw[this];exact hK _ ((V.bK 0 rfl (s':=.frz 1 (aR T)) (by simp)).pop)
  ·simp only[List.mem_cons,List.not_mem_nil,or_false]at H;rcases H with rfl|rfl
   ·refine⟨by simp,?_,by rw[e0];rfl⟩;intro x hx;simp only[D.cells,List.mem_singleton]at hx;subst hx;exact⟨1,aR T,G,by simp,λ x hx y hy=>Cv x (by simpa using hx) y hy⟩
   ·exact⟨aI.one,(jj (h:=h) (d:=nD k) rfl).2.2,rfl⟩
end
theorem Ms:∀{a b:List Nat},a.Pairwise (· < ·)->b.Pairwise (· < ·)->(∀k,k∈a↔k∈b)->a=b
 | [],[],_,_,_=>rfl
 | [],y::b,_,_,h=>absurd ((h y).2 (by simp)) (by simp)
 | x::a,[],_,_,h=>absurd ((h x).1 (by simp)) (by simp)
 | x::a,y::b,ha,hb,h=>by
  rw[List.pairwise_cons]at ha hb
  have G:x=y:=by
   have h1:=(h x).1 (by simp);have h2:=(h y).2 (by simp);grind
  subst G;rw[Ms ha.2 hb.2 λ k=>?_];grind
structure FI (c:Code) (s:Nat) (T:List Nat):Prop where
 inc:T.Pairwise (· < ·)
 st:s∈T
 pa:∀k∈T,Path (inE c) s k
theorem FI.lt {c:Code}{s:Nat}{T:List Nat}(hc:bp c) (hs:s<c.b.length) (f:FI c s T):T.length<=c.b.length/\∀k∈T,k<c.b.length:=by
 have h:∀k∈T,k<c.b.length:=λ k H=>Me hc hs (f.pa k H)
 exact⟨sh h (f.inc.imp λ G=>Nat.ne_of_lt G),h⟩
theorem FI.ins {c:Code}{s:Nat}{T:List Nat}(f:FI c s T){a b:Nat}(ha:a∈T) (hb:b∈inE c a):FI c s (Br T b) :=
 ⟨NQ f.inc,CU.2 (Or.inl f.st),λ k G=>by rcases CU.1 G with h|h;exact f.pa k h;subst h;exact .step (f.pa a ha) hb⟩
theorem WV {c:Code}{a:Nat}:(inE c a).length<=2:=by
 grind [inE,bf]
theorem Vj {c:Code}{s:Nat}(hc:bp c) (hs:s<c.b.length):aK PP tL [c.e,nD s] (· = .sl (aR (rl c s))):=by
 have c4:=hc.nb;refine aZ HW (aG _ _ _) rfl (HC _ _ _) ?_;dsimp only[Dv,xB];refine Vs.nil.box c.b9.one λ n3 h4 V=>?_
 refine LV.one (k:=s) V λ v0 h6 q0=>?_
 refine⟨λ q h=>∃v,q=[v]/\LV h [(n3,.box c.e)] v (rl c s),?_,?_⟩
 ·rintro f h ⟨v,hq,q⟩;simp only[ah,and_true]at hq;rw[hq];exact q.ret rfl
 dsimp only[uI,xF,xL]
 refine⟨λ m q h=>∃(n:Nat) (T:List Nat) (v:D),q=[v,.int .i64 (n:Int)]/\n<=c.b.length/\m=c.b.length-n/\LV h [(n3,.box c.e)] v T/\FI c s T/\((∀k,Path (inE c) s k->k∈T)\/n+1<=T.length),_,
  ⟨0,[s],v0,rfl,by omega,rfl,q0,⟨by simp,by simp,λ k Q=>by simp at Q;subst Q;exact .refl⟩,Or.inr (by simp)⟩,?_⟩
 rintro m f h ⟨n,T0,v,hq,hn,hm,q,fi,c0⟩;simp only[ah,and_true]at hq;obtain⟨I,G⟩:=hq;have V:=q.vs;rw[I,G];simp only[↓V.fa 0 rfl,Nat.zero_add,↓V.bI 0 (j:=7) rfl rfl,bD,aH];by_cases c5:n<c.b.length
 case neg =>
  rw[fU (by omega),ae];simp only[aa,true_and];refine⟨v,rfl,?_⟩;have b4:∀k,Path (inE c) s k->k∈T0:=c0.resolve_right (by have:=(fi.lt hc hs).1;omega)
  have:T0=rl c s:=Ms fi.inc yO λ k=>by
   rw[rl,dj];exact⟨λ Q=>⟨Me hc hs (fi.pa k Q),fi.pa k Q⟩,λ Q=>b4 k Q.2⟩
  rwa [this]at q
 rw[fY (by omega),af];refine⟨λ q h=>∃(T:List Nat) (v:D),q=[v]/\LV h [(n3,.box c.e)] v T/\FI c s T/\((∀k,Path (inE c) s k->k∈T)\/n+2<=T.length),?_,?_⟩
 ·rintro f2 h2 ⟨T,v2,G,q2,c3,a8⟩;simp only[ah,and_true]at G;rw[G,bB (by omega) (by omega)];simp only[aa,true_and];exact⟨_,by omega,n+1,T,v2,by simp,by omega,rfl,q2,c3,a8⟩
 dsimp only[uJ,yI,yL]
 refine⟨λ m q h=>∃(i:Nat) (T:List Nat) (v:D),q=[v,.int .i64 (i:Int)]/\i<=T.length/\m=c.b.length-i/\LV h [(n3,.box c.e)] v T/\FI c s T/\(∀k∈T0,k∈T) /\
   ((T=T0/\∀(x a:Nat),x<i->T[x]?=some a->∀b,b∈inE c a->b∈T)\/T0.length<T.length),_,
  ⟨0,T0,v,by rw[I];rfl,by omega,rfl,q,fi,λ k Q=>Q,Or.inl ⟨rfl,λ x a hx=>by omega⟩⟩,?_⟩
 clear I G q V hm;rintro m f2 h2 ⟨i,T1,v1,hq,hi,hm,q,a1,a2,b1⟩;simp only[ah,and_true]at hq;obtain⟨I,G⟩:=hq;obtain⟨e0,b7⟩:=a1.lt hc hs;rw[I,G,q.len];by_cases b3:i<T1.length
 case neg =>
  rw[fU (by omega),ae];simp only[aa,true_and];refine⟨T1,v1,rfl,q,a1,?_⟩;rcases b1 with⟨e,c7⟩|c6
  ·left;intro k Q;refine Q.closed (S:=(· ∈ T1)) a1.st λ a b ha hb=>?_
   grind [List.getElem?_of_mem]
  grind
 rw[fY (by omega),af];obtain⟨a,ha⟩:∃a,T1[i]?=some a:=⟨T1[i],aq b3⟩;have b5:=ak ha;have c1:=b7 a b5;refine⟨λ q h=>∃(T:List Nat) (v:D),q=[v]/\LV h [(n3,.box c.e)] v T/\FI c s T/\(∀k∈T1,k∈T)/\((T=T1/\∀b,b∈inE c a->b∈T)\/T1.length<T.length),?_,?_⟩
 ·rintro f3 h3 ⟨T,v3,a6,q3,Z,H,a7⟩;simp only[ah,and_true]at a6;have c8:T1.length<=T.length:=by grind
  have c2:=(Z.lt hc hs).1;rw[a6,bB (by omega) (by omega)];simp only[aa,true_and];refine⟨_,by omega,i+1,T,v3,by simp,by omega,rfl,q3,Z,λ k Q=>H k (a2 k Q),?_⟩;grind
 have V:=q.vs;have dc:∀{K:D->Prop},au PP (.ld (.c (.ptr n3 0 0)) 8 true) h2 K=K c.e:=λ {K}=>V.Bv 0 (s:=8) rfl rfl
 simp only[↓dc];refine q.MJ ha ?_;refine db (Xx hc c1) (λ d hd=>by simp[Arg.get]at hd;rcases hd with rfl|rfl;exact c.b9.pair;exact aI.pair) ?_;have e1:=WV (c:=c) (a:=a);dsimp only[uK,xI,xL]
 refine⟨λ m q h=>∃(y:Nat) (T:List Nat) (v:D),q=[v,.int .i64 (y:Int)]/\y<=(inE c a).length/\m=(inE c a).length-y/\LV h [(n3,.box c.e)] v T/\FI c s T/\(∀k∈T1,k∈T) /\
   ((T=T1/\∀(x b:Nat),x<y->(inE c a)[x]?=some b->b∈T)\/T1.length<T.length),_,
  ⟨0,T1,v1,by rw[I];rfl,by omega,rfl,q,a1,λ k Q=>Q,Or.inl ⟨rfl,λ x b hx=>by omega⟩⟩,?_⟩
 clear I G q V hm dc;rintro m f3 h3 ⟨y,T,v3,hq,hy,hm,q,Z,H,a7⟩;simp only[ah,and_true]at hq;obtain⟨I,G⟩:=hq;have c2:=(Z.lt hc hs).1;rw[I,G,po];by_cases b2:y<(inE c a).length
 ·rw[fY (by omega),af];obtain⟨b,hb⟩:∃b,(inE c a)[y]?=some b:=⟨(inE c a)[y],aq b2⟩;refine T8 hb ?_;refine q.call (Q8 (by omega) Z.inc) (λ h' V'=>?_) (λ hf=>by cases hf);rw[bB (by omega) (by omega)];simp only[aa,true_and];refine⟨_,by omega,y+1,Br T b,_,by simp,by omega,rfl,Or.inl ⟨rfl,V'⟩,Z.ins (H a b5) (ak hb),λ k Q=>CU.2 (Or.inl (H k Q)),?_⟩;rcases Um Z.inc (k:=b) with⟨h1,h2⟩|⟨h1,h2⟩
  ·grind
  grind
 grind [fU,ae,aa,List.getElem?_of_mem]
end Go.Am
namespace Go.Am
open Go Go.Proofs
theorem Qb {p p':Nat->Bool}{N:Nat}(h:∀k,p k=true->p' k=true):jS p' N<=jS p N :=
 List.countP_mono_left λ k _ G=>by cases hp:p k<;>simp_all
theorem Tu {S:List Bool}{x:Nat}(hx:hasB S x=true):S.set x true=S:=by
 apply List.ext_getElem?;grind [hasB]
theorem Uo {N k:Nat}(h:hasB ((List.replicate N false).set 0 true) k=true):k=0:=by
 grind [hasB]
structure RI (c:Code) (S:List Bool):Prop where
 len:S.length=c.b.length
 z:hasB S 0=true
 pa:∀k,hasB S k=true->Path (edg c) 0 k
theorem qm {c:Code}{a:Nat}:(edg c a).length<=2:=by
 grind [edg,bf]
theorem xt {c:Code}(hc:bp c):aK PP fo [c.e] (λ r=>∃S:List Bool,r=.sl (bL S)/\S.length=c.b.length/\∀k,hasB S k=true↔Path (edg c) 0 k):=by
 have c8:=hc.nb;refine aZ Ga (aG _ _ _) rfl (FP _ _) ?_;dsimp only[zZ,xB,xF,xI,xL,xS];refine Vs.nil.box c.b9.one λ n2 h3 V1=>?_
 simp only[↓V1.fa 0 rfl,Nat.zero_add,↓V1.bI 0 (j:=7) rfl rfl,bD,aH];refine V1.SQ (by omega) (by omega) λ n9 e4 V2=>?_
 have e0:List.replicate c.b.length (D.bool false)=bL (List.replicate c.b.length false):=by simp[bL]
 rw[e0]at V2;rw[V2.ia 0 rfl (by omega) (by omega)];refine V2.wA 0 rfl (by simp[bL];omega) rfl (ic _) λ c5 V3=>?_
 rw[show(0:Int).toNat=0 from rfl,hZ]at V3;replace V3:Vs c5 [(n9,.arr 1 (bL ((List.replicate c.b.length false).set 0 true))),(n2,.box c.e)]:=V3;refine⟨λ _ h=>∃S:List Bool,RI c S/\(∀k,Path (edg c) 0 k->hasB S k=true)/\Vs h [(n9,.arr 1 (bL S)),(n2,.box c.e)],?_,?_⟩
 ·rintro f h ⟨S,I,b5,V⟩;have hl:D.ms n9 0 c.b.length=.ms n9 0 (bL S).length:=by simp[bL,I.len]
  rw[hl];refine oD (esz:=1) (by rw[V.get 0 _ _ rfl];rfl) (λ x hx y hy=>?_) ⟨S,rfl,I.len,λ k=>⟨I.pa k,b5 k⟩⟩;simp only[bL,List.mem_map]at hx;obtain⟨b,-,rfl⟩:=hx;simp[D.cells]at hy;subst hy;rfl
 have r0:RI c ((List.replicate c.b.length false).set 0 true):=⟨by simp,by grind [bJ],λ k G=>by rw[Uo G];exact .refl⟩
 have u0:jS (hasB ((List.replicate c.b.length false).set 0 true)) c.b.length+1<=c.b.length:=by
  have:=kB (p:=λ _=>false) (p':=hasB ((List.replicate c.b.length false).set 0 true)) (N:=c.b.length) (x:=0) (λ k G=>by cases G) (by omega) rfl r0.z;grind [wI]
 dsimp only[sP,xF,xL]
 refine⟨λ m q h=>∃(n:Nat) (S:List Bool),q=[.int .i64 (n:Int)]/\n<=c.b.length/\m=c.b.length-n/\RI c S/\Vs h [(n9,.arr 1 (bL S)),(n2,.box c.e)]/\((∀k,Path (edg c) 0 k->hasB S k=true)\/jS (hasB S) c.b.length+n+1<=c.b.length),_,
  ⟨0,_,rfl,by omega,rfl,r0,V3,Or.inr u0⟩,?_⟩
 rintro m f h ⟨n,S0,hq,hn,hm,c0,V,c7⟩;simp only[ah,and_true]at hq;simp only[hq,↓V.fa 1 rfl,Nat.zero_add,↓V.bI 1 (j:=7) rfl rfl,bD,aH];by_cases e1:n<c.b.length
 case neg =>
  grind [fU,ae,aa]
 rw[fY (by omega),af];refine⟨λ q h=>∃(S:List Bool),RI c S/\Vs h [(n9,.arr 1 (bL S)),(n2,.box c.e)]/\((∀k,Path (edg c) 0 k->hasB S k=true)\/jS (hasB S) c.b.length+n+2<=c.b.length),?_,?_⟩
 ·rintro f2 h2 ⟨S,I,V',c6⟩;rw[bB (by omega) (by omega)];simp only[aa,true_and];exact⟨_,by omega,n+1,S,by simp,by omega,rfl,I,V',by grind⟩
 dsimp only[sQ,xF,xI,xL]
 refine⟨λ m q h=>∃(b:Nat) (S:List Bool),q=[.int .i64 (b:Int)]/\b<=c.b.length/\m=c.b.length-b/\RI c S/\Vs h [(n9,.arr 1 (bL S)),(n2,.box c.e)]/\(∀k,hasB S0 k=true->hasB S k=true) /\
   ((S=S0/\∀a,a<b->hasB S a=true->∀t,t∈edg c a->hasB S t=true)\/jS (hasB S) c.b.length+1<=jS (hasB S0) c.b.length),_,
  ⟨0,S0,rfl,by omega,rfl,c0,V,λ k G=>G,Or.inl ⟨rfl,λ a ha=>by omega⟩⟩,?_⟩
 clear hq V hm;rintro m f2 h2 ⟨b,Z,hq,hb,hm,a2,V,a8,b3⟩;simp only[ah,and_true]at hq;simp only[hq,↓V.fa 1 rfl,Nat.zero_add,↓V.bI 1 (j:=7) rfl rfl,bD,aH];by_cases a1:b<c.b.length
 case neg =>
  rw[fU (by omega),ae];simp only[aa,true_and];refine⟨Z,a2,V,?_⟩;rcases b3 with⟨e,c1⟩|e2
  ·left;intro k G;refine(G.closed (S:=λ k=>hasB Z k=true/\k<c.b.length) ⟨a2.z,by omega⟩ λ a t ha ht=>⟨c1 a (by have:=ha.2;omega) ha.1 t ht,cE hc ht⟩).1
  grind
 rw[fY (by omega),af];have hB:c.b[b]?=some c.b[b]:=aq a1;have b7:=hc.t _ (ak hB);generalize c.b[b]=B at hB b7
 refine⟨λ q h=>∃(S:List Bool),RI c S/\Vs h [(n9,.arr 1 (bL S)),(n2,.box c.e)]/\(∀k,hasB Z k=true->hasB S k=true) /\
   ((S=Z/\(hasB S b=true->∀t,t∈edg c b->hasB S t=true))\/jS (hasB S) c.b.length+1<=jS (hasB Z) c.b.length),?_,?_⟩
 ·rintro f3 h3 ⟨S,I,V',Q,b2⟩;rw[bB (by omega) (by omega)];simp only[aa,true_and];refine⟨_,by omega,b+1,S,by simp,by omega,rfl,I,V',λ k G=>Q k (a8 k G),?_⟩;grind
 simp only[↓V.fa 1 rfl,Nat.zero_add,↓V.bI 1 (j:=7) rfl rfl,↓rE hB,↓KM,↓MX];refine aW (MQ b7) (λ d hd=>by simp at hd;subst hd;exact B.t.b9.pair) ?_;rintro _ rfl;rw[<- jr hB];have e3:=qm (c:=c) (a:=b);dsimp only[sR,xI,xL,xP,xS]
 refine⟨λ m q h=>∃(y:Nat) (S:List Bool),q=[.int .i64 (y:Int)]/\y<=(edg c b).length/\m=(edg c b).length-y/\RI c S/\Vs h [(n9,.arr 1 (bL S)),(n2,.box c.e)]/\(∀k,hasB Z k=true->hasB S k=true) /\
   ((S=Z/\∀(x t:Nat),x<y->(edg c b)[x]?=some t->hasB S t=true)\/jS (hasB S) c.b.length+1<=jS (hasB Z) c.b.length),_,
  ⟨0,Z,rfl,by omega,rfl,a2,V,λ k G=>G,Or.inl ⟨rfl,λ x t hx=>by omega⟩⟩,?_⟩
 clear V hm;rintro m f3 h3 ⟨y,S,b1,hy,hm,I,V,Q,b2⟩;simp only[ah,and_true]at b1;have c2:(bL S).length=c.b.length:=by simp[bL,I.len]
 rw[b1,po];by_cases b4:y<(edg c b).length
 case neg =>
  rw[fU (by omega)];simp only[↓gS,aa,true_and];grind [List.getElem?_of_mem]
 rw[fY (by omega)];simp only[hq,↓gS,↓V.ia 0 rfl (show(0:Int)<=(b:Int) by omega) (show(b:Int)<(c.b.length:Nat) by omega),aE,↓V.yQ 0 rfl (cr (bo (S:=S) (k:=b) (by rw[I.len];exact a1))) rfl];cases c4:hasB S b
 ·simp only[↓gS,aa,true_and];grind
 simp only[↓gS];obtain⟨t,ht⟩:∃t,(edg c b)[y]?=some t:=⟨(edg c b)[y],aq b4⟩;have a7:=ak ht;have a6:=cE hc a7;refine T8 ht ?_;simp only[nD,↓V.ia 0 rfl (show(0:Int)<=(t:Int) by omega) (show(t:Int)<(c.b.length:Nat) by omega),aE];refine V.wA 0 rfl (by rw[c2];exact a6) rfl (ic _) λ h4 V4=>?_
 rw[hZ]at V4;replace V4:Vs h4 [(n9,.arr 1 (bL (S.set t true))),(n2,.box c.e)]:=V4;rw[bB (by omega) (by omega)];simp only[aa,true_and];have H:∀k,hasB (S.set t true) k=(decide (k=t)||hasB S k):=λ k=>bJ (by rw[I.len];exact a6)
 refine⟨_,by omega,y+1,S.set t true,by simp,by omega,rfl,⟨by simp[I.len],by rw[H];simp[I.z],λ k G=>?_⟩,V4,λ k G=>by rw[H];simp[Q k G],?_⟩
 ·rw[H]at G;simp only[Bool.or_eq_true,decide_eq_true_eq]at G;rcases G with rfl|G
  ·exact .step (I.pa b c4) a7
  ·exact I.pa k G
 ·cases c3:hasB S t
  ·right;have h1:=kB (p:=hasB S) (p':=hasB (S.set t true)) (N:=c.b.length) (x:=t) (λ k G=>by rw[H];simp[G]) a6 c3 (by rw[H];simp);grind
  grind [Tu]
end Go.Am
namespace Go.Am
open Go Go.Proofs
def LX (v:D) (T:List Nat) (X:LSq):Prop:=(v=.sl (aR T)/\X=[])\/∃m,v=.ms m 0 T.length/\X=[(m,.arr 1 (aR T))]
section
variable {h:Heap}{L X:LSq}{v w:D}{T:List Nat}{R:List (List Nat)}
theorem LX.lv (x:LX v T X) (V:Vs h (L++X)):LV h L v T:=by
 rcases x with⟨e,rfl⟩|⟨m,e,rfl⟩
 ·exact Or.inl ⟨e,by simp at V;exact V⟩
 ·exact Or.inr ⟨m,e,V.perm (by grind [List.perm_append_comm])⟩
theorem LV.lx (q:LV h L v T):∃X,LX v T X/\Vs h (L++X):=by
 rcases q with⟨e,V⟩|⟨m,e,V⟩
 ·exact⟨[],Or.inl ⟨e,rfl⟩,by simp;exact V⟩
 ·exact⟨_,Or.inr ⟨m,e,rfl⟩,V.perm (by grind [List.perm_append_comm])⟩
theorem LX.one (x:LX v T X):v.one=true/\v.cells=[v]:=by
 rcases x with⟨rfl,-⟩|⟨m,rfl,-⟩<;>exact⟨rfl,rfl⟩
theorem QD.abn (q:QD h L w (R.map λ l=>.sl (aR l))):w.one=true/\w.cells=[w]:=by
 rcases q with⟨rfl,-,-⟩|⟨m,rfl,-⟩<;>exact⟨rfl,rfl⟩
theorem Zm {K:D->Prop}(x:LX v T X) (q:QD h (L++X) w (R.map λ l=>.sl (aR l))) (hR:R≠[]) (hK:K (.agg [.sl (aR T),.sl (R.map λ l=>.sl (aR l))])):ky K (.agg [v,w]) h:=by
 rcases q with⟨rfl,I,-⟩|⟨m,rfl,V⟩
 ·exact absurd (by simpa using I) hR
 have H:(h m).row=some (1,R.map λ l=>.sl (aR l)):=by rw[V.get 0 _ _ rfl];rfl
 have tk:(R.map λ l=>D.sl (aR l)).take (R.map λ l=>D.sl (aR l)).length=R.map λ l=>D.sl (aR l):=List.take_length
 have okR:p6 h (.ms m 0 (R.map λ l=>D.sl (aR l)).length):=⟨1,_,H,by omega,λ x hx y hy=>by
  have G:x∈R.map λ l=>D.sl (aR l):=List.mem_of_mem_drop (List.mem_of_mem_take hx)
  simp only[List.mem_map]at G;obtain⟨s,-,rfl⟩:=G
  simp[D.cells]at hy;subst hy;rfl⟩
 rcases x with⟨rfl,rfl⟩|⟨n,rfl,rfl⟩
 ·have Q:(D.agg [.sl (aR T),.ms m 0 (R.map λ l=>D.sl (aR l)).length]).fzt h=.agg [.sl (aR T),.sl (R.map λ l=>.sl (aR l))]:=by
   grind [D.fzt,D.fz,D.fzc]
  refine⟨λ x hx=>by simp[D.cells]at hx;rcases hx with rfl|rfl<;>rfl,?_,by rw[Q];rfl,by rw[Q];exact hK⟩;intro x hx;simp only[D.cells,List.mem_cons,List.not_mem_nil,or_false]at hx;rcases hx with rfl|rfl
  ·trivial
  ·exact okR
 ·have Z:(h n).row=some (1,aR T):=by
   have:=V.get (L.length+1) n (.arr 1 (aR T)) (by simp);rw[this];rfl
  have en:(aR T).length=T.length:=by simp[aR]
  have a1:(aR T).take T.length=aR T:=by rw[<- en,List.take_length]
  have Q:(D.agg [.ms n 0 T.length,.ms m 0 (R.map λ l=>D.sl (aR l)).length]).fzt h=.agg [.sl (aR T),.sl (R.map λ l=>.sl (aR l))]:=by
   grind [D.fzt,D.fz,D.fzc]
  refine⟨λ x hx=>by simp[D.cells]at hx;rcases hx with rfl|rfl<;>rfl,?_,by rw[Q];rfl,by rw[Q];exact hK⟩;intro x hx;simp only[D.cells,List.mem_cons,List.not_mem_nil,or_false]at hx;rcases hx with rfl|rfl
  ·exact⟨1,_,Z,by omega,λ x hx y hy=>Cv x (List.mem_of_mem_drop (List.mem_of_mem_take hx)) y hy⟩
  ·exact okR
end
theorem Y7 {c:Code}{k:Nat}:St c k↔k=0\/∃b,Path (edg c) 0 b/\k∈lJ c b:=by
 constructor
 ·intro h
  cases h with
  | zero=>exact Or.inl rfl
  | step h ha ht=>grind [K7]
 ·rintro (rfl|⟨b,hb,ht⟩)
  ·exact .zero
  ·obtain⟨s,hs,ha⟩:=K7.1 hb;exact .step hs ha ht
theorem XJ {c:Code}{b:Nat}{B:Block}(hB:c.b[b]?=some B) (hT:zr c.b.length c.regs B.t) (hk:B.t.kind=3):∃a:Nat,B.t.to0=(a:Int)/\a<c.b.length/\lJ c b=[a]:=by
 rw[Cs hB,if_pos hk];generalize B.t=t at hT hk
 cases hT with
 | barrier a h=>grind [bf]
 | jump a h=>cases hk
 | branch o a b ho h1 h2=>cases hk
 | collect s d a b t hs hd ha hb h=>cases hk
 | exit=>cases hk
theorem YM {v:D}{h:Heap}{KH:HKq}(hv:v.one=true/\v.cells=[v]) (hK:KH (.agg [v,.nil]) h):ab PP (.bld [.nil,.nil] [(0,1,(.c v))]) h KH:=by
 rw[nX];refine⟨λ p hp=>?_,?_⟩
 ·grind [Arg.get]
 grind [fillD,Arg.get]
def VQ (v w:D) (n17 n4 n2:Nat) (c:Code):LSq:=[(n17,.box (.agg [v,w])),(n4,.box (.agg [.nil,.nil])),(n2,.box c.e)]
theorem VQ.put {c:Code}{h:Heap}{v w:D}{n17 n4 n2:Nat}{X:LSq}{R:List (List Nat)}{w':D}{KH:HKq}(q:QD h (VQ v w n17 n4 n2 c++X) w' (R.map λ l=>.sl (aR l)))
  (hK:∀h',QD h' (VQ v w' n17 n4 n2 c++X) w' (R.map λ l=>.sl (aR l))->KH .undef h'):ab PP (.st (.c (.ptr n17 0 1)) (.c w') 1) h KH:=by
 have V:=q.vs;have G:=q.abn;rw[kW,V.get 0 _ _ rfl];refine⟨by rw[G.2];rfl,λ x hx=>by grind,rfl,by simp,?_⟩;have e:setCells (.agg [v,w]) 1 w'.cells=.agg [v,w']:=by rw[G.2];rfl
 rw[e];exact hK _ (q.bK 0 (s':=.box (.agg [v,w'])) rfl (by simp))
theorem VQ.out {c:Code}{h:Heap}{v w:D}{n17 n4 n2:Nat}{T:List Nat}{X:LSq}{R:List (List Nat)}{K:D->Prop}(x:LX v T X) (q:QD h (VQ v w n17 n4 n2 c++X) w (R.map λ l=>.sl (aR l))) (hR:R≠[])
  (hK:K (.agg [.sl (aR T),.sl (R.map λ l=>.sl (aR l))])) :
  ab PP (.ld (.c (.ptr n17 0 0)) 2 true) h λ a24 h25=>ab PP (.st (.c (.ptr n4 0 0)) (.c a24) 2) h25 λ a26 h27=>ab PP (.ld (.c (.ptr n4 0 0)) 2 true) h27 λ a28 _=>ky K a28 h27:=by
 have V:=q.vs;have h1:=x.one.1;have h2:=q.abn.1;rw[V.fV 0 (s:=2) rfl rfl,kW,V.get 1 _ _ rfl];refine⟨rfl,λ y hy=>by grind [D.cells],rfl,by simp,?_⟩;have e:setCells (.agg [.nil,.nil]) 0 (D.agg [v,w]).cells=.agg [v,w]:=rfl;rw[e];have G:=q.bK 1 (s':=.box (.agg [v,w])) rfl (by simp);generalize aF h n4 (.box (.agg [v,w]))=H at G;rw[G.vs.fV 1 (s:=2) rfl rfl];exact Zm (L:=[(n17,.box (.agg [v,w])),(n4,.box (.agg [v,w])),(n2,.box c.e)]) x G hR hK
theorem QD.abj {h:Heap}{L:LSq}{v d:D}{T:List D}(q:QD h L v T){z':D}{bytes:Nat}{KH:HKq}(hd:kx d) (h1:d.one=true) (hb:(T.length+1)*bytes<=140737488355328) (hl:T.length+1<=9223372036854775807)
  (hK:∀v h',QD h' L v (T++[d])->KH v h'):ab PP (.app (.c v) (.c (.sl [d])) 1 bytes z') h KH:=by
 have hc:d.cells.length=1:=by cases d<;>first|rfl|cases h1
 have hlen:T.length+1=(T++[d]).length:=by simp
 rcases q with⟨rfl,rfl,V⟩|⟨m,rfl,V⟩
 ·refine Pn (els:=[]) (Or.inl ⟨rfl,rfl⟩) hd.one hc hb hl λ m h' hm G I=>hK _ _ (Or.inr ⟨m,rfl,?_⟩)
  grind [D.lG,Vs.iff]
 ·refine Pn (els:=T) (Or.inr ⟨m,rfl,V.get 0 _ _ rfl⟩) hd.one hc hb hl λ H h' hm G I=>hK _ _ (Or.inr ⟨H,by rw[hlen],?_⟩)
  grind [D.lG,Vs.iff]
theorem UW {P:Program}{h:Heap}{K:D->Prop}{fz:Bool}{esz:Nat}{z d:D}(h1:∀y∈d.cells,y.vone=true) (h2:aL d) (h3:d.cells.length=esz) (hz:∀y∈z.cells,y.vone=true) (hK:K (.sl [d])):au P (.bldS fz esz 1 z [(0,.c d)]) h K:=by
 refine⟨λ p hp=>?_,λ p hp=>?_,hz,by grind [setEls,Arg.get]⟩
 ·grind [Arg.get]
 grind [Arg.get]
theorem Ww (c:Code):RE c=.agg [.sl (aR (jT c)),.sl (((jT c).map (rl c)).map λ l=>.sl (aR l))]:=by rw[RE,List.map_map];rfl
theorem Xp (c:Code) (s:Nat):∀d,d∈[c.e,nD s]->d.vd=true/\aL d:=λ d hd=>by simp at hd;rcases hd with rfl|rfl;exact c.b9.pair;exact aI.pair
theorem Vk {c:Code}(hc:bp c):aK PP tM [c.e] (· = RE c):=by
 have b1:=hc.nb;refine aZ HX (aG _ _ _) rfl (HD _ _) ?_;dsimp only[Dw,xB,xL,xS];refine Vs.nil.box c.b9.one λ n2 h3 V1=>?_
 refine V1.alloc λ n4 h5 V2=>?_
 refine LV.one (k:=0) V2 λ v0 h7 q0=>?_
 have V3:=q0.vs;rw[V3.fV 1 (s:=8) rfl rfl];refine aW (xt hc) (λ d hd=>by simp at hd;subst hd;exact c.b9.pair) ?_;rintro _ ⟨S,rfl,hS,hP⟩;have c6:(jT c).length<=c.b.length:=oM;have hzero:0∈jT c:=dj.2 ⟨b1.1,.zero⟩;refine⟨λ q h=>∃v,q=[v]/\LV h [(n4,.box (.agg [.nil,.nil])),(n2,.box c.e)] v (jT c),?_,?_⟩
 ·rintro f h ⟨v,hq,q⟩;simp only[ah,and_true]at hq;obtain⟨X,x,V⟩:=q.lx;rw[hq];refine YM x.one ?_;refine V.alloc λ n17 e1 V4=>?_
  refine V4.mY (cs':=[v,.nil]) 0 rfl rfl rfl (λ y hy=>by simp at hy;rcases hy with rfl|rfl;exact x.one.1;rfl) λ c3 V5=>?_
  replace V5:Vs c3 (VQ v .nil n17 n4 n2 c++X):=V5;refine⟨λ _ h=>∃w,QD h (VQ v w n17 n4 n2 c++X) w (((jT c).map (rl c)).map λ l=>.sl (aR l)),?_,?_⟩
  ·rintro f2 h2 ⟨w,q⟩;exact VQ.out x q (by grind [List.map_eq_nil_iff]) (Ww c).symm
  dsimp only[uM,xS,yF,yI,yL]
  refine⟨λ m q h=>∃(i:Nat) (w:D),q=[.int .i64 (i:Int)]/\i<=(jT c).length/\m=(jT c).length-i/\QD h (VQ v w n17 n4 n2 c++X) w ((((jT c).take i).map (rl c)).map λ l=>.sl (aR l)),_,
   ⟨0,.nil,rfl,by omega,rfl,Or.inl ⟨rfl,by simp,V5⟩⟩,?_⟩
  rintro m f2 h2 ⟨i,w,H,hi,hm,q⟩;simp only[ah,and_true]at H;have V6:=q.vs;have lv:=x.lv V6;rw[hq,H,lv.len];by_cases a1:i<(jT c).length
  ·rw[fY (by omega),af];obtain⟨s,hs⟩:∃s,(jT c)[i]?=some s:=⟨(jT c)[i],aq a1⟩;have b7:=(dj.1 (ak hs)).1;have l3:∀{K:D->Prop},au PP (.ld (.c (.ptr n2 0 0)) 8 true) h2 K=K c.e:=λ {K}=>V6.Bv 2 (s:=8) rfl rfl
   have lw:∀{K:D->Prop},au PP (.ld (.c (.ptr n17 0 1)) 1 false) h2 K=K w:=λ {K}=>V6.gw 0 (j:=1) rfl rfl
   simp only[↓V6.lH 0 rfl,Nat.zero_add,↓lw,↓l3];refine lv.MJ hs ?_;refine db (Vj hc b7) (Xp c s) ?_;refine UW (λ y hy=>by simp[D.cells]at hy;subst hy;rfl) O8.one rfl (λ y hy=>by simp[D.cells]at hy;subst hy;rfl) ?_
   try simp only[↓V6.lH 0 rfl,Nat.zero_add]
   have a7:((((jT c).take i).map (rl c)).map λ l=>D.sl (aR l)).length=i:=by simp;omega
   refine q.abj (d:=.sl (aR (rl c s))) O8 rfl (by rw[a7];omega) (by rw[a7];omega) λ w' h3 q3=>?_
   have e2:((((jT c).take i).map (rl c)).map λ l=>D.sl (aR l))++[.sl (aR (rl c s))]=(((jT c).take (i+1)).map (rl c)).map λ l=>D.sl (aR l):=by rw[List.take_add_one,hs];simp
   grind [VQ.put,bB,aa]
  grind [fU,ae,aa]
 dsimp only[uL,xF,xI,xJ,xL,xP]
 refine⟨λ m q h=>∃(b:Nat) (T:List Nat) (v:D),q=[v,.int .i64 (b:Int)]/\b<=c.b.length/\m=c.b.length-b/\LV h [(n4,.box (.agg [.nil,.nil])),(n2,.box c.e)] v T/\T.Pairwise (· < ·)/\(∀k,k∈T↔k=0\/∃a,a<b/\Path (edg c) 0 a/\k∈lJ c a),_,
  ⟨0,[0],v0,rfl,by omega,rfl,q0,by simp,λ k=>by simp⟩,?_⟩
 rintro m f h ⟨b,T,v,hq,hb,hm,q,G,Q⟩;simp only[ah,and_true]at hq;obtain⟨c0,H⟩:=hq;have V:=q.vs
 have c8:T.length<=c.b.length:=sh (λ k I=>by
  rcases (Q k).1 I with rfl|⟨a,-,-,ht⟩
  ·omega
  ·exact cE hc (rZ ht)) (G.imp λ c2=>Nat.ne_of_lt c2)
 simp only[c0,H,↓V.fa 1 rfl,Nat.zero_add,↓V.bI 1 (j:=7) rfl rfl,bD,aH];by_cases a1:b<c.b.length
 case neg =>
  have:b=c.b.length:=by omega
  subst this;rw[fU (by omega),ae];simp only[aa,true_and]
  have:T=jT c:=Ms G yO λ k=>by
   rw[Q,jT,dj,Y7];constructor
   ·rintro (rfl|⟨a,h1,h2,h3⟩)
    ·exact⟨b1.1,Or.inl rfl⟩
    ·exact⟨cE hc (rZ h3),Or.inr ⟨a,h2,h3⟩⟩
   grind [lJ]
  grind
 have hB:c.b[b]?=some c.b[b]:=aq a1;have b2:=hc.t _ (ak hB);generalize c.b[b]=B at hB b2;rw[fY (by omega),af];refine⟨λ q h=>∃(T:List Nat) (v:D),q=[v]/\LV h [(n4,.box (.agg [.nil,.nil])),(n2,.box c.e)] v T/\T.Pairwise (· < ·)/\(∀k,k∈T↔k=0\/∃a,a<b+1/\Path (edg c) 0 a/\k∈lJ c a),?_,?_⟩
 ·rintro f2 h2 ⟨T',v',a8,q',a2,Z⟩;simp only[ah,and_true]at a8;rw[a8,bB (by omega) (by omega)];simp only[aa,true_and];exact⟨_,by omega,b+1,T',v',by simp,by omega,rfl,q',a2,Z⟩
 have c1:∀{KH:HKq},ab PP (.iadd (.c (.sl (bL S))) (.c (.int .i64 (b:Int))) 1) h KH=KH (.vp (.bool (hasB S b)) 0) h:=λ {KH} =>
  iN (esz:=1) (by omega) (by grind [cr,bo]) rfl
 have b5:∀{KH:HKq}{t:Bool},ab PP (.ld (.c (.vp (.bool t) 0)) 1 false) h KH=KH (.bool t) h:=λ {KH t}=>ni rfl
 have c4:∀{KH:HKq},ab PP (.fadd (.c (.vp B.e 1)) 0) h KH=KH (.vp B.e 1) h:=λ {KH}=>rfl
 have b3:∀{KH:HKq},ab PP (.fadd (.c (.vp B.e 1)) 11) h KH=KH (.vp B.e 12) h:=λ {KH}=>rfl
 have b4:∀{KH:HKq},ab PP (.ld (.c (.vp B.e 1)) 1 false) h KH=KH (.int .i64 B.t.kind) h:=λ {KH}=>Fo rfl
 have same:(¬(hasB S b=true/\B.t.kind=3))->∀k,k∈T↔k=0\/∃a,a<b+1/\Path (edg c) 0 a/\k∈lJ c a:=λ hn k=>by
  grind [Cs]
 simp only[↓c1,↓b5];cases e0:hasB S b
 ·simp only[↓gS,aa,true_and];grind
 simp only[↓gS,↓V.fa 1 rfl,Nat.zero_add,↓V.bI 1 (j:=7) rfl rfl,↓rE hB,↓KM,↓c4,↓b4];by_cases I:B.t.kind=3
 case neg =>
  rw[eqF I];simp only[↓gS,aa,true_and];grind
 rw[eqT I];obtain⟨a,ha,c7,c5⟩:=XJ hB b2 I
 have iv:∀{KH:HKq},ab PP (.iadda (.c (.vp B.e 12)) (.c (.int .i64 0)) 2 1) h KH=KH (.vp B.e 12) h:=λ {KH}=>by
  apply propext;constructor
  ·rintro⟨-,-,I⟩;exact I
  ·intro I;exact⟨by omega,by omega,I⟩
 have a6:∀{KH:HKq},ab PP (.ld (.c (.vp B.e 12)) 1 false) h KH=KH (nD a) h:=λ {KH}=>by
  rw[nD, <- ha];exact Fo rfl
 simp only[↓gS,↓V.fa 1 rfl,Nat.zero_add,↓V.bI 1 (j:=7) rfl rfl,↓rE hB,↓KM,↓b3,↓iv,↓a6];refine q.call (Q8 (by omega) G) (λ h' V'=>?_) (λ hf=>by cases hf);simp only[aa,true_and];refine⟨Br T a,_,rfl,Or.inl ⟨rfl,V'⟩,NQ G,λ k=>?_⟩;grind [CU]
end Go.Am

namespace Go.Am
structure Dg (r:Nat) (pre:Nat->List Nat) (A:Nat->Nat) (node:Nat->Prop):Prop where
 root:node r
 zero:A r=0
 inj:∀a b,node a->node b->A a=A b->a=b
 src:∀p b,p∈pre b->node p
 par:∀b,node b->b≠r->∃p,p∈pre b/\A p<A b
inductive Ch (r:Nat) (up:Nat->Option Nat):Nat->Nat->Prop
 | refl (x:Nat):Ch r up x x
 | step {x y d:Nat}(h:x≠r) (hy:up x=some y) (k:Ch r up y d):Ch r up x d
inductive Pv (pre:Nat->List Nat) (bad:Nat->Prop) (s:Nat):Nat->Prop
 | refl (h:¬bad s):Pv pre bad s s
 | step {a b:Nat}(h:Pv pre bad s a) (e:a∈pre b) (hb:¬bad b):Pv pre bad s b
theorem Pv.trans {pre:Nat->List Nat}{bad:Nat->Prop}{a b c:Nat}(h:Pv pre bad a b) (k:Pv pre bad b c):Pv pre bad a c:=by
 induction k with
 | refl _=>exact h
 | step _ e hb G=>exact .step G e hb
theorem Pv.mono {pre:Nat->List Nat}{bad bad':Nat->Prop}{a b:Nat}(hm:∀x,bad' x->bad x) (h:Pv pre bad a b):Pv pre bad' a b:=by
 induction h with
 | refl h=>exact .refl λ k=>h (hm _ k)
 | step _ e hb G=>exact .step G e λ k=>hb (hm _ k)
theorem Pv.last {pre:Nat->List Nat}{bad:Nat->Prop}{a b:Nat}(h:Pv pre bad a b):¬bad b:=by
 cases h with
 | refl h=>exact h
 | step _ _ h=>exact h
def Dm (r:Nat) (pre:Nat->List Nat) (d x:Nat):Prop:=¬Pv pre (· = d) r x
structure Tr (r:Nat) (A:Nat->Nat) (node:Nat->Prop) (up:Nat->Option Nat):Prop where
 rt:up r=some r
 nd:∀x y,up x=some y->node x/\up y≠none
 lt:∀x y,up x=some y->x≠r->A y<A x
section
variable {r:Nat}{pre:Nat->List Nat}{A:Nat->Nat}{node:Nat->Prop}{up:Nat->Option Nat}
theorem Ch.trans {a b c:Nat}(h:Ch r up a b) (k:Ch r up b c):Ch r up a c:=by
 induction h with
 | refl _=>exact k
 | step h hy _ G=>exact .step h hy (G k)
theorem Ch.le (T:Tr r A node up){x d:Nat}(h:Ch r up x d):d=x\/A d<A x:=by
 induction h with
 | refl _=>exact Or.inl rfl
 | @step x y d h hy _ G =>
  have:=T.lt x y hy h;grind
theorem Ch.PU (T:Tr r A node up){x d:Nat}(h:Ch r up x d) (k:Ch r up d x):d=x:=by
 rcases h.le T with h|h
 ·exact h
 ·rcases k.le T with k|k
  ·exact k.symm
  ·omega
theorem Ch.lin {x a b:Nat}(h:Ch r up x a) (k:Ch r up x b):Ch r up a b\/Ch r up b a:=by
 induction h with
 | refl _=>exact Or.inl k
 | @step x y a h hy h' H =>
  cases k with
  | refl _=>exact Or.inr (.step h hy h')
  | step _ G k' =>
   grind
theorem Ch.proc (T:Tr r A node up){x d:Nat}(h:Ch r up x d) (hx:up x≠none):up d≠none:=by
 induction h with
 | refl _=>exact hx
 | step _ hy _ G=>exact G (T.nd _ _ hy).2
structure Bst (r:Nat) (pre:Nat->List Nat) (up:Nat->Option Nat) (v m:Nat):Prop where
 pr:up m≠none
 iff:∀d,Ch r up m d ↔ ∀p,p∈pre v->up p≠none->Ch r up p d
structure SL (r:Nat) (pre:Nat->List Nat) (A:Nat->Nat) (node:Nat->Prop) (up:Nat->Option Nat) (k:Nat):Prop where
 tr:Tr r A node up
 nk:node k
 pk:∀x,node x->(up x≠none↔A x<=A k)
 st:∀v y,v≠r->up v=some y->(∀d,(∀p,p∈pre v->up p≠none->Ch r up p d)↔Ch r up y d)\/(∀d,(∀p,p∈pre v->up p≠none->Ch r up p d)↔Ch r up v d/\Ch r up k d)
 snd:∀x d,up x≠none->Dm r pre d x->Ch r up x d
 pth:∀x y,x≠r->up x=some y->Pv pre (λ d=>Ch r up y d/\d≠y) y x
def iT (up:Nat->Option Nat) (b m:Nat):Nat->Option Nat:=λ x=>if x=b then some m else up x
theorem cG {b m:Nat}:iT up b m b=some m:=by simp[iT]
theorem dV {b m x:Nat}(h:x≠b):iT up b m x=up x:=by simp[iT,h]
theorem SL.down {k:Nat}(I:SL r pre A node up k){x z:Nat}(h:Ch r up x z) (hx:up x≠none):Pv pre (λ d=>Ch r up z d/\d≠z) z x:=by
 induction h with
 | refl x=>exact .refl λ h=>h.2 rfl
 | @step x y z hr hy hc G =>
  have h1:=G (I.tr.nd x y hy).2;refine h1.trans ((I.pth x y hr hy).mono λ d hd=>?_);refine⟨hc.trans hd.1,?_⟩;rintro rfl;exact hd.2 (hd.1.PU I.tr hc)
theorem Pt {d p b:Nat}(h:Dm r pre d b) (hp:p∈pre b) (hne:b≠d):Dm r pre d p:=λ k=>h (.step k hp hne)
theorem UY (T:Tr r A node up){b m:Nat}(hbr:b≠r) (hmb:¬Ch r up m b) (x d:Nat):Ch r (iT up b m) x d↔(¬Ch r up x b/\Ch r up x d)\/(Ch r up x b/\((Ch r up x d/\Ch r up d b)\/Ch r up m d)):=by
 have off:∀{x d:Nat},¬Ch r up x b->(Ch r (iT up b m) x d↔Ch r up x d):=by
  intro x d hx;constructor
  ·intro h
   induction h with
   | refl _=>exact .refl _
   | @step x y d hr hy _ I =>
    have G:x≠b:=by rintro rfl;exact hx (.refl _)
    rw[dV G]at hy;exact .step hr hy (I λ h=>hx (.step hr hy h))
  ·intro h
   induction h with
   | refl _=>exact .refl _
   | @step x y d hr hy _ I =>
    have G:x≠b:=by rintro rfl;exact hx (.refl _)
    exact .step hr (by rw[dV G];exact hy) (I λ h=>hx (.step hr hy h))
 by_cases hx:Ch r up x b
 ·simp only[hx,not_true,false_and,true_and,false_or]
  induction hx with
  | refl =>
   constructor
   ·intro h
    cases h with
    | refl _=>exact Or.inl ⟨.refl _,.refl _⟩
    | step _ hy k =>
     grind [cG]
   ·rintro (⟨h1,h2⟩|h)
    ·rw[h1.PU T h2];exact .refl _
    ·exact .step hbr cG ((off hmb).2 h)
  | @step x y b hr hy hc I =>
   by_cases G:x=b
   ·exact absurd hc (λ hc=>by
     have:=T.lt x y hy hr;subst G;rcases hc.le T with h|h
     ·rw[<- h]at this;omega
     ·omega)
   ·have I:=I hbr hmb off;constructor
    ·intro h
     cases h with
     | refl _=>exact Or.inl ⟨.refl _,.step hr hy hc⟩
     | step _ H k =>
      rw[dV G,hy]at H;cases H;rcases I.1 k with⟨h1,h2⟩|h
      ·exact Or.inl ⟨.step hr hy h1,h2⟩
      ·exact Or.inr h
    ·rintro (⟨h1,h2⟩|h)
     ·cases h1 with
      | refl _=>exact .refl _
      | step _ H k =>
       rw[hy]at H;cases H;exact .step hr (by rw[dV G];exact hy) (I.2 (Or.inl ⟨k,h2⟩))
     ·exact .step hr (by rw[dV G];exact hy) (I.2 (Or.inr h))
 grind
theorem SL.some {k:Nat}(G:Dg r pre A node) (I:SL r pre A node up k){b:Nat}(hb:node b) (hbr:b≠r) (hk:A b<=A k+1):∃p,p∈pre b/\up p≠none/\A p<A b:=by
 obtain⟨p,hp,H⟩:=G.par b hb hbr;exact⟨p,hp,(I.pk p (G.src p b hp)).2 (by omega),H⟩
theorem SL.Vq {k:Nat}(G:Dg r pre A node) (I:SL r pre A node up k){b m:Nat}(hb:node b) (hbr:b≠r) (hk:A b<=A k+1) (B:Bst r pre up b m):A m<A b:=by
 obtain⟨p,hp,hu,H⟩:=I.some G hb hbr hk;have:=(B.iff m).1 (.refl _) p hp hu;rcases this.le I.tr with e|h
 ·rw[e];exact H
 ·omega
theorem Tc {k b m o:Nat}(G:Dg r pre A node) (I:SL r pre A node up k) (hb:node b) (hbr:b≠r) (ho:up b=some o) (B:Bst r pre up b m) (hne:o≠m):SL r pre A node (iT up b m) k/\A m<A o:=by
 have T:=I.tr;have g0:A b<=A k:=(I.pk b hb).1 (by rw[ho];simp);have b7:=I.Vq G hb hbr (by omega) B
 have a8:¬Ch r up m b:=λ h=>by
  rcases h.le T with e|h
  ·rw[e]at b7;omega
  ·omega
 have F:∀d,Ch r up m d↔Ch r up b d/\Ch r up k d:=by
  rcases I.st b o hbr ho with h|h
  ·exfalso;have e:∀d,Ch r up m d↔Ch r up o d:=λ d=>(B.iff d).trans (h d)
   exact hne (((e o).2 (.refl _)).PU T ((e m).1 (.refl _)))
  ·exact λ d=>(B.iff d).trans (h d)
 have V:Ch r up b m:=((F m).1 (.refl _)).1;have e3:Ch r up k m:=((F m).1 (.refl _)).2;have e4:¬Ch r up k b:=λ h=>a8 ((F b).2 ⟨.refl _,h⟩)
 have c8:Ch r up o m:=by
  cases V with
  | refl _=>omega
  | step _ hy h=>grind
 have e0:A m<A o:=by
  rcases c8.le T with e|h
  ·exact absurd e.symm hne
  ·exact h
 have H:∀x,iT up b m x≠none↔up x≠none:=λ x=>by
  grind [cG,dV]
 have C:=λ x d=>UY (d:=d) T hbr a8 x
 have Q:∀{x d:Nat},¬Ch r up x b->(Ch r (iT up b m) x d↔Ch r up x d):=λ {x d} h=>by rw[C];simp[h]
 have a6:∀{x d:Nat},Ch r up x b->(Ch r (iT up b m) x d↔(Ch r up x d/\Ch r up d b)\/Ch r up m d):=λ {x d} h=>by rw[C];simp[h]
 have a7:∀{x d:Nat},Ch r (iT up b m) x d->Ch r up x d:=λ {x d} h=>by
  by_cases hx:Ch r up x b
  ·rcases (a6 hx).1 h with h|h
   ·exact h.1
   ·exact hx.trans (V.trans h)
  ·exact(Q hx).1 h
 have N:∀{x d:Nat},Ch r up x b->(Ch r up x d/\Ch r up k d↔Ch r up m d):=λ {x d} hx=>by
  constructor
  ·rintro⟨h1,h2⟩;rcases Ch.lin hx h1 with h|h
   ·exact(F d).2 ⟨h,h2⟩
   ·exact absurd (h2.trans h) e4
  grind
 have N':∀{x d:Nat},Ch r (iT up b m) x d/\Ch r (iT up b m) k d↔Ch r up x d/\Ch r up k d:=λ {x d}=>by
  grind
 have c2:Tr r A node (iT up b m):=by
  refine⟨by rw[dV (λ e=>hbr e.symm)];exact T.rt,λ x y hy=>?_,λ x y hy hx=>?_⟩
  ·by_cases e:x=b
   ·subst e;rw[cG]at hy;cases hy;exact⟨hb,(H _).2 B.pr⟩
   ·rw[dV e]at hy;exact⟨(T.nd x y hy).1,(H _).2 (T.nd x y hy).2⟩
  ·by_cases e:x=b
   ·grind [cG]
   ·rw[dV e]at hy;exact T.lt x y hy hx
 have all:∀v,(∀d,(∀p,p∈pre v->up p≠none->Ch r up p d)↔Ch r up v d/\Ch r up k d)->∀d,(∀p,p∈pre v->iT up b m p≠none->Ch r (iT up b m) p d)↔Ch r (iT up b m) v d/\Ch r (iT up b m) k d:=by
  grind
 refine⟨⟨c2,I.nk,λ x hx=>(H x).trans (I.pk x hx),λ v y hv hy=>?_,λ x d hx hd=>?_,λ x y hx hy=>?_⟩,e0⟩
 ·by_cases e:v=b
  ·subst e;rw[cG]at hy;cases hy;left;intro d;have hs:∀d,(∀p,p∈pre v->up p≠none->Ch r up p d)↔Ch r up v d/\Ch r up k d:=λ d=>(B.iff d).symm.trans (F d)
   grind
  ·rw[dV e]at hy;rcases I.st v y hv hy with h|h
   ·
    by_cases a1:Ch r up y b
    ·left;intro d;have e7:∀p,p∈pre v->up p≠none->Ch r up p b:=(h b).2 a1;constructor
     ·intro Z;rw[a6 a1];by_cases e1:Ch r up m d
      ·exact Or.inr e1
      ·left
       have h1:∀p,p∈pre v->up p≠none->Ch r up p d/\Ch r up d b:=λ p hp hu=>by
        grind
       refine⟨(h d).1 λ p hp hu=>(h1 p hp hu).1,?_⟩;have c5:up v≠none:=by rw[hy];simp
       obtain⟨p,hp,hu,-⟩:=I.some G (T.nd v y hy).1 hv (by have:=(I.pk v (T.nd v y hy).1).1 c5;omega);exact(h1 p hp hu).2
     grind
    ·by_cases c0:∃p,p∈pre v/\up p≠none/\Ch r up p b
     ·obtain⟨p0,b5,b3,b4⟩:=c0
      have c1:Ch r up b y:=by
       have e5:=(h y).2 (.refl _) p0 b5 b3;grind [Ch.lin]
      have key:∀d,(∀p,p∈pre v->iT up b m p≠none->Ch r (iT up b m) p d)↔Ch r up y d/\Ch r up m d:=by
       intro d;constructor
       ·intro Z;have b1:Ch r up y d:=(h d).1 λ p hp hu=>a7 (Z p hp ((H p).2 hu))
        refine⟨b1,?_⟩;rcases (a6 b4).1 (Z p0 b5 ((H p0).2 b3)) with⟨-,h2⟩|h2
        ·exact absurd (b1.trans h2) a1
        ·exact h2
       grind
      rcases Ch.lin V c1 with h1|h1
      ·
       left;intro d;rw[key,Q a1];exact⟨λ Z=>Z.1,λ Z=>⟨Z,h1.trans Z⟩⟩
      ·by_cases e2:y=m
       ·grind
       ·right;intro d;rw[key]
        have e6:¬Ch r up v b:=λ Z=>by
         cases Z with
         | refl _=>exact e rfl
         | step _ c4 k'=>grind
        rw[N'];constructor
        ·rintro⟨h3,h4⟩;exact⟨.step hv hy h3,e3.trans h4⟩
        ·rintro⟨h3,h4⟩
         cases h3 with
         | refl _ =>
          exfalso;have c3:Ch r up k y:=h4.trans (.step hv hy (.refl _));have:=(F y).2 ⟨c1,c3⟩;exact e2 (this.PU T h1)
         | step _ c4 k' =>
          grind
     grind
   ·exact Or.inr (all v h)
 ·
  have b2:=(H x).1 hx;have h1:=I.snd x d b2 hd;by_cases a2:Ch r up x b
  ·rw[a6 a2];rcases Ch.lin a2 h1 with h2|h2
   ·by_cases e:d=b
    ·grind
    ·right;refine(B.iff d).2 λ p hp hu=>I.snd p d hu ?_
     have e9:Dm r pre d b:=λ c7=>by
      refine hd (c7.trans ((I.down a2 b2).mono λ z hz=>?_));grind
     grind [Pt]
   ·exact Or.inl ⟨h1,h2⟩
  ·exact(Q a2).2 h1
 ·by_cases e:x=b
  ·subst e;rw[cG]at hy;cases hy;obtain⟨p,hp,hu,e8⟩:=I.some G hb hbr (by omega);have c6:=(B.iff m).1 (.refl _) p hp hu;refine .step ((I.down c6 hu).mono λ d hd=>⟨(Q a8).1 hd.1,hd.2⟩) hp ?_;grind
  ·rw[dV e]at hy;exact(I.pth x y hx hy).mono λ d hd=>⟨a7 hd.1,hd.2⟩
theorem Xt {b d:Nat}(hb:up b=none) (h:Ch r up b d):d=b:=by
 cases h with
 | refl _=>rfl
 | step _ hy _=>rw[hb]at hy;cases hy
theorem Wc {k b m:Nat}(G:Dg r pre A node) (I:SL r pre A node up k) (hst:∀v y,v≠r->up v=some y->∀d,(∀p,p∈pre v->up p≠none->Ch r up p d)↔Ch r up y d)
  (hb:node b) (hn:up b=none) (hA:A b=A k+1) (B:Bst r pre up b m):SL r pre A node (iT up b m) b:=by
 have T:=I.tr;have V:b≠r:=by rintro rfl;rw[T.rt]at hn;cases hn
 have a1:∀{x:Nat},up x≠none->¬Ch r up x b:=λ hx h=>h.proc T hx hn
 have a7:¬Ch r up m b:=a1 B.pr;have b1:=I.Vq G hb V (by omega) B;have C:=λ x d=>UY (d:=d) T V a7 x
 have Z:∀{x d:Nat},up x≠none->(Ch r (iT up b m) x d↔Ch r up x d):=λ {x d} hx=>by rw[C];simp[a1 hx]
 have Cb:∀{d:Nat},Ch r (iT up b m) b d↔d=b\/Ch r up m d:=λ {d}=>by
  rw[C];constructor
  ·grind [Xt]
  ·rintro (rfl|h)
   ·exact Or.inr ⟨.refl _,Or.inl ⟨.refl _,.refl _⟩⟩
   ·exact Or.inr ⟨.refl _,Or.inr h⟩
 have H:∀x,iT up b m x≠none↔x=b\/up x≠none:=λ x=>by
  grind [cG,dV]
 refine⟨⟨by rw[dV (λ e=>V e.symm)];exact T.rt,λ x y hy=>?_,λ x y hy hx=>?_⟩,hb,λ x hx=>?_,λ v y hv hy=>?_,λ x d hx hd=>?_,λ x y hx hy=>?_⟩
 ·by_cases e:x=b
  ·subst e;rw[cG]at hy;cases hy;exact⟨hb,(H _).2 (Or.inr B.pr)⟩
  ·rw[dV e]at hy;exact⟨(T.nd x y hy).1,(H _).2 (Or.inr (T.nd x y hy).2)⟩
 ·by_cases e:x=b
  ·grind [cG]
  ·rw[dV e]at hy;exact T.lt x y hy hx
 ·rw[H];constructor
  ·rintro (rfl|h)
   ·exact Nat.le_refl _
   ·have:=(I.pk x hx).1 h;omega
  ·intro h;by_cases e:A x=A b
   ·exact Or.inl (G.inj x b hx hb e)
   ·exact Or.inr ((I.pk x hx).2 (by omega))
 ·by_cases e:v=b
  ·subst e;rw[cG]at hy;cases hy;left;intro d;rw[Z B.pr];constructor
   ·intro Q;exact(B.iff d).2 λ p hp hu=>(Z hu).1 (Q p hp ((H p).2 (Or.inr hu)))
   ·intro Q p hp hu;rcases (H p).1 hu with rfl|hu
    ·exact Cb.2 (Or.inr Q)
    ·exact(Z hu).2 ((B.iff d).1 Q p hp hu)
  ·rw[dV e]at hy;have hs:=hst v y hv hy;have hyp:=(T.nd v y hy).2;by_cases b4:b∈pre v
   ·have key:∀d,(∀p,p∈pre v->iT up b m p≠none->Ch r (iT up b m) p d)↔Ch r up y d/\Ch r up m d:=by
     grind
    by_cases a2:Ch r up m v
    ·left;intro d;rw[key,Z hyp];exact⟨λ Q=>Q.1,λ Q=>⟨Q,a2.trans (.step hv hy Q)⟩⟩
    ·right;intro d;rw[key,Z (by rw[hy];simp),Cb];constructor
     ·rintro⟨h1,h2⟩;exact⟨.step hv hy h1,Or.inr h2⟩
     ·rintro⟨h1,h2⟩
      have a8:Ch r up m d:=by
       grind
      cases h1 with
      | refl _=>exact absurd a8 a2
      | step _ b2 k'=>grind
   grind
 ·rcases (H x).1 hx with rfl|hx
  ·rw[Cb];by_cases e:d=x
   ·exact Or.inl e
   ·exact Or.inr ((B.iff d).2 λ p hp hu=>I.snd p d hu (Pt hd hp λ e'=>e e'.symm))
  ·exact(Z hx).2 (I.snd x d hx hd)
 ·by_cases e:x=b
  ·subst e;rw[cG]at hy;cases hy;obtain⟨p,hp,hu,b3⟩:=I.some G hb V (by omega);have a6:=(B.iff m).1 (.refl _) p hp hu;refine .step ((I.down a6 hu).mono λ d hd=>⟨(Z B.pr).1 hd.1,hd.2⟩) hp ?_;grind
  ·rw[dV e]at hy;have hyp:=(T.nd x y hy).2;exact(I.pth x y hx hy).mono λ d hd=>⟨(Z hyp).1 hd.1,hd.2⟩
theorem TS (G:Dg r pre A node):SL r pre A node (iT (λ _=>none) r r) r:=by
 have hu:∀x y,iT (λ _=>none) r r x=some y->x=r/\y=r:=λ x y h=>by
  grind [cG,dV]
 have hn:∀x,iT (λ _=>none) r r x≠none->x=r:=λ x h=>by
  grind [iT]
 refine⟨⟨cG,λ x y h=>?_,λ x y h hx=>absurd (hu x y h).1 hx⟩,G.root,λ x hx=>?_,λ v y H hy=>absurd (hu v y hy).1 H,λ x d hx hd=>?_,λ x y hx hy=>absurd (hu x y hy).1 hx⟩
 ·obtain⟨rfl,rfl⟩:=hu x y h;exact⟨G.root,by rw[cG];simp⟩
 ·constructor
  ·grind
  ·intro h;have:x=r:=G.inj x r hx G.root (by rw[G.zero]at h ⊢;omega);grind [cG]
 ·have:=hn x hx;subst this;by_cases e:x=d
  ·subst e;exact .refl _
  ·exact absurd (.refl e) hd
theorem Wu {k:Nat}(I:SL r pre A node up k) (hall:∀x,node x->up x≠none) (hsrc:∀p b,p∈pre b->node p) (hst:∀v y,v≠r->up v=some y->∀d,(∀p,p∈pre v->up p≠none->Ch r up p d)↔Ch r up y d){x:Nat}(hx:node x) (d:Nat):Ch r up x d↔Dm r pre d x:=by
 refine⟨λ h hp=>?_,I.snd x d (hall x hx)⟩
 have hr:∀{d:Nat},Ch r up r d->d=r:=λ h=>by
  cases h with
  | refl _=>rfl
  | step h _ _=>exact absurd rfl h
 have:∀{z:Nat},Pv pre (· = d) r z->up z≠none->¬Ch r up z d:=λ hp=>by
  induction hp with
  | refl h=>grind
  | @step a b h e hb Q =>
   intro G hc;have ha:=hall a (hsrc a b e)
   cases hc with
   | refl _=>exact hb rfl
   | @step _ y _ H hy k=>grind
 exact this hp (hall x hx) h
end
end Go.Am
namespace Go.Am
open Go Go.Proofs
def upF (U:List Int) (x:Nat):Option Nat:=match U[x]? with
 | some k=>if 0<=k then some k.toNat else none
 | none=>none
theorem rV {U:List Int}{x y:Nat}(h:upF U x=some y):U[x]?=some (y:Int):=by
 grind [upF]
theorem Nq {U:List Int}{x:Nat}{k:Int}(hk:U[x]?=some k):upF U x=none↔k<0:=by
 grind [upF]
theorem Qa {U:List Int}{b m:Nat}(hb:b<U.length):upF (U.set b (m:Int))=iT (upF U) b m:=by
 grind [upF,iT]
theorem mD {l:List Int}{i:Nat}{k:Int}(h:l[i]?=some k):(aQ l)[i]?=some (.int .i64 k):=by simp[aQ,h]
theorem Mv {l:List Int}:∀x,x∈aQ l->x.one=true:=λ x hx=>by simp only[aQ,List.mem_map]at hx;obtain⟨k,-,rfl⟩:=hx;rfl
theorem Mu {l:List Int}{i:Nat}{k:Int}:(aQ l).set i (.int .i64 k)=aQ (l.set i k):=by simp[aQ,List.map_set]
def QK (v:D) (nO o nA n:Nat):Slot:=.box (.agg [v,.ms nO 0 o,.ms nA 0 n])
section
variable {r:Nat}{pre:Nat->List Nat}{A:Nat->Nat}{node:Nat->Prop}
theorem aal {h:Heap}{L:LSq}{v:D}{ng nO o nA nU n:Nat}{at' U:List Int}{KH:HKq}(V:Vs h L){ig iA iU:Nat}(hg:L[ig]?=some (ng,QK v nO o nA n)) (hA:L[iA]?=some (nA,.arr 1 (aQ at'))) (hU:L[iU]?=some (nU,.arr 1 (aQ U)))
  (hUn:U.length=n) (han:at'.length=n) (hn:n<=1000) (T:Tr r A node (upF U)) (hz:A r=0) (inj:∀a b,node a->node b->A a=A b->a=b) (hat:∀x,node x->at'[x]?=some (A x:Int)) {a b:Nat}(ha:upF U a≠none) (hb:upF U b≠none) (hna:node a) (hnb:node b)
  (hK:∀m,upF U m≠none->node m->(∀d,Ch r (upF U) m d↔Ch r (upF U) a d/\Ch r (upF U) b d)->KH (nD m) h):ag PP iF [.ptr ng 0 0,.ms nU 0 n,nD a,nD b] h KH:=by
 refine aY zB (aG _ _ _) rfl (zp _ _ _ _ _) ?_;unfold sZ;refine⟨λ q h'=>h=h'/\∃m,q=[nD m]/\upF U m≠none/\node m/\∀d,Ch r (upF U) m d↔Ch r (upF U) a d/\Ch r (upF U) b d,?_,?_⟩
 ·grind
 dsimp only[om,xI,xL,yF,yI,yL];refine⟨λ k q h'=>h=h'/\∃x y,q=[nD x,nD y]/\k=A x+A y/\upF U x≠none/\upF U y≠none/\node x/\node y/\∀d,(Ch r (upF U) x d/\Ch r (upF U) y d)↔(Ch r (upF U) a d/\Ch r (upF U) b d),_,⟨rfl,a,b,rfl,rfl,ha,hb,hna,hnb,λ d=>Iff.rfl⟩,?_⟩;rintro k f h' ⟨e,x,y,hq,hk,hx,hy,Q,I,a6⟩;subst e;simp only[ah,and_true]at hq;obtain⟨q1,q2⟩:=hq;simp only[q1,q2,nD];by_cases c0:x=y
 ·grind [Ik,ae,aa]
 rw[Zv (by omega),af];have gA:∀{K:D->Prop},au PP (.ld (.c (.ptr ng 0 2)) 1 false) h K=K (.ms nA 0 n):=λ {K}=>V.gw ig (j:=2) hg rfl
 have gi:∀{K:D->Prop}{z:Nat},node z->au PP (.iadd (.c (.ms nA 0 n)) (.c (.int .i64 (z:Int))) 1) h K=K (.ptr nA z 0):=λ {K z} hz=>by
  have hl:=(ar.1 (hat z hz)).1;rw[V.Bw iA hA (by omega) (by omega),aE]
 have gl:∀{K:D->Prop}{z:Nat},node z->au PP (.ld (.c (.ptr nA z 0)) 1 false) h K=K (.int .i64 (A z:Int)):=λ {K z} hz=>V.Fy iA hA (mD (hat z hz)) rfl
 have ui:∀{K:HKq}{z w:Nat},upF U z=some w->ab PP (.iadd (.c (.ms nU 0 n)) (.c (.int .i64 (z:Int))) 1) h K=K (.ptr nU z 0) h:=λ {K z w} hz=>by
  have hl:=(ar.1 (rV hz)).1;rw[V.ia iU hU (by omega) (by omega),aE]
 have ul:∀{K:HKq}{z w:Nat},upF U z=some w->ab PP (.ld (.c (.ptr nU z 0)) 1 false) h K=K (.int .i64 (w:Int)) h:=λ {K z w} hz=>V.yQ iU hU (mD (rV hz)) rfl
 have Z:∀{z:Nat},0<A z->upF U z≠none->∃u,upF U z=some u/\z≠r/\A u<A z/\upF U u≠none/\node u:=λ {z} b4 a7=>by
  cases hu:upF U z with
  | none=>exact absurd hu a7
  | some u =>
   have a1:z≠r:=by rintro rfl;omega
   have h2:=(T.nd z u hu).2;refine⟨u,rfl,a1,T.lt z u hu a1,h2,?_⟩
   cases hw:upF U u with
   | none=>exact absurd hw h2
   | some w=>exact(T.nd u w hw).1
 have b7:∀{z w d:Nat},A w<A z->Ch r (upF U) w d->d≠z:=λ a2 hc=>by
  rintro rfl;rcases hc.le T with e|h
  ·rw[e]at a2;omega
  ·omega
 simp only[↓V.lH ig hg,Nat.zero_add,gA,gi Q,gi I,gl Q,gl I];by_cases a2:A y<A x
 ·rw[Yt (by omega),af];obtain⟨u,hu,b1,b2,G,H⟩:=Z (by omega) hx;simp only[ui hu,ul hu,aa,true_and];refine⟨_,?_,u,y,rfl,rfl,G,hy,H,I,λ d=>(Iff.trans ?_ (a6 d))⟩
  ·omega
  ·constructor
   ·rintro⟨h1,h2⟩;exact⟨.step b1 hu h1,h2⟩
   ·rintro⟨h1,h2⟩;refine⟨?_,h2⟩
    cases h1 with
    | refl _=>grind
    | step _ b3 k=>grind
 ·have b5:A x<A y:=by
   grind
  rw[WZ (by omega),ae];obtain⟨u,hu,a8,b2,G,H⟩:=Z (by omega) hy;simp only[ui hu,ul hu,aa,true_and];refine⟨_,?_,x,u,rfl,rfl,hx,G,Q,H,λ d=>(Iff.trans ?_ (a6 d))⟩
  ·omega
  ·constructor
   ·rintro⟨h1,h2⟩;exact⟨h1,.step a8 hu h2⟩
   ·rintro⟨h1,h2⟩;refine⟨h1,?_⟩
    cases h2 with
    | refl _=>grind
    | step _ b3 k=>grind
end
end Go.Am
namespace Go.Am
open Go Go.Proofs
def HT (L:LSq) (v:D) (l:List Nat):Prop:=(v=.nil/\l=[])\/v=.sl (aR l)\/∃m,v=.ms m 0 l.length/\(m,.arr 1 (aR l))∈L
def LR (L:LSq) (v:D) (E:List (List Nat)):Prop:=v=.sl (E.map λ l=>.sl (aR l))\/∃(n:Nat) (els:List D),v=.ms n 0 E.length/\(n,.arr 1 els)∈L/\els.length=E.length/\∀(b:Nat) (e:D) (l:List Nat),els[b]?=some e->E[b]?=some l->e.one=true/\HT L e l
section
variable {h:Heap}{L L':LSq}{v:D}{l:List Nat}{E:List (List Nat)}{K:D->Prop}{KH:HKq}
theorem HT.mono (hs:∀x∈L,x∈L') (w:HT L v l):HT L' v l:=by
 rcases w with w|w|⟨m,e,hm⟩
 ·exact Or.inl w
 ·exact Or.inr (Or.inl w)
 ·exact Or.inr (Or.inr ⟨m,e,hs _ hm⟩)
theorem LR.mono (hs:∀x∈L,x∈L') (w:LR L v E):LR L' v E:=by
 rcases w with w|⟨n,els,e,hn,hl,G⟩
 ·exact Or.inl w
 ·exact Or.inr ⟨n,els,e,hs _ hn,hl,λ b e l h1 h2=>⟨(G b e l h1 h2).1,(G b e l h1 h2).2.mono hs⟩⟩
theorem Vs.mem (V:Vs h L){n:Nat}{s:Slot}(hm:(n,s)∈L):h n=s:=by
 obtain⟨i,hi⟩:=ba hm;exact V.get i n s hi
theorem HT.one (w:HT L v l):v.one=true/\v.cells=[v]:=by
 rcases w with⟨rfl,-⟩|rfl|⟨m,rfl,-⟩<;>exact⟨rfl,rfl⟩
theorem HT.len (V:Vs h L) (w:HT L v l):aM v h K=K (.int .i64 (l.length:Int)):=by
 rcases w with⟨rfl,rfl⟩|rfl|⟨m,rfl,hm⟩
 ·rfl
 ·exact po
 ·obtain⟨i,hi⟩:=ba hm;rw[bH,V.get i _ _ hi];apply propext;exact⟨λ H=>H.2,λ G=>⟨rfl,G⟩⟩
theorem HT.get (V:Vs h L) (w:HT L v l){i k:Nat}(hk:l[i]?=some k):ab PP (.iadd (.c v) (.c (.int .i64 (i:Int))) 1) h (λ a h1=>ab PP (.ld (.c a) 1 false) h1 KH)=KH (nD k) h:=by
 have hi:=(ar.1 hk).1;rcases w with⟨rfl,rfl⟩|rfl|⟨m,rfl,hm⟩
 ·simp at hk
 ·rw[iN (esz:=1) (d:=nD k) (by omega) (by rw[aE];exact fC hk) rfl,ni rfl]
 ·obtain⟨j,G⟩:=ba hm;rw[V.ia j G (by omega) (by omega),aE,V.yQ j G (fC hk) rfl]
theorem LR.len (V:Vs h L) (w:LR L v E):aM v h K=K (.int .i64 (E.length:Int)):=by
 rcases w with rfl|⟨n,els,rfl,hn,hl,-⟩
 ·rw[bD,aH]
 ·obtain⟨i,hi⟩:=ba hn;rw[bH,V.get i _ _ hi];apply propext;exact⟨λ H=>H.2,λ G=>⟨rfl,G⟩⟩
theorem LR.get (V:Vs h L) (w:LR L v E){b:Nat}{l:List Nat}(hb:E[b]?=some l) (hK:∀e,HT L e l->KH e h):ab PP (.iadd (.c v) (.c (nD b)) 1) h λ a h1=>ab PP (.ld (.c a) 1 false) h1 KH:=by
 have hi:=(ar.1 hb).1;rcases w with rfl|⟨n,els,rfl,hn,hl,H⟩
 ·rw[nD,iN (esz:=1) (d:=.sl (aR l)) (by omega) (by grind) rfl,ni rfl];exact hK _ (Or.inr (Or.inl rfl))
 ·obtain⟨j,G⟩:=ba hn;obtain⟨e,he⟩:∃e,els[b]?=some e:=⟨els[b]'(by omega),aq _⟩;obtain⟨h1,h2⟩:=H b e l he hb;rw[nD,V.ia j G (by omega) (by omega),aE,V.yQ j G he h1];exact hK e h2
end
structure Ri (E:List (List Nat)) (r:Nat) (O:List Nat) (at':List Int) (B:List (List Nat)):Prop where
 nd:O.Nodup
 hd:O[0]?=some r
 lt:∀x∈O,x<E.length
 xy:at'.length=E.length
 aat:∀(i x:Nat),O[i]?=some x->at'[x]?=some (i:Int)
 ano:∀x,x<E.length->x∉O->at'[x]?=some (-1)
 par:∀(i b:Nat),O[i]?=some b->i≠0->∃j p,j<i/\O[j]?=some p/\b∈(E[p]?).getD []
 cl:∀p b,p∈O->b∈(E[p]?).getD []->b∈O
 blen:B.length=E.length
 bmem:∀b p,p∈(B[b]?).getD []↔p∈O/\b∈(E[p]?).getD []
def yM (O:List Nat) (x:Nat):Nat:=O.idxOf x
theorem Ij {O:List Nat}{x:Nat}(h:x∈O):O[yM O x]?=some x:=by
 rw[ar];exact⟨List.idxOf_lt_length_of_mem h,List.getElem_idxOf _⟩
theorem A7 {O:List Nat}(nd:O.Nodup){i x:Nat}(h:O[i]?=some x):yM O x=i:=by
 grind [Ij,List.getElem?_inj]
section
variable {E:List (List Nat)}{r:Nat}{O:List Nat}{at':List Int}{B:List (List Nat)}
def preB (B:List (List Nat)) (b:Nat):List Nat:=(B[b]?).getD []
theorem Ri.dg (G:Ri E r O at' B):Dg r (preB B) (yM O) (· ∈ O):=by
 refine⟨ak G.hd,A7 G.nd G.hd,λ a b ha hb e=>?_,λ p b hp=>((G.bmem b p).1 hp).1,λ b hb H=>?_⟩
 ·grind [Ij]
 ·have hg:=Ij hb;have h0:yM O b≠0:=λ e=>by rw[e,G.hd]at hg;cases hg;exact H rfl
  obtain⟨j,p,Q,hp,I⟩:=G.par _ b hg h0;exact⟨p,(G.bmem b p).2 ⟨ak hp,I⟩,by rw[A7 G.nd hp];exact Q⟩
theorem Ri.at (G:Ri E r O at' B){x:Nat}(hx:x∈O):at'[x]?=some (yM O x:Int):=G.aat _ x (Ij hx)
def IA (O:List Nat) (U:List Int) (n:Nat):Nat:=(O.map λ x=>match upF U x with|some y=>yM O y|none=>n+1).sum
theorem Tg {α:Type}{f g:α->Nat}:∀{l:List α},(∀x∈l,g x<=f x)->(l.map g).sum<=(l.map f).sum
 | [],_=>Nat.le_refl _
 | a::l,h=>by
  have h1:=h a (by simp);have h2:=Tg (f:=f) (g:=g) (l:=l) λ x hx=>h x (by simp[hx])
  grind
theorem Tf {α:Type}{f g:α->Nat}:∀{l:List α},(∀x∈l,g x<=f x)->(∃x,x∈l/\g x<f x)->(l.map g).sum<(l.map f).sum
 | [],_,⟨x,hx,_⟩=>by cases hx
 | a::l,h,⟨x,hx,G⟩=>by
  have h1:=h a (by simp);have h2:=Tg (f:=f) (g:=g) (l:=l) λ x hx=>h x (by simp[hx])
  simp only[List.map_cons,List.sum_cons];rcases List.mem_cons.1 hx with rfl|hx
  ·omega
  ·have:=Tf (f:=f) (g:=g) (l:=l) (λ x hx=>h x (by simp[hx])) ⟨x,hx,G⟩;omega
end
end Go.Am
