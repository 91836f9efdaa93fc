/- What the functions of this chapter give, on plain data. No condition. -/
import Derived.Tactics
import Derived.Tactics2
import Derived.Defers
import Derived.Recover
import Derived.Laws.Pointers
import Derived.TacticsInMore
import Derived.RegionIn
import Derived.RecoverIn
import Derived.Test.YtemgkmgmnnaloaaT1
set_option linter.unnecessarySimpa false
set_option linter.defProp false
set_option linter.unusedSectionVars false
set_option linter.unusedSimpArgs false
set_option linter.unusedVariables false
namespace Go.Am
open Go
variable [bV]
variable {P:Program}{KH:HK}{K:D->Prop}{l:LH}
theorem IM {d:D}:aw d=(d.cells.all D.one=true):=by
 apply propext;exact(List.all_eq_true).symm
theorem kr {d:D}(hn:l.nf) (hd:d.cells.all D.one=true):ab P (.box (.c d)) l.h KH=KH (.ptr l.length 0 0) (LH.h (l++[.box d])):=by
 rw[TE hn,IM,hd];simp
end Go.Am
namespace Go.Am
open Go
variable [bV]
variable {P:Program}
structure MS where
 group:Int
 sub:Int
 regs:Int
 loops:List Loop
 blocks:List Block
def wM (bs:List Nat):D:=.sl (bs.map fun(b:Nat)=>.int .u8 (b:Int))
def cY (bs:List Nat) (k:Nat) (arrs:D) (s:MS) (vL vB:D):D :=
 .agg [wM bs,.int .i64 (k:Int),.int .i64 s.group,.int .i64 s.sub,.int .i64 s.regs,.int .i64 0,.int .i64 3,arrs,vL,vB]
def cf (vs:List D) (bs:List Block):List D:=List.zipWith (fun v b=>D.agg (v::b.t.cs)) vs bs
def bN (l:List D):List Nat:=l.flatMap D.jA
structure Rows (h:Heap) (loops:List Loop) (blocks:List Block) (vL vB:D) (vs:List D):Prop where
 oL:Own 3 h vL (loops.map Loop.e)
 oB:Own 14 h vB (cf vs blocks)
 len:vs.length=blocks.length
 oI:∀(k:Nat) (v:D) (b:Block),vs[k]?=some v->blocks[k]?=some b->Own 15 h v (b.i.map aN.e)
 nd:(bN (vL::vB::vs)).Nodup
structure aV (h:Heap) (n k:Nat) (arrs:D) (s:MS):Prop where
 st:∃(bs:List Nat) (j:Nat) (vL vB:D) (vs:List D),(∀b∈bs,b<=255)/\bs.length<=9223372036854775807/\j<=k/\h n=.box (cY bs j arrs s vL vB)/\Rows h s.loops s.blocks vL vB vs
def aJ (n:Nat) (h h':Heap):Prop:=∀m d,m≠n->h m=.box d->h' m=.box d
theorem aJ.rfl {n:Nat}{h:Heap}:aJ n h h:=fun _ _ _ h=>h
theorem aJ.trans {n:Nat}{a b c:Heap}(h:aJ n a b) (k:aJ n b c):aJ n a c:=fun m d hm hd=>k m d hm (h m d hm hd)
theorem aJ.self {n:Nat}{h:Heap}{s:Slot}:aJ n h (ah h n s):=fun m d hm hd=>by rw[aa _ _ hm];exact hd
theorem aJ.new {n m:Nat}{h:Heap}{s:Slot}(hm:h m=.free):aJ n h (ah h m s):=fun k d _ hd=>by
 rw[aa _ _ (by rintro rfl;rw[hm]at hd;cases hd)];exact hd
theorem dD {esz:Nat}{h h':Heap}{v:D}{els:List D}(ho:Own esz h v els) (hk:∀k∈v.jA,h' k=h k):Own esz h' v els:=by
 rcases ho with ho|⟨q,rfl,hq⟩
 ·exact Or.inl ho
 ·exact Or.inr ⟨q,rfl,by rw[hk q (by simp[D.jA])];exact hq⟩
theorem oH {esz:Nat}{h:Heap}{v:D}{els:List D}(ho:Own esz h v els){k:Nat}(hk:k∈v.jA):h k=.arr esz els:=by
 rcases ho with⟨rfl,-⟩|⟨q,rfl,hq⟩
 ·simp[D.jA]at hk
 ·simp[D.jA]at hk;subst hk;exact hq
theorem Rows.congr {h h':Heap}{loops:List Loop}{blocks:List Block}{vL vB:D}{vs:List D}(r:Rows h loops blocks vL vB vs) (hk:∀k,k∈bN (vL::vB::vs)->h' k=h k):Rows h' loops blocks vL vB vs:=by
 have mem:∀v,v∈vL::vB::vs->∀k∈v.jA,k∈bN (vL::vB::vs):=fun v hv k hkv=>List.mem_flatMap.2 ⟨v,hv,hkv⟩
 refine⟨dD r.oL fun k q=>hk k (mem _ (by simp) k q),dD r.oB fun k q=>hk k (mem _ (by simp) k q),r.len,fun k v b hv hb=>dD (r.oI k v b hv hb) fun j q=>hk j (mem v ?_ j q),r.nd⟩
 have:=List.mem_of_getElem? hv
 simp[this]
theorem Rows.arr {h:Heap}{loops:List Loop}{blocks:List Block}{vL vB:D}{vs:List D}(r:Rows h loops blocks vL vB vs){k:Nat}(hk:k∈bN (vL::vB::vs)):∃e l,h k=.arr e l:=by
 obtain⟨v,hv,hkv⟩:=List.mem_flatMap.1 hk
 rcases List.mem_cons.1 hv with rfl|hv
 ·exact⟨_,_,oH r.oL hkv⟩
 rcases List.mem_cons.1 hv with rfl|hv
 ·exact⟨_,_,oH r.oB hkv⟩
 obtain⟨i,hi⟩:=List.getElem?_of_mem hv
 obtain⟨b,hb⟩:∃b,blocks[i]?=some b:=by
  have:=(List.getElem?_eq_some_iff.1 hi).1
  exact⟨blocks[i]'(by rw[<- r.len];exact this),List.getElem?_eq_getElem _⟩
 exact⟨_,_,oH (r.oI i v b hi hb) hkv⟩
theorem Rows.box {h:Heap}{loops:List Loop}{blocks:List Block}{vL vB:D}{vs:List D}(r:Rows h loops blocks vL vB vs){n:Nat}{d:D}(hn:h n=.box d) (s:Slot):Rows (ah h n s) loops blocks vL vB vs :=
 r.congr fun k hk=>by
  obtain⟨e,l,hkl⟩:=r.arr hk
  rw[aa _ _ (by rintro rfl;rw[hn]at hkl;cases hkl)]
theorem Rows.free {h:Heap}{loops:List Loop}{blocks:List Block}{vL vB:D}{vs:List D}(r:Rows h loops blocks vL vB vs){n:Nat}(hn:h n=.free) (s:Slot):Rows (ah h n s) loops blocks vL vB vs :=
 r.congr fun k hk=>by
  obtain⟨e,l,hkl⟩:=r.arr hk
  rw[aa _ _ (by rintro rfl;rw[hn]at hkl;cases hkl)]
theorem aV.new {h:Heap}{n k:Nat}{arrs:D}{s:MS}(r:aV h n k arrs s){m:Nat}(hm:h m=.free) (x:Slot):aV (ah h m x) n k arrs s/\m≠n:=by
 obtain⟨bs,j,vL,vB,vs,h1,h2,h3,h4,h5⟩:=r.st
 have hne:n≠m:=by rintro rfl;rw[h4]at hm;cases hm
 exact⟨⟨bs,j,vL,vB,vs,h1,h2,h3,by rw[aa _ _ hne];exact h4,h5.free hm x⟩,hne.symm⟩
theorem aV.av {h:Heap}{n k:Nat}{arrs:D}{s:MS}(r:aV h n k arrs s){m:Nat}{d:D}(hm:h m=.box d) (hne:m≠n) (x:Slot):aV (ah h m x) n k arrs s:=by
 obtain⟨bs,j,vL,vB,vs,h1,h2,h3,h4,h5⟩:=r.st
 exact⟨bs,j,vL,vB,vs,h1,h2,h3,by rw[aa _ _ hne.symm];exact h4,h5.box hm x⟩
theorem aV.le {h:Heap}{n k k':Nat}{arrs:D}{s:MS}(r:aV h n k arrs s) (hk:k<=k'):aV h n k' arrs s:=by
 obtain⟨bs,j,vL,vB,vs,h1,h2,h3,h4,h5⟩:=r.st
 exact⟨bs,j,vL,vB,vs,h1,h2,by omega,h4,h5⟩
theorem Sr {KH:HK}{h:Heap}{esz bytes:Nat}{z s d:D}{els:List D}(ho:Own esz h s els) (hd:aw d) (hc:d.cells.length=esz) (hb:(els.length+1)*bytes<=140737488355328) (hl:els.length+1<=9223372036854775807)
  (hk:∀m h',h m=.free->h' m=.arr esz (els++[d])->(∀k,k≠m->k∉s.jA->h' k=h k)->KH (.ms m 0 (els.length+1)) h'):ab P (.app (.c s) (.c (.sl [d])) esz bytes z) h KH:=by
 refine⟨fun e he=>by simp at he;subst he;exact hc,fun y hy=>by simp at hy;subst hy;exact hd,?_⟩
 rcases ho with⟨rfl,rfl⟩|⟨m,rfl,hm⟩
 ·exact⟨⟨by simpa using hb,by simp⟩,fun n t=>hk n _ t.free (ad _ _ _) fun k hk _=>aa _ _ hk⟩
 ·refine⟨els,hm,rfl,rfl,⟨by simpa using hb,by simpa using hl⟩,fun n t=>hk n _ t.free (ad _ _ _) fun k hkf hne=>?_⟩
  have h2:k≠m:=by rintro rfl;exact hne (by simp[D.jA])
  rw[aa _ _ hkf,aa _ _ h2]
theorem NP {KH:HK}{h:Heap}{esz bytes:Nat}{z z' s d:D}{els:List D}(ho:Own esz h s els) (hd:wE d) (hc:d.cells.length=esz) (hb:(els.length+1)*bytes<=140737488355328) (hl:els.length+1<=9223372036854775807)
  (hk:∀m h',h m=.free->h' m=.arr esz (els++[d])->(∀k,k≠m->k∉s.jA->h k≠.free->h' k=h k)->KH (.ms m 0 (els.length+1)) h') :
  ab P (.bldS true esz 1 z [(0,.c d)]) h fun x h1=>ab P (.app (.c s) (.c x) esz bytes z') h1 KH:=by
 refine NO hd.vd hd.one hc fun n5 t=>?_
 have hx:((ah h n5 (.arr esz [d])) n5).row=some (esz,[d]):=by rw[ad];rfl
 refine⟨[d],hx,by simp,?_⟩
 simp only[List.drop_zero,List.take_succ_cons,List.take_zero]
 refine⟨fun y hy=>by simp at hy;subst hy;exact hd.one,?_⟩
 have gQ:∀n,nT (ah h n5 (.arr esz [d])) n->h n=.free/\n≠n5:=by
  intro n tn
  have:=tn.free
  by_cases he:n=n5
  ·subst he;rw[ad]at this;cases this
  ·rw[aa _ _ he]at this;exact⟨this,he⟩
 rcases ho with⟨rfl,rfl⟩|⟨m,rfl,hm⟩
 ·refine⟨⟨by simpa using hb,by simp⟩,fun n tn=>?_⟩
  obtain⟨f1,f2⟩:=gQ n tn
  exact hk n _ f1 (ad _ _ _) fun k hk _ hkf=>by rw[aa _ _ hk,aa _ _ (t.ne hkf)]
 ·have hmn:m≠n5:=t.ne (by rw[hm];simp)
  refine⟨els,by rw[aa _ _ hmn];exact hm,rfl,rfl,⟨by simpa using hb,by simpa using hl⟩,fun n tn=>?_⟩
  obtain⟨f1,f2⟩:=gQ n tn
  refine hk n _ f1 (ad _ _ _) fun k hkf hne hkk=>?_
  have h2:k≠m:=by rintro rfl;exact hne (by simp[D.jA])
  rw[aa _ _ hkf,aa _ _ h2,aa _ _ (t.ne hkk)]
end Go.Am
namespace Go.Am
open Go
theorem ue {n:Int}:aF PP dw [.int .i64 n] (· = (fX n).e):=by
 refine bg Fq (aA _ _ _) rfl (E8 _ _) ?_
 (unfold Bv;try dsimp only[xL,yL,xF,yF,xI,yI,xS,zI,zJ])
 rw[cX]
 simp[ic,ku,h_stp,h_ldp,kS,xA,DU,fF,fillD,cn]
 exact iG (dX.bZ ⟨2,n,0⟩) rfl
theorem th {v:Int}:aF PP eK [.int .i32 v] (· = (Const v).e):=by
 refine bg AT (aA _ _ _) rfl (AD _ _) ?_
 (unfold uj;try dsimp only[xL,yL,xF,yF,xI,yI,xS,zI,zJ])
 rw[cX]
 simp[ic,ku,h_stp,h_ldp,kS,xA,DU,fF,fillD,cn]
 exact iG (dX.bZ ⟨1,0,v⟩) rfl
theorem O7 {bs:List Nat}{k:Nat}{d:D}(h:(bs.map fun(b:Nat)=>D.int .u8 (b:Int))[k]?=some d):∃b,b∈bs/\d=.int .u8 b:=by
 simp only[List.getElem?_map,Option.map_eq_some_iff]at h
 obtain⟨b,hb,rfl⟩:=h
 exact⟨b,List.mem_of_getElem? hb,rfl⟩
theorem Hh {h:Heap}{n j:Nat}{bs:List Nat}{rest:List D}(hn:h n=.box (.agg (wM bs::.int .i64 (j:Int)::rest))) (hb:∀b∈bs,b<=255) (hl:bs.length<=9223372036854775807) (hj:j<4611686018427387904){KH:HK}
  (hK:∀b:Nat,b<=255->KH (.int .i64 (b:Int)) (ah h n (.box (.agg (wM bs::.int .i64 ((j+1:Nat):Int)::rest))))):ag PP ak [.ptr n 0 0] h KH:=by
 refine aW qC (aA _ _ _) rfl (qv _ _) ?_
 (unfold lI;try dsimp only[xL,yL,xF,yF,xI,yI,xS,zI,zJ])
 have w1:IntKind.i64.wrap ((j:Int)+1)=((j+1:Nat):Int):=by rw[wrap64 (by omega) (by omega)];rfl
 simp only[↓rG,hn,Slot.live,Slot.used,true_and,↓jE,↓bk,ca,Nat.zero_add,List.getElem?_cons_succ,List.getElem?_cons_zero,↓bp,w1,↓dq]
 refine⟨rfl,by simp,by simp,?_⟩
 have hset:setCells (D.agg (wM bs::.int .i64 (j:Int)::rest)) 1 (D.int .i64 ((j+1:Nat):Int)).cells=.agg (wM bs::.int .i64 ((j+1:Nat):Int)::rest):=by simp[setCells]
 rw[hset]
 obtain⟨hA,eA⟩:∃hA,hA=ah h n (.box (.agg (wM bs::.int .i64 ((j+1:Nat):Int)::rest))):=⟨_,rfl⟩
 rw[<- eA]at hK ⊢
 have a1:hA n=.box (.agg (wM bs::.int .i64 ((j+1:Nat):Int)::rest)):=by rw[eA,ad]
 have e1:(∃v,hA n=.box v)=True:=eq_true ⟨_,a1⟩
 simp only[↓aE,a1,Slot.used,true_and,↓bL,↓jE,a1,↓bk,ca,Nat.zero_add,List.getElem?_cons_succ,List.getElem?_cons_zero,wM,↓jf,List.length_map,↓qK]
 by_cases hc:bs.length<j+1
 ·have hc':(bs.length:Int)<((j+1:Nat):Int):=by omega
  simp only[hc',decide_true,af]
  exact hK 0 (by omega)
 ·have hc':¬(bs.length:Int)<((j+1:Nat):Int):=by omega
  have w2:IntKind.i64.wrap (((j+1:Nat):Int)-1)=(j:Int):=by rw[wrap64 (by omega) (by omega)];omega
  simp only[hc',decide_false,ae,↓gO,w2,↓fh,↓im,List.length_map]
  refine⟨by omega,by omega,fun d hd=>?_⟩
  obtain⟨b,hbm,rfl⟩:=O7 hd
  have hb2:=hb b hbm
  have w3:IntKind.i64.wrap (b:Int)=(b:Int):=wrap64 (by omega) (by omega)
  simp only[nD,List.length_singleton,true_and,↓bL,↓gY,↓bk,List.getElem?_cons_zero,↓pj,↓cu,w3]
  exact hK b hb2
theorem eO {h:Heap}{n k:Nat}{arrs:D}{s:MS}(r:aV h n k arrs s) (hk:k<1000000){KH:HK}(hK:∀(b:Nat) (h':Heap),b<=255->aV h' n (k+1) arrs s->aJ n h h'->KH (.int .i64 (b:Int)) h') :
  ag PP ak [.ptr n 0 0] h KH:=by
 obtain⟨bs,j,vL,vB,vs,h1,h2,h3,h4,h5⟩:=r.st
 refine Hh h4 h1 h2 (by omega) fun b hb=>hK b _ hb ⟨bs,j+1,vL,vB,vs,h1,h2,by omega,ad _ _ _,h5.box h4 _⟩ aJ.self
theorem bq (a b:Nat):((a:Int).tmod (b:Int))=((a % b:Nat):Int):=(Int.ofNat_tmod a b).symm
theorem Bo {h:Heap}{n k:Nat}{arrs:D}{s:MS}(r:aV h n k arrs s) (hk:k<1000000){KH:HK}(hK:∀(b:Nat) (h':Heap),b<6->aV h' n (k+1) arrs s->aJ n h h'->KH (fX (b:Int)).e h') :
  ag PP aZ [.ptr n 0 0] h KH:=by
 refine aW jS (aA _ _ _) rfl (jK _ _) ?_
 (unfold iY;try dsimp only[xL,yL,xF,yF,xI,yI,xS,zI,zJ])
 rw[bQ]
 intro m t
 obtain⟨r1,hne⟩:=r.new t.free (.box (.agg [(.int .i64 0),(.int .i64 0),(.int .i32 0)]))
 refine eO r1 hk fun b h' hb r2 hkeep=>?_
 have hm:=hkeep m _ hne (ad _ _ _)
 have e6:((b:Int).tmod 6)=((b % 6:Nat):Int):=bq b 6
 rw[bJ]
 refine⟨by omega,?_⟩
 rw[e6]
 refine bc ue ⟨bf,trivial⟩ ?_
 simp only[↓dq,hm]
 refine⟨by first|rfl|trivial,(dX.bZ _).one,by first|rfl|trivial,by simp,?_⟩
 have hset:setCells (.agg [(.int .i64 0),(.int .i64 0),(.int .i32 0)]) 0 (fX ((b % 6:Nat):Int)).e.cells=(fX ((b % 6:Nat):Int)).e:=rfl
 rw[hset]
 simp only[↓jE,ad,true_and]
 refine⟨by simp[dX.e,dX.cs],?_⟩
 refine hK (b % 6) _ (Nat.mod_lt _ (by omega)) (r2.av hm hne _) fun q d hq hd=>?_
 have hqm:q≠m:=by rintro rfl;rw[t.free]at hd;cases hd
 rw[aa _ _ hqm]
 exact hkeep q d hq (by rw[aa _ _ hqm];exact hd)
def Br (o:dX):Prop:=(∃b:Nat,b<6/\o=fX b)\/∃v:Int,-20<=v/\v<=65/\o=Const v
theorem ud {h:Heap}{n k:Nat}{arrs:D}{s:MS}(r:aV h n k arrs s) (hk:k<1000000){KH:HK}(hK:∀(o:dX) (h':Heap),Br o->aV h' n (k+1) arrs s->aJ n h h'->KH o.e h') :
  ag PP aY [.ptr n 0 0] h KH:=by
 refine aW jQ (aA _ _ _) rfl (jI _ _) ?_
 (unfold iX;try dsimp only[xL,yL,xF,yF,xI,yI,xS,zI,zJ])
 rw[bQ]
 intro m t
 obtain⟨r1,hne⟩:=r.new t.free (.box (.agg [(.int .i64 0),(.int .i64 0),(.int .i32 0)]))
 refine eO r1 hk fun b h' hb r2 hkeep=>?_
 have hm:=hkeep m _ hne (ad _ _ _)
 have fin:∀o:dX,Br o->ab PP (.st (.c (.ptr m 0 0)) (.c o.e) 3) h' fun _ h1=>ab PP (.ld (.c (.ptr m 0 0)) 3 true) h1 fun a _=>KH a h1:=by
  intro o ho
  simp only[↓dq,hm]
  refine⟨by first|rfl|trivial,(dX.bZ _).one,by first|rfl|trivial,by simp[dX.e,dX.cs],?_⟩
  have hset:setCells (.agg [(.int .i64 0),(.int .i64 0),(.int .i32 0)]) 0 o.e.cells=o.e:=rfl
  rw[hset]
  simp only[↓jE,ad,true_and]
  refine⟨by simp[dX.e,dX.cs],?_⟩
  refine hK o _ ho (r2.av hm hne _) fun q d hq hd=>?_
  have hqm:q≠m:=by rintro rfl;rw[t.free]at hd;cases hd
  rw[aa _ _ hqm]
  exact hkeep q d hq (by rw[aa _ _ hqm];exact hd)
 have e3:((b:Int).tmod 3)=((b % 3:Nat):Int):=bq b 3
 have d3:IntKind.i64.wrap ((b:Int).tdiv 3)=((b / 3:Nat):Int):=by
  have:((b:Int).tdiv 3)=((b / 3:Nat):Int):=(Int.ofNat_tdiv b 3).symm
  rw[this];exact wrap64 (by omega) (by omega)
 rw[bJ]
 refine⟨by omega,?_⟩
 rw[e3,aM]
 by_cases hc:b % 3=0
 ·have hc':((b % 3:Nat):Int)=0:=by omega
  simp only[hc',decide_true,af,↓kn]
  refine⟨by omega,?_⟩
  have w:IntKind.i32.wrap ((b / 3:Nat):Int)=((b / 3:Nat):Int):=by simp only[IntKind.wrap,IntKind.signed,IntKind.bits];simp;omega
  have w2:IntKind.i32.wrap (((b / 3:Nat):Int)-20)=((b / 3:Nat):Int)-20:=by simp only[IntKind.wrap,IntKind.signed,IntKind.bits];simp;omega
  rw[d3,cu,w,gO,w2]
  refine bc th ⟨bf,trivial⟩ ?_
  exact fin _ (Or.inr ⟨_,by omega,by omega,rfl⟩)
 ·have hc':¬((b % 3:Nat):Int)=0:=by omega
  simp only[hc',decide_false,ae,↓kn]
  refine⟨by omega,?_⟩
  rw[d3,bJ]
  refine⟨by omega,?_⟩
  have e6:(((b / 3:Nat):Int).tmod 6)=((b / 3 % 6:Nat):Int):=bq (b / 3) 6
  rw[e6]
  refine bc ue ⟨bf,trivial⟩ ?_
  exact fin _ (Or.inl ⟨b / 3 % 6,Nat.mod_lt _ (by omega),rfl⟩)
theorem iB {vs:List D}{bs:List Block}(h:vs.length=bs.length):(cf vs bs).length=bs.length:=by simp[cf,h]
theorem LF {vs:List D}{bs:List Block}(h:vs.length=bs.length) (v:D) (b:Block):cf (vs++[v]) (bs++[b])=cf vs bs++[.agg (v::b.t.cs)]:=by
 simp[cf,List.zipWith_append h]
theorem Au {vs:List D}{bs:List Block}{k:Nat}{v:D}{b:Block}(h1:vs[k]?=some v) (h2:bs[k]?=some b):(cf vs bs)[k]?=some (.agg (v::b.t.cs)):=by
 simp[cf,List.getElem?_zipWith,h1,h2]
theorem Gr {vs:List D}{bs:List Block}(h:vs.length=bs.length){k:Nat}(hk:k<bs.length) (v:D) (b:Block):(cf vs bs).set k (.agg (v::b.t.cs))=cf (vs.set k v) (bs.set k b):=by
 refine List.ext_getElem? fun i=>?_
 simp only[cf,List.getElem?_set,List.length_zipWith,List.getElem?_zipWith,h,Nat.min_self]
 by_cases hi:k=i
 ·subst hi;simp[hk]
 ·simp[hi]
theorem xb {esz:Nat}{h:Heap}{v:D}{els:List D}(ho:Own esz h v els) (hne:els≠[]):∃n,v=.ms n 0 els.length/\h n=.arr esz els:=by
 rcases ho with⟨-,h2⟩|h
 ·exact absurd h2 hne
 ·exact h
theorem PN:(D.agg (.nil::iO.cs))=.agg [.nil,.int .i64 0,.int .i64 0,.int .i64 0,.int .i64 0,.int .i32 0,.int .i64 0,.int .i64 0,.int .i32 0,.int .i64 0,.int .i64 0,.int .i32 0,.int .i64 0,.int .i64 0]:=rfl
theorem bn {d:D}{l:List D}:bN (d::l)=d.jA++bN l:=by simp[bN]
theorem oK {l l':List D}:bN (l++l')=bN l++bN l':=by simp[bN]
theorem kL {d:D}{l:List D}(h:d∈l){k:Nat}(hk:k∈d.jA):k∈bN l:=List.mem_flatMap.2 ⟨d,h,hk⟩
theorem Qn {h:Heap}{n k:Nat}{arrs:D}{s:MS}(r:aV h n k arrs s) (hlen:s.blocks.length<1000){KH:HK}
  (hK:∀h':Heap,aV h' n k arrs { s with blocks:=s.blocks++[⟨[],iO⟩] }->aJ n h h'->KH (.tup []) h'):ag PP bm [.ptr n 0 0] h KH:=by
 refine aW pI (aA _ _ _) rfl (pD _ _) ?_
 (unfold kA;try dsimp only[xL,yL,xF,yF,xI,yI,xS,zI,zJ])
 obtain⟨bs,j,vL,vB,vs,h1,h2,h3,h4,h5⟩:=r.st
 simp only[↓rG,h4,Slot.live,Slot.used,true_and,↓jE,cY,↓bk,ca,Nat.zero_add,Nat.reduceAdd,List.getElem?_cons_succ,List.getElem?_cons_zero,↓ku]
 refine⟨by intro p hp;simp at hp,?_⟩
 have hel:=iB h5.len
 simp only[List.map_nil,fillD]
 have hd:wE (D.agg (.nil::iO.cs)):=cT (by simp[Term.cs,iO])
 rw[<- PN]
 refine NP h5.oB hd rfl (by rw[hel];omega) (by rw[hel];omega) fun m h' f1 f2 f3=>?_
 have hnm:n≠m:=by rintro rfl;rw[h4]at f1;cases f1
 have hnB:n∉vB.jA:=fun hm=>by have:=oH h5.oB hm;rw[h4]at this;cases this
 have h4':h' n=h n:=f3 n hnm hnB (by rw[h4];simp)
 simp only[↓rG,h4',h4,Slot.live,Slot.used,true_and,cY,Nat.zero_add,Nat.reduceAdd,↓dq]
 refine⟨rfl,by simp,by simp,?_⟩
 refine hK _ ⟨bs,j,vL,.ms m 0 ((cf vs s.blocks).length+1),vs++[.nil],h1,h2,h3,?_,?_⟩ fun q d hq hd=>?_
 ·rw[ad];simp[setCells,cY]
 ·
  have hnew:∀k',k'∈bN (vL::vB::vs)->h k'≠.free:=fun k' hk'=>by obtain⟨e,l,hkl⟩:=h5.arr hk';rw[hkl];simp
  have hmn:m∉bN (vL::vB::vs):=fun hm=>hnew m hm f1
  have hnd:=h5.nd
  rw[bn,bn]at hnd hmn
  simp only[List.mem_append,not_or]at hmn
  have same:∀k',k'∈bN (vL::vs)->(ah h' n (.box (setCells (.agg [wM bs,.int .i64 (j:Int),.int .i64 s.group,.int .i64 s.sub,.int .i64 s.regs,.int .i64 0,.int .i64 3,arrs,vL,vB]) 9 (D.ms m 0 ((cf vs s.blocks).length+1)).cells))) k'=h k':=by
   intro k' hk'
   rw[bn,List.mem_append]at hk'
   have hkk:k'∈bN (vL::vB::vs):=by rw[bn,bn];simp only[List.mem_append];rcases hk' with h|h<;>simp[h]
   have e1:k'≠n:=by
    rintro rfl
    obtain⟨e,l,hkl⟩:=h5.arr hkk
    rw[h4]at hkl;cases hkl
   have e2:k'≠m:=by
    rintro rfl
    rcases hk' with h|h
    ·exact hmn.1 h
    ·exact hmn.2.2 h
   have e3:k'∉vB.jA:=by
    intro hB
    rcases hk' with h|h
    ·exact(List.nodup_append.1 hnd).2.2 k' h k' (by simp[hB]) rfl
    ·exact(List.nodup_append.1 (List.nodup_append.1 hnd).2.1).2.2 k' hB k' h rfl
   rw[aa _ _ e1]
   exact f3 k' e2 e3 (hnew k' hkk)
  have oB':Own 14 h' (.ms m 0 ((cf vs s.blocks).length+1)) (cf (vs++[.nil]) (s.blocks++[⟨[],iO⟩])):=by
   rw[LF h5.len]
   exact Or.inr ⟨m,by simp,f2⟩
  refine⟨dD h5.oL fun k' q=>same k' (kL (by simp) q),dD oB' fun k' q=>?_,by simp[h5.len],fun i v b hv hb=>?_,?_⟩
  ·simp only[D.jA,List.mem_singleton]at q
   subst q
   exact aa _ _ hnm.symm
  ·rcases Nat.lt_or_ge i vs.length with hi|hi
   ·rw[List.getElem?_append_left hi]at hv
    rw[List.getElem?_append_left (by rw[<- h5.len];exact hi)]at hb
    refine dD (h5.oI i v b hv hb) fun k' q=>same k' (kL ?_ q)
    have:=List.mem_of_getElem? hv
    simp[this]
   ·rw[List.getElem?_append_right hi]at hv
    rw[List.getElem?_append_right (by rw[<- h5.len];exact hi)]at hb
    have hz:i-vs.length=0:=by
     have:=(List.getElem?_eq_some_iff.1 hv).1
     simp at this;omega
    rw[<- h5.len,hz]at hb
    rw[hz]at hv
    simp at hv hb
    subst hv hb
    exact Or.inl ⟨rfl,rfl⟩
  ·rw[bn,bn,oK]
   simp only[D.jA,bN,List.flatMap_cons,List.flatMap_nil,List.append_nil,List.singleton_append]
   have hndL:=(List.nodup_append.1 hnd).1
   have hndR:=(List.nodup_append.1 (List.nodup_append.1 hnd).2.1).2.1
   have hnLR:∀a∈vL.jA,∀b,b∈bN vs->a≠b:=fun a ha b hb=>(List.nodup_append.1 hnd).2.2 a ha b (by simp[hb])
   refine List.nodup_append.2 ⟨hndL,List.nodup_cons.2 ⟨hmn.2.2,hndR⟩,fun a ha b hb=>?_⟩
   rcases List.mem_cons.1 hb with rfl|hb
   ·rintro rfl;exact hmn.1 ha
   ·exact hnLR a ha b hb
 ·rw[aa _ _ hq]
  have e2:q≠m:=by rintro rfl;rw[hd]at f1;cases f1
  have e3:q∉vB.jA:=fun hm=>by have:=oH h5.oB hm;rw[hd]at this;cases this
  rw[f3 q e2 e3 (by rw[hd];simp)];exact hd
def FO (bs:List Block) (i:Nat) (t:Term):List Block:=bs.modify i fun b=>{ b with t:=t }
def CI (bs:List Block) (i:Nat) (x:aN):List Block:=bs.modify i fun b=>{ b with i:=b.i++[x] }
theorem oU {α:Type}{l:List α}{i:Nat}{a:α}{f:α->α}(h:l[i]?=some a):l.modify i f=l.set i (f a):=by
 refine List.ext_getElem? fun k=>?_
 rw[List.getElem?_modify,List.getElem?_set]
 by_cases e:i=k
 ·subst e
  have:=(List.getElem?_eq_some_iff.1 h).1
  have e2:=(List.getElem?_eq_some_iff.1 h).2
  simp[this,e2]
 ·simp[e]
theorem Eg {bs:List Block}{i:Nat}{t:Term}:(FO bs i t).length=bs.length:=by simp[FO]
theorem IP {bs:List Block}{i:Nat}{t:aN}:(CI bs i t).length=bs.length:=by simp[CI]
theorem aV.some {h:Heap}{n k:Nat}{arrs:D}{s:MS}(r:aV h n k arrs s) (hne:s.blocks≠[]):∃(bs:List Nat) (j:Nat) (vL:D) (nb:Nat) (vs:List D),(∀b∈bs,b<=255)/\bs.length<=9223372036854775807/\j<=k /\
  h n=.box (cY bs j arrs s vL (.ms nb 0 s.blocks.length))/\h nb=.arr 14 (cf vs s.blocks)/\Rows h s.loops s.blocks vL (.ms nb 0 s.blocks.length) vs:=by
 obtain⟨bs,j,vL,vB,vs,h1,h2,h3,h4,h5⟩:=r.st
 have hel:=iB h5.len
 obtain⟨nb,e1,e2⟩:=xb h5.oB (by
  intro he
  have:=congrArg List.length he
  rw[hel]at this
  exact hne (List.length_eq_zero_iff.1 this))
 rw[hel]at e1
 subst e1
 exact⟨bs,j,vL,nb,vs,h1,h2,h3,h4,e2,h5⟩
theorem Rows.Td {h:Heap}{loops:List Loop}{blocks blocks':List Block}{vL:D}{nb:Nat}{vs vs':List D}(r:Rows h loops blocks vL (.ms nb 0 blocks.length) vs) (hl:blocks'.length=blocks.length) (hv:vs'.length=blocks'.length){h':Heap}
  (hkeep:∀k,k∈bN (vL::vs)->k∈bN (vL::vs')->h' k=h k) (hnb:h' nb=.arr 14 (cf vs' blocks')) (hL:∀k∈vL.jA,h' k=h k)
  (hI:∀(k:Nat) (v:D) (b:Block),vs'[k]?=some v->blocks'[k]?=some b->Own 15 h' v (b.i.map aN.e)) (hnd:(bN (vL::D.ms nb 0 blocks.length::vs')).Nodup):Rows h' loops blocks' vL (.ms nb 0 blocks'.length) vs':=by
 refine⟨dD r.oL hL,Or.inr ⟨nb,by rw[iB hv],hnb⟩,hv,hI,?_⟩
 rw[hl];exact hnd
theorem Rows.fresh {h:Heap}{loops:List Loop}{blocks:List Block}{vL vB:D}{vs:List D}(r:Rows h loops blocks vL vB vs){m:Nat}(hm:h m=.free):m∉bN (vL::vB::vs):=fun hk=>by
 obtain⟨e,l,hkl⟩:=r.arr hk
 rw[hm]at hkl;cases hkl
theorem xd {vL:D}{nb l:Nat}{vs:List D}(h:(bN (vL::D.ms nb 0 l::vs)).Nodup):nb∉bN (vL::vs)/\(bN (vL::vs)).Nodup:=by
 rw[bn,bn]at h
 rw[bn]
 simp only[D.jA]at h
 have h1:=List.nodup_append.1 h
 have h2:=List.nodup_cons.1 (show(nb::bN vs).Nodup from h1.2.1)
 refine⟨fun hm=>?_,List.nodup_append.2 ⟨h1.1,h2.2,fun a ha b hb=>h1.2.2 a ha b (by simp[hb])⟩⟩
 rcases List.mem_append.1 hm with hm|hm
 ·exact h1.2.2 nb hm nb (by simp) rfl
 ·exact h2.1 hm
theorem PR {h:Heap}{n k i:Nat}{arrs:D}{s:MS}{t:Term}{bs:List Nat}{j nb:Nat}{vL:D}{vs:List D}(h1:∀b∈bs,b<=255) (h2:bs.length<=9223372036854775807) (h3:j<=k) (h4:h n=.box (cY bs j arrs s vL (.ms nb 0 s.blocks.length)))
  (h5:h nb=.arr 14 (cf vs s.blocks)) (h6:Rows h s.loops s.blocks vL (.ms nb 0 s.blocks.length) vs) (hi:i<s.blocks.length) {KH:HK}
  (hK:∀h',aV h' n k arrs { s with blocks:=FO s.blocks i t }->aJ n h h'->KH .undef h'):ab PP (.st (.c (.ptr nb i 1)) (.c t.e) 13) h KH:=by
 have hel:=iB h6.len
 obtain⟨v,hv⟩:∃v,vs[i]?=some v:=⟨vs[i]'(by rw[h6.len];exact hi),List.getElem?_eq_getElem _⟩
 obtain⟨b,hb⟩:∃b,s.blocks[i]?=some b:=⟨s.blocks[i],List.getElem?_eq_getElem _⟩
 have hget:=Au hv hb
 rw[dq]
 simp only[h5,hget,Option.some.injEq,forall_eq']
 refine⟨rfl,(Term.bZ t).one,by rw[hel];exact hi,by simp[Term.e,Term.cs],?_⟩
 have hset:setCells (.agg (v::b.t.cs)) 1 t.e.cells=.agg (v::t.cs):=by simp[setCells,Term.e,Term.cs]
 rw[hset]
 have hmod:FO s.blocks i t=s.blocks.set i { b with t:=t }:=by
  rw[FO];exact oU hb
 have e1:(cf vs s.blocks).set i (.agg (v::t.cs))=cf vs (FO s.blocks i t):=by
  have:=Gr h6.len hi v { b with t:=t }
  rw[show vs.set i v=vs from ?_]at this
  ·rw[hmod];exact this
  ·refine List.ext_getElem? fun q=>?_
   rw[List.getElem?_set]
   split
   ·rename_i hq;subst hq;rw[if_pos (by rw[h6.len];exact hi),hv]
   ·rfl
 rw[e1]
 have nnb:n≠nb:=by rintro rfl;rw[h4]at h5;cases h5
 obtain⟨hs1,hs2⟩:=xd h6.nd
 refine hK _ ⟨bs,j,vL,.ms nb 0 (FO s.blocks i t).length,vs,h1,h2,h3,?_,?_⟩ fun q d hq hd=>?_
 ·rw[aa _ _ nnb,h4,Eg];rfl
 ·refine Rows.Td h6 (by rw[Eg]) (by rw[Eg];exact h6.len) (fun q hq _=>?_) (ad _ _ _) (fun q hq=>?_) (fun q v' b' hv' hb'=>?_) h6.nd
  ·rw[aa _ _ (by rintro rfl;exact hs1 hq)]
  ·rw[aa _ _ (by rintro rfl;exact hs1 (by rw[bn];simp[hq]))]
  ·obtain⟨b2,hb2,hbi⟩:∃b2,s.blocks[q]?=some b2/\b'.i=b2.i:=by
    simp only[FO,List.getElem?_modify]at hb'
    cases hq:s.blocks[q]? with
    | none=>rw[hq]at hb';simp at hb'
    | some b2 =>
     rw[hq]at hb'
     simp at hb'
     refine⟨b2,rfl,?_⟩
     rw[<- hb'];split<;>rfl
   rw[hbi]
   refine dD (h6.oI q v' b2 hv' hb2) fun q' hq'=>?_
   rw[aa _ _ (by rintro rfl;exact hs1 (by rw[bn];simp[kL (List.mem_of_getElem? hv') hq']))]
 ·rw[aa _ _ (by rintro rfl;rw[hd]at h5;cases h5)];exact hd
set_option maxHeartbeats 1000000 in
theorem T1 {h:Heap}{n k:Nat}{arrs:D}{s:MS}{x:aN}{L:Nat}(r:aV h n k arrs s) (hL:s.blocks.length=L+1) (hlen:L<1000) (hil:∀b∈s.blocks,b.i.length<1000){KH:HK}
  (hK:∀h':Heap,aV h' n k arrs { s with blocks:=CI s.blocks L x }->aJ n h h'->KH (.tup []) h'):ag PP aO [.ptr n 0 0,x.e] h KH:=by
 refine aW sU (aA _ _ _) rfl (sf _ _ _) ?_
 (unfold mo;try dsimp only[xL,yL,xF,yF,xI,yI,xS,zI,zJ])
 rw[cJ]
 refine⟨(aN.bZ x).one,fun m t=>?_⟩
 obtain⟨r1,hmn⟩:=r.new t.free (.box x.e)
 obtain⟨hA,eA⟩:∃hA,hA=ah h m (.box x.e):=⟨_,rfl⟩
 rw[<- eA]at r1 ⊢
 have am:hA m=.box x.e:=by rw[eA,ad]
 have keepA:aJ n h hA:=by rw[eA];exact aJ.new t.free
 obtain⟨bs,j,vL,nb,vs,h1,h2,h3,h4,h5,h6⟩:=r1.some (by intro he;rw[he]at hL;simp at hL)
 have hel:=iB h6.len
 have hLs:s.blocks.length=L+1:=hL
 obtain⟨v,hv⟩:∃v,vs[L]?=some v:=⟨vs[L]'(by rw[h6.len,hLs];omega),List.getElem?_eq_getElem _⟩
 obtain⟨b,hb⟩:∃b,s.blocks[L]?=some b:=⟨s.blocks[L]'(by rw[hLs];omega),List.getElem?_eq_getElem _⟩
 have hget:=Au hv hb
 have w1:IntKind.i64.wrap (((L+1:Nat):Int)-1)=(L:Int):=by rw[wrap64 (by omega) (by omega)];omega
 have c1:(0:Int)<=(L:Int):=by omega
 have c2:(L:Int)<((L+1:Nat):Int):=by omega
 have hbl:=hil b (List.mem_of_getElem? hb)
 have oV:=h6.oI L v b hv hb
 have hrow:(∃els,(Slot.arr 14 (cf vs s.blocks)).row=some (14,els))=True:=eq_true ⟨_,rfl⟩
 have hLe:(L<(cf vs s.blocks).length)=True:=eq_true (by rw[hel,hLs];omega)
 simp only[↓rG,h4,Slot.used,true_and,↓jE,cY,↓bk,ca,Nat.zero_add,Nat.reduceAdd,List.getElem?_cons_succ,List.getElem?_cons_zero,↓iJ,h5,Slot.live,hLs,↓gO,w1,↓aE,↓bL,↓fh,↓bF,c1,c2,hrow,Int.toNat_natCast,hLe,hget,Option.some.injEq,forall_eq',am,↓cn]
 refine⟨Nat.le_refl _,?_⟩
 have hbld:∀{Q:D->Prop}{h:Heap}{z:D},(∀y∈z.cells,y.vone=true)->Q (.sl [x.e])->aq PP (.bldS false 15 1 z [(0,.c (.agg (List.take 15 (List.drop 0 x.e.cells))))]) h Q:=by
  intro Q h z hz hq
  have e1:D.agg (List.take 15 (List.drop 0 x.e.cells))=x.e:=rfl
  rw[e1]
  refine⟨?_,?_,hz,hq⟩
  ·intro p hp;simp[Arg.get]at hp;subst hp;exact⟨Nat.one_pos,rfl,(aN.bZ x).one⟩
  ·intro p hp;simp[Arg.get]at hp;subst hp;intro y hy;simp[aN.e,aN.cs]at hy;rcases hy with rfl|rfl|rfl|rfl|rfl|rfl|rfl|rfl|rfl|rfl|rfl|rfl|rfl|rfl|rfl<;>rfl
 refine hbld (by simp) ?_
 refine Sr oV (aN.bZ x).one rfl (by simp;omega) (by simp;omega) fun m2 hB f1 f2 f3=>?_
 have vB:nb∉v.jA:=fun hm=>by
  have:=(xd h6.nd).1
  exact this (by rw[bn];exact List.mem_append_right _ (kL (List.mem_of_getElem? hv) hm))
 have vN:n∉v.jA:=fun hm=>by have:=oH oV hm;rw[h4]at this;cases this
 have n2:n≠m2:=by rintro rfl;rw[h4]at f1;cases f1
 have b2:nb≠m2:=by rintro rfl;rw[h5]at f1;cases f1
 have nnb:n≠nb:=by rintro rfl;rw[h4]at h5;cases h5
 have g4:hB n=Slot.box (cY bs j arrs s vL (D.ms nb 0 s.blocks.length)):=by rw[f3 n n2 vN];exact h4
 have g5:hB nb=Slot.arr 14 (cf vs s.blocks):=by rw[f3 nb b2 vB];exact h5
 simp only[g4,g5,cY,ca,List.getElem?_cons_succ,List.getElem?_cons_zero,hLs,ai,hrow,true_and,↓dq]
 have hset:setCells (.agg (v::b.t.cs)) 0 (D.ms m2 0 ((List.map aN.e b.i).length+1)).cells=.agg (D.ms m2 0 ((List.map aN.e b.i).length+1)::b.t.cs):=by simp[setCells]
 refine⟨rfl,by simp,by rw[hel,hLs];omega,by simp,fun d hd=>?_⟩
 rw[hget]at hd
 cases hd
 rw[hset]
 have els2:(cf vs s.blocks).set L (.agg (D.ms m2 0 ((List.map aN.e b.i).length+1)::b.t.cs))=cf (vs.set L (.ms m2 0 (b.i.length+1))) (CI s.blocks L x):=by
  have:=Gr h6.len (k:=L) (by rw[hLs];omega) (.ms m2 0 (b.i.length+1)) { b with i:=b.i++[x] }
  rw[List.length_map,CI,oU hb]
  exact this
 rw[els2]
 obtain⟨hC,eC⟩:∃hC,hC=ah hB nb (.arr 14 (cf (vs.set L (.ms m2 0 (b.i.length+1))) (CI s.blocks L x))):=⟨_,rfl⟩
 rw[<- eC]
 have k4:hC n=Slot.box (cY bs j arrs s vL (D.ms nb 0 s.blocks.length)):=by rw[eC,aa _ _ nnb];exact g4
 have k5:hC nb=.arr 14 (cf (vs.set L (.ms m2 0 (b.i.length+1))) (CI s.blocks L x)):=by rw[eC,ad]
 have k6:∀q,q≠m2->q∉v.jA->q≠nb->hC q=hA q:=fun q q1 q2 q3=>by rw[eC,aa _ _ q3];exact f3 q q1 q2
 have k7:hC m2=.arr 15 (b.i.map aN.e++[x.e]):=by rw[eC,aa _ _ b2.symm];exact f2
 simp only[k4,k5,cY,ca,List.getElem?_cons_succ,List.getElem?_cons_zero,hLs,ai,true_and]
 refine⟨by simp[Slot.row],?_⟩
 have fr:m2∉bN (vL::D.ms nb 0 s.blocks.length::vs):=h6.fresh f1
 have hvs:(vs.set L (D.ms m2 0 (b.i.length+1))).length=(CI s.blocks L x).length:=by rw[List.length_set,h6.len,IP]
 obtain⟨hs1,hs2⟩:=xd h6.nd
 have hLv:L<vs.length:=(List.getElem?_eq_some_iff.1 hv).1
 have split:∃p q,vs=p++v::q/\p.length=L:=by
  refine⟨vs.take L,vs.drop (L+1),?_,by simp;omega⟩
  have:=List.getElem?_eq_some_iff.1 hv
  rw[<- this.2]
  exact(List.take_append_drop L vs).symm.trans (by rw[List.drop_eq_getElem_cons hLv])
 obtain⟨p,q,epq,epl⟩:=split
 have eset:vs.set L (D.ms m2 0 (b.i.length+1))=p++D.ms m2 0 (b.i.length+1)::q:=by
  rw[epq, <- epl];simp
 have nd0:(bN (vL::vs)).Nodup:=hs2
 rw[epq,bn,oK,bn]at nd0
 have ndL:=List.nodup_append.1 nd0
 have ndP:=List.nodup_append.1 ndL.2.1
 have ndQ:=List.nodup_append.1 ndP.2.1
 have memV:∀k',k'∈v.jA->∀k2,(k2∈vL.jA\/k2∈bN p\/k2∈bN q)->k2≠k':=by
  intro k' hk' k2 hk2
  rcases hk2 with h|h|h
  ·exact ndL.2.2 k2 h k' (by simp[hk'])
  ·exact ndP.2.2 k2 h k' (by simp[hk'])
  ·exact fun e=>ndQ.2.2 k' hk' k2 h e.symm
 have frP:∀k2,(k2∈vL.jA\/k2∈bN p\/k2∈bN q)->k2≠m2/\k2∉v.jA/\k2≠nb:=by
  intro k2 hk2
  have hin:k2∈bN (vL::vs):=by
   rw[epq,bn,oK,bn]
   simp only[List.mem_append]
   rcases hk2 with h|h|h<;>simp[h]
  refine⟨?_,fun hm=>memV k2 hm k2 hk2 rfl,fun e=>hs1 (e ▸ hin)⟩
  rintro rfl
  refine fr ?_
  rw[bn]at hin
  rw[bn,bn]
  simp only[List.mem_append]at hin ⊢
  rcases hin with h|h<;>simp[h]
 refine hK _ ⟨bs,j,vL,.ms nb 0 (CI s.blocks L x).length,vs.set L (.ms m2 0 (b.i.length+1)),h1,h2,h3,by rw[IP];exact k4,?_⟩ fun q' d hq hd=>?_
 ·refine⟨dD h6.oL fun k' hk'=>?_,Or.inr ⟨nb,by rw[iB hvs],k5⟩,hvs,fun k' v' b' hv' hb'=>?_,?_⟩
  ·obtain⟨q1,q2,q3⟩:=frP k' (Or.inl hk')
   exact k6 k' q1 q2 q3
  ·rw[CI,oU hb]at hb'
   rw[List.getElem?_set]at hv' hb'
   by_cases e:L=k'
   ·subst e
    rw[if_pos rfl,if_pos hLv]at hv'
    rw[if_pos rfl,if_pos (by rw[hLs];omega)]at hb'
    cases hv';cases hb'
    exact Or.inr ⟨m2,by simp,by rw[k7];simp⟩
   ·rw[if_neg e]at hv' hb'
    refine dD (h6.oI k' v' b' hv' hb') fun k2 hk2=>?_
    have hpq:k2∈bN p\/k2∈bN q:=by
     rw[epq]at hv'
     rcases Nat.lt_or_ge k' L with h|h
     ·rw[List.getElem?_append_left (by omega)]at hv'
      exact Or.inl (kL (List.mem_of_getElem? hv') hk2)
     ·rw[List.getElem?_append_right (by omega)]at hv'
      obtain⟨w,hw⟩:∃w,k'-p.length=w+1:=⟨k'-p.length-1,by omega⟩
      rw[hw,List.getElem?_cons_succ]at hv'
      exact Or.inr (kL (List.mem_of_getElem? hv') hk2)
    obtain⟨q1,q2,q3⟩:=frP k2 (Or.inr hpq)
    exact k6 k2 q1 q2 q3
  ·rw[eset,bn,bn,oK,bn]
   show(vL.jA++(nb::(bN p++(m2::bN q)))).Nodup
   have nbp:∀k2,(k2∈vL.jA\/k2∈bN p\/k2∈bN q)->k2≠nb:=fun k2 h=>(frP k2 h).2.2
   have m2p:∀k2,(k2∈vL.jA\/k2∈bN p\/k2∈bN q)->k2≠m2:=fun k2 h=>(frP k2 h).1
   refine List.nodup_append.2 ⟨ndL.1,?_,?_⟩
   ·refine List.nodup_cons.2 ⟨?_,List.nodup_append.2 ⟨ndP.1,List.nodup_cons.2 ⟨fun h=>m2p m2 (Or.inr (Or.inr h)) rfl,ndQ.2.1⟩,?_⟩⟩
    ·simp only[List.mem_append,List.mem_cons,List.not_mem_nil,or_false,List.singleton_append]
     rintro (h|h|h)
     ·exact nbp nb (Or.inr (Or.inl h)) rfl
     ·exact b2 h
     ·exact nbp nb (Or.inr (Or.inr h)) rfl
    ·intro a ha c hc
     rcases List.mem_cons.1 hc with rfl|hc
     ·exact m2p a (Or.inr (Or.inl ha))
     ·exact ndP.2.2 a ha c (by simp[hc])
   ·intro a ha c hc
    rcases List.mem_cons.1 hc with rfl|hc
    ·exact nbp a (Or.inl ha)
    rcases List.mem_append.1 hc with hc|hc
    ·exact ndL.2.2 a ha c (by simp[hc])
    rcases List.mem_cons.1 hc with rfl|hc
    ·exact m2p a (Or.inl ha)
    ·exact ndL.2.2 a ha c (by simp[hc])
 ·have e0:=keepA q' d hq hd
  have q1:q'≠m2:=by rintro rfl;rw[e0]at f1;cases f1
  have q2:q'∉v.jA:=fun hm=>by have:=oH oV hm;rw[e0]at this;cases this
  have q3:q'≠nb:=by rintro rfl;rw[e0]at h5;cases h5
  rw[k6 q' q1 q2 q3];exact e0
end Go.Am
namespace Go.Am
open Go
theorem dX.len (o:dX):o.e.cells.length=3:=rfl
theorem dX.dF (o:dX):o.e.cells.all D.one=true:=rfl
theorem Term.len (o:Term):o.e.cells.length=13:=rfl
def kR (s:MS) (pre:List Block) (is:List aN) (t:Term):MS:={ s with blocks:=pre++[⟨is,t⟩] }
structure Ma (pre:List Block) (is:List aN) (N:Nat):Prop where
 p:pre.length<=50
 b:∀b∈pre,b.i.length<=100
 i:is.length<=N
theorem Ma.le {pre:List Block}{is is':List aN}{N M:Nat}(b:Ma pre is N) (h:is'.length<=M):Ma pre is' M:=⟨b.p,b.b,h⟩
theorem Bi {α:Type}(l:List α) (a:α) (f:α->α):(l++[a]).modify l.length f=l++[f a]:=by
 rw[oU (a:=a) (by simp)]
 simp
theorem Ou {h:Heap}{n k:Nat}{arrs:D}{s:MS}{pre:List Block}{is:List aN}{t:Term}{x:aN}(r:aV h n k arrs (kR s pre is t)) (hb:Ma pre is 900){KH:HK}
  (hK:∀h':Heap,aV h' n k arrs (kR s pre (is++[x]) t)->aJ n h h'->KH (.tup []) h'):ag PP aO [.ptr n 0 0,x.e] h KH:=by
 refine T1 (L:=pre.length) r (by simp[kR]) (by have:=hb.p;omega) (fun b hbm=>?_) fun h' r' hk=>hK h' ?_ hk
 ·simp only[kR,List.mem_append,List.mem_singleton]at hbm
  rcases hbm with hbm|rfl
  ·have:=hb.b b hbm;omega
  ·have:=hb.i;simp only;omega
 ·have:CI (kR s pre is t).blocks pre.length x=pre++[⟨is++[x],t⟩]:=by simp only[kR,CI];rw[Bi]
  rw[this]at r'
  exact r'
def uf:List bO:=[⟨⟨#[97]⟩,1,1,8⟩,⟨⟨#[102]⟩,1,2,4⟩,⟨⟨#[115]⟩,2,1,8⟩,⟨⟨#[112]⟩,3,1,4⟩,⟨⟨#[98]⟩,2,3,4⟩]
def br:D:=.sl (uf.map bO.e)
def E1 (n:Int):Int:=if n=0\/n=2 then 8 else 4
def Bj (d:dX) (a:dX) (n:Int):aN:=⟨3,17,0,d,a,Const (E1 n-1),an⟩
theorem aV.box {h:Heap}{n k:Nat}{arrs:D}{s:MS}(r:aV h n k arrs s):∃(bs:List Nat) (j:Nat) (vL vB:D),h n=.box (cY bs j arrs s vL vB):=by
 obtain⟨bs,j,vL,vB,vs,-,-,-,h1,-⟩:=r.st
 exact⟨_,_,_,_,h1⟩
section
variable {P:Program}{KH:HK}{K:D->Prop}{h:Heap}
theorem U7 {m:Nat}{o:dX}(a:h m=.box o.e):ab P (.ld (.c (.ptr m 0 0)) 3 true) h KH=KH o.e h:=db a
theorem FW {m:Nat}{o:dX}(a:h m=.box o.e):aq P (.ld (.c (.ptr m 0 0)) 3 true) h K=K o.e:=by rw[bL,U7 a]
theorem Uc {m:Nat}{o o':dX}(a:h m=.box o.e):ab P (.st (.c (.ptr m 0 0)) (.c o'.e) 3) h KH=KH .undef (ah h m (.box o'.e)):=by
 unfold dX.e dX.cs at *
 exact Ut a
theorem Hw {n i j o:Nat}(a:(h n).used=true):aq P (.fadd (.c (.ptr n i j)) o) h K=K (.ptr n i (j+o)):=by rw[aE,a];simp
theorem ba {n i j o:Nat}(a:(h n).used=true):ab P (.fadd (.c (.ptr n i j)) o) h KH=KH (.ptr n i (j+o)) h:=by rw[rG,a];simp
end
def JI (q:Nat):D:=((uf.map bO.e)[q]?).getD .undef
theorem Gv (q:Nat) (hq:q<5):(uf.map bO.e)[q]?=some (JI q)/\(JI q).cells.length=4/\(JI q).cells[3]?=some (.int .i64 (E1 q)):=by
 have:q=0\/q=1\/q=2\/q=3\/q=4:=by omega
 rcases this with rfl|rfl|rfl|rfl|rfl<;>exact⟨rfl,rfl,rfl⟩
theorem pt (q:Int):E1 q=8\/E1 q=4:=by unfold E1;split<;>simp
theorem EY {P:Program}{K:D->Prop}{h:Heap}{q:Nat}(hq:q<5):aq P (.iadd (.c (.sl (uf.map bO.e))) (.c (.int .i64 (q:Int))) 4) h K=K (.vp (JI q) 0):=by
 obtain⟨h1,h2,h3⟩:=Gv q hq
 have hl:(List.map bO.e uf).length=5:=rfl
 rw[fh,im,Int.toNat_natCast,h1,hl]
 apply propext
 constructor
 ·rintro⟨-,-,h⟩;exact(h _ rfl).2
 ·intro hk;exact⟨by omega,by omega,fun d hd=>by cases hd;exact⟨h2,hk⟩⟩
theorem IH {P:Program}{K:D->Prop}{h:Heap}{q:Nat}(hq:q<5):aq P (.ld (.c (.vp (JI q) 3)) 1 false) h K=K (.int .i64 (E1 q)):=by
 rw[bL,gY,bk,(Gv q hq).2.2]
theorem II {P:Program}{K:D->Prop}{h:Heap}{q:Nat}:aq P (.fadd (.c (.vp (JI q) 0)) 3) h K=K (.vp (JI q) 3):=rfl
theorem Kx {h:Heap}{n k:Nat}{s:MS}{pre:List Block}{is:List aN}{t:Term}{priv:Bool}(r:aV h n k br (kR s pre is t)) (hb:Ma pre is 800) (hk:k<900000){KH:HK}
  (hK:∀(q:Nat) (d:Nat) (a:dX) (h':Heap),q<5->(priv=false->q≠3)->d<6->Br a->aV h' n (k+3) br (kR s pre (is++[Bj (fX d) a q]) t)->aJ n h h'->KH (.tup [.int .i64 (q:Int),(fX (d:Int)).e]) h') :
  ag PP eW [.ptr n 0 0,.bool priv] h KH:=by
 refine aW pG (aA _ _ _) rfl (pB _ _ _) ?_
 (unfold ky;try dsimp only[xL,yL,xF,yF,xI,yI,xS,zI,zJ])
 rw[bQ]
 intro m t0
 obtain⟨r1,hne⟩:=r.new t0.free (.box an.e)
 have k1:aJ n h (ah h m (.box an.e)):=aJ.new t0.free
 refine eO r1 (by omega) fun b hA _ r2 k2=>?_
 have hm:=k2 m _ hne (ad _ _ _)
 have k12:=k1.trans k2
 rw[bJ]
 refine⟨by omega,?_⟩
 have e5:((b:Int).tmod 5)=((b % 5:Nat):Int):=bq b 5
 rw[e5]
 refine⟨fun qs h'=>∃q:Nat,qs=[.int .i64 (q:Int)]/\q<5/\(priv=false->q≠3)/\aV h' n (k+1) br (kR s pre is t)/\h' m=.box an.e/\aJ n h h',?_,?_⟩
 ·rintro f hB ⟨q,hq,hq5,hp,r3,hm3,k3⟩
  simp only[List.cons.injEq,and_true]at hq
  rw[hq]
  refine Bo r3 (by omega) fun d hC hd r4 k4=>?_
  rw[bQ]
  intro m5 t5
  obtain⟨r5,hne5⟩:=r4.new t5.free (.box an.e)
  have hm4:=(aJ.new t5.free:aJ n hC (ah hC m5 (.box an.e))) m _ hne (k4 m _ hne hm3)
  have k5:=(k3.trans k4).trans (aJ.new t5.free:aJ n hC (ah hC m5 (.box an.e)))
  have a5:=ad hC m5 (.box an.e)
  have hmm:m≠m5:=t5.ne (by rw[k4 m _ hne hm3];simp)
  show ab PP _ (ah hC m5 (.box an.e)) _
  generalize ah hC m5 (.box an.e)=hD at r5 hm4 k5 a5
  have a6:=ad hD m5 (.box (fX (d:Int)).e)
  have r6:=r5.av a5 hne5 (.box (fX (d:Int)).e)
  have hm6:ah hD m5 (.box (fX (d:Int)).e) m=.box an.e:=by rw[aa _ _ hmm];exact hm4
  rw[Uc a5]
  have k6:aJ n h (ah hD m5 (.box (fX (d:Int)).e)):=fun q' d' hq' hd'=>by
   have h1:=k5 q' d' hq' hd'
   by_cases e:q'=m5
   ·subst e
    exfalso
    have h2:=k4 q' d' hq' (k3 q' d' hq' hd')
    rw[t5.free]at h2;cases h2
   ·rw[aa _ _ e];exact h1
  generalize ah hD m5 (.box (fX (d:Int)).e)=hE at r6 hm6 k6 a6
  obtain⟨bs,j,vL,vB,e⟩:=r6.box
  have eu:(hE n).used=true:=by rw[e];rfl
  unfold cY at e
  have w1:IntKind.i64.wrap (E1 q-1)=E1 q-1:=by rcases pt q with h|h<;>rw[h]<;>rfl
  have w2:IntKind.i32.wrap (E1 q-1)=E1 q-1:=by rcases pt q with h|h<;>rw[h]<;>rfl
  simp only[↓FW a6,↓Hw eu,Nat.zero_add,Nat.reduceAdd,↓cj e (j:=7) rfl,br,↓EY hq5,↓II,↓IH hq5,↓gO,w1,↓pj,↓cu,w2]
  refine ud r6 (by omega) fun o hF ho r7 k7=>?_
  have a7:=k7 m5 _ hne5 a6
  have hm7:=k7 m _ hne hm6
  obtain⟨bs',j',vL',vB',e'⟩:=r7.box
  have eu':(hF n).used=true:=by rw[e'];rfl
  unfold cY at e'
  simp only[↓FW a7,↓Hw eu',Nat.zero_add,Nat.reduceAdd,↓cj e' (j:=7) rfl,br,↓EY hq5,↓II,↓IH hq5,ai,true_and]
  refine iK th ⟨bf,trivial⟩ ?_
  rw[Iu,ku]
  refine⟨vZ rfl,?_⟩
  refine Ou (x:=Bj (fX d) o q) r7 (hb.le (by have:=hb.i;omega)) fun hG r8 k8=>?_
  have a8:=k8 m5 _ hne5 a7
  have hm8:=k8 m _ hne hm7
  simp only[↓FW a8,↓Uc hm8,↓U7 (ad _ _ _)]
  refine hK q d o _ hq5 hp hd ho (r8.av hm8 hne _) fun q' d' hq' hd'=>?_
  have h1:=k8 q' d' hq' (k7 q' d' hq' (k6 q' d' hq' hd'))
  by_cases ee:q'=m
  ·subst ee;rw[t0.free]at hd';cases hd'
  ·rw[aa _ _ ee];exact h1
 ·rw[aM]
  by_cases h3:b % 5=3
  ·have h3':(((b % 5:Nat):Int)=3)=True:=eq_true (by omega)
   simp only[h3',decide_true,↓Hv,↓L2,↓G3,↓SY,↓QG]
   cases priv
   ·simp only[Bool.not_false,↓dh,↓af]
    exact⟨rfl,0,rfl,by omega,fun _=>by omega,r2,hm,k12⟩
   ·simp only[Bool.not_true,↓dh,↓ae]
    exact⟨rfl,b % 5,rfl,Nat.mod_lt _ (by omega),fun h=>(by cases h),r2,hm,k12⟩
  ·have h3':(((b % 5:Nat):Int)=3)=False:=eq_false (by omega)
   simp only[h3',decide_false,↓Hv,↓L2,↓G3,↓SY,↓QG,↓wK,↓gP,↓ae]
   exact⟨rfl,b % 5,rfl,Nat.mod_lt _ (by omega),fun _=>h3,r2,hm,k12⟩
end Go.Am
namespace Go.Am
open Go
def kU (R:Int) (o:dX):Prop:=∃r:Int,0<=r/\r<R/\o=fX r
def iW (R:Int) (o:dX):Prop:=kU R o\/∃v:Int,-2147483648<=v/\v<=2147483647/\o=Const v
theorem kU.val {R:Int}{o:dX}(h:kU R o):iW R o:=Or.inl h
theorem kU.mono {R R':Int}(h:R<=R'){o:dX}(r:kU R o):kU R' o:=by obtain⟨a,b,c,d⟩:=r;exact⟨a,b,by omega,d⟩
theorem iW.mono {R R':Int}(h:R<=R'){o:dX}(r:iW R o):iW R' o:=r.imp (kU.mono h) id
theorem Br.o {o:dX}(h:Br o):iW 6 o:=by
 rcases h with⟨b,hb,rfl⟩|⟨v,h1,h2,rfl⟩
 ·exact Or.inl ⟨b,by omega,by omega,rfl⟩
 ·exact Or.inr ⟨v,by omega,by omega,rfl⟩
theorem eo {b:Nat}(h:b<6):kU 6 (fX (b:Int)):=⟨b,by omega,by omega,rfl⟩
inductive zr (R:Int):aN->Prop
 | mov (d a:dX) (h1:kU R d) (h2:iW R a):zr R ⟨1,0,0,d,a,an,an⟩
 | un (s:Int) (d a:dX) (h0:1<=s/\s<=5) (h1:kU R d) (h2:iW R a):zr R ⟨2,s,0,d,a,an,an⟩
 | bin (s:Int) (d a b:dX) (h0:10<=s/\s<=29) (h1:kU R d) (h2:iW R a) (h3:iW R b):zr R ⟨3,s,0,d,a,b,an⟩
 | sel (d a b c:dX) (h1:kU R d) (h2:iW R a) (h3:iW R b) (h4:iW R c):zr R ⟨4,0,0,d,a,b,c⟩
 | id (s:Int) (d:dX) (h0:1<=s/\s<=7) (h1:kU R d):zr R ⟨5,s,0,d,an,an,an⟩
 | param (n:Int) (d:dX) (h0:0<=n/\n<3) (h1:kU R d):zr R ⟨6,0,n,d,an,an,an⟩
 | load (n:Int) (d a:dX) (h0:0<=n/\n<5) (h1:kU R d) (h2:kU R a):zr R ⟨7,0,n,d,a,an,an⟩
 | store (n:Int) (a b:dX) (h0:0<=n/\n<5) (h1:kU R a) (h2:iW R b):zr R ⟨8,0,n,an,a,b,an⟩
 | atom (s n:Int) (a b:dX) (hs:s=10\/s=22\/s=23\/s=17\/s=18\/s=19) (h0:0<=n/\n<5/\n≠3) (h1:kU R a) (h2:iW R b):zr R ⟨9,s,n,an,a,b,an⟩
 | fence (s:Int) (h0:s=1\/s=2):zr R ⟨10,s,0,an,an,an,an⟩
theorem zr.mono {R R':Int}(h:R<=R'){x:aN}(i:zr R x):zr R' x:=by
 cases i with
 | mov d a h1 h2=>exact .mov d a (h1.mono h) (h2.mono h)
 | un s d a h0 h1 h2=>exact .un s d a h0 (h1.mono h) (h2.mono h)
 | bin s d a b h0 h1 h2 h3=>exact .bin s d a b h0 (h1.mono h) (h2.mono h) (h3.mono h)
 | sel d a b c h1 h2 h3 h4=>exact .sel d a b c (h1.mono h) (h2.mono h) (h3.mono h) (h4.mono h)
 | id s d h0 h1=>exact .id s d h0 (h1.mono h)
 | param n d h0 h1=>exact .param n d h0 (h1.mono h)
 | load n d a h0 h1 h2=>exact .load n d a h0 (h1.mono h) (h2.mono h)
 | store n a b h0 h1 h2=>exact .store n a b h0 (h1.mono h) (h2.mono h)
 | atom s n a b hs h0 h1 h2=>exact .atom s n a b hs h0 (h1.mono h) (h2.mono h)
 | fence s h0=>exact .fence s h0
def kT (R:Int) (xs:List aN):Prop:=∀(k:Nat) (x:aN),xs[k]?=some x->zr R x/\((x.op=7\/x.op=8\/x.op=9)->∃(j:Nat) (a:dX),k=j+1/\xs[j]?=some (Bj x.a a x.n)/\iW R a)
theorem kT.nil {R:Int}:kT R []:=fun k x h=>by simp at h
theorem kT.one {R:Int}{x:aN}(i:zr R x) (h:¬(x.op=7\/x.op=8\/x.op=9)):kT R [x]:=fun k y hy=>by
 cases k with
 | zero=>simp at hy;subst hy;exact⟨i,fun hx=>absurd hx h⟩
 | succ k=>simp at hy
theorem kT.two {R:Int}{x y:aN}{a:dX}(hx:zr R x) (hy:zr R y) (he:x=Bj y.a a y.n) (ha:iW R a) (hn:¬(x.op=7\/x.op=8\/x.op=9)):kT R [x,y]:=fun k z hz=>by
 match k with
 | 0=>simp at hz;subst hz;exact⟨hx,fun h=>absurd h hn⟩
 | 1=>simp at hz;subst hz;exact⟨hy,fun _=>⟨0,a,rfl,by simp[he],ha⟩⟩
 | k+2=>simp at hz
theorem kT.append {R:Int}{xs ys:List aN}(hx:kT R xs) (hy:kT R ys):kT R (xs++ys):=fun k x h=>by
 rcases Nat.lt_or_ge k xs.length with hk|hk
 ·rw[List.getElem?_append_left hk]at h
  obtain⟨h1,h2⟩:=hx k x h
  refine⟨h1,fun ho=>?_⟩
  obtain⟨j,a,e,q,v⟩:=h2 ho
  exact⟨j,a,e,by rw[List.getElem?_append_left (by omega)];exact q,v⟩
 ·rw[List.getElem?_append_right hk]at h
  obtain⟨h1,h2⟩:=hy _ x h
  refine⟨h1,fun ho=>?_⟩
  obtain⟨j,a,e,q,v⟩:=h2 ho
  exact⟨xs.length+j,a,by omega,by rw[List.getElem?_append_right (by omega)];simpa using q,v⟩
theorem kT.mono {R R':Int}(h:R<=R'){xs:List aN}(x:kT R xs):kT R' xs:=fun k y hy=>by
 obtain⟨h1,h2⟩:=x k y hy
 refine⟨h1.mono h,fun ho=>?_⟩
 obtain⟨j,a,e,q,v⟩:=h2 ho
 exact⟨j,a,e,q,v.mono h⟩
theorem GV {d:Nat}{a:dX}{q:Nat}(hd:d<6) (ha:Br a):zr 6 (Bj (fX (d:Int)) a (q:Int)) :=
 .bin 17 _ _ _ (by omega) (eo hd) ha.o (Or.inr ⟨E1 q-1,by rcases pt q with h|h<;>omega,by rcases pt q with h|h<;>omega,rfl⟩)
theorem iU {h:Heap}{n k:Nat}{arrs:D}{s:MS}{pre:List Block}{is:List aN}{t:Term}{z:List D}{ps:List (Nat×Nat×Arg)}{KH:HK}(x:aN) (r:aV h n k arrs (kR s pre is t)) (hb:Ma pre is 900)
  (hf:xD z.length (ps.map fun p=>(p.1,p.2.1,p.2.2.get []))=true) (hx:D.agg (fillD z (ps.map fun p=>(p.1,p.2.1,(p.2.2.get []).cells)))=x.e)
  (hK:∀h':Heap,aV h' n k arrs (kR s pre (is++[x]) t)->aJ n h h'->KH (.tup []) h') :
  ab PP (.bld z ps) h fun a h1=>ag PP aO [.ptr n 0 0,a] h1 KH:=by
 rw[ku]
 refine⟨vZ hf,?_⟩
 rw[hx]
 exact Ou r hb hK
theorem EX {h:Heap}{n k:Nat}{arrs:D}{s:MS}{pre:List Block}{is:List aN}{t:Term}{z:List D}{ps:List (Nat×Nat×Arg)}{KH:HK}(x:aN) (r:aV h n k arrs (kR s pre is t)) (hb:Ma pre is 900)
  (hf:xD z.length (ps.map fun p=>(p.1,p.2.1,p.2.2.get []))=true) (hx:D.agg (fillD z (ps.map fun p=>(p.1,p.2.1,(p.2.2.get []).cells)))=x.e)
  (hK:∀h':Heap,aV h' n k arrs (kR s pre (is++[x]) t)->aJ n h h'->KH (.tup []) h') :
  aq PP (.bld z ps) h fun a=>ag PP aO [.ptr n 0 0,a] h KH:=by
 rw[Iu];exact iU x r hb hf hx hK
set_option maxHeartbeats 1000000 in
theorem SJ {h:Heap}{n k:Nat}{s:MS}{pre:List Block}{is:List aN}{t:Term}(r:aV h n k br (kR s pre is t)) (hb:Ma pre is 700) (hk:k<800000){KH:HK}
  (hK:∀(xs:List aN) (h':Heap),kT 6 xs->xs.length<=2->aV h' n (k+10) br (kR s pre (is++xs) t)->aJ n h h'->KH (.tup []) h') :
  ag PP il [.ptr n 0 0] h KH:=by
 refine aW qE (aA _ _ _) rfl (qz _ _) ?_
 (unfold lK;try dsimp only[xL,yL,xF,yF,xI,yI,xS,zI,zJ])
 have hb9:Ma pre is 900:=hb.le (by have:=hb.i;omega)
 refine eO r (by omega) fun b0 h1 _ r1 k1=>?_
 rw[bJ]
 refine⟨by omega,?_⟩
 have e16:((b0:Int).tmod 16)=((b0 % 16:Nat):Int):=bq b0 16
 rw[e16]
 have hc16:b0 % 16<16:=Nat.mod_lt _ (by omega)
 generalize b0 % 16=c at hc16
 rw[bK]
 by_cases hc3:c<3
 ·simp only[show((c:Int)<3)=True from eq_true (by omega),decide_true,↓af]
  refine eO r1 (by omega) fun b h2 _ r2 k2=>?_
  rw[bJ]
  refine⟨by omega,?_⟩
  rw[show((b:Int).tmod 7)=((b % 7:Nat):Int) from bq b 7,bp,wrap64 (by omega) (by omega)]
  refine Bo r2 (by omega) fun d h3 hd r3 k3=>?_
  refine iU ⟨5,1+((b % 7:Nat):Int),0,fX d,an,an,an⟩ r3 hb9 rfl rfl fun h4 r4 k4=>?_
  exact hK _ h4 (.one (.id _ _ (by omega) (eo hd)) (by simp)) (by simp) (r4.le (by omega)) (((k1.trans k2).trans k3).trans k4)
 simp only[show((c:Int)<3)=False from eq_false (by omega),decide_false,↓ae]
 rw[bK]
 by_cases hc7:c<7
 ·simp only[show((c:Int)<7)=True from eq_true (by omega),decide_true,↓af]
  refine eO r1 (by omega) fun b h2 _ r2 k2=>?_
  rw[bJ]
  refine⟨by omega,?_⟩
  rw[show((b:Int).tmod 20)=((b % 20:Nat):Int) from bq b 20,bp,wrap64 (by omega) (by omega)]
  refine Bo r2 (by omega) fun d h3 hd r3 k3=>?_
  refine ud r3 (by omega) fun o h4 ho r4 k4=>?_
  refine ud r4 (by omega) fun p h5 hp r5 k5=>?_
  refine iU ⟨3,10+((b % 20:Nat):Int),0,fX d,o,p,an⟩ r5 hb9 rfl rfl fun h6 r6 k6=>?_
  exact hK _ h6 (.one (.bin _ _ _ _ (by omega) (eo hd) ho.o hp.o) (by simp)) (by simp) (r6.le (by omega)) (((((k1.trans k2).trans k3).trans k4).trans k5).trans k6)
 simp only[show((c:Int)<7)=False from eq_false (by omega),decide_false,↓ae]
 rw[aM]
 by_cases h7:c=7
 ·simp only[show((c:Int)=7)=True from eq_true (by omega),decide_true,↓af]
  refine eO r1 (by omega) fun b h2 _ r2 k2=>?_
  rw[bJ]
  refine⟨by omega,?_⟩
  rw[show((b:Int).tmod 5)=((b % 5:Nat):Int) from bq b 5,bp,wrap64 (by omega) (by omega)]
  refine Bo r2 (by omega) fun d h3 hd r3 k3=>?_
  refine ud r3 (by omega) fun o h4 ho r4 k4=>?_
  refine iU ⟨2,1+((b % 5:Nat):Int),0,fX d,o,an,an⟩ r4 hb9 rfl rfl fun h6 r6 k6=>?_
  exact hK _ h6 (.one (.un _ _ _ (by omega) (eo hd) ho.o) (by simp)) (by simp) (r6.le (by omega)) ((((k1.trans k2).trans k3).trans k4).trans k6)
 simp only[show((c:Int)=7)=False from eq_false (by omega),decide_false,↓ae]
 rw[aM]
 by_cases h8:c=8
 ·simp only[show((c:Int)=8)=True from eq_true (by omega),decide_true,↓af]
  refine Bo r1 (by omega) fun d h3 hd r3 k3=>?_
  refine ud r3 (by omega) fun o h4 ho r4 k4=>?_
  refine ud r4 (by omega) fun p h5 hp r5 k5=>?_
  refine ud r5 (by omega) fun q h6 hq r6 k6=>?_
  refine iU ⟨4,0,0,fX d,o,p,q⟩ r6 hb9 rfl rfl fun h7 r7 k7=>?_
  exact hK _ h7 (.one (.sel _ _ _ _ (eo hd) ho.o hp.o hq.o) (by simp)) (by simp) (r7.le (by omega)) (((((k1.trans k3).trans k4).trans k5).trans k6).trans k7)
 simp only[show((c:Int)=8)=False from eq_false (by omega),decide_false,↓ae]
 rw[aM]
 by_cases h9:c=9
 ·simp only[show((c:Int)=9)=True from eq_true (by omega),decide_true,↓af]
  refine Bo r1 (by omega) fun d h3 hd r3 k3=>?_
  refine ud r3 (by omega) fun o h4 ho r4 k4=>?_
  refine iU ⟨1,0,0,fX d,o,an,an⟩ r4 hb9 rfl rfl fun h7 r7 k7=>?_
  exact hK _ h7 (.one (.mov _ _ (eo hd) ho.o) (by simp)) (by simp) (r7.le (by omega)) (((k1.trans k3).trans k4).trans k7)
 simp only[show((c:Int)=9)=False from eq_false (by omega),decide_false,↓ae]
 rw[aM]
 by_cases h10:c=10
 ·simp only[show((c:Int)=10)=True from eq_true (by omega),decide_true,↓af]
  refine eO r1 (by omega) fun b h2 _ r2 k2=>?_
  rw[bJ]
  refine⟨by omega,?_⟩
  rw[show((b:Int).tmod 3)=((b % 3:Nat):Int) from bq b 3]
  refine Bo r2 (by omega) fun d h3 hd r3 k3=>?_
  refine iU ⟨6,0,((b % 3:Nat):Int),fX d,an,an,an⟩ r3 hb9 rfl rfl fun h7 r7 k7=>?_
  exact hK _ h7 (.one (.param _ _ (by omega) (eo hd)) (by simp)) (by simp) (r7.le (by omega)) (((k1.trans k2).trans k3).trans k7)
 simp only[show((c:Int)=10)=False from eq_false (by omega),decide_false,↓ae]
 rw[aM]
 by_cases h11:c=11
 ·simp only[show((c:Int)=11)=True from eq_true (by omega),decide_true,↓af]
  refine eO r1 (by omega) fun b h2 _ r2 k2=>?_
  rw[bJ]
  refine⟨by omega,?_⟩
  rw[show((b:Int).tmod 2)=((b % 2:Nat):Int) from bq b 2,bp,wrap64 (by omega) (by omega)]
  refine iU ⟨10,1+((b % 2:Nat):Int),0,an,an,an,an⟩ r2 hb9 rfl rfl fun h7 r7 k7=>?_
  exact hK _ h7 (.one (.fence _ (by omega)) (by simp)) (by simp) (r7.le (by omega)) ((k1.trans k2).trans k7)
 simp only[show((c:Int)=11)=False from eq_false (by omega),decide_false,↓ae]
 rw[aM]
 by_cases h12:c=12
 ·simp only[show((c:Int)=12)=True from eq_true (by omega),decide_true,↓af]
  refine Kx r1 (hb.le (by have:=hb.i;omega)) (by omega) fun q d a h2 hq hp hd ha r2 k2=>?_
  simp only[↓NZ,↓NY]
  rw[bQ]
  intro m t0
  obtain⟨r3,hne⟩:=r2.new t0.free (.box an.e)
  have a3:=ad h2 m (.box an.e)
  have k3:aJ n h2 (ah h2 m (.box an.e)):=aJ.new t0.free
  show ab PP _ (ah h2 m (.box an.e)) _
  have key:aJ n h2 (ah (ah h2 m (.box an.e)) m (.box (fX (d:Int)).e)):=by rw[hU];exact aJ.new t0.free
  rw[Uc a3]
  have r4:=r3.av a3 hne (.box (fX (d:Int)).e)
  have a4:=ad (ah h2 m (.box an.e)) m (.box (fX (d:Int)).e)
  generalize ah (ah h2 m (.box an.e)) m (.box (fX (d:Int)).e)=h3 at key r4 a4
  have hbl:∀{Q:D->Prop},aq PP (.bldS false 1 6 (.int .i64 0) [(0,(.c (.int .i64 10))),(1,(.c (.int .i64 22))),(2,(.c (.int .i64 23))),(3,(.c (.int .i64 17))),(4,(.c (.int .i64 18))),(5,(.c (.int .i64 19)))]) h3 Q=Q (.sl [.int .i64 10,.int .i64 22,.int .i64 23,.int .i64 17,.int .i64 18,.int .i64 19]):=by
   intro Q
   apply propext
   constructor
   ·exact fun hh=>hh.2.2.2
   ·intro hq
    refine⟨tj rfl,?_,by simp,hq⟩
    intro p hp
    simp[Arg.get]at hp
    rcases hp with rfl|rfl|rfl|rfl|rfl|rfl<;>simp
  simp only[hbl,↓FW a4]
  refine eO r4 (by omega) fun b h4 _ r5 k5=>?_
  have a5:=k5 m _ hne a4
  simp only[↓FW a5,ai,true_and]
  rw[bJ]
  refine⟨by omega,?_⟩
  rw[show((b:Int).tmod 6)=((b % 6:Nat):Int) from bq b 6]
  obtain⟨sv,hsv,hs6⟩:∃sv:Int,([.int .i64 10,.int .i64 22,.int .i64 23,.int .i64 17,.int .i64 18,.int .i64 19]:List D)[b % 6]?=some (.int .i64 sv)/\(sv=10\/sv=22\/sv=23\/sv=17\/sv=18\/sv=19):=by
   have:b % 6=0\/b % 6=1\/b % 6=2\/b % 6=3\/b % 6=4\/b % 6=5:=by omega
   rcases this with e|e|e|e|e|e<;>rw[e]<;>exact⟨_,rfl,by simp⟩
  have hi:∀{h:Heap}{Q:D->Prop},aq PP (.iadd (.c (.sl [.int .i64 10,.int .i64 22,.int .i64 23,.int .i64 17,.int .i64 18,.int .i64 19])) (.c (.int .i64 ((b % 6:Nat):Int))) 1) h Q=Q (.vp (.int .i64 sv) 0):=by
   intro h Q
   rw[fh,im,Int.toNat_natCast,hsv]
   apply propext
   constructor
   ·rintro⟨-,-,h⟩;exact(h _ rfl).2
   ·intro hq;exact⟨by omega,by simp;omega,fun d hd=>by cases hd;exact⟨rfl,hq⟩⟩
  have hl:∀{h:Heap}{Q:D->Prop},aq PP (.ld (.c (.vp (.int .i64 sv) 0)) 1 false) h Q=Q (.int .i64 sv):=fun {h Q}=>by rw[bL,gY,bk];rfl
  simp only[↓hi,↓hl]
  refine ud r5 (by omega) fun o h5 ho r6 k6=>?_
  have a6:=k6 m _ hne a5
  simp only[↓hi,↓hl,↓FW a6,ai,true_and]
  refine EX ⟨9,sv,q,an,fX d,o,an⟩ r6 (hb.le (by have:=hb.i;simp;omega)) rfl rfl fun h7 r7 k7=>?_
  rw[List.append_assoc]at r7
  exact hK _ h7 (.two (a:=a) (GV hd ha) (.atom sv (q:Int) _ _ hs6 ⟨Int.natCast_nonneg q,Int.ofNat_lt.2 hq,fun e=>hp rfl (Int.ofNat_inj.1 e)⟩ (eo hd) ho.o) rfl ha.o (by simp[Bj])) (by simp) (r7.le (by omega)) (((((k1.trans k2).trans key).trans k5).trans k6).trans k7)
 simp only[show((c:Int)=12)=False from eq_false (by omega),decide_false,↓ae]
 refine Kx r1 (hb.le (by have:=hb.i;omega)) (by omega) fun q d a h2 hq hp hd ha r2 k2=>?_
 simp only[↓NZ,↓NY]
 rw[bQ]
 intro m t0
 obtain⟨r3,hne⟩:=r2.new t0.free (.box an.e)
 have a3:=ad h2 m (.box an.e)
 show ab PP _ (ah h2 m (.box an.e)) _
 have key:aJ n h2 (ah (ah h2 m (.box an.e)) m (.box (fX (d:Int)).e)):=by rw[hU];exact aJ.new t0.free
 rw[Uc a3]
 have r4:=r3.av a3 hne (.box (fX (d:Int)).e)
 have a4:=ad (ah h2 m (.box an.e)) m (.box (fX (d:Int)).e)
 generalize ah (ah h2 m (.box an.e)) m (.box (fX (d:Int)).e)=h3 at key r4 a4
 rw[aM]
 by_cases h13:c=13
 ·simp only[show((c:Int)=13)=True from eq_true (by omega),decide_true,↓af,↓FW a4]
  refine Bo r4 (by omega) fun e h4 he r5 k5=>?_
  have a5:=k5 m _ hne a4
  simp only[↓FW a5,ai,true_and]
  refine EX ⟨7,0,q,fX e,fX d,an,an⟩ r5 (hb.le (by have:=hb.i;simp;omega)) rfl rfl fun h7 r7 k7=>?_
  rw[List.append_assoc]at r7
  exact hK _ h7 (.two (a:=a) (GV hd ha) (.load (q:Int) _ _ ⟨Int.natCast_nonneg q,Int.ofNat_lt.2 hq⟩ (eo he) (eo hd)) rfl ha.o (by simp[Bj])) (by simp) (r7.le (by omega)) ((((k1.trans k2).trans key).trans k5).trans k7)
 ·simp only[show((c:Int)=13)=False from eq_false (by omega),decide_false,↓ae,↓FW a4]
  refine ud r4 (by omega) fun o h4 ho r5 k5=>?_
  have a5:=k5 m _ hne a4
  simp only[↓FW a5,ai,true_and]
  refine EX ⟨8,0,q,an,fX d,o,an⟩ r5 (hb.le (by have:=hb.i;simp;omega)) rfl rfl fun h7 r7 k7=>?_
  rw[List.append_assoc]at r7
  exact hK _ h7 (.two (a:=a) (GV hd ha) (.store (q:Int) _ _ ⟨Int.natCast_nonneg q,Int.ofNat_lt.2 hq⟩ (eo hd) ho.o) rfl ha.o (by simp[Bj])) (by simp) (r7.le (by omega)) ((((k1.trans k2).trans key).trans k5).trans k7)
theorem DE {h:Heap}{n k:Nat}{s:MS}{pre:List Block}{is:List aN}{t:Term}(r:aV h n k br (kR s pre is t)) (hb:Ma pre is 600) (hk:k<700000){KH:HK}
  (hK:∀(xs:List aN) (h':Heap),kT 6 xs->xs.length<=8->aV h' n (k+50) br (kR s pre (is++xs) t)->aJ n h h'->KH (.tup []) h') :
  ag PP cw [.ptr n 0 0] h KH:=by
 refine aW pH (aA _ _ _) rfl (pC _ _) ?_
 (unfold kz;try dsimp only[xL,yL,xF,yF,xI,yI,xS,zI,zJ])
 refine eO r (by omega) fun b h1 _ r1 k1=>?_
 rw[bJ]
 refine⟨by omega,?_⟩
 rw[show((b:Int).tmod 5)=((b % 5:Nat):Int) from bq b 5]
 have hb5:b % 5<5:=Nat.mod_lt _ (by omega)
 generalize b % 5=c at hb5
 (unfold iZ;try dsimp only[xL,yL,xF,yF,xI,yI,xS,zI,zJ])
 refine⟨fun j q h'=>j<=4/\q=[.int .i64 (j:Int)]/\∃xs:List aN,kT 6 xs/\xs.length<=2*(4-j)/\aV h' n (k+1+10*(4-j)) br (kR s pre (is++xs) t)/\aJ n h h',c,⟨by omega,rfl,[],.nil,by simp,by simpa using r1.le (by omega),k1⟩,?_⟩
 rintro j f h2 ⟨hj,hq,xs,hx,hl,r2,k2⟩
 simp only[List.cons.injEq,and_true]at hq
 rw[hq,qK]
 by_cases h0:0<j
 ·simp only[show((0:Int)<(j:Int))=True from eq_true (by omega),decide_true,↓af]
  refine SJ r2 (hb.le (by have:=hb.i;simp;omega)) (by omega) fun ys h3 hy hyl r3 k3=>?_
  rw[gO,wrap64 (by omega) (by omega)]
  refine⟨rfl,j-1,by omega,by omega,by congr 2;omega,xs++ys,hx.append hy,by simp;omega,?_,k2.trans k3⟩
  rw[List.append_assoc]at r3
  exact r3.le (by omega)
 ·simp only[show((0:Int)<(j:Int))=False from eq_false (by omega),decide_false,↓ae]
  exact hK xs h2 hx (by omega) (r2.le (by omega)) k2
end Go.Am
namespace Go.Am
open Go
theorem cI {P:Program}{h:Heap}{KH:HK}{z:List D}{ps:List (Nat×Nat×Arg)}(hf:xD z.length (ps.map fun p=>(p.1,p.2.1,p.2.2.get []))=true) :
  ab P (.bld z ps) h KH=KH (.agg (fillD z (ps.map fun p=>(p.1,p.2.1,(p.2.2.get []).cells)))) h:=by
 rw[ku,eq_true (vZ hf),true_and]
theorem gZ {P:Program}{h:Heap}{K:D->Prop}{z:List D}{ps:List (Nat×Nat×Arg)}(hf:xD z.length (ps.map fun p=>(p.1,p.2.1,p.2.2.get []))=true) :
  aq P (.bld z ps) h K=K (.agg (fillD z (ps.map fun p=>(p.1,p.2.1,(p.2.2.get []).cells)))):=by
 rw[Iu,cI hf]
inductive Hx (N:Nat) (R:Int):Term->Prop
 | jump (a:Nat) (h:a<N):Hx N R ⟨1,0,an,an,an,a,0⟩
 | branch (o:dX) (a b:Nat) (ho:kU R o) (h1:a<N) (h2:b<N):Hx N R ⟨2,0,an,o,an,a,b⟩
 | barrier (a:Nat) (h:a<N):Hx N R ⟨3,0,an,an,an,a,0⟩
 | collect (s:Int) (d a b:dX) (t:Nat) (hs:1<=s/\s<=6) (hd:kU R d) (ha:iW R a) (hb:iW R b) (h:t<N):Hx N R ⟨4,s,d,a,b,t,0⟩
 | exit:Hx N R ⟨5,0,an,an,an,0,0⟩
theorem Hx.mono {N N':Nat}{R R':Int}(hN:N<=N') (hR:R<=R'){t:Term}(h:Hx N R t):Hx N' R' t:=by
 cases h with
 | jump a h=>exact .jump a (by omega)
 | branch o a b ho h1 h2=>exact .branch o a b (ho.mono hR) (by omega) (by omega)
 | barrier a h=>exact .barrier a (by omega)
 | collect s d a b t hs hd ha hb h=>exact .collect s d a b t hs (hd.mono hR) (ha.mono hR) (hb.mono hR) (by omega)
 | exit=>exact .exit
structure Va (N:Nat) (R:Int) (b:Block):Prop where
 xs:kT R b.i
 len:b.i.length<=20
 t:Hx N R b.t
def jU (N:Nat) (R:Int) (bs:List Block):Prop:=∀b∈bs,Va N R b
theorem jU.mono {N N':Nat}{R R':Int}(hN:N<=N') (hR:R<=R'){bs:List Block}(h:jU N R bs):jU N' R' bs:=fun b hb=>⟨(h b hb).xs.mono hR,(h b hb).len,(h b hb).t.mono hN hR⟩
theorem jU.snoc {N:Nat}{R:Int}{bs:List Block}{b:Block}(h:jU N R bs) (hb:Va N R b):jU N R (bs++[b]):=fun c hc=>by
 rcases List.mem_append.1 hc with hc|hc
 ·exact h c hc
 ·simp at hc;subst hc;exact hb
theorem jU.nil {N:Nat}{R:Int}:jU N R []:=fun _ h=>by cases h
theorem jU.SM {N:Nat}{R:Int}{bs:List Block}(h:jU N R bs) (hl:bs.length<=50){is:List aN}{M:Nat}(hi:is.length<=M):Ma bs is M:=⟨hl,fun b hb=>by have:=(h b hb).len;omega,hi⟩
theorem l6 {h:Heap}{n k:Nat}{arrs:D}{s:MS}{pre:List Block}{is:List aN}{t0:Term}(r:aV h n k arrs (kR s pre is t0)) :
  ∃(bs:List Nat) (j:Nat) (vL:D) (nb:Nat),h n=.box (.agg [wM bs,.int .i64 (j:Int),.int .i64 s.group,.int .i64 s.sub,.int .i64 s.regs,.int .i64 0,.int .i64 3,arrs,vL,.ms nb 0 (pre.length+1)])/\(h n).used=true/\(h nb).live=true /\
   (∀(t:Term) {KH:HK},(∀h',aV h' n k arrs (kR s pre is t)->aJ n h h'->KH .undef h') ->
    ab PP (.iadd (.c (.ms nb 0 (pre.length+1))) (.c (.int .i64 (pre.length:Int))) 14) h fun a h1=>ab PP (.fadd (.c a) 1) h1 fun b h2=>ab PP (.st (.c b) (.c t.e) 13) h2 KH) /\
   (∀(t:Term) {KH:HK},(∀h',aV h' n k arrs (kR s pre is t)->aJ n h h'->KH .undef h') ->
    aq PP (.iadd (.c (.ms nb 0 (pre.length+1))) (.c (.int .i64 (pre.length:Int))) 14) h fun a=>aq PP (.fadd (.c a) 1) h fun b=>ab PP (.st (.c b) (.c t.e) 13) h KH):=by
 obtain⟨bs,j,vL,nb,vs,h1,h2,h3,h4,h5,h6⟩:=r.some (by simp[kR])
 have hl:(kR s pre is t0).blocks.length=pre.length+1:=by simp[kR]
 have e4:h n=.box (.agg [wM bs,.int .i64 (j:Int),.int .i64 s.group,.int .i64 s.sub,.int .i64 s.regs,.int .i64 0,.int .i64 3,arrs,vL,.ms nb 0 (pre.length+1)]):=by rw[h4,cY,hl];rfl
 have st:∀(t:Term) {KH:HK},(∀h',aV h' n k arrs (kR s pre is t)->aJ n h h'->KH .undef h')->ab PP (.st (.c (.ptr nb pre.length 1)) (.c t.e) 13) h KH:=by
  intro t KH hK
  refine PR (i:=pre.length) h1 h2 h3 h4 h5 h6 (by rw[hl];omega) fun h' r' k'=>hK h' ?_ k'
  have:FO (kR s pre is t0).blocks pre.length t=pre++[⟨is,t⟩]:=by simp only[kR,FO];rw[Bi]
  rw[this]at r'
  exact r'
 have c1:((0:Int)<=(pre.length:Int))=True:=eq_true (by omega)
 have c2:((pre.length:Int)<((pre.length+1:Nat):Int))=True:=eq_true (by omega)
 have c3:(∃els,(h nb).row=some (14,els))=True:=eq_true ⟨_,by rw[h5];rfl⟩
 have eu:(h nb).used=true:=by rw[h5];rfl
 refine⟨bs,j,vL,nb,e4,by rw[h4];rfl,by rw[h5];rfl,fun t KH hK=>?_,fun t KH hK=>?_⟩
 ·rw[bF,c1,c2,c3]
  simp only[true_and,Int.toNat_natCast,Nat.zero_add,↓ba eu]
  exact st t hK
 ·rw[fh,bF,c1,c2,c3]
  simp only[true_and,Int.toNat_natCast,Nat.zero_add,↓Hw eu]
  exact st t hK
theorem rQ {h:Heap}{n k:Nat}{arrs:D}{s:MS}{bs:List Block}(r:aV h n k arrs { s with blocks:=bs }) (hl:bs.length<=50){KH:HK}
  (hK:∀h':Heap,aV h' n k arrs (kR s bs [] iO)->aJ n h h'->KH (.tup []) h'):ag PP bm [.ptr n 0 0] h KH :=
 Qn r (by simp only;omega) fun h' r' k'=>hK h' r' k'
theorem Pb {h:Heap}{n k:Nat}{arrs:D}{s:MS}{v:Int}(r:aV h n k arrs s){KH:HK}
  (hK:∀h':Heap,aV h' n k arrs { s with regs:=v }->aJ n h h'->KH .undef h'):ab PP (.st (.c (.ptr n 0 4)) (.c (.int .i64 v)) 1) h KH:=by
 obtain⟨bs,j,vL,vB,vs,h1,h2,h3,h4,h5⟩:=r.st
 rw[dq,h4]
 refine⟨rfl,by simp,rfl,by simp[cY],?_⟩
 exact hK _ ⟨bs,j,vL,vB,vs,h1,h2,h3,by rw[ad];simp[cY,setCells],h5.box h4 _⟩ aJ.self
theorem Rq {h:Heap}{n k:Nat}{arrs:D}{s:MS}{v:Int}(r:aV h n k arrs s){KH:HK}
  (hK:∀h':Heap,aV h' n k arrs { s with sub:=v }->aJ n h h'->KH .undef h'):ab PP (.st (.c (.ptr n 0 3)) (.c (.int .i64 v)) 1) h KH:=by
 obtain⟨bs,j,vL,vB,vs,h1,h2,h3,h4,h5⟩:=r.st
 rw[dq,h4]
 refine⟨rfl,by simp,rfl,by simp[cY],?_⟩
 exact hK _ ⟨bs,j,vL,vB,vs,h1,h2,h3,by rw[ad];simp[cY,setCells],h5.box h4 _⟩ aJ.self
theorem app_loop {h:Heap}{n k:Nat}{arrs:D}{s:MS}{l:Loop}{bytes:Nat}{z z':D}(r:aV h n k arrs s) (hl:s.loops.length<=1000) (hby:bytes<=1000){bs0:List Nat}{j0:Nat}{vL:D}{vB:D}(e:h n=.box (cY bs0 j0 arrs s vL vB)){KH:HK}
  (hK:∀h':Heap,aV h' n k arrs { s with loops:=s.loops++[l] }->aJ n h h'->KH .undef h') :
  ab PP (.bldS true 3 1 z [(0,.c l.e)]) h fun x h1=>ab PP (.app (.c vL) (.c x) 3 bytes z') h1 fun v h2=>ab PP (.fadd (.c (.ptr n 0 0)) 0) h2 fun a h3=>ab PP (.fadd (.c a) 2) h3 fun b h4=>ab PP (.fadd (.c b) 6) h4 fun c h5=>ab PP (.st (.c c) (.c v) 1) h5 KH:=by
 obtain⟨bs,j,vL',vB',vs,h1,h2,h3,h4,h5⟩:=r.st
 have ee:vL=vL'/\vB=vB'/\bs0=bs/\j0=j:=by
  rw[e]at h4
  simp only[cY,Slot.box.injEq,D.agg.injEq,List.cons.injEq,D.int.injEq,and_true,true_and,wM,D.sl.injEq]at h4
  obtain⟨q1,q2,q3,q4⟩:=h4
  refine⟨q3,q4,?_,by omega⟩
  have:=congrArg (List.map (fun d=>match d with|D.int _ i=>i.toNat|_=>0)) q1
  simpa[List.map_map,Function.comp_def] using this
 obtain⟨rfl,rfl,rfl,rfl⟩:=ee
 have hbb:((List.map Loop.e s.loops).length+1)*bytes<=140737488355328:=by
  rw[List.length_map]
  exact Nat.le_trans (Nat.mul_le_mul (show s.loops.length+1<=1001 by omega) hby) (by omega)
 refine NP h5.oL (Loop.bZ l) rfl hbb (by rw[List.length_map];omega) fun m h' f1 f2 f3=>?_
 have hnm:n≠m:=by rintro rfl;rw[h4]at f1;cases f1
 have hnL:n∉vL.jA:=fun hm=>by have:=oH h5.oL hm;rw[h4]at this;cases this
 have h4':h' n=h n:=f3 n hnm hnL (by rw[h4];simp)
 have eu:(h' n).used=true:=by rw[h4',h4];rfl
 simp only[↓ba eu,Nat.zero_add,Nat.reduceAdd]
 rw[dq,h4',h4]
 refine⟨rfl,by simp,rfl,by simp[cY],?_⟩
 have hnew:∀k',k'∈bN (vL::vB::vs)->h k'≠.free:=fun k' hk'=>by obtain⟨e,l,hkl⟩:=h5.arr hk';rw[hkl];simp
 have hmn:m∉bN (vL::vB::vs):=fun hm=>hnew m hm f1
 have hnd:=h5.nd
 rw[bn]at hnd hmn
 simp only[List.mem_append,not_or]at hmn
 have hnd':=List.nodup_append.1 hnd
 have same:∀{x:Slot}(k':Nat),k'∈bN (vB::vs)->(ah h' n x) k'=h k':=by
  intro x k' hk'
  have hkk:k'∈bN (vL::vB::vs):=by rw[bn];exact List.mem_append_right _ hk'
  have e1:k'≠n:=by
   rintro rfl
   obtain⟨e,l,hkl⟩:=h5.arr hkk
   rw[h4]at hkl;cases hkl
  have e2:k'≠m:=by rintro rfl;exact hmn.2 hk'
  have e3:k'∉vL.jA:=fun hL=>hnd'.2.2 k' hL k' hk' rfl
  rw[aa _ _ e1]
  exact f3 k' e2 e3 (hnew k' hkk)
 refine hK _ ⟨bs0,j0,.ms m 0 ((List.map Loop.e s.loops).length+1),vB,vs,h1,h2,h3,by rw[ad];simp[cY,setCells],?_⟩ fun q d hq hd=>?_
 ·refine⟨Or.inr ⟨m,by simp,by rw[aa _ _ hnm.symm,f2];simp⟩,dD h5.oB fun k' q=>same k' (kL (by simp) q),h5.len,fun i v b hv hb=>dD (h5.oI i v b hv hb) fun k' q=>same k' (kL ?_ q),?_⟩
  ·have:=List.mem_of_getElem? hv
   simp[this]
  ·rw[bn]
   exact List.nodup_cons.2 ⟨hmn.2,hnd'.2.1⟩
 ·rw[aa _ _ hq]
  have e2:q≠m:=by rintro rfl;rw[hd]at f1;cases f1
  have e3:q∉vL.jA:=fun hm=>by have:=oH h5.oL hm;rw[hd]at this;cases this
  rw[f3 q e2 e3 (by rw[hd];simp)];exact hd
structure Hp (h:Heap) (n k:Nat) (arrs:D) (s:MS) (vL vB:D):Prop where
 st:∃(bs:List Nat) (j:Nat) (vs:List D),(∀b∈bs,b<=255)/\bs.length<=9223372036854775807/\j<=k/\h n=.box (cY bs j arrs s vL vB)/\Rows h s.loops s.blocks vL vB vs
theorem Hp.rel {h:Heap}{n k:Nat}{arrs:D}{s:MS}{vL vB:D}(r:Hp h n k arrs s vL vB):aV h n k arrs s:=by
 obtain⟨bs,j,vs,h1,h2,h3,h4,h5⟩:=r.st
 exact⟨bs,j,vL,vB,vs,h1,h2,h3,h4,h5⟩
theorem aV.v {h:Heap}{n k:Nat}{arrs:D}{s:MS}(r:aV h n k arrs s):∃vL vB,Hp h n k arrs s vL vB:=by
 obtain⟨bs,j,vL,vB,vs,h1,h2,h3,h4,h5⟩:=r.st
 exact⟨vL,vB,bs,j,vs,h1,h2,h3,h4,h5⟩
theorem Hp.new {h:Heap}{n k:Nat}{arrs:D}{s:MS}{vL vB:D}(r:Hp h n k arrs s vL vB){m:Nat}(hm:h m=.free) (x:Slot):Hp (ah h m x) n k arrs s vL vB/\m≠n:=by
 obtain⟨bs,j,vs,h1,h2,h3,h4,h5⟩:=r.st
 have hne:n≠m:=by rintro rfl;rw[h4]at hm;cases hm
 exact⟨⟨bs,j,vs,h1,h2,h3,by rw[aa _ _ hne];exact h4,h5.free hm x⟩,hne.symm⟩
theorem Hp.av {h:Heap}{n k:Nat}{arrs:D}{s:MS}{vL vB:D}(r:Hp h n k arrs s vL vB){m:Nat}{d:D}(hm:h m=.box d) (hne:m≠n) (x:Slot):Hp (ah h m x) n k arrs s vL vB:=by
 obtain⟨bs,j,vs,h1,h2,h3,h4,h5⟩:=r.st
 exact⟨bs,j,vs,h1,h2,h3,by rw[aa _ _ hne.symm];exact h4,h5.box hm x⟩
theorem Hp.le {h:Heap}{n k k':Nat}{arrs:D}{s:MS}{vL vB:D}(r:Hp h n k arrs s vL vB) (hk:k<=k'):Hp h n k' arrs s vL vB:=by
 obtain⟨bs,j,vs,h1,h2,h3,h4,h5⟩:=r.st
 exact⟨bs,j,vs,h1,h2,by omega,h4,h5⟩
theorem xG {h:Heap}{n k:Nat}{arrs:D}{s:MS}{vL vB:D}(r:Hp h n k arrs s vL vB) (hk:k<1000000){KH:HK}(hK:∀(b:Nat) (h':Heap),b<=255->Hp h' n (k+1) arrs s vL vB->aJ n h h'->KH (.int .i64 (b:Int)) h') :
  ag PP ak [.ptr n 0 0] h KH:=by
 obtain⟨bs,j,vs,h1,h2,h3,h4,h5⟩:=r.st
 refine Hh h4 h1 h2 (by omega) fun b hb=>hK b _ hb ⟨bs,j+1,vs,h1,h2,by omega,ad _ _ _,h5.box h4 _⟩ aJ.self
theorem JC {vL vB:D}{h:Heap}{n k:Nat}{arrs:D}{s:MS}(r:Hp h n k arrs s vL vB) (hk:k<1000000){KH:HK}(hK:∀(b:Nat) (h':Heap),b<6->Hp h' n (k+1) arrs s vL vB->aJ n h h'->KH (fX (b:Int)).e h') :
  ag PP aZ [.ptr n 0 0] h KH:=by
 refine aW jS (aA _ _ _) rfl (jK _ _) ?_
 (unfold iY;try dsimp only[xL,yL,xF,yF,xI,yI,xS,zI,zJ])
 rw[bQ]
 intro m t
 obtain⟨r1,hne⟩:=r.new t.free (.box (.agg [(.int .i64 0),(.int .i64 0),(.int .i32 0)]))
 refine xG r1 hk fun b h' hb r2 hkeep=>?_
 have hm:=hkeep m _ hne (ad _ _ _)
 have e6:((b:Int).tmod 6)=((b % 6:Nat):Int):=bq b 6
 rw[bJ]
 refine⟨by omega,?_⟩
 rw[e6]
 refine bc ue ⟨bf,trivial⟩ ?_
 simp only[↓dq,hm]
 refine⟨by first|rfl|trivial,(dX.bZ _).one,by first|rfl|trivial,by simp,?_⟩
 have hset:setCells (.agg [(.int .i64 0),(.int .i64 0),(.int .i32 0)]) 0 (fX ((b % 6:Nat):Int)).e.cells=(fX ((b % 6:Nat):Int)).e:=rfl
 rw[hset]
 simp only[↓jE,ad,true_and]
 refine⟨by simp[dX.e,dX.cs],?_⟩
 refine hK (b % 6) _ (Nat.mod_lt _ (by omega)) (r2.av hm hne _) fun q d hq hd=>?_
 have hqm:q≠m:=by rintro rfl;rw[t.free]at hd;cases hd
 rw[aa _ _ hqm]
 exact hkeep q d hq (by rw[aa _ _ hqm];exact hd)
theorem Oq {vL vB:D}{h:Heap}{n k:Nat}{arrs:D}{s:MS}(r:Hp h n k arrs s vL vB) (hk:k<1000000){KH:HK}(hK:∀(o:dX) (h':Heap),Br o->Hp h' n (k+1) arrs s vL vB->aJ n h h'->KH o.e h') :
  ag PP aY [.ptr n 0 0] h KH:=by
 refine aW jQ (aA _ _ _) rfl (jI _ _) ?_
 (unfold iX;try dsimp only[xL,yL,xF,yF,xI,yI,xS,zI,zJ])
 rw[bQ]
 intro m t
 obtain⟨r1,hne⟩:=r.new t.free (.box (.agg [(.int .i64 0),(.int .i64 0),(.int .i32 0)]))
 refine xG r1 hk fun b h' hb r2 hkeep=>?_
 have hm:=hkeep m _ hne (ad _ _ _)
 have fin:∀o:dX,Br o->ab PP (.st (.c (.ptr m 0 0)) (.c o.e) 3) h' fun _ h1=>ab PP (.ld (.c (.ptr m 0 0)) 3 true) h1 fun a _=>KH a h1:=by
  intro o ho
  simp only[↓dq,hm]
  refine⟨by first|rfl|trivial,(dX.bZ _).one,by first|rfl|trivial,by simp[dX.e,dX.cs],?_⟩
  have hset:setCells (.agg [(.int .i64 0),(.int .i64 0),(.int .i32 0)]) 0 o.e.cells=o.e:=rfl
  rw[hset]
  simp only[↓jE,ad,true_and]
  refine⟨by simp[dX.e,dX.cs],?_⟩
  refine hK o _ ho (r2.av hm hne _) fun q d hq hd=>?_
  have hqm:q≠m:=by rintro rfl;rw[t.free]at hd;cases hd
  rw[aa _ _ hqm]
  exact hkeep q d hq (by rw[aa _ _ hqm];exact hd)
 have e3:((b:Int).tmod 3)=((b % 3:Nat):Int):=bq b 3
 have d3:IntKind.i64.wrap ((b:Int).tdiv 3)=((b / 3:Nat):Int):=by
  have:((b:Int).tdiv 3)=((b / 3:Nat):Int):=(Int.ofNat_tdiv b 3).symm
  rw[this];exact wrap64 (by omega) (by omega)
 rw[bJ]
 refine⟨by omega,?_⟩
 rw[e3,aM]
 by_cases hc:b % 3=0
 ·have hc':((b % 3:Nat):Int)=0:=by omega
  simp only[hc',decide_true,af,↓kn]
  refine⟨by omega,?_⟩
  have w:IntKind.i32.wrap ((b / 3:Nat):Int)=((b / 3:Nat):Int):=by simp only[IntKind.wrap,IntKind.signed,IntKind.bits];simp;omega
  have w2:IntKind.i32.wrap (((b / 3:Nat):Int)-20)=((b / 3:Nat):Int)-20:=by simp only[IntKind.wrap,IntKind.signed,IntKind.bits];simp;omega
  rw[d3,cu,w,gO,w2]
  refine bc th ⟨bf,trivial⟩ ?_
  exact fin _ (Or.inr ⟨_,by omega,by omega,rfl⟩)
 ·have hc':¬((b % 3:Nat):Int)=0:=by omega
  simp only[hc',decide_false,ae,↓kn]
  refine⟨by omega,?_⟩
  rw[d3,bJ]
  refine⟨by omega,?_⟩
  have e6:(((b / 3:Nat):Int).tmod 6)=((b / 3 % 6:Nat):Int):=bq (b / 3) 6
  rw[e6]
  refine bc ue ⟨bf,trivial⟩ ?_
  exact fin _ (Or.inl ⟨b / 3 % 6,Nat.mod_lt _ (by omega),rfl⟩)
theorem fJ {h:Heap}{n k:Nat}{arrs:D}{s:MS}{pre:List Block}{is:List aN}{t0:Term}{vL vB:D}(r:Hp h n k arrs (kR s pre is t0) vL vB) :
  ∃(bs:List Nat) (j:Nat) (nb:Nat),vB=.ms nb 0 (pre.length+1)/\h n=.box (.agg [wM bs,.int .i64 (j:Int),.int .i64 s.group,.int .i64 s.sub,.int .i64 s.regs,.int .i64 0,.int .i64 3,arrs,vL,vB])/\(h n).used=true /\
   (∀(t:Term) {KH:HK},(∀h',aV h' n k arrs (kR s pre is t)->aJ n h h'->KH .undef h') ->
    aq PP (.iadd (.c vB) (.c (.int .i64 (pre.length:Int))) 14) h fun a=>aq PP (.fadd (.c a) 1) h fun b=>ab PP (.st (.c b) (.c t.e) 13) h KH):=by
 obtain⟨bs,j,vs,h1,h2,h3,h4,h5⟩:=r.st
 obtain⟨bs',j',vL',nb',e',eu,-,-,st⟩:=l6 r.rel
 rw[h4]at e'
 simp only[cY,Slot.box.injEq,D.agg.injEq,List.cons.injEq,and_true]at e'
 obtain⟨q1,-,-,-,-,-,-,-,q3,q4⟩:=e'
 refine⟨bs,j,nb',q4,by rw[h4];rfl,eu,fun t KH hK=>?_⟩
 rw[q4]
 exact st t hK
theorem Ki {esz:Nat}{h:Heap}{v:D}{els:List D}(ho:Own esz h v els){K:D->Prop}:bR v h K=K (.int .i64 (els.length:Int)):=by
 rcases ho with⟨rfl,rfl⟩|⟨m,rfl,hm⟩
 ·rfl
 ·rw[iJ,hm];simp[Slot.live]
theorem J9 {h:Heap}{n k:Nat}{arrs:D}{s:MS}(r:aV h n k arrs s):∃(bs:List Nat) (j:Nat) (vL vB:D),
  h n=.box (cY bs j arrs s vL vB)/\(h n).used=true/\(∀K:D->Prop,bR vL h K=K (.int .i64 (s.loops.length:Int))):=by
 obtain⟨bs,j,vL,vB,vs,h1,h2,h3,h4,h5⟩:=r.st
 exact⟨bs,j,vL,vB,h4,by rw[h4];rfl,fun K=>by rw[Ki h5.oL,List.length_map]⟩
def Jg (s:MS) (hd:Nat) (b:Int):MS:={ s with regs:=6+2*(s.loops.length:Int)+2,loops:=s.loops++[⟨(hd:Int),6+2*(s.loops.length:Int),b⟩] }
set_option maxHeartbeats 2000000 in
theorem SI {h:Heap}{n k:Nat}{s:MS}{pre:List Block}{is:List aN}{t:Term}(r:aV h n k br (kR s pre is t)) (hA:jU (pre.length+1) s.regs pre) (hX:kT s.regs is) (hi:is.length<=10) (hp:pre.length<=40)
  (hq:s.loops.length<=10) (hR:s.regs=6+2*(s.loops.length:Int)) (hk:k<600000) {KH:HK}
  (hK:∀(b:Int) (bs:List Block) (h':Heap),1<=b->b<=3->bs.length=pre.length+3->jU (pre.length+4) (s.regs+2) bs->aV h' n (k+100) br { Jg s (pre.length+1) b with blocks:=bs }->aJ n h h'->KH (.tup []) h') :
  ag PP dK [.ptr n 0 0] h KH:=by
 refine aW qD (aA _ _ _) rfl (qw _ _) ?_
 (unfold lJ;try dsimp only[xL,yL,xF,yF,xI,yI,xS,zI,zJ])
 obtain⟨bs0,j0,vL0,vB0,e0,eu0,el0⟩:=J9 r
 unfold cY at e0
 have el0':∀K:D->Prop,bR vL0 h K=K (.int .i64 (s.loops.length:Int)):=el0
 generalize hqe:s.loops.length=q at *
 simp only[↓ba eu0,Nat.zero_add,Nat.reduceAdd,↓eR e0 (j:=8) rfl,el0']
 rw[gb,wrap64 (by omega) (by omega),bp,wrap64 (by omega) (by omega)]
 refine eO r (by omega) fun b h1 _ r1 k1=>?_
 rw[bJ]
 refine⟨by omega,?_⟩
 rw[show((b:Int).tmod 3)=((b % 3:Nat):Int) from bq b 3,bp,wrap64 (by omega) (by omega),bp,wrap64 (by omega) (by omega)]
 have hb3:b % 3<3:=Nat.mod_lt _ (by omega)
 generalize hbe:1+((b % 3:Nat):Int)=bd
 have hbd1:1<=bd:=by omega
 have hbd2:bd<=3:=by omega
 obtain⟨-,-,-,-,-,eu1,-⟩:=J9 r1
 simp only[↓ba eu1,Nat.zero_add,Nat.reduceAdd]
 refine Pb (v:=6+2*(q:Int)+2) r1 fun h2 r2 k2=>?_
 have r2:aV h2 n (k+1) br (kR { s with regs:=6+2*(q:Int)+2 } pre is t):=r2
 obtain⟨bs2,j2,vL2,nb2,e2,eu2,lv2,-,-⟩:=l6 r2
 simp only[↓ba eu2,Nat.zero_add,Nat.reduceAdd,↓eR e2 (j:=9) rfl,↓iJ,lv2,true_and]
 refine bc ue ⟨bf,trivial⟩ ?_
 refine bc th ⟨bf,trivial⟩ ?_
 have hB9:∀{is':List aN},is'.length<=900->Ma pre is' 900:=fun hh=>hA.SM (by omega) hh
 refine iU ⟨1,0,0,fX (6+2*(q:Int)),Const 0,an,an⟩ r2 (hB9 (by omega)) rfl rfl fun h3 r3 k3=>?_
 obtain⟨bs3,j3,vL3,nb3,e3,eu3,lv3,QI,-⟩:=l6 r3
 simp only[↓ba eu3,Nat.zero_add,Nat.reduceAdd,↓eR e3 (j:=9) rfl]
 rw[gO,wrap64 (by omega) (by omega),cI rfl,cI rfl,show((pre.length+1:Nat):Int)-1=(pre.length:Int) by omega]
 refine QI ⟨1,0,an,an,an,((pre.length+1:Nat):Int),0⟩ fun h4 r4 k4=>?_
 have kk4:=(((k1.trans k2).trans k3).trans k4)
 refine⟨fun qs h'=>qs=[.ptr n 0 0,.int .i64 (6+2*(q:Int)),.int .i64 bd,.int .i64 ((pre.length+1:Nat):Int)] /\
  aV h' n (k+1) br (kR (Jg s (pre.length+1) bd) pre (is++[⟨1,0,0,fX (6+2*(q:Int)),Const 0,an,an⟩]) ⟨1,0,an,an,an,((pre.length+1:Nat):Int),0⟩)/\aJ n h h',?_,?_⟩
 ·rintro f h5 ⟨hf,r5,k5⟩
  simp only[List.cons.injEq,and_true]at hf
  obtain⟨f0,f2,f3,f4⟩:=hf
  rw[f0,f2,f3,f4]
  clear QI e3 e2 e0
  have hreg:(Jg s (pre.length+1) bd).regs=s.regs+2:=by simp only[Jg,hqe];omega
  have rn:kU (s.regs+2) (fX (6+2*(q:Int))):=⟨_,by omega,by omega,rfl⟩
  have rn1:kU (s.regs+2) (fX (6+2*(q:Int)+1)):=⟨_,by omega,by omega,rfl⟩
  obtain⟨B1,hB1⟩:∃B:Block,B=⟨is++[⟨1,0,0,fX (6+2*(q:Int)),Const 0,an,an⟩],⟨1,0,an,an,an,((pre.length+1:Nat):Int),0⟩⟩:=⟨_,rfl⟩
  have A1:jU (pre.length+4) (s.regs+2) (pre++[B1]):=(hA.mono (by omega) (by omega)).snoc (by
   rw[hB1]
   exact⟨(hX.mono (by omega)).append (.one (.mov _ _ rn (Or.inr ⟨0,by omega,by omega,rfl⟩)) (by simp)),by simp;omega,.jump (pre.length+1) (by omega)⟩)
  have r5':aV h5 n (k+1) br { Jg s (pre.length+1) bd with blocks:=pre++[B1] }:=by rw[hB1];exact r5
  have l1:(pre++[B1]).length=pre.length+1:=by simp
  clear hB1 r5
  generalize pre++[B1]=pre1 at A1 r5' l1
  refine rQ r5' (by omega) fun h6 r6 k6=>?_
  rw[bp,wrap64 (by omega) (by omega)]
  refine bc ue ⟨bf,trivial⟩ ?_
  refine bc ue ⟨bf,trivial⟩ ?_
  rw[cu,show IntKind.i32.wrap bd=bd by simp only[IntKind.wrap,IntKind.signed,IntKind.bits];simp;omega]
  refine bc th ⟨bf,trivial⟩ ?_
  refine iU ⟨3,26,0,fX (6+2*(q:Int)+1),fX (6+2*(q:Int)),Const bd,an⟩ r6 (A1.SM (by omega) (by simp)) rfl rfl fun h7 r7 k7=>?_
  obtain⟨bs7,j7,vL7,nb7,e7,eu7,lv7,-,st7⟩:=l6 r7
  simp only[↓Hw eu7,Nat.zero_add,Nat.reduceAdd,↓cj e7 (j:=9) rfl]
  rw[bp,wrap64 (by omega) (by omega)]
  refine iK ue ⟨bf,trivial⟩ ?_
  rw[bp,wrap64 (by omega) (by omega),bp,wrap64 (by omega) (by omega),gZ rfl,gZ rfl]
  rw[l1]at st7 ⊢
  refine st7 ⟨2,0,an,fX (6+2*(q:Int)+1),an,((pre.length+1:Nat):Int)+1,((pre.length+1:Nat):Int)+2⟩ fun h8 r8 k8=>?_
  obtain⟨B2,hB2⟩:∃B:Block,B=⟨[]++[⟨3,26,0,fX (6+2*(q:Int)+1),fX (6+2*(q:Int)),Const bd,an⟩],⟨2,0,an,fX (6+2*(q:Int)+1),an,((pre.length+1:Nat):Int)+1,((pre.length+1:Nat):Int)+2⟩⟩:=⟨_,rfl⟩
  have A2:jU (pre.length+4) (s.regs+2) (pre1++[B2]):=A1.snoc (by
   rw[hB2]
   exact⟨.one (.bin _ _ _ _ (by omega) rn1 rn.val (Or.inr ⟨bd,by omega,by omega,rfl⟩)) (by simp),by simp,.branch _ (pre.length+2) (pre.length+3) rn1 (by omega) (by omega)⟩)
  have r8':aV h8 n (k+1) br { Jg s (pre.length+1) bd with blocks:=pre1++[B2] }:=by rw[hB2];exact r8
  have l2:(pre1++[B2]).length=pre.length+2:=by simp;omega
  clear hB2 r8 st7 e7
  generalize pre1++[B2]=pre2 at A2 r8' l2
  refine rQ r8' (by omega) fun h9 r9 k9=>?_
  refine bc ue ⟨bf,trivial⟩ ?_
  refine bc ue ⟨bf,trivial⟩ ?_
  refine bc th ⟨bf,trivial⟩ ?_
  refine iU ⟨3,10,0,fX (6+2*(q:Int)),fX (6+2*(q:Int)),Const 1,an⟩ r9 (A2.SM (by omega) (by simp)) rfl rfl fun h10 r10 k10=>?_
  refine DE r10 (A2.SM (by omega) (by simp)) (by omega) fun xs h11 hxs hxl r11 k11=>?_
  obtain⟨bs11,j11,vL11,nb11,e11,eu11,lv11,st11,-⟩:=l6 r11
  simp only[↓ba eu11,Nat.zero_add,Nat.reduceAdd,↓eR e11 (j:=9) rfl]
  rw[bp,wrap64 (by omega) (by omega),cI rfl,cI rfl]
  rw[l2]at st11 ⊢
  rw[show((pre.length+1:Nat):Int)+1=((pre.length+2:Nat):Int) by omega]
  refine st11 ⟨1,0,an,an,an,((pre.length+1:Nat):Int),0⟩ fun h12 r12 k12=>?_
  clear st11 e11
  have hxs2:kT (s.regs+2) ([]++[⟨3,10,0,fX (6+2*(q:Int)),fX (6+2*(q:Int)),Const 1,an⟩]++xs) :=
   (kT.one (.bin _ _ _ _ (by omega) rn rn.val (Or.inr ⟨1,by omega,by omega,rfl⟩)) (by simp)).append (hxs.mono (by omega))
  have hxl2:([]++[⟨3,10,0,fX (6+2*(q:Int)),fX (6+2*(q:Int)),Const 1,an⟩]++xs:List aN).length<=20:=by simp;omega
  generalize ([]++[⟨3,10,0,fX (6+2*(q:Int)),fX (6+2*(q:Int)),Const 1,an⟩]++xs:List aN)=ys at hxs2 hxl2 r12
  have kk:=((((((k5.trans k6).trans k7).trans k8).trans k9).trans k10).trans k11).trans k12
  refine⟨fun qs h'=>∃c:Bool,qs=[.ptr n 0 0,.int .i64 ((pre.length+1:Nat):Int),.bool c]/\aV h' n (k+52) br (kR (Jg s (pre.length+1) bd) pre2 ys ⟨1,0,an,an,an,((pre.length+1:Nat):Int),0⟩)/\aJ n h h',?_,?_⟩
  ·rintro g h13 ⟨c,hg,r13,k13⟩
   simp only[List.cons.injEq,and_true]at hg
   obtain⟨g0,g4,g119⟩:=hg
   rw[g0,g4,g119]
   cases c with
   | false =>
    rw[ae]
    exact hK bd _ h13 hbd1 hbd2 (by simp;omega) (A2.snoc ⟨hxs2,hxl2,.jump (pre.length+1) (by omega)⟩) (r13.le (by omega)) k13
   | true =>
    rw[af]
    obtain⟨vL13,vB13,r13⟩:=r13.v
    obtain⟨bs13,j13,nb13,ev13,e13,eu13,-⟩:=fJ r13
    simp only[↓Hw eu13,Nat.zero_add,Nat.reduceAdd,↓cj e13 (j:=9) rfl]
    rw[bp,wrap64 (by omega) (by omega),bp,wrap64 (by omega) (by omega),gZ rfl]
    refine JC r13 (by omega) fun d h14 hd r14 k14=>?_
    obtain⟨bs14,j14,nb14,ev14,e14,eu14,st14⟩:=fJ r14
    simp only[↓Hw eu14,Nat.zero_add,Nat.reduceAdd,↓cj e14 (j:=9) rfl,ai,true_and]
    rw[gZ rfl,show((pre.length+1:Nat):Int)+1=(pre2.length:Int) by omega]
    refine st14 ⟨2,0,an,fX d,an,((pre.length+1:Nat):Int),((pre.length+1:Nat):Int)+2⟩ fun h15 r15 k15=>?_
    exact hK bd _ h15 hbd1 hbd2 (by simp;omega) (A2.snoc ⟨hxs2,hxl2,.branch (fX d) (pre.length+1) (pre.length+3) ((eo hd).mono (by omega)) (by omega) (by omega)⟩) (r15.le (by omega)) ((k13.trans k14).trans k15)
  ·refine eO r12 (by omega) fun b' h13 _ r13 k13=>?_
   rw[bJ]
   refine⟨by omega,?_⟩
   rw[aM]
   exact⟨rfl,_,rfl,r13.le (by omega),kk.trans k13⟩
 ·obtain⟨bs4,j4,vL4,vB4,e4,eu4,-⟩:=J9 r4
  have e4':=e4
  unfold cY at e4'
  simp only[↓ba eu4,Nat.zero_add,Nat.reduceAdd,↓eR e4' (j:=8) rfl]
  rw[cI rfl]
  refine app_loop (l:=⟨((pre.length+1:Nat):Int),6+2*(q:Int),bd⟩) r4 (by simp only[kR];omega) (by omega) e4 fun h5 r5 k5=>?_
  refine⟨by first|rfl|trivial,by first|rfl|trivial,?_,kk4.trans k5⟩
  have:Jg s (pre.length+1) bd={ s with regs:=6+2*(q:Int)+2,loops:=s.loops++[⟨((pre.length+1:Nat):Int),6+2*(q:Int),bd⟩] }:=by rw[Jg,hqe]
  rw[this]
  exact r5
end Go.Am
namespace Go.Am
open Go
set_option maxHeartbeats 2000000 in
theorem Iy {h:Heap}{n k m:Nat}{s:MS}{bs:List Block}(r:aV h n k br { s with blocks:=bs }) (hA:jU (bs.length+1) s.regs bs) (hl:bs.length<=40) (hR:6<=s.regs) (hm:m<=2) (hk:k<500000){KH:HK}
  (hK:∀(pre:List Block) (is:List aN) (h':Heap),pre.length=bs.length+m->jU (pre.length+1) s.regs pre->kT 6 is->is.length<=8->aV h' n (k+300) br (kR s pre is iO)->aJ n h h'->KH (.tup []) h') :
  ag PP er [.ptr n 0 0,.int .i64 (m:Int)] h KH:=by
 refine aW oi (aA _ _ _) rfl (nJ _ _ _) ?_
 (unfold jJ;try dsimp only[xL,yL,xF,yF,xI,yI,xS,zI,zJ])
 refine rQ r (by omega) fun h1 r1 k1=>?_
 obtain⟨bs1,j1,vL1,nb1,e1,eu1,lv1,-,-⟩:=l6 r1
 simp only[↓ba eu1,Nat.zero_add,Nat.reduceAdd,↓eR e1 (j:=9) rfl,↓iJ,lv1,true_and]
 rw[gO,wrap64 (by omega) (by omega),bp,wrap64 (by omega) (by omega),show((bs.length+1:Nat):Int)-1=(bs.length:Int) by omega]
 refine⟨fun qs h'=>qs=[]/\∃pre:List Block,pre.length=bs.length+m/\jU (pre.length+1) s.regs pre/\aV h' n (k+200) br (kR s pre [] iO)/\aJ n h h',?_,?_⟩
 ·rintro f h2 ⟨-,pre,hpl,hpA,r2,k2⟩
  refine DE r2 (hpA.SM (by omega) (by simp)) (by omega) fun xs h3 hx hxl r3 k3=>?_
  exact hK pre xs h3 hpl hpA hx hxl (r3.le (by omega)) (k2.trans k3)
 ·(unfold iC;try dsimp only[xL,yL,xF,yF,xI,yI,xS,zI,zJ])
  refine⟨fun j qs h'=>j<=m/\qs=[.int .i64 ((bs.length+(m-j):Nat):Int)]/\∃pre:List Block,pre.length=bs.length+(m-j)/\jU (bs.length+m+1) s.regs pre/\aV h' n (k+80*(m-j)) br (kR s pre [] iO)/\aJ n h h',m,⟨Nat.le_refl _,by simp,bs,by simp,hA.mono (by omega) (by omega),by simpa using r1,k1⟩,?_⟩
  rintro j f h2 ⟨hj,hq,pre,hpl,hpA,r2,k2⟩
  simp only[List.cons.injEq,and_true]at hq
  rw[hq,bK,show(bs.length:Int)+(m:Int)=((bs.length+m:Nat):Int) by omega]
  by_cases h0:0<j
  ·simp only[show(((bs.length+(m-j):Nat):Int)<((bs.length+m:Nat):Int))=True from eq_true (by omega),decide_true,↓af]
   refine DE r2 (hpA.SM (by omega) (by simp)) (by omega) fun xs h3 hx hxl r3 k3=>?_
   rw[List.nil_append]at r3
   obtain⟨bs3,j3,vL3,nb3,e3,eu3,lv3,QI,-⟩:=l6 r3
   simp only[↓ba eu3,Nat.zero_add,Nat.reduceAdd,↓eR e3 (j:=9) rfl]
   rw[bp,wrap64 (by omega) (by omega),cI rfl,cI rfl]
   rw[show((bs.length+(m-j):Nat):Int)+1=((bs.length+(m-j)+1:Nat):Int) by omega]
   rw[hpl]at QI ⊢
   refine QI ⟨1,0,an,an,an,((bs.length+(m-j)+1:Nat):Int),0⟩ fun h4 r4 k4=>?_
   clear QI e3
   have kk4:=(k2.trans k3).trans k4
   refine⟨fun qs h'=>qs=[]/\∃T:Term,Hx (bs.length+m+1) s.regs T/\aV h' n (k+80*(m-j)+60) br (kR s pre xs T)/\aJ n h h',?_,?_⟩
   ·rintro g h5 ⟨-,T,hT,r5,k5⟩
    have A5:jU (bs.length+m+1) s.regs (pre++[⟨xs,T⟩]):=hpA.snoc ⟨hx.mono hR,by simp only;omega,hT⟩
    refine rQ (bs:=pre++[⟨xs,T⟩]) r5 (by simp;omega) fun h6 r6 k6=>?_
    rw[bp,wrap64 (by omega) (by omega)]
    refine⟨rfl,j-1,by omega,by omega,?_,pre++[⟨xs,T⟩],by simp;omega,A5,r6.le (by omega),k5.trans k6⟩
    congr 2
    omega
   ·refine eO r4 (by omega) fun b h5 _ r5 k5=>?_
    rw[bJ]
    refine⟨by omega,?_⟩
    rw[show((b:Int).tmod 2)=((b % 2:Nat):Int) from bq b 2,aM]
    by_cases hb2:b % 2=0
    ·simp only[show(((b % 2:Nat):Int)=0)=True from eq_true (by omega),decide_true,↓af]
     obtain⟨vL5,vB5,r5⟩:=r5.v
     obtain⟨bs5,j5,nb5,ev5,e5,eu5,-⟩:=fJ r5
     simp only[↓Hw eu5,Nat.zero_add,Nat.reduceAdd,↓cj e5 (j:=9) rfl]
     rw[bp,wrap64 (by omega) (by omega),gO,wrap64 (by omega) (by omega),bp,wrap64 (by omega) (by omega),gO,wrap64 (by omega) (by omega)]
     refine JC r5 (by omega) fun d h6 hd r6 k6=>?_
     obtain⟨bs6,j6,nb6,ev6,e6,eu6,-⟩:=fJ r6
     simp only[↓Hw eu6,Nat.zero_add,Nat.reduceAdd,↓cj e6 (j:=9) rfl,ai,true_and]
     refine xG r6 (by omega) fun x h7 _ r7 k7=>?_
     obtain⟨bs7,j7,nb7,ev7,e7,eu7,-⟩:=fJ r7
     simp only[↓Hw eu7,Nat.zero_add,Nat.reduceAdd,↓cj e7 (j:=9) rfl,ai,true_and]
     rw[bJ]
     refine⟨by omega,?_⟩
     rw[show((bs.length+m:Nat):Int)-((bs.length+(m-j):Nat):Int)=(j:Int) by omega,show((x:Int).tmod (j:Int))=((x % j:Nat):Int) from bq x j]
     have hx1:x % j<j:=Nat.mod_lt _ h0
     rw[bp,wrap64 (by omega) (by omega)]
     refine xG r7 (by omega) fun y h8 _ r8 k8=>?_
     obtain⟨bs8,j8,nb8,ev8,e8,eu8,st8⟩:=fJ r8
     simp only[↓Hw eu8,Nat.zero_add,Nat.reduceAdd,↓cj e8 (j:=9) rfl,ai,true_and]
     rw[bJ]
     refine⟨by omega,?_⟩
     rw[show((y:Int).tmod (j:Int))=((y % j:Nat):Int) from bq y j]
     have hy1:y % j<j:=Nat.mod_lt _ h0
     rw[bp,wrap64 (by omega) (by omega),gZ rfl,gZ rfl]
     rw[hpl]at st8
     refine st8 ⟨2,0,an,fX d,an,((bs.length+(m-j):Nat):Int)+1+((x % j:Nat):Int),((bs.length+(m-j):Nat):Int)+1+((y % j:Nat):Int)⟩ fun h9 r9 k9=>?_
     try simp only[ai,true_and]
     refine⟨_,?_,r9.le (by omega),((((kk4.trans k5).trans k6).trans k7).trans k8).trans k9⟩
     have e1:((bs.length+(m-j):Nat):Int)+1+((x % j:Nat):Int)=((bs.length+(m-j)+1+x % j:Nat):Int):=by omega
     have e2:((bs.length+(m-j):Nat):Int)+1+((y % j:Nat):Int)=((bs.length+(m-j)+1+y % j:Nat):Int):=by omega
     rw[e1,e2]
     exact .branch _ _ _ ((eo hd).mono hR) (by omega) (by omega)
    ·simp only[show(((b % 2:Nat):Int)=0)=False from eq_false (by omega),decide_false,↓ae]
     try simp only[ai,true_and]
     exact⟨_,.jump _ (by omega),r5.le (by omega),kk4.trans k5⟩
  ·simp only[show(((bs.length+(m-j):Nat):Int)<((bs.length+m:Nat):Int))=False from eq_false (by omega),decide_false,↓ae]
   have hj0:j=0:=by omega
   subst hj0
   try simp only[ai,true_and]
   exact⟨pre,by omega,by rw[hpl];exact hpA.mono (by omega) (by omega),r2.le (by omega),k2⟩
end Go.Am
namespace Go.Am
open Go
theorem GQ {esz:Nat}{h:Heap}{v:D}{els:List D}(ho:Own esz h v els) (hv:∀x∈els,∀y∈x.cells,y.vone=true):lQ h v/\(v.fzc h).vone=true/\v.one=true/\Wk (v.fzc h) (.sl els):=by
 rcases ho with⟨rfl,rfl⟩|⟨m,rfl,hm⟩
 ·exact⟨trivial,rfl,rfl,.nil⟩
 ·have hrow:(h m).row=some (esz,els):=by rw[hm];rfl
  have e:(D.ms m 0 els.length).fzc h=.sl els:=by simp[D.fzc,hrow]
  exact⟨⟨esz,els,hrow,by simp,fun x hx=>hv x (by simpa using hx)⟩,by rw[e];rfl,rfl,by rw[e];exact .refl _⟩
theorem EF {l:List aN}:∀x,x∈l.map aN.e->∀y∈x.cells,y.vone=true:=by
 intro x hx y hy
 obtain⟨a,-,rfl⟩:=List.mem_map.1 hx
 simp[aN.e,aN.cs]at hy
 rcases hy with rfl|rfl|rfl|rfl|rfl|rfl|rfl|rfl|rfl|rfl|rfl|rfl|rfl|rfl|rfl<;>rfl
theorem Ji {l:List Loop}:∀x,x∈l.map Loop.e->∀y∈x.cells,y.vone=true:=by
 intro x hx y hy
 obtain⟨a,-,rfl⟩:=List.mem_map.1 hx
 simp[Loop.e]at hy
 rcases hy with rfl|rfl|rfl<;>rfl
theorem np {t:Term}:∀x∈t.cs,x.vone=true/\x.jA=[]/\(∀h,x.fzc h=x/\lQ h x):=by
 intro x hx
 simp[Term.cs]at hx
 rcases hx with rfl|rfl|rfl|rfl|rfl|rfl|rfl|rfl|rfl|rfl|rfl|rfl|rfl<;>exact⟨rfl,rfl,fun h=>⟨rfl,trivial⟩⟩
theorem J0 {t:Term}{h:Heap}:t.cs.map (D.fzc h)=t.cs:=by
 rw[List.map_congr_left (fun x hx=>((np x hx).2.2 h).1)];simp
theorem Gs {vs:List D}{bs:List Block}(hl:vs.length=bs.length){e:D}(he:e∈cf vs bs):∃(i:Nat) (v:D) (b:Block),vs[i]?=some v/\bs[i]?=some b/\e=.agg (v::b.t.cs):=by
 obtain⟨i,hi⟩:=List.getElem?_of_mem he
 simp only[cf,List.getElem?_zipWith]at hi
 cases hv:vs[i]? with
 | none=>simp[hv]at hi
 | some v =>
  cases hb:bs[i]? with
  | none=>simp[hv,hb]at hi
  | some b=>simp only[hv,hb,Option.some.injEq]at hi;exact⟨i,v,b,hv,hb,hi.symm⟩
theorem NB {h:Heap}{loops:List Loop}{blocks:List Block}{vL vB:D}{vs:List D}(r:Rows h loops blocks vL vB vs) (hne:blocks≠[]) (g sb rg:Int) :
  ∃h'',Gy h h''/\ik (.agg [.int .i64 g,.int .i64 sb,.int .i64 rg,.int .i64 0,.int .i64 3,br,vL,vB])/\p8 h'' (.agg [.int .i64 g,.int .i64 sb,.int .i64 rg,.int .i64 0,.int .i64 3,br,vL,vB]) /\
   ((D.agg [.int .i64 g,.int .i64 sb,.int .i64 rg,.int .i64 0,.int .i64 3,br,vL,vB]).fzt h'').FB=true /\
   Wk ((D.agg [.int .i64 g,.int .i64 sb,.int .i64 rg,.int .i64 0,.int .i64 3,br,vL,vB]).fzt h'') (Code.e ⟨g,sb,rg,0,3,uf,loops,blocks⟩):=by
 have hel:=iB r.len
 obtain⟨nb,e1,e2⟩:=xb r.oB (by
  intro he
  have:=congrArg List.length he
  rw[hel]at this
  exact hne (List.length_eq_zero_iff.1 this))
 subst e1
 obtain⟨hs1,hs2⟩:=xd r.nd
 have names:∀k,k∈(cf vs blocks).flatMap D.nm->k∈bN vs:=by
  intro k hk
  obtain⟨e,he,hke⟩:=List.mem_flatMap.1 hk
  obtain⟨i,v,b,hv,hb,rfl⟩:=Gs r.len he
  simp only[D.nm,List.mem_flatMap,List.mem_cons]at hke
  obtain⟨x,hx|hx,hkx⟩:=hke
  ·subst hx;exact kL (List.mem_of_getElem? hv) hkx
  ·rw[(np x hx).2.1]at hkx;cases hkx
 have hd:KL h nb 14 (cf vs blocks):=by
  refine⟨fun hm=>hs1 (by rw[bn];exact List.mem_append_right _ (names nb hm)),fun e he=>?_⟩
  obtain⟨i,v,b,hv,hb,rfl⟩:=Gs r.len he
  obtain⟨f1,f2,f3,-⟩:=GQ (r.oI i v b hv hb) EF
  refine⟨fun x hx=>?_,fun x hx=>?_,fun y hy=>?_⟩
  ·simp only[D.cells,List.mem_cons]at hx
   rcases hx with rfl|hx
   ·exact f3
   ·exact D.de (np x hx).1
  ·simp only[D.cells,List.mem_cons]at hx
   rcases hx with rfl|hx
   ·exact f1
   ·exact((np x hx).2.2 h).2
  ·simp only[D.fz,D.cells,List.map_cons,List.mem_cons]at hy
   rcases hy with rfl|hy
   ·exact f2
   ·rw[J0]at hy
    exact(np y hy).1
 refine⟨eM h nb 14 (cf vs blocks),.step e2 hd (.refl _),?_⟩
 obtain⟨hI,eI⟩:∃hI,hI=eM h nb 14 (cf vs blocks):=⟨_,rfl⟩
 rw[<- eI]
 have hnb:hI nb=.arr 14 ((cf vs blocks).map (D.fz h)):=by rw[eI];exact kZ
 have oL:Own 3 hI vL (loops.map Loop.e):=dD r.oL fun k hk=>by
  rw[eI]
  refine EG ?_ fun hm=>?_
  ·rintro rfl;exact hs1 (by rw[bn];exact List.mem_append_left _ hk)
  ·rw[bn]at hs2
   exact(List.nodup_append.1 hs2).2.2 k hk k (names k hm) rfl
 obtain⟨l1,l2,l3,l4⟩:=GQ oL Ji
 have hrow:(hI nb).row=some (14,(cf vs blocks).map (D.fz h)):=by rw[hnb];rfl
 have eB:(D.ms nb 0 (cf vs blocks).length).fzc hI=.sl ((cf vs blocks).map (D.fz h)):=by
  simp only[D.fzc,hrow,List.drop_zero]
  rw[List.take_of_length_le (by simp)]
 have e:(D.agg [.int .i64 g,.int .i64 sb,.int .i64 rg,.int .i64 0,.int .i64 3,br,vL,.ms nb 0 (cf vs blocks).length]).fzt hI =
   .agg [.int .i64 g,.int .i64 sb,.int .i64 rg,.int .i64 0,.int .i64 3,br,vL.fzc hI,.sl ((cf vs blocks).map (D.fz h))]:=by
  simp only[D.fzt,D.fz,List.map_cons,List.map_nil,eB]
  rfl
 refine⟨fun x hx=>?_,fun x hx=>?_,?_,?_⟩
 ·simp only[D.cells,List.mem_cons,List.not_mem_nil,or_false]at hx
  rcases hx with rfl|rfl|rfl|rfl|rfl|rfl|rfl|rfl<;>first|rfl|exact l3
 ·simp only[D.cells,List.mem_cons,List.not_mem_nil,or_false]at hx
  rcases hx with rfl|rfl|rfl|rfl|rfl|rfl|rfl|rfl<;>first|exact trivial|exact l1|skip
  refine⟨14,_,hrow,by simp,fun x hx y hy=>?_⟩
  have hx:=List.mem_of_mem_drop (List.mem_of_mem_take hx)
  obtain⟨a,ha,rfl⟩:=List.mem_map.1 hx
  exact(hd.el a ha).2.2 y hy
 ·rw[e]
  show([D.int .i64 g,.int .i64 sb,.int .i64 rg,.int .i64 0,.int .i64 3,br,vL.fzc hI,.sl ((cf vs blocks).map (D.fz h))].all D.vone)=true
  simp only[List.all_cons,List.all_nil,HB,l2,br,JU,Bool.and_true,Bool.and_self]
 ·rw[e]
  refine Wk.OK (.cons (.refl _) (.cons (.refl _) (.cons (.refl _) (.cons (.refl _) (.cons (.refl _) (.cons (.refl _) (.cons l4 (.cons ?_ .nil))))))))
  refine .sl _ _ (by simp[hel]) fun i x y hx hy=>?_
  simp only[List.getElem?_map,Option.map_eq_some_iff]at hx hy
  obtain⟨x,hx,rfl⟩:=hx
  obtain⟨b,hb,rfl⟩:=hy
  obtain⟨v,hv⟩:∃v,vs[i]?=some v:=by
   have:=(List.getElem?_eq_some_iff.1 hb).1
   exact⟨vs[i]'(by rw[r.len];exact this),List.getElem?_eq_getElem _⟩
  rw[Au hv hb]at hx
  cases hx
  simp only[D.fz,List.map_cons,J0,Block.e]
  exact Wk.OK (.cons (GQ (r.oI i v b hv hb) EF).2.2.2 .rfl)
theorem Ow:aF PP lB [] (· = br):=by
 refine bg zf (aA _ _ _) rfl (yd _) ?_
 (unfold sk;try dsimp only[xL,yL,xF,yF,xI,yI,xS,zI,zJ])
 rw[cI rfl,cI rfl,cI rfl,cI rfl,cI rfl]
 refine⟨tj rfl,fun _=>?_,fun n t=>?_⟩
 ·intro p hp
  simp[Arg.get]at hp
  rcases hp with rfl|rfl|rfl|rfl|rfl<;>(intro x hx;simp[D.cells,fillD]at hx;rcases hx with rfl|rfl|rfl|rfl<;>exact trivial)
 ·show qH _ (.ms n 0 5) (ah aC n (.arr 4 (uf.map bO.e)))
  refine O1 (n:=n) (els:=uf.map bO.e) (esz:=4) (by rw[ad];rfl) ?_ rfl
  intro x hx y hy
  obtain⟨a,-,rfl⟩:=List.mem_map.1 hx
  simp[bO.e]at hy
  rcases hy with rfl|rfl|rfl|rfl<;>rfl
def Q5 (N:Nat) (R:Int) (l:Loop):Prop:=(∃hd:Nat,l.head=hd/\hd<N)/\(0<=l.ox/\l.ox<R)/\1<=l.bound/\l.bound<=3
structure Hs (c:Code):Prop where
 group:c.group=4\/c.group=1\/c.group=2\/c.group=8\/c.group=6
 sub:c.sub=1\/c.sub=2\/c.sub=4\/c.sub=8
 dvd:c.group.tmod c.sub=0
 regs:c.regs=6+2*(c.loops.length:Int)
 slots:c.slots=0
 params:c.params=3
 arrays:c.arrays=uf
 nl:c.loops.length<=3
 loops:∀l∈c.loops,Q5 c.b.length c.regs l
 nb:1<=c.b.length/\c.b.length<=18
 b:jU c.b.length c.regs c.b
def mP (bs:List Nat):D:=.agg [wM bs]
def z8:D:=.agg [.int .i64 0,.int .i64 0,.int .i64 0,.int .i64 0,.int .i64 0,.nil,.nil,.nil]
structure Hd (g sb:Int):Prop where
 group:g=4\/g=1\/g=2\/g=8\/g=6
 sub:sb=1\/sb=2\/sb=4\/sb=8
 dvd:g.tmod sb=0
structure JO (s:MS) (bs:List Block) (q:Nat):Prop where
 hd:Hd s.group s.sub
 regs:s.regs=6+2*(s.loops.length:Int)
 nl:s.loops.length<=q
 nb:bs.length<=6*q
 loops:∀l∈s.loops,Q5 bs.length s.regs l
 b:jU (bs.length+1) s.regs bs
theorem Ng {h:Heap}:Rows h [] [] .nil .nil []:=⟨Or.inl ⟨rfl,rfl⟩,Or.inl ⟨rfl,rfl⟩,rfl,fun k v b hv=>by simp at hv,by simp[bN,D.jA]⟩
theorem HY {h:Heap}{n k:Nat}{s:MS}{pre:List Block}{is:List aN}{q:Nat}(hs:Hd s.group s.sub) (hR:s.regs=6+2*(s.loops.length:Int)) (hl:s.loops.length<=q) (hq:q<=9) (hp:pre.length<=6*q+2) (hq2:q<=2)
  (hL:∀l∈s.loops,Q5 (pre.length+1) s.regs l) (hA:jU (pre.length+1) s.regs pre) (hX:kT 6 is) (hi:is.length<=8) (r:aV h n k br (kR s pre is iO)) (hk:k<400000) {KH:HK}
  (hK:∀(s':MS) (pre':List Block) (h':Heap),s'.group=s.group->s'.sub=s.sub->s'.regs=6+2*(s'.loops.length:Int)->s'.loops.length<=q+1->pre'.length<=6*q+5->(∀l,l∈s'.loops->Q5 (pre'.length+1) s'.regs l)->jU (pre'.length+1) s'.regs pre' ->
   aV h' n (k+100) br (kR s' pre' [] iO)->aJ n h h'->KH (.tup []) h') :
  ag PP dK [.ptr n 0 0] h fun _ h1=>ag PP bm [.ptr n 0 0] h1 KH:=by
 refine SI r hA (hX.mono (by omega)) (by omega) (by omega) (by omega) hR (by omega) fun b bs h1 hb1 hb2 hbl hbA r1 k1=>?_
 refine rQ (bs:=bs) r1 (by omega) fun h2 r2 k2=>?_
 have hreg:(Jg s (pre.length+1) b).regs=s.regs+2:=by simp only[Jg];omega
 refine hK (Jg s (pre.length+1) b) bs h2 rfl rfl ?_ ?_ (by omega) ?_ ?_ r2 (k1.trans k2)
 ·simp only[Jg,List.length_append,List.length_singleton];omega
 ·simp only[Jg,List.length_append,List.length_singleton];omega
 ·intro l hl
  rw[hreg]
  simp only[Jg,List.mem_append,List.mem_singleton]at hl
  rcases hl with hl|rfl
  ·obtain⟨⟨hd,e1,e2⟩,e3,e4⟩:=hL l hl
   exact⟨⟨hd,e1,by omega⟩,⟨e3.1,by omega⟩,e4⟩
  ·exact⟨⟨pre.length+1,rfl,by omega⟩,⟨by simp only;omega,by simp only;omega⟩,hb1,hb2⟩
 ·rw[hreg]
  exact hbA.mono (by omega) (by omega)
set_option maxHeartbeats 4000000 in
theorem PU {h:Heap}{n nz k c:Nat}{s:MS}(hne:nz≠n) (hc:c<=2) (hs:JO s [] 0) (r:aV h n k br { s with blocks:=[] }) (hk:k<=1000) (hz:h nz=.box z8){J:HJ}
  (hJ:∀(s':MS) (bs:List Block) (h':Heap),JO s' bs 2->aV h' n (k+2000) br { s' with blocks:=bs }->h' nz=.box z8->J [] h') :
  ki (.int .i64 (c:Int)) h (.ptr nz 0 0) (.ptr n 0 0) J:=by
 (unfold ki;try dsimp only[xL,yL,xF,yF,xI,yI,xS,zI,zJ])
 refine⟨fun j qs h'=>j<=c/\qs=[.int .i64 (j:Int)]/\∃(s':MS) (bs:List Block),JO s' bs (c-j)/\aV h' n (k+1000*(c-j)) br { s' with blocks:=bs }/\h' nz=.box z8,c,⟨Nat.le_refl _,rfl,s,[],by simpa using hs,by simpa using r,hz⟩,?_⟩
 rintro j f h1 ⟨hj,hq,s1,bs,hs1,r1,hz1⟩
 simp only[List.cons.injEq,and_true]at hq
 rw[hq,qK]
 by_cases h0:0<j
 ·simp only[show((0:Int)<(j:Int))=True from eq_true (by omega),decide_true,↓af]
  have nl:=hs1.nl
  have nb:=hs1.nb
  refine⟨fun qs h'=>qs=[]/\∃(s':MS) (bs:List Block),JO s' bs (c-(j-1))/\aV h' n (k+1000*(c-j)+1000) br { s' with blocks:=bs }/\h' nz=.box z8,?_,?_⟩
  ·rintro g h2 ⟨-,s2,bs2,hs2,r2,hz2⟩
   rw[gO,wrap64 (by omega) (by omega)]
   refine⟨rfl,j-1,by omega,by omega,by congr 2;omega,s2,bs2,hs2,r2.le (by omega),hz2⟩
  ·refine eO r1 (by omega) fun b h2 _ r2 k2=>?_
   rw[bJ]
   refine⟨by omega,?_⟩
   rw[show((b:Int).tmod 3)=((b % 3:Nat):Int) from bq b 3]
   have hm:b % 3<3:=Nat.mod_lt _ (by omega)
   refine Iy r2 hs1.b (by omega) (by have:=hs1.regs;omega) (by omega) (by omega) fun pre is h3 hpl hpA hX hi r3 k3=>?_
   have hz3:=k3 nz _ hne (k2 nz _ hne hz1)
   have hLp:∀l∈s1.loops,Q5 (pre.length+1) s1.regs l:=fun l hl=>by
    obtain⟨⟨hd,e1,e2⟩,e3⟩:=hs1.loops l hl
    exact⟨⟨hd,e1,by omega⟩,e3⟩
   refine⟨fun qs h'=>qs=[]/\∃(s':MS) (pre':List Block) (is':List aN),Hd s'.group s'.sub/\s'.regs=6+2*(s'.loops.length:Int)/\s'.loops.length<=(c-j)+1/\pre'.length<=6*(c-j)+5/\(∀l,l∈s'.loops->Q5 (pre'.length+1) s'.regs l) /\
    jU (pre'.length+1) s'.regs pre'/\kT s'.regs is'/\is'.length<=8/\aV h' n (k+1000*(c-j)+500) br (kR s' pre' is' iO)/\h' nz=.box z8,?_,?_⟩
   ·rintro g h4 ⟨-,s4,pre4,is4,g1,g2,g3,g4,g5,g6,g7,g8,r4,hz4⟩
    obtain⟨bs4,j4,vL4,nb4,e4,eu4,lv4,st4,-⟩:=l6 r4
    simp only[↓ba eu4,Nat.zero_add,Nat.reduceAdd,↓eR e4 (j:=9) rfl,↓iJ,lv4,true_and]
    rw[gO,wrap64 (by omega) (by omega)]
    rw[show((pre4.length+1:Nat):Int)-1=(pre4.length:Int) by omega,bp,wrap64 (by omega) (by omega),cI rfl,cI rfl]
    have hT:∀(T:Term) (h':Heap),Hx (pre4.length+2) s4.regs T->aV h' n (k+1000*(c-j)+600) br (kR s4 pre4 is4 T)->h' nz=.box z8 ->
      ∃(s':MS) (bs:List Block),JO s' bs (c-(j-1))/\aV h' n (k+1000*(c-j)+1000) br { s' with blocks:=bs }/\h' nz=.box z8:=by
     intro T h' hT r' hz'
     refine⟨s4,pre4++[⟨is4,T⟩],⟨g1,g2,by omega,by simp;omega,?_,?_⟩,r'.le (by omega),hz'⟩
     ·simp only[List.length_append,List.length_singleton];exact g5
     ·simp only[List.length_append,List.length_singleton]
      exact(g6.mono (by omega) (by omega)).snoc ⟨g7,by simp only;omega,hT⟩
    refine st4 ⟨3,0,an,an,an,(pre4.length:Int)+1,0⟩ fun h5 r5 k5=>?_
    have hz5:=k5 nz _ hne hz4
    refine eO r5 (by omega) fun b5 h6 _ r6 k6=>?_
    have hz6:=k6 nz _ hne hz5
    rw[bJ]
    refine⟨by omega,?_⟩
    rw[show((b5:Int).tmod 3)=((b5 % 3:Nat):Int) from bq b5 3,aM]
    by_cases hb3:b5 % 3=0
    ·simp only[show(((b5 % 3:Nat):Int)=0)=True from eq_true (by omega),decide_true,↓af]
     obtain⟨vL6,vB6,r6⟩:=r6.v
     obtain⟨bs6,j6,nb6,ev6,e6,eu6,-⟩:=fJ r6
     simp only[↓Hw eu6,Nat.zero_add,Nat.reduceAdd,↓cj e6 (j:=9) rfl]
     rw[bp,wrap64 (by omega) (by omega),gZ rfl]
     refine xG r6 (by omega) fun b7 h7 _ r7 k7=>?_
     obtain⟨bs7,j7,nb7,ev7,e7,eu7,-⟩:=fJ r7
     simp only[↓Hw eu7,Nat.zero_add,Nat.reduceAdd,↓cj e7 (j:=9) rfl,ai,true_and]
     rw[bJ]
     refine⟨by omega,?_⟩
     rw[show((b7:Int).tmod 6)=((b7 % 6:Nat):Int) from bq b7 6]
     have hb6:b7 % 6<6:=Nat.mod_lt _ (by omega)
     rw[bp,wrap64 (by omega) (by omega)]
     refine JC r7 (by omega) fun d h8 hd r8 k8=>?_
     obtain⟨bs8,j8,nb8,ev8,e8,eu8,-⟩:=fJ r8
     simp only[↓Hw eu8,Nat.zero_add,Nat.reduceAdd,↓cj e8 (j:=9) rfl,ai,true_and]
     refine Oq r8 (by omega) fun o h9 ho r9 k9=>?_
     obtain⟨bs9,j9,nb9,ev9,e9,eu9,-⟩:=fJ r9
     simp only[↓Hw eu9,Nat.zero_add,Nat.reduceAdd,↓cj e9 (j:=9) rfl,ai,true_and]
     refine Oq r9 (by omega) fun p h10 hp r10 k10=>?_
     obtain⟨bs10,j10,nb10,ev10,e10,eu10,st10⟩:=fJ r10
     simp only[↓Hw eu10,Nat.zero_add,Nat.reduceAdd,↓cj e10 (j:=9) rfl,ai,true_and]
     rw[gZ rfl]
     refine st10 ⟨4,1+((b7 % 6:Nat):Int),fX d,o,p,(pre4.length:Int)+1,0⟩ fun h11 r11 k11=>?_
     have hz11:=k11 nz _ hne (k10 nz _ hne (k9 nz _ hne (k8 nz _ hne (k7 nz _ hne hz6))))
     try simp only[ai,true_and]
     exact hT _ h11 (.collect _ _ _ _ (pre4.length+1) (by omega) ((eo hd).mono (by omega)) (ho.o.mono (by omega)) (hp.o.mono (by omega)) (by omega)) (r11.le (by omega)) hz11
    ·simp only[show(((b5 % 3:Nat):Int)=0)=False from eq_false (by omega),decide_false,↓ae]
     try simp only[ai,true_and]
     exact hT _ h6 (.barrier (pre4.length+1) (by omega)) (r6.le (by omega)) hz6
   ·refine eO r3 (by omega) fun b4 h4 _ r4 k4=>?_
    have hz4:=k4 nz _ hne hz3
    rw[bJ]
    refine⟨by omega,?_⟩
    rw[show((b4:Int).tmod 3)=((b4 % 3:Nat):Int) from bq b4 3,aM]
    by_cases hb3:b4 % 3=0
    ·simp only[show(((b4 % 3:Nat):Int)=0)=True from eq_true (by omega),decide_true,↓af]
     refine HY (q:=c-j) hs1.hd hs1.regs nl (by omega) (by omega) (by omega) hLp hpA hX hi r4 (by omega) fun s5 pre5 h5 e1 e2 e3 e4 e5 e6 e7 r5 k5=>?_
     try simp only[ai,true_and]
     exact⟨s5,pre5,[],by rw[e1,e2];exact hs1.hd,e3,e4,e5,e6,e7,.nil,by simp,r5.le (by omega),k5 nz _ hne hz4⟩
    ·simp only[show(((b4 % 3:Nat):Int)=0)=False from eq_false (by omega),decide_false,↓ae]
     try simp only[ai,true_and]
     exact⟨s1,pre,is,hs1.hd,hs1.regs,by omega,by omega,hLp,hpA,hX.mono (by have:=hs1.regs;omega),hi,r4.le (by omega),hz4⟩
 ·simp only[show((0:Int)<(j:Int))=False from eq_false (by omega),decide_false,↓ae]
  have hj0:j=0:=by omega
  subst hj0
  have s2:JO s1 bs 2:=⟨hs1.hd,hs1.regs,by have:=hs1.nl;omega,by have:=hs1.nb;omega,hs1.loops,hs1.b⟩
  exact⟨rfl,hJ s1 bs h1 s2 (r1.le (by omega)) hz1⟩
end Go.Am
namespace Go.Am
open Go
set_option maxHeartbeats 1000000 in
theorem PT {h:Heap}{n nz k c:Nat}{s:MS}(hc:c<=2) (hg:s.group=4\/s.group=1\/s.group=2\/s.group=8\/s.group=6) (h1:s.sub=1) (hr:s.regs=6) (hl:s.loops=[]) (r:aV h n k br { s with blocks:=[] }) (hne:nz≠n) (hz:h nz=.box z8){J:HJ}
  (hJ:∀(s':MS) (h':Heap),Hd s'.group s'.sub->s'.regs=6->s'.loops=[]->aV h' n k br { s' with blocks:=[] }->h' nz=.box z8->J [] h') :
  kh (.int .i64 (c:Int)) h (.ptr n 0 0) (.ptr nz 0 0) J:=by
 (unfold kh;try dsimp only[xL,yL,xF,yF,xI,yI,xS,zI,zJ])
 refine⟨fun j qs h'=>j<=c/\qs=[.int .i64 (j:Int)]/\∃s':MS,Hd s'.group s'.sub/\(j=2->s'.sub=1)/\(j=1->s'.sub<=2)/\s'.regs=6/\s'.loops=[]/\aV h' n k br { s' with blocks:=[] }/\h' nz=.box z8,c,
  ⟨Nat.le_refl _,rfl,s,⟨hg,by omega,by rw[h1];rcases hg with h|h|h|h|h<;>rw[h]<;>rfl⟩,fun _=>h1,fun _=>by omega,hr,hl,r,hz⟩,?_⟩
 rintro j f h2 ⟨hj,hq,s2,hd,hs2,hs1,hr2,hl2,r2,hz2⟩
 simp only[List.cons.injEq,and_true]at hq
 rw[hq,qK]
 obtain⟨bs2,j2,vL2,vB2,e2,eu2,-⟩:=J9 r2
 unfold cY at e2
 by_cases h0:0<j
 ·simp only[show((0:Int)<(j:Int))=True from eq_true (by omega),decide_true,↓EL,↓Hw eu2,Nat.zero_add,Nat.reduceAdd,↓cj e2 (j:=2) rfl,↓cj e2 (j:=3) rfl]
  have hsb:s2.sub=1\/s2.sub=2:=by
   rcases hd.sub with h|h|h|h
   ·exact Or.inl h
   ·exact Or.inr h
   ·exfalso;rcases (show j=1\/j=2 by omega) with e|e
    ·have:=hs1 e;omega
    ·have:=hs2 e;omega
   ·exfalso;rcases (show j=1\/j=2 by omega) with e|e
    ·have:=hs1 e;omega
    ·have:=hs2 e;omega
  rw[gb,wrap64 (by omega) (by omega),bJ]
  refine⟨by omega,?_⟩
  rw[aM]
  by_cases hd0:s2.group.tmod (2*s2.sub)=0
  ·simp only[hd0,decide_true,↓m7,↓dh,↓af,↓ba eu2,Nat.zero_add,Nat.reduceAdd,↓eR e2 (j:=3) rfl]
   rw[gb,wrap64 (by omega) (by omega)]
   refine Rq (v:=2*s2.sub) r2 fun h3 r3 k3=>?_
   rw[gO,wrap64 (by omega) (by omega)]
   refine⟨rfl,j-1,by omega,by omega,by congr 2;omega,{ s2 with sub:=2*s2.sub },⟨hd.group,by simp only;omega,hd0⟩,fun e=>by omega,fun e=>?_,hr2,hl2,r3,k3 nz _ hne hz2⟩
   have:=hs2 (by omega)
   simp only;omega
  ·simp only[hd0,decide_false,↓m7,↓dh,↓ae]
   exact⟨rfl,hJ s2 h2 hd hr2 hl2 r2 hz2⟩
 ·simp only[show((0:Int)<(j:Int))=False from eq_false (by omega),decide_false,↓Ss,↓zw,↓m7,↓gP,↓ae]
  exact⟨rfl,hJ s2 h2 hd hr2 hl2 r2 hz2⟩
theorem Vo {P:Program}{h:Heap}{KH:HK}{n:Nat}{a b c1 c2 c3 c4 c5 c6 c7 c8:D}(e:h n=.box (.agg [a,b,c1,c2,c3,c4,c5,c6,c7,c8])):ab P (.ld (.c (.ptr n 0 2)) 8 true) h KH=KH (.agg [c1,c2,c3,c4,c5,c6,c7,c8]) h:=rD e (by simp)
theorem Vg {P:Program}{h:Heap}{KH:HK}{nz:Nat}{c1 c2 c3 c4 c5 c6 c7 c8:D}(e:h nz=.box z8) (ho:(D.agg [c1,c2,c3,c4,c5,c6,c7,c8]).cells.all D.one=true) :
  ab P (.st (.c (.ptr nz 0 0)) (.c (.agg [c1,c2,c3,c4,c5,c6,c7,c8])) 8) h KH=KH .undef (ah h nz (.box (.agg [c1,c2,c3,c4,c5,c6,c7,c8]))):=by
 rw[dq,e]
 apply propext
 constructor
 ·exact fun hh=>hh.2.2.2.2
 ·exact fun hk=>⟨rfl,List.all_eq_true.1 ho,rfl,by simp[z8],hk⟩
theorem xa {esz:Nat}{h:Heap}{v:D}{els:List D}(ho:Own esz h v els):v.one=true:=by
 rcases ho with⟨rfl,-⟩|⟨m,rfl,-⟩<;>rfl
set_option maxHeartbeats 4000000 in
theorem SK {bs:List Nat}(hb:∀b∈bs,b<=255) (hl:bs.length<=9223372036854775807):aF PP oN [mP bs] (fun r=>∃c:Code,Hs c/\r=c.e):=by
 refine aF.wk (K:=fun r=>∃c:Code,Hs c/\Wk r c.e) (F3 (aW C7 (aA _ _ _) rfl (CN _ _) ?_)) fun r hr=>by
  obtain⟨c,hc,hw⟩:=hr
  exact⟨c.e,hw,rfl,c,hc,rfl⟩
 (unfold xX;try dsimp only[xL,yL,xF,yF,xI,yI,xS,zI,zJ])
 rw[cJ]
 refine⟨(cT (by simp[wM]):wE (mP bs)).one,fun n0 t0=>?_⟩
 rw[bQ]
 intro nz tz
 have nn:n0≠nz:=tz.ne (by rw[ad];simp)
 have a0:ah (ah aC n0 (.box (mP bs))) nz (.box z8) n0=.box (mP bs):=by rw[aa _ _ nn,ad]
 have az:ah (ah aC n0 (.box (mP bs))) nz (.box z8) nz=.box z8:=ad _ _ _
 show ab PP _ (ah (ah aC n0 (.box (mP bs))) nz (.box z8)) _
 generalize ah (ah aC n0 (.box (mP bs))) nz (.box z8)=hA at a0 az
 have eu0:(hA n0).used=true:=by rw[a0];rfl
 unfold mP at a0
 simp only[↓ba eu0,Nat.zero_add,↓eR a0 (j:=0) rfl]
 rw[cI rfl,show D.agg (fillD [.nil,.int .i64 0,.int .i64 0,.int .i64 0,.int .i64 0,.int .i64 0,.int .i64 0,.nil,.nil,.nil] (List.map (fun p=>(p.fst,p.snd.fst,(Arg.get [] p.snd.snd).cells)) [(0,1,Arg.c (wM bs))])) =
  .agg (wM bs::.int .i64 ((0:Nat):Int)::[.int .i64 0,.int .i64 0,.int .i64 0,.int .i64 0,.int .i64 0,.nil,.nil,.nil]) from rfl,cJ]
 refine⟨List.all_eq_true.1 rfl,fun n tn=>?_⟩
 have hnz:nz≠n:=tn.ne (by rw[az];simp)
 have b1:ah hA n (.box (.agg (wM bs::.int .i64 ((0:Nat):Int)::[.int .i64 0,.int .i64 0,.int .i64 0,.int .i64 0,.int .i64 0,.nil,.nil,.nil]))) n=.box (.agg (wM bs::.int .i64 ((0:Nat):Int)::[.int .i64 0,.int .i64 0,.int .i64 0,.int .i64 0,.int .i64 0,.nil,.nil,.nil])):=ad _ _ _
 have bz:ah hA n (.box (.agg (wM bs::.int .i64 ((0:Nat):Int)::[.int .i64 0,.int .i64 0,.int .i64 0,.int .i64 0,.int .i64 0,.nil,.nil,.nil]))) nz=.box z8:=by rw[aa _ _ hnz];exact az
 show aq PP _ (ah hA n (.box (.agg (wM bs::.int .i64 ((0:Nat):Int)::[.int .i64 0,.int .i64 0,.int .i64 0,.int .i64 0,.int .i64 0,.nil,.nil,.nil])))) _
 generalize ah hA n (.box (.agg (wM bs::.int .i64 ((0:Nat):Int)::[.int .i64 0,.int .i64 0,.int .i64 0,.int .i64 0,.int .i64 0,.nil,.nil,.nil])))=hB at b1 bz
 have hbl:∀{Q:D->Prop},aq PP (.bldS false 1 5 (.int .i64 0) [(0,(.c (.int .i64 4))),(1,(.c (.int .i64 1))),(2,(.c (.int .i64 2))),(3,(.c (.int .i64 8))),(4,(.c (.int .i64 6)))]) hB Q=Q (.sl [.int .i64 4,.int .i64 1,.int .i64 2,.int .i64 8,.int .i64 6]):=by
  intro Q
  apply propext
  constructor
  ·exact fun hh=>hh.2.2.2
  ·intro hq
   refine⟨tj rfl,?_,by simp,hq⟩
   intro p hp
   simp[Arg.get]at hp
   rcases hp with rfl|rfl|rfl|rfl|rfl<;>simp
 simp only[hbl]
 refine Hh b1 hb hl (by omega) fun b hb2=>?_
 have c1:=ad hB n (.box (.agg (wM bs::.int .i64 ((0+1:Nat):Int)::[.int .i64 0,.int .i64 0,.int .i64 0,.int .i64 0,.int .i64 0,.nil,.nil,.nil])))
 have cz:ah hB n (.box (.agg (wM bs::.int .i64 ((0+1:Nat):Int)::[.int .i64 0,.int .i64 0,.int .i64 0,.int .i64 0,.int .i64 0,.nil,.nil,.nil]))) nz=.box z8:=by rw[aa _ _ hnz];exact bz
 generalize ah hB n (.box (.agg (wM bs::.int .i64 ((0+1:Nat):Int)::[.int .i64 0,.int .i64 0,.int .i64 0,.int .i64 0,.int .i64 0,.nil,.nil,.nil])))=hC at c1 cz
 rw[bJ]
 refine⟨by omega,?_⟩
 rw[show((b:Int).tmod 5)=((b % 5:Nat):Int) from bq b 5]
 obtain⟨g,hg,hg5⟩:∃g:Int,([.int .i64 4,.int .i64 1,.int .i64 2,.int .i64 8,.int .i64 6]:List D)[b % 5]?=some (.int .i64 g)/\(g=4\/g=1\/g=2\/g=8\/g=6):=by
  have:b % 5=0\/b % 5=1\/b % 5=2\/b % 5=3\/b % 5=4:=by omega
  rcases this with e|e|e|e|e<;>rw[e]<;>exact⟨_,rfl,by simp⟩
 have hi:∀{Q:D->Prop},aq PP (.iadd (.c (.sl [.int .i64 4,.int .i64 1,.int .i64 2,.int .i64 8,.int .i64 6])) (.c (.int .i64 ((b % 5:Nat):Int))) 1) hC Q=Q (.vp (.int .i64 g) 0):=by
  intro Q
  rw[fh,im,Int.toNat_natCast,hg]
  apply propext
  constructor
  ·rintro⟨-,-,h⟩;exact(h _ rfl).2
  ·intro hq;exact⟨by omega,by simp;omega,fun d hd=>by cases hd;exact⟨rfl,hq⟩⟩
 have hld:∀{Q:D->Prop},aq PP (.ld (.c (.vp (.int .i64 g) 0)) 1 false) hC Q=Q (.int .i64 g):=fun {Q}=>by rw[bL,gY,bk];rfl
 simp only[↓hi,↓hld]
 refine iK Ow trivial ?_
 have eu1:(hC n).used=true:=by rw[c1];rfl
 rw[gZ rfl]
 simp only[↓Hw eu1,Nat.zero_add]
 rw[dq,c1]
 refine⟨rfl,?_,rfl,by simp,?_⟩
 ·intro x hx
  simp[fillD,D.cells,Arg.get,br]at hx
  rcases hx with rfl|rfl|rfl|rfl|rfl|rfl|rfl|rfl<;>rfl
 have es:setCells (.agg (wM bs::.int .i64 ((0+1:Nat):Int)::[.int .i64 0,.int .i64 0,.int .i64 0,.int .i64 0,.int .i64 0,.nil,.nil,.nil])) 2 (D.agg (fillD [.int .i64 0,.int .i64 0,.int .i64 0,.int .i64 0,.int .i64 0,.nil,.nil,.nil] (List.map (fun p=>(p.fst,p.snd.fst,(Arg.get [] p.snd.snd).cells)) [(0,1,Arg.c (.int .i64 g)),(1,1,Arg.c (.int .i64 1)),(2,1,Arg.c (.int .i64 6)),(4,1,Arg.c (.int .i64 3)),(5,1,Arg.c br)]))).cells =
   cY bs 1 br ⟨g,1,6,[],[]⟩ .nil .nil:=rfl
 rw[es]
 have r0:aV (ah hC n (.box (cY bs 1 br ⟨g,1,6,[],[]⟩ .nil .nil))) n 1 br { (⟨g,1,6,[],[]⟩:MS) with blocks:=[] }:=⟨bs,1,.nil,.nil,[],hb,hl,Nat.le_refl _,ad _ _ _,Ng⟩
 have dz:ah hC n (.box (cY bs 1 br ⟨g,1,6,[],[]⟩ .nil .nil)) nz=.box z8:=by rw[aa _ _ hnz];exact cz
 generalize ah hC n (.box (cY bs 1 br ⟨g,1,6,[],[]⟩ .nil .nil))=hD at r0 dz
 refine⟨fun qs h'=>qs=[]/\∃s:MS,Hd s.group s.sub/\s.regs=6/\s.loops=[]/\aV h' n 10 br { s with blocks:=[] }/\h' nz=.box z8,?_,?_⟩
 ·rintro f1 h1 ⟨-,s1,hd1,hr1,hl1,r1,z1⟩
  refine⟨fun qs h'=>qs=[]/\∃(s':MS) (bs:List Block),JO s' bs 2/\aV h' n 3000 br { s' with blocks:=bs }/\h' nz=.box z8,?_,?_⟩
  ·rintro f2 h2 ⟨-,s2,bs2,hs2,r2,z2⟩
   have nl:=hs2.nl
   have nb:=hs2.nb
   refine eO r2 (by omega) fun b3 h3 _ r3 k3=>?_
   rw[bJ]
   refine⟨by omega,?_⟩
   rw[show((b3:Int).tmod 3)=((b3 % 3:Nat):Int) from bq b3 3]
   have hm:b3 % 3<3:=Nat.mod_lt _ (by omega)
   refine Iy r3 hs2.b (by omega) (by have:=hs2.regs;omega) (by omega) (by omega) fun pre is h4 hpl hpA hX hi4 r4 k4=>?_
   have z4:=k4 nz _ hnz (k3 nz _ hnz z2)
   have hLp:∀l∈s2.loops,Q5 (pre.length+1) s2.regs l:=fun l hl=>by
    obtain⟨⟨hd,e1,e2⟩,e3⟩:=hs2.loops l hl
    exact⟨⟨hd,e1,by omega⟩,e3⟩
   refine⟨fun qs h'=>qs=[]/\∃(s':MS) (pre':List Block) (is':List aN),Hd s'.group s'.sub/\s'.regs=6+2*(s'.loops.length:Int)/\s'.loops.length<=3/\pre'.length<=17/\(∀l,l∈s'.loops->Q5 (pre'.length+1) s'.regs l) /\
    jU (pre'.length+1) s'.regs pre'/\kT s'.regs is'/\is'.length<=8/\aV h' n 9000 br (kR s' pre' is' iO)/\h' nz=.box z8,?_,?_⟩
   ·rintro f5 h5 ⟨-,s5,pre5,is5,g1,g2,g3,g4,g5,g6,g7,g8,r5,z5⟩
    obtain⟨vL5,vB5,r5⟩:=r5.v
    obtain⟨bs5,j5,nb5,ev5,e5,eu5,st5⟩:=fJ r5
    have lv5:∀{Q:D->Prop},bR vB5 h5 Q=Q (.int .i64 ((pre5.length+1:Nat):Int)):=by
     intro Q
     obtain⟨_,_,vs,_,_,_,q4,q5⟩:=r5.st
     rw[Ki q5.oB,iB q5.len]
     simp[kR]
    simp only[↓Hw eu5,Nat.zero_add,Nat.reduceAdd,↓cj e5 (j:=9) rfl,lv5]
    rw[gO,wrap64 (by omega) (by omega),gZ rfl,show((pre5.length+1:Nat):Int)-1=(pre5.length:Int) by omega]
    refine st5 ⟨5,0,an,an,an,0,0⟩ fun h6 r6 k6=>?_
    have z6:=k6 nz _ hnz z5
    obtain⟨bs6,j6,vL6,vB6,vs6,q1,q2,q3,q4,q5⟩:=r6.st
    have eu6:(h6 n).used=true:=by rw[q4];rfl
    unfold cY at q4
    simp only[↓ba eu6,Nat.zero_add,Nat.reduceAdd,↓Vo q4]
    have o1:=xa q5.oL
    have o2:=xa q5.oB
    rw[Vg z6 (by simp[D.cells,o1,o2,br])]
    have hld8:=db (P:=PP) (KH:=fun a63 _=>∃h'',Gy (ah h6 nz (.box (.agg [.int .i64 s5.group,.int .i64 s5.sub,.int .i64 s5.regs,.int .i64 0,.int .i64 3,br,vL6,vB6]))) h''/\ik a63/\p8 h'' a63/\(a63.fzt h'').FB=true/\∃c:Code,Hs c/\Wk (a63.fzt h'') c.e)
     (ad h6 nz (.box (.agg [.int .i64 s5.group,.int .i64 s5.sub,.int .i64 s5.regs,.int .i64 0,.int .i64 3,br,vL6,vB6])))
    refine hld8.mpr ?_
    have rr:=q5.box z6 (.box (.agg [.int .i64 s5.group,.int .i64 s5.sub,.int .i64 s5.regs,.int .i64 0,.int .i64 3,br,vL6,vB6]))
    obtain⟨h'',i1,i2,i3,i4,i5⟩:=NB rr (by simp[kR]) s5.group s5.sub s5.regs
    refine⟨h'',i1,i2,i3,i4,_,?_,i5⟩
    refine⟨g1.group,g1.sub,g1.dvd,g2,rfl,rfl,rfl,g3,?_,?_,?_⟩
    ·simp only[kR,List.length_append,List.length_singleton];exact g5
    ·simp only[kR,List.length_append,List.length_singleton];omega
    ·simp only[kR,List.length_append,List.length_singleton]
     exact g6.snoc ⟨g7,by simp only;omega,.exit⟩
   ·refine eO r4 (by omega) fun b5 h5 _ r5 k5=>?_
    have z5:=k5 nz _ hnz z4
    rw[bJ]
    refine⟨by omega,?_⟩
    rw[show((b5:Int).tmod 3)=((b5 % 3:Nat):Int) from bq b5 3,aM]
    by_cases hb3:b5 % 3=0
    ·simp only[show(((b5 % 3:Nat):Int)=0)=True from eq_true (by omega),decide_true,↓af]
     refine HY (q:=2) hs2.hd hs2.regs nl (by omega) (by omega) (by omega) hLp hpA hX hi4 r5 (by omega) fun s6 pre6 h6 e1 e2 e3 e4 e5 e6 e7 r6 k6=>?_
     refine DE r6 (e7.SM (by omega) (by simp)) (by omega) fun xs h7 hxs hxl r7 k7=>?_
     try simp only[ai,true_and]
     exact⟨s6,pre6,xs,by rw[e1,e2];exact hs2.hd,e3,e4,by omega,e6,e7,hxs.mono (by omega),hxl,r7.le (by omega),k7 nz _ hnz (k6 nz _ hnz z5)⟩
    ·simp only[show(((b5 % 3:Nat):Int)=0)=False from eq_false (by omega),decide_false,↓ae]
     try simp only[ai,true_and]
     exact⟨s2,pre,is,hs2.hd,hs2.regs,by omega,by omega,hLp,hpA,hX.mono (by have:=hs2.regs;omega),hi4,r5.le (by omega),z5⟩
  ·refine eO r1 (by omega) fun b2 h2 _ r2 k2=>?_
   have z2:=k2 nz _ hnz z1
   rw[bJ]
   refine⟨by omega,?_⟩
   rw[show((b2:Int).tmod 3)=((b2 % 3:Nat):Int) from bq b2 3]
   have hm:b2 % 3<3:=Nat.mod_lt _ (by omega)
   refine PU hnz (by omega) ⟨hd1,by rw[hr1,hl1];rfl,by rw[hl1];simp,by simp,(by rw[hl1];intro l hl;cases hl),jU.nil⟩ r2 (by omega) z2 fun s' bs' h' q1 q2 q3=>⟨rfl,s',bs',q1,q2.le (by omega),q3⟩
 ·refine eO r0 (by omega) fun b1 h1 _ r1 k1=>?_
  have z1:=k1 nz _ hnz dz
  rw[bJ]
  refine⟨by omega,?_⟩
  rw[show((b1:Int).tmod 3)=((b1 % 3:Nat):Int) from bq b1 3]
  have hm:b1 % 3<3:=Nat.mod_lt _ (by omega)
  exact PT (by omega) hg5 rfl rfl rfl r1 hnz z1 fun s' h' q1 q2 q3 q4 q5=>⟨rfl,s',q1,q2,q3,q4.le (by omega),q5⟩
end Go.Am
namespace Go.Am
open Go
abbrev pJ (n:Int):Int:=IntKind.i32.wrap n
abbrev gM (n:Int):Prop:=-2147483648<=n/\n<=2147483647
theorem vq {n:Int}(h:gM n):IntKind.i64.wrap n=n:=wrap64 (by have:=h.1;omega) (by have:=h.2;omega)
def JW (s a:Int):Int :=
 if s=3 then(if 0<=a then a else pJ (0-a)) else if s=1 then pJ (0-a) else if s=2 then ibits .xor .i32 (-1) a else if s=4 then H6 .i32 a 16 else Jl .i32 a 16
theorem Pw (b:Bool):aF PP cr [.bool b] (· = .int .i32 (if b then 1 else 0)):=by
 refine bg yO (aA _ _ _) rfl (xM _ _) ?_
 (unfold rS;try dsimp only[xL,yL,xF,yF,xI,yI,xS,zI,zJ])
 cases b<;>simp[↓af,↓ae,↓bI]
theorem cK {k k':IntKind}{a b:Int}{h:Heap}{K:D->Prop}:qH K (.tup [.int k a,.int k' b]) h=K (.tup [.int k a,.int k' b]):=by
 apply propext
 refine⟨fun h=>?_,fun hk=>⟨fun x hx=>?_,fun x hx=>?_,?_,?_⟩⟩
 ·have:=h.2.2.2
  simpa[D.fzt,D.fz,D.fzc] using this
 ·simp at hx
  rcases hx with rfl|rfl<;>exact fun y hy=>by simp[D.cells]at hy;subst hy;rfl
 ·simp at hx
  rcases hx with rfl|rfl<;>exact fun y hy=>by simp[D.cells]at hy;subst hy;trivial
 ·simp[D.fzt,D.fz,D.fzc,D.FB,D.vd,D.vone]
 ·simpa[D.fzt,D.fz,D.fzc] using hk
theorem UB {s a:Int}(hs:1<=s/\s<=5):aF PP qV [.int .i64 s,.int .i32 a] (· = .tup [.int .i32 (JW s a),.int .i64 0]):=by
 refine bg Fm (aA _ _ _) rfl (E5 _ _ _) ?_
 (unfold Bs;try dsimp only[xL,yL,xF,yF,xI,yI,xS,zI,zJ])
 refine⟨fun _ _=>False,fun _ _ h=>h.elim,?_⟩
 refine⟨fun _ _=>s=1\/(s=3/\¬0<=a),fun _ h8 hj=>?_,?_⟩
 ·simp only[↓F7,cK]
  rcases hj with rfl|⟨rfl,h⟩
  ·rfl
  ·simp[JW,h]
 ·have:s=1\/s=2\/s=3\/s=4\/s=5:=by omega
  rcases this with rfl|rfl|rfl|rfl|rfl
  ·simp[↓aM,↓af,↓ae,ai]
  ·simp[↓aM,↓af,↓ae,↓S4,cK,JW]
   rfl
  ·by_cases h:0<=a
   ·simp[↓aM,↓af,↓ae,↓iz,h,cK,JW]
   ·simp[↓aM,↓af,↓ae,↓iz,h,ai]
  ·simp[↓aM,↓af,↓ae,↓Mn,cK,JW]
  ·simp[↓aM,↓af,↓ae,↓QF,cK,JW]
def M0 (a b:Int):Int:=if b=0 then 0 else pJ (a.tdiv b)
def MM (a b:Int):Int:=if b=0 then a else a.tmod b
theorem JZ {a b:Int}(ha:gM a) (hb:b≠0) : -2147483648<=a.tdiv b/\a.tdiv b<=2147483648:=by
 have h1:(a.tdiv b).natAbs<=a.natAbs:=by rw[Int.natAbs_tdiv];exact Nat.div_le_self _ _
 have:=ha.1;have:=ha.2
 omega
theorem wO {a b:Int}(ha:gM a):gM (a.tmod b):=by
 have h1:(a.tmod b).natAbs<=a.natAbs:=by rw[Int.natAbs_tmod];exact Nat.mod_le _ _
 have h2:0<=a->0<=a.tmod b:=fun h=>Int.tmod_nonneg b h
 have h3:a<=0->a.tmod b<=0:=fun h=>by
  have:=Int.tmod_nonneg b (show 0 <= -a by omega)
  rw[Int.neg_tmod]at this
  omega
 have:=ha.1;have:=ha.2
 unfold gM
 omega
theorem DI {n:Int}(h:gM n):pJ n=n:=by
 unfold pJ IntKind.wrap
 simp only[IntKind.signed,IntKind.bits]
 have:=h.1;have:=h.2
 simp
 omega
theorem Tu {a b:Int}(ha:gM a) (hb:gM b):aF PP iP [.int .i32 a,.int .i32 b] (· = .tup [.int .i32 (M0 a b),.int .i32 (MM a b)]):=by
 refine bg sM (aA _ _ _) rfl (rT _ _ _) ?_
 (unfold mj;try dsimp only[xL,yL,xF,yF,xI,yI,xS,zI,zJ])
 by_cases h:b=0
 ·simp[↓aM,↓af,h,cK,M0,MM]
 ·have h1:=JZ ha h
  have h2:=wO (b:=b) ha
  have w1:IntKind.i64.wrap (a.tdiv b)=a.tdiv b:=wrap64 (by omega) (by omega)
  simp[↓aM,↓ae,h,↓cu,vq ha,vq hb,↓kn,↓bJ,w1,↓pj,cK,M0,MM,DI h2]
def kg (a b:Int):Int:=if(if b<0 then 0<a.tmod b else a.tmod b<0) then a.tdiv b-1 else a.tdiv b
theorem Py {a b:Int}(hb:b≠0) (ha : -4611686018427387904<=a/\a<=4611686018427387904):aF PP lk [.int .i64 a,.int .i64 b] (· = .int .i64 (kg a b)):=by
 refine bg yP (aA _ _ _) rfl (xN _ _ _) ?_
 (unfold rU;try dsimp only[xL,yL,xF,yF,xI,yI,xS,zI,zJ])
 have hq:(a.tdiv b).natAbs<=a.natAbs:=by rw[Int.natAbs_tdiv];exact Nat.div_le_self _ _
 have w1:IntKind.i64.wrap (a.tdiv b)=a.tdiv b:=wrap64 (by omega) (by omega)
 have w2:IntKind.i64.wrap (a.tdiv b-1)=a.tdiv b-1:=wrap64 (by omega) (by omega)
 simp only[↓kn,↓bJ,w1,true_and]
 refine⟨hb,hb,fun l _=>l=[.int .i64 (kg a b)],fun f h hj=>?_,?_⟩
 ·simp at hj
  rw[hj,bI]
 ·by_cases h0:a.tmod b=0
  ·simp[↓cq,h0,gS,ai,kg]
  ·by_cases h1:a.tmod b<0
   ·by_cases h2:b<0
    ·have h3:¬0<a.tmod b:=by omega
     simp[↓cq,h0,gS,↓bK,h1,h2,↓Ig,veqv,eqCells,D.isAgg,aw,D.cells,D.one,ai,kg,h3]
    ·simp[↓cq,h0,gS,↓bK,h1,h2,↓Ig,veqv,eqCells,D.isAgg,aw,D.cells,D.one,↓gO,w2,ai,kg]
   ·by_cases h2:b<0
    ·have h3:0<a.tmod b:=by omega
     simp[↓cq,h0,gS,↓bK,h1,h2,↓Ig,veqv,eqCells,D.isAgg,aw,D.cells,D.one,↓gO,w2,ai,kg,h3]
    ·simp[↓cq,h0,gS,↓bK,h1,h2,↓Ig,veqv,eqCells,D.isAgg,aw,D.cells,D.one,ai,kg]
def CG (s a b:Int):Bool:=if s=24 then decide (a=b) else if s=25 then !decide (a=b) else if s=26 then decide (a<b) else if s=27 then decide (a<=b) else if s=28 then decide (b<a) else decide (b<=a)
def OD (b:Bool):Int:=if b then 1 else 0
theorem Tv {s a b:Int}(hs:24<=s/\s<=29):aF PP gG [.int .i64 s,.int .i32 a,.int .i32 b] (· = .tup [.int .i32 (OD (CG s a b)),.int .i64 0]):=by
 refine bg tQ (aA _ _ _) rfl (tJ _ _ _ _) ?_
 (unfold nH;try dsimp only[xL,yL,xF,yF,xI,yI,xS,zI,zJ])
 have go:∀(x:Bool),ag PP cr [.bool x] aC fun a6 h7=>qH (· = .tup [.int .i32 (OD x),.int .i64 0]) (.tup [a6,.int .i64 0]) h7:=by
  intro x
  refine bE (Pw x) (by simp[D.vd,D.vone,aw,D.cells,D.one]) ?_
  rintro _ rfl
  rw[cK]
  rfl
 have:s=24\/s=25\/s=26\/s=27\/s=28\/s=29:=by omega
 rcases this with rfl|rfl|rfl|rfl|rfl|rfl
 all_goals simp[↓aM,↓cq,↓bK,↓JV,↓qK,↓iz,↓af,↓ae,CG]
 all_goals exact go _
theorem T6 (b:Int):ibits .and .i32 b 31=b % 32:=by
 have e1:(BitVec.ofInt 32 31).toNat=31:=by decide
 show IntKind.i32.wrap ((BitVec.ofInt 32 b &&& BitVec.ofInt 32 31).toNat:Int)=_
 rw[BitVec.toNat_and,BitVec.toNat_ofInt,e1,show(31:Nat)=2 ^ 5-1 by decide,Nat.and_two_pow_sub_one_eq_mod]
 have h:pJ (((b % 4294967296).toNat % 2 ^ 5:Nat):Int)=(((b % 4294967296).toNat % 2 ^ 5:Nat):Int):=DI ⟨by omega,by omega⟩
 have h':=h
 unfold pJ at h'
 show IntKind.i32.wrap (((b % ((2 ^ 32:Nat):Int)).toNat % 2 ^ 5:Nat):Int)=_
 rw[show(((2 ^ 32:Nat):Int))=4294967296 by decide,h']
 omega
theorem Ns {a b:Int}(ha:gM a) (hb:gM b) : -4611686018427387904<=a*b/\a*b<=4611686018427387904:=by
 have h:(a*b).natAbs<=2147483648*2147483648:=by
  rw[Int.natAbs_mul]
  exact Nat.mul_le_mul (by have:=ha.1;have:=ha.2;omega) (by have:=hb.1;have:=hb.2;omega)
 omega
def jZ (s a b:Int):Int :=
 if s=10 then pJ (a+b) else if s=11 then pJ (a-b) else if s=12 then pJ (a*b) else if s=13 then M0 a b else if s=14 then MM a b
 else if s=15 then pJ ((a*b).fdiv 65536) else if s=16 then(if b=0 then 0 else pJ (kg (a*65536) b))
 else if s=17 then ibits .and .i32 a b else if s=18 then ibits .or .i32 a b else if s=19 then ibits .xor .i32 a b
 else if s=20 then H6 .i32 a (b % 32) else if s=21 then Jl .i32 a (b % 32) else if s=22 then(if b<a then b else a) else if s=23 then(if a<b then b else a)
 else OD (CG s a b)
theorem QN {s a b:Int}(hs:10<=s/\s<=29) (ha:gM a) (hb:gM b):aF PP kM [.int .i64 s,.int .i32 a,.int .i32 b] (· = .tup [.int .i32 (jZ s a b),.int .i64 0]):=by
 refine bg C4 (aA _ _ _) rfl (CJ _ _ _ _) ?_
 (unfold xO;try dsimp only[xL,yL,xF,yF,xI,yI,xS,zI,zJ])
 simp only[↓cu,vq ha,vq hb]
 refine bE (Tu ha hb) (by simp[D.vd,D.vone,aw,D.cells,D.one]) ?_
 rintro _ rfl
 simp only[↓h_ext,List.getElem?_cons_zero,List.getElem?_cons_succ]
 have h31:=T6 b
 have m1:=Ns ha hb
 have w1:IntKind.i64.wrap (a*b)=a*b:=wrap64 (by omega) (by omega)
 have s1:H6 .i64 a 16=a*65536:=by
  unfold H6
  have:a*2 ^ (min (16:Int).toNat IntKind.i64.bits)=a*65536:=by rfl
  rw[this,wrap64 (by have:=ha.1;omega) (by have:=ha.2;omega)]
 have s2:Jl .i64 (a*b) 16=(a*b).fdiv 65536:=rfl
 have p1:0<=b % 32:=Int.emod_nonneg _ (by omega)
 have go:∀(h:Heap),24<=s->ag PP gG [.int .i64 s,.int .i32 a,.int .i32 b] h fun a52 h53=>ab PP (.ext (.c a52) 0) h53 fun a54 h55=>ab PP (.ext (.c a52) 1) h55 fun a56 h57=>qH (· = .tup [.int .i32 (OD (CG s a b)),.int .i64 0]) (.tup [a54,a56]) h57:=by
  intro h hs4
  refine bE (Tv ⟨hs4,hs.2⟩) (by simp[D.vd,D.vone,aw,D.cells,D.one]) ?_
  rintro _ rfl
  simp only[↓h_ext,List.getElem?_cons_zero,List.getElem?_cons_succ]
  simp[cK]
 have:s=10\/s=11\/s=12\/s=13\/s=14\/s=15\/s=16\/s=17\/s=18\/s=19\/s=20\/s=21\/s=22\/s=23\/24<=s:=by omega
 rcases this with rfl|rfl|rfl|rfl|rfl|rfl|rfl|rfl|rfl|rfl|rfl|rfl|rfl|rfl|h24
 case inr.inr.inr.inr.inr.inr.inl =>
  by_cases h0:b=0
  ·simp[↓aM,↓af,↓ae,h0,cK,jZ]
  ·simp only[↓aM,↓af,↓ae,↓Mn,s1,h0,true_and,decide_true,decide_false,Int.reduceEq]
   refine⟨by omega,?_⟩
   refine bE (Py h0 (by have:=ha.1;have:=ha.2;omega)) (by simp[D.vd,D.vone,aw,D.cells,D.one]) ?_
   rintro _ rfl
   simp[↓cu,cK,jZ,h0]
 case inr.inr.inr.inr.inr.inr.inr.inr.inr.inr.inr.inr.inr.inr =>
  have:s≠10/\s≠11/\s≠12/\s≠13/\s≠14/\s≠15/\s≠16/\s≠17/\s≠18/\s≠19/\s≠20/\s≠21/\s≠22/\s≠23:=by omega
  obtain⟨t1,t2,t3,t4,t5,t6,t7,t8,t9,t10,t11,t12,t13,t14⟩:=this
  simp[↓aM,↓ae,t1,t2,t3,t4,t5,t6,t7,t8,t9,t10,t11,t12,t13,t14,jZ]
  exact go _ h24
 all_goals simp[↓aM,↓af,↓ae,↓bp,↓gO,↓gb,↓S5,↓Ul,↓S3,↓Mn,↓QF,↓P3,↓Jp,↓cu,h31,w1,s1,s2,p1,cK,jZ]
theorem Mc (n:Int):IntKind.i32.wrap (IntKind.u32.wrap (IntKind.u64.wrap n))=pJ n:=by
 unfold pJ IntKind.wrap
 simp only[IntKind.signed,IntKind.bits]
 simp
theorem I7 {n:Int}:aF PP cO [.int .i64 n] (· = .int .i32 (pJ n)):=by
 refine bg Dc (aA _ _ _) rfl (CS _ _) ?_
 (unfold ye;try dsimp only[xL,yL,xF,yF,xI,yI,xS,zI,zJ])
 simp[↓cu,Mc,bI]
theorem GM (b:Bool):aF PP gW [.bool b] (· = .int .i32 (OD b)):=by
 refine bg AZ (aA _ _ _) rfl (AJ _ _) ?_
 (unfold uv;try dsimp only[xL,yL,xF,yF,xI,yI,xS,zI,zJ])
 cases b<;>simp[↓af,↓ae,↓bI,OD]
abbrev Uh (a:Int):Prop:=-4611686018427387904<=a/\a<=4611686018427387904
def lG (a b:Int):Int:=if a.tmod b<0 then a.tdiv b-1 else a.tdiv b
theorem rJ {a b:Int}(hb:0<b):lG a b=a.fdiv b:=by
 unfold lG
 rw[Int.fdiv_eq_ediv_of_nonneg a (by omega),Int.tmod_eq_emod,Int.tdiv_eq_ediv]
 have h1:=Int.emod_nonneg a (show b≠0 by omega)
 have h2:=Int.emod_lt_of_pos a hb
 have h3:(b.natAbs:Int)=b:=by omega
 have h4:b.sign=1:=Int.sign_eq_one_of_pos hb
 rw[h4]
 by_cases hc:0<=a\/b ∣ a
 ·simp only[hc,if_true]
  rw[if_neg (by omega)];omega
 ·simp only[hc,if_false]
  rw[if_pos (by omega)];omega
theorem w8 {a b:Int}(hb:0<b) (ha:Uh a):aF PP eL [.int .i64 a,.int .i64 b] (· = .int .i64 (lG a b)):=by
 refine bg AX (aA _ _ _) rfl (AH _ _ _) ?_
 (unfold ur;try dsimp only[xL,yL,xF,yF,xI,yI,xS,zI,zJ])
 have hq:(a.tdiv b).natAbs<=a.natAbs:=by rw[Int.natAbs_tdiv];exact Nat.div_le_self _ _
 have w1:IntKind.i64.wrap (a.tdiv b)=a.tdiv b:=wrap64 (by omega) (by omega)
 have w2:IntKind.i64.wrap (a.tdiv b-1)=a.tdiv b-1:=wrap64 (by omega) (by omega)
 simp only[↓kn,w1,true_and]
 refine⟨by omega,fun l _=>l=[.int .i64 (lG a b)],fun f h hj=>?_,?_⟩
 ·simp at hj
  rw[hj,bI]
 ·by_cases h1:a.tmod b<0
  ·simp[↓bJ,↓bK,h1,↓af,↓gO,w2,ai,lG];omega
  ·simp[↓bJ,↓bK,h1,↓ae,ai,lG];omega
theorem Pr {a b:Int}(hb:b≠0) (ha:Uh a) (hb2:Uh b):aF PP mU [.int .i64 a,.int .i64 b] (· = .int .i64 (kg a b)):=by
 refine bg AY (aA _ _ _) rfl (AI _ _ _) ?_
 (unfold uu;try dsimp only[xL,yL,xF,yF,xI,yI,xS,zI,zJ])
 by_cases h:b<0
 ·have w1:IntKind.i64.wrap (0-a) = -a:=by rw[wrap64 (by omega) (by omega)];omega
  have w2:IntKind.i64.wrap (0-b) = -b:=by rw[wrap64 (by omega) (by omega)];omega
  simp only[↓bK,h,decide_true,↓af,↓F7,w1,w2,true_and]
  refine bE (w8 (by omega) ⟨by omega,by omega⟩) (by simp[D.vd,D.vone,aw,D.cells,D.one]) ?_
  rintro _ rfl
  rw[bI]
  simp only[lG,kg,h,if_true,Int.neg_tmod,Int.tmod_neg,Int.neg_tdiv,Int.tdiv_neg,Int.neg_neg]
  congr 1
  by_cases h1:0<a.tmod b
  ·rw[if_pos (by omega),if_pos h1]
  ·rw[if_neg (by omega),if_neg h1]
 ·simp only[↓bK,h,decide_false,↓ae,true_and]
  refine bE (w8 (by omega) ha) (by simp[D.vd,D.vone,aw,D.cells,D.one]) ?_
  rintro _ rfl
  rw[bI]
  simp[lG,kg,h]
theorem En {a b:Int}(ha:Uh a):aF PP gH [.int .i64 a,.int .i64 b] (· = .int .i64 (if b=0 then 0 else a.tdiv b)):=by
 refine bg tR (aA _ _ _) rfl (tK _ _ _) ?_
 (unfold nK;try dsimp only[xL,yL,xF,yF,xI,yI,xS,zI,zJ])
 have hq:(a.tdiv b).natAbs<=a.natAbs:=by rw[Int.natAbs_tdiv];exact Nat.div_le_self _ _
 have w1:IntKind.i64.wrap (a.tdiv b)=a.tdiv b:=wrap64 (by omega) (by omega)
 by_cases h:b=0
 ·simp[↓aM,h,↓af,bI]
 ·simp[↓aM,h,↓ae,↓kn,w1,bI]
theorem I8 {s a b:Int}:aF PP jk [.int .i64 s,.int .i64 a,.int .i64 b] (· = .bool (CG s a b)):=by
 refine bg tS (aA _ _ _) rfl (tL _ _ _ _) ?_
 (unfold nM;try dsimp only[xL,yL,xF,yF,xI,yI,xS,zI,zJ])
 by_cases h1:s=24
 ·simp[↓aM,h1,↓af,bM,CG]
 by_cases h2:s=25
 ·simp[↓aM,h2,↓af,↓ae,↓cq,bM,CG]
 by_cases h3:s=26
 ·simp[↓aM,h3,↓af,↓ae,↓bK,bM,CG]
 by_cases h4:s=27
 ·simp[↓aM,h4,↓af,↓ae,↓JV,bM,CG]
 by_cases h5:s=28
 ·simp[↓aM,h5,↓af,↓ae,↓qK,bM,CG]
 simp[↓aM,h1,h2,h3,h4,h5,↓ae,↓iz,bM,CG]
theorem GP {i:Nat}(h:i<=32):1<=(2 ^ i:Nat)/\(2 ^ i:Nat)<=4294967296:=⟨Nat.two_pow_pos i,by
 have:=Nat.pow_le_pow_right (n:=2) (by omega) h
 simpa using this⟩
theorem GL {n:Nat}(hn:n<=32):aF PP cP [.int .i64 (n:Int)] (· = .int .i64 ((2 ^ n:Nat):Int)):=by
 refine bg AW (aA _ _ _) rfl (AG _ _) ?_
 (unfold uq nL;try dsimp only[xL,yL,xF,yF,xI,yI,xS,zI,zJ])
 refine⟨fun l _=>l=[.int .i64 ((2 ^ n:Nat):Int)],fun f h hj=>?_,?_⟩
 ·simp only[List.cons.injEq,and_true]at hj
  rw[hj,bI]
 ·refine⟨fun k l _=>k<=n/\l=[.int .i64 ((2 ^ (n-k):Nat):Int),.int .i64 ((n-k:Nat):Int)],n,⟨Nat.le_refl _,by simp⟩,?_⟩
  rintro k f h ⟨hk,hl⟩
  simp only[List.cons.injEq,and_true]at hl
  obtain⟨e1,e2⟩:=hl
  rw[e1,e2]
  obtain⟨p1,p2⟩:=GP (i:=n-k) (by omega)
  by_cases h0:k=0
  ·subst h0
   simp[↓bK,↓ae,ai]
  ·have hlt:((n-k:Nat):Int)<(n:Int):=by omega
   have w1:IntKind.i64.wrap (2*((2 ^ (n-k):Nat):Int))=((2 ^ (n-(k-1)):Nat):Int):=by
    rw[wrap64 (by omega) (by omega),show n-(k-1)=(n-k)+1 by omega,Nat.pow_succ];omega
   have w2:IntKind.i64.wrap (((n-k:Nat):Int)+1)=((n-(k-1):Nat):Int):=by rw[wrap64 (by omega) (by omega)];omega
   simp only[↓bK,hlt,decide_true,↓af,↓gb,↓bp,w1,w2,true_and]
   refine⟨by simp[ai],k-1,by omega,by omega,rfl⟩
def CH (s:Int) (p q:Nat):Nat:=if s=19 then(p+q) % 2 else if s=18 then(if p<q then q else p) else p*q
def l8 (s:Int) (x y:Nat):Nat:=if s=19 then x ^^^ y else if s=18 then x ||| y else x &&& y
theorem Lj {s:Int}{x y:Nat}(i:Nat):l8 s x y / 2 ^ i % 2=CH s (x / 2 ^ i % 2) (y / 2 ^ i % 2):=by
 have base:∀a b:Nat,l8 s a b % 2=CH s (a % 2) (b % 2):=by
  intro a b
  have h2:(2:Nat)=2 ^ 1:=rfl
  unfold l8 CH
  have ha:a % 2=0\/a % 2=1:=by omega
  have hb:b % 2=0\/b % 2=1:=by omega
  split
  ·rw[show(a ^^^ b) % 2=(a % 2) ^^^ (b % 2) from by rw[h2,Nat.xor_mod_two_pow]]
   rcases ha with ha|ha<;>rcases hb with hb|hb<;>simp[ha,hb]
  ·split
   ·rw[show(a ||| b) % 2=(a % 2) ||| (b % 2) from by rw[h2,Nat.or_mod_two_pow]]
    rcases ha with ha|ha<;>rcases hb with hb|hb<;>simp[ha,hb]
   ·rw[show(a &&& b) % 2=(a % 2) &&& (b % 2) from by rw[h2,Nat.and_mod_two_pow]]
    rcases ha with ha|ha<;>rcases hb with hb|hb<;>simp[ha,hb]
 have sh:l8 s x y / 2 ^ i=l8 s (x / 2 ^ i) (y / 2 ^ i):=by
  unfold l8
  split
  ·simp only[<- Nat.shiftRight_eq_div_pow,Nat.shiftRight_xor_distrib]
  ·split
   ·simp only[<- Nat.shiftRight_eq_div_pow,Nat.shiftRight_or_distrib]
   ·simp only[<- Nat.shiftRight_eq_div_pow,Nat.shiftRight_and_distrib]
 rw[sh,base]
theorem Nq {s:Int}{x y k:Nat}(hx:x<2 ^ k) (hy:y<2 ^ k):l8 s x y<2 ^ k:=by
 unfold l8
 split
 ·exact Nat.xor_lt_two_pow hx hy
 ·split
  ·exact Nat.or_lt_two_pow hx hy
  ·exact Nat.and_lt_two_pow _ hy
theorem mod_succ (z i:Nat):z % 2 ^ (i+1)=z % 2 ^ i+z / 2 ^ i % 2*2 ^ i:=by
 rw[Nat.pow_succ,Nat.mod_mul,Nat.mul_comm (2 ^ i)]
def u32 (a:Int):Nat:=(a % 4294967296).toNat
theorem Mo (a:Int):u32 a<2 ^ 32:=by unfold u32;have:=Int.emod_lt_of_pos a (show(0:Int)<4294967296 by omega);omega
theorem Sj {a b:Int}:ibits .and .i32 a b=pJ ((l8 17 (u32 a) (u32 b):Nat):Int):=by
 show IntKind.i32.wrap ((BitVec.ofInt 32 a &&& BitVec.ofInt 32 b).toNat:Int)=_
 rw[BitVec.toNat_and,BitVec.toNat_ofInt,BitVec.toNat_ofInt];rfl
theorem TG {a b:Int}:ibits .or .i32 a b=pJ ((l8 18 (u32 a) (u32 b):Nat):Int):=by
 show IntKind.i32.wrap ((BitVec.ofInt 32 a ||| BitVec.ofInt 32 b).toNat:Int)=_
 rw[BitVec.toNat_or,BitVec.toNat_ofInt,BitVec.toNat_ofInt];rfl
theorem Si {a b:Int}:ibits .xor .i32 a b=pJ ((l8 19 (u32 a) (u32 b):Nat):Int):=by
 show IntKind.i32.wrap ((BitVec.ofInt 32 a ^^^ BitVec.ofInt 32 b).toNat:Int)=_
 rw[BitVec.toNat_xor,BitVec.toNat_ofInt,BitVec.toNat_ofInt];rfl
theorem T4 {d:D}(h:d.vone=true):d.vd=true/\aw d:=by
 cases d<;>first|(exact⟨rfl,fun x hx=>by simp[D.cells]at hx;subst hx;rfl⟩)|(simp[D.vone]at h)
theorem dF {ds:List D}(h:ds.all D.vone=true):∀d∈ds,d.vd=true/\aw d:=fun d hd=>T4 (List.all_eq_true.1 h d hd)
theorem Kw {P:Program}{f:FuncId}{d r:D}{h:Heap}{K:D->Prop}(hv:aF P f [d] (· = r)) (hds:∀x,x∈[d]->x.vd=true/\aw x) (hk:K r):aq P (.call f [.c d]) h K:=pk hv hds hk
theorem RL {s a b:Int}(ha:gM a) (hb:gM b):aF PP kN [.int .i64 s,.int .i32 a,.int .i32 b] (· = .int .i32 (pJ ((l8 s (u32 a) (u32 b):Nat):Int))):=by
 refine bg Dd (aA _ _ _) rfl (CT _ _ _ _) ?_
 (unfold yf pP;try dsimp only[xL,yL,xF,yF,xI,yI,xS,zI,zJ])
 have pw:=GL (n:=32) (by omega)
 have ux:∀z:Int,gM z->IntKind.i64.wrap (z+IntKind.i64.wrap (4294967296*OD (decide (z<0))))=((u32 z:Nat):Int):=by
  intro z hz
  have:=hz.1;have:=hz.2
  unfold u32 OD
  by_cases h:z<0
  ·simp only[h,decide_true,if_true]
   rw[show IntKind.i64.wrap (4294967296*1)=4294967296 from rfl,wrap64 (by omega) (by omega)]
   omega
  ·simp only[h,decide_false,Bool.false_eq_true,if_false]
   rw[show IntKind.i64.wrap (4294967296*0)=0 from rfl,wrap64 (by omega) (by omega)]
   omega
 have wb:∀t:Bool,IntKind.i64.wrap (OD t)=OD t:=fun t=>by cases t<;>rfl
 have hx:=Mo a
 have hy:=Mo b
 simp only[↓cu,vq ha,vq hb]
 refine bE pw (dF rfl) ?_
 rintro _ rfl
 simp only[↓bK,true_and]
 refine bE (GM _) (dF rfl) ?_
 rintro _ rfl
 simp only[↓cu,wb,↓gb,↓bp,true_and]
 refine bE pw (dF rfl) ?_
 rintro _ rfl
 refine bE (GM _) (dF rfl) ?_
 rintro _ rfl
 have e32:((2 ^ 32:Nat):Int)=4294967296:=by decide
 simp only[↓cu,wb,↓gb,↓bp,true_and,e32,ux a ha,ux b hb]
 obtain⟨z,hz⟩:∃z,z=l8 s (u32 a) (u32 b):=⟨_,rfl⟩
 have hzl:z<2 ^ 32:=by rw[hz];exact Nq hx hy
 rw[<- hz]
 refine⟨fun l _=>l=[.int .i64 ((z:Nat):Int)],fun f h hj=>?_,?_⟩
 ·simp only[List.cons.injEq,and_true]at hj
  rw[hj]
  refine bE I7 (dF rfl) ?_
  rintro _ rfl
  rw[bI]
 ·refine⟨fun k l _=>k<=32/\l=[.int .i64 ((z % 2 ^ (32-k):Nat):Int),.int .i64 ((32-k:Nat):Int)],32,⟨Nat.le_refl _,by simp[Nat.mod_one]⟩,?_⟩
  rintro k f h ⟨hk,hl⟩
  simp only[List.cons.injEq,and_true]at hl
  obtain⟨e1,e2⟩:=hl
  rw[e1,e2]
  obtain⟨p1,p2⟩:=GP (i:=32-k) (by omega)
  by_cases h0:k=0
  ·subst h0
   have:z % 2 ^ 32=z:=Nat.mod_eq_of_lt hzl
   simp[↓bK,↓ae,ai,this]
  ·obtain⟨i,hi⟩:∃i,i=32-k:=⟨_,rfl⟩
   rw[<- hi]at p1 p2 ⊢
   have hlt:((i:Nat):Int)<32:=by omega
   have pwi:=GL (n:=i) (by omega)
   have q1:∀x:Nat,x<2 ^ 32->IntKind.i64.wrap (((x:Nat):Int).tdiv ((2 ^ i:Nat):Int))=((x / 2 ^ i:Nat):Int):=by
    intro x hx
    rw[<- Int.ofNat_tdiv]
    have h1:x / 2 ^ i<=x:=Nat.div_le_self _ _
    have h2:(2:Nat) ^ 32=4294967296:=by decide
    generalize x / 2 ^ i=v at h1
    exact wrap64 (by omega) (by omega)
   have q2:∀x:Nat,((x:Nat):Int).tmod 2=((x % 2:Nat):Int):=fun x=>by rw[show(2:Int)=((2:Nat):Int) from rfl, <- Int.ofNat_tmod]
   have pz:((2 ^ i:Nat):Int)≠0:=by omega
   simp only[↓bK,hlt,decide_true,↓af,true_and]
   refine Kw pwi (dF rfl) ?_
   simp only[↓kn,pz,q1 _ hx,↓bJ,q2,true_and,ne_eq,not_false_eq_true,Int.reduceEq]
   refine Kw pwi (dF rfl) ?_
   simp only[↓kn,pz,q1 _ hy,↓bJ,q2,true_and,ne_eq,not_false_eq_true,Int.reduceEq]
   have px:u32 a / 2 ^ i % 2=0\/u32 a / 2 ^ i % 2=1:=by omega
   have py:u32 b / 2 ^ i % 2=0\/u32 b / 2 ^ i % 2=1:=by omega
   have hbit:=Lj (s:=s) (x:=u32 a) (y:=u32 b) i
   rw[<- hz]at hbit
   obtain⟨p,hp⟩:∃p,p=u32 a / 2 ^ i % 2:=⟨_,rfl⟩
   obtain⟨q,hq⟩:∃q,q=u32 b / 2 ^ i % 2:=⟨_,rfl⟩
   rw[<- hp]at px hbit ⊢
   rw[<- hq]at py hbit ⊢
   have hpq:p*q<=1:=by rcases px with rfl|rfl<;>rcases py with rfl|rfl<;>decide
   have w1:IntKind.i64.wrap (((p:Nat):Int)*((q:Nat):Int))=((p*q:Nat):Int):=by rw[<- Int.natCast_mul];exact wrap64 (by omega) (by omega)
   have w2:IntKind.i64.wrap (((p:Nat):Int)+((q:Nat):Int))=((p+q:Nat):Int):=by rw[<- Int.natCast_add];exact wrap64 (by omega) (by omega)
   have hr:CH s p q<=1:=by unfold CH;split;omega;split;(split<;>omega);exact hpq
   have hbp:CH s p q*2 ^ i<=2 ^ i:=by have:=Nat.mul_le_mul_right (2 ^ i) hr;omega
   have hzm:z % 2 ^ i<2 ^ i:=Nat.mod_lt _ (by omega)
   have w3:IntKind.i64.wrap (((CH s p q:Nat):Int)*((2 ^ i:Nat):Int))=((CH s p q*2 ^ i:Nat):Int):=by rw[<- Int.natCast_mul];exact wrap64 (by omega) (by omega)
   have w4:IntKind.i64.wrap (((z % 2 ^ i:Nat):Int)+((CH s p q*2 ^ i:Nat):Int))=((z % 2 ^ (i+1):Nat):Int):=by
    rw[<- Int.natCast_add,wrap64 (by omega) (by omega),mod_succ,hbit]
   have w5:IntKind.i64.wrap (((i:Nat):Int)+1)=((i+1:Nat):Int):=by rw[wrap64 (by omega) (by omega)];rfl
   simp only[↓gb,w1,true_and]
   refine⟨fun l _=>l=[.int .i64 ((if s=18 then(if p<q then q else p) else p*q:Nat):Int)],fun f2 h2 hj=>?_,?_⟩
   ·simp only[List.cons.injEq,and_true]at hj
    rw[hj]
    refine⟨fun l _=>l=[.int .i64 ((CH s p q:Nat):Int)],fun f3 h3 hj3=>?_,?_⟩
    ·simp only[List.cons.injEq,and_true]at hj3
     rw[hj3]
     refine bE pwi (dF rfl) ?_
     rintro _ rfl
     simp only[↓gb,w3,↓bp,w4,w5,true_and]
     refine⟨by simp[ai],k-1,by omega,by omega,?_⟩
     rw[show 32-(k-1)=i+1 by omega]
    ·by_cases h19:s=19
     ·have q3:((p+q:Nat):Int).tmod 2=(((p+q) % 2:Nat):Int):=q2 _
      simp only[↓aM,h19,decide_true,↓af,↓bp,w2,↓bJ,q3,true_and]
      simp[ai,CH]
     ·simp only[↓aM,h19,decide_false,↓ae,true_and]
      simp[ai,CH,h19]
   ·by_cases h18:s=18
    ·simp only[↓aM,h18,decide_true,↓af,↓Jp,true_and]
     by_cases hlt2:p<q
     ·have:((p:Nat):Int)<((q:Nat):Int):=by omega
      simp[ai,hlt2,this]
     ·have:¬((p:Nat):Int)<((q:Nat):Int):=by omega
      simp[ai,hlt2,this]
    ·simp only[↓aM,h18,decide_false,↓ae,true_and]
     simp[ai]
theorem DB {a m:Int}(ha:gM a) (hm:1<=m):gM (a.fdiv m):=by
 rw[Int.fdiv_eq_ediv_of_nonneg a (by omega)]
 have:=ha.1;have:=ha.2
 by_cases h:0<=a
 ·have h1:=Int.ediv_nonneg h (show 0<=m by omega)
  have h2:=Int.ediv_le_self m h
  exact⟨by omega,by omega⟩
 ·have h1:=Int.ediv_neg_of_neg_of_pos (show a<0 by omega) (show 0<m by omega)
  have h2:a<=a / m:=(Int.le_ediv_iff_mul_le (show 0<m by omega)).2 (by
   have:=Int.mul_le_mul_of_nonpos_left (show a<=0 by omega) hm
   omega)
  exact⟨by omega,by omega⟩
def gk (s a b:Int):Int :=
 if s=10 then a+b else if s=11 then a-b else if s=12 then a*b else if s=13 then(if b=0 then 0 else a.tdiv b) else if s=14 then a-b*(if b=0 then 0 else a.tdiv b)
 else if s=15 then lG (a*b) 65536 else if s=16 then(if b=0 then 0 else kg (65536*a) b) else if s=20 then a*((2 ^ (b % 32).toNat:Nat):Int) else if s=21 then lG a ((2 ^ (b % 32).toNat:Nat):Int)
 else if s=22 then(if b<a then b else a) else(if a<b then b else a)
theorem KS {s a b:Int}(hs:10<=s/\s<=23) (hn:s≠17/\s≠18/\s≠19) (ha:gM a) (hb:gM b):pJ (gk s a b)=jZ s a b:=by
 have:s=10\/s=11\/s=12\/s=13\/s=14\/s=15\/s=16\/s=20\/s=21\/s=22\/s=23:=by omega
 have e0:pJ 0=0:=rfl
 have hn32:(b % 32).toNat<=31:=by omega
 rcases this with rfl|rfl|rfl|rfl|rfl|rfl|rfl|rfl|rfl|rfl|rfl
 ·rfl
 ·rfl
 ·rfl
 ·simp only[gk,jZ,M0]
  by_cases h:b=0<;>simp[h,e0]
 ·simp only[gk,jZ,MM]
  by_cases h:b=0
  ·simp[h,DI ha]
  ·have h1:=Int.mul_tdiv_add_tmod a b
   have h2:a-b*a.tdiv b=a.tmod b:=by omega
   simp[h,h2,DI (wO (b:=b) ha)]
 ·simp[gk,jZ,rJ]
 ·simp only[gk,jZ]
  by_cases h:b=0
  ·simp[h,e0]
  ·simp[h,Int.mul_comm]
 ·have hm:min (b % 32).toNat 32=(b % 32).toNat:=by omega
  simp only[gk,jZ,H6]
  simp[hm,IntKind.bits]
 ·have hm:min (b % 32).toNat 32=(b % 32).toNat:=by omega
  have p:=(GP (i:=(b % 32).toNat) (by omega)).1
  simp only[gk,jZ,Jl]
  have e1:lG a ((2 ^ (b % 32).toNat:Nat):Int)=a.fdiv ((2 ^ (b % 32).toNat:Nat):Int):=rJ (by omega)
  have e2:=DI (DB (m:=((2 ^ (b % 32).toNat:Nat):Int)) ha (by omega))
  have e3:(2:Int) ^ (min (b % 32).toNat IntKind.i32.bits)=((2 ^ (b % 32).toNat:Nat):Int):=by
   rw[show min (b % 32).toNat IntKind.i32.bits=(b % 32).toNat from hm];norm_cast
  simp only[Int.reduceEq,if_false,if_true,e1,e2,e3]
 ·simp only[gk,jZ]
  by_cases h:b<a
  ·simp[h,DI hb]
  ·simp[h,DI ha]
 ·simp only[gk,jZ]
  by_cases h:a<b
  ·simp[h,DI hb]
  ·simp[h,DI ha]
theorem OC {s a b:Int}(hs:s=17\/s=18\/s=19):pJ ((l8 s (u32 a) (u32 b):Nat):Int)=jZ s a b:=by
 rcases hs with rfl|rfl|rfl
 ·exact Sj.symm
 ·exact TG.symm
 ·exact Si.symm
theorem Ql {s a b:Int}(hs:24<=s):OD (CG s a b)=jZ s a b:=by
 have:s≠10/\s≠11/\s≠12/\s≠13/\s≠14/\s≠15/\s≠16/\s≠17/\s≠18/\s≠19/\s≠20/\s≠21/\s≠22/\s≠23:=by omega
 obtain⟨t1,t2,t3,t4,t5,t6,t7,t8,t9,t10,t11,t12,t13,t14⟩:=this
 simp[jZ,t1,t2,t3,t4,t5,t6,t7,t8,t9,t10,t11,t12,t13,t14]
theorem Pp {s a b:Int}(hs:10<=s/\s<=23) (hn:s≠17/\s≠18/\s≠19) (ha:gM a) (hb:gM b):aF PP mT [.int .i64 s,.int .i64 a,.int .i64 b] (· = .int .i64 (gk s a b)):=by
 refine bg AV (aA _ _ _) rfl (AF _ _ _ _) ?_
 (unfold uo;try dsimp only[xL,yL,xF,yF,xI,yI,xS,zI,zJ])
 have:=ha.1;have:=ha.2;have:=hb.1;have:=hb.2
 have m1:=Ns ha hb
 have w1:IntKind.i64.wrap (b.tmod 32+32)=b.tmod 32+32:=by
  have:=wO (b:=32) hb
  exact wrap64 (by have:=this.1;omega) (by have:=this.2;omega)
 have sh:(b.tmod 32+32).tmod 32=(((b % 32).toNat:Nat):Int):=by
  have h1 : -32<b.tmod 32:=by have:=Int.lt_tmod_of_pos b (show(0:Int)<32 by omega);omega
  rw[Int.tmod_eq_emod_of_nonneg (by omega),Int.tmod_eq_emod]
  split
  ·omega
  ·simp only[Int.natAbs]
   omega
 have hn32:(b % 32).toNat<=31:=by omega
 have pw:=GL (n:=(b % 32).toNat) (by omega)
 have pb:=GP (i:=(b % 32).toNat) (by omega)
 simp only[↓bJ,↓bp,w1,sh,true_and,ne_eq,Int.reduceEq,not_false_eq_true]
 have qb:b≠0->-2147483648<=a.tdiv b/\a.tdiv b<=2147483648:=JZ ha
 have:s=10\/s=11\/s=12\/s=13\/s=14\/s=15\/s=16\/s=20\/s=21\/s=22\/s=23:=by omega
 rcases this with rfl|rfl|rfl|rfl|rfl|rfl|rfl|rfl|rfl|rfl|rfl
 ·simp[↓aM,↓af,↓bp,bI,gk,wrap64 (n:=a+b) (by omega) (by omega)]
 ·simp[↓aM,↓af,↓ae,↓gO,bI,gk,wrap64 (n:=a-b) (by omega) (by omega)]
 ·simp[↓aM,↓af,↓ae,↓gb,bI,gk,wrap64 (n:=a*b) (by omega) (by omega)]
 ·simp only[↓aM,↓af,↓ae,Int.reduceEq,decide_true,decide_false,true_and]
  refine bE (En ⟨by omega,by omega⟩) (dF rfl) ?_
  rintro _ rfl
  rw[bI];rfl
 ·simp only[↓aM,↓af,↓ae,Int.reduceEq,decide_true,decide_false,true_and]
  refine bE (En ⟨by omega,by omega⟩) (dF rfl) ?_
  rintro _ rfl
  have hm:gM (a.tmod b):=wO ha
  have hq : -4611686018427387904<=b*(if b=0 then 0 else a.tdiv b)/\b*(if b=0 then 0 else a.tdiv b)<=4611686018427387904:=by
   by_cases h:b=0
   ·simp[h]
   ·have h1:=Int.mul_tdiv_add_tmod a b
    have:=hm.1;have:=hm.2
    simp only[h,if_false]
    omega
  have w2:IntKind.i64.wrap (b*(if b=0 then 0 else a.tdiv b))=b*(if b=0 then 0 else a.tdiv b):=wrap64 (by omega) (by omega)
  have w3:IntKind.i64.wrap (a-b*(if b=0 then 0 else a.tdiv b))=a-b*(if b=0 then 0 else a.tdiv b):=wrap64 (by omega) (by omega)
  simp only[↓gb,w2,↓gO,w3,true_and,bI]
  rfl
 ·simp only[↓aM,↓af,↓ae,↓gb,Int.reduceEq,decide_true,decide_false,true_and,wrap64 (n:=a*b) (by omega) (by omega)]
  refine bE (w8 (by omega) m1) (dF rfl) ?_
  rintro _ rfl
  rw[bI];rfl
 ·by_cases h:b=0
  ·simp[↓aM,↓af,↓ae,h,bI,gk]
  ·simp only[↓aM,↓af,↓ae,↓gb,Int.reduceEq,decide_true,decide_false,true_and,h,wrap64 (n:=65536*a) (by omega) (by omega)]
   refine bE (Pr h ⟨by omega,by omega⟩ ⟨by omega,by omega⟩) (dF rfl) ?_
   rintro _ rfl
   simp[bI,gk,h]
 ·simp only[↓aM,↓af,↓ae,Int.reduceEq,decide_true,decide_false,true_and]
  refine bE pw (dF rfl) ?_
  rintro _ rfl
  have hm : -4611686018427387904<=a*((2 ^ (b % 32).toNat:Nat):Int)/\a*((2 ^ (b % 32).toNat:Nat):Int)<=4611686018427387904:=by
   have h31:(2 ^ (b % 32).toNat:Nat)<=2147483648:=by
    have:=Nat.pow_le_pow_right (n:=2) (by omega) hn32
    simpa using this
   have:(a*((2 ^ (b % 32).toNat:Nat):Int)).natAbs<=2147483648*2147483648:=by
    rw[Int.natAbs_mul];exact Nat.mul_le_mul (by omega) (by omega)
   omega
  simp only[↓gb,true_and,bI,wrap64 (n:=a*((2 ^ (b % 32).toNat:Nat):Int)) (by omega) (by omega)]
  rfl
 ·simp only[↓aM,↓af,↓ae,Int.reduceEq,decide_true,decide_false,true_and]
  refine bE pw (dF rfl) ?_
  rintro _ rfl
  refine bE (w8 (by omega) ⟨by omega,by omega⟩) (dF rfl) ?_
  rintro _ rfl
  rw[bI];rfl
 ·simp[↓aM,↓af,↓ae,↓P3,bI,gk]
 ·simp[↓aM,↓af,↓ae,↓Jp,bI,gk]
def nG (v e:Int):D:=.agg [.int .i32 v,.int .i64 e]
theorem DJ {v e:Int}{h:Heap}{K:D->Prop}:qH K (nG v e) h=K (nG v e):=by
 apply propext
 exact⟨fun h=>by simpa[nG,D.fzt,D.fz,D.fzc] using h.2.2.2,fun hk=>JT ⟨rfl,fun x hx=>by simp[nG,D.cells]at hx;rcases hx with rfl|rfl<;>rfl⟩ hk⟩
theorem Qf {v:Int}{K:D->Prop}(hk:K (nG v 0)) :
  ab PP (.bld [(.int .i32 0),(.int .i64 0)] [(0,1,(.c (.int .i32 v)))]) (LH.h [.box (nG 0 0)]) fun a11 h12=>ab PP (.st (.c (.ptr 0 0 0)) (.c a11) 2) h12 fun _ h14=>ab PP (.ld (.c (.ptr 0 0 0)) 2 true) h14 fun a15 _=>qH K a15 h14:=by
 simp[ku,h_stp,h_ldp,kS,xA,DU,fF,fillD,cn,nG,setCells,D.cells,D.one,aw]
 exact(DJ (v:=v) (e:=0)).mpr hk
theorem OV:LH.nf []:=by simp
theorem T7 {P:Program}{d:D}{KH:HK}:ab P (.alloc d) aC KH=KH (.ptr 0 0 0) (LH.h [.box d]):=by rw[cX,ic OV];rfl
theorem Kd {s a b:Int}(hs:10<=s/\s<=29) (ha:gM a) (hb:gM b):aF PP jt [.int .i64 s,.int .i32 a,.int .i32 b] (· = nG (jZ s a b) 0):=by
 refine bg A0 (aA _ _ _) rfl (AK _ _ _ _) ?_
 (unfold uw;try dsimp only[xL,yL,xF,yF,xI,yI,xS,zI,zJ])
 rw[T7]
 have n1:¬s<10:=by omega
 have n2:¬29<s:=by omega
 simp only[↓bK,n1,decide_false,↓gS,↓qK,n2,true_and]
 by_cases h24:24<=s
 ·simp only[↓iz,h24,decide_true,↓af,↓cu,vq ha,vq hb,true_and]
  refine bE I8 (dF rfl) ?_
  rintro _ rfl
  refine bE (GM _) (dF rfl) ?_
  rintro _ rfl
  rw[Ql h24]
  exact Qf rfl
 ·have hs2:10<=s/\s<=23:=by omega
  by_cases hbits:s=17\/s=18\/s=19
  ·have go:ag PP kN [.int .i64 s,.int .i32 a,.int .i32 b] (LH.h [.box (nG 0 0)]) fun a54 h55=>ab PP (.bld [(.int .i32 0),(.int .i64 0)] [(0,1,(.c a54))]) h55 fun a11 h12=>ab PP (.st (.c (.ptr 0 0 0)) (.c a11) 2) h12 fun _ h14=>ab PP (.ld (.c (.ptr 0 0 0)) 2 true) h14 fun a15 _=>qH (· = nG (jZ s a b) 0) a15 h14:=by
    refine bE (RL ha hb) (dF rfl) ?_
    rintro _ rfl
    rw[OC hbits]
    exact Qf rfl
   rcases hbits with rfl|rfl|rfl
   all_goals
    simp[↓iz,↓aM,↓gS]
    exact go
  ·have t:s≠17/\s≠18/\s≠19:=by omega
   simp only[↓iz,h24,decide_false,↓ae,↓aM,t.1,t.2.1,t.2.2,↓gS,↓cu,vq ha,vq hb,true_and]
   refine bE (Pp hs2 t ha hb) (dF rfl) ?_
   rintro _ rfl
   refine bE I7 (dF rfl) ?_
   rintro _ rfl
   rw[KS hs2 t ha hb]
   exact Qf rfl
theorem Tz {a:Int}(ha:gM a):pJ (-a-1)=ibits .xor .i32 (-1) a:=by
 have e1:BitVec.ofInt 32 (-1)=BitVec.allOnes 32:=by decide
 have:=ha.1;have:=ha.2
 have e2:(((BitVec.ofInt 32 (-1) ^^^ BitVec.ofInt 32 a).toNat:Nat):Int)=4294967295-a % 4294967296:=by
  rw[e1,BitVec.allOnes_xor,BitVec.toNat_not,BitVec.toNat_ofInt]
  have:((2 ^ 32:Nat):Int)=4294967296:=by decide
  rw[this]
  omega
 show _=IntKind.i32.wrap (((BitVec.ofInt 32 (-1) ^^^ BitVec.ofInt 32 a).toNat:Nat):Int)
 rw[e2]
 unfold pJ IntKind.wrap
 simp only[IntKind.signed,IntKind.bits]
 simp
 omega
theorem RM {s a:Int}(hs:1<=s/\s<=5) (ha:gM a):aF PP oQ [.int .i64 s,.int .i32 a] (· = nG (JW s a) 0):=by
 refine bg De (aA _ _ _) rfl (CU _ _ _) ?_
 (unfold yg;try dsimp only[xL,yL,xF,yF,xI,yI,xS,zI,zJ])
 rw[T7]
 have:=ha.1;have:=ha.2
 have w1:IntKind.i64.wrap (0-a) = -a:=by rw[wrap64 (by omega) (by omega)];omega
 have w2:IntKind.i64.wrap (-a-1) = -a-1:=wrap64 (by omega) (by omega)
 have w3:IntKind.i64.wrap (a*65536)=a*65536:=wrap64 (by omega) (by omega)
 simp only[↓cu,vq ha]
 have fin:∀(n:Int),pJ n=JW s a->ag PP cO [.int .i64 n] (LH.h [.box (nG 0 0)]) fun a54 h55=>ab PP (.bld [(.int .i32 0),(.int .i64 0)] [(0,1,(.c a54))]) h55 fun a11 h12=>ab PP (.st (.c (.ptr 0 0 0)) (.c a11) 2) h12 fun _ h14=>ab PP (.ld (.c (.ptr 0 0 0)) 2 true) h14 fun a15 _=>qH (· = nG (JW s a) 0) a15 h14:=by
  intro n hn
  refine bE I7 (dF rfl) ?_
  rintro _ rfl
  rw[hn]
  exact Qf rfl
 have:s=1\/s=2\/s=3\/s=4\/s=5:=by omega
 rcases this with rfl|rfl|rfl|rfl|rfl
 ·simp only[↓aM,↓af,↓F7,w1,true_and,decide_true]
  exact fin _ (by simp[JW])
 ·simp only[↓aM,↓af,↓ae,↓F7,w1,↓gO,w2,true_and,decide_true,decide_false,Int.reduceEq]
  exact fin _ (Tz ha)
 ·simp only[↓aM,↓af,↓ae,↓F7,w1,↓Jp,true_and,decide_true,decide_false,Int.reduceEq]
  refine fin _ ?_
  by_cases h:a < -a
  ·simp[h,JW,show ¬0<=a by omega]
  ·simp only[h,if_false,JW]
   rw[DI ha]
   simp[show 0<=a by omega]
 ·simp only[↓aM,↓af,↓ae,↓gb,w3,true_and,decide_true,decide_false,Int.reduceEq]
  exact fin _ rfl
 ·simp only[↓aM,↓af,↓ae,true_and,decide_true,decide_false,Int.reduceEq]
  refine bE (w8 (by omega) ⟨by omega,by omega⟩) (dF rfl) ?_
  rintro _ rfl
  refine fin _ ?_
  rw[rJ (by omega),DI (DB ha (by omega))]
  rfl
structure dk where
 groups:Int
 args:List Int
def dk.e (l:dk):D:=.agg [.int .i64 l.groups,words l.args]
theorem Code.on (c:Code):c.e.cells.all D.one=true:=rfl
theorem dk.on (l:dk):l.e.cells.all D.one=true:=rfl
theorem UC {c:Code}{i:Int}(hg:1<=c.group) (hi:0<=i/\i<=1000000):aF PP qX [c.e,.int .i64 i] (· = .tup [.int .i64 (i.tdiv c.group),.int .i64 (i.tmod c.group)]):=by
 refine bg Fw (aA _ _ _) rfl (Fe _ _ _) ?_
 (unfold BA;try dsimp only[xL,yL,xF,yF,xI,yI,xS,zI,zJ])
 have hq:(i.tdiv c.group).natAbs<=i.natAbs:=by rw[Int.natAbs_tdiv];exact Nat.div_le_self _ _
 have w1:IntKind.i64.wrap (i.tdiv c.group)=i.tdiv c.group:=wrap64 (by omega) (by omega)
 have h0:c.group≠0:=by omega
 rw[cX,kr OV (Code.on c)]
 simp[↓aE,kS,↓bL,h_ldp,Code.e,↓bk,↓kn,↓bJ,w1,h0,D.cells]
 exact cK.mpr rfl
theorem Uz {c:Code}{i:Int}(hg:1<=c.group) (hi:0<=i/\i<=1000000):aF PP vJ [c.e,.int .i64 i] (· = .tup [.int .i64 (i.tdiv c.group),.int .i64 (i.tmod c.group)]):=by
 refine bg FZ (aA _ _ _) rfl (FY _ _ _) ?_
 (unfold E9;try dsimp only[xL,yL,xF,yF,xI,yI,xS,zI,zJ])
 have hq:(i.tdiv c.group).natAbs<=i.natAbs:=by rw[Int.natAbs_tdiv];exact Nat.div_le_self _ _
 have w1:IntKind.i64.wrap (i.tdiv c.group)=i.tdiv c.group:=wrap64 (by omega) (by omega)
 have h0:c.group≠0:=by omega
 rw[cX,kr OV (Code.on c)]
 simp[↓aE,kS,↓bL,h_ldp,Code.e,↓bk,↓kn,↓bJ,w1,h0,D.cells]
 exact cK.mpr rfl
def SX (g sb n item s:Int):Int :=
 if s=1 then item else if s=2 then item.tmod g else if s=3 then item.tdiv g else if s=4 then n*g else if s=5 then g else if s=6 then(item.tmod g).tmod sb else(item.tmod g).tdiv sb
theorem jG (c:Code):c.e.vd=true/\aw c.e:=⟨rfl,List.all_eq_true.1 (Code.on c)⟩
theorem jY {k:IntKind}{n:Int}:(D.int k n).vd=true/\aw (D.int k n):=T4 rfl
theorem Mp {c:Code}{n:Int}:∀d,d∈[c.e,D.int .i64 n]->d.vd=true/\aw d:=fun d hd=>by
 simp at hd
 rcases hd with rfl|rfl
 ·exact jG c
 ·exact jY
structure Qz (c:Code) (l:dk) (item:Int):Prop where
 g:1<=c.group/\c.group<=64
 s:1<=c.sub/\c.sub<=64
 n:1<=l.groups/\l.groups<=64
 i:0<=item/\item<l.groups*c.group
theorem gm {c:Code}{l:dk}{item:Int}(h:Qz c l item):l.groups*c.group<=4096:=by
 have h1:l.groups*c.group<=64*c.group:=Int.mul_le_mul_of_nonneg_right h.n.2 (by have:=h.g.1;omega)
 have:=h.g.2
 omega
theorem UD {c:Code}{l:dk}{item s:Int}(h:Qz c l item) (hs:1<=s/\s<=7):aF PP qY [c.e,l.e,.int .i64 item,.int .i64 s] (· = .tup [.int .i32 (pJ (SX c.group c.sub l.groups item s)),.int .i64 0]):=by
 refine bg Fx (aA _ _ _) rfl (Ff _ _ _ _ _) ?_
 (unfold BB;try dsimp only[xL,yL,xF,yF,xI,yI,xS,zI,zJ])
 have hgm:=gm h
 have:=h.i.1;have:=h.i.2;have:=h.g.1;have:=h.s.1;have:=h.g.2;have:=h.n.1
 have w1:IntKind.i64.wrap (l.groups*c.group)=l.groups*c.group:=wrap64 (by omega) (by omega)
 have hq:((item.tmod c.group).tdiv c.sub).natAbs<=item.natAbs:=by
  rw[Int.natAbs_tdiv,Int.natAbs_tmod]
  exact Nat.le_trans (Nat.div_le_self _ _) (Nat.mod_le _ _)
 have w2:IntKind.i64.wrap ((item.tmod c.group).tdiv c.sub)=(item.tmod c.group).tdiv c.sub:=wrap64 (by omega) (by omega)
 have n0:¬item<0:=by omega
 have n1:¬l.groups*c.group<=item:=by omega
 have s0:c.sub≠0:=by omega
 rw[cX,kr OV (Code.on c)]
 simp only[List.nil_append,List.length_nil]
 rw[kr (by simp) (dk.on l)]
 obtain⟨H,hH⟩:∃H,H=LH.h ([Slot.box c.e]++[Slot.box l.e]):=⟨_,rfl⟩
 have a0:H 0=.box c.e:=by rw[hH];rfl
 have a1:H 1=.box l.e:=by rw[hH];rfl
 rw[<- hH]
 simp only[List.length_singleton,↓rG,a0,a1,Slot.used,true_and,↓jE,Code.e,dk.e,↓bk,ca,Nat.zero_add,List.getElem?_cons_zero,List.getElem?_cons_succ,↓gb,w1,↓bK,n0,decide_false,↓gS,↓iz,n1]
 rw[cn]
 refine⟨by simp,?_⟩
 refine bE (UC h.g.1 ⟨h.i.1,by omega⟩) Mp ?_
 rintro _ rfl
 simp only[↓h_ext,List.getElem?_cons_zero,List.getElem?_cons_succ]
 refine⟨fun x _=>x=[.int .i64 (SX c.group c.sub l.groups item s)],fun f h2 hj=>?_,?_⟩
 ·simp only[List.cons.injEq,and_true]at hj
  rw[hj]
  simp[↓cu,cK]
 ·have:s=1\/s=2\/s=3\/s=4\/s=5\/s=6\/s=7:=by omega
  rcases this with rfl|rfl|rfl|rfl|rfl|rfl|rfl
  all_goals simp[↓aM,↓gS,a0,Code.e,D.cells,ai,SX,↓bJ,↓kn,w2,s0]
theorem RN {c:Code}{l:dk}{item s:Int}(h:Qz c l item) (hs:1<=s/\s<=7):aF PP oO [c.e,l.e,.int .i64 item,.int .i64 s] (· = nG (pJ (SX c.group c.sub l.groups item s)) 0):=by
 refine bg Da (aA _ _ _) rfl (CQ _ _ _ _ _) ?_
 (unfold yb;try dsimp only[xL,yL,xF,yF,xI,yI,xS,zI,zJ])
 have hgm:=gm h
 have:=h.i.1;have:=h.i.2;have:=h.g.1;have:=h.s.1;have:=h.g.2;have:=h.n.1
 have w1:IntKind.i64.wrap (l.groups*c.group)=l.groups*c.group:=wrap64 (by omega) (by omega)
 have hq:((item.tmod c.group).tdiv c.sub).natAbs<=item.natAbs:=by
  rw[Int.natAbs_tdiv,Int.natAbs_tmod]
  exact Nat.le_trans (Nat.div_le_self _ _) (Nat.mod_le _ _)
 have w2:IntKind.i64.wrap ((item.tmod c.group).tdiv c.sub)=(item.tmod c.group).tdiv c.sub:=wrap64 (by omega) (by omega)
 have n0:¬item<0:=by omega
 have n1:¬l.groups*c.group<=item:=by omega
 have s0:c.sub≠0:=by omega
 have s1:¬s<1:=by omega
 have s2:¬7<s:=by omega
 rw[cX,kr OV (Code.on c)]
 simp only[List.nil_append,List.length_nil]
 rw[kr (by simp) (dk.on l),ic (by simp)]
 obtain⟨H,hH⟩:∃H,H=LH.h (([Slot.box c.e]++[Slot.box l.e])++[.box (nG 0 0)]):=⟨_,rfl⟩
 have a0:H 0=.box c.e:=by rw[hH];rfl
 have a1:H 1=.box l.e:=by rw[hH];rfl
 have a2:H 2=.box (nG 0 0):=by rw[hH];rfl
 rw[show(D.agg [.int .i32 0,.int .i64 0])=nG 0 0 from rfl, <- hH]
 simp only[List.length_singleton,List.length_append,List.length_nil,Nat.zero_add,Nat.reduceAdd,↓bK,s1,decide_false,↓gS,↓qK,s2,n0,↓rG,a0,a1,Slot.used,true_and,↓jE,Code.e,dk.e,↓bk,ca,List.getElem?_cons_zero,List.getElem?_cons_succ,↓gb,w1,↓iz,n1]
 rw[cn]
 refine⟨by simp,?_⟩
 refine bE (Uz h.g.1 ⟨h.i.1,by omega⟩) Mp ?_
 rintro _ rfl
 simp only[↓h_ext,List.getElem?_cons_zero,List.getElem?_cons_succ,↓aE,a0,a1,Slot.used,true_and,↓bL,↓jE,Code.e,dk.e,↓bk,ca,Nat.zero_add,Nat.reduceAdd,↓gb,w1,↓bJ,↓kn,w2,s0,ne_eq,not_false_eq_true]
 refine⟨tj rfl,?_,?_,?_⟩
 ·intro p hp
  simp[Arg.get]at hp
  rcases hp with rfl|rfl|rfl|rfl|rfl|rfl|rfl|rfl<;>(intro y hy;simp[D.cells]at hy;subst hy;rfl)
 ·intro y hy
  simp[D.cells]at hy;subst hy;rfl
 have:s=1\/s=2\/s=3\/s=4\/s=5\/s=6\/s=7:=by omega
 rcases this with rfl|rfl|rfl|rfl|rfl|rfl|rfl
 all_goals
  simp[↓im,setEls,Arg.get,↓gY,↓bk,D.cells,↓cu,SX]
  simp[ku,fF,fillD,D.cells,D.one,aw,↓dq,a2,nG,setCells,cn]
  exact DJ.mpr rfl
def pV (h:Heap) (d:D) (l:List Int):Prop:=d=words l\/∃n,d=.ms n 0 l.length/\h n=.arr 1 (l.map (.int .i32))
theorem pV.one {h:Heap}{d:D}{l:List Int}(r:pV h d l):d.one=true:=by
 rcases r with rfl|⟨n,rfl,_⟩<;>rfl
theorem pV.ext {h h':Heap}{d:D}{l:List Int}(x:Ext h h') (r:pV h d l):pV h' d l:=by
 rcases r with rfl|⟨n,rfl,hn⟩
 ·exact Or.inl rfl
 ·exact Or.inr ⟨n,rfl,by rw[x n (by rw[hn];simp)];exact hn⟩
theorem I4 {P:Program}{h:Heap}{d:D}{l:List Int}(r:pV h d l){i:Nat}{v:Int}(hi:l[i]?=some v){KH:HK}(hK:KH (.int .i32 v) h) :
  ab P (.iadd (.c d) (.c (.int .i64 (i:Int))) 1) h fun a h1=>ab P (.ld (.c a) 1 false) h1 KH:=by
 have hlt:=(List.getElem?_eq_some_iff.1 hi).1
 rcases r with rfl|⟨n,rfl,hn⟩
 ·simp only[words,↓im,List.length_map]
  refine⟨by omega,by omega,fun x hx=>?_⟩
  have:x=.int .i32 v:=by
   rw[List.getElem?_map,show((i:Int)).toNat=i by omega,hi]at hx
   simpa using hx.symm
  subst this
  refine⟨rfl,?_⟩
  simp only[↓gY,↓bk,nD,List.getElem?_cons_zero]
  exact hK
 ·simp only[↓bF,hn,Slot.row]
  refine⟨by omega,by omega,⟨_,rfl⟩,?_⟩
  rw[jE,hn]
  refine⟨by simp;omega,fun x hx=>?_⟩
  have:x=.int .i32 v:=by
   rw[List.getElem?_map,show 0+((i:Int)).toNat=i by omega,hi]at hx
   simpa using hx.symm
  subst this
  simp only[↓bk,nD,List.getElem?_cons_zero]
  exact hK
def aX (regs:List Int) (o:dX):Int:=if o.kind=2 then regs.getD o.n.toNat 0 else o.v
theorem iW.cases {R:Int}{o:dX}(h:iW R o):(∃r:Nat,(r:Int)<R/\o=⟨2,(r:Int),0⟩)\/∃v:Int,gM v/\o=⟨1,0,v⟩:=by
 rcases h with⟨r,h1,h2,rfl⟩|⟨v,h1,h2,rfl⟩
 ·exact Or.inl ⟨r.toNat,by omega,by simp[fX];omega⟩
 ·exact Or.inr ⟨v,⟨h1,h2⟩,rfl⟩
def wv (R:Int) (o:dX):Prop:=o.kind=2->∃r:Nat,o.n=(r:Int)/\(r:Int)<R
theorem iW.r {R:Int}{o:dX}(h:iW R o):wv R o:=by
 rcases h.cases with⟨k,hk,rfl⟩|⟨v,hv,rfl⟩
 ·exact fun _=>⟨k,rfl,hk⟩
 ·exact fun h=>by cases h
theorem cN {R:Int}:wv R an:=fun h=>by cases h
theorem DT {h:Heap}{i0 i1 i2 i3 dR dP dS:D}{regs:List Int}{o:dX}(hi:[i0,i1,i2,i3,dP,dS].all D.one=true) (r:pV h dR regs) (ho:wv regs.length o){KH:HK}
  (hK:∀h',Ext h h'->KH (.int .i32 (aX regs o)) h') :
  ab PP (.box (.c (.agg [i0,i1,i2,i3,dR,dP,dS]))) h fun a3 h4=>ab PP (.box (.c o.e)) h4 fun a5 h6 =>
   ab PP (.fadd (.c a5) 0) h6 fun a7 h8=>ab PP (.ld (.c a7) 1 false) h8 fun a9 h10=>vbin .eql a9 (.int .i64 2) fun a11 =>
   vcond a11 (ab PP (.fadd (.c a3) 4) h10 fun a12 h13=>ab PP (.ld (.c a12) 1 false) h13 fun a14 h15=>ab PP (.fadd (.c a5) 1) h15 fun a16 h17=>ab PP (.ld (.c a16) 1 false) h17 fun a18 h19 =>
    ab PP (.iadd (.c a14) (.c a18) 1) h19 fun a20 h21=>ab PP (.ld (.c a20) 1 false) h21 fun a22 h23=>KH a22 h23)
   (ab PP (.fadd (.c a5) 2) h10 fun a24 h25=>ab PP (.ld (.c a24) 1 false) h25 fun a26 h27=>KH a26 h27):=by
 simp at hi
 obtain⟨o0,o1,o2,o3,o4,o5⟩:=hi
 rw[cJ]
 refine⟨fun x hx=>?_,fun n t=>?_⟩
 ·simp[D.cells]at hx
  rcases hx with rfl|rfl|rfl|rfl|rfl|rfl|rfl<;>first|assumption|exact r.one
 rw[cJ]
 refine⟨List.all_eq_true.1 (dX.dF o),fun m t2=>?_⟩
 obtain⟨H,hH⟩:∃H,H=ah (ah h n (.box (.agg [i0,i1,i2,i3,dR,dP,dS]))) m (.box o.e):=⟨_,rfl⟩
 have hnm:n≠m:=t2.ne (by simp[ah])
 have a1:H n=.box (.agg [i0,i1,i2,i3,dR,dP,dS]):=by rw[hH,aa _ _ hnm,ad]
 have a2:H m=.box (.agg [.int .i64 o.kind,.int .i64 o.n,.int .i32 o.v]):=by rw[hH,ad];rfl
 have ex:Ext h H:=by rw[hH];exact(Ext.new t _).trans (Ext.new t2 _)
 rw[<- hH]
 by_cases hk2:o.kind=2
 ·obtain⟨k,hn,hk⟩:=ho hk2
  have hk':k<regs.length:=by omega
  have hg:regs[k]?=some (regs.getD k 0):=by simp[hk']
  simp only[↓Uf a1,↓Uf a2,↓eR a1 (j:=4) rfl,↓eR a2 (j:=0) rfl,↓eR a2 (j:=1) rfl,↓aM,hk2,hn,decide_true,↓af,true_and]
  refine I4 (r.ext ex) hg ?_
  have:=hK H ex
  simpa[aX,hk2,hn] using this
 ·simp only[↓Uf a1,↓Uf a2,↓eR a2 (j:=0) rfl,↓eR a2 (j:=2) rfl,↓aM,hk2,decide_false,↓ae,true_and]
  have:=hK H ex
  simpa[aX,hk2] using this
theorem Kg {h:Heap}{i0 i1 i2 i3 dR dP dS:D}{regs:List Int}{o:dX}(hi:[i0,i1,i2,i3,dP,dS].all D.one=true) (r:pV h dR regs) (ho:wv regs.length o){KH:HK}
  (hK:∀h',Ext h h'->KH (.int .i32 (aX regs o)) h'):ag PP cR [.agg [i0,i1,i2,i3,dR,dP,dS],o.e] h KH:=by
 refine aW Dj (aA _ _ _) rfl (CZ _ _ _) ?_
 (unfold yn;try dsimp only[xL,yL,xF,yF,xI,yI,xS,zI,zJ])
 exact DT hi r ho hK
theorem Ps {h:Heap}{i0 i1 i2 i3 dR dP dS:D}{regs:List Int}{o:dX}(hi:[i0,i1,i2,i3,dP,dS].all D.one=true) (r:pV h dR regs) (ho:wv regs.length o){KH:HK}
  (hK:∀h',Ext h h'->KH (.int .i32 (aX regs o)) h'):ag PP ck [.agg [i0,i1,i2,i3,dR,dP,dS],o.e] h KH:=by
 refine aW AR (aA _ _ _) rfl (AA _ _ _) ?_
 (unfold uh;try dsimp only[xL,yL,xF,yF,xI,yI,xS,zI,zJ])
 exact DT hi r ho hK
theorem GB {i:Nat}(h:i<=9000000000000000000):IntKind.i64.wrap ((i:Int)+1)=((i+1:Nat):Int):=by rw[wrap64 (by omega) (by omega)];rfl
abbrev Mm:=List (List Int)
structure Ev where
 kind:Int
 op:Int
 item:Int
 av:Int
 block:Int
 at_:Int
 arr:Int
 i:Int
 v:Int
deriving DecidableEq,Inhabited
def Ev.cs (e:Ev):List D:=[.int .i64 e.kind,.int .i64 e.op,.int .i64 e.item,.int .i64 e.av,.int .i64 e.block,.int .i64 e.at_,.int .i64 e.arr,.int .i64 e.i,.int .i32 e.v]
def Ev.e (e:Ev):D:=.agg e.cs
theorem Ev.bZ (o:Ev):wE o.e:=cT (by simp[Ev.cs])
def aR (m:Mm):D:=.sl (m.map words)
structure It where
 id:Int
 at_:Int
 block:Int
 epoch:Int
 regs:List Int
 priv:Mm
deriving DecidableEq,Inhabited
def It.cs (x:It):List D:=[.int .i64 x.id,.int .i64 x.at_,.int .i64 x.block,.int .i64 x.epoch,words x.regs,aR x.priv,.sl []]
def It.e (x:It):D:=.agg x.cs
theorem It.bZ (o:It):wE o.e:=cT (by simp[It.cs,words,aR])
structure St where
 regs:List Int
 mem:Nat->Mm
 ev:List Ev
def bh (c:Code) (n:Nat):Nat:=((c.arrays[n]?).map bO.space).getD 0 |>.toNat
def ir (c:Code) (n:Nat):Int:=((c.arrays[n]?).map bO.len).getD 0
def St.word (st:St) (s n i:Nat):Int:=((st.mem s).getD n []).getD i 0
def FT (m:Mm) (n i:Nat) (v:Int):Mm:=m.set n ((m.getD n []).set i v)
def St.put (st:St) (s n i:Nat) (v:Int):St:={ st with mem:=ah st.mem s (FT (st.mem s) n i v) }
def St.tell (st:St) (c:Code) (e:Ev):St:={ st with ev:=if e.kind≠4/\bh c e.arr.toNat=3 then st.ev else st.ev++[e] }
def St.ox (st:St) (k:Nat) (v:Int):St:={ st with regs:=st.regs.set k v }
def gr (c:Code) (l:dk) (id:Int) (x:aN) (regs:List Int):Int :=
 if x.op=2 then JW x.sub (aX regs x.a)
 else if x.op=3 then jZ x.sub (aX regs x.a) (aX regs x.b)
 else if x.op=4 then(if aX regs x.a=0 then aX regs x.c else aX regs x.b)
 else if x.op=5 then pJ (SX c.group c.sub l.groups id x.sub)
 else if x.op=6 then l.args.getD x.n.toNat 0
 else aX regs x.a
def Od (e:Ev) (x:aN) (a w:Int):Ev:={ e with kind:=1,arr:=x.n,i:=a,v:=w }
def At (e:Ev) (x:aN) (a b:Int):Ev:={ e with kind:=2,arr:=x.n,i:=a,v:=b }
def LD (e:Ev) (x:aN) (a b:Int):Ev:={ e with kind:=3,op:=x.sub,arr:=x.n,i:=a,v:=b }
def Ir (e:Ev) (x:aN):Ev:={ e with kind:=4,op:=x.sub }
def cH (c:Code) (l:dk) (id:Int) (x:aN) (e:Ev) (st:St):Option St :=
 let a:=aX st.regs x.a
 let b:=aX st.regs x.b
 let n:=x.n.toNat
 let s:=bh c n
 if x.op=7 then
  if 0<=a/\a<ir c n then
   let w:=st.word s n a.toNat
   some ((st.tell c (Od e x a w)).ox x.d.n.toNat w)
  else none
 else if x.op=8 then
  if 0<=a/\a<ir c n then some ((st.put s n a.toNat b).tell c (At e x a b)) else none
 else if x.op=9 then
  if 0<=a/\a<ir c n then some ((st.put s n a.toNat (jZ x.sub (st.word s n a.toNat) b)).tell c (LD e x a b)) else none
 else if x.op=10 then some (st.tell c (Ir e x))
 else some (st.ox x.d.n.toNat (gr c l id x st.regs))
def QV (id av block k:Int):Ev:=⟨0,0,id,av,block,k,0,0,0⟩
def runP (c:Code) (l:dk) (id av block:Int):List aN->Nat->St->Option St
 | [],_,st=>some st
 | x::r,k,st=>(cH c l id x (QV id av block k) st).bind (runP c l id av block r (k+1))
def iF (ar:List bO) (s:Int):Mm:=ar.map fun a=>List.replicate (if a.space=s then a.len else 0).toNat 0
def bD (c:Code) (id epoch at_:Int):It:=⟨id,at_,0,epoch,List.replicate c.regs.toNat 0,iF c.arrays 3⟩
def dg (c:Code) (b:Int):Term:=((c.b[b.toNat]?).map Block.t).getD iO
def aP (c:Code) (it:It):It :=
 let t:=dg c it.block
 if t.kind=1 then { it with block:=t.to0 }
 else if t.kind=2 then { it with block:=if aX it.regs t.a≠0 then t.to0 else t.to1 }
 else if t.kind=5 then bD c it.id it.epoch 3
 else { it with at_:=2 }
def m4 (c:Code) (b:Int):List aN:=((c.b[b.toNat]?).map Block.i).getD []
structure pE where
 it:It
 g:Mm
 s:Mm
 ev:List Ev
 e:Int
def wF (it:It) (g s:Mm):St:=⟨it.regs,fun k=>if k=1 then g else if k=2 then s else it.priv,[]⟩
def bS (c:Code) (l:dk) (it:It) (g s:Mm) (av:Int):pE :=
 if it.at_≠1 then ⟨it,g,s,[],1⟩
 else match runP c l it.id av it.block (m4 c it.block) 0 (wF it g s) with
  | none=>⟨it,g,s,[],70⟩
  | some st=>⟨aP c { it with regs:=st.regs,priv:=st.mem 3 },st.mem 1,st.mem 2,st.ev,0⟩
def l7 (c:Code) (it:It) (v:Int):It×Int :=
 if it.at_≠2 then(it,1)
 else
  let t:=dg c it.block
  ({ it with at_:=1,block:=t.to0,regs:=if t.kind=4 then it.regs.set t.d.n.toNat v else it.regs },0)
def Rb (a:bO):Prop:=(a.space=1\/a.space=2\/a.space=3)/\1<=a.len/\a.len<=8
def Cb (a:bO) (s:Nat):Nat:=(if a.space=(s:Int) then a.len else 0).toNat
structure fY (ar:List bO) (s:Nat) (m:Mm):Prop where
 len:m.length=ar.length
 w:∀(i:Nat) (a:bO) (w:List Int),ar[i]?=some a->m[i]?=some w->w.length=Cb a s/\∀v∈w,gM v
structure lP (c:Code) (x:aN):Prop where
 ok:zr c.regs x
 n:x.op=7\/x.op=8\/x.op=9->∃k:Nat,x.n=(k:Int)/\k<c.arrays.length
 p:x.op=6->0<=x.n/\x.n<c.params
structure bj (c:Code):Prop where
 group:1<=c.group/\c.group<=8
 sub:1<=c.sub/\c.sub<=8
 regs:1<=c.regs/\c.regs<=12
 slots:c.slots=0
 params:0<=c.params/\c.params<=8
 nar:c.arrays.length<=8
 ar:∀a∈c.arrays,Rb a
 nb:1<=c.b.length/\c.b.length<=100
 xs:∀b∈c.b,(∀x∈b.i,lP c x)/\b.i.length<=20/\Hx c.b.length c.regs b.t
structure js (c:Code) (l:dk):Prop where
 n:1<=l.groups/\l.groups<=64
 a:(l.args.length:Int)=c.params
 w:∀v∈l.args,gM v
structure qA (c:Code) (st:St):Prop where
 len:(st.regs.length:Int)=c.regs
 regs:∀v∈st.regs,gM v
 mem:∀s,1<=s->s<=3->fY c.arrays s (st.mem s)
theorem bj.l1 {c:Code}{l:dk}{id:Int}(h:bj c) (hl:js c l) (hi:0<=id/\id<l.groups*c.group):Qz c l id :=
 ⟨⟨h.group.1,by have:=h.group.2;omega⟩,⟨h.sub.1,by have:=h.sub.2;omega⟩,hl.n,hi⟩
theorem G1 {l:List Int}(h:∀v∈l,gM v) (i:Nat):gM (l.getD i 0):=by
 rw[List.getD_eq_getElem?_getD]
 cases e:l[i]? with
 | none=>exact⟨by simp,by simp⟩
 | some v=>exact h v (List.mem_of_getElem? e)
theorem Dz {l:List Int}(h:∀v∈l,gM v){i:Nat}{w:Int}(hw:gM w):∀v,v∈l.set i w->gM v:=fun v hv=>by
 rcases List.mem_or_eq_of_mem_set hv with hv|rfl
 ·exact h v hv
 ·exact hw
theorem jx {R:Int}{regs:List Int}{o:dX}(h:∀v∈regs,gM v) (ho:iW R o):gM (aX regs o):=by
 rcases ho.cases with⟨r,h1,rfl⟩|⟨v,h1,rfl⟩
 ·simp only[aX];exact G1 h _
 ·simpa[aX] using h1
theorem dn (n:Int):gM (pJ n):=by
 have e:pJ n=(if(n % 4294967296)<2147483648 then n % 4294967296 else n % 4294967296-4294967296):=by
  simp only[pJ,IntKind.wrap,IntKind.signed,IntKind.bits]
  simp
  split<;>omega
 rw[e]
 constructor<;>split<;>omega
theorem St.qG {c:Code}{st:St}(h:qA c st){s n:Nat}(hs:1<=s/\s<=3) (hc:bj c) (i:Nat):gM (st.word s n i):=by
 have hm:=h.mem s hs.1 hs.2
 unfold St.word
 rw[List.getD_eq_getElem?_getD (l:=st.mem s)]
 cases e:(st.mem s)[n]? with
 | none=>exact⟨by simp,by simp⟩
 | some w =>
  have hn:=(List.getElem?_eq_some_iff.1 e).1
  rw[hm.len]at hn
  exact G1 (hm.w n _ w (List.getElem?_eq_getElem hn) e).2 _
inductive lV where
 | no
 | box
 | map
 | regs
 | ev
 | sl
 | mem (s:Nat)
 | row (s i:Nat)
deriving DecidableEq
abbrev Ro:=Nat->lV
def wr (w:List Int):List D:=w.map (.int .i32)
theorem mO (w:List Int):(wr w).length=w.length:=by simp[wr]
theorem DH {w:List Int}{i:Nat}:(wr w)[i]?=(w[i]?).map (.int .i32):=by simp[wr]
theorem DG {w:List Int}{i:Nat}{v:Int}:(wr w).set i (.int .i32 v)=wr (w.set i v):=by simp[wr,List.map_set]
def na (h:Heap) (ro:Ro) (r:lV) (d:D) (w:List Int):Prop:=d=words w\/∃q,d=.ms q 0 w.length/\h q=.arr 1 (wr w)/\ro q=r
def nU (h:Heap) (ro:Ro) (d:D) (w:List Int):Prop:=∃q,d=.ms q 0 w.length/\h q=.arr 1 (wr w)/\ro q=.regs
structure og (h:Heap) (ro:Ro) (s:Nat) (m:Mm) (k:Nat) (els:List D):Prop where
 hk:h k=.arr 1 els
 rk:ro k=.mem s
 len:els.length=m.length
 el:∀(i:Nat) (e:D) (w:List Int),els[i]?=some e->m[i]?=some w->na h ro (.row s i) e w
def oe (h:Heap) (ro:Ro) (s:Nat) (d:D) (m:Mm):Prop:=∃k els,d=.ms k 0 m.length/\og h ro s m k els
def L5 (h:Heap) (ro:Ro) (d:D) (evs:List Ev):Prop:=(d=.nil/\evs=[])\/∃k,d=.ms k 0 evs.length/\h k=.arr 9 (evs.map Ev.e)/\ro k=.ev
def KI (h:Heap) (ro:Ro) (d:D):Prop:=d=.nil\/d=.sl []\/∃k,d=.ms k 0 0/\h k=.arr 1 []/\ro k=.sl
structure JN (h:Heap) (ro:Ro) (dR dE dS:D) (dm:Nat->D) (st:St):Prop where
 regs:nU h ro dR st.regs
 mem:∀s,1<=s->s<=3->oe h ro s (dm s) (st.mem s)
 ev:L5 h ro dE st.ev
 sl:KI h ro dS
def lV.core:lV->Bool
 | .no=>false
 | .box=>false
 | .map=>false
 | _=>true
def cv (h:Heap) (ro:Ro) (h':Heap) (ro':Ro):Prop:=∀k,h k≠.free->(ro k).core=true->h' k=h k/\ro' k=ro k
theorem bU {h:Heap}{k e:Nat}{l:List D}(x:h k=.arr e l):h k≠.free:=by rw[x];simp
theorem na.aD {h h':Heap}{ro ro':Ro}(k:cv h ro h' ro'){r:lV}(hr:r.core=true){d:D}{w:List Int}(x:na h ro r d w):na h' ro' r d w:=by
 rcases x with x|⟨q,h1,h2,h3⟩
 ·exact Or.inl x
 ·obtain⟨k1,k2⟩:=k q (bU h2) (by rw[h3];exact hr)
  exact Or.inr ⟨q,h1,by rw[k1];exact h2,by rw[k2];exact h3⟩
theorem nU.aD {h h':Heap}{ro ro':Ro}(k:cv h ro h' ro'){d:D}{w:List Int}(x:nU h ro d w):nU h' ro' d w:=by
 obtain⟨q,h1,h2,h3⟩:=x
 obtain⟨k1,k2⟩:=k q (bU h2) (by rw[h3];rfl)
 exact⟨q,h1,by rw[k1];exact h2,by rw[k2];exact h3⟩
theorem og.aD {h h':Heap}{ro ro':Ro}(k:cv h ro h' ro'){s q:Nat}{m:Mm}{els:List D}(x:og h ro s m q els):og h' ro' s m q els:=by
 obtain⟨k1,k2⟩:=k q (bU x.hk) (by rw[x.rk];rfl)
 exact⟨by rw[k1];exact x.hk,by rw[k2];exact x.rk,x.len,fun i e w h1 h2=>(x.el i e w h1 h2).aD k rfl⟩
theorem oe.aD {h h':Heap}{ro ro':Ro}(k:cv h ro h' ro'){s:Nat}{d:D}{m:Mm}(x:oe h ro s d m):oe h' ro' s d m:=by
 obtain⟨q,els,h1,h2⟩:=x
 exact⟨q,els,h1,h2.aD k⟩
theorem L5.aD {h h':Heap}{ro ro':Ro}(k:cv h ro h' ro'){d:D}{w:List Ev}(x:L5 h ro d w):L5 h' ro' d w:=by
 rcases x with x|⟨q,h1,h2,h3⟩
 ·exact Or.inl x
 obtain⟨k1,k2⟩:=k q (bU h2) (by rw[h3];rfl)
 exact Or.inr ⟨q,h1,by rw[k1];exact h2,by rw[k2];exact h3⟩
theorem KI.aD {h h':Heap}{ro ro':Ro}(k:cv h ro h' ro'){d:D}(x:KI h ro d):KI h' ro' d:=by
 rcases x with x|x|⟨q,h1,h2,h3⟩
 ·exact Or.inl x
 ·exact Or.inr (Or.inl x)
 obtain⟨k1,k2⟩:=k q (bU h2) (by rw[h3];rfl)
 exact Or.inr (Or.inr ⟨q,h1,by rw[k1];exact h2,by rw[k2];exact h3⟩)
theorem JN.aD {h h':Heap}{ro ro':Ro}(k:cv h ro h' ro'){dR dE dS:D}{dm:Nat->D}{st:St}(x:JN h ro dR dE dS dm st):JN h' ro' dR dE dS dm st :=
 ⟨x.regs.aD k,fun s h1 h2=>(x.mem s h1 h2).aD k,x.ev.aD k,x.sl.aD k⟩
theorem na.row {h:Heap}{ro:Ro}{r:lV}{d:D}{w:List Int}(x:na h ro r d w):pV h d w:=by
 rcases x with x|⟨q,h1,h2,-⟩
 ·exact Or.inl x
 ·exact Or.inr ⟨q,h1,h2⟩
theorem nU.row {h:Heap}{ro:Ro}{d:D}{w:List Int}(x:nU h ro d w):pV h d w:=by
 obtain⟨q,h1,h2,-⟩:=x
 exact Or.inr ⟨q,h1,h2⟩
theorem oe.one {h:Heap}{ro:Ro}{s:Nat}{d:D}{m:Mm}(x:oe h ro s d m):d.one=true:=by obtain⟨k,els,rfl,-⟩:=x;rfl
theorem nU.one {h:Heap}{ro:Ro}{d:D}{m:List Int}(x:nU h ro d m):d.one=true:=by obtain⟨k,rfl,-⟩:=x;rfl
theorem L5.one {h:Heap}{ro:Ro}{d:D}{m:List Ev}(x:L5 h ro d m):d.one=true:=by rcases x with⟨rfl,-⟩|⟨k,rfl,-⟩<;>rfl
theorem KI.one {h:Heap}{ro:Ro}{d:D}(x:KI h ro d):d.one=true:=by rcases x with rfl|rfl|⟨k,rfl,-⟩<;>rfl
def Fr (ro:Ro) (h:Heap) (ro':Ro) (h':Heap):Prop:=∀k,h k≠.free->ro' k=ro k/\h' k≠.free/\(ro k=.no->h' k=h k)
theorem Fr.refl {ro:Ro}{h:Heap}:Fr ro h ro h:=fun _ hk=>⟨rfl,hk,fun _=>rfl⟩
theorem Fr.trans {r1 r2 r3:Ro}{h1 h2 h3:Heap}(a:Fr r1 h1 r2 h2) (b:Fr r2 h2 r3 h3):Fr r1 h1 r3 h3:=fun k hk=>by
 obtain⟨a1,a2,a3⟩:=a k hk
 obtain⟨b1,b2,b3⟩:=b k a2
 exact⟨b1.trans a1,b2,fun hn=>(b3 (a1.trans hn)).trans (a3 hn)⟩
theorem Fr.new {ro:Ro}{h:Heap}{n:Nat}(hn:h n=.free) (r:lV){s:Slot}:Fr ro h (ah ro n r) (ah h n s):=fun k hk=>by
 have:k≠n:=by rintro rfl;exact hk hn
 rw[aa _ _ this,aa _ _ this]
 exact⟨rfl,hk,fun _=>rfl⟩
theorem Fr.ext {ro:Ro}{h h':Heap}(x:Ext h h'):Fr ro h ro h':=fun k hk=>⟨rfl,by rw[x k hk];exact hk,fun _=>x k hk⟩
theorem Fr.av {ro:Ro}{h:Heap}{n:Nat}(hn:ro n≠.no){s:Slot}(hs:s≠.free):Fr ro h ro (ah h n s):=fun k hk=>by
 refine⟨rfl,?_,fun hr=>?_⟩
 ·by_cases e:k=n
  ·subst e;rw[ad];exact hs
  ·rw[aa _ _ e];exact hk
 ·have:k≠n:=by rintro rfl;exact hn hr
  rw[aa _ _ this]
theorem cv.new {ro:Ro}{h:Heap}{n:Nat}(hn:h n=.free) (r:lV){s:Slot}:cv h ro (ah h n s) (ah ro n r):=fun k hk _=>by
 have:k≠n:=by rintro rfl;exact hk hn
 rw[aa _ _ this,aa _ _ this];exact⟨rfl,rfl⟩
theorem cv.ext {ro:Ro}{h h':Heap}(x:Ext h h'):cv h ro h' ro:=fun k hk _=>⟨x k hk,rfl⟩
theorem cv.av {ro:Ro}{h:Heap}{n:Nat}(hn:(ro n).core=false){s:Slot}:cv h ro (ah h n s) ro:=fun k _ hc=>by
 have:k≠n:=by rintro rfl;rw[hn]at hc;cases hc
 rw[aa _ _ this];exact⟨rfl,rfl⟩
theorem cv.trans {r1 r2 r3:Ro}{h1 h2 h3:Heap}(a:cv h1 r1 h2 r2) (b:cv h2 r2 h3 r3):cv h1 r1 h3 r3:=fun k hk hc=>by
 obtain⟨a1,a2⟩:=a k hk hc
 obtain⟨b1,b2⟩:=b k (by rw[a1];exact hk) (by rw[a2];exact hc)
 exact⟨b1.trans a1,b2.trans a2⟩
theorem MQ {P:Program}{h:Heap}{ro:Ro}{dR dE dS:D}{dm:Nat->D}{st:St}(x:JN h ro dR dE dS dm st){i:Nat}{v:Int}(hi:i<st.regs.length){KH:HK}
  (hK:∀q,ro q=.regs->JN (ah h q (.arr 1 (wr (st.regs.set i v)))) ro dR dE dS dm (st.ox i v)->KH .undef (ah h q (.arr 1 (wr (st.regs.set i v))))) :
  ab P (.iadd (.c dR) (.c (.int .i64 (i:Int))) 1) h fun a h1=>ab P (.st (.c a) (.c (.int .i32 v)) 1) h1 KH:=by
 obtain⟨q,rfl,h2,h3⟩:=x.regs
 simp only[↓bF,h2,Slot.row]
 refine⟨by omega,by omega,⟨_,rfl⟩,?_⟩
 rw[dq,h2]
 refine⟨rfl,by simp,by simp[wr];omega,by simp,fun d hd=>?_⟩
 have e:setCells d 0 (D.int .i32 v).cells=.int .i32 v:=by
  rw[DH,Option.map_eq_some_iff]at hd
  obtain⟨z,-,rfl⟩:=hd
  rfl
 rw[e,show 0+((i:Int)).toNat=i by omega,DG]
 refine hK q h3 ⟨⟨q,by simp[St.ox],by rw[ad];rfl,h3⟩,fun s h1 h4=>?_,?_,?_⟩
 ·obtain⟨k,els,e1,e2⟩:=x.mem s h1 h4
  have hkq:k≠q:=by rintro rfl;have:=e2.rk;rw[h3]at this;cases this
  refine⟨k,els,e1,by rw[aa _ _ hkq];exact e2.hk,e2.rk,e2.len,fun j e w g1 g2=>?_⟩
  rcases e2.el j e w g1 g2 with g|⟨p,g3,g4,g5⟩
  ·exact Or.inl g
  ·have hpq:p≠q:=by rintro rfl;rw[h3]at g5;cases g5
   exact Or.inr ⟨p,g3,by rw[aa _ _ hpq];exact g4,g5⟩
 ·rcases x.ev with g|⟨k,g1,g2,g3⟩
  ·exact Or.inl g
  ·have:k≠q:=by rintro rfl;rw[h3]at g3;cases g3
   exact Or.inr ⟨k,g1,by rw[aa _ _ this];exact g2,g3⟩
 ·rcases x.sl with g|g|⟨k,g1,g2,g3⟩
  ·exact Or.inl g
  ·exact Or.inr (Or.inl g)
  ·have:k≠q:=by rintro rfl;rw[h3]at g3;cases g3
   exact Or.inr (Or.inr ⟨k,g1,by rw[aa _ _ this];exact g2,g3⟩)
theorem Pl {P:Program}{h:Heap}{d:D}{l:List Int}(r:pV h d l){i:Nat}{v:Int}{k:IntKind}(hi:l[i]?=some v){KH:HK}(hK:KH (.int .i32 v) h) :
  ab P (.iadd (.c d) (.c (.int k (i:Int))) 1) h fun a h1=>ab P (.ld (.c a) 1 false) h1 KH:=I4 r hi hK
theorem Nw {P:Program}{h:Heap}{ro:Ro}{s:Nat}{d:D}{m:Mm}(x:oe h ro s d m){n:Nat}(hn:n<m.length){KH:HK}
  (hK:∀e w,m[n]?=some w->na h ro (.row s n) e w->KH e h):ab P (.iadd (.c d) (.c (.int .i64 (n:Int))) 1) h fun a h1=>ab P (.ld (.c a) 1 false) h1 KH:=by
 obtain⟨k,els,rfl,y⟩:=x
 simp only[↓bF,y.hk,Slot.row]
 refine⟨by omega,by omega,⟨_,rfl⟩,?_⟩
 rw[jE,y.hk]
 have hl:=y.len
 refine⟨by simp;omega,fun e he=>?_⟩
 rw[show 0+((n:Int)).toNat=n by omega]at he
 have hw:m[n]?=some (m[n]):=List.getElem?_eq_getElem hn
 have hr:=y.el n e _ he hw
 have hc:e.cells=[e]:=by
  rcases hr with rfl|⟨q,rfl,-⟩<;>rfl
 simp only[↓bk,hc,List.getElem?_cons_zero]
 exact hK e _ hw hr
theorem GS {P:Program}{h:Heap}{ro:Ro}{s:Nat}{d:D}{m:Mm}(x:oe h ro s d m){n i:Nat}{v:Int}{w:List Int}(hn:m[n]?=some w) (hi:w[i]?=some v){KH:HK}{k:IntKind}(hK:KH (.int .i32 v) h) :
  ab P (.iadd (.c d) (.c (.int .i64 (n:Int))) 1) h fun a h1=>ab P (.ld (.c a) 1 false) h1 fun b h2=>ab P (.iadd (.c b) (.c (.int k (i:Int))) 1) h2 fun e h3=>ab P (.ld (.c e) 1 false) h3 KH:=by
 refine Nw x (List.getElem?_eq_some_iff.1 hn).1 fun e w' hw' hr=>?_
 rw[hn]at hw';cases hw'
 exact Pl hr.row hi hK
abbrev jj (c:Code) (l:dk) (it:It) (dR dP dL dG dH dE:D) (nm:Nat):List D :=
  [.int .i64 c.group,.int .i64 c.sub,.int .i64 c.regs,.int .i64 c.slots,.int .i64 c.params,.sl (c.arrays.map bO.e),.sl (c.loops.map Loop.e),.sl (c.b.map Block.e),
   .int .i64 l.groups,words l.args,.int .i64 it.id,.int .i64 it.at_,.int .i64 it.block,.int .i64 it.epoch,dR,dP,dL,dG,dH,dE,.mp nm]
def jc (s i:Int):D:=.agg [.int .i64 s,.int .i64 i]
structure dQ (h:Heap) (ro:Ro) (n:Nat) (c:Code) (l:dk) (it:It) (dR dL dE:D) (dm:Nat->D) (nm:Nat) (ents:List (D×D)) (st:St):Prop where
 box:h n=.box (.agg (jj c l it dR (dm 3) dL (dm 1) (dm 2) dE nm))
 rb:ro n=.box
 sr:JN h ro dR dE dL dm st
 map:h nm=.map (.pair .i64) ents
 rm:ro nm=.map
 keys:∀p∈ents,(KeyT.pair .i64).okB p.1=true
 tru:∀p∈ents,p.2=.bool true
 own:∀(s i k:Nat) (els:List D) (e:D) (w:List Int),1<=s->s<=3->dm s=.ms k 0 (st.mem s).length->h k=.arr 1 els->els[i]?=some e->(st.mem s)[i]?=some w ->
  (mget ents (jc s i)=none->e=words w)/\(mget ents (jc s i)≠none->∃q,e=.ms q 0 w.length/\h q=.arr 1 (wr w)/\ro q=.row s i)
def JQ (h:Heap) (ro:Ro) (n:Nat) (c:Code) (l:dk) (it:It) (st:St):Prop:=∃dR dL dE dm nm ents,dQ h ro n c l it dR dL dE dm nm ents st
theorem Aw {P:Program}{c:Code}{k:Nat}{r:bO}(hr:c.arrays[k]?=some r){h:Heap}{KH:HK}:ab P (.iadd (.c (.sl (c.arrays.map bO.e))) (.c (.int .i64 (k:Int))) 4) h KH=KH (.vp r.e 0) h:=by
 have hk:=(List.getElem?_eq_some_iff.1 hr).1
 rw[im,Int.toNat_natCast,List.getElem?_map,hr,List.length_map]
 apply propext
 constructor
 ·rintro⟨-,-,h⟩;exact(h _ rfl).2
 ·intro hk';exact⟨by omega,by omega,fun d hd=>by cases hd;exact⟨rfl,hk'⟩⟩
theorem JH {P:Program}{r:bO}{h:Heap}{KH:HK}:ab P (.ld (.c (.vp r.e 1)) 1 false) h KH=KH (.int .i64 r.space) h:=by rw[gY,bk];rfl
theorem SP {P:Program}{r:bO}{h:Heap}{KH:HK}:ab P (.ld (.c (.vp r.e 3)) 1 false) h KH=KH (.int .i64 r.len) h:=by rw[gY,bk];rfl
theorem iV {c:Code}{k:Nat}{r:bO}(hr:c.arrays[k]?=some r):bh c k=r.space.toNat:=by simp[bh,hr]
theorem Ax {c:Code}{k:Nat}{r:bO}(hr:c.arrays[k]?=some r):ir c k=r.len:=by simp[ir,hr]
theorem bj.at {c:Code}(hc:bj c){k:Nat}(hk:k<c.arrays.length):∃r,c.arrays[k]?=some r/\Rb r:=by
 exact⟨c.arrays[k],List.getElem?_eq_getElem hk,hc.ar _ (List.getElem_mem hk)⟩
theorem fQ {c:Code}(hc:bj c){k:Nat}(hk:k<c.arrays.length):1<=bh c k/\bh c k<=3:=by
 obtain⟨r,hr,ho⟩:=hc.at hk
 rw[iV hr]
 rcases ho.1 with h|h|h<;>rw[h]<;>simp
section
variable {h:Heap}{ro:Ro}{n:Nat}{c:Code}{l:dk}{it:It}{dR dL dE:D}{dm:Nat->D}{nm:Nat}{ents:List (D×D)}{st:St}
theorem dQ.used (x:dQ h ro n c l it dR dL dE dm nm ents st):(h n).used=true:=by rw[x.box];rfl
theorem HU (x:dQ h ro n c l it dR dL dE dm nm ents st) (hc:bj c){k:Nat}(hk:k<c.arrays.length){KH:HK}(hK:KH (dm (bh c k)) h):ag PP gf [.ptr n 0 0,.int .i64 (k:Int)] h KH:=by
 refine aW s8 (aA _ _ _) rfl (ss _ _ _) ?_
 (unfold mA;try dsimp only[xL,yL,xF,yF,xI,yI,xS,zI,zJ])
 obtain⟨r,hr,ho⟩:=hc.at hk
 have e:=x.box
 rw[iV hr]at hK
 simp only[↓ba x.used,Nat.zero_add,Nat.reduceAdd,↓eR e (j:=5) rfl,↓Aw hr,↓ig,↓JH,↓aM,true_and]
 rcases ho.1 with h1|h1|h1
 ·rw[h1]at hK ⊢
  simp only[decide_true,↓af,↓eR e (j:=17) rfl]
  exact hK
 ·rw[h1]at hK ⊢
  simp only[Int.reduceEq,decide_false,↓ae,decide_true,↓af,↓eR e (j:=18) rfl]
  exact hK
 ·rw[h1]at hK ⊢
  simp only[Int.reduceEq,decide_false,↓ae,↓eR e (j:=15) rfl]
  exact hK
theorem Dp {c:Code}{st:St}(hc:bj c) (hw:qA c st){k i:Nat}(hk:k<c.arrays.length) (hi:(i:Int)<ir c k) :
  ∃w,(st.mem (bh c k))[k]?=some w/\w[i]?=some (st.word (bh c k) k i)/\i<w.length:=by
 obtain⟨r,hr,ho⟩:=hc.at hk
 obtain⟨b1,b2⟩:=fQ hc hk
 have hm:=hw.mem _ b1 b2
 have hl:k<(st.mem (bh c k)).length:=by rw[hm.len];exact hk
 have hg:=List.getElem?_eq_getElem hl
 refine⟨_,hg,?_⟩
 have hwl:=(hm.w k r _ hr hg).1
 rw[Ax hr]at hi
 have hs:r.space=((bh c k:Nat):Int):=by rw[iV hr];rcases ho.1 with h|h|h<;>rw[h]<;>rfl
 have hil:i<((st.mem (bh c k))[k]).length:=by rw[hwl];unfold Cb;rw[if_pos hs];omega
 refine⟨?_,hil⟩
 unfold St.word
 rw[List.getD_eq_getElem?_getD (l:=st.mem (bh c k)),hg,Option.getD_some,List.getD_eq_getElem?_getD,List.getElem?_eq_getElem hil,Option.getD_some]
theorem Jb (x:dQ h ro n c l it dR dL dE dm nm ents st) (hc:bj c) (hw:qA c st){k:Nat}(hk:k<c.arrays.length){a:Int}(ha:gM a){KH:HK}{KP:Heap->Prop}
  (hK:0<=a/\a<ir c k->KH (.int .i32 (st.word (bh c k) k a.toNat)) h) (hP:¬(0<=a/\a<ir c k)->KP h):km PP fL [.ptr n 0 0,.int .i64 (k:Int),.int .i32 a] h KH KP:=by
 refine IS wz (aA _ _ _) rfl (wj _ _ _ _) ?_
 (unfold pR;try dsimp only[xL,yL,xF,yF,xI,yI,xS,zI,zJ])
 obtain⟨r,hr,ho⟩:=hc.at hk
 obtain⟨b1,b2⟩:=fQ hc hk
 have e:=x.box
 have hl:=Ax hr
 rw[bK]
 by_cases h0:a<0
 ·simp only[h0,decide_true,↓gS,↓dh]
  exact fun _=>hP (by omega)
 ·have wa:IntKind.i64.wrap a=a:=vq ha
  simp only[h0,decide_false,↓G3,↓ba x.used,Nat.zero_add,Nat.reduceAdd,↓eR e (j:=5) rfl,↓Aw hr,↓ig,↓SP,↓cu,wa,↓iz,true_and,↓gP]
  by_cases h1:r.len<=a
  ·simp only[h1,decide_true,↓af]
   exact fun _=>hP (by omega)
  ·simp only[h1,decide_false,↓ae]
   refine HU x hc hk ?_
   obtain⟨i,rfl⟩:∃i:Nat,a=(i:Int):=⟨a.toNat,by omega⟩
   obtain⟨w,g1,g2,-⟩:=Dp hc hw hk (i:=i) (by omega)
   exact GS (x.sr.mem _ b1 b2) g1 g2 (hK (by omega))
end
theorem GO {h:Heap}{w:List Int}(hw:w≠[]) (hl:w.length<=1000000){KH:HK}
  (hK:∀(q:Nat) (h':Heap),h q=.free->h' q=.arr 1 (wr w)->(∀k,h k≠.free->h' k=h k)->KH (.ms q 0 w.length) h'):ag PP aS [words w] h KH:=by
 refine aW fv (aA _ _ _) rfl (fu _ _) ?_
 (unfold du;try dsimp only[xL,yL,xF,yF,xI,yI,xS,zI,zJ])
 obtain⟨a,r,rfl⟩:=List.exists_cons_of_ne_nil hw
 have:∀{KH:HK},ab PP (.nilq false (.c (words (a::r)))) h KH=KH (.bool false) h:=rfl
 rw[this,ae]
 refine m6 fun n t=>?_
 refine⟨fun d hd=>?_,fun y hy=>?_,[],ad _ _ _,rfl,rfl,⟨?_,?_⟩,fun m t2=>?_⟩
 ·simp only[words,List.mem_map]at hd;obtain⟨z,-,rfl⟩:=hd;rfl
 ·simp only[words,List.mem_map]at hy;obtain⟨z,-,rfl⟩:=hy;simp
 ·simp at hl ⊢;omega
 ·simp at hl ⊢;omega
 ·have hf:=t2.free
  have hmn:m≠n:=by rintro rfl;rw[ad]at hf;cases hf
  have:=hK m (ah (ah (ah h n (.arr 1 [])) n .dead) m (.arr 1 (wr (a::r)))) (by rw[aa _ _ hmn]at hf;exact hf) (ad _ _ _) fun k hk=>by
   have h1:k≠n:=t.ne hk
   have h2:k≠m:=t2.ne (by rw[aa _ _ h1];exact hk)
   rw[aa _ _ h2,aa _ _ h1,aa _ _ h1]
  simpa[wr,words] using this
end Go.Am
namespace Go.Am
open Go
theorem pd {s i:Int}:(KeyT.pair .i64).okB (jc s i)=true:=rfl
theorem jD {a b:D}(ha:(KeyT.pair .i64).okB a=true) (hb:(KeyT.pair .i64).okB b=true):keySame a b=true↔a=b:=by
 obtain⟨p,q,rfl⟩:=iM ha
 obtain⟨r,s,rfl⟩:=iM hb
 simp[keySame]
theorem zR {k k' v:D}(hk:(KeyT.pair .i64).okB k=true) (hk':(KeyT.pair .i64).okB k'=true):∀(l:List (D×D)),(∀p∈l,(KeyT.pair .i64).okB p.1=true)->(k'=k->mget (mset l k v) k'=some v)/\(k'≠k->mget (mset l k v) k'=mget l k')
 | [],_=>by
  simp only[mset,mget]
  refine⟨fun e=>by rw[if_pos ((jD hk' hk).2 e)],fun e=>by rw[if_neg (fun h=>e ((jD hk' hk).1 h))]⟩
 | (a,b)::r,h=>by
  have ha:=h (a,b) (by simp)
  obtain⟨i1,i2⟩:=zR (v:=v) hk hk' r fun p hp=>h p (by simp[hp])
  simp only[mset]
  by_cases e:keySame k a=true
  ·have e':=(jD hk ha).1 e
   subst e'
   rw[if_pos e]
   simp only[mget]
   refine⟨fun e2=>by rw[if_pos ((jD hk' hk).2 e2)],fun e2=>?_⟩
   have:¬keySame k' k=true:=fun h=>e2 ((jD hk' hk).1 h)
   rw[if_neg this,if_neg this]
  ·rw[if_neg e]
   simp only[mget]
   refine⟨fun e2=>?_,fun e2=>?_⟩
   ·subst e2;rw[if_neg e];exact i1 rfl
   ·by_cases e3:keySame k' a=true
    ·rw[if_pos e3,if_pos e3]
    ·rw[if_neg e3,if_neg e3];exact i2 e2
theorem Ge {k v:D}(hk:(KeyT.pair .i64).okB k=true):∀(l:List (D×D)),(∀p∈l,(KeyT.pair .i64).okB p.1=true)->∀p,p∈mset l k v->(KeyT.pair .i64).okB p.1=true
 | [],_,p,hp=>by simp[mset]at hp;subst hp;exact hk
 | (a,b)::r,h,p,hp=>by
  simp only[mset]at hp
  by_cases e:keySame k a=true
  ·rw[if_pos e]at hp
   rcases List.mem_cons.1 hp with rfl|hp
   ·exact h (a,b) (by simp)
   ·exact h p (by simp[hp])
  ·rw[if_neg e]at hp
   rcases List.mem_cons.1 hp with rfl|hp
   ·exact h (a,b) (by simp)
   ·exact Ge hk r (fun p hp=>h p (by simp[hp])) p hp
theorem H0 {k:D}:∀(l:List (D×D)),(∀p∈l,p.2=.bool true)->∀p,p∈mset l k (.bool true)->p.2=.bool true
 | [],_,p,hp=>by simp[mset]at hp;subst hp;rfl
 | (a,b)::r,h,p,hp=>by
  simp only[mset]at hp
  by_cases e:keySame k a=true
  ·rw[if_pos e]at hp
   rcases List.mem_cons.1 hp with rfl|hp
   ·rfl
   ·exact h p (by simp[hp])
  ·rw[if_neg e]at hp
   rcases List.mem_cons.1 hp with rfl|hp
   ·exact h (a,b) (by simp)
   ·exact H0 r (fun p hp=>h p (by simp[hp])) p hp
theorem H2 {k v:D}:∀(l:List (D×D)),(∀p∈l,p.2=.bool true)->mget l k=some v->v=.bool true
 | [],_,hv=>by cases hv
 | (a,b)::r,h,hv=>by
  simp only[mget]at hv
  by_cases e:keySame k a=true
  ·rw[if_pos e]at hv;cases hv;exact h _ (List.mem_cons_self)
  ·rw[if_neg e]at hv;exact H2 r (fun p hp=>h p (by simp[hp])) hv
def kF (E:lV->Prop) (h:Heap) (ro:Ro) (h':Heap) (ro':Ro):Prop:=∀k,h k≠.free->E (ro k)->h' k=h k/\ro' k=ro k
section
variable {E:lV->Prop}{h h':Heap}{ro ro':Ro}
theorem na.dj (k:kF E h ro h' ro'){r:lV}(hr:E r){d:D}{w:List Int}(x:na h ro r d w):na h' ro' r d w:=by
 rcases x with x|⟨q,h1,h2,h3⟩
 ·exact Or.inl x
 ·obtain⟨k1,k2⟩:=k q (bU h2) (by rw[h3];exact hr)
  exact Or.inr ⟨q,h1,by rw[k1];exact h2,by rw[k2];exact h3⟩
theorem nU.dj (k:kF E h ro h' ro') (hr:E .regs){d:D}{w:List Int}(x:nU h ro d w):nU h' ro' d w:=by
 obtain⟨q,h1,h2,h3⟩:=x
 obtain⟨k1,k2⟩:=k q (bU h2) (by rw[h3];exact hr)
 exact⟨q,h1,by rw[k1];exact h2,by rw[k2];exact h3⟩
theorem og.dj (k:kF E h ro h' ro'){s q:Nat}(hr:E (.mem s)) (hr2:∀i,E (.row s i)){m:Mm}{els:List D}(x:og h ro s m q els):og h' ro' s m q els:=by
 obtain⟨k1,k2⟩:=k q (bU x.hk) (by rw[x.rk];exact hr)
 exact⟨by rw[k1];exact x.hk,by rw[k2];exact x.rk,x.len,fun i e w h1 h2=>(x.el i e w h1 h2).dj k (hr2 i)⟩
theorem oe.dj (k:kF E h ro h' ro'){s:Nat}(hr:E (.mem s)) (hr2:∀i,E (.row s i)){d:D}{m:Mm}(x:oe h ro s d m):oe h' ro' s d m:=by
 obtain⟨q,els,h1,h2⟩:=x
 exact⟨q,els,h1,h2.dj k hr hr2⟩
theorem L5.dj (k:kF E h ro h' ro') (hr:E .ev){d:D}{w:List Ev}(x:L5 h ro d w):L5 h' ro' d w:=by
 rcases x with x|⟨q,h1,h2,h3⟩
 ·exact Or.inl x
 obtain⟨k1,k2⟩:=k q (bU h2) (by rw[h3];exact hr)
 exact Or.inr ⟨q,h1,by rw[k1];exact h2,by rw[k2];exact h3⟩
theorem KI.dj (k:kF E h ro h' ro') (hr:E .sl){d:D}(x:KI h ro d):KI h' ro' d:=by
 rcases x with x|x|⟨q,h1,h2,h3⟩
 ·exact Or.inl x
 ·exact Or.inr (Or.inl x)
 obtain⟨k1,k2⟩:=k q (bU h2) (by rw[h3];exact hr)
 exact Or.inr (Or.inr ⟨q,h1,by rw[k1];exact h2,by rw[k2];exact h3⟩)
end
theorem JN.ML {h:Heap}{ro:Ro}{dR dE dS:D}{dm:Nat->D}{st:St}(x:JN h ro dR dE dS dm st){s i q:Nat}{w w':List Int}{kk:Nat}{els:List D}(hs:1<=s/\s<=3) (hd:dm s=.ms kk 0 (st.mem s).length) (hkk:h kk=.arr 1 els)
  (he:els[i]?=some (.ms q 0 w.length)) (hi:(st.mem s)[i]?=some w) (hq:h q=.arr 1 (wr w)) (rq:ro q=.row s i) (hl:w'.length=w.length) :
  JN (ah h q (.arr 1 (wr w'))) ro dR dE dS dm { st with mem:=ah st.mem s ((st.mem s).set i w') }:=by
 have kp:kF (fun r=>r≠.row s i) h ro (ah h q (.arr 1 (wr w'))) ro:=fun k _ hr=>by
  rw[aa _ _ (by rintro rfl;exact hr rq)];exact⟨rfl,rfl⟩
 refine⟨x.regs.dj kp (by simp),fun s' h1 h2=>?_,x.ev.dj kp (by simp),x.sl.dj kp (by simp)⟩
 by_cases e:s'=s
 ·subst e
  simp only[ad]
  obtain⟨k,els',g1,g2⟩:=x.mem s' h1 h2
  rw[hd]at g1
  simp only[D.ms.injEq,true_and,and_true]at g1
  subst g1
  have:els'=els:=by have:=g2.hk;rw[hkk]at this;simpa using this.symm
  subst this
  have hkq:kk≠q:=by rintro rfl;have:=g2.rk;rw[rq]at this;cases this
  refine⟨kk,els',by rw[hd];simp,by rw[aa _ _ hkq];exact hkk,g2.rk,by simp[g2.len],fun j e v v1 v2=>?_⟩
  by_cases ej:j=i
  ·subst ej
   rw[he]at v1;cases v1
   have hlt:=(List.getElem?_eq_some_iff.1 hi).1
   rw[List.getElem?_set_self hlt]at v2;cases v2
   exact Or.inr ⟨q,by rw[hl],ad _ _ _,rq⟩
  ·rw[List.getElem?_set_ne (Ne.symm ej)]at v2
   exact(g2.el j e v v1 v2).dj kp (by simp[ej])
 ·simp only[aa _ _ e]
  exact(x.mem s' h1 h2).dj kp (by simp) (by simp[e])
section
variable {h:Heap}{ro:Ro}{n:Nat}{c:Code}{l:dk}{it:It}{dR dL dE:D}{dm:Nat->D}{nm:Nat}{ents:List (D×D)}{st:St}
theorem dQ.new (x:dQ h ro n c l it dR dL dE dm nm ents st){m:Nat}(hm:h m=.free) (s:Slot):dQ (ah h m s) (ah ro m .no) n c l it dR dL dE dm nm ents st:=by
 have ne:∀k,h k≠.free->k≠m:=by rintro k hk rfl;exact hk hm
 have hn:=ne n (by rw[x.box];simp)
 have hnm:=ne nm (by rw[x.map];simp)
 refine⟨by rw[aa _ _ hn];exact x.box,by rw[aa _ _ hn];exact x.rb,x.sr.aD (cv.new hm _),by rw[aa _ _ hnm];exact x.map,by rw[aa _ _ hnm];exact x.rm,x.keys,x.tru,fun s i k els e w s1 s2 hd hk he hw=>?_⟩
 obtain⟨k',els',g1,g2⟩:=x.sr.mem s s1 s2
 rw[hd]at g1;simp only[D.ms.injEq,true_and,and_true]at g1;subst g1
 rw[aa _ _ (ne k (bU g2.hk))]at hk
 obtain⟨p1,p2⟩:=x.own s i k els e w s1 s2 hd hk he hw
 refine⟨p1,fun hne=>?_⟩
 obtain⟨q,q1,q2,q3⟩:=p2 hne
 have:=ne q (bU q2)
 exact⟨q,q1,by rw[aa _ _ this];exact q2,by rw[aa _ _ this];exact q3⟩
theorem dQ.ownRow (x:dQ h ro n c l it dR dL dE dm nm ents st){s i kk q:Nat}{els:List D}{w:List Int}(hs:1<=s/\s<=3) (hd:dm s=.ms kk 0 (st.mem s).length) (hkk:h kk=.arr 1 els) (hi:(st.mem s)[i]?=some w)
  {h1:Heap}(hq:h q=.free) (hq1:h1 q=.arr 1 (wr w)) (h1k:∀k,h k≠.free->h1 k=h k) :
  dQ (ah (ah h1 kk (.arr 1 (els.set i (.ms q 0 w.length)))) nm (.map (.pair .i64) (mset ents (jc s i) (.bool true)))) (ah ro q (.row s i)) n c l it dR dL dE dm nm (mset ents (jc s i) (.bool true)) st /\
   Fr ro h (ah ro q (.row s i)) (ah (ah h1 kk (.arr 1 (els.set i (.ms q 0 w.length)))) nm (.map (.pair .i64) (mset ents (jc s i) (.bool true)))):=by
 obtain⟨k0,els0,g1,g2⟩:=x.sr.mem s hs.1 hs.2
 rw[hd]at g1;simp only[D.ms.injEq,true_and,and_true]at g1;subst g1
 have:els0=els:=by have:=g2.hk;rw[hkk]at this;simpa using this.symm
 subst this
 have neq:∀k,h k≠.free->k≠q:=by rintro k hk rfl;exact hk hq
 have hkn:kk≠nm:=by rintro rfl;have:=x.map;rw[hkk]at this;cases this
 obtain⟨H,hH⟩:∃H,H=ah (ah h1 kk (.arr 1 (els0.set i (.ms q 0 w.length)))) nm (.map (.pair .i64) (mset ents (jc s i) (.bool true))):=⟨_,rfl⟩
 rw[<- hH]
 have same:∀k,h k≠.free->k≠kk->k≠nm->H k=h k:=fun k hk e1 e2=>by rw[hH,aa _ _ e2,aa _ _ e1];exact h1k k hk
 have Hkk:H kk=.arr 1 (els0.set i (.ms q 0 w.length)):=by rw[hH,aa _ _ hkn,ad]
 have Hnm:H nm=.map (.pair .i64) (mset ents (jc s i) (.bool true)):=by rw[hH,ad]
 have qk:q≠kk:=fun e=>neq kk (bU hkk) e.symm
 have qn:q≠nm:=fun e=>neq nm (by rw[x.map];simp) e.symm
 have Hq:H q=.arr 1 (wr w):=by rw[hH,aa _ _ qn,aa _ _ qk];exact hq1
 have rr:∀k,h k≠.free->ah ro q (.row s i) k=ro k:=fun k hk=>aa _ _ (neq k hk)
 have rkk:=g2.rk
 have kp:kF (fun r=>r≠.mem s/\r≠.map) h ro H (ah ro q (.row s i)):=fun k hk hr =>
  ⟨same k hk (by rintro rfl;exact hr.1 rkk) (by rintro rfl;exact hr.2 x.rm),rr k hk⟩
 have hn1:n≠kk:=by rintro rfl;have:=x.box;rw[hkk]at this;cases this
 have hn2:n≠nm:=by rintro rfl;have:=x.box;rw[x.map]at this;cases this
 have hnf:h n≠.free:=by rw[x.box];simp
 have hlen:=g2.len
 have hil:=(List.getElem?_eq_some_iff.1 hi).1
 refine⟨⟨by rw[same n hnf hn1 hn2];exact x.box,by rw[rr n hnf];exact x.rb,?_,Hnm,by rw[rr nm (by rw[x.map];simp)];exact x.rm,Ge pd _ x.keys,H0 _ x.tru,fun s' i' k els e w' s1 s2 hd' hk he hw'=>?_⟩,fun k hk=>?_⟩
 ·refine⟨x.sr.regs.dj kp (by simp),fun s' s1 s2=>?_,x.sr.ev.dj kp (by simp),x.sr.sl.dj kp (by simp)⟩
  by_cases e:s'=s
  ·subst e
   refine⟨kk,_,hd,Hkk,by rw[rr kk (bU hkk)];exact rkk,by simp[hlen],fun j e v v1 v2=>?_⟩
   by_cases ej:j=i
   ·subst ej
    rw[List.getElem?_set_self (by omega)]at v1;cases v1
    rw[hi]at v2;cases v2
    exact Or.inr ⟨q,rfl,Hq,ad _ _ _⟩
   ·rw[List.getElem?_set_ne (Ne.symm ej)]at v1
    exact(g2.el j e v v1 v2).dj kp (by simp)
  ·exact(x.sr.mem s' s1 s2).dj kp (by simp[e]) (by simp)
 ·obtain⟨p1,p2⟩:=zR (k:=jc s i) (k':=jc s' i') (v:=.bool true) pd pd ents x.keys
  by_cases es:s'=s
  ·subst es
   rw[hd]at hd';simp only[D.ms.injEq,true_and,and_true]at hd';subst hd'
   rw[Hkk]at hk;simp only[Slot.arr.injEq,true_and]at hk;subst hk
   by_cases ei:i'=i
   ·subst ei
    rw[p1 rfl]
    rw[List.getElem?_set_self (by omega)]at he;cases he
    rw[hi]at hw';cases hw'
    exact⟨fun h=>(by cases h),fun _=>⟨q,rfl,Hq,ad _ _ _⟩⟩
   ·have hne:jc s' i'≠jc s' i:=by simp[jc];omega
    rw[p2 hne]
    rw[List.getElem?_set_ne (Ne.symm ei)]at he
    obtain⟨a1,a2⟩:=x.own s' i' kk els0 e w' s1 s2 hd hkk he hw'
    refine⟨a1,fun hn=>?_⟩
    obtain⟨q',b1,b2,b3⟩:=a2 hn
    obtain⟨c1,c2⟩:=kp q' (bU b2) (by rw[b3];simp)
    exact⟨q',b1,by rw[c1];exact b2,by rw[c2];exact b3⟩
  ·have hne:jc s' i'≠jc s i:=by simp[jc];omega
   rw[p2 hne]
   obtain⟨k',els',g1,g3⟩:=x.sr.mem s' s1 s2
   rw[hd']at g1;simp only[D.ms.injEq,true_and,and_true]at g1;subst g1
   have hk1:k≠kk:=by rintro rfl;have:=g3.rk;rw[rkk]at this;simp at this;exact es this.symm
   have hk2:k≠nm:=by rintro rfl;have:=g3.hk;rw[x.map]at this;cases this
   rw[same k (bU g3.hk) hk1 hk2]at hk
   obtain⟨a1,a2⟩:=x.own s' i' k els e w' s1 s2 hd' hk he hw'
   refine⟨a1,fun hn=>?_⟩
   obtain⟨q',b1,b2,b3⟩:=a2 hn
   obtain⟨c1,c2⟩:=kp q' (bU b2) (by rw[b3];simp)
   exact⟨q',b1,by rw[c1];exact b2,by rw[c2];exact b3⟩
 ·refine⟨rr k hk,?_,fun hr=>same k hk (by rintro rfl;rw[rkk]at hr;cases hr) (by rintro rfl;rw[x.rm]at hr;cases hr)⟩
  by_cases e1:k=nm
  ·subst e1;rw[Hnm];simp
  by_cases e2:k=kk
  ·subst e2;rw[Hkk];simp
  rw[same k hk e2 e1];exact hk
end
end Go.Am
namespace Go.Am
open Go
theorem SF {P:Program}{kt:KeyT}{x k:Arg}{z:D}{ok:Bool}{h:Heap}{K:D->Prop}:aq P (.look kt x k z ok) h K=ab P (.look kt x k z ok) h fun d _=>K d:=rfl
theorem Sl {P:Program}{nm:Nat}{key:D}{h:Heap}{ents:List (D×D)}(hm:h nm=.map (.pair .i64) ents) (hk:(KeyT.pair .i64).okB key=true){K:HK} :
  ab P (.look (.pair .i64) (.c (.mp nm)) (.c key) (.bool false) false) h K=K ((mget ents key).getD (.bool false)) h:=by
 simp only[ab,vcOp,Arg.get,hk,hm,true_and];rfl
theorem Sk {P:Program}{nm:Nat}{key v:D}{h:Heap}{ents:List (D×D)}(hm:h nm=.map (.pair .i64) ents) (hk:(KeyT.pair .i64).okB key=true) (hv:v.one=true){K:HK} :
  ab P (.mupd (.pair .i64) (.c (.mp nm)) (.c key) (.c v)) h K=K .undef (ah h nm (.map (.pair .i64) (mset ents key v))):=by
 simp only[ab,vcOp,Arg.get,hk,hv,hm,true_and]
theorem Ok {P:Program}{fz:Bool}{esz:Nat}{z d:D}{h:Heap}{K:D->Prop}(h2:aw d) (h3:d.cells.length=esz) (hv:∀y∈d.cells,y.vone=true) (hz:∀y∈z.cells,y.vone=true) (hk:K (.sl [d])):aq P (.bldS fz esz 1 z [(0,.c d)]) h K:=by
 refine⟨fun p hp=>by simp[Arg.get]at hp;subst hp;exact⟨Nat.one_pos,h3,h2⟩,fun p hp=>by simp[Arg.get]at hp;subst hp;exact hv,hz,?_⟩
 simpa[Arg.get,setEls] using hk
section
variable {h:Heap}{ro:Ro}{n:Nat}{c:Code}{l:dk}{it:It}{dR dL dE:D}{dm:Nat->D}{nm:Nat}{ents:List (D×D)}{st:St}
theorem dQ.store (x:dQ h ro n c l it dR dL dE dm nm ents st){s k i:Nat}(hs:1<=s/\s<=3){w:List Int}(hk:(st.mem s)[k]?=some w) (hi:i<w.length) (hown:mget ents (jc s k)≠none){v:Int}{KH:HK}
  (hK:∀h',Fr ro h ro h'->dQ h' ro n c l it dR dL dE dm nm ents (st.put s k i v)->KH .undef h') :
  ab PP (.iadd (.c (dm s)) (.c (.int .i64 (k:Int))) 1) h fun a h1=>ab PP (.ld (.c a) 1 false) h1 fun b h2=>ab PP (.iadd (.c b) (.c (.int .i32 (i:Int))) 1) h2 fun e h3=>ab PP (.st (.c e) (.c (.int .i32 v)) 1) h3 KH:=by
 obtain⟨kk,els,hd,y⟩:=x.sr.mem s hs.1 hs.2
 have hlt:=(List.getElem?_eq_some_iff.1 hk).1
 have hl:=y.len
 have he:els[k]?=some (els[k]'(by omega)):=List.getElem?_eq_getElem (by omega)
 obtain⟨q,hq,hq1,hq2⟩:=(x.own s k kk els _ w hs.1 hs.2 hd y.hk he hk).2 hown
 rw[hq]at he
 rw[hd]
 simp only[↓bF,y.hk,Slot.row]
 refine⟨by omega,by omega,⟨_,rfl⟩,?_⟩
 rw[jE,y.hk]
 refine⟨by simp;omega,fun e he'=>?_⟩
 rw[show 0+((k:Int)).toNat=k by omega,he]at he';cases he'
 simp only[↓bk,EU,List.getElem?_cons_zero,↓bF,hq1,Slot.row]
 refine⟨by omega,by omega,⟨_,rfl⟩,?_⟩
 rw[dq,hq1]
 refine⟨rfl,by simp,by simp[wr];omega,by simp,fun d hd'=>?_⟩
 have e:setCells d 0 (D.int .i32 v).cells=.int .i32 v:=by
  rw[DH,Option.map_eq_some_iff]at hd'
  obtain⟨z,-,rfl⟩:=hd'
  rfl
 rw[e,show 0+((i:Int)).toNat=i by omega,DG]
 have hp:st.put s k i v={ st with mem:=ah st.mem s ((st.mem s).set k (w.set i v)) }:=by
  simp only[St.put,FT,List.getD_eq_getElem?_getD,hk,Option.getD_some]
 have hne:∀k',ro k'≠.row s k->k'≠q:=by rintro k' hr rfl;exact hr hq2
 have hn:=hne n (by rw[x.rb];simp)
 have hnm:=hne nm (by rw[x.rm];simp)
 refine hK _ (Fr.av (by rw[hq2];simp) (by simp)) ⟨by rw[aa _ _ hn];exact x.box,x.rb,?_,by rw[aa _ _ hnm];exact x.map,x.rm,x.keys,x.tru,fun s' i' k' els' e' w' s1 s2 hd'' hk'' he'' hw''=>?_⟩
 ·rw[hp]
  exact x.sr.ML hs hd y.hk he hk hq1 hq2 (by simp)
 ·obtain⟨k0,els0,g1,g2⟩:=x.sr.mem s' s1 s2
  have hlen:((st.put s k i v).mem s').length=(st.mem s').length:=by
   rw[hp]
   by_cases es:s'=s
   ·subst es;simp
   ·simp[aa _ _ es]
  rw[hlen]at hd''
  have hd3:=hd''
  rw[g1]at hd3;simp only[D.ms.injEq,true_and,and_true]at hd3;subst hd3
  have hk0:k0≠q:=hne k0 (by rw[g2.rk];simp)
  rw[aa _ _ hk0]at hk''
  by_cases es:s'=s/\i'=k
  ·obtain⟨rfl,rfl⟩:=es
   rw[hd]at g1;simp only[D.ms.injEq,true_and,and_true]at g1;subst g1
   have:els'=els:=by have:=y.hk;rw[hk'']at this;simpa using this
   subst this
   rw[he]at he'';cases he''
   rw[hp]at hw''
   simp only[ad]at hw''
   rw[List.getElem?_set_self hlt]at hw'';cases hw''
   exact⟨fun h=>absurd h hown,fun _=>⟨q,by simp,by rw[ad],hq2⟩⟩
  ·have hw3:(st.mem s')[i']?=some w':=by
    rw[hp]at hw''
    by_cases es':s'=s
    ·subst es'
     simp only[ad]at hw''
     rw[List.getElem?_set_ne (by rintro rfl;exact es ⟨rfl,rfl⟩)]at hw''
     exact hw''
    ·simpa[aa _ _ es'] using hw''
   obtain⟨a1,a2⟩:=x.own s' i' k0 els' e' w' s1 s2 hd'' hk'' he'' hw3
   refine⟨a1,fun hh=>?_⟩
   obtain⟨q',b1,b2,b3⟩:=a2 hh
   have:q'≠q:=hne q' (by rw[b3];simp;exact fun h1 h2=>es ⟨h1,h2⟩)
   exact⟨q',b1,by rw[aa _ _ this];exact b2,b3⟩
theorem Pu (x:dQ h ro n c l it dR dL dE dm nm ents st) (hc:bj c) (hw:qA c st){k i:Nat}(hk:k<c.arrays.length) (hi:(i:Int)<ir c k){v:Int}{KH:HK}
  (hK:∀h' ro',Fr ro h ro' h'->JQ h' ro' n c l it (st.put (bh c k) k i v)->KH (.tup []) h'):ag PP jm [.ptr n 0 0,.int .i64 (k:Int),.int .i32 (i:Int),.int .i32 v] h KH:=by
 refine aW tU (aA _ _ _) rfl (tO _ _ _ _ _) ?_
 (unfold nR;try dsimp only[xL,yL,xF,yF,xI,yI,xS,zI,zJ])
 obtain⟨r,hr,ho⟩:=hc.at hk
 obtain⟨b1,b2⟩:=fQ hc hk
 obtain⟨w,hw1,hw2,hw3⟩:=Dp hc hw hk hi
 have hsp:r.space=((bh c k:Nat):Int):=by rw[iV hr];rcases ho.1 with h|h|h<;>rw[h]<;>rfl
 refine HU x hc hk ?_
 have e:=x.box
 simp only[↓ba x.used,Nat.zero_add,Nat.reduceAdd,↓eR e (j:=5) rfl,↓Aw hr,↓ig,↓JH,↓T3,true_and]
 rw[bQ]
 intro m t
 rw[hsp]
 rw[dq,ad]
 refine⟨rfl,by simp,rfl,by simp,?_⟩
 rw[hU]
 have ek:setCells (.agg [.int .i64 0,.int .i64 0]) 0 (D.agg [.int .i64 ((bh c k:Nat):Int),.int .i64 (k:Int)]).cells=jc (bh c k) k:=rfl
 rw[ek]
 have x1:=x.new t.free (.box (jc (bh c k) k))
 have f1:Fr ro h (ah ro m .no) (ah h m (.box (jc (bh c k) k))):=Fr.new t.free _
 have hm:ah h m (.box (jc (bh c k) k)) m=.box (jc (bh c k) k):=ad _ _ _
 have rm:ah ro m .no m=.no:=ad _ _ _
 generalize ah h m (.box (jc (bh c k) k))=h1 at x1 f1 hm
 generalize ah ro m .no=ro1 at x1 f1 rm
 refine⟨fun qs h'=>qs=[]/\∃ro' ents',Fr ro h ro' h'/\dQ h' ro' n c l it dR dL dE dm nm ents' st/\mget ents' (jc (bh c k) k)≠none,?_,?_⟩
 ·rintro f h' ⟨-,ro',ents',f2,x2,hg⟩
  refine x2.store (k:=k) ⟨b1,b2⟩ hw1 hw3 hg fun h3 f3 x3=>?_
  exact hK h3 ro' (f2.trans f3) ⟨_,_,_,_,_,_,x3⟩
 have eb:=x1.box
 have hmd:aq PP (.ld (.c (.ptr m 0 0)) 2 true) h1=fun K=>K (jc (bh c k) k):=by
  funext K;rw[bL];exact db hm
 simp only[↓aE,x1.used,Nat.zero_add,Nat.reduceAdd,↓cj eb (j:=20) rfl,hmd,↓SF,↓Sl x1.map pd,true_and]
 cases hg:mget ents (jc (bh c k) k) with
 | some z =>
  have:=H2 _ x.tru hg
  subst this
  simp only[Option.getD_some,↓HZ,↓ae]
  exact⟨by simp,ro1,ents,f1,x1,by rw[hg];simp⟩
 | none =>
  simp only[Option.getD_none,↓Np,↓af]
  obtain⟨kk,els,hd,y⟩:=x1.sr.mem _ b1 b2
  have hlt:=(List.getElem?_eq_some_iff.1 hw1).1
  have hl:=y.len
  have he:els[k]?=some (els[k]'(by omega)):=List.getElem?_eq_getElem (by omega)
  have hew:=(x1.own _ k kk els _ w b1 b2 hd y.hk he hw1).1 hg
  rw[hew]at he
  have hwl:w.length<=1000000:=by
   have h1:=((hw.mem _ b1 b2).w k r w hr hw1).1
   have:=ho.2.2
   rw[h1];unfold Cb;split<;>omega
  rw[hd]
  simp only[↓bF,y.hk,Slot.row]
  refine⟨by omega,by omega,⟨_,rfl⟩,?_⟩
  rw[jE,y.hk]
  refine⟨by simp;omega,fun e he'=>?_⟩
  rw[show 0+((k:Int)).toNat=k by omega,he]at he';cases he'
  have hc1:(words w).cells=[words w]:=rfl
  simp only[↓bk,hc1,List.getElem?_cons_zero]
  refine GO (by rintro rfl;simp at hw3) hwl fun q h2 hq hq2 h2k=>?_
  have hkk2:h2 kk=.arr 1 els:=by rw[h2k kk (bU y.hk)];exact y.hk
  simp only[↓bF,hkk2,Slot.row]
  refine⟨by omega,by omega,⟨_,rfl⟩,?_⟩
  rw[dq,hkk2]
  refine⟨rfl,by simp,by simp;omega,by simp,fun d hd'=>?_⟩
  rw[show 0+((k:Int)).toNat=k by omega]at hd' ⊢
  rw[he]at hd';cases hd'
  have es:setCells (words w) 0 (D.ms q 0 w.length).cells=.ms q 0 w.length:=rfl
  rw[es]
  obtain⟨y1,y2⟩:=x1.ownRow ⟨b1,b2⟩ hd y.hk hw1 hq hq2 h2k
  have nkk:∀j d,h1 j=.box d->j≠kk:=by rintro j d hj rfl;rw[y.hk]at hj;cases hj
  have n3:ah h2 kk (.arr 1 (els.set k (.ms q 0 w.length))) n=.box (.agg (jj c l it dR (dm 3) dL (dm 1) (dm 2) dE nm)):=by
   rw[aa _ _ (nkk n _ x1.box),h2k n (by rw[x1.box];simp)];exact x1.box
  have m3:ah h2 kk (.arr 1 (els.set k (.ms q 0 w.length))) m=.box (jc (bh c k) k):=by
   rw[aa _ _ (nkk m _ hm),h2k m (by rw[hm];simp)];exact hm
  have nm3:ah h2 kk (.arr 1 (els.set k (.ms q 0 w.length))) nm=.map (.pair .i64) ents:=by
   rw[aa _ _ (by rintro rfl;have:=x1.map;rw[y.hk]at this;cases this),h2k nm (by rw[x1.map];simp)];exact x1.map
  generalize ah h2 kk (.arr 1 (els.set k (.ms q 0 w.length)))=h3 at y1 y2 n3 m3 nm3
  have u3:(h3 n).used=true:=by rw[n3];rfl
  have hmd3:aq PP (.ld (.c (.ptr m 0 0)) 2 true) h3=fun K=>K (jc (bh c k) k):=by
   funext K;rw[bL];exact db m3
  simp only[↓aE,u3,Nat.zero_add,Nat.reduceAdd,↓cj n3 (j:=20) rfl,hmd3,↓Sk nm3 pd (show(D.bool true).one=true from rfl),true_and]
  refine⟨by simp,_,_,f1.trans y2,y1,?_⟩
  rw[(zR pd pd ents x1.keys).1 rfl];simp
theorem Jc (x:dQ h ro n c l it dR dL dE dm nm ents st) (hc:bj c) (hw:qA c st) (hev:st.ev.length<=1000000){e:Ev}(hk:e.kind≠4->∃k:Nat,e.arr=(k:Int)/\k<c.arrays.length){KH:HK}
  (hK:∀h' ro',Fr ro h ro' h'->JQ h' ro' n c l it (st.tell c e)->KH (.tup []) h'):ag PP fM [.ptr n 0 0,e.e] h KH:=by
 refine aW wA (aA _ _ _) rfl (wo _ _ _) ?_
 (unfold pS;try dsimp only[xL,yL,xF,yF,xI,yI,xS,zI,zJ])
 rw[cJ]
 refine⟨e.bZ.one,fun m t=>?_⟩
 have x1:=x.new t.free (.box e.e)
 have f1:Fr ro h (ah ro m .no) (ah h m (.box e.e)):=Fr.new t.free _
 have hm:ah h m (.box e.e) m=.box (.agg e.cs):=ad _ _ _
 generalize ah h m (.box e.e)=h1 at x1 f1 hm
 generalize ah ro m .no=ro1 at x1 f1
 have um:(h1 m).used=true:=by rw[hm];rfl
 have eb:=x1.box
 have app:st.tell c e={ st with ev:=st.ev++[e] } ->
   aq PP (.ld (.c (.ptr n 0 19)) 1 false) h1 fun a54=>aq PP (.ld (.c (.ptr m 0 0)) 9 true) h1 fun a55 =>
   aq PP (.bldS false 9 1 (.agg [(.int .i64 0),(.int .i64 0),(.int .i64 0),(.int .i64 0),(.int .i64 0),(.int .i64 0),(.int .i64 0),(.int .i64 0),(.int .i32 0)]) [(0,(.c a55))]) h1 fun a56 =>
   ab PP (.app (.c a54) (.c a56) 9 72 (.agg [(.int .i64 0),(.int .i64 0),(.int .i64 0),(.int .i64 0),(.int .i64 0),(.int .i64 0),(.int .i64 0),(.int .i64 0),(.int .i32 0)])) h1 fun a59 h60 =>
   ab PP (.st (.c (.ptr n 0 19)) (.c a59) 1) h60 fun a61 h62=>KH (.tup []) h62:=by
  intro htell
  have hmd:aq PP (.ld (.c (.ptr m 0 0)) 9 true) h1=fun K=>K e.e:=by
   funext K;rw[bL];exact db hm
  simp only[↓cj eb (j:=19) rfl,hmd]
  refine Ok e.bZ.one rfl (by simp[Ev.e,Ev.cs]) (by simp) ?_
  have fin:∀(q:Nat) (h2:Heap),h1 q=.free->h2 q=.arr 9 ((st.ev++[e]).map Ev.e)->(∀k,h1 k≠.free->ro1 k≠.ev->h2 k=h1 k)->(∀k,h1 k≠.free->h2 k≠.free)->ab PP (.st (.c (.ptr n 0 19)) (.c (.ms q 0 (st.ev.length+1))) 1) h2 fun a61 h62=>KH (.tup []) h62:=by
   intro q h2 hq hq2 h2k h2f
   have n2:h2 n=.box (.agg (jj c l it dR (dm 3) dL (dm 1) (dm 2) dE nm)):=by rw[h2k n (by rw[eb];simp) (by rw[x1.rb];simp)];exact eb
   rw[dq,n2]
   refine⟨rfl,by simp,rfl,by simp,?_⟩
   have es:setCells (.agg (jj c l it dR (dm 3) dL (dm 1) (dm 2) dE nm)) 19 (D.ms q 0 (st.ev.length+1)).cells=.agg (jj c l it dR (dm 3) dL (dm 1) (dm 2) (.ms q 0 (st.ev.length+1)) nm):=rfl
   rw[es]
   have neq:∀k,h1 k≠.free->k≠q:=by rintro k hk rfl;exact hk hq
   have hnq:=neq n (by rw[eb];simp)
   obtain⟨H,hH⟩:∃H,H=ah h2 n (.box (.agg (jj c l it dR (dm 3) dL (dm 1) (dm 2) (.ms q 0 (st.ev.length+1)) nm))):=⟨_,rfl⟩
   rw[<- hH]
   have same:∀k,h1 k≠.free->ro1 k≠.ev->k≠n->H k=h1 k:=fun k a1 a2 a3=>by rw[hH,aa _ _ a3];exact h2k k a1 a2
   have rr:∀k,h1 k≠.free->ah ro1 q .ev k=ro1 k:=fun k hk=>aa _ _ (neq k hk)
   have kp:kF (fun r=>r≠.ev/\r≠.box) h1 ro1 H (ah ro1 q .ev):=fun k hk hr=>⟨same k hk hr.1 (by rintro rfl;exact hr.2 x1.rb),rr k hk⟩
   have hnm:nm≠n:=by rintro rfl;have:=x1.box;rw[x1.map]at this;cases this
   refine hK H (ah ro1 q .ev) (f1.trans fun k hk=>⟨rr k hk,?_,fun hr=>same k hk (by rw[hr];simp) (by rintro rfl;rw[x1.rb]at hr;cases hr)⟩) ⟨dR,dL,.ms q 0 (st.ev.length+1),dm,nm,ents,⟨by rw[hH,ad],by rw[rr n (by rw[eb];simp)];exact x1.rb,?_,?_,?_,x1.keys,x1.tru,?_⟩⟩
   ·by_cases ekn:k=n
    ·subst ekn;rw[hH,ad];simp
    ·rw[hH,aa _ _ ekn];exact h2f k hk
   ·rw[htell]
    refine⟨x1.sr.regs.dj kp (by simp),fun s s1 s2=>(x1.sr.mem s s1 s2).dj kp (by simp) (by simp),Or.inr ⟨q,by simp,by rw[hH,aa _ _ hnq.symm];exact hq2,ad _ _ _⟩,x1.sr.sl.dj kp (by simp)⟩
   ·rw[same nm (by rw[x1.map];simp) (by rw[x1.rm];simp) hnm];exact x1.map
   ·rw[rr nm (by rw[x1.map];simp)];exact x1.rm
   ·intro s i k els e' w s1 s2 hd hk he hw'
    rw[htell]at hd hw'
    obtain⟨k0,els0,g1,g2⟩:=x1.sr.mem s s1 s2
    rw[g1]at hd;simp only[D.ms.injEq,true_and,and_true]at hd;subst hd
    rw[(kp k0 (bU g2.hk) (by rw[g2.rk];simp)).1]at hk
    obtain⟨a1,a2⟩:=x1.own s i k0 els e' w s1 s2 g1 hk he hw'
    refine⟨a1,fun hh=>?_⟩
    obtain⟨q',c1,c2,c3⟩:=a2 hh
    obtain⟨d1,d2⟩:=kp q' (bU c2) (by rw[c3];simp)
    exact⟨q',c1,by rw[d1];exact c2,by rw[d2];exact c3⟩
  have l1:(0+1)*72<=140737488355328:=by omega
  rcases x1.sr.ev with⟨rfl,h0⟩|⟨q0,rfl,h2,h3⟩
  ·rw[h0]at fin
   refine⟨fun y hy=>by simp at hy;subst hy;rfl,fun y hy=>by simp at hy;subst hy;exact e.bZ.one,⟨by simp,by simp⟩,fun q t2=>?_⟩
   exact fin q _ t2.free (by rw[ad];rfl) (fun k hk _=>aa _ _ (t2.ne hk)) fun k hk=>by rw[aa _ _ (t2.ne hk)];exact hk
  ·refine⟨fun y hy=>by simp at hy;subst hy;rfl,fun y hy=>by simp at hy;subst hy;exact e.bZ.one,_,h2,rfl,by simp,⟨by simp;omega,by simp;omega⟩,fun q t2=>?_⟩
   refine fin q _ t2.free (by rw[ad];simp) (fun k hk hr=>?_) fun k hk=>?_
   ·rw[aa _ _ (t2.ne hk),aa _ _ (by rintro rfl;exact hr h3)]
   ·rw[aa _ _ (t2.ne hk)]
    by_cases e0:k=q0
    ·subst e0;rw[ad];simp
    ·rw[aa _ _ e0];exact hk
 have hld0:∀{K:D->Prop},aq PP (.ld (.c (.ptr m 0 0)) 1 false) h1 K=K (.int .i64 e.kind):=fun {K}=>cj hm rfl
 have hld6:∀{K:D->Prop},aq PP (.ld (.c (.ptr m 0 6)) 1 false) h1 K=K (.int .i64 e.arr):=fun {K}=>cj hm rfl
 simp only[↓aE,um,Nat.zero_add,Nat.reduceAdd,hld0,↓cq,true_and]
 by_cases h4:e.kind=4
 ·simp only[h4,decide_true,Bool.not_true,↓Ss,↓zw,↓m7,↓gP,↓ae,x1.used,↓aE,Nat.zero_add,Nat.reduceAdd,true_and]
  exact app (by simp[St.tell,h4])
 ·obtain⟨k,hk1,hk2⟩:=hk h4
  obtain⟨r,hr,ho⟩:=hc.at hk2
  have hat:∀{K:D->Prop},aq PP (.iadd (.c (.sl (c.arrays.map bO.e))) (.c (.int .i64 (k:Int))) 4) h1 K=K (.vp r.e 0):=fun {K}=>by rw[fh,Aw hr]
  have hsp:∀{K:D->Prop},aq PP (.ld (.c (.vp r.e 1)) 1 false) h1 K=K (.int .i64 r.space):=fun {K}=>by rw[bL,JH]
  simp only[h4,decide_false,Bool.not_false,↓EL,↓aE,x1.used,um,Nat.zero_add,Nat.reduceAdd,↓cj eb (j:=5) rfl,hld6,hk1,hat,↓He,hsp,↓aM,↓m7,↓dh,true_and]
  by_cases h3:r.space=3
  ·simp only[h3,decide_true,↓af]
   refine hK h1 ro1 f1 ?_
   have:st.tell c e=st:=by simp[St.tell,h4,hk1,iV hr,h3]
   rw[this]
   exact⟨_,_,_,_,_,_,x1⟩
  ·simp only[h3,decide_false,↓ae]
   refine app ?_
   have:r.space.toNat≠3:=by rcases ho.1 with h|h|h<;>rw[h]<;>first|omega|(exact absurd h h3)
   simp[St.tell,h4,hk1,iV hr,this]
end
end Go.Am
namespace Go.Am
open Go
theorem zr.ops {R:Int}{x:aN}(h:zr R x):wv R x.a/\wv R x.b/\wv R x.c:=by
 cases h with
 | mov d a h1 h2=>exact⟨h2.r,cN,cN⟩
 | un s d a h0 h1 h2=>exact⟨h2.r,cN,cN⟩
 | bin s d a b h0 h1 h2 h3=>exact⟨h2.r,h3.r,cN⟩
 | sel d a b c h1 h2 h3 h4=>exact⟨h2.r,h3.r,h4.r⟩
 | id s d h0 h1=>exact⟨cN,cN,cN⟩
 | param n d h0 h1=>exact⟨cN,cN,cN⟩
 | load n d a h0 h1 h2=>exact⟨h2.val.r,cN,cN⟩
 | store n a b h0 h1 h2=>exact⟨h1.val.r,h2.r,cN⟩
 | atom s n a b hs h0 h1 h2=>exact⟨h1.val.r,h2.r,cN⟩
 | fence s h0=>exact⟨cN,cN,cN⟩
theorem lP.ops {c:Code}{x:aN}(h:lP c x):wv c.regs x.a/\wv c.regs x.b/\wv c.regs x.c:=h.ok.ops
theorem Pm {P:Program}{h:Heap}{ro:Ro}{dR dE dS:D}{dm:Nat->D}{st:St}(x:JN h ro dR dE dS dm st){i:Nat}{v:Int}(hi:i<st.regs.length){KH:HK}
  (hK:∀q,ro q=.regs->JN (ah h q (.arr 1 (wr (st.regs.set i v)))) ro dR dE dS dm (st.ox i v)->KH .undef (ah h q (.arr 1 (wr (st.regs.set i v))))) :
  aq P (.iadd (.c dR) (.c (.int .i64 (i:Int))) 1) h fun a=>ab P (.st (.c a) (.c (.int .i32 v)) 1) h KH:=by
 rw[fh]
 obtain⟨q,rfl,h2,h3⟩:=x.regs
 have:=MQ (P:=P) x hi hK
 rw[bF]at this ⊢
 exact this
section
variable {h:Heap}{ro:Ro}{n:Nat}{c:Code}{l:dk}{it:It}{dR dL dE:D}{dm:Nat->D}{nm:Nat}{ents:List (D×D)}{st:St}
theorem dQ.UX (x:dQ h ro n c l it dR dL dE dm nm ents st){h':Heap}{ro':Ro}{st':St}(kp:kF (fun r=>r≠.no/\r≠.regs) h ro h' ro') (sr':JN h' ro' dR dE dL dm st') (hm:st'.mem=st.mem):dQ h' ro' n c l it dR dL dE dm nm ents st':=by
 obtain⟨n1,n2⟩:=kp n (by rw[x.box];simp) (by rw[x.rb];simp)
 obtain⟨m1,m2⟩:=kp nm (by rw[x.map];simp) (by rw[x.rm];simp)
 refine⟨by rw[n1];exact x.box,by rw[n2];exact x.rb,sr',by rw[m1];exact x.map,by rw[m2];exact x.rm,x.keys,x.tru,fun s i k els e w s1 s2 hd hk he hw=>?_⟩
 rw[hm]at hd hw
 obtain⟨k0,els0,g1,g2⟩:=x.sr.mem s s1 s2
 rw[g1]at hd;simp only[D.ms.injEq,true_and,and_true]at hd;subst hd
 rw[(kp k0 (bU g2.hk) (by rw[g2.rk];simp)).1]at hk
 obtain⟨a1,a2⟩:=x.own s i k0 els e w s1 s2 g1 hk he hw
 refine⟨a1,fun hh=>?_⟩
 obtain⟨q',c1,c2,c3⟩:=a2 hh
 obtain⟨d1,d2⟩:=kp q' (bU c2) (by rw[c3];simp)
 exact⟨q',c1,by rw[d1];exact c2,by rw[d2];exact c3⟩
theorem dQ.ext (x:dQ h ro n c l it dR dL dE dm nm ents st){h':Heap}(e:Ext h h'):dQ h' ro n c l it dR dL dE dm nm ents st :=
 x.UX (fun k hk _=>⟨e k hk,rfl⟩) (x.sr.aD (cv.ext e)) rfl
theorem dQ.J8 (x:dQ h ro n c l it dR dL dE dm nm ents st){i:Nat}{v:Int}(hi:i<st.regs.length){KH:HK}
  (hK:∀h',Fr ro h ro h'->dQ h' ro n c l it dR dL dE dm nm ents (st.ox i v)->KH .undef h'):aq PP (.iadd (.c dR) (.c (.int .i64 (i:Int))) 1) h fun a=>ab PP (.st (.c a) (.c (.int .i32 v)) 1) h KH:=by
 refine Pm x.sr hi fun q hq y=>hK _ (Fr.av (by rw[hq];simp) (by simp)) (x.UX (fun k hk hr=>?_) y rfl)
 rw[aa _ _ (by rintro rfl;exact hr.2 hq)];exact⟨rfl,rfl⟩
theorem dQ.dF (x:dQ h ro n c l it dR dL dE dm nm ents st):[D.int .i64 it.id,.int .i64 it.at_,.int .i64 it.block,.int .i64 it.epoch,dm 3,dL].all D.one=true:=by
 simp[(x.sr.mem 3 (by omega) (by omega)).one,x.sr.sl.one]
def rE (it:It) (dR dP dL:D):D:=.agg [.int .i64 it.id,.int .i64 it.at_,.int .i64 it.block,.int .i64 it.epoch,dR,dP,dL]
theorem dQ.PX (x:dQ h ro n c l it dR dL dE dm nm ents st){K:D->Prop}:aq PP (.ld (.c (.ptr n 0 10)) 7 true) h K=K (rE it dR (dm 3) dL):=by
 rw[bL,rD x.box (by simp[jj])];rfl
theorem Ke (x:dQ h ro n c l it dR dL dE dm nm ents st){o:dX}(ho:wv st.regs.length o){KH:HK}(hK:∀h',Ext h h'->dQ h' ro n c l it dR dL dE dm nm ents st->KH (.int .i32 (aX st.regs o)) h') :
  ag PP cR [rE it dR (dm 3) dL,o.e] h KH:=Kg x.dF x.sr.regs.row ho fun h' e=>hK h' e (x.ext e)
theorem RO (x:dQ h ro n c l it dR dL dE dm nm ents st) (hc:bj c) (hl:js c l) (hid:0<=it.id/\it.id<l.groups*c.group) (hw:qA c st){xi:aN}(hx:lP c xi) (hop:xi.op<=6){KH:HK}
  (hK:∀h',Ext h h'->KH (.int .i32 (gr c l it.id xi st.regs)) h'):ag PP jX [.ptr n 0 0,xi.e,.int .i32 (aX st.regs xi.a),.int .i32 (aX st.regs xi.b)] h KH:=by
 refine aW wB (aA _ _ _) rfl (wq _ _ _ _ _) ?_
 (unfold pT;try dsimp only[xL,yL,xF,yF,xI,yI,xS,zI,zJ])
 rw[cJ]
 refine⟨xi.bZ.one,fun m t=>?_⟩
 have x1:=x.new t.free (.box xi.e)
 have f1:Ext h (ah h m (.box xi.e)):=Ext.new t _
 have hm:ah h m (.box xi.e) m=.box (.agg xi.cs):=ad _ _ _
 generalize ah h m (.box xi.e)=h1 at x1 f1 hm
 generalize ah ro m .no=ro1 at x1
 have um:(h1 m).used=true:=by rw[hm];rfl
 have eb:=x1.box
 refine⟨fun qs h'=>qs=[.int .i32 (gr c l it.id xi st.regs)]/\Ext h h',?_,?_⟩
 ·rintro f h' ⟨hf,e⟩
  simp only[List.cons.injEq,and_true]at hf
  rw[hf];exact hK h' e
 have va:=fun {o:dX}(ho:iW c.regs o)=>jx hw.regs ho
 have hmd:∀{K:D->Prop}{j:Nat},j+3<=15->aq PP (.ld (.c (.ptr m 0 j)) 3 true) h1 K=K (.agg ((xi.cs.drop j).take 3)):=fun {K j} hj=>by rw[bL,rD hm (by simp[aN.cs];omega)]
 have hmi:∀{K:D->Prop}{j:Nat}{d:D},xi.cs[j]?=some d->aq PP (.ld (.c (.ptr m 0 j)) 1 false) h1 K=K d:=fun {K j d} hj=>cj hm hj
 simp only[↓ba um,Nat.zero_add,↓eR hm (j:=0) rfl,↓eR hm (j:=1) rfl,↓aM,true_and]
 obtain⟨hx,-,hxp⟩:=hx
 cases hx with
 | mov d a h1' h2 =>
  simp only[Int.reduceEq,decide_false,↓ae]
  exact⟨by simp,by simp[gr],f1⟩
 | un s d a h0 h1' h2 =>
  simp only[decide_true,↓af]
  refine bE (UB h0) (dF rfl) ?_
  rintro _ rfl
  simp only[↓NZ,↓NY]
  exact⟨by simp,by simp[gr],f1⟩
 | bin s d a b h0 h1' h2 h3 =>
  simp only[Int.reduceEq,decide_false,↓ae,decide_true,↓af]
  refine bE (QN h0 (va h2) (va h3)) (dF rfl) ?_
  rintro _ rfl
  simp only[↓NZ,↓NY]
  exact⟨by simp,by simp[gr],f1⟩
 | sel d a b cc h1' h2 h3 h4 =>
  simp only[Int.reduceEq,decide_false,↓ae,decide_true,↓af]
  refine⟨fun qs h'=>qs=[.int .i32 (gr c l it.id ⟨4,0,0,d,a,b,cc⟩ st.regs)]/\Ext h h',?_,?_⟩
  ·rintro f h' ⟨hf,e⟩
   simp only[List.cons.injEq,and_true]at hf
   rw[hf];exact⟨by simp,rfl,e⟩
  by_cases hz:aX st.regs a=0
  ·simp only[hz,decide_true,↓af,↓aE,x1.used,um,Nat.zero_add,Nat.reduceAdd,x1.PX,↓hmd (j:=12) (by omega),true_and]
   refine Ke x1 (o:=cc) (by rw[hw.len];exact h4.r) fun h' e _=>?_
   exact⟨by simp,by simp[gr,hz],f1.trans e⟩
  ·simp only[hz,decide_false,↓ae]
   exact⟨by simp,by simp[gr,hz],f1⟩
 | id s d h0 h1' =>
  simp only[Int.reduceEq,decide_false,↓ae,decide_true,↓af]
  have e8:∀{K:D->Prop},aq PP (.ld (.c (.ptr n 0 0)) 8 true) h1 K=K c.e:=fun {K}=>by rw[bL,rD eb (by simp[jj])];rfl
  have e2:∀{K:D->Prop},aq PP (.ld (.c (.ptr n 0 8)) 2 true) h1 K=K l.e:=fun {K}=>by rw[bL,rD eb (by simp[jj])];rfl
  simp only[↓aE,x1.used,um,Nat.zero_add,Nat.reduceAdd,e8,e2,↓cj eb (j:=10) rfl,↓hmi (j:=1) rfl,true_and]
  refine pk (UD (hc.l1 hl hid) h0) ?_ ?_
  ·intro z hz
   simp[Arg.get]at hz
   rcases hz with rfl|rfl|rfl|rfl
   ·exact jG c
   ·exact⟨rfl,List.all_eq_true.1 (dk.on l)⟩
   ·exact jY
   ·exact jY
  ·simp only[↓Of,↓Oe]
   exact⟨by simp,by simp[gr],f1⟩
 | param k d h0 h1' =>
  simp only[Int.reduceEq,decide_false,↓ae,decide_true,↓af]
  simp only[↓aE,x1.used,um,Nat.zero_add,Nat.reduceAdd,↓cj eb (j:=9) rfl,↓hmi (j:=2) rfl,true_and]
  have hla:=hl.a
  have hxp:=hxp rfl
  simp only at hxp
  obtain⟨i,rfl⟩:∃i:Nat,k=(i:Int):=⟨k.toNat,by omega⟩
  have hi:l.args[i]?=some (l.args.getD i 0):=by rw[List.getD_eq_getElem?_getD,List.getElem?_eq_getElem (by omega)];rfl
  rw[fh]
  simp only[words,↓im,List.length_map]
  refine⟨by omega,by omega,fun z hz=>?_⟩
  have:z=.int .i32 (l.args.getD i 0):=by
   rw[List.getElem?_map,Int.toNat_natCast,hi]at hz
   simpa using hz.symm
  subst this
  refine⟨rfl,?_⟩
  simp only[↓bL,↓gY,↓bk,nD,List.getElem?_cons_zero]
  refine⟨by simp,by simp[gr],f1⟩
 | load _ _ _ _ _ _=>simp at hop
 | store _ _ _ _ _ _=>simp at hop
 | atom _ _ _ _ _ _ _ _=>simp at hop
 | fence _ _=>simp at hop
end
end Go.Am
namespace Go.Am
open Go
theorem zr.ox {R:Int}{x:aN}(h:zr R x) (ho:x.op<=7):kU R x.d:=by
 cases h<;>first|assumption|simp at ho
theorem zr.Tx {R:Int}{x:aN}(h:zr R x):x.op<=6\/x.op=7\/x.op=8\/x.op=9\/x.op=10:=by cases h<;>simp
theorem zr.IG {R:Int}{x:aN}(h:zr R x) (h9:x.op=9):10<=x.sub/\x.sub<=29:=by
 cases h with
 | atom s n a b hs h0 h1 h2=>rcases hs with rfl|rfl|rfl|rfl|rfl|rfl<;>simp
 | _=>simp at h9
theorem bP {p:Prop}[Decidable p] {a b:Int}(ha:gM a) (hb:gM b):gM (if p then a else b):=by split<;>assumption
theorem Hl {s a b:Int}(_hs:10<=s/\s<=29) (ha:gM a) (hb:gM b):gM (jZ s a b):=by
 have hp:1<=(2:Int) ^ (min (b % 32).toNat 32):=by
  have:0<(2:Int) ^ (min (b % 32).toNat 32):=Int.pow_pos (by omega)
  omega
 have z:gM 0:=⟨by omega,by omega⟩
 have o:gM 1:=⟨by omega,by omega⟩
 exact bP (dn _)<|bP (dn _)<|bP (dn _)<|bP (bP z (dn _))<|bP (bP ha (wO ha))<|bP (dn _)<|bP (bP z (dn _)) <|
  bP (dn _)<|bP (dn _)<|bP (dn _)<|bP (dn _)<|bP (DB ha hp)<|bP (bP hb ha)<|bP (bP hb ha) (bP o z)
theorem lP.ox {c:Code}{x:aN}(h:lP c x) (ho:x.op<=7):kU c.regs x.d:=h.ok.ox ho
theorem lP.Tx {c:Code}{x:aN}(h:lP c x):x.op<=6\/x.op=7\/x.op=8\/x.op=9\/x.op=10:=h.ok.Tx
theorem lP.IG {c:Code}{x:aN}(h:lP c x) (h9:x.op=9):10<=x.sub/\x.sub<=29:=h.ok.IG h9
theorem lP.acc {c:Code}{x:aN}(h:lP c x) (ho:x.op=7\/x.op=8\/x.op=9):∃k:Nat,x.n=(k:Int)/\k<c.arrays.length/\iW c.regs x.a/\(x.op≠7->iW c.regs x.b):=by
 obtain⟨k,k1,k2⟩:=h.n ho
 refine⟨k,k1,k2,?_⟩
 obtain⟨hx,-,-⟩:=h
 cases hx with
 | load k d a h0 h1 h2=>exact⟨h2.val,fun h=>absurd rfl h⟩
 | store k a b h0 h1 h2=>exact⟨h1.val,fun _=>h2⟩
 | atom s k a b hs h0 h1 h2=>exact⟨h1.val,fun _=>h2⟩
 | _=>simp at ho
theorem OW {P:Program}{h:Heap}{n j:Nat}{cs:List D}{d:D}(a:h n=.box (.agg cs)) (hj:cs[j]?=some d){K:D->Prop}:aq P (.ld (.c (.ptr n 0 j)) 1 false) h K=K d:=cj a hj
theorem U6 {P:Program}{h:Heap}{n j:Nat}{e e':Ev}{d:D}(a:h n=.box e.e) (hd:d.one=true) (hs:setCells e.e j d.cells=e'.e) (hj:j+1<=9) (hc:d.cells=[d]){K:HK}(hK:K .undef (ah h n (.box e'.e))) :
  ab P (.st (.c (.ptr n 0 j)) (.c d) 1) h K:=by
 rw[dq,a]
 refine⟨by rw[hc];rfl,fun x hx=>?_,rfl,?_,by rw[hs];exact hK⟩
 ·rw[hc]at hx;simp at hx;subst hx;exact hd
 ·simpa[Ev.e,Ev.cs] using hj
theorem nk {α:Type}{f:Nat->α}{n:Nat}{a b:α}:ah (ah f n a) n b=ah f n b:=hU f n a b
theorem Fr.I0 {ro ro':Ro}{h g:Heap}{p:Nat}{s:Slot}(f:Fr ro h ro' g) (hp:h p=.free):Fr ro h ro' (ah g p s):=fun k hk=>by
 have:k≠p:=by rintro rfl;exact hk hp
 rw[aa _ _ this];exact f k hk
theorem Nb {ar:List bO}{s:Nat}{m:Mm}(h:fY ar s m){n i:Nat}{v:Int}(hv:gM v):fY ar s (FT m n i v):=by
 refine⟨by simp[FT,h.len],fun j a w ha hw=>?_⟩
 unfold FT at hw
 by_cases e:n=j
 ·subst e
  have hlt:=(List.getElem?_eq_some_iff.1 hw).1
  simp only[List.length_set]at hlt
  rw[List.getElem?_set_self hlt]at hw;cases hw
  rw[List.getD_eq_getElem?_getD,List.getElem?_eq_getElem hlt,Option.getD_some]
  obtain⟨p1,p2⟩:=h.w n a _ ha (List.getElem?_eq_getElem hlt)
  exact⟨by simp[p1],Dz p2 hv⟩
 ·rw[List.getElem?_set_ne e]at hw
  exact h.w j a w ha hw
theorem qA.put {c:Code}{st:St}(h:qA c st){s k i:Nat}{v:Int}(hv:gM v):qA c (st.put s k i v):=by
 refine⟨h.len,h.regs,fun s' s1 s2=>?_⟩
 simp only[St.put]
 by_cases e:s'=s
 ·subst e;rw[ad];exact Nb (h.mem s' s1 s2) hv
 ·rw[aa _ _ e];exact h.mem s' s1 s2
theorem Bl {P:Program}{h:Heap}{m p:Nat}{xs:List D}{e e':Ev}{j g:Nat}{z d:D}(hm:h m=.box (.agg xs)) (hp:h p=.box e.e) (hmp:m≠p) (hd:d.one=true) (hc:d.cells=[d]) (hj:j+1<=9) (hs:setCells e.e j d.cells=e'.e) (hg:xs[g]?=some z)
  {K:Heap->Prop}(hK:K (ah h p (.box e'.e))) :
  ab P (.st (.c (.ptr p 0 j)) (.c d) 1) h fun _ h1=>((aq P (.ld (.c (.ptr m 0 g)) 1 false) h1 fun a=>aG [a] [z])/\True)/\K h1:=by
 refine U6 hp hd hs hj hc ?_
 have hm':ah h p (.box e'.e) m=.box (.agg xs):=by rw[aa _ _ hmp];exact hm
 refine⟨⟨?_,trivial⟩,hK⟩
 rw[OW hm' hg];simp
theorem Gq {P:Program}{h:Heap}{m p:Nat}{xi:aN}{e:Ev}(hm:h m=.box (.agg xi.cs)) (hp:h p=.box e.e) (hmp:m≠p){kd a w:Int}{K:Heap->Prop}(hK:K (ah h p (.box ({ e with kind:=kd,arr:=xi.n,i:=a,v:=w }:Ev).e))) :
  ab P (.st (.c (.ptr p 0 0)) (.c (.int .i64 kd)) 1) h fun _ h1=>((aq P (.ld (.c (.ptr m 0 2)) 1 false) h1 fun a=>aG [a] [.int .i64 xi.n])/\True) /\
  ab P (.st (.c (.ptr p 0 6)) (.c (.int .i64 xi.n)) 1) h1 fun _ h1=>((aq P (.ld (.c (.ptr m 0 2)) 1 false) h1 fun a=>aG [a] [.int .i64 xi.n])/\True) /\
  ab P (.st (.c (.ptr p 0 7)) (.c (.int .i64 a)) 1) h1 fun _ h1=>((aq P (.ld (.c (.ptr m 0 2)) 1 false) h1 fun a=>aG [a] [.int .i64 xi.n])/\True) /\
  ab P (.st (.c (.ptr p 0 8)) (.c (.int .i32 w)) 1) h1 fun _ h1=>((aq P (.ld (.c (.ptr m 0 2)) 1 false) h1 fun a=>aG [a] [.int .i64 xi.n])/\True)/\K h1:=by
 have hm1:∀{s:Slot}{g:Heap},g m=.box (.agg xi.cs)->ah g p s m=.box (.agg xi.cs):=fun {s g} hg=>by rw[aa _ _ hmp];exact hg
 refine Bl (e':={ e with kind:=kd }) hm hp hmp rfl rfl (by omega) rfl rfl ?_
 refine Bl (e':={ e with kind:=kd,arr:=xi.n }) (hm1 hm) (ad _ _ _) hmp rfl rfl (by omega) rfl rfl ?_
 refine Bl (e':={ e with kind:=kd,arr:=xi.n,i:=a }) (hm1 (hm1 hm)) (ad _ _ _) hmp rfl rfl (by omega) rfl rfl ?_
 refine Bl (e':={ e with kind:=kd,arr:=xi.n,i:=a,v:=w }) (hm1 (hm1 (hm1 hm))) (ad _ _ _) hmp rfl rfl (by omega) rfl rfl ?_
 rw[nk,nk,nk]
 exact hK
section
variable {h:Heap}{ro:Ro}{n:Nat}{c:Code}{l:dk}{it:It}{dR dL dE:D}{dm:Nat->D}{nm:Nat}{ents:List (D×D)}{st:St}
theorem dQ.av (x:dQ h ro n c l it dR dL dE dm nm ents st){m:Nat}(hm:ro m=.no) (s:Slot):dQ (ah h m s) ro n c l it dR dL dE dm nm ents st :=
 x.UX (fun k _ hr=>⟨aa _ _ (by rintro rfl;exact hr.1 hm),rfl⟩) (x.sr.aD (cv.av (by rw[hm];rfl))) rfl
theorem UA (x:JQ h ro n c l it st) (hc:bj c) (hl:js c l) (hid:0<=it.id/\it.id<l.groups*c.group) (hw:qA c st) (hev:st.ev.length<=900000){xi:aN}(hx:lP c xi){e:Ev}{KH:HK}{KP:Heap->Prop}
  (hK:∀st' h' ro',cH c l it.id xi e st=some st'->Fr ro h ro' h'->JQ h' ro' n c l it st'->KH (.tup []) h') (hP:∀h' ro',cH c l it.id xi e st=none->Fr ro h ro' h'->KP h') :
  km PP jv [.ptr n 0 0,xi.e,e.e] h KH KP:=by
 refine IS A8 (aA _ _ _) rfl (AP _ _ _ _) ?_
 (unfold uC;try dsimp only[xL,yL,xF,yF,xI,yI,xS,zI,zJ])
 obtain⟨dR,dL,dE,dm,nm,ents,x⟩:=x
 rw[cJ]
 refine⟨xi.bZ.one,fun m t=>?_⟩
 have x1:=x.new t.free (.box xi.e)
 have f1:Fr ro h (ah ro m .no) (ah h m (.box xi.e)):=Fr.new t.free _
 have hm:ah h m (.box xi.e) m=.box (.agg xi.cs):=ad _ _ _
 have rm:ah ro m .no m=.no:=ad _ _ _
 generalize hh1:ah h m (.box xi.e)=h1 at x1 f1 hm
 replace hh1:=hh1.symm
 generalize ah ro m .no=ro1 at x1 f1 rm
 rw[cJ]
 refine⟨e.bZ.one,fun p t2=>?_⟩
 have hmp:m≠p:=t2.ne (by rw[hm];simp)
 have x2:=x1.new t2.free (.box e.e)
 have f2:Fr ro h (ah ro1 p .no) (ah h1 p (.box e.e)):=f1.trans (Fr.new t2.free _)
 have hm2:ah h1 p (.box e.e) m=.box (.agg xi.cs):=by rw[aa _ _ hmp];exact hm
 have hp2:ah h1 p (.box e.e) p=.box e.e:=ad _ _ _
 have rm2:ah ro1 p .no m=.no:=by rw[aa _ _ hmp];exact rm
 have rp2:ah ro1 p .no p=.no:=ad _ _ _
 generalize ah h1 p (.box e.e)=h2 at x2 f2 hm2 hp2
 generalize ah ro1 p .no=ro2 at x2 f2 rm2 rp2
 have hpf:h p=.free:=by have:=t2.free;rw[hh1,aa _ _ hmp.symm]at this;exact this
 clear x1 f1 hm rm x t t2 hh1
 have um:(h2 m).used=true:=by rw[hm2];rfl
 have hmd:∀{h':Heap}{K:D->Prop}{j:Nat},h' m=.box (.agg xi.cs)->j+3<=15->aq PP (.ld (.c (.ptr m 0 j)) 3 true) h' K=K (.agg ((xi.cs.drop j).take 3)):=fun {h' K j} hm hj=>by rw[bL,rD hm (by simp[aN.cs];omega)]
 obtain⟨oa,ob,oc⟩:=hx.ops
 simp only[↓aE,x2.used,um,Nat.zero_add,Nat.reduceAdd,x2.PX,↓hmd hm2 (j:=6) (by omega),↓hmd hm2 (j:=9) (by omega),true_and]
 refine Ke x2 (o:=xi.a) (by rw[hw.len];exact oa) fun h3 e3 x3=>?_
 have hm3:h3 m=.box (.agg xi.cs):=by rw[e3 m (by rw[hm2];simp)];exact hm2
 have um3:(h3 m).used=true:=by rw[hm3];rfl
 simp only[↓aE,x3.used,um3,Nat.zero_add,Nat.reduceAdd,x3.PX,↓hmd hm3 (j:=9) (by omega),ai,true_and]
 refine Ke x3 (o:=xi.b) (by rw[hw.len];exact ob) fun h4 e4 x4=>?_
 have hm4:h4 m=.box (.agg xi.cs):=by rw[e4 m (by rw[hm3];simp)];exact hm3
 have hp4:h4 p=.box e.e:=by rw[e4 p (by rw[e3 p (by rw[hp2];simp),hp2];simp),e3 p (by rw[hp2];simp)];exact hp2
 have f4:Fr ro h ro2 h4:=f2.trans ((Fr.ext e3).trans (Fr.ext e4))
 have um4:(h4 m).used=true:=by rw[hm4];rfl
 have up4:(h4 p).used=true:=by rw[hp4];rfl
 clear um3 um x3 x2 hm2 hp2 hm3 e3 e4 f2
 refine⟨fun qs h'=>∃(v:Int) (ro':Ro) (st':St),qs=[.int .i32 v]/\Fr ro h ro' h'/\h' m=.box (.agg xi.cs)/\JQ h' ro' n c l it st'/\xi.op<=7/\st'.regs=st.regs/\cH c l it.id xi e st=some (st'.ox xi.d.n.toNat v),?_,?_⟩
 ·rintro f h' ⟨v,ro',st',hf,f5,hm5,⟨dR',dL',dE',dm',nm',ents',x5⟩,hop,hrg,hst⟩
  simp only[List.cons.injEq,and_true]at hf
  have um5:(h' m).used=true:=by rw[hm5];rfl
  obtain⟨r,r0,r1,hd⟩:=hx.ox hop
  obtain⟨i,rfl⟩:∃i:Nat,r=(i:Int):=⟨r.toNat,by omega⟩
  have hdn:xi.cs[4]?=some (.int .i64 (i:Int)):=by simp[aN.cs,hd,fX]
  simp only[↓aE,x5.used,um5,Nat.zero_add,Nat.reduceAdd,↓cj x5.box (j:=14) rfl,↓OW hm5 hdn,hf,true_and]
  refine x5.J8 (by rw[hrg];have:=hw.len;omega) fun h6 f6 x6=>?_
  have e6:xi.d.n.toNat=i:=by rw[hd];rfl
  rw[e6]at hst
  exact hK _ h6 ro' hst (f5.trans f6) ⟨_,_,_,_,_,_,x6⟩
 have va:=fun {o:dX}(ho:iW c.regs o)=>jx hw.regs ho
 simp only[↓ba um4,Nat.zero_add,↓eR hm4 (j:=0) rfl,↓aM,true_and]
 have pureCase:xi.op<=6->cH c l it.id xi e st=some (st.ox xi.d.n.toNat (gr c l it.id xi st.regs)):=by
  intro ho
  unfold cH
  rw[if_neg (by omega),if_neg (by omega),if_neg (by omega),if_neg (by omega)]
 have ldE:∀{g:Heap}{e':Ev}{K:HK},g p=.box e'.e->ab PP (.ld (.c (.ptr p 0 0)) 9 true) g K=K e'.e g:=fun {g e' K} hg=>by rw[rD (cs:=e'.cs) hg (by simp[Ev.cs])];rfl
 by_cases h7:xi.op=7
 ·obtain⟨k,k1,k2,k3,-⟩:=hx.acc (Or.inl h7)
  have ha:=va k3
  have wa:IntKind.i64.wrap (aX st.regs xi.a)=aX st.regs xi.a:=vq ha
  have iS:cH c l it.id xi e st=if 0<=aX st.regs xi.a/\aX st.regs xi.a<ir c k then some ((st.tell c (Od e xi (aX st.regs xi.a) (st.word (bh c k) k (aX st.regs xi.a).toNat))).ox xi.d.n.toNat (st.word (bh c k) k (aX st.regs xi.a).toNat)) else none:=by
   unfold cH
   rw[if_pos h7,k1];rfl
  simp only[h7,decide_true,↓af,↓ba um4,Nat.zero_add,↓eR hm4 (j:=2) rfl,true_and]
  rw[k1]
  refine Jb x4 hc hw k2 ha (fun hin=>?_) (fun hout=>hP h4 ro2 (by rw[iS,if_neg hout]) f4)
  simp only[↓aE,um4,up4,Nat.zero_add,↓OW hm4 (j:=2) rfl,↓pj,↓cu,wa,true_and]
  refine Gq hm4 hp4 hmp ?_
  rw[ldE (ad _ _ _)]
  have x5:=x4.av rp2 (.box (Od e xi (aX st.regs xi.a) (st.word (bh c k) k (aX st.regs xi.a).toNat)).e)
  refine Jc x5 hc hw (by omega) (e:=Od e xi (aX st.regs xi.a) (st.word (bh c k) k (aX st.regs xi.a).toNat)) (fun _=>⟨k,k1,k2⟩) fun h6 ro6 f6 x6=>?_
  refine⟨_,ro6,st.tell c _,rfl,(f4.I0 hpf).trans f6,?_,x6,by omega,rfl,by rw[iS,if_pos hin]⟩
  rw[(f6 m (by rw[aa _ _ hmp,hm4];simp)).2.2 rm2,aa _ _ hmp];exact hm4
 simp only[h7,decide_false,↓ae]
 refine⟨fun qs h'=>qs=[.bool (decide (xi.op=8\/xi.op=9))]/\h'=h4,?_,?_⟩
 ·rintro f h' ⟨hf,rfl⟩
  simp only[List.cons.injEq,and_true]at hf
  rw[hf]
  by_cases h89:xi.op=8\/xi.op=9
  ·obtain⟨k,k1,k2,k3,k4⟩:=hx.acc (by omega)
   have k4:=k4 h7
   have ha:=va k3
   have hb:=va k4
   have wa:IntKind.i64.wrap (aX st.regs xi.a)=aX st.regs xi.a:=vq ha
   simp only[h89,decide_true,↓af,↓ba um4,Nat.zero_add,↓eR hm4 (j:=2) rfl,true_and]
   rw[k1]
   have iN:¬(0<=aX st.regs xi.a/\aX st.regs xi.a<ir c k)->cH c l it.id xi e st=none:=by
    intro hout
    unfold cH
    rw[if_neg h7]
    rcases h89 with h8|h9
    ·rw[if_pos h8,k1];exact if_neg hout
    ·rw[if_neg (by omega),if_pos h9,k1];exact if_neg hout
   refine Jb x4 hc hw k2 ha (fun hin=>?_) (fun hout=>hP h' ro2 (iN hout) f4)
   simp only[↓aE,um4,up4,Nat.zero_add,↓OW hm4 (j:=2) rfl,↓pj,↓cu,wa,true_and]
   refine Gq hm4 hp4 hmp ?_
   have x5:=x4.av rp2 (.box (At e xi (aX st.regs xi.a) (aX st.regs xi.b)).e)
   have f5:Fr ro h ro2 (ah h' p (.box (At e xi (aX st.regs xi.a) (aX st.regs xi.b)).e)):=f4.I0 hpf
   have hm5:ah h' p (.box (At e xi (aX st.regs xi.a) (aX st.regs xi.b)).e) m=.box (.agg xi.cs):=by rw[aa _ _ hmp];exact hm4
   have hp5:ah h' p (.box (At e xi (aX st.regs xi.a) (aX st.regs xi.b)).e) p=.box (At e xi (aX st.regs xi.a) (aX st.regs xi.b)).e:=ad _ _ _
   have e0:({ e with kind:=2,arr:=xi.n,i:=aX st.regs xi.a,v:=aX st.regs xi.b }:Ev)=At e xi (aX st.regs xi.a) (aX st.regs xi.b):=rfl
   rw[e0]
   generalize ah h' p (.box (At e xi (aX st.regs xi.a) (aX st.regs xi.b)).e)=h5 at x5 f5 hm5 hp5
   obtain⟨i,hi⟩:∃i:Nat,aX st.regs xi.a=(i:Int):=⟨(aX st.regs xi.a).toNat,by omega⟩
   have um5:(h5 m).used=true:=by rw[hm5];rfl
   have up5:(h5 p).used=true:=by rw[hp5];rfl
   refine⟨fun qs g=>∃(v:Int) (e':Ev),gM v/\qs=[.int .i32 v]/\g p=.box e'.e/\g m=.box (.agg xi.cs)/\dQ g ro2 n c l it dR dL dE dm nm ents st/\Fr ro h ro2 g/\e'.arr=xi.n/\cH c l it.id xi e st=some ((st.put (bh c k) k i v).tell c e'),?_,?_⟩
   ·rintro f g ⟨v,e',hv,hf,g1,g2,x6,f6,g3,g4⟩
    simp only[List.cons.injEq,and_true]at hf
    have um6:(g m).used=true:=by rw[g2];rfl
    simp only[↓ba um6,Nat.zero_add,↓eR g2 (j:=2) rfl]
    rw[hf,k1,hi]
    refine Pu x6 hc hw k2 (by rw[<- hi];exact hin.2) fun g7 ro7 f7 x7=>?_
    obtain⟨dR7,dL7,dE7,dm7,nm7,ents7,x7⟩:=x7
    have g8:g7 p=.box e'.e:=by rw[(f7 p (by rw[g1];simp)).2.2 rp2];exact g1
    rw[ldE g8]
    refine Jc x7 hc ?_ (by simp only[St.put];omega) (fun _=>⟨k,by rw[g3,k1],k2⟩) fun g9 ro9 f9 x9=>?_
    ·exact hw.put hv
    ·exact hK _ g9 ro9 g4 (f6.trans (f7.trans f9)) x9
   simp only[↓ba um5,Nat.zero_add,↓eR hm5 (j:=0) rfl,↓aM,true_and]
   by_cases h9:xi.op=9
   ·have hs9:=hx.IG h9
    simp only[h9,decide_true,↓af,↓aE,um5,up5,Nat.zero_add,↓OW hm5 (j:=1) rfl,true_and]
    refine Bl (e':={ (At e xi (aX st.regs xi.a) (aX st.regs xi.b)) with kind:=3 }) hm5 hp5 hmp rfl rfl (by omega) rfl rfl ?_
    refine Bl (e':=LD e xi (aX st.regs xi.a) (aX st.regs xi.b)) (by rw[aa _ _ hmp];exact hm5) (ad _ _ _) hmp rfl rfl (by omega) rfl rfl ?_
    rw[nk]
    have x6:=x5.av rp2 (.box (LD e xi (aX st.regs xi.a) (aX st.regs xi.b)).e)
    have f6:Fr ro h ro2 (ah h5 p (.box (LD e xi (aX st.regs xi.a) (aX st.regs xi.b)).e)):=f5.I0 hpf
    have hm6:ah h5 p (.box (LD e xi (aX st.regs xi.a) (aX st.regs xi.b)).e) m=.box (.agg xi.cs):=by rw[aa _ _ hmp];exact hm5
    have hp6:ah h5 p (.box (LD e xi (aX st.regs xi.a) (aX st.regs xi.b)).e) p=.box (LD e xi (aX st.regs xi.a) (aX st.regs xi.b)).e:=ad _ _ _
    generalize ah h5 p (.box (LD e xi (aX st.regs xi.a) (aX st.regs xi.b)).e)=h6 at x6 f6 hm6 hp6
    have um6:(h6 m).used=true:=by rw[hm6];rfl
    simp only[↓aE,um6,Nat.zero_add,↓OW hm6 (j:=1) rfl,↓OW hm6 (j:=2) rfl,true_and]
    rw[k1]
    refine(Jb x6 hc hw k2 ha (fun _=>?_) (fun hout=>hout hin)).call
    simp only[↓aE,um6,Nat.zero_add,↓OW hm6 (j:=1) rfl,ai,true_and]
    refine pk (QN hs9 (St.qG hw (fQ hc k2) hc _) hb) (dF rfl) ?_
    simp only[↓Of,↓Oe]
    refine⟨_,_,Hl hs9 (St.qG hw (fQ hc k2) hc _) hb,rfl,hp6,hm6,x6,f6,k1,?_⟩
    unfold cH
    rw[if_neg h7,if_neg (by omega),if_pos h9,k1,Int.toNat_natCast,if_pos hin,hi]
    rfl
   ·have h8:xi.op=8:=by omega
    simp only[h9,decide_false,↓ae]
    refine⟨_,_,hb,rfl,hp5,hm5,x5,f5,rfl,?_⟩
    unfold cH
    rw[if_neg h7,if_pos h8,k1,Int.toNat_natCast,if_pos hin,hi]
    rfl
  simp only[h89,decide_false,↓ae]
  by_cases h10:xi.op=10
  ·simp only[h10,decide_true,↓af,↓aE,um4,up4,Nat.zero_add,↓OW hm4 (j:=1) rfl,true_and]
   refine Bl (e':={ e with kind:=4 }) hm4 hp4 hmp rfl rfl (by omega) rfl rfl ?_
   refine Bl (e':=Ir e xi) (by rw[aa _ _ hmp];exact hm4) (ad _ _ _) hmp rfl rfl (by omega) rfl rfl ?_
   rw[nk,ldE (ad _ _ _)]
   have x5:=x4.av rp2 (.box (Ir e xi).e)
   refine Jc x5 hc hw (by omega) (fun hne=>absurd rfl hne) fun h6 ro6 f6 x6=>?_
   refine hK _ h6 ro6 ?_ ?_ x6
   ·unfold cH
    rw[if_neg (by omega),if_neg (by omega),if_neg (by omega),if_pos h10]
   ·exact(f4.I0 hpf).trans f6
  have hop:xi.op<=6:=by have:=hx.Tx;omega
  simp only[h10,decide_false,↓ae,show ¬xi.op=12 by omega,show ¬xi.op=11 by omega]
  have h15:∀{K:HK},ab PP (.ld (.c (.ptr m 0 0)) 15 true) h' K=K xi.e h':=fun {K}=>by rw[rD hm4 (by simp[aN.cs])];rfl
  rw[h15]
  refine RO x4 hc hl hid hw hx hop fun h5 e5=>?_
  exact⟨_,ro2,st,rfl,f4.trans (Fr.ext e5),by rw[e5 m (by rw[hm4];simp)];exact hm4,⟨_,_,_,_,_,_,x4.ext e5⟩,by omega,rfl,pureCase hop⟩
 ·by_cases h8:xi.op=8
  ·simp only[h8,decide_true,↓af]
   simp
  ·simp only[h8,decide_false,↓ae]
   simp
end
end Go.Am
namespace Go.Am
open Go
def bO.sz (a:bO) (s:Int):Int:=if a.space=s then a.len else 0
abbrev ni (s:Int) (a:bO):Nat:=(if a.space=s then a.len else 0).toNat
abbrev zW (s:Int) (aL:List bO):Mm:=iF aL s
theorem bO.vd (a:bO):a.e.vd=true/\aw a.e:=(bO.bZ a).pair
theorem bO.cells (a:bO):a.e.cells=[.str a.name,.int .i64 a.space,.int .i64 a.type,.int .i64 a.len]:=rfl
theorem M3 (a:bO) (s:Int):aF PP ju [a.e,.int .i64 s] (· = .int .i64 (a.sz s)):=by
 refine bg A4 (aA _ _ _) rfl (AM _ _ _) ?_
 (unfold uz;try dsimp only[xL,yL,xF,yF,xI,yI,xS,zI,zJ])
 rw[cX,kr OV rfl]
 by_cases h:a.space=s<;>simp[↓NL,kS,h_ldp,bO.e,↓bk,↓cq,h,↓af,↓ae,bI,bO.sz]
theorem Pv (a:bO) (s:Int):aF PP mS [a.e,.int .i64 s] (· = .int .i64 (a.sz s)):=by
 refine bg AU (aA _ _ _) rfl (AE _ _ _) ?_
 (unfold uk;try dsimp only[xL,yL,xF,yF,xI,yI,xS,zI,zJ])
 rw[cX,kr OV rfl]
 by_cases h:a.space=s<;>simp[↓NL,kS,h_ldp,bO.e,↓bk,↓aM,h,↓af,↓ae,bI,bO.sz]
theorem Rc (s:Int) (aL:List bO):(zW s aL).length=aL.length:=by simp[zW,iF]
theorem S9 {a:bO}{s:Int}(h:0<=a.len/\a.len<=15):a.sz s=(ni s a:Int)/\ni s a<=15:=by
 unfold ni bO.sz
 split<;>omega
def GA (z:Nat):List D:=List.replicate z (.int .i32 0)
theorem Hy (z:Nat):(GA z).length=z:=by simp[GA]
theorem OZ (z:Nat):D.sl (GA z)=words (List.replicate z 0):=by simp[GA,words]
theorem Mb (z:Nat):∀x,x∈GA z->∀y∈x.cells,y.vone=true:=by
 intro x hx y hy
 rw[List.eq_of_mem_replicate hx]at hy
 simp at hy;subst hy;rfl
def SS (s:Int) (aL:List bO) (M i:Nat) (els:List D) (h:Heap):Prop :=
 els.length=aL.length/\h M=.arr 1 els/\(∀j,j<i->∃k a,els[j]?=some (.ms k 0 (ni s a))/\aL[j]?=some a/\h k=.arr 1 (GA (ni s a))/\k≠M)/\∀j,i<=j->j<aL.length->els[j]?=some .nil
theorem Su {h:Heap}{k:Nat}{els:List D}(hk:(h k).row=some (1,els)):(D.ms k 0 els.length).fz h=.sl els:=by
 simp[D.fz,D.fzc,hk]
theorem KM {s:Int}{aL:List bO}{M:Nat}{els:List D}{h:Heap}(hz:SS s aL M aL.length els h):Deep h M els/\els.map (D.fz h)=(zW s aL).map words:=by
 obtain⟨h1,h2,h3,-⟩:=hz
 have fzk:∀k z,h k=.arr 1 (GA z)->(D.ms k 0 z).fz h=words (List.replicate z 0):=fun k z hk=>by
  have:=Su (h:=h) (k:=k) (els:=GA z) (by rw[hk];rfl)
  rw[Hy]at this
  rw[this,OZ]
 refine⟨⟨fun hm=>?_,fun e he=>?_⟩,?_⟩
 ·simp only[List.mem_flatMap]at hm
  obtain⟨e,he,hm⟩:=hm
  obtain⟨j,hj⟩:=List.mem_iff_getElem?.1 he
  have hjl:=(List.getElem?_eq_some_iff.1 hj).1
  obtain⟨k,a,q1,-,-,q4⟩:=h3 j (by omega)
  rw[hj]at q1
  cases q1
  simp[D.nm,D.jA]at hm
  exact q4 hm.symm
 ·obtain⟨j,hj⟩:=List.mem_iff_getElem?.1 he
  have hjl:=(List.getElem?_eq_some_iff.1 hj).1
  obtain⟨k,a,q1,-,q3,-⟩:=h3 j (by omega)
  rw[hj]at q1
  cases q1
  refine⟨rfl,fun y hy=>?_,?_,rfl⟩
  ·simp only[D.cells,List.mem_singleton]at hy
   subst hy
   refine⟨1,GA (ni s a),by rw[q3];rfl,by rw[Hy];omega,fun x hx=>Mb _ x (List.mem_of_mem_drop (List.mem_of_mem_take hx))⟩
  ·rw[fzk k _ q3];rfl
 ·apply List.ext_getElem?
  intro j
  rcases Nat.lt_or_ge j aL.length with hj|hj
  ·obtain⟨k,a,q1,q2,q3,-⟩:=h3 j hj
   rw[List.getElem?_map,q1,List.getElem?_map,zW,iF,List.getElem?_map,q2]
   simp only[Option.map_some]
   rw[fzk k _ q3]
  ·rw[List.getElem?_eq_none (by rw[List.length_map];omega),List.getElem?_eq_none (by rw[List.length_map,Rc];omega)]
theorem RP {aL:List bO}(h8:aL.length<=8) (hb:∀a∈aL,0<=a.len/\a.len<=15) (s:Int):aF PP mV [.sl (aL.map bO.e),.int .i64 s] (· = aR (zW s aL)):=by
 refine IX (aW A6 (aA _ _ _) rfl (AN _ _ _) ?_)
 (unfold uA;try dsimp only[xL,yL,xF,yF,xI,yI,xS,zI,zJ])
 simp only[↓jf,List.length_map]
 rw[P4]
 refine⟨by omega,by omega,by omega,by omega,fun M tM=>?_⟩
 rw[Int.toNat_natCast]
 refine⟨fun _ h'=>∃els,SS s aL M aL.length els h',?_,?_⟩
 ·rintro _ h' ⟨els,hz⟩
  obtain⟨d1,d2⟩:=KM hz
  exact⟨M,els,by rw[hz.1],hz.2.1,d1,by rw[d2];rfl⟩
 (unfold nP;try dsimp only[xL,yL,xF,yF,xI,yI,xS,zI,zJ])
 refine⟨fun k x h'=>∃(i:Nat) (els:List D),x=[.int .i64 i]/\k+i=aL.length/\SS s aL M i els h',aL.length,⟨0,_,rfl,rfl,by simp,ad _ _ _,fun j hj=>by omega,fun j _ hj=>by simp[hj]⟩,?_⟩
 rintro k f h' ⟨i,els,hf,hki,z1,z2,z3,z4⟩
 simp only[List.cons.injEq,and_true]at hf
 rw[hf]
 simp only[↓bK]
 by_cases hi:i<aL.length
 case neg =>
  have hi':¬(i:Int)<(aL.length:Int):=by omega
  have hil:i=aL.length:=by omega
  simp only[hi',decide_false,ae,ai,true_and]
  subst hil
  exact⟨els,z1,z2,z3,z4⟩
 have hi':(i:Int)<(aL.length:Int):=by omega
 have w1:IntKind.i64.wrap ((i:Int)+1)=((i+1:Nat):Int):=by rw[wrap64 (by omega) (by omega)];rfl
 obtain⟨a,ha⟩:∃a,aL[i]?=some a:=⟨_,List.getElem?_eq_getElem hi⟩
 obtain⟨hz1,hz2⟩:=S9 (s:=s) (hb a (List.mem_of_getElem? ha))
 simp only[hi',decide_true,af,↓im,List.length_map,Int.toNat_natCast,List.getElem?_map,ha,Option.map_some]
 refine⟨by omega,trivial,fun d hd=>?_⟩
 cases hd
 refine⟨rfl,?_⟩
 simp only[↓gY,bO.cells,↓cn]
 refine⟨by simp,?_⟩
 rw[bQ]
 intro b tb
 have tbM:M≠b:=tb.ne (by rw[z2];simp)
 rw[dq]
 simp only[ad,hU]
 have hset:setCells (D.agg [.str ⟨#[]⟩,.int .i64 0,.int .i64 0,.int .i64 0]) 0 (D.agg (List.take 4 (List.drop 0 [D.str a.name,.int .i64 a.space,.int .i64 a.type,.int .i64 a.len]))).cells=a.e:=rfl
 rw[hset]
 refine⟨rfl,(bO.vd a).2,trivial,by simp,?_⟩
 simp only[↓jE,ad,bO.cells,↓cn]
 refine⟨trivial,by simp,?_⟩
 refine bE (M3 a s) (fun d hd=>?_) ?_
 ·simp only[List.mem_cons,List.not_mem_nil,or_false]at hd
  rcases hd with rfl|rfl
  ·exact bO.vd a
  ·exact⟨rfl,by simp⟩
 rintro _ rfl
 rw[hz1,P4]
 refine⟨by omega,by omega,by omega,by omega,fun n1 t1=>?_⟩
 have t1M:M≠n1:=t1.ne (by rw[aa _ _ tbM,z2];simp)
 have t1b:b≠n1:=t1.ne (by rw[ad];simp)
 rw[Int.toNat_natCast]
 have hM1:ah (ah h' b (.box a.e)) n1 (.arr 1 (List.replicate (ni s a) (.int .i32 0))) M=.arr 1 els:=by rw[aa _ _ t1M,aa _ _ tbM,z2]
 rw[bF]
 refine⟨by omega,by omega,⟨els,by rw[hM1];rfl⟩,?_⟩
 rw[dq]
 simp only[hM1,Nat.zero_add,Int.toNat_natCast]
 refine⟨rfl,by simp,by omega,by omega,fun d hd=>?_⟩
 rw[z4 i (Nat.le_refl _) hi]at hd
 cases hd
 simp only[↓bp,w1,ai,true_and]
 have hsn:setCells D.nil 0 (D.ms n1 0 (ni s a)).cells=.ms n1 0 (ni s a):=rfl
 rw[hsn]
 refine⟨k-1,by omega,i+1,els.set i (.ms n1 0 (ni s a)),rfl,by omega,by simp[z1],ad _ _ _,fun j hj=>?_,fun j hj hj2=>?_⟩
 ·rcases Nat.lt_or_ge j i with h|h
  ·obtain⟨k',a',q1,q2,q3,q4⟩:=z3 j h
   have hk1:k'≠b:=tb.ne (by rw[q3];simp)
   have hk2:k'≠n1:=t1.ne (by rw[aa _ _ hk1,q3];simp)
   refine⟨k',a',by rw[List.getElem?_set_ne (by omega)];exact q1,q2,?_,q4⟩
   rw[aa _ _ q4,aa _ _ hk2,aa _ _ hk1,q3]
  ·obtain rfl:j=i:=by omega
   refine⟨n1,a,by rw[List.getElem?_set_self (by omega)],ha,?_,t1M.symm⟩
   rw[aa _ _ t1M.symm,ad];rfl
 ·rw[List.getElem?_set_ne (by omega)];exact z4 j (by omega) hj2
section
variable {h:Heap}
structure wG (h:Heap) (d d':D):Prop where
 one:d.one=true
 ok:lQ h d
 v:(d.fzc h).vone=true
 wk:Wk (d.fzc h) d'
theorem aH {d:D}(hv:d.vone=true):wG h d d:=by
 obtain⟨a1,-,a3⟩:=xc (h:=h) hv
 exact⟨D.de hv,a3,by rw[a1];exact hv,by rw[a1];exact .refl d⟩
theorem gh:wG h .nil (.sl []):=⟨rfl,trivial,rfl,.nil⟩
theorem dt {n e:Nat}{els:List D}(hn:h n=.arr e els) (hv:∀x∈els,∀y∈x.cells,y.vone=true):wG h (.ms n 0 els.length) (.sl els):=by
 have hr:(h n).row=some (e,els):=by rw[hn];rfl
 refine⟨rfl,⟨e,els,hr,by simp,fun x hx=>hv x (List.mem_of_mem_drop (List.mem_of_mem_take hx))⟩,?_,?_⟩
 ·simp[D.fzc,hr,D.vone]
 ·simp only[D.fzc,hr,List.drop_zero]
  rw[List.take_of_length_le (Nat.le_refl _)]
  exact .refl _
inductive BP (h:Heap):List D->List D->Prop where
 | nil:BP h [] []
 | cons {d d':D}{r r':List D}(a:wG h d d') (k:BP h r r'):BP h (d::r) (d'::r')
theorem BP.all {cs cs':List D}(k:BP h cs cs'):(∀x∈cs,x.one=true)/\(∀x∈cs,lQ h x)/\(∀x,x∈cs.map (D.fzc h)->x.vone=true)/\FX (cs.map (D.fzc h)) cs':=by
 induction k with
 | nil=>exact⟨by simp,by simp,by simp,.nil⟩
 | cons a k ih =>
  obtain⟨i1,i2,i3,i4⟩:=ih
  refine⟨fun x hx=>?_,fun x hx=>?_,fun x hx=>?_,.cons a.wk i4⟩
  ·rcases List.mem_cons.1 hx with rfl|hx
   ·exact a.one
   ·exact i1 x hx
  ·rcases List.mem_cons.1 hx with rfl|hx
   ·exact a.ok
   ·exact i2 x hx
  ·rcases List.mem_cons.1 hx with rfl|hx
   ·exact a.v
   ·exact i3 x hx
structure OS (h:Heap) (d d':D):Prop where
 one:aw d
 ok:jP h d
 v:(d.fz h).vd=true
 v':d'.vd=true
 wk:Wk (d.fz h) d'
theorem gF {d:D}(h1:d.one=true):d.cells=[d]:=by cases d<;>first|rfl|cases h1
theorem NQ {d:D}(h1:d.one=true):d.fz h=d.fzc h:=by cases d<;>first|rfl|cases h1
theorem s9 {d:D}(h1:d.vone=true):d.vd=true:=by cases d<;>first|rfl|cases h1
theorem wG.d {d d':D}(a:wG h d d'):OS h d d':=by
 have hc:=gF a.one
 refine⟨fun x hx=>?_,fun x hx=>?_,?_,?_,?_⟩
 ·rw[hc]at hx;simp at hx;subst hx;exact a.one
 ·rw[hc]at hx;simp at hx;subst hx;exact a.ok
 ·rw[NQ a.one];exact s9 a.v
 ·exact s9 (by rw[a.wk.vone];exact a.v)
 ·rw[NQ a.one];exact a.wk
theorem Md {xs ys:List D}(w:FX xs ys) (hv:∀x∈xs,x.vone=true):∀y∈ys,y.vone=true:=by
 induction w with
 | nil=>simp
 | cons a k ih =>
  intro y hy
  rcases List.mem_cons.1 hy with rfl|hy
  ·rw[a.vone];exact hv _ (by simp)
  ·exact ih (fun x hx=>hv x (by simp[hx])) y hy
theorem BP.agg {cs cs':List D}(k:BP h cs cs'):OS h (.agg cs) (.agg cs'):=by
 obtain⟨i1,i2,i3,i4⟩:=k.all
 refine⟨i1,i2,?_,?_,.OK i4⟩
 ·simp only[D.fz,D.vd,List.all_eq_true];exact i3
 ·simp only[D.vd,List.all_eq_true];exact Md i4 i3
inductive Hr (h:Heap):List D->List D->Prop where
 | nil:Hr h [] []
 | cons {d d':D}{r r':List D}(a:OS h d d') (k:Hr h r r'):Hr h (d::r) (d'::r')
theorem Hr.all {cs cs':List D}(k:Hr h cs cs'):(∀x∈cs,aw x)/\(∀x∈cs,jP h x)/\(∀x,x∈cs.map (D.fz h)->x.vd=true)/\(∀x,x∈cs'->x.vd=true)/\FX (cs.map (D.fz h)) cs':=by
 induction k with
 | nil=>exact⟨by simp,by simp,by simp,by simp,.nil⟩
 | cons a k ih =>
  obtain⟨i1,i2,i3,i5,i4⟩:=ih
  refine⟨fun x hx=>?_,fun x hx=>?_,fun x hx=>?_,fun x hx=>?_,.cons a.wk i4⟩
  ·rcases List.mem_cons.1 hx with rfl|hx
   ·exact a.one
   ·exact i1 x hx
  ·rcases List.mem_cons.1 hx with rfl|hx
   ·exact a.ok
   ·exact i2 x hx
  ·rcases List.mem_cons.1 hx with rfl|hx
   ·exact a.v
   ·exact i3 x hx
  ·rcases List.mem_cons.1 hx with rfl|hx
   ·exact a.v'
   ·exact i5 x hx
def Fj (K:D->Prop) (r:D) (h':Heap):Prop:=∃h'',Gy h' h''/\ik r/\p8 h'' r/\(r.fzt h'').FB=true/\∃r',Wk (r.fzt h'') r'/\r'.FB=true/\K r'
theorem fZ {P:Program}{f:FuncId}{ds:List D}{K:D->Prop}(ha:ag P f ds aC (Fj K)):aF P f ds K :=
 aF.wk (K:=fun r=>∃r',Wk r r'/\r'.FB=true/\K r') (F3 ha) fun _ hr=>hr
theorem nr {h h'':Heap}{K:D->Prop}{ds ds':List D}(i:Gy h h'') (k:Hr h'' ds ds') (hK:K (.tup ds')):Fj K (.tup ds) h:=by
 obtain⟨i1,i2,i3,i5,i4⟩:=k.all
 refine⟨h'',i,i1,i2,?_,.tup ds',?_,?_,hK⟩
 ·simp only[D.fzt,D.FB,List.all_eq_true];exact i3
 ·exact .tup _ _ i4.get.1 i4.get.2
 ·simp only[D.FB,List.all_eq_true];exact i5
theorem eh {h h'':Heap}{K:D->Prop}{d d':D}(ht:∀ds,d≠.tup ds) (ht':∀ds,d'≠.tup ds) (i:Gy h h'') (k:OS h'' d d') (hK:K d'):Fj K d h:=by
 have e1:d.fzt h''=d.fz h'':=by cases d<;>first|rfl|exact absurd rfl (ht _)
 have e2:∀x:D,(∀ds,x≠.tup ds)->x.FB=x.vd:=fun x hx=>by cases x<;>first|rfl|exact absurd rfl (hx _)
 have nt:∀ds,d.fz h''≠.tup ds:=fun ds e=>by
  have:=k.v;rw[e]at this;cases this
 refine⟨h'',i,?_,?_,?_,d',by rw[e1];exact k.wk,by rw[e2 _ ht'];exact k.v',hK⟩
 ·cases d<;>first|exact k.one|exact absurd rfl (ht _)
 ·cases d<;>first|exact k.ok|exact absurd rfl (ht _)
 ·rw[e1,e2 _ nt];exact k.v
theorem BP.Ty:∀{cs:List D},(∀x∈cs,x.vone=true)->BP h cs cs
 | [],_=>.nil
 | x::r,hv=>.cons (aH (hv x (by simp))) (BP.Ty fun y hy=>hv y (by simp[hy]))
theorem gg {d:D}(hd:wE d):OS h d d:=by
 obtain⟨a1,-,a3⟩:=DL (h:=h) hd.vd
 exact⟨hd.one,a3,by rw[a1];exact hd.vd,hd.vd,by rw[a1];exact .refl _⟩
end
theorem KO (w:List Int):∀x,x∈wr w->∀y∈x.cells,y.vone=true:=fun x hx y hy=>by
 simp only[wr,List.mem_map]at hx
 obtain⟨z,-,rfl⟩:=hx
 simp at hy;subst hy;rfl
theorem na.fz {h:Heap}{ro:Ro}{r:lV}{d:D}{w:List Int}(x:na h ro r d w):d.fz h=words w/\aw d/\jP h d/\∀n∈d.nm,ro n=r:=by
 rcases x with rfl|⟨q,rfl,h2,h3⟩
 ·obtain⟨a1,a2,a3⟩:=DL (h:=h) (d:=words w) rfl
  exact⟨a1,by simp[words],a3,by rw[a2];simp⟩
 ·have f:=dt (h:=h) h2 (KO w)
  rw[mO]at f
  have hr:(h q).row=some (1,wr w):=by rw[h2];rfl
  refine⟨?_,by simp,f.d.ok,fun n hn=>?_⟩
  ·simp only[D.fz,D.fzc,hr,List.drop_zero]
   rw[List.take_of_length_le (by rw[mO];exact Nat.le_refl _)];rfl
  ·simp[D.nm,D.jA]at hn;subst hn;exact h3
theorem og.Ko {h:Heap}{ro:Ro}{s k:Nat}{m:Mm}{els:List D}(y:og h ro s m k els) :
  KL h k 1 els/\els.map (D.fz h)=m.map words/\∀j,(∀i,ro j≠.row s i)->j≠k->eM h k 1 els j=h j:=by
 have hl:=y.len
 have get:∀e∈els,∃i w,na h ro (.row s i) e w:=fun e he=>by
  obtain⟨i,hi⟩:=List.getElem?_of_mem he
  have:=(List.getElem?_eq_some_iff.1 hi).1
  exact⟨i,m[i],y.el i e _ hi (List.getElem?_eq_getElem (by omega))⟩
 have nm:∀n,n∈els.flatMap D.nm->∃i,ro n=.row s i:=fun n hn=>by
  obtain⟨e,he,hn⟩:=List.mem_flatMap.1 hn
  obtain⟨i,w,hr⟩:=get e he
  exact⟨i,hr.fz.2.2.2 n hn⟩
 refine⟨⟨fun hm=>?_,fun e he=>?_⟩,?_,fun j hj hne=>?_⟩
 ·obtain⟨i,hi⟩:=nm k hm
  rw[y.rk]at hi;cases hi
 ·obtain⟨i,w,hr⟩:=get e he
  obtain⟨f1,f2,f3,-⟩:=hr.fz
  exact⟨f2,f3,by rw[f1];intro z hz;simp[words]at hz;subst hz;rfl⟩
 ·refine List.ext_getElem? fun i=>?_
  rw[List.getElem?_map,List.getElem?_map]
  rcases Nat.lt_or_ge i els.length with hi|hi
  ·have h1:=List.getElem?_eq_getElem hi
   have h2:m[i]?=some (m[i]'(by omega)):=List.getElem?_eq_getElem (by omega)
   rw[h1,h2]
   simp only[Option.map_some]
   rw[(y.el i _ _ h1 h2).fz.1]
  ·rw[List.getElem?_eq_none hi,List.getElem?_eq_none (by omega)];rfl
 ·exact EG hne fun hm=>by
   obtain⟨i,hi⟩:=nm j hm
   exact hj i hi
theorem JN.out {h:Heap}{ro:Ro}{dR dE dL:D}{dm:Nat->D}{st:St}(x:JN h ro dR dE dL dm st) :
  ∃h'',Gy h h''/\wG h'' dR (words st.regs)/\wG h'' dE (.sl (st.ev.map Ev.e))/\wG h'' dL (.sl [])/\(∀s,1<=s->s<=3->wG h'' (dm s) (aR (st.mem s)))/\∀k,ro k=.no->h'' k=h k:=by
 obtain⟨k1,e1,d1,y1⟩:=x.mem 1 (by omega) (by omega)
 obtain⟨k2,e2,d2,y2⟩:=x.mem 2 (by omega) (by omega)
 obtain⟨k3,e3,d3,y3⟩:=x.mem 3 (by omega) (by omega)
 have n12:k1≠k2:=by rintro rfl;have:=y1.rk;rw[y2.rk]at this;simp at this
 have n13:k1≠k3:=by rintro rfl;have:=y1.rk;rw[y3.rk]at this;simp at this
 have n23:k2≠k3:=by rintro rfl;have:=y2.rk;rw[y3.rk]at this;simp at this
 obtain⟨p1,p2,p3⟩:=y1.Ko
 have kp1:kF (fun r=>r≠.mem 1/\∀i,r≠.row 1 i) h ro (eM h k1 1 e1) ro:=fun k _ hr=>⟨p3 k hr.2 (by rintro rfl;exact hr.1 y1.rk),rfl⟩
 have z2:=y2.dj kp1 (by simp) (by simp)
 have z3:=y3.dj kp1 (by simp) (by simp)
 obtain⟨q1,q2,q3⟩:=z2.Ko
 have kp2:kF (fun r=>r≠.mem 2/\∀i,r≠.row 2 i) (eM h k1 1 e1) ro (eM (eM h k1 1 e1) k2 1 e2) ro:=fun k _ hr=>⟨q3 k hr.2 (by rintro rfl;exact hr.1 y2.rk),rfl⟩
 have w3:=z3.dj kp2 (by simp) (by simp)
 obtain⟨r1,r2,r3⟩:=w3.Ko
 have i1:eM h k1 1 e1 k1=.arr 1 (st.mem 1 |>.map words):=by rw[kZ,p2]
 have i2:eM (eM h k1 1 e1) k2 1 e2 k2=.arr 1 (st.mem 2 |>.map words):=by rw[kZ,q2]
 have i3:eM (eM (eM h k1 1 e1) k2 1 e2) k3 1 e3 k3=.arr 1 (st.mem 3 |>.map words):=by rw[kZ,r2]
 have far:∀k,(∀s,ro k≠.mem s)->(∀s i,ro k≠.row s i)->eM (eM (eM h k1 1 e1) k2 1 e2) k3 1 e3 k=h k:=fun k a b=>by
  rw[r3 k (b 3) (by rintro rfl;exact a _ y3.rk),q3 k (b 2) (by rintro rfl;exact a _ y2.rk),p3 k (b 1) (by rintro rfl;exact a _ y1.rk)]
 have mv:∀(m:Mm) (x:D),x∈m.map words->∀y∈x.cells,y.vone=true:=fun m x hx y hy=>by
  simp only[List.mem_map]at hx
  obtain⟨z,-,rfl⟩:=hx
  simp[words]at hy;subst hy;rfl
 refine⟨_,.step y1.hk p1 (.step z2.hk q1 (.step w3.hk r1 (.refl _))),?_,?_,?_,fun s s1 s2=>?_,fun k hk=>far k (by rw[hk];simp) (by rw[hk];simp)⟩
 ·obtain⟨q,rfl,g1,g2⟩:=x.regs
  have:=dt (h:=eM (eM (eM h k1 1 e1) k2 1 e2) k3 1 e3) (n:=q) (e:=1) (els:=wr st.regs) (by rw[far q (by rw[g2];simp) (by rw[g2];simp)];exact g1) (KO _)
  rw[mO]at this
  exact this
 ·rcases x.ev with⟨rfl,hz⟩|⟨q,rfl,g1,g2⟩
  ·rw[hz];exact gh
  ·have:=dt (h:=eM (eM (eM h k1 1 e1) k2 1 e2) k3 1 e3) (n:=q) (e:=9) (els:=st.ev.map Ev.e) (by rw[far q (by rw[g2];simp) (by rw[g2];simp)];exact g1) (fun x hx y hy=>by
    simp only[List.mem_map]at hx
    obtain⟨z,-,rfl⟩:=hx
    simp[Ev.e,Ev.cs]at hy
    rcases hy with rfl|rfl|rfl|rfl|rfl|rfl|rfl|rfl|rfl<;>rfl)
   rw[List.length_map]at this
   exact this
 ·rcases x.sl with rfl|rfl|⟨q,rfl,g1,g2⟩
  ·exact gh
  ·exact aH rfl
  ·exact dt (els:=[]) (by rw[far q (by rw[g2];simp) (by rw[g2];simp)];exact g1) (by simp)
 ·have:s=1\/s=2\/s=3:=by omega
  rcases this with rfl|rfl|rfl
  ·rw[d1]
   have:=dt (h:=eM (eM (eM h k1 1 e1) k2 1 e2) k3 1 e3) (n:=k1) (e:=1) (els:=(st.mem 1).map words) (by rw[r3 k1 (by rw[y1.rk];simp) n13,q3 k1 (by rw[y1.rk];simp) n12];exact i1) (mv _)
   rw[List.length_map]at this
   exact this
  ·rw[d2]
   have:=dt (h:=eM (eM (eM h k1 1 e1) k2 1 e2) k3 1 e3) (n:=k2) (e:=1) (els:=(st.mem 2).map words) (by rw[r3 k2 (by rw[y2.rk];simp) n23];exact i2) (mv _)
   rw[List.length_map]at this
   exact this
  ·rw[d3]
   have:=dt (h:=eM (eM (eM h k1 1 e1) k2 1 e2) k3 1 e3) (n:=k3) (e:=1) (els:=(st.mem 3).map words) i3 (mv _)
   rw[List.length_map]at this
   exact this
end Go.Am
namespace Go.Am
open Go
theorem TM {P:Program}{m off len esz:Nat}{x:D}{h:Heap}{KH:HK}:ab P (.cpy (.c (.ms m off len)) (.c x) esz) h KH=velems esz x h fun ys=>(∀y∈ys,aw y)/\∃els,h m=.arr esz els/\off+len<=els.length /\
    KH (.int .i64 (min ys.length len:Nat)) (ah h m (.arr esz (els.take off++ys.take len++els.drop (off+min ys.length len)))):=rfl
theorem lD {m:Mm}{h:Heap}{K:D->Prop}:bR (aR m) h K=K (.int .i64 (m.length:Int)):=by simp[aR,jf]
theorem GN {h:Heap}{m:Mm}(hl:m.length<=1000000){KH:HK}(hK:∀q,h q=.free->KH (.ms q 0 m.length) (ah h q (.arr 1 (m.map words)))):ag PP eD [aR m] h KH:=by
 refine aW Dh (aA _ _ _) rfl (CX _ _) ?_
 (unfold yk;try dsimp only[xL,yL,xF,yF,xI,yI,xS,zI,zJ])
 rw[lD,P4]
 refine⟨by omega,by omega,by omega,by omega,fun q t=>?_⟩
 rw[Int.toNat_natCast,TM]
 refine⟨fun e he=>?_,fun y hy=>?_,_,ad _ _ _,by simp,?_⟩
 ·simp only[List.mem_map]at he;obtain⟨z,-,rfl⟩:=he;rfl
 ·simp only[List.mem_map]at hy;obtain⟨z,-,rfl⟩:=hy;simp[words]
 ·rw[hU]
  have:=hK q t.free
  have e:(List.replicate m.length D.nil).take 0++(m.map words).take m.length++(List.replicate m.length D.nil).drop (0+min (m.map words).length m.length)=m.map words:=by
   rw[List.take_zero,List.nil_append,List.take_of_length_le (by simp),List.drop_of_length_le (by simp),List.append_nil]
  rw[e];exact this
theorem zN (n:Nat):D.sl (List.replicate n (.int .i32 0))=words (List.replicate n 0):=by simp[words]
theorem Kf {c:Code}(hc:bj c){id ep at_:Int}:aF PP kP [c.e,.int .i64 id,.int .i64 ep,.int .i64 at_] (· = (bD c id ep at_).e):=by
 refine bg Di (aA _ _ _) rfl (CY _ _ _ _ _) ?_
 (unfold yl;try dsimp only[xL,yL,xF,yF,xI,yI,xS,zI,zJ])
 rw[cX,kr OV (Code.on c),ic (by simp)]
 have hr:=hc.regs
 have hs:=hc.slots
 obtain⟨H,hH⟩:∃H,H=LH.h ([]++[Slot.box c.e]++[.box (.agg [.int .i64 0,.int .i64 0,.int .i64 0,.int .i64 0,.nil,.nil,.nil])]):=⟨_,rfl⟩
 rw[<- hH]
 have h0:H 0=.box (.agg [.int .i64 c.group,.int .i64 c.sub,.int .i64 c.regs,.int .i64 c.slots,.int .i64 c.params,.sl (c.arrays.map bO.e),.sl (c.loops.map Loop.e),.sl (c.b.map Block.e)]):=by rw[hH];rfl
 have h1:H 1=.box (.agg [.int .i64 0,.int .i64 0,.int .i64 0,.int .i64 0,.nil,.nil,.nil]):=by rw[hH];rfl
 have u0:(H 0).used=true:=by rw[h0];rfl
 have hmk:∀{K:D->Prop}{n:Int},0<=n->n<=1000->K (words (List.replicate n.toNat 0))->aq PP (.mk 1 4 (.int .i32 0) (.c (.int .i64 n)) (.c (.int .i64 n))) H K:=fun {K n} a1 a2 hk =>
  ⟨⟨a1,by omega,by omega,by omega⟩,⟨rfl,by simp⟩,by rw[zN];exact hk⟩
 simp only[List.nil_append,List.length_nil,List.length_singleton,↓aE,u0,Nat.zero_add,↓cj h0 (j:=2) rfl,true_and]
 refine hmk (by omega) (by omega) ?_
 simp only[↓aE,u0,Nat.zero_add,↓cj h0 (j:=5) rfl,true_and]
 refine pk (RP hc.nar (fun a ha=>⟨by have:=(hc.ar a ha).2;omega,by have:=(hc.ar a ha).2;omega⟩) 3) ?_ ?_
 ·intro z hz
  simp[Arg.get]at hz
  rcases hz with rfl|rfl
  ·exact T4 rfl
  ·exact jY
 simp only[↓aE,u0,Nat.zero_add,↓cj h0 (j:=3) rfl,true_and]
 refine hmk (by omega) (by omega) ?_
 rw[gZ rfl,dq,h1]
 have e:(D.agg (fillD [.int .i64 0,.int .i64 0,.int .i64 0,.int .i64 0,.nil,.nil,.nil] ([(0,1,Arg.c (D.int .i64 id)),(1,1,.c (.int .i64 at_)),(3,1,.c (.int .i64 ep)),(4,1,.c (words (List.replicate c.regs.toNat 0))),(5,1,.c (aR (zW 3 c.arrays))),(6,1,.c (words (List.replicate c.slots.toNat 0)))].map fun p=>(p.1,p.2.1,(p.2.2.get []).cells))))=(bD c id ep at_).e:=by
  rw[hs];rfl
 rw[e]
 refine⟨rfl,(It.bZ _).one,rfl,Nat.le_refl _,?_⟩
 have es:setCells (.agg [.int .i64 0,.int .i64 0,.int .i64 0,.int .i64 0,.nil,.nil,.nil]) 0 (bD c id ep at_).e.cells=(bD c id ep at_).e:=rfl
 rw[es]
 have:∀{K:HK},ab PP (.ld (.c (.ptr 1 0 0)) 7 true) (ah H 1 (.box (bD c id ep at_).e)) K=K (bD c id ep at_).e (ah H 1 (.box (bD c id ep at_).e)):=fun {K}=>db (cs:=(bD c id ep at_).cs) (ad _ _ _)
 rw[this]
 exact iG (It.bZ _) rfl
theorem bj.OA {c:Code}(_hc:bj c){b:Int}(hb:0<=b/\b<(c.b.length:Int)):∃(k:Nat) (B:Block),b=(k:Int)/\c.b[k]?=some B/\B∈c.b/\dg c b=B.t/\m4 c b=B.i:=by
 have hk:b.toNat<c.b.length:=by omega
 have hg:=List.getElem?_eq_getElem hk
 exact⟨b.toNat,_,by omega,hg,List.getElem_mem hk,by simp[dg,hg],by simp[m4,hg]⟩
theorem rR {P:Program}{c:Code}{k:Nat}{B:Block}(hb:c.b[k]?=some B){h:Heap}{KH:HK}:ab P (.iadd (.c (.sl (c.b.map Block.e))) (.c (.int .i64 (k:Int))) 14) h KH=KH (.vp B.e 0) h:=by
 have hk:=(List.getElem?_eq_some_iff.1 hb).1
 rw[im,Int.toNat_natCast,List.getElem?_map,hb,List.length_map]
 apply propext
 constructor
 ·rintro⟨-,-,h⟩;exact(h _ rfl).2
 ·intro hk';exact⟨by omega,by omega,fun d hd=>by cases hd;exact⟨rfl,hk'⟩⟩
theorem Ky {P:Program}{B:Block}{h:Heap}{KH:HK}:ab P (.ld (.c (.vp B.e 1)) 13 true) h KH=KH B.t.e h:=by
 rw[gY,cn]
 have e:(B.e.cells.drop 1).take 13=B.t.cs:=rfl
 have l:B.e.cells.length=14:=rfl
 rw[e,l];simp[Term.e]
theorem QX {P:Program}{B:Block}{h:Heap}{KH:HK}:ab P (.ld (.c (.vp B.e 0)) 1 false) h KH=KH (.sl (B.i.map aN.e)) h:=by rw[gY,bk];rfl
theorem Hx.ops {N:Nat}{R:Int}{t:Term}(h:Hx N R t):wv R t.a/\(t.kind=1\/t.kind=2\/t.kind=3\/t.kind=4\/t.kind=5):=by
 cases h with
 | jump a h=>exact⟨cN,by simp⟩
 | branch o a b ho h1 h2=>exact⟨ho.val.r,by simp⟩
 | barrier a h=>exact⟨cN,by simp⟩
 | collect s d a b t hs hd ha hb h=>exact⟨ha.r,by simp⟩
 | exit=>exact⟨cN,by simp⟩
section
variable {h:Heap}{ro:Ro}{n:Nat}{c:Code}{l:dk}{it:It}{dR dL dE:D}{dm:Nat->D}{nm:Nat}{ents:List (D×D)}{st:St}
theorem dQ.MA (x:dQ h ro n c l it dR dL dE dm nm ents st) (it':It):dQ (ah h n (.box (.agg (jj c l it' dR (dm 3) dL (dm 1) (dm 2) dE nm)))) ro n c l it' dR dL dE dm nm ents st:=by
 have kp:kF (fun r=>r≠.box) h ro (ah h n (.box (.agg (jj c l it' dR (dm 3) dL (dm 1) (dm 2) dE nm)))) ro:=fun k _ hr=>⟨aa _ _ (by rintro rfl;exact hr x.rb),rfl⟩
 obtain⟨m1,m2⟩:=kp nm (by rw[x.map];simp) (by rw[x.rm];simp)
 refine⟨ad _ _ _,x.rb,x.sr.aD (cv.av (by rw[x.rb];rfl)),by rw[m1];exact x.map,by rw[m2];exact x.rm,x.keys,x.tru,fun s i k els e w s1 s2 hd hk he hw=>?_⟩
 obtain⟨k0,els0,g1,g2⟩:=x.sr.mem s s1 s2
 rw[g1]at hd;simp only[D.ms.injEq,true_and,and_true]at hd;subst hd
 rw[(kp k0 (bU g2.hk) (by rw[g2.rk];simp)).1]at hk
 obtain⟨a1,a2⟩:=x.own s i k0 els e w s1 s2 g1 hk he hw
 refine⟨a1,fun hh=>?_⟩
 obtain⟨q',c1,c2,c3⟩:=a2 hh
 obtain⟨d1,d2⟩:=kp q' (bU c2) (by rw[c3];simp)
 exact⟨q',c1,by rw[d1];exact c2,by rw[d2];exact c3⟩
def zQ (c:Code) (it1:It) (dR dP dL:D):D:=if(dg c it1.block).kind=5 then(bD c it1.id it1.epoch 3).e else rE (aP c it1) dR dP dL
theorem Px (x:dQ h ro n c l it dR dL dE dm nm ents st) (hc:bj c) (hw:qA c st) (hb:0<=it.block/\it.block<(c.b.length:Int)){KH:HK}
  (hK:∀h' ro' it',Fr ro h ro' h'->dQ h' ro' n c l it' dR dL dE dm nm ents st->KH (zQ c { it with regs:=st.regs,priv:=st.mem 3 } dR (dm 3) dL) h'):ag PP gJ [.ptr n 0 0] h KH:=by
 refine aW tV (aA _ _ _) rfl (tP _ _) ?_
 (unfold nS;try dsimp only[xL,yL,xF,yF,xI,yI,xS,zI,zJ])
 obtain⟨k,B,hbk,hB,hBm,ht,hi⟩:=hc.OA hb
 obtain⟨-,-,hT⟩:=hc.xs B hBm
 obtain⟨ho,hkd⟩:=hT.ops
 rw[bQ]
 intro m t
 have x1:=x.new t.free (.box (.agg [.int .i64 0,.int .i64 0,.int .i64 0,.int .i64 0,.nil,.nil,.nil]))
 have f1:Fr ro h (ah ro m .no) (ah h m (.box (.agg [.int .i64 0,.int .i64 0,.int .i64 0,.int .i64 0,.nil,.nil,.nil]))):=Fr.new t.free _
 have hm:ah h m (.box (.agg [.int .i64 0,.int .i64 0,.int .i64 0,.int .i64 0,.nil,.nil,.nil])) m=.box (.agg [.int .i64 0,.int .i64 0,.int .i64 0,.int .i64 0,.nil,.nil,.nil]):=ad _ _ _
 have rm:ah ro m .no m=.no:=ad _ _ _
 have hmf:=t.free
 generalize ah h m (.box (.agg [.int .i64 0,.int .i64 0,.int .i64 0,.int .i64 0,.nil,.nil,.nil]))=h1 at x1 f1 hm
 generalize ah ro m .no=ro1 at x1 f1 rm
 clear x t
 have hat:∀{K:D->Prop},aq PP (.iadd (.c (.sl (c.b.map Block.e))) (.c (.int .i64 it.block)) 14) h1 K=K (.vp B.e 0):=fun {K}=>by rw[hbk,fh,rR hB]
 have hld:∀{K:D->Prop},aq PP (.ld (.c (.vp B.e 1)) 13 true) h1 K=K B.t.e:=fun {K}=>by rw[bL,Ky]
 simp only[↓aE,x1.used,Nat.zero_add,Nat.reduceAdd,↓cj x1.box (j:=7) rfl,↓cj x1.box (j:=12) rfl,hat,↓He,hld,true_and]
 rw[bQ]
 intro p t2
 rw[dq,ad]
 refine⟨rfl,B.t.bZ.one,rfl,Nat.le_refl _,?_⟩
 rw[hU]
 have es:setCells (.agg [(.int .i64 0),(.int .i64 0),(.int .i64 0),(.int .i64 0),(.int .i32 0),(.int .i64 0),(.int .i64 0),(.int .i32 0),(.int .i64 0),(.int .i64 0),(.int .i32 0),(.int .i64 0),(.int .i64 0)]) 0 B.t.e.cells=.agg B.t.cs:=rfl
 rw[es]
 have hmp:m≠p:=t2.ne (by rw[hm];simp)
 have x2:=x1.new t2.free (.box (.agg B.t.cs))
 have f2:Fr ro h (ah ro1 p .no) (ah h1 p (.box (.agg B.t.cs))):=f1.trans (Fr.new t2.free _)
 have hm2:ah h1 p (.box (.agg B.t.cs)) m=.box (.agg [.int .i64 0,.int .i64 0,.int .i64 0,.int .i64 0,.nil,.nil,.nil]):=by rw[aa _ _ hmp];exact hm
 have hp2:ah h1 p (.box (.agg B.t.cs)) p=.box (.agg B.t.cs):=ad _ _ _
 have rm2:ah ro1 p .no m=.no:=by rw[aa _ _ hmp];exact rm
 have rp2:ah ro1 p .no p=.no:=ad _ _ _
 generalize ah h1 p (.box (.agg B.t.cs))=h2 at x2 f2 hm2 hp2
 generalize ah ro1 p .no=ro2 at x2 f2 rm2 rp2
 clear x1 f1 hm rm t2 hat hld
 have up:(h2 p).used=true:=by rw[hp2];rfl
 obtain⟨it1,hit1⟩:∃it1:It,it1={ it with regs:=st.regs,priv:=st.mem 3 }:=⟨_,rfl⟩
 rw[<- hit1]at hK
 have tt:dg c it1.block=B.t:=by rw[hit1];exact ht
 have o3:=(x2.sr.mem 3 (by omega) (by omega)).one
 have oR:=x2.sr.regs.one
 have oL:=x2.sr.sl.one
 refine⟨fun qs h'=>Fr ro h ro2 h'/\dQ h' ro2 n c l (aP c it1) dR dL dE dm nm ents st/\h' m=.box (.agg [.int .i64 0,.int .i64 0,.int .i64 0,.int .i64 0,.nil,.nil,.nil])/\(dg c it1.block).kind≠5,?_,?_⟩
 ·rintro f h' ⟨f3,x3,hm3,h5⟩
  have e7:∀{K:HK},ab PP (.ld (.c (.ptr n 0 10)) 7 true) h' K=K (rE (aP c it1) dR (dm 3) dL) h':=fun {K}=>by rw[rD x3.box (by simp[jj])];rfl
  simp only[↓ba x3.used,Nat.zero_add,e7,true_and]
  rw[dq,hm3]
  refine⟨rfl,fun z hz=>?_,rfl,Nat.le_refl _,?_⟩
  ·simp[rE]at hz
   rcases hz with rfl|rfl|rfl|rfl|rfl|rfl|rfl<;>first|rfl|assumption
  have e8:setCells (.agg [.int .i64 0,.int .i64 0,.int .i64 0,.int .i64 0,.nil,.nil,.nil]) 0 (rE (aP c it1) dR (dm 3) dL).cells=rE (aP c it1) dR (dm 3) dL:=rfl
  rw[e8]
  have e9:∀{g:Heap}{K:HK},ab PP (.ld (.c (.ptr m 0 0)) 7 true) (ah g m (.box (rE (aP c it1) dR (dm 3) dL))) K=K (rE (aP c it1) dR (dm 3) dL) (ah g m (.box (rE (aP c it1) dR (dm 3) dL))):=fun {g K}=>db (ad _ _ _)
  rw[e9]
  have:=hK (ah h' m (.box (rE (aP c it1) dR (dm 3) dL))) ro2 _ (f3.I0 hmf) (x3.av rm2 _)
  simp only[zQ,h5,if_false]at this
  exact this
 have Hu:∀{g:Heap}{j:Nat}{d:D}{K:HK},g p=.box (.agg B.t.cs)->B.t.cs[j]?=some d->ab PP (.ld (.c (.ptr p 0 j)) 1 false) g K=K d g:=fun a b=>eR a b
 have ia:∀{g:Heap}{a:Int}{i:Nat}{K:HK},a=(i:Int)->i<2->g p=.box (.agg B.t.cs)->ab PP (.iadda (.c (.ptr p 0 11)) (.c (.int .i64 a)) 2 1) g K=K (.ptr p 0 (11+i)) g:=fun {g a i K} ha hi hg=>by
  subst ha
  have:ab PP (.iadda (.c (.ptr p 0 11)) (.c (.int .i64 (i:Int))) 2 1) g K=(0<=(i:Int)/\(i:Int)<((2:Nat):Int)/\(g p).live=true/\K (.ptr p 0 (11+(i:Int).toNat*1)) g):=rfl
  rw[this,hg]
  apply propext
  constructor
  ·rintro⟨-,-,-,h⟩;simpa using h
  ·intro h;exact⟨by omega,by omega,rfl,by simpa using h⟩
 have GB:∀{g:Heap}{ro2':Ro}{it':It}{b:Int}{K:Heap->Prop},dQ g ro2' n c l it dR dL dE dm nm ents st->K (ah g n (.box (.agg (jj c l { it with block:=b } dR (dm 3) dL (dm 1) (dm 2) dE nm))))->ab PP (.st (.c (.ptr n 0 12)) (.c (.int .i64 b)) 1) g fun _ h'=>K h':=fun {g ro2' it' b K} y hk=>by
  rw[dq,y.box]
  exact⟨rfl,by simp,rfl,by simp[jj],hk⟩
 have goBlock:∀{g:Heap}{b:Int},dQ g ro2 n c l it dR dL dE dm nm ents st->Fr ro h ro2 g->g m=.box (.agg [.int .i64 0,.int .i64 0,.int .i64 0,.int .i64 0,.nil,.nil,.nil])->(dg c it1.block).kind≠5->aP c it1={ it1 with block:=b }->ab PP (.st (.c (.ptr n 0 12)) (.c (.int .i64 b)) 1) g fun _ h' =>
   Fr ro h ro2 h'/\dQ h' ro2 n c l (aP c it1) dR dL dE dm nm ents st/\h' m=.box (.agg [.int .i64 0,.int .i64 0,.int .i64 0,.int .i64 0,.nil,.nil,.nil])/\(dg c it1.block).kind≠5:=by
  intro g b y fg gm h5 hl
  refine GB (it':=it) y ⟨fg.trans (Fr.av (by rw[y.rb];simp) (by simp)),?_,?_,h5⟩
  ·rw[hl]
   have:=y.MA { it1 with block:=b }
   rw[hit1]at this ⊢
   exact this
  ·rw[aa _ _ (by rintro rfl;rw[y.rb]at rm2;cases rm2)];exact gm
 simp only[↓ba up,Nat.zero_add,↓Hu hp2 (j:=0) rfl,↓aM,true_and]
 rcases hkd with h0|h0|h0|h0|h0
 ·simp only[h0,decide_true,↓af,↓ba up,Nat.zero_add,true_and]
  rw[ia (a:=0) (i:=0) rfl (by omega) hp2,Hu hp2 (j:=11) rfl]
  simp only[↓ba x2.used,Nat.zero_add,Nat.reduceAdd,ai,true_and]
  refine goBlock x2 f2 hm2 (by rw[tt,h0];simp) ?_
  simp[aP,tt,h0]
 ·simp only[h0,Int.reduceEq,decide_false,decide_true,↓af,↓ae,↓aE,x2.used,up,Nat.zero_add,Nat.reduceAdd,x2.PX,true_and]
  have e3:∀{K:D->Prop},aq PP (.ld (.c (.ptr p 0 5)) 3 true) h2 K=K B.t.a.e:=fun {K}=>by rw[bL,rD hp2 (by simp[Term.cs])];rfl
  rw[e3]
  refine Ke x2 (by rw[hw.len];exact ho) fun h3 e3 x3=>?_
  have hp3:h3 p=.box (.agg B.t.cs):=by rw[e3 p (by rw[hp2];simp)];exact hp2
  have hm3:h3 m=.box (.agg [.int .i64 0,.int .i64 0,.int .i64 0,.int .i64 0,.nil,.nil,.nil]):=by rw[e3 m (by rw[hm2];simp)];exact hm2
  have up3:(h3 p).used=true:=by rw[hp3];rfl
  rw[cq]
  by_cases hz:aX st.regs B.t.a=0
  ·simp only[hz,decide_true,Bool.not_true,↓ae,↓ba up3,Nat.zero_add,true_and]
   rw[ia (a:=1) (i:=1) rfl (by omega) hp3,Hu hp3 (j:=12) rfl]
   simp only[↓ba x3.used,Nat.zero_add,Nat.reduceAdd,ai,true_and]
   refine goBlock x3 (f2.trans (Fr.ext e3)) hm3 (by rw[tt,h0];simp) ?_
   simp[aP,tt,h0];rw[hit1];simp[hz]
  ·simp only[hz,decide_false,Bool.not_false,↓af,↓ba up3,Nat.zero_add,true_and]
   rw[ia (a:=0) (i:=0) rfl (by omega) hp3,Hu hp3 (j:=11) rfl]
   simp only[↓ba x3.used,Nat.zero_add,Nat.reduceAdd,ai,true_and]
   refine goBlock x3 (f2.trans (Fr.ext e3)) hm3 (by rw[tt,h0];simp) ?_
   simp[aP,tt,h0];rw[hit1];simp[hz]
 ·simp only[h0,Int.reduceEq,decide_false,↓ae,↓ba x2.used,Nat.zero_add,Nat.reduceAdd,ai,true_and]
  rw[dq,x2.box]
  refine⟨rfl,by simp,rfl,by simp[jj],f2.trans (Fr.av (by rw[x2.rb];simp) (by simp)),?_,?_,by rw[tt,h0];simp⟩
  ·have e:aP c it1={ it1 with at_:=2 }:=by simp[aP,tt,h0]
   rw[e]
   have:=x2.MA { it1 with at_:=2 }
   rw[hit1]at this ⊢
   exact this
  ·rw[aa _ _ (by rintro rfl;rw[x2.rb]at rm2;cases rm2)];exact hm2
 ·simp only[h0,Int.reduceEq,decide_false,↓ae,↓ba x2.used,Nat.zero_add,Nat.reduceAdd,ai,true_and]
  rw[dq,x2.box]
  refine⟨rfl,by simp,rfl,by simp[jj],f2.trans (Fr.av (by rw[x2.rb];simp) (by simp)),?_,?_,by rw[tt,h0];simp⟩
  ·have e:aP c it1={ it1 with at_:=2 }:=by simp[aP,tt,h0]
   rw[e]
   have:=x2.MA { it1 with at_:=2 }
   rw[hit1]at this ⊢
   exact this
  ·rw[aa _ _ (by rintro rfl;rw[x2.rb]at rm2;cases rm2)];exact hm2
 ·simp only[h0,Int.reduceEq,decide_false,decide_true,↓af,↓ae,↓aE,x2.used,Nat.zero_add,Nat.reduceAdd,↓cj x2.box (j:=10) rfl,↓cj x2.box (j:=13) rfl,true_and]
  have e8:∀{K:D->Prop},aq PP (.ld (.c (.ptr n 0 0)) 8 true) h2 K=K c.e:=fun {K}=>by rw[bL,rD x2.box (by simp[jj])];rfl
  rw[e8]
  refine pk (Kf hc) ?_ ?_
  ·intro z hz
   simp[Arg.get]at hz
   rcases hz with rfl|rfl|rfl|rfl
   ·exact jG c
   ·exact jY
   ·exact jY
   ·exact jY
  rw[dq,hm2]
  refine⟨rfl,(It.bZ _).one,rfl,Nat.le_refl _,?_⟩
  have e9:setCells (.agg [.int .i64 0,.int .i64 0,.int .i64 0,.int .i64 0,.nil,.nil,.nil]) 0 (bD c it.id it.epoch 3).e.cells=(bD c it.id it.epoch 3).e:=rfl
  rw[e9]
  have e10:∀{g:Heap}{K:HK},ab PP (.ld (.c (.ptr m 0 0)) 7 true) (ah g m (.box (bD c it.id it.epoch 3).e)) K=K (bD c it.id it.epoch 3).e (ah g m (.box (bD c it.id it.epoch 3).e)):=fun {g K}=>db (cs:=(bD c it.id it.epoch 3).cs) (ad _ _ _)
  rw[e10]
  have:=hK (ah h2 m (.box (bD c it.id it.epoch 3).e)) ro2 it (f2.I0 hmf) (x2.av rm2 _)
  simp only[zQ,tt,h0,if_true]at this
  rw[hit1]at this
  exact this
end
end Go.Am
namespace Go.Am
open Go Go.Proofs
theorem T5 {vals:Array Value}(h:vals.size=8):∃a b c d e f g i:Value,vals = #[a,b,c,d,e,f,g,i]:=by
 obtain⟨l⟩:=vals
 match l,h with
 | [a,b,c,d,e,f,g,i],_=>exact⟨a,b,c,d,e,f,g,i,rfl⟩
theorem K1:Idle PP gu 8:=by
 intro w vals hs
 obtain⟨a,b,c,d,e,f,g,i,rfl⟩:=T5 hs
 refine CallsDIn.mono (R:=fun e u w'=>e=.returned (.tuple #[])/\u=.returning/\w'=w) ?_ (by rintro e u w' ⟨rfl,rfl,rfl⟩;exact⟨_,rfl,rfl,rfl⟩)
 refine callsDIn_of_wpSIn Try.func59 rfl trivial fun c₀ cs hu=>?_
 apply wpSIn_seq
 apply wpSIn_region
 simp[wpOpsSIn,go_sem,recoverD,hu,Try.ntmps59,Exit.thenS]
 apply wpSIn_seq
 apply wpSIn_region
 simp[wpOpsSIn,go_sem,Exit.thenS]
 refine wpSIn_cond (t:=false) (by simp[Act.eval]) ?_
 simp only[Bool.false_eq_true,if_false]
 refine wpSIn_of_wpIn rfl (wpIn_skip ?_)
 cases c₀
 simp_all [bodyPostS,results]
theorem grow {c:Ctx}(hr:aj c) (o:Obj):c.le ⟨c.ρ,c.X,c.h,c.hp.push o⟩/\aj ⟨c.ρ,c.X,c.h,c.hp.push o⟩:=by
 have hg:∀g,g<c.hp.size->(c.hp.push o)[g]?=c.hp[g]?:=fun g h=>by rw[Array.getElem?_push,if_neg (by omega)]
 have lt:∀{g:Nat}{x:Obj},c.hp[g]?=some x->g<c.hp.size:=fun h=>(Array.getElem?_eq_some_iff.1 h).1
 have hle:c.le ⟨c.ρ,c.X,c.h,c.hp.push o⟩ :=
  ⟨by simp,rfl,fun g h _=>hg g h,fun g cur _ _ h=>⟨cur,by rw[<- h];exact hg g (lt h),rfl⟩,fun g r h=>⟨r,by rw[<- h];exact hg g (lt h),rfl⟩,fun _ _=>rfl,fun _=>Trans.refl _,fun n g hm hρ _=>⟨n,hm,hρ⟩⟩
 refine⟨hle,fun n=>gC hle (hr.slot n) (fun _ _=>rfl) (fun g hm hρ=>?_),hr.inj,hr.apart,fun g hx=>by have:=hr.xlt g hx;simp;omega,hr.fin,hr.glob.mono hle,by have:=hr.lo;simp;omega⟩
 have hs:=hr.slot n
 refine hg g ?_
 cases hn:c.h n with
 | free=>rw[hn]at hm;cases hm
 | dead=>rw[hn]at hm;cases hm
 | box v=>rw[hn]at hs;obtain⟨g',cur,ty,h1,h2,-⟩:=hs;rw[hρ]at h1;cases h1;exact lt h2
 | arr e l =>
  rw[hn]at hs
  obtain⟨-,-,-,⟨h1,-⟩|⟨g',cur,ty,h1,h2,-⟩⟩:=hs
  ·rw[hρ]at h1;cases h1
  ·rw[hρ]at h1;cases h1;exact lt h2
 | frz e l=>rw[hn]at hm;cases hm
 | lp st B=>rw[hn]at hs;obtain⟨g',t,d,h1,h2,-⟩:=hs;rw[hρ]at h1;cases h1;exact lt h2
 | map kt l=>rw[hn]at hs;obtain⟨g',t,d,h1,h2,-⟩:=hs;rw[hρ]at h1;cases h1;exact lt h2
theorem Pa (w:World):(Instr.typeAssert (.iface 124 (.agg #[])) 20 124 true).run PP w=.ok (.tuple #[.agg #[],.bool true]) w:=by kernel_rfl
def QD (o:Oper):Prop:=(∃t x,o.op=.load t x)\/∃t x y,o.op=.store t x y
theorem UL {F:Fence}{n:Nat}{o:Oper}{a:Act}{w:World}{next next':Act->World->Prop}{Q:Exit->Act->World->Prop}{dfs:List Deferred}(hd:a.defers=dfs) (hn:∀v w',next (a.put o.dst v) w'->next' (a.put o.dst v) w'){s:Sem Value}
  (h:o.uponIn F n PP a next Q ((do pure (Next.value (<- s)):Sem Next).run PP w)):o.uponIn F n PP a next' (fun e a' w'=>Q e a' w'/\a'.defers=dfs) ((do pure (Next.value (<- s)):Sem Next).run PP w):=by
 simp only[Sem.run_bind]at h ⊢
 cases hr:s.run PP w with
 | ok v w'=>rw[hr]at h;exact hn v w' h
 | halt x w' =>
  rw[hr]at h
  cases x with
  | panic v=>exact⟨h,hd⟩
  | _=>exact h
theorem UM {F:Fence}{n:Nat}{o:Oper}{a:Act}{w:World}{next next':Act->World->Prop}{Q:Exit->Act->World->Prop}{dfs:List Deferred}(hd:a.defers=dfs) (hn:∀v w',next (a.put o.dst v) w'->next' (a.put o.dst v) w'){s:Sem Unit}
  (h:o.uponIn F n PP a next Q ((do s;pure Next.skip:Sem Next).run PP w)):o.uponIn F n PP a next' (fun e a' w'=>Q e a' w'/\a'.defers=dfs) ((do s;pure Next.skip:Sem Next).run PP w):=by
 simp only[Sem.run_bind]at h ⊢
 cases hr:s.run PP w with
 | ok v w'=>rw[hr]at h;exact hn _ w' h
 | halt x w' =>
  rw[hr]at h
  cases x with
  | panic v=>exact⟨h,hd⟩
  | _=>exact h
theorem Se {F:Fence}{n:Nat}{o:Oper}{a:Act}{w:World}{next next':Act->World->Prop}{Q:Exit->Act->World->Prop}{dfs:List Deferred}(hd:a.defers=dfs) (hn:∀v w',next (a.put o.dst v) w'->next' (a.put o.dst v) w') (ho:QD o)
  (h:o.uponIn F n PP a next Q ((execOp a.eval o).run PP w)):o.uponIn F n PP a next' (fun e a' w'=>Q e a' w'/\a'.defers=dfs) ((execOp a.eval o).run PP w):=by
 rcases ho with⟨t,x,e⟩|⟨t,x,y,e⟩
 ·simp only[execOp,e]at h ⊢
  exact UL hd hn h
 ·simp only[execOp,e]at h ⊢
  exact UM hd hn h
theorem Lp {F:Fence}{n:Nat}{ops:Array Oper}{Q:Exit->Act->World->Prop}{dfs:List Deferred}(hops:∀(i:Nat) (o:Oper),ops[i]?=some o->QD o) :
  ∀(l:List Nat) (a:Act) (w:World),a.defers=dfs->wpOpsIn F n PP ops Q l a w->wpOpsIn F n PP ops (fun e a' w'=>Q e a' w'/\a'.defers=dfs) l a w:=by
 intro l
 induction l with
 | nil=>exact fun a w hd h=>⟨h,hd⟩
 | cons i rest ih =>
  intro a w hd h
  have put:∀v dst,(a.put dst v).defers=dfs:=fun v dst=>by cases dst<;>exact hd
  simp only[wpOpsIn]at h ⊢
  cases ho:ops[i]? with
  | none=>rw[ho]at h;exact ih a w hd h
  | some o =>
   rw[ho]at h
   simp only at h ⊢
   by_cases hw:Region.wanted o (yielded ops a.tmps)=true
   ·rw[if_pos hw]at h ⊢
    refine⟨h.1,?_⟩
    have h2:=h.2
    have hnd:∀c,o.op≠.defer c:=by
     rcases hops i o ho with⟨t,x,e⟩|⟨t,x,y,e⟩<;>rw[e]<;>intro c hc<;>cases hc
    rw[Oper.semAt_eq _ _ _ hnd]at h2 ⊢
    exact Se hd (fun v w' hh=>ih _ _ (put _ _) hh) (hops i o ho) h2
   ·rw[if_neg hw]at h ⊢
    exact⟨h.1,ih _ _ (put _ _) h.2⟩
def l5:List AOper:=[⟨(some 22),.ld (.t 0) 7 true,none⟩,⟨(some 23),.ld (.t 1) 1 false,none⟩,⟨(some 24),.ld (.t 2) 1 false,none⟩,⟨none,.st (.t 3) (.t 22) 7,none⟩,⟨none,.st (.t 4) (.t 23) 1,none⟩,⟨none,.st (.t 5) (.t 24) 1,none⟩,⟨none,.st (.t 6) (.c .nil) 1,none⟩,
  ⟨none,.st (.t 7) (.c (.int .i64 70)) 1,none⟩]
noncomputable def Ni:Array Oper:=match Try.f59.body with
 | some (.seq _ (.seq _ (.cond _ (.seq _ (.region _ ops _)) _)))=>ops
 | _=> #[]
theorem PE:(Ni.toList.drop 0).mapM (cOper PP true 25 Ni)=some l5:=by kernel_rfl
theorem ops5_ls (i:Nat) (o:Oper) (h:Ni[i]?=some o):QD o:=by
 have:Ni.toList.all (fun o=>match o.op with|.load _ _=>true|.store _ _ _=>true|_=>false)=true:=by kernel_rfl
 have hm:o∈Ni.toList:=by
  rw[<- Array.getElem?_toList]at h
  exact List.mem_of_getElem? h
 have:=(List.all_eq_true.1 this) o hm
 unfold QD
 split at this
 ·rename_i t x e;exact Or.inl ⟨t,x,e⟩
 ·rename_i t x y e;exact Or.inr ⟨t,x,y,e⟩
 ·cases this
theorem K3 {ds:List D}{h:Heap}{K:Heap->Prop}(hds:ds.length=8) (hv:wJ PP l5 (fun _ h'=>K h') (params ds 0) h):OU PP gu ds h K:=by
 intro c0 w vals hh hp hr hs hrel
 obtain⟨a,b,c,d,e,f,g,i,rfl⟩:=T5 (hs.trans hds)
 have hpv:bV.panv=Value.iface 124 (.agg #[]):=rfl
 rw[hpv]
 generalize hR:(fun(e:Ending) (u:FrameMode) (w':World)=>∃(v:Value) (ρ:Nat->Option Nat) (h':Heap),e=.returned v/\u=.panicking [{ v:=Value.iface 124 (.agg #[]),recovered:=true }] /\
   c0.le ⟨ρ,c0.X,h',w'.heap⟩/\aj ⟨ρ,c0.X,h',w'.heap⟩/\WS w w'/\K h')=R
 refine callsDIn_of_wpSIn Try.func59 rfl trivial fun c₀ cs hu=>?_
 apply wpSIn_seq
 apply wpSIn_region
 simp[wpOpsSIn,go_sem,recoverD,hu,Try.ntmps59,Exit.thenS]
 apply wpSIn_seq
 apply wpSIn_region
 simp[wpOpsSIn,go_sem,Exit.thenS]
 refine wpSIn_cond (t:=true) (by simp[Act.eval]) ?_
 simp only[if_true]
 apply wpSIn_seq
 apply wpSIn_seq
 apply wpSIn_region
 simp[wpOpsSIn,go_sem,Exit.thenS,Pa]
 apply wpSIn_seq
 apply wpSIn_region
 simp[wpOpsSIn,go_sem,Exit.thenS]
 refine wpSIn_cond (t:=false) (by simp[Act.eval]) ?_
 simp only[Bool.false_eq_true,if_false]
 refine wpSIn_of_wpIn rfl (wpIn_skip ?_)
 refine wpSIn_of_wpIn rfl ?_
 obtain⟨g1,g2⟩:=grow hr (Obj.cells #[] 124)
 have hw1:(w.alloc (Obj.cells #[] 124)).heap=c0.hp.push (Obj.cells #[] 124):=by rw[hp];rfl
 generalize hw1':w.alloc (Obj.cells #[] 124)=w1 at hw1 ⊢
 have ws1:WS w w1:=by subst hw1';exact⟨rfl,rfl,rfl⟩
 obtain⟨cg,hcg⟩:∃cg:Ctx,cg=⟨c0.ρ,c0.X,c0.h,c0.hp.push (Obj.cells #[] 124)⟩:=⟨_,rfl⟩
 rw[<- hcg]at g1 g2
 obtain⟨c1,hc1⟩:∃c1:Ctx,c1=⟨c0.ρ,⟨c0.X.p,c0.X.lo,[]⟩,c0.h,w1.heap⟩:=⟨_,rfl⟩
 have hsame:jr cg c1:=by subst hc1 hcg;exact⟨rfl,rfl,fun _=>Iff.rfl,by rw[hw1],fun _ _ _ _ h=>by rw[hw1];exact h,fun _ _ h=>by rw[hw1];exact h,fun _ _ _ h=>by rw[hw1];exact h⟩
 have hg1:dU c1:=fun k o hk=>by
  have:=g2.glob k o hk
  subst hc1 hcg
  refine⟨by rw[hw1];exact this.1,fun ho=>this.2 ((hsame.own k).1 ho),by rw[hw1];exact this.3⟩
 have hr1:aj c1:=g2.av hsame hg1 (by subst hc1;have:=g2.lo;subst hcg;rw[hw1];exact this)
 let a1:Act:=⟨#[a,b,c,d,e,f,g,i]++(((((((((((((Array.replicate 17 Go.undef).setIfInBounds 3 (Value.iface 124 (Value.agg #[]))).setIfInBounds 0 (Value.iface 124 (Value.agg #[]))).setIfInBounds 4 (Value.iface 124 (Value.agg #[]))).setIfInBounds 5 (Value.bool true)).setIfInBounds 7 (Value.iface 124 (Value.agg #[]))).setIfInBounds
  8 (Value.tuple #[Value.agg #[],Value.bool true])).setIfInBounds 6 (Value.tuple #[Value.agg #[],Value.bool true])).setIfInBounds 9 (Value.agg #[])).setIfInBounds 10 (Value.bool true)).setIfInBounds 1 (Value.pointer (some { block:=w.heap.size,off:=0 }))).setIfInBounds 2 (Value.bool true)).setIfInBounds 11 (Value.bool true)).setIfInBounds 12 (Value.bool !true),[]⟩
 have hsim:jV c1 25 (params ds 0).get a1:=by
  refine⟨hg1,hr1.lo,eP.nil (by subst hc1;rfl),by simp[a1],fun k=>?_⟩
  rw[lj]
  split
  ·rename_i hk
   rw[Nat.sub_zero]
   have hkl:k<ds.length:=by omega
   have hk8:k<8:=by omega
   have:ds.getD k .undef=ds[k]:=by simp[List.getD,hkl]
   rw[this]
   have:=((hrel k ds[k] (List.getElem?_eq_getElem hkl)).mono (g1)).av hsame
   have e1:a1.tmps.getD k Go.undef=(#[a,b,c,d,e,f,g,i]:Array Value).getD k Go.undef:=by
    simp only[a1,Array.getD_eq_getD_getElem?]
    rw[Array.getElem?_append_left (by simpa using hk8)]
   rw[e1];exact this
  ·exact .undef _
 have hch:c1.h=h:=by subst hc1;exact hh
 have haw:=EV (nt:=25) l5 0 PE hv
 have hq:=haw none c1 w1 a1 (fun e a' w'=>e=.normal/\Fin c1 w1 25 (up fun _ h'=>K h') a' w') hch (by subst hc1;rfl) hr1 hsim (fun a' w' hf=>⟨rfl,hf⟩)
 have hq2:=Lp (dfs:=[]) ops5_ls _ a1 w1 rfl hq
 have hreg:=wpIn_region (id:=5) hq2
 refine wpIn_mono hreg ?_
 rintro x a' w' ⟨⟨rfl,ρ,t,h',r1,r2,r3,r4,e',rfl,hk⟩,hd⟩
 have hle:cg.le ⟨ρ,cg.X,h',w'.heap⟩:=by
  have:=r1.Po cg.X cg.X rfl
  subst hc1 hcg
  rw[hw1]at this
  exact this
 have hle0:c0.le ⟨ρ,c0.X,h',w'.heap⟩:=by
  have:=g1.trans hle
  subst hcg;exact this
 refine⟨hd,_,rfl,.tuple #[],by simp[results,go_sem,Try.f59],?_⟩
 rw[<- hR]
 refine⟨_,ρ,h',rfl,rfl,hle0,?_,ws1.trans r3,hk⟩
 refine aj.av (c:=⟨ρ,c1.X,h',w'.heap⟩) (c':=⟨ρ,c0.X,h',w'.heap⟩) ⟨rfl,rfl,fun g=>by subst hc1;exact Iff.rfl,rfl,fun _ _ _ _ h=>h,fun _ _ h=>h,fun _ _ _ h=>h⟩ r2 (hr.glob.mono hle0) (Nat.le_trans hr.lo hle0.size)
theorem Rl {s a:Int}(ha:gM a):gM (JW s a) :=
 bP (bP ha (dn _))<|bP (dn _)<|bP (dn _)<|bP (dn _) (DB ha (by simp[IntKind.bits]))
theorem Nc {c:Code}{l:dk}{id:Int}{x:aN}{st:St}(hl:js c l) (hw:qA c st) (hx:lP c x) (hop:x.op<=6):gM (gr c l id x st.regs):=by
 have va:=fun {o:dX}(ho:iW c.regs o)=>jx hw.regs ho
 have z:gM 0:=⟨by omega,by omega⟩
 unfold gr
 obtain⟨hx,-,-⟩:=hx
 cases hx with
 | mov d a h1 h2=>simpa using va h2
 | un s d a h0 h1 h2=>simpa using Rl (va h2)
 | bin s d a b h0 h1 h2 h3=>simpa using Hl h0 (va h2) (va h3)
 | sel d a b cc h1 h2 h3 h4=>simpa using bP (va h4) (va h3)
 | id s d h0 h1=>simpa using dn _
 | param k d h0 h1=>simpa using G1 hl.w _
 | load _ _ _ _ _ _=>simp at hop
 | store _ _ _ _ _ _=>simp at hop
 | atom _ _ _ _ _ _ _ _=>simp at hop
 | fence _ _=>simp at hop
theorem qA.ox {c:Code}{st:St}(h:qA c st){k:Nat}{v:Int}(hv:gM v):qA c (st.ox k v):=⟨by simpa[St.ox] using h.len,Dz h.regs hv,h.mem⟩
theorem qA.tell {c:Code}{st:St}(h:qA c st) (e:Ev):qA c (st.tell c e):=⟨h.len,h.regs,h.mem⟩
theorem wP {c:Code}{st:St}{e:Ev}:(st.tell c e).ev.length<=st.ev.length+1:=by
 simp only[St.tell];split<;>simp
theorem EH {c:Code}{l:dk}{id:Int}{x:aN}{e:Ev}{st st':St}(hc:bj c) (hl:js c l) (hw:qA c st) (hx:lP c x) (h:cH c l id x e st=some st'):qA c st'/\st'.ev.length<=st.ev.length+1:=by
 unfold cH at h
 by_cases h7:x.op=7
 ·rw[if_pos h7]at h
  split at h
  ·obtain⟨k,h1,h2,h3,-⟩:=hx.acc (Or.inl h7)
   cases h
   rw[h1]
   exact⟨(hw.tell _).ox (St.qG hw (fQ hc h2) hc _),wP⟩
  ·cases h
 rw[if_neg h7]at h
 by_cases h8:x.op=8
 ·rw[if_pos h8]at h
  split at h
  ·obtain⟨k,h1,h2,h3,h4⟩:=hx.acc (Or.inr (Or.inl h8))
   cases h
   exact⟨(hw.put (jx hw.regs (h4 h7))).tell _,wP⟩
  ·cases h
 rw[if_neg h8]at h
 by_cases h9:x.op=9
 ·rw[if_pos h9]at h
  split at h
  ·obtain⟨k,h1,h2,h3,h4⟩:=hx.acc (Or.inr (Or.inr h9))
   cases h
   rw[h1]
   exact⟨(hw.put (Hl (hx.IG h9) (St.qG hw (fQ hc h2) hc _) (jx hw.regs (h4 h7)))).tell _,wP⟩
  ·cases h
 rw[if_neg h9]at h
 by_cases h10:x.op=10
 ·rw[if_pos h10]at h
  cases h
  exact⟨hw.tell _,wP⟩
 rw[if_neg h10]at h
 cases h
 have hop:x.op<=6:=by have:=hx.Tx;omega
 exact⟨hw.ox (Nc hl hw hx hop),by simp[St.ox]⟩
theorem GJ {c:Code}{l:dk}{id av block:Int}(hc:bj c) (hl:js c l):∀(xs:List aN) (k:Nat) (st st':St),(∀x∈xs,lP c x)->qA c st->runP c l id av block xs k st=some st'->qA c st'/\st'.ev.length<=st.ev.length+xs.length
 | [],k,st,st',_,hw,h=>by cases h;exact⟨hw,by simp⟩
 | x::r,k,st,st',hx,hw,h=>by
  simp only[runP,Option.bind_eq_some_iff]at h
  obtain⟨s1,h1,h2⟩:=h
  obtain⟨w1,l1⟩:=EH hc hl hw (hx x (by simp)) h1
  obtain⟨w2,l2⟩:=GJ hc hl r (k+1) s1 st' (fun y hy=>hx y (by simp[hy])) w1 h2
  exact⟨w2,by simp;omega⟩
structure L0 (c:Code) (l:dk) (it:It):Prop where
 id:0<=it.id/\it.id<l.groups*c.group
 at_:it.at_=1\/it.at_=2\/it.at_=3
 block:0<=it.block/\it.block<(c.b.length:Int)
 len:(it.regs.length:Int)=c.regs
 regs:∀v∈it.regs,gM v
 priv:fY c.arrays 3 it.priv
theorem GH {c:Code}{l:dk}{it:It}{g s:Mm}(h:L0 c l it) (hg:fY c.arrays 1 g) (hs:fY c.arrays 2 s):qA c (wF it g s):=by
 refine⟨h.len,h.regs,fun k h1 h2=>?_⟩
 have:k=1\/k=2\/k=3:=by omega
 rcases this with rfl|rfl|rfl
 ·exact hg
 ·exact hs
 ·exact h.priv
theorem Na {h:Heap}{KH:HK}(h1:KH .nil h)
  (hK:∀(q:Nat) (h':Heap),h q=.free->h' q=.arr 1 []->(∀k,h k≠.free->h' k=h k)->KH (.ms q 0 0) h'):ag PP aS [.sl []] h KH:=by
 refine aW fv (aA _ _ _) rfl (fu _ _) ?_
 (unfold du;try dsimp only[xL,yL,xF,yF,xI,yI,xS,zI,zJ])
 have:∀{KH:HK},ab PP (.nilq false (.c (.sl []))) h KH=(KH (.bool true) h/\KH (.bool false) h):=rfl
 rw[this,ae,af]
 refine⟨h1,m6 fun n t=>?_⟩
 refine⟨fun d hd=>(by cases hd),fun y hy=>(by cases hy),[],ad _ _ _,rfl,rfl,⟨by simp,by simp⟩,fun m t2=>?_⟩
 have hf:=t2.free
 have hmn:m≠n:=by rintro rfl;rw[ad]at hf;cases hf
 exact hK m (ah (ah (ah h n (.arr 1 [])) n .dead) m (.arr 1 [])) (by rw[aa _ _ hmn]at hf;exact hf) (ad _ _ _) fun k hk=>by
  have h1:k≠n:=t.ne hk
  have h2:k≠m:=t2.ne (by rw[aa _ _ h1];exact hk)
  rw[aa _ _ h2,aa _ _ h1,aa _ _ h1]
theorem cv.UG {ro:Ro}{h h':Heap}{n:Nat}(hn:h n=.free) (hk:∀k,h k≠.free->h' k=h k) (r:lV):cv h ro h' (ah ro n r):=fun k hf _=>by
 have:k≠n:=by rintro rfl;exact hf hn
 exact⟨hk k hf,aa _ _ this⟩
theorem I3 {a b c d e f g i:Nat}{h:Heap}{K:Heap->Prop}
  (hv:ab PP (.ld (.c (.ptr a 0 0)) 7 true) h fun x h1=>ab PP (.ld (.c (.ptr b 0 0)) 1 false) h1 fun y h2=>ab PP (.ld (.c (.ptr c 0 0)) 1 false) h2 fun z h3 =>
   ab PP (.st (.c (.ptr d 0 0)) (.c x) 7) h3 fun _ h4=>ab PP (.st (.c (.ptr e 0 0)) (.c y) 1) h4 fun _ h5=>ab PP (.st (.c (.ptr f 0 0)) (.c z) 1) h5 fun _ h6 =>
   ab PP (.st (.c (.ptr g 0 0)) (.c .nil) 1) h6 fun _ h7=>ab PP (.st (.c (.ptr i 0 0)) (.c (.int .i64 70)) 1) h7 fun _ h8=>K h8) :
  OU PP gu [.ptr a 0 0,.ptr b 0 0,.ptr c 0 0,.ptr d 0 0,.ptr e 0 0,.ptr f 0 0,.ptr g 0 0,.ptr i 0 0] h K:=K3 rfl hv
end Go.Am
