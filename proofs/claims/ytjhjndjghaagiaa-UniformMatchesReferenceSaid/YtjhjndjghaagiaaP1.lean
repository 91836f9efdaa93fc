/- What the functions of this chapter give, on plain data. No condition. -/
import Derived.Test.YtjhjndjghaagiaaT1
set_option linter.unnecessarySimpa false
set_option linter.defProp false
set_option linter.unusedSectionVars false
set_option linter.unusedSimpArgs false
set_option linter.unusedVariables false

namespace Go.Am
open Go
variable [bW]
variable {P:Program}{KH:HKq}{K:D->Prop}{l:LH}
end Go.Am
namespace Go.Am
open Go
variable [bW]
variable {P:Program}
structure MS where
 group:Int
 sub:Int
 regs:Int
 loops:List Loop
 blocks:List Block
def xH (bs:List Nat):D:=.sl (bs.map fun(b:Nat)=>.int .u8 (b:Int))
def cX (bs:List Nat) (k:Nat) (arrs:D) (s:MS) (vL vB:D):D :=
 .agg [xH bs,.int .i64 (k:Int),.int .i64 s.group,.int .i64 s.sub,.int .i64 s.regs,.int .i64 0,.int .i64 3,arrs,vL,vB]
def cy (vs:List D) (bs:List Block):List D:=List.zipWith (fun v b=>D.agg (v::b.t.cs)) vs bs
def bE (l:List D):List Nat:=l.flatMap D.jV
structure Rows (h:Heap) (loops:List Loop) (blocks:List Block) (vL vB:D) (vs:List D):Prop where
 oL:Own 3 h vL (loops.map Loop.e)
 oB:Own 14 h vB (cy vs blocks)
 len:vs.length=blocks.length
 oI:∀(k:Nat) (v:D) (b:Block),vs[k]?=some v->blocks[k]?=some b->Own 15 h v (b.i.map aX.e)
 nd:(bE (vL::vB::vs)).Nodup
structure aP (h:Heap) (n k:Nat) (arrs:D) (s:MS):Prop where
 st:∃(bs:List Nat) (j:Nat) (vL vB:D) (vs:List D),(∀b∈bs,b<=255)/\bs.length<=9223372036854775807/\j<=k/\h n=.box (cX bs j arrs s vL vB)/\Rows h s.loops s.blocks vL vB vs
def aK (n:Nat) (h h':Heap):Prop:=∀m d,m≠n->h m=.box d->h' m=.box d
theorem aK.rfl {n:Nat}{h:Heap}:aK n h h:=fun _ _ _ h=>h
theorem aK.trans {n:Nat}{a b c:Heap}(h:aK n a b) (k:aK n b c):aK n a c:=fun m d hm hd=>k m d hm (h m d hm hd)
theorem aK.self {n:Nat}{h:Heap}{s:Slot}:aK n h (aD h n s):=fun m d hm hd=>by rw[an _ _ hm];exact hd
theorem aK.new {n m:Nat}{h:Heap}{s:Slot}(hm:h m=.free):aK n h (aD h m s):=fun k d _ hd=>by
 rw[an _ _ (by rintro rfl;rw[hm]at hd;cases hd)];exact hd
theorem dD {esz:Nat}{h h':Heap}{v:D}{els:List D}(ho:Own esz h v els) (hk:∀k∈v.jV,h' k=h k):Own esz h' v els:=by
 rcases ho with ho|⟨q,rfl,hq⟩
 ·exact Or.inl ho
 ·exact Or.inr ⟨q,rfl,by rw[hk q (by simp[D.jV])];exact hq⟩
theorem qf {esz:Nat}{h:Heap}{v:D}{els:List D}(ho:Own esz h v els){k:Nat}(hk:k∈v.jV):h k=.arr esz els:=by
 rcases ho with⟨rfl,-⟩|⟨q,rfl,hq⟩
 ·simp[D.jV]at hk
 ·simp[D.jV]at hk;subst hk;exact hq
theorem Rows.congr {h h':Heap}{loops:List Loop}{blocks:List Block}{vL vB:D}{vs:List D}(r:Rows h loops blocks vL vB vs) (hk:∀k,k∈bE (vL::vB::vs)->h' k=h k):Rows h' loops blocks vL vB vs:=by
 have mem:∀v,v∈vL::vB::vs->∀k∈v.jV,k∈bE (vL::vB::vs):=fun v hv k hkv=>List.mem_flatMap.2 ⟨v,hv,hkv⟩
 refine⟨dD r.oL fun k q=>hk k (mem _ (by simp) k q),dD r.oB fun k q=>hk k (mem _ (by simp) k q),r.len,fun k v b hv hb=>dD (r.oI k v b hv hb) fun j q=>hk j (mem v ?_ j q),r.nd⟩
 have:=ak hv
 simp[this]
theorem Rows.arr {h:Heap}{loops:List Loop}{blocks:List Block}{vL vB:D}{vs:List D}(r:Rows h loops blocks vL vB vs){k:Nat}(hk:k∈bE (vL::vB::vs)):∃e l,h k=.arr e l:=by
 obtain⟨v,hv,hkv⟩:=List.mem_flatMap.1 hk
 rcases List.mem_cons.1 hv with rfl|hv
 ·exact⟨_,_,qf r.oL hkv⟩
 rcases List.mem_cons.1 hv with rfl|hv
 ·exact⟨_,_,qf r.oB hkv⟩
 obtain⟨i,hi⟩:=aO hv
 obtain⟨b,hb⟩:∃b,blocks[i]?=some b:=by
  have:=(ah.1 hi).1
  exact⟨blocks[i]'(by rw[<- r.len];exact this),aC _⟩
 exact⟨_,_,qf (r.oI i v b hi hb) hkv⟩
theorem Rows.box {h:Heap}{loops:List Loop}{blocks:List Block}{vL vB:D}{vs:List D}(r:Rows h loops blocks vL vB vs){n:Nat}{d:D}(hn:h n=.box d) (s:Slot):Rows (aD h n s) loops blocks vL vB vs :=
 r.congr fun k hk=>by
  obtain⟨e,l,hkl⟩:=r.arr hk
  rw[an _ _ (by rintro rfl;rw[hn]at hkl;cases hkl)]
theorem Rows.free {h:Heap}{loops:List Loop}{blocks:List Block}{vL vB:D}{vs:List D}(r:Rows h loops blocks vL vB vs){n:Nat}(hn:h n=.free) (s:Slot):Rows (aD h n s) loops blocks vL vB vs :=
 r.congr fun k hk=>by
  obtain⟨e,l,hkl⟩:=r.arr hk
  rw[an _ _ (by rintro rfl;rw[hn]at hkl;cases hkl)]
theorem aP.new {h:Heap}{n k:Nat}{arrs:D}{s:MS}(r:aP h n k arrs s){m:Nat}(hm:h m=.free) (x:Slot):aP (aD h m x) n k arrs s/\m≠n:=by
 obtain⟨bs,j,vL,vB,vs,h1,h2,h3,h4,h5⟩:=r.st
 have hne:n≠m:=by rintro rfl;rw[h4]at hm;cases hm
 exact⟨⟨bs,j,vL,vB,vs,h1,h2,h3,by rw[an _ _ hne];exact h4,h5.free hm x⟩,hne.symm⟩
theorem aP.cc {h:Heap}{n k:Nat}{arrs:D}{s:MS}(r:aP h n k arrs s){m:Nat}{d:D}(hm:h m=.box d) (hne:m≠n) (x:Slot):aP (aD h m x) n k arrs s:=by
 obtain⟨bs,j,vL,vB,vs,h1,h2,h3,h4,h5⟩:=r.st
 exact⟨bs,j,vL,vB,vs,h1,h2,h3,by rw[an _ _ hne.symm];exact h4,h5.box hm x⟩
theorem aP.le {h:Heap}{n k k':Nat}{arrs:D}{s:MS}(r:aP h n k arrs s) (hk:k<=k'):aP h n k' arrs s:=by
 obtain⟨bs,j,vL,vB,vs,h1,h2,h3,h4,h5⟩:=r.st
 exact⟨bs,j,vL,vB,vs,h1,h2,by omega,h4,h5⟩
theorem RZ {KH:HKq}{h:Heap}{esz bytes:Nat}{z s d:D}{els:List D}(ho:Own esz h s els) (hd:aN d) (hc:d.cells.length=esz) (hb:(els.length+1)*bytes<=140737488355328) (hl:els.length+1<=9223372036854775807)
  (hk:∀m h',h m=.free->h' m=.arr esz (els++[d])->(∀k,k≠m->k∉s.jV->h' k=h k)->KH (.ms m 0 (els.length+1)) h'):aa P (.app (.c s) (.c (.sl [d])) esz bytes z) h KH:=by
 refine⟨fun e he=>by simp at he;subst he;exact hc,fun y hy=>by simp at hy;subst hy;exact hd,?_⟩
 rcases ho with⟨rfl,rfl⟩|⟨m,rfl,hm⟩
 ·exact⟨⟨by simpa using hb,by simp⟩,fun n t=>hk n _ t.free (ar _ _ _) fun k hk _=>an _ _ hk⟩
 ·refine⟨els,.of hm,by simp,⟨by simpa using hb,by simpa using hl⟩,fun n t=>⟨?_,fun h0=>absurd rfl h0⟩⟩
  refine hk n _ t.free (ar _ _ _) fun k hkf hne=>?_
  have h2:k≠m:=by rintro rfl;exact hne (by simp[D.jV])
  rw[an _ _ hkf,an _ _ h2]
theorem Ak {KH:HKq}{h:Heap}{esz bytes:Nat}{z z' s d:D}{els:List D}(ho:Own esz h s els) (hd:sx d) (hc:d.cells.length=esz) (hb:(els.length+1)*bytes<=140737488355328) (hl:els.length+1<=9223372036854775807)
  (hk:∀m h',h m=.free->h' m=.arr esz (els++[d])->(∀k,k≠m->k∉s.jV->h k≠.free->h' k=h k)->KH (.ms m 0 (els.length+1)) h') :
  aa P (.bldS true esz 1 z [(0,.c d)]) h fun x h1=>aa P (.app (.c s) (.c x) esz bytes z') h1 KH:=by
 refine FZ hd.vd hd.one hc fun n5 t=>?_
 have hx:((aD h n5 (.arr esz [d])) n5).row=some (esz,[d]):=by rw[ar];rfl
 refine⟨[d],hx,by simp,?_⟩
 simp only[List.drop_zero,List.take_succ_cons,List.take_zero]
 refine⟨fun y hy=>by simp at hy;subst hy;exact hd.one,?_⟩
 have gM:∀n,pc (aD h n5 (.arr esz [d])) n->h n=.free/\n≠n5:=by
  intro n tn
  have:=tn.free
  by_cases he:n=n5
  ·subst he;rw[ar]at this;cases this
  ·rw[an _ _ he]at this;exact⟨this,he⟩
 rcases ho with⟨rfl,rfl⟩|⟨m,rfl,hm⟩
 ·refine⟨⟨by simpa using hb,by simp⟩,fun n tn=>?_⟩
  obtain⟨f1,f2⟩:=gM n tn
  exact hk n _ f1 (ar _ _ _) fun k hk _ hkf=>by rw[an _ _ hk,an _ _ (t.ne hkf)]
 ·have hmn:m≠n5:=t.ne (by rw[hm];simp)
  refine⟨els,.of (by rw[an _ _ hmn];exact hm),by simp,⟨by simpa using hb,by simpa using hl⟩,fun n tn=>⟨?_,fun h0=>absurd rfl h0⟩⟩
  obtain⟨f1,f2⟩:=gM n tn
  refine hk n _ f1 (ar _ _ _) fun k hkf hne hkk=>?_
  have h2:k≠m:=by rintro rfl;exact hne (by simp[D.jV])
  rw[an _ _ hkf,an _ _ h2,an _ _ (t.ne hkk)]
end Go.Am
namespace Go.Am
open Go
theorem pD {n:Int}:aY PP bt [.int .i64 n] (· = (fe n).e):=by
 refine bx Ef (aJ _ _ _) rfl (DU _ _) ?_
 unfold Bc
 rw[E0]
 simp[JX,nT,QC,h_ldp,FP,FQ,Mj,jD,fillD,kI]
 exact GG (cY.dS ⟨2,n,0⟩) rfl
theorem qG {v:Int}:aY PP cK [.int .i32 v] (· = (Const v).e):=by
 refine bx AO (aJ _ _ _) rfl (AE _ _) ?_
 unfold vK
 rw[E0]
 simp[JX,nT,QC,h_ldp,FP,FQ,Mj,jD,fillD,kI]
 exact GG (cY.dS ⟨1,0,v⟩) rfl
theorem OJ {bs:List Nat}{k:Nat}{d:D}(h:(bs.map fun(b:Nat)=>D.int .u8 (b:Int))[k]?=some d):∃b,b∈bs/\d=.int .u8 b:=by
 simp only[List.getElem?_map,Option.map_eq_some_iff]at h
 obtain⟨b,hb,rfl⟩:=h
 exact⟨b,ak hb,rfl⟩
theorem Gi {h:Heap}{n j:Nat}{bs:List Nat}{rest:List D}(hn:h n=.box (.agg (xH bs::.int .i64 (j:Int)::rest))) (hb:∀b∈bs,b<=255) (hl:bs.length<=9223372036854775807) (hj:j<4611686018427387904){KH:HKq}
  (hK:∀b:Nat,b<=255->KH (.int .i64 (b:Int)) (aD h n (.box (.agg (xH bs::.int .i64 ((j+1:Nat):Int)::rest))))):ai PP au [.ptr n 0 0] h KH:=by
 refine aT sr (aJ _ _ _) rfl (si _ _) ?_
 unfold m9
 have w1:IntKind.i64.wrap ((j:Int)+1)=((j+1:Nat):Int):=by rw[wrap64 (by omega) (by omega)];rfl
 simp only[↓ku,hn,Slot.live,Slot.used,true_and,↓xh,↓fZ,kz,Nat.zero_add,List.getElem?_cons_succ,List.getElem?_cons_zero,↓eK,w1,↓mQ]
 refine⟨rfl,by simp,by simp,?_⟩
 have hset:setCells (D.agg (xH bs::.int .i64 (j:Int)::rest)) 1 (D.int .i64 ((j+1:Nat):Int)).cells=.agg (xH bs::.int .i64 ((j+1:Nat):Int)::rest):=by simp[setCells]
 rw[hset]
 obtain⟨hA,eA⟩:∃hA,hA=aD h n (.box (.agg (xH bs::.int .i64 ((j+1:Nat):Int)::rest))):=⟨_,rfl⟩
 rw[<- eA]at hK ⊢
 have a1:hA n=.box (.agg (xH bs::.int .i64 ((j+1:Nat):Int)::rest)):=by rw[eA,ar]
 have e1:(∃v,hA n=.box v)=True:=eq_true ⟨_,a1⟩
 simp only[↓CC,a1,Slot.used,true_and,↓mU,↓xh,a1,↓fZ,kz,Nat.zero_add,List.getElem?_cons_succ,List.getElem?_cons_zero,xH,↓bX,aw,↓xO]
 by_cases hc:bs.length<j+1
 ·have hc':(bs.length:Int)<((j+1:Nat):Int):=by omega
  simp only[hc',decide_true,ag]
  exact hK 0 (by omega)
 ·have hc':¬(bs.length:Int)<((j+1:Nat):Int):=by omega
  have w2:IntKind.i64.wrap (((j+1:Nat):Int)-1)=(j:Int):=by rw[wrap64 (by omega) (by omega)];omega
  simp only[hc',decide_false,af,↓lS,w2,↓mV,↓Aj,aw]
  refine⟨by omega,by omega,fun d hd=>?_⟩
  obtain⟨b,hbm,rfl⟩:=OJ hd
  have hb2:=hb b hbm
  have w3:IntKind.i64.wrap (b:Int)=(b:Int):=wrap64 (by omega) (by omega)
  simp only[Fj,List.length_singleton,true_and,↓mU,↓vn,↓fZ,List.getElem?_cons_zero,↓IN,↓oW,w3]
  exact hK b hb2
theorem eJ {h:Heap}{n k:Nat}{arrs:D}{s:MS}(r:aP h n k arrs s) (hk:k<1000000){KH:HKq}(hK:∀(b:Nat) (h':Heap),b<=255->aP h' n (k+1) arrs s->aK n h h'->KH (.int .i64 (b:Int)) h') :
  ai PP au [.ptr n 0 0] h KH:=by
 obtain⟨bs,j,vL,vB,vs,h1,h2,h3,h4,h5⟩:=r.st
 refine Gi h4 h1 h2 (by omega) fun b hb=>hK b _ hb ⟨bs,j+1,vL,vB,vs,h1,h2,by omega,ar _ _ _,h5.box h4 _⟩ aK.self
theorem ba (a b:Nat):((a:Int).tmod (b:Int))=((a % b:Nat):Int):=(Int.ofNat_tmod a b).symm
theorem A8 {h:Heap}{n k:Nat}{arrs:D}{s:MS}(r:aP h n k arrs s) (hk:k<1000000){KH:HKq}(hK:∀(b:Nat) (h':Heap),b<6->aP h' n (k+1) arrs s->aK n h h'->KH (fe (b:Int)).e h') :
  ai PP aU [.ptr n 0 0] h KH:=by
 refine aT lz (aJ _ _ _) rfl (lk _ _) ?_
 unfold jR
 rw[gf]
 intro m t
 obtain⟨r1,hne⟩:=r.new t.free (.box (.agg [(.int .i64 0),(.int .i64 0),(.int .i32 0)]))
 refine eJ r1 hk fun b h' hb r2 hkeep=>?_
 have hm:=hkeep m _ hne (ar _ _ _)
 have e6:((b:Int).tmod 6)=((b % 6:Nat):Int):=ba b 6
 rw[dt]
 refine⟨by omega,?_⟩
 rw[e6]
 refine gb pD ⟨aW,trivial⟩ ?_
 simp only[↓mQ,hm]
 refine⟨by first|rfl|trivial,(cY.dS _).one,by first|rfl|trivial,by simp,?_⟩
 have hset:setCells (.agg [(.int .i64 0),(.int .i64 0),(.int .i32 0)]) 0 (fe ((b % 6:Nat):Int)).e.cells=(fe ((b % 6:Nat):Int)).e:=rfl
 rw[hset]
 simp only[↓xh,ar,true_and]
 refine⟨by simp[cY.e,cY.cs],?_⟩
 refine hK (b % 6) _ (Nat.mod_lt _ (by omega)) (r2.cc hm hne _) fun q d hq hd=>?_
 have hqm:q≠m:=by rintro rfl;rw[t.free]at hd;cases hd
 rw[an _ _ hqm]
 exact hkeep q d hq (by rw[an _ _ hqm];exact hd)
def Bb (o:cY):Prop:=(∃b:Nat,b<6/\o=fe b)\/∃v:Int,-20<=v/\v<=65/\o=Const v
theorem vu {h:Heap}{n k:Nat}{arrs:D}{s:MS}(r:aP h n k arrs s) (hk:k<1000000){KH:HKq}(hK:∀(o:cY) (h':Heap),Bb o->aP h' n (k+1) arrs s->aK n h h'->KH o.e h') :
  ai PP aS [.ptr n 0 0] h KH:=by
 refine aT lx (aJ _ _ _) rfl (lh _ _) ?_
 unfold jQ
 rw[gf]
 intro m t
 obtain⟨r1,hne⟩:=r.new t.free (.box (.agg [(.int .i64 0),(.int .i64 0),(.int .i32 0)]))
 refine eJ r1 hk fun b h' hb r2 hkeep=>?_
 have hm:=hkeep m _ hne (ar _ _ _)
 have fin:∀o:cY,Bb o->aa PP (.st (.c (.ptr m 0 0)) (.c o.e) 3) h' fun _ h1=>aa PP (.ld (.c (.ptr m 0 0)) 3 true) h1 fun a _=>KH a h1:=by
  intro o ho
  simp only[↓mQ,hm]
  refine⟨by first|rfl|trivial,(cY.dS _).one,by first|rfl|trivial,by simp[cY.e,cY.cs],?_⟩
  have hset:setCells (.agg [(.int .i64 0),(.int .i64 0),(.int .i32 0)]) 0 o.e.cells=o.e:=rfl
  rw[hset]
  simp only[↓xh,ar,true_and]
  refine⟨by simp[cY.e,cY.cs],?_⟩
  refine hK o _ ho (r2.cc hm hne _) fun q d hq hd=>?_
  have hqm:q≠m:=by rintro rfl;rw[t.free]at hd;cases hd
  rw[an _ _ hqm]
  exact hkeep q d hq (by rw[an _ _ hqm];exact hd)
 have e3:((b:Int).tmod 3)=((b % 3:Nat):Int):=ba b 3
 have d3:IntKind.i64.wrap ((b:Int).tdiv 3)=((b / 3:Nat):Int):=by
  have:((b:Int).tdiv 3)=((b / 3:Nat):Int):=(Int.ofNat_tdiv b 3).symm
  rw[this];exact wrap64 (by omega) (by omega)
 rw[dt]
 refine⟨by omega,?_⟩
 rw[e3,bQ]
 by_cases hc:b % 3=0
 ·have hc':((b % 3:Nat):Int)=0:=by omega
  simp only[hc',decide_true,ag,↓GN]
  refine⟨by omega,?_⟩
  have w:IntKind.i32.wrap ((b / 3:Nat):Int)=((b / 3:Nat):Int):=by simp only[IntKind.wrap,IntKind.signed,IntKind.bits];simp;omega
  have w2:IntKind.i32.wrap (((b / 3:Nat):Int)-20)=((b / 3:Nat):Int)-20:=by simp only[IntKind.wrap,IntKind.signed,IntKind.bits];simp;omega
  rw[d3,oW,w,lS,w2]
  refine gb qG ⟨aW,trivial⟩ ?_
  exact fin _ (Or.inr ⟨_,by omega,by omega,rfl⟩)
 ·have hc':¬((b % 3:Nat):Int)=0:=by omega
  simp only[hc',decide_false,af,↓GN]
  refine⟨by omega,?_⟩
  rw[d3,dt]
  refine⟨by omega,?_⟩
  have e6:(((b / 3:Nat):Int).tmod 6)=((b / 3 % 6:Nat):Int):=ba (b / 3) 6
  rw[e6]
  refine gb pD ⟨aW,trivial⟩ ?_
  exact fin _ (Or.inl ⟨b / 3 % 6,Nat.mod_lt _ (by omega),rfl⟩)
theorem ja {vs:List D}{bs:List Block}(h:vs.length=bs.length):(cy vs bs).length=bs.length:=by simp[cy,h]
theorem Lh {vs:List D}{bs:List Block}(h:vs.length=bs.length) (v:D) (b:Block):cy (vs++[v]) (bs++[b])=cy vs bs++[.agg (v::b.t.cs)]:=by
 simp[cy,List.zipWith_append h]
theorem Ap {vs:List D}{bs:List Block}{k:Nat}{v:D}{b:Block}(h1:vs[k]?=some v) (h2:bs[k]?=some b):(cy vs bs)[k]?=some (.agg (v::b.t.cs)):=by
 simp[cy,List.getElem?_zipWith,h1,h2]
theorem Fb {vs:List D}{bs:List Block}(h:vs.length=bs.length){k:Nat}(hk:k<bs.length) (v:D) (b:Block):(cy vs bs).set k (.agg (v::b.t.cs))=cy (vs.set k v) (bs.set k b):=by
 refine List.ext_getElem? fun i=>?_
 simp only[cy,List.getElem?_set,List.length_zipWith,List.getElem?_zipWith,h,Nat.min_self]
 by_cases hi:k=i
 ·subst hi;simp[hk]
 ·simp[hi]
theorem x8 {esz:Nat}{h:Heap}{v:D}{els:List D}(ho:Own esz h v els) (hne:els≠[]):∃n,v=.ms n 0 els.length/\h n=.arr esz els:=by
 rcases ho with⟨-,h2⟩|h
 ·exact absurd h2 hne
 ·exact h
theorem Pd:(D.agg (.nil::km.cs))=.agg [.nil,.int .i64 0,.int .i64 0,.int .i64 0,.int .i64 0,.int .i32 0,.int .i64 0,.int .i64 0,.int .i32 0,.int .i64 0,.int .i64 0,.int .i32 0,.int .i64 0,.int .i64 0]:=rfl
theorem bk {d:D}{l:List D}:bE (d::l)=d.jV++bE l:=by simp[bE]
theorem qg {l l':List D}:bE (l++l')=bE l++bE l':=by simp[bE]
theorem ml {d:D}{l:List D}(h:d∈l){k:Nat}(hk:k∈d.jV):k∈bE l:=List.mem_flatMap.2 ⟨d,h,hk⟩
theorem PT {h:Heap}{n k:Nat}{arrs:D}{s:MS}(r:aP h n k arrs s) (hlen:s.blocks.length<1000){KH:HKq}
  (hK:∀h':Heap,aP h' n k arrs { s with blocks:=s.blocks++[⟨[],km⟩] }->aK n h h'->KH (.tup []) h'):ai PP bc [.ptr n 0 0] h KH:=by
 refine aT qT (aJ _ _ _) rfl (qQ _ _) ?_
 unfold lX
 obtain⟨bs,j,vL,vB,vs,h1,h2,h3,h4,h5⟩:=r.st
 simp only[↓ku,h4,Slot.live,Slot.used,true_and,↓xh,cX,↓fZ,kz,Nat.zero_add,Nat.reduceAdd,List.getElem?_cons_succ,List.getElem?_cons_zero,↓nT]
 refine⟨by intro p hp;simp at hp,?_⟩
 have hel:=ja h5.len
 simp only[List.map_nil,fillD]
 have hd:sx (D.agg (.nil::km.cs)):=ez (by simp[Term.cs,km])
 rw[<- Pd]
 refine Ak h5.oB hd rfl (by rw[hel];omega) (by rw[hel];omega) fun m h' f1 f2 f3=>?_
 have hnm:n≠m:=by rintro rfl;rw[h4]at f1;cases f1
 have hnB:n∉vB.jV:=fun hm=>by have:=qf h5.oB hm;rw[h4]at this;cases this
 have h4':h' n=h n:=f3 n hnm hnB (by rw[h4];simp)
 simp only[↓ku,h4',h4,Slot.live,Slot.used,true_and,cX,Nat.zero_add,Nat.reduceAdd,↓mQ]
 refine⟨rfl,by simp,by simp,?_⟩
 refine hK _ ⟨bs,j,vL,.ms m 0 ((cy vs s.blocks).length+1),vs++[.nil],h1,h2,h3,?_,?_⟩ fun q d hq hd=>?_
 ·rw[ar];simp[setCells,cX]
 ·
  have hnew:∀k',k'∈bE (vL::vB::vs)->h k'≠.free:=fun k' hk'=>by obtain⟨e,l,hkl⟩:=h5.arr hk';rw[hkl];simp
  have hmn:m∉bE (vL::vB::vs):=fun hm=>hnew m hm f1
  have hnd:=h5.nd
  rw[bk,bk]at hnd hmn
  simp only[List.mem_append,not_or]at hmn
  have same:∀k',k'∈bE (vL::vs)->(aD h' n (.box (setCells (.agg [xH bs,.int .i64 (j:Int),.int .i64 s.group,.int .i64 s.sub,.int .i64 s.regs,.int .i64 0,.int .i64 3,arrs,vL,vB]) 9 (D.ms m 0 ((cy vs s.blocks).length+1)).cells))) k'=h k':=by
   intro k' hk'
   rw[bk,List.mem_append]at hk'
   have hkk:k'∈bE (vL::vB::vs):=by rw[bk,bk];simp only[List.mem_append];rcases hk' with h|h<;>simp[h]
   have e1:k'≠n:=by
    rintro rfl
    obtain⟨e,l,hkl⟩:=h5.arr hkk
    rw[h4]at hkl;cases hkl
   have e2:k'≠m:=by
    rintro rfl
    rcases hk' with h|h
    ·exact hmn.1 h
    ·exact hmn.2.2 h
   have e3:k'∉vB.jV:=by
    intro hB
    rcases hk' with h|h
    ·exact(List.nodup_append.1 hnd).2.2 k' h k' (by simp[hB]) rfl
    ·exact(List.nodup_append.1 (List.nodup_append.1 hnd).2.1).2.2 k' hB k' h rfl
   rw[an _ _ e1]
   exact f3 k' e2 e3 (hnew k' hkk)
  have oB':Own 14 h' (.ms m 0 ((cy vs s.blocks).length+1)) (cy (vs++[.nil]) (s.blocks++[⟨[],km⟩])):=by
   rw[Lh h5.len]
   exact Or.inr ⟨m,by simp,f2⟩
  refine⟨dD h5.oL fun k' q=>same k' (ml (by simp) q),dD oB' fun k' q=>?_,by simp[h5.len],fun i v b hv hb=>?_,?_⟩
  ·simp only[D.jV,List.mem_singleton]at q
   subst q
   exact an _ _ hnm.symm
  ·rcases Nat.lt_or_ge i vs.length with hi|hi
   ·rw[List.getElem?_append_left hi]at hv
    rw[List.getElem?_append_left (by rw[<- h5.len];exact hi)]at hb
    refine dD (h5.oI i v b hv hb) fun k' q=>same k' (ml ?_ q)
    have:=ak hv
    simp[this]
   ·rw[List.getElem?_append_right hi]at hv
    rw[List.getElem?_append_right (by rw[<- h5.len];exact hi)]at hb
    have hz:i-vs.length=0:=by
     have:=(ah.1 hv).1
     simp at this;omega
    rw[<- h5.len,hz]at hb
    rw[hz]at hv
    simp at hv hb
    subst hv hb
    exact Or.inl ⟨rfl,rfl⟩
  ·rw[bk,bk,qg]
   simp only[D.jV,bE,List.flatMap_cons,List.flatMap_nil,List.append_nil,List.singleton_append]
   have hndL:=(List.nodup_append.1 hnd).1
   have hndR:=(List.nodup_append.1 (List.nodup_append.1 hnd).2.1).2.1
   have hnLR:∀a∈vL.jV,∀b,b∈bE vs->a≠b:=fun a ha b hb=>(List.nodup_append.1 hnd).2.2 a ha b (by simp[hb])
   refine List.nodup_append.2 ⟨hndL,List.nodup_cons.2 ⟨hmn.2.2,hndR⟩,fun a ha b hb=>?_⟩
   rcases List.mem_cons.1 hb with rfl|hb
   ·rintro rfl;exact hmn.1 ha
   ·exact hnLR a ha b hb
 ·rw[an _ _ hq]
  have e2:q≠m:=by rintro rfl;rw[hd]at f1;cases f1
  have e3:q∉vB.jV:=fun hm=>by have:=qf h5.oB hm;rw[hd]at this;cases this
  rw[f3 q e2 e3 (by rw[hd];simp)];exact hd
def EA (bs:List Block) (i:Nat) (t:Term):List Block:=bs.modify i fun b=>{ b with t:=t }
def BQ (bs:List Block) (i:Nat) (x:aX):List Block:=bs.modify i fun b=>{ b with i:=b.i++[x] }
theorem qt {α:Type}{l:List α}{i:Nat}{a:α}{f:α->α}(h:l[i]?=some a):l.modify i f=l.set i (f a):=by
 refine List.ext_getElem? fun k=>?_
 rw[List.getElem?_modify,List.getElem?_set]
 by_cases e:i=k
 ·subst e
  have:=(ah.1 h).1
  have e2:=(ah.1 h).2
  simp[this,e2]
 ·simp[e]
theorem C2 {bs:List Block}{i:Nat}{t:Term}:(EA bs i t).length=bs.length:=by simp[EA]
theorem H4 {bs:List Block}{i:Nat}{t:aX}:(BQ bs i t).length=bs.length:=by simp[BQ]
theorem aP.some {h:Heap}{n k:Nat}{arrs:D}{s:MS}(r:aP h n k arrs s) (hne:s.blocks≠[]):∃(bs:List Nat) (j:Nat) (vL:D) (nb:Nat) (vs:List D),(∀b∈bs,b<=255)/\bs.length<=9223372036854775807/\j<=k /\
  h n=.box (cX bs j arrs s vL (.ms nb 0 s.blocks.length))/\h nb=.arr 14 (cy vs s.blocks)/\Rows h s.loops s.blocks vL (.ms nb 0 s.blocks.length) vs:=by
 obtain⟨bs,j,vL,vB,vs,h1,h2,h3,h4,h5⟩:=r.st
 have hel:=ja h5.len
 obtain⟨nb,e1,e2⟩:=x8 h5.oB (by
  intro he
  have:=congrArg List.length he
  rw[hel]at this
  exact hne (List.length_eq_zero_iff.1 this))
 rw[hel]at e1
 subst e1
 exact⟨bs,j,vL,nb,vs,h1,h2,h3,h4,e2,h5⟩
theorem Rows.Td {h:Heap}{loops:List Loop}{blocks blocks':List Block}{vL:D}{nb:Nat}{vs vs':List D}(r:Rows h loops blocks vL (.ms nb 0 blocks.length) vs) (hl:blocks'.length=blocks.length) (hv:vs'.length=blocks'.length){h':Heap}
  (hkeep:∀k,k∈bE (vL::vs)->k∈bE (vL::vs')->h' k=h k) (hnb:h' nb=.arr 14 (cy vs' blocks')) (hL:∀k∈vL.jV,h' k=h k)
  (hI:∀(k:Nat) (v:D) (b:Block),vs'[k]?=some v->blocks'[k]?=some b->Own 15 h' v (b.i.map aX.e)) (hnd:(bE (vL::D.ms nb 0 blocks.length::vs')).Nodup):Rows h' loops blocks' vL (.ms nb 0 blocks'.length) vs':=by
 refine⟨dD r.oL hL,Or.inr ⟨nb,by rw[ja hv],hnb⟩,hv,hI,?_⟩
 rw[hl];exact hnd
theorem Rows.fresh {h:Heap}{loops:List Loop}{blocks:List Block}{vL vB:D}{vs:List D}(r:Rows h loops blocks vL vB vs){m:Nat}(hm:h m=.free):m∉bE (vL::vB::vs):=fun hk=>by
 obtain⟨e,l,hkl⟩:=r.arr hk
 rw[hm]at hkl;cases hkl
theorem x9 {vL:D}{nb l:Nat}{vs:List D}(h:(bE (vL::D.ms nb 0 l::vs)).Nodup):nb∉bE (vL::vs)/\(bE (vL::vs)).Nodup:=by
 rw[bk,bk]at h
 rw[bk]
 simp only[D.jV]at h
 have h1:=List.nodup_append.1 h
 have h2:=List.nodup_cons.1 (show(nb::bE vs).Nodup from h1.2.1)
 refine⟨fun hm=>?_,List.nodup_append.2 ⟨h1.1,h2.2,fun a ha b hb=>h1.2.2 a ha b (by simp[hb])⟩⟩
 rcases List.mem_append.1 hm with hm|hm
 ·exact h1.2.2 nb hm nb (by simp) rfl
 ·exact h2.1 hm
theorem Ph {h:Heap}{n k i:Nat}{arrs:D}{s:MS}{t:Term}{bs:List Nat}{j nb:Nat}{vL:D}{vs:List D}(h1:∀b∈bs,b<=255) (h2:bs.length<=9223372036854775807) (h3:j<=k) (h4:h n=.box (cX bs j arrs s vL (.ms nb 0 s.blocks.length)))
  (h5:h nb=.arr 14 (cy vs s.blocks)) (h6:Rows h s.loops s.blocks vL (.ms nb 0 s.blocks.length) vs) (hi:i<s.blocks.length) {KH:HKq}
  (hK:∀h',aP h' n k arrs { s with blocks:=EA s.blocks i t }->aK n h h'->KH .undef h'):aa PP (.st (.c (.ptr nb i 1)) (.c t.e) 13) h KH:=by
 have hel:=ja h6.len
 obtain⟨v,hv⟩:∃v,vs[i]?=some v:=⟨vs[i]'(by rw[h6.len];exact hi),aC _⟩
 obtain⟨b,hb⟩:∃b,s.blocks[i]?=some b:=⟨s.blocks[i],aC _⟩
 have hget:=Ap hv hb
 rw[mQ]
 simp only[h5,hget,Option.some.injEq,forall_eq']
 refine⟨rfl,(Term.dS t).one,by rw[hel];exact hi,by simp[Term.e,Term.cs],?_⟩
 have hset:setCells (.agg (v::b.t.cs)) 1 t.e.cells=.agg (v::t.cs):=by simp[setCells,Term.e,Term.cs]
 rw[hset]
 have hmod:EA s.blocks i t=s.blocks.set i { b with t:=t }:=by
  rw[EA];exact qt hb
 have e1:(cy vs s.blocks).set i (.agg (v::t.cs))=cy vs (EA s.blocks i t):=by
  have:=Fb h6.len hi v { b with t:=t }
  rw[show vs.set i v=vs from ?_]at this
  ·rw[hmod];exact this
  ·refine List.ext_getElem? fun q=>?_
   rw[List.getElem?_set]
   split
   ·rename_i hq;subst hq;rw[if_pos (by rw[h6.len];exact hi),hv]
   ·rfl
 rw[e1]
 have nnb:n≠nb:=by rintro rfl;rw[h4]at h5;cases h5
 obtain⟨hs1,hs2⟩:=x9 h6.nd
 refine hK _ ⟨bs,j,vL,.ms nb 0 (EA s.blocks i t).length,vs,h1,h2,h3,?_,?_⟩ fun q d hq hd=>?_
 ·rw[an _ _ nnb,h4,C2];rfl
 ·refine Rows.Td h6 (by rw[C2]) (by rw[C2];exact h6.len) (fun q hq _=>?_) (ar _ _ _) (fun q hq=>?_) (fun q v' b' hv' hb'=>?_) h6.nd
  ·rw[an _ _ (by rintro rfl;exact hs1 hq)]
  ·rw[an _ _ (by rintro rfl;exact hs1 (by rw[bk];simp[hq]))]
  ·obtain⟨b2,hb2,hbi⟩:∃b2,s.blocks[q]?=some b2/\b'.i=b2.i:=by
    simp only[EA,List.getElem?_modify]at hb'
    cases hq:s.blocks[q]? with
    | none=>rw[hq]at hb';simp at hb'
    | some b2 =>
     rw[hq]at hb'
     simp at hb'
     refine⟨b2,rfl,?_⟩
     rw[<- hb'];split<;>rfl
   rw[hbi]
   refine dD (h6.oI q v' b2 hv' hb2) fun q' hq'=>?_
   rw[an _ _ (by rintro rfl;exact hs1 (by rw[bk];simp[ml (ak hv') hq']))]
 ·rw[an _ _ (by rintro rfl;rw[hd]at h5;cases h5)];exact hd
set_option maxHeartbeats 1000000 in
theorem Ue {h:Heap}{n k:Nat}{arrs:D}{s:MS}{x:aX}{L:Nat}(r:aP h n k arrs s) (hL:s.blocks.length=L+1) (hlen:L<1000) (hil:∀b∈s.blocks,b.i.length<1000){KH:HKq}
  (hK:∀h':Heap,aP h' n k arrs { s with blocks:=BQ s.blocks L x }->aK n h h'->KH (.tup []) h'):ai PP aL [.ptr n 0 0,x.e] h KH:=by
 refine aT ub (aJ _ _ _) rfl (tE _ _ _) ?_
 unfold oh
 rw[Dz]
 refine⟨(aX.dS x).one,fun m t=>?_⟩
 obtain⟨r1,hmn⟩:=r.new t.free (.box x.e)
 obtain⟨hA,eA⟩:∃hA,hA=aD h m (.box x.e):=⟨_,rfl⟩
 rw[<- eA]at r1 ⊢
 have am:hA m=.box x.e:=by rw[eA,ar]
 have keepA:aK n h hA:=by rw[eA];exact aK.new t.free
 obtain⟨bs,j,vL,nb,vs,h1,h2,h3,h4,h5,h6⟩:=r1.some (by intro he;rw[he]at hL;simp at hL)
 have hel:=ja h6.len
 have hLs:s.blocks.length=L+1:=hL
 obtain⟨v,hv⟩:∃v,vs[L]?=some v:=⟨vs[L]'(by rw[h6.len,hLs];omega),aC _⟩
 obtain⟨b,hb⟩:∃b,s.blocks[L]?=some b:=⟨s.blocks[L]'(by rw[hLs];omega),aC _⟩
 have hget:=Ap hv hb
 have w1:IntKind.i64.wrap (((L+1:Nat):Int)-1)=(L:Int):=by rw[wrap64 (by omega) (by omega)];omega
 have c1:(0:Int)<=(L:Int):=by omega
 have c2:(L:Int)<((L+1:Nat):Int):=by omega
 have hbl:=hil b (ak hb)
 have oV:=h6.oI L v b hv hb
 have hrow:(∃els,(Slot.arr 14 (cy vs s.blocks)).row=some (14,els))=True:=eq_true ⟨_,rfl⟩
 have hLe:(L<(cy vs s.blocks).length)=True:=eq_true (by rw[hel,hLs];omega)
 simp only[↓ku,h4,Slot.used,true_and,↓xh,cX,↓fZ,kz,Nat.zero_add,Nat.reduceAdd,List.getElem?_cons_succ,List.getElem?_cons_zero,↓bu,h5,Slot.live,hLs,↓lS,w1,↓CC,↓mU,↓mV,↓mP,c1,c2,hrow,aA,hLe,hget,Option.some.injEq,forall_eq',am,↓kI]
 refine⟨Nat.le_refl _,?_⟩
 have hbld:∀{Q:D->Prop}{h:Heap}{z:D},(∀y∈z.cells,y.vone=true)->Q (.sl [x.e])->ae PP (.bldS false 15 1 z [(0,.c (.agg (List.take 15 (List.drop 0 x.e.cells))))]) h Q:=by
  intro Q h z hz hq
  have e1:D.agg (List.take 15 (List.drop 0 x.e.cells))=x.e:=rfl
  rw[e1]
  refine⟨?_,?_,hz,hq⟩
  ·intro p hp;simp[Arg.get]at hp;subst hp;exact⟨Nat.one_pos,rfl,(aX.dS x).one⟩
  ·intro p hp;simp[Arg.get]at hp;subst hp;intro y hy;simp[aX.e,aX.cs]at hy;rcases hy with rfl|rfl|rfl|rfl|rfl|rfl|rfl|rfl|rfl|rfl|rfl|rfl|rfl|rfl|rfl<;>rfl
 refine hbld (by simp) ?_
 refine RZ oV (aX.dS x).one rfl (by simp;omega) (by simp;omega) fun m2 hB f1 f2 f3=>?_
 have vB:nb∉v.jV:=fun hm=>by
  have:=(x9 h6.nd).1
  exact this (by rw[bk];exact List.mem_append_right _ (ml (ak hv) hm))
 have vN:n∉v.jV:=fun hm=>by have:=qf oV hm;rw[h4]at this;cases this
 have n2:n≠m2:=by rintro rfl;rw[h4]at f1;cases f1
 have b2:nb≠m2:=by rintro rfl;rw[h5]at f1;cases f1
 have nnb:n≠nb:=by rintro rfl;rw[h4]at h5;cases h5
 have g4:hB n=Slot.box (cX bs j arrs s vL (D.ms nb 0 s.blocks.length)):=by rw[f3 n n2 vN];exact h4
 have g5:hB nb=Slot.arr 14 (cy vs s.blocks):=by rw[f3 nb b2 vB];exact h5
 simp only[g4,g5,cX,kz,List.getElem?_cons_succ,List.getElem?_cons_zero,hLs,ab,hrow,true_and,↓mQ]
 have hset:setCells (.agg (v::b.t.cs)) 0 (D.ms m2 0 ((List.map aX.e b.i).length+1)).cells=.agg (D.ms m2 0 ((List.map aX.e b.i).length+1)::b.t.cs):=by simp[setCells]
 refine⟨rfl,by simp,by rw[hel,hLs];omega,by simp,fun d hd=>?_⟩
 rw[hget]at hd
 cases hd
 rw[hset]
 have els2:(cy vs s.blocks).set L (.agg (D.ms m2 0 ((List.map aX.e b.i).length+1)::b.t.cs))=cy (vs.set L (.ms m2 0 (b.i.length+1))) (BQ s.blocks L x):=by
  have:=Fb h6.len (k:=L) (by rw[hLs];omega) (.ms m2 0 (b.i.length+1)) { b with i:=b.i++[x] }
  rw[aw,BQ,qt hb]
  exact this
 rw[els2]
 obtain⟨hC,eC⟩:∃hC,hC=aD hB nb (.arr 14 (cy (vs.set L (.ms m2 0 (b.i.length+1))) (BQ s.blocks L x))):=⟨_,rfl⟩
 rw[<- eC]
 have k4:hC n=Slot.box (cX bs j arrs s vL (D.ms nb 0 s.blocks.length)):=by rw[eC,an _ _ nnb];exact g4
 have k5:hC nb=.arr 14 (cy (vs.set L (.ms m2 0 (b.i.length+1))) (BQ s.blocks L x)):=by rw[eC,ar]
 have k6:∀q,q≠m2->q∉v.jV->q≠nb->hC q=hA q:=fun q q1 q2 q3=>by rw[eC,an _ _ q3];exact f3 q q1 q2
 have k7:hC m2=.arr 15 (b.i.map aX.e++[x.e]):=by rw[eC,an _ _ b2.symm];exact f2
 simp only[k4,k5,cX,kz,List.getElem?_cons_succ,List.getElem?_cons_zero,hLs,ab,true_and]
 refine⟨by simp[Slot.row],?_⟩
 have fr:m2∉bE (vL::D.ms nb 0 s.blocks.length::vs):=h6.fresh f1
 have hvs:(vs.set L (D.ms m2 0 (b.i.length+1))).length=(BQ s.blocks L x).length:=by rw[List.length_set,h6.len,H4]
 obtain⟨hs1,hs2⟩:=x9 h6.nd
 have hLv:L<vs.length:=(ah.1 hv).1
 have split:∃p q,vs=p++v::q/\p.length=L:=by
  refine⟨vs.take L,vs.drop (L+1),?_,by simp;omega⟩
  have:=ah.1 hv
  rw[<- this.2]
  exact(List.take_append_drop L vs).symm.trans (by rw[List.drop_eq_getElem_cons hLv])
 obtain⟨p,q,epq,epl⟩:=split
 have eset:vs.set L (D.ms m2 0 (b.i.length+1))=p++D.ms m2 0 (b.i.length+1)::q:=by
  rw[epq, <- epl];simp
 have nd0:(bE (vL::vs)).Nodup:=hs2
 rw[epq,bk,qg,bk]at nd0
 have ndL:=List.nodup_append.1 nd0
 have ndP:=List.nodup_append.1 ndL.2.1
 have ndQ:=List.nodup_append.1 ndP.2.1
 have memV:∀k',k'∈v.jV->∀k2,(k2∈vL.jV\/k2∈bE p\/k2∈bE q)->k2≠k':=by
  intro k' hk' k2 hk2
  rcases hk2 with h|h|h
  ·exact ndL.2.2 k2 h k' (by simp[hk'])
  ·exact ndP.2.2 k2 h k' (by simp[hk'])
  ·exact fun e=>ndQ.2.2 k' hk' k2 h e.symm
 have frP:∀k2,(k2∈vL.jV\/k2∈bE p\/k2∈bE q)->k2≠m2/\k2∉v.jV/\k2≠nb:=by
  intro k2 hk2
  have hin:k2∈bE (vL::vs):=by
   rw[epq,bk,qg,bk]
   simp only[List.mem_append]
   rcases hk2 with h|h|h<;>simp[h]
  refine⟨?_,fun hm=>memV k2 hm k2 hk2 rfl,fun e=>hs1 (e ▸ hin)⟩
  rintro rfl
  refine fr ?_
  rw[bk]at hin
  rw[bk,bk]
  simp only[List.mem_append]at hin ⊢
  rcases hin with h|h<;>simp[h]
 refine hK _ ⟨bs,j,vL,.ms nb 0 (BQ s.blocks L x).length,vs.set L (.ms m2 0 (b.i.length+1)),h1,h2,h3,by rw[H4];exact k4,?_⟩ fun q' d hq hd=>?_
 ·refine⟨dD h6.oL fun k' hk'=>?_,Or.inr ⟨nb,by rw[ja hvs],k5⟩,hvs,fun k' v' b' hv' hb'=>?_,?_⟩
  ·obtain⟨q1,q2,q3⟩:=frP k' (Or.inl hk')
   exact k6 k' q1 q2 q3
  ·rw[BQ,qt hb]at hb'
   rw[List.getElem?_set]at hv' hb'
   by_cases e:L=k'
   ·subst e
    rw[if_pos rfl,if_pos hLv]at hv'
    rw[if_pos rfl,if_pos (by rw[hLs];omega)]at hb'
    cases hv';cases hb'
    exact Or.inr ⟨m2,by simp,by rw[k7];simp⟩
   ·rw[if_neg e]at hv' hb'
    refine dD (h6.oI k' v' b' hv' hb') fun k2 hk2=>?_
    have hpq:k2∈bE p\/k2∈bE q:=by
     rw[epq]at hv'
     rcases Nat.lt_or_ge k' L with h|h
     ·rw[List.getElem?_append_left (by omega)]at hv'
      exact Or.inl (ml (ak hv') hk2)
     ·rw[List.getElem?_append_right (by omega)]at hv'
      obtain⟨w,hw⟩:∃w,k'-p.length=w+1:=⟨k'-p.length-1,by omega⟩
      rw[hw,List.getElem?_cons_succ]at hv'
      exact Or.inr (ml (ak hv') hk2)
    obtain⟨q1,q2,q3⟩:=frP k2 (Or.inr hpq)
    exact k6 k2 q1 q2 q3
  ·rw[eset,bk,bk,qg,bk]
   show(vL.jV++(nb::(bE p++(m2::bE q)))).Nodup
   have nbp:∀k2,(k2∈vL.jV\/k2∈bE p\/k2∈bE q)->k2≠nb:=fun k2 h=>(frP k2 h).2.2
   have m2p:∀k2,(k2∈vL.jV\/k2∈bE p\/k2∈bE q)->k2≠m2:=fun k2 h=>(frP k2 h).1
   refine List.nodup_append.2 ⟨ndL.1,?_,?_⟩
   ·refine List.nodup_cons.2 ⟨?_,List.nodup_append.2 ⟨ndP.1,List.nodup_cons.2 ⟨fun h=>m2p m2 (Or.inr (Or.inr h)) rfl,ndQ.2.1⟩,?_⟩⟩
    ·simp only[List.mem_append,List.mem_cons,List.not_mem_nil,or_false,List.singleton_append]
     rintro (h|h|h)
     ·exact nbp nb (Or.inr (Or.inl h)) rfl
     ·exact b2 h
     ·exact nbp nb (Or.inr (Or.inr h)) rfl
    ·intro a ha c hc
     rcases List.mem_cons.1 hc with rfl|hc
     ·exact m2p a (Or.inr (Or.inl ha))
     ·exact ndP.2.2 a ha c (by simp[hc])
   ·intro a ha c hc
    rcases List.mem_cons.1 hc with rfl|hc
    ·exact nbp a (Or.inl ha)
    rcases List.mem_append.1 hc with hc|hc
    ·exact ndL.2.2 a ha c (by simp[hc])
    rcases List.mem_cons.1 hc with rfl|hc
    ·exact m2p a (Or.inl ha)
    ·exact ndL.2.2 a ha c (by simp[hc])
 ·have e0:=keepA q' d hq hd
  have q1:q'≠m2:=by rintro rfl;rw[e0]at f1;cases f1
  have q2:q'∉v.jV:=fun hm=>by have:=qf oV hm;rw[e0]at this;cases this
  have q3:q'≠nb:=by rintro rfl;rw[e0]at h5;cases h5
  rw[k6 q' q1 q2 q3];exact e0
end Go.Am
namespace Go.Am
open Go
theorem cY.len (o:cY):o.e.cells.length=3:=rfl
theorem cY.O2 (o:cY):o.e.cells.all D.one=true:=rfl
theorem Term.len (o:Term):o.e.cells.length=13:=rfl
def mm (s:MS) (pre:List Block) (is:List aX) (t:Term):MS:={ s with blocks:=pre++[⟨is,t⟩] }
structure L4 (pre:List Block) (is:List aX) (N:Nat):Prop where
 p:pre.length<=50
 b:∀b∈pre,b.i.length<=100
 i:is.length<=N
theorem L4.le {pre:List Block}{is is':List aX}{N M:Nat}(b:L4 pre is N) (h:is'.length<=M):L4 pre is' M:=⟨b.p,b.b,h⟩
theorem AZ {α:Type}(l:List α) (a:α) (f:α->α):(l++[a]).modify l.length f=l++[f a]:=by
 rw[qt (a:=a) (by simp)]
 simp
theorem NW {h:Heap}{n k:Nat}{arrs:D}{s:MS}{pre:List Block}{is:List aX}{t:Term}{x:aX}(r:aP h n k arrs (mm s pre is t)) (hb:L4 pre is 900){KH:HKq}
  (hK:∀h':Heap,aP h' n k arrs (mm s pre (is++[x]) t)->aK n h h'->KH (.tup []) h'):ai PP aL [.ptr n 0 0,x.e] h KH:=by
 refine Ue (L:=pre.length) r (by simp[mm]) (by have:=hb.p;omega) (fun b hbm=>?_) fun h' r' hk=>hK h' ?_ hk
 ·simp only[mm,List.mem_append,List.mem_singleton]at hbm
  rcases hbm with hbm|rfl
  ·have:=hb.b b hbm;omega
  ·have:=hb.i;simp only;omega
 ·have:BQ (mm s pre is t).blocks pre.length x=pre++[⟨is++[x],t⟩]:=by simp only[mm,BQ];rw[AZ]
  rw[this]at r'
  exact r'
def yF:List vc:=[⟨⟨#[97]⟩,1,1,8⟩,⟨⟨#[102]⟩,1,2,4⟩,⟨⟨#[115]⟩,2,1,8⟩,⟨⟨#[112]⟩,3,1,4⟩,⟨⟨#[98]⟩,2,3,4⟩]
def bp:D:=.sl (yF.map vc.e)
def tq (n:Int):Int:=if n=0\/n=2 then 8 else 4
def A0 (d:cY) (a:cY) (n:Int):aX:=⟨3,17,0,d,a,Const (tq n-1),aj⟩
theorem aP.box {h:Heap}{n k:Nat}{arrs:D}{s:MS}(r:aP h n k arrs s):∃(bs:List Nat) (j:Nat) (vL vB:D),h n=.box (cX bs j arrs s vL vB):=by
 obtain⟨bs,j,vL,vB,vs,-,-,-,h1,-⟩:=r.st
 exact⟨_,_,_,_,h1⟩
section
variable {P:Program}{KH:HKq}{K:D->Prop}{h:Heap}
theorem VP {m:Nat}{o:cY}(a:h m=.box o.e):aa P (.ld (.c (.ptr m 0 0)) 3 true) h KH=KH o.e h:=lI a
theorem EG {m:Nat}{o:cY}(a:h m=.box o.e):ae P (.ld (.c (.ptr m 0 0)) 3 true) h K=K o.e:=by rw[mU,VP a]
theorem UC {m:Nat}{o o':cY}(a:h m=.box o.e):aa P (.st (.c (.ptr m 0 0)) (.c o'.e) 3) h KH=KH .undef (aD h m (.box o'.e)):=by
 unfold cY.e cY.cs at *
 exact UU a
theorem mH {n i j o:Nat}(a:(h n).used=true):ae P (.fadd (.c (.ptr n i j)) o) h K=K (.ptr n i (j+o)):=by rw[CC,a];simp
theorem JZ {n i j o:Nat}(a:(h n).used=true):aa P (.fadd (.c (.ptr n i j)) o) h KH=KH (.ptr n i (j+o)) h:=by rw[ku,a];simp
end
def Jj (q:Nat):D:=((yF.map vc.e)[q]?).getD .undef
theorem Fq (q:Nat) (hq:q<5):(yF.map vc.e)[q]?=some (Jj q)/\(Jj q).cells.length=4/\(Jj q).cells[3]?=some (.int .i64 (tq q)):=by
 have:q=0\/q=1\/q=2\/q=3\/q=4:=by omega
 rcases this with rfl|rfl|rfl|rfl|rfl<;>exact⟨rfl,rfl,rfl⟩
theorem qM (q:Int):tq q=8\/tq q=4:=by unfold tq;split<;>simp
theorem DO {P:Program}{K:D->Prop}{h:Heap}{q:Nat}(hq:q<5):ae P (.iadd (.c (.sl (yF.map vc.e))) (.c (.int .i64 (q:Int))) 4) h K=K (.vp (Jj q) 0):=by
 obtain⟨h1,h2,h3⟩:=Fq q hq
 have hl:(List.map vc.e yF).length=5:=rfl
 rw[mV,Aj,aA,h1,hl]
 apply propext
 constructor
 ·rintro⟨-,-,h⟩;exact(h _ rfl).2
 ·intro hk;exact⟨by omega,by omega,fun d hd=>by cases hd;exact⟨h2,hk⟩⟩
theorem HX {P:Program}{K:D->Prop}{h:Heap}{q:Nat}(hq:q<5):ae P (.ld (.c (.vp (Jj q) 3)) 1 false) h K=K (.int .i64 (tq q)):=by
 rw[mU,vn,fZ,(Fq q hq).2.2]
theorem HY {P:Program}{K:D->Prop}{h:Heap}{q:Nat}:ae P (.fadd (.c (.vp (Jj q) 0)) 3) h K=K (.vp (Jj q) 3):=rfl
theorem Kk {h:Heap}{n k:Nat}{s:MS}{pre:List Block}{is:List aX}{t:Term}{priv:Bool}(r:aP h n k bp (mm s pre is t)) (hb:L4 pre is 800) (hk:k<900000){KH:HKq}
  (hK:∀(q:Nat) (d:Nat) (a:cY) (h':Heap),q<5->(priv=false->q≠3)->d<6->Bb a->aP h' n (k+3) bp (mm s pre (is++[A0 (fe d) a q]) t)->aK n h h'->KH (.tup [.int .i64 (q:Int),(fe (d:Int)).e]) h') :
  ai PP eZ [.ptr n 0 0,.bool priv] h KH:=by
 refine aT qR (aJ _ _ _) rfl (qO _ _ _) ?_
 unfold lV
 rw[gf]
 intro m t0
 obtain⟨r1,hne⟩:=r.new t0.free (.box aj.e)
 have k1:aK n h (aD h m (.box aj.e)):=aK.new t0.free
 refine eJ r1 (by omega) fun b hA _ r2 k2=>?_
 have hm:=k2 m _ hne (ar _ _ _)
 have k12:=k1.trans k2
 rw[dt]
 refine⟨by omega,?_⟩
 have e5:((b:Int).tmod 5)=((b % 5:Nat):Int):=ba b 5
 rw[e5]
 refine⟨fun qs h'=>∃q:Nat,qs=[.int .i64 (q:Int)]/\q<5/\(priv=false->q≠3)/\aP h' n (k+1) bp (mm s pre is t)/\h' m=.box aj.e/\aK n h h',?_,?_⟩
 ·rintro f hB ⟨q,hq,hq5,hp,r3,hm3,k3⟩
  simp only[aq,and_true]at hq
  rw[hq]
  refine A8 r3 (by omega) fun d hC hd r4 k4=>?_
  rw[gf]
  intro m5 t5
  obtain⟨r5,hne5⟩:=r4.new t5.free (.box aj.e)
  have hm4:=(aK.new t5.free:aK n hC (aD hC m5 (.box aj.e))) m _ hne (k4 m _ hne hm3)
  have k5:=(k3.trans k4).trans (aK.new t5.free:aK n hC (aD hC m5 (.box aj.e)))
  have a5:=ar hC m5 (.box aj.e)
  have hmm:m≠m5:=t5.ne (by rw[k4 m _ hne hm3];simp)
  show aa PP _ (aD hC m5 (.box aj.e)) _
  generalize aD hC m5 (.box aj.e)=hD at r5 hm4 k5 a5
  have a6:=ar hD m5 (.box (fe (d:Int)).e)
  have r6:=r5.cc a5 hne5 (.box (fe (d:Int)).e)
  have hm6:aD hD m5 (.box (fe (d:Int)).e) m=.box aj.e:=by rw[an _ _ hmm];exact hm4
  rw[UC a5]
  have k6:aK n h (aD hD m5 (.box (fe (d:Int)).e)):=fun q' d' hq' hd'=>by
   have h1:=k5 q' d' hq' hd'
   by_cases e:q'=m5
   ·subst e
    exfalso
    have h2:=k4 q' d' hq' (k3 q' d' hq' hd')
    rw[t5.free]at h2;cases h2
   ·rw[an _ _ e];exact h1
  generalize aD hD m5 (.box (fe (d:Int)).e)=hE at r6 hm6 k6 a6
  obtain⟨bs,j,vL,vB,e⟩:=r6.box
  have eu:(hE n).used=true:=by rw[e];rfl
  unfold cX at e
  have w1:IntKind.i64.wrap (tq q-1)=tq q-1:=by rcases qM q with h|h<;>rw[h]<;>rfl
  have w2:IntKind.i32.wrap (tq q-1)=tq q-1:=by rcases qM q with h|h<;>rw[h]<;>rfl
  simp only[↓EG a6,↓mH eu,Nat.zero_add,Nat.reduceAdd,↓s9 e (j:=7) rfl,bp,↓DO hq5,↓HY,↓HX hq5,↓lS,w1,↓IN,↓oW,w2]
  refine vu r6 (by omega) fun o hF ho r7 k7=>?_
  have a7:=k7 m5 _ hne5 a6
  have hm7:=k7 m _ hne hm6
  obtain⟨bs',j',vL',vB',e'⟩:=r7.box
  have eu':(hF n).used=true:=by rw[e'];rfl
  unfold cX at e'
  simp only[↓EG a7,↓mH eu',Nat.zero_add,Nat.reduceAdd,↓s9 e' (j:=7) rfl,bp,↓DO hq5,↓HY,↓HX hq5,ab,true_and]
  refine FD qG ⟨aW,trivial⟩ ?_
  rw[Fh,nT]
  refine⟨xj rfl,?_⟩
  refine NW (x:=A0 (fe d) o q) r7 (hb.le (by have:=hb.i;omega)) fun hG r8 k8=>?_
  have a8:=k8 m5 _ hne5 a7
  have hm8:=k8 m _ hne hm7
  simp only[↓EG a8,↓UC hm8,↓VP (ar _ _ _)]
  refine hK q d o _ hq5 hp hd ho (r8.cc hm8 hne _) fun q' d' hq' hd'=>?_
  have h1:=k8 q' d' hq' (k7 q' d' hq' (k6 q' d' hq' hd'))
  by_cases ee:q'=m
  ·subst ee;rw[t0.free]at hd';cases hd'
  ·rw[an _ _ ee];exact h1
 ·rw[bQ]
  by_cases h3:b % 5=3
  ·have h3':(((b % 5:Nat):Int)=3)=True:=eq_true (by omega)
   simp only[h3',decide_true,↓Vi,↓Vj,↓Vm,↓Vl,↓du]
   cases priv
   ·simp only[Bool.not_false,↓GZ,↓ag]
    exact⟨rfl,0,rfl,by omega,fun _=>by omega,r2,hm,k12⟩
   ·simp only[Bool.not_true,↓GZ,↓af]
    exact⟨rfl,b % 5,rfl,Nat.mod_lt _ (by omega),fun h=>(by cases h),r2,hm,k12⟩
  ·have h3':(((b % 5:Nat):Int)=3)=False:=eq_false (by omega)
   simp only[h3',decide_false,↓Vi,↓Vj,↓Vm,↓Vl,↓du,↓xN,↓MU,↓af]
   exact⟨rfl,b % 5,rfl,Nat.mod_lt _ (by omega),fun _=>h3,r2,hm,k12⟩
end Go.Am
namespace Go.Am
open Go
def mA (R:Int) (o:cY):Prop:=∃r:Int,0<=r/\r<R/\o=fe r
def qN (R:Int) (o:cY):Prop:=mA R o\/∃v:Int,-2147483648<=v/\v<=2147483647/\o=Const v
theorem mA.val {R:Int}{o:cY}(h:mA R o):qN R o:=Or.inl h
theorem mA.mono {R R':Int}(h:R<=R'){o:cY}(r:mA R o):mA R' o:=by obtain⟨a,b,c,d⟩:=r;exact⟨a,b,by omega,d⟩
theorem qN.mono {R R':Int}(h:R<=R'){o:cY}(r:qN R o):qN R' o:=r.imp (mA.mono h) id
theorem Bb.o {o:cY}(h:Bb o):qN 6 o:=by
 rcases h with⟨b,hb,rfl⟩|⟨v,h1,h2,rfl⟩
 ·exact Or.inl ⟨b,by omega,by omega,rfl⟩
 ·exact Or.inr ⟨v,by omega,by omega,rfl⟩
theorem er {b:Nat}(h:b<6):mA 6 (fe (b:Int)):=⟨b,by omega,by omega,rfl⟩
inductive Eb (R:Int):aX->Prop
 | mov (d a:cY) (h1:mA R d) (h2:qN R a):Eb R ⟨1,0,0,d,a,aj,aj⟩
 | un (s:Int) (d a:cY) (h0:1<=s/\s<=5) (h1:mA R d) (h2:qN R a):Eb R ⟨2,s,0,d,a,aj,aj⟩
 | bin (s:Int) (d a b:cY) (h0:10<=s/\s<=29) (h1:mA R d) (h2:qN R a) (h3:qN R b):Eb R ⟨3,s,0,d,a,b,aj⟩
 | sel (d a b c:cY) (h1:mA R d) (h2:qN R a) (h3:qN R b) (h4:qN R c):Eb R ⟨4,0,0,d,a,b,c⟩
 | id (s:Int) (d:cY) (h0:1<=s/\s<=7) (h1:mA R d):Eb R ⟨5,s,0,d,aj,aj,aj⟩
 | param (n:Int) (d:cY) (h0:0<=n/\n<3) (h1:mA R d):Eb R ⟨6,0,n,d,aj,aj,aj⟩
 | load (n:Int) (d a:cY) (h0:0<=n/\n<5) (h1:mA R d) (h2:mA R a):Eb R ⟨7,0,n,d,a,aj,aj⟩
 | store (n:Int) (a b:cY) (h0:0<=n/\n<5) (h1:mA R a) (h2:qN R b):Eb R ⟨8,0,n,aj,a,b,aj⟩
 | atom (s n:Int) (a b:cY) (hs:s=10\/s=22\/s=23\/s=17\/s=18\/s=19) (h0:0<=n/\n<5/\n≠3) (h1:mA R a) (h2:qN R b):Eb R ⟨9,s,n,aj,a,b,aj⟩
 | fence (s:Int) (h0:s=1\/s=2):Eb R ⟨10,s,0,aj,aj,aj,aj⟩
theorem Eb.mono {R R':Int}(h:R<=R'){x:aX}(i:Eb R x):Eb R' x:=by
 cases i with
 | mov d a h1 h2=>exact .mov d a (h1.mono h) (h2.mono h)
 | un s d a h0 h1 h2=>exact .un s d a h0 (h1.mono h) (h2.mono h)
 | bin s d a b h0 h1 h2 h3=>exact .bin s d a b h0 (h1.mono h) (h2.mono h) (h3.mono h)
 | sel d a b c h1 h2 h3 h4=>exact .sel d a b c (h1.mono h) (h2.mono h) (h3.mono h) (h4.mono h)
 | id s d h0 h1=>exact .id s d h0 (h1.mono h)
 | param n d h0 h1=>exact .param n d h0 (h1.mono h)
 | load n d a h0 h1 h2=>exact .load n d a h0 (h1.mono h) (h2.mono h)
 | store n a b h0 h1 h2=>exact .store n a b h0 (h1.mono h) (h2.mono h)
 | atom s n a b hs h0 h1 h2=>exact .atom s n a b hs h0 (h1.mono h) (h2.mono h)
 | fence s h0=>exact .fence s h0
def mw (R:Int) (xs:List aX):Prop:=∀(k:Nat) (x:aX),xs[k]?=some x->Eb R x/\((x.op=7\/x.op=8\/x.op=9)->∃(j:Nat) (a:cY),k=j+1/\xs[j]?=some (A0 x.a a x.n)/\qN R a)
theorem mw.nil {R:Int}:mw R []:=fun k x h=>by simp at h
theorem mw.one {R:Int}{x:aX}(i:Eb R x) (h:¬(x.op=7\/x.op=8\/x.op=9)):mw R [x]:=fun k y hy=>by
 cases k with
 | zero=>simp at hy;subst hy;exact⟨i,fun hx=>absurd hx h⟩
 | succ k=>simp at hy
theorem mw.two {R:Int}{x y:aX}{a:cY}(hx:Eb R x) (hy:Eb R y) (he:x=A0 y.a a y.n) (ha:qN R a) (hn:¬(x.op=7\/x.op=8\/x.op=9)):mw R [x,y]:=fun k z hz=>by
 match k with
 | 0=>simp at hz;subst hz;exact⟨hx,fun h=>absurd h hn⟩
 | 1=>simp at hz;subst hz;exact⟨hy,fun _=>⟨0,a,rfl,by simp[he],ha⟩⟩
 | k+2=>simp at hz
theorem mw.append {R:Int}{xs ys:List aX}(hx:mw R xs) (hy:mw R ys):mw R (xs++ys):=fun k x h=>by
 rcases Nat.lt_or_ge k xs.length with hk|hk
 ·rw[List.getElem?_append_left hk]at h
  obtain⟨h1,h2⟩:=hx k x h
  refine⟨h1,fun ho=>?_⟩
  obtain⟨j,a,e,q,v⟩:=h2 ho
  exact⟨j,a,e,by rw[List.getElem?_append_left (by omega)];exact q,v⟩
 ·rw[List.getElem?_append_right hk]at h
  obtain⟨h1,h2⟩:=hy _ x h
  refine⟨h1,fun ho=>?_⟩
  obtain⟨j,a,e,q,v⟩:=h2 ho
  exact⟨xs.length+j,a,by omega,by rw[List.getElem?_append_right (by omega)];simpa using q,v⟩
theorem mw.mono {R R':Int}(h:R<=R'){xs:List aX}(x:mw R xs):mw R' xs:=fun k y hy=>by
 obtain⟨h1,h2⟩:=x k y hy
 refine⟨h1.mono h,fun ho=>?_⟩
 obtain⟨j,a,e,q,v⟩:=h2 ho
 exact⟨j,a,e,q,v.mono h⟩
theorem FO {d:Nat}{a:cY}{q:Nat}(hd:d<6) (ha:Bb a):Eb 6 (A0 (fe (d:Int)) a (q:Int)) :=
 .bin 17 _ _ _ (by omega) (er hd) ha.o (Or.inr ⟨tq q-1,by rcases qM q with h|h<;>omega,by rcases qM q with h|h<;>omega,rfl⟩)
theorem jG {h:Heap}{n k:Nat}{arrs:D}{s:MS}{pre:List Block}{is:List aX}{t:Term}{z:List D}{ps:List (Nat×Nat×Arg)}{KH:HKq}(x:aX) (r:aP h n k arrs (mm s pre is t)) (hb:L4 pre is 900)
  (hf:yx z.length (ps.map fun p=>(p.1,p.2.1,p.2.2.get []))=true) (hx:D.agg (fillD z (ps.map fun p=>(p.1,p.2.1,(p.2.2.get []).cells)))=x.e)
  (hK:∀h':Heap,aP h' n k arrs (mm s pre (is++[x]) t)->aK n h h'->KH (.tup []) h') :
  aa PP (.bld z ps) h fun a h1=>ai PP aL [.ptr n 0 0,a] h1 KH:=by
 rw[nT]
 refine⟨xj hf,?_⟩
 rw[hx]
 exact NW r hb hK
theorem DM {h:Heap}{n k:Nat}{arrs:D}{s:MS}{pre:List Block}{is:List aX}{t:Term}{z:List D}{ps:List (Nat×Nat×Arg)}{KH:HKq}(x:aX) (r:aP h n k arrs (mm s pre is t)) (hb:L4 pre is 900)
  (hf:yx z.length (ps.map fun p=>(p.1,p.2.1,p.2.2.get []))=true) (hx:D.agg (fillD z (ps.map fun p=>(p.1,p.2.1,(p.2.2.get []).cells)))=x.e)
  (hK:∀h':Heap,aP h' n k arrs (mm s pre (is++[x]) t)->aK n h h'->KH (.tup []) h') :
  ae PP (.bld z ps) h fun a=>ai PP aL [.ptr n 0 0,a] h KH:=by
 rw[Fh];exact jG x r hb hf hx hK
set_option maxHeartbeats 1000000 in
theorem Ss {h:Heap}{n k:Nat}{s:MS}{pre:List Block}{is:List aX}{t:Term}(r:aP h n k bp (mm s pre is t)) (hb:L4 pre is 700) (hk:k<800000){KH:HKq}
  (hK:∀(xs:List aX) (h':Heap),mw 6 xs->xs.length<=2->aP h' n (k+10) bp (mm s pre (is++xs) t)->aK n h h'->KH (.tup []) h') :
  ai PP iH [.ptr n 0 0] h KH:=by
 refine aT su (aJ _ _ _) rfl (sk _ _) ?_
 unfold nc
 have hb9:L4 pre is 900:=hb.le (by have:=hb.i;omega)
 refine eJ r (by omega) fun b0 h1 _ r1 k1=>?_
 rw[dt]
 refine⟨by omega,?_⟩
 have e16:((b0:Int).tmod 16)=((b0 % 16:Nat):Int):=ba b0 16
 rw[e16]
 have hc16:b0 % 16<16:=Nat.mod_lt _ (by omega)
 generalize b0 % 16=c at hc16
 rw[xM]
 by_cases hc3:c<3
 ·simp only[show((c:Int)<3)=True from eq_true (by omega),decide_true,↓ag]
  refine eJ r1 (by omega) fun b h2 _ r2 k2=>?_
  rw[dt]
  refine⟨by omega,?_⟩
  rw[show((b:Int).tmod 7)=((b % 7:Nat):Int) from ba b 7,eK,wrap64 (by omega) (by omega)]
  refine A8 r2 (by omega) fun d h3 hd r3 k3=>?_
  refine jG ⟨5,1+((b % 7:Nat):Int),0,fe d,aj,aj,aj⟩ r3 hb9 rfl rfl fun h4 r4 k4=>?_
  exact hK _ h4 (.one (.id _ _ (by omega) (er hd)) (by simp)) (by simp) (r4.le (by omega)) (((k1.trans k2).trans k3).trans k4)
 simp only[show((c:Int)<3)=False from eq_false (by omega),decide_false,↓af]
 rw[xM]
 by_cases hc7:c<7
 ·simp only[show((c:Int)<7)=True from eq_true (by omega),decide_true,↓ag]
  refine eJ r1 (by omega) fun b h2 _ r2 k2=>?_
  rw[dt]
  refine⟨by omega,?_⟩
  rw[show((b:Int).tmod 20)=((b % 20:Nat):Int) from ba b 20,eK,wrap64 (by omega) (by omega)]
  refine A8 r2 (by omega) fun d h3 hd r3 k3=>?_
  refine vu r3 (by omega) fun o h4 ho r4 k4=>?_
  refine vu r4 (by omega) fun p h5 hp r5 k5=>?_
  refine jG ⟨3,10+((b % 20:Nat):Int),0,fe d,o,p,aj⟩ r5 hb9 rfl rfl fun h6 r6 k6=>?_
  exact hK _ h6 (.one (.bin _ _ _ _ (by omega) (er hd) ho.o hp.o) (by simp)) (by simp) (r6.le (by omega)) (((((k1.trans k2).trans k3).trans k4).trans k5).trans k6)
 simp only[show((c:Int)<7)=False from eq_false (by omega),decide_false,↓af]
 rw[bQ]
 by_cases h7:c=7
 ·simp only[show((c:Int)=7)=True from eq_true (by omega),decide_true,↓ag]
  refine eJ r1 (by omega) fun b h2 _ r2 k2=>?_
  rw[dt]
  refine⟨by omega,?_⟩
  rw[show((b:Int).tmod 5)=((b % 5:Nat):Int) from ba b 5,eK,wrap64 (by omega) (by omega)]
  refine A8 r2 (by omega) fun d h3 hd r3 k3=>?_
  refine vu r3 (by omega) fun o h4 ho r4 k4=>?_
  refine jG ⟨2,1+((b % 5:Nat):Int),0,fe d,o,aj,aj⟩ r4 hb9 rfl rfl fun h6 r6 k6=>?_
  exact hK _ h6 (.one (.un _ _ _ (by omega) (er hd) ho.o) (by simp)) (by simp) (r6.le (by omega)) ((((k1.trans k2).trans k3).trans k4).trans k6)
 simp only[show((c:Int)=7)=False from eq_false (by omega),decide_false,↓af]
 rw[bQ]
 by_cases h8:c=8
 ·simp only[show((c:Int)=8)=True from eq_true (by omega),decide_true,↓ag]
  refine A8 r1 (by omega) fun d h3 hd r3 k3=>?_
  refine vu r3 (by omega) fun o h4 ho r4 k4=>?_
  refine vu r4 (by omega) fun p h5 hp r5 k5=>?_
  refine vu r5 (by omega) fun q h6 hq r6 k6=>?_
  refine jG ⟨4,0,0,fe d,o,p,q⟩ r6 hb9 rfl rfl fun h7 r7 k7=>?_
  exact hK _ h7 (.one (.sel _ _ _ _ (er hd) ho.o hp.o hq.o) (by simp)) (by simp) (r7.le (by omega)) (((((k1.trans k3).trans k4).trans k5).trans k6).trans k7)
 simp only[show((c:Int)=8)=False from eq_false (by omega),decide_false,↓af]
 rw[bQ]
 by_cases h9:c=9
 ·simp only[show((c:Int)=9)=True from eq_true (by omega),decide_true,↓ag]
  refine A8 r1 (by omega) fun d h3 hd r3 k3=>?_
  refine vu r3 (by omega) fun o h4 ho r4 k4=>?_
  refine jG ⟨1,0,0,fe d,o,aj,aj⟩ r4 hb9 rfl rfl fun h7 r7 k7=>?_
  exact hK _ h7 (.one (.mov _ _ (er hd) ho.o) (by simp)) (by simp) (r7.le (by omega)) (((k1.trans k3).trans k4).trans k7)
 simp only[show((c:Int)=9)=False from eq_false (by omega),decide_false,↓af]
 rw[bQ]
 by_cases h10:c=10
 ·simp only[show((c:Int)=10)=True from eq_true (by omega),decide_true,↓ag]
  refine eJ r1 (by omega) fun b h2 _ r2 k2=>?_
  rw[dt]
  refine⟨by omega,?_⟩
  rw[show((b:Int).tmod 3)=((b % 3:Nat):Int) from ba b 3]
  refine A8 r2 (by omega) fun d h3 hd r3 k3=>?_
  refine jG ⟨6,0,((b % 3:Nat):Int),fe d,aj,aj,aj⟩ r3 hb9 rfl rfl fun h7 r7 k7=>?_
  exact hK _ h7 (.one (.param _ _ (by omega) (er hd)) (by simp)) (by simp) (r7.le (by omega)) (((k1.trans k2).trans k3).trans k7)
 simp only[show((c:Int)=10)=False from eq_false (by omega),decide_false,↓af]
 rw[bQ]
 by_cases h11:c=11
 ·simp only[show((c:Int)=11)=True from eq_true (by omega),decide_true,↓ag]
  refine eJ r1 (by omega) fun b h2 _ r2 k2=>?_
  rw[dt]
  refine⟨by omega,?_⟩
  rw[show((b:Int).tmod 2)=((b % 2:Nat):Int) from ba b 2,eK,wrap64 (by omega) (by omega)]
  refine jG ⟨10,1+((b % 2:Nat):Int),0,aj,aj,aj,aj⟩ r2 hb9 rfl rfl fun h7 r7 k7=>?_
  exact hK _ h7 (.one (.fence _ (by omega)) (by simp)) (by simp) (r7.le (by omega)) ((k1.trans k2).trans k7)
 simp only[show((c:Int)=11)=False from eq_false (by omega),decide_false,↓af]
 rw[bQ]
 by_cases h12:c=12
 ·simp only[show((c:Int)=12)=True from eq_true (by omega),decide_true,↓ag]
  refine Kk r1 (hb.le (by have:=hb.i;omega)) (by omega) fun q d a h2 hq hp hd ha r2 k2=>?_
  simp only[↓R9,↓R8]
  rw[gf]
  intro m t0
  obtain⟨r3,hne⟩:=r2.new t0.free (.box aj.e)
  have a3:=ar h2 m (.box aj.e)
  have k3:aK n h2 (aD h2 m (.box aj.e)):=aK.new t0.free
  show aa PP _ (aD h2 m (.box aj.e)) _
  have key:aK n h2 (aD (aD h2 m (.box aj.e)) m (.box (fe (d:Int)).e)):=by rw[FB];exact aK.new t0.free
  rw[UC a3]
  have r4:=r3.cc a3 hne (.box (fe (d:Int)).e)
  have a4:=ar (aD h2 m (.box aj.e)) m (.box (fe (d:Int)).e)
  generalize aD (aD h2 m (.box aj.e)) m (.box (fe (d:Int)).e)=h3 at key r4 a4
  have hbl:∀{Q:D->Prop},ae PP (.bldS false 1 6 (.int .i64 0) [(0,(.c (.int .i64 10))),(1,(.c (.int .i64 22))),(2,(.c (.int .i64 23))),(3,(.c (.int .i64 17))),(4,(.c (.int .i64 18))),(5,(.c (.int .i64 19)))]) h3 Q=Q (.sl [.int .i64 10,.int .i64 22,.int .i64 23,.int .i64 17,.int .i64 18,.int .i64 19]):=by
   intro Q
   apply propext
   constructor
   ·exact fun hh=>hh.2.2.2
   ·intro hq
    refine⟨Av rfl,?_,by simp,hq⟩
    intro p hp
    simp[Arg.get]at hp
    rcases hp with rfl|rfl|rfl|rfl|rfl|rfl<;>simp
  simp only[hbl,↓EG a4]
  refine eJ r4 (by omega) fun b h4 _ r5 k5=>?_
  have a5:=k5 m _ hne a4
  simp only[↓EG a5,ab,true_and]
  rw[dt]
  refine⟨by omega,?_⟩
  rw[show((b:Int).tmod 6)=((b % 6:Nat):Int) from ba b 6]
  obtain⟨sv,hsv,hs6⟩:∃sv:Int,([.int .i64 10,.int .i64 22,.int .i64 23,.int .i64 17,.int .i64 18,.int .i64 19]:List D)[b % 6]?=some (.int .i64 sv)/\(sv=10\/sv=22\/sv=23\/sv=17\/sv=18\/sv=19):=by
   have:b % 6=0\/b % 6=1\/b % 6=2\/b % 6=3\/b % 6=4\/b % 6=5:=by omega
   rcases this with e|e|e|e|e|e<;>rw[e]<;>exact⟨_,rfl,by simp⟩
  have hi:∀{h:Heap}{Q:D->Prop},ae PP (.iadd (.c (.sl [.int .i64 10,.int .i64 22,.int .i64 23,.int .i64 17,.int .i64 18,.int .i64 19])) (.c (.int .i64 ((b % 6:Nat):Int))) 1) h Q=Q (.vp (.int .i64 sv) 0):=by
   intro h Q
   rw[mV,Aj,aA,hsv]
   apply propext
   constructor
   ·rintro⟨-,-,h⟩;exact(h _ rfl).2
   ·intro hq;exact⟨by omega,by simp;omega,fun d hd=>by cases hd;exact⟨rfl,hq⟩⟩
  have hl:∀{h:Heap}{Q:D->Prop},ae PP (.ld (.c (.vp (.int .i64 sv) 0)) 1 false) h Q=Q (.int .i64 sv):=fun {h Q}=>by rw[mU,vn,fZ];rfl
  simp only[↓hi,↓hl]
  refine vu r5 (by omega) fun o h5 ho r6 k6=>?_
  have a6:=k6 m _ hne a5
  simp only[↓hi,↓hl,↓EG a6,ab,true_and]
  refine DM ⟨9,sv,q,aj,fe d,o,aj⟩ r6 (hb.le (by have:=hb.i;simp;omega)) rfl rfl fun h7 r7 k7=>?_
  rw[List.append_assoc]at r7
  exact hK _ h7 (.two (a:=a) (FO hd ha) (.atom sv (q:Int) _ _ hs6 ⟨Int.natCast_nonneg q,Int.ofNat_lt.2 hq,fun e=>hp rfl (Int.ofNat_inj.1 e)⟩ (er hd) ho.o) rfl ha.o (by simp[A0])) (by simp) (r7.le (by omega)) (((((k1.trans k2).trans key).trans k5).trans k6).trans k7)
 simp only[show((c:Int)=12)=False from eq_false (by omega),decide_false,↓af]
 refine Kk r1 (hb.le (by have:=hb.i;omega)) (by omega) fun q d a h2 hq hp hd ha r2 k2=>?_
 simp only[↓R9,↓R8]
 rw[gf]
 intro m t0
 obtain⟨r3,hne⟩:=r2.new t0.free (.box aj.e)
 have a3:=ar h2 m (.box aj.e)
 show aa PP _ (aD h2 m (.box aj.e)) _
 have key:aK n h2 (aD (aD h2 m (.box aj.e)) m (.box (fe (d:Int)).e)):=by rw[FB];exact aK.new t0.free
 rw[UC a3]
 have r4:=r3.cc a3 hne (.box (fe (d:Int)).e)
 have a4:=ar (aD h2 m (.box aj.e)) m (.box (fe (d:Int)).e)
 generalize aD (aD h2 m (.box aj.e)) m (.box (fe (d:Int)).e)=h3 at key r4 a4
 rw[bQ]
 by_cases h13:c=13
 ·simp only[show((c:Int)=13)=True from eq_true (by omega),decide_true,↓ag,↓EG a4]
  refine A8 r4 (by omega) fun e h4 he r5 k5=>?_
  have a5:=k5 m _ hne a4
  simp only[↓EG a5,ab,true_and]
  refine DM ⟨7,0,q,fe e,fe d,aj,aj⟩ r5 (hb.le (by have:=hb.i;simp;omega)) rfl rfl fun h7 r7 k7=>?_
  rw[List.append_assoc]at r7
  exact hK _ h7 (.two (a:=a) (FO hd ha) (.load (q:Int) _ _ ⟨Int.natCast_nonneg q,Int.ofNat_lt.2 hq⟩ (er he) (er hd)) rfl ha.o (by simp[A0])) (by simp) (r7.le (by omega)) ((((k1.trans k2).trans key).trans k5).trans k7)
 ·simp only[show((c:Int)=13)=False from eq_false (by omega),decide_false,↓af,↓EG a4]
  refine vu r4 (by omega) fun o h4 ho r5 k5=>?_
  have a5:=k5 m _ hne a4
  simp only[↓EG a5,ab,true_and]
  refine DM ⟨8,0,q,aj,fe d,o,aj⟩ r5 (hb.le (by have:=hb.i;simp;omega)) rfl rfl fun h7 r7 k7=>?_
  rw[List.append_assoc]at r7
  exact hK _ h7 (.two (a:=a) (FO hd ha) (.store (q:Int) _ _ ⟨Int.natCast_nonneg q,Int.ofNat_lt.2 hq⟩ (er hd) ho.o) rfl ha.o (by simp[A0])) (by simp) (r7.le (by omega)) ((((k1.trans k2).trans key).trans k5).trans k7)
theorem CE {h:Heap}{n k:Nat}{s:MS}{pre:List Block}{is:List aX}{t:Term}(r:aP h n k bp (mm s pre is t)) (hb:L4 pre is 600) (hk:k<700000){KH:HKq}
  (hK:∀(xs:List aX) (h':Heap),mw 6 xs->xs.length<=8->aP h' n (k+50) bp (mm s pre (is++xs) t)->aK n h h'->KH (.tup []) h') :
  ai PP cE [.ptr n 0 0] h KH:=by
 refine aT qS (aJ _ _ _) rfl (qP _ _) ?_
 unfold lW
 refine eJ r (by omega) fun b h1 _ r1 k1=>?_
 rw[dt]
 refine⟨by omega,?_⟩
 rw[show((b:Int).tmod 5)=((b % 5:Nat):Int) from ba b 5]
 have hb5:b % 5<5:=Nat.mod_lt _ (by omega)
 generalize b % 5=c at hb5
 unfold jS
 refine⟨fun j q h'=>j<=4/\q=[.int .i64 (j:Int)]/\∃xs:List aX,mw 6 xs/\xs.length<=2*(4-j)/\aP h' n (k+1+10*(4-j)) bp (mm s pre (is++xs) t)/\aK n h h',c,⟨by omega,rfl,[],.nil,by simp,by simpa using r1.le (by omega),k1⟩,?_⟩
 rintro j f h2 ⟨hj,hq,xs,hx,hl,r2,k2⟩
 simp only[aq,and_true]at hq
 rw[hq,xO]
 by_cases h0:0<j
 ·simp only[show((0:Int)<(j:Int))=True from eq_true (by omega),decide_true,↓ag]
  refine Ss r2 (hb.le (by have:=hb.i;simp;omega)) (by omega) fun ys h3 hy hyl r3 k3=>?_
  rw[lS,wrap64 (by omega) (by omega)]
  refine⟨rfl,j-1,by omega,by omega,by congr 2;omega,xs++ys,hx.append hy,by simp;omega,?_,k2.trans k3⟩
  rw[List.append_assoc]at r3
  exact r3.le (by omega)
 ·simp only[show((0:Int)<(j:Int))=False from eq_false (by omega),decide_false,↓af]
  exact hK xs h2 hx (by omega) (r2.le (by omega)) k2
end Go.Am
namespace Go.Am
open Go
theorem ew {P:Program}{h:Heap}{KH:HKq}{z:List D}{ps:List (Nat×Nat×Arg)}(hf:yx z.length (ps.map fun p=>(p.1,p.2.1,p.2.2.get []))=true) :
  aa P (.bld z ps) h KH=KH (.agg (fillD z (ps.map fun p=>(p.1,p.2.1,(p.2.2.get []).cells)))) h:=by
 rw[nT,eq_true (xj hf),true_and]
theorem dB {P:Program}{h:Heap}{K:D->Prop}{z:List D}{ps:List (Nat×Nat×Arg)}(hf:yx z.length (ps.map fun p=>(p.1,p.2.1,p.2.2.get []))=true) :
  ae P (.bld z ps) h K=K (.agg (fillD z (ps.map fun p=>(p.1,p.2.1,(p.2.2.get []).cells)))):=by
 rw[Fh,ew hf]
inductive xJ (N:Nat) (R:Int):Term->Prop
 | jump (a:Nat) (h:a<N):xJ N R ⟨1,0,aj,aj,aj,a,0⟩
 | branch (o:cY) (a b:Nat) (ho:mA R o) (h1:a<N) (h2:b<N):xJ N R ⟨2,0,aj,o,aj,a,b⟩
 | barrier (a:Nat) (h:a<N):xJ N R ⟨3,0,aj,aj,aj,a,0⟩
 | collect (s:Int) (d a b:cY) (t:Nat) (hs:1<=s/\s<=6) (hd:mA R d) (ha:qN R a) (hb:qN R b) (h:t<N):xJ N R ⟨4,s,d,a,b,t,0⟩
 | exit:xJ N R ⟨5,0,aj,aj,aj,0,0⟩
theorem xJ.mono {N N':Nat}{R R':Int}(hN:N<=N') (hR:R<=R'){t:Term}(h:xJ N R t):xJ N' R' t:=by
 cases h with
 | jump a h=>exact .jump a (by omega)
 | branch o a b ho h1 h2=>exact .branch o a b (ho.mono hR) (by omega) (by omega)
 | barrier a h=>exact .barrier a (by omega)
 | collect s d a b t hs hd ha hb h=>exact .collect s d a b t hs (hd.mono hR) (ha.mono hR) (hb.mono hR) (by omega)
 | exit=>exact .exit
structure Wb (N:Nat) (R:Int) (b:Block):Prop where
 xs:mw R b.i
 len:b.i.length<=20
 t:xJ N R b.t
def lB (N:Nat) (R:Int) (bs:List Block):Prop:=∀b∈bs,Wb N R b
theorem lB.mono {N N':Nat}{R R':Int}(hN:N<=N') (hR:R<=R'){bs:List Block}(h:lB N R bs):lB N' R' bs:=fun b hb=>⟨(h b hb).xs.mono hR,(h b hb).len,(h b hb).t.mono hN hR⟩
theorem lB.snoc {N:Nat}{R:Int}{bs:List Block}{b:Block}(h:lB N R bs) (hb:Wb N R b):lB N R (bs++[b]):=fun c hc=>by
 rcases List.mem_append.1 hc with hc|hc
 ·exact h c hc
 ·simp at hc;subst hc;exact hb
theorem lB.nil {N:Nat}{R:Int}:lB N R []:=fun _ h=>by cases h
theorem lB.Sz {N:Nat}{R:Int}{bs:List Block}(h:lB N R bs) (hl:bs.length<=50){is:List aX}{M:Nat}(hi:is.length<=M):L4 bs is M:=⟨hl,fun b hb=>by have:=(h b hb).len;omega,hi⟩
theorem nQ {h:Heap}{n k:Nat}{arrs:D}{s:MS}{pre:List Block}{is:List aX}{t0:Term}(r:aP h n k arrs (mm s pre is t0)) :
  ∃(bs:List Nat) (j:Nat) (vL:D) (nb:Nat),h n=.box (.agg [xH bs,.int .i64 (j:Int),.int .i64 s.group,.int .i64 s.sub,.int .i64 s.regs,.int .i64 0,.int .i64 3,arrs,vL,.ms nb 0 (pre.length+1)])/\(h n).used=true/\(h nb).live=true /\
   (∀(t:Term) {KH:HKq},(∀h',aP h' n k arrs (mm s pre is t)->aK n h h'->KH .undef h') ->
    aa PP (.iadd (.c (.ms nb 0 (pre.length+1))) (.c (.int .i64 (pre.length:Int))) 14) h fun a h1=>aa PP (.fadd (.c a) 1) h1 fun b h2=>aa PP (.st (.c b) (.c t.e) 13) h2 KH) /\
   (∀(t:Term) {KH:HKq},(∀h',aP h' n k arrs (mm s pre is t)->aK n h h'->KH .undef h') ->
    ae PP (.iadd (.c (.ms nb 0 (pre.length+1))) (.c (.int .i64 (pre.length:Int))) 14) h fun a=>ae PP (.fadd (.c a) 1) h fun b=>aa PP (.st (.c b) (.c t.e) 13) h KH):=by
 obtain⟨bs,j,vL,nb,vs,h1,h2,h3,h4,h5,h6⟩:=r.some (by simp[mm])
 have hl:(mm s pre is t0).blocks.length=pre.length+1:=by simp[mm]
 have e4:h n=.box (.agg [xH bs,.int .i64 (j:Int),.int .i64 s.group,.int .i64 s.sub,.int .i64 s.regs,.int .i64 0,.int .i64 3,arrs,vL,.ms nb 0 (pre.length+1)]):=by rw[h4,cX,hl];rfl
 have st:∀(t:Term) {KH:HKq},(∀h',aP h' n k arrs (mm s pre is t)->aK n h h'->KH .undef h')->aa PP (.st (.c (.ptr nb pre.length 1)) (.c t.e) 13) h KH:=by
  intro t KH hK
  refine Ph (i:=pre.length) h1 h2 h3 h4 h5 h6 (by rw[hl];omega) fun h' r' k'=>hK h' ?_ k'
  have:EA (mm s pre is t0).blocks pre.length t=pre++[⟨is,t⟩]:=by simp only[mm,EA];rw[AZ]
  rw[this]at r'
  exact r'
 have c1:((0:Int)<=(pre.length:Int))=True:=eq_true (by omega)
 have c2:((pre.length:Int)<((pre.length+1:Nat):Int))=True:=eq_true (by omega)
 have c3:(∃els,(h nb).row=some (14,els))=True:=eq_true ⟨_,by rw[h5];rfl⟩
 have eu:(h nb).used=true:=by rw[h5];rfl
 refine⟨bs,j,vL,nb,e4,by rw[h4];rfl,by rw[h5];rfl,fun t KH hK=>?_,fun t KH hK=>?_⟩
 ·rw[mP,c1,c2,c3]
  simp only[true_and,aA,Nat.zero_add,↓JZ eu]
  exact st t hK
 ·rw[mV,mP,c1,c2,c3]
  simp only[true_and,aA,Nat.zero_add,↓mH eu]
  exact st t hK
theorem tk {h:Heap}{n k:Nat}{arrs:D}{s:MS}{bs:List Block}(r:aP h n k arrs { s with blocks:=bs }) (hl:bs.length<=50){KH:HKq}
  (hK:∀h':Heap,aP h' n k arrs (mm s bs [] km)->aK n h h'->KH (.tup []) h'):ai PP bc [.ptr n 0 0] h KH :=
 PT r (by simp only;omega) fun h' r' k'=>hK h' r' k'
theorem OM {h:Heap}{n k:Nat}{arrs:D}{s:MS}{v:Int}(r:aP h n k arrs s){KH:HKq}
  (hK:∀h':Heap,aP h' n k arrs { s with regs:=v }->aK n h h'->KH .undef h'):aa PP (.st (.c (.ptr n 0 4)) (.c (.int .i64 v)) 1) h KH:=by
 obtain⟨bs,j,vL,vB,vs,h1,h2,h3,h4,h5⟩:=r.st
 rw[mQ,h4]
 refine⟨rfl,by simp,rfl,by simp[cX],?_⟩
 exact hK _ ⟨bs,j,vL,vB,vs,h1,h2,h3,by rw[ar];simp[cX,setCells],h5.box h4 _⟩ aK.self
theorem Rg {h:Heap}{n k:Nat}{arrs:D}{s:MS}{v:Int}(r:aP h n k arrs s){KH:HKq}
  (hK:∀h':Heap,aP h' n k arrs { s with sub:=v }->aK n h h'->KH .undef h'):aa PP (.st (.c (.ptr n 0 3)) (.c (.int .i64 v)) 1) h KH:=by
 obtain⟨bs,j,vL,vB,vs,h1,h2,h3,h4,h5⟩:=r.st
 rw[mQ,h4]
 refine⟨rfl,by simp,rfl,by simp[cX],?_⟩
 exact hK _ ⟨bs,j,vL,vB,vs,h1,h2,h3,by rw[ar];simp[cX,setCells],h5.box h4 _⟩ aK.self
theorem app_loop {h:Heap}{n k:Nat}{arrs:D}{s:MS}{l:Loop}{bytes:Nat}{z z':D}(r:aP h n k arrs s) (hl:s.loops.length<=1000) (hby:bytes<=1000){bs0:List Nat}{j0:Nat}{vL:D}{vB:D}(e:h n=.box (cX bs0 j0 arrs s vL vB)){KH:HKq}
  (hK:∀h':Heap,aP h' n k arrs { s with loops:=s.loops++[l] }->aK n h h'->KH .undef h') :
  aa PP (.bldS true 3 1 z [(0,.c l.e)]) h fun x h1=>aa PP (.app (.c vL) (.c x) 3 bytes z') h1 fun v h2=>aa PP (.fadd (.c (.ptr n 0 0)) 0) h2 fun a h3=>aa PP (.fadd (.c a) 2) h3 fun b h4=>aa PP (.fadd (.c b) 6) h4 fun c h5=>aa PP (.st (.c c) (.c v) 1) h5 KH:=by
 obtain⟨bs,j,vL',vB',vs,h1,h2,h3,h4,h5⟩:=r.st
 have ee:vL=vL'/\vB=vB'/\bs0=bs/\j0=j:=by
  rw[e]at h4
  simp only[cX,Slot.box.injEq,D.agg.injEq,aq,D.int.injEq,and_true,true_and,xH,D.sl.injEq]at h4
  obtain⟨q1,q2,q3,q4⟩:=h4
  refine⟨q3,q4,?_,by omega⟩
  have:=congrArg (List.map (fun d=>match d with|D.int _ i=>i.toNat|_=>0)) q1
  simpa[List.map_map,Function.comp_def] using this
 obtain⟨rfl,rfl,rfl,rfl⟩:=ee
 have hbb:((List.map Loop.e s.loops).length+1)*bytes<=140737488355328:=by
  rw[aw]
  exact Nat.le_trans (Nat.mul_le_mul (show s.loops.length+1<=1001 by omega) hby) (by omega)
 refine Ak h5.oL (Loop.dS l) rfl hbb (by rw[aw];omega) fun m h' f1 f2 f3=>?_
 have hnm:n≠m:=by rintro rfl;rw[h4]at f1;cases f1
 have hnL:n∉vL.jV:=fun hm=>by have:=qf h5.oL hm;rw[h4]at this;cases this
 have h4':h' n=h n:=f3 n hnm hnL (by rw[h4];simp)
 have eu:(h' n).used=true:=by rw[h4',h4];rfl
 simp only[↓JZ eu,Nat.zero_add,Nat.reduceAdd]
 rw[mQ,h4',h4]
 refine⟨rfl,by simp,rfl,by simp[cX],?_⟩
 have hnew:∀k',k'∈bE (vL::vB::vs)->h k'≠.free:=fun k' hk'=>by obtain⟨e,l,hkl⟩:=h5.arr hk';rw[hkl];simp
 have hmn:m∉bE (vL::vB::vs):=fun hm=>hnew m hm f1
 have hnd:=h5.nd
 rw[bk]at hnd hmn
 simp only[List.mem_append,not_or]at hmn
 have hnd':=List.nodup_append.1 hnd
 have same:∀{x:Slot}(k':Nat),k'∈bE (vB::vs)->(aD h' n x) k'=h k':=by
  intro x k' hk'
  have hkk:k'∈bE (vL::vB::vs):=by rw[bk];exact List.mem_append_right _ hk'
  have e1:k'≠n:=by
   rintro rfl
   obtain⟨e,l,hkl⟩:=h5.arr hkk
   rw[h4]at hkl;cases hkl
  have e2:k'≠m:=by rintro rfl;exact hmn.2 hk'
  have e3:k'∉vL.jV:=fun hL=>hnd'.2.2 k' hL k' hk' rfl
  rw[an _ _ e1]
  exact f3 k' e2 e3 (hnew k' hkk)
 refine hK _ ⟨bs0,j0,.ms m 0 ((List.map Loop.e s.loops).length+1),vB,vs,h1,h2,h3,by rw[ar];simp[cX,setCells],?_⟩ fun q d hq hd=>?_
 ·refine⟨Or.inr ⟨m,by simp,by rw[an _ _ hnm.symm,f2];simp⟩,dD h5.oB fun k' q=>same k' (ml (by simp) q),h5.len,fun i v b hv hb=>dD (h5.oI i v b hv hb) fun k' q=>same k' (ml ?_ q),?_⟩
  ·have:=ak hv
   simp[this]
  ·rw[bk]
   exact List.nodup_cons.2 ⟨hmn.2,hnd'.2.1⟩
 ·rw[an _ _ hq]
  have e2:q≠m:=by rintro rfl;rw[hd]at f1;cases f1
  have e3:q∉vL.jV:=fun hm=>by have:=qf h5.oL hm;rw[hd]at this;cases this
  rw[f3 q e2 e3 (by rw[hd];simp)];exact hd
structure Gw (h:Heap) (n k:Nat) (arrs:D) (s:MS) (vL vB:D):Prop where
 st:∃(bs:List Nat) (j:Nat) (vs:List D),(∀b∈bs,b<=255)/\bs.length<=9223372036854775807/\j<=k/\h n=.box (cX bs j arrs s vL vB)/\Rows h s.loops s.blocks vL vB vs
theorem Gw.rel {h:Heap}{n k:Nat}{arrs:D}{s:MS}{vL vB:D}(r:Gw h n k arrs s vL vB):aP h n k arrs s:=by
 obtain⟨bs,j,vs,h1,h2,h3,h4,h5⟩:=r.st
 exact⟨bs,j,vL,vB,vs,h1,h2,h3,h4,h5⟩
theorem aP.v {h:Heap}{n k:Nat}{arrs:D}{s:MS}(r:aP h n k arrs s):∃vL vB,Gw h n k arrs s vL vB:=by
 obtain⟨bs,j,vL,vB,vs,h1,h2,h3,h4,h5⟩:=r.st
 exact⟨vL,vB,bs,j,vs,h1,h2,h3,h4,h5⟩
theorem Gw.new {h:Heap}{n k:Nat}{arrs:D}{s:MS}{vL vB:D}(r:Gw h n k arrs s vL vB){m:Nat}(hm:h m=.free) (x:Slot):Gw (aD h m x) n k arrs s vL vB/\m≠n:=by
 obtain⟨bs,j,vs,h1,h2,h3,h4,h5⟩:=r.st
 have hne:n≠m:=by rintro rfl;rw[h4]at hm;cases hm
 exact⟨⟨bs,j,vs,h1,h2,h3,by rw[an _ _ hne];exact h4,h5.free hm x⟩,hne.symm⟩
theorem Gw.cc {h:Heap}{n k:Nat}{arrs:D}{s:MS}{vL vB:D}(r:Gw h n k arrs s vL vB){m:Nat}{d:D}(hm:h m=.box d) (hne:m≠n) (x:Slot):Gw (aD h m x) n k arrs s vL vB:=by
 obtain⟨bs,j,vs,h1,h2,h3,h4,h5⟩:=r.st
 exact⟨bs,j,vs,h1,h2,h3,by rw[an _ _ hne.symm];exact h4,h5.box hm x⟩
theorem Gw.le {h:Heap}{n k k':Nat}{arrs:D}{s:MS}{vL vB:D}(r:Gw h n k arrs s vL vB) (hk:k<=k'):Gw h n k' arrs s vL vB:=by
 obtain⟨bs,j,vs,h1,h2,h3,h4,h5⟩:=r.st
 exact⟨bs,j,vs,h1,h2,by omega,h4,h5⟩
theorem yC {h:Heap}{n k:Nat}{arrs:D}{s:MS}{vL vB:D}(r:Gw h n k arrs s vL vB) (hk:k<1000000){KH:HKq}(hK:∀(b:Nat) (h':Heap),b<=255->Gw h' n (k+1) arrs s vL vB->aK n h h'->KH (.int .i64 (b:Int)) h') :
  ai PP au [.ptr n 0 0] h KH:=by
 obtain⟨bs,j,vs,h1,h2,h3,h4,h5⟩:=r.st
 refine Gi h4 h1 h2 (by omega) fun b hb=>hK b _ hb ⟨bs,j+1,vs,h1,h2,by omega,ar _ _ _,h5.box h4 _⟩ aK.self
theorem Jb {vL vB:D}{h:Heap}{n k:Nat}{arrs:D}{s:MS}(r:Gw h n k arrs s vL vB) (hk:k<1000000){KH:HKq}(hK:∀(b:Nat) (h':Heap),b<6->Gw h' n (k+1) arrs s vL vB->aK n h h'->KH (fe (b:Int)).e h') :
  ai PP aU [.ptr n 0 0] h KH:=by
 refine aT lz (aJ _ _ _) rfl (lk _ _) ?_
 unfold jR
 rw[gf]
 intro m t
 obtain⟨r1,hne⟩:=r.new t.free (.box (.agg [(.int .i64 0),(.int .i64 0),(.int .i32 0)]))
 refine yC r1 hk fun b h' hb r2 hkeep=>?_
 have hm:=hkeep m _ hne (ar _ _ _)
 have e6:((b:Int).tmod 6)=((b % 6:Nat):Int):=ba b 6
 rw[dt]
 refine⟨by omega,?_⟩
 rw[e6]
 refine gb pD ⟨aW,trivial⟩ ?_
 simp only[↓mQ,hm]
 refine⟨by first|rfl|trivial,(cY.dS _).one,by first|rfl|trivial,by simp,?_⟩
 have hset:setCells (.agg [(.int .i64 0),(.int .i64 0),(.int .i32 0)]) 0 (fe ((b % 6:Nat):Int)).e.cells=(fe ((b % 6:Nat):Int)).e:=rfl
 rw[hset]
 simp only[↓xh,ar,true_and]
 refine⟨by simp[cY.e,cY.cs],?_⟩
 refine hK (b % 6) _ (Nat.mod_lt _ (by omega)) (r2.cc hm hne _) fun q d hq hd=>?_
 have hqm:q≠m:=by rintro rfl;rw[t.free]at hd;cases hd
 rw[an _ _ hqm]
 exact hkeep q d hq (by rw[an _ _ hqm];exact hd)
theorem NU {vL vB:D}{h:Heap}{n k:Nat}{arrs:D}{s:MS}(r:Gw h n k arrs s vL vB) (hk:k<1000000){KH:HKq}(hK:∀(o:cY) (h':Heap),Bb o->Gw h' n (k+1) arrs s vL vB->aK n h h'->KH o.e h') :
  ai PP aS [.ptr n 0 0] h KH:=by
 refine aT lx (aJ _ _ _) rfl (lh _ _) ?_
 unfold jQ
 rw[gf]
 intro m t
 obtain⟨r1,hne⟩:=r.new t.free (.box (.agg [(.int .i64 0),(.int .i64 0),(.int .i32 0)]))
 refine yC r1 hk fun b h' hb r2 hkeep=>?_
 have hm:=hkeep m _ hne (ar _ _ _)
 have fin:∀o:cY,Bb o->aa PP (.st (.c (.ptr m 0 0)) (.c o.e) 3) h' fun _ h1=>aa PP (.ld (.c (.ptr m 0 0)) 3 true) h1 fun a _=>KH a h1:=by
  intro o ho
  simp only[↓mQ,hm]
  refine⟨by first|rfl|trivial,(cY.dS _).one,by first|rfl|trivial,by simp[cY.e,cY.cs],?_⟩
  have hset:setCells (.agg [(.int .i64 0),(.int .i64 0),(.int .i32 0)]) 0 o.e.cells=o.e:=rfl
  rw[hset]
  simp only[↓xh,ar,true_and]
  refine⟨by simp[cY.e,cY.cs],?_⟩
  refine hK o _ ho (r2.cc hm hne _) fun q d hq hd=>?_
  have hqm:q≠m:=by rintro rfl;rw[t.free]at hd;cases hd
  rw[an _ _ hqm]
  exact hkeep q d hq (by rw[an _ _ hqm];exact hd)
 have e3:((b:Int).tmod 3)=((b % 3:Nat):Int):=ba b 3
 have d3:IntKind.i64.wrap ((b:Int).tdiv 3)=((b / 3:Nat):Int):=by
  have:((b:Int).tdiv 3)=((b / 3:Nat):Int):=(Int.ofNat_tdiv b 3).symm
  rw[this];exact wrap64 (by omega) (by omega)
 rw[dt]
 refine⟨by omega,?_⟩
 rw[e3,bQ]
 by_cases hc:b % 3=0
 ·have hc':((b % 3:Nat):Int)=0:=by omega
  simp only[hc',decide_true,ag,↓GN]
  refine⟨by omega,?_⟩
  have w:IntKind.i32.wrap ((b / 3:Nat):Int)=((b / 3:Nat):Int):=by simp only[IntKind.wrap,IntKind.signed,IntKind.bits];simp;omega
  have w2:IntKind.i32.wrap (((b / 3:Nat):Int)-20)=((b / 3:Nat):Int)-20:=by simp only[IntKind.wrap,IntKind.signed,IntKind.bits];simp;omega
  rw[d3,oW,w,lS,w2]
  refine gb qG ⟨aW,trivial⟩ ?_
  exact fin _ (Or.inr ⟨_,by omega,by omega,rfl⟩)
 ·have hc':¬((b % 3:Nat):Int)=0:=by omega
  simp only[hc',decide_false,af,↓GN]
  refine⟨by omega,?_⟩
  rw[d3,dt]
  refine⟨by omega,?_⟩
  have e6:(((b / 3:Nat):Int).tmod 6)=((b / 3 % 6:Nat):Int):=ba (b / 3) 6
  rw[e6]
  refine gb pD ⟨aW,trivial⟩ ?_
  exact fin _ (Or.inl ⟨b / 3 % 6,Nat.mod_lt _ (by omega),rfl⟩)
theorem fQ {h:Heap}{n k:Nat}{arrs:D}{s:MS}{pre:List Block}{is:List aX}{t0:Term}{vL vB:D}(r:Gw h n k arrs (mm s pre is t0) vL vB) :
  ∃(bs:List Nat) (j:Nat) (nb:Nat),vB=.ms nb 0 (pre.length+1)/\h n=.box (.agg [xH bs,.int .i64 (j:Int),.int .i64 s.group,.int .i64 s.sub,.int .i64 s.regs,.int .i64 0,.int .i64 3,arrs,vL,vB])/\(h n).used=true /\
   (∀(t:Term) {KH:HKq},(∀h',aP h' n k arrs (mm s pre is t)->aK n h h'->KH .undef h') ->
    ae PP (.iadd (.c vB) (.c (.int .i64 (pre.length:Int))) 14) h fun a=>ae PP (.fadd (.c a) 1) h fun b=>aa PP (.st (.c b) (.c t.e) 13) h KH):=by
 obtain⟨bs,j,vs,h1,h2,h3,h4,h5⟩:=r.st
 obtain⟨bs',j',vL',nb',e',eu,-,-,st⟩:=nQ r.rel
 rw[h4]at e'
 simp only[cX,Slot.box.injEq,D.agg.injEq,aq,and_true]at e'
 obtain⟨q1,-,-,-,-,-,-,-,q3,q4⟩:=e'
 refine⟨bs,j,nb',q4,by rw[h4];rfl,eu,fun t KH hK=>?_⟩
 rw[q4]
 exact st t hK
theorem JQ {esz:Nat}{h:Heap}{v:D}{els:List D}(ho:Own esz h v els){K:D->Prop}:aR v h K=K (.int .i64 (els.length:Int)):=by
 rcases ho with⟨rfl,rfl⟩|⟨m,rfl,hm⟩
 ·rfl
 ·rw[bu,hm];simp[Slot.live]
theorem JL {h:Heap}{n k:Nat}{arrs:D}{s:MS}(r:aP h n k arrs s):∃(bs:List Nat) (j:Nat) (vL vB:D),
  h n=.box (cX bs j arrs s vL vB)/\(h n).used=true/\(∀K:D->Prop,aR vL h K=K (.int .i64 (s.loops.length:Int))):=by
 obtain⟨bs,j,vL,vB,vs,h1,h2,h3,h4,h5⟩:=r.st
 exact⟨bs,j,vL,vB,h4,by rw[h4];rfl,fun K=>by rw[JQ h5.oL,aw]⟩
def Iy (s:MS) (hd:Nat) (b:Int):MS:={ s with regs:=6+2*(s.loops.length:Int)+2,loops:=s.loops++[⟨(hd:Int),6+2*(s.loops.length:Int),b⟩] }
set_option maxHeartbeats 2000000 in
theorem Sr {h:Heap}{n k:Nat}{s:MS}{pre:List Block}{is:List aX}{t:Term}(r:aP h n k bp (mm s pre is t)) (hA:lB (pre.length+1) s.regs pre) (hX:mw s.regs is) (hi:is.length<=10) (hp:pre.length<=40)
  (hq:s.loops.length<=10) (hR:s.regs=6+2*(s.loops.length:Int)) (hk:k<600000) {KH:HKq}
  (hK:∀(b:Int) (bs:List Block) (h':Heap),1<=b->b<=3->bs.length=pre.length+3->lB (pre.length+4) (s.regs+2) bs->aP h' n (k+100) bp { Iy s (pre.length+1) b with blocks:=bs }->aK n h h'->KH (.tup []) h') :
  ai PP dK [.ptr n 0 0] h KH:=by
 refine aT ss (aJ _ _ _) rfl (sj _ _) ?_
 unfold na
 obtain⟨bs0,j0,vL0,vB0,e0,eu0,el0⟩:=JL r
 unfold cX at e0
 have el0':∀K:D->Prop,aR vL0 h K=K (.int .i64 (s.loops.length:Int)):=el0
 generalize hqe:s.loops.length=q at *
 simp only[↓JZ eu0,Nat.zero_add,Nat.reduceAdd,↓KW e0 (j:=8) rfl,el0']
 rw[ES,wrap64 (by omega) (by omega),eK,wrap64 (by omega) (by omega)]
 refine eJ r (by omega) fun b h1 _ r1 k1=>?_
 rw[dt]
 refine⟨by omega,?_⟩
 rw[show((b:Int).tmod 3)=((b % 3:Nat):Int) from ba b 3,eK,wrap64 (by omega) (by omega),eK,wrap64 (by omega) (by omega)]
 have hb3:b % 3<3:=Nat.mod_lt _ (by omega)
 generalize hbe:1+((b % 3:Nat):Int)=bd
 have hbd1:1<=bd:=by omega
 have hbd2:bd<=3:=by omega
 obtain⟨-,-,-,-,-,eu1,-⟩:=JL r1
 simp only[↓JZ eu1,Nat.zero_add,Nat.reduceAdd]
 refine OM (v:=6+2*(q:Int)+2) r1 fun h2 r2 k2=>?_
 have r2:aP h2 n (k+1) bp (mm { s with regs:=6+2*(q:Int)+2 } pre is t):=r2
 obtain⟨bs2,j2,vL2,nb2,e2,eu2,lv2,-,-⟩:=nQ r2
 simp only[↓JZ eu2,Nat.zero_add,Nat.reduceAdd,↓KW e2 (j:=9) rfl,↓bu,lv2,true_and]
 refine gb pD ⟨aW,trivial⟩ ?_
 refine gb qG ⟨aW,trivial⟩ ?_
 have hB9:∀{is':List aX},is'.length<=900->L4 pre is' 900:=fun hh=>hA.Sz (by omega) hh
 refine jG ⟨1,0,0,fe (6+2*(q:Int)),Const 0,aj,aj⟩ r2 (hB9 (by omega)) rfl rfl fun h3 r3 k3=>?_
 obtain⟨bs3,j3,vL3,nb3,e3,eu3,lv3,Qx,-⟩:=nQ r3
 simp only[↓JZ eu3,Nat.zero_add,Nat.reduceAdd,↓KW e3 (j:=9) rfl]
 rw[lS,wrap64 (by omega) (by omega),ew rfl,ew rfl,show((pre.length+1:Nat):Int)-1=(pre.length:Int) by omega]
 refine Qx ⟨1,0,aj,aj,aj,((pre.length+1:Nat):Int),0⟩ fun h4 r4 k4=>?_
 have kk4:=(((k1.trans k2).trans k3).trans k4)
 refine⟨fun qs h'=>qs=[.ptr n 0 0,.int .i64 (6+2*(q:Int)),.int .i64 bd,.int .i64 ((pre.length+1:Nat):Int)] /\
  aP h' n (k+1) bp (mm (Iy s (pre.length+1) bd) pre (is++[⟨1,0,0,fe (6+2*(q:Int)),Const 0,aj,aj⟩]) ⟨1,0,aj,aj,aj,((pre.length+1:Nat):Int),0⟩)/\aK n h h',?_,?_⟩
 ·rintro f h5 ⟨hf,r5,k5⟩
  simp only[aq,and_true]at hf
  obtain⟨f0,f2,f3,f4⟩:=hf
  rw[f0,f2,f3,f4]
  clear Qx e3 e2 e0
  have hreg:(Iy s (pre.length+1) bd).regs=s.regs+2:=by simp only[Iy,hqe];omega
  have rn:mA (s.regs+2) (fe (6+2*(q:Int))):=⟨_,by omega,by omega,rfl⟩
  have rn1:mA (s.regs+2) (fe (6+2*(q:Int)+1)):=⟨_,by omega,by omega,rfl⟩
  obtain⟨B1,hB1⟩:∃B:Block,B=⟨is++[⟨1,0,0,fe (6+2*(q:Int)),Const 0,aj,aj⟩],⟨1,0,aj,aj,aj,((pre.length+1:Nat):Int),0⟩⟩:=⟨_,rfl⟩
  have A1:lB (pre.length+4) (s.regs+2) (pre++[B1]):=(hA.mono (by omega) (by omega)).snoc (by
   rw[hB1]
   exact⟨(hX.mono (by omega)).append (.one (.mov _ _ rn (Or.inr ⟨0,by omega,by omega,rfl⟩)) (by simp)),by simp;omega,.jump (pre.length+1) (by omega)⟩)
  have r5':aP h5 n (k+1) bp { Iy s (pre.length+1) bd with blocks:=pre++[B1] }:=by rw[hB1];exact r5
  have l1:(pre++[B1]).length=pre.length+1:=by simp
  clear hB1 r5
  generalize pre++[B1]=pre1 at A1 r5' l1
  refine tk r5' (by omega) fun h6 r6 k6=>?_
  rw[eK,wrap64 (by omega) (by omega)]
  refine gb pD ⟨aW,trivial⟩ ?_
  refine gb pD ⟨aW,trivial⟩ ?_
  rw[oW,show IntKind.i32.wrap bd=bd by simp only[IntKind.wrap,IntKind.signed,IntKind.bits];simp;omega]
  refine gb qG ⟨aW,trivial⟩ ?_
  refine jG ⟨3,26,0,fe (6+2*(q:Int)+1),fe (6+2*(q:Int)),Const bd,aj⟩ r6 (A1.Sz (by omega) (by simp)) rfl rfl fun h7 r7 k7=>?_
  obtain⟨bs7,j7,vL7,nb7,e7,eu7,lv7,-,st7⟩:=nQ r7
  simp only[↓mH eu7,Nat.zero_add,Nat.reduceAdd,↓s9 e7 (j:=9) rfl]
  rw[eK,wrap64 (by omega) (by omega)]
  refine FD pD ⟨aW,trivial⟩ ?_
  rw[eK,wrap64 (by omega) (by omega),eK,wrap64 (by omega) (by omega),dB rfl,dB rfl]
  rw[l1]at st7 ⊢
  refine st7 ⟨2,0,aj,fe (6+2*(q:Int)+1),aj,((pre.length+1:Nat):Int)+1,((pre.length+1:Nat):Int)+2⟩ fun h8 r8 k8=>?_
  obtain⟨B2,hB2⟩:∃B:Block,B=⟨[]++[⟨3,26,0,fe (6+2*(q:Int)+1),fe (6+2*(q:Int)),Const bd,aj⟩],⟨2,0,aj,fe (6+2*(q:Int)+1),aj,((pre.length+1:Nat):Int)+1,((pre.length+1:Nat):Int)+2⟩⟩:=⟨_,rfl⟩
  have A2:lB (pre.length+4) (s.regs+2) (pre1++[B2]):=A1.snoc (by
   rw[hB2]
   exact⟨.one (.bin _ _ _ _ (by omega) rn1 rn.val (Or.inr ⟨bd,by omega,by omega,rfl⟩)) (by simp),by simp,.branch _ (pre.length+2) (pre.length+3) rn1 (by omega) (by omega)⟩)
  have r8':aP h8 n (k+1) bp { Iy s (pre.length+1) bd with blocks:=pre1++[B2] }:=by rw[hB2];exact r8
  have l2:(pre1++[B2]).length=pre.length+2:=by simp;omega
  clear hB2 r8 st7 e7
  generalize pre1++[B2]=pre2 at A2 r8' l2
  refine tk r8' (by omega) fun h9 r9 k9=>?_
  refine gb pD ⟨aW,trivial⟩ ?_
  refine gb pD ⟨aW,trivial⟩ ?_
  refine gb qG ⟨aW,trivial⟩ ?_
  refine jG ⟨3,10,0,fe (6+2*(q:Int)),fe (6+2*(q:Int)),Const 1,aj⟩ r9 (A2.Sz (by omega) (by simp)) rfl rfl fun h10 r10 k10=>?_
  refine CE r10 (A2.Sz (by omega) (by simp)) (by omega) fun xs h11 hxs hxl r11 k11=>?_
  obtain⟨bs11,j11,vL11,nb11,e11,eu11,lv11,st11,-⟩:=nQ r11
  simp only[↓JZ eu11,Nat.zero_add,Nat.reduceAdd,↓KW e11 (j:=9) rfl]
  rw[eK,wrap64 (by omega) (by omega),ew rfl,ew rfl]
  rw[l2]at st11 ⊢
  rw[show((pre.length+1:Nat):Int)+1=((pre.length+2:Nat):Int) by omega]
  refine st11 ⟨1,0,aj,aj,aj,((pre.length+1:Nat):Int),0⟩ fun h12 r12 k12=>?_
  clear st11 e11
  have hxs2:mw (s.regs+2) ([]++[⟨3,10,0,fe (6+2*(q:Int)),fe (6+2*(q:Int)),Const 1,aj⟩]++xs) :=
   (mw.one (.bin _ _ _ _ (by omega) rn rn.val (Or.inr ⟨1,by omega,by omega,rfl⟩)) (by simp)).append (hxs.mono (by omega))
  have hxl2:([]++[⟨3,10,0,fe (6+2*(q:Int)),fe (6+2*(q:Int)),Const 1,aj⟩]++xs:List aX).length<=20:=by simp;omega
  generalize ([]++[⟨3,10,0,fe (6+2*(q:Int)),fe (6+2*(q:Int)),Const 1,aj⟩]++xs:List aX)=ys at hxs2 hxl2 r12
  have kk:=((((((k5.trans k6).trans k7).trans k8).trans k9).trans k10).trans k11).trans k12
  refine⟨fun qs h'=>∃c:Bool,qs=[.ptr n 0 0,.int .i64 ((pre.length+1:Nat):Int),.bool c]/\aP h' n (k+52) bp (mm (Iy s (pre.length+1) bd) pre2 ys ⟨1,0,aj,aj,aj,((pre.length+1:Nat):Int),0⟩)/\aK n h h',?_,?_⟩
  ·rintro g h13 ⟨c,hg,r13,k13⟩
   simp only[aq,and_true]at hg
   obtain⟨g0,g4,g119⟩:=hg
   rw[g0,g4,g119]
   cases c with
   | false =>
    rw[af]
    exact hK bd _ h13 hbd1 hbd2 (by simp;omega) (A2.snoc ⟨hxs2,hxl2,.jump (pre.length+1) (by omega)⟩) (r13.le (by omega)) k13
   | true =>
    rw[ag]
    obtain⟨vL13,vB13,r13⟩:=r13.v
    obtain⟨bs13,j13,nb13,ev13,e13,eu13,-⟩:=fQ r13
    simp only[↓mH eu13,Nat.zero_add,Nat.reduceAdd,↓s9 e13 (j:=9) rfl]
    rw[eK,wrap64 (by omega) (by omega),eK,wrap64 (by omega) (by omega),dB rfl]
    refine Jb r13 (by omega) fun d h14 hd r14 k14=>?_
    obtain⟨bs14,j14,nb14,ev14,e14,eu14,st14⟩:=fQ r14
    simp only[↓mH eu14,Nat.zero_add,Nat.reduceAdd,↓s9 e14 (j:=9) rfl,ab,true_and]
    rw[dB rfl,show((pre.length+1:Nat):Int)+1=(pre2.length:Int) by omega]
    refine st14 ⟨2,0,aj,fe d,aj,((pre.length+1:Nat):Int),((pre.length+1:Nat):Int)+2⟩ fun h15 r15 k15=>?_
    exact hK bd _ h15 hbd1 hbd2 (by simp;omega) (A2.snoc ⟨hxs2,hxl2,.branch (fe d) (pre.length+1) (pre.length+3) ((er hd).mono (by omega)) (by omega) (by omega)⟩) (r15.le (by omega)) ((k13.trans k14).trans k15)
  ·refine eJ r12 (by omega) fun b' h13 _ r13 k13=>?_
   rw[dt]
   refine⟨by omega,?_⟩
   rw[bQ]
   exact⟨rfl,_,rfl,r13.le (by omega),kk.trans k13⟩
 ·obtain⟨bs4,j4,vL4,vB4,e4,eu4,-⟩:=JL r4
  have e4':=e4
  unfold cX at e4'
  simp only[↓JZ eu4,Nat.zero_add,Nat.reduceAdd,↓KW e4' (j:=8) rfl]
  rw[ew rfl]
  refine app_loop (l:=⟨((pre.length+1:Nat):Int),6+2*(q:Int),bd⟩) r4 (by simp only[mm];omega) (by omega) e4 fun h5 r5 k5=>?_
  refine⟨by first|rfl|trivial,by first|rfl|trivial,?_,kk4.trans k5⟩
  have:Iy s (pre.length+1) bd={ s with regs:=6+2*(q:Int)+2,loops:=s.loops++[⟨((pre.length+1:Nat):Int),6+2*(q:Int),bd⟩] }:=by rw[Iy,hqe]
  rw[this]
  exact r5
end Go.Am
namespace Go.Am
open Go
set_option maxHeartbeats 2000000 in
theorem HF {h:Heap}{n k m:Nat}{s:MS}{bs:List Block}(r:aP h n k bp { s with blocks:=bs }) (hA:lB (bs.length+1) s.regs bs) (hl:bs.length<=40) (hR:6<=s.regs) (hm:m<=2) (hk:k<500000){KH:HKq}
  (hK:∀(pre:List Block) (is:List aX) (h':Heap),pre.length=bs.length+m->lB (pre.length+1) s.regs pre->mw 6 is->is.length<=8->aP h' n (k+300) bp (mm s pre is km)->aK n h h'->KH (.tup []) h') :
  ai PP et [.ptr n 0 0,.int .i64 (m:Int)] h KH:=by
 refine aT p6 (aJ _ _ _) rfl (pN _ _ _) ?_
 unfold lj
 refine tk r (by omega) fun h1 r1 k1=>?_
 obtain⟨bs1,j1,vL1,nb1,e1,eu1,lv1,-,-⟩:=nQ r1
 simp only[↓JZ eu1,Nat.zero_add,Nat.reduceAdd,↓KW e1 (j:=9) rfl,↓bu,lv1,true_and]
 rw[lS,wrap64 (by omega) (by omega),eK,wrap64 (by omega) (by omega),show((bs.length+1:Nat):Int)-1=(bs.length:Int) by omega]
 refine⟨fun qs h'=>qs=[]/\∃pre:List Block,pre.length=bs.length+m/\lB (pre.length+1) s.regs pre/\aP h' n (k+200) bp (mm s pre [] km)/\aK n h h',?_,?_⟩
 ·rintro f h2 ⟨-,pre,hpl,hpA,r2,k2⟩
  refine CE r2 (hpA.Sz (by omega) (by simp)) (by omega) fun xs h3 hx hxl r3 k3=>?_
  exact hK pre xs h3 hpl hpA hx hxl (r3.le (by omega)) (k2.trans k3)
 ·unfold jc
  refine⟨fun j qs h'=>j<=m/\qs=[.int .i64 ((bs.length+(m-j):Nat):Int)]/\∃pre:List Block,pre.length=bs.length+(m-j)/\lB (bs.length+m+1) s.regs pre/\aP h' n (k+80*(m-j)) bp (mm s pre [] km)/\aK n h h',m,⟨Nat.le_refl _,by simp,bs,by simp,hA.mono (by omega) (by omega),by simpa using r1,k1⟩,?_⟩
  rintro j f h2 ⟨hj,hq,pre,hpl,hpA,r2,k2⟩
  simp only[aq,and_true]at hq
  rw[hq,xM,show(bs.length:Int)+(m:Int)=((bs.length+m:Nat):Int) by omega]
  by_cases h0:0<j
  ·simp only[show(((bs.length+(m-j):Nat):Int)<((bs.length+m:Nat):Int))=True from eq_true (by omega),decide_true,↓ag]
   refine CE r2 (hpA.Sz (by omega) (by simp)) (by omega) fun xs h3 hx hxl r3 k3=>?_
   rw[List.nil_append]at r3
   obtain⟨bs3,j3,vL3,nb3,e3,eu3,lv3,Qx,-⟩:=nQ r3
   simp only[↓JZ eu3,Nat.zero_add,Nat.reduceAdd,↓KW e3 (j:=9) rfl]
   rw[eK,wrap64 (by omega) (by omega),ew rfl,ew rfl]
   rw[show((bs.length+(m-j):Nat):Int)+1=((bs.length+(m-j)+1:Nat):Int) by omega]
   rw[hpl]at Qx ⊢
   refine Qx ⟨1,0,aj,aj,aj,((bs.length+(m-j)+1:Nat):Int),0⟩ fun h4 r4 k4=>?_
   clear Qx e3
   have kk4:=(k2.trans k3).trans k4
   refine⟨fun qs h'=>qs=[]/\∃T:Term,xJ (bs.length+m+1) s.regs T/\aP h' n (k+80*(m-j)+60) bp (mm s pre xs T)/\aK n h h',?_,?_⟩
   ·rintro g h5 ⟨-,T,hT,r5,k5⟩
    have A5:lB (bs.length+m+1) s.regs (pre++[⟨xs,T⟩]):=hpA.snoc ⟨hx.mono hR,by simp only;omega,hT⟩
    refine tk (bs:=pre++[⟨xs,T⟩]) r5 (by simp;omega) fun h6 r6 k6=>?_
    rw[eK,wrap64 (by omega) (by omega)]
    refine⟨rfl,j-1,by omega,by omega,?_,pre++[⟨xs,T⟩],by simp;omega,A5,r6.le (by omega),k5.trans k6⟩
    congr 2
    omega
   ·refine eJ r4 (by omega) fun b h5 _ r5 k5=>?_
    rw[dt]
    refine⟨by omega,?_⟩
    rw[show((b:Int).tmod 2)=((b % 2:Nat):Int) from ba b 2,bQ]
    by_cases hb2:b % 2=0
    ·simp only[show(((b % 2:Nat):Int)=0)=True from eq_true (by omega),decide_true,↓ag]
     obtain⟨vL5,vB5,r5⟩:=r5.v
     obtain⟨bs5,j5,nb5,ev5,e5,eu5,-⟩:=fQ r5
     simp only[↓mH eu5,Nat.zero_add,Nat.reduceAdd,↓s9 e5 (j:=9) rfl]
     rw[eK,wrap64 (by omega) (by omega),lS,wrap64 (by omega) (by omega),eK,wrap64 (by omega) (by omega),lS,wrap64 (by omega) (by omega)]
     refine Jb r5 (by omega) fun d h6 hd r6 k6=>?_
     obtain⟨bs6,j6,nb6,ev6,e6,eu6,-⟩:=fQ r6
     simp only[↓mH eu6,Nat.zero_add,Nat.reduceAdd,↓s9 e6 (j:=9) rfl,ab,true_and]
     refine yC r6 (by omega) fun x h7 _ r7 k7=>?_
     obtain⟨bs7,j7,nb7,ev7,e7,eu7,-⟩:=fQ r7
     simp only[↓mH eu7,Nat.zero_add,Nat.reduceAdd,↓s9 e7 (j:=9) rfl,ab,true_and]
     rw[dt]
     refine⟨by omega,?_⟩
     rw[show((bs.length+m:Nat):Int)-((bs.length+(m-j):Nat):Int)=(j:Int) by omega,show((x:Int).tmod (j:Int))=((x % j:Nat):Int) from ba x j]
     have hx1:x % j<j:=Nat.mod_lt _ h0
     rw[eK,wrap64 (by omega) (by omega)]
     refine yC r7 (by omega) fun y h8 _ r8 k8=>?_
     obtain⟨bs8,j8,nb8,ev8,e8,eu8,st8⟩:=fQ r8
     simp only[↓mH eu8,Nat.zero_add,Nat.reduceAdd,↓s9 e8 (j:=9) rfl,ab,true_and]
     rw[dt]
     refine⟨by omega,?_⟩
     rw[show((y:Int).tmod (j:Int))=((y % j:Nat):Int) from ba y j]
     have hy1:y % j<j:=Nat.mod_lt _ h0
     rw[eK,wrap64 (by omega) (by omega),dB rfl,dB rfl]
     rw[hpl]at st8
     refine st8 ⟨2,0,aj,fe d,aj,((bs.length+(m-j):Nat):Int)+1+((x % j:Nat):Int),((bs.length+(m-j):Nat):Int)+1+((y % j:Nat):Int)⟩ fun h9 r9 k9=>?_
     try simp only[ab,true_and]
     refine⟨_,?_,r9.le (by omega),((((kk4.trans k5).trans k6).trans k7).trans k8).trans k9⟩
     have e1:((bs.length+(m-j):Nat):Int)+1+((x % j:Nat):Int)=((bs.length+(m-j)+1+x % j:Nat):Int):=by omega
     have e2:((bs.length+(m-j):Nat):Int)+1+((y % j:Nat):Int)=((bs.length+(m-j)+1+y % j:Nat):Int):=by omega
     rw[e1,e2]
     exact .branch _ _ _ ((er hd).mono hR) (by omega) (by omega)
    ·simp only[show(((b % 2:Nat):Int)=0)=False from eq_false (by omega),decide_false,↓af]
     try simp only[ab,true_and]
     exact⟨_,.jump _ (by omega),r5.le (by omega),kk4.trans k5⟩
  ·simp only[show(((bs.length+(m-j):Nat):Int)<((bs.length+m:Nat):Int))=False from eq_false (by omega),decide_false,↓af]
   have hj0:j=0:=by omega
   subst hj0
   try simp only[ab,true_and]
   exact⟨pre,by omega,by rw[hpl];exact hpA.mono (by omega) (by omega),r2.le (by omega),k2⟩
end Go.Am
namespace Go.Am
open Go
theorem FL {esz:Nat}{h:Heap}{v:D}{els:List D}(ho:Own esz h v els) (hv:∀x∈els,∀y∈x.cells,y.vone=true):oE h v/\(v.fzc h).vone=true/\v.one=true/\Wk (v.fzc h) (.sl els):=by
 rcases ho with⟨rfl,rfl⟩|⟨m,rfl,hm⟩
 ·exact⟨trivial,rfl,rfl,.nil⟩
 ·have hrow:(h m).row=some (esz,els):=by rw[hm];rfl
  have e:(D.ms m 0 els.length).fzc h=.sl els:=by simp[D.fzc,hrow]
  exact⟨⟨esz,els,hrow,by simp,fun x hx=>hv x (by simpa using hx)⟩,by rw[e];rfl,rfl,by rw[e];exact .refl _⟩
theorem Dw {l:List aX}:∀x,x∈l.map aX.e->∀y∈x.cells,y.vone=true:=by
 intro x hx y hy
 obtain⟨a,-,rfl⟩:=List.mem_map.1 hx
 simp[aX.e,aX.cs]at hy
 rcases hy with rfl|rfl|rfl|rfl|rfl|rfl|rfl|rfl|rfl|rfl|rfl|rfl|rfl|rfl|rfl<;>rfl
theorem Iz {l:List Loop}:∀x,x∈l.map Loop.e->∀y∈x.cells,y.vone=true:=by
 intro x hx y hy
 obtain⟨a,-,rfl⟩:=List.mem_map.1 hx
 simp[Loop.e]at hy
 rcases hy with rfl|rfl|rfl<;>rfl
theorem pg {t:Term}:∀x∈t.cs,x.vone=true/\x.jV=[]/\(∀h,x.fzc h=x/\oE h x):=by
 intro x hx
 simp[Term.cs]at hx
 rcases hx with rfl|rfl|rfl|rfl|rfl|rfl|rfl|rfl|rfl|rfl|rfl|rfl|rfl<;>exact⟨rfl,rfl,fun h=>⟨rfl,trivial⟩⟩
theorem Jy {t:Term}{h:Heap}:t.cs.map (D.fzc h)=t.cs:=by
 rw[List.map_congr_left (fun x hx=>((pg x hx).2.2 h).1)];simp
theorem Fc {vs:List D}{bs:List Block}(hl:vs.length=bs.length){e:D}(he:e∈cy vs bs):∃(i:Nat) (v:D) (b:Block),vs[i]?=some v/\bs[i]?=some b/\e=.agg (v::b.t.cs):=by
 obtain⟨i,hi⟩:=aO he
 simp only[cy,List.getElem?_zipWith]at hi
 cases hv:vs[i]? with
 | none=>simp[hv]at hi
 | some v =>
  cases hb:bs[i]? with
  | none=>simp[hv,hb]at hi
  | some b=>simp only[hv,hb,Option.some.injEq]at hi;exact⟨i,v,b,hv,hb,hi.symm⟩
theorem Nf {h:Heap}{loops:List Loop}{blocks:List Block}{vL vB:D}{vs:List D}(r:Rows h loops blocks vL vB vs) (hne:blocks≠[]) (g sb rg:Int) :
  ∃h'',Ou h h''/\kS (.agg [.int .i64 g,.int .i64 sb,.int .i64 rg,.int .i64 0,.int .i64 3,bp,vL,vB])/\v8 h'' (.agg [.int .i64 g,.int .i64 sb,.int .i64 rg,.int .i64 0,.int .i64 3,bp,vL,vB]) /\
   ((D.agg [.int .i64 g,.int .i64 sb,.int .i64 rg,.int .i64 0,.int .i64 3,bp,vL,vB]).fzt h'').Il=true /\
   Wk ((D.agg [.int .i64 g,.int .i64 sb,.int .i64 rg,.int .i64 0,.int .i64 3,bp,vL,vB]).fzt h'') (Code.e ⟨g,sb,rg,0,3,yF,loops,blocks⟩):=by
 have hel:=ja r.len
 obtain⟨nb,e1,e2⟩:=x8 r.oB (by
  intro he
  have:=congrArg List.length he
  rw[hel]at this
  exact hne (List.length_eq_zero_iff.1 this))
 subst e1
 obtain⟨hs1,hs2⟩:=x9 r.nd
 have names:∀k,k∈(cy vs blocks).flatMap D.nm->k∈bE vs:=by
  intro k hk
  obtain⟨e,he,hke⟩:=List.mem_flatMap.1 hk
  obtain⟨i,v,b,hv,hb,rfl⟩:=Fc r.len he
  simp only[D.nm,List.mem_flatMap,List.mem_cons]at hke
  obtain⟨x,hx|hx,hkx⟩:=hke
  ·subst hx;exact ml (ak hv) hkx
  ·rw[(pg x hx).2.1]at hkx;cases hkx
 have hd:Ow h nb 14 (cy vs blocks):=by
  refine⟨fun hm=>hs1 (by rw[bk];exact List.mem_append_right _ (names nb hm)),fun e he=>?_⟩
  obtain⟨i,v,b,hv,hb,rfl⟩:=Fc r.len he
  obtain⟨f1,f2,f3,-⟩:=FL (r.oI i v b hv hb) Dw
  refine⟨fun x hx=>?_,fun x hx=>?_,fun y hy=>?_⟩
  ·simp only[D.cells,List.mem_cons]at hx
   rcases hx with rfl|hx
   ·exact f3
   ·exact D.jj (pg x hx).1
  ·simp only[D.cells,List.mem_cons]at hx
   rcases hx with rfl|hx
   ·exact f1
   ·exact((pg x hx).2.2 h).2
  ·simp only[D.fz,D.cells,List.map_cons,List.mem_cons]at hy
   rcases hy with rfl|hy
   ·exact f2
   ·rw[Jy]at hy
    exact(pg y hy).1
 refine⟨Hb h nb 14 (cy vs blocks),.step e2 hd (.refl _),?_⟩
 obtain⟨hI,eI⟩:∃hI,hI=Hb h nb 14 (cy vs blocks):=⟨_,rfl⟩
 rw[<- eI]
 have hnb:hI nb=.arr 14 ((cy vs blocks).map (D.fz h)):=by rw[eI];exact K3
 have oL:Own 3 hI vL (loops.map Loop.e):=dD r.oL fun k hk=>by
  rw[eI]
  refine IE ?_ fun hm=>?_
  ·rintro rfl;exact hs1 (by rw[bk];exact List.mem_append_left _ hk)
  ·rw[bk]at hs2
   exact(List.nodup_append.1 hs2).2.2 k hk k (names k hm) rfl
 obtain⟨l1,l2,l3,l4⟩:=FL oL Iz
 have hrow:(hI nb).row=some (14,(cy vs blocks).map (D.fz h)):=by rw[hnb];rfl
 have eB:(D.ms nb 0 (cy vs blocks).length).fzc hI=.sl ((cy vs blocks).map (D.fz h)):=by
  simp only[D.fzc,hrow,List.drop_zero]
  rw[List.take_of_length_le (by simp)]
 have e:(D.agg [.int .i64 g,.int .i64 sb,.int .i64 rg,.int .i64 0,.int .i64 3,bp,vL,.ms nb 0 (cy vs blocks).length]).fzt hI =
   .agg [.int .i64 g,.int .i64 sb,.int .i64 rg,.int .i64 0,.int .i64 3,bp,vL.fzc hI,.sl ((cy vs blocks).map (D.fz h))]:=by
  simp only[D.fzt,D.fz,List.map_cons,List.map_nil,eB]
  rfl
 refine⟨fun x hx=>?_,fun x hx=>?_,?_,?_⟩
 ·simp only[D.cells,List.mem_cons,List.not_mem_nil,or_false]at hx
  rcases hx with rfl|rfl|rfl|rfl|rfl|rfl|rfl|rfl<;>first|rfl|exact l3
 ·simp only[D.cells,List.mem_cons,List.not_mem_nil,or_false]at hx
  rcases hx with rfl|rfl|rfl|rfl|rfl|rfl|rfl|rfl<;>first|exact trivial|exact l1|skip
  refine⟨14,_,hrow,by simp,fun x hx y hy=>?_⟩
  have hx:=List.mem_of_mem_drop (List.mem_of_mem_take hx)
  obtain⟨a,ha,rfl⟩:=List.mem_map.1 hx
  exact(hd.el a ha).2.2 y hy
 ·rw[e]
  show([D.int .i64 g,.int .i64 sb,.int .i64 rg,.int .i64 0,.int .i64 3,bp,vL.fzc hI,.sl ((cy vs blocks).map (D.fz h))].all D.vone)=true
  simp only[List.all_cons,List.all_nil,GI,l2,bp,Ju,Bool.and_true,Bool.and_self]
 ·rw[e]
  refine Wk.Uq (.cons (.refl _) (.cons (.refl _) (.cons (.refl _) (.cons (.refl _) (.cons (.refl _) (.cons (.refl _) (.cons l4 (.cons ?_ .nil))))))))
  refine .sl _ _ (by simp[hel]) fun i x y hx hy=>?_
  simp only[List.getElem?_map,Option.map_eq_some_iff]at hx hy
  obtain⟨x,hx,rfl⟩:=hx
  obtain⟨b,hb,rfl⟩:=hy
  obtain⟨v,hv⟩:∃v,vs[i]?=some v:=by
   have:=(ah.1 hb).1
   exact⟨vs[i]'(by rw[r.len];exact this),aC _⟩
  rw[Ap hv hb]at hx
  cases hx
  simp only[D.fz,List.map_cons,Jy,Block.e]
  exact Wk.Uq (.cons (FL (r.oI i v b hv hb) Dw).2.2.2 .rfl)
theorem N3:aY PP mO [] (· = bp):=by
 refine bx zx (aJ _ _ _) rfl (yX _) ?_
 unfold tF
 rw[ew rfl,ew rfl,ew rfl,ew rfl,ew rfl]
 refine⟨Av rfl,fun _=>?_,fun n t=>?_⟩
 ·intro p hp
  simp[Arg.get]at hp
  rcases hp with rfl|rfl|rfl|rfl|rfl<;>(intro x hx;simp[D.cells,fillD]at hx;rcases hx with rfl|rfl|rfl|rfl<;>exact trivial)
 ·show sy _ (.ms n 0 5) (aD iG n (.arr 4 (yF.map vc.e)))
  refine uj (n:=n) (els:=yF.map vc.e) (esz:=4) (by rw[ar];rfl) ?_ rfl
  intro x hx y hy
  obtain⟨a,-,rfl⟩:=List.mem_map.1 hx
  simp[vc.e]at hy
  rcases hy with rfl|rfl|rfl|rfl<;>rfl
def QS (N:Nat) (R:Int) (l:Loop):Prop:=(∃hd:Nat,l.head=hd/\hd<N)/\(0<=l.reg/\l.reg<R)/\1<=l.bound/\l.bound<=3
structure xF (c:Code):Prop where
 group:c.group=4\/c.group=1\/c.group=2\/c.group=8\/c.group=6
 sub:c.sub=1\/c.sub=2\/c.sub=4\/c.sub=8
 dvd:c.group.tmod c.sub=0
 regs:c.regs=6+2*(c.loops.length:Int)
 slots:c.slots=0
 params:c.params=3
 arrays:c.arrays=yF
 nl:c.loops.length<=3
 loops:∀l∈c.loops,QS c.b.length c.regs l
 nb:1<=c.b.length/\c.b.length<=18
 b:lB c.b.length c.regs c.b
def BH (bs:List Nat):D:=.agg [xH bs]
def z8:D:=.agg [.int .i64 0,.int .i64 0,.int .i64 0,.int .i64 0,.int .i64 0,.nil,.nil,.nil]
structure Hd (g sb:Int):Prop where
 group:g=4\/g=1\/g=2\/g=8\/g=6
 sub:sb=1\/sb=2\/sb=4\/sb=8
 dvd:g.tmod sb=0
structure Jq (s:MS) (bs:List Block) (q:Nat):Prop where
 hd:Hd s.group s.sub
 regs:s.regs=6+2*(s.loops.length:Int)
 nl:s.loops.length<=q
 nb:bs.length<=6*q
 loops:∀l∈s.loops,QS bs.length s.regs l
 b:lB (bs.length+1) s.regs bs
theorem MW {h:Heap}:Rows h [] [] .nil .nil []:=⟨Or.inl ⟨rfl,rfl⟩,Or.inl ⟨rfl,rfl⟩,rfl,fun k v b hv=>by simp at hv,by simp[bE,D.jV]⟩
theorem G1 {h:Heap}{n k:Nat}{s:MS}{pre:List Block}{is:List aX}{q:Nat}(hs:Hd s.group s.sub) (hR:s.regs=6+2*(s.loops.length:Int)) (hl:s.loops.length<=q) (hq:q<=9) (hp:pre.length<=6*q+2) (hq2:q<=2)
  (hL:∀l∈s.loops,QS (pre.length+1) s.regs l) (hA:lB (pre.length+1) s.regs pre) (hX:mw 6 is) (hi:is.length<=8) (r:aP h n k bp (mm s pre is km)) (hk:k<400000) {KH:HKq}
  (hK:∀(s':MS) (pre':List Block) (h':Heap),s'.group=s.group->s'.sub=s.sub->s'.regs=6+2*(s'.loops.length:Int)->s'.loops.length<=q+1->pre'.length<=6*q+5->(∀l,l∈s'.loops->QS (pre'.length+1) s'.regs l)->lB (pre'.length+1) s'.regs pre' ->
   aP h' n (k+100) bp (mm s' pre' [] km)->aK n h h'->KH (.tup []) h') :
  ai PP dK [.ptr n 0 0] h fun _ h1=>ai PP bc [.ptr n 0 0] h1 KH:=by
 refine Sr r hA (hX.mono (by omega)) (by omega) (by omega) (by omega) hR (by omega) fun b bs h1 hb1 hb2 hbl hbA r1 k1=>?_
 refine tk (bs:=bs) r1 (by omega) fun h2 r2 k2=>?_
 have hreg:(Iy s (pre.length+1) b).regs=s.regs+2:=by simp only[Iy];omega
 refine hK (Iy s (pre.length+1) b) bs h2 rfl rfl ?_ ?_ (by omega) ?_ ?_ r2 (k1.trans k2)
 ·simp only[Iy,List.length_append,List.length_singleton];omega
 ·simp only[Iy,List.length_append,List.length_singleton];omega
 ·intro l hl
  rw[hreg]
  simp only[Iy,List.mem_append,List.mem_singleton]at hl
  rcases hl with hl|rfl
  ·obtain⟨⟨hd,e1,e2⟩,e3,e4⟩:=hL l hl
   exact⟨⟨hd,e1,by omega⟩,⟨e3.1,by omega⟩,e4⟩
  ·exact⟨⟨pre.length+1,rfl,by omega⟩,⟨by simp only;omega,by simp only;omega⟩,hb1,hb2⟩
 ·rw[hreg]
  exact hbA.mono (by omega) (by omega)
set_option maxHeartbeats 4000000 in
theorem Pk {h:Heap}{n nz k c:Nat}{s:MS}(hne:nz≠n) (hc:c<=2) (hs:Jq s [] 0) (r:aP h n k bp { s with blocks:=[] }) (hk:k<=1000) (hz:h nz=.box z8){J:HJq}
  (hJ:∀(s':MS) (bs:List Block) (h':Heap),Jq s' bs 2->aP h' n (k+2000) bp { s' with blocks:=bs }->h' nz=.box z8->J [] h') :
  lP (.int .i64 (c:Int)) h (.ptr nz 0 0) (.ptr n 0 0) J:=by
 unfold lP
 refine⟨fun j qs h'=>j<=c/\qs=[.int .i64 (j:Int)]/\∃(s':MS) (bs:List Block),Jq s' bs (c-j)/\aP h' n (k+1000*(c-j)) bp { s' with blocks:=bs }/\h' nz=.box z8,c,⟨Nat.le_refl _,rfl,s,[],by simpa using hs,by simpa using r,hz⟩,?_⟩
 rintro j f h1 ⟨hj,hq,s1,bs,hs1,r1,hz1⟩
 simp only[aq,and_true]at hq
 rw[hq,xO]
 by_cases h0:0<j
 ·simp only[show((0:Int)<(j:Int))=True from eq_true (by omega),decide_true,↓ag]
  have nl:=hs1.nl
  have nb:=hs1.nb
  refine⟨fun qs h'=>qs=[]/\∃(s':MS) (bs:List Block),Jq s' bs (c-(j-1))/\aP h' n (k+1000*(c-j)+1000) bp { s' with blocks:=bs }/\h' nz=.box z8,?_,?_⟩
  ·rintro g h2 ⟨-,s2,bs2,hs2,r2,hz2⟩
   rw[lS,wrap64 (by omega) (by omega)]
   refine⟨rfl,j-1,by omega,by omega,by congr 2;omega,s2,bs2,hs2,r2.le (by omega),hz2⟩
  ·refine eJ r1 (by omega) fun b h2 _ r2 k2=>?_
   rw[dt]
   refine⟨by omega,?_⟩
   rw[show((b:Int).tmod 3)=((b % 3:Nat):Int) from ba b 3]
   have hm:b % 3<3:=Nat.mod_lt _ (by omega)
   refine HF r2 hs1.b (by omega) (by have:=hs1.regs;omega) (by omega) (by omega) fun pre is h3 hpl hpA hX hi r3 k3=>?_
   have hz3:=k3 nz _ hne (k2 nz _ hne hz1)
   have hLp:∀l∈s1.loops,QS (pre.length+1) s1.regs l:=fun l hl=>by
    obtain⟨⟨hd,e1,e2⟩,e3⟩:=hs1.loops l hl
    exact⟨⟨hd,e1,by omega⟩,e3⟩
   refine⟨fun qs h'=>qs=[]/\∃(s':MS) (pre':List Block) (is':List aX),Hd s'.group s'.sub/\s'.regs=6+2*(s'.loops.length:Int)/\s'.loops.length<=(c-j)+1/\pre'.length<=6*(c-j)+5/\(∀l,l∈s'.loops->QS (pre'.length+1) s'.regs l) /\
    lB (pre'.length+1) s'.regs pre'/\mw s'.regs is'/\is'.length<=8/\aP h' n (k+1000*(c-j)+500) bp (mm s' pre' is' km)/\h' nz=.box z8,?_,?_⟩
   ·rintro g h4 ⟨-,s4,pre4,is4,g1,g2,g3,g4,g5,g6,g7,g8,r4,hz4⟩
    obtain⟨bs4,j4,vL4,nb4,e4,eu4,lv4,st4,-⟩:=nQ r4
    simp only[↓JZ eu4,Nat.zero_add,Nat.reduceAdd,↓KW e4 (j:=9) rfl,↓bu,lv4,true_and]
    rw[lS,wrap64 (by omega) (by omega)]
    rw[show((pre4.length+1:Nat):Int)-1=(pre4.length:Int) by omega,eK,wrap64 (by omega) (by omega),ew rfl,ew rfl]
    have hT:∀(T:Term) (h':Heap),xJ (pre4.length+2) s4.regs T->aP h' n (k+1000*(c-j)+600) bp (mm s4 pre4 is4 T)->h' nz=.box z8 ->
      ∃(s':MS) (bs:List Block),Jq s' bs (c-(j-1))/\aP h' n (k+1000*(c-j)+1000) bp { s' with blocks:=bs }/\h' nz=.box z8:=by
     intro T h' hT r' hz'
     refine⟨s4,pre4++[⟨is4,T⟩],⟨g1,g2,by omega,by simp;omega,?_,?_⟩,r'.le (by omega),hz'⟩
     ·simp only[List.length_append,List.length_singleton];exact g5
     ·simp only[List.length_append,List.length_singleton]
      exact(g6.mono (by omega) (by omega)).snoc ⟨g7,by simp only;omega,hT⟩
    refine st4 ⟨3,0,aj,aj,aj,(pre4.length:Int)+1,0⟩ fun h5 r5 k5=>?_
    have hz5:=k5 nz _ hne hz4
    refine eJ r5 (by omega) fun b5 h6 _ r6 k6=>?_
    have hz6:=k6 nz _ hne hz5
    rw[dt]
    refine⟨by omega,?_⟩
    rw[show((b5:Int).tmod 3)=((b5 % 3:Nat):Int) from ba b5 3,bQ]
    by_cases hb3:b5 % 3=0
    ·simp only[show(((b5 % 3:Nat):Int)=0)=True from eq_true (by omega),decide_true,↓ag]
     obtain⟨vL6,vB6,r6⟩:=r6.v
     obtain⟨bs6,j6,nb6,ev6,e6,eu6,-⟩:=fQ r6
     simp only[↓mH eu6,Nat.zero_add,Nat.reduceAdd,↓s9 e6 (j:=9) rfl]
     rw[eK,wrap64 (by omega) (by omega),dB rfl]
     refine yC r6 (by omega) fun b7 h7 _ r7 k7=>?_
     obtain⟨bs7,j7,nb7,ev7,e7,eu7,-⟩:=fQ r7
     simp only[↓mH eu7,Nat.zero_add,Nat.reduceAdd,↓s9 e7 (j:=9) rfl,ab,true_and]
     rw[dt]
     refine⟨by omega,?_⟩
     rw[show((b7:Int).tmod 6)=((b7 % 6:Nat):Int) from ba b7 6]
     have hb6:b7 % 6<6:=Nat.mod_lt _ (by omega)
     rw[eK,wrap64 (by omega) (by omega)]
     refine Jb r7 (by omega) fun d h8 hd r8 k8=>?_
     obtain⟨bs8,j8,nb8,ev8,e8,eu8,-⟩:=fQ r8
     simp only[↓mH eu8,Nat.zero_add,Nat.reduceAdd,↓s9 e8 (j:=9) rfl,ab,true_and]
     refine NU r8 (by omega) fun o h9 ho r9 k9=>?_
     obtain⟨bs9,j9,nb9,ev9,e9,eu9,-⟩:=fQ r9
     simp only[↓mH eu9,Nat.zero_add,Nat.reduceAdd,↓s9 e9 (j:=9) rfl,ab,true_and]
     refine NU r9 (by omega) fun p h10 hp r10 k10=>?_
     obtain⟨bs10,j10,nb10,ev10,e10,eu10,st10⟩:=fQ r10
     simp only[↓mH eu10,Nat.zero_add,Nat.reduceAdd,↓s9 e10 (j:=9) rfl,ab,true_and]
     rw[dB rfl]
     refine st10 ⟨4,1+((b7 % 6:Nat):Int),fe d,o,p,(pre4.length:Int)+1,0⟩ fun h11 r11 k11=>?_
     have hz11:=k11 nz _ hne (k10 nz _ hne (k9 nz _ hne (k8 nz _ hne (k7 nz _ hne hz6))))
     try simp only[ab,true_and]
     exact hT _ h11 (.collect _ _ _ _ (pre4.length+1) (by omega) ((er hd).mono (by omega)) (ho.o.mono (by omega)) (hp.o.mono (by omega)) (by omega)) (r11.le (by omega)) hz11
    ·simp only[show(((b5 % 3:Nat):Int)=0)=False from eq_false (by omega),decide_false,↓af]
     try simp only[ab,true_and]
     exact hT _ h6 (.barrier (pre4.length+1) (by omega)) (r6.le (by omega)) hz6
   ·refine eJ r3 (by omega) fun b4 h4 _ r4 k4=>?_
    have hz4:=k4 nz _ hne hz3
    rw[dt]
    refine⟨by omega,?_⟩
    rw[show((b4:Int).tmod 3)=((b4 % 3:Nat):Int) from ba b4 3,bQ]
    by_cases hb3:b4 % 3=0
    ·simp only[show(((b4 % 3:Nat):Int)=0)=True from eq_true (by omega),decide_true,↓ag]
     refine G1 (q:=c-j) hs1.hd hs1.regs nl (by omega) (by omega) (by omega) hLp hpA hX hi r4 (by omega) fun s5 pre5 h5 e1 e2 e3 e4 e5 e6 e7 r5 k5=>?_
     try simp only[ab,true_and]
     exact⟨s5,pre5,[],by rw[e1,e2];exact hs1.hd,e3,e4,e5,e6,e7,.nil,by simp,r5.le (by omega),k5 nz _ hne hz4⟩
    ·simp only[show(((b4 % 3:Nat):Int)=0)=False from eq_false (by omega),decide_false,↓af]
     try simp only[ab,true_and]
     exact⟨s1,pre,is,hs1.hd,hs1.regs,by omega,by omega,hLp,hpA,hX.mono (by have:=hs1.regs;omega),hi,r4.le (by omega),hz4⟩
 ·simp only[show((0:Int)<(j:Int))=False from eq_false (by omega),decide_false,↓af]
  have hj0:j=0:=by omega
  subst hj0
  have s2:Jq s1 bs 2:=⟨hs1.hd,hs1.regs,by have:=hs1.nl;omega,by have:=hs1.nb;omega,hs1.loops,hs1.b⟩
  exact⟨rfl,hJ s1 bs h1 s2 (r1.le (by omega)) hz1⟩
end Go.Am
namespace Go.Am
open Go
set_option maxHeartbeats 1000000 in
theorem Pj {h:Heap}{n nz k c:Nat}{s:MS}(hc:c<=2) (hg:s.group=4\/s.group=1\/s.group=2\/s.group=8\/s.group=6) (h1:s.sub=1) (hr:s.regs=6) (hl:s.loops=[]) (r:aP h n k bp { s with blocks:=[] }) (hne:nz≠n) (hz:h nz=.box z8){J:HJq}
  (hJ:∀(s':MS) (h':Heap),Hd s'.group s'.sub->s'.regs=6->s'.loops=[]->aP h' n k bp { s' with blocks:=[] }->h' nz=.box z8->J [] h') :
  lO (.int .i64 (c:Int)) h (.ptr n 0 0) (.ptr nz 0 0) J:=by
 unfold lO
 refine⟨fun j qs h'=>j<=c/\qs=[.int .i64 (j:Int)]/\∃s':MS,Hd s'.group s'.sub/\(j=2->s'.sub=1)/\(j=1->s'.sub<=2)/\s'.regs=6/\s'.loops=[]/\aP h' n k bp { s' with blocks:=[] }/\h' nz=.box z8,c,
  ⟨Nat.le_refl _,rfl,s,⟨hg,by omega,by rw[h1];rcases hg with h|h|h|h|h<;>rw[h]<;>rfl⟩,fun _=>h1,fun _=>by omega,hr,hl,r,hz⟩,?_⟩
 rintro j f h2 ⟨hj,hq,s2,hd,hs2,hs1,hr2,hl2,r2,hz2⟩
 simp only[aq,and_true]at hq
 rw[hq,xO]
 obtain⟨bs2,j2,vL2,vB2,e2,eu2,-⟩:=JL r2
 unfold cX at e2
 by_cases h0:0<j
 ·simp only[show((0:Int)<(j:Int))=True from eq_true (by omega),decide_true,↓TP,↓mH eu2,Nat.zero_add,Nat.reduceAdd,↓s9 e2 (j:=2) rfl,↓s9 e2 (j:=3) rfl]
  have hsb:s2.sub=1\/s2.sub=2:=by
   rcases hd.sub with h|h|h|h
   ·exact Or.inl h
   ·exact Or.inr h
   ·exfalso;rcases (show j=1\/j=2 by omega) with e|e
    ·have:=hs1 e;omega
    ·have:=hs2 e;omega
   ·exfalso;rcases (show j=1\/j=2 by omega) with e|e
    ·have:=hs1 e;omega
    ·have:=hs2 e;omega
  rw[ES,wrap64 (by omega) (by omega),dt]
  refine⟨by omega,?_⟩
  rw[bQ]
  by_cases hd0:s2.group.tmod (2*s2.sub)=0
  ·simp only[hd0,decide_true,↓iK,↓GZ,↓ag,↓JZ eu2,Nat.zero_add,Nat.reduceAdd,↓KW e2 (j:=3) rfl]
   rw[ES,wrap64 (by omega) (by omega)]
   refine Rg (v:=2*s2.sub) r2 fun h3 r3 k3=>?_
   rw[lS,wrap64 (by omega) (by omega)]
   refine⟨rfl,j-1,by omega,by omega,by congr 2;omega,{ s2 with sub:=2*s2.sub },⟨hd.group,by simp only;omega,hd0⟩,fun e=>by omega,fun e=>?_,hr2,hl2,r3,k3 nz _ hne hz2⟩
   have:=hs2 (by omega)
   simp only;omega
  ·simp only[hd0,decide_false,↓iK,↓GZ,↓af]
   exact⟨rfl,hJ s2 h2 hd hr2 hl2 r2 hz2⟩
 ·simp only[show((0:Int)<(j:Int))=False from eq_false (by omega),decide_false,↓TQ,↓um,↓iK,↓MU,↓af]
  exact⟨rfl,hJ s2 h2 hd hr2 hl2 r2 hz2⟩
theorem Wi {P:Program}{h:Heap}{KH:HKq}{n:Nat}{a b c1 c2 c3 c4 c5 c6 c7 c8:D}(e:h n=.box (.agg [a,b,c1,c2,c3,c4,c5,c6,c7,c8])):aa P (.ld (.c (.ptr n 0 2)) 8 true) h KH=KH (.agg [c1,c2,c3,c4,c5,c6,c7,c8]) h:=L1 e (by simp)
theorem We {P:Program}{h:Heap}{KH:HKq}{nz:Nat}{c1 c2 c3 c4 c5 c6 c7 c8:D}(e:h nz=.box z8) (ho:(D.agg [c1,c2,c3,c4,c5,c6,c7,c8]).cells.all D.one=true) :
  aa P (.st (.c (.ptr nz 0 0)) (.c (.agg [c1,c2,c3,c4,c5,c6,c7,c8])) 8) h KH=KH .undef (aD h nz (.box (.agg [c1,c2,c3,c4,c5,c6,c7,c8]))):=by
 rw[mQ,e]
 apply propext
 constructor
 ·exact fun hh=>hh.2.2.2.2
 ·exact fun hk=>⟨rfl,List.all_eq_true.1 ho,rfl,by simp[z8],hk⟩
theorem JP {esz:Nat}{h:Heap}{v:D}{els:List D}(ho:Own esz h v els):v.one=true:=by
 rcases ho with⟨rfl,-⟩|⟨m,rfl,-⟩<;>rfl
set_option maxHeartbeats 4000000 in
theorem Sv {bs:List Nat}(hb:∀b∈bs,b<=255) (hl:bs.length<=9223372036854775807):aY PP qm [BH bs] (fun r=>∃c:Code,xF c/\r=c.e):=by
 refine aY.wk (K:=fun r=>∃c:Code,xF c/\Wk r c.e) (Ky (aT Cj (aJ _ _ _) rfl (B5 _ _) ?_)) fun r hr=>by
  obtain⟨c,hc,hw⟩:=hr
  exact⟨c.e,hw,rfl,c,hc,rfl⟩
 unfold yV
 rw[Dz]
 refine⟨(ez (by simp[xH]):sx (BH bs)).one,fun n0 t0=>?_⟩
 rw[gf]
 intro nz tz
 have nn:n0≠nz:=tz.ne (by rw[ar];simp)
 have a0:aD (aD iG n0 (.box (BH bs))) nz (.box z8) n0=.box (BH bs):=by rw[an _ _ nn,ar]
 have az:aD (aD iG n0 (.box (BH bs))) nz (.box z8) nz=.box z8:=ar _ _ _
 show aa PP _ (aD (aD iG n0 (.box (BH bs))) nz (.box z8)) _
 generalize aD (aD iG n0 (.box (BH bs))) nz (.box z8)=hA at a0 az
 have eu0:(hA n0).used=true:=by rw[a0];rfl
 unfold BH at a0
 simp only[↓JZ eu0,Nat.zero_add,↓KW a0 (j:=0) rfl]
 rw[ew rfl,show D.agg (fillD [.nil,.int .i64 0,.int .i64 0,.int .i64 0,.int .i64 0,.int .i64 0,.int .i64 0,.nil,.nil,.nil] (List.map (fun p=>(p.fst,p.snd.fst,(Arg.get [] p.snd.snd).cells)) [(0,1,Arg.c (xH bs))])) =
  .agg (xH bs::.int .i64 ((0:Nat):Int)::[.int .i64 0,.int .i64 0,.int .i64 0,.int .i64 0,.int .i64 0,.nil,.nil,.nil]) from rfl,Dz]
 refine⟨List.all_eq_true.1 rfl,fun n tn=>?_⟩
 have hnz:nz≠n:=tn.ne (by rw[az];simp)
 have b1:aD hA n (.box (.agg (xH bs::.int .i64 ((0:Nat):Int)::[.int .i64 0,.int .i64 0,.int .i64 0,.int .i64 0,.int .i64 0,.nil,.nil,.nil]))) n=.box (.agg (xH bs::.int .i64 ((0:Nat):Int)::[.int .i64 0,.int .i64 0,.int .i64 0,.int .i64 0,.int .i64 0,.nil,.nil,.nil])):=ar _ _ _
 have bz:aD hA n (.box (.agg (xH bs::.int .i64 ((0:Nat):Int)::[.int .i64 0,.int .i64 0,.int .i64 0,.int .i64 0,.int .i64 0,.nil,.nil,.nil]))) nz=.box z8:=by rw[an _ _ hnz];exact az
 show ae PP _ (aD hA n (.box (.agg (xH bs::.int .i64 ((0:Nat):Int)::[.int .i64 0,.int .i64 0,.int .i64 0,.int .i64 0,.int .i64 0,.nil,.nil,.nil])))) _
 generalize aD hA n (.box (.agg (xH bs::.int .i64 ((0:Nat):Int)::[.int .i64 0,.int .i64 0,.int .i64 0,.int .i64 0,.int .i64 0,.nil,.nil,.nil])))=hB at b1 bz
 have hbl:∀{Q:D->Prop},ae PP (.bldS false 1 5 (.int .i64 0) [(0,(.c (.int .i64 4))),(1,(.c (.int .i64 1))),(2,(.c (.int .i64 2))),(3,(.c (.int .i64 8))),(4,(.c (.int .i64 6)))]) hB Q=Q (.sl [.int .i64 4,.int .i64 1,.int .i64 2,.int .i64 8,.int .i64 6]):=by
  intro Q
  apply propext
  constructor
  ·exact fun hh=>hh.2.2.2
  ·intro hq
   refine⟨Av rfl,?_,by simp,hq⟩
   intro p hp
   simp[Arg.get]at hp
   rcases hp with rfl|rfl|rfl|rfl|rfl<;>simp
 simp only[hbl]
 refine Gi b1 hb hl (by omega) fun b hb2=>?_
 have c1:=ar hB n (.box (.agg (xH bs::.int .i64 ((0+1:Nat):Int)::[.int .i64 0,.int .i64 0,.int .i64 0,.int .i64 0,.int .i64 0,.nil,.nil,.nil])))
 have cz:aD hB n (.box (.agg (xH bs::.int .i64 ((0+1:Nat):Int)::[.int .i64 0,.int .i64 0,.int .i64 0,.int .i64 0,.int .i64 0,.nil,.nil,.nil]))) nz=.box z8:=by rw[an _ _ hnz];exact bz
 generalize aD hB n (.box (.agg (xH bs::.int .i64 ((0+1:Nat):Int)::[.int .i64 0,.int .i64 0,.int .i64 0,.int .i64 0,.int .i64 0,.nil,.nil,.nil])))=hC at c1 cz
 rw[dt]
 refine⟨by omega,?_⟩
 rw[show((b:Int).tmod 5)=((b % 5:Nat):Int) from ba b 5]
 obtain⟨g,hg,hg5⟩:∃g:Int,([.int .i64 4,.int .i64 1,.int .i64 2,.int .i64 8,.int .i64 6]:List D)[b % 5]?=some (.int .i64 g)/\(g=4\/g=1\/g=2\/g=8\/g=6):=by
  have:b % 5=0\/b % 5=1\/b % 5=2\/b % 5=3\/b % 5=4:=by omega
  rcases this with e|e|e|e|e<;>rw[e]<;>exact⟨_,rfl,by simp⟩
 have hi:∀{Q:D->Prop},ae PP (.iadd (.c (.sl [.int .i64 4,.int .i64 1,.int .i64 2,.int .i64 8,.int .i64 6])) (.c (.int .i64 ((b % 5:Nat):Int))) 1) hC Q=Q (.vp (.int .i64 g) 0):=by
  intro Q
  rw[mV,Aj,aA,hg]
  apply propext
  constructor
  ·rintro⟨-,-,h⟩;exact(h _ rfl).2
  ·intro hq;exact⟨by omega,by simp;omega,fun d hd=>by cases hd;exact⟨rfl,hq⟩⟩
 have hld:∀{Q:D->Prop},ae PP (.ld (.c (.vp (.int .i64 g) 0)) 1 false) hC Q=Q (.int .i64 g):=fun {Q}=>by rw[mU,vn,fZ];rfl
 simp only[↓hi,↓hld]
 refine FD N3 trivial ?_
 have eu1:(hC n).used=true:=by rw[c1];rfl
 rw[dB rfl]
 simp only[↓mH eu1,Nat.zero_add]
 rw[mQ,c1]
 refine⟨rfl,?_,rfl,by simp,?_⟩
 ·intro x hx
  simp[fillD,D.cells,Arg.get,bp]at hx
  rcases hx with rfl|rfl|rfl|rfl|rfl|rfl|rfl|rfl<;>rfl
 have es:setCells (.agg (xH bs::.int .i64 ((0+1:Nat):Int)::[.int .i64 0,.int .i64 0,.int .i64 0,.int .i64 0,.int .i64 0,.nil,.nil,.nil])) 2 (D.agg (fillD [.int .i64 0,.int .i64 0,.int .i64 0,.int .i64 0,.int .i64 0,.nil,.nil,.nil] (List.map (fun p=>(p.fst,p.snd.fst,(Arg.get [] p.snd.snd).cells)) [(0,1,Arg.c (.int .i64 g)),(1,1,Arg.c (.int .i64 1)),(2,1,Arg.c (.int .i64 6)),(4,1,Arg.c (.int .i64 3)),(5,1,Arg.c bp)]))).cells =
   cX bs 1 bp ⟨g,1,6,[],[]⟩ .nil .nil:=rfl
 rw[es]
 have r0:aP (aD hC n (.box (cX bs 1 bp ⟨g,1,6,[],[]⟩ .nil .nil))) n 1 bp { (⟨g,1,6,[],[]⟩:MS) with blocks:=[] }:=⟨bs,1,.nil,.nil,[],hb,hl,Nat.le_refl _,ar _ _ _,MW⟩
 have dz:aD hC n (.box (cX bs 1 bp ⟨g,1,6,[],[]⟩ .nil .nil)) nz=.box z8:=by rw[an _ _ hnz];exact cz
 generalize aD hC n (.box (cX bs 1 bp ⟨g,1,6,[],[]⟩ .nil .nil))=hD at r0 dz
 refine⟨fun qs h'=>qs=[]/\∃s:MS,Hd s.group s.sub/\s.regs=6/\s.loops=[]/\aP h' n 10 bp { s with blocks:=[] }/\h' nz=.box z8,?_,?_⟩
 ·rintro f1 h1 ⟨-,s1,hd1,hr1,hl1,r1,z1⟩
  refine⟨fun qs h'=>qs=[]/\∃(s':MS) (bs:List Block),Jq s' bs 2/\aP h' n 3000 bp { s' with blocks:=bs }/\h' nz=.box z8,?_,?_⟩
  ·rintro f2 h2 ⟨-,s2,bs2,hs2,r2,z2⟩
   have nl:=hs2.nl
   have nb:=hs2.nb
   refine eJ r2 (by omega) fun b3 h3 _ r3 k3=>?_
   rw[dt]
   refine⟨by omega,?_⟩
   rw[show((b3:Int).tmod 3)=((b3 % 3:Nat):Int) from ba b3 3]
   have hm:b3 % 3<3:=Nat.mod_lt _ (by omega)
   refine HF r3 hs2.b (by omega) (by have:=hs2.regs;omega) (by omega) (by omega) fun pre is h4 hpl hpA hX hi4 r4 k4=>?_
   have z4:=k4 nz _ hnz (k3 nz _ hnz z2)
   have hLp:∀l∈s2.loops,QS (pre.length+1) s2.regs l:=fun l hl=>by
    obtain⟨⟨hd,e1,e2⟩,e3⟩:=hs2.loops l hl
    exact⟨⟨hd,e1,by omega⟩,e3⟩
   refine⟨fun qs h'=>qs=[]/\∃(s':MS) (pre':List Block) (is':List aX),Hd s'.group s'.sub/\s'.regs=6+2*(s'.loops.length:Int)/\s'.loops.length<=3/\pre'.length<=17/\(∀l,l∈s'.loops->QS (pre'.length+1) s'.regs l) /\
    lB (pre'.length+1) s'.regs pre'/\mw s'.regs is'/\is'.length<=8/\aP h' n 9000 bp (mm s' pre' is' km)/\h' nz=.box z8,?_,?_⟩
   ·rintro f5 h5 ⟨-,s5,pre5,is5,g1,g2,g3,g4,g5,g6,g7,g8,r5,z5⟩
    obtain⟨vL5,vB5,r5⟩:=r5.v
    obtain⟨bs5,j5,nb5,ev5,e5,eu5,st5⟩:=fQ r5
    have lv5:∀{Q:D->Prop},aR vB5 h5 Q=Q (.int .i64 ((pre5.length+1:Nat):Int)):=by
     intro Q
     obtain⟨_,_,vs,_,_,_,q4,q5⟩:=r5.st
     rw[JQ q5.oB,ja q5.len]
     simp[mm]
    simp only[↓mH eu5,Nat.zero_add,Nat.reduceAdd,↓s9 e5 (j:=9) rfl,lv5]
    rw[lS,wrap64 (by omega) (by omega),dB rfl,show((pre5.length+1:Nat):Int)-1=(pre5.length:Int) by omega]
    refine st5 ⟨5,0,aj,aj,aj,0,0⟩ fun h6 r6 k6=>?_
    have z6:=k6 nz _ hnz z5
    obtain⟨bs6,j6,vL6,vB6,vs6,q1,q2,q3,q4,q5⟩:=r6.st
    have eu6:(h6 n).used=true:=by rw[q4];rfl
    unfold cX at q4
    simp only[↓JZ eu6,Nat.zero_add,Nat.reduceAdd,↓Wi q4]
    have o1:=JP q5.oL
    have o2:=JP q5.oB
    rw[We z6 (by simp[D.cells,o1,o2,bp])]
    have hld8:=lI (P:=PP) (KH:=fun a63 _=>∃h'',Ou (aD h6 nz (.box (.agg [.int .i64 s5.group,.int .i64 s5.sub,.int .i64 s5.regs,.int .i64 0,.int .i64 3,bp,vL6,vB6]))) h''/\kS a63/\v8 h'' a63/\(a63.fzt h'').Il=true/\∃c:Code,xF c/\Wk (a63.fzt h'') c.e)
     (ar h6 nz (.box (.agg [.int .i64 s5.group,.int .i64 s5.sub,.int .i64 s5.regs,.int .i64 0,.int .i64 3,bp,vL6,vB6])))
    refine hld8.mpr ?_
    have rr:=q5.box z6 (.box (.agg [.int .i64 s5.group,.int .i64 s5.sub,.int .i64 s5.regs,.int .i64 0,.int .i64 3,bp,vL6,vB6]))
    obtain⟨h'',i1,i2,i3,i4,i5⟩:=Nf rr (by simp[mm]) s5.group s5.sub s5.regs
    refine⟨h'',i1,i2,i3,i4,_,?_,i5⟩
    refine⟨g1.group,g1.sub,g1.dvd,g2,rfl,rfl,rfl,g3,?_,?_,?_⟩
    ·simp only[mm,List.length_append,List.length_singleton];exact g5
    ·simp only[mm,List.length_append,List.length_singleton];omega
    ·simp only[mm,List.length_append,List.length_singleton]
     exact g6.snoc ⟨g7,by simp only;omega,.exit⟩
   ·refine eJ r4 (by omega) fun b5 h5 _ r5 k5=>?_
    have z5:=k5 nz _ hnz z4
    rw[dt]
    refine⟨by omega,?_⟩
    rw[show((b5:Int).tmod 3)=((b5 % 3:Nat):Int) from ba b5 3,bQ]
    by_cases hb3:b5 % 3=0
    ·simp only[show(((b5 % 3:Nat):Int)=0)=True from eq_true (by omega),decide_true,↓ag]
     refine G1 (q:=2) hs2.hd hs2.regs nl (by omega) (by omega) (by omega) hLp hpA hX hi4 r5 (by omega) fun s6 pre6 h6 e1 e2 e3 e4 e5 e6 e7 r6 k6=>?_
     refine CE r6 (e7.Sz (by omega) (by simp)) (by omega) fun xs h7 hxs hxl r7 k7=>?_
     try simp only[ab,true_and]
     exact⟨s6,pre6,xs,by rw[e1,e2];exact hs2.hd,e3,e4,by omega,e6,e7,hxs.mono (by omega),hxl,r7.le (by omega),k7 nz _ hnz (k6 nz _ hnz z5)⟩
    ·simp only[show(((b5 % 3:Nat):Int)=0)=False from eq_false (by omega),decide_false,↓af]
     try simp only[ab,true_and]
     exact⟨s2,pre,is,hs2.hd,hs2.regs,by omega,by omega,hLp,hpA,hX.mono (by have:=hs2.regs;omega),hi4,r5.le (by omega),z5⟩
  ·refine eJ r1 (by omega) fun b2 h2 _ r2 k2=>?_
   have z2:=k2 nz _ hnz z1
   rw[dt]
   refine⟨by omega,?_⟩
   rw[show((b2:Int).tmod 3)=((b2 % 3:Nat):Int) from ba b2 3]
   have hm:b2 % 3<3:=Nat.mod_lt _ (by omega)
   refine Pk hnz (by omega) ⟨hd1,by rw[hr1,hl1];rfl,by rw[hl1];simp,by simp,(by rw[hl1];intro l hl;cases hl),lB.nil⟩ r2 (by omega) z2 fun s' bs' h' q1 q2 q3=>⟨rfl,s',bs',q1,q2.le (by omega),q3⟩
 ·refine eJ r0 (by omega) fun b1 h1 _ r1 k1=>?_
  have z1:=k1 nz _ hnz dz
  rw[dt]
  refine⟨by omega,?_⟩
  rw[show((b1:Int).tmod 3)=((b1 % 3:Nat):Int) from ba b1 3]
  have hm:b1 % 3<3:=Nat.mod_lt _ (by omega)
  exact Pj (by omega) hg5 rfl rfl rfl r1 hnz z1 fun s' h' q1 q2 q3 q4 q5=>⟨rfl,s',q1,q2,q3,q4.le (by omega),q5⟩
end Go.Am
namespace Go.Am
open Go
variable [bW]
variable {P:Program}{KH:HKq}{K:D->Prop}{h:Heap}{L:LSq}
def nD (k:Nat):D:=.int .i64 (k:Int)
def bb (l:List Nat):List D:=l.map nD
def QV (h:Heap) (L:LSq) (v:D) (T:List Nat):Prop :=
 (v=.nil/\T=[]/\Vs h L)\/∃m off els,v=.ms m off T.length/\Vs h ((m,.arr 1 els)::L)/\off+T.length<=els.length/\(els.drop off).take T.length=bb T/\∀x∈els,x.one=true
theorem yb {l:List Nat}:∀x,x∈bb l->x.one=true:=fun x hx=>by
 simp only[bb,List.mem_map]at hx;obtain⟨k,-,rfl⟩:=hx;rfl
theorem qq {l:List Nat}:∀x,x∈bb l->aN x:=fun x hx=>by
 simp only[bb,List.mem_map]at hx;obtain⟨k,-,rfl⟩:=hx;exact(aW).one
theorem aZ {l:List Nat}:(bb l).length=l.length:=by simp[bb]
theorem gd {l:List Nat}{i k:Nat}(h:l[i]?=some k):(bb l)[i]?=some (nD k):=by simp[bb,h]
variable {v:D}{T:List Nat}
theorem QV.vs (q:QV h L v T):Vs h L:=by
 rcases q with⟨-,-,V⟩|⟨m,off,els,-,V,-⟩
 ·exact V
 ·exact V.pop
theorem QV.len (q:QV h L v T):aR v h K=K (.int .i64 (T.length:Int)):=by
 rcases q with⟨rfl,rfl,V⟩|⟨m,off,els,rfl,V,-⟩
 ·rw[sE];rfl
 ·rw[bu]
  apply propext
  exact⟨fun hh=>hh.2,fun hk=>⟨by rw[V.get 0 _ _ rfl];rfl,hk⟩⟩
theorem QV.nil (V:Vs h L):QV h L .nil []:=Or.inl ⟨rfl,rfl,V⟩
theorem QV.ex (q:QV h L v T) (hT:T≠[]):∃m off els,v=.ms m off T.length/\Vs h ((m,.arr 1 els)::L)/\off+T.length<=els.length/\(els.drop off).take T.length=bb T/\∀x∈els,x.one=true:=by
 rcases q with⟨-,rfl,-⟩|q
 ·exact absurd rfl hT
 ·exact q
theorem QV.get (q:QV h L v T){i k:Nat}(hk:T[i]?=some k){KH:HKq}(hK:KH (nD k) h):aa P (.iadd (.c v) (.c (.int .i64 (i:Int))) 1) h fun a h1=>aa P (.ld (.c a) 1 false) h1 KH:=by
 have hi:=(ah.1 hk).1
 obtain⟨m,off,els,rfl,V,h1,h2,h3⟩:=q.ex (by rintro rfl;simp at hk)
 have hm:=V.get 0 _ _ rfl
 rw[mP]
 refine⟨by omega,by omega,⟨els,by rw[hm];rfl⟩,?_⟩
 have he:els[off+i]?=some (nD k):=by
  have:=gd hk
  rw[<- h2,List.getElem?_take_of_lt hi,List.getElem?_drop]at this
  exact this
 rw[aA,V.xI 0 rfl he rfl]
 exact hK
theorem QV.T4 (q:QV h L v T){i k:Nat}(hk:T[i]?=some k){K:D->Prop}(hK:K (nD k)):ae P (.iadd (.c v) (.c (.int .i64 (i:Int))) 1) h fun a=>ae P (.ld (.c a) 1 false) h K:=by
 have:=QV.get (P:=P) q hk (KH:=fun d _=>K d) hK
 exact this
theorem QV.zB (q:QV h L v T){lo hi:Option Nat}{a b:Nat}(ha:a=lo.getD 0) (hb:b=hi.getD T.length) (hab:a<=b) (hbl:b<=T.length) (hT:T≠[]){KH:HKq}(hK:∀v',QV h L v' ((T.drop a).take (b-a))->KH v' h) :
  aa P (.zB (.c v) (lo.map fun(x:Nat)=>.c (.int .i64 (x:Int))) (hi.map fun(x:Nat)=>.c (.int .i64 (x:Int))) none 1) h KH:=by
 obtain⟨m,off,els,rfl,V,h1,h2,h3⟩:=q.ex hT
 have hm:=V.get 0 _ _ rfl
 have hl:((T.drop a).take (b-a)).length=b-a:=by rw[List.length_take,List.length_drop];omega
 have key:KH (.ms m (off+a) (b-a)) h:=by
  refine hK _ (Or.inr ⟨m,off+a,els,by rw[hl],V,by rw[hl];omega,?_,h3⟩)
  rw[hl]
  have e:bb ((T.drop a).take (b-a))=((bb T).drop a).take (b-a):=by simp[bb,List.map_take,List.map_drop]
  rw[e, <- h2,List.drop_take,List.drop_drop,List.take_take]
  congr 1
  omega
 have row:∃els,(h m).row=some (1,els):=⟨els,by rw[hm];rfl⟩
 cases lo with
 | none =>
  cases hi with
  | none=>simp at ha hb;subst ha;subst hb;exact⟨by omega,by omega,by omega,by omega,row,by simpa using key⟩
  | some y=>simp at ha hb;subst ha;subst hb;exact⟨by omega,by omega,by omega,by omega,row,by simpa using key⟩
 | some x =>
  cases hi with
  | none=>simp at ha hb;subst ha;subst hb;exact⟨by omega,by omega,by omega,by omega,row,by rw[show((T.length:Int)-(a:Int)).toNat=T.length-a by omega];simpa using key⟩
  | some y=>simp at ha hb;subst ha;subst hb;exact⟨by omega,by omega,by omega,by omega,row,by rw[show((b:Int)-(a:Int)).toNat=b-a by omega];simpa using key⟩
theorem QV.one (V:Vs h L){z:D}{k:Nat}{fz:Bool}{KH:HKq}(hK:∀v h',QV h' L v [k]->KH v h'):aa P (.bldS fz 1 1 z [(0,.c (nD k))]) h KH:=by
 refine⟨fun p hp=>by simp[Arg.get]at hp;subst hp;exact⟨Nat.one_pos,rfl,(aW (k:=.i64) (n:=(k:Int))).one⟩,fun hf p hp=>?_,fun n t=>?_⟩
 ·simp[Arg.get]at hp;subst hp
  intro x hx
  simp[nD,D.cells]at hx;subst hx;trivial
 ·have:KH (.ms n 0 1) (aD h n (.arr 1 [nD k])):=by
   refine hK _ _ (Or.inr ⟨n,0,[nD k],rfl,V.push t.free (by simp),by simp,by simp[bb],fun x hx=>by simp at hx;subst hx;rfl⟩)
  cases fz<;>simpa[Arg.get,setEls,D.fz,D.fzc,D.nm,D.jV,nD,Heap.freezeAll] using this
theorem Hf {s x z:D}{esz bytes:Nat}:aa P (.app (.c s) (.c x) esz bytes z) h KH=velems esz x h fun ys=>(∀y∈ys,aN y)/\match s with
  | .nil=>(ys.length*bytes<=140737488355328/\ys.length<=9223372036854775807)/\∀n,pc h n->KH (.ms n 0 ys.length) (aD h n (.arr esz ys))
  | .ms m off len=>∃els,AG h m esz els/\off+len=els.length/\((len+ys.length)*bytes<=140737488355328/\len+ys.length<=9223372036854775807) /\
    ∀n,pc h n->KH (.ms n 0 (len+ys.length)) (aD (aD h m .dead) n (.arr esz (els.drop off++ys))) /\
     (off≠0->KH (.ms n off (len+ys.length)) (aD (aD h m .dead) n (.arr esz (els++ys))))
  | _=>False:=rfl
theorem QV.app (q:QV h L v T){z x:D}{bytes:Nat}{ks:List Nat}{KH:HKq}(hx:∀{K:List D->Prop},K (bb ks)->velems 1 x h K) (hb:(T.length+ks.length)*bytes<=140737488355328) (hl:T.length+ks.length<=9223372036854775807)
  (hK:∀v h',QV h' L v (T++ks)->KH v h'):aa P (.app (.c v) (.c x) 1 bytes z) h KH:=by
 rw[Hf]
 refine hx ⟨qq,?_⟩
 rcases q with⟨rfl,rfl,V⟩|⟨m,off,els,rfl,V,h1,h2,h3⟩
 ·refine⟨⟨by rw[aZ];simpa using hb,by rw[aZ];simpa using hl⟩,fun n t=>hK _ _ ?_⟩
  rw[aZ,List.nil_append]
  exact Or.inr ⟨n,0,bb ks,rfl,V.push t.free (by simp),by rw[aZ];omega,by rw[List.drop_zero,List.take_of_length_le (by rw[aZ];omega)],yb⟩
 ·have hm:=V.get 0 _ _ rfl
  have hel:(els.take (off+T.length)).length=off+T.length:=by rw[List.length_take];omega
  have one':∀x,x∈els.take (off+T.length)++bb ks->x.one=true:=fun x hx=>by
   rcases List.mem_append.1 hx with hx|hx
   ·exact h3 x (List.mem_of_mem_take hx)
   ·exact yb x hx
  have hwin:(els.take (off+T.length)).drop off=bb T:=by rw[List.drop_take];rw[<- h2];congr 1;omega
  have hw2:bb T++bb ks=bb (T++ks):=by simp[bb]
  have hlen:(T++ks).length=T.length+ks.length:=List.length_append
  refine⟨els.take (off+T.length),⟨els.drop (off+T.length),by rw[List.take_append_drop];exact hm⟩,hel.symm,⟨by rw[aZ];exact hb,by rw[aZ];exact hl⟩,fun n t=>?_⟩
  have Vn:∀els':List D,Vs (aD (aD h m .dead) n (.arr 1 els')) ((n,.arr 1 els')::L):=fun els'=>by
   have hne:n≠m:=by rintro rfl;rw[t.free]at hm;cases hm
   have V1:Vs (aD h m .dead) L:=by
    refine V.pop.Dv fun k s hi=>?_
    have:k≠m:=fun e=>by
     obtain⟨i,hi'⟩:=hi
     exact V.ne (i+1) 0 k m s _ (by simpa using hi') rfl (by omega) e
    exact an _ _ this
   exact V1.push (by rw[an _ _ hne];exact t.free) (by simp)
  rw[hwin,hw2,aZ]
  refine⟨hK _ _ (Or.inr ⟨n,0,bb (T++ks),by rw[hlen],Vn _,by rw[aZ];omega,by rw[List.drop_zero,List.take_of_length_le (by rw[aZ];omega)],yb⟩),fun _=>hK _ _ (Or.inr ⟨n,off,els.take (off+T.length)++bb ks,by rw[hlen],Vn _,?_,?_,one'⟩)⟩
  ·rw[List.length_append (bs:=bb ks),hel,aZ,hlen];omega
  ·rw[List.drop_append_of_le_length (by omega),hwin,hw2,List.take_of_length_le (by rw[aZ];omega)]
theorem Vs.swap {x y:Nat×Slot}(V:Vs h (x::y::L)):Vs h (y::x::L):=by
 let f:Nat->Nat:=fun i=>if i=0 then 1 else if i=1 then 0 else i
 have hf:∀i,(y::x::L)[i]?=(x::y::L)[f i]?:=fun i=>by
  match i with
  | 0=>rfl
  | 1=>rfl
  | i+2=>simp[f]
 have inj:∀i j,f i=f j->i=j:=fun i j h=>by
  simp only[f]at h;split at h<;>split at h<;>(try split at h)<;>(try split at h)<;>omega
 exact⟨fun i n s hi=>V.get (f i) n s (by rw[<- hf];exact hi),fun i j n m s s' hi hj hij=>V.ne (f i) (f j) n m s s' (by rw[<- hf];exact hi) (by rw[<- hf];exact hj) fun e=>hij (inj _ _ e),fun i n s hi=>V.lv (f i) n s (by rw[<- hf];exact hi)⟩
theorem QV.cc (q:QV h L v T) (i:Nat){n:Nat}{s s':Slot}(hi:L[i]?=.some (n,s)) (hs:s'≠.free):QV (aD h n s') (L.set i (n,s')) v T:=by
 rcases q with⟨rfl,rfl,V⟩|⟨m,off,els,rfl,V,h1,h2,h3⟩
 ·exact Or.inl ⟨rfl,rfl,V.cc i hi hs⟩
 ·exact Or.inr ⟨m,off,els,rfl,by have:=V.cc (i+1) (n:=n) (s:=s) (by simpa using hi) hs;simpa using this,h1,h2,h3⟩
theorem QV.more (q:QV h L v T){n:Nat}(hn:h n=.free){s:Slot}(hs:s≠.free):QV (aD h n s) ((n,s)::L) v T:=by
 rcases q with⟨rfl,rfl,V⟩|⟨m,off,els,rfl,V,h1,h2,h3⟩
 ·exact Or.inl ⟨rfl,rfl,V.push hn hs⟩
 ·exact Or.inr ⟨m,off,els,rfl,(V.push hn hs).swap,h1,h2,h3⟩
theorem QV.less {x:Nat×Slot}(q:QV h (x::L) v T):QV h L v T:=by
 rcases q with⟨rfl,rfl,V⟩|⟨m,off,els,rfl,V,h1,h2,h3⟩
 ·exact Or.inl ⟨rfl,rfl,V.pop⟩
 ·exact Or.inr ⟨m,off,els,rfl,V.swap.pop,h1,h2,h3⟩
theorem Rh {n j:Nat}{els:List D}{d:D}(hn:h n=.arr 1 els) (hj:j<els.length) (ho:d.one=true) (h1:∀x∈els,x.one=true):KH .undef (aD h n (.arr 1 (els.set j d)))->aa P (.st (.c (.ptr n j 0)) (.c d) 1) h KH:=by
 intro hK
 rw[mQ,hn]
 have hc:∀d:D,d.one=true->d.cells=[d]:=fun d ho=>by cases d<;>first|rfl|cases ho
 refine⟨by rw[hc d ho];rfl,fun x hx=>by rw[hc d ho]at hx;simp at hx;subst hx;exact ho,hj,by omega,fun y hy=>?_⟩
 have hy1:=h1 y (ak hy)
 have e:setCells y 0 d.cells=d:=by rw[hc d ho];cases y<;>first|rfl|cases hy1
 rw[e]
 exact hK
theorem QV.uK (q:QV h L v T) (i:Nat){n j:Nat}{els:List D}{d:D}(hi:L[i]?=.some (n,.arr 1 els)) (hj:j<els.length) (ho:d.one=true) (h1:∀x∈els,x.one=true)
  (hK:∀h',QV h' (L.set i (n,.arr 1 (els.set j d))) v T->KH .undef h'):aa P (.st (.c (.ptr n j 0)) (.c d) 1) h KH :=
 Rh (q.vs.get i _ _ hi) hj ho h1 (hK _ (q.cc i hi (by simp)))
theorem QV.alloc (q:QV h L v T){d:D}(hK:∀n h',QV h' ((n,.box d)::L) v T->KH (.ptr n 0 0) h'):aa P (.alloc d) h KH:=by
 rw[gf]
 exact fun n t=>hK n _ (q.more t.free (by simp))
theorem QV.p8 (q:QV h L v T) (i:Nat){n s:Nat}{cs cs':List D}(hi:L[i]?=.some (n,.box (.agg cs))) (hl:cs.length=s) (hl':cs'.length=s) (ho:∀x,x∈cs'->x.one=true)
  (hK:∀h',QV h' (L.set i (n,.box (.agg cs'))) v T->KH .undef h'):aa P (.st (.c (.ptr n 0 0)) (.c (.agg cs')) s) h KH:=by
 rw[mQ,q.vs.get i _ _ hi]
 refine⟨hl',ho,rfl,by simp[hl],?_⟩
 have e:setCells (.agg cs) 0 (D.agg cs').cells=.agg cs':=by
  show D.agg (cs.take 0++cs'++cs.drop (0+cs'.length))=_
  rw[List.take_zero,List.nil_append,Nat.zero_add,List.drop_of_length_le (by omega),List.append_nil]
 rw[e]
 exact hK _ (q.cc i hi (by simp))
theorem QV.ret (q:QV h L v T){K:D->Prop}(hk:K (.sl (bb T))) (hn:T=[]->K .nil):sy K v h:=by
 rcases q with⟨rfl,rfl,V⟩|⟨m,off,els,rfl,V,h1,h2,h3⟩
 ·rw[CG];exact hn rfl
 ·have hrow:(h m).row=some (1,els):=by rw[V.get 0 _ _ rfl];rfl
  have e:(D.ms m off T.length).fzt h=.sl (bb T):=by simp[D.fzt,D.fz,D.fzc,hrow,h2]
  have hv:∀x,x∈(els.drop off).take T.length->∀y∈x.cells,y.vone=true:=by
   rw[h2];intro x hx y hy
   simp only[bb,List.mem_map]at hx
   obtain⟨k,-,rfl⟩:=hx
   simp[nD,D.cells]at hy;subst hy;rfl
  refine⟨(by simp:aN (D.ms m off T.length)),?_,by rw[e];rfl,by rw[e];exact hk⟩
  intro x hx
  simp only[D.cells,List.mem_singleton]at hx
  subst hx
  exact⟨1,els,hrow,h1,hv⟩
theorem Md {ks:List Nat}{K:List D->Prop}(hk:K (bb ks)):velems 1 (.sl (bb ks)) h K :=
 ⟨fun e he=>by simp only[bb,List.mem_map]at he;obtain⟨k,-,rfl⟩:=he;rfl,hk⟩
theorem QV.QZ {ks:List Nat}(q:QV h L v ks){K:List D->Prop}(hk:K (bb ks)):velems 1 v h K:=by
 rcases q with⟨rfl,rfl,V⟩|⟨m,off,els,rfl,V,h1,h2,h3⟩
 ·exact hk
 ·exact⟨els,by rw[V.get 0 _ _ rfl];rfl,h1,by rw[h2];exact hk⟩
theorem QV.push (q:QV h L v T){z z':D}{bytes k:Nat}{fz:Bool}{KH:HKq}(hb:(T.length+1)*bytes<=140737488355328) (hl:T.length+1<=9223372036854775807)
  (hK:∀v h',QV h' L v (T++[k])->KH v h'):aa P (.bldS fz 1 1 z [(0,.c (nD k))]) h fun x h1=>aa P (.app (.c v) (.c x) 1 bytes z') h1 KH:=by
 rcases q with⟨rfl,rfl,V⟩|⟨m,off,els,rfl,V,h1,h2,h3⟩
 ·refine QV.one V fun x h1 q1=>?_
  have q0:QV h1 L .nil []:=QV.nil q1.vs
  exact q0.app (ks:=[k]) (fun hk=>q1.QZ hk) (by simp at hb ⊢;omega) (by simp) hK
 ·refine QV.one V fun x h1 q1=>?_
  have q0:QV h1 L (.ms m off T.length) T:=Or.inr ⟨m,off,els,rfl,q1.vs,by assumption,h2,h3⟩
  exact q0.app (ks:=[k]) (fun hk=>q1.QZ hk) (by simpa using hb) (by simpa using hl) hK
end Go.Am
namespace Go.Am
open Go Go.Proofs
def cZ (t:Term):List Nat:=if t.kind=5 then [] else if t.kind=2/\t.to0≠t.to1 then [t.to0.toNat,t.to1.toNat] else [t.to0.toNat]
theorem xJ.succ {N:Nat}{R:Int}{t:Term}(h:xJ N R t):∀b,b∈cZ t->b<N:=by
 intro b hb
 cases h with
 | branch o x y ho h1 h2 =>
  unfold cZ at hb
  split at hb
  ·simp at hb
  ·split at hb<;>simp at hb<;>omega
 | jump a h=>simp[cZ]at hb;omega
 | barrier a h=>simp[cZ]at hb;omega
 | collect s d a b t hs hd ha hbb h=>simp[cZ]at hb;omega
 | exit=>simp[cZ]at hb
theorem Ni {P:Program}{n i j l s:Nat}{k:IntKind}{a:Int}{h:Heap}{KH:HKq}:aa P (.iadda (.c (.ptr n i j)) (.c (.int k a)) l s) h KH=(0<=a/\a<l/\(h n).live=true/\KH (.ptr n i (j+a.toNat*s)) h):=rfl
theorem Vs.RS {P:Program}{KH:HKq}{h:Heap}{L:LSq}(V:Vs h L) (i:Nat){n l j:Nat}{a:Nat}{d:D}(hi:L[i]?=some (n,.box d)) (h1:a<l):aa P (.iadda (.c (.ptr n 0 j)) (.c (.int .i64 (a:Int))) l 1) h KH=KH (.ptr n 0 (j+a)) h:=by
 rw[Ni,V.get i _ _ hi]
 apply propext
 constructor
 ·rintro⟨-,-,-,hk⟩;simpa using hk
 ·intro hk;exact⟨by omega,by omega,rfl,by simpa using hk⟩
theorem Vs.L0 {P:Program}{KH:HKq}{h:Heap}{L:LSq}(V:Vs h L) (i:Nat){n l j:Nat}{cs:List D}(hi:L[i]?=some (n,.box (.agg cs))) (h0:0<l) (hl:l<=1000000) (hj:j+l<=cs.length) (hv:∀d,d∈(cs.drop j).take l->d.vone=true)
  (hK:∀h',KH (.sl ((cs.drop j).take l)) h'):aa P (.L0 (.c (.ptr n 0 j)) l) h KH:=by
 show match h n with
  | .box (.agg cs)=>(0:Nat)=0/\0<l/\l<=1000000/\j+l<=cs.length/\(∀d,d∈(cs.drop j).take l->d.vone=true)/\KH (.sl ((cs.drop j).take l)) (aD h n .dead)
  | _=>False
 rw[V.get i _ _ hi]
 exact⟨rfl,h0,hl,hj,hv,hK _⟩
theorem Jc {N:Nat}{R:Int}{t:Term}(h:xJ N R t):aY PP kW [t.e] (· = .sl (bb (cZ t))):=by
 refine aY.wk (K:=fun r=>r=.sl (bb (cZ t))\/(r=.nil/\cZ t=[])) (bx El (aJ _ _ _) rfl (D3 _ _) ?_) fun r hr=>?_
 ·unfold Bg
  refine Vs.nil.box t.dS.one fun n2 h3 V=>?_
  have i0:∀{KH:HKq},aa PP (.iadda (.c (.ptr n2 0 11)) (.c (.int .i64 0)) 2 1) h3 KH=KH (.ptr n2 0 11) h3:=fun {KH}=>V.RS 0 (a:=0) rfl (by omega)
  have i1:∀{KH:HKq},aa PP (.iadda (.c (.ptr n2 0 11)) (.c (.int .i64 1)) 2 1) h3 KH=KH (.ptr n2 0 12) h3:=fun {KH}=>V.RS 0 (a:=1) rfl (by omega)
  have one:∀(a:Nat),aa PP (.bldS true 1 1 (.int .i64 0) [(0,.c (.int .i64 (a:Int)))]) h3 fun a60 h61=>sy (fun r=>r=.sl (bb [a])\/r=.nil/\[a]=[]) a60 h61:=fun a=>by
   exact QV.one (k:=a) V fun v h' q=>q.ret (Or.inl rfl) (by simp)
  cases h with
  | jump a ha =>
   simp (disch:=omega) only[↓V.fa 0 rfl,Nat.zero_add,↓V.cx 0 (j:=0) rfl rfl,↓cS,↓gS,↓i0,↓V.cx 0 (j:=11) rfl rfl]
   exact one a
  | barrier a ha =>
   simp (disch:=omega) only[↓V.fa 0 rfl,Nat.zero_add,↓V.cx 0 (j:=0) rfl rfl,↓cS,↓gS,↓i0,↓V.cx 0 (j:=11) rfl rfl]
   exact one a
  | collect s d a b t hs hd ha hb ht =>
   simp (disch:=omega) only[↓V.fa 0 rfl,Nat.zero_add,↓V.cx 0 (j:=0) rfl rfl,↓cS,↓gS,↓i0,↓V.cx 0 (j:=11) rfl rfl]
   exact one t
  | exit =>
   simp (disch:=omega) only[↓V.fa 0 rfl,Nat.zero_add,↓V.cx 0 (j:=0) rfl rfl,↓cS,↓gS]
   rw[CG]
   exact Or.inr ⟨rfl,rfl⟩
  | branch o a b ho ha hb =>
   simp (disch:=omega) only[↓V.fa 0 rfl,Nat.zero_add,↓V.cx 0 (j:=0) rfl rfl,↓cS,↓gS,↓i0,↓i1,↓V.cx 0 (j:=11) rfl rfl,↓V.cx 0 (j:=12) rfl rfl]
   by_cases hab:a=b
   ·subst hab
    simp (disch:=omega) only[↓cS,↓gS,↓V.fa 0 rfl,Nat.zero_add,↓i0,↓V.cx 0 (j:=11) rfl rfl]
    have e:cZ ⟨2,0,aj,o,aj,(a:Int),(a:Int)⟩=[a]:=by simp[cZ]
    rw[e]
    exact one a
   ·simp (disch:=omega) only[↓cS,↓gS,↓V.fa 0 rfl,Nat.zero_add]
    have e:cZ ⟨2,0,aj,o,aj,(a:Int),(b:Int)⟩=[a,b]:=by simp[cZ];omega
    rw[e]
    refine V.L0 0 (cs:=(Term.cs ⟨2,0,aj,o,aj,(a:Int),(b:Int)⟩)) rfl (by omega) (by omega) (by simp[Term.cs]) (fun d hd=>by simp[Term.cs]at hd;rcases hd with rfl|rfl<;>rfl) fun h'=>?_
    rw[Jt]
    exact Or.inl rfl
 ·rcases hr with rfl|⟨rfl,e⟩
  ·exact⟨_,.refl _,rfl,rfl⟩
  ·rw[e];exact⟨_,.nil,rfl,rfl⟩
inductive Path (E:Nat->List Nat) (s:Nat):Nat->Prop
 | refl:Path E s s
 | step {a b:Nat}(h:Path E s a) (hb:b∈E a):Path E s b
theorem Path.trans {E:Nat->List Nat}{a b c:Nat}(h:Path E a b) (k:Path E b c):Path E a c:=by
 induction k with
 | refl=>exact h
 | step _ hb ih=>exact .step ih hb
theorem Path.closed {E:Nat->List Nat}{s b:Nat}{S:Nat->Prop}(h:Path E s b) (hs:S s) (hc:∀a b,S a->b∈E a->S b):S b:=by
 induction h with
 | refl=>exact hs
 | step _ hb ih=>exact hc _ _ ih hb
def kT (p:Nat->Bool) (N:Nat):Nat:=(List.range N).countP fun k=> !p k
theorem DH {α:Type}{p q:α->Bool}:∀{l:List α},(∀x∈l,q x=true->p x=true)->(∃x,x∈l/\p x=true/\q x=false)->l.countP q+1<=l.countP p
 | [],_,⟨x,hx,_⟩=>by cases hx
 | y::l,h,⟨x,hx,h1,h2⟩=>by
  have hm:l.countP q<=l.countP p:=List.countP_mono_left fun z hz hq=>h z (by simp[hz]) hq
  rw[List.countP_cons,List.countP_cons]
  rcases List.mem_cons.1 hx with rfl|hx
  ·rw[h1,h2];simp;omega
  ·have:=DH (l:=l) (fun z hz=>h z (by simp[hz])) ⟨x,hx,h1,h2⟩
   by_cases hq:q y=true
   ·rw[hq,h y (by simp) hq];simp;omega
   ·simp[hq];split<;>omega
theorem mf {p p':Nat->Bool}{N x:Nat}(h:∀k,p k=true->p' k=true) (hx:x<N) (h1:p x=false) (h2:p' x=true):kT p' N+1<=kT p N :=
 DH (fun k _ hk=>by cases hp:p k<;>simp_all) ⟨x,by simpa using hx,by simp[h1],by simp[h2]⟩
end Go.Am
namespace Go.Am
open Go Go.Proofs
structure bS (c:Code):Prop where
 nb:1<=c.b.length/\c.b.length<=20
 t:∀B∈c.b,xJ c.b.length c.regs B.t
theorem xF.g {c:Code}(h:xF c):bS c:=⟨⟨h.nb.1,Nat.le_trans h.nb.2 (by omega)⟩,fun B hB=>(h.b B hB).t⟩
def edg (c:Code) (a:Nat):List Nat:=match c.b[a]? with
 | some B=>cZ B.t
 | none=>[]
theorem jE {c:Code}{a:Nat}{B:Block}(h:c.b[a]?=some B):edg c a=cZ B.t:=by unfold edg;rw[h]
theorem dM {c:Code}(hc:bS c){a b:Nat}(h:b∈edg c a):b<c.b.length:=by
 unfold edg at h
 split at h
 ·rename_i B hB;exact(hc.t B (ak hB)).succ b h
 ·cases h
def bL (S:List Bool):List D:=S.map .bool
theorem fL (S:List Bool):∀x,x∈bL S->x.one=true:=fun x hx=>by
 simp only[bL,List.mem_map]at hx;obtain⟨k,-,rfl⟩:=hx;rfl
theorem dq {S:List Bool}{i:Nat}{b:Bool}(h:S[i]?=some b):(bL S)[i]?=some (.bool b):=by simp[bL,h]
theorem fK (S:List Bool) (i:Nat) (b:Bool):(bL S).set i (.bool b)=bL (S.set i b):=by simp[bL,List.map_set]
def hasB (S:List Bool) (k:Nat):Bool:=(S[k]?).getD false
theorem bn {S:List Bool}{x k:Nat}(hx:x<S.length):hasB (S.set x true) k=(decide (k=x)||hasB S k):=by
 unfold hasB
 rw[List.getElem?_set]
 by_cases h:x=k
 ·subst h;simp[hx]
 ·rw[if_neg h];simp[Ne.symm h]
theorem bo {S:List Bool}{k:Nat}(hk:k<S.length):S[k]?=some (hasB S k):=by
 unfold hasB;rw[aC hk];rfl
theorem zD (p:Nat->Bool) (N:Nat):kT p N<=N:=by
 have:=List.countP_le_length (p:=fun k=> !p k) (l:=List.range N)
 simpa[kT] using this
structure LQ (E:Nat->List Nat) (N s:Nat) (p:Nat->Bool) (T:List Nat):Prop where
 st:p s=true
 lt:∀k,p k=true->k<N
 td:∀k∈T,p k=true
 path:∀k,p k=true->Path E s k
 done:∀a b,p a=true->a∉T->b∈E a->p b=true
theorem LQ.fin {E:Nat->List Nat}{N s:Nat}{p:Nat->Bool}(h:LQ E N s p []) (k:Nat):p k=true↔Path E s k :=
 ⟨h.path k,fun hp=>hp.closed (S:=fun k=>p k=true) h.st fun a b ha hb=>h.done a b ha (by simp) hb⟩
structure nj (E:Nat->List Nat) (N s:Nat) (p:Nat->Bool) (T:List Nat) (a i:Nat):Prop where
 st:p s=true
 lt:∀k,p k=true->k<N
 td:∀k∈T,p k=true
 path:∀k,p k=true->Path E s k
 done:∀a' b,a'≠a->p a'=true->a'∉T->b∈E a'->p b=true
 pa:p a=true
 part:∀(j b:Nat),j<i->(E a)[j]?=some b->p b=true
theorem LQ.pop {E:Nat->List Nat}{N s a:Nat}{p:Nat->Bool}{T T':List Nat}(h:LQ E N s p T) (ha:a∈T) (hT:∀k,k∈T'->k∈T) (hT2:∀k∈T,k=a\/k∈T'):nj E N s p T' a 0 :=
 ⟨h.st,h.lt,fun k hk=>h.td k (hT k hk),h.path,fun a' b hne hp hn hb=>h.done a' b hp (fun hm=>by rcases hT2 a' hm with e|e;exact hne e;exact hn e) hb,h.td a ha,fun j b hj=>by omega⟩
theorem nj.end {E:Nat->List Nat}{N s a i:Nat}{p:Nat->Bool}{T:List Nat}(h:nj E N s p T a i) (hi:(E a).length<=i):LQ E N s p T :=
 ⟨h.st,h.lt,h.td,h.path,fun a' b hp hn hb=>by
  by_cases e:a'=a
  ·subst e
   obtain⟨j,hj,rfl⟩:=List.mem_iff_getElem.1 hb
   exact h.part j _ (by omega) (aC hj)
  ·exact h.done a' b e hp hn hb⟩
theorem nj.Ox {E:Nat->List Nat}{N s a i b:Nat}{p:Nat->Bool}{T:List Nat}(h:nj E N s p T a i) (hb:(E a)[i]?=some b) (hp:p b=true):nj E N s p T a (i+1) :=
 ⟨h.st,h.lt,h.td,h.path,h.done,h.pa,fun j c hj hc=>by
  by_cases e:j=i
  ·subst e;rw[hb]at hc;cases hc;exact hp
  ·exact h.part j c (by omega) hc⟩
theorem nj.new {E:Nat->List Nat}{N s a i b:Nat}{p p':Nat->Bool}{T:List Nat}(h:nj E N s p T a i) (hb:(E a)[i]?=some b) (hlt:b<N) (hp':∀k,p' k=(decide (k=b)||p k)):nj E N s p' (T++[b]) a (i+1):=by
 have up:∀k,p k=true->p' k=true:=fun k hk=>by rw[hp',hk];simp
 have inv:∀k,p' k=true->k=b\/p k=true:=fun k hk=>by rw[hp']at hk;simpa using hk
 refine⟨up s h.st,fun k hk=>?_,fun k hk=>?_,fun k hk=>?_,fun a' c hne hp hn hc=>?_,up a h.pa,fun j c hj hc=>?_⟩
 ·rcases inv k hk with rfl|hk
  ·exact hlt
  ·exact h.lt k hk
 ·rcases List.mem_append.1 hk with hk|hk
  ·exact up k (h.td k hk)
  ·simp at hk;subst hk;rw[hp'];simp
 ·rcases inv k hk with rfl|hk
  ·exact .step (h.path a h.pa) (ak hb)
  ·exact h.path k hk
 ·rcases inv a' hp with rfl|hp
  ·exact absurd (by simp) hn
  ·exact up c (h.done a' c hne hp (fun hm=>hn (by simp[hm])) hc)
 ·by_cases e:j=i
  ·subst e;rw[hb]at hc;cases hc;rw[hp'];simp
  ·exact up c (h.part j c (by omega) hc)
end Go.Am
namespace Go.Am
open Go Go.Proofs
section
variable {c:Code}{b:Nat}{B:Block}{P:Program}{KH:HKq}{h:Heap}{K:D->Prop}
theorem xp (hB:c.b[b]?=some B):aa P (.iadd (.c (.sl (c.b.map Block.e))) (.c (.int .i64 (b:Int))) 14) h KH=KH (.vp B.e 0) h :=
 lD (by omega) (by rw[aA,List.getElem?_map,hB];rfl) rfl
theorem T7 (hB:c.b[b]?=some B):ae P (.iadd (.c (.sl (c.b.map Block.e))) (.c (.int .i64 (b:Int))) 14) h K=K (.vp B.e 0):=by rw[mV,xp hB]
theorem Ly:aa P (.ld (.c (.vp B.e 1)) 13 true) h KH=KH B.t.e h:=by
 rw[vn,kI]
 apply propext
 exact⟨fun hh=>hh.2,fun hk=>⟨by show 1+13<=14;omega,hk⟩⟩
theorem Vr {d:D}{o:Nat}:ae P (.fadd (.c (.vp d 0)) o) h K=K (.vp d o):=by rw[show ae P (.fadd (.c (.vp d 0)) o) h K=aa P (.fadd (.c (.vp d 0)) o) h (fun d _=>K d) from rfl,La]
end
theorem UE {P:Program}{KH:HKq}{h:Heap}{l:List Nat}{i k:Nat}(hk:l[i]?=some k) (hK:KH (nD k) h):aa P (.iadd (.c (.sl (bb l))) (.c (.int .i64 (i:Int))) 1) h fun a h1=>aa P (.ld (.c a) 1 false) h1 KH:=by
 rw[lD (esz:=1) (d:=nD k) (by omega) (by rw[aA];exact gd hk) rfl,uR rfl]
 exact hK
theorem Di {h:Heap}{K:D->Prop}{l:List Nat}:aR (.sl (bb l)) h K=K (.int .i64 (l.length:Int)):=by rw[bX,aZ]
theorem PV {c:Code}(hc:bS c):aY PP qp [c.e] (fun r=>∃S:List Bool,r=.sl (bL S)/\S.length=c.b.length/\∀k,hasB S k=true↔Path (edg c) 0 k):=by
 have hnb:=hc.nb
 refine bx Cl (aJ _ _ _) rfl (B7 _ _) ?_
 unfold y0
 refine Vs.nil.box c.dS.one fun n2 h3 V1=>?_
 simp only[↓V1.fa 0 rfl,Nat.zero_add,↓V1.cx 0 (j:=7) rfl rfl,bX,aw]
 generalize hN:c.b.length=N at *
 refine V1.JS (by omega) (by omega) fun n9 h10 V2=>?_
 have e0:List.replicate N (D.bool false)=bL (List.replicate N false):=by simp[bL]
 rw[e0]at V2
 rw[V2.ia 0 rfl (by omega) (by omega)]
 refine V2.uK 0 rfl (by simp[bL];omega) rfl (fL _) fun h14 V3=>?_
 rw[show(0:Int).toNat=0 from rfl,fK]at V3
 replace V3:Vs h14 [(n9,.arr 1 (bL ((List.replicate N false).set 0 true))),(n2,.box c.e)]:=V3
 refine⟨fun _ h=>∃S:List Bool,S.length=N/\(∀k,hasB S k=true↔Path (edg c) 0 k)/\Vs h [(n9,.arr 1 (bL S)),(n2,.box c.e)],?_,?_⟩
 ·rintro f h ⟨S,hS,hP,V⟩
  have hl:D.ms n9 0 N=.ms n9 0 (bL S).length:=by simp[bL,hS]
  rw[hl]
  refine uj (esz:=1) (by rw[V.get 0 _ _ rfl];rfl) (fun x hx y hy=>?_) ⟨S,rfl,hS,hP⟩
  simp only[bL,List.mem_map]at hx
  obtain⟨b,-,rfl⟩:=hx
  simp[D.cells]at hy;subst hy;rfl
 refine QV.one (k:=0) V3 fun v h19 q0=>?_
 unfold rj
 refine⟨fun m l h=>∃(S:List Bool) (T:List Nat) (v:D),l=[v]/\S.length=N/\QV h [(n9,.arr 1 (bL S)),(n2,.box c.e)] v T/\LQ (edg c) N 0 (hasB S) T/\m=2*kT (hasB S) N+T.length/\m<=1000,_,
  ⟨_,[0],v,rfl,by simp,q0,?_,rfl,by have:=zD (hasB ((List.replicate N false).set 0 true)) N;simp only[List.length_singleton];omega⟩,?_⟩
 ·have hb:∀k,hasB ((List.replicate N false).set 0 true) k=true->k=0:=fun k hk=>by
   rw[bn (by simp;omega)]at hk
   simp only[Bool.or_eq_true,decide_eq_true_eq]at hk
   rcases hk with rfl|hk
   ·rfl
   ·unfold hasB at hk
    rw[List.getElem?_replicate]at hk
    split at hk<;>simp at hk
  have h0:hasB ((List.replicate N false).set 0 true) 0=true:=by rw[bn (by simp;omega)];simp
  exact⟨h0,fun k hk=>by rw[hb k hk];omega,fun k hk=>by simp at hk;subst hk;exact h0,fun k hk=>by rw[hb k hk];exact .refl,fun a b ha hn _=>absurd (by simp[hb a ha]) hn⟩
 rintro m f h1 ⟨S,T,v,hl,hS,q,hs,hm,hmb⟩
 simp only[aq,and_true]at hl
 simp only[hl,q.len,xO]
 by_cases hT:T=[]
 ·subst hT
  simp only[List.length_nil,show((0:Nat):Int)=0 from rfl,Int.lt_irrefl,decide_false,↓af,ab,true_and]
  exact⟨S,hS,hs.fin,q.vs⟩
 ·have hTl:0<T.length:=List.length_pos_iff.2 hT
  simp only[show((0:Int)<(T.length:Int))=True from eq_true (by omega),decide_true,↓ag]
  generalize ha:T[T.length-1]?=oa
  cases oa with
  | none=>simp at ha;omega
  | some a =>
   have haT:=ak ha
   have hTe:T=T.take (T.length-1)++[a]:=by
    have h1:T.take (T.length-1+1)=T:=List.take_of_length_le (by omega)
    rw[List.take_add_one,ha]at h1
    exact h1.symm
   have haN:=hs.lt a (hs.td a haT)
   have hB:c.b[a]?=some c.b[a]:=aC (by omega)
   generalize c.b[a]=B at hB
   have hTm:=hc.t B (ak hB)
   rw[GR (by omega) (by omega),show(T.length:Int)-1=((T.length-1:Nat):Int) by omega]
   refine q.get ha ?_
   rw[q.len,GR (by omega) (by omega),show(T.length:Int)-1=((T.length-1:Nat):Int) by omega]
   refine q.zB (lo:=none) (hi:=some (T.length-1)) (a:=0) (b:=T.length-1) rfl rfl (by omega) (by omega) hT fun v' q'=>?_
   rw[List.drop_zero,Nat.sub_zero]at q'
   have V:=q'.vs
   simp only[↓V.fa 1 rfl,Nat.zero_add,↓V.cx 1 (j:=7) rfl rfl,nD,↓xp hB,↓La,↓Ly]
   refine bO (Jc hTm) (fun d hd=>by simp at hd;subst hd;exact B.t.dS.pair) ?_
   rintro _ rfl
   rw[Di, <- jE hB]
   have hs':nj (edg c) N 0 (hasB S) (T.take (T.length-1)) a 0:=hs.pop haT (fun k hk=>List.mem_of_mem_take hk) (fun k hk=>by
    rw[hTe]at hk
    rcases List.mem_append.1 hk with hk|hk
    ·exact Or.inr hk
    ·simp at hk;exact Or.inl hk)
   have hmT:2*kT (hasB S) N+(T.take (T.length-1)).length<m:=by rw[List.length_take];omega
   unfold rA
   refine⟨fun k l h=>∃(i:Nat) (S:List Bool) (T:List Nat) (v:D),l=[v,.int .i64 (i:Int)]/\i<=(edg c a).length/\k=(edg c a).length-i/\S.length=N/\QV h [(n9,.arr 1 (bL S)),(n2,.box c.e)] v T/\nj (edg c) N 0 (hasB S) T a i/\2*kT (hasB S) N+T.length<m,_,
    ⟨0,S,_,v',rfl,by omega,rfl,hS,q',hs',hmT⟩,?_⟩
   clear hmT hs' q' hm hs q hS
   rintro k f2 h2 ⟨i,S,T,v,hl2,hi,hk,hS,q,hs,hm⟩
   simp only[aq,and_true]at hl2
   obtain⟨e4,e37⟩:=hl2
   rw[e4,e37,xM]
   have hEl:(edg c a).length<=2:=by rw[jE hB];unfold cZ;split<;>(try split)<;>simp
   by_cases hlt:i<(edg c a).length
   ·simp only[show((i:Int)<((edg c a).length:Int))=True from eq_true (by omega),decide_true,↓ag]
    refine⟨fun l h=>∃(S:List Bool) (T:List Nat) (v:D),l=[v]/\S.length=N/\QV h [(n9,.arr 1 (bL S)),(n2,.box c.e)] v T/\nj (edg c) N 0 (hasB S) T a (i+1)/\2*kT (hasB S) N+T.length<m,?_,?_⟩
    ·rintro f3 h3 ⟨S,T,v,hl3,g1,g2,g3,g4⟩
     simp only[aq,and_true]at hl3
     rw[hl3,cU (by omega) (by omega)]
     simp only[ab,true_and]
     exact⟨_,by omega,i+1,S,T,v,by simp,by omega,rfl,g1,g2,g3,g4⟩
    have hb:(edg c a)[i]?=some (edg c a)[i]:=aC hlt
    generalize (edg c a)[i]=b at hb
    have hbN:b<N:=by rw[<- hN];exact dM hc (ak hb)
    have V:=q.vs
    refine UE hb ?_
    simp only[nD,↓V.ia 0 rfl (show(0:Int)<=(b:Int) by omega) (show(b:Int)<(N:Nat) by omega),aA,↓V.xI 0 rfl (dq (bo (S:=S) (k:=b) (by omega))) rfl]
    cases hbS:hasB S b
    ·simp only[↓Pb,↓ag]
     have hsn:=hs.new (p':=hasB (S.set b true)) hb hbN fun k=>bn (by omega)
     have hun:kT (hasB (S.set b true)) N+1<=kT (hasB S) N:=mf (x:=b) (fun k hk=>by rw[bn (by omega),hk];simp) hbN hbS (by rw[bn (by omega)];simp)
     refine q.uK 0 rfl (by simp[bL];omega) rfl (fL _) fun h4 q4=>?_
     rw[fK]at q4
     replace q4:QV h4 [(n9,.arr 1 (bL (S.set b true))),(n2,.box c.e)] v T:=q4
     refine q4.push (k:=b) (by omega) (by omega) fun v5 h5 q5=>?_
     simp only[ab,true_and]
     exact⟨_,_,v5,rfl,by simp[hS],q5,hsn,by rw[List.length_append,List.length_singleton];omega⟩
    ·simp only[↓RD,↓af,ab,true_and]
     exact⟨S,T,v,rfl,hS,q,hs.Ox hb hbS,hm⟩
   ·simp only[show((i:Int)<((edg c a).length:Int))=False from eq_false (by omega),decide_false,↓af,ab,true_and]
    exact⟨_,hm,S,T,v,rfl,hS,q,hs.end (by omega),rfl,by omega⟩
end Go.Am
namespace Go.Am
open Go Go.Proofs
section
section
variable {P:Program}{KH:HKq}{h:Heap}{L:LSq}{v:D}{T:List Nat}
theorem Vs.Ix (V:Vs h L){kt:KeyT}(hK:∀n h',Vs h' ((n,.map kt [])::L)->KH (.mp n) h'):aa P (.Ix kt) h KH:=fun n t=>hK n _ (V.push t.free (by simp))
end
structure VV (ks:List Nat) (N:Nat) (p:Nat->Prop):Prop where
 nd:ks.Nodup
 lt:∀k∈ks,k<N
 mem:∀k,k∈ks↔p k
def Oi (ks:List Nat) (k:Nat):List Nat:=if k∈ks then ks else ks++[k]
theorem yc {ks:List Nat}{k x:Nat}:x∈Oi ks k↔x=k\/x∈ks:=by
 unfold Oi
 split
 ·rename_i h
  constructor
  ·exact Or.inr
  ·rintro (rfl|hx)
   ·exact h
   ·exact hx
 ·simp[or_comm]
theorem Qc {ks:List Nat}{k:Nat}(h:ks.Nodup):(Oi ks k).Nodup:=by
 unfold Oi
 split
 ·exact h
 ·rename_i hk
  exact List.nodup_append.2 ⟨h,by simp,fun a ha b hb=>by simp at hb;subst hb;rintro rfl;exact hk ha⟩
structure VH (E:Nat->List Nat) (p:Nat->Bool) (T:List Nat) (nx:List Nat):Prop where
 nd:nx.Nodup
 ok:∀b∈nx,∃a,p a=true/\b∈E a
 done:∀a b,p a=true->a∉T->b∈E a->b∈nx
structure Gv (E:Nat->List Nat) (p:Nat->Bool) (T:List Nat) (nx:List Nat) (a i:Nat):Prop where
 nd:nx.Nodup
 ok:∀b∈nx,∃a,p a=true/\b∈E a
 pa:p a=true
 done:∀a' b,a'≠a->p a'=true->a'∉T->b∈E a'->b∈nx
 part:∀(j b:Nat),j<i->(E a)[j]?=some b->b∈nx
section
variable {E:Nat->List Nat}{p p':Nat->Bool}{T T' nx:List Nat}{a i b:Nat}
theorem VH.pop (h:VH E p T nx) (pa:p a=true) (hT2:∀k∈T,k=a\/k∈T'):Gv E p T' nx a 0 :=
 ⟨h.nd,h.ok,pa,fun a' b hne hp hn hb=>h.done a' b hp (fun hm=>by rcases hT2 a' hm with e|e;exact hne e;exact hn e) hb,fun j b hj=>by omega⟩
theorem Gv.end (h:Gv E p T nx a i) (hi:(E a).length<=i):VH E p T nx :=
 ⟨h.nd,h.ok,fun a' b hp hn hb=>by
  by_cases e:a'=a
  ·subst e
   obtain⟨j,hj,rfl⟩:=List.mem_iff_getElem.1 hb
   exact h.part j _ (by omega) (aC hj)
  ·exact h.done a' b e hp hn hb⟩
theorem Gv.add (h:Gv E p T nx a i) (hb:(E a)[i]?=some b):Gv E p T (Oi nx b) a (i+1) :=
 ⟨Qc h.nd,fun x hx=>by
  rcases yc.1 hx with rfl|hx
  ·exact⟨a,h.pa,ak hb⟩
  ·exact h.ok x hx,h.pa,fun a' x hne hp hn hx=>yc.2 (Or.inr (h.done a' x hne hp hn hx)),fun j x hj hx=>by
  by_cases e:j=i
  ·subst e;rw[hb]at hx;cases hx;exact yc.2 (Or.inl rfl)
  ·exact yc.2 (Or.inr (h.part j x (by omega) hx))⟩
theorem Gv.skip (h:Gv E p T nx a i) (he:E a=[]):Gv E p T nx a (i+1):=⟨h.nd,h.ok,h.pa,h.done,fun j x _ hx=>by rw[he]at hx;simp at hx⟩
end
theorem nj.skip {E:Nat->List Nat}{N s a i:Nat}{p:Nat->Bool}{T:List Nat}(h:nj E N s p T a i) (he:E a=[]):nj E N s p T a (i+1) :=
 ⟨h.st,h.lt,h.td,h.path,h.done,h.pa,fun j x _ hx=>by rw[he]at hx;simp at hx⟩
theorem Vs.mH {P:Program}{h:Heap}{L:LSq}{K:D->Prop}(V:Vs h L) (i:Nat){n o:Nat}{s:Slot}(hi:L[i]?=some (n,s)):ae P (.fadd (.c (.ptr n 0 0)) o) h K=K (.ptr n 0 o):=by
 rw[show ae P (.fadd (.c (.ptr n 0 0)) o) h K=aa P (.fadd (.c (.ptr n 0 0)) o) h (fun d _=>K d) from rfl,V.fa i hi]
theorem Vs.iJ {P:Program}{h:Heap}{L:LSq}{K:D->Prop}(V:Vs h L) (i:Nat){n j:Nat}{cs:List D}{e:D}(hi:L[i]?=some (n,.box (.agg cs))) (he:cs[j]?=some e):ae P (.ld (.c (.ptr n 0 j)) 1 false) h K=K e:=by rw[mU,V.cx i hi he]
theorem Vs.erase {h:Heap}{L:LSq}(V:Vs h L) (i:Nat):Vs h (L.eraseIdx i):=by
 let f:Nat->Nat:=fun j=>if j<i then j else j+1
 have hf:∀j,(L.eraseIdx i)[j]?=L[f j]?:=fun j=>by
  rw[List.getElem?_eraseIdx];simp only[f];split<;>rfl
 exact⟨fun j n s hj=>V.get (f j) n s (by rw[<- hf];exact hj),fun j k n m s s' hj hk hjk=>V.ne (f j) (f k) n m s s' (by rw[<- hf];exact hj) (by rw[<- hf];exact hk) (fun e=>hjk (by
  simp only[f]at e;split at e<;>split at e<;>omega)),fun j n s hj=>V.lv (f j) n s (by rw[<- hf];exact hj)⟩
end
theorem Vs.iff {h:Heap}{L:LSq}:Vs h L↔(∀n s,(n,s)∈L->h n=s/\s≠.free)/\(L.map Prod.fst).Nodup:=by
 constructor
 ·intro V
  refine⟨fun n s hm=>?_,?_⟩
  ·obtain⟨i,hi⟩:=aO hm
   exact⟨V.get i n s hi,V.lv i n s hi⟩
  ·rw[List.nodup_iff_pairwise_ne,List.pairwise_map,List.pairwise_iff_getElem]
   intro i j hi hj hij
   exact V.ne i j _ _ L[i].2 L[j].2 (aC hi) (aC hj) (by omega)
 ·rintro⟨h1,h2⟩
  refine⟨fun i n s hi=>(h1 n s (ak hi)).1,fun i j n m s s' hi hj hij=>?_,fun i n s hi=>(h1 n s (ak hi)).2⟩
  obtain⟨hli,ei⟩:=ah.1 hi
  obtain⟨hlj,ej⟩:=ah.1 hj
  rw[List.nodup_iff_pairwise_ne,List.pairwise_map,List.pairwise_iff_getElem]at h2
  rcases Nat.lt_or_gt_of_ne hij with hlt|hgt
  ·have:=h2 i j hli hlj hlt;rw[ei,ej]at this;exact this
  ·have:=h2 j i hlj hli hgt;rw[ei,ej]at this;exact fun e=>this e.symm
theorem Vs.perm {h:Heap}{L L':LSq}(p:L.Perm L') (V:Vs h L):Vs h L':=by
 rw[Vs.iff]at V ⊢
 exact⟨fun n s hm=>V.1 n s (p.mem_iff.2 hm),(p.map _).nodup_iff.1 V.2⟩
theorem Vs.H0 {h:Heap}{X L:LSq}(V:Vs h (X++L)):Vs h L:=by
 rw[Vs.iff]at V ⊢
 refine⟨fun n s hm=>V.1 n s (List.mem_append_right _ hm),?_⟩
 have:=V.2
 rw[List.map_append]at this
 exact(List.nodup_append.1 this).2.1
theorem QV.lift {h:Heap}{L:LSq}{v:D}{T:List Nat}(q:QV h L v T):∃Lq,Vs h Lq/\∀(h':Heap) (X:LSq),Vs h' (X++Lq)->QV h' (X++L) v T:=by
 rcases q with⟨rfl,rfl,V⟩|⟨m,off,els,rfl,V,h1,h2,h3⟩
 ·exact⟨L,V,fun h' X V'=>Or.inl ⟨rfl,rfl,V'⟩⟩
 ·exact⟨_,V,fun h' X V'=>Or.inr ⟨m,off,els,rfl,V'.perm List.perm_middle,h1,h2,h3⟩⟩
def QD (h:Heap) (L:LSq) (v:D) (T:List D):Prop :=
 (v=.nil/\T=[]/\Vs h L)\/∃m,v=.ms m 0 T.length/\Vs h ((m,.arr 1 T)::L)
theorem QD.vs {h:Heap}{L:LSq}{v:D}{T:List D}(q:QD h L v T):Vs h L:=by
 rcases q with⟨-,-,V⟩|⟨m,-,V⟩
 ·exact V
 ·exact V.pop
theorem QD.cc {h:Heap}{L:LSq}{v:D}{T:List D}(q:QD h L v T) (i:Nat){n:Nat}{s s':Slot}(hi:L[i]?=some (n,s)) (hs:s'≠.free):QD (aD h n s') (L.set i (n,s')) v T:=by
 rcases q with⟨rfl,rfl,V⟩|⟨m,rfl,V⟩
 ·exact Or.inl ⟨rfl,rfl,V.cc i hi hs⟩
 ·exact Or.inr ⟨m,rfl,by have:=V.cc (i+1) (n:=n) (s:=s) (by simpa using hi) hs;simpa using this⟩
theorem QD.push {h:Heap}{L:LSq}{v d:D}{T:List D}(q:QD h L v T){z z':D}{bytes:Nat}{KH:HKq}(hd:sx d) (h1:d.one=true) (hb:(T.length+1)*bytes<=140737488355328) (hl:T.length+1<=9223372036854775807)
  (hK:∀v h',QD h' L v (T++[d])->KH v h'):aa PP (.bldS true 1 1 z [(0,.c d)]) h fun x h1=>aa PP (.app (.c v) (.c x) 1 bytes z') h1 KH:=by
 have hc:d.cells.length=1:=by cases d<;>first|rfl|cases h1
 have hlen:T.length+1=(T++[d]).length:=by simp
 rcases q with⟨rfl,rfl,V⟩|⟨m,rfl,V⟩
 ·refine Ak (els:=[]) (Or.inl ⟨rfl,rfl⟩) hd hc hb hl fun m h' hm hm' hk=>hK _ _ (Or.inr ⟨m,rfl,?_⟩)
  have Vk:=V.Dv (h':=h') fun k s ⟨i,hi⟩=>hk k (fun e=>by subst e;exact V.lv i k s hi ((V.get i k s hi).symm.trans hm)) (by simp[D.jV]) (by rw[V.get i k s hi];exact V.lv i k s hi)
  rw[Vs.iff]at Vk ⊢
  refine⟨fun k s hs=>?_,?_⟩
  ·rcases List.mem_cons.1 hs with e|hs
   ·cases e;exact⟨hm',by simp⟩
   ·exact Vk.1 k s hs
  ·rw[List.map_cons,List.nodup_cons]
   refine⟨fun hmm=>?_,Vk.2⟩
   obtain⟨⟨k,s⟩,hks,rfl⟩:=List.mem_map.1 hmm
   obtain⟨i,hi⟩:=aO hks
   exact V.lv i _ _ hi ((V.get i _ _ hi).symm.trans hm)
 ·refine Ak (els:=T) (Or.inr ⟨m,rfl,V.get 0 _ _ rfl⟩) hd hc hb hl fun m' h' hm hm' hk=>hK _ _ (Or.inr ⟨m',by rw[hlen],?_⟩)
  have V1:=V.pop
  have Vk:=V1.Dv (h':=h') fun k s ⟨i,hi⟩=>hk k (fun e=>by subst e;exact V1.lv i k s hi ((V1.get i k s hi).symm.trans hm)) (fun e=>by
   simp[D.jV]at e
   exact V.ne (i+1) 0 k m s _ (by simpa using hi) rfl (by omega) e) (by rw[V1.get i k s hi];exact V1.lv i k s hi)
  rw[Vs.iff]at Vk ⊢
  refine⟨fun k s hs=>?_,?_⟩
  ·rcases List.mem_cons.1 hs with e|hs
   ·cases e;exact⟨hm',by simp⟩
   ·exact Vk.1 k s hs
  ·rw[List.map_cons,List.nodup_cons]
   refine⟨fun hmm=>?_,Vk.2⟩
   obtain⟨⟨k,s⟩,hks,rfl⟩:=List.mem_map.1 hmm
   obtain⟨i,hi⟩:=aO hks
   exact V1.lv i _ _ hi ((V1.get i _ _ hi).symm.trans hm)
noncomputable def JW (N:Nat) (p:Nat->Prop):List Nat:=(List.range N).filter fun k=>@decide (p k) (Classical.propDecidable _)
theorem uq {N:Nat}{p:Nat->Prop}{k:Nat}:k∈JW N p↔k<N/\p k:=by simp[JW]
theorem JV {N:Nat}{p:Nat->Prop}:(JW N p).length<=N:=by
 have:=List.length_filter_le (fun k=>@decide (p k) (Classical.propDecidable _)) (List.range N)
 simpa[JW] using this
theorem Rj {l:List Nat}:sx (.sl (bb l)):=mT
section
variable {h:Heap}{L:LSq}{KH:HKq}
theorem Vs.Jh (V:Vs h L){esz:Nat}{z:D}{fz:Bool}(hK:∀n h',Vs h' ((n,.arr esz [])::L)->KH (.ms n 0 0) h'):aa PP (.bldS fz esz 0 z []) h KH:=RY fun n t=>hK n _ (V.push t.free (by simp))
theorem Vs.Gr {m esz bytes:Nat}{els ys:List D}{x z:D}(V:Vs h ((m,.arr esz els)::L)) (hx:∀{K:List D->Prop},K ys->velems esz x h K) (hy:∀y∈ys,aN y) (hb:(els.length+ys.length)*bytes<=140737488355328) (hl:els.length+ys.length<=9223372036854775807)
  (hK:∀n h',Vs h' ((n,.arr esz (els++ys))::L)->KH (.ms n 0 (els.length+ys.length)) h'):aa PP (.app (.c (.ms m 0 els.length)) (.c x) esz bytes z) h KH:=by
 rw[Hf]
 refine hx ⟨hy,?_⟩
 have hm:=V.get 0 _ _ rfl
 refine⟨els,.of hm,by simp,⟨hb,hl⟩,fun n t=>⟨?_,fun h0=>absurd rfl h0⟩⟩
 rw[List.drop_zero]
 refine hK n _ ?_
 have hne:n≠m:=by rintro rfl;rw[t.free]at hm;cases hm
 have V1:Vs (aD h m .dead) L:=by
  refine V.pop.Dv fun k s hi=>?_
  have:k≠m:=fun e=>by
   obtain⟨i,hi'⟩:=hi
   exact V.ne (i+1) 0 k m s _ (by simpa using hi') rfl (by omega) e
  exact an _ _ this
 exact V1.push (by rw[an _ _ hne];exact t.free) (by simp)
end
abbrev Fi (c:Code) (vA vL vB:D):D:=.agg [.int .i64 c.group,.int .i64 c.sub,.int .i64 c.regs,.int .i64 c.slots,.int .i64 c.params,vA,vL,vB]
end Go.Am
namespace Go.Am
open Go Go.Proofs
def cQ (w:Int) (p:List Bool×List Nat) (b:Nat):List Bool×List Nat:=if !hasB p.1 b&&decide ((b:Int)≠w) then(p.1.set b true,p.2++[b]) else p
def frRun (E:List (List Nat)) (w:Int):Nat->List Bool->List Nat->List Bool
 | 0,S,_=>S
 | _+1,S,[]=>S
 | n+1,S,a::T=>frRun E w n (((E[a]?).getD []).foldl (cQ w) (S,T)).1 (((E[a]?).getD []).foldl (cQ w) (S,T)).2
def jC (E:List (List Nat)) (s:Nat) (w:Int):List Bool :=
 if(s:Int)=w then List.replicate E.length false else frRun E w (3*E.length+3) ((List.replicate E.length false).set s true) [s]
theorem E6 {E:List (List Nat)}{w:Int}{n:Nat}{S:List Bool}:frRun E w n S []=S:=by cases n<;>rfl
def fP (l:List Int):List D:=l.map (.int .i64)
theorem mq {l:List Int}:(fP l).length=l.length:=by simp[fP]
theorem TD (l:List Nat):bb l=fP (l.map fun n:Nat=>(n:Int)):=by simp[bb,fP,nD]
section
variable {P:Program}{KH:HKq}{K:D->Prop}{h:Heap}
theorem Wl {l:List Int}{i:Nat}{k:Int}(hk:l[i]?=some k) (hK:KH (.int .i64 k) h):aa P (.iadd (.c (.sl (fP l))) (.c (.int .i64 (i:Int))) 1) h fun a h1=>aa P (.ld (.c a) 1 false) h1 KH:=by
 rw[lD (esz:=1) (d:=.int .i64 k) (by omega) (by rw[aA,fP,List.getElem?_map,hk];rfl) rfl,uR rfl]
 exact hK
theorem TE {l:List Int}:aR (.sl (fP l)) h K=K (.int .i64 (l.length:Int)):=by rw[bX,mq]
end
theorem Pm {l:List Int}:sx (.sl (fP l)):=mT
theorem ip (l:List Int) (k:Int):∀d,d∈[.sl (fP l),.int .i64 k]->d.vd=true/\aN d:=fun d hd=>by simp at hd;rcases hd with rfl|rfl;exact Pm.pair;exact aW.pair
theorem NY {l:List Int}{k:Int}(hl:l.length<=1000000):aY PP fj [.sl (fP l),.int .i64 k] (fun r=>∃i:Int,r=.int .i64 i/\(0<=i↔k∈l)):=by
 refine bx nG (aJ _ _ _) rfl (mZ _ _ _) ?_
 unfold jb
 refine⟨fun _ _=>k∉l,fun f h hk=>?_,?_⟩
 ·rw[cH];exact⟨-1,rfl,by simp[hk]⟩
 rw[TE]
 unfold gx
 refine⟨fun m q _=>∃i:Nat,i<=l.length/\m=l.length-i/\q=[.int .i64 (i:Int)]/\k∉l.take i,_,⟨0,by omega,rfl,rfl,by simp⟩,?_⟩
 rintro m f h ⟨i,hi,hm,hq,hn⟩
 simp only[aq,and_true]at hq
 rw[hq,xM]
 by_cases hlt:i<l.length
 ·have hb:l[i]?=some l[i]:=aC hlt
  generalize l[i]=b at hb
  simp only[show((i:Int)<(l.length:Int))=True from eq_true (by omega),decide_true,↓ag]
  refine Wl hb ?_
  simp only[bQ]
  by_cases he:k=b
  ·subst he
   simp only[decide_true,↓ag]
   rw[cH]
   exact⟨i,rfl,by simp[ak hb]⟩
  ·simp only[show(k=b)=False from eq_false he,decide_false,↓af]
   rw[cU (by omega) (by omega)]
   simp only[ab,true_and]
   refine⟨_,by omega,i+1,by omega,rfl,by simp,?_⟩
   rw[List.take_add_one,hb]
   simp only[Option.toList_some,List.mem_append,List.mem_singleton,not_or]
   exact⟨hn,he⟩
 ·have:i=l.length:=by omega
  subst this
  simp only[show((l.length:Int)<(l.length:Int))=False from eq_false (by omega),decide_false,↓af,ab,true_and]
  rwa [List.take_length]at hn
theorem HI {l:List Int}{k:Int}(hl:l.length<=1000000):aY PP dJ [.sl (fP l),.int .i64 k] (· = .bool (decide (k∈l))):=by
 refine bx lu (aJ _ _ _) rfl (lf _ _ _) ?_
 unfold gy
 refine bO (NY hl) (ip l k) ?_
 rintro _ ⟨i,rfl,hi⟩
 rw[CN,bw]
 congr 1
 exact decide_eq_decide.2 hi
def Wf (N:Nat) (l:List Int):Prop:=l.Pairwise (· < ·)/\∀b∈l,0<=b/\b<(N:Int)
instance (N:Nat) (l:List Int):Decidable (Wf N l):=inferInstanceAs (Decidable (_/\_))
theorem sp (l:List Nat) (k:Nat):∀d,d∈[.sl (bb l),nD k]->d.vd=true/\aN d:=fun d hd=>by simp at hd;rcases hd with rfl|rfl;exact Rj.pair;exact aW.pair
theorem QV.two {h:Heap}{L:LSq}(V:Vs h L){z:D}{j k:Nat}{KH:HKq}(hK:∀v h',QV h' L v [j,k]->KH v h'):aa PP (.bldS true 1 2 z [(0,.c (nD j)),(1,.c (nD k))]) h KH:=by
 refine⟨fun p hp=>?_,fun hf p hp=>?_,fun n t=>?_⟩
 ·simp[Arg.get]at hp
  rcases hp with rfl|rfl
  ·exact⟨by show 0<2;omega,rfl,aW.one⟩
  ·exact⟨by show 1<2;omega,rfl,aW.one⟩
 ·simp[Arg.get]at hp
  rcases hp with rfl|rfl<;>(intro x hx;simp[nD,D.cells]at hx;subst hx;trivial)
 ·have:KH (.ms n 0 2) (aD h n (.arr 1 [nD j,nD k])):=by
   refine hK _ _ (Or.inr ⟨n,0,[nD j,nD k],rfl,V.push t.free (by simp),by simp,by simp[bb],fun x hx=>by simp at hx;rcases hx with rfl|rfl<;>rfl⟩)
  simpa[Arg.get,setEls,D.fz,D.fzc,D.nm,D.jV,nD,Heap.freezeAll,List.replicate] using this
theorem PU {N:Nat}{R:Int}{t:Term}(h:xJ N R t):aY PP ql [t.e] (· = .sl (bb (cZ t))):=by
 refine bx Ci (aJ _ _ _) rfl (B4 _ _) ?_
 unfold yU
 refine Vs.nil.box t.dS.one fun n2 h3 V=>?_
 have i0:∀{KH:HKq},aa PP (.iadda (.c (.ptr n2 0 11)) (.c (.int .i64 0)) 2 1) h3 KH=KH (.ptr n2 0 11) h3:=fun {KH}=>V.RS 0 (a:=0) rfl (by omega)
 have i1:∀{KH:HKq},aa PP (.iadda (.c (.ptr n2 0 11)) (.c (.int .i64 1)) 2 1) h3 KH=KH (.ptr n2 0 12) h3:=fun {KH}=>V.RS 0 (a:=1) rfl (by omega)
 have one:∀(a:Nat),aa PP (.bldS true 1 1 (.int .i64 0) [(0,.c (.int .i64 (a:Int)))]) h3 fun a60 h61=>sy (fun r=>r=.sl (bb [a])) a60 h61:=fun a=>by
  exact QV.one (k:=a) V fun v h' q=>q.ret rfl (by simp)
 cases h with
 | jump a ha =>
  simp (disch:=omega) only[↓V.fa 0 rfl,Nat.zero_add,↓V.cx 0 (j:=0) rfl rfl,↓cS,↓gS,↓i0,↓V.cx 0 (j:=11) rfl rfl]
  exact one a
 | barrier a ha =>
  simp (disch:=omega) only[↓V.fa 0 rfl,Nat.zero_add,↓V.cx 0 (j:=0) rfl rfl,↓cS,↓gS,↓i0,↓V.cx 0 (j:=11) rfl rfl]
  exact one a
 | collect s d a b t hs hd ha hb ht =>
  simp (disch:=omega) only[↓V.fa 0 rfl,Nat.zero_add,↓V.cx 0 (j:=0) rfl rfl,↓cS,↓gS,↓i0,↓V.cx 0 (j:=11) rfl rfl]
  exact one t
 | exit =>
  simp (disch:=omega) only[↓V.fa 0 rfl,Nat.zero_add,↓V.cx 0 (j:=0) rfl rfl,↓cS,↓gS]
  refine V.Jh fun n11 h12 V1=>?_
  exact uj (esz:=1) (els:=[]) (by rw[V1.get 0 _ _ rfl];rfl) (by simp) rfl
 | branch o a b ho ha hb =>
  simp (disch:=omega) only[↓V.fa 0 rfl,Nat.zero_add,↓V.cx 0 (j:=0) rfl rfl,↓cS,↓gS,↓i0,↓i1,↓V.cx 0 (j:=11) rfl rfl,↓V.cx 0 (j:=12) rfl rfl]
  by_cases hab:a=b
  ·subst hab
   simp (disch:=omega) only[↓cS,↓gS,↓V.fa 0 rfl,Nat.zero_add,↓i0,↓V.cx 0 (j:=11) rfl rfl]
   have e:cZ ⟨2,0,aj,o,aj,(a:Int),(a:Int)⟩=[a]:=by simp[cZ]
   rw[e]
   exact one a
  ·simp (disch:=omega) only[↓cS,↓gS,↓V.fa 0 rfl,Nat.zero_add,↓i0,↓i1,↓V.cx 0 (j:=11) rfl rfl,↓V.cx 0 (j:=12) rfl rfl]
   have e:cZ ⟨2,0,aj,o,aj,(a:Int),(b:Int)⟩=[a,b]:=by simp[cZ];omega
   rw[e]
   exact QV.two (j:=a) (k:=b) V fun v h' q=>q.ret rfl (by simp)
theorem xP {p p':Nat->Bool}{N:Nat}(h:∀k,p k=true->p' k=true):kT p' N<=kT p N :=
 List.countP_mono_left fun k _ hk=>by cases hp:p k<;>simp_all
theorem My {S:List Bool}{x:Nat}(hx:hasB S x=true):S.set x true=S:=by
 apply List.ext_getElem?
 intro i
 rw[List.getElem?_set]
 by_cases h:x=i
 ·subst h
  unfold hasB at hx
  cases hS:S[x]? with
  | none=>rw[hS]at hx;cases hx
  | some b =>
   rw[hS]at hx
   have:=(ah.1 hS).1
   simp only[Option.getD_some]at hx
   simp[this,hx]
 ·rw[if_neg h]
theorem Nh {N k:Nat}(h:hasB ((List.replicate N false).set 0 true) k=true):k=0:=by
 by_cases hk:k=0
 ·exact hk
 ·exfalso
  unfold hasB at h
  rw[List.getElem?_set,if_neg (fun e=>hk e.symm),List.getElem?_replicate]at h
  split at h<;>simp at h
structure RI (c:Code) (S:List Bool):Prop where
 len:S.length=c.b.length
 z:hasB S 0=true
 pa:∀k,hasB S k=true->Path (edg c) 0 k
theorem nX {c:Code}{a:Nat}:(edg c a).length<=2:=by
 unfold edg
 split
 ·unfold cZ;split<;>(try split)<;>simp
 ·simp
theorem HH {c:Code}(hc:bS c):aY PP kN [c.e] (fun r=>∃S:List Bool,r=.sl (bL S)/\S.length=c.b.length/\∀k,hasB S k=true↔Path (edg c) 0 k):=by
 have hnb:=hc.nb
 refine bx AN (aJ _ _ _) rfl (AD _ _) ?_
 unfold vJ
 refine Vs.nil.box c.dS.one fun n2 h3 V1=>?_
 simp only[↓V1.fa 0 rfl,Nat.zero_add,↓V1.cx 0 (j:=7) rfl rfl,bX,aw]
 refine V1.JS (by omega) (by omega) fun n9 h10 V2=>?_
 have e0:List.replicate c.b.length (D.bool false)=bL (List.replicate c.b.length false):=by simp[bL]
 rw[e0]at V2
 rw[V2.ia 0 rfl (by omega) (by omega)]
 refine V2.uK 0 rfl (by simp[bL];omega) rfl (fL _) fun h14 V3=>?_
 rw[show(0:Int).toNat=0 from rfl,fK]at V3
 replace V3:Vs h14 [(n9,.arr 1 (bL ((List.replicate c.b.length false).set 0 true))),(n2,.box c.e)]:=V3
 refine⟨fun _ h=>∃S:List Bool,RI c S/\(∀k,Path (edg c) 0 k->hasB S k=true)/\Vs h [(n9,.arr 1 (bL S)),(n2,.box c.e)],?_,?_⟩
 ·rintro f h ⟨S,ri,hall,V⟩
  have hl:D.ms n9 0 c.b.length=.ms n9 0 (bL S).length:=by simp[bL,ri.len]
  rw[hl]
  refine uj (esz:=1) (by rw[V.get 0 _ _ rfl];rfl) (fun x hx y hy=>?_) ⟨S,rfl,ri.len,fun k=>⟨ri.pa k,hall k⟩⟩
  simp only[bL,List.mem_map]at hx
  obtain⟨b,-,rfl⟩:=hx
  simp[D.cells]at hy;subst hy;rfl
 have r0:RI c ((List.replicate c.b.length false).set 0 true):=⟨by simp,by rw[bn (by simp;omega)];simp,fun k hk=>by rw[Nh hk];exact .refl⟩
 have u0:kT (hasB ((List.replicate c.b.length false).set 0 true)) c.b.length+1<=c.b.length:=by
  have:=mf (p:=fun _=>false) (p':=hasB ((List.replicate c.b.length false).set 0 true)) (N:=c.b.length) (x:=0) (fun k hk=>by cases hk) (by omega) rfl r0.z
  have h2:=zD (fun _=>false) c.b.length
  omega
 unfold pO
 refine⟨fun m q h=>∃(n:Nat) (S:List Bool),q=[.int .i64 (n:Int)]/\n<=c.b.length/\m=c.b.length-n/\RI c S/\Vs h [(n9,.arr 1 (bL S)),(n2,.box c.e)]/\((∀k,Path (edg c) 0 k->hasB S k=true)\/kT (hasB S) c.b.length+n+1<=c.b.length),_,
  ⟨0,_,rfl,by omega,rfl,r0,V3,Or.inr u0⟩,?_⟩
 rintro m f h ⟨n,S0,hq,hn,hm,ri0,V,hor⟩
 simp only[aq,and_true]at hq
 simp only[hq,↓V.fa 1 rfl,Nat.zero_add,↓V.cx 1 (j:=7) rfl rfl,bX,aw]
 by_cases hlt:n<c.b.length
 case neg =>
  rw[jX (by omega),af]
  simp only[ab,true_and]
  exact⟨S0,ri0,hor.resolve_right (by omega),V⟩
 rw[jZ (by omega),ag]
 refine⟨fun q h=>∃(S:List Bool),RI c S/\Vs h [(n9,.arr 1 (bL S)),(n2,.box c.e)]/\((∀k,Path (edg c) 0 k->hasB S k=true)\/kT (hasB S) c.b.length+n+2<=c.b.length),?_,?_⟩
 ·rintro f2 h2 ⟨S,ri,V',hor2⟩
  rw[cU (by omega) (by omega)]
  simp only[ab,true_and]
  exact⟨_,by omega,n+1,S,by simp,by omega,rfl,ri,V',by rcases hor2 with h|h;exact Or.inl h;exact Or.inr (by omega)⟩
 unfold pP
 refine⟨fun m q h=>∃(b:Nat) (S:List Bool),q=[.int .i64 (b:Int)]/\b<=c.b.length/\m=c.b.length-b/\RI c S/\Vs h [(n9,.arr 1 (bL S)),(n2,.box c.e)]/\(∀k,hasB S0 k=true->hasB S k=true) /\
   ((S=S0/\∀a,a<b->hasB S a=true->∀t,t∈edg c a->hasB S t=true)\/kT (hasB S) c.b.length+1<=kT (hasB S0) c.b.length),_,
  ⟨0,S0,rfl,by omega,rfl,ri0,V,fun k hk=>hk,Or.inl ⟨rfl,fun a ha=>by omega⟩⟩,?_⟩
 clear hq V hm
 rintro m f2 h2 ⟨b,S1,hq,hb,hm,ri1,V,hsub,hor1⟩
 simp only[aq,and_true]at hq
 simp only[hq,↓V.fa 1 rfl,Nat.zero_add,↓V.cx 1 (j:=7) rfl rfl,bX,aw]
 by_cases hlt1:b<c.b.length
 case neg =>
  rw[jX (by omega),af]
  simp only[ab,true_and]
  refine⟨S1,ri1,V,?_⟩
  rcases hor1 with⟨e,hcl⟩|hgt
  ·left
   intro k hk
   refine(hk.closed (S:=fun k=>hasB S1 k=true/\k<c.b.length) ⟨ri1.z,by omega⟩ fun a t ha ht=>⟨hcl a (by have:=ha.2;omega) ha.1 t ht,dM hc ht⟩).1
  ·rcases hor with h|h
   ·exact Or.inl fun k hk=>hsub k (h k hk)
   ·exact Or.inr (by omega)
 rw[jZ (by omega),ag]
 have hB:c.b[b]?=some c.b[b]:=aC hlt1
 have hTm:=hc.t _ (ak hB)
 generalize c.b[b]=B at hB hTm
 refine⟨fun q h=>∃(S:List Bool),RI c S/\Vs h [(n9,.arr 1 (bL S)),(n2,.box c.e)]/\(∀k,hasB S1 k=true->hasB S k=true) /\
   ((S=S1/\(hasB S b=true->∀t,t∈edg c b->hasB S t=true))\/kT (hasB S) c.b.length+1<=kT (hasB S1) c.b.length),?_,?_⟩
 ·rintro f3 h3 ⟨S,ri,V',hsub3,hor3⟩
  rw[cU (by omega) (by omega)]
  simp only[ab,true_and]
  refine⟨_,by omega,b+1,S,by simp,by omega,rfl,ri,V',fun k hk=>hsub3 k (hsub k hk),?_⟩
  have hu:=xP (N:=c.b.length) hsub
  have hu3:=xP (N:=c.b.length) hsub3
  rcases hor3 with⟨e,hcl⟩|hgt
  ·rcases hor1 with⟨e1,hcl1⟩|hgt1
   ·left
    subst e
    refine⟨e1,fun a ha hsa t ht=>?_⟩
    rcases Nat.lt_or_ge a b with h1|h1
    ·exact hcl1 a h1 hsa t ht
    ·have:a=b:=by omega
     subst this;exact hcl hsa t ht
   ·right;omega
  ·right;omega
 simp only[↓V.fa 1 rfl,Nat.zero_add,↓V.cx 1 (j:=7) rfl rfl,↓xp hB,↓La,↓Ly]
 refine bO (PU hTm) (fun d hd=>by simp at hd;subst hd;exact B.t.dS.pair) ?_
 rintro _ rfl
 rw[<- jE hB]
 have hEl:=nX (c:=c) (a:=b)
 unfold pQ
 refine⟨fun m q h=>∃(y:Nat) (S:List Bool),q=[.int .i64 (y:Int)]/\y<=(edg c b).length/\m=(edg c b).length-y/\RI c S/\Vs h [(n9,.arr 1 (bL S)),(n2,.box c.e)]/\(∀k,hasB S1 k=true->hasB S k=true) /\
   ((S=S1/\∀(x t:Nat),x<y->(edg c b)[x]?=some t->hasB S t=true)\/kT (hasB S) c.b.length+1<=kT (hasB S1) c.b.length),_,
  ⟨0,S1,rfl,by omega,rfl,ri1,V,fun k hk=>hk,Or.inl ⟨rfl,fun x t hx=>by omega⟩⟩,?_⟩
 clear V hm
 rintro m f3 h3 ⟨y,S,hq3,hy,hm,ri,V,hsub3,hor3⟩
 simp only[aq,and_true]at hq3
 have hbS:(bL S).length=c.b.length:=by simp[bL,ri.len]
 rw[hq3,Di]
 by_cases hlt3:y<(edg c b).length
 case neg =>
  rw[jX (by omega)]
  simp only[↓gS,ab,true_and]
  refine⟨S,ri,V,hsub3,?_⟩
  rcases hor3 with⟨e,hcl⟩|hgt
  ·refine Or.inl ⟨e,fun _ t ht=>?_⟩
   obtain⟨x,hx⟩:=aO ht
   exact hcl x t (by have:=(ah.1 hx).1;omega) hx
  ·exact Or.inr hgt
 rw[jZ (by omega)]
 simp only[hq,↓gS,↓V.ia 0 rfl (show(0:Int)<=(b:Int) by omega) (show(b:Int)<(c.b.length:Nat) by omega),aA,↓V.xI 0 rfl (dq (bo (S:=S) (k:=b) (by rw[ri.len];exact hlt1))) rfl]
 cases hSb:hasB S b
 ·simp only[↓gS,ab,true_and]
  refine⟨S,ri,V,hsub3,?_⟩
  rcases hor3 with⟨e,hcl⟩|hgt
  ·exact Or.inl ⟨e,fun h=>by rw[hSb]at h;cases h⟩
  ·exact Or.inr hgt
 simp only[↓gS]
 obtain⟨t,ht⟩:∃t,(edg c b)[y]?=some t:=⟨(edg c b)[y],aC hlt3⟩
 have htm:=ak ht
 have htN:=dM hc htm
 refine UE ht ?_
 simp only[nD,↓V.ia 0 rfl (show(0:Int)<=(t:Int) by omega) (show(t:Int)<(c.b.length:Nat) by omega),aA]
 refine V.uK 0 rfl (by rw[hbS];exact htN) rfl (fL _) fun h4 V4=>?_
 rw[fK]at V4
 replace V4:Vs h4 [(n9,.arr 1 (bL (S.set t true))),(n2,.box c.e)]:=V4
 rw[cU (by omega) (by omega)]
 simp only[ab,true_and]
 have hset:∀k,hasB (S.set t true) k=(decide (k=t)||hasB S k):=fun k=>bn (by rw[ri.len];exact htN)
 refine⟨_,by omega,y+1,S.set t true,by simp,by omega,rfl,⟨by simp[ri.len],by rw[hset];simp[ri.z],fun k hk=>?_⟩,V4,fun k hk=>by rw[hset];simp[hsub3 k hk],?_⟩
 ·rw[hset]at hk
  simp only[Bool.or_eq_true,decide_eq_true_eq]at hk
  rcases hk with rfl|hk
  ·exact .step (ri.pa b hSb) htm
  ·exact ri.pa k hk
 ·cases hSt:hasB S t
  ·right
   have h1:=mf (p:=hasB S) (p':=hasB (S.set t true)) (N:=c.b.length) (x:=t) (fun k hk=>by rw[hset];simp[hk]) htN hSt (by rw[hset];simp)
   have h2:=xP (N:=c.b.length) hsub3
   omega
  ·rw[My hSt]
   rcases hor3 with⟨e,hcl⟩|hgt
   ·refine Or.inl ⟨e,fun x t' hx hxt=>?_⟩
    rcases Nat.lt_or_ge x y with h1|h1
    ·exact hcl x t' h1 hxt
    ·have:x=y:=by omega
     subst this;rw[ht]at hxt;cases hxt;exact hSt
   ·exact Or.inr hgt
end Go.Am
namespace Go.Am
structure Dg (r:Nat) (pre:Nat->List Nat) (A:Nat->Nat) (node:Nat->Prop):Prop where
 root:node r
 zero:A r=0
 inj:∀a b,node a->node b->A a=A b->a=b
 src:∀p b,p∈pre b->node p
 par:∀b,node b->b≠r->∃p,p∈pre b/\A p<A b
inductive Ch (r:Nat) (up:Nat->Option Nat):Nat->Nat->Prop
 | refl (x:Nat):Ch r up x x
 | step {x y d:Nat}(h:x≠r) (hy:up x=some y) (k:Ch r up y d):Ch r up x d
inductive Pv (pre:Nat->List Nat) (bad:Nat->Prop) (s:Nat):Nat->Prop
 | refl (h:¬bad s):Pv pre bad s s
 | step {a b:Nat}(h:Pv pre bad s a) (e:a∈pre b) (hb:¬bad b):Pv pre bad s b
theorem Pv.trans {pre:Nat->List Nat}{bad:Nat->Prop}{a b c:Nat}(h:Pv pre bad a b) (k:Pv pre bad b c):Pv pre bad a c:=by
 induction k with
 | refl _=>exact h
 | step _ e hb ih=>exact .step ih e hb
theorem Pv.mono {pre:Nat->List Nat}{bad bad':Nat->Prop}{a b:Nat}(hm:∀x,bad' x->bad x) (h:Pv pre bad a b):Pv pre bad' a b:=by
 induction h with
 | refl h=>exact .refl fun k=>h (hm _ k)
 | step _ e hb ih=>exact .step ih e fun k=>hb (hm _ k)
theorem Pv.last {pre:Nat->List Nat}{bad:Nat->Prop}{a b:Nat}(h:Pv pre bad a b):¬bad b:=by
 cases h with
 | refl h=>exact h
 | step _ _ h=>exact h
def Dm (r:Nat) (pre:Nat->List Nat) (d x:Nat):Prop:=¬Pv pre (· = d) r x
structure Tr (r:Nat) (A:Nat->Nat) (node:Nat->Prop) (up:Nat->Option Nat):Prop where
 rt:up r=some r
 nd:∀x y,up x=some y->node x/\up y≠none
 lt:∀x y,up x=some y->x≠r->A y<A x
section
variable {r:Nat}{pre:Nat->List Nat}{A:Nat->Nat}{node:Nat->Prop}{up:Nat->Option Nat}
theorem Ch.trans {a b c:Nat}(h:Ch r up a b) (k:Ch r up b c):Ch r up a c:=by
 induction h with
 | refl _=>exact k
 | step h hy _ ih=>exact .step h hy (ih k)
theorem Ch.le (T:Tr r A node up){x d:Nat}(h:Ch r up x d):d=x\/A d<A x:=by
 induction h with
 | refl _=>exact Or.inl rfl
 | @step x y d h hy _ ih =>
  have:=T.lt x y hy h
  rcases ih with rfl|ih
  ·exact Or.inr this
  ·exact Or.inr (by omega)
theorem Ch.Jm (T:Tr r A node up){x d:Nat}(h:Ch r up x d) (k:Ch r up d x):d=x:=by
 rcases h.le T with h|h
 ·exact h
 ·rcases k.le T with k|k
  ·exact k.symm
  ·omega
theorem Ch.UF {x a b:Nat}(h:Ch r up x a) (k:Ch r up x b):Ch r up a b\/Ch r up b a:=by
 induction h with
 | refl _=>exact Or.inl k
 | @step x y a h hy h' ih =>
  cases k with
  | refl _=>exact Or.inr (.step h hy h')
  | step _ hy' k' =>
   rw[hy]at hy';cases hy'
   exact ih k'
theorem Ch.proc (T:Tr r A node up){x d:Nat}(h:Ch r up x d) (hx:up x≠none):up d≠none:=by
 induction h with
 | refl _=>exact hx
 | step _ hy _ ih=>exact ih (T.nd _ _ hy).2
structure UL (r:Nat) (pre:Nat->List Nat) (up:Nat->Option Nat) (v m:Nat):Prop where
 pr:up m≠none
 iff:∀d,Ch r up m d ↔ ∀p,p∈pre v->up p≠none->Ch r up p d
structure LU (r:Nat) (pre:Nat->List Nat) (A:Nat->Nat) (node:Nat->Prop) (up:Nat->Option Nat) (k:Nat):Prop where
 tr:Tr r A node up
 nk:node k
 pk:∀x,node x->(up x≠none↔A x<=A k)
 st:∀v y,v≠r->up v=some y->(∀d,(∀p,p∈pre v->up p≠none->Ch r up p d)↔Ch r up y d)\/(∀d,(∀p,p∈pre v->up p≠none->Ch r up p d)↔Ch r up v d/\Ch r up k d)
 snd:∀x d,up x≠none->Dm r pre d x->Ch r up x d
 pth:∀x y,x≠r->up x=some y->Pv pre (fun d=>Ch r up y d/\d≠y) y x
def gQ (up:Nat->Option Nat) (b m:Nat):Nat->Option Nat:=fun x=>if x=b then some m else up x
theorem bT {b m:Nat}:gQ up b m b=some m:=by simp[gQ]
theorem dh {b m x:Nat}(h:x≠b):gQ up b m x=up x:=by simp[gQ,h]
theorem LU.down {k:Nat}(I:LU r pre A node up k){x z:Nat}(h:Ch r up x z) (hx:up x≠none):Pv pre (fun d=>Ch r up z d/\d≠z) z x:=by
 induction h with
 | refl x=>exact .refl fun h=>h.2 rfl
 | @step x y z hr hy hc ih =>
  have h1:=ih (I.tr.nd x y hy).2
  refine h1.trans ((I.pth x y hr hy).mono fun d hd=>?_)
  refine⟨hc.trans hd.1,?_⟩
  rintro rfl
  exact hd.2 (hd.1.Jm I.tr hc)
theorem IM {d p b:Nat}(h:Dm r pre d b) (hp:p∈pre b) (hne:b≠d):Dm r pre d p:=fun k=>h (.step k hp hne)
theorem NM (T:Tr r A node up){b m:Nat}(hbr:b≠r) (hmb:¬Ch r up m b) (x d:Nat):Ch r (gQ up b m) x d↔(¬Ch r up x b/\Ch r up x d)\/(Ch r up x b/\((Ch r up x d/\Ch r up d b)\/Ch r up m d)):=by
 have off:∀{x d:Nat},¬Ch r up x b->(Ch r (gQ up b m) x d↔Ch r up x d):=by
  intro x d hx
  constructor
  ·intro h
   induction h with
   | refl _=>exact .refl _
   | @step x y d hr hy _ ih =>
    have hxb:x≠b:=by rintro rfl;exact hx (.refl _)
    rw[dh hxb]at hy
    exact .step hr hy (ih fun h=>hx (.step hr hy h))
  ·intro h
   induction h with
   | refl _=>exact .refl _
   | @step x y d hr hy _ ih =>
    have hxb:x≠b:=by rintro rfl;exact hx (.refl _)
    exact .step hr (by rw[dh hxb];exact hy) (ih fun h=>hx (.step hr hy h))
 by_cases hx:Ch r up x b
 ·simp only[hx,not_true,false_and,true_and,false_or]
  induction hx with
  | refl =>
   constructor
   ·intro h
    cases h with
    | refl _=>exact Or.inl ⟨.refl _,.refl _⟩
    | step _ hy k =>
     rw[bT]at hy;cases hy
     exact Or.inr ((off hmb).1 k)
   ·rintro (⟨h1,h2⟩|h)
    ·rw[h1.Jm T h2];exact .refl _
    ·exact .step hbr bT ((off hmb).2 h)
  | @step x y b hr hy hc ih =>
   by_cases hxb:x=b
   ·exact absurd hc (fun hc=>by
     have:=T.lt x y hy hr
     subst hxb
     rcases hc.le T with h|h
     ·rw[<- h]at this;omega
     ·omega)
   ·have ih:=ih hbr hmb off
    constructor
    ·intro h
     cases h with
     | refl _=>exact Or.inl ⟨.refl _,.step hr hy hc⟩
     | step _ hy' k =>
      rw[dh hxb,hy]at hy';cases hy'
      rcases ih.1 k with⟨h1,h2⟩|h
      ·exact Or.inl ⟨.step hr hy h1,h2⟩
      ·exact Or.inr h
    ·rintro (⟨h1,h2⟩|h)
     ·cases h1 with
      | refl _=>exact .refl _
      | step _ hy' k =>
       rw[hy]at hy';cases hy'
       exact .step hr (by rw[dh hxb];exact hy) (ih.2 (Or.inl ⟨k,h2⟩))
     ·exact .step hr (by rw[dh hxb];exact hy) (ih.2 (Or.inr h))
 ·simp only[hx,not_false_eq_true,true_and,false_and,or_false]
  exact off hx
theorem LU.some {k:Nat}(G:Dg r pre A node) (I:LU r pre A node up k){b:Nat}(hb:node b) (hbr:b≠r) (hk:A b<=A k+1):∃p,p∈pre b/\up p≠none/\A p<A b:=by
 obtain⟨p,hp,hlt⟩:=G.par b hb hbr
 exact⟨p,hp,(I.pk p (G.src p b hp)).2 (by omega),hlt⟩
theorem LU.N5 {k:Nat}(G:Dg r pre A node) (I:LU r pre A node up k){b m:Nat}(hb:node b) (hbr:b≠r) (hk:A b<=A k+1) (B:UL r pre up b m):A m<A b:=by
 obtain⟨p,hp,hu,hlt⟩:=I.some G hb hbr hk
 have:=(B.iff m).1 (.refl _) p hp hu
 rcases this.le I.tr with e|h
 ·rw[e];exact hlt
 ·omega
theorem Mk {k b m o:Nat}(G:Dg r pre A node) (I:LU r pre A node up k) (hb:node b) (hbr:b≠r) (ho:up b=some o) (B:UL r pre up b m) (hne:o≠m):LU r pre A node (gQ up b m) k/\A m<A o:=by
 have T:=I.tr
 have hbk:A b<=A k:=(I.pk b hb).1 (by rw[ho];simp)
 have hmlt:=I.N5 G hb hbr (by omega) B
 have hbm:¬Ch r up m b:=fun h=>by
  rcases h.le T with e|h
  ·rw[e]at hmlt;omega
  ·omega
 have F:∀d,Ch r up m d↔Ch r up b d/\Ch r up k d:=by
  rcases I.st b o hbr ho with h|h
  ·exfalso
   have e:∀d,Ch r up m d↔Ch r up o d:=fun d=>(B.iff d).trans (h d)
   exact hne (((e o).2 (.refl _)).Jm T ((e m).1 (.refl _)))
  ·exact fun d=>(B.iff d).trans (h d)
 have hbm':Ch r up b m:=((F m).1 (.refl _)).1
 have hkm:Ch r up k m:=((F m).1 (.refl _)).2
 have hkb:¬Ch r up k b:=fun h=>hbm ((F b).2 ⟨.refl _,h⟩)
 have hom:Ch r up o m:=by
  cases hbm' with
  | refl _=>omega
  | step _ hy h=>rw[ho]at hy;cases hy;exact h
 have hmo:A m<A o:=by
  rcases hom.le T with e|h
  ·exact absurd e.symm hne
  ·exact h
 have hnone:∀x,gQ up b m x≠none↔up x≠none:=fun x=>by
  by_cases e:x=b
  ·subst e;rw[bT,ho];simp
  ·rw[dh e]
 have C:=fun x d=>NM (d:=d) T hbr hbm x
 have Coff:∀{x d:Nat},¬Ch r up x b->(Ch r (gQ up b m) x d↔Ch r up x d):=fun {x d} h=>by rw[C];simp[h]
 have Con:∀{x d:Nat},Ch r up x b->(Ch r (gQ up b m) x d↔(Ch r up x d/\Ch r up d b)\/Ch r up m d):=fun {x d} h=>by rw[C];simp[h]
 have Csub:∀{x d:Nat},Ch r (gQ up b m) x d->Ch r up x d:=fun {x d} h=>by
  by_cases hx:Ch r up x b
  ·rcases (Con hx).1 h with h|h
   ·exact h.1
   ·exact hx.trans (hbm'.trans h)
  ·exact(Coff hx).1 h
 have N:∀{x d:Nat},Ch r up x b->(Ch r up x d/\Ch r up k d↔Ch r up m d):=fun {x d} hx=>by
  constructor
  ·rintro⟨h1,h2⟩
   rcases Ch.UF hx h1 with h|h
   ·exact(F d).2 ⟨h,h2⟩
   ·exact absurd (h2.trans h) hkb
  ·intro h
   exact⟨hx.trans (hbm'.trans h),hkm.trans h⟩
 have N':∀{x d:Nat},Ch r (gQ up b m) x d/\Ch r (gQ up b m) k d↔Ch r up x d/\Ch r up k d:=fun {x d}=>by
  rw[Coff hkb]
  by_cases hx:Ch r up x b
  ·rw[N hx,Con hx]
   constructor
   ·rintro⟨⟨h1,h2⟩|h,h3⟩
    ·exact absurd (h3.trans h2) hkb
    ·exact h
   ·intro h;exact⟨Or.inr h,hkm.trans h⟩
  ·rw[Coff hx]
 have tr':Tr r A node (gQ up b m):=by
  refine⟨by rw[dh (fun e=>hbr e.symm)];exact T.rt,fun x y hy=>?_,fun x y hy hx=>?_⟩
  ·by_cases e:x=b
   ·subst e;rw[bT]at hy;cases hy
    exact⟨hb,(hnone _).2 B.pr⟩
   ·rw[dh e]at hy
    exact⟨(T.nd x y hy).1,(hnone _).2 (T.nd x y hy).2⟩
  ·by_cases e:x=b
   ·subst e;rw[bT]at hy;cases hy;exact hmlt
   ·rw[dh e]at hy;exact T.lt x y hy hx
 have all:∀v,(∀d,(∀p,p∈pre v->up p≠none->Ch r up p d)↔Ch r up v d/\Ch r up k d)->∀d,(∀p,p∈pre v->gQ up b m p≠none->Ch r (gQ up b m) p d)↔Ch r (gQ up b m) v d/\Ch r (gQ up b m) k d:=by
  intro v h d
  rw[N', <- h d]
  constructor
  ·exact fun hh p hp hu=>Csub (hh p hp ((hnone p).2 hu))
  ·intro hh p hp hu
   have hpd:=hh p hp ((hnone p).1 hu)
   have hkd:=((h d).1 hh).2
   by_cases hpb:Ch r up p b
   ·exact(Con hpb).2 (Or.inr ((N hpb).1 ⟨hpd,hkd⟩))
   ·exact(Coff hpb).2 hpd
 refine⟨⟨tr',I.nk,fun x hx=>(hnone x).trans (I.pk x hx),fun v y hv hy=>?_,fun x d hx hd=>?_,fun x y hx hy=>?_⟩,hmo⟩
 ·by_cases e:v=b
  ·subst e
   rw[bT]at hy;cases hy
   left
   intro d
   have hs:∀d,(∀p,p∈pre v->up p≠none->Ch r up p d)↔Ch r up v d/\Ch r up k d:=fun d=>(B.iff d).symm.trans (F d)
   rw[all v hs d,N', <- F d,Coff hbm]
  ·rw[dh e]at hy
   rcases I.st v y hv hy with h|h
   ·
    by_cases hyb:Ch r up y b
    ·left
     intro d
     have hpb:∀p,p∈pre v->up p≠none->Ch r up p b:=(h b).2 hyb
     constructor
     ·intro hh
      rw[Con hyb]
      by_cases hmd:Ch r up m d
      ·exact Or.inr hmd
      ·left
       have h1:∀p,p∈pre v->up p≠none->Ch r up p d/\Ch r up d b:=fun p hp hu=>by
        have:=(Con (hpb p hp hu)).1 (hh p hp ((hnone p).2 hu))
        exact this.resolve_right hmd
       refine⟨(h d).1 fun p hp hu=>(h1 p hp hu).1,?_⟩
       have hvn:up v≠none:=by rw[hy];simp
       obtain⟨p,hp,hu,-⟩:=I.some G (T.nd v y hy).1 hv (by have:=(I.pk v (T.nd v y hy).1).1 hvn;omega)
       exact(h1 p hp hu).2
     ·intro hh p hp hu
      have hu':=(hnone p).1 hu
      rw[Con (hpb p hp hu')]
      rcases (Con hyb).1 hh with⟨h1,h2⟩|h1
      ·exact Or.inl ⟨(h d).2 h1 p hp hu',h2⟩
      ·exact Or.inr h1
    ·by_cases hmix:∃p,p∈pre v/\up p≠none/\Ch r up p b
     ·obtain⟨p0,hp0,hu0,hpb0⟩:=hmix
      have hby:Ch r up b y:=by
       have hp0y:=(h y).2 (.refl _) p0 hp0 hu0
       rcases Ch.UF hpb0 hp0y with h1|h1
       ·exact h1
       ·exact absurd h1 hyb
      have key:∀d,(∀p,p∈pre v->gQ up b m p≠none->Ch r (gQ up b m) p d)↔Ch r up y d/\Ch r up m d:=by
       intro d
       constructor
       ·intro hh
        have hy1:Ch r up y d:=(h d).1 fun p hp hu=>Csub (hh p hp ((hnone p).2 hu))
        refine⟨hy1,?_⟩
        rcases (Con hpb0).1 (hh p0 hp0 ((hnone p0).2 hu0)) with⟨-,h2⟩|h2
        ·exact absurd (hy1.trans h2) hyb
        ·exact h2
       ·rintro⟨h1,h2⟩ p hp hu
        by_cases hpb:Ch r up p b
        ·exact(Con hpb).2 (Or.inr h2)
        ·exact(Coff hpb).2 ((h d).2 h1 p hp ((hnone p).1 hu))
      rcases Ch.UF hbm' hby with h1|h1
      ·
       left
       intro d
       rw[key,Coff hyb]
       exact⟨fun hh=>hh.1,fun hh=>⟨hh,h1.trans hh⟩⟩
      ·by_cases e2:y=m
       ·left
        intro d
        rw[key,Coff hyb,e2]
        exact⟨fun hh=>hh.1,fun hh=>⟨hh,hh⟩⟩
       ·right
        intro d
        rw[key]
        have hvb:¬Ch r up v b:=fun hh=>by
         cases hh with
         | refl _=>exact e rfl
         | step _ hy' k'=>rw[hy]at hy';cases hy';exact hyb k'
        rw[N']
        constructor
        ·rintro⟨h3,h4⟩
         exact⟨.step hv hy h3,hkm.trans h4⟩
        ·rintro⟨h3,h4⟩
         cases h3 with
         | refl _ =>
          exfalso
          have hyk:Ch r up k y:=h4.trans (.step hv hy (.refl _))
          have:=(F y).2 ⟨hby,hyk⟩
          exact e2 (this.Jm T h1)
         | step _ hy' k' =>
          rw[hy]at hy';cases hy'
          exact⟨k',(F d).2 ⟨hby.trans k',h4⟩⟩
     ·left
      intro d
      rw[Coff hyb, <- h d]
      constructor
      ·exact fun hh p hp hu=>Csub (hh p hp ((hnone p).2 hu))
      ·intro hh p hp hu
       exact(Coff fun hpb=>hmix ⟨p,hp,(hnone p).1 hu,hpb⟩).2 (hh p hp ((hnone p).1 hu))
   ·exact Or.inr (all v h)
 ·
  have hx':=(hnone x).1 hx
  have h1:=I.snd x d hx' hd
  by_cases hxb:Ch r up x b
  ·rw[Con hxb]
   rcases Ch.UF hxb h1 with h2|h2
   ·by_cases e:d=b
    ·exact Or.inl ⟨h1,e ▸ .refl _⟩
    ·right
     refine(B.iff d).2 fun p hp hu=>I.snd p d hu ?_
     have hdb:Dm r pre d b:=fun hp'=>by
      refine hd (hp'.trans ((I.down hxb hx').mono fun z hz=>?_))
      subst hz
      exact⟨h2,e⟩
     exact IM hdb hp fun e'=>e e'.symm
   ·exact Or.inl ⟨h1,h2⟩
  ·exact(Coff hxb).2 h1
 ·by_cases e:x=b
  ·subst e
   rw[bT]at hy;cases hy
   obtain⟨p,hp,hu,hlt⟩:=I.some G hb hbr (by omega)
   have hpm:=(B.iff m).1 (.refl _) p hp hu
   refine .step ((I.down hpm hu).mono fun d hd=>⟨(Coff hbm).1 hd.1,hd.2⟩) hp ?_
   rintro⟨h1,-⟩
   exact hbm ((Coff hbm).1 h1)
  ·rw[dh e]at hy
   exact(I.pth x y hx hy).mono fun d hd=>⟨Csub hd.1,hd.2⟩
theorem PQ {b d:Nat}(hb:up b=none) (h:Ch r up b d):d=b:=by
 cases h with
 | refl _=>rfl
 | step _ hy _=>rw[hb]at hy;cases hy
theorem OH {k b m:Nat}(G:Dg r pre A node) (I:LU r pre A node up k) (hst:∀v y,v≠r->up v=some y->∀d,(∀p,p∈pre v->up p≠none->Ch r up p d)↔Ch r up y d)
  (hb:node b) (hn:up b=none) (hA:A b=A k+1) (B:UL r pre up b m):LU r pre A node (gQ up b m) b:=by
 have T:=I.tr
 have hbr:b≠r:=by rintro rfl;rw[T.rt]at hn;cases hn
 have nob:∀{x:Nat},up x≠none->¬Ch r up x b:=fun hx h=>h.proc T hx hn
 have hmb:¬Ch r up m b:=nob B.pr
 have hmlt:=I.N5 G hb hbr (by omega) B
 have C:=fun x d=>NM (d:=d) T hbr hmb x
 have Cx:∀{x d:Nat},up x≠none->(Ch r (gQ up b m) x d↔Ch r up x d):=fun {x d} hx=>by rw[C];simp[nob hx]
 have Cb:∀{d:Nat},Ch r (gQ up b m) b d↔d=b\/Ch r up m d:=fun {d}=>by
  rw[C]
  constructor
  ·rintro (⟨h,-⟩|⟨-,⟨h,-⟩|h⟩)
   ·exact absurd (.refl _) h
   ·exact Or.inl (PQ hn h)
   ·exact Or.inr h
  ·rintro (rfl|h)
   ·exact Or.inr ⟨.refl _,Or.inl ⟨.refl _,.refl _⟩⟩
   ·exact Or.inr ⟨.refl _,Or.inr h⟩
 have hnone:∀x,gQ up b m x≠none↔x=b\/up x≠none:=fun x=>by
  by_cases e:x=b
  ·subst e;rw[bT];simp
  ·rw[dh e];simp[e]
 refine⟨⟨by rw[dh (fun e=>hbr e.symm)];exact T.rt,fun x y hy=>?_,fun x y hy hx=>?_⟩,hb,fun x hx=>?_,fun v y hv hy=>?_,fun x d hx hd=>?_,fun x y hx hy=>?_⟩
 ·by_cases e:x=b
  ·subst e;rw[bT]at hy;cases hy
   exact⟨hb,(hnone _).2 (Or.inr B.pr)⟩
  ·rw[dh e]at hy
   exact⟨(T.nd x y hy).1,(hnone _).2 (Or.inr (T.nd x y hy).2)⟩
 ·by_cases e:x=b
  ·subst e;rw[bT]at hy;cases hy;exact hmlt
  ·rw[dh e]at hy;exact T.lt x y hy hx
 ·rw[hnone]
  constructor
  ·rintro (rfl|h)
   ·exact Nat.le_refl _
   ·have:=(I.pk x hx).1 h;omega
  ·intro h
   by_cases e:A x=A b
   ·exact Or.inl (G.inj x b hx hb e)
   ·exact Or.inr ((I.pk x hx).2 (by omega))
 ·by_cases e:v=b
  ·subst e
   rw[bT]at hy;cases hy
   left
   intro d
   rw[Cx B.pr]
   constructor
   ·intro hh
    exact(B.iff d).2 fun p hp hu=>(Cx hu).1 (hh p hp ((hnone p).2 (Or.inr hu)))
   ·intro hh p hp hu
    rcases (hnone p).1 hu with rfl|hu
    ·exact Cb.2 (Or.inr hh)
    ·exact(Cx hu).2 ((B.iff d).1 hh p hp hu)
  ·rw[dh e]at hy
   have hs:=hst v y hv hy
   have hyp:=(T.nd v y hy).2
   by_cases hbv:b∈pre v
   ·have key:∀d,(∀p,p∈pre v->gQ up b m p≠none->Ch r (gQ up b m) p d)↔Ch r up y d/\Ch r up m d:=by
     intro d
     constructor
     ·intro hh
      have h1:Ch r up y d:=(hs d).1 fun p hp hu=>(Cx hu).1 (hh p hp ((hnone p).2 (Or.inr hu)))
      refine⟨h1,?_⟩
      rcases Cb.1 (hh b hbv ((hnone b).2 (Or.inl rfl))) with e'|h2
      ·subst e';exact absurd h1 (nob hyp)
      ·exact h2
     ·rintro⟨h1,h2⟩ p hp hu
      rcases (hnone p).1 hu with rfl|hu
      ·exact Cb.2 (Or.inr h2)
      ·exact(Cx hu).2 ((hs d).2 h1 p hp hu)
    by_cases hmv:Ch r up m v
    ·left
     intro d
     rw[key,Cx hyp]
     exact⟨fun hh=>hh.1,fun hh=>⟨hh,hmv.trans (.step hv hy hh)⟩⟩
    ·right
     intro d
     rw[key,Cx (by rw[hy];simp),Cb]
     constructor
     ·rintro⟨h1,h2⟩;exact⟨.step hv hy h1,Or.inr h2⟩
     ·rintro⟨h1,h2⟩
      have h2':Ch r up m d:=by
       rcases h2 with e'|h2
       ·subst e';exact absurd h1 (nob (by rw[hy];simp))
       ·exact h2
      cases h1 with
      | refl _=>exact absurd h2' hmv
      | step _ hy' k'=>rw[hy]at hy';cases hy';exact⟨k',h2'⟩
   ·left
    intro d
    rw[Cx hyp, <- hs d]
    constructor
    ·exact fun hh p hp hu=>(Cx hu).1 (hh p hp ((hnone p).2 (Or.inr hu)))
    ·intro hh p hp hu
     rcases (hnone p).1 hu with rfl|hu
     ·exact absurd hp hbv
     ·exact(Cx hu).2 (hh p hp hu)
 ·rcases (hnone x).1 hx with rfl|hx
  ·rw[Cb]
   by_cases e:d=x
   ·exact Or.inl e
   ·exact Or.inr ((B.iff d).2 fun p hp hu=>I.snd p d hu (IM hd hp fun e'=>e e'.symm))
  ·exact(Cx hx).2 (I.snd x d hx hd)
 ·by_cases e:x=b
  ·subst e
   rw[bT]at hy;cases hy
   obtain⟨p,hp,hu,hlt⟩:=I.some G hb hbr (by omega)
   have hpm:=(B.iff m).1 (.refl _) p hp hu
   refine .step ((I.down hpm hu).mono fun d hd=>⟨(Cx B.pr).1 hd.1,hd.2⟩) hp ?_
   rintro⟨h1,-⟩
   exact hmb ((Cx B.pr).1 h1)
  ·rw[dh e]at hy
   have hyp:=(T.nd x y hy).2
   exact(I.pth x y hx hy).mono fun d hd=>⟨(Cx hyp).1 hd.1,hd.2⟩
theorem MV (G:Dg r pre A node):LU r pre A node (gQ (fun _=>none) r r) r:=by
 have hu:∀x y,gQ (fun _=>none) r r x=some y->x=r/\y=r:=fun x y h=>by
  by_cases e:x=r
  ·subst e;rw[bT]at h;cases h;exact⟨rfl,rfl⟩
  ·rw[dh e]at h;cases h
 have hn:∀x,gQ (fun _=>none) r r x≠none->x=r:=fun x h=>by
  cases hx:gQ (fun _=>none) r r x with
  | none=>exact absurd hx h
  | some y=>exact(hu x y hx).1
 refine⟨⟨bT,fun x y h=>?_,fun x y h hx=>absurd (hu x y h).1 hx⟩,G.root,fun x hx=>?_,fun v y hv hy=>absurd (hu v y hy).1 hv,fun x d hx hd=>?_,fun x y hx hy=>absurd (hu x y hy).1 hx⟩
 ·obtain⟨rfl,rfl⟩:=hu x y h
  exact⟨G.root,by rw[bT];simp⟩
 ·constructor
  ·intro h;rw[hn x h];exact Nat.le_refl _
  ·intro h
   have:x=r:=G.inj x r hx G.root (by rw[G.zero]at h ⊢;omega)
   subst this;rw[bT];simp
 ·have:=hn x hx
  subst this
  by_cases e:x=d
  ·subst e;exact .refl _
  ·exact absurd (.refl e) hd
theorem OY {k:Nat}(I:LU r pre A node up k) (hall:∀x,node x->up x≠none) (hsrc:∀p b,p∈pre b->node p) (hst:∀v y,v≠r->up v=some y->∀d,(∀p,p∈pre v->up p≠none->Ch r up p d)↔Ch r up y d){x:Nat}(hx:node x) (d:Nat):Ch r up x d↔Dm r pre d x:=by
 refine⟨fun h hp=>?_,I.snd x d (hall x hx)⟩
 have hr:∀{d:Nat},Ch r up r d->d=r:=fun h=>by
  cases h with
  | refl _=>rfl
  | step h _ _=>exact absurd rfl h
 have:∀{z:Nat},Pv pre (· = d) r z->up z≠none->¬Ch r up z d:=fun hp=>by
  induction hp with
  | refl h=>exact fun _ hc=>h (hr hc).symm
  | @step a b h e hb ih =>
   intro hbu hc
   have ha:=hall a (hsrc a b e)
   cases hc with
   | refl _=>exact hb rfl
   | @step _ y _ hbr hy k=>exact ih ha ((hst b y hbr hy d).2 k a e ha)
 exact this hp (hall x hx) h
end
end Go.Am
namespace Go.Am
open Go Go.Proofs
def upF (U:List Int) (x:Nat):Option Nat:=match U[x]? with
 | some k=>if 0<=k then some k.toNat else none
 | none=>none
theorem pf {U:List Int}{x y:Nat}(h:upF U x=some y):U[x]?=some (y:Int):=by
 unfold upF at h
 split at h
 ·rename_i k hk
  split at h
  ·cases h;rw[hk];congr 1;omega
  ·cases h
 ·cases h
theorem GP {U:List Int}{x:Nat}{k:Int}(hk:U[x]?=some k):upF U x=none↔k<0:=by
 unfold upF
 rw[hk]
 simp only
 split
 ·simp;omega
 ·simp;omega
theorem Cn {U:List Int}{b m:Nat}(hb:b<U.length):upF (U.set b (m:Int))=gQ (upF U) b m:=by
 funext x
 unfold upF gQ
 rw[List.getElem?_set]
 by_cases h:b=x
 ·subst h;simp[hb]
 ·rw[if_neg h,if_neg (fun e=>h e.symm)]
theorem kP {l:List Int}{i:Nat}{k:Int}(h:l[i]?=some k):(fP l)[i]?=some (.int .i64 k):=by simp[fP,h]
theorem FT {l:List Int}:∀x,x∈fP l->x.one=true:=fun x hx=>by simp only[fP,List.mem_map]at hx;obtain⟨k,-,rfl⟩:=hx;rfl
theorem FR {l:List Int}{i:Nat}{k:Int}:(fP l).set i (.int .i64 k)=fP (l.set i k):=by simp[fP,List.map_set]
def J4 (v:D) (nO o nA n:Nat):Slot:=.box (.agg [v,.ms nO 0 o,.ms nA 0 n])
section
variable {r:Nat}{pre:Nat->List Nat}{A:Nat->Nat}{node:Nat->Prop}
theorem SG {h:Heap}{L:LSq}{v:D}{ng nO o nA nU n:Nat}{at' U:List Int}{KH:HKq}(V:Vs h L){ig iA iU:Nat}(hg:L[ig]?=some (ng,J4 v nO o nA n)) (hA:L[iA]?=some (nA,.arr 1 (fP at'))) (hU:L[iU]?=some (nU,.arr 1 (fP U)))
  (hUn:U.length=n) (han:at'.length=n) (hn:n<=1000) (T:Tr r A node (upF U)) (hz:A r=0) (inj:∀a b,node a->node b->A a=A b->a=b) (hat:∀x,node x->at'[x]?=some (A x:Int)) {a b:Nat}(ha:upF U a≠none) (hb:upF U b≠none) (hna:node a) (hnb:node b)
  (hK:∀m,upF U m≠none->node m->(∀d,Ch r (upF U) m d↔Ch r (upF U) a d/\Ch r (upF U) b d)->KH (nD m) h):ai PP gE [.ptr ng 0 0,.ms nU 0 n,nD a,nD b] h KH:=by
 refine aT u9 (aJ _ _ _) rfl (uY _ _ _ _ _) ?_
 unfold pS
 refine⟨fun q h'=>h=h'/\∃m,q=[nD m]/\upF U m≠none/\node m/\∀d,Ch r (upF U) m d↔Ch r (upF U) a d/\Ch r (upF U) b d,?_,?_⟩
 ·rintro f h' ⟨e,m,hq,h1,h2,h3⟩
  subst e
  simp only[aq,and_true]at hq
  rw[hq]
  exact hK m h1 h2 h3
 unfold lY
 refine⟨fun k q h'=>h=h'/\∃x y,q=[nD x,nD y]/\k=A x+A y/\upF U x≠none/\upF U y≠none/\node x/\node y/\∀d,(Ch r (upF U) x d/\Ch r (upF U) y d)↔(Ch r (upF U) a d/\Ch r (upF U) b d),_,⟨rfl,a,b,rfl,rfl,ha,hb,hna,hnb,fun d=>Iff.rfl⟩,?_⟩
 rintro k f h' ⟨e,x,y,hq,hk,hx,hy,hnx,hny,hch⟩
 subst e
 simp only[aq,and_true]at hq
 obtain⟨q1,q2⟩:=hq
 simp only[q1,q2,nD]
 by_cases hxy:x=y
 ·subst hxy
  rw[U8 rfl,af]
  simp only[ab,true_and]
  exact⟨x,rfl,hx,hnx,fun d=>(and_self_iff.symm.trans (hch d))⟩
 rw[U7 (by omega),ag]
 have gA:∀{K:D->Prop},ae PP (.ld (.c (.ptr ng 0 2)) 1 false) h K=K (.ms nA 0 n):=fun {K}=>V.iJ ig (j:=2) hg rfl
 have gi:∀{K:D->Prop}{z:Nat},node z->ae PP (.iadd (.c (.ms nA 0 n)) (.c (.int .i64 (z:Int))) 1) h K=K (.ptr nA z 0):=fun {K z} hz=>by
  have hl:=(ah.1 (hat z hz)).1
  rw[V.GB iA hA (by omega) (by omega),aA]
 have gl:∀{K:D->Prop}{z:Nat},node z->ae PP (.ld (.c (.ptr nA z 0)) 1 false) h K=K (.int .i64 (A z:Int)):=fun {K z} hz=>V.EF iA hA (kP (hat z hz)) rfl
 have ui:∀{K:HKq}{z w:Nat},upF U z=some w->aa PP (.iadd (.c (.ms nU 0 n)) (.c (.int .i64 (z:Int))) 1) h K=K (.ptr nU z 0) h:=fun {K z w} hz=>by
  have hl:=(ah.1 (pf hz)).1
  rw[V.ia iU hU (by omega) (by omega),aA]
 have ul:∀{K:HKq}{z w:Nat},upF U z=some w->aa PP (.ld (.c (.ptr nU z 0)) 1 false) h K=K (.int .i64 (w:Int)) h:=fun {K z w} hz=>V.xI iU hU (kP (pf hz)) rfl
 have ups:∀{z:Nat},0<A z->upF U z≠none->∃u,upF U z=some u/\z≠r/\A u<A z/\upF U u≠none/\node u:=fun {z} hpos hz'=>by
  cases hu:upF U z with
  | none=>exact absurd hu hz'
  | some u =>
   have hzr:z≠r:=by rintro rfl;omega
   have h2:=(T.nd z u hu).2
   refine⟨u,rfl,hzr,T.lt z u hu hzr,h2,?_⟩
   cases hw:upF U u with
   | none=>exact absurd hw h2
   | some w=>exact(T.nd u w hw).1
 have away:∀{z w d:Nat},A w<A z->Ch r (upF U) w d->d≠z:=fun hlt hc=>by
  rintro rfl
  rcases hc.le T with e|h
  ·rw[e]at hlt;omega
  ·omega
 simp only[↓V.mH ig hg,Nat.zero_add,gA,gi hnx,gi hny,gl hnx,gl hny]
 by_cases hlt:A y<A x
 ·rw[VQ (by omega),ag]
  obtain⟨u,hu,hxr,hul,hup,hun⟩:=ups (by omega) hx
  simp only[ui hu,ul hu,ab,true_and]
  refine⟨_,?_,u,y,rfl,rfl,hup,hy,hun,hny,fun d=>(Iff.trans ?_ (hch d))⟩
  ·omega
  ·constructor
   ·rintro⟨h1,h2⟩;exact⟨.step hxr hu h1,h2⟩
   ·rintro⟨h1,h2⟩
    refine⟨?_,h2⟩
    cases h1 with
    | refl _=>exact absurd rfl (away hlt h2)
    | step _ hu' k=>rw[hu]at hu';cases hu';exact k
 ·have hlt':A x<A y:=by
   have:A x≠A y:=fun e=>hxy (inj x y hnx hny e)
   omega
  rw[UG (by omega),af]
  obtain⟨u,hu,hyr,hul,hup,hun⟩:=ups (by omega) hy
  simp only[ui hu,ul hu,ab,true_and]
  refine⟨_,?_,x,u,rfl,rfl,hx,hup,hnx,hun,fun d=>(Iff.trans ?_ (hch d))⟩
  ·omega
  ·constructor
   ·rintro⟨h1,h2⟩;exact⟨h1,.step hyr hu h2⟩
   ·rintro⟨h1,h2⟩
    refine⟨h1,?_⟩
    cases h2 with
    | refl _=>exact absurd rfl (away hlt' h1)
    | step _ hu' k=>rw[hu]at hu';cases hu';exact k
end
end Go.Am
namespace Go.Am
open Go Go.Proofs
def B8 (L:LSq) (v:D) (l:List Nat):Prop:=(v=.nil/\l=[])\/v=.sl (bb l)\/∃m,v=.ms m 0 l.length/\(m,.arr 1 (bb l))∈L
def LR (L:LSq) (v:D) (E:List (List Nat)):Prop:=v=.sl (E.map fun l=>.sl (bb l))\/∃(n:Nat) (els:List D),v=.ms n 0 E.length/\(n,.arr 1 els)∈L/\els.length=E.length/\∀(b:Nat) (e:D) (l:List Nat),els[b]?=some e->E[b]?=some l->e.one=true/\B8 L e l
section
variable {h:Heap}{L L':LSq}{v:D}{l:List Nat}{E:List (List Nat)}{K:D->Prop}{KH:HKq}
theorem B8.mono (hs:∀x∈L,x∈L') (w:B8 L v l):B8 L' v l:=by
 rcases w with w|w|⟨m,e,hm⟩
 ·exact Or.inl w
 ·exact Or.inr (Or.inl w)
 ·exact Or.inr (Or.inr ⟨m,e,hs _ hm⟩)
theorem LR.mono (hs:∀x∈L,x∈L') (w:LR L v E):LR L' v E:=by
 rcases w with w|⟨n,els,e,hn,hl,hk⟩
 ·exact Or.inl w
 ·exact Or.inr ⟨n,els,e,hs _ hn,hl,fun b e l h1 h2=>⟨(hk b e l h1 h2).1,(hk b e l h1 h2).2.mono hs⟩⟩
theorem Vs.mem (V:Vs h L){n:Nat}{s:Slot}(hm:(n,s)∈L):h n=s:=by
 obtain⟨i,hi⟩:=aO hm
 exact V.get i n s hi
theorem B8.one (w:B8 L v l):v.one=true/\v.cells=[v]:=by
 rcases w with⟨rfl,-⟩|rfl|⟨m,rfl,-⟩<;>exact⟨rfl,rfl⟩
theorem B8.len (V:Vs h L) (w:B8 L v l):aR v h K=K (.int .i64 (l.length:Int)):=by
 rcases w with⟨rfl,rfl⟩|rfl|⟨m,rfl,hm⟩
 ·rfl
 ·exact Di
 ·obtain⟨i,hi⟩:=aO hm
  rw[bu,V.get i _ _ hi]
  apply propext
  exact⟨fun hh=>hh.2,fun hk=>⟨rfl,hk⟩⟩
theorem B8.get (V:Vs h L) (w:B8 L v l){i k:Nat}(hk:l[i]?=some k):aa PP (.iadd (.c v) (.c (.int .i64 (i:Int))) 1) h (fun a h1=>aa PP (.ld (.c a) 1 false) h1 KH)=KH (nD k) h:=by
 have hi:=(ah.1 hk).1
 rcases w with⟨rfl,rfl⟩|rfl|⟨m,rfl,hm⟩
 ·simp at hk
 ·rw[lD (esz:=1) (d:=nD k) (by omega) (by rw[aA];exact gd hk) rfl,uR rfl]
 ·obtain⟨j,hj⟩:=aO hm
  rw[V.ia j hj (by omega) (by omega),aA,V.xI j hj (gd hk) rfl]
theorem LR.len (V:Vs h L) (w:LR L v E):aR v h K=K (.int .i64 (E.length:Int)):=by
 rcases w with rfl|⟨n,els,rfl,hn,hl,-⟩
 ·rw[bX,aw]
 ·obtain⟨i,hi⟩:=aO hn
  rw[bu,V.get i _ _ hi]
  apply propext
  exact⟨fun hh=>hh.2,fun hk=>⟨rfl,hk⟩⟩
theorem LR.get (V:Vs h L) (w:LR L v E){b:Nat}{l:List Nat}(hb:E[b]?=some l) (hK:∀e,B8 L e l->KH e h):aa PP (.iadd (.c v) (.c (nD b)) 1) h fun a h1=>aa PP (.ld (.c a) 1 false) h1 KH:=by
 have hi:=(ah.1 hb).1
 rcases w with rfl|⟨n,els,rfl,hn,hl,hk⟩
 ·rw[nD,lD (esz:=1) (d:=.sl (bb l)) (by omega) (by rw[aA,List.getElem?_map,hb];rfl) rfl,uR rfl]
  exact hK _ (Or.inr (Or.inl rfl))
 ·obtain⟨j,hj⟩:=aO hn
  obtain⟨e,he⟩:∃e,els[b]?=some e:=⟨els[b]'(by omega),aC _⟩
  obtain⟨h1,h2⟩:=hk b e l he hb
  rw[nD,V.ia j hj (by omega) (by omega),aA,V.xI j hj he h1]
  exact hK e h2
end
structure Ks (E:List (List Nat)) (r:Nat) (O:List Nat) (at':List Int) (B:List (List Nat)):Prop where
 nd:O.Nodup
 hd:O[0]?=some r
 lt:∀x∈O,x<E.length
 tq:at'.length=E.length
 aat:∀(i x:Nat),O[i]?=some x->at'[x]?=some (i:Int)
 ano:∀x,x<E.length->x∉O->at'[x]?=some (-1)
 par:∀(i b:Nat),O[i]?=some b->i≠0->∃j p,j<i/\O[j]?=some p/\b∈(E[p]?).getD []
 cl:∀p b,p∈O->b∈(E[p]?).getD []->b∈O
 blen:B.length=E.length
 bmem:∀b p,p∈(B[b]?).getD []↔p∈O/\b∈(E[p]?).getD []
def uo (O:List Nat) (x:Nat):Nat:=O.idxOf x
theorem x7 {O:List Nat}{x:Nat}(h:x∈O):O[uo O x]?=some x:=by
 rw[ah]
 exact⟨List.idxOf_lt_length_of_mem h,List.getElem_idxOf _⟩
theorem wW {O:List Nat}(nd:O.Nodup){i x:Nat}(h:O[i]?=some x):uo O x=i:=by
 have hx:=x7 (ak h)
 have hi:=(ah.1 h).1
 exact((List.getElem?_inj hi nd).1 (h.trans hx.symm)).symm
section
variable {E:List (List Nat)}{r:Nat}{O:List Nat}{at':List Int}{B:List (List Nat)}
def preB (B:List (List Nat)) (b:Nat):List Nat:=(B[b]?).getD []
theorem Ks.dg (G:Ks E r O at' B):Dg r (preB B) (uo O) (· ∈ O):=by
 refine⟨ak G.hd,wW G.nd G.hd,fun a b ha hb e=>?_,fun p b hp=>((G.bmem b p).1 hp).1,fun b hb hbr=>?_⟩
 ·have h1:=x7 ha
  have h2:=x7 hb
  rw[e,h2]at h1
  cases h1;rfl
 ·have hg:=x7 hb
  have h0:uo O b≠0:=fun e=>by rw[e,G.hd]at hg;cases hg;exact hbr rfl
  obtain⟨j,p,hj,hp,hbe⟩:=G.par _ b hg h0
  exact⟨p,(G.bmem b p).2 ⟨ak hp,hbe⟩,by rw[wW G.nd hp];exact hj⟩
theorem Ks.at (G:Ks E r O at' B){x:Nat}(hx:x∈O):at'[x]?=some (uo O x:Int):=G.aat _ x (x7 hx)
def CF (O:List Nat) (U:List Int) (n:Nat):Nat:=(O.map fun x=>match upF U x with|some y=>uo O y|none=>n+1).sum
theorem Mq {α:Type}{f g:α->Nat}:∀{l:List α},(∀x∈l,g x<=f x)->(l.map g).sum<=(l.map f).sum
 | [],_=>Nat.le_refl _
 | a::l,h=>by
  have h1:=h a (by simp)
  have h2:=Mq (f:=f) (g:=g) (l:=l) fun x hx=>h x (by simp[hx])
  simp only[List.map_cons,List.sum_cons];omega
theorem Mp {α:Type}{f g:α->Nat}:∀{l:List α},(∀x∈l,g x<=f x)->(∃x,x∈l/\g x<f x)->(l.map g).sum<(l.map f).sum
 | [],_,⟨x,hx,_⟩=>by cases hx
 | a::l,h,⟨x,hx,hlt⟩=>by
  have h1:=h a (by simp)
  have h2:=Mq (f:=f) (g:=g) (l:=l) fun x hx=>h x (by simp[hx])
  simp only[List.map_cons,List.sum_cons]
  rcases List.mem_cons.1 hx with rfl|hx
  ·omega
  ·have:=Mp (f:=f) (g:=g) (l:=l) (fun x hx=>h x (by simp[hx])) ⟨x,hx,hlt⟩
   omega
end
end Go.Am
namespace Go.Am
open Go Go.Proofs
section
variable {E:List (List Nat)}{r:Nat}{O:List Nat}{at':List Int}{B:List (List Nat)}
def LY (r:Nat) (O:List Nat) (up:Nat->Option Nat) (l:List Nat) (d:D):Prop:=(d=.int .i64 (-1)/\∀p∈l,up p=none)\/∃m,d=nD m/\m∈O/\up m≠none/\∀d,Ch r up m d ↔ ∀p∈l,up p≠none->Ch r up p d
theorem LY.none {up:Nat->Option Nat}{l:List Nat}{d:D}(s:LY r O up l d){p:Nat}(hp:up p=none):LY r O up (l++[p]) d:=by
 rcases s with⟨e,h⟩|⟨m,e,h1,h2,h3⟩
 ·exact Or.inl ⟨e,fun q hq=>by rcases List.mem_append.1 hq with hq|hq;exact h q hq;simp at hq;subst hq;exact hp⟩
 ·refine Or.inr ⟨m,e,h1,h2,fun d=>(h3 d).trans ⟨fun h q hq hu=>?_,fun h q hq hu=>h q (by simp[hq]) hu⟩⟩
  rcases List.mem_append.1 hq with hq|hq
  ·exact h q hq hu
  ·simp at hq;subst hq;exact absurd hp hu
theorem LY.first {up:Nat->Option Nat}{l:List Nat}(h:∀p∈l,up p=Option.none){p:Nat}(hp:up p≠Option.none) (hO:p∈O):LY r O up (l++[p]) (nD p):=by
 refine Or.inr ⟨p,rfl,hO,hp,fun d=>⟨fun hd q hq hu=>?_,fun hd=>hd p (by simp) hp⟩⟩
 rcases List.mem_append.1 hq with hq|hq
 ·exact absurd (h q hq) hu
 ·simp at hq;subst hq;exact hd
theorem LY.meet {up:Nat->Option Nat}{l:List Nat}{m:Nat}(h3:∀d,Ch r up m d ↔ ∀p∈l,up p≠Option.none->Ch r up p d){p:Nat}(hp:up p≠Option.none){k:Nat}(hO:k∈O) (hk:up k≠Option.none) (hm:∀d,Ch r up k d↔Ch r up m d/\Ch r up p d):LY r O up (l++[p]) (nD k):=by
 refine Or.inr ⟨k,rfl,hO,hk,fun d=>(hm d).trans ⟨fun hd q hq hu=>?_,fun hd=>⟨(h3 d).2 fun q hq hu=>hd q (by simp[hq]) hu,hd p (by simp) hp⟩⟩⟩
 rcases List.mem_append.1 hq with hq|hq
 ·exact(h3 d).1 hd.1 q hq hu
 ·simp at hq;subst hq;exact hd.2
structure Uv (M:LSq) (r:Nat) (O:List Nat) (B:List (List Nat)) (nU n:Nat) (U:List Int) (k:Nat) (h:Heap):Prop where
 vs:Vs h ((nU,.arr 1 (fP U))::M)
 len:U.length=n
 ph:LU r (preB B) (uo O) (· ∈ O) (upF U) k
def Wq (r:Nat) (B:List (List Nat)) (up:Nat->Option Nat) (v:Nat):Prop:=∀y,up v=some y->∀d,(∀p,p∈preB B v->up p≠none->Ch r up p d)↔Ch r up y d
variable {M:LSq}{v vB:D}{ng nO nA nU n k ig iO iA:Nat}{U:List Int}{h:Heap}
theorem SI (G:Ks E r O at' B) (hg:M[ig]?=some (ng,J4 v nO O.length nA n)) (hA:M[iA]?=some (nA,.arr 1 (fP at'))) (hn:n<=1000) (hE:E.length=n) (I:Uv M r O B nU n U k h)
  {b:Nat}(e:D) {l:List Nat}(hB:B[b]?=some l) (we':B8 ((nU,.arr 1 (fP U))::M) e l) (hl:l.length<=1000000) {f:Nat->D}{a1 a2 a3:D}{J:HJq}(hJ:∀d,LY r O (upF U) l d->J [d] h) :
  iN h (.int .i64 (l.length:Int)) (.ptr ng 0 0) (.ms nU 0 n) a1 (nD b) a2 a3 f e J:=by
 have V:=I.vs
 have hpl:∀p∈l,p∈O:=fun p hp=>((G.bmem b p).1 (by rw[hB];exact hp)).1
 unfold iN
 refine⟨fun m q h'=>h'=h/\∃(i:Nat) (d:D),q=[d,nD i]/\i<=l.length/\m=l.length-i/\LY r O (upF U) (l.take i) d,_,⟨rfl,0,_,rfl,by omega,rfl,Or.inl ⟨rfl,by simp⟩⟩,?_⟩
 rintro m f h' ⟨e1,i,d,hq,hi,hm,hs⟩
 subst e1
 simp only[aq,and_true]at hq
 obtain⟨q1,q2⟩:=hq
 simp only[q1,q2,nD]
 by_cases hlt:i<l.length
 ·rw[jZ (by omega),ag]
  obtain⟨p,hp⟩:∃p,l[i]?=some p:=⟨l[i],aC hlt⟩
  have hpO:=hpl p (ak hp)
  have htk:l.take (i+1)=l.take i++[p]:=by rw[List.take_add_one,hp];rfl
  refine⟨fun q h''=>h''=h'/\∃d,q=[d]/\LY r O (upF U) (l.take (i+1)) d,?_,?_⟩
  ·rintro f' h'' ⟨e2,d',hq',hs'⟩
   subst e2
   simp only[aq,and_true]at hq'
   simp only[hq']
   rw[cU (by omega) (by omega)]
   simp only[ab,true_and]
   exact⟨_,by omega,i+1,d',rfl,by omega,rfl,hs'⟩
  rw[we'.get V hp]
  have hpn:p<n:=hE ▸ G.lt p hpO
  obtain⟨u,hu⟩:∃u,U[p]?=some u:=⟨U[p]'(by rw[I.len];exact hpn),aC _⟩
  rw[nD,V.ia 0 rfl (by omega) (by omega),aA,V.xI 0 rfl (kP hu) rfl]
  by_cases hu0:u<0
  ·rw[jZ hu0,ag]
   simp only[ab,true_and]
   exact⟨d,rfl,by rw[htk];exact hs.none ((GP hu).2 hu0)⟩
  ·have hup:upF U p≠none:=fun hh=>hu0 ((GP hu).1 hh)
   rw[jX (by omega),af]
   rcases hs with⟨rfl,hs⟩|⟨m,rfl,h1,h2,h3⟩
   ·rw[jZ (by omega),ag]
    simp only[ab,true_and]
    exact⟨_,rfl,by rw[htk];exact LY.first hs hup hpO⟩
   ·rw[nD,jX (by omega),af]
    refine SG (L:=(nU,.arr 1 (fP U))::M) (at':=at') (U:=U) V (ig:=ig+1) (iA:=iA+1) (iU:=0) (by simpa using hg) (by simpa using hA) rfl I.len (by rw[G.tq,hE]) hn I.ph.tr G.dg.zero G.dg.inj (fun x hx=>G.at hx) h2 hup h1 hpO fun k' hk1 hk2 hk3=>?_
    simp only[ab,true_and]
    exact⟨_,rfl,by rw[htk];exact LY.meet h3 hup hk2 hk1 hk3⟩
 ·have:i=l.length:=by omega
  subst this
  rw[jX (by omega),af]
  simp only[ab,true_and]
  exact hJ d (by rwa [List.take_length]at hs)
end
end Go.Am
namespace Go.Am
open Go Go.Proofs
section
variable {E:List (List Nat)}{r:Nat}{O:List Nat}{at':List Int}{B:List (List Nat)}
variable {M:LSq}{v vB:D}{ng nO nA nU n k ig iO iA:Nat}{U:List Int}{h:Heap}
theorem Vs.Wj {P:Program}{KH:HKq}{L:LSq}(V:Vs h L) (i:Nat){m off l esz:Nat}{els:List D}{a:Int}(hi:L[i]?=some (m,.arr esz els)) (h0:0<=a) (h1:a<l):aa P (.iadd (.c (.ms m off l)) (.c (.int .i64 a)) esz) h KH=KH (.ptr m (off+a.toNat) 0) h:=by
 rw[mP]
 apply propext
 constructor
 ·exact fun hh=>hh.2.2.2
 ·exact fun hk=>⟨h0,h1,⟨els,by rw[V.get i _ _ hi];rfl⟩,hk⟩
theorem Oy (hO:∀x∈O,x<n) (hU:U.length=n){b m:Nat}(hb:b∈O) (hm:uo O m<=n) (hlt:∀y,upF U b=some y->uo O m<uo O y):CF O (U.set b (m:Int)) n<CF O U n:=by
 have hbl:b<U.length:=by rw[hU];exact hO b hb
 refine Mp (fun x hx=>?_) ⟨b,hb,?_⟩
 ·rw[Cn hbl]
  by_cases e:x=b
  ·subst e
   rw[bT]
   cases hy:upF U x with
   | none=>simp only;omega
   | some y=>have:=hlt y hy;simp only;omega
  ·rw[dh e];exact Nat.le_refl _
 ·rw[Cn hbl,bT]
  cases hy:upF U b with
  | none=>simp only;omega
  | some y=>exact hlt y hy
theorem Oj (G:Ks E r O at' B) (wB:LR M vB B) (hg:M[ig]?=some (ng,J4 v nO O.length nA n)) (hO:M[iO]?=some (nO,.arr 1 (bb O))) (hA:M[iA]?=some (nA,.arr 1 (fP at'))) (hn:n<=1000) (hE:E.length=n) (hBl:∀(b:Nat) (l:List Nat),B[b]?=some l->l.length<=1000000) (I:Uv M r O B nU n U k h)
  {I2:Nat->HJq}{J:HJq}
  (hI:∀(U':List Int) (k':Nat) (h':Heap),Uv M r O B nU n U' k' h'->CF O U' n<CF O U n->∃m,I2 m [.ms nU 0 n,vB] h')
  (hJ:(∀x d,x∈O->(Ch r (upF U) x d↔Dm r (preB B) d x))->(∀x∈O,upF U x≠none)->J [] h) :
  fN h (nD (O.length-1)) (.ms nO 1 (O.length-1)) (.ms nU 0 n) (.ptr ng 0 0) I2 vB J:=by
 have V:=I.vs
 have D:=G.dg
 have hol:O.length<=n:=by
  have:O.length<=(List.range n).length:=G.nd.length_le_of_subset (fun x hx=>List.mem_range.2 (hE ▸ G.lt x hx))
  simpa using this
 have ho0:0<O.length:=(ah.1 G.hd).1
 have plo:∀{x},x∈O->uo O x<O.length:=fun hx=>List.idxOf_lt_length_of_mem hx
 unfold fN
 refine⟨fun m q h'=>h'=h/\∃i:Nat,q=[nD i]/\i<=O.length-1/\m=O.length-1-i/\∀x∈O,uo O x<=i->upF U x≠none/\(x≠r->Wq r B (upF U) x),_,⟨rfl,0,rfl,by omega,rfl,fun x hx hi=>?_⟩,?_⟩
 ·have:x=r:=D.inj x r hx D.root (by rw[D.zero];omega)
  subst this
  exact⟨by rw[I.ph.tr.rt];simp,fun h=>absurd rfl h⟩
 rintro m f h' ⟨e1,i,hq,hi,hm,hs⟩
 subst e1
 simp only[aq,and_true]at hq
 simp only[hq,nD]
 by_cases hlt:i<O.length-1
 ·rw[jZ (by omega),ag]
  obtain⟨b,hb⟩:∃b,O[1+i]?=some b:=⟨O[1+i]'(by omega),aC _⟩
  have hbO:b∈O:=ak hb
  have hpb:uo O b=1+i:=wW G.nd hb
  have hbn:b<n:=hE ▸ G.lt b hbO
  have hbr:b≠r:=fun e=>by rw[e,D.zero]at hpb;omega
  rw[V.Wj (iO+1) (by simpa using hO) (by omega) (by omega),aA,V.xI (iO+1) (by simpa using hO) (gd hb) rfl]
  obtain⟨l,hl⟩:∃l,B[b]?=some l:=⟨B[b]'(by rw[G.blen,hE];exact hbn),aC _⟩
  obtain⟨w,hw⟩:∃w,U[b]?=some w:=⟨U[b]'(by rw[I.len];exact hbn),aC _⟩
  refine⟨fun q h''=>h''=h'/\∃d,q=[d]/\LY r O (upF U) l d,?_,?_⟩
  ·rintro f' h'' ⟨e2,d,hq',hs'⟩
   subst e2
   simp only[aq,and_true]at hq'
   simp only[hq']
   have hk:uo O b<=uo O k+1:=by
    obtain⟨x,hx⟩:∃x,O[i]?=some x:=⟨O[i]'(by omega),aC _⟩
    have hxO:=ak hx
    have hpx:=wW G.nd hx
    have:=(I.ph.pk x hxO).1 (hs x hxO (by omega)).1
    omega
   obtain⟨p,hp,hup,-⟩:=I.ph.some D hbO hbr hk
   have hpl:p∈l:=by simpa[preB,hl] using hp
   rcases hs' with⟨-,h0⟩|⟨m',rfl,h1,h2,h3⟩
   ·exact absurd (h0 p hpl) hup
   have BS:UL r (preB B) (upF U) b m':=⟨h2,fun d=>by rw[h3 d];simp only[preB,hl,Option.getD_some]⟩
   rw[nD,V.ia 0 rfl (by omega) (by omega),aA,V.xI 0 rfl (kP hw) rfl]
   by_cases he:(m':Int)=w
   ·rw[nD,U8 he,af,cU (by omega) (by omega)]
    simp only[ab,true_and]
    refine⟨_,by omega,i+1,rfl,by omega,rfl,fun x hx hxi=>?_⟩
    by_cases e:uo O x<=i
    ·exact hs x hx e
    ·have:x=b:=D.inj x b hx hbO (by omega)
     subst this
     have hux:upF U x=some m':=by
      unfold upF;rw[hw, <- he];simp
     refine⟨by rw[hux];simp,fun _ y hy d=>?_⟩
     rw[hux]at hy;cases hy
     exact(BS.iff d).symm
   ·rw[nD,U7 he,ag,V.ia 0 rfl (by omega) (by omega),aA]
    have hbl:b<U.length:=by rw[I.len];exact hbn
    refine V.uK 0 rfl (by rw[mq];exact hbl) rfl FT fun h2' V2=>?_
    simp only[List.set_cons_zero,FR]at V2
    simp only[ab,true_and]
    have hm'n:uo O m'<=n:=by have:=plo h1;omega
    refine hI (U.set b (m':Int)) (if upF U b=none then b else k) h2' ⟨V2,by rw[List.length_set];exact I.len,?_⟩ (Oy (fun x hx=>hE ▸ G.lt x hx) I.len hbO hm'n fun y hy=>?_)
    ·rw[Cn hbl]
     by_cases hnn:upF U b=none
     ·rw[if_pos hnn]
      have hpk:uo O k<=i:=by
       have:¬uo O b<=uo O k:=fun hh=>absurd hnn ((I.ph.pk b hbO).2 hh)
       omega
      refine OH D I.ph (fun x y hx hy=>?_) hbO hnn (by omega) BS
      have hxO:=(I.ph.tr.nd x y hy).1
      have hxk:=(I.ph.pk x hxO).1 (by rw[hy];simp)
      exact(hs x hxO (by omega)).2 hx y hy
     ·rw[if_neg hnn]
      cases ho:upF U b with
      | none=>exact absurd ho hnn
      | some o =>
       refine(Mk D I.ph hbO hbr ho BS fun e=>he ?_).1
       have:=pf ho
       rw[hw]at this;cases this
       rw[e]
    ·refine(Mk D I.ph hbO hbr hy BS fun e=>he ?_).2
     have:=pf hy
     rw[hw]at this;cases this
     rw[e]
  ·have wB':=wB.mono (L':=(nU,.arr 1 (fP U))::M) fun x hx=>List.mem_cons_of_mem _ hx
   refine LR.get V wB' hl fun e we=>?_
   rw[we.len V]
   exact SI G hg hA hn hE I e hl we (hBl b l hl) fun d hd=>⟨rfl,d,rfl,hd⟩
 ·have:i=O.length-1:=by omega
  subst this
  rw[jX (by omega),af]
  simp only[ab,true_and]
  have hall:∀x∈O,upF U x≠none:=fun x hx=>(hs x hx (by have:=plo hx;omega)).1
  exact hJ (fun x d hx=>OY I.ph hall D.src (fun y z hy hz=>(hs y (I.ph.tr.nd y z hz).1 (by have:=plo (I.ph.tr.nd y z hz).1;omega)).2 hy z hz) hx d) hall
end
end Go.Am
namespace Go.Am
open Go Go.Proofs
theorem Nb (a:Nat) (ha:a<18446744073709551616):ibits .and .u64 (a:Int) 4294967295=((a % 4294967296:Nat):Int):=by
 rw[show ibits .and .u64 (a:Int) 4294967295=((a &&& 4294967295:Nat):Int) from RQ a 4294967295 ha (by decide)]
 rw[show a &&& 4294967295=a % 4294967296 from Nat.and_two_pow_sub_one_eq_mod a 32]
theorem Tc (a:Nat):G6 .u64 (a:Int) 32=((a / 4294967296:Nat):Int):=RN a 32 (by decide)
theorem PX (a b:Nat) (ha:a<32768) (hb:b<32768):aY PP jv [.int .u64 (a:Int),.int .u64 (b:Int)] (· = .tup [.int .u64 0,.int .u64 ((a*b:Nat):Int)]):=by
 refine bx ud (aJ _ _ _) rfl (tG _ _ _) ?_
 unfold oi
 have hab:a*b<1073741824:=by
  have:=Nat.mul_lt_mul'' ha hb
  omega
 have ma:ibits .and .u64 (a:Int) 4294967295=(a:Int):=by rw[Nb a (by omega),Nat.mod_eq_of_lt (by omega)]
 have mb:ibits .and .u64 (b:Int) 4294967295=(b:Int):=by rw[Nb b (by omega),Nat.mod_eq_of_lt (by omega)]
 have s1:∀x:Nat,x<4294967296->G6 .u64 (x:Int) 32=0:=by
  intro x hx
  rw[Tc,Nat.div_eq_of_lt hx];rfl
 have sa:=s1 a (by omega)
 have sb:=s1 b (by omega)
 have hp:IntKind.u64.wrap ((a:Int)*(b:Int))=((a*b:Nat):Int):=by
  rw[show((a:Int)*(b:Int))=((a*b:Nat):Int) by simp,L7,Nat.mod_eq_of_lt (by omega)]
 have sp:=s1 (a*b) (by omega)
 have w0:IntKind.u64.wrap 0=0:=by decide
 have m0:ibits .and .u64 0 4294967295=0:=by decide
 have s0:G6 .u64 0 32=0:=by decide
 have n32:(0:Int)<=32:=by omega
 simp only[↓Qu,↓Qs,↓ES,↓eK,ma,mb,sa,sb,n32,true_and,hp,Int.zero_mul,Int.mul_zero,w0,sp,Int.add_zero,m0,s0]
 refine GF (fun d hd=>?_) rfl
 simp only[List.mem_cons,List.not_mem_nil,or_false]at hd
 rcases hd with rfl|rfl<;>exact aW.pair
theorem Uf (a b:Nat) (ha:a<32768) (hb:b<32768):aY PP lE [.int .u64 (a:Int),.int .u64 (b:Int)] (· = .tup [.int .u64 0,.int .u64 ((a*b:Nat):Int)]):=by
 refine bx xC (aJ _ _ _) rfl (xu _ _ _) ?_
 unfold re
 rw[af]
 refine bO (PX a b ha hb) (by simp[↓VC]) ?_
 rintro r rfl
 simp only[h_ext]
 exact GF (by simp[↓VC]) rfl
theorem TL {P:Program}{m off len esz:Nat}{x:D}{h:Heap}{KH:HKq}:aa P (.Fi (.c (.ms m off len)) (.c x) esz) h KH=velems esz x h fun ys=>(∀y∈ys,aN y)/\∃els,h m=.arr esz els/\off+len<=els.length /\
    KH (.int .i64 (min ys.length len:Nat)) (aD h m (.arr esz (els.take off++ys.take len++els.drop (off+min ys.length len)))):=rfl
theorem MM {d:D}{els:List D}{n c:Nat}(hl:els.length=c) (hn:n<=c) (ht:els.take n=List.replicate n d) :
  (els.take n++(els.take n).take (c-n)++els.drop (n+min n (c-n))).take (n+min n (c-n))=List.replicate (n+min n (c-n)) d /\
   (els.take n++(els.take n).take (c-n)++els.drop (n+min n (c-n))).length=c:=by
 have e1:els.take n++(els.take n).take (c-n)=List.replicate (n+min n (c-n)) d:=by
  rw[ht,List.take_replicate, <- List.replicate_append_replicate]
  congr 2;omega
 rw[e1]
 constructor
 ·rw[List.take_append_of_le_length (by simp),List.take_of_length_le (by simp)]
 ·simp;omega
theorem Vs.Fi {h:Heap}{L:LSq}{KH:HKq}{m off len:Nat}{x:D}{els ys:List D}(V:Vs h ((m,.arr 1 els)::L)) (hx:∀{K:List D->Prop},K ys->velems 1 x h K) (h1:∀y∈ys,aN y) (hl:off+len<=els.length)
  (hK:∀h',Vs h' ((m,.arr 1 (els.take off++ys.take len++els.drop (off+min ys.length len)))::L)->KH (.int .i64 (min ys.length len:Nat)) h'):aa PP (.Fi (.c (.ms m off len)) (.c x) 1) h KH:=by
 rw[TL]
 refine hx ⟨h1,els,V.get 0 _ _ rfl,hl,?_⟩
 have:=V.cc 0 rfl (s':=.arr 1 (els.take off++ys.take len++els.drop (off+min ys.length len))) (by simp)
 exact hK _ this
theorem zC {h:Heap}{m off len:Nat}{els:List D}{K:List D->Prop}(hm:h m=.arr 1 els) (hl:off+len<=els.length) (hK:K ((els.drop off).take len)):velems 1 (.ms m off len) h K:=⟨els,by rw[hm];rfl,hl,hK⟩
theorem H8 {h:Heap}{L:LSq}{KH:HKq}(V:Vs h L){n:Nat}(hn1:1<=n) (hn:n<=30000){k:Int}{d:D}(hd:d=.sl [.int .i64 k]\/∃(m i:Nat),d=.ms m 0 1/\L[i]?=some (m,Slot.arr 1 [.int .i64 k]))
  (hK:∀m h',Vs h' ((m,.arr 1 (fP (List.replicate n k)))::L)->KH (.ms m 0 n) h'):ai PP cJ [d,nD n] h KH:=by
 refine aT mC (aJ _ _ _) rfl (my _ _ _) ?_
 unfold iq
 have ln:∀{K:D->Prop},aR d h K=K (.int .i64 ((1:Nat):Int)):=by
  intro K
  rcases hd with rfl|⟨m,i,rfl,hi⟩
  ·rfl
  ·rw[bu,V.get i _ _ hi]
   apply propext
   exact⟨fun hh=>hh.2,fun hk=>⟨rfl,hk⟩⟩
 refine⟨fun _ h'=>h'=h,?_,?_⟩
 ·rintro _ h5 rfl
  rw[ln,oW,nD,oW]
  have w1:IntKind.u64.wrap ((1:Nat):Int)=((1:Nat):Int):=by rw[L7]
  have wc:IntKind.u64.wrap (n:Int)=(n:Int):=by rw[L7,Nat.mod_eq_of_lt (by omega)]
  rw[w1,wc]
  refine bO (Uf 1 n (by omega) (by omega)) (by simp[↓VC]) ?_
  rintro r rfl
  simp only[h_ext,List.getElem?_cons_zero,List.getElem?_cons_succ]
  refine⟨fun _ h'=>h'=h5,?_,?_⟩
  ·rintro _ h6 rfl
   rw[oW,Nat.one_mul,wrap64 (by omega) (by omega)]
   refine V.JS (by omega) (by omega) fun m h7 V1=>?_
   refine V1.Fi (ys:=[.int .i64 k]) (fun {K} hk=>?_) (fun y hy=>by simp at hy;subst hy;exact aW.one) (by simp) fun h8 V2=>?_
   ·rcases hd with rfl|⟨m',i,rfl,hi⟩
    ·exact⟨fun e he=>by simp at he;subst he;rfl,hk⟩
    ·exact zC (els:=[.int .i64 k]) (V1.get (i+1) _ _ (by simpa using hi)) (by simp) hk
   refine⟨fun _ h'=>Vs h' ((m,.arr 1 (fP (List.replicate n k)))::L),fun _ h9 V3=>hK m h9 V3,?_⟩
   unfold gg
   refine⟨fun q l h'=>∃(j:Nat) (els:List D),l=[.int .i64 (j:Int)]/\q=n-j/\1<=j/\j<=n/\Vs h' ((m,.arr 1 els)::L)/\els.length=n/\els.take j=List.replicate j (.int .i64 k),_,⟨1,_,?_,rfl,by omega,hn1,V2,?_,?_⟩,?_⟩
   ·simp only[List.length_singleton];congr 3;omega
   ·simp;omega
   ·cases n with
    | zero=>omega
    | succ n=>simp
   rintro q f h9 ⟨j,els,hf,hq,hj1,hjn,V3,hl,ht⟩
   simp only[aq,and_true]at hf
   simp only[hf]
   rw[bu,V3.get 0 _ _ rfl]
   refine⟨rfl,?_⟩
   by_cases hlt:j<n
   ·rw[jZ (by omega),ag]
    simp only[QM,FX]
    simp only[vopt,vint,Arg.get]
    have row:∃els',(h9 m).row=some (1,els'):=⟨els,by rw[V3.get 0 _ _ rfl];rfl⟩
    refine⟨by omega,by omega,by omega,by omega,row,by omega,by omega,by omega,by omega,row,?_⟩
    have e1:0+(j:Int).toNat=j:=by omega
    have e2:((n:Int)-(j:Int)).toNat=n-j:=by omega
    have e4:((j:Int)-((0:Nat):Int)).toNat=j:=by omega
    simp only[e1,e2,e4]
    refine V3.Fi (ys:=els.take j) (fun {K} hk=>zC (V3.get 0 _ _ rfl) (by simp;omega) (by simpa using hk)) (fun y hy=>by rw[ht]at hy;obtain⟨-,rfl⟩:=List.mem_replicate.1 hy;exact aW.one) (by omega) fun h10 V4=>?_
    have hel:(els.take j).length=j:=by simp;omega
    simp only[hel]at V4 ⊢
    rw[cU (by omega) (by omega)]
    simp only[ab,true_and]
    have rs:=MM hl hjn ht
    exact⟨_,by omega,j+min j (n-j),_,by congr 2,rfl,by omega,by omega,V4,rs.2,rs.1⟩
   ·rw[jX (by omega),af]
    simp only[ab,true_and]
    have:j=n:=by omega
    subst this
    rw[List.take_of_length_le (by omega)]at ht
    rw[ht]at V3
    simpa[fP] using V3
  ·rw[UG (by omega),jl]
   refine⟨fun _=>?_,fun h0=>absurd rfl h0⟩
   dsimp only
   rw[jl]
   refine⟨fun _=>?_,fun h0=>absurd rfl h0⟩
   rw[UG (by omega)]
   dsimp only
   rw[cq]
   simp only[aE,if_false]
   rw[af]
   simp only[ab,true_and]
 ·rw[nD,jX (by omega),af]
  simp only[ab,true_and]
end Go.Am
namespace Go.Am
open Go Go.Proofs
theorem Vs.sub {h:Heap}{L L':LSq}(s:L'.Sublist L) (V:Vs h L):Vs h L':=by
 rw[Vs.iff]at V ⊢
 exact⟨fun n t hm=>V.1 n t (s.subset hm),V.2.sublist (s.map _)⟩
structure RR (Bs:List (List Nat)) (els:List D) (W:LSq) (nm:Nat->Nat):Prop where
 len:els.length=Bs.length
 el:∀(b:Nat) (l:List Nat),Bs[b]?=some l->(l=[]/\els[b]?=some .nil)\/(l≠[]/\els[b]?=some (.ms (nm b) 0 l.length)/\(nm b,.arr 1 (bb l))∈W)
 inj:∀(b b':Nat) (l l':List Nat),Bs[b]?=some l->Bs[b']?=some l'->l≠[]->l'≠[]->nm b=nm b'->b=b'
def gJ (h:Heap) (L:LSq) (v:D) (Bs:List (List Nat)):Prop:=∃(nB:Nat) (els:List D) (W:LSq) (nm:Nat->Nat),v=.ms nB 0 Bs.length/\Vs h ((nB,.arr 1 els)::(W++L))/\RR Bs els W nm
section
variable {h:Heap}{L:LSq}{v:D}{Bs:List (List Nat)}{KH:HKq}{K:D->Prop}
theorem gJ.vs (q:gJ h L v Bs):Vs h L:=by
 obtain⟨nB,els,W,nm,-,V,-⟩:=q
 exact V.pop.H0
theorem RR.one {els:List D}{W:LSq}{nm:Nat->Nat}(R:RR Bs els W nm):∀x∈els,x.one=true:=by
 intro x hx
 obtain⟨b,hb⟩:=aO hx
 have hbl:=(ah.1 hb).1
 obtain⟨l,hl⟩:∃l,Bs[b]?=some l:=⟨Bs[b]'(by rw[<- R.len];exact hbl),aC _⟩
 rcases R.el b l hl with⟨-,h⟩|⟨-,h,-⟩<;>(rw[hb]at h;cases h;rfl)
theorem gJ.lr (q:gJ h L v Bs):∃X,Vs h (X++L)/\LR X v Bs:=by
 obtain⟨nB,els,W,nm,rfl,V,R⟩:=q
 refine⟨(nB,.arr 1 els)::W,V,Or.inr ⟨nB,els,rfl,by simp,R.len,fun b e l he hl=>?_⟩⟩
 refine⟨R.one e (ak he),?_⟩
 rcases R.el b l hl with⟨h1,h2⟩|⟨-,h2,h3⟩
 ·rw[he]at h2;cases h2;exact Or.inl ⟨rfl,h1⟩
 ·rw[he]at h2;cases h2;exact Or.inr (Or.inr ⟨_,rfl,by simp[h3]⟩)
theorem gJ.Va {n nB:Nat}(V:Vs h ((nB,.arr 1 (List.replicate n .nil))::L)):gJ h L (.ms nB 0 n) (List.replicate n []):=by
 refine⟨nB,_,[],id,by simp,V,by simp,fun b l hl=>Or.inl ?_,fun b b' l l' hb _ h=>?_⟩
 ·rw[List.getElem?_replicate]at hl ⊢
  split at hl
  ·rename_i hb;cases hl;exact⟨rfl,by simp[hb]⟩
  ·cases hl
 ·rw[List.getElem?_replicate]at hb
  split at hb
  ·cases hb;exact absurd rfl h
  ·cases hb
theorem gJ.len (q:gJ h L v Bs):aR v h K=K (.int .i64 (Bs.length:Int)):=by
 obtain⟨nB,els,W,nm,rfl,V,R⟩:=q
 rw[bu,V.get 0 _ _ rfl]
 apply propext
 exact⟨fun hh=>hh.2,fun hk=>⟨rfl,hk⟩⟩
theorem gJ.app (q:gJ h L v Bs){b x:Nat}{l:List Nat}(hb:Bs[b]?=some l) (hl:l.length<=10000000){z z':D}(hK:∀h',gJ h' L v (Bs.set b (l++[x]))->KH .undef h') :
  aa PP (.iadd (.c v) (.c (nD b)) 1) h fun a h1=>aa PP (.ld (.c a) 1 false) h1 fun e h2=>aa PP (.bldS true 1 1 z [(0,.c (nD x))]) h2 fun y h3=>aa PP (.app (.c e) (.c y) 1 8 z') h3 fun e' h4=>aa PP (.iadd (.c v) (.c (nD b)) 1) h4 fun a' h5=>aa PP (.st (.c a') (.c e') 1) h5 KH:=by
 obtain⟨nB,els,W,nm,rfl,V,R⟩:=q
 have hbl:=(ah.1 hb).1
 obtain⟨e,he⟩:∃e,els[b]?=some e:=⟨els[b]'(by rw[R.len];exact hbl),aC _⟩
 have hx:∃W0,QD h ((nB,.arr 1 els)::(W0++L)) e (bb l)/\(∀x∈W0,x∈W)/\∀(b':Nat) (l':List Nat),b'≠b->Bs[b']?=some l'->l'≠[]->(nm b',.arr 1 (bb l'))∈W0:=by
  rcases R.el b l hb with⟨h1,h2⟩|⟨h0,h2,h3⟩
  ·rw[he]at h2;cases h2;subst h1
   refine⟨W,Or.inl ⟨rfl,rfl,V⟩,fun _ h=>h,fun b' l' hne hb' hl'=>?_⟩
   rcases R.el b' l' hb' with⟨g1,-⟩|⟨-,-,g3⟩
   ·exact absurd g1 hl'
   ·exact g3
  ·rw[he]at h2;cases h2
   obtain⟨S,T,rfl⟩:=List.append_of_mem h3
   refine⟨S++T,Or.inr ⟨nm b,by rw[aZ],V.perm ?_⟩,fun x hx=>by
    rcases List.mem_append.1 hx with hx|hx
    ·exact List.mem_append_left _ hx
    ·exact List.mem_append_right _ (List.mem_cons_of_mem _ hx),fun b' l' hne hb' hl'=>?_⟩
   ·have:((nB,Slot.arr 1 els)::(S++(nm b,.arr 1 (bb l))::T++L)).Perm ((nm b,.arr 1 (bb l))::(nB,.arr 1 els)::(S++T++L)):=by
     refine(List.Perm.cons _ ?_).trans (.swap _ _ _)
     simp only[List.append_assoc,List.cons_append]
     exact List.perm_middle
    exact this
   ·rcases R.el b' l' hb' with⟨g1,-⟩|⟨-,-,g3⟩
    ·exact absurd g1 hl'
    ·have hnn:nm b'≠nm b:=fun e=>hne (R.inj b' b l' l hb' hb hl' h0 e)
     rcases List.mem_append.1 g3 with g|g
     ·exact List.mem_append_left _ g
     ·rcases List.mem_cons.1 g with g|g
      ·exact absurd (congrArg Prod.fst g) hnn
      ·exact List.mem_append_right _ g
 obtain⟨W0,Q,hW,hoth⟩:=hx
 have hone:=R.one
 have V0:=Q.vs
 rw[nD,V.ia 0 rfl (by omega) (by omega),aA,V.xI 0 rfl he (hone e (ak he))]
 refine Q.push aW rfl (by rw[aZ];omega) (by rw[aZ];omega) fun v' h' Q'=>?_
 rcases Q' with⟨-,h0,-⟩|⟨m,rfl,V'⟩
 ·simp at h0
 have hel:b<els.length:=by rw[R.len];exact hbl
 rw[V'.ia 1 rfl (by omega) (by omega),aA]
 refine V'.uK 1 rfl hel rfl hone fun h2 V2=>hK h2 ?_
 simp only[List.set_cons_succ,List.set_cons_zero]at V2
 have e2:bb l++[nD x]=bb (l++[x]):=by simp[bb]
 refine⟨nB,els.set b (.ms m 0 (bb l++[nD x]).length),(m,.arr 1 (bb (l++[x])))::W0,fun y=>if y=b then m else nm y,by simp,?_,?_⟩
 ·rw[e2]at V2
  exact V2.swap.perm (by simp[e2])
 ·have hmW:∀s,(m,s)∉W0:=by
   intro s hs
   have:=(Vs.iff.1 V').2
   simp only[List.map_cons,List.nodup_cons,List.map_append,List.mem_cons,List.mem_append,not_or]at this
   exact this.1.2.1 (List.mem_map.2 ⟨(m,s),hs,rfl⟩)
  refine⟨by simp[R.len],fun b' l' hb'=>?_,fun b1 b2 l1 l2 h1 h2 n1 n2 hnm=>?_⟩
  ·rw[List.getElem?_set]at hb' ⊢
   by_cases hbb:b=b'
   ·subst hbb
    simp only[if_true]at hb' ⊢
    rw[if_pos hbl]at hb';cases hb'
    rw[if_pos hel]
    refine Or.inr ⟨by simp,?_,by simp⟩
    simp[aZ]
   ·rw[if_neg hbb]at hb' ⊢
    rw[if_neg (fun e=>hbb e.symm)]
    rcases R.el b' l' hb' with⟨g1,g2⟩|⟨g1,g2,g3⟩
    ·exact Or.inl ⟨g1,g2⟩
    ·exact Or.inr ⟨g1,g2,List.mem_cons_of_mem _ (hoth b' l' (fun e=>hbb e.symm) hb' g1)⟩
  ·have key:∀(b':Nat) (l':List Nat),b'≠b->(Bs.set b (l++[x]))[b']?=some l'->l'≠[]->nm b'≠m:=fun b' l' hne hb' hn e=>by
    rw[List.getElem?_set,if_neg (fun e=>hne e.symm)]at hb'
    exact hmW _ (e ▸ hoth b' l' hne hb' hn)
   by_cases e1:b1=b
   ·by_cases e2:b2=b
    ·rw[e1,e2]
    ·simp only[e1,if_true,if_neg e2]at hnm
     exact absurd hnm.symm (key b2 l2 e2 h2 n2)
   ·by_cases e2:b2=b
    ·simp only[e2,if_true,if_neg e1]at hnm
     exact absurd hnm (key b1 l1 e1 h1 n1)
    ·simp only[if_neg e1,if_neg e2]at hnm
     rw[List.getElem?_set,if_neg (fun e=>e1 e.symm)]at h1
     rw[List.getElem?_set,if_neg (fun e=>e2 e.symm)]at h2
     exact R.inj b1 b2 l1 l2 h1 h2 n1 n2 hnm
end
end Go.Am
namespace Go.Am
open Go Go.Proofs
def gL (E:List (List Nat)) (b:Nat):List Nat:=(E[b]?).getD []
def gY (p:Nat) (Bs:List (List Nat)) (to:Nat):List (List Nat):=Bs.set to (gL Bs to++[p])
def uU (E:List (List Nat)) (Bs:List (List Nat)) (p:Nat):List (List Nat):=(gL E p).foldl (gY p) Bs
def yE (E:List (List Nat)) (O:List Nat) (n:Nat):List (List Nat):=O.foldl (uU E) (List.replicate n [])
theorem yI {p to:Nat}{Bs:List (List Nat)}:(gY p Bs to).length=Bs.length:=by simp[gY]
theorem mJ {p:Nat}:∀{l:List Nat}{Bs:List (List Nat)},(l.foldl (gY p) Bs).length=Bs.length
 | [],_=>rfl
 | a::l,Bs=>by rw[List.foldl_cons,mJ,yI]
theorem yD {E:List (List Nat)}{p:Nat}{Bs:List (List Nat)}:(uU E Bs p).length=Bs.length:=mJ
theorem DN {E:List (List Nat)}:∀{O:List Nat}{Bs:List (List Nat)},(O.foldl (uU E) Bs).length=Bs.length
 | [],_=>rfl
 | a::l,Bs=>by rw[List.foldl_cons,DN,yD]
theorem od {E:List (List Nat)}{O:List Nat}{n:Nat}:(yE E O n).length=n:=by rw[yE,DN,List.length_replicate]
theorem R5 {Bs:List (List Nat)}{to b:Nat}{l:List Nat}(h:to<Bs.length):gL (Bs.set to l) b=if b=to then l else gL Bs b:=by
 unfold gL
 rw[List.getElem?_set]
 by_cases e:to=b
 ·subst e;simp[h]
 ·rw[if_neg e,if_neg (fun q=>e q.symm)]
theorem Cy {p to b:Nat}{Bs:List (List Nat)}(h:to<Bs.length):gL (gY p Bs to) b=if b=to then gL Bs to++[p] else gL Bs b:=R5 h
theorem Fu {p q b:Nat}:∀{l:List Nat}{Bs:List (List Nat)},(∀x∈l,x<Bs.length)->(q∈gL (l.foldl (gY p) Bs) b↔q∈gL Bs b\/(q=p/\b∈l))
 | [],_,_=>by simp
 | a::l,Bs,h=>by
  rw[List.foldl_cons,Fu (fun x hx=>by rw[yI];exact h x (by simp[hx])),Cy (h a (by simp))]
  by_cases e:b=a
  ·subst e
   rw[if_pos rfl]
   simp only[List.mem_append,List.mem_cons,List.not_mem_nil,or_false,true_or,and_true]
   constructor
   ·rintro ((h|h)|h)
    ·exact Or.inl h
    ·exact Or.inr h
    ·exact Or.inr h.1
   ·rintro (h|h)
    ·exact Or.inl (Or.inl h)
    ·exact Or.inl (Or.inr h)
  ·simp[e]
theorem yH {p b:Nat}:∀{l:List Nat}{Bs:List (List Nat)},(∀x∈l,x<Bs.length)->(gL (l.foldl (gY p) Bs) b).length<=(gL Bs b).length+l.length
 | [],_,_=>by simp
 | a::l,Bs,h=>by
  rw[List.foldl_cons]
  refine Nat.le_trans (yH fun x hx=>by rw[yI];exact h x (by simp[hx])) ?_
  rw[Cy (h a (by simp))]
  split
  ·rename_i e;subst e;simp only[List.length_append,List.length_cons,List.length_nil];omega
  ·simp only[List.length_cons];omega
section
variable {E:List (List Nat)}{n:Nat}(hE:∀l∈E,(∀x∈l,x<n)/\l.length<=1000)
include hE
theorem mR {p x:Nat}(h:x∈gL E p):x<n:=by
 unfold gL at h
 cases hp:E[p]? with
 | none=>rw[hp]at h;cases h
 | some l=>rw[hp]at h;exact(hE l (ak hp)).1 x h
theorem R6 {p:Nat}:(gL E p).length<=1000:=by
 unfold gL
 cases hp:E[p]? with
 | none=>simp
 | some l=>exact(hE l (ak hp)).2
theorem HS {q b:Nat}:∀{O:List Nat}{Bs:List (List Nat)},Bs.length=n->(q∈gL (O.foldl (uU E) Bs) b↔q∈gL Bs b\/(q∈O/\b∈gL E q))
 | [],_,_=>by simp
 | a::O,Bs,h=>by
  rw[List.foldl_cons,HS (by rw[yD];exact h),uU,Fu fun x hx=>by rw[h];exact mR hE hx]
  constructor
  ·rintro ((h1|⟨rfl,h1⟩)|⟨h1,h2⟩)
   ·exact Or.inl h1
   ·exact Or.inr ⟨by simp,h1⟩
   ·exact Or.inr ⟨by simp[h1],h2⟩
  ·rintro (h1|⟨h1,h2⟩)
   ·exact Or.inl (Or.inl h1)
   ·rcases List.mem_cons.1 h1 with rfl|h1
    ·exact Or.inl (Or.inr ⟨rfl,h2⟩)
    ·exact Or.inr ⟨h1,h2⟩
theorem Gp {b:Nat}:∀{O:List Nat}{Bs:List (List Nat)},Bs.length=n->(gL (O.foldl (uU E) Bs) b).length<=(gL Bs b).length+O.length*1000
 | [],_,_=>by simp
 | a::O,Bs,h=>by
  rw[List.foldl_cons]
  have h1:=Gp (b:=b) (O:=O) (Bs:=uU E Bs a) (by rw[yD];exact h)
  have h2:=yH (p:=a) (b:=b) (l:=gL E a) (Bs:=Bs) fun x hx=>by rw[h];exact mR hE hx
  have h3:=R6 hE (p:=a)
  have h4:(gL (uU E Bs a) b).length=(gL ((gL E a).foldl (gY a) Bs) b).length:=rfl
  simp only[List.length_cons]
  omega
theorem F3 {b:Nat}:gL (List.replicate n ([]:List Nat)) b=[]:=by
 unfold gL;rw[List.getElem?_replicate];split<;>rfl
theorem jH {O:List Nat}{q b:Nat}:q∈gL (yE E O n) b↔q∈O/\b∈gL E q:=by
 rw[yE,HS hE (by simp),F3 hE];simp
theorem H7 {h:Heap}{L:LSq}{KH:HKq}{ng nO nA:Nat}{v:D}{O:List Nat}(V:Vs h L){ig iO:Nat}(hg:L[ig]?=some (ng,J4 v nO O.length nA n)) (hO:L[iO]?=some (nO,.arr 1 (bb O))) (wE:LR L v E) (hn:E.length=n) (hnn:n<=1000)
  (hOl:O.length<=1000) (hOlt:∀x∈O,x<n) (hK:∀v' h',gJ h' L v' (yE E O n)->KH v' h'):ai PP fH [.ptr ng 0 0] h KH:=by
 refine aT sw (aJ _ _ _) rfl (sm _ _) ?_
 unfold ni
 rw[V.fa ig hg,V.fa ig hg,V.cx ig (j:=0) hg rfl,wE.len V,hn]
 refine V.JS (by omega) (by omega) fun nB h1 V1=>?_
 have R0:=gJ.Va V1
 refine⟨fun _ h'=>gJ h' L (.ms nB 0 n) (yE E O n),fun f h' R=>hK _ h' R,?_⟩
 have V0:=R0.vs
 rw[V0.fa ig hg,V0.fa ig hg,V0.cx ig (j:=1) hg rfl,bu,V0.get iO _ _ hO]
 refine⟨rfl,?_⟩
 unfold kg
 refine⟨fun m q h'=>∃i:Nat,q=[nD i]/\i<=O.length/\m=O.length-i/\gJ h' L (.ms nB 0 n) ((O.take i).foldl (uU E) (List.replicate n [])),_,⟨0,rfl,by omega,rfl,R0⟩,?_⟩
 rintro m f h2 ⟨i,hq,hi,hm,R⟩
 simp only[aq,and_true]at hq
 simp only[hq,nD]
 by_cases hlt:i<O.length
 ·rw[jZ (by omega),ag]
  obtain⟨p,hp⟩:∃p,O[i]?=some p:=⟨O[i],aC hlt⟩
  have hpn:=hOlt p (ak hp)
  obtain⟨l,hl⟩:∃l,E[p]?=some l:=⟨E[p]'(by rw[hn];exact hpn),aC _⟩
  have hgl:gL E p=l:=by unfold gL;rw[hl];rfl
  have hll:l.length<=1000:=(hE l (ak hl)).2
  let B0:=(O.take i).foldl (uU E) (List.replicate n [])
  have hB0:B0.length=n:=by simp only[B0];rw[DN];simp
  refine⟨fun _ h'=>gJ h' L (.ms nB 0 n) ((O.take (i+1)).foldl (uU E) (List.replicate n [])),fun f' h' R'=>?_,?_⟩
  ·rw[cU (by omega) (by omega)]
   simp only[ab,true_and]
   exact⟨_,by omega,i+1,rfl,by omega,rfl,R'⟩
  have V2:=R.vs
  rw[V2.ia iO hO (by omega) (by omega),aA,V2.xI iO hO (gd hp) rfl,V2.fa ig hg,V2.fa ig hg,V2.cx ig (j:=0) hg rfl]
  refine wE.get V2 hl fun e we=>?_
  rw[we.len V2]
  unfold kh
  refine⟨fun m' q' h'=>∃j:Nat,q'=[nD j]/\j<=l.length/\m'=l.length-j/\gJ h' L (.ms nB 0 n) ((l.take j).foldl (gY p) B0),_,⟨0,rfl,by omega,rfl,R⟩,?_⟩
  rintro m' f' h3 ⟨j,hq',hj,hm',R3⟩
  simp only[aq,and_true]at hq'
  simp only[hq',nD]
  have V3:=R3.vs
  by_cases hlj:j<l.length
  ·rw[jZ (by omega),ag]
   obtain⟨to,hto⟩:∃to,l[j]?=some to:=⟨l[j],aC hlj⟩
   have htn:to<n:=(hE l (ak hl)).1 to (ak hto)
   rw[we.get V3 hto]
   have hlen:((l.take j).foldl (gY p) B0).length=n:=by rw[mJ,hB0]
   have hb:((l.take j).foldl (gY p) B0)[to]?=some (gL ((l.take j).foldl (gY p) B0) to):=by
    unfold gL
    rw[aC (by rw[hlen];exact htn)];rfl
   refine R3.app (x:=p) hb ?_ fun h4 R4=>?_
   ·have h1:=yH (p:=p) (b:=to) (l:=l.take j) (Bs:=B0) fun x hx=>by rw[hB0];exact(hE l (ak hl)).1 x (List.mem_of_mem_take hx)
    have h2:=Gp hE (b:=to) (O:=O.take i) (Bs:=List.replicate n []) (by simp)
    rw[F3 hE]at h2
    simp only[List.length_take,List.length_nil]at h1 h2
    simp only[B0]at h1 ⊢
    omega
   ·rw[cU (by omega) (by omega)]
    simp only[ab,true_and]
    refine⟨_,by omega,j+1,rfl,by omega,rfl,?_⟩
    rw[List.take_add_one,hto]
    simp only[Option.toList_some,List.foldl_append,List.foldl_cons,List.foldl_nil]
    exact R4
  ·have:j=l.length:=by omega
   subst this
   rw[jX (by omega),af]
   simp only[ab,true_and]
   rw[List.take_add_one,hp]
   simp only[Option.toList_some,List.foldl_append,List.foldl_cons,List.foldl_nil]
   rw[List.take_length]at R3
   unfold uU
   rw[hgl]
   exact R3
 ·have:i=O.length:=by omega
  subst this
  rw[jX (by omega),af]
  simp only[ab,true_and]
  rw[List.take_length]at R
  exact R
end
end Go.Am
namespace Go.Am
open Go Go.Proofs
structure Ut (r:Nat) (O:List Nat) (B:List (List Nat)) (n:Nat) (U:List Int):Prop where
 len:U.length=n
 tr:Tr r (uo O) (· ∈ O) (upF U)
 al:∀x∈O,upF U x≠none
 ch:∀x d,x∈O->(Ch r (upF U) x d↔Dm r (preB B) d x)
theorem OI {n:Nat}:upF (List.replicate n (-1))=fun _=>none:=by
 funext x
 unfold upF
 rw[List.getElem?_replicate]
 split
 ·rename_i k hk
  split at hk
  ·cases hk;rfl
  ·cases hk
 ·rfl
theorem Uz {h:Heap}{a b c:D}{f:Nat->D}{m:Nat}{I2:Nat->HJq}{J:HJq}:nh h a b f c m I2 J=fN h a b (f 3) c (fun k q h'=>k<m/\I2 k q h') (f 4) J:=rfl
theorem Ta {h:Heap}{L:LSq}{KH:HKq}(V:Vs h L) (i:Nat){m l:Nat}{els:List D}(hi:L[i]?=some (m,.arr 1 els)) (hl:1<=l):aa PP (.zB (.c (.ms m 0 l)) (some (.c (.int .i64 1))) none none 1) h KH=KH (.ms m 1 (l-1)) h:=by
 rw[FX]
 simp only[vopt,vint,Arg.get]
 apply propext
 constructor
 ·rintro⟨-,-,-,-,-,hk⟩
  rw[show(0+(1:Int).toNat)=1 from rfl,show((l:Int)-1).toNat=l-1 by omega]at hk
  exact hk
 ·intro hk
  refine⟨by omega,by omega,by omega,by omega,⟨els,by rw[V.get i _ _ hi];rfl⟩,?_⟩
  rw[show(0+(1:Int).toNat)=1 from rfl,show((l:Int)-1).toNat=l-1 by omega]
  exact hk
section
variable {E:List (List Nat)}{r n:Nat}{O:List Nat}{at':List Int}
theorem Ur {h:Heap}{L:LSq}{KH:HKq}{ng nO nA:Nat}{v:D}(hE:∀l∈E,(∀x∈l,x<n)/\l.length<=1000) (V:Vs h L){ig iO iA:Nat}(hg:L[ig]?=some (ng,J4 v nO O.length nA n)) (hO:L[iO]?=some (nO,.arr 1 (bb O))) (hA:L[iA]?=some (nA,.arr 1 (fP at')))
  (wE:LR L v E) (hn:E.length=n) (hnn:n<=1000) (G:Ks E r O at' (yE E O n)) (hK:∀nU U h',Vs h' ((nU,.arr 1 (fP U))::L)->Ut r O (yE E O n) n U->KH (.ms nU 0 n) h'):ai PP lG [.ptr ng 0 0] h KH:=by
 have ho0:0<O.length:=(ah.1 G.hd).1
 have hOlt:∀x∈O,x<n:=fun x hx=>hn ▸ G.lt x hx
 have hol:O.length<=n:=by
  have:O.length<=(List.range n).length:=G.nd.length_le_of_subset (fun x hx=>List.mem_range.2 (hOlt x hx))
  simpa using this
 have hr:r<n:=hOlt r (ak G.hd)
 have hBl:∀(b:Nat) (l:List Nat),(yE E O n)[b]?=some l->l.length<=1000000:=fun b l hb=>by
  have h2:=Gp hE (b:=b) (O:=O) (Bs:=List.replicate n []) (by simp)
  rw[F3 hE]at h2
  have:gL (O.foldl (uU E) (List.replicate n [])) b=l:=by
   have:gL (yE E O n) b=l:=by unfold gL;rw[hb];rfl
   exact this
  rw[this]at h2
  simp only[List.length_nil]at h2
  omega
 refine aT xE (aJ _ _ _) rfl (xw _ _) ?_
 unfold rh
 refine⟨fun m q h'=>∃(nU:Nat) (vB:D) (X:LSq) (U:List Int) (k:Nat),q=[.ms nU 0 n,vB]/\Uv (X++L) r O (yE E O n) nU n U k h'/\m=CF O U n/\LR (X++L) vB (yE E O n),?_,?_⟩
 ·refine FZ rfl (aW (k:=.i64) (n:=-1)).one rfl fun nS t7=>?_
  have V7:=V.push (s:=.arr 1 [.int .i64 (-1)]) t7.free (by simp)
  rw[V7.fa (ig+1) hg,V7.fa (ig+1) hg,V7.cx (ig+1) (j:=0) hg rfl,(wE.mono fun x hx=>List.mem_cons_of_mem _ hx).len V7,hn]
  refine H8 V7 (k:=-1) (by omega) (by omega) (Or.inr ⟨nS,0,rfl,rfl⟩) fun nU h16 V16=>?_
  refine H7 hE V16 (ig:=ig+2) (iO:=iO+2) (nO:=nO) (by simpa using hg) (by simpa using hO) (wE.mono fun x hx=>List.mem_cons_of_mem _ (List.mem_cons_of_mem _ hx)) hn hnn (by omega) hOlt fun vB h18 R18=>?_
  obtain⟨X0,V18,wB⟩:=R18.lr
  let X:=X0++[(nS,Slot.arr 1 [.int .i64 (-1)])]
  have V18:Vs h18 ((nU,.arr 1 (fP (List.replicate n (-1))))::(X++L)):=by
   refine V18.perm ?_
   simp only[X,List.append_assoc,List.singleton_append]
   exact List.perm_middle
  have ix:∀{U:List Int}{i:Nat}{x:Nat×Slot},L[i]?=some x->((nU,Slot.arr 1 (fP U))::(X++L))[X.length+i+1]?=some x:=fun hi=>by rw[List.getElem?_cons_succ,List.getElem?_append_right (by omega),Nat.add_sub_cancel_left];exact hi
  simp only[V18.mH _ (ix hg),V18.iJ _ (j:=1) (ix hg) rfl,V18.GB _ (ix hO) (show(0:Int)<=0 by omega) (show(0:Int)<(O.length:Int) by omega),Int.toNat_zero,V18.EF _ (ix hO) (gd G.hd) rfl]
  simp only[nD]
  rw[V18.GB 0 rfl (by omega) (by omega),aA]
  refine V18.uK 0 rfl (by simp[fP,hr]) rfl FT fun h31 V31=>?_
  simp only[List.set_cons_zero,nD,FR]at V31
  refine⟨fun _ h'=>KH (.ms nU 0 n) h',fun _ h' hk=>hk,?_⟩
  rw[V31.fa _ (ix hg),V31.fa _ (ix hg),V31.cx _ (j:=1) (ix hg) rfl,Ta V31 _ (ix hO) (by omega),bu,V31.get _ _ _ (ix hO)]
  refine⟨rfl,?_⟩
  have hU:upF ((List.replicate n (-1)).set r (r:Int))=gQ (fun _=>none) r r:=by rw[Cn (by simp[hr]),OI]
  have wB':LR (X++L) vB (yE E O n):=wB.mono fun x hx=>List.mem_append_left _ (List.mem_append_left _ hx)
  have I:Uv (X++L) r O (yE E O n) nU n ((List.replicate n (-1)).set r (r:Int)) r h31:=⟨V31,by simp,by rw[hU];exact MV G.dg⟩
  have ix':∀{i:Nat}{x:Nat×Slot},L[i]?=some x->(X++L)[X.length+i]?=some x:=fun hi=>by rw[List.getElem?_append_right (by omega),Nat.add_sub_cancel_left];exact hi
  refine Oj G wB' (ix' hg) (ix' hO) (ix' hA) hnn hn hBl I (fun U' k' h' I' _=>⟨CF O U' n,nU,vB,X,U',k',rfl,I',rfl,wB'⟩) fun hch hal=>hK nU _ h31 (V31.sub ?_) ⟨I.len,I.ph.tr,hal,fun x d hx=>hch x d hx⟩
  exact(List.sublist_append_right X L).cons_cons _
 ·rintro m f h5 ⟨nU,vB,X,U,k,hq,I,hm,wB⟩
  simp only[aq,and_true]at hq
  obtain⟨q1,q2⟩:=hq
  refine⟨fun _ h'=>KH (.ms nU 0 n) h',fun _ h' hk=>by rw[q1];exact hk,?_⟩
  have ix:∀{i:Nat}{x:Nat×Slot},L[i]?=some x->(X++L)[X.length+i]?=some x:=fun hi=>by rw[List.getElem?_append_right (by omega),Nat.add_sub_cancel_left];exact hi
  have V5:=I.vs
  have iy:∀{i:Nat}{x:Nat×Slot},L[i]?=some x->((nU,Slot.arr 1 (fP U))::(X++L))[X.length+i+1]?=some x:=fun hi=>by rw[List.getElem?_cons_succ];exact ix hi
  rw[V5.fa _ (iy hg),V5.fa _ (iy hg),V5.cx _ (j:=1) (iy hg) rfl,Ta V5 _ (iy hO) (by omega),bu,V5.get _ _ _ (iy hO)]
  refine⟨rfl,?_⟩
  rw[Uz,q1,q2]
  refine Oj G wB (ix hg) (ix hO) (ix hA) hnn hn hBl I (fun U' k' h' I' hw=>⟨CF O U' n,by omega,nU,vB,X,U',k',rfl,I',rfl,wB⟩) fun hch hal=>hK nU U h5 (V5.sub ?_) ⟨I.len,I.ph.tr,hal,fun x d hx=>hch x d hx⟩
  exact(List.sublist_append_right X L).cons_cons _
end
end Go.Am
namespace Go.Am
open Go Go.Proofs
inductive jY (E:List (List Nat)):List Nat->List Bool×List Nat->List Bool×List Nat->Prop
 | nil (p:List Bool×List Nat):jY E [] p p
 | skip {to:Nat}{l:List Nat}{p q:List Bool×List Nat}(hs:hasB p.1 to=true) (k:jY E l p q):jY E (to::l) p q
 | go {to:Nat}{l:List Nat}{p m q:List Bool×List Nat}(hs:hasB p.1 to=false) (k:jY E (gL E to) (p.1.set to true,p.2) m) (k':jY E l (m.1,to::m.2) q):jY E (to::l) p q
def QR (E:List (List Nat)) (p:List Bool×List Nat) (b:Nat) (q:List Bool×List Nat):Prop:=∃m,jY E (gL E b) (p.1.set b true,p.2) m/\q=(m.1,b::m.2)
section
variable {E:List (List Nat)}{l l':List Nat}{p q m:List Bool×List Nat}
theorem jY.SU (h:jY E l p q):∀{q'},jY E l p q'->q'=q:=by
 induction h with
 | nil p=>intro q' h';cases h';rfl
 | skip hs k ih =>
  intro q' h'
  cases h' with
  | skip _ k2=>exact ih k2
  | go hs' _ _=>rw[hs]at hs';cases hs'
 | go hs k k' ih ih' =>
  intro q' h'
  cases h' with
  | skip hs' _=>rw[hs]at hs';cases hs'
  | go _ k2 k2' =>
   have:=ih k2
   subst this
   exact ih' k2'
theorem QR.SU {b:Nat}{q':List Bool×List Nat}(h:QR E p b q) (h':QR E p b q'):q'=q:=by
 obtain⟨m,h1,rfl⟩:=h
 obtain⟨m',h2,rfl⟩:=h'
 rw[h1.SU h2]
theorem jY.app (h:jY E l p m) (k:jY E l' m q):jY E (l++l') p q:=by
 induction h with
 | nil p=>exact k
 | skip hs _ ih=>exact .skip hs (ih k)
 | go hs k1 _ _ ih=>exact .go hs k1 (ih k)
theorem jY.ET {to:Nat}(h:jY E l p q) (hs:hasB q.1 to=true):jY E (l++[to]) p q:=h.app (.skip hs (.nil _))
theorem jY.JA {to:Nat}{q':List Bool×List Nat}(h:jY E l p q) (hs:hasB q.1 to=false) (k:QR E q to q'):jY E (l++[to]) p q':=by
 obtain⟨m,h1,rfl⟩:=k
 exact h.app (.go hs h1 (.nil _))
structure VF (E:List (List Nat)) (l:List Nat) (n:Nat) (S S':List Bool) (N:List Nat):Prop where
 len:S'.length=n
 nd:N.Nodup
 iff:∀x,hasB S' x=true↔hasB S x=true\/x∈N
 new:∀x∈N,hasB S x=false/\x<n
 cl:∀p b,p∈N->b∈gL E p->hasB S' b=true
 top:∀b∈l,hasB S' b=true
 par:∀(i b:Nat),N[i]?=some b->b∈l\/∃j p,j<i/\N[j]?=some p/\b∈gL E p
theorem jY.spec {n:Nat}(hE:∀p b,b∈gL E p->b<n) (h:jY E l p q) (hl:∀x∈l,x<n) (hS:p.1.length=n):∃N,q.2=N++p.2/\VF E l n p.1 q.1 N:=by
 induction h with
 | nil p=>exact⟨[],rfl,hS,by simp,by simp,by simp,by simp,by simp,by simp⟩
 | @skip to l p q hs k ih =>
  obtain⟨N,e,F⟩:=ih (fun x hx=>hl x (by simp[hx])) hS
  refine⟨N,e,F.len,F.nd,F.iff,F.new,F.cl,fun b hb=>?_,fun i b hb=>?_⟩
  ·rcases List.mem_cons.1 hb with rfl|hb
   ·exact(F.iff b).2 (Or.inl hs)
   ·exact F.top b hb
  ·rcases F.par i b hb with h|h
   ·exact Or.inl (by simp[h])
   ·exact Or.inr h
 | @go to l p m q hs k k' ih ih' =>
  have hto:to<n:=hl to (by simp)
  obtain⟨N1,e1,F1⟩:=ih (fun x hx=>hE to x hx) (by rw[List.length_set];exact hS)
  obtain⟨N2,e2,F2⟩:=ih' (fun x hx=>hl x (by simp[hx])) F1.len
  have hset:∀x,hasB (p.1.set to true) x=true↔x=to\/hasB p.1 x=true:=fun x=>by rw[bn (by rw[hS];exact hto)];simp
  have hf:∀x,hasB (p.1.set to true) x=false->hasB p.1 x=false/\x≠to:=fun x hx=>by
   rw[bn (by rw[hS];exact hto)]at hx
   simp at hx;exact⟨hx.2,hx.1⟩
  refine⟨N2++to::N1,by rw[e2,e1];simp,F2.len,?_,fun x=>?_,fun x hx=>?_,fun p' b hp hb=>?_,fun b hb=>?_,fun i b hb=>?_⟩
  ·refine List.nodup_append.2 ⟨F2.nd,List.nodup_cons.2 ⟨fun h=>(hf _ (F1.new _ h).1).2 rfl,F1.nd⟩,fun a ha b hb=>?_⟩
   rintro rfl
   have h2:=(F2.new a ha).1
   simp only at h2
   have:hasB m.1 a=true:=by
    rw[F1.iff,hset]
    rcases List.mem_cons.1 hb with rfl|hb
    ·exact Or.inl (Or.inl rfl)
    ·exact Or.inr hb
   rw[h2]at this;cases this
  ·rw[F2.iff,F1.iff,hset]
   simp only[List.mem_append,List.mem_cons]
   constructor
   ·rintro (((h|h)|h)|h)
    ·exact Or.inr (Or.inr (Or.inl h))
    ·exact Or.inl h
    ·exact Or.inr (Or.inr (Or.inr h))
    ·exact Or.inr (Or.inl h)
   ·rintro (h|h|h|h)
    ·exact Or.inl (Or.inl (Or.inr h))
    ·exact Or.inr h
    ·exact Or.inl (Or.inl (Or.inl h))
    ·exact Or.inl (Or.inr h)
  ·rcases List.mem_append.1 hx with hx|hx
   ·have h2:=F2.new x hx
    refine⟨?_,h2.2⟩
    cases hp:hasB p.1 x with
    | false=>rfl
    | true =>
     have:hasB m.1 x=true:=by rw[F1.iff,hset];exact Or.inl (Or.inr hp)
     have h3:=h2.1
     simp only at h3
     rw[h3]at this;cases this
   ·rcases List.mem_cons.1 hx with rfl|hx
    ·exact⟨hs,hto⟩
    ·exact⟨(hf x (F1.new x hx).1).1,(F1.new x hx).2⟩
  ·rcases List.mem_append.1 hp with hp|hp
   ·exact F2.cl p' b hp hb
   ·rcases List.mem_cons.1 hp with rfl|hp
    ·exact(F2.iff b).2 (Or.inl (F1.top b hb))
    ·exact(F2.iff b).2 (Or.inl (F1.cl p' b hp hb))
  ·rcases List.mem_cons.1 hb with rfl|hb
   ·refine(F2.iff b).2 (Or.inl ((F1.iff b).2 (Or.inl ((hset b).2 (Or.inl rfl)))))
   ·exact F2.top b hb
  ·rw[List.getElem?_append]at hb
   split at hb
   ·rename_i hlt
    rcases F2.par i b hb with h|⟨j,p',h1,h2,h3⟩
    ·exact Or.inl (by simp[h])
    ·exact Or.inr ⟨j,p',h1,by rw[List.getElem?_append_left (by omega)];exact h2,h3⟩
   ·rename_i hge
    have hto':(N2++to::N1)[N2.length]?=some to:=by rw[List.getElem?_append_right (by omega)];simp
    obtain⟨k,rfl⟩:∃k,i=N2.length+k:=⟨i-N2.length,by omega⟩
    rw[Nat.add_sub_cancel_left]at hb
    cases k with
    | zero=>simp at hb;subst hb;exact Or.inl (by simp)
    | succ k =>
     rw[List.getElem?_cons_succ]at hb
     rcases F1.par k b hb with h|⟨j,p',h1,h2,h3⟩
     ·exact Or.inr ⟨N2.length,to,by omega,hto',h⟩
     ·refine Or.inr ⟨N2.length+(j+1),p',by omega,?_,h3⟩
      rw[List.getElem?_append_right (by omega),Nat.add_sub_cancel_left,List.getElem?_cons_succ];exact h2
def u4 (E:List (List Nat)) (n r:Nat) (O:List Nat):Prop:=∃S,QR E (List.replicate n false,[]) r (S,O)
theorem u4.SU {n r:Nat}{O O':List Nat}(h:u4 E n r O) (h':u4 E n r O'):O=O':=by
 obtain⟨S,h⟩:=h
 obtain⟨S',h'⟩:=h'
 exact(congrArg Prod.snd (h'.SU h))
theorem ur {n k:Nat}:hasB (List.replicate n false) k=false:=by
 unfold hasB;rw[List.getElem?_replicate];split<;>rfl
theorem u4.gr {n r:Nat}{O:List Nat}{at':List Int}(hE:∀l∈E,(∀x∈l,x<n)/\l.length<=1000) (hn:E.length=n) (hr:r<n) (h:u4 E n r O)
  (tq:at'.length=n) (aat:∀(i x:Nat),O[i]?=some x->at'[x]?=some (i:Int)) (ano:∀x,x<n->x∉O->at'[x]?=some (-1)):Ks E r O at' (yE E O n):=by
 obtain⟨S,m,h1,e⟩:=h
 cases e
 obtain⟨N,e,F⟩:=h1.spec (n:=n) (fun p b=>mR hE) (fun x=>mR hE) (by simp)
 simp only[List.append_nil]at e
 rw[e]at aat ano ⊢
 have hset:∀x,hasB ((List.replicate n false).set r true) x=true↔x=r:=fun x=>by rw[bn (by simp[hr]),ur];simp
 have hin:∀x,hasB m.1 x=true↔x∈r::N:=fun x=>by rw[F.iff];simp only[hset,List.mem_cons]
 refine⟨List.nodup_cons.2 ⟨fun h=>?_,F.nd⟩,rfl,fun x hx=>?_,by rw[tq,hn],aat,fun x hx=>ano x (hn ▸ hx),fun i b hb hi=>?_,fun p b hp hb=>?_,by rw[od,hn],fun b p=>?_⟩
 ·have h2:=(F.new r h).1
  simp only at h2
  rw[(hset r).2 rfl]at h2;cases h2
 ·rw[hn]
  rcases List.mem_cons.1 hx with rfl|hx
  ·exact hr
  ·exact(F.new x hx).2
 ·cases i with
  | zero=>exact absurd rfl hi
  | succ i =>
   rw[List.getElem?_cons_succ]at hb
   rcases F.par i b hb with h|⟨j,p,h1,h2,h3⟩
   ·exact⟨0,r,by omega,rfl,h⟩
   ·exact⟨j+1,p,by omega,by simpa using h2,h3⟩
 ·rw[<- hin]
  rcases List.mem_cons.1 hp with rfl|hp
  ·exact F.top b hb
  ·exact F.cl p b hp hb
 ·exact jH hE
end
end Go.Am
namespace Go.Am
open Go Go.Proofs
def GS (h:Heap) (M:LSq) (nR ng nA n:Nat) (v:D) (S:List Bool) (T:List Nat):Prop:=∃ov,QD h ((nR,.arr 1 (bL S))::(ng,.box (.agg [v,ov,.ms nA 0 n]))::M) ov (bb T)
theorem GS.vs {h:Heap}{M:LSq}{nR ng nA n:Nat}{v:D}{S:List Bool}{T:List Nat}(g:GS h M nR ng nA n v S T):∃ov,Vs h ((nR,.arr 1 (bL S))::(ng,.box (.agg [v,ov,.ms nA 0 n]))::M):=by
 obtain⟨ov,q⟩:=g
 exact⟨ov,q.vs⟩
theorem QD.Qa {h:Heap}{L:LSq}{v d:D}{T:List D}(q:QD h L v T){z':D}{bytes:Nat}{KH:HKq}(hd:sx d) (h1:d.one=true) (hb:(T.length+1)*bytes<=140737488355328) (hl:T.length+1<=9223372036854775807)
  (hK:∀v h',QD h' L v (T++[d])->KH v h'):aa PP (.app (.c v) (.c (.sl [d])) 1 bytes z') h KH:=by
 have hc:d.cells.length=1:=by cases d<;>first|rfl|cases h1
 rcases q with⟨rfl,rfl,V⟩|⟨m,rfl,V⟩
 ·rw[Hf]
  refine⟨fun e he=>by simp at he;subst he;exact hc,fun y hy=>by simp at hy;subst hy;exact hd.one,⟨by simpa using hb,by simp⟩,fun n t=>?_⟩
  exact hK _ _ (Or.inr ⟨n,by simp,V.push t.free (by simp)⟩)
 ·refine V.Gr (ys:=[d]) (fun {K} hk=>⟨fun e he=>by simp at he;subst he;exact hc,hk⟩) (fun y hy=>by simp at hy;subst hy;exact hd.one) (by simpa using hb) (by simpa using hl) fun n h' V'=>?_
  exact hK _ _ (Or.inr ⟨n,by simp,V'⟩)
theorem IS {P:Program}{fz:Bool}{esz:Nat}{z d:D}{h:Heap}{K:D->Prop}(h2:aN d) (h3:d.cells.length=esz) (hv:∀y∈d.cells,y.vone=true) (hz:∀y∈z.cells,y.vone=true) (hk:K (.sl [d])):ae P (.bldS fz esz 1 z [(0,.c d)]) h K:=by
 refine⟨fun p hp=>by simp[Arg.get]at hp;subst hp;exact⟨Nat.one_pos,h3,h2⟩,fun p hp=>by simp[Arg.get]at hp;subst hp;exact hv,hz,?_⟩
 simpa[Arg.get,setEls] using hk
theorem IQ {P:Program}{fz:Bool}{x:Nat}{z:Int}{h:Heap}{K:D->Prop}(hk:K (.sl [nD x])):ae P (.bldS fz 1 1 (.int .i64 z) [(0,.c (nD x))]) h K :=
 IS (aW (k:=.i64) (n:=(x:Int))).one rfl (fun y hy=>by simp[nD,D.cells]at hy;subst hy;rfl) (fun y hy=>by simp[D.cells]at hy;subst hy;rfl) hk
theorem iY {d:D}(h:d.one=true):d.cells=[d]:=by cases d<;>first|rfl|cases h
section
variable {h:Heap}{L:LSq}{KH:HKq}{K:D->Prop}
theorem Vs.Cw (V:Vs h L) (i:Nat){n:Nat}{d:D}(hi:L[i]?=some (n,.box d)) (h1:d.one=true):aa PP (.ld (.c (.ptr n 0 0)) 1 false) h KH=KH d h:=by
 rw[xh,V.get i _ _ hi];simp[fZ,iY h1]
theorem Vs.DG (V:Vs h L) (i:Nat){n:Nat}{d:D}(hi:L[i]?=some (n,.box d)) (h1:d.one=true):ae PP (.ld (.c (.ptr n 0 0)) 1 false) h K=K d:=by rw[mU,V.Cw i hi h1]
theorem Vs.FH (V:Vs h L) (i:Nat){n:Nat}{d d':D}(hi:L[i]?=some (n,.box d)) (h1:d.one=true) (h1':d'.one=true) (hK:∀h',Vs h' (L.set i (n,.box d'))->KH .undef h'):aa PP (.st (.c (.ptr n 0 0)) (.c d') 1) h KH:=by
 have e:setCells d 0 d'.cells=d':=by rw[iY h1'];cases d<;>first|rfl|cases h1
 rw[mQ,V.get i _ _ hi]
 refine⟨by rw[iY h1'];rfl,fun x hx=>by rw[iY h1']at hx;simp at hx;subst hx;exact h1',rfl,by rw[iY h1];simp,?_⟩
 rw[e]
 exact hK _ (V.cc i hi (by simp))
theorem LR.Pr {L':LSq}{v:D}{E:List (List Nat)}(V:Vs h L') (hs:∀x∈L,x∈L') (w:LR L v E){b:Nat}{l:List Nat}(hb:E[b]?=some l) (hK:∀e,B8 L e l->KH e h):aa PP (.iadd (.c v) (.c (nD b)) 1) h fun a h1=>aa PP (.ld (.c a) 1 false) h1 KH:=by
 have hi:=(ah.1 hb).1
 rcases w with rfl|⟨n,els,rfl,hn,hl,hk⟩
 ·rw[nD,lD (esz:=1) (d:=.sl (bb l)) (by omega) (by rw[aA,List.getElem?_map,hb];rfl) rfl,uR rfl]
  exact hK _ (Or.inr (Or.inl rfl))
 ·obtain⟨j,hj⟩:=aO (hs _ hn)
  obtain⟨e,he⟩:∃e,els[b]?=some e:=⟨els[b]'(by omega),aC _⟩
  obtain⟨h1,h2⟩:=hk b e l he hb
  rw[nD,V.ia j hj (by omega) (by omega),aA,V.xI j hj he h1]
  exact hK e h2
theorem LR.one {v:D}{E:List (List Nat)}(w:LR L v E):v.one=true:=by
 rcases w with rfl|⟨n,els,rfl,-⟩<;>rfl
end
section
variable {E:List (List Nat)}{n:Nat}{M:LSq}{nR ng nA p1 p2 p3 p4 i1 i2 i3 i4:Nat}{v:D}
theorem NS:fc PP cC=true:=by kernel_rfl
theorem Qe (hE:∀l∈E,(∀x∈l,x<n)/\l.length<=1000) (hn:E.length=n) (hnn:n<=1000) (wE:LR M v E)
  (h1:M[i1]?=some (p1,.box (.ms nR 0 n))) (h2:M[i2]?=some (p2,.box v)) (h3:M[i3]?=some (p3,.box (.fn cC [] [.ptr p1 0 0,.ptr p2 0 0,.ptr p3 0 0,.ptr p4 0 0]))) (h4:M[i4]?=some (p4,.box (.ptr ng 0 0))) :
  ∀(k c:Nat) (S:List Bool) (T:List Nat) (b:Nat) (h:Heap) (KH:HKq),S.length=n->kT (hasB S) n<=k->T.length+kT (hasB S) n<=c->c<=1000->b<n->hasB S b=false->GS h M nR ng nA n v S T ->
   (∀S' T' h',QR E (S,T.reverse) b (S',T'.reverse)->S'.length=n->T'.length+kT (hasB S') n<=c->(∀x,hasB S x=true->hasB S' x=true)->GS h' M nR ng nA n v S' T'->KH (.tup []) h') ->
   ai PP cC [nD b,.ptr p1 0 0,.ptr p2 0 0,.ptr p3 0 0,.ptr p4 0 0] h KH:=by
 intro k
 induction k with
 | zero =>
  intro c S T b h KH hS hk hT hc hb hs g hK
  exfalso
  have:kT (hasB (S.set b true)) n+1<=kT (hasB S) n:=mf (x:=b) (fun x hx=>by rw[bn (by omega),hx];simp) hb hs (by rw[bn (by omega)];simp)
  omega
 | succ k ih =>
  intro c S T b h KH hS hk hT hc hb hs g hK
  refine aT uf (aJ _ _ _) rfl (tI _ _ _ _ _ _) ?_
  unfold oo
  have hun:kT (hasB (S.set b true)) n+1<=kT (hasB S) n:=mf (x:=b) (fun x hx=>by rw[bn (by omega),hx];simp) hb hs (by rw[bn (by omega)];simp)
  have jx:∀{S:List Bool}{ov:D}{i:Nat}{x:Nat×Slot},M[i]?=some x->((nR,Slot.arr 1 (bL S))::(ng,.box (.agg [v,ov,.ms nA 0 n]))::M)[i+2]?=some x:=fun hi=>by simpa using hi
  have jm:∀{S:List Bool}{ov:D}{x:Nat×Slot},x∈M->x∈((nR,Slot.arr 1 (bL S))::(ng,.box (.agg [v,ov,.ms nA 0 n]))::M):=fun hi=>by simp[hi]
  have hvo:=wE.one
  obtain⟨ov,Q⟩:=g
  have V:=Q.vs
  obtain⟨l,hl⟩:∃l,E[b]?=some l:=⟨E[b]'(by rw[hn];exact hb),aC _⟩
  have hgl:gL E b=l:=by unfold gL;rw[hl];rfl
  have hll:=hE l (ak hl)
  have hbl:∀{S:List Bool},S.length=n->(bL S).length=n:=fun e=>by simp[bL,e]
  rw[V.Cw (i1+2) (jx h1) rfl,nD,V.ia 0 rfl (by omega) (by omega),aA]
  have st0:∀{KH:HKq},(∀h',GS h' M nR ng nA n v (S.set b true) T->KH .undef h')->aa PP (.st (.c (.ptr nR b 0)) (.c (.bool true)) 1) h KH:=by
   intro KH hK
   rcases Q with⟨rfl,hT0,V⟩|⟨m,rfl,V⟩
   ·refine V.uK 0 rfl (by rw[hbl hS];exact hb) rfl (fL _) fun h' V'=>hK h' ⟨_,Or.inl ⟨rfl,hT0,?_⟩⟩
    rw[fK]at V';exact V'
   ·refine V.uK 1 rfl (by rw[hbl hS];exact hb) rfl (fL _) fun h' V'=>hK h' ⟨_,Or.inr ⟨m,rfl,?_⟩⟩
    rw[fK]at V';exact V'
  refine st0 fun h11 g11=>?_
  refine⟨fun _ h'=>∃S1 T1,jY E l (S.set b true,T.reverse) (S1,T1.reverse)/\S1.length=n/\T1.length+kT (hasB S1) n+1<=c/\(∀x,hasB (S.set b true) x=true->hasB S1 x=true)/\GS h' M nR ng nA n v S1 T1,?_,?_⟩
  ·rintro f h14 ⟨S1,T1,hv,hS1,hT1,hm1,ov1,Q1⟩
   have V1:=Q1.vs
   simp only[V1.DG (i4+2) (jx h4) rfl,V1.mH 1 rfl,Nat.zero_add,V1.iJ 1 (j:=1) rfl rfl]
   refine IQ ?_
   refine Q1.Qa (d:=nD b) aW rfl (by rw[aZ];omega) (by rw[aZ];omega) fun ov' h24 Q'=>?_
   rcases Q' with⟨-,h0,-⟩|⟨m,rfl,V'⟩
   ·simp at h0
   simp only[V'.DG (i4+3) (by simpa using h4) rfl,ab,true_and]
   refine V'.VN 2 rfl (j:=1) (by simp) rfl fun h27 V2=>?_
   simp only[List.set_cons_succ,List.set_cons_zero]at V2
   simp only[V2.DG (i4+3) (by simpa using h4) rfl,ab,true_and]
   have e2:bb T1++[nD b]=bb (T1++[b]):=by simp[bb]
   refine hK S1 (T1++[b]) h27 ?_ hS1 (by simp;omega) (fun x hx=>hm1 x ?_) ⟨_,Or.inr ⟨m,rfl,?_⟩⟩
   ·rw[List.reverse_append]
    exact⟨(S1,T1.reverse),by rw[hgl];exact hv,rfl⟩
   ·rw[bn (by omega),hx];simp
   ·rw[e2]at V2
    exact V2
  ·obtain⟨ov1,Q1⟩:=g11
   have V1:=Q1.vs
   rw[V1.Cw (i2+2) (jx h2) hvo]
   refine wE.Pr V1 (fun x hx=>jm hx) hl fun e we=>?_
   rw[(we.mono fun x hx=>jm hx).len V1]
   unfold ll
   refine⟨fun m q h'=>∃(j:Nat) (S1:List Bool) (T1:List Nat),q=[nD j]/\j<=l.length/\m=l.length-j/\jY E (l.take j) (S.set b true,T.reverse) (S1,T1.reverse)/\S1.length=n/\T1.length+kT (hasB S1) n+1<=c/\(∀x,hasB (S.set b true) x=true->hasB S1 x=true)/\GS h' M nR ng nA n v S1 T1,_,
    ⟨0,S.set b true,T,rfl,by omega,rfl,.nil _,by rw[List.length_set];exact hS,by omega,fun x hx=>hx,ov1,Q1⟩,?_⟩
   rintro m f h39 ⟨j,S1,T1,hq,hj,hm,hv,hS1,hT1,hm1,g1⟩
   simp only[aq,and_true]at hq
   simp only[hq,nD]
   by_cases hlj:j<l.length
   ·rw[jZ (by omega),ag]
    obtain⟨to,hto⟩:∃to,l[j]?=some to:=⟨l[j],aC hlj⟩
    have htn:to<n:=hll.1 to (ak hto)
    have htk:l.take (j+1)=l.take j++[to]:=by rw[List.take_add_one,hto];rfl
    refine⟨fun _ h'=>∃S1 T1,jY E (l.take (j+1)) (S.set b true,T.reverse) (S1,T1.reverse)/\S1.length=n/\T1.length+kT (hasB S1) n+1<=c/\(∀x,hasB (S.set b true) x=true->hasB S1 x=true)/\GS h' M nR ng nA n v S1 T1,?_,?_⟩
    ·rintro f' h' ⟨S2,T2,a1,a2,a3,a4,a5⟩
     rw[cU (by omega) (by omega)]
     simp only[ab,true_and]
     exact⟨_,by omega,j+1,S2,T2,rfl,by omega,rfl,a1,a2,a3,a4,a5⟩
    obtain⟨ov2,V2⟩:=g1.vs
    rw[(we.mono fun x hx=>jm hx).get V2 hto]
    rw[V2.Cw (i1+2) (jx h1) rfl,nD,V2.ia 0 rfl (by omega) (by omega),aA,V2.xI 0 rfl (dq (bo (by omega))) rfl,du]
    cases hs1:hasB S1 to with
    | true =>
     simp only[Bool.not_true]
     rw[af]
     simp only[ab,true_and]
     exact⟨S1,T1,by rw[htk];exact hv.ET hs1,hS1,hT1,hm1,g1⟩
    | false =>
     simp only[Bool.not_false]
     rw[ag,V2.Cw (i3+2) (jx h3) rfl]
     refine⟨NS,?_⟩
     have hu1:kT (hasB S1) n<=kT (hasB (S.set b true)) n:=xP hm1
     refine ih (c-1) S1 T1 to h39 _ hS1 (by omega) (by omega) (by omega) htn hs1 g1 fun S2 T2 h2 w1 w2 w3 w4 w5=>?_
     simp only[ab,true_and]
     exact⟨S2,T2,by rw[htk];exact hv.JA hs1 w1,w2,by omega,fun x hx=>w4 x (hm1 x hx),w5⟩
   ·have:j=l.length:=by omega
    subst this
    rw[jX (by omega),af]
    simp only[ab,true_and]
    rw[List.take_length]at hv
    exact⟨S1,T1,hv,hS1,hT1,hm1,g1⟩
end
end Go.Am
namespace Go.Am
open Go Go.Proofs
theorem LK {h:Heap}{L:LSq}{KH:HKq}{m:Nat}{T:List Nat}(V:Vs h ((m,.arr 1 (bb T))::L)) (h0:1<=T.length) (hl:T.length<=1000000) (hK:∀h',Vs h' ((m,.arr 1 (bb T.reverse))::L)->KH (.tup []) h'):ai PP dY [.ms m 0 T.length] h KH:=by
 refine aT lQ (aJ _ _ _) rfl (lJ _ _) ?_
 unfold gN
 rw[bu,V.get 0 _ _ rfl]
 refine⟨rfl,?_⟩
 rw[GR (by omega) (by omega)]
 unfold fU
 refine⟨fun k q h'=>∃(i j:Nat) (X:List Nat),q=[nD i,nD j]/\i+j+1=T.length/\k=j+1-i/\X.length=T.length/\(∀y,y<T.length->X[y]?=if y<i\/j<y then T[T.length-1-y]? else T[y]?)/\Vs h' ((m,.arr 1 (bb X))::L),_,
  ⟨0,T.length-1,T,?_,by omega,rfl,rfl,fun y hy=>by rw[if_neg (by omega)],V⟩,?_⟩
 ·simp only[nD];congr 3;omega
 rintro k f h' ⟨i,j,X,hq,hij,hk,hX,hX2,V1⟩
 simp only[aq,and_true]at hq
 obtain⟨q1,q2⟩:=hq
 simp only[q1,q2,nD]
 by_cases hlt:i<j
 ·rw[jZ (by omega),ag]
  obtain⟨a,ha⟩:∃a,X[i]?=some a:=⟨X[i]'(by omega),aC _⟩
  obtain⟨b,hb⟩:∃b,X[j]?=some b:=⟨X[j]'(by omega),aC _⟩
  simp only[↓V1.GB 0 rfl (show(0:Int)<=(i:Int) by omega) (show(i:Int)<(T.length:Int) by omega),↓V1.GB 0 rfl (show(0:Int)<=(j:Int) by omega) (show(j:Int)<(T.length:Int) by omega),aA,↓V1.EF 0 rfl (gd ha) rfl,↓V1.EF 0 rfl (gd hb) rfl]
  refine V1.uK 0 rfl (by rw[aZ];omega) rfl yb fun h2 V2=>?_
  simp only[List.set_cons_zero]at V2
  simp only[↓V2.GB 0 rfl (show(0:Int)<=(j:Int) by omega) (show(j:Int)<(T.length:Int) by omega),aA,ab,true_and]
  refine V2.uK 0 rfl (by rw[List.length_set,aZ];omega) rfl (fun x hx=>?_) fun h3 V3=>?_
  ·rcases List.mem_or_eq_of_mem_set hx with hx|rfl
   ·exact yb x hx
   ·rfl
  simp only[List.set_cons_zero]at V3
  simp only[↓V3.GB 0 rfl (show(0:Int)<=(j:Int) by omega) (show(j:Int)<(T.length:Int) by omega),aA,ab,true_and]
  rw[cU (by omega) (by omega),GR (by omega) (by omega)]
  have e3:((bb X).set i (nD b)).set j (nD a)=bb ((X.set i b).set j a):=by simp[bb,List.map_set]
  rw[e3]at V3
  have e4:(j:Int)-1=((j-1:Nat):Int):=by omega
  refine⟨j-1+1-(i+1),by omega,i+1,j-1,(X.set i b).set j a,by rw[e4];rfl,by omega,rfl,by simp[hX],fun y hy=>?_,V3⟩
  ·have hi:=hX2 i (by omega)
   have hj:=hX2 j (by omega)
   rw[if_neg (by omega)]at hi hj
   rw[List.getElem?_set,List.getElem?_set,List.length_set]
   by_cases e1:j=y
   ·subst e1
    rw[if_pos rfl,if_pos (by omega),if_pos (by omega),show T.length-1-j=i by omega, <- hi,ha]
   ·rw[if_neg e1]
    by_cases e2:i=y
    ·subst e2
     rw[if_pos rfl,if_pos (by omega),if_pos (by omega),show T.length-1-i=j by omega, <- hj,hb]
    ·rw[if_neg e2,hX2 y hy]
     by_cases e3:y<i\/j<y
     ·rw[if_pos e3,if_pos (by omega)]
     ·rw[if_neg e3,if_neg (by omega)]
 ·rw[jX (by omega),af]
  refine hK h' ?_
  have:X=T.reverse:=by
   apply List.ext_getElem?
   intro y
   by_cases hy:y<T.length
   ·rw[hX2 y hy,List.getElem?_reverse hy]
    split
    ·rfl
    ·rw[show T.length-1-y=y by omega]
   ·rw[List.getElem?_eq_none (by omega),List.getElem?_eq_none (by simp;omega)]
  rw[this]at V1
  exact V1
end Go.Am
namespace Go.Am
open Go Go.Proofs
structure SW (O:List Nat) (n i:Nat) (A:List Int):Prop where
 len:A.length=n
 at':∀(j x:Nat),j<i->O[j]?=some x->A[x]?=some (j:Int)
 no:∀x,x<n->x∉O.take i->A[x]?=some (-1)
theorem SW.next {O:List Nat}{n i x:Nat}{A:List Int}(nd:O.Nodup) (a:SW O n i A) (hx:O[i]?=some x) (hxn:x<n):SW O n (i+1) (A.set x (i:Int)):=by
 refine⟨by rw[List.length_set];exact a.len,fun j y hj hy=>?_,fun y hy hn=>?_⟩
 ·rw[List.getElem?_set]
  by_cases e:x=y
  ·subst e
   have:i=j:=(List.getElem?_inj (ah.1 hx).1 nd).1 (hx.trans hy.symm)
   subst this
   rw[if_pos rfl,if_pos (by rw[a.len];exact hxn)]
  ·rw[if_neg e]
   by_cases e2:j=i
   ·subst e2;rw[hx]at hy;cases hy;exact absurd rfl e
   ·exact a.at' j y (by omega) hy
 ·rw[List.take_add_one,hx]at hn
  simp only[Option.toList_some,List.mem_append,List.mem_singleton,not_or]at hn
  rw[List.getElem?_set,if_neg (fun e=>hn.2 e.symm)]
  exact a.no y hy hn.1
theorem T8 {v x:D}{h:Heap}{K:D->Prop}(hv:v.one=true/\v.cells=[v]) (hx:x.one=true/\x.cells=[x]) (hK:K (.agg [v,.nil,x])):ae PP (.bld [.nil,.nil,.nil] [(0,1,(.c v)),(2,1,(.c x))]) h K:=by
 rw[Fh,nT]
 refine⟨fun p hp=>?_,?_⟩
 ·simp[Arg.get]at hp
  rcases hp with rfl|rfl
  ·exact⟨by rw[hv.2];rfl,by show 0+1<=3;omega,fun d hd=>by rw[hv.2]at hd;simp at hd;subst hd;exact hv.1⟩
  ·exact⟨by rw[hx.2];rfl,by show 2+1<=3;omega,fun d hd=>by rw[hx.2]at hd;simp at hd;subst hd;exact hx.1⟩
 ·have:(fillD [D.nil,.nil,.nil] ([(0,1,Arg.c v),(2,1,Arg.c x)].map fun p=>(p.1,p.2.1,(p.2.2.get []).cells)))=[v,.nil,x]:=by
   simp[fillD,Arg.get,hv.2,hx.2]
  rw[this]
  exact hK
theorem Mb {E:List (List Nat)}{p q:List Bool×List Nat}{b:Nat}(h:QR E p b q):q.2≠[]:=by
 obtain⟨m,-,rfl⟩:=h
 simp
section
variable {E:List (List Nat)}{n r:Nat}
theorem DT {h:Heap}{L:LSq}{KH:HKq}{v:D}(hE:∀l∈E,(∀x∈l,x<n)/\l.length<=1000) (hn:E.length=n) (hnn:n<=1000) (hr:r<n) (V:Vs h L) (wE:LR L v E)
  (hK:∀ng nO nA O at' h',u4 E n r O->Ks E r O at' (yE E O n)->Vs h' ((nO,.arr 1 (bb O))::(ng,J4 v nO O.length nA n)::(nA,.arr 1 (fP at'))::L)->KH (.ptr ng 0 0) h'):ai PP jw [v,nD r] h KH:=by
 refine aT zy (aJ _ _ _) rfl (yY _ _ _) ?_
 unfold tJ
 have hv:=wE.one
 have hva:aN v:=fun x hx=>by rw[iY hv]at hx;simp at hx;subst hx;exact hv
 refine V.box hva fun p2 h4 V4=>?_
 simp only[V4.DG 0 rfl hv]
 refine IS (aW (k:=.i64) (n:=-1)).one rfl (fun y hy=>by simp[D.cells]at hy;subst hy;rfl) (fun y hy=>by simp[D.cells]at hy;subst hy;rfl) ?_
 have w4:=wE.mono (L':=(p2,.box v)::L) fun x hx=>List.mem_cons_of_mem _ hx
 rw[w4.len V4,hn]
 refine H8 V4 (k:=-1) (by omega) (by omega) (Or.inl rfl) fun nA h10 V10=>?_
 simp only[V10.DG 1 rfl hv,ab,and_true,true_and]
 refine T8 ⟨hv,iY hv⟩ ⟨rfl,rfl⟩ ?_
 have hone:aN (.agg [v,.nil,.ms nA 0 n]):=by
  intro x hx
  simp[D.cells]at hx
  rcases hx with rfl|rfl|rfl
  ·exact hv
  ·rfl
  ·rfl
 refine V10.box hone fun ng h14 V14=>?_
 refine V14.alloc fun p4 h16 V16=>?_
 have w16:=wE.mono (L':=(p4,.box .nilp)::(ng,.box (.agg [v,.nil,.ms nA 0 n]))::(nA,.arr 1 (fP (List.replicate n (-1))))::(p2,.box v)::L) fun x hx=>by simp[hx]
 simp only[V16.DG 3 rfl hv,ab,and_true,true_and]
 refine⟨?_,?_⟩
 ·have:=w16.len (K:=fun a19=>aI [a19] [D.int .i64 (n:Int)]) V16
  rw[hn]at this
  exact this.mpr (by simp only[ab])
 refine V16.FH 0 rfl rfl rfl fun h21 V21=>?_
 simp only[List.set_cons_zero]at V21
 rw[V21.Cw 3 rfl hv,(wE.mono fun x hx=>by simp[hx]).len V21,hn]
 refine V21.JS (by omega) (by omega) fun nR h26 V26=>?_
 rw[show List.replicate n (D.bool false)=bL (List.replicate n false) by simp[bL]]at V26
 refine V26.alloc fun p1 h28 V28=>?_
 refine V28.FH 0 rfl rfl rfl fun h30 V30=>?_
 simp only[List.set_cons_zero]at V30
 refine V30.alloc fun p3 h32 V32=>?_
 rw[He]
 refine V32.FH 0 rfl rfl rfl fun h36 V36=>?_
 simp only[List.set_cons_zero]at V36
 rw[V36.Cw 0 rfl rfl]
 refine⟨NS,?_⟩
 have V37:=((V36.perm (List.perm_middle (l₁:=[_,_]))).perm (List.perm_middle (l₁:=[_,_,_,_]))).swap
 have u0:=zD (hasB (List.replicate n false)) n
 let M:LSq:=(p3,.box (.fn cC [] [.ptr p1 0 0,.ptr p2 0 0,.ptr p3 0 0,.ptr p4 0 0]))::(p1,.box (.ms nR 0 n))::(p4,.box (.ptr ng 0 0))::(nA,.arr 1 (fP (List.replicate n (-1))))::(p2,.box v)::L
 refine Qe (M:=M) (i1:=1) (i2:=4) (i3:=0) (i4:=2) (p2:=p2) (p4:=p4) hE hn hnn (wE.mono fun x hx=>by simp[M,hx]) rfl rfl rfl rfl n n (List.replicate n false) [] r h36 _ (by simp) u0 (by simpa using u0) hnn hr ur ⟨.nil,Or.inl ⟨rfl,rfl,V37⟩⟩ fun S' T' h40 hvis hS' hT' _ g'=>?_
 have hne:=Mb hvis
 simp only at hne
 have hT0:T'≠[]:=fun e=>hne (by rw[e];rfl)
 obtain⟨ov,Q⟩:=g'
 rcases Q with⟨-,h0,-⟩|⟨m,rfl,V40⟩
 ·exact absurd (by simpa[bb] using h0) hT0
 have hT1:1<=T'.length:=by cases T' with|nil=>exact absurd rfl hT0|cons a l=>simp
 have hTl:T'.length<=1000:=by omega
 rw[aZ]at V40
 rw[V40.Cw 5 rfl rfl,V40.fa 2 rfl,V40.fa 2 rfl,V40.cx 2 (j:=1) rfl rfl]
 refine LK V40 hT1 (by omega) fun h50 V50=>?_
 have hO:u4 E n r T'.reverse:=⟨S',hvis⟩
 have hGr:=fun at' (a:SW T'.reverse n T'.reverse.length at')=>hO.gr hE hn hr a.len (fun i x hx=>a.at' i x (ah.1 hx).1 hx) (fun x hx hno=>a.no x hx (by rwa [List.take_length]))
 have hlt:∀x,x∈T'.reverse->x<n:=by
  obtain⟨m',h1,e⟩:=hvis
  obtain⟨N,e2,F⟩:=h1.spec (n:=n) (fun p b=>mR hE) (fun x=>mR hE) (by simp)
  have e3:T'.reverse=r::N:=by
   have:=congrArg Prod.snd e
   simp only at this
   rw[this,e2];simp
  intro x hx
  rw[e3]at hx
  rcases List.mem_cons.1 hx with rfl|hx
  ·exact hr
  ·exact(F.new x hx).2
 have hnd:T'.reverse.Nodup:=by
  obtain⟨m',h1,e⟩:=hvis
  obtain⟨N,e2,F⟩:=h1.spec (n:=n) (fun p b=>mR hE) (fun x=>mR hE) (by simp)
  have e3:T'.reverse=r::N:=by
   have:=congrArg Prod.snd e
   simp only at this
   rw[this,e2];simp
  rw[e3]
  refine List.nodup_cons.2 ⟨fun h=>?_,F.nd⟩
  have h2:=(F.new r h).1
  simp only at h2
  rw[bn (by simp[hr])]at h2
  simp at h2
 generalize hOe:T'.reverse=O at *
 have hol:T'.length=O.length:=by rw[<- hOe];simp
 rw[hol]at V50 hTl hT1
 let LA:List Int->LSq:=fun A=>(m,.arr 1 (bb O))::(nR,.arr 1 (bL S'))::(ng,.box (.agg [v,.ms m 0 O.length,.ms nA 0 n]))::(p3,.box (.fn cC [] [.ptr p1 0 0,.ptr p2 0 0,.ptr p3 0 0,.ptr p4 0 0]))::(p1,.box (.ms nR 0 n))::(p4,.box (.ptr ng 0 0))::(nA,.arr 1 (fP A))::(p2,.box v)::L
 have V50:Vs h50 (LA (List.replicate n (-1))):=V50
 refine⟨fun _ h'=>∃A,SW O n O.length A/\Vs h' (LA A),?_,?_⟩
 ·rintro f h53 ⟨A,hA,V53⟩
  rw[V53.Cw 5 rfl rfl]
  refine hK ng m nA O A h53 hO (hGr A hA) (V53.sub ?_)
  exact .cons_cons _ (.cons _ (.cons_cons _ (.cons _ (.cons _ (.cons _ (.cons_cons _ (.cons _ (.refl _))))))))
 rw[V50.Cw 5 rfl rfl,V50.fa 2 rfl,V50.fa 2 rfl,V50.cx 2 (j:=1) rfl rfl,bu,V50.get 0 _ _ rfl]
 refine⟨rfl,?_⟩
 unfold om
 refine⟨fun k q h'=>∃(i:Nat) (A:List Int),q=[nD i]/\i<=O.length/\k=O.length-i/\SW O n i A/\Vs h' (LA A),_,⟨0,_,rfl,by omega,rfl,⟨by simp,fun j x hj=>by omega,fun x hx _=>by rw[List.getElem?_replicate,if_pos hx]⟩,V50⟩,?_⟩
 rintro k f h68 ⟨i,A,hq,hi,hk,hA,V68⟩
 simp only[aq,and_true]at hq
 simp only[hq,nD]
 by_cases hil:i<O.length
 ·rw[jZ (by omega),ag]
  obtain⟨x,hx⟩:∃x,O[i]?=some x:=⟨O[i],aC hil⟩
  have hxn:=hlt x (ak hx)
  rw[V68.ia 0 rfl (by omega) (by omega),aA,V68.xI 0 rfl (gd hx) rfl,V68.Cw 5 rfl rfl,V68.fa 2 rfl,V68.fa 2 rfl,V68.cx 2 (j:=2) rfl rfl,nD,V68.ia 6 rfl (by omega) (by omega),aA]
  refine V68.uK 6 rfl (by rw[mq,hA.len];exact hxn) rfl FT fun h85 V85=>?_
  simp only[LA,List.set_cons_succ,List.set_cons_zero,FR]at V85
  rw[cU (by omega) (by omega)]
  simp only[ab,true_and]
  exact⟨_,by omega,i+1,A.set x (i:Int),rfl,by omega,rfl,hA.next hnd hx hxn,V85⟩
 ·have:i=O.length:=by omega
  subst this
  rw[jX (by omega),af]
  simp only[ab,true_and]
  exact⟨A,hA,V68⟩
end
end Go.Am
namespace Go.Am
open Go Go.Proofs
def fS (c:Code):List (List Nat):=(List.range c.b.length).map (edg c)
def GA (c:Code) (i:Nat):List D:=(List.range c.b.length).map fun b=>if b<i then .sl (bb (edg c b)) else .nil
theorem bV {c:Code}:(fS c).length=c.b.length:=by simp[fS]
theorem CB {c:Code}{b:Nat}(h:b<c.b.length):(fS c)[b]?=some (edg c b):=by simp[fS,h]
theorem jB {c:Code}{b:Nat}:gL (fS c) b=edg c b:=by
 unfold gL
 by_cases h:b<c.b.length
 ·rw[CB h];rfl
 ·rw[List.getElem?_eq_none (by rw[bV];omega)]
  unfold edg
  rw[List.getElem?_eq_none (by omega)];rfl
theorem iI {c:Code}(hc:bS c):∀l,l∈fS c->(∀x∈l,x<c.b.length)/\l.length<=1000:=fun l hl=>by
 simp only[fS,List.mem_map]at hl
 obtain⟨b,-,rfl⟩:=hl
 exact⟨fun x hx=>dM hc hx,by have:=nX (c:=c) (a:=b);omega⟩
theorem CA {c:Code}{i:Nat}:(GA c i).length=c.b.length:=by simp[GA]
theorem PH {c:Code}{i:Nat}:∀x,x∈GA c i->x.one=true:=fun x hx=>by
 simp only[GA,List.mem_map]at hx
 obtain⟨b,-,rfl⟩:=hx
 split<;>rfl
theorem PG {c:Code}{i:Nat}(hi:i<c.b.length):(GA c i).set i (.sl (bb (edg c i)))=GA c (i+1):=by
 apply List.ext_getElem?
 intro y
 rw[List.getElem?_set]
 by_cases e:i=y
 ·subst e;simp[CA,hi,GA]
 ·rw[if_neg e]
  simp only[GA,List.getElem?_map]
  by_cases h:y<c.b.length
  ·simp only[List.getElem?_range h,Option.map_some]
   congr 1
   by_cases h2:y<i
   ·rw[if_pos h2,if_pos (by omega)]
   ·rw[if_neg h2,if_neg (by omega)]
  ·rw[List.getElem?_eq_none (by simp;omega)];rfl
theorem Qf {c:Code}(hc:bS c){h:Heap}{L:LSq}{KH:HKq}(V:Vs h L) (hK:∀nE h',Vs h' ((nE,.arr 1 (GA c c.b.length))::L)->LR [(nE,.arr 1 (GA c c.b.length))] (.ms nE 0 c.b.length) (fS c)->KH (.ms nE 0 c.b.length) h') :
  ai PP sR [c.e] h KH:=by
 have hnb:=hc.nb
 refine aT Eh (aJ _ _ _) rfl (DW _ _) ?_
 unfold Be
 refine V.box c.dS.one fun n2 h3 V1=>?_
 simp only[↓V1.fa 0 rfl,Nat.zero_add,↓V1.cx 0 (j:=7) rfl rfl,bX,aw]
 refine V1.JS (by omega) (by omega) fun nE h10 V10=>?_
 have e0:List.replicate c.b.length D.nil=GA c 0:=by
  apply List.ext_getElem?
  intro y
  simp only[GA,List.getElem?_replicate,List.getElem?_map,Nat.not_lt_zero,if_false]
  by_cases hy:y<c.b.length
  ·rw[if_pos hy,List.getElem?_range hy];rfl
  ·rw[if_neg hy,List.getElem?_eq_none (by simp;omega)];rfl
 rw[e0]at V10
 refine⟨fun _ h'=>Vs h' ((nE,.arr 1 (GA c c.b.length))::(n2,.box c.e)::L),fun _ h' V'=>hK nE h' V'.swap.pop (Or.inr ⟨nE,GA c c.b.length,by rw[bV],by simp,by rw[CA,bV],fun b e l he hl=>?_⟩),?_⟩
 ·have hb:b<c.b.length:=by rw[<- CA (c:=c)];exact(ah.1 he).1
  rw[CB hb]at hl;cases hl
  have:e=.sl (bb (edg c b)):=by
   simp[GA,hb]at he;exact he.symm
  subst this
  exact⟨rfl,Or.inr (Or.inl rfl)⟩
 simp only[↓V10.fa 1 rfl,Nat.zero_add,↓V10.cx 1 (j:=7) rfl rfl,bX,aw]
 unfold tK
 refine⟨fun m q h'=>∃(i:Nat),q=[nD i]/\i<=c.b.length/\m=c.b.length-i/\Vs h' ((nE,.arr 1 (GA c i))::(n2,.box c.e)::L),_,⟨0,rfl,by omega,rfl,V10⟩,?_⟩
 rintro m f h22 ⟨i,hq,hi,hm,V22⟩
 simp only[aq,and_true]at hq
 simp only[hq,nD]
 by_cases hlt:i<c.b.length
 ·rw[jZ (by omega),ag]
  obtain⟨B,hB⟩:∃B,c.b[i]?=some B:=⟨c.b[i],aC hlt⟩
  rw[xp hB,show B.e=.agg (.sl (B.i.map aX.e)::B.t.cs) from rfl,IA (s:=14) rfl]
  refine V22.alloc fun n28 h29 V29=>?_
  refine V29.p8 0 rfl rfl rfl (fun x hx=>?_) fun h31 V31=>?_
  ·have:=B.dS.one x (by exact hx)
   exact this
  simp only[List.set_cons_zero]at V31
  rw[V31.fa 0 rfl,L1 (V31.get 0 _ _ rfl) (by show 0+1+13<=14;omega)]
  have eT:((D.sl (B.i.map aX.e)::B.t.cs).drop (0+1)).take 13=B.t.cs:=rfl
  rw[eT]
  refine bO (Jc (hc.t B (ak hB))) (fun d hd=>by simp at hd;subst hd;exact B.t.dS.pair) ?_
  rintro _ rfl
  rw[V31.ia 1 rfl (by omega) (by omega),aA]
  refine V31.uK 1 rfl (by rw[CA];exact hlt) rfl PH fun h41 V41=>?_
  simp only[List.set_cons_succ,List.set_cons_zero]at V41
  rw[<- jE hB,PG hlt]at V41
  rw[cU (by omega) (by omega)]
  simp only[ab,true_and]
  exact⟨_,by omega,i+1,rfl,by omega,rfl,V41.pop⟩
 ·have:i=c.b.length:=by omega
  subst this
  rw[jX (by omega),af]
  simp only[ab,true_and]
  exact V22
end Go.Am
namespace Go.Am
open Go Go.Proofs
theorem EY {E:Nat->List Nat}{a b c:Nat}(h:Path E a b) (k:Path E b c):Path E a c:=by
 induction k with
 | refl=>exact h
 | step _ e ih=>exact .step ih e
theorem GY {E:Nat->List Nat}{a b c:Nat}(h:b∈E a) (k:Path E b c):Path E a c:=EY (.step .refl h) k
section
variable {E:List (List Nat)}{r n:Nat}{O:List Nat}{at':List Int}{B:List (List Nat)}
theorem Ks.path (G:Ks E r O at' B){b:Nat}:b∈O↔Path (gL E) r b:=by
 constructor
 ·have:∀(i:Nat) (b:Nat),O[i]?=some b->Path (gL E) r b:=by
   intro i
   induction i using Nat.strongRecOn with
   | _ i ih =>
    intro b hb
    by_cases h0:i=0
    ·subst h0;rw[G.hd]at hb;cases hb;exact .refl
    ·obtain⟨j,p,hj,hp,hbe⟩:=G.par i b hb h0
     exact .step (ih j hj p hp) hbe
  intro h
  obtain⟨i,hi⟩:=aO h
  exact this i b hi
 ·intro h
  induction h with
  | refl=>exact ak G.hd
  | step _ e ih=>exact G.cl _ _ ih e
def o8 (E:List (List Nat)) (O:List Nat) (n:Nat) (l:List Nat):List (List Nat):=yE E O n++[l]
theorem qc {l:List Nat}:(o8 E O n l).length=n+1:=by simp[o8,od]
theorem Jx {l:List Nat}:(o8 E O n l)[n]?=some l:=by
 rw[o8,List.getElem?_append_right (by rw[od];omega),od];simp
theorem xi {l:List Nat}{b:Nat}:gL (o8 E O n l) b=if b<n then gL (yE E O n) b else if b=n then l else []:=by
 unfold gL o8
 rw[List.getElem?_append,od]
 split
 ·rfl
 ·rename_i h
  split
  ·rename_i e;subst e;simp
  ·rename_i e
   rw[List.getElem?_eq_none (by simp;omega)];rfl
def zS (E:List (List Nat)) (l:List Nat) (b:Nat):Prop:=∃x,x∈l/\Path (gL E) b x
theorem OK (hE:∀l∈E,(∀x∈l,x<n)/\l.length<=1000){l O':List Nat}{at2:List Int}{B':List (List Nat)}(G:Ks E r O at' B) (hn:E.length=n) (G':Ks (o8 E O n l) n O' at2 B') (hl:∀x∈l,x∈O){b:Nat}(hb:b∈O):b∈O'↔zS E l b:=by
 have lt:∀{x},x∈O->x<n:=fun hx=>hn ▸ G.lt _ hx
 have mem:∀{a b:Nat},a<n->(b∈gL (o8 E O n l) a↔b∈O/\a∈gL E b):=fun ha=>by rw[xi,if_pos ha,jH hE]
 constructor
 ·intro h
  have:∀{b:Nat},Path (gL (o8 E O n l)) n b->b=n\/(b∈O/\zS E l b):=by
   intro b h
   induction h with
   | refl=>exact Or.inl rfl
   | @step a b _ e ih =>
    rcases ih with rfl|⟨ha,x,hx,hp⟩
    ·rw[xi,if_neg (by omega),if_pos rfl]at e
     exact Or.inr ⟨hl b e,b,e,.refl⟩
    ·have:=(mem (lt ha)).1 e
     exact Or.inr ⟨this.1,x,hx,GY this.2 hp⟩
  rcases this (G'.path.1 h) with e|h
  ·have:=lt hb;omega
  ·exact h.2
 ·rintro⟨x,hx,hp⟩
  have hxO':x∈O':=by
   refine G'.cl n x (ak G'.hd) ?_
   have:x∈gL (o8 E O n l) n:=by rw[xi,if_neg (by omega),if_pos rfl];exact hx
   exact this
  have inO:∀{y},Path (gL E) b y->y∈O:=fun h=>by
   induction h with
   | refl=>exact hb
   | step _ e ih=>exact G.cl _ _ ih e
  have:∀{y},Path (gL E) b y->y∈O'->b∈O':=by
   intro y h
   induction h with
   | refl=>exact id
   | @step a y h e ih =>
    intro hy
    refine ih (G'.cl y a hy ?_)
    exact(mem (lt (inO (.step h e)))).2 ⟨inO h,e⟩
  exact this hp hxO'
noncomputable def endF (E:List (List Nat)):List Nat->List Nat->List Nat
 | [],l=>l
 | b::T,l=>if @decide (zS E l b) (Classical.propDecidable _) then endF E T l else endF E T (l++[b])
theorem ux:∀{T T' l:List Nat},(∀b∈T,zS E l b)->endF E (T++T') l=endF E T' l
 | [],_,_,_=>rfl
 | b::T,T',l,h=>by
  rw[List.cons_append,endF,if_pos (by simpa using h b (by simp)),ux fun x hx=>h x (by simp[hx])]
theorem Ht {T l:List Nat}{b:Nat}(h:¬zS E l b):endF E (b::T) l=endF E T (l++[b]):=by
 rw[endF,if_neg (by simpa using h)]
theorem KO {l l':List Nat}(h:∀x∈l,x∈l'){b:Nat}(k:zS E l b):zS E l' b:=by
 obtain⟨x,hx,hp⟩:=k
 exact⟨x,h x hx,hp⟩
theorem Lg {l X Y:List Nat}{b:Nat}(hO:O=X++b::Y) (hY:∀y∈Y,zS E l y) (hb:¬zS E l b):endF E O.reverse l=endF E O.reverse (l++[b]):=by
 rw[hO]
 simp only[List.reverse_append,List.reverse_cons,List.append_assoc]
 rw[ux fun y hy=>hY y (List.mem_reverse.1 hy),ux fun y hy=>KO (fun x hx=>by simp[hx]) (hY y (List.mem_reverse.1 hy))]
 rw[List.singleton_append,Ht hb,endF,if_pos]
 simp only[decide_eq_true_eq]
 exact⟨b,by simp,.refl⟩
theorem E9 {l:List Nat}(h:∀y∈O,zS E l y):endF E O.reverse l=l:=by
 have:=ux (E:=E) (T:=O.reverse) (T':=[]) (l:=l) fun y hy=>h y (List.mem_reverse.1 hy)
 simpa[endF] using this
end
end Go.Am
namespace Go.Am
open Go Go.Proofs
section
variable {h:Heap}{L:LSq}{v:D}{Bs:List (List Nat)}{KH:HKq}
theorem gJ.lift (q:gJ h L v Bs):∃X,Vs h (X++L)/\LR X v Bs/\∀h',Vs h' (X++L)->gJ h' L v Bs:=by
 obtain⟨nB,els,W,nm,rfl,V,R⟩:=q
 refine⟨(nB,.arr 1 els)::W,V,Or.inr ⟨nB,els,rfl,by simp,R.len,fun b e l he hl=>?_⟩,fun h' V'=>⟨nB,els,W,nm,rfl,V',R⟩⟩
 refine⟨R.one e (ak he),?_⟩
 rcases R.el b l hl with⟨h1,h2⟩|⟨-,h2,h3⟩
 ·rw[he]at h2;cases h2;exact Or.inl ⟨rfl,h1⟩
 ·rw[he]at h2;cases h2;exact Or.inr (Or.inr ⟨_,rfl,by simp[h3]⟩)
theorem gJ.Tw (q:gJ h L v Bs) (hl:Bs.length<=1000000){z z':D}(hK:∀v' h',gJ h' L v' (Bs++[[]])->KH v' h') :
  aa PP (.bldS true 1 1 z [(0,.c .nil)]) h fun y h3=>aa PP (.app (.c v) (.c y) 1 24 z') h3 KH:=by
 obtain⟨nB,els,W,nm,rfl,V,R⟩:=q
 have Q:QD h (W++L) (.ms nB 0 Bs.length) els:=Or.inr ⟨nB,by rw[R.len],V⟩
 refine Q.push PM rfl (by have:=R.len;omega) (by have:=R.len;omega) fun v' h' Q'=>?_
 rcases Q' with⟨-,h0,-⟩|⟨m,rfl,V'⟩
 ·simp at h0
 refine hK _ h' ⟨m,els++[.nil],W,nm,by simp[R.len],V',by simp[R.len],fun b l hb=>?_,fun b b' l l' hb hb' h1 h2=>?_⟩
 ·rw[List.getElem?_append]at hb ⊢
  rw[R.len]
  split at hb
  ·rename_i hlt;rw[if_pos hlt];exact R.el b l hb
  ·rename_i hlt
   rw[if_neg hlt]
   cases hk:b-Bs.length with
   | zero=>rw[hk]at hb;simp at hb;subst hb;exact Or.inl ⟨rfl,rfl⟩
   | succ k=>rw[hk]at hb;simp at hb
 ·have key:∀{b:Nat}{l:List Nat},(Bs++[[]])[b]?=some l->l≠[]->Bs[b]?=some l:=fun {b l} hb h1=>by
   rw[List.getElem?_append]at hb
   split at hb
   ·exact hb
   ·rename_i hlt
    cases hk:b-Bs.length with
    | zero=>rw[hk]at hb;simp at hb;exact absurd hb h1
    | succ k=>rw[hk]at hb;simp at hb
  exact R.inj b b' l l' (key hb h1) (key hb' h2) h1 h2
end
def qC (c:Code) (b:Nat):Bool:=match c.b[b]? with
 | some B=>decide (B.t.kind=5)
 | none=>false
theorem Ga {c:Code}{b:Nat}{B:Block}(hB:c.b[b]?=some B):qC c b=decide (B.t.kind=5):=by unfold qC;rw[hB]
noncomputable def de (c:Code) (O:List Nat):List Nat:=endF (fS c) O.reverse (O.filter (qC c))
theorem Jw {E:List (List Nat)}{O:List Nat}{n:Nat}{l l':List Nat}:(o8 E O n l).set n l'=o8 E O n l':=by
 unfold o8
 rw[List.set_append_right _ _ (by rw[od];omega),od,Nat.sub_self];rfl
section
variable {c:Code}{h:Heap}{L:LSq}{KH:HKq}
theorem HT {E:List (List Nat)}{K b:Nat}(hK:∀p,(gL E p).length<=K){n:Nat}(hE:∀p x,x∈gL E p->x<n):∀{O:List Nat}{Bs:List (List Nat)},Bs.length=n->(gL (O.foldl (uU E) Bs) b).length<=(gL Bs b).length+O.length*K
 | [],_,_=>by simp
 | a::O,Bs,h=>by
  rw[List.foldl_cons]
  have h1:=HT hK hE (b:=b) (O:=O) (Bs:=uU E Bs a) (by rw[yD];exact h)
  have h2:=yH (p:=a) (b:=b) (l:=gL E a) (Bs:=Bs) fun x hx=>by rw[h];exact hE a x hx
  have h3:=hK a
  have h4:(gL (uU E Bs a) b).length=(gL ((gL E a).foldl (gY a) Bs) b).length:=rfl
  simp only[List.length_cons,Nat.add_mul,Nat.one_mul]
  omega
theorem P6 (hc:bS c){O:List Nat}(hOl:O.length<=20){b:Nat}:(gL (yE (fS c) O c.b.length) b).length<=40:=by
 have h2:=HT (E:=fS c) (K:=2) (b:=b) (n:=c.b.length) (fun p=>by rw[jB];exact nX) (fun p x hx=>by rw[jB]at hx;exact dM hc hx) (O:=O) (Bs:=List.replicate c.b.length []) (by simp)
 rw[F3 (iI hc)]at h2
 have:(gL (yE (fS c) O c.b.length) b).length<=O.length*2:=by simpa[yE] using h2
 omega
theorem Io (hc:bS c){O l:List Nat}(hO:∀x∈O,x<c.b.length) (hl:∀x∈l,x∈O) (hll:l.length<=1000) (hOl:O.length<=20):∀k,k∈o8 (fS c) O c.b.length l->(∀x∈k,x<c.b.length+1)/\k.length<=1000:=by
 intro k hk
 rcases List.mem_append.1 hk with hk|hk
 ·obtain⟨b,hb⟩:=aO hk
  have hg:gL (yE (fS c) O c.b.length) b=k:=by unfold gL;rw[hb];rfl
  refine⟨fun x hx=>?_,?_⟩
  ·rw[<- hg,jH (iI hc)]at hx
   have:=hO x hx.1;omega
  ·have:=P6 hc hOl (b:=b)
   rw[hg]at this;omega
 ·simp only[List.mem_singleton]at hk
  subst hk
  exact⟨fun x hx=>by have:=hO x (hl x hx);omega,by omega⟩
end
end Go.Am
namespace Go.Am
open Go Go.Proofs
theorem N9 {c:Code}{h:Heap}{L:LSq}{v:D}{O:List Nat}{ng nO nA n2 ig iO i2:Nat}{w:D}{J:HJq}{a8:D}(hOlt:∀x∈O,x<c.b.length) (hOl:O.length<=20) (R:gJ h L v (o8 (fS c) O c.b.length []))
  (hO:L[iO]?=some (nO,.arr 1 (bb O))) (h2:L[i2]?=some (n2,.box c.e)) (hJ:∀h',gJ h' L v (o8 (fS c) O c.b.length (O.filter (qC c)))->J [] h') :
  o5 h (.int .i64 (O.length:Int)) (.ptr n2 0 0) a8 (nD c.b.length) v (.ms nO 0 O.length) J:=by
 unfold o5
 refine⟨fun m q h'=>∃i:Nat,q=[nD i]/\i<=O.length/\m=O.length-i/\gJ h' L v (o8 (fS c) O c.b.length ((O.take i).filter (qC c))),_,⟨0,rfl,by omega,rfl,R⟩,?_⟩
 rintro m f h1 ⟨i,hq,hi,hm,R1⟩
 simp only[aq,and_true]at hq
 simp only[hq,nD]
 by_cases hlt:i<O.length
 ·rw[jZ (by omega),ag]
  obtain⟨b,hb⟩:∃b,O[i]?=some b:=⟨O[i],aC hlt⟩
  have hbn:=hOlt b (ak hb)
  obtain⟨B,hB⟩:∃B,c.b[b]?=some B:=⟨c.b[b],aC hbn⟩
  have V1:=R1.vs
  have htk:O.take (i+1)=O.take i++[b]:=by rw[List.take_add_one,hb];rfl
  refine⟨fun _ h'=>gJ h' L v (o8 (fS c) O c.b.length ((O.take (i+1)).filter (qC c))),fun f' h' R'=>?_,?_⟩
  ·rw[cU (by omega) (by omega)]
   simp only[ab,true_and]
   exact⟨_,by omega,i+1,rfl,by omega,rfl,R'⟩
  rw[V1.ia iO hO (by omega) (by omega),aA,V1.xI iO hO (gd hb) rfl,V1.fa i2 h2,V1.cx i2 (j:=7) h2 rfl,nD,xp hB,La,FY,show B.e=.agg (.sl (B.i.map aX.e)::B.t.cs) from rfl,KV (e:=.int .i64 B.t.kind) (by rfl),bQ]
  by_cases hk:B.t.kind=5
  ·rw[decide_eq_true hk,ag]
   refine R1.app (b:=c.b.length) (x:=b) Jx ?_ fun h3 R3=>?_
   ·have:=List.length_filter_le (qC c) (O.take i)
    rw[List.length_take]at this;omega
   ·simp only[ab,true_and]
    rw[Jw]at R3
    rw[htk,List.filter_append,show [b].filter (qC c)=[b] by simp[Ga hB,hk]]
    exact R3
  ·rw[decide_eq_false hk,af]
   simp only[ab,true_and]
   rw[htk,List.filter_append,show [b].filter (qC c)=[] by simp[Ga hB,hk],List.append_nil]
   exact R1
 ·have:i=O.length:=by omega
  subst this
  rw[jX (by omega),af]
  simp only[ab,true_and]
  rw[List.take_length]at R1
  exact hJ h1 R1
def Ql (O O':List Nat) (i:Nat) (d:D):Prop:=(d=.int .i64 (-1)/\∀x,x∈O.take i->x∈O')\/∃(j b:Nat),d=nD b/\j<i/\O[j]?=some b/\b∉O'/\∀(k x:Nat),j<k->k<i->O[k]?=some x->x∈O'
theorem P5 {h:Heap}{L:LSq}{O O':List Nat}{at':List Int}{ng nO nO' nA' n ig iO iA:Nat}{w:D}{J:HJq}{a8 a14 a19:D}(V:Vs h L) (hOlt:∀x∈O,x<n) (hOl:O.length<=1000)
  (hO:L[iO]?=some (nO,.arr 1 (bb O))) (hg:L[ig]?=some (ng,J4 w nO' O'.length nA' n)) (hA:L[iA]?=some (nA',.arr 1 (fP at'))) (al:at'.length=n) (hin:∀x,x∈O'->∃k:Nat,at'[x]?=some (k:Int)) (hno:∀x,x<n->x∉O'->at'[x]?=some (-1))
  (hJ:∀d,Ql O O' O.length d->J [d] h):o6 h (.int .i64 (O.length:Int)) a8 a14 a19 (.ptr ng 0 0) (.ms nO 0 O.length) J:=by
 unfold o6
 refine⟨fun m q h'=>h'=h/\∃(i:Nat) (d:D),q=[d,nD i]/\i<=O.length/\m=O.length-i/\Ql O O' i d,_,⟨rfl,0,_,rfl,by omega,rfl,Or.inl ⟨rfl,by simp⟩⟩,?_⟩
 rintro m f h1 ⟨e1,i,d,hq,hi,hm,hs⟩
 subst e1
 simp only[aq,and_true]at hq
 obtain⟨q1,q2⟩:=hq
 simp only[q1,q2,nD]
 by_cases hlt:i<O.length
 ·rw[jZ (by omega),ag]
  obtain⟨b,hb⟩:∃b,O[i]?=some b:=⟨O[i],aC hlt⟩
  have hbn:=hOlt b (ak hb)
  refine⟨fun q h'=>h'=h1/\∃d,q=[d]/\Ql O O' (i+1) d,?_,?_⟩
  ·rintro f' h' ⟨e2,d',hq',hs'⟩
   subst e2
   simp only[aq,and_true]at hq'
   simp only[hq']
   rw[cU (by omega) (by omega)]
   simp only[ab,true_and]
   exact⟨_,by omega,i+1,d',rfl,by omega,rfl,hs'⟩
  rw[V.ia iO hO (by omega) (by omega),aA,V.xI iO hO (gd hb) rfl,V.fa ig hg,V.fa ig hg,V.cx ig (j:=2) hg rfl,nD,V.ia iA hA (by omega) (by omega),aA]
  by_cases hbO:b∈O'
  ·obtain⟨k,hk⟩:=hin b hbO
   rw[V.xI iA hA (kP hk) rfl,jX (by omega),af]
   simp only[ab,true_and]
   refine⟨d,rfl,?_⟩
   rcases hs with⟨h1,h2⟩|⟨j,b',h1,h2,h3,h4,h5⟩
   ·refine Or.inl ⟨h1,fun x hx=>?_⟩
    rw[List.take_add_one,hb]at hx
    simp only[Option.toList_some,List.mem_append,List.mem_singleton]at hx
    rcases hx with hx|rfl
    ·exact h2 x hx
    ·exact hbO
   ·refine Or.inr ⟨j,b',h1,by omega,h3,h4,fun k' x hjk hki hx=>?_⟩
    by_cases e:k'=i
    ·subst e;rw[hb]at hx;cases hx;exact hbO
    ·exact h5 k' x hjk (by omega) hx
  ·rw[V.xI iA hA (kP (hno b hbn hbO)) rfl,jZ (by omega),ag]
   simp only[ab,true_and]
   exact⟨_,rfl,Or.inr ⟨i,b,rfl,by omega,hb,hbO,fun k' x h1 h2 _=>by omega⟩⟩
 ·have:i=O.length:=by omega
  subst this
  rw[jX (by omega),af]
  simp only[ab,true_and]
  exact hJ d hs
end Go.Am
