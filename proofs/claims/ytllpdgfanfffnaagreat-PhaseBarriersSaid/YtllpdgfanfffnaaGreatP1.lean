/- What the functions of this chapter give, on plain data. No condition. -/
import Derived.Shelf.SlIterI.Nil
import Derived.Shelf.SortM.Plain
import Derived.Shelf.SortM.SortNone
import Derived.Test.YtllpdgfanfffnaaGreatT1
set_option linter.unnecessarySimpa false
set_option linter.defProp false
set_option linter.unusedSectionVars false
set_option linter.unusedSimpArgs false
set_option linter.unusedVariables false

namespace Go.Am
open Go
variable [bq]
variable {P:Program}{KH:D->Heap->Prop}{K:D->Prop}{l:LH}
end Go.Am
namespace Go.Am
open Go
variable [bq]
variable {P:Program}
structure MS where
  group:Int
  sub:Int
  regs:Int
  loops:List Loop
  blocks:List Block
def rM (bs:List Nat):D:=.sl (bs.map fun(b:Nat)=>.int .u8 (b:Int))
def bV (bs:List Nat) (k:Nat) (arrs:D) (s:MS) (vL vB:D):D :=
  .agg [rM bs,.int .i64 (k:Int),.int .i64 s.group,.int .i64 s.sub,.int .i64 s.regs,.int .i64 0,.int .i64 3,arrs,vL,vB]
def bC (vs:List D) (bs:List Block):List D:=List.zipWith (fun v b=>D.agg (v::b.t.cs)) vs bs
def bc (l:List D):List Nat:=l.flatMap D.iP
structure Rows (h:Heap) (loops:List Loop) (blocks:List Block) (vL vB:D) (vs:List D):Prop where
  oL:Own 3 h vL (loops.map Loop.e)
  oB:Own 14 h vB (bC vs blocks)
  len:vs.length=blocks.length
  oI:∀(k:Nat) (v:D) (b:Block),vs[k]?=some v->blocks[k]?=some b->Own 15 h v (b.i.map bf.e)
  nd:(bc (vL::vB::vs)).Nodup
structure aH (h:Heap) (n k:Nat) (arrs:D) (s:MS):Prop where
  st:∃(bs:List Nat) (j:Nat) (vL vB:D) (vs:List D),(∀b∈bs,b<=255)/\bs.length<=9223372036854775807/\j<=k/\h n=.box (bV bs j arrs s vL vB)/\Rows h s.loops s.blocks vL vB vs
def aA (n:Nat) (h h':Heap):Prop:=∀m d,m≠n->h m=.box d->h' m=.box d
theorem aA.rfl {n:Nat}{h:Heap}:aA n h h:=fun _ _ _ h=>h
theorem aA.trans {n:Nat}{a b c:Heap}(h:aA n a b) (k:aA n b c):aA n a c:=fun m d hm hd=>k m d hm (h m d hm hd)
theorem aA.self {n:Nat}{h:Heap}{s:Slot}:aA n h (ak h n s):=fun m d hm hd=>by rw[ab _ _ hm];exact hd
theorem aA.new {n m:Nat}{h:Heap}{s:Slot}(hm:h m=.free):aA n h (ak h m s):=fun k d _ hd=>by
  rw[ab _ _ (by rintro rfl;rw[hm]at hd;cases hd)];exact hd
theorem cn {esz:Nat}{h h':Heap}{v:D}{els:List D}(ho:Own esz h v els) (hk:∀k∈v.iP,h' k=h k):Own esz h' v els:=by
  rcases ho with ho|⟨q,rfl,hq⟩
  · exact Or.inl ho
  · exact Or.inr ⟨q,rfl,by rw[hk q (by simp[D.iP])];exact hq⟩
theorem lZ {esz:Nat}{h:Heap}{v:D}{els:List D}(ho:Own esz h v els){k:Nat}(hk:k∈v.iP):h k=.arr esz els:=by
  rcases ho with⟨rfl,-⟩|⟨q,rfl,hq⟩
  · simp[D.iP]at hk
  · simp[D.iP]at hk;subst hk;exact hq
theorem Rows.congr {h h':Heap}{loops:List Loop}{blocks:List Block}{vL vB:D}{vs:List D}(r:Rows h loops blocks vL vB vs) (hk:∀k,k∈bc (vL::vB::vs)->h' k=h k):Rows h' loops blocks vL vB vs:=by
  have mem:∀v,v∈vL::vB::vs->∀k∈v.iP,k∈bc (vL::vB::vs):=fun v hv k hkv=>List.mem_flatMap.2 ⟨v,hv,hkv⟩
  refine⟨cn r.oL fun k q=>hk k (mem _ (by simp) k q),cn r.oB fun k q=>hk k (mem _ (by simp) k q),r.len,fun k v b hv hb=>cn (r.oI k v b hv hb) fun j q=>hk j (mem v ?_ j q),r.nd⟩
  have:=List.mem_of_getElem? hv
  simp[this]
theorem Rows.arr {h:Heap}{loops:List Loop}{blocks:List Block}{vL vB:D}{vs:List D}(r:Rows h loops blocks vL vB vs){k:Nat}(hk:k∈bc (vL::vB::vs)):∃e l,h k=.arr e l:=by
  obtain⟨v,hv,hkv⟩:=List.mem_flatMap.1 hk
  rcases List.mem_cons.1 hv with rfl|hv
  · exact⟨_,_,lZ r.oL hkv⟩
  rcases List.mem_cons.1 hv with rfl|hv
  · exact⟨_,_,lZ r.oB hkv⟩
  obtain⟨i,hi⟩:=List.getElem?_of_mem hv
  obtain⟨b,hb⟩:∃b,blocks[i]?=some b:=by
    have:=(List.getElem?_eq_some_iff.1 hi).1
    exact⟨blocks[i]'(by rw[<- r.len];exact this),List.getElem?_eq_getElem _⟩
  exact⟨_,_,lZ (r.oI i v b hi hb) hkv⟩
theorem Rows.box {h:Heap}{loops:List Loop}{blocks:List Block}{vL vB:D}{vs:List D}(r:Rows h loops blocks vL vB vs){n:Nat}{d:D}(hn:h n=.box d) (s:Slot):Rows (ak h n s) loops blocks vL vB vs :=
  r.congr fun k hk=>by
    obtain⟨e,l,hkl⟩:=r.arr hk
    rw[ab _ _ (by rintro rfl;rw[hn]at hkl;cases hkl)]
theorem Rows.free {h:Heap}{loops:List Loop}{blocks:List Block}{vL vB:D}{vs:List D}(r:Rows h loops blocks vL vB vs){n:Nat}(hn:h n=.free) (s:Slot):Rows (ak h n s) loops blocks vL vB vs :=
  r.congr fun k hk=>by
    obtain⟨e,l,hkl⟩:=r.arr hk
    rw[ab _ _ (by rintro rfl;rw[hn]at hkl;cases hkl)]
theorem aH.new {h:Heap}{n k:Nat}{arrs:D}{s:MS}(r:aH h n k arrs s){m:Nat}(hm:h m=.free) (x:Slot):aH (ak h m x) n k arrs s/\m≠n:=by
  obtain⟨bs,j,vL,vB,vs,h1,h2,h3,h4,h5⟩:=r.st
  have hne:n≠m:=by rintro rfl;rw[h4]at hm;cases hm
  exact⟨⟨bs,j,vL,vB,vs,h1,h2,h3,by rw[ab _ _ hne];exact h4,h5.free hm x⟩,hne.symm⟩
theorem aH.cr {h:Heap}{n k:Nat}{arrs:D}{s:MS}(r:aH h n k arrs s){m:Nat}{d:D}(hm:h m=.box d) (hne:m≠n) (x:Slot):aH (ak h m x) n k arrs s:=by
  obtain⟨bs,j,vL,vB,vs,h1,h2,h3,h4,h5⟩:=r.st
  exact⟨bs,j,vL,vB,vs,h1,h2,h3,by rw[ab _ _ hne.symm];exact h4,h5.box hm x⟩
theorem aH.le {h:Heap}{n k k':Nat}{arrs:D}{s:MS}(r:aH h n k arrs s) (hk:k<=k'):aH h n k' arrs s:=by
  obtain⟨bs,j,vL,vB,vs,h1,h2,h3,h4,h5⟩:=r.st
  exact⟨bs,j,vL,vB,vs,h1,h2,by omega,h4,h5⟩
theorem IJ {KH:D->Heap->Prop}{h:Heap}{esz bytes:Nat}{z s d:D}{els:List D}(ho:Own esz h s els) (hd:aL d) (hc:d.cells.length=esz) (hb:(els.length+1)*bytes<=140737488355328) (hl:els.length+1<=9223372036854775807)
    (hk:∀m h',h m=.free->h' m=.arr esz (els++[d])->(∀k,k≠m->k∉s.iP->h' k=h k)->KH (.ms m 0 (els.length+1)) h'):aa P (.app (.c s) (.c (.sl [d])) esz bytes z) h KH:=by
  refine⟨fun e he=>by simp at he;subst he;exact hc,fun y hy=>by simp at hy;subst hy;exact hd,?_⟩
  rcases ho with⟨rfl,rfl⟩|⟨m,rfl,hm⟩
  · exact⟨⟨by simpa using hb,by simp⟩,fun n t=>hk n _ t.free (ag _ _ _) fun k hk _=>ab _ _ hk⟩
  · refine⟨els,.of hm,by simp,⟨by simpa using hb,by simpa using hl⟩,fun n t=>⟨?_,fun h0=>absurd rfl h0⟩⟩
    refine hk n _ t.free (ag _ _ _) fun k hkf hne=>?_
    have h2:k≠m:=by rintro rfl;exact hne (by simp[D.iP])
    rw[ab _ _ hkf,ab _ _ h2]
theorem y7 {KH:D->Heap->Prop}{h:Heap}{esz bytes:Nat}{z z' s d:D}{els:List D}(ho:Own esz h s els) (hd:vR d) (hc:d.cells.length=esz) (hb:(els.length+1)*bytes<=140737488355328) (hl:els.length+1<=9223372036854775807)
    (hk:∀m h',h m=.free->h' m=.arr esz (els++[d])->(∀k,k≠m->k∉s.iP->h k≠.free->h' k=h k)->KH (.ms m 0 (els.length+1)) h') :
    aa P (.bldS true esz 1 z [(0,.c d)]) h fun x h1=>aa P (.app (.c s) (.c x) esz bytes z') h1 KH:=by
  refine IH hd.vd hd.one hc fun n5 t=>?_
  have hx:((ak h n5 (.arr esz [d])) n5).row=some (esz,[d]):=by rw[ag];rfl
  refine⟨[d],hx,by simp,?_⟩
  simp only[List.drop_zero,List.take_succ_cons,List.take_zero]
  refine⟨fun y hy=>by simp at hy;subst hy;exact hd.one,?_⟩
  have ea:∀n,kI (ak h n5 (.arr esz [d])) n->h n=.free/\n≠n5:=by
    intro n tn
    have:=tn.free
    by_cases he:n=n5
    · subst he;rw[ag]at this;cases this
    · rw[ab _ _ he]at this;exact⟨this,he⟩
  rcases ho with⟨rfl,rfl⟩|⟨m,rfl,hm⟩
  · refine⟨⟨by simpa using hb,by simp⟩,fun n tn=>?_⟩
    obtain⟨f1,f2⟩:=ea n tn
    exact hk n _ f1 (ag _ _ _) fun k hk _ hkf=>by rw[ab _ _ hk,ab _ _ (t.ne hkf)]
  · have hmn:m≠n5:=t.ne (by rw[hm];simp)
    refine⟨els,.of (by rw[ab _ _ hmn];exact hm),by simp,⟨by simpa using hb,by simpa using hl⟩,fun n tn=>⟨?_,fun h0=>absurd rfl h0⟩⟩
    obtain⟨f1,f2⟩:=ea n tn
    refine hk n _ f1 (ag _ _ _) fun k hkf hne hkk=>?_
    have h2:k≠m:=by rintro rfl;exact hne (by simp[D.iP])
    rw[ab _ _ hkf,ab _ _ h2,ab _ _ (t.ne hkk)]
end Go.Am
namespace Go.Am
open Go
theorem qe {n:Int}:aQ PP bI [.int .i64 n] (· = (fT n).e):=by
  refine fZ oT (an _ _ _) rfl (xz _ _) ?_
  unfold uN
  rw[yg]
  simp[CE,ou,Hz,h_ldp,CB,CC,Ej,gw,fillD,o9]
  exact zB (dT.qW ⟨2,n,0⟩) rfl
theorem po {v:Int}:aQ PP cj [.int .i32 v] (· = (Const v).e):=by
  refine fZ ug (an _ _ _) rfl (tW _ _) ?_
  unfold qf
  rw[yg]
  simp[CE,ou,Hz,h_ldp,CB,CC,Ej,gw,fillD,o9]
  exact zB (dT.qW ⟨1,0,v⟩) rfl
theorem F5 {bs:List Nat}{k:Nat}{d:D}(h:(bs.map fun(b:Nat)=>D.int .u8 (b:Int))[k]?=some d):∃b,b∈bs/\d=.int .u8 b:=by
  simp only[List.getElem?_map,Option.map_eq_some_iff]at h
  obtain⟨b,hb,rfl⟩:=h
  exact⟨b,List.mem_of_getElem? hb,rfl⟩
theorem zk {h:Heap}{n j:Nat}{bs:List Nat}{rest:List D}(hn:h n=.box (.agg (rM bs::.int .i64 (j:Int)::rest))) (hb:∀b∈bs,b<=255) (hl:bs.length<=9223372036854775807) (hj:j<4611686018427387904){KH:D->Heap->Prop}
    (hK:∀b:Nat,b<=255->KH (.int .i64 (b:Int)) (ak h n (.box (.agg (rM bs::.int .i64 ((j+1:Nat):Int)::rest))))):ae PP ah [.ptr n 0 0] h KH:=by
  refine bZ nC (an _ _ _) rfl (nr _ _) ?_
  unfold jT
  have w1:IntKind.i64.wrap ((j:Int)+1)=((j+1:Nat):Int):=by rw[wrap64 (by omega) (by omega)];rfl
  simp only[↓ov,hn,Slot.live,Slot.used,true_and,↓qU,↓cV,hU,Nat.zero_add,List.getElem?_cons_succ,List.getElem?_cons_zero,↓dp,w1,↓ki]
  refine⟨rfl,by simp,by simp,?_⟩
  have hset:setCells (D.agg (rM bs::.int .i64 (j:Int)::rest)) 1 (D.int .i64 ((j+1:Nat):Int)).cells=.agg (rM bs::.int .i64 ((j+1:Nat):Int)::rest):=by simp[setCells]
  rw[hset]
  obtain⟨hA,eA⟩:∃hA,hA=ak h n (.box (.agg (rM bs::.int .i64 ((j+1:Nat):Int)::rest))):=⟨_,rfl⟩
  rw[<- eA]at hK ⊢
  have a1:hA n=.box (.agg (rM bs::.int .i64 ((j+1:Nat):Int)::rest)):=by rw[eA,ag]
  have e1:(∃v,hA n=.box v)=True:=eq_true ⟨_,a1⟩
  simp only[↓zh,a1,Slot.used,true_and,↓vr,↓qU,a1,↓cV,hU,Nat.zero_add,List.getElem?_cons_succ,List.getElem?_cons_zero,rM,↓wq,List.length_map,↓pV]
  by_cases hc:bs.length<j+1
  · have hc':(bs.length:Int)<((j+1:Nat):Int):=by omega
    simp only[hc',decide_true,aI]
    exact hK 0 (by omega)
  · have hc':¬(bs.length:Int)<((j+1:Nat):Int):=by omega
    have w2:IntKind.i64.wrap (((j+1:Nat):Int)-1)=(j:Int):=by rw[wrap64 (by omega) (by omega)];omega
    simp only[hc',decide_false,aF,↓jE,w2,↓qX,↓w9,List.length_map]
    refine⟨by omega,by omega,fun d hd=>?_⟩
    obtain⟨b,hbm,rfl⟩:=F5 hd
    have hb2:=hb b hbm
    have w3:IntKind.i64.wrap (b:Int)=(b:Int):=wrap64 (by omega) (by omega)
    simp only[yC,List.length_singleton,true_and,↓vr,↓w8,↓cV,List.getElem?_cons_zero,↓Fs,↓ot,w3]
    exact hK b hb2
theorem cQ {h:Heap}{n k:Nat}{arrs:D}{s:MS}(r:aH h n k arrs s) (hk:k<1000000){KH:D->Heap->Prop}(hK:∀(b:Nat) (h':Heap),b<=255->aH h' n (k+1) arrs s->aA n h h'->KH (.int .i64 (b:Int)) h') :
    ae PP ah [.ptr n 0 0] h KH:=by
  obtain⟨bs,j,vL,vB,vs,h1,h2,h3,h4,h5⟩:=r.st
  refine zk h4 h1 h2 (by omega) fun b hb=>hK b _ hb ⟨bs,j+1,vL,vB,vs,h1,h2,by omega,ag _ _ _,h5.box h4 _⟩ aA.self
theorem aP (a b:Nat):((a:Int).tmod (b:Int))=((a % b:Nat):Int):=(Int.ofNat_tmod a b).symm
theorem uK {h:Heap}{n k:Nat}{arrs:D}{s:MS}(r:aH h n k arrs s) (hk:k<1000000){KH:D->Heap->Prop}(hK:∀(b:Nat) (h':Heap),b<6->aH h' n (k+1) arrs s->aA n h h'->KH (fT (b:Int)).e h') :
    ae PP aK [.ptr n 0 0] h KH:=by
  refine bZ iK (an _ _ _) rfl (iI _ _) ?_
  unfold gD
  rw[gu]
  intro m t
  obtain⟨r1,hne⟩:=r.new t.free (.box (.agg [(.int .i64 0),(.int .i64 0),(.int .i32 0)]))
  refine cQ r1 hk fun b h' hb r2 hkeep=>?_
  have hm:=hkeep m _ hne (ag _ _ _)
  have e6:((b:Int).tmod 6)=((b % 6:Nat):Int):=aP b 6
  rw[bS]
  refine⟨by omega,?_⟩
  rw[e6]
  refine dP qe ⟨aX,trivial⟩ ?_
  simp only[↓ki,hm]
  refine⟨by first|rfl|trivial,(dT.qW _).one,by first|rfl|trivial,by simp,?_⟩
  have hset:setCells (.agg [(.int .i64 0),(.int .i64 0),(.int .i32 0)]) 0 (fT ((b % 6:Nat):Int)).e.cells=(fT ((b % 6:Nat):Int)).e:=rfl
  rw[hset]
  simp only[↓qU,ag,true_and]
  refine⟨by simp[dT.e,dT.cs],?_⟩
  refine hK (b % 6) _ (Nat.mod_lt _ (by omega)) (r2.cr hm hne _) fun q d hq hd=>?_
  have hqm:q≠m:=by rintro rfl;rw[t.free]at hd;cases hd
  rw[ab _ _ hqm]
  exact hkeep q d hq (by rw[ab _ _ hqm];exact hd)
def uM (o:dT):Prop:=(∃b:Nat,b<6/\o=fT b)\/∃v:Int,-20<=v/\v<=65/\o=Const v
theorem qd {h:Heap}{n k:Nat}{arrs:D}{s:MS}(r:aH h n k arrs s) (hk:k<1000000){KH:D->Heap->Prop}(hK:∀(o:dT) (h':Heap),uM o->aH h' n (k+1) arrs s->aA n h h'->KH o.e h') :
    ae PP aG [.ptr n 0 0] h KH:=by
  refine bZ iJ (an _ _ _) rfl (iG _ _) ?_
  unfold gC
  rw[gu]
  intro m t
  obtain⟨r1,hne⟩:=r.new t.free (.box (.agg [(.int .i64 0),(.int .i64 0),(.int .i32 0)]))
  refine cQ r1 hk fun b h' hb r2 hkeep=>?_
  have hm:=hkeep m _ hne (ag _ _ _)
  have fin:∀o:dT,uM o->aa PP (.st (.c (.ptr m 0 0)) (.c o.e) 3) h' fun _ h1=>aa PP (.ld (.c (.ptr m 0 0)) 3 true) h1 fun a _=>KH a h1:=by
    intro o ho
    simp only[↓ki,hm]
    refine⟨by first|rfl|trivial,(dT.qW _).one,by first|rfl|trivial,by simp[dT.e,dT.cs],?_⟩
    have hset:setCells (.agg [(.int .i64 0),(.int .i64 0),(.int .i32 0)]) 0 o.e.cells=o.e:=rfl
    rw[hset]
    simp only[↓qU,ag,true_and]
    refine⟨by simp[dT.e,dT.cs],?_⟩
    refine hK o _ ho (r2.cr hm hne _) fun q d hq hd=>?_
    have hqm:q≠m:=by rintro rfl;rw[t.free]at hd;cases hd
    rw[ab _ _ hqm]
    exact hkeep q d hq (by rw[ab _ _ hqm];exact hd)
  have e3:((b:Int).tmod 3)=((b % 3:Nat):Int):=aP b 3
  have d3:IntKind.i64.wrap ((b:Int).tdiv 3)=((b / 3:Nat):Int):=by
    have:((b:Int).tdiv 3)=((b / 3:Nat):Int):=(Int.ofNat_tdiv b 3).symm
    rw[this];exact wrap64 (by omega) (by omega)
  rw[bS]
  refine⟨by omega,?_⟩
  rw[e3,dW]
  by_cases hc:b % 3=0
  · have hc':((b % 3:Nat):Int)=0:=by omega
    simp only[hc',decide_true,aI,↓Cb]
    refine⟨by omega,?_⟩
    have w:IntKind.i32.wrap ((b / 3:Nat):Int)=((b / 3:Nat):Int):=by simp only[IntKind.wrap,IntKind.signed,IntKind.bits];simp;omega
    have w2:IntKind.i32.wrap (((b / 3:Nat):Int)-20)=((b / 3:Nat):Int)-20:=by simp only[IntKind.wrap,IntKind.signed,IntKind.bits];simp;omega
    rw[d3,ot,w,jE,w2]
    refine dP po ⟨aX,trivial⟩ ?_
    exact fin _ (Or.inr ⟨_,by omega,by omega,rfl⟩)
  · have hc':¬((b % 3:Nat):Int)=0:=by omega
    simp only[hc',decide_false,aF,↓Cb]
    refine⟨by omega,?_⟩
    rw[d3,bS]
    refine⟨by omega,?_⟩
    have e6:(((b / 3:Nat):Int).tmod 6)=((b / 3 % 6:Nat):Int):=aP (b / 3) 6
    rw[e6]
    refine dP qe ⟨aX,trivial⟩ ?_
    exact fin _ (Or.inl ⟨b / 3 % 6,Nat.mod_lt _ (by omega),rfl⟩)
theorem fP {vs:List D}{bs:List Block}(h:vs.length=bs.length):(bC vs bs).length=bs.length:=by simp[bC,h]
theorem DQ {vs:List D}{bs:List Block}(h:vs.length=bs.length) (v:D) (b:Block):bC (vs++[v]) (bs++[b])=bC vs bs++[.agg (v::b.t.cs)]:=by
  simp[bC,List.zipWith_append h]
theorem tU {vs:List D}{bs:List Block}{k:Nat}{v:D}{b:Block}(h1:vs[k]?=some v) (h2:bs[k]?=some b):(bC vs bs)[k]?=some (.agg (v::b.t.cs)):=by
  simp[bC,List.getElem?_zipWith,h1,h2]
theorem yA {vs:List D}{bs:List Block}(h:vs.length=bs.length){k:Nat}(hk:k<bs.length) (v:D) (b:Block):(bC vs bs).set k (.agg (v::b.t.cs))=bC (vs.set k v) (bs.set k b):=by
  refine List.ext_getElem? fun i=>?_
  simp only[bC,List.getElem?_set,List.length_zipWith,List.getElem?_zipWith,h,Nat.min_self]
  by_cases hi:k=i
  · subst hi;simp[hk]
  · simp[hi]
theorem sf {esz:Nat}{h:Heap}{v:D}{els:List D}(ho:Own esz h v els) (hne:els≠[]):∃n,v=.ms n 0 els.length/\h n=.arr esz els:=by
  rcases ho with⟨-,h2⟩|h
  · exact absurd h2 hne
  · exact h
theorem Gw:(D.agg (.nil::gZ.cs))=.agg [.nil,.int .i64 0,.int .i64 0,.int .i64 0,.int .i64 0,.int .i32 0,.int .i64 0,.int .i64 0,.int .i32 0,.int .i64 0,.int .i64 0,.int .i32 0,.int .i64 0,.int .i64 0]:=rfl
theorem aS {d:D}{l:List D}:bc (d::l)=d.iP++bc l:=by simp[bc]
theorem l7 {l l':List D}:bc (l++l')=bc l++bc l':=by simp[bc]
theorem js {d:D}{l:List D}(h:d∈l){k:Nat}(hk:k∈d.iP):k∈bc l:=List.mem_flatMap.2 ⟨d,h,hk⟩
theorem GY {h:Heap}{n k:Nat}{arrs:D}{s:MS}(r:aH h n k arrs s) (hlen:s.blocks.length<1000){KH:D->Heap->Prop}
    (hK:∀h':Heap,aH h' n k arrs { s with blocks:=s.blocks++[⟨[],gZ⟩] }->aA n h h'->KH (.tup []) h'):ae PP aN [.ptr n 0 0] h KH:=by
  refine bZ mD (an _ _ _) rfl (mw _ _) ?_
  unfold jh
  obtain⟨bs,j,vL,vB,vs,h1,h2,h3,h4,h5⟩:=r.st
  simp only[↓ov,h4,Slot.live,Slot.used,true_and,↓qU,bV,↓cV,hU,Nat.zero_add,Nat.reduceAdd,List.getElem?_cons_succ,List.getElem?_cons_zero,↓ou]
  refine⟨by intro p hp;simp at hp,?_⟩
  have hel:=fP h5.len
  simp only[List.map_nil,fillD]
  have hd:vR (D.agg (.nil::gZ.cs)):=dR (by simp[Term.cs,gZ])
  rw[<- Gw]
  refine y7 h5.oB hd rfl (by rw[hel];omega) (by rw[hel];omega) fun m h' f1 f2 f3=>?_
  have hnm:n≠m:=by rintro rfl;rw[h4]at f1;cases f1
  have hnB:n∉vB.iP:=fun hm=>by have:=lZ h5.oB hm;rw[h4]at this;cases this
  have h4':h' n=h n:=f3 n hnm hnB (by rw[h4];simp)
  simp only[↓ov,h4',h4,Slot.live,Slot.used,true_and,bV,Nat.zero_add,Nat.reduceAdd,↓ki]
  refine⟨rfl,by simp,by simp,?_⟩
  refine hK _ ⟨bs,j,vL,.ms m 0 ((bC vs s.blocks).length+1),vs++[.nil],h1,h2,h3,?_,?_⟩ fun q d hq hd=>?_
  · rw[ag];simp[setCells,bV]
  ·
    have hnew:∀k',k'∈bc (vL::vB::vs)->h k'≠.free:=fun k' hk'=>by obtain⟨e,l,hkl⟩:=h5.arr hk';rw[hkl];simp
    have hmn:m∉bc (vL::vB::vs):=fun hm=>hnew m hm f1
    have hnd:=h5.nd
    rw[aS,aS]at hnd hmn
    simp only[List.mem_append,not_or]at hmn
    have same:∀k',k'∈bc (vL::vs)->(ak h' n (.box (setCells (.agg [rM bs,.int .i64 (j:Int),.int .i64 s.group,.int .i64 s.sub,.int .i64 s.regs,.int .i64 0,.int .i64 3,arrs,vL,vB]) 9 (D.ms m 0 ((bC vs s.blocks).length+1)).cells))) k'=h k':=by
      intro k' hk'
      rw[aS,List.mem_append]at hk'
      have hkk:k'∈bc (vL::vB::vs):=by rw[aS,aS];simp only[List.mem_append];rcases hk' with h|h<;>simp[h]
      have e1:k'≠n:=by
        rintro rfl
        obtain⟨e,l,hkl⟩:=h5.arr hkk
        rw[h4]at hkl;cases hkl
      have e2:k'≠m:=by
        rintro rfl
        rcases hk' with h|h
        · exact hmn.1 h
        · exact hmn.2.2 h
      have e3:k'∉vB.iP:=by
        intro hB
        rcases hk' with h|h
        · exact(List.nodup_append.1 hnd).2.2 k' h k' (by simp[hB]) rfl
        · exact(List.nodup_append.1 (List.nodup_append.1 hnd).2.1).2.2 k' hB k' h rfl
      rw[ab _ _ e1]
      exact f3 k' e2 e3 (hnew k' hkk)
    have oB':Own 14 h' (.ms m 0 ((bC vs s.blocks).length+1)) (bC (vs++[.nil]) (s.blocks++[⟨[],gZ⟩])):=by
      rw[DQ h5.len]
      exact Or.inr ⟨m,by simp,f2⟩
    refine⟨cn h5.oL fun k' q=>same k' (js (by simp) q),cn oB' fun k' q=>?_,by simp[h5.len],fun i v b hv hb=>?_,?_⟩
    · simp only[D.iP,List.mem_singleton]at q
      subst q
      exact ab _ _ hnm.symm
    · rcases Nat.lt_or_ge i vs.length with hi|hi
      · rw[List.getElem?_append_left hi]at hv
        rw[List.getElem?_append_left (by rw[<- h5.len];exact hi)]at hb
        refine cn (h5.oI i v b hv hb) fun k' q=>same k' (js ?_ q)
        have:=List.mem_of_getElem? hv
        simp[this]
      · rw[List.getElem?_append_right hi]at hv
        rw[List.getElem?_append_right (by rw[<- h5.len];exact hi)]at hb
        have hz:i-vs.length=0:=by
          have:=(List.getElem?_eq_some_iff.1 hv).1
          simp at this;omega
        rw[<- h5.len,hz]at hb
        rw[hz]at hv
        simp at hv hb
        subst hv hb
        exact Or.inl ⟨rfl,rfl⟩
    · rw[aS,aS,l7]
      simp only[D.iP,bc,List.flatMap_cons,List.flatMap_nil,List.append_nil,List.singleton_append]
      have hndL:=(List.nodup_append.1 hnd).1
      have hndR:=(List.nodup_append.1 (List.nodup_append.1 hnd).2.1).2.1
      have hnLR:∀a∈vL.iP,∀b,b∈bc vs->a≠b:=fun a ha b hb=>(List.nodup_append.1 hnd).2.2 a ha b (by simp[hb])
      refine List.nodup_append.2 ⟨hndL,List.nodup_cons.2 ⟨hmn.2.2,hndR⟩,fun a ha b hb=>?_⟩
      rcases List.mem_cons.1 hb with rfl|hb
      · rintro rfl;exact hmn.1 ha
      · exact hnLR a ha b hb
  · rw[ab _ _ hq]
    have e2:q≠m:=by rintro rfl;rw[hd]at f1;cases f1
    have e3:q∉vB.iP:=fun hm=>by have:=lZ h5.oB hm;rw[hd]at this;cases this
    rw[f3 q e2 e3 (by rw[hd];simp)];exact hd
def xU (bs:List Block) (i:Nat) (t:Term):List Block:=bs.modify i fun b=>{ b with t:=t }
def vt (bs:List Block) (i:Nat) (x:bf):List Block:=bs.modify i fun b=>{ b with i:=b.i++[x] }
theorem me {α:Type}{l:List α}{i:Nat}{a:α}{f:α->α}(h:l[i]?=some a):l.modify i f=l.set i (f a):=by
  refine List.ext_getElem? fun k=>?_
  rw[List.getElem?_modify,List.getElem?_set]
  by_cases e:i=k
  · subst e
    have:=(List.getElem?_eq_some_iff.1 h).1
    have e2:=(List.getElem?_eq_some_iff.1 h).2
    simp[this,e2]
  · simp[e]
theorem wE {bs:List Block}{i:Nat}{t:Term}:(xU bs i t).length=bs.length:=by simp[xU]
theorem AY {bs:List Block}{i:Nat}{t:bf}:(vt bs i t).length=bs.length:=by simp[vt]
theorem aH.some {h:Heap}{n k:Nat}{arrs:D}{s:MS}(r:aH h n k arrs s) (hne:s.blocks≠[]):∃(bs:List Nat) (j:Nat) (vL:D) (nb:Nat) (vs:List D),(∀b∈bs,b<=255)/\bs.length<=9223372036854775807/\j<=k /\
    h n=.box (bV bs j arrs s vL (.ms nb 0 s.blocks.length))/\h nb=.arr 14 (bC vs s.blocks)/\Rows h s.loops s.blocks vL (.ms nb 0 s.blocks.length) vs:=by
  obtain⟨bs,j,vL,vB,vs,h1,h2,h3,h4,h5⟩:=r.st
  have hel:=fP h5.len
  obtain⟨nb,e1,e2⟩:=sf h5.oB (by
    intro he
    have:=congrArg List.length he
    rw[hel]at this
    exact hne (List.length_eq_zero_iff.1 this))
  rw[hel]at e1
  subst e1
  exact⟨bs,j,vL,nb,vs,h1,h2,h3,h4,e2,h5⟩
theorem Rows.Jv {h:Heap}{loops:List Loop}{blocks blocks':List Block}{vL:D}{nb:Nat}{vs vs':List D}(r:Rows h loops blocks vL (.ms nb 0 blocks.length) vs) (hl:blocks'.length=blocks.length) (hv:vs'.length=blocks'.length){h':Heap}
    (hkeep:∀k,k∈bc (vL::vs)->k∈bc (vL::vs')->h' k=h k) (hnb:h' nb=.arr 14 (bC vs' blocks')) (hL:∀k∈vL.iP,h' k=h k)
    (hI:∀(k:Nat) (v:D) (b:Block),vs'[k]?=some v->blocks'[k]?=some b->Own 15 h' v (b.i.map bf.e)) (hnd:(bc (vL::D.ms nb 0 blocks.length::vs')).Nodup):Rows h' loops blocks' vL (.ms nb 0 blocks'.length) vs':=by
  refine⟨cn r.oL hL,Or.inr ⟨nb,by rw[fP hv],hnb⟩,hv,hI,?_⟩
  rw[hl];exact hnd
theorem Rows.fresh {h:Heap}{loops:List Loop}{blocks:List Block}{vL vB:D}{vs:List D}(r:Rows h loops blocks vL vB vs){m:Nat}(hm:h m=.free):m∉bc (vL::vB::vs):=fun hk=>by
  obtain⟨e,l,hkl⟩:=r.arr hk
  rw[hm]at hkl;cases hkl
theorem si {vL:D}{nb l:Nat}{vs:List D}(h:(bc (vL::D.ms nb 0 l::vs)).Nodup):nb∉bc (vL::vs)/\(bc (vL::vs)).Nodup:=by
  rw[aS,aS]at h
  rw[aS]
  simp only[D.iP]at h
  have h1:=List.nodup_append.1 h
  have h2:=List.nodup_cons.1 (show(nb::bc vs).Nodup from h1.2.1)
  refine⟨fun hm=>?_,List.nodup_append.2 ⟨h1.1,h2.2,fun a ha b hb=>h1.2.2 a ha b (by simp[hb])⟩⟩
  rcases List.mem_append.1 hm with hm|hm
  · exact h1.2.2 nb hm nb (by simp) rfl
  · exact h2.1 hm
theorem GA {h:Heap}{n k i:Nat}{arrs:D}{s:MS}{t:Term}{bs:List Nat}{j nb:Nat}{vL:D}{vs:List D}(h1:∀b∈bs,b<=255) (h2:bs.length<=9223372036854775807) (h3:j<=k) (h4:h n=.box (bV bs j arrs s vL (.ms nb 0 s.blocks.length)))
    (h5:h nb=.arr 14 (bC vs s.blocks)) (h6:Rows h s.loops s.blocks vL (.ms nb 0 s.blocks.length) vs) (hi:i<s.blocks.length) {KH:D->Heap->Prop}
    (hK:∀h',aH h' n k arrs { s with blocks:=xU s.blocks i t }->aA n h h'->KH .undef h'):aa PP (.st (.c (.ptr nb i 1)) (.c t.e) 13) h KH:=by
  have hel:=fP h6.len
  obtain⟨v,hv⟩:∃v,vs[i]?=some v:=⟨vs[i]'(by rw[h6.len];exact hi),List.getElem?_eq_getElem _⟩
  obtain⟨b,hb⟩:∃b,s.blocks[i]?=some b:=⟨s.blocks[i],List.getElem?_eq_getElem _⟩
  have hget:=tU hv hb
  rw[ki]
  simp only[h5,hget,Option.some.injEq,forall_eq']
  refine⟨rfl,(Term.qW t).one,by rw[hel];exact hi,by simp[Term.e,Term.cs],?_⟩
  have hset:setCells (.agg (v::b.t.cs)) 1 t.e.cells=.agg (v::t.cs):=by simp[setCells,Term.e,Term.cs]
  rw[hset]
  have hmod:xU s.blocks i t=s.blocks.set i { b with t:=t }:=by
    rw[xU];exact me hb
  have e1:(bC vs s.blocks).set i (.agg (v::t.cs))=bC vs (xU s.blocks i t):=by
    have:=yA h6.len hi v { b with t:=t }
    rw[show vs.set i v=vs from ?_]at this
    · rw[hmod];exact this
    · refine List.ext_getElem? fun q=>?_
      rw[List.getElem?_set]
      split
      · rename_i hq;subst hq;rw[if_pos (by rw[h6.len];exact hi),hv]
      · rfl
  rw[e1]
  have nnb:n≠nb:=by rintro rfl;rw[h4]at h5;cases h5
  obtain⟨hs1,hs2⟩:=si h6.nd
  refine hK _ ⟨bs,j,vL,.ms nb 0 (xU s.blocks i t).length,vs,h1,h2,h3,?_,?_⟩ fun q d hq hd=>?_
  · rw[ab _ _ nnb,h4,wE];rfl
  · refine Rows.Jv h6 (by rw[wE]) (by rw[wE];exact h6.len) (fun q hq _=>?_) (ag _ _ _) (fun q hq=>?_) (fun q v' b' hv' hb'=>?_) h6.nd
    · rw[ab _ _ (by rintro rfl;exact hs1 hq)]
    · rw[ab _ _ (by rintro rfl;exact hs1 (by rw[aS];simp[hq]))]
    · obtain⟨b2,hb2,Ln⟩:∃b2,s.blocks[q]?=some b2/\b'.i=b2.i:=by
        simp only[xU,List.getElem?_modify]at hb'
        cases hq:s.blocks[q]? with
        | none=>rw[hq]at hb';simp at hb'
        | some b2 =>
          rw[hq]at hb'
          simp at hb'
          refine⟨b2,rfl,?_⟩
          rw[<- hb'];split<;>rfl
      rw[Ln]
      refine cn (h6.oI q v' b2 hv' hb2) fun q' hq'=>?_
      rw[ab _ _ (by rintro rfl;exact hs1 (by rw[aS];simp[js (List.mem_of_getElem? hv') hq']))]
  · rw[ab _ _ (by rintro rfl;rw[hd]at h5;cases h5)];exact hd
set_option maxHeartbeats 1000000 in
theorem Kg {h:Heap}{n k:Nat}{arrs:D}{s:MS}{x:bf}{L:Nat}(r:aH h n k arrs s) (hL:s.blocks.length=L+1) (hlen:L<1000) (hil:∀b∈s.blocks,b.i.length<1000){KH:D->Heap->Prop}
    (hK:∀h':Heap,aH h' n k arrs { s with blocks:=vt s.blocks L x }->aA n h h'->KH (.tup []) h'):ae PP aw [.ptr n 0 0,x.e] h KH:=by
  refine bZ oS (an _ _ _) rfl (oK _ _ _) ?_
  unfold kH
  rw[CI]
  refine⟨(bf.qW x).one,fun m t=>?_⟩
  obtain⟨r1,hmn⟩:=r.new t.free (.box x.e)
  obtain⟨hA,eA⟩:∃hA,hA=ak h m (.box x.e):=⟨_,rfl⟩
  rw[<- eA]at r1 ⊢
  have am:hA m=.box x.e:=by rw[eA,ag]
  have keepA:aA n h hA:=by rw[eA];exact aA.new t.free
  obtain⟨bs,j,vL,nb,vs,h1,h2,h3,h4,h5,h6⟩:=r1.some (by intro he;rw[he]at hL;simp at hL)
  have hel:=fP h6.len
  have hLs:s.blocks.length=L+1:=hL
  obtain⟨v,hv⟩:∃v,vs[L]?=some v:=⟨vs[L]'(by rw[h6.len,hLs];omega),List.getElem?_eq_getElem _⟩
  obtain⟨b,hb⟩:∃b,s.blocks[L]?=some b:=⟨s.blocks[L]'(by rw[hLs];omega),List.getElem?_eq_getElem _⟩
  have hget:=tU hv hb
  have w1:IntKind.i64.wrap (((L+1:Nat):Int)-1)=(L:Int):=by rw[wrap64 (by omega) (by omega)];omega
  have c1:(0:Int)<=(L:Int):=by omega
  have c2:(L:Int)<((L+1:Nat):Int):=by omega
  have hbl:=hil b (List.mem_of_getElem? hb)
  have oV:=h6.oI L v b hv hb
  have hrow:(∃els,(Slot.arr 14 (bC vs s.blocks)).row=some (14,els))=True:=eq_true ⟨_,rfl⟩
  have hLe:(L<(bC vs s.blocks).length)=True:=eq_true (by rw[hel,hLs];omega)
  simp only[↓ov,h4,Slot.used,true_and,↓qU,bV,↓cV,hU,Nat.zero_add,Nat.reduceAdd,List.getElem?_cons_succ,List.getElem?_cons_zero,↓lU,h5,Slot.live,hLs,↓jE,w1,↓zh,↓vr,↓qX,↓oq,c1,c2,hrow,Int.toNat_natCast,hLe,hget,Option.some.injEq,forall_eq',am,↓o9]
  refine⟨Nat.le_refl _,?_⟩
  have hbld:∀{Q:D->Prop}{h:Heap}{z:D},(∀y∈z.cells,y.vone=true)->Q (.sl [x.e])->af PP (.bldS false 15 1 z [(0,.c (.agg (List.take 15 (List.drop 0 x.e.cells))))]) h Q:=by
    intro Q h z hz hq
    have e1:D.agg (List.take 15 (List.drop 0 x.e.cells))=x.e:=rfl
    rw[e1]
    refine⟨?_,?_,hz,hq⟩
    · intro p hp;simp[Arg.get]at hp;subst hp;exact⟨Nat.one_pos,rfl,(bf.qW x).one⟩
    · intro p hp;simp[Arg.get]at hp;subst hp;intro y hy;simp[bf.e,bf.cs]at hy;rcases hy with rfl|rfl|rfl|rfl|rfl|rfl|rfl|rfl|rfl|rfl|rfl|rfl|rfl|rfl|rfl<;>rfl
  refine hbld (by simp) ?_
  refine IJ oV (bf.qW x).one rfl (by simp;omega) (by simp;omega) fun m2 hB f1 f2 f3=>?_
  have vB:nb∉v.iP:=fun hm=>by
    have:=(si h6.nd).1
    exact this (by rw[aS];exact List.mem_append_right _ (js (List.mem_of_getElem? hv) hm))
  have vN:n∉v.iP:=fun hm=>by have:=lZ oV hm;rw[h4]at this;cases this
  have n2:n≠m2:=by rintro rfl;rw[h4]at f1;cases f1
  have b2:nb≠m2:=by rintro rfl;rw[h5]at f1;cases f1
  have nnb:n≠nb:=by rintro rfl;rw[h4]at h5;cases h5
  have g4:hB n=Slot.box (bV bs j arrs s vL (D.ms nb 0 s.blocks.length)):=by rw[f3 n n2 vN];exact h4
  have g5:hB nb=Slot.arr 14 (bC vs s.blocks):=by rw[f3 nb b2 vB];exact h5
  simp only[g4,g5,bV,hU,List.getElem?_cons_succ,List.getElem?_cons_zero,hLs,aq,hrow,true_and,↓ki]
  have hset:setCells (.agg (v::b.t.cs)) 0 (D.ms m2 0 ((List.map bf.e b.i).length+1)).cells=.agg (D.ms m2 0 ((List.map bf.e b.i).length+1)::b.t.cs):=by simp[setCells]
  refine⟨rfl,by simp,by rw[hel,hLs];omega,by simp,fun d hd=>?_⟩
  rw[hget]at hd
  cases hd
  rw[hset]
  have els2:(bC vs s.blocks).set L (.agg (D.ms m2 0 ((List.map bf.e b.i).length+1)::b.t.cs))=bC (vs.set L (.ms m2 0 (b.i.length+1))) (vt s.blocks L x):=by
    have:=yA h6.len (k:=L) (by rw[hLs];omega) (.ms m2 0 (b.i.length+1)) { b with i:=b.i++[x] }
    rw[List.length_map,vt,me hb]
    exact this
  rw[els2]
  obtain⟨hC,eC⟩:∃hC,hC=ak hB nb (.arr 14 (bC (vs.set L (.ms m2 0 (b.i.length+1))) (vt s.blocks L x))):=⟨_,rfl⟩
  rw[<- eC]
  have k4:hC n=Slot.box (bV bs j arrs s vL (D.ms nb 0 s.blocks.length)):=by rw[eC,ab _ _ nnb];exact g4
  have k5:hC nb=.arr 14 (bC (vs.set L (.ms m2 0 (b.i.length+1))) (vt s.blocks L x)):=by rw[eC,ag]
  have k6:∀q,q≠m2->q∉v.iP->q≠nb->hC q=hA q:=fun q q1 q2 q3=>by rw[eC,ab _ _ q3];exact f3 q q1 q2
  have k7:hC m2=.arr 15 (b.i.map bf.e++[x.e]):=by rw[eC,ab _ _ b2.symm];exact f2
  simp only[k4,k5,bV,hU,List.getElem?_cons_succ,List.getElem?_cons_zero,hLs,aq,true_and]
  refine⟨by simp[Slot.row],?_⟩
  have fr:m2∉bc (vL::D.ms nb 0 s.blocks.length::vs):=h6.fresh f1
  have hvs:(vs.set L (D.ms m2 0 (b.i.length+1))).length=(vt s.blocks L x).length:=by rw[List.length_set,h6.len,AY]
  obtain⟨hs1,hs2⟩:=si h6.nd
  have hLv:L<vs.length:=(List.getElem?_eq_some_iff.1 hv).1
  have split:∃p q,vs=p++v::q/\p.length=L:=by
    refine⟨vs.take L,vs.drop (L+1),?_,by simp;omega⟩
    have:=List.getElem?_eq_some_iff.1 hv
    rw[<- this.2]
    exact(List.take_append_drop L vs).symm.trans (by rw[List.drop_eq_getElem_cons hLv])
  obtain⟨p,q,epq,epl⟩:=split
  have eset:vs.set L (D.ms m2 0 (b.i.length+1))=p++D.ms m2 0 (b.i.length+1)::q:=by
    rw[epq, <- epl];simp
  have nd0:(bc (vL::vs)).Nodup:=hs2
  rw[epq,aS,l7,aS]at nd0
  have ndL:=List.nodup_append.1 nd0
  have ndP:=List.nodup_append.1 ndL.2.1
  have ndQ:=List.nodup_append.1 ndP.2.1
  have memV:∀k',k'∈v.iP->∀k2,(k2∈vL.iP\/k2∈bc p\/k2∈bc q)->k2≠k':=by
    intro k' hk' k2 hk2
    rcases hk2 with h|h|h
    · exact ndL.2.2 k2 h k' (by simp[hk'])
    · exact ndP.2.2 k2 h k' (by simp[hk'])
    · exact fun e=>ndQ.2.2 k' hk' k2 h e.symm
  have frP:∀k2,(k2∈vL.iP\/k2∈bc p\/k2∈bc q)->k2≠m2/\k2∉v.iP/\k2≠nb:=by
    intro k2 hk2
    have hin:k2∈bc (vL::vs):=by
      rw[epq,aS,l7,aS]
      simp only[List.mem_append]
      rcases hk2 with h|h|h<;>simp[h]
    refine⟨?_,fun hm=>memV k2 hm k2 hk2 rfl,fun e=>hs1 (e ▸ hin)⟩
    rintro rfl
    refine fr ?_
    rw[aS]at hin
    rw[aS,aS]
    simp only[List.mem_append]at hin ⊢
    rcases hin with h|h<;>simp[h]
  refine hK _ ⟨bs,j,vL,.ms nb 0 (vt s.blocks L x).length,vs.set L (.ms m2 0 (b.i.length+1)),h1,h2,h3,by rw[AY];exact k4,?_⟩ fun q' d hq hd=>?_
  · refine⟨cn h6.oL fun k' hk'=>?_,Or.inr ⟨nb,by rw[fP hvs],k5⟩,hvs,fun k' v' b' hv' hb'=>?_,?_⟩
    · obtain⟨q1,q2,q3⟩:=frP k' (Or.inl hk')
      exact k6 k' q1 q2 q3
    · rw[vt,me hb]at hb'
      rw[List.getElem?_set]at hv' hb'
      by_cases e:L=k'
      · subst e
        rw[if_pos rfl,if_pos hLv]at hv'
        rw[if_pos rfl,if_pos (by rw[hLs];omega)]at hb'
        cases hv';cases hb'
        exact Or.inr ⟨m2,by simp,by rw[k7];simp⟩
      · rw[if_neg e]at hv' hb'
        refine cn (h6.oI k' v' b' hv' hb') fun k2 hk2=>?_
        have hpq:k2∈bc p\/k2∈bc q:=by
          rw[epq]at hv'
          rcases Nat.lt_or_ge k' L with h|h
          · rw[List.getElem?_append_left (by omega)]at hv'
            exact Or.inl (js (List.mem_of_getElem? hv') hk2)
          · rw[List.getElem?_append_right (by omega)]at hv'
            obtain⟨w,hw⟩:∃w,k'-p.length=w+1:=⟨k'-p.length-1,by omega⟩
            rw[hw,List.getElem?_cons_succ]at hv'
            exact Or.inr (js (List.mem_of_getElem? hv') hk2)
        obtain⟨q1,q2,q3⟩:=frP k2 (Or.inr hpq)
        exact k6 k2 q1 q2 q3
    · rw[eset,aS,aS,l7,aS]
      show(vL.iP++(nb::(bc p++(m2::bc q)))).Nodup
      have nbp:∀k2,(k2∈vL.iP\/k2∈bc p\/k2∈bc q)->k2≠nb:=fun k2 h=>(frP k2 h).2.2
      have m2p:∀k2,(k2∈vL.iP\/k2∈bc p\/k2∈bc q)->k2≠m2:=fun k2 h=>(frP k2 h).1
      refine List.nodup_append.2 ⟨ndL.1,?_,?_⟩
      · refine List.nodup_cons.2 ⟨?_,List.nodup_append.2 ⟨ndP.1,List.nodup_cons.2 ⟨fun h=>m2p m2 (Or.inr (Or.inr h)) rfl,ndQ.2.1⟩,?_⟩⟩
        · simp only[List.mem_append,List.mem_cons,List.not_mem_nil,or_false,List.singleton_append]
          rintro (h|h|h)
          · exact nbp nb (Or.inr (Or.inl h)) rfl
          · exact b2 h
          · exact nbp nb (Or.inr (Or.inr h)) rfl
        · intro a ha c hc
          rcases List.mem_cons.1 hc with rfl|hc
          · exact m2p a (Or.inr (Or.inl ha))
          · exact ndP.2.2 a ha c (by simp[hc])
      · intro a ha c hc
        rcases List.mem_cons.1 hc with rfl|hc
        · exact nbp a (Or.inl ha)
        rcases List.mem_append.1 hc with hc|hc
        · exact ndL.2.2 a ha c (by simp[hc])
        rcases List.mem_cons.1 hc with rfl|hc
        · exact m2p a (Or.inl ha)
        · exact ndL.2.2 a ha c (by simp[hc])
  · have e0:=keepA q' d hq hd
    have q1:q'≠m2:=by rintro rfl;rw[e0]at f1;cases f1
    have q2:q'∉v.iP:=fun hm=>by have:=lZ oV hm;rw[e0]at this;cases this
    have q3:q'≠nb:=by rintro rfl;rw[e0]at h5;cases h5
    rw[k6 q' q1 q2 q3];exact e0
end Go.Am
namespace Go.Am
open Go
theorem dT.len (o:dT):o.e.cells.length=3:=rfl
theorem dT.Gk (o:dT):o.e.cells.all D.one=true:=rfl
theorem Term.len (o:Term):o.e.cells.length=13:=rfl
def iT (s:MS) (pre:List Block) (is:List bf) (t:Term):MS:={ s with blocks:=pre++[⟨is,t⟩] }
structure Ea (pre:List Block) (is:List bf) (N:Nat):Prop where
  p:pre.length<=50
  b:∀b∈pre,b.i.length<=100
  i:is.length<=N
theorem Ea.le {pre:List Block}{is is':List bf}{N M:Nat}(b:Ea pre is N) (h:is'.length<=M):Ea pre is' M:=⟨b.p,b.b,h⟩
theorem uE {α:Type}(l:List α) (a:α) (f:α->α):(l++[a]).modify l.length f=l++[f a]:=by
  rw[me (a:=a) (by simp)]
  simp
theorem FA {h:Heap}{n k:Nat}{arrs:D}{s:MS}{pre:List Block}{is:List bf}{t:Term}{x:bf}(r:aH h n k arrs (iT s pre is t)) (hb:Ea pre is 900){KH:D->Heap->Prop}
    (hK:∀h':Heap,aH h' n k arrs (iT s pre (is++[x]) t)->aA n h h'->KH (.tup []) h'):ae PP aw [.ptr n 0 0,x.e] h KH:=by
  refine Kg (L:=pre.length) r (by simp[iT]) (by have:=hb.p;omega) (fun b hbm=>?_) fun h' r' hk=>hK h' ?_ hk
  · simp only[iT,List.mem_append,List.mem_singleton]at hbm
    rcases hbm with hbm|rfl
    · have:=hb.b b hbm;omega
    · have:=hb.i;simp only;omega
  · have:vt (iT s pre is t).blocks pre.length x=pre++[⟨is++[x],t⟩]:=by simp only[iT,vt];rw[uE]
    rw[this]at r'
    exact r'
def sN:List um:=[⟨⟨#[97]⟩,1,1,8⟩,⟨⟨#[102]⟩,1,2,4⟩,⟨⟨#[115]⟩,2,1,8⟩,⟨⟨#[112]⟩,3,1,4⟩,⟨⟨#[98]⟩,2,3,4⟩]
def aU:D:=.sl (sN.map um.e)
def xu (n:Int):Int:=if n=0\/n=2 then 8 else 4
def uF (d:dT) (a:dT) (n:Int):bf:=⟨3,17,0,d,a,Const (xu n-1),al⟩
theorem aH.box {h:Heap}{n k:Nat}{arrs:D}{s:MS}(r:aH h n k arrs s):∃(bs:List Nat) (j:Nat) (vL vB:D),h n=.box (bV bs j arrs s vL vB):=by
  obtain⟨bs,j,vL,vB,vs,-,-,-,h1,-⟩:=r.st
  exact⟨_,_,_,_,h1⟩
section
variable {P:Program}{KH:D->Heap->Prop}{K:D->Prop}{h:Heap}
theorem Lm {m:Nat}{o:dT}(a:h m=.box o.e):aa P (.ld (.c (.ptr m 0 0)) 3 true) h KH=KH o.e h:=Ad a
theorem xX {m:Nat}{o:dT}(a:h m=.box o.e):af P (.ld (.c (.ptr m 0 0)) 3 true) h K=K o.e:=by rw[vr,Lm a]
theorem Ko {m:Nat}{o o':dT}(a:h m=.box o.e):aa P (.st (.c (.ptr m 0 0)) (.c o'.e) 3) h KH=KH .undef (ak h m (.box o'.e)):=by
  unfold dT.e dT.cs at *
  exact KI a
theorem xk {n i j o:Nat}(a:(h n).used=true):af P (.fadd (.c (.ptr n i j)) o) h K=K (.ptr n i (j+o)):=by rw[zh,a];simp
theorem CH {n i j o:Nat}(a:(h n).used=true):aa P (.fadd (.c (.ptr n i j)) o) h KH=KH (.ptr n i (j+o)) h:=by rw[ov,a];simp
end
def BT (q:Nat):D:=((sN.map um.e)[q]?).getD .undef
theorem yE (q:Nat) (hq:q<5):(sN.map um.e)[q]?=some (BT q)/\(BT q).cells.length=4/\(BT q).cells[3]?=some (.int .i64 (xu q)):=by
  have:q=0\/q=1\/q=2\/q=3\/q=4:=by omega
  rcases this with rfl|rfl|rfl|rfl|rfl<;>exact⟨rfl,rfl,rfl⟩
theorem mo (q:Int):xu q=8\/xu q=4:=by unfold xu;split<;>simp
theorem xr {P:Program}{K:D->Prop}{h:Heap}{q:Nat}(hq:q<5):af P (.iadd (.c (.sl (sN.map um.e))) (.c (.int .i64 (q:Int))) 4) h K=K (.vp (BT q) 0):=by
  obtain⟨h1,h2,h3⟩:=yE q hq
  have hl:(List.map um.e sN).length=5:=rfl
  rw[qX,w9,Int.toNat_natCast,h1,hl]
  apply propext
  constructor
  · rintro⟨-,-,h⟩;exact(h _ rfl).2
  · intro hk;exact⟨by omega,by omega,fun d hd=>by cases hd;exact⟨h2,hk⟩⟩
theorem AQ {P:Program}{K:D->Prop}{h:Heap}{q:Nat}(hq:q<5):af P (.ld (.c (.vp (BT q) 3)) 1 false) h K=K (.int .i64 (xu q)):=by
  rw[vr,w8,cV,(yE q hq).2.2]
theorem AR {P:Program}{K:D->Prop}{h:Heap}{q:Nat}:af P (.fadd (.c (.vp (BT q) 0)) 3) h K=K (.vp (BT q) 3):=rfl
theorem C2 {h:Heap}{n k:Nat}{s:MS}{pre:List Block}{is:List bf}{t:Term}{priv:Bool}(r:aH h n k aU (iT s pre is t)) (hb:Ea pre is 800) (hk:k<900000){KH:D->Heap->Prop}
    (hK:∀(q:Nat) (d:Nat) (a:dT) (h':Heap),q<5->(priv=false->q≠3)->d<6->uM a->aH h' n (k+3) aU (iT s pre (is++[uF (fT d) a q]) t)->aA n h h'->KH (.tup [.int .i64 (q:Int),(fT (d:Int)).e]) h') :
    ae PP cb [.ptr n 0 0,.bool priv] h KH:=by
  refine bZ mB (an _ _ _) rfl (mu _ _ _) ?_
  unfold jf
  rw[gu]
  intro m t0
  obtain⟨r1,hne⟩:=r.new t0.free (.box al.e)
  have k1:aA n h (ak h m (.box al.e)):=aA.new t0.free
  refine cQ r1 (by omega) fun b hA _ r2 k2=>?_
  have hm:=k2 m _ hne (ag _ _ _)
  have k12:=k1.trans k2
  rw[bS]
  refine⟨by omega,?_⟩
  have e5:((b:Int).tmod 5)=((b % 5:Nat):Int):=aP b 5
  rw[e5]
  refine⟨fun qs h'=>∃q:Nat,qs=[.int .i64 (q:Int)]/\q<5/\(priv=false->q≠3)/\aH h' n (k+1) aU (iT s pre is t)/\h' m=.box al.e/\aA n h h',?_,?_⟩
  · rintro f hB ⟨q,hq,hq5,hp,r3,hm3,k3⟩
    simp only[List.cons.injEq,and_true]at hq
    rw[hq]
    refine uK r3 (by omega) fun d hC hd r4 k4=>?_
    rw[gu]
    intro m5 t5
    obtain⟨r5,hne5⟩:=r4.new t5.free (.box al.e)
    have hm4:=(aA.new t5.free:aA n hC (ak hC m5 (.box al.e))) m _ hne (k4 m _ hne hm3)
    have k5:=(k3.trans k4).trans (aA.new t5.free:aA n hC (ak hC m5 (.box al.e)))
    have a5:=ag hC m5 (.box al.e)
    have hmm:m≠m5:=t5.ne (by rw[k4 m _ hne hm3];simp)
    show aa PP _ (ak hC m5 (.box al.e)) _
    generalize ak hC m5 (.box al.e)=hD at r5 hm4 k5 a5
    have a6:=ag hD m5 (.box (fT (d:Int)).e)
    have r6:=r5.cr a5 hne5 (.box (fT (d:Int)).e)
    have hm6:ak hD m5 (.box (fT (d:Int)).e) m=.box al.e:=by rw[ab _ _ hmm];exact hm4
    rw[Ko a5]
    have k6:aA n h (ak hD m5 (.box (fT (d:Int)).e)):=fun q' d' hq' hd'=>by
      have h1:=k5 q' d' hq' hd'
      by_cases e:q'=m5
      · subst e
        exfalso
        have h2:=k4 q' d' hq' (k3 q' d' hq' hd')
        rw[t5.free]at h2;cases h2
      · rw[ab _ _ e];exact h1
    generalize ak hD m5 (.box (fT (d:Int)).e)=hE at r6 hm6 k6 a6
    obtain⟨bs,j,vL,vB,e⟩:=r6.box
    have eu:(hE n).used=true:=by rw[e];rfl
    unfold bV at e
    have w1:IntKind.i64.wrap (xu q-1)=xu q-1:=by rcases mo q with h|h<;>rw[h]<;>rfl
    have w2:IntKind.i32.wrap (xu q-1)=xu q-1:=by rcases mo q with h|h<;>rw[h]<;>rfl
    simp only[↓xX a6,↓xk eu,Nat.zero_add,Nat.reduceAdd,↓oC e (j:=7) rfl,aU,↓xr hq5,↓AR,↓AQ hq5,↓jE,w1,↓Fs,↓ot,w2]
    refine qd r6 (by omega) fun o hF ho r7 k7=>?_
    have a7:=k7 m5 _ hne5 a6
    have hm7:=k7 m _ hne hm6
    obtain⟨bs',j',vL',vB',e'⟩:=r7.box
    have eu':(hF n).used=true:=by rw[e'];rfl
    unfold bV at e'
    simp only[↓xX a7,↓xk eu',Nat.zero_add,Nat.reduceAdd,↓oC e' (j:=7) rfl,aU,↓xr hq5,↓AR,↓AQ hq5,aq,true_and]
    refine yO po ⟨aX,trivial⟩ ?_
    rw[Ft,ou]
    refine⟨jQ rfl,?_⟩
    refine FA (x:=uF (fT d) o q) r7 (hb.le (by have:=hb.i;omega)) fun hG r8 k8=>?_
    have a8:=k8 m5 _ hne5 a7
    have hm8:=k8 m _ hne hm7
    simp only[↓xX a8,↓Ko hm8,↓Lm (ag _ _ _)]
    refine hK q d o _ hq5 hp hd ho (r8.cr hm8 hne _) fun q' d' hq' hd'=>?_
    have h1:=k8 q' d' hq' (k7 q' d' hq' (k6 q' d' hq' hd'))
    by_cases ee:q'=m
    · subst ee;rw[t0.free]at hd';cases hd'
    · rw[ab _ _ ee];exact h1
  · rw[dW]
    by_cases h3:b % 5=3
    · have h3':(((b % 5:Nat):Int)=3)=True:=eq_true (by omega)
      simp only[h3',decide_true,↓KZ,↓K0,↓K3,↓K1,↓Hn]
      cases priv
      · simp only[Bool.not_false,↓zV,↓aI]
        exact⟨rfl,0,rfl,by omega,fun _=>by omega,r2,hm,k12⟩
      · simp only[Bool.not_true,↓zV,↓aF]
        exact⟨rfl,b % 5,rfl,Nat.mod_lt _ (by omega),fun h=>(by cases h),r2,hm,k12⟩
    · have h3':(((b % 5:Nat):Int)=3)=False:=eq_false (by omega)
      simp only[h3',decide_false,↓KZ,↓K0,↓K3,↓K1,↓Hn,↓zK,↓EM,↓aF]
      exact⟨rfl,b % 5,rfl,Nat.mod_lt _ (by omega),fun _=>h3,r2,hm,k12⟩
end Go.Am
namespace Go.Am
open Go
def kj (R:Int) (o:dT):Prop:=∃r:Int,0<=r/\r<R/\o=fT r
def nq (R:Int) (o:dT):Prop:=kj R o\/∃v:Int,-2147483648<=v/\v<=2147483647/\o=Const v
theorem kj.val {R:Int}{o:dT}(h:kj R o):nq R o:=Or.inl h
theorem kj.mono {R R':Int}(h:R<=R'){o:dT}(r:kj R o):kj R' o:=by obtain⟨a,b,c,d⟩:=r;exact⟨a,b,by omega,d⟩
theorem nq.mono {R R':Int}(h:R<=R'){o:dT}(r:nq R o):nq R' o:=r.imp (kj.mono h) id
theorem uM.o {o:dT}(h:uM o):nq 6 o:=by
  rcases h with⟨b,hb,rfl⟩|⟨v,h1,h2,rfl⟩
  · exact Or.inl ⟨b,by omega,by omega,rfl⟩
  · exact Or.inr ⟨v,by omega,by omega,rfl⟩
theorem cH {b:Nat}(h:b<6):kj 6 (fT (b:Int)):=⟨b,by omega,by omega,rfl⟩
inductive zw (R:Int):bf->Prop
  | mov (d a:dT) (h1:kj R d) (h2:nq R a):zw R ⟨1,0,0,d,a,al,al⟩
  | un (s:Int) (d a:dT) (h0:1<=s/\s<=5) (h1:kj R d) (h2:nq R a):zw R ⟨2,s,0,d,a,al,al⟩
  | bin (s:Int) (d a b:dT) (h0:10<=s/\s<=29) (h1:kj R d) (h2:nq R a) (h3:nq R b):zw R ⟨3,s,0,d,a,b,al⟩
  | sel (d a b c:dT) (h1:kj R d) (h2:nq R a) (h3:nq R b) (h4:nq R c):zw R ⟨4,0,0,d,a,b,c⟩
  | id (s:Int) (d:dT) (h0:1<=s/\s<=7) (h1:kj R d):zw R ⟨5,s,0,d,al,al,al⟩
  | param (n:Int) (d:dT) (h0:0<=n/\n<3) (h1:kj R d):zw R ⟨6,0,n,d,al,al,al⟩
  | load (n:Int) (d a:dT) (h0:0<=n/\n<5) (h1:kj R d) (h2:kj R a):zw R ⟨7,0,n,d,a,al,al⟩
  | store (n:Int) (a b:dT) (h0:0<=n/\n<5) (h1:kj R a) (h2:nq R b):zw R ⟨8,0,n,al,a,b,al⟩
  | atom (s n:Int) (a b:dT) (hs:s=10\/s=22\/s=23\/s=17\/s=18\/s=19) (h0:0<=n/\n<5/\n≠3) (h1:kj R a) (h2:nq R b):zw R ⟨9,s,n,al,a,b,al⟩
  | fence (s:Int) (h0:s=1\/s=2):zw R ⟨10,s,0,al,al,al,al⟩
theorem zw.mono {R R':Int}(h:R<=R'){x:bf}(i:zw R x):zw R' x:=by
  cases i with
  | mov d a h1 h2=>exact .mov d a (h1.mono h) (h2.mono h)
  | un s d a h0 h1 h2=>exact .un s d a h0 (h1.mono h) (h2.mono h)
  | bin s d a b h0 h1 h2 h3=>exact .bin s d a b h0 (h1.mono h) (h2.mono h) (h3.mono h)
  | sel d a b c h1 h2 h3 h4=>exact .sel d a b c (h1.mono h) (h2.mono h) (h3.mono h) (h4.mono h)
  | id s d h0 h1=>exact .id s d h0 (h1.mono h)
  | param n d h0 h1=>exact .param n d h0 (h1.mono h)
  | load n d a h0 h1 h2=>exact .load n d a h0 (h1.mono h) (h2.mono h)
  | store n a b h0 h1 h2=>exact .store n a b h0 (h1.mono h) (h2.mono h)
  | atom s n a b hs h0 h1 h2=>exact .atom s n a b hs h0 (h1.mono h) (h2.mono h)
  | fence s h0=>exact .fence s h0
def jx (R:Int) (xs:List bf):Prop:=∀(k:Nat) (x:bf),xs[k]?=some x->zw R x/\((x.op=7\/x.op=8\/x.op=9)->∃(j:Nat) (a:dT),k=j+1/\xs[j]?=some (uF x.a a x.n)/\nq R a)
theorem jx.nil {R:Int}:jx R []:=fun k x h=>by simp at h
theorem jx.one {R:Int}{x:bf}(i:zw R x) (h:¬(x.op=7\/x.op=8\/x.op=9)):jx R [x]:=fun k y hy=>by
  cases k with
  | zero=>simp at hy;subst hy;exact⟨i,fun hx=>absurd hx h⟩
  | succ k=>simp at hy
theorem jx.two {R:Int}{x y:bf}{a:dT}(hx:zw R x) (hy:zw R y) (he:x=uF y.a a y.n) (ha:nq R a) (hn:¬(x.op=7\/x.op=8\/x.op=9)):jx R [x,y]:=fun k z hz=>by
  match k with
  | 0=>simp at hz;subst hz;exact⟨hx,fun h=>absurd h hn⟩
  | 1=>simp at hz;subst hz;exact⟨hy,fun _=>⟨0,a,rfl,by simp[he],ha⟩⟩
  | k+2=>simp at hz
theorem jx.append {R:Int}{xs ys:List bf}(hx:jx R xs) (hy:jx R ys):jx R (xs++ys):=fun k x h=>by
  rcases Nat.lt_or_ge k xs.length with hk|hk
  · rw[List.getElem?_append_left hk]at h
    obtain⟨h1,h2⟩:=hx k x h
    refine⟨h1,fun ho=>?_⟩
    obtain⟨j,a,e,q,v⟩:=h2 ho
    exact⟨j,a,e,by rw[List.getElem?_append_left (by omega)];exact q,v⟩
  · rw[List.getElem?_append_right hk]at h
    obtain⟨h1,h2⟩:=hy _ x h
    refine⟨h1,fun ho=>?_⟩
    obtain⟨j,a,e,q,v⟩:=h2 ho
    exact⟨xs.length+j,a,by omega,by rw[List.getElem?_append_right (by omega)];simpa using q,v⟩
theorem jx.mono {R R':Int}(h:R<=R'){xs:List bf}(x:jx R xs):jx R' xs:=fun k y hy=>by
  obtain⟨h1,h2⟩:=x k y hy
  refine⟨h1.mono h,fun ho=>?_⟩
  obtain⟨j,a,e,q,v⟩:=h2 ho
  exact⟨j,a,e,q,v.mono h⟩
theorem yZ {d:Nat}{a:dT}{q:Nat}(hd:d<6) (ha:uM a):zw 6 (uF (fT (d:Int)) a (q:Int)) :=
  .bin 17 _ _ _ (by omega) (cH hd) ha.o (Or.inr ⟨xu q-1,by rcases mo q with h|h<;>omega,by rcases mo q with h|h<;>omega,rfl⟩)
theorem gz {h:Heap}{n k:Nat}{arrs:D}{s:MS}{pre:List Block}{is:List bf}{t:Term}{z:List D}{ps:List (Nat×Nat×Arg)}{KH:D->Heap->Prop}(x:bf) (r:aH h n k arrs (iT s pre is t)) (hb:Ea pre is 900)
    (hf:ph z.length (ps.map fun p=>(p.1,p.2.1,p.2.2.get []))=true) (hx:D.agg (fillD z (ps.map fun p=>(p.1,p.2.1,(p.2.2.get []).cells)))=x.e)
    (hK:∀h':Heap,aH h' n k arrs (iT s pre (is++[x]) t)->aA n h h'->KH (.tup []) h') :
    aa PP (.bld z ps) h fun a h1=>ae PP aw [.ptr n 0 0,a] h1 KH:=by
  rw[ou]
  refine⟨jQ hf,?_⟩
  rw[hx]
  exact FA r hb hK
theorem xq {h:Heap}{n k:Nat}{arrs:D}{s:MS}{pre:List Block}{is:List bf}{t:Term}{z:List D}{ps:List (Nat×Nat×Arg)}{KH:D->Heap->Prop}(x:bf) (r:aH h n k arrs (iT s pre is t)) (hb:Ea pre is 900)
    (hf:ph z.length (ps.map fun p=>(p.1,p.2.1,p.2.2.get []))=true) (hx:D.agg (fillD z (ps.map fun p=>(p.1,p.2.1,(p.2.2.get []).cells)))=x.e)
    (hK:∀h':Heap,aH h' n k arrs (iT s pre (is++[x]) t)->aA n h h'->KH (.tup []) h') :
    af PP (.bld z ps) h fun a=>ae PP aw [.ptr n 0 0,a] h KH:=by
  rw[Ft];exact gz x r hb hf hx hK
set_option maxHeartbeats 1000000 in
theorem IZ {h:Heap}{n k:Nat}{s:MS}{pre:List Block}{is:List bf}{t:Term}(r:aH h n k aU (iT s pre is t)) (hb:Ea pre is 700) (hk:k<800000){KH:D->Heap->Prop}
    (hK:∀(xs:List bf) (h':Heap),jx 6 xs->xs.length<=2->aH h' n (k+10) aU (iT s pre (is++xs) t)->aA n h h'->KH (.tup []) h') :
    ae PP dA [.ptr n 0 0] h KH:=by
  refine bZ nF (an _ _ _) rfl (nv _ _) ?_
  unfold jV
  have hb9:Ea pre is 900:=hb.le (by have:=hb.i;omega)
  refine cQ r (by omega) fun b0 h1 _ r1 k1=>?_
  rw[bS]
  refine⟨by omega,?_⟩
  have e16:((b0:Int).tmod 16)=((b0 % 16:Nat):Int):=aP b0 16
  rw[e16]
  have hc16:b0 % 16<16:=Nat.mod_lt _ (by omega)
  generalize b0 % 16=c at hc16
  rw[mI]
  by_cases hc3:c<3
  · simp only[show((c:Int)<3)=True from eq_true (by omega),decide_true,↓aI]
    refine cQ r1 (by omega) fun b h2 _ r2 k2=>?_
    rw[bS]
    refine⟨by omega,?_⟩
    rw[show((b:Int).tmod 7)=((b % 7:Nat):Int) from aP b 7,dp,wrap64 (by omega) (by omega)]
    refine uK r2 (by omega) fun d h3 hd r3 k3=>?_
    refine gz ⟨5,1+((b % 7:Nat):Int),0,fT d,al,al,al⟩ r3 hb9 rfl rfl fun h4 r4 k4=>?_
    exact hK _ h4 (.one (.id _ _ (by omega) (cH hd)) (by simp)) (by simp) (r4.le (by omega)) (((k1.trans k2).trans k3).trans k4)
  simp only[show((c:Int)<3)=False from eq_false (by omega),decide_false,↓aF]
  rw[mI]
  by_cases hc7:c<7
  · simp only[show((c:Int)<7)=True from eq_true (by omega),decide_true,↓aI]
    refine cQ r1 (by omega) fun b h2 _ r2 k2=>?_
    rw[bS]
    refine⟨by omega,?_⟩
    rw[show((b:Int).tmod 20)=((b % 20:Nat):Int) from aP b 20,dp,wrap64 (by omega) (by omega)]
    refine uK r2 (by omega) fun d h3 hd r3 k3=>?_
    refine qd r3 (by omega) fun o h4 ho r4 k4=>?_
    refine qd r4 (by omega) fun p h5 hp r5 k5=>?_
    refine gz ⟨3,10+((b % 20:Nat):Int),0,fT d,o,p,al⟩ r5 hb9 rfl rfl fun h6 r6 k6=>?_
    exact hK _ h6 (.one (.bin _ _ _ _ (by omega) (cH hd) ho.o hp.o) (by simp)) (by simp) (r6.le (by omega)) (((((k1.trans k2).trans k3).trans k4).trans k5).trans k6)
  simp only[show((c:Int)<7)=False from eq_false (by omega),decide_false,↓aF]
  rw[dW]
  by_cases h7:c=7
  · simp only[show((c:Int)=7)=True from eq_true (by omega),decide_true,↓aI]
    refine cQ r1 (by omega) fun b h2 _ r2 k2=>?_
    rw[bS]
    refine⟨by omega,?_⟩
    rw[show((b:Int).tmod 5)=((b % 5:Nat):Int) from aP b 5,dp,wrap64 (by omega) (by omega)]
    refine uK r2 (by omega) fun d h3 hd r3 k3=>?_
    refine qd r3 (by omega) fun o h4 ho r4 k4=>?_
    refine gz ⟨2,1+((b % 5:Nat):Int),0,fT d,o,al,al⟩ r4 hb9 rfl rfl fun h6 r6 k6=>?_
    exact hK _ h6 (.one (.un _ _ _ (by omega) (cH hd) ho.o) (by simp)) (by simp) (r6.le (by omega)) ((((k1.trans k2).trans k3).trans k4).trans k6)
  simp only[show((c:Int)=7)=False from eq_false (by omega),decide_false,↓aF]
  rw[dW]
  by_cases h8:c=8
  · simp only[show((c:Int)=8)=True from eq_true (by omega),decide_true,↓aI]
    refine uK r1 (by omega) fun d h3 hd r3 k3=>?_
    refine qd r3 (by omega) fun o h4 ho r4 k4=>?_
    refine qd r4 (by omega) fun p h5 hp r5 k5=>?_
    refine qd r5 (by omega) fun q h6 hq r6 k6=>?_
    refine gz ⟨4,0,0,fT d,o,p,q⟩ r6 hb9 rfl rfl fun h7 r7 k7=>?_
    exact hK _ h7 (.one (.sel _ _ _ _ (cH hd) ho.o hp.o hq.o) (by simp)) (by simp) (r7.le (by omega)) (((((k1.trans k3).trans k4).trans k5).trans k6).trans k7)
  simp only[show((c:Int)=8)=False from eq_false (by omega),decide_false,↓aF]
  rw[dW]
  by_cases h9:c=9
  · simp only[show((c:Int)=9)=True from eq_true (by omega),decide_true,↓aI]
    refine uK r1 (by omega) fun d h3 hd r3 k3=>?_
    refine qd r3 (by omega) fun o h4 ho r4 k4=>?_
    refine gz ⟨1,0,0,fT d,o,al,al⟩ r4 hb9 rfl rfl fun h7 r7 k7=>?_
    exact hK _ h7 (.one (.mov _ _ (cH hd) ho.o) (by simp)) (by simp) (r7.le (by omega)) (((k1.trans k3).trans k4).trans k7)
  simp only[show((c:Int)=9)=False from eq_false (by omega),decide_false,↓aF]
  rw[dW]
  by_cases h10:c=10
  · simp only[show((c:Int)=10)=True from eq_true (by omega),decide_true,↓aI]
    refine cQ r1 (by omega) fun b h2 _ r2 k2=>?_
    rw[bS]
    refine⟨by omega,?_⟩
    rw[show((b:Int).tmod 3)=((b % 3:Nat):Int) from aP b 3]
    refine uK r2 (by omega) fun d h3 hd r3 k3=>?_
    refine gz ⟨6,0,((b % 3:Nat):Int),fT d,al,al,al⟩ r3 hb9 rfl rfl fun h7 r7 k7=>?_
    exact hK _ h7 (.one (.param _ _ (by omega) (cH hd)) (by simp)) (by simp) (r7.le (by omega)) (((k1.trans k2).trans k3).trans k7)
  simp only[show((c:Int)=10)=False from eq_false (by omega),decide_false,↓aF]
  rw[dW]
  by_cases h11:c=11
  · simp only[show((c:Int)=11)=True from eq_true (by omega),decide_true,↓aI]
    refine cQ r1 (by omega) fun b h2 _ r2 k2=>?_
    rw[bS]
    refine⟨by omega,?_⟩
    rw[show((b:Int).tmod 2)=((b % 2:Nat):Int) from aP b 2,dp,wrap64 (by omega) (by omega)]
    refine gz ⟨10,1+((b % 2:Nat):Int),0,al,al,al,al⟩ r2 hb9 rfl rfl fun h7 r7 k7=>?_
    exact hK _ h7 (.one (.fence _ (by omega)) (by simp)) (by simp) (r7.le (by omega)) ((k1.trans k2).trans k7)
  simp only[show((c:Int)=11)=False from eq_false (by omega),decide_false,↓aF]
  rw[dW]
  by_cases h12:c=12
  · simp only[show((c:Int)=12)=True from eq_true (by omega),decide_true,↓aI]
    refine C2 r1 (hb.le (by have:=hb.i;omega)) (by omega) fun q d a h2 hq hp hd ha r2 k2=>?_
    simp only[↓GQ,↓GP]
    rw[gu]
    intro m t0
    obtain⟨r3,hne⟩:=r2.new t0.free (.box al.e)
    have a3:=ag h2 m (.box al.e)
    have k3:aA n h2 (ak h2 m (.box al.e)):=aA.new t0.free
    show aa PP _ (ak h2 m (.box al.e)) _
    have key:aA n h2 (ak (ak h2 m (.box al.e)) m (.box (fT (d:Int)).e)):=by rw[yM];exact aA.new t0.free
    rw[Ko a3]
    have r4:=r3.cr a3 hne (.box (fT (d:Int)).e)
    have a4:=ag (ak h2 m (.box al.e)) m (.box (fT (d:Int)).e)
    generalize ak (ak h2 m (.box al.e)) m (.box (fT (d:Int)).e)=h3 at key r4 a4
    have hbl:∀{Q:D->Prop},af PP (.bldS false 1 6 (.int .i64 0) [(0,(.c (.int .i64 10))),(1,(.c (.int .i64 22))),(2,(.c (.int .i64 23))),(3,(.c (.int .i64 17))),(4,(.c (.int .i64 18))),(5,(.c (.int .i64 19)))]) h3 Q=Q (.sl [.int .i64 10,.int .i64 22,.int .i64 23,.int .i64 17,.int .i64 18,.int .i64 19]):=by
      intro Q
      apply propext
      constructor
      · exact fun hh=>hh.2.2.2
      · intro hq
        refine⟨lI rfl,?_,by simp,hq⟩
        intro p hp
        simp[Arg.get]at hp
        rcases hp with rfl|rfl|rfl|rfl|rfl|rfl<;>simp
    simp only[hbl,↓xX a4]
    refine cQ r4 (by omega) fun b h4 _ r5 k5=>?_
    have a5:=k5 m _ hne a4
    simp only[↓xX a5,aq,true_and]
    rw[bS]
    refine⟨by omega,?_⟩
    rw[show((b:Int).tmod 6)=((b % 6:Nat):Int) from aP b 6]
    obtain⟨sv,hsv,hs6⟩:∃sv:Int,([.int .i64 10,.int .i64 22,.int .i64 23,.int .i64 17,.int .i64 18,.int .i64 19]:List D)[b % 6]?=some (.int .i64 sv)/\(sv=10\/sv=22\/sv=23\/sv=17\/sv=18\/sv=19):=by
      have:b % 6=0\/b % 6=1\/b % 6=2\/b % 6=3\/b % 6=4\/b % 6=5:=by omega
      rcases this with e|e|e|e|e|e<;>rw[e]<;>exact⟨_,rfl,by simp⟩
    have hi:∀{h:Heap}{Q:D->Prop},af PP (.iadd (.c (.sl [.int .i64 10,.int .i64 22,.int .i64 23,.int .i64 17,.int .i64 18,.int .i64 19])) (.c (.int .i64 ((b % 6:Nat):Int))) 1) h Q=Q (.vp (.int .i64 sv) 0):=by
      intro h Q
      rw[qX,w9,Int.toNat_natCast,hsv]
      apply propext
      constructor
      · rintro⟨-,-,h⟩;exact(h _ rfl).2
      · intro hq;exact⟨by omega,by simp;omega,fun d hd=>by cases hd;exact⟨rfl,hq⟩⟩
    have hl:∀{h:Heap}{Q:D->Prop},af PP (.ld (.c (.vp (.int .i64 sv) 0)) 1 false) h Q=Q (.int .i64 sv):=fun {h Q}=>by rw[vr,w8,cV];rfl
    simp only[↓hi,↓hl]
    refine qd r5 (by omega) fun o h5 ho r6 k6=>?_
    have a6:=k6 m _ hne a5
    simp only[↓hi,↓hl,↓xX a6,aq,true_and]
    refine xq ⟨9,sv,q,al,fT d,o,al⟩ r6 (hb.le (by have:=hb.i;simp;omega)) rfl rfl fun h7 r7 k7=>?_
    rw[List.append_assoc]at r7
    exact hK _ h7 (.two (a:=a) (yZ hd ha) (.atom sv (q:Int) _ _ hs6 ⟨Int.natCast_nonneg q,Int.ofNat_lt.2 hq,fun e=>hp rfl (Int.ofNat_inj.1 e)⟩ (cH hd) ho.o) rfl ha.o (by simp[uF])) (by simp) (r7.le (by omega)) (((((k1.trans k2).trans key).trans k5).trans k6).trans k7)
  simp only[show((c:Int)=12)=False from eq_false (by omega),decide_false,↓aF]
  refine C2 r1 (hb.le (by have:=hb.i;omega)) (by omega) fun q d a h2 hq hp hd ha r2 k2=>?_
  simp only[↓GQ,↓GP]
  rw[gu]
  intro m t0
  obtain⟨r3,hne⟩:=r2.new t0.free (.box al.e)
  have a3:=ag h2 m (.box al.e)
  show aa PP _ (ak h2 m (.box al.e)) _
  have key:aA n h2 (ak (ak h2 m (.box al.e)) m (.box (fT (d:Int)).e)):=by rw[yM];exact aA.new t0.free
  rw[Ko a3]
  have r4:=r3.cr a3 hne (.box (fT (d:Int)).e)
  have a4:=ag (ak h2 m (.box al.e)) m (.box (fT (d:Int)).e)
  generalize ak (ak h2 m (.box al.e)) m (.box (fT (d:Int)).e)=h3 at key r4 a4
  rw[dW]
  by_cases h13:c=13
  · simp only[show((c:Int)=13)=True from eq_true (by omega),decide_true,↓aI,↓xX a4]
    refine uK r4 (by omega) fun e h4 he r5 k5=>?_
    have a5:=k5 m _ hne a4
    simp only[↓xX a5,aq,true_and]
    refine xq ⟨7,0,q,fT e,fT d,al,al⟩ r5 (hb.le (by have:=hb.i;simp;omega)) rfl rfl fun h7 r7 k7=>?_
    rw[List.append_assoc]at r7
    exact hK _ h7 (.two (a:=a) (yZ hd ha) (.load (q:Int) _ _ ⟨Int.natCast_nonneg q,Int.ofNat_lt.2 hq⟩ (cH he) (cH hd)) rfl ha.o (by simp[uF])) (by simp) (r7.le (by omega)) ((((k1.trans k2).trans key).trans k5).trans k7)
  · simp only[show((c:Int)=13)=False from eq_false (by omega),decide_false,↓aF,↓xX a4]
    refine qd r4 (by omega) fun o h4 ho r5 k5=>?_
    have a5:=k5 m _ hne a4
    simp only[↓xX a5,aq,true_and]
    refine xq ⟨8,0,q,al,fT d,o,al⟩ r5 (hb.le (by have:=hb.i;simp;omega)) rfl rfl fun h7 r7 k7=>?_
    rw[List.append_assoc]at r7
    exact hK _ h7 (.two (a:=a) (yZ hd ha) (.store (q:Int) _ _ ⟨Int.natCast_nonneg q,Int.ofNat_lt.2 hq⟩ (cH hd) ho.o) rfl ha.o (by simp[uF])) (by simp) (r7.le (by omega)) ((((k1.trans k2).trans key).trans k5).trans k7)
theorem wc {h:Heap}{n k:Nat}{s:MS}{pre:List Block}{is:List bf}{t:Term}(r:aH h n k aU (iT s pre is t)) (hb:Ea pre is 600) (hk:k<700000){KH:D->Heap->Prop}
    (hK:∀(xs:List bf) (h':Heap),jx 6 xs->xs.length<=8->aH h' n (k+50) aU (iT s pre (is++xs) t)->aA n h h'->KH (.tup []) h') :
    ae PP bl [.ptr n 0 0] h KH:=by
  refine bZ mC (an _ _ _) rfl (mv _ _) ?_
  unfold jg
  refine cQ r (by omega) fun b h1 _ r1 k1=>?_
  rw[bS]
  refine⟨by omega,?_⟩
  rw[show((b:Int).tmod 5)=((b % 5:Nat):Int) from aP b 5]
  have hb5:b % 5<5:=Nat.mod_lt _ (by omega)
  generalize b % 5=c at hb5
  unfold gE
  refine⟨fun j q h'=>j<=4/\q=[.int .i64 (j:Int)]/\∃xs:List bf,jx 6 xs/\xs.length<=2*(4-j)/\aH h' n (k+1+10*(4-j)) aU (iT s pre (is++xs) t)/\aA n h h',c,⟨by omega,rfl,[],.nil,by simp,by simpa using r1.le (by omega),k1⟩,?_⟩
  rintro j f h2 ⟨hj,hq,xs,hx,hl,r2,k2⟩
  simp only[List.cons.injEq,and_true]at hq
  rw[hq,pV]
  by_cases h0:0<j
  · simp only[show((0:Int)<(j:Int))=True from eq_true (by omega),decide_true,↓aI]
    refine IZ r2 (hb.le (by have:=hb.i;simp;omega)) (by omega) fun ys h3 hy hyl r3 k3=>?_
    rw[jE,wrap64 (by omega) (by omega)]
    refine⟨rfl,j-1,by omega,by omega,by congr 2;omega,xs++ys,hx.append hy,by simp;omega,?_,k2.trans k3⟩
    rw[List.append_assoc]at r3
    exact r3.le (by omega)
  · simp only[show((0:Int)<(j:Int))=False from eq_false (by omega),decide_false,↓aF]
    exact hK xs h2 hx (by omega) (r2.le (by omega)) k2
end Go.Am
namespace Go.Am
open Go
theorem je {P:Program}{h:Heap}{KH:D->Heap->Prop}{z:List D}{ps:List (Nat×Nat×Arg)}(hf:ph z.length (ps.map fun p=>(p.1,p.2.1,p.2.2.get []))=true) :
    aa P (.bld z ps) h KH=KH (.agg (fillD z (ps.map fun p=>(p.1,p.2.1,(p.2.2.get []).cells)))) h:=by
  rw[ou,eq_true (jQ hf),true_and]
theorem oD {P:Program}{h:Heap}{K:D->Prop}{z:List D}{ps:List (Nat×Nat×Arg)}(hf:ph z.length (ps.map fun p=>(p.1,p.2.1,p.2.2.get []))=true) :
    af P (.bld z ps) h K=K (.agg (fillD z (ps.map fun p=>(p.1,p.2.1,(p.2.2.get []).cells)))):=by
  rw[Ft,je hf]
inductive AZ (N:Nat) (R:Int):Term->Prop
  | jump (a:Nat) (h:a<N):AZ N R ⟨1,0,al,al,al,a,0⟩
  | branch (o:dT) (a b:Nat) (ho:kj R o) (h1:a<N) (h2:b<N):AZ N R ⟨2,0,al,o,al,a,b⟩
  | barrier (a:Nat) (h:a<N):AZ N R ⟨3,0,al,al,al,a,0⟩
  | collect (s:Int) (d a b:dT) (t:Nat) (hs:1<=s/\s<=6) (hd:kj R d) (ha:nq R a) (hb:nq R b) (h:t<N):AZ N R ⟨4,s,d,a,b,t,0⟩
  | exit:AZ N R ⟨5,0,al,al,al,0,0⟩
theorem AZ.mono {N N':Nat}{R R':Int}(hN:N<=N') (hR:R<=R'){t:Term}(h:AZ N R t):AZ N' R' t:=by
  cases h with
  | jump a h=>exact .jump a (by omega)
  | branch o a b ho h1 h2=>exact .branch o a b (ho.mono hR) (by omega) (by omega)
  | barrier a h=>exact .barrier a (by omega)
  | collect s d a b t hs hd ha hb h=>exact .collect s d a b t hs (hd.mono hR) (ha.mono hR) (hb.mono hR) (by omega)
  | exit=>exact .exit
structure Kv (N:Nat) (R:Int) (b:Block):Prop where
  xs:jx R b.i
  len:b.i.length<=20
  t:AZ N R b.t
def iM (N:Nat) (R:Int) (bs:List Block):Prop:=∀b∈bs,Kv N R b
theorem iM.mono {N N':Nat}{R R':Int}(hN:N<=N') (hR:R<=R'){bs:List Block}(h:iM N R bs):iM N' R' bs:=fun b hb=>⟨(h b hb).xs.mono hR,(h b hb).len,(h b hb).t.mono hN hR⟩
theorem iM.snoc {N:Nat}{R:Int}{bs:List Block}{b:Block}(h:iM N R bs) (hb:Kv N R b):iM N R (bs++[b]):=fun c hc=>by
  rcases List.mem_append.1 hc with hc|hc
  · exact h c hc
  · simp at hc;subst hc;exact hb
theorem iM.nil {N:Nat}{R:Int}:iM N R []:=fun _ h=>by cases h
theorem iM.I4 {N:Nat}{R:Int}{bs:List Block}(h:iM N R bs) (hl:bs.length<=50){is:List bf}{M:Nat}(hi:is.length<=M):Ea bs is M:=⟨hl,fun b hb=>by have:=(h b hb).len;omega,hi⟩
theorem kr {h:Heap}{n k:Nat}{arrs:D}{s:MS}{pre:List Block}{is:List bf}{t0:Term}(r:aH h n k arrs (iT s pre is t0)) :
    ∃(bs:List Nat) (j:Nat) (vL:D) (nb:Nat),h n=.box (.agg [rM bs,.int .i64 (j:Int),.int .i64 s.group,.int .i64 s.sub,.int .i64 s.regs,.int .i64 0,.int .i64 3,arrs,vL,.ms nb 0 (pre.length+1)])/\(h n).used=true/\(h nb).live=true /\
      (∀(t:Term) {KH:D->Heap->Prop},(∀h',aH h' n k arrs (iT s pre is t)->aA n h h'->KH .undef h') ->
        aa PP (.iadd (.c (.ms nb 0 (pre.length+1))) (.c (.int .i64 (pre.length:Int))) 14) h fun a h1=>aa PP (.fadd (.c a) 1) h1 fun b h2=>aa PP (.st (.c b) (.c t.e) 13) h2 KH) /\
      (∀(t:Term) {KH:D->Heap->Prop},(∀h',aH h' n k arrs (iT s pre is t)->aA n h h'->KH .undef h') ->
        af PP (.iadd (.c (.ms nb 0 (pre.length+1))) (.c (.int .i64 (pre.length:Int))) 14) h fun a=>af PP (.fadd (.c a) 1) h fun b=>aa PP (.st (.c b) (.c t.e) 13) h KH):=by
  obtain⟨bs,j,vL,nb,vs,h1,h2,h3,h4,h5,h6⟩:=r.some (by simp[iT])
  have hl:(iT s pre is t0).blocks.length=pre.length+1:=by simp[iT]
  have e4:h n=.box (.agg [rM bs,.int .i64 (j:Int),.int .i64 s.group,.int .i64 s.sub,.int .i64 s.regs,.int .i64 0,.int .i64 3,arrs,vL,.ms nb 0 (pre.length+1)]):=by rw[h4,bV,hl];rfl
  have st:∀(t:Term) {KH:D->Heap->Prop},(∀h',aH h' n k arrs (iT s pre is t)->aA n h h'->KH .undef h')->aa PP (.st (.c (.ptr nb pre.length 1)) (.c t.e) 13) h KH:=by
    intro t KH hK
    refine GA (i:=pre.length) h1 h2 h3 h4 h5 h6 (by rw[hl];omega) fun h' r' k'=>hK h' ?_ k'
    have:xU (iT s pre is t0).blocks pre.length t=pre++[⟨is,t⟩]:=by simp only[iT,xU];rw[uE]
    rw[this]at r'
    exact r'
  have c1:((0:Int)<=(pre.length:Int))=True:=eq_true (by omega)
  have c2:((pre.length:Int)<((pre.length+1:Nat):Int))=True:=eq_true (by omega)
  have c3:(∃els,(h nb).row=some (14,els))=True:=eq_true ⟨_,by rw[h5];rfl⟩
  have eu:(h nb).used=true:=by rw[h5];rfl
  refine⟨bs,j,vL,nb,e4,by rw[h4];rfl,by rw[h5];rfl,fun t KH hK=>?_,fun t KH hK=>?_⟩
  · rw[oq,c1,c2,c3]
    simp only[true_and,Int.toNat_natCast,Nat.zero_add,↓CH eu]
    exact st t hK
  · rw[qX,oq,c1,c2,c3]
    simp only[true_and,Int.toNat_natCast,Nat.zero_add,↓xk eu]
    exact st t hK
theorem oH {h:Heap}{n k:Nat}{arrs:D}{s:MS}{bs:List Block}(r:aH h n k arrs { s with blocks:=bs }) (hl:bs.length<=50){KH:D->Heap->Prop}
    (hK:∀h':Heap,aH h' n k arrs (iT s bs [] gZ)->aA n h h'->KH (.tup []) h'):ae PP aN [.ptr n 0 0] h KH :=
  GY r (by simp only;omega) fun h' r' k'=>hK h' r' k'
theorem F8 {h:Heap}{n k:Nat}{arrs:D}{s:MS}{v:Int}(r:aH h n k arrs s){KH:D->Heap->Prop}
    (hK:∀h':Heap,aH h' n k arrs { s with regs:=v }->aA n h h'->KH .undef h'):aa PP (.st (.c (.ptr n 0 4)) (.c (.int .i64 v)) 1) h KH:=by
  obtain⟨bs,j,vL,vB,vs,h1,h2,h3,h4,h5⟩:=r.st
  rw[ki,h4]
  refine⟨rfl,by simp,rfl,by simp[bV],?_⟩
  exact hK _ ⟨bs,j,vL,vB,vs,h1,h2,h3,by rw[ag];simp[bV,setCells],h5.box h4 _⟩ aA.self
theorem H0 {h:Heap}{n k:Nat}{arrs:D}{s:MS}{v:Int}(r:aH h n k arrs s){KH:D->Heap->Prop}
    (hK:∀h':Heap,aH h' n k arrs { s with sub:=v }->aA n h h'->KH .undef h'):aa PP (.st (.c (.ptr n 0 3)) (.c (.int .i64 v)) 1) h KH:=by
  obtain⟨bs,j,vL,vB,vs,h1,h2,h3,h4,h5⟩:=r.st
  rw[ki,h4]
  refine⟨rfl,by simp,rfl,by simp[bV],?_⟩
  exact hK _ ⟨bs,j,vL,vB,vs,h1,h2,h3,by rw[ag];simp[bV,setCells],h5.box h4 _⟩ aA.self
theorem app_loop {h:Heap}{n k:Nat}{arrs:D}{s:MS}{l:Loop}{bytes:Nat}{z z':D}(r:aH h n k arrs s) (hl:s.loops.length<=1000) (hby:bytes<=1000){bs0:List Nat}{j0:Nat}{vL:D}{vB:D}(e:h n=.box (bV bs0 j0 arrs s vL vB)){KH:D->Heap->Prop}
    (hK:∀h':Heap,aH h' n k arrs { s with loops:=s.loops++[l] }->aA n h h'->KH .undef h') :
    aa PP (.bldS true 3 1 z [(0,.c l.e)]) h fun x h1=>aa PP (.app (.c vL) (.c x) 3 bytes z') h1 fun v h2=>aa PP (.fadd (.c (.ptr n 0 0)) 0) h2 fun a h3=>aa PP (.fadd (.c a) 2) h3 fun b h4=>aa PP (.fadd (.c b) 6) h4 fun c h5=>aa PP (.st (.c c) (.c v) 1) h5 KH:=by
  obtain⟨bs,j,vL',vB',vs,h1,h2,h3,h4,h5⟩:=r.st
  have ee:vL=vL'/\vB=vB'/\bs0=bs/\j0=j:=by
    rw[e]at h4
    simp only[bV,Slot.box.injEq,D.agg.injEq,List.cons.injEq,D.int.injEq,and_true,true_and,rM,D.sl.injEq]at h4
    obtain⟨q1,q2,q3,q4⟩:=h4
    refine⟨q3,q4,?_,by omega⟩
    have:=congrArg (List.map (fun d=>match d with|D.int _ i=>i.toNat|_=>0)) q1
    simpa[List.map_map,Function.comp_def] using this
  obtain⟨rfl,rfl,rfl,rfl⟩:=ee
  have hbb:((List.map Loop.e s.loops).length+1)*bytes<=140737488355328:=by
    rw[List.length_map]
    exact Nat.le_trans (Nat.mul_le_mul (show s.loops.length+1<=1001 by omega) hby) (by omega)
  refine y7 h5.oL (Loop.qW l) rfl hbb (by rw[List.length_map];omega) fun m h' f1 f2 f3=>?_
  have hnm:n≠m:=by rintro rfl;rw[h4]at f1;cases f1
  have hnL:n∉vL.iP:=fun hm=>by have:=lZ h5.oL hm;rw[h4]at this;cases this
  have h4':h' n=h n:=f3 n hnm hnL (by rw[h4];simp)
  have eu:(h' n).used=true:=by rw[h4',h4];rfl
  simp only[↓CH eu,Nat.zero_add,Nat.reduceAdd]
  rw[ki,h4',h4]
  refine⟨rfl,by simp,rfl,by simp[bV],?_⟩
  have hnew:∀k',k'∈bc (vL::vB::vs)->h k'≠.free:=fun k' hk'=>by obtain⟨e,l,hkl⟩:=h5.arr hk';rw[hkl];simp
  have hmn:m∉bc (vL::vB::vs):=fun hm=>hnew m hm f1
  have hnd:=h5.nd
  rw[aS]at hnd hmn
  simp only[List.mem_append,not_or]at hmn
  have hnd':=List.nodup_append.1 hnd
  have same:∀{x:Slot}(k':Nat),k'∈bc (vB::vs)->(ak h' n x) k'=h k':=by
    intro x k' hk'
    have hkk:k'∈bc (vL::vB::vs):=by rw[aS];exact List.mem_append_right _ hk'
    have e1:k'≠n:=by
      rintro rfl
      obtain⟨e,l,hkl⟩:=h5.arr hkk
      rw[h4]at hkl;cases hkl
    have e2:k'≠m:=by rintro rfl;exact hmn.2 hk'
    have e3:k'∉vL.iP:=fun hL=>hnd'.2.2 k' hL k' hk' rfl
    rw[ab _ _ e1]
    exact f3 k' e2 e3 (hnew k' hkk)
  refine hK _ ⟨bs0,j0,.ms m 0 ((List.map Loop.e s.loops).length+1),vB,vs,h1,h2,h3,by rw[ag];simp[bV,setCells],?_⟩ fun q d hq hd=>?_
  · refine⟨Or.inr ⟨m,by simp,by rw[ab _ _ hnm.symm,f2];simp⟩,cn h5.oB fun k' q=>same k' (js (by simp) q),h5.len,fun i v b hv hb=>cn (h5.oI i v b hv hb) fun k' q=>same k' (js ?_ q),?_⟩
    · have:=List.mem_of_getElem? hv
      simp[this]
    · rw[aS]
      exact List.nodup_cons.2 ⟨hmn.2,hnd'.2.1⟩
  · rw[ab _ _ hq]
    have e2:q≠m:=by rintro rfl;rw[hd]at f1;cases f1
    have e3:q∉vL.iP:=fun hm=>by have:=lZ h5.oL hm;rw[hd]at this;cases this
    rw[f3 q e2 e3 (by rw[hd];simp)];exact hd
structure zq (h:Heap) (n k:Nat) (arrs:D) (s:MS) (vL vB:D):Prop where
  st:∃(bs:List Nat) (j:Nat) (vs:List D),(∀b∈bs,b<=255)/\bs.length<=9223372036854775807/\j<=k/\h n=.box (bV bs j arrs s vL vB)/\Rows h s.loops s.blocks vL vB vs
theorem zq.rel {h:Heap}{n k:Nat}{arrs:D}{s:MS}{vL vB:D}(r:zq h n k arrs s vL vB):aH h n k arrs s:=by
  obtain⟨bs,j,vs,h1,h2,h3,h4,h5⟩:=r.st
  exact⟨bs,j,vL,vB,vs,h1,h2,h3,h4,h5⟩
theorem aH.v {h:Heap}{n k:Nat}{arrs:D}{s:MS}(r:aH h n k arrs s):∃vL vB,zq h n k arrs s vL vB:=by
  obtain⟨bs,j,vL,vB,vs,h1,h2,h3,h4,h5⟩:=r.st
  exact⟨vL,vB,bs,j,vs,h1,h2,h3,h4,h5⟩
theorem zq.new {h:Heap}{n k:Nat}{arrs:D}{s:MS}{vL vB:D}(r:zq h n k arrs s vL vB){m:Nat}(hm:h m=.free) (x:Slot):zq (ak h m x) n k arrs s vL vB/\m≠n:=by
  obtain⟨bs,j,vs,h1,h2,h3,h4,h5⟩:=r.st
  have hne:n≠m:=by rintro rfl;rw[h4]at hm;cases hm
  exact⟨⟨bs,j,vs,h1,h2,h3,by rw[ab _ _ hne];exact h4,h5.free hm x⟩,hne.symm⟩
theorem zq.cr {h:Heap}{n k:Nat}{arrs:D}{s:MS}{vL vB:D}(r:zq h n k arrs s vL vB){m:Nat}{d:D}(hm:h m=.box d) (hne:m≠n) (x:Slot):zq (ak h m x) n k arrs s vL vB:=by
  obtain⟨bs,j,vs,h1,h2,h3,h4,h5⟩:=r.st
  exact⟨bs,j,vs,h1,h2,h3,by rw[ab _ _ hne.symm];exact h4,h5.box hm x⟩
theorem zq.le {h:Heap}{n k k':Nat}{arrs:D}{s:MS}{vL vB:D}(r:zq h n k arrs s vL vB) (hk:k<=k'):zq h n k' arrs s vL vB:=by
  obtain⟨bs,j,vs,h1,h2,h3,h4,h5⟩:=r.st
  exact⟨bs,j,vs,h1,h2,by omega,h4,h5⟩
theorem sL {h:Heap}{n k:Nat}{arrs:D}{s:MS}{vL vB:D}(r:zq h n k arrs s vL vB) (hk:k<1000000){KH:D->Heap->Prop}(hK:∀(b:Nat) (h':Heap),b<=255->zq h' n (k+1) arrs s vL vB->aA n h h'->KH (.int .i64 (b:Int)) h') :
    ae PP ah [.ptr n 0 0] h KH:=by
  obtain⟨bs,j,vs,h1,h2,h3,h4,h5⟩:=r.st
  refine zk h4 h1 h2 (by omega) fun b hb=>hK b _ hb ⟨bs,j+1,vs,h1,h2,by omega,ag _ _ _,h5.box h4 _⟩ aA.self
theorem BJ {vL vB:D}{h:Heap}{n k:Nat}{arrs:D}{s:MS}(r:zq h n k arrs s vL vB) (hk:k<1000000){KH:D->Heap->Prop}(hK:∀(b:Nat) (h':Heap),b<6->zq h' n (k+1) arrs s vL vB->aA n h h'->KH (fT (b:Int)).e h') :
    ae PP aK [.ptr n 0 0] h KH:=by
  refine bZ iK (an _ _ _) rfl (iI _ _) ?_
  unfold gD
  rw[gu]
  intro m t
  obtain⟨r1,hne⟩:=r.new t.free (.box (.agg [(.int .i64 0),(.int .i64 0),(.int .i32 0)]))
  refine sL r1 hk fun b h' hb r2 hkeep=>?_
  have hm:=hkeep m _ hne (ag _ _ _)
  have e6:((b:Int).tmod 6)=((b % 6:Nat):Int):=aP b 6
  rw[bS]
  refine⟨by omega,?_⟩
  rw[e6]
  refine dP qe ⟨aX,trivial⟩ ?_
  simp only[↓ki,hm]
  refine⟨by first|rfl|trivial,(dT.qW _).one,by first|rfl|trivial,by simp,?_⟩
  have hset:setCells (.agg [(.int .i64 0),(.int .i64 0),(.int .i32 0)]) 0 (fT ((b % 6:Nat):Int)).e.cells=(fT ((b % 6:Nat):Int)).e:=rfl
  rw[hset]
  simp only[↓qU,ag,true_and]
  refine⟨by simp[dT.e,dT.cs],?_⟩
  refine hK (b % 6) _ (Nat.mod_lt _ (by omega)) (r2.cr hm hne _) fun q d hq hd=>?_
  have hqm:q≠m:=by rintro rfl;rw[t.free]at hd;cases hd
  rw[ab _ _ hqm]
  exact hkeep q d hq (by rw[ab _ _ hqm];exact hd)
theorem Fz {vL vB:D}{h:Heap}{n k:Nat}{arrs:D}{s:MS}(r:zq h n k arrs s vL vB) (hk:k<1000000){KH:D->Heap->Prop}(hK:∀(o:dT) (h':Heap),uM o->zq h' n (k+1) arrs s vL vB->aA n h h'->KH o.e h') :
    ae PP aG [.ptr n 0 0] h KH:=by
  refine bZ iJ (an _ _ _) rfl (iG _ _) ?_
  unfold gC
  rw[gu]
  intro m t
  obtain⟨r1,hne⟩:=r.new t.free (.box (.agg [(.int .i64 0),(.int .i64 0),(.int .i32 0)]))
  refine sL r1 hk fun b h' hb r2 hkeep=>?_
  have hm:=hkeep m _ hne (ag _ _ _)
  have fin:∀o:dT,uM o->aa PP (.st (.c (.ptr m 0 0)) (.c o.e) 3) h' fun _ h1=>aa PP (.ld (.c (.ptr m 0 0)) 3 true) h1 fun a _=>KH a h1:=by
    intro o ho
    simp only[↓ki,hm]
    refine⟨by first|rfl|trivial,(dT.qW _).one,by first|rfl|trivial,by simp[dT.e,dT.cs],?_⟩
    have hset:setCells (.agg [(.int .i64 0),(.int .i64 0),(.int .i32 0)]) 0 o.e.cells=o.e:=rfl
    rw[hset]
    simp only[↓qU,ag,true_and]
    refine⟨by simp[dT.e,dT.cs],?_⟩
    refine hK o _ ho (r2.cr hm hne _) fun q d hq hd=>?_
    have hqm:q≠m:=by rintro rfl;rw[t.free]at hd;cases hd
    rw[ab _ _ hqm]
    exact hkeep q d hq (by rw[ab _ _ hqm];exact hd)
  have e3:((b:Int).tmod 3)=((b % 3:Nat):Int):=aP b 3
  have d3:IntKind.i64.wrap ((b:Int).tdiv 3)=((b / 3:Nat):Int):=by
    have:((b:Int).tdiv 3)=((b / 3:Nat):Int):=(Int.ofNat_tdiv b 3).symm
    rw[this];exact wrap64 (by omega) (by omega)
  rw[bS]
  refine⟨by omega,?_⟩
  rw[e3,dW]
  by_cases hc:b % 3=0
  · have hc':((b % 3:Nat):Int)=0:=by omega
    simp only[hc',decide_true,aI,↓Cb]
    refine⟨by omega,?_⟩
    have w:IntKind.i32.wrap ((b / 3:Nat):Int)=((b / 3:Nat):Int):=by simp only[IntKind.wrap,IntKind.signed,IntKind.bits];simp;omega
    have w2:IntKind.i32.wrap (((b / 3:Nat):Int)-20)=((b / 3:Nat):Int)-20:=by simp only[IntKind.wrap,IntKind.signed,IntKind.bits];simp;omega
    rw[d3,ot,w,jE,w2]
    refine dP po ⟨aX,trivial⟩ ?_
    exact fin _ (Or.inr ⟨_,by omega,by omega,rfl⟩)
  · have hc':¬((b % 3:Nat):Int)=0:=by omega
    simp only[hc',decide_false,aF,↓Cb]
    refine⟨by omega,?_⟩
    rw[d3,bS]
    refine⟨by omega,?_⟩
    have e6:(((b / 3:Nat):Int).tmod 6)=((b / 3 % 6:Nat):Int):=aP (b / 3) 6
    rw[e6]
    refine dP qe ⟨aX,trivial⟩ ?_
    exact fin _ (Or.inl ⟨b / 3 % 6,Nat.mod_lt _ (by omega),rfl⟩)
theorem dD {h:Heap}{n k:Nat}{arrs:D}{s:MS}{pre:List Block}{is:List bf}{t0:Term}{vL vB:D}(r:zq h n k arrs (iT s pre is t0) vL vB) :
    ∃(bs:List Nat) (j:Nat) (nb:Nat),vB=.ms nb 0 (pre.length+1)/\h n=.box (.agg [rM bs,.int .i64 (j:Int),.int .i64 s.group,.int .i64 s.sub,.int .i64 s.regs,.int .i64 0,.int .i64 3,arrs,vL,vB])/\(h n).used=true /\
      (∀(t:Term) {KH:D->Heap->Prop},(∀h',aH h' n k arrs (iT s pre is t)->aA n h h'->KH .undef h') ->
        af PP (.iadd (.c vB) (.c (.int .i64 (pre.length:Int))) 14) h fun a=>af PP (.fadd (.c a) 1) h fun b=>aa PP (.st (.c b) (.c t.e) 13) h KH):=by
  obtain⟨bs,j,vs,h1,h2,h3,h4,h5⟩:=r.st
  obtain⟨bs',j',vL',nb',e',eu,-,-,st⟩:=kr r.rel
  rw[h4]at e'
  simp only[bV,Slot.box.injEq,D.agg.injEq,List.cons.injEq,and_true]at e'
  obtain⟨q1,-,-,-,-,-,-,-,q3,q4⟩:=e'
  refine⟨bs,j,nb',q4,by rw[h4];rfl,eu,fun t KH hK=>?_⟩
  rw[q4]
  exact st t hK
theorem Cv {esz:Nat}{h:Heap}{v:D}{els:List D}(ho:Own esz h v els){K:D->Prop}:cN v h K=K (.int .i64 (els.length:Int)):=by
  rcases ho with⟨rfl,rfl⟩|⟨m,rfl,hm⟩
  · rfl
  · rw[lU,hm];simp[Slot.live]
theorem Co {h:Heap}{n k:Nat}{arrs:D}{s:MS}(r:aH h n k arrs s):∃(bs:List Nat) (j:Nat) (vL vB:D),
    h n=.box (bV bs j arrs s vL vB)/\(h n).used=true/\(∀K:D->Prop,cN vL h K=K (.int .i64 (s.loops.length:Int))):=by
  obtain⟨bs,j,vL,vB,vs,h1,h2,h3,h4,h5⟩:=r.st
  exact⟨bs,j,vL,vB,h4,by rw[h4];rfl,fun K=>by rw[Cv h5.oL,List.length_map]⟩
def Bi (s:MS) (hd:Nat) (b:Int):MS:={ s with regs:=6+2*(s.loops.length:Int)+2,loops:=s.loops++[⟨(hd:Int),6+2*(s.loops.length:Int),b⟩] }
set_option maxHeartbeats 2000000 in
theorem IX {h:Heap}{n k:Nat}{s:MS}{pre:List Block}{is:List bf}{t:Term}(r:aH h n k aU (iT s pre is t)) (hA:iM (pre.length+1) s.regs pre) (hX:jx s.regs is) (hi:is.length<=10) (hp:pre.length<=40)
    (hq:s.loops.length<=10) (hR:s.regs=6+2*(s.loops.length:Int)) (hk:k<600000) {KH:D->Heap->Prop}
    (hK:∀(b:Int) (bs:List Block) (h':Heap),1<=b->b<=3->bs.length=pre.length+3->iM (pre.length+4) (s.regs+2) bs->aH h' n (k+100) aU { Bi s (pre.length+1) b with blocks:=bs }->aA n h h'->KH (.tup []) h') :
    ae PP bK [.ptr n 0 0] h KH:=by
  refine bZ nE (an _ _ _) rfl (nu _ _) ?_
  unfold jU
  obtain⟨bs0,j0,vL0,vB0,e0,eu0,el0⟩:=Co r
  unfold bV at e0
  have el0':∀K:D->Prop,cN vL0 h K=K (.int .i64 (s.loops.length:Int)):=el0
  generalize hqe:s.loops.length=q at *
  simp only[↓CH eu0,Nat.zero_add,Nat.reduceAdd,↓D9 e0 (j:=8) rfl,el0']
  rw[Cd,wrap64 (by omega) (by omega),dp,wrap64 (by omega) (by omega)]
  refine cQ r (by omega) fun b h1 _ r1 k1=>?_
  rw[bS]
  refine⟨by omega,?_⟩
  rw[show((b:Int).tmod 3)=((b % 3:Nat):Int) from aP b 3,dp,wrap64 (by omega) (by omega),dp,wrap64 (by omega) (by omega)]
  have hb3:b % 3<3:=Nat.mod_lt _ (by omega)
  generalize hbe:1+((b % 3:Nat):Int)=bd
  have hbd1:1<=bd:=by omega
  have hbd2:bd<=3:=by omega
  obtain⟨-,-,-,-,-,eu1,-⟩:=Co r1
  simp only[↓CH eu1,Nat.zero_add,Nat.reduceAdd]
  refine F8 (v:=6+2*(q:Int)+2) r1 fun h2 r2 k2=>?_
  have r2:aH h2 n (k+1) aU (iT { s with regs:=6+2*(q:Int)+2 } pre is t):=r2
  obtain⟨bs2,j2,vL2,nb2,e2,eu2,lv2,-,-⟩:=kr r2
  simp only[↓CH eu2,Nat.zero_add,Nat.reduceAdd,↓D9 e2 (j:=9) rfl,↓lU,lv2,true_and]
  refine dP qe ⟨aX,trivial⟩ ?_
  refine dP po ⟨aX,trivial⟩ ?_
  have hB9:∀{is':List bf},is'.length<=900->Ea pre is' 900:=fun hh=>hA.I4 (by omega) hh
  refine gz ⟨1,0,0,fT (6+2*(q:Int)),Const 0,al,al⟩ r2 (hB9 (by omega)) rfl rfl fun h3 r3 k3=>?_
  obtain⟨bs3,j3,vL3,nb3,e3,eu3,lv3,Hr,-⟩:=kr r3
  simp only[↓CH eu3,Nat.zero_add,Nat.reduceAdd,↓D9 e3 (j:=9) rfl]
  rw[jE,wrap64 (by omega) (by omega),je rfl,je rfl,show((pre.length+1:Nat):Int)-1=(pre.length:Int) by omega]
  refine Hr ⟨1,0,al,al,al,((pre.length+1:Nat):Int),0⟩ fun h4 r4 k4=>?_
  have kk4:=(((k1.trans k2).trans k3).trans k4)
  refine⟨fun qs h'=>qs=[.ptr n 0 0,.int .i64 (6+2*(q:Int)),.int .i64 bd,.int .i64 ((pre.length+1:Nat):Int)] /\
    aH h' n (k+1) aU (iT (Bi s (pre.length+1) bd) pre (is++[⟨1,0,0,fT (6+2*(q:Int)),Const 0,al,al⟩]) ⟨1,0,al,al,al,((pre.length+1:Nat):Int),0⟩)/\aA n h h',?_,?_⟩
  · rintro f h5 ⟨hf,r5,k5⟩
    simp only[List.cons.injEq,and_true]at hf
    obtain⟨f0,f2,f3,f4⟩:=hf
    rw[f0,f2,f3,f4]
    clear Hr e3 e2 e0
    have hreg:(Bi s (pre.length+1) bd).regs=s.regs+2:=by simp only[Bi,hqe];omega
    have rn:kj (s.regs+2) (fT (6+2*(q:Int))):=⟨_,by omega,by omega,rfl⟩
    have rn1:kj (s.regs+2) (fT (6+2*(q:Int)+1)):=⟨_,by omega,by omega,rfl⟩
    obtain⟨B1,hB1⟩:∃B:Block,B=⟨is++[⟨1,0,0,fT (6+2*(q:Int)),Const 0,al,al⟩],⟨1,0,al,al,al,((pre.length+1:Nat):Int),0⟩⟩:=⟨_,rfl⟩
    have A1:iM (pre.length+4) (s.regs+2) (pre++[B1]):=(hA.mono (by omega) (by omega)).snoc (by
      rw[hB1]
      exact⟨(hX.mono (by omega)).append (.one (.mov _ _ rn (Or.inr ⟨0,by omega,by omega,rfl⟩)) (by simp)),by simp;omega,.jump (pre.length+1) (by omega)⟩)
    have r5':aH h5 n (k+1) aU { Bi s (pre.length+1) bd with blocks:=pre++[B1] }:=by rw[hB1];exact r5
    have l1:(pre++[B1]).length=pre.length+1:=by simp
    clear hB1 r5
    generalize pre++[B1]=pre1 at A1 r5' l1
    refine oH r5' (by omega) fun h6 r6 k6=>?_
    rw[dp,wrap64 (by omega) (by omega)]
    refine dP qe ⟨aX,trivial⟩ ?_
    refine dP qe ⟨aX,trivial⟩ ?_
    rw[ot,show IntKind.i32.wrap bd=bd by simp only[IntKind.wrap,IntKind.signed,IntKind.bits];simp;omega]
    refine dP po ⟨aX,trivial⟩ ?_
    refine gz ⟨3,26,0,fT (6+2*(q:Int)+1),fT (6+2*(q:Int)),Const bd,al⟩ r6 (A1.I4 (by omega) (by simp)) rfl rfl fun h7 r7 k7=>?_
    obtain⟨bs7,j7,vL7,nb7,e7,eu7,lv7,-,st7⟩:=kr r7
    simp only[↓xk eu7,Nat.zero_add,Nat.reduceAdd,↓oC e7 (j:=9) rfl]
    rw[dp,wrap64 (by omega) (by omega)]
    refine yO qe ⟨aX,trivial⟩ ?_
    rw[dp,wrap64 (by omega) (by omega),dp,wrap64 (by omega) (by omega),oD rfl,oD rfl]
    rw[l1]at st7 ⊢
    refine st7 ⟨2,0,al,fT (6+2*(q:Int)+1),al,((pre.length+1:Nat):Int)+1,((pre.length+1:Nat):Int)+2⟩ fun h8 r8 k8=>?_
    obtain⟨B2,hB2⟩:∃B:Block,B=⟨[]++[⟨3,26,0,fT (6+2*(q:Int)+1),fT (6+2*(q:Int)),Const bd,al⟩],⟨2,0,al,fT (6+2*(q:Int)+1),al,((pre.length+1:Nat):Int)+1,((pre.length+1:Nat):Int)+2⟩⟩:=⟨_,rfl⟩
    have A2:iM (pre.length+4) (s.regs+2) (pre1++[B2]):=A1.snoc (by
      rw[hB2]
      exact⟨.one (.bin _ _ _ _ (by omega) rn1 rn.val (Or.inr ⟨bd,by omega,by omega,rfl⟩)) (by simp),by simp,.branch _ (pre.length+2) (pre.length+3) rn1 (by omega) (by omega)⟩)
    have r8':aH h8 n (k+1) aU { Bi s (pre.length+1) bd with blocks:=pre1++[B2] }:=by rw[hB2];exact r8
    have l2:(pre1++[B2]).length=pre.length+2:=by simp;omega
    clear hB2 r8 st7 e7
    generalize pre1++[B2]=pre2 at A2 r8' l2
    refine oH r8' (by omega) fun h9 r9 k9=>?_
    refine dP qe ⟨aX,trivial⟩ ?_
    refine dP qe ⟨aX,trivial⟩ ?_
    refine dP po ⟨aX,trivial⟩ ?_
    refine gz ⟨3,10,0,fT (6+2*(q:Int)),fT (6+2*(q:Int)),Const 1,al⟩ r9 (A2.I4 (by omega) (by simp)) rfl rfl fun h10 r10 k10=>?_
    refine wc r10 (A2.I4 (by omega) (by simp)) (by omega) fun xs h11 hxs hxl r11 k11=>?_
    obtain⟨bs11,j11,vL11,nb11,e11,eu11,lv11,st11,-⟩:=kr r11
    simp only[↓CH eu11,Nat.zero_add,Nat.reduceAdd,↓D9 e11 (j:=9) rfl]
    rw[dp,wrap64 (by omega) (by omega),je rfl,je rfl]
    rw[l2]at st11 ⊢
    rw[show((pre.length+1:Nat):Int)+1=((pre.length+2:Nat):Int) by omega]
    refine st11 ⟨1,0,al,al,al,((pre.length+1:Nat):Int),0⟩ fun h12 r12 k12=>?_
    clear st11 e11
    have hxs2:jx (s.regs+2) ([]++[⟨3,10,0,fT (6+2*(q:Int)),fT (6+2*(q:Int)),Const 1,al⟩]++xs) :=
      (jx.one (.bin _ _ _ _ (by omega) rn rn.val (Or.inr ⟨1,by omega,by omega,rfl⟩)) (by simp)).append (hxs.mono (by omega))
    have hxl2:([]++[⟨3,10,0,fT (6+2*(q:Int)),fT (6+2*(q:Int)),Const 1,al⟩]++xs:List bf).length<=20:=by simp;omega
    generalize ([]++[⟨3,10,0,fT (6+2*(q:Int)),fT (6+2*(q:Int)),Const 1,al⟩]++xs:List bf)=ys at hxs2 hxl2 r12
    have kk:=((((((k5.trans k6).trans k7).trans k8).trans k9).trans k10).trans k11).trans k12
    refine⟨fun qs h'=>∃c:Bool,qs=[.ptr n 0 0,.int .i64 ((pre.length+1:Nat):Int),.bool c]/\aH h' n (k+52) aU (iT (Bi s (pre.length+1) bd) pre2 ys ⟨1,0,al,al,al,((pre.length+1:Nat):Int),0⟩)/\aA n h h',?_,?_⟩
    · rintro g h13 ⟨c,hg,r13,k13⟩
      simp only[List.cons.injEq,and_true]at hg
      obtain⟨g0,g4,g119⟩:=hg
      rw[g0,g4,g119]
      cases c with
      | false =>
        rw[aF]
        exact hK bd _ h13 hbd1 hbd2 (by simp;omega) (A2.snoc ⟨hxs2,hxl2,.jump (pre.length+1) (by omega)⟩) (r13.le (by omega)) k13
      | true =>
        rw[aI]
        obtain⟨vL13,vB13,r13⟩:=r13.v
        obtain⟨bs13,j13,nb13,ev13,e13,eu13,-⟩:=dD r13
        simp only[↓xk eu13,Nat.zero_add,Nat.reduceAdd,↓oC e13 (j:=9) rfl]
        rw[dp,wrap64 (by omega) (by omega),dp,wrap64 (by omega) (by omega),oD rfl]
        refine BJ r13 (by omega) fun d h14 hd r14 k14=>?_
        obtain⟨bs14,j14,nb14,ev14,e14,eu14,st14⟩:=dD r14
        simp only[↓xk eu14,Nat.zero_add,Nat.reduceAdd,↓oC e14 (j:=9) rfl,aq,true_and]
        rw[oD rfl,show((pre.length+1:Nat):Int)+1=(pre2.length:Int) by omega]
        refine st14 ⟨2,0,al,fT d,al,((pre.length+1:Nat):Int),((pre.length+1:Nat):Int)+2⟩ fun h15 r15 k15=>?_
        exact hK bd _ h15 hbd1 hbd2 (by simp;omega) (A2.snoc ⟨hxs2,hxl2,.branch (fT d) (pre.length+1) (pre.length+3) ((cH hd).mono (by omega)) (by omega) (by omega)⟩) (r15.le (by omega)) ((k13.trans k14).trans k15)
    · refine cQ r12 (by omega) fun b' h13 _ r13 k13=>?_
      rw[bS]
      refine⟨by omega,?_⟩
      rw[dW]
      exact⟨rfl,_,rfl,r13.le (by omega),kk.trans k13⟩
  · obtain⟨bs4,j4,vL4,vB4,e4,eu4,-⟩:=Co r4
    have e4':=e4
    unfold bV at e4'
    simp only[↓CH eu4,Nat.zero_add,Nat.reduceAdd,↓D9 e4' (j:=8) rfl]
    rw[je rfl]
    refine app_loop (l:=⟨((pre.length+1:Nat):Int),6+2*(q:Int),bd⟩) r4 (by simp only[iT];omega) (by omega) e4 fun h5 r5 k5=>?_
    refine⟨by first|rfl|trivial,by first|rfl|trivial,?_,kk4.trans k5⟩
    have:Bi s (pre.length+1) bd={ s with regs:=6+2*(q:Int)+2,loops:=s.loops++[⟨((pre.length+1:Nat):Int),6+2*(q:Int),bd⟩] }:=by rw[Bi,hqe]
    rw[this]
    exact r5
end Go.Am
namespace Go.Am
open Go
set_option maxHeartbeats 2000000 in
theorem AE {h:Heap}{n k m:Nat}{s:MS}{bs:List Block}(r:aH h n k aU { s with blocks:=bs }) (hA:iM (bs.length+1) s.regs bs) (hl:bs.length<=40) (hR:6<=s.regs) (hm:m<=2) (hk:k<500000){KH:D->Heap->Prop}
    (hK:∀(pre:List Block) (is:List bf) (h':Heap),pre.length=bs.length+m->iM (pre.length+1) s.regs pre->jx 6 is->is.length<=8->aH h' n (k+300) aU (iT s pre is gZ)->aA n h h'->KH (.tup []) h') :
    ae PP bP [.ptr n 0 0,.int .i64 (m:Int)] h KH:=by
  refine bZ lQ (an _ _ _) rfl (lL _ _ _) ?_
  unfold iH
  refine oH r (by omega) fun h1 r1 k1=>?_
  obtain⟨bs1,j1,vL1,nb1,e1,eu1,lv1,-,-⟩:=kr r1
  simp only[↓CH eu1,Nat.zero_add,Nat.reduceAdd,↓D9 e1 (j:=9) rfl,↓lU,lv1,true_and]
  rw[jE,wrap64 (by omega) (by omega),dp,wrap64 (by omega) (by omega),show((bs.length+1:Nat):Int)-1=(bs.length:Int) by omega]
  refine⟨fun qs h'=>qs=[]/\∃pre:List Block,pre.length=bs.length+m/\iM (pre.length+1) s.regs pre/\aH h' n (k+200) aU (iT s pre [] gZ)/\aA n h h',?_,?_⟩
  · rintro f h2 ⟨-,pre,hpl,hpA,r2,k2⟩
    refine wc r2 (hpA.I4 (by omega) (by simp)) (by omega) fun xs h3 hx hxl r3 k3=>?_
    exact hK pre xs h3 hpl hpA hx hxl (r3.le (by omega)) (k2.trans k3)
  · unfold fR
    refine⟨fun j qs h'=>j<=m/\qs=[.int .i64 ((bs.length+(m-j):Nat):Int)]/\∃pre:List Block,pre.length=bs.length+(m-j)/\iM (bs.length+m+1) s.regs pre/\aH h' n (k+80*(m-j)) aU (iT s pre [] gZ)/\aA n h h',m,⟨Nat.le_refl _,by simp,bs,by simp,hA.mono (by omega) (by omega),by simpa using r1,k1⟩,?_⟩
    rintro j f h2 ⟨hj,hq,pre,hpl,hpA,r2,k2⟩
    simp only[List.cons.injEq,and_true]at hq
    rw[hq,mI,show(bs.length:Int)+(m:Int)=((bs.length+m:Nat):Int) by omega]
    by_cases h0:0<j
    · simp only[show(((bs.length+(m-j):Nat):Int)<((bs.length+m:Nat):Int))=True from eq_true (by omega),decide_true,↓aI]
      refine wc r2 (hpA.I4 (by omega) (by simp)) (by omega) fun xs h3 hx hxl r3 k3=>?_
      rw[List.nil_append]at r3
      obtain⟨bs3,j3,vL3,nb3,e3,eu3,lv3,Hr,-⟩:=kr r3
      simp only[↓CH eu3,Nat.zero_add,Nat.reduceAdd,↓D9 e3 (j:=9) rfl]
      rw[dp,wrap64 (by omega) (by omega),je rfl,je rfl]
      rw[show((bs.length+(m-j):Nat):Int)+1=((bs.length+(m-j)+1:Nat):Int) by omega]
      rw[hpl]at Hr ⊢
      refine Hr ⟨1,0,al,al,al,((bs.length+(m-j)+1:Nat):Int),0⟩ fun h4 r4 k4=>?_
      clear Hr e3
      have kk4:=(k2.trans k3).trans k4
      refine⟨fun qs h'=>qs=[]/\∃T:Term,AZ (bs.length+m+1) s.regs T/\aH h' n (k+80*(m-j)+60) aU (iT s pre xs T)/\aA n h h',?_,?_⟩
      · rintro g h5 ⟨-,T,hT,r5,k5⟩
        have A5:iM (bs.length+m+1) s.regs (pre++[⟨xs,T⟩]):=hpA.snoc ⟨hx.mono hR,by simp only;omega,hT⟩
        refine oH (bs:=pre++[⟨xs,T⟩]) r5 (by simp;omega) fun h6 r6 k6=>?_
        rw[dp,wrap64 (by omega) (by omega)]
        refine⟨rfl,j-1,by omega,by omega,?_,pre++[⟨xs,T⟩],by simp;omega,A5,r6.le (by omega),k5.trans k6⟩
        congr 2
        omega
      · refine cQ r4 (by omega) fun b h5 _ r5 k5=>?_
        rw[bS]
        refine⟨by omega,?_⟩
        rw[show((b:Int).tmod 2)=((b % 2:Nat):Int) from aP b 2,dW]
        by_cases hb2:b % 2=0
        · simp only[show(((b % 2:Nat):Int)=0)=True from eq_true (by omega),decide_true,↓aI]
          obtain⟨vL5,vB5,r5⟩:=r5.v
          obtain⟨bs5,j5,nb5,ev5,e5,eu5,-⟩:=dD r5
          simp only[↓xk eu5,Nat.zero_add,Nat.reduceAdd,↓oC e5 (j:=9) rfl]
          rw[dp,wrap64 (by omega) (by omega),jE,wrap64 (by omega) (by omega),dp,wrap64 (by omega) (by omega),jE,wrap64 (by omega) (by omega)]
          refine BJ r5 (by omega) fun d h6 hd r6 k6=>?_
          obtain⟨bs6,j6,nb6,ev6,e6,eu6,-⟩:=dD r6
          simp only[↓xk eu6,Nat.zero_add,Nat.reduceAdd,↓oC e6 (j:=9) rfl,aq,true_and]
          refine sL r6 (by omega) fun x h7 _ r7 k7=>?_
          obtain⟨bs7,j7,nb7,ev7,e7,eu7,-⟩:=dD r7
          simp only[↓xk eu7,Nat.zero_add,Nat.reduceAdd,↓oC e7 (j:=9) rfl,aq,true_and]
          rw[bS]
          refine⟨by omega,?_⟩
          rw[show((bs.length+m:Nat):Int)-((bs.length+(m-j):Nat):Int)=(j:Int) by omega,show((x:Int).tmod (j:Int))=((x % j:Nat):Int) from aP x j]
          have hx1:x % j<j:=Nat.mod_lt _ h0
          rw[dp,wrap64 (by omega) (by omega)]
          refine sL r7 (by omega) fun y h8 _ r8 k8=>?_
          obtain⟨bs8,j8,nb8,ev8,e8,eu8,st8⟩:=dD r8
          simp only[↓xk eu8,Nat.zero_add,Nat.reduceAdd,↓oC e8 (j:=9) rfl,aq,true_and]
          rw[bS]
          refine⟨by omega,?_⟩
          rw[show((y:Int).tmod (j:Int))=((y % j:Nat):Int) from aP y j]
          have hy1:y % j<j:=Nat.mod_lt _ h0
          rw[dp,wrap64 (by omega) (by omega),oD rfl,oD rfl]
          rw[hpl]at st8
          refine st8 ⟨2,0,al,fT d,al,((bs.length+(m-j):Nat):Int)+1+((x % j:Nat):Int),((bs.length+(m-j):Nat):Int)+1+((y % j:Nat):Int)⟩ fun h9 r9 k9=>?_
          try simp only[aq,true_and]
          refine⟨_,?_,r9.le (by omega),((((kk4.trans k5).trans k6).trans k7).trans k8).trans k9⟩
          have e1:((bs.length+(m-j):Nat):Int)+1+((x % j:Nat):Int)=((bs.length+(m-j)+1+x % j:Nat):Int):=by omega
          have e2:((bs.length+(m-j):Nat):Int)+1+((y % j:Nat):Int)=((bs.length+(m-j)+1+y % j:Nat):Int):=by omega
          rw[e1,e2]
          exact .branch _ _ _ ((cH hd).mono hR) (by omega) (by omega)
        · simp only[show(((b % 2:Nat):Int)=0)=False from eq_false (by omega),decide_false,↓aF]
          try simp only[aq,true_and]
          exact⟨_,.jump _ (by omega),r5.le (by omega),kk4.trans k5⟩
    · simp only[show(((bs.length+(m-j):Nat):Int)<((bs.length+m:Nat):Int))=False from eq_false (by omega),decide_false,↓aF]
      have hj0:j=0:=by omega
      subst hj0
      try simp only[aq,true_and]
      exact⟨pre,by omega,by rw[hpl];exact hpA.mono (by omega) (by omega),r2.le (by omega),k2⟩
end Go.Am
namespace Go.Am
open Go
theorem yU {esz:Nat}{h:Heap}{v:D}{els:List D}(ho:Own esz h v els) (hv:∀x∈els,∀y∈x.cells,y.vone=true):kK h v/\(v.fzc h).vone=true/\v.one=true/\Wk (v.fzc h) (.sl els):=by
  rcases ho with⟨rfl,rfl⟩|⟨m,rfl,hm⟩
  · exact⟨trivial,rfl,rfl,.nil⟩
  · have hrow:(h m).row=some (esz,els):=by rw[hm];rfl
    have e:(D.ms m 0 els.length).fzc h=.sl els:=by simp[D.fzc,hrow]
    exact⟨⟨esz,els,hrow,by simp,fun x hx=>hv x (by simpa using hx)⟩,by rw[e];rfl,rfl,by rw[e];exact .refl _⟩
theorem w6 {l:List bf}:∀x,x∈l.map bf.e->∀y∈x.cells,y.vone=true:=by
  intro x hx y hy
  obtain⟨a,-,rfl⟩:=List.mem_map.1 hx
  simp[bf.e,bf.cs]at hy
  rcases hy with rfl|rfl|rfl|rfl|rfl|rfl|rfl|rfl|rfl|rfl|rfl|rfl|rfl|rfl|rfl<;>rfl
theorem Bj {l:List Loop}:∀x,x∈l.map Loop.e->∀y∈x.cells,y.vone=true:=by
  intro x hx y hy
  obtain⟨a,-,rfl⟩:=List.mem_map.1 hx
  simp[Loop.e]at hy
  rcases hy with rfl|rfl|rfl<;>rfl
theorem lh {t:Term}:∀x∈t.cs,x.vone=true/\x.iP=[]/\(∀h,x.fzc h=x/\kK h x):=by
  intro x hx
  simp[Term.cs]at hx
  rcases hx with rfl|rfl|rfl|rfl|rfl|rfl|rfl|rfl|rfl|rfl|rfl|rfl|rfl<;>exact⟨rfl,rfl,fun h=>⟨rfl,trivial⟩⟩
theorem Cg {t:Term}{h:Heap}:t.cs.map (D.fzc h)=t.cs:=by
  rw[List.map_congr_left (fun x hx=>((lh x hx).2.2 h).1)];simp
theorem yB {vs:List D}{bs:List Block}(hl:vs.length=bs.length){e:D}(he:e∈bC vs bs):∃(i:Nat) (v:D) (b:Block),vs[i]?=some v/\bs[i]?=some b/\e=.agg (v::b.t.cs):=by
  obtain⟨i,hi⟩:=List.getElem?_of_mem he
  simp only[bC,List.getElem?_zipWith]at hi
  cases hv:vs[i]? with
  | none=>simp[hv]at hi
  | some v =>
    cases hb:bs[i]? with
    | none=>simp[hv,hb]at hi
    | some b=>simp only[hv,hb,Option.some.injEq]at hi;exact⟨i,v,b,hv,hb,hi.symm⟩
theorem E2 {h:Heap}{loops:List Loop}{blocks:List Block}{vL vB:D}{vs:List D}(r:Rows h loops blocks vL vB vs) (hne:blocks≠[]) (g sb rg:Int) :
    ∃h'',Da h h''/\gK (.agg [.int .i64 g,.int .i64 sb,.int .i64 rg,.int .i64 0,.int .i64 3,aU,vL,vB])/\oO h'' (.agg [.int .i64 g,.int .i64 sb,.int .i64 rg,.int .i64 0,.int .i64 3,aU,vL,vB]) /\
      ((D.agg [.int .i64 g,.int .i64 sb,.int .i64 rg,.int .i64 0,.int .i64 3,aU,vL,vB]).fzt h'').A9=true /\
      Wk ((D.agg [.int .i64 g,.int .i64 sb,.int .i64 rg,.int .i64 0,.int .i64 3,aU,vL,vB]).fzt h'') (Code.e ⟨g,sb,rg,0,3,sN,loops,blocks⟩):=by
  have hel:=fP r.len
  obtain⟨nb,e1,e2⟩:=sf r.oB (by
    intro he
    have:=congrArg List.length he
    rw[hel]at this
    exact hne (List.length_eq_zero_iff.1 this))
  subst e1
  obtain⟨hs1,hs2⟩:=si r.nd
  have names:∀k,k∈(bC vs blocks).flatMap D.nm->k∈bc vs:=by
    intro k hk
    obtain⟨e,he,hke⟩:=List.mem_flatMap.1 hk
    obtain⟨i,v,b,hv,hb,rfl⟩:=yB r.len he
    simp only[D.nm,List.mem_flatMap,List.mem_cons]at hke
    obtain⟨x,hx|hx,hkx⟩:=hke
    · subst hx;exact js (List.mem_of_getElem? hv) hkx
    · rw[(lh x hx).2.1]at hkx;cases hkx
  have hd:Db h nb 14 (bC vs blocks):=by
    refine⟨fun hm=>hs1 (by rw[aS];exact List.mem_append_right _ (names nb hm)),fun e he=>?_⟩
    obtain⟨i,v,b,hv,hb,rfl⟩:=yB r.len he
    obtain⟨f1,f2,f3,-⟩:=yU (r.oI i v b hv hb) w6
    refine⟨fun x hx=>?_,fun x hx=>?_,fun y hy=>?_⟩
    · simp only[D.cells,List.mem_cons]at hx
      rcases hx with rfl|hx
      · exact f3
      · exact D.fX (lh x hx).1
    · simp only[D.cells,List.mem_cons]at hx
      rcases hx with rfl|hx
      · exact f1
      · exact((lh x hx).2.2 h).2
    · simp only[D.fz,D.cells,List.map_cons,List.mem_cons]at hy
      rcases hy with rfl|hy
      · exact f2
      · rw[Cg]at hy
        exact(lh y hy).1
  refine⟨Ai h nb 14 (bC vs blocks),.step e2 hd (.refl _),?_⟩
  obtain⟨hI,eI⟩:∃hI,hI=Ai h nb 14 (bC vs blocks):=⟨_,rfl⟩
  rw[<- eI]
  have hnb:hI nb=.arr 14 ((bC vs blocks).map (D.fz h)):=by rw[eI];exact DG
  have oL:Own 3 hI vL (loops.map Loop.e):=cn r.oL fun k hk=>by
    rw[eI]
    refine Bo ?_ fun hm=>?_
    · rintro rfl;exact hs1 (by rw[aS];exact List.mem_append_left _ hk)
    · rw[aS]at hs2
      exact(List.nodup_append.1 hs2).2.2 k hk k (names k hm) rfl
  obtain⟨l1,l2,l3,l4⟩:=yU oL Bj
  have hrow:(hI nb).row=some (14,(bC vs blocks).map (D.fz h)):=by rw[hnb];rfl
  have eB:(D.ms nb 0 (bC vs blocks).length).fzc hI=.sl ((bC vs blocks).map (D.fz h)):=by
    simp only[D.fzc,hrow,List.drop_zero]
    rw[List.take_of_length_le (by simp)]
  have e:(D.agg [.int .i64 g,.int .i64 sb,.int .i64 rg,.int .i64 0,.int .i64 3,aU,vL,.ms nb 0 (bC vs blocks).length]).fzt hI =
      .agg [.int .i64 g,.int .i64 sb,.int .i64 rg,.int .i64 0,.int .i64 3,aU,vL.fzc hI,.sl ((bC vs blocks).map (D.fz h))]:=by
    simp only[D.fzt,D.fz,List.map_cons,List.map_nil,eB]
    rfl
  refine⟨fun x hx=>?_,fun x hx=>?_,?_,?_⟩
  · simp only[D.cells,List.mem_cons,List.not_mem_nil,or_false]at hx
    rcases hx with rfl|rfl|rfl|rfl|rfl|rfl|rfl|rfl<;>first|rfl|exact l3
  · simp only[D.cells,List.mem_cons,List.not_mem_nil,or_false]at hx
    rcases hx with rfl|rfl|rfl|rfl|rfl|rfl|rfl|rfl<;>first|exact trivial|exact l1|skip
    refine⟨14,_,hrow,by simp,fun x hx y hy=>?_⟩
    have hx:=List.mem_of_mem_drop (List.mem_of_mem_take hx)
    obtain⟨a,ha,rfl⟩:=List.mem_map.1 hx
    exact(hd.el a ha).2.2 y hy
  · rw[e]
    show([D.int .i64 g,.int .i64 sb,.int .i64 rg,.int .i64 0,.int .i64 3,aU,vL.fzc hI,.sl ((bC vs blocks).map (D.fz h))].all D.vone)=true
    simp only[List.all_cons,List.all_nil,zD,l2,aU,B9,Bool.and_true,Bool.and_self]
  · rw[e]
    refine Wk.Hh (.cons (.refl _) (.cons (.refl _) (.cons (.refl _) (.cons (.refl _) (.cons (.refl _) (.cons (.refl _) (.cons l4 (.cons ?_ .nil))))))))
    refine .sl _ _ (by simp[hel]) fun i x y hx hy=>?_
    simp only[List.getElem?_map,Option.map_eq_some_iff]at hx hy
    obtain⟨x,hx,rfl⟩:=hx
    obtain⟨b,hb,rfl⟩:=hy
    obtain⟨v,hv⟩:∃v,vs[i]?=some v:=by
      have:=(List.getElem?_eq_some_iff.1 hb).1
      exact⟨vs[i]'(by rw[r.len];exact this),List.getElem?_eq_getElem _⟩
    rw[tU hv hb]at hx
    cases hx
    simp only[D.fz,List.map_cons,Cg,Block.e]
    exact Wk.Hh (.cons (yU (r.oI i v b hv hb) w6).2.2.2 .rfl)
theorem FB:aQ PP gj [] (· = aU):=by
  refine fZ tg (an _ _ _) rfl (sT _) ?_
  unfold oM
  rw[je rfl,je rfl,je rfl,je rfl,je rfl]
  refine⟨lI rfl,fun _=>?_,fun n t=>?_⟩
  · intro p hp
    simp[Arg.get]at hp
    rcases hp with rfl|rfl|rfl|rfl|rfl<;>(intro x hx;simp[D.cells,fillD]at hx;rcases hx with rfl|rfl|rfl|rfl<;>exact trivial)
  · show tq _ (.ms n 0 5) (ak eQ n (.arr 4 (sN.map um.e)))
    refine B8 (n:=n) (els:=sN.map um.e) (esz:=4) (by rw[ag];rfl) ?_ rfl
    intro x hx y hy
    obtain⟨a,-,rfl⟩:=List.mem_map.1 hx
    simp[um.e]at hy
    rcases hy with rfl|rfl|rfl|rfl<;>rfl
def HM (N:Nat) (R:Int) (l:Loop):Prop:=(∃hd:Nat,l.head=hd/\hd<N)/\(0<=l.reg/\l.reg<R)/\1<=l.bound/\l.bound<=3
structure kf (c:Code):Prop where
  group:c.group=4\/c.group=1\/c.group=2\/c.group=8\/c.group=6
  sub:c.sub=1\/c.sub=2\/c.sub=4\/c.sub=8
  dvd:c.group.tmod c.sub=0
  regs:c.regs=6+2*(c.loops.length:Int)
  slots:c.slots=0
  params:c.params=3
  arrays:c.arrays=sN
  nl:c.loops.length<=3
  loops:∀l∈c.loops,HM c.b.length c.regs l
  nb:1<=c.b.length/\c.b.length<=18
  b:iM c.b.length c.regs c.b
def pD (bs:List Nat):D:=.agg [rM bs]
def z8:D:=.agg [.int .i64 0,.int .i64 0,.int .i64 0,.int .i64 0,.int .i64 0,.nil,.nil,.nil]
structure Hd (g sb:Int):Prop where
  group:g=4\/g=1\/g=2\/g=8\/g=6
  sub:sb=1\/sb=2\/sb=4\/sb=8
  dvd:g.tmod sb=0
structure BZ (s:MS) (bs:List Block) (q:Nat):Prop where
  hd:Hd s.group s.sub
  regs:s.regs=6+2*(s.loops.length:Int)
  nl:s.loops.length<=q
  nb:bs.length<=6*q
  loops:∀l∈s.loops,HM bs.length s.regs l
  b:iM (bs.length+1) s.regs bs
theorem EN {h:Heap}:Rows h [] [] .nil .nil []:=⟨Or.inl ⟨rfl,rfl⟩,Or.inl ⟨rfl,rfl⟩,rfl,fun k v b hv=>by simp at hv,by simp[bc,D.iP]⟩
theorem zX {h:Heap}{n k:Nat}{s:MS}{pre:List Block}{is:List bf}{q:Nat}(hs:Hd s.group s.sub) (hR:s.regs=6+2*(s.loops.length:Int)) (hl:s.loops.length<=q) (hq:q<=9) (hp:pre.length<=6*q+2) (hq2:q<=2)
    (hL:∀l∈s.loops,HM (pre.length+1) s.regs l) (hA:iM (pre.length+1) s.regs pre) (hX:jx 6 is) (hi:is.length<=8) (r:aH h n k aU (iT s pre is gZ)) (hk:k<400000) {KH:D->Heap->Prop}
    (hK:∀(s':MS) (pre':List Block) (h':Heap),s'.group=s.group->s'.sub=s.sub->s'.regs=6+2*(s'.loops.length:Int)->s'.loops.length<=q+1->pre'.length<=6*q+5->(∀l,l∈s'.loops->HM (pre'.length+1) s'.regs l)->iM (pre'.length+1) s'.regs pre' ->
      aH h' n (k+100) aU (iT s' pre' [] gZ)->aA n h h'->KH (.tup []) h') :
    ae PP bK [.ptr n 0 0] h fun _ h1=>ae PP aN [.ptr n 0 0] h1 KH:=by
  refine IX r hA (hX.mono (by omega)) (by omega) (by omega) (by omega) hR (by omega) fun b bs h1 hb1 hb2 hbl hbA r1 k1=>?_
  refine oH (bs:=bs) r1 (by omega) fun h2 r2 k2=>?_
  have hreg:(Bi s (pre.length+1) b).regs=s.regs+2:=by simp only[Bi];omega
  refine hK (Bi s (pre.length+1) b) bs h2 rfl rfl ?_ ?_ (by omega) ?_ ?_ r2 (k1.trans k2)
  · simp only[Bi,List.length_append,List.length_singleton];omega
  · simp only[Bi,List.length_append,List.length_singleton];omega
  · intro l hl
    rw[hreg]
    simp only[Bi,List.mem_append,List.mem_singleton]at hl
    rcases hl with hl|rfl
    · obtain⟨⟨hd,e1,e2⟩,e3,e4⟩:=hL l hl
      exact⟨⟨hd,e1,by omega⟩,⟨e3.1,by omega⟩,e4⟩
    · exact⟨⟨pre.length+1,rfl,by omega⟩,⟨by simp only;omega,by simp only;omega⟩,hb1,hb2⟩
  · rw[hreg]
    exact hbA.mono (by omega) (by omega)
set_option maxHeartbeats 4000000 in
theorem GC {h:Heap}{n nz k c:Nat}{s:MS}(hne:nz≠n) (hc:c<=2) (hs:BZ s [] 0) (r:aH h n k aU { s with blocks:=[] }) (hk:k<=1000) (hz:h nz=.box z8){J:List D->Heap->Prop}
    (hJ:∀(s':MS) (bs:List Block) (h':Heap),BZ s' bs 2->aH h' n (k+2000) aU { s' with blocks:=bs }->h' nz=.box z8->J [] h') :
    iY (.int .i64 (c:Int)) h (.ptr nz 0 0) (.ptr n 0 0) J:=by
  unfold iY
  refine⟨fun j qs h'=>j<=c/\qs=[.int .i64 (j:Int)]/\∃(s':MS) (bs:List Block),BZ s' bs (c-j)/\aH h' n (k+1000*(c-j)) aU { s' with blocks:=bs }/\h' nz=.box z8,c,⟨Nat.le_refl _,rfl,s,[],by simpa using hs,by simpa using r,hz⟩,?_⟩
  rintro j f h1 ⟨hj,hq,s1,bs,hs1,r1,hz1⟩
  simp only[List.cons.injEq,and_true]at hq
  rw[hq,pV]
  by_cases h0:0<j
  · simp only[show((0:Int)<(j:Int))=True from eq_true (by omega),decide_true,↓aI]
    have nl:=hs1.nl
    have nb:=hs1.nb
    refine⟨fun qs h'=>qs=[]/\∃(s':MS) (bs:List Block),BZ s' bs (c-(j-1))/\aH h' n (k+1000*(c-j)+1000) aU { s' with blocks:=bs }/\h' nz=.box z8,?_,?_⟩
    · rintro g h2 ⟨-,s2,bs2,hs2,r2,hz2⟩
      rw[jE,wrap64 (by omega) (by omega)]
      refine⟨rfl,j-1,by omega,by omega,by congr 2;omega,s2,bs2,hs2,r2.le (by omega),hz2⟩
    · refine cQ r1 (by omega) fun b h2 _ r2 k2=>?_
      rw[bS]
      refine⟨by omega,?_⟩
      rw[show((b:Int).tmod 3)=((b % 3:Nat):Int) from aP b 3]
      have hm:b % 3<3:=Nat.mod_lt _ (by omega)
      refine AE r2 hs1.b (by omega) (by have:=hs1.regs;omega) (by omega) (by omega) fun pre is h3 hpl hpA hX hi r3 k3=>?_
      have hz3:=k3 nz _ hne (k2 nz _ hne hz1)
      have hLp:∀l∈s1.loops,HM (pre.length+1) s1.regs l:=fun l hl=>by
        obtain⟨⟨hd,e1,e2⟩,e3⟩:=hs1.loops l hl
        exact⟨⟨hd,e1,by omega⟩,e3⟩
      refine⟨fun qs h'=>qs=[]/\∃(s':MS) (pre':List Block) (is':List bf),Hd s'.group s'.sub/\s'.regs=6+2*(s'.loops.length:Int)/\s'.loops.length<=(c-j)+1/\pre'.length<=6*(c-j)+5/\(∀l,l∈s'.loops->HM (pre'.length+1) s'.regs l) /\
        iM (pre'.length+1) s'.regs pre'/\jx s'.regs is'/\is'.length<=8/\aH h' n (k+1000*(c-j)+500) aU (iT s' pre' is' gZ)/\h' nz=.box z8,?_,?_⟩
      · rintro g h4 ⟨-,s4,pre4,is4,g1,g2,g3,g4,g5,g6,g7,g8,r4,hz4⟩
        obtain⟨bs4,j4,vL4,nb4,e4,eu4,lv4,st4,-⟩:=kr r4
        simp only[↓CH eu4,Nat.zero_add,Nat.reduceAdd,↓D9 e4 (j:=9) rfl,↓lU,lv4,true_and]
        rw[jE,wrap64 (by omega) (by omega)]
        rw[show((pre4.length+1:Nat):Int)-1=(pre4.length:Int) by omega,dp,wrap64 (by omega) (by omega),je rfl,je rfl]
        have hT:∀(T:Term) (h':Heap),AZ (pre4.length+2) s4.regs T->aH h' n (k+1000*(c-j)+600) aU (iT s4 pre4 is4 T)->h' nz=.box z8 ->
            ∃(s':MS) (bs:List Block),BZ s' bs (c-(j-1))/\aH h' n (k+1000*(c-j)+1000) aU { s' with blocks:=bs }/\h' nz=.box z8:=by
          intro T h' hT r' hz'
          refine⟨s4,pre4++[⟨is4,T⟩],⟨g1,g2,by omega,by simp;omega,?_,?_⟩,r'.le (by omega),hz'⟩
          · simp only[List.length_append,List.length_singleton];exact g5
          · simp only[List.length_append,List.length_singleton]
            exact(g6.mono (by omega) (by omega)).snoc ⟨g7,by simp only;omega,hT⟩
        refine st4 ⟨3,0,al,al,al,(pre4.length:Int)+1,0⟩ fun h5 r5 k5=>?_
        have hz5:=k5 nz _ hne hz4
        refine cQ r5 (by omega) fun b5 h6 _ r6 k6=>?_
        have hz6:=k6 nz _ hne hz5
        rw[bS]
        refine⟨by omega,?_⟩
        rw[show((b5:Int).tmod 3)=((b5 % 3:Nat):Int) from aP b5 3,dW]
        by_cases hb3:b5 % 3=0
        · simp only[show(((b5 % 3:Nat):Int)=0)=True from eq_true (by omega),decide_true,↓aI]
          obtain⟨vL6,vB6,r6⟩:=r6.v
          obtain⟨bs6,j6,nb6,ev6,e6,eu6,-⟩:=dD r6
          simp only[↓xk eu6,Nat.zero_add,Nat.reduceAdd,↓oC e6 (j:=9) rfl]
          rw[dp,wrap64 (by omega) (by omega),oD rfl]
          refine sL r6 (by omega) fun b7 h7 _ r7 k7=>?_
          obtain⟨bs7,j7,nb7,ev7,e7,eu7,-⟩:=dD r7
          simp only[↓xk eu7,Nat.zero_add,Nat.reduceAdd,↓oC e7 (j:=9) rfl,aq,true_and]
          rw[bS]
          refine⟨by omega,?_⟩
          rw[show((b7:Int).tmod 6)=((b7 % 6:Nat):Int) from aP b7 6]
          have hb6:b7 % 6<6:=Nat.mod_lt _ (by omega)
          rw[dp,wrap64 (by omega) (by omega)]
          refine BJ r7 (by omega) fun d h8 hd r8 k8=>?_
          obtain⟨bs8,j8,nb8,ev8,e8,eu8,-⟩:=dD r8
          simp only[↓xk eu8,Nat.zero_add,Nat.reduceAdd,↓oC e8 (j:=9) rfl,aq,true_and]
          refine Fz r8 (by omega) fun o h9 ho r9 k9=>?_
          obtain⟨bs9,j9,nb9,ev9,e9,eu9,-⟩:=dD r9
          simp only[↓xk eu9,Nat.zero_add,Nat.reduceAdd,↓oC e9 (j:=9) rfl,aq,true_and]
          refine Fz r9 (by omega) fun p h10 hp r10 k10=>?_
          obtain⟨bs10,j10,nb10,ev10,e10,eu10,st10⟩:=dD r10
          simp only[↓xk eu10,Nat.zero_add,Nat.reduceAdd,↓oC e10 (j:=9) rfl,aq,true_and]
          rw[oD rfl]
          refine st10 ⟨4,1+((b7 % 6:Nat):Int),fT d,o,p,(pre4.length:Int)+1,0⟩ fun h11 r11 k11=>?_
          have hz11:=k11 nz _ hne (k10 nz _ hne (k9 nz _ hne (k8 nz _ hne (k7 nz _ hne hz6))))
          try simp only[aq,true_and]
          exact hT _ h11 (.collect _ _ _ _ (pre4.length+1) (by omega) ((cH hd).mono (by omega)) (ho.o.mono (by omega)) (hp.o.mono (by omega)) (by omega)) (r11.le (by omega)) hz11
        · simp only[show(((b5 % 3:Nat):Int)=0)=False from eq_false (by omega),decide_false,↓aF]
          try simp only[aq,true_and]
          exact hT _ h6 (.barrier (pre4.length+1) (by omega)) (r6.le (by omega)) hz6
      · refine cQ r3 (by omega) fun b4 h4 _ r4 k4=>?_
        have hz4:=k4 nz _ hne hz3
        rw[bS]
        refine⟨by omega,?_⟩
        rw[show((b4:Int).tmod 3)=((b4 % 3:Nat):Int) from aP b4 3,dW]
        by_cases hb3:b4 % 3=0
        · simp only[show(((b4 % 3:Nat):Int)=0)=True from eq_true (by omega),decide_true,↓aI]
          refine zX (q:=c-j) hs1.hd hs1.regs nl (by omega) (by omega) (by omega) hLp hpA hX hi r4 (by omega) fun s5 pre5 h5 e1 e2 e3 e4 e5 e6 e7 r5 k5=>?_
          try simp only[aq,true_and]
          exact⟨s5,pre5,[],by rw[e1,e2];exact hs1.hd,e3,e4,e5,e6,e7,.nil,by simp,r5.le (by omega),k5 nz _ hne hz4⟩
        · simp only[show(((b4 % 3:Nat):Int)=0)=False from eq_false (by omega),decide_false,↓aF]
          try simp only[aq,true_and]
          exact⟨s1,pre,is,hs1.hd,hs1.regs,by omega,by omega,hLp,hpA,hX.mono (by have:=hs1.regs;omega),hi,r4.le (by omega),hz4⟩
  · simp only[show((0:Int)<(j:Int))=False from eq_false (by omega),decide_false,↓aF]
    have hj0:j=0:=by omega
    subst hj0
    have s2:BZ s1 bs 2:=⟨hs1.hd,hs1.regs,by have:=hs1.nl;omega,by have:=hs1.nb;omega,hs1.loops,hs1.b⟩
    exact⟨rfl,hJ s1 bs h1 s2 (r1.le (by omega)) hz1⟩
end Go.Am
namespace Go.Am
open Go
set_option maxHeartbeats 1000000 in
theorem GB {h:Heap}{n nz k c:Nat}{s:MS}(hc:c<=2) (hg:s.group=4\/s.group=1\/s.group=2\/s.group=8\/s.group=6) (h1:s.sub=1) (hr:s.regs=6) (hl:s.loops=[]) (r:aH h n k aU { s with blocks:=[] }) (hne:nz≠n) (hz:h nz=.box z8){J:List D->Heap->Prop}
    (hJ:∀(s':MS) (h':Heap),Hd s'.group s'.sub->s'.regs=6->s'.loops=[]->aH h' n k aU { s' with blocks:=[] }->h' nz=.box z8->J [] h') :
    iX (.int .i64 (c:Int)) h (.ptr n 0 0) (.ptr nz 0 0) J:=by
  unfold iX
  refine⟨fun j qs h'=>j<=c/\qs=[.int .i64 (j:Int)]/\∃s':MS,Hd s'.group s'.sub/\(j=2->s'.sub=1)/\(j=1->s'.sub<=2)/\s'.regs=6/\s'.loops=[]/\aH h' n k aU { s' with blocks:=[] }/\h' nz=.box z8,c,
    ⟨Nat.le_refl _,rfl,s,⟨hg,by omega,by rw[h1];rcases hg with h|h|h|h|h<;>rw[h]<;>rfl⟩,fun _=>h1,fun _=>by omega,hr,hl,r,hz⟩,?_⟩
  rintro j f h2 ⟨hj,hq,s2,hd,hs2,hs1,hr2,hl2,r2,hz2⟩
  simp only[List.cons.injEq,and_true]at hq
  rw[hq,pV]
  obtain⟨bs2,j2,vL2,vB2,e2,eu2,-⟩:=Co r2
  unfold bV at e2
  by_cases h0:0<j
  · simp only[show((0:Int)<(j:Int))=True from eq_true (by omega),decide_true,↓J4,↓xk eu2,Nat.zero_add,Nat.reduceAdd,↓oC e2 (j:=2) rfl,↓oC e2 (j:=3) rfl]
    have hsb:s2.sub=1\/s2.sub=2:=by
      rcases hd.sub with h|h|h|h
      · exact Or.inl h
      · exact Or.inr h
      · exfalso;rcases (show j=1\/j=2 by omega) with e|e
        · have:=hs1 e;omega
        · have:=hs2 e;omega
      · exfalso;rcases (show j=1\/j=2 by omega) with e|e
        · have:=hs1 e;omega
        · have:=hs2 e;omega
    rw[Cd,wrap64 (by omega) (by omega),bS]
    refine⟨by omega,?_⟩
    rw[dW]
    by_cases hd0:s2.group.tmod (2*s2.sub)=0
    · simp only[hd0,decide_true,↓BB,↓zV,↓aI,↓CH eu2,Nat.zero_add,Nat.reduceAdd,↓D9 e2 (j:=3) rfl]
      rw[Cd,wrap64 (by omega) (by omega)]
      refine H0 (v:=2*s2.sub) r2 fun h3 r3 k3=>?_
      rw[jE,wrap64 (by omega) (by omega)]
      refine⟨rfl,j-1,by omega,by omega,by congr 2;omega,{ s2 with sub:=2*s2.sub },⟨hd.group,by simp only;omega,hd0⟩,fun e=>by omega,fun e=>?_,hr2,hl2,r3,k3 nz _ hne hz2⟩
      have:=hs2 (by omega)
      simp only;omega
    · simp only[hd0,decide_false,↓BB,↓zV,↓aF]
      exact⟨rfl,hJ s2 h2 hd hr2 hl2 r2 hz2⟩
  · simp only[show((0:Int)<(j:Int))=False from eq_false (by omega),decide_false,↓J5,↓ya,↓BB,↓EM,↓aF]
    exact⟨rfl,hJ s2 h2 hd hr2 hl2 r2 hz2⟩
theorem LJ {P:Program}{h:Heap}{KH:D->Heap->Prop}{n:Nat}{a b c1 c2 c3 c4 c5 c6 c7 c8:D}(e:h n=.box (.agg [a,b,c1,c2,c3,c4,c5,c6,c7,c8])):aa P (.ld (.c (.ptr n 0 2)) 8 true) h KH=KH (.agg [c1,c2,c3,c4,c5,c6,c7,c8]) h:=LI e (by simp)
theorem Lx {P:Program}{h:Heap}{KH:D->Heap->Prop}{nz:Nat}{c1 c2 c3 c4 c5 c6 c7 c8:D}(e:h nz=.box z8) (ho:(D.agg [c1,c2,c3,c4,c5,c6,c7,c8]).cells.all D.one=true) :
    aa P (.st (.c (.ptr nz 0 0)) (.c (.agg [c1,c2,c3,c4,c5,c6,c7,c8])) 8) h KH=KH .undef (ak h nz (.box (.agg [c1,c2,c3,c4,c5,c6,c7,c8]))):=by
  rw[ki,e]
  apply propext
  constructor
  · exact fun hh=>hh.2.2.2.2
  · exact fun hk=>⟨rfl,List.all_eq_true.1 ho,rfl,by simp[z8],hk⟩
theorem Cu {esz:Nat}{h:Heap}{v:D}{els:List D}(ho:Own esz h v els):v.one=true:=by
  rcases ho with⟨rfl,-⟩|⟨m,rfl,-⟩<;>rfl
set_option maxHeartbeats 4000000 in
theorem I1 {bs:List Nat}(hb:∀b∈bs,b<=255) (hl:bs.length<=9223372036854775807):aQ PP ju [pD bs] (fun r=>∃c:Code,kf c/\r=c.e):=by
  refine aQ.wk (K:=fun r=>∃c:Code,kf c/\Wk r c.e) (x8 (bZ vJ (an _ _ _) rfl (vv _ _) ?_)) fun r hr=>by
    obtain⟨c,hc,hw⟩:=hr
    exact⟨c.e,hw,rfl,c,hc,rfl⟩
  unfold sR
  rw[CI]
  refine⟨(dR (by simp[rM]):vR (pD bs)).one,fun n0 t0=>?_⟩
  rw[gu]
  intro nz tz
  have nn:n0≠nz:=tz.ne (by rw[ag];simp)
  have a0:ak (ak eQ n0 (.box (pD bs))) nz (.box z8) n0=.box (pD bs):=by rw[ab _ _ nn,ag]
  have az:ak (ak eQ n0 (.box (pD bs))) nz (.box z8) nz=.box z8:=ag _ _ _
  show aa PP _ (ak (ak eQ n0 (.box (pD bs))) nz (.box z8)) _
  generalize ak (ak eQ n0 (.box (pD bs))) nz (.box z8)=hA at a0 az
  have eu0:(hA n0).used=true:=by rw[a0];rfl
  unfold pD at a0
  simp only[↓CH eu0,Nat.zero_add,↓D9 a0 (j:=0) rfl]
  rw[je rfl,show D.agg (fillD [.nil,.int .i64 0,.int .i64 0,.int .i64 0,.int .i64 0,.int .i64 0,.int .i64 0,.nil,.nil,.nil] (List.map (fun p=>(p.fst,p.snd.fst,(Arg.get [] p.snd.snd).cells)) [(0,1,Arg.c (rM bs))])) =
    .agg (rM bs::.int .i64 ((0:Nat):Int)::[.int .i64 0,.int .i64 0,.int .i64 0,.int .i64 0,.int .i64 0,.nil,.nil,.nil]) from rfl,CI]
  refine⟨List.all_eq_true.1 rfl,fun n tn=>?_⟩
  have hnz:nz≠n:=tn.ne (by rw[az];simp)
  have b1:ak hA n (.box (.agg (rM bs::.int .i64 ((0:Nat):Int)::[.int .i64 0,.int .i64 0,.int .i64 0,.int .i64 0,.int .i64 0,.nil,.nil,.nil]))) n=.box (.agg (rM bs::.int .i64 ((0:Nat):Int)::[.int .i64 0,.int .i64 0,.int .i64 0,.int .i64 0,.int .i64 0,.nil,.nil,.nil])):=ag _ _ _
  have bz:ak hA n (.box (.agg (rM bs::.int .i64 ((0:Nat):Int)::[.int .i64 0,.int .i64 0,.int .i64 0,.int .i64 0,.int .i64 0,.nil,.nil,.nil]))) nz=.box z8:=by rw[ab _ _ hnz];exact az
  show af PP _ (ak hA n (.box (.agg (rM bs::.int .i64 ((0:Nat):Int)::[.int .i64 0,.int .i64 0,.int .i64 0,.int .i64 0,.int .i64 0,.nil,.nil,.nil])))) _
  generalize ak hA n (.box (.agg (rM bs::.int .i64 ((0:Nat):Int)::[.int .i64 0,.int .i64 0,.int .i64 0,.int .i64 0,.int .i64 0,.nil,.nil,.nil])))=hB at b1 bz
  have hbl:∀{Q:D->Prop},af PP (.bldS false 1 5 (.int .i64 0) [(0,(.c (.int .i64 4))),(1,(.c (.int .i64 1))),(2,(.c (.int .i64 2))),(3,(.c (.int .i64 8))),(4,(.c (.int .i64 6)))]) hB Q=Q (.sl [.int .i64 4,.int .i64 1,.int .i64 2,.int .i64 8,.int .i64 6]):=by
    intro Q
    apply propext
    constructor
    · exact fun hh=>hh.2.2.2
    · intro hq
      refine⟨lI rfl,?_,by simp,hq⟩
      intro p hp
      simp[Arg.get]at hp
      rcases hp with rfl|rfl|rfl|rfl|rfl<;>simp
  simp only[hbl]
  refine zk b1 hb hl (by omega) fun b hb2=>?_
  have c1:=ag hB n (.box (.agg (rM bs::.int .i64 ((0+1:Nat):Int)::[.int .i64 0,.int .i64 0,.int .i64 0,.int .i64 0,.int .i64 0,.nil,.nil,.nil])))
  have cz:ak hB n (.box (.agg (rM bs::.int .i64 ((0+1:Nat):Int)::[.int .i64 0,.int .i64 0,.int .i64 0,.int .i64 0,.int .i64 0,.nil,.nil,.nil]))) nz=.box z8:=by rw[ab _ _ hnz];exact bz
  generalize ak hB n (.box (.agg (rM bs::.int .i64 ((0+1:Nat):Int)::[.int .i64 0,.int .i64 0,.int .i64 0,.int .i64 0,.int .i64 0,.nil,.nil,.nil])))=hC at c1 cz
  rw[bS]
  refine⟨by omega,?_⟩
  rw[show((b:Int).tmod 5)=((b % 5:Nat):Int) from aP b 5]
  obtain⟨g,hg,hg5⟩:∃g:Int,([.int .i64 4,.int .i64 1,.int .i64 2,.int .i64 8,.int .i64 6]:List D)[b % 5]?=some (.int .i64 g)/\(g=4\/g=1\/g=2\/g=8\/g=6):=by
    have:b % 5=0\/b % 5=1\/b % 5=2\/b % 5=3\/b % 5=4:=by omega
    rcases this with e|e|e|e|e<;>rw[e]<;>exact⟨_,rfl,by simp⟩
  have hi:∀{Q:D->Prop},af PP (.iadd (.c (.sl [.int .i64 4,.int .i64 1,.int .i64 2,.int .i64 8,.int .i64 6])) (.c (.int .i64 ((b % 5:Nat):Int))) 1) hC Q=Q (.vp (.int .i64 g) 0):=by
    intro Q
    rw[qX,w9,Int.toNat_natCast,hg]
    apply propext
    constructor
    · rintro⟨-,-,h⟩;exact(h _ rfl).2
    · intro hq;exact⟨by omega,by simp;omega,fun d hd=>by cases hd;exact⟨rfl,hq⟩⟩
  have hld:∀{Q:D->Prop},af PP (.ld (.c (.vp (.int .i64 g) 0)) 1 false) hC Q=Q (.int .i64 g):=fun {Q}=>by rw[vr,w8,cV];rfl
  simp only[↓hi,↓hld]
  refine yO FB trivial ?_
  have eu1:(hC n).used=true:=by rw[c1];rfl
  rw[oD rfl]
  simp only[↓xk eu1,Nat.zero_add]
  rw[ki,c1]
  refine⟨rfl,?_,rfl,by simp,?_⟩
  · intro x hx
    simp[fillD,D.cells,Arg.get,aU]at hx
    rcases hx with rfl|rfl|rfl|rfl|rfl|rfl|rfl|rfl<;>rfl
  have es:setCells (.agg (rM bs::.int .i64 ((0+1:Nat):Int)::[.int .i64 0,.int .i64 0,.int .i64 0,.int .i64 0,.int .i64 0,.nil,.nil,.nil])) 2 (D.agg (fillD [.int .i64 0,.int .i64 0,.int .i64 0,.int .i64 0,.int .i64 0,.nil,.nil,.nil] (List.map (fun p=>(p.fst,p.snd.fst,(Arg.get [] p.snd.snd).cells)) [(0,1,Arg.c (.int .i64 g)),(1,1,Arg.c (.int .i64 1)),(2,1,Arg.c (.int .i64 6)),(4,1,Arg.c (.int .i64 3)),(5,1,Arg.c aU)]))).cells =
      bV bs 1 aU ⟨g,1,6,[],[]⟩ .nil .nil:=rfl
  rw[es]
  have r0:aH (ak hC n (.box (bV bs 1 aU ⟨g,1,6,[],[]⟩ .nil .nil))) n 1 aU { (⟨g,1,6,[],[]⟩:MS) with blocks:=[] }:=⟨bs,1,.nil,.nil,[],hb,hl,Nat.le_refl _,ag _ _ _,EN⟩
  have dz:ak hC n (.box (bV bs 1 aU ⟨g,1,6,[],[]⟩ .nil .nil)) nz=.box z8:=by rw[ab _ _ hnz];exact cz
  generalize ak hC n (.box (bV bs 1 aU ⟨g,1,6,[],[]⟩ .nil .nil))=hD at r0 dz
  refine⟨fun qs h'=>qs=[]/\∃s:MS,Hd s.group s.sub/\s.regs=6/\s.loops=[]/\aH h' n 10 aU { s with blocks:=[] }/\h' nz=.box z8,?_,?_⟩
  · rintro f1 h1 ⟨-,s1,hd1,hr1,hl1,r1,z1⟩
    refine⟨fun qs h'=>qs=[]/\∃(s':MS) (bs:List Block),BZ s' bs 2/\aH h' n 3000 aU { s' with blocks:=bs }/\h' nz=.box z8,?_,?_⟩
    · rintro f2 h2 ⟨-,s2,bs2,hs2,r2,z2⟩
      have nl:=hs2.nl
      have nb:=hs2.nb
      refine cQ r2 (by omega) fun b3 h3 _ r3 k3=>?_
      rw[bS]
      refine⟨by omega,?_⟩
      rw[show((b3:Int).tmod 3)=((b3 % 3:Nat):Int) from aP b3 3]
      have hm:b3 % 3<3:=Nat.mod_lt _ (by omega)
      refine AE r3 hs2.b (by omega) (by have:=hs2.regs;omega) (by omega) (by omega) fun pre is h4 hpl hpA hX hi4 r4 k4=>?_
      have z4:=k4 nz _ hnz (k3 nz _ hnz z2)
      have hLp:∀l∈s2.loops,HM (pre.length+1) s2.regs l:=fun l hl=>by
        obtain⟨⟨hd,e1,e2⟩,e3⟩:=hs2.loops l hl
        exact⟨⟨hd,e1,by omega⟩,e3⟩
      refine⟨fun qs h'=>qs=[]/\∃(s':MS) (pre':List Block) (is':List bf),Hd s'.group s'.sub/\s'.regs=6+2*(s'.loops.length:Int)/\s'.loops.length<=3/\pre'.length<=17/\(∀l,l∈s'.loops->HM (pre'.length+1) s'.regs l) /\
        iM (pre'.length+1) s'.regs pre'/\jx s'.regs is'/\is'.length<=8/\aH h' n 9000 aU (iT s' pre' is' gZ)/\h' nz=.box z8,?_,?_⟩
      · rintro f5 h5 ⟨-,s5,pre5,is5,g1,g2,g3,g4,g5,g6,g7,g8,r5,z5⟩
        obtain⟨vL5,vB5,r5⟩:=r5.v
        obtain⟨bs5,j5,nb5,ev5,e5,eu5,st5⟩:=dD r5
        have lv5:∀{Q:D->Prop},cN vB5 h5 Q=Q (.int .i64 ((pre5.length+1:Nat):Int)):=by
          intro Q
          obtain⟨_,_,vs,_,_,_,q4,q5⟩:=r5.st
          rw[Cv q5.oB,fP q5.len]
          simp[iT]
        simp only[↓xk eu5,Nat.zero_add,Nat.reduceAdd,↓oC e5 (j:=9) rfl,lv5]
        rw[jE,wrap64 (by omega) (by omega),oD rfl,show((pre5.length+1:Nat):Int)-1=(pre5.length:Int) by omega]
        refine st5 ⟨5,0,al,al,al,0,0⟩ fun h6 r6 k6=>?_
        have z6:=k6 nz _ hnz z5
        obtain⟨bs6,j6,vL6,vB6,vs6,q1,q2,q3,q4,q5⟩:=r6.st
        have eu6:(h6 n).used=true:=by rw[q4];rfl
        unfold bV at q4
        simp only[↓CH eu6,Nat.zero_add,Nat.reduceAdd,↓LJ q4]
        have o1:=Cu q5.oL
        have o2:=Cu q5.oB
        rw[Lx z6 (by simp[D.cells,o1,o2,aU])]
        have hld8:=Ad (P:=PP) (KH:=fun a63 _=>∃h'',Da (ak h6 nz (.box (.agg [.int .i64 s5.group,.int .i64 s5.sub,.int .i64 s5.regs,.int .i64 0,.int .i64 3,aU,vL6,vB6]))) h''/\gK a63/\oO h'' a63/\(a63.fzt h'').A9=true/\∃c:Code,kf c/\Wk (a63.fzt h'') c.e)
          (ag h6 nz (.box (.agg [.int .i64 s5.group,.int .i64 s5.sub,.int .i64 s5.regs,.int .i64 0,.int .i64 3,aU,vL6,vB6])))
        refine hld8.mpr ?_
        have rr:=q5.box z6 (.box (.agg [.int .i64 s5.group,.int .i64 s5.sub,.int .i64 s5.regs,.int .i64 0,.int .i64 3,aU,vL6,vB6]))
        obtain⟨h'',i1,i2,i3,i4,i5⟩:=E2 rr (by simp[iT]) s5.group s5.sub s5.regs
        refine⟨h'',i1,i2,i3,i4,_,?_,i5⟩
        refine⟨g1.group,g1.sub,g1.dvd,g2,rfl,rfl,rfl,g3,?_,?_,?_⟩
        · simp only[iT,List.length_append,List.length_singleton];exact g5
        · simp only[iT,List.length_append,List.length_singleton];omega
        · simp only[iT,List.length_append,List.length_singleton]
          exact g6.snoc ⟨g7,by simp only;omega,.exit⟩
      · refine cQ r4 (by omega) fun b5 h5 _ r5 k5=>?_
        have z5:=k5 nz _ hnz z4
        rw[bS]
        refine⟨by omega,?_⟩
        rw[show((b5:Int).tmod 3)=((b5 % 3:Nat):Int) from aP b5 3,dW]
        by_cases hb3:b5 % 3=0
        · simp only[show(((b5 % 3:Nat):Int)=0)=True from eq_true (by omega),decide_true,↓aI]
          refine zX (q:=2) hs2.hd hs2.regs nl (by omega) (by omega) (by omega) hLp hpA hX hi4 r5 (by omega) fun s6 pre6 h6 e1 e2 e3 e4 e5 e6 e7 r6 k6=>?_
          refine wc r6 (e7.I4 (by omega) (by simp)) (by omega) fun xs h7 hxs hxl r7 k7=>?_
          try simp only[aq,true_and]
          exact⟨s6,pre6,xs,by rw[e1,e2];exact hs2.hd,e3,e4,by omega,e6,e7,hxs.mono (by omega),hxl,r7.le (by omega),k7 nz _ hnz (k6 nz _ hnz z5)⟩
        · simp only[show(((b5 % 3:Nat):Int)=0)=False from eq_false (by omega),decide_false,↓aF]
          try simp only[aq,true_and]
          exact⟨s2,pre,is,hs2.hd,hs2.regs,by omega,by omega,hLp,hpA,hX.mono (by have:=hs2.regs;omega),hi4,r5.le (by omega),z5⟩
    · refine cQ r1 (by omega) fun b2 h2 _ r2 k2=>?_
      have z2:=k2 nz _ hnz z1
      rw[bS]
      refine⟨by omega,?_⟩
      rw[show((b2:Int).tmod 3)=((b2 % 3:Nat):Int) from aP b2 3]
      have hm:b2 % 3<3:=Nat.mod_lt _ (by omega)
      refine GC hnz (by omega) ⟨hd1,by rw[hr1,hl1];rfl,by rw[hl1];simp,by simp,(by rw[hl1];intro l hl;cases hl),iM.nil⟩ r2 (by omega) z2 fun s' bs' h' q1 q2 q3=>⟨rfl,s',bs',q1,q2.le (by omega),q3⟩
  · refine cQ r0 (by omega) fun b1 h1 _ r1 k1=>?_
    have z1:=k1 nz _ hnz dz
    rw[bS]
    refine⟨by omega,?_⟩
    rw[show((b1:Int).tmod 3)=((b1 % 3:Nat):Int) from aP b1 3]
    have hm:b1 % 3<3:=Nat.mod_lt _ (by omega)
    exact GB (by omega) hg5 rfl rfl rfl r1 hnz z1 fun s' h' q1 q2 q3 q4 q5=>⟨rfl,s',q1,q2,q3,q4.le (by omega),q5⟩
end Go.Am
namespace Go.Am
open Go Go.Proofs Go.Shelf Go.RowKit
def yo:Go.Shelf.Ren:=⟨fun|7=>42|10=>66|n=>n,fun|23=>89|26=>3|3=>4|28=>94|0=>0|27=>93|33=>120|4=>4|n=>n,fun|n=>n⟩
theorem JU:Go.Proofs.SlLaysZI.n7 Tryz.prog yo:={
  mixed:=by kernel_rfl,
  f7:=⟨Tryz.f42.name,by decide,Tryz.func42.trans (congrArg some (by kernel_rfl))⟩,
  f10:=⟨Tryz.f66.name,by decide,Tryz.func66.trans (congrArg some (by kernel_rfl))⟩,
  t0:=Tryz.underlying0,
  a0:=Tryz.isAgg0,
  z0:=Tryz.sizeOf0,
  v0:=Tryz.zeroValue0,
  t4:=Tryz.underlying4,
  a4:=Tryz.isAgg4,
  z4:=Tryz.sizeOf4,
  v4:=Tryz.zeroValue4,
  t23:=Tryz.underlying89,
  a23:=Tryz.isAgg89,
  z23:=Tryz.sizeOf89,
  v23:=Tryz.zeroValue89,
  t26:=Tryz.underlying3,
  a26:=Tryz.isAgg3,
  z26:=Tryz.sizeOf3,
  v26:=Tryz.zeroValue3,
  t27:=Tryz.underlying93,
  a27:=Tryz.isAgg93,
  z27:=Tryz.sizeOf93,
  v27:=Tryz.zeroValue93,
  t28:=Tryz.underlying94,
  a28:=Tryz.isAgg94,
  z28:=Tryz.sizeOf94,
  v28:=Tryz.zeroValue94,
  t33:=Tryz.underlying120,
  a33:=Tryz.isAgg120,
  z33:=Tryz.sizeOf120,
  v33:=Tryz.zeroValue120 }
def yn:Go.Shelf.Ren:=⟨fun|7=>43|10=>67|n=>n,fun|23=>88|26=>3|3=>41|28=>94|0=>0|27=>93|33=>120|4=>4|n=>n,fun|n=>n⟩
theorem JT:Go.Proofs.SlLaysZI.n7 Tryz.prog yn:={
  mixed:=by kernel_rfl,
  f7:=⟨Tryz.f43.name,by decide,Tryz.func43.trans (congrArg some (by kernel_rfl))⟩,
  f10:=⟨Tryz.f67.name,by decide,Tryz.func67.trans (congrArg some (by kernel_rfl))⟩,
  t0:=Tryz.underlying0,
  a0:=Tryz.isAgg0,
  z0:=Tryz.sizeOf0,
  v0:=Tryz.zeroValue0,
  t4:=Tryz.underlying4,
  a4:=Tryz.isAgg4,
  z4:=Tryz.sizeOf4,
  v4:=Tryz.zeroValue4,
  t23:=Tryz.underlying88,
  a23:=Tryz.isAgg88,
  z23:=Tryz.sizeOf88,
  v23:=Tryz.zeroValue88,
  t26:=Tryz.underlying3,
  a26:=Tryz.isAgg3,
  z26:=Tryz.sizeOf3,
  v26:=Tryz.zeroValue3,
  t27:=Tryz.underlying93,
  a27:=Tryz.isAgg93,
  z27:=Tryz.sizeOf93,
  v27:=Tryz.zeroValue93,
  t28:=Tryz.underlying94,
  a28:=Tryz.isAgg94,
  z28:=Tryz.sizeOf94,
  v28:=Tryz.zeroValue94,
  t33:=Tryz.underlying120,
  a33:=Tryz.isAgg120,
  z33:=Tryz.sizeOf120,
  v33:=Tryz.zeroValue120 }
def uq:Go.Shelf.Ren:=⟨fun|6=>41|8=>64|9=>65|11=>86|13=>88|12=>87|23=>108|24=>109|14=>100|15=>101|16=>102|17=>103|18=>104|19=>105|20=>79|21=>106|22=>107|25=>117|26=>118|27=>119|28=>120|29=>121|30=>90|31=>128|n=>n,fun|26=>3|28=>94|24=>41|0=>0|3=>3|37=>79|48=>38|50=>160|4=>4|40=>153|39=>152|45=>104|5=>5|9=>9|51=>174|55=>178|57=>183|58=>184|33=>120|n=>n,fun|n=>n⟩
theorem Cj:Go.Proofs.SlLaysZI.n6 Tryz.prog uq:={
  mixed:=by kernel_rfl,
  f6:=⟨Tryz.f41.name,by decide,Tryz.func41.trans (congrArg some (by kernel_rfl))⟩,
  f8:=⟨Tryz.f64.name,by decide,Tryz.func64.trans (congrArg some (by kernel_rfl))⟩,
  f11:=⟨Tryz.f86.name,by decide,Tryz.func86.trans (congrArg some (by kernel_rfl))⟩,
  t0:=Tryz.underlying0,
  a0:=Tryz.isAgg0,
  z0:=Tryz.sizeOf0,
  v0:=Tryz.zeroValue0,
  t24:=Tryz.underlying41,
  a24:=Tryz.isAgg41,
  z24:=Tryz.sizeOf41,
  v24:=Tryz.zeroValue41,
  t26:=Tryz.underlying3,
  a26:=Tryz.isAgg3,
  z26:=Tryz.sizeOf3,
  v26:=Tryz.zeroValue3,
  t28:=Tryz.underlying94,
  a28:=Tryz.isAgg94,
  z28:=Tryz.sizeOf94,
  v28:=Tryz.zeroValue94,
  i26:=by kernel_rfl }
def Dm:Go.Shelf.Ren:=⟨fun|5=>65|8=>88|7=>87|19=>108|20=>109|10=>100|11=>101|12=>102|13=>103|14=>104|15=>105|16=>79|17=>106|18=>107|30=>117|31=>118|32=>119|33=>120|34=>121|35=>90|40=>128|n=>n,fun|23=>41|25=>3|3=>3|32=>79|22=>41|0=>0|44=>38|46=>160|4=>4|36=>153|35=>152|41=>104|5=>5|9=>9|53=>174|57=>178|63=>183|64=>184|n=>n,fun|n=>n⟩
theorem Hs:Go.Proofs.SlLaysM.n5 Tryz.prog Dm:={
  mixed:=by kernel_rfl,
  f5:=⟨Tryz.f65.name,by decide,Tryz.func65.trans (congrArg some (by kernel_rfl))⟩,
  f7:=⟨Tryz.f87.name,by decide,Tryz.func87.trans (congrArg some (by kernel_rfl))⟩,
  f8:=Tryz.func88.trans (congrArg some (by kernel_rfl)),
  f10:=⟨Tryz.f100.name,by decide,Tryz.func100.trans (congrArg some (by kernel_rfl))⟩,
  f11:=⟨Tryz.f101.name,by decide,Tryz.func101.trans (congrArg some (by kernel_rfl))⟩,
  f12:=⟨Tryz.f102.name,by decide,Tryz.func102.trans (congrArg some (by kernel_rfl))⟩,
  f13:=⟨Tryz.f103.name,by decide,Tryz.func103.trans (congrArg some (by kernel_rfl))⟩,
  f14:=⟨Tryz.f104.name,by decide,Tryz.func104.trans (congrArg some (by kernel_rfl))⟩,
  f15:=⟨Tryz.f105.name,by decide,Tryz.func105.trans (congrArg some (by kernel_rfl))⟩,
  f16:=⟨Tryz.f79.name,by decide,Tryz.func79.trans (congrArg some (by kernel_rfl))⟩,
  f17:=⟨Tryz.f106.name,by decide,Tryz.func106.trans (congrArg some (by kernel_rfl))⟩,
  f18:=⟨Tryz.f107.name,by decide,Tryz.func107.trans (congrArg some (by kernel_rfl))⟩,
  f19:=Tryz.func108.trans (congrArg some (by kernel_rfl)),
  f20:=Tryz.func109.trans (congrArg some (by kernel_rfl)),
  f30:=⟨Tryz.f117.name,by decide,Tryz.func117.trans (congrArg some (by kernel_rfl))⟩,
  f31:=Tryz.func118.trans (congrArg some (by kernel_rfl)),
  f32:=Tryz.func119.trans (congrArg some (by kernel_rfl)),
  f33:=⟨Tryz.f120.name,by decide,Tryz.func120.trans (congrArg some (by kernel_rfl))⟩,
  f34:=⟨Tryz.f121.name,by decide,Tryz.func121.trans (congrArg some (by kernel_rfl))⟩,
  f35:=⟨Tryz.f90.name,by decide,Tryz.func90.trans (congrArg some (by kernel_rfl))⟩,
  f40:=⟨Tryz.f128.name,by decide,Tryz.func128.trans (congrArg some (by kernel_rfl))⟩,
  t0:=Tryz.underlying0,
  a0:=Tryz.isAgg0,
  z0:=Tryz.sizeOf0,
  v0:=Tryz.zeroValue0,
  t3:=Tryz.underlying3,
  a3:=Tryz.isAgg3,
  z3:=Tryz.sizeOf3,
  v3:=Tryz.zeroValue3,
  t4:=Tryz.underlying4,
  a4:=Tryz.isAgg4,
  z4:=Tryz.sizeOf4,
  v4:=Tryz.zeroValue4,
  t5:=Tryz.underlying5,
  a5:=Tryz.isAgg5,
  z5:=Tryz.sizeOf5,
  v5:=Tryz.zeroValue5,
  t9:=Tryz.underlying9,
  a9:=Tryz.isAgg9,
  z9:=Tryz.sizeOf9,
  v9:=Tryz.zeroValue9,
  t22:=Tryz.underlying41,
  a22:=Tryz.isAgg41,
  z22:=Tryz.sizeOf41,
  v22:=Tryz.zeroValue41,
  t23:=Tryz.underlying41,
  a23:=Tryz.isAgg41,
  z23:=Tryz.sizeOf41,
  v23:=Tryz.zeroValue41,
  t25:=Tryz.underlying3,
  a25:=Tryz.isAgg3,
  z25:=Tryz.sizeOf3,
  v25:=Tryz.zeroValue3,
  t32:=Tryz.underlying79,
  a32:=Tryz.isAgg79,
  z32:=Tryz.sizeOf79,
  v32:=Tryz.zeroValue79,
  t35:=Tryz.underlying152,
  a35:=Tryz.isAgg152,
  z35:=Tryz.sizeOf152,
  v35:=Tryz.zeroValue152,
  t36:=Tryz.underlying153,
  a36:=Tryz.isAgg153,
  z36:=Tryz.sizeOf153,
  v36:=Tryz.zeroValue153,
  t41:=Tryz.underlying104,
  a41:=Tryz.isAgg104,
  z41:=Tryz.sizeOf104,
  v41:=Tryz.zeroValue104,
  t44:=Tryz.underlying38,
  a44:=Tryz.isAgg38,
  z44:=Tryz.sizeOf38,
  v44:=Tryz.zeroValue38,
  t46:=Tryz.underlying160,
  a46:=Tryz.isAgg160,
  z46:=Tryz.sizeOf160,
  v46:=Tryz.zeroValue160,
  t53:=Tryz.underlying174,
  a53:=Tryz.isAgg174,
  z53:=Tryz.sizeOf174,
  v53:=Tryz.zeroValue174,
  t57:=Tryz.underlying178,
  a57:=Tryz.isAgg178,
  z57:=Tryz.sizeOf178,
  v57:=Tryz.zeroValue178,
  t63:=Tryz.underlying183,
  a63:=Tryz.isAgg183,
  z63:=Tryz.sizeOf183,
  v63:=Tryz.zeroValue183,
  t64:=Tryz.underlying184,
  a64:=Tryz.isAgg184,
  z64:=Tryz.sizeOf184,
  v64:=Tryz.zeroValue184 }
theorem Er (m:Nat):AnyZI.SortsIn Tryz.prog uq Fence.wide m :=
  ⟨fun blk off cap ss W hH hblk hsz=>callsIn_wide.2 (AnyM.slices_Sort_int Hs blk off cap ss W hH hblk hsz),
   fun p cap W=>callsIn_wide.2 (AnyM.slices_Sort_int_none Hs p cap W)⟩
def tX (F:FuncId):Prop:=∀(Bm b nn:Nat) (D0:DataW Unit) (R:Value->Option (DataW Unit×List MemPlace)) (w:World),Bm<w.heap.size->w.cell? ⟨Bm,0,none⟩=some (.map (some b))->w.ownsMap Tryz.prog 3 R b nn D0 ->
  Maps.size D0<=maxLen->Maps.size D0*8<=140737488355328->Calls Tryz.prog 41 #[.func (.func F) #[] #[.pointer (some ⟨Bm,0,none⟩)]] w fun e w'=>∃(v:Value) (ss:List Int),e=.returned v/\ss.Perm (intKeys D0) /\
    w'.ownsRow w.heap.size 3 1 v ss.length ((ss.mergeSort (fun x y=>decide (x<=y))).map encZ)/\(v=.slice none 0 0↔ss=[])/\Below w.heap.size w w'
theorem E5:tX 66:=fun Bm b nn D0 R w hB hm hown h1 h2=>by
  refine(callsIn_wide (n:=5)).1 ?_
  have hseq:SeqGives Fence.wide 2 Tryz.prog 66 #[.pointer (some ⟨Bm,0,none⟩)] encZ (fun ss=>ss.Perm (intKeys D0)) (Maps.size D0) w :=
    AnyZI.keys_gives (ρ:=yo) { JU with } Fence.wide _ trivial rfl (by omega) Bm b nn D0 w hB hm hown
  exact AnyZI.sorted_in Cj Fence.wide 5 trivial trivial trivial trivial rfl (by omega) (Er _) (enters_of Tryz.func65 (by kernel_rfl) rfl) 66 _ trivial (enters_of Tryz.func66 (by kernel_rfl) rfl) _ _ h1 h2 w hseq
theorem IB:tX 67:=fun Bm b nn D0 R w hB hm hown h1 h2=>by
  refine(callsIn_wide (n:=5)).1 ?_
  have hseq:SeqGives Fence.wide 2 Tryz.prog 67 #[.pointer (some ⟨Bm,0,none⟩)] encZ (fun ss=>ss.Perm (intKeys D0)) (Maps.size D0) w :=
    AnyZI.keys_gives (ρ:=yn) { JT with } Fence.wide _ trivial rfl (by omega) Bm b nn D0 w hB hm hown
  exact AnyZI.sorted_in Cj Fence.wide 5 trivial trivial trivial trivial rfl (by omega) (Er _) (enters_of Tryz.func65 (by kernel_rfl) rfl) 67 _ trivial (enters_of Tryz.func67 (by kernel_rfl) rfl) _ _ h1 h2 w hseq
end Go.Am
namespace Go.Am
open Go Go.Proofs Go.RowKit
theorem E8 {c:Ctx}(hr:ai c){hp':Array Obj}(hs:c.hp.size<=hp'.size) (hb:∀k,k<c.hp.size->hp'[k]?=c.hp[k]?):c.le ⟨c.ρ,c.X,c.h,hp'⟩/\ai ⟨c.ρ,c.X,c.h,hp'⟩:=by
  have hle:c.le ⟨c.ρ,c.X,c.h,hp'⟩:=⟨hs,rfl,fun g hg _=>hb g hg,fun g cur ty fr h=>⟨cur,(hb g (Array.getElem?_eq_some_iff.1 h).1).trans h,rfl⟩,
    fun g r h=>⟨r,(hb g (Array.getElem?_eq_some_iff.1 h).1).trans h,rfl⟩,fun _ _=>rfl,fun _=>Trans.refl _,fun n g hm hρ _=>⟨n,hm,hρ⟩⟩
  exact⟨hle,⟨fun n=>dJ hle (hr.slot n) (fun _ _=>rfl) (fun g hm hρ=>hb g (eE hr hm hρ)),hr.inj,hr.apart,fun g hx=>Nat.lt_of_lt_of_le (hr.xlt g hx) hs,hr.fin,hr.glob.mono hle,Nat.le_trans hr.lo hs⟩⟩
abbrev nL (l:List Nat):List D:=l.map fun(k:Nat)=>.int .i64 (k:Int)
theorem EE {c:Ctx}(hr:ai c){w':World}(hs:c.hp.size<=w'.heap.size) (hb:∀k,k<c.hp.size->w'.heap[k]?=c.hp[k]?){v:Value}{e:TypeId}{ks:List Nat}(ho:w'.ownsRow c.hp.size e 1 v ks.length (ks.map fun(k:Nat)=>Value.int .i64 (k:Int))) :
    aj ⟨c.ρ,c.X,c.h,w'.heap⟩ (.sl (nL ks)) v:=by
  rcases ho.2 with⟨rfl,h0⟩|⟨g,cap,cur,rfl,hbase,hg,h1,h2,h3,h4⟩
  · have:ks=[]:=List.eq_nil_of_length_eq_zero h0
    subst this
    exact .nH none 0 (by unfold maxLen;omega)
  · by_cases hks:ks=[]
    · subst hks
      exact .nH _ cap h2
    · have hlen:ks.length=(nL ks).length:=by simp[nL]
      have hcell:∀i j d,aC (nL ks) i j=some d->j=0/\∃k,ks[i]?=some k/\d=.int .i64 (k:Int):=by
        intro i j d hd
        simp only[aC,Option.bind_eq_some_iff,nL,List.getElem?_map,Option.map_eq_some_iff]at hd
        obtain⟨x,⟨k,hk,rfl⟩,hx⟩:=hd
        cases j with
        | zero=>simp[D.cells]at hx;exact⟨rfl,k,hk,hx.symm⟩
        | succ j=>simp[D.cells]at hx
      have hval:∀(i k:Nat),ks[i]?=some k->cur.getD i Go.undef=.int .i64 (k:Int)/\i<cur.size:=by
        intro i k hk
        have hi:=(List.getElem?_eq_some_iff.1 hk).1
        have h5:(cur.toList.take (ks.length*1))[i]?=(ks.map fun(k:Nat)=>Value.int .i64 (k:Int))[i]?:=by rw[h4]
        rw[List.getElem?_take_of_lt (by omega),List.getElem?_map,hk]at h5
        have hlt:i<cur.size:=by have:=(List.getElem?_eq_some_iff.1 h5).1;simpa using this
        refine⟨?_,hlt⟩
        rw[<- au]
        simp[List.getD,h5]
      rw[hlen]
      refine aj.sl (nL ks) g 0 cap 1 (fun i _=>cur.getD i Go.undef) (by simpa[nL] using hks) (by rw[<- hlen];exact h1) h2 (by omega) (fun x hx=>?_) (fun i j d hd=>?_) (fun i j d hd=>?_) ?_ (fun i j d hd=>?_)
      · simp only[nL,List.mem_map]at hx;obtain⟨k,-,rfl⟩:=hx;rfl
      · obtain⟨-,k,-,rfl⟩:=hcell i j d hd;rfl
      · obtain⟨rfl,k,hk,rfl⟩:=hcell i j d hd
        obtain⟨-,hlt⟩:=hval i k hk
        simp only[Nat.zero_add,Nat.mul_one,Nat.add_zero]
        exact cJ hg hlt
      · rintro (hx|⟨n,hm,hρ⟩)
        · have:=hr.xlt g hx;omega
        · have:=eE hr hm hρ;omega
      · obtain⟨rfl,k,hk,rfl⟩:=hcell i j d hd
        rw[(hval i k hk).1]
        exact .int _ _
structure zr (ents:List (D×D)) (ks:List Nat):Prop where
  key:∀p∈ents,∃k:Nat,k<1000000/\p.1=.int .i64 (k:Int)
  len:ents.length<=1000000
  inc:ks.Pairwise (· < ·)
  mem:∀k:Nat,k∈ks ↔ ∃p,p∈ents/\p.1=.int .i64 (k:Int)
def RU:Value->Option (DataW Unit×List MemPlace):=fun _=>some (.nil,[])
open Go.Maps in
theorem mq {F:FuncId}(hF:tX F){n m:Nat}{h:Heap}{ents:List (D×D)}{ks:List Nat}(hn:h n=.box (.mp m)) (hm:h m=.map (.int .i64) ents) (hk:zr ents ks){KH:D->Heap->Prop}
    (hK:KH (.sl (nL ks)) h):ae PP aR [.fn F [] [.ptr n 0 0]] h KH:=by
  intro c w vals hh hp hr hs hrel
  subst hh
  have r0:=hrel 0 _ rfl
  obtain⟨va,hva⟩:∃va,vals = #[va]:=by
    obtain⟨l⟩:=vals
    match l,hs with
    | [x],_=>exact⟨x,rfl⟩
  subst hva
  have e0:(#[va]:Array Value).getD 0 Go.undef=va:=rfl
  rw[e0]at r0
  cases r0 with
  | fn _ _ _ xa xb hsa hsb hra hrb =>
    have rb:=hrb 0 _ rfl
    obtain⟨xa⟩:=xa
    obtain⟨xb⟩:=xb
    match xa,hsa,xb,hsb with
    | [],_,[pv],_ =>
      have e1:(#[pv]:Array Value).getD 0 Go.undef=pv:=rfl
      rw[e1]at rb
      cases rb with
      | ptrDead _ _ _ _ _ hd=>rw[hn]at hd;cases hd
      | ptrRow _ _ _ _ _ _ hrow=>rw[hn]at hrow;cases hrow
      | ptrBox _ _ g v hv hρ =>
        have hsl:=hr.slot n
        rw[hn]at hsl
        obtain⟨g',cur,ty,q1,q2,q3,q4⟩:=hsl
        rw[hρ]at q1;cases q1
        obtain⟨-,rm⟩:=q4 0 _ rfl
        have hlt:0<cur.size:=by rw[q3];simp[D.cells]
        generalize hcv:cur.getD 0 Go.undef=cv at rm
        cases rm with
        | mpDead _ _ hd=>rw[hm]at hd;cases hd
        | mp _ gm kt es0 hmm hρm =>
          have hsm:=hr.slot m
          rw[hm]at hsm
          obtain⟨gm',es,clock,p1,p2,p3,pst,p4⟩:=hsm
          rw[hρm]at p1;cases p1
          have hcell:w.cell? ⟨g,0,none⟩=some (.map (some gm)):=by
            rw[lG, <- hp,cJ q2 hlt,hcv]
          have pk:∀x∈es.toList,∃p,p∈ents/\∃k:Nat,k<1000000/\p.1=.int .i64 (k:Int)/\x.key=.int .i64 (k:Int):=by
            intro x hx
            obtain⟨i,hi,rfl⟩:=List.mem_iff_getElem.1 hx
            have hi':i<es.size:=by simpa using hi
            have hpi:ents[i]?=some ents[i]:=List.getElem?_eq_getElem (by omega)
            obtain⟨a1,a2,e,a3,a4,a5⟩:=p4 i _ hpi
            rw[Array.getElem?_eq_getElem hi']at a3
            cases a3
            obtain⟨k,hk1,hk2⟩:=hk.key _ (List.mem_of_getElem? hpi)
            refine⟨_,List.mem_of_getElem? hpi,k,hk1,hk2,?_⟩
            rw[hk2]at a4
            have hgi:es.toList[i]=es[i]:=by simp
            rw[hgi]
            generalize es[i].key=kk at a4
            cases a4
            rfl
          have tn:∀p∈ents,∃x,x∈es.toList/\∀k:Nat,p.1=.int .i64 (k:Int)->x.key=.int .i64 (k:Int):=by
            intro p hpm
            obtain⟨i,hi,rfl⟩:=List.mem_iff_getElem.1 hpm
            have hpi:ents[i]?=some ents[i]:=List.getElem?_eq_getElem hi
            obtain⟨a1,a2,e,a3,a4,a5⟩:=p4 i _ hpi
            refine⟨e,by rw[Array.mem_toList_iff];exact Array.mem_of_getElem? a3,fun k hk1=>?_⟩
            rw[hk1]at a4
            generalize e.key=kk at a4
            cases a4
            rfl
          have hwf:∀k:Nat,k<1000000->(Lit.int .i64 (k:Int)).wf=true:=by
            intro k hk1
            have e1:IntKind.i64.min = -9223372036854775808:=rfl
            have e2:IntKind.i64.max=9223372036854775807:=rfl
            simp only[Lit.wf,e1,e2,Bool.and_eq_true,decide_eq_true_eq]
            omega
          have hrd:∀x∈es.toList,∀k:Nat,k<1000000->x.key=.int .i64 (k:Int)->WideElems.rd Tryz.prog 3 RU x=some (.int .i64 (k:Int),.nil):=by
            intro x hx k hk1 hk2
            exact WideElems.rd_mk (R:=RU) (yv:=(.nil,[])) (key:=x.key) (val:=x.val) (born:=x.born) (by rw[hk2];exact keyOf_int_mk Tryz.underlying3 (hwf k hk1)) rfl
          have hfit:WideElems.Fit Tryz.prog 3 RU es clock:=⟨by rw[p3];have:=hk.len;unfold maxLen;omega,pst,fun x hx=>by
            obtain⟨p,-,k,k1,-,k3⟩:=pk x hx
            exact⟨_,hrd x hx k k1 k3⟩⟩
          have hown:w.ownsMap Tryz.prog 3 RU gm es.size (.map ((es.toList.map (WideElems.rg Tryz.prog 3 RU)).foldr DataW.insert [])):=⟨es,clock,by rw[<- hp];exact p2,hfit,Nat.le_refl _,rfl⟩
          have hsize:Maps.size (.map ((es.toList.map (WideElems.rg Tryz.prog 3 RU)).foldr DataW.insert []))=es.size:=by
            rw[Maps.size_eq,(WideShapes.sorted_perm _).length_eq];simp
          obtain⟨es',hD,hpw,-⟩:=hown.entries (int_keyed Tryz.underlying3)
          have hD':(es.toList.map (WideElems.rg Tryz.prog 3 RU)).foldr DataW.insert []=es':=by simpa using hD
          have hmem:∀p,p∈es' ↔ ∃x,x∈es.toList/\WideElems.rg Tryz.prog 3 RU x=p:=by
            intro p;rw[<- hD',mem_sorted,List.mem_map]
          have hhas:∀x:Int,x∈ks.map (fun(k:Nat)=>(k:Int))↔has (.map es') (.int .i64 x)=true:=by
            intro x
            rw[has_eq,List.any_eq_true,List.mem_map]
            constructor
            · rintro⟨k,hkm,rfl⟩
              obtain⟨p,hpm,hpk⟩:=(hk.mem k).1 hkm
              obtain⟨y,hy,hyk⟩:=tn p hpm
              obtain⟨k',hk1,hk2⟩:=hk.key p hpm
              rw[hpk]at hk2
              have:k=k':=by
                have:(k:Int)=(k':Int):=by simpa using hk2
                omega
              subst this
              exact⟨_,(hmem _).2 ⟨y,hy,rfl⟩,by rw[WideElems.rg_of (hrd y hy k hk1 (hyk k hpk))];simp[Lit.sameKey]⟩
            · rintro⟨p,hpm,hps⟩
              obtain⟨y,hy,rfl⟩:=(hmem p).1 hpm
              obtain⟨q,hq,k,k1,k2,k3⟩:=pk y hy
              rw[WideElems.rg_of (hrd y hy k k1 k3)]at hps
              refine⟨k,(hk.mem k).2 ⟨q,hq,k2⟩,by simpa[Lit.sameKey] using hps⟩
          have hperm:(ks.map fun(k:Nat)=>(k:Int)).Perm (intKeys (.map es')):=perm_intKeys hpw (fun p hpm=>by
            obtain⟨y,hy,rfl⟩:=(hmem p).1 hpm
            obtain⟨q,hq,k,k1,k2,k3⟩:=pk y hy
            exact⟨k,by rw[WideElems.rg_of (hrd y hy k k1 k3)]⟩) (by
            rw[List.nodup_iff_pairwise_ne,List.pairwise_map]
            exact hk.inc.imp fun h1 h2=>by omega) hhas
          have hsorted:(ks.map fun(k:Nat)=>(k:Int)).mergeSort (fun x y=>decide (x<=y))=ks.map fun(k:Nat)=>(k:Int):=by
            refine List.mergeSort_of_pairwise ?_
            rw[List.pairwise_map]
            exact hk.inc.imp fun h1=>by simp;omega
          refine(hF g gm es.size _ RU w (by rw[<- hp];exact(Array.getElem?_eq_some_iff.1 q2).1) hcell hown (by rw[hsize,p3];have:=hk.len;unfold maxLen;omega) (by rw[hsize,p3];have:=hk.len;omega)).mono ?_
          rintro e w' ⟨v,ss,rfl,hss,hrow,-,hbel⟩
          have hp2:ss.Perm (ks.map fun(k:Nat)=>(k:Int)):=by
            refine hss.trans ?_
            rw[hD'];exact hperm.symm
          have hms:ss.mergeSort (fun x y=>decide (x<=y))=ks.map fun(k:Nat)=>(k:Int):=(mergeSort_of_perm_i hp2).trans hsorted
          have hlen:ss.length=ks.length:=by have:=hp2.length_eq;simpa using this
          rw[hms,hlen,List.map_map]at hrow
          obtain⟨g1,g2⟩:=E8 (c:=c) hr (hp':=w'.heap) (by rw[hp];exact hbel.size) (fun k hk=>by rw[hp];exact hbel.block k (by rw[<- hp];exact hk))
          exact⟨v,.sl (nL ks),c.ρ,c.h,rfl,g1,g2,⟨hbel.os,hbel.tape,hbel.output⟩,EE hr (by rw[hp];exact hbel.size) (fun k hk=>by rw[hp];exact hbel.block k (by rw[<- hp];exact hk)) (by rw[hp];exact hrow),hK⟩
end Go.Am
namespace Go.Am
open Go
variable [bq]
variable {P:Program}{KH:D->Heap->Prop}{K:D->Prop}{h:Heap}{L:List (Nat×Slot)}
def nD (k:Nat):D:=.int .i64 (k:Int)
def dg (l:List Nat):List D:=l.map nD
def QV (h:Heap) (L:List (Nat×Slot)) (v:D) (T:List Nat):Prop :=
  (v=.nil/\T=[]/\Vs h L)\/∃m off els,v=.ms m off T.length/\Vs h ((m,.arr 1 els)::L)/\off+T.length<=els.length/\(els.drop off).take T.length=dg T/\∀x∈els,x.one=true
theorem yW {l:List Nat}:∀x,x∈dg l->x.one=true:=fun x hx=>by
  simp only[dg,List.mem_map]at hx;obtain⟨k,-,rfl⟩:=hx;rfl
theorem Bh {l:List Nat}:∀x,x∈dg l->aL x:=fun x hx=>by
  simp only[dg,List.mem_map]at hx;obtain⟨k,-,rfl⟩:=hx;exact(aX).one
theorem eD {l:List Nat}:(dg l).length=l.length:=by simp[dg]
theorem Cx {l:List Nat}{i k:Nat}(h:l[i]?=some k):(dg l)[i]?=some (nD k):=by simp[dg,h]
variable {v:D}{T:List Nat}
theorem QV.vs (q:QV h L v T):Vs h L:=by
  rcases q with⟨-,-,V⟩|⟨m,off,els,-,V,-⟩
  · exact V
  · exact V.pop
theorem QV.len (q:QV h L v T):cN v h K=K (.int .i64 (T.length:Int)):=by
  rcases q with⟨rfl,rfl,V⟩|⟨m,off,els,rfl,V,-⟩
  · rw[Ei];rfl
  · rw[lU]
    apply propext
    exact⟨fun hh=>hh.2,fun hk=>⟨by rw[V.get 0 _ _ rfl];rfl,hk⟩⟩
theorem QV.nil (V:Vs h L):QV h L .nil []:=Or.inl ⟨rfl,rfl,V⟩
theorem QV.ex (q:QV h L v T) (hT:T≠[]):∃m off els,v=.ms m off T.length/\Vs h ((m,.arr 1 els)::L)/\off+T.length<=els.length/\(els.drop off).take T.length=dg T/\∀x∈els,x.one=true:=by
  rcases q with⟨-,rfl,-⟩|q
  · exact absurd rfl hT
  · exact q
theorem QV.get (q:QV h L v T){i k:Nat}(hk:T[i]?=some k){KH:D->Heap->Prop}(hK:KH (nD k) h):aa P (.iadd (.c v) (.c (.int .i64 (i:Int))) 1) h fun a h1=>aa P (.ld (.c a) 1 false) h1 KH:=by
  have hi:=(List.getElem?_eq_some_iff.1 hk).1
  obtain⟨m,off,els,rfl,V,h1,h2,h3⟩:=q.ex (by rintro rfl;simp at hk)
  have hm:=V.get 0 _ _ rfl
  rw[oq]
  refine⟨by omega,by omega,⟨els,by rw[hm];rfl⟩,?_⟩
  have he:els[off+i]?=some (nD k):=by
    have:=Cx hk
    rw[<- h2,List.getElem?_take_of_lt hi,List.getElem?_drop]at this
    exact this
  rw[Int.toNat_natCast,V.Ll 0 rfl he rfl]
  exact hK
theorem QV.IU (q:QV h L v T){i k:Nat}(hk:T[i]?=some k){K:D->Prop}(hK:K (nD k)):af P (.iadd (.c v) (.c (.int .i64 (i:Int))) 1) h fun a=>af P (.ld (.c a) 1 false) h K:=by
  have:=QV.get (P:=P) q hk (KH:=fun d _=>K d) hK
  exact this
theorem QV.pB (q:QV h L v T){lo hi:Option Nat}{a b:Nat}(ha:a=lo.getD 0) (hb:b=hi.getD T.length) (hab:a<=b) (hbl:b<=T.length) (hT:T≠[]){KH:D->Heap->Prop}(hK:∀v',QV h L v' ((T.drop a).take (b-a))->KH v' h) :
    aa P (.pB (.c v) (lo.map fun(x:Nat)=>.c (.int .i64 (x:Int))) (hi.map fun(x:Nat)=>.c (.int .i64 (x:Int))) none 1) h KH:=by
  obtain⟨m,off,els,rfl,V,h1,h2,h3⟩:=q.ex hT
  have hm:=V.get 0 _ _ rfl
  have hl:((T.drop a).take (b-a)).length=b-a:=by rw[List.length_take,List.length_drop];omega
  have key:KH (.ms m (off+a) (b-a)) h:=by
    refine hK _ (Or.inr ⟨m,off+a,els,by rw[hl],V,by rw[hl];omega,?_,h3⟩)
    rw[hl]
    have e:dg ((T.drop a).take (b-a))=((dg T).drop a).take (b-a):=by simp[dg,List.map_take,List.map_drop]
    rw[e, <- h2,List.drop_take,List.drop_drop,List.take_take]
    congr 1
    omega
  have row:∃els,(h m).row=some (1,els):=⟨els,by rw[hm];rfl⟩
  cases lo with
  | none =>
    cases hi with
    | none=>simp at ha hb;subst ha;subst hb;exact⟨by omega,by omega,by omega,by omega,row,by simpa using key⟩
    | some y=>simp at ha hb;subst ha;subst hb;exact⟨by omega,by omega,by omega,by omega,row,by simpa using key⟩
  | some x =>
    cases hi with
    | none=>simp at ha hb;subst ha;subst hb;exact⟨by omega,by omega,by omega,by omega,row,by rw[show((T.length:Int)-(a:Int)).toNat=T.length-a by omega];simpa using key⟩
    | some y=>simp at ha hb;subst ha;subst hb;exact⟨by omega,by omega,by omega,by omega,row,by rw[show((b:Int)-(a:Int)).toNat=b-a by omega];simpa using key⟩
theorem QV.Kb (q:QV h L v T){lo hi:Option Nat}{a b:Nat}(ha:a=lo.getD 0) (hb:b=hi.getD T.length) (hab:a<=b) (hbl:b<=T.length) (hT:T≠[]){K:D->Prop}(hK:∀v',QV h L v' ((T.drop a).take (b-a))->K v') :
    af P (.pB (.c v) (lo.map fun(x:Nat)=>.c (.int .i64 (x:Int))) (hi.map fun(x:Nat)=>.c (.int .i64 (x:Int))) none 1) h K :=
  QV.pB (P:=P) q ha hb hab hbl hT (KH:=fun d _=>K d) hK
theorem QV.one (V:Vs h L){z:D}{k:Nat}{fz:Bool}{KH:D->Heap->Prop}(hK:∀v h',QV h' L v [k]->KH v h'):aa P (.bldS fz 1 1 z [(0,.c (nD k))]) h KH:=by
  refine⟨fun p hp=>by simp[Arg.get]at hp;subst hp;exact⟨Nat.one_pos,rfl,(aX (k:=.i64) (n:=(k:Int))).one⟩,fun hf p hp=>?_,fun n t=>?_⟩
  · simp[Arg.get]at hp;subst hp
    intro x hx
    simp[nD,D.cells]at hx;subst hx;trivial
  · have:KH (.ms n 0 1) (ak h n (.arr 1 [nD k])):=by
      refine hK _ _ (Or.inr ⟨n,0,[nD k],rfl,V.push t.free (by simp),by simp,by simp[dg],fun x hx=>by simp at hx;subst hx;rfl⟩)
    cases fz<;>simpa[Arg.get,setEls,D.fz,D.fzc,D.nm,D.iP,nD,Heap.freezeAll] using this
theorem HA {s x z:D}{esz bytes:Nat}:aa P (.app (.c s) (.c x) esz bytes z) h KH=velems esz x h fun ys=>(∀y∈ys,aL y)/\match s with
    | .nil=>(ys.length*bytes<=140737488355328/\ys.length<=9223372036854775807)/\∀n,kI h n->KH (.ms n 0 ys.length) (ak h n (.arr esz ys))
    | .ms m off len=>∃els,tY h m esz els/\off+len=els.length/\((len+ys.length)*bytes<=140737488355328/\len+ys.length<=9223372036854775807) /\
        ∀n,kI h n->KH (.ms n 0 (len+ys.length)) (ak (ak h m .dead) n (.arr esz (els.drop off++ys))) /\
          (off≠0->KH (.ms n off (len+ys.length)) (ak (ak h m .dead) n (.arr esz (els++ys))))
    | _=>False:=rfl
theorem QV.app (q:QV h L v T){z x:D}{bytes:Nat}{ks:List Nat}{KH:D->Heap->Prop}(hx:∀{K:List D->Prop},K (dg ks)->velems 1 x h K) (hb:(T.length+ks.length)*bytes<=140737488355328) (hl:T.length+ks.length<=9223372036854775807)
    (hK:∀v h',QV h' L v (T++ks)->KH v h'):aa P (.app (.c v) (.c x) 1 bytes z) h KH:=by
  rw[HA]
  refine hx ⟨Bh,?_⟩
  rcases q with⟨rfl,rfl,V⟩|⟨m,off,els,rfl,V,h1,h2,h3⟩
  · refine⟨⟨by rw[eD];simpa using hb,by rw[eD];simpa using hl⟩,fun n t=>hK _ _ ?_⟩
    rw[eD,List.nil_append]
    exact Or.inr ⟨n,0,dg ks,rfl,V.push t.free (by simp),by rw[eD];omega,by rw[List.drop_zero,List.take_of_length_le (by rw[eD];omega)],yW⟩
  · have hm:=V.get 0 _ _ rfl
    have hel:(els.take (off+T.length)).length=off+T.length:=by rw[List.length_take];omega
    have one':∀x,x∈els.take (off+T.length)++dg ks->x.one=true:=fun x hx=>by
      rcases List.mem_append.1 hx with hx|hx
      · exact h3 x (List.mem_of_mem_take hx)
      · exact yW x hx
    have hwin:(els.take (off+T.length)).drop off=dg T:=by rw[List.drop_take];rw[<- h2];congr 1;omega
    have hw2:dg T++dg ks=dg (T++ks):=by simp[dg]
    have hlen:(T++ks).length=T.length+ks.length:=List.length_append
    refine⟨els.take (off+T.length),⟨els.drop (off+T.length),by rw[List.take_append_drop];exact hm⟩,hel.symm,⟨by rw[eD];exact hb,by rw[eD];exact hl⟩,fun n t=>?_⟩
    have Vn:∀els':List D,Vs (ak (ak h m .dead) n (.arr 1 els')) ((n,.arr 1 els')::L):=fun els'=>by
      have hne:n≠m:=by rintro rfl;rw[t.free]at hm;cases hm
      have V1:Vs (ak h m .dead) L:=by
        refine V.pop.CG fun k s hi=>?_
        have:k≠m:=fun e=>by
          obtain⟨i,hi'⟩:=hi
          exact V.ne (i+1) 0 k m s _ (by simpa using hi') rfl (by omega) e
        exact ab _ _ this
      exact V1.push (by rw[ab _ _ hne];exact t.free) (by simp)
    rw[hwin,hw2,eD]
    refine⟨hK _ _ (Or.inr ⟨n,0,dg (T++ks),by rw[hlen],Vn _,by rw[eD];omega,by rw[List.drop_zero,List.take_of_length_le (by rw[eD];omega)],yW⟩),fun _=>hK _ _ (Or.inr ⟨n,off,els.take (off+T.length)++dg ks,by rw[hlen],Vn _,?_,?_,one'⟩)⟩
    · rw[List.length_append (bs:=dg ks),hel,eD,hlen];omega
    · rw[List.drop_append_of_le_length (by omega),hwin,hw2,List.take_of_length_le (by rw[eD];omega)]
theorem Vs.swap {x y:Nat×Slot}(V:Vs h (x::y::L)):Vs h (y::x::L):=by
  let f:Nat->Nat:=fun i=>if i=0 then 1 else if i=1 then 0 else i
  have hf:∀i,(y::x::L)[i]?=(x::y::L)[f i]?:=fun i=>by
    match i with
    | 0=>rfl
    | 1=>rfl
    | i+2=>simp[f]
  have inj:∀i j,f i=f j->i=j:=fun i j h=>by
    simp only[f]at h;split at h<;>split at h<;>(try split at h)<;>(try split at h)<;>omega
  exact⟨fun i n s hi=>V.get (f i) n s (by rw[<- hf];exact hi),fun i j n m s s' hi hj hij=>V.ne (f i) (f j) n m s s' (by rw[<- hf];exact hi) (by rw[<- hf];exact hj) fun e=>hij (inj _ _ e),fun i n s hi=>V.lv (f i) n s (by rw[<- hf];exact hi)⟩
theorem QV.cr (q:QV h L v T) (i:Nat){n:Nat}{s s':Slot}(hi:L[i]?=.some (n,s)) (hs:s'≠.free):QV (ak h n s') (L.set i (n,s')) v T:=by
  rcases q with⟨rfl,rfl,V⟩|⟨m,off,els,rfl,V,h1,h2,h3⟩
  · exact Or.inl ⟨rfl,rfl,V.cr i hi hs⟩
  · exact Or.inr ⟨m,off,els,rfl,by have:=V.cr (i+1) (n:=n) (s:=s) (by simpa using hi) hs;simpa using this,h1,h2,h3⟩
theorem QV.more (q:QV h L v T){n:Nat}(hn:h n=.free){s:Slot}(hs:s≠.free):QV (ak h n s) ((n,s)::L) v T:=by
  rcases q with⟨rfl,rfl,V⟩|⟨m,off,els,rfl,V,h1,h2,h3⟩
  · exact Or.inl ⟨rfl,rfl,V.push hn hs⟩
  · exact Or.inr ⟨m,off,els,rfl,(V.push hn hs).swap,h1,h2,h3⟩
theorem QV.less {x:Nat×Slot}(q:QV h (x::L) v T):QV h L v T:=by
  rcases q with⟨rfl,rfl,V⟩|⟨m,off,els,rfl,V,h1,h2,h3⟩
  · exact Or.inl ⟨rfl,rfl,V.pop⟩
  · exact Or.inr ⟨m,off,els,rfl,V.swap.pop,h1,h2,h3⟩
theorem H3 {n j:Nat}{els:List D}{d:D}(hn:h n=.arr 1 els) (hj:j<els.length) (ho:d.one=true) (h1:∀x∈els,x.one=true):KH .undef (ak h n (.arr 1 (els.set j d)))->aa P (.st (.c (.ptr n j 0)) (.c d) 1) h KH:=by
  intro hK
  rw[ki,hn]
  have hc:∀d:D,d.one=true->d.cells=[d]:=fun d ho=>by cases d<;>first|rfl|cases ho
  refine⟨by rw[hc d ho];rfl,fun x hx=>by rw[hc d ho]at hx;simp at hx;subst hx;exact ho,hj,by omega,fun y hy=>?_⟩
  have hy1:=h1 y (List.mem_of_getElem? hy)
  have e:setCells y 0 d.cells=d:=by rw[hc d ho];cases y<;>first|rfl|cases hy1
  rw[e]
  exact hK
theorem QV.KF (q:QV h L v T) (i:Nat){n j:Nat}{els:List D}{d:D}(hi:L[i]?=.some (n,.arr 1 els)) (hj:j<els.length) (ho:d.one=true) (h1:∀x∈els,x.one=true)
    (hK:∀h',QV h' (L.set i (n,.arr 1 (els.set j d))) v T->KH .undef h'):aa P (.st (.c (.ptr n j 0)) (.c d) 1) h KH :=
  H3 (q.vs.get i _ _ hi) hj ho h1 (hK _ (q.cr i hi (by simp)))
theorem QV.alloc (q:QV h L v T){d:D}(hK:∀n h',QV h' ((n,.box d)::L) v T->KH (.ptr n 0 0) h'):aa P (.alloc d) h KH:=by
  rw[gu]
  exact fun n t=>hK n _ (q.more t.free (by simp))
theorem QV.Hq (q:QV h L v T) (i:Nat){n s:Nat}{cs cs':List D}(hi:L[i]?=.some (n,.box (.agg cs))) (hl:cs.length=s) (hl':cs'.length=s) (ho:∀x,x∈cs'->x.one=true)
    (hK:∀h',QV h' (L.set i (n,.box (.agg cs'))) v T->KH .undef h'):aa P (.st (.c (.ptr n 0 0)) (.c (.agg cs')) s) h KH:=by
  rw[ki,q.vs.get i _ _ hi]
  refine⟨hl',ho,rfl,by simp[hl],?_⟩
  have e:setCells (.agg cs) 0 (D.agg cs').cells=.agg cs':=by
    show D.agg (cs.take 0++cs'++cs.drop (0+cs'.length))=_
    rw[List.take_zero,List.nil_append,Nat.zero_add,List.drop_of_length_le (by omega),List.append_nil]
  rw[e]
  exact hK _ (q.cr i hi (by simp))
theorem QV.ret (q:QV h L v T){K:D->Prop}(hk:K (.sl (dg T))) (hn:T=[]->K .nil):tq K v h:=by
  rcases q with⟨rfl,rfl,V⟩|⟨m,off,els,rfl,V,h1,h2,h3⟩
  · rw[zz];exact hn rfl
  · have hrow:(h m).row=some (1,els):=by rw[V.get 0 _ _ rfl];rfl
    have e:(D.ms m off T.length).fzt h=.sl (dg T):=by simp[D.fzt,D.fz,D.fzc,hrow,h2]
    have hv:∀x,x∈(els.drop off).take T.length->∀y∈x.cells,y.vone=true:=by
      rw[h2];intro x hx y hy
      simp only[dg,List.mem_map]at hx
      obtain⟨k,-,rfl⟩:=hx
      simp[nD,D.cells]at hy;subst hy;rfl
    refine⟨(by simp:aL (D.ms m off T.length)),?_,by rw[e];rfl,by rw[e];exact hk⟩
    intro x hx
    simp only[D.cells,List.mem_singleton]at hx
    subst hx
    exact⟨1,els,hrow,h1,hv⟩
theorem HT {ks:List Nat}{K:List D->Prop}(hk:K (dg ks)):velems 1 (.sl (dg ks)) h K :=
  ⟨fun e he=>by simp only[dg,List.mem_map]at he;obtain⟨k,-,rfl⟩:=he;rfl,hk⟩
theorem QV.Lj {ks:List Nat}(q:QV h L v ks){K:List D->Prop}(hk:K (dg ks)):velems 1 v h K:=by
  rcases q with⟨rfl,rfl,V⟩|⟨m,off,els,rfl,V,h1,h2,h3⟩
  · exact hk
  · exact⟨els,by rw[V.get 0 _ _ rfl];rfl,h1,by rw[h2];exact hk⟩
theorem QV.push (q:QV h L v T){z z':D}{bytes k:Nat}{fz:Bool}{KH:D->Heap->Prop}(hb:(T.length+1)*bytes<=140737488355328) (hl:T.length+1<=9223372036854775807)
    (hK:∀v h',QV h' L v (T++[k])->KH v h'):aa P (.bldS fz 1 1 z [(0,.c (nD k))]) h fun x h1=>aa P (.app (.c v) (.c x) 1 bytes z') h1 KH:=by
  rcases q with⟨rfl,rfl,V⟩|⟨m,off,els,rfl,V,h1,h2,h3⟩
  · refine QV.one V fun x h1 q1=>?_
    have q0:QV h1 L .nil []:=QV.nil q1.vs
    exact q0.app (ks:=[k]) (fun hk=>q1.Lj hk) (by simp at hb ⊢;omega) (by simp) hK
  · refine QV.one V fun x h1 q1=>?_
    have q0:QV h1 L (.ms m off T.length) T:=Or.inr ⟨m,off,els,rfl,q1.vs,by assumption,h2,h3⟩
    exact q0.app (ks:=[k]) (fun hk=>q1.Lj hk) (by simpa using hb) (by simpa using hl) hK
end Go.Am
namespace Go.Am
open Go Go.Proofs
def ca (t:Term):List Nat:=if t.kind=5 then [] else if t.kind=2/\t.to0≠t.to1 then [t.to0.toNat,t.to1.toNat] else [t.to0.toNat]
theorem AZ.succ {N:Nat}{R:Int}{t:Term}(h:AZ N R t):∀b,b∈ca t->b<N:=by
  intro b hb
  cases h with
  | branch o x y ho h1 h2 =>
    unfold ca at hb
    split at hb
    · simp at hb
    · split at hb<;>simp at hb<;>omega
  | jump a h=>simp[ca]at hb;omega
  | barrier a h=>simp[ca]at hb;omega
  | collect s d a b t hs hd ha hbb h=>simp[ca]at hb;omega
  | exit=>simp[ca]at hb
theorem E7 {P:Program}{n i j l s:Nat}{k:IntKind}{a:Int}{h:Heap}{KH:D->Heap->Prop}:aa P (.iadda (.c (.ptr n i j)) (.c (.int k a)) l s) h KH=(0<=a/\a<l/\(h n).live=true/\KH (.ptr n i (j+a.toNat*s)) h):=rfl
theorem Vs.Jj {P:Program}{KH:D->Heap->Prop}{h:Heap}{L:List (Nat×Slot)}(V:Vs h L) (i:Nat){n l j:Nat}{a:Nat}{d:D}(hi:L[i]?=some (n,.box d)) (h1:a<l):aa P (.iadda (.c (.ptr n 0 j)) (.c (.int .i64 (a:Int))) l 1) h KH=KH (.ptr n 0 (j+a)) h:=by
  rw[E7,V.get i _ _ hi]
  apply propext
  constructor
  · rintro⟨-,-,-,hk⟩;simpa using hk
  · intro hk;exact⟨by omega,by omega,rfl,by simpa using hk⟩
theorem Vs.Bc {P:Program}{KH:D->Heap->Prop}{h:Heap}{L:List (Nat×Slot)}(V:Vs h L) (i:Nat){n l j:Nat}{cs:List D}(hi:L[i]?=some (n,.box (.agg cs))) (h0:0<l) (hl:l<=1000000) (hj:j+l<=cs.length) (hv:∀d,d∈(cs.drop j).take l->d.vone=true)
    (hK:∀h',KH (.sl ((cs.drop j).take l)) h'):aa P (.Bc (.c (.ptr n 0 j)) l) h KH:=by
  show match h n with
    | .box (.agg cs)=>(0:Nat)=0/\0<l/\l<=1000000/\j+l<=cs.length/\(∀d,d∈(cs.drop j).take l->d.vone=true)/\KH (.sl ((cs.drop j).take l)) (ak h n .dead)
    | _=>False
  rw[V.get i _ _ hi]
  exact⟨rfl,h0,hl,hj,hv,hK _⟩
theorem I0 {N:Nat}{R:Int}{t:Term}(h:AZ N R t):aQ PP dZ [t.e] (· = .sl (dg (ca t))):=by
  refine aQ.wk (K:=fun r=>r=.sl (dg (ca t))\/(r=.nil/\ca t=[])) (fZ o4 (an _ _ _) rfl (xA _ _) ?_) fun r hr=>?_
  · unfold uO
    refine Vs.nil.box t.qW.one fun n2 h3 V=>?_
    have i0:∀{KH:D->Heap->Prop},aa PP (.iadda (.c (.ptr n2 0 11)) (.c (.int .i64 0)) 2 1) h3 KH=KH (.ptr n2 0 11) h3:=fun {KH}=>V.Jj 0 (a:=0) rfl (by omega)
    have i1:∀{KH:D->Heap->Prop},aa PP (.iadda (.c (.ptr n2 0 11)) (.c (.int .i64 1)) 2 1) h3 KH=KH (.ptr n2 0 12) h3:=fun {KH}=>V.Jj 0 (a:=1) rfl (by omega)
    have one:∀(a:Nat),aa PP (.bldS true 1 1 (.int .i64 0) [(0,.c (.int .i64 (a:Int)))]) h3 fun a60 h61=>tq (fun r=>r=.sl (dg [a])\/r=.nil/\[a]=[]) a60 h61:=fun a=>by
      exact QV.one (k:=a) V fun v h' q=>q.ret (Or.inl rfl) (by simp)
    cases h with
    | jump a ha =>
      simp (disch:=omega) only[↓V.fa 0 rfl,Nat.zero_add,↓V.tR 0 (j:=0) rfl rfl,↓cS,↓gS,↓i0,↓V.tR 0 (j:=11) rfl rfl]
      exact one a
    | barrier a ha =>
      simp (disch:=omega) only[↓V.fa 0 rfl,Nat.zero_add,↓V.tR 0 (j:=0) rfl rfl,↓cS,↓gS,↓i0,↓V.tR 0 (j:=11) rfl rfl]
      exact one a
    | collect s d a b t hs hd ha hb ht =>
      simp (disch:=omega) only[↓V.fa 0 rfl,Nat.zero_add,↓V.tR 0 (j:=0) rfl rfl,↓cS,↓gS,↓i0,↓V.tR 0 (j:=11) rfl rfl]
      exact one t
    | exit =>
      simp (disch:=omega) only[↓V.fa 0 rfl,Nat.zero_add,↓V.tR 0 (j:=0) rfl rfl,↓cS,↓gS]
      rw[zz]
      exact Or.inr ⟨rfl,rfl⟩
    | branch o a b ho ha hb =>
      simp (disch:=omega) only[↓V.fa 0 rfl,Nat.zero_add,↓V.tR 0 (j:=0) rfl rfl,↓cS,↓gS,↓i0,↓i1,↓V.tR 0 (j:=11) rfl rfl,↓V.tR 0 (j:=12) rfl rfl]
      by_cases hab:a=b
      · subst hab
        simp (disch:=omega) only[↓cS,↓gS,↓V.fa 0 rfl,Nat.zero_add,↓i0,↓V.tR 0 (j:=11) rfl rfl]
        have e:ca ⟨2,0,al,o,al,(a:Int),(a:Int)⟩=[a]:=by simp[ca]
        rw[e]
        exact one a
      · simp (disch:=omega) only[↓cS,↓gS,↓V.fa 0 rfl,Nat.zero_add]
        have e:ca ⟨2,0,al,o,al,(a:Int),(b:Int)⟩=[a,b]:=by simp[ca];omega
        rw[e]
        refine V.Bc 0 (cs:=(Term.cs ⟨2,0,al,o,al,(a:Int),(b:Int)⟩)) rfl (by omega) (by omega) (by simp[Term.cs]) (fun d hd=>by simp[Term.cs]at hd;rcases hd with rfl|rfl<;>rfl) fun h'=>?_
        rw[F0]
        exact Or.inl rfl
  · rcases hr with rfl|⟨rfl,e⟩
    · exact⟨_,.refl _,rfl,rfl⟩
    · rw[e];exact⟨_,.nil,rfl,rfl⟩
inductive Path (E:Nat->List Nat) (s:Nat):Nat->Prop
  | refl:Path E s s
  | step {a b:Nat}(h:Path E s a) (hb:b∈E a):Path E s b
theorem Path.trans {E:Nat->List Nat}{a b c:Nat}(h:Path E a b) (k:Path E b c):Path E a c:=by
  induction k with
  | refl=>exact h
  | step _ hb ih=>exact .step ih hb
theorem Path.closed {E:Nat->List Nat}{s b:Nat}{S:Nat->Prop}(h:Path E s b) (hs:S s) (hc:∀a b,S a->b∈E a->S b):S b:=by
  induction h with
  | refl=>exact hs
  | step _ hb ih=>exact hc _ _ ih hb
def yb (p:Nat->Bool) (N:Nat):Nat:=(List.range N).countP fun k=> !p k
theorem xl {α:Type}{p q:α->Bool}:∀{l:List α},(∀x∈l,q x=true->p x=true)->(∃x,x∈l/\p x=true/\q x=false)->l.countP q+1<=l.countP p
  | [],_,⟨x,hx,_⟩=>by cases hx
  | y::l,h,⟨x,hx,h1,h2⟩=>by
    have hm:l.countP q<=l.countP p:=List.countP_mono_left fun z hz hq=>h z (by simp[hz]) hq
    rw[List.countP_cons,List.countP_cons]
    rcases List.mem_cons.1 hx with rfl|hx
    · rw[h1,h2];simp;omega
    · have:=xl (l:=l) (fun z hz=>h z (by simp[hz])) ⟨x,hx,h1,h2⟩
      by_cases hq:q y=true
      · rw[hq,h y (by simp) hq];simp;omega
      · simp[hq];split<;>omega
theorem vU {p p':Nat->Bool}{N x:Nat}(h:∀k,p k=true->p' k=true) (hx:x<N) (h1:p x=false) (h2:p' x=true):yb p' N+1<=yb p N :=
  xl (fun k _ hk=>by cases hp:p k<;>simp_all) ⟨x,by simpa using hx,by simp[h1],by simp[h2]⟩
end Go.Am
namespace Go.Am
open Go Go.Proofs
structure kR (c:Code):Prop where
  nb:1<=c.b.length/\c.b.length<=18
  t:∀B∈c.b,AZ c.b.length c.regs B.t
theorem kf.g {c:Code}(h:kf c):kR c:=⟨h.nb,fun B hB=>(h.b B hB).t⟩
def edg (c:Code) (a:Nat):List Nat:=match c.b[a]? with
  | some B=>ca B.t
  | none=>[]
theorem xj {c:Code}(hc:kR c){a b:Nat}(h:b∈edg c a):b<c.b.length:=by
  unfold edg at h
  split at h
  · rename_i B hB;exact(hc.t B (List.mem_of_getElem? hB)).succ b h
  · cases h
def bL (S:List Bool):List D:=S.map .bool
theorem FE (S:List Bool):∀x,x∈bL S->x.one=true:=fun x hx=>by
  simp only[bL,List.mem_map]at hx;obtain⟨k,-,rfl⟩:=hx;rfl
theorem FF {S:List Bool}{i:Nat}{b:Bool}(h:S[i]?=some b):(bL S)[i]?=some (.bool b):=by simp[bL,h]
theorem FD (S:List Bool) (i:Nat) (b:Bool):(bL S).set i (.bool b)=bL (S.set i b):=by simp[bL,List.map_set]
def hasB (S:List Bool) (k:Nat):Bool:=(S[k]?).getD false
theorem Ak {S:List Bool}{x k:Nat}(hx:x<S.length):hasB (S.set x true) k=(decide (k=x)||hasB S k):=by
  unfold hasB
  rw[List.getElem?_set]
  by_cases h:x=k
  · subst h;simp[hx]
  · rw[if_neg h];simp[Ne.symm h]
theorem Al {S:List Bool}{k:Nat}(hk:k<S.length):S[k]?=some (hasB S k):=by
  unfold hasB;rw[List.getElem?_eq_getElem hk];rfl
theorem Ba (p:Nat->Bool) (N:Nat):yb p N<=N:=by
  have:=List.countP_le_length (p:=fun k=> !p k) (l:=List.range N)
  simpa[yb] using this
structure B3 (E:Nat->List Nat) (N s:Nat) (p:Nat->Bool) (T:List Nat):Prop where
  st:p s=true
  lt:∀k,p k=true->k<N
  td:∀k∈T,p k=true
  path:∀k,p k=true->Path E s k
  done:∀a b,p a=true->a∉T->b∈E a->p b=true
theorem B3.fin {E:Nat->List Nat}{N s:Nat}{p:Nat->Bool}(h:B3 E N s p []) (k:Nat):p k=true↔Path E s k :=
  ⟨h.path k,fun hp=>hp.closed (S:=fun k=>p k=true) h.st fun a b ha hb=>h.done a b ha (by simp) hb⟩
structure jW (E:Nat->List Nat) (N s:Nat) (p:Nat->Bool) (T:List Nat) (a i:Nat):Prop where
  st:p s=true
  lt:∀k,p k=true->k<N
  td:∀k∈T,p k=true
  path:∀k,p k=true->Path E s k
  done:∀a' b,a'≠a->p a'=true->a'∉T->b∈E a'->p b=true
  pa:p a=true
  part:∀(j b:Nat),j<i->(E a)[j]?=some b->p b=true
theorem B3.pop {E:Nat->List Nat}{N s a:Nat}{p:Nat->Bool}{T T':List Nat}(h:B3 E N s p T) (ha:a∈T) (hT:∀k,k∈T'->k∈T) (hT2:∀k∈T,k=a\/k∈T'):jW E N s p T' a 0 :=
  ⟨h.st,h.lt,fun k hk=>h.td k (hT k hk),h.path,fun a' b hne hp hn hb=>h.done a' b hp (fun hm=>by rcases hT2 a' hm with e|e;exact hne e;exact hn e) hb,h.td a ha,fun j b hj=>by omega⟩
theorem jW.end {E:Nat->List Nat}{N s a i:Nat}{p:Nat->Bool}{T:List Nat}(h:jW E N s p T a i) (hi:(E a).length<=i):B3 E N s p T :=
  ⟨h.st,h.lt,h.td,h.path,fun a' b hp hn hb=>by
    by_cases e:a'=a
    · subst e
      obtain⟨j,hj,rfl⟩:=List.mem_iff_getElem.1 hb
      exact h.part j _ (by omega) (List.getElem?_eq_getElem hj)
    · exact h.done a' b e hp hn hb⟩
theorem jW.Dw {E:Nat->List Nat}{N s a i b:Nat}{p:Nat->Bool}{T:List Nat}(h:jW E N s p T a i) (hb:(E a)[i]?=some b) (hp:p b=true):jW E N s p T a (i+1) :=
  ⟨h.st,h.lt,h.td,h.path,h.done,h.pa,fun j c hj hc=>by
    by_cases e:j=i
    · subst e;rw[hb]at hc;cases hc;exact hp
    · exact h.part j c (by omega) hc⟩
theorem jW.new {E:Nat->List Nat}{N s a i b:Nat}{p p':Nat->Bool}{T:List Nat}(h:jW E N s p T a i) (hb:(E a)[i]?=some b) (hlt:b<N) (hp':∀k,p' k=(decide (k=b)||p k)):jW E N s p' (T++[b]) a (i+1):=by
  have up:∀k,p k=true->p' k=true:=fun k hk=>by rw[hp',hk];simp
  have inv:∀k,p' k=true->k=b\/p k=true:=fun k hk=>by rw[hp']at hk;simpa using hk
  refine⟨up s h.st,fun k hk=>?_,fun k hk=>?_,fun k hk=>?_,fun a' c hne hp hn hc=>?_,up a h.pa,fun j c hj hc=>?_⟩
  · rcases inv k hk with rfl|hk
    · exact hlt
    · exact h.lt k hk
  · rcases List.mem_append.1 hk with hk|hk
    · exact up k (h.td k hk)
    · simp at hk;subst hk;rw[hp'];simp
  · rcases inv k hk with rfl|hk
    · exact .step (h.path a h.pa) (List.mem_of_getElem? hb)
    · exact h.path k hk
  · rcases inv a' hp with rfl|hp
    · exact absurd (by simp) hn
    · exact up c (h.done a' c hne hp (fun hm=>hn (by simp[hm])) hc)
  · by_cases e:j=i
    · subst e;rw[hb]at hc;cases hc;rw[hp'];simp
    · exact up c (h.part j c (by omega) hc)
end Go.Am
namespace Go.Am
open Go Go.Proofs
section
variable {c:Code}{b:Nat}{B:Block}{P:Program}{KH:D->Heap->Prop}{h:Heap}{K:D->Prop}
theorem La (hB:c.b[b]?=some B):aa P (.iadd (.c (.sl (c.b.map Block.e))) (.c (.int .i64 (b:Int))) 14) h KH=KH (.vp B.e 0) h :=
  nH (by omega) (by rw[Int.toNat_natCast,List.getElem?_map,hB];rfl) rfl
theorem CZ (hB:c.b[b]?=some B):af P (.iadd (.c (.sl (c.b.map Block.e))) (.c (.int .i64 (b:Int))) 14) h K=K (.vp B.e 0):=by rw[qX,La hB]
theorem K9:aa P (.ld (.c (.vp B.e 1)) 13 true) h KH=KH B.t.e h:=by
  rw[w8,o9]
  apply propext
  exact⟨fun hh=>hh.2,fun hk=>⟨by show 1+13<=14;omega,hk⟩⟩
theorem CY:af P (.ld (.c (.vp B.e 1)) 13 true) h K=K B.t.e:=by rw[vr,K9]
theorem Kd {d:D}{o:Nat}:af P (.fadd (.c (.vp d 0)) o) h K=K (.vp d o):=by rw[show af P (.fadd (.c (.vp d 0)) o) h K=aa P (.fadd (.c (.vp d 0)) o) h (fun d _=>K d) from rfl,LO]
end
theorem Kt {P:Program}{KH:D->Heap->Prop}{h:Heap}{l:List Nat}{i k:Nat}(hk:l[i]?=some k) (hK:KH (nD k) h):aa P (.iadd (.c (.sl (dg l))) (.c (.int .i64 (i:Int))) 1) h fun a h1=>aa P (.ld (.c a) 1 false) h1 KH:=by
  rw[nH (esz:=1) (d:=nD k) (by omega) (by rw[Int.toNat_natCast];exact Cx hk) rfl,GD rfl]
  exact hK
theorem Cy {h:Heap}{K:D->Prop}{l:List Nat}:cN (.sl (dg l)) h K=K (.int .i64 (l.length:Int)):=by rw[wq,eD]
end Go.Am
namespace Go.Am
open Go Go.Proofs
def pk (ks:List Nat):List (D×D):=ks.map fun k=>(nD k,.bool true)
theorem pe {a b:Nat}:keySame (nD a) (nD b)=decide (a=b):=by simp only[keySame,nD];exact decide_eq_decide.2 (by omega)
theorem z7 {k:Nat}:∀{ks:List Nat},mget (pk ks) (nD k)=if k∈ks then some (.bool true) else none
  | []=>by simp[pk,mget]
  | a::r=>by
    have ih:=z7 (k:=k) (ks:=r)
    simp only[pk,List.map_cons,mget,pe,decide_eq_true_eq]at ih ⊢
    by_cases h:k=a
    · simp[h]
    · rw[if_neg h,ih];simp[h]
theorem zY {k:Nat}:∀{ks:List Nat},mset (pk ks) (nD k) (.bool true)=pk (if k∈ks then ks else ks++[k])
  | []=>by simp[pk,mset]
  | a::r=>by
    have ih:=zY (k:=k) (ks:=r)
    simp only[pk,List.map_cons,mset,pe,decide_eq_true_eq]at ih ⊢
    by_cases h:k=a
    · subst h;simp
    · rw[if_neg h,ih]
      by_cases hk:k∈r<;>simp[h,hk]
section
variable {P:Program}{KH:D->Heap->Prop}{h:Heap}{L:List (Nat×Slot)}{v:D}{T:List Nat}
theorem Vs.v8 (V:Vs h L){kt:KeyT}(hK:∀n h',Vs h' ((n,.map kt [])::L)->KH (.mp n) h'):aa P (.v8 kt) h KH:=fun n t=>hK n _ (V.push t.free (by simp))
theorem QV.mset (q:QV h L v T) (i:Nat){n k:Nat}{ks:List Nat}(hi:L[i]?=some (n,.map (.int .i64) (pk ks))) (hK:∀h',QV h' (L.set i (n,.map (.int .i64) (pk (if k∈ks then ks else ks++[k])))) v T->KH .undef h') :
    aa P (.mupd (.int .i64) (.c (.mp n)) (.c (nD k)) (.c (.bool true))) h KH:=by
  refine⟨rfl,rfl,?_⟩
  have hn:=q.vs.get i _ _ hi
  simp only[Arg.get,hn]
  refine⟨trivial,?_⟩
  rw[zY]
  exact hK _ (q.cr i hi (by simp))
theorem Vs.mset (V:Vs h L) (i:Nat){n k:Nat}{ks:List Nat}(hi:L[i]?=some (n,.map (.int .i64) (pk ks))) (hK:∀h',Vs h' (L.set i (n,.map (.int .i64) (pk (if k∈ks then ks else ks++[k]))))->KH .undef h') :
    aa P (.mupd (.int .i64) (.c (.mp n)) (.c (nD k)) (.c (.bool true))) h KH :=
  (QV.nil V).mset i hi fun h' q=>hK h' q.vs
theorem Vs.mget (V:Vs h L) (i:Nat){n k:Nat}{ks:List Nat}(hi:L[i]?=some (n,.map (.int .i64) (pk ks))) (hK:KH (.bool (decide (k∈ks))) h):aa P (.look (.int .i64) (.c (.mp n)) (.c (nD k)) (.bool false) false) h KH:=by
  refine⟨rfl,?_⟩
  have hn:=V.get i _ _ hi
  simp only[Arg.get,hn]
  refine⟨trivial,?_⟩
  rw[z7]
  by_cases hk:k∈ks<;>simpa[hk] using hK
end
def qT (c:Code) (a:Nat):List Nat:=match c.b[a]? with
  | some B=>if B.t.kind=3 then [] else ca B.t
  | none=>[]
def kh (c:Code) (a:Nat):List Nat:=match c.b[a]? with
  | some B=>if B.t.kind=3 then ca B.t else []
  | none=>[]
structure Ls (ks:List Nat) (N:Nat) (p:Nat->Prop):Prop where
  nd:ks.Nodup
  lt:∀k∈ks,k<N
  mem:∀k,k∈ks↔p k
def dE (ks:List Nat) (k:Nat):Bool:=decide (k∈ks)
theorem oc {ks:List Nat}{k:Nat}:dE ks k=true↔k∈ks:=by simp[dE]
def xw (ks:List Nat) (k:Nat):List Nat:=if k∈ks then ks else ks++[k]
theorem nZ {ks:List Nat}{k x:Nat}:x∈xw ks k↔x=k\/x∈ks:=by
  unfold xw
  split
  · rename_i h
    constructor
    · exact Or.inr
    · rintro (rfl|hx)
      · exact h
      · exact hx
  · simp[or_comm]
theorem C7 {ks:List Nat}{k:Nat}(h:ks.Nodup):(xw ks k).Nodup:=by
  unfold xw
  split
  · exact h
  · rename_i hk
    exact List.nodup_append.2 ⟨h,by simp,fun a ha b hb=>by simp at hb;subst hb;rintro rfl;exact hk ha⟩
theorem pc {ks:List Nat}{k x:Nat}:dE (xw ks k) x=(decide (x=k)||dE ks x):=by
  unfold dE
  rw[<- Bool.decide_or]
  exact decide_eq_decide.2 nZ
theorem Bp {c:Code}{a:Nat}{B:Block}(hB:c.b[a]?=some B):qT c a=if B.t.kind=3 then [] else ca B.t:=by unfold qT;rw[hB]
theorem yV {c:Code}{a:Nat}{B:Block}(hB:c.b[a]?=some B):kh c a=if B.t.kind=3 then ca B.t else []:=by unfold kh;rw[hB]
theorem GH {c:Code}{a b:Nat}(h:b∈qT c a):b∈edg c a:=by
  unfold qT at h;unfold edg
  cases hB:c.b[a]?<;>simp only[hB]at h ⊢
  · exact h
  · split at h
    · cases h
    · exact h
theorem sg {c:Code}{a b:Nat}(h:b∈kh c a):b∈edg c a:=by
  unfold kh at h;unfold edg
  cases hB:c.b[a]?<;>simp only[hB]at h ⊢
  · exact h
  · split at h
    · exact h
    · cases h
structure Km (E:Nat->List Nat) (p:Nat->Bool) (T:List Nat) (nx:List Nat):Prop where
  nd:nx.Nodup
  ok:∀b∈nx,∃a,p a=true/\b∈E a
  done:∀a b,p a=true->a∉T->b∈E a->b∈nx
structure q9 (E:Nat->List Nat) (p:Nat->Bool) (T:List Nat) (nx:List Nat) (a i:Nat):Prop where
  nd:nx.Nodup
  ok:∀b∈nx,∃a,p a=true/\b∈E a
  pa:p a=true
  done:∀a' b,a'≠a->p a'=true->a'∉T->b∈E a'->b∈nx
  part:∀(j b:Nat),j<i->(E a)[j]?=some b->b∈nx
section
variable {E:Nat->List Nat}{p p':Nat->Bool}{T T' nx:List Nat}{a i b:Nat}
theorem Km.pop (h:Km E p T nx) (pa:p a=true) (hT2:∀k∈T,k=a\/k∈T'):q9 E p T' nx a 0 :=
  ⟨h.nd,h.ok,pa,fun a' b hne hp hn hb=>h.done a' b hp (fun hm=>by rcases hT2 a' hm with e|e;exact hne e;exact hn e) hb,fun j b hj=>by omega⟩
theorem q9.end (h:q9 E p T nx a i) (hi:(E a).length<=i):Km E p T nx :=
  ⟨h.nd,h.ok,fun a' b hp hn hb=>by
    by_cases e:a'=a
    · subst e
      obtain⟨j,hj,rfl⟩:=List.mem_iff_getElem.1 hb
      exact h.part j _ (by omega) (List.getElem?_eq_getElem hj)
    · exact h.done a' b e hp hn hb⟩
theorem q9.add (h:q9 E p T nx a i) (hb:(E a)[i]?=some b):q9 E p T (xw nx b) a (i+1) :=
  ⟨C7 h.nd,fun x hx=>by
    rcases nZ.1 hx with rfl|hx
    · exact⟨a,h.pa,List.mem_of_getElem? hb⟩
    · exact h.ok x hx,h.pa,fun a' x hne hp hn hx=>nZ.2 (Or.inr (h.done a' x hne hp hn hx)),fun j x hj hx=>by
    by_cases e:j=i
    · subst e;rw[hb]at hx;cases hx;exact nZ.2 (Or.inl rfl)
    · exact nZ.2 (Or.inr (h.part j x (by omega) hx))⟩
theorem q9.skip (h:q9 E p T nx a i) (he:E a=[]):q9 E p T nx a (i+1):=⟨h.nd,h.ok,h.pa,h.done,fun j x _ hx=>by rw[he]at hx;simp at hx⟩
theorem q9.grow (h:q9 E p T nx a i) (hp':∀k,p' k=(decide (k=b)||p k)):q9 E p' (T++[b]) nx a i:=by
  have inv:∀k,p' k=true->k=b\/p k=true:=fun k hk=>by rw[hp']at hk;simpa using hk
  refine⟨h.nd,fun x hx=>?_,by rw[hp',h.pa];simp,fun a' x hne hp hn hx=>?_,h.part⟩
  · obtain⟨y,hy,hyx⟩:=h.ok x hx
    exact⟨y,by rw[hp',hy];simp,hyx⟩
  · rcases inv a' hp with rfl|hp
    · exact absurd (by simp) hn
    · exact h.done a' x hne hp (fun hm=>hn (by simp[hm])) hx
end
theorem jW.skip {E:Nat->List Nat}{N s a i:Nat}{p:Nat->Bool}{T:List Nat}(h:jW E N s p T a i) (he:E a=[]):jW E N s p T a (i+1) :=
  ⟨h.st,h.lt,h.td,h.path,h.done,h.pa,fun j x _ hx=>by rw[he]at hx;simp at hx⟩
theorem Vs.xk {P:Program}{h:Heap}{L:List (Nat×Slot)}{K:D->Prop}(V:Vs h L) (i:Nat){n o:Nat}{s:Slot}(hi:L[i]?=some (n,s)):af P (.fadd (.c (.ptr n 0 0)) o) h K=K (.ptr n 0 o):=by
  rw[show af P (.fadd (.c (.ptr n 0 0)) o) h K=aa P (.fadd (.c (.ptr n 0 0)) o) h (fun d _=>K d) from rfl,V.fa i hi]
theorem Vs.Bz {P:Program}{h:Heap}{L:List (Nat×Slot)}{K:D->Prop}(V:Vs h L) (i:Nat){n j:Nat}{cs:List D}{e:D}(hi:L[i]?=some (n,.box (.agg cs))) (he:cs[j]?=some e):af P (.ld (.c (.ptr n 0 j)) 1 false) h K=K e:=by rw[vr,V.tR i hi he]
theorem Vs.erase {h:Heap}{L:List (Nat×Slot)}(V:Vs h L) (i:Nat):Vs h (L.eraseIdx i):=by
  let f:Nat->Nat:=fun j=>if j<i then j else j+1
  have hf:∀j,(L.eraseIdx i)[j]?=L[f j]?:=fun j=>by
    rw[List.getElem?_eraseIdx];simp only[f];split<;>rfl
  exact⟨fun j n s hj=>V.get (f j) n s (by rw[<- hf];exact hj),fun j k n m s s' hj hk hjk=>V.ne (f j) (f k) n m s s' (by rw[<- hf];exact hj) (by rw[<- hf];exact hk) (fun e=>hjk (by
    simp only[f]at e;split at e<;>split at e<;>omega)),fun j n s hj=>V.lv (f j) n s (by rw[<- hf];exact hj)⟩
end Go.Am
namespace Go.Am
open Go Go.Proofs
theorem Jd {c:Code}(hc:kR c){s:Nat}(hs:s<c.b.length){h:Heap}{L:List (Nat×Slot)}(V0:Vs h L){KH:D->Heap->Prop}
    (hK:∀(h':Heap) (n5 n9:Nat) (ks nx:List Nat),Vs h' ((n9,.map (.int .i64) (pk nx))::(n5,.map (.int .i64) (pk ks))::L)->ks.Nodup->(∀k,k∈ks↔Path (qT c) s k) ->
      nx.Nodup->(∀b,b∈nx ↔ ∃a,Path (qT c) s a/\b∈kh c a)->KH (.tup [.mp n5,.mp n9]) h'):ae PP et [c.e,nD s] h KH:=by
  have hnb:=hc.nb
  refine bZ vO (an _ _ _) rfl (vz _ _ _) ?_
  unfold sU
  refine V0.box c.qW.one fun n3 h4 V1=>?_
  refine V1.v8 fun n5 h6 V2=>?_
  have V2':Vs h6 ((n5,.map (.int .i64) (pk []))::(n3,.box c.e)::L):=V2
  refine V2'.mset 0 (k:=s) rfl fun h8 V3=>?_
  refine V3.v8 fun n9 h10 V4=>?_
  replace V4:Vs h10 ((n9,.map (.int .i64) (pk []))::(n5,.map (.int .i64) (pk [s]))::(n3,.box c.e)::L):=V4
  generalize hN:c.b.length=N at *
  refine QV.one (k:=s) V4 fun v h12 q0=>?_
  let L3:List Nat->List Nat->Nat->List (Nat×Slot):=fun nx ks _=>(n9,.map (.int .i64) (pk nx))::(n5,.map (.int .i64) (pk ks))::(n3,.box c.e)::L
  refine⟨fun _ h=>∃ks nx,Vs h (L3 nx ks 0)/\B3 (qT c) N s (dE ks) []/\ks.Nodup/\Km (kh c) (dE ks) [] nx,?_,?_⟩
  · rintro f h' ⟨ks,nx,V,hsr,hnd,hnx⟩
    refine hK h' n5 n9 ks nx (V.erase 2) hnd (fun k=>by rw[<- hsr.fin,oc]) hnx.nd fun b=>⟨fun hb=>?_,fun ⟨a,ha,hab⟩=>hnx.done a b ((hsr.fin a).2 ha) (by simp) hab⟩
    obtain⟨a,ha,hab⟩:=hnx.ok b hb
    exact⟨a,(hsr.fin a).1 ha,hab⟩
  unfold mU
  refine⟨fun m l h=>∃(ks nx T:List Nat) (v:D),l=[v]/\QV h (L3 nx ks 0) v T/\B3 (qT c) N s (dE ks) T/\ks.Nodup/\Km (kh c) (dE ks) T nx/\m=2*yb (dE ks) N+T.length/\m<=1000,_,
    ⟨[s],[],[s],v,rfl,q0,?_,by simp,?_,rfl,by have:=Ba (dE [s]) N;simp only[List.length_singleton];omega⟩,?_⟩
  · have hb:∀k,dE [s] k=true->k=s:=fun k hk=>by rw[oc]at hk;simpa using hk
    have h0:dE [s] s=true:=by rw[oc];simp
    exact⟨h0,fun k hk=>by rw[hb k hk];exact hs,fun k hk=>by simp at hk;subst hk;exact h0,fun k hk=>by rw[hb k hk];exact .refl,fun a b ha hn _=>absurd (by simp[hb a ha]) hn⟩
  · have hb:∀k,dE [s] k=true->k=s:=fun k hk=>by rw[oc]at hk;simpa using hk
    exact⟨by simp,fun b hb=>(by cases hb),fun a b ha hn _=>absurd (by simp[hb a ha]) hn⟩
  rintro m f h1 ⟨ks,nx,T,v,hl,q,hs',hnd,hx,hm,hmb⟩
  simp only[List.cons.injEq,and_true]at hl
  simp only[hl,q.len,pV]
  cases T with
  | nil =>
    simp only[List.length_nil,show((0:Nat):Int)=0 from rfl,Int.lt_irrefl,decide_false,↓aF,aq,true_and]
    exact⟨ks,nx,q.vs,hs',hnd,hx⟩
  | cons a T' =>
    have hTl:0<(a::T').length:=by simp
    simp only[show((0:Int)<((a::T').length:Int))=True from eq_true (by omega),decide_true,↓aI]
    have haN:=hs'.lt a (hs'.td a (by simp))
    have hB:c.b[a]?=some c.b[a]:=List.getElem?_eq_getElem (by omega)
    generalize c.b[a]=B at hB
    have hTm:=hc.t B (List.mem_of_getElem? hB)
    have V:=q.vs
    simp only[↓V.xk 2 rfl,Nat.zero_add,↓V.Bz 2 (j:=7) rfl rfl]
    refine q.IU (i:=0) (k:=a) rfl ?_
    simp only[nD,↓CZ hB,↓Kd,↓CY]
    refine q.alloc fun n29 h30 q1=>?_
    refine q1.Hq 0 (cs':=B.t.cs) rfl rfl rfl (fun y hy=>by simp[Term.cs]at hy;rcases hy with rfl|rfl|rfl|rfl|rfl|rfl|rfl|rfl|rfl|rfl|rfl|rfl|rfl<;>rfl) fun h32 q2=>?_
    refine q2.pB (lo:=some 1) (hi:=none) (a:=1) (b:=(a::T').length) rfl rfl (by simp) (Nat.le_refl _) (by simp) fun v' q'=>?_
    have e1:((a::T').drop 1).take ((a::T').length-1)=T':=by simp
    rw[e1]at q'
    replace q':QV h32 ((n29,.box B.t.e)::L3 nx ks 0) v' T':=q'
    have V':=q'.vs
    rw[V'.Ad 0 (s:=13) (cs:=B.t.cs) rfl rfl]
    refine ig (I0 hTm) (fun d hd=>by simp at hd;subst hd;exact B.t.qW.pair) ?_
    rintro _ rfl
    rw[Cy]
    have hsi:jW (qT c) N s (dE ks) T' a 0:=hs'.pop (by simp) (fun k hk=>by simp[hk]) (fun k hk=>by simpa using hk)
    have hxi:q9 (kh c) (dE ks) T' nx a 0:=hx.pop (hs'.td a (by simp)) (fun k hk=>by simpa using hk)
    have hmT:2*yb (dE ks) N+T'.length<m:=by rw[hm];simp
    unfold mV
    refine⟨fun k l h=>∃(i:Nat) (ks nx T:List Nat) (v:D),l=[v,.int .i64 (i:Int)]/\i<=(ca B.t).length/\k=(ca B.t).length-i/\QV h ((n29,.box B.t.e)::L3 nx ks 0) v T/\jW (qT c) N s (dE ks) T a i/\ks.Nodup/\q9 (kh c) (dE ks) T nx a i/\2*yb (dE ks) N+T.length<m,_,
      ⟨0,ks,nx,T',v',rfl,by omega,rfl,q',hsi,hnd,hxi,hmT⟩,?_⟩
    clear hmT hsi hxi q' hm hs' q q1 q2 hnd hx V V'
    rintro k f2 h2 ⟨i,ks,nx,T,v,hl2,hi,hk,q,hs,hnd,hx,hm⟩
    simp only[List.cons.injEq,and_true]at hl2
    obtain⟨e6,e32⟩:=hl2
    rw[e6,e32,mI]
    have hEl:(ca B.t).length<=2:=by unfold ca;split<;>(try split)<;>simp
    by_cases hlt:i<(ca B.t).length
    · simp only[show((i:Int)<((ca B.t).length:Int))=True from eq_true (by omega),decide_true,↓aI]
      refine⟨fun l h=>∃(ks nx T:List Nat) (v:D),l=[v]/\QV h ((n29,.box B.t.e)::L3 nx ks 0) v T/\jW (qT c) N s (dE ks) T a (i+1)/\ks.Nodup/\q9 (kh c) (dE ks) T nx a (i+1)/\2*yb (dE ks) N+T.length<m,?_,?_⟩
      · rintro f3 h3 ⟨ks,nx,T,v,hl3,g1,g2,g3,g4,g5⟩
        simp only[List.cons.injEq,and_true]at hl3
        rw[hl3,AX (by omega) (by omega)]
        simp only[aq,true_and]
        exact⟨_,by omega,i+1,ks,nx,T,v,by simp,by omega,rfl,g1,g2,g3,g4,g5⟩
      have hb:(ca B.t)[i]?=some (ca B.t)[i]:=List.getElem?_eq_getElem hlt
      generalize (ca B.t)[i]=b at hb
      have hbN:b<N:=by rw[<- hN];exact hTm.succ b (List.mem_of_getElem? hb)
      have V:=q.vs
      refine Kt hb ?_
      simp only[↓V.fa 0 rfl,Nat.zero_add,↓V.tR 0 (j:=0) (cs:=B.t.cs) rfl rfl,dW]
      by_cases h3:B.t.kind=3
      · have ein:qT c a=[]:=by rw[Bp hB,if_pos h3]
        have eout:kh c a=ca B.t:=by rw[yV hB,if_pos h3]
        simp only[h3,decide_true,↓aI]
        refine q.mset 1 (k:=b) rfl fun h5 q5=>?_
        simp only[aq,true_and]
        exact⟨ks,xw nx b,T,v,rfl,q5,hs.skip ein,hnd,hx.add (by rw[eout];exact hb),hm⟩
      · have ein:qT c a=ca B.t:=by rw[Bp hB,if_neg h3]
        have eout:kh c a=[]:=by rw[yV hB,if_neg h3]
        simp only[h3,decide_false,↓aF]
        refine V.mget 2 (k:=b) rfl ?_
        by_cases hbk:b∈ks
        · simp only[hbk,decide_true,↓Gu,↓aF,aq,true_and]
          exact⟨ks,nx,T,v,rfl,q,hs.Dw (by rw[ein];exact hb) (oc.2 hbk),hnd,hx.skip eout,hm⟩
        · simp only[hbk,decide_false,↓Gv,↓aI]
          have hbS:dE ks b=false:=by simp[dE,hbk]
          have hsn:=hs.new (p':=dE (xw ks b)) (by rw[ein];exact hb) hbN fun k=>pc
          have hun:yb (dE (xw ks b)) N+1<=yb (dE ks) N:=vU (x:=b) (fun k hk=>by rw[pc,hk];simp) hbN hbS (by rw[pc];simp)
          refine q.mset 2 (k:=b) rfl fun h5 q5=>?_
          replace q5:QV h5 ((n29,.box B.t.e)::L3 nx (xw ks b) 0) v T:=q5
          refine q5.push (k:=b) (by omega) (by omega) fun v6 h6 q6=>?_
          simp only[aq,true_and]
          exact⟨xw ks b,nx,T++[b],v6,rfl,q6,hsn,C7 hnd,(hx.skip eout).grow (fun k=>pc),by rw[List.length_append,List.length_singleton];omega⟩
    · simp only[show((i:Int)<((ca B.t).length:Int))=False from eq_false (by omega),decide_false,↓aF,aq,true_and]
      refine⟨_,hm,ks,nx,T,v,rfl,q.less,hs.end ?_,hnd,hx.end ?_,rfl,by omega⟩
      · rw[Bp hB];split
        · simp
        · omega
      · rw[yV hB];split
        · omega
        · simp
end Go.Am
namespace Go.Am
open Go Go.Proofs
theorem Vs.iff {h:Heap}{L:List (Nat×Slot)}:Vs h L↔(∀n s,(n,s)∈L->h n=s/\s≠.free)/\(L.map Prod.fst).Nodup:=by
  constructor
  · intro V
    refine⟨fun n s hm=>?_,?_⟩
    · obtain⟨i,hi⟩:=List.getElem?_of_mem hm
      exact⟨V.get i n s hi,V.lv i n s hi⟩
    · rw[List.nodup_iff_pairwise_ne,List.pairwise_map,List.pairwise_iff_getElem]
      intro i j hi hj hij
      exact V.ne i j _ _ L[i].2 L[j].2 (List.getElem?_eq_getElem hi) (List.getElem?_eq_getElem hj) (by omega)
  · rintro⟨h1,h2⟩
    refine⟨fun i n s hi=>(h1 n s (List.mem_of_getElem? hi)).1,fun i j n m s s' hi hj hij=>?_,fun i n s hi=>(h1 n s (List.mem_of_getElem? hi)).2⟩
    obtain⟨hli,ei⟩:=List.getElem?_eq_some_iff.1 hi
    obtain⟨hlj,ej⟩:=List.getElem?_eq_some_iff.1 hj
    rw[List.nodup_iff_pairwise_ne,List.pairwise_map,List.pairwise_iff_getElem]at h2
    rcases Nat.lt_or_gt_of_ne hij with hlt|hgt
    · have:=h2 i j hli hlj hlt;rw[ei,ej]at this;exact this
    · have:=h2 j i hlj hli hgt;rw[ei,ej]at this;exact fun e=>this e.symm
theorem Vs.perm {h:Heap}{L L':List (Nat×Slot)}(p:L.Perm L') (V:Vs h L):Vs h L':=by
  rw[Vs.iff]at V ⊢
  exact⟨fun n s hm=>V.1 n s (p.mem_iff.2 hm),(p.map _).nodup_iff.1 V.2⟩
theorem QV.lift {h:Heap}{L:List (Nat×Slot)}{v:D}{T:List Nat}(q:QV h L v T):∃Lq,Vs h Lq/\∀(h':Heap) (X:List (Nat×Slot)),Vs h' (X++Lq)->QV h' (X++L) v T:=by
  rcases q with⟨rfl,rfl,V⟩|⟨m,off,els,rfl,V,h1,h2,h3⟩
  · exact⟨L,V,fun h' X V'=>Or.inl ⟨rfl,rfl,V'⟩⟩
  · exact⟨_,V,fun h' X V'=>Or.inr ⟨m,off,els,rfl,V'.perm List.perm_middle,h1,h2,h3⟩⟩
def QD (h:Heap) (L:List (Nat×Slot)) (v:D) (T:List D):Prop :=
  (v=.nil/\T=[]/\Vs h L)\/∃m,v=.ms m 0 T.length/\Vs h ((m,.arr 1 T)::L)
theorem QD.vs {h:Heap}{L:List (Nat×Slot)}{v:D}{T:List D}(q:QD h L v T):Vs h L:=by
  rcases q with⟨-,-,V⟩|⟨m,-,V⟩
  · exact V
  · exact V.pop
theorem QD.cr {h:Heap}{L:List (Nat×Slot)}{v:D}{T:List D}(q:QD h L v T) (i:Nat){n:Nat}{s s':Slot}(hi:L[i]?=some (n,s)) (hs:s'≠.free):QD (ak h n s') (L.set i (n,s')) v T:=by
  rcases q with⟨rfl,rfl,V⟩|⟨m,rfl,V⟩
  · exact Or.inl ⟨rfl,rfl,V.cr i hi hs⟩
  · exact Or.inr ⟨m,rfl,by have:=V.cr (i+1) (n:=n) (s:=s) (by simpa using hi) hs;simpa using this⟩
theorem QD.push {h:Heap}{L:List (Nat×Slot)}{v d:D}{T:List D}(q:QD h L v T){z z':D}{bytes:Nat}{KH:D->Heap->Prop}(hd:vR d) (h1:d.one=true) (hb:(T.length+1)*bytes<=140737488355328) (hl:T.length+1<=9223372036854775807)
    (hK:∀v h',QD h' L v (T++[d])->KH v h'):aa PP (.bldS true 1 1 z [(0,.c d)]) h fun x h1=>aa PP (.app (.c v) (.c x) 1 bytes z') h1 KH:=by
  have hc:d.cells.length=1:=by cases d<;>first|rfl|cases h1
  have hlen:T.length+1=(T++[d]).length:=by simp
  rcases q with⟨rfl,rfl,V⟩|⟨m,rfl,V⟩
  · refine y7 (els:=[]) (Or.inl ⟨rfl,rfl⟩) hd hc hb hl fun m h' hm hm' hk=>hK _ _ (Or.inr ⟨m,rfl,?_⟩)
    have Vk:=V.CG (h':=h') fun k s ⟨i,hi⟩=>hk k (fun e=>by subst e;exact V.lv i k s hi ((V.get i k s hi).symm.trans hm)) (by simp[D.iP]) (by rw[V.get i k s hi];exact V.lv i k s hi)
    rw[Vs.iff]at Vk ⊢
    refine⟨fun k s hs=>?_,?_⟩
    · rcases List.mem_cons.1 hs with e|hs
      · cases e;exact⟨hm',by simp⟩
      · exact Vk.1 k s hs
    · rw[List.map_cons,List.nodup_cons]
      refine⟨fun hmm=>?_,Vk.2⟩
      obtain⟨⟨k,s⟩,hks,rfl⟩:=List.mem_map.1 hmm
      obtain⟨i,hi⟩:=List.getElem?_of_mem hks
      exact V.lv i _ _ hi ((V.get i _ _ hi).symm.trans hm)
  · refine y7 (els:=T) (Or.inr ⟨m,rfl,V.get 0 _ _ rfl⟩) hd hc hb hl fun m' h' hm hm' hk=>hK _ _ (Or.inr ⟨m',by rw[hlen],?_⟩)
    have V1:=V.pop
    have Vk:=V1.CG (h':=h') fun k s ⟨i,hi⟩=>hk k (fun e=>by subst e;exact V1.lv i k s hi ((V1.get i k s hi).symm.trans hm)) (fun e=>by
      simp[D.iP]at e
      exact V.ne (i+1) 0 k m s _ (by simpa using hi) rfl (by omega) e) (by rw[V1.get i k s hi];exact V1.lv i k s hi)
    rw[Vs.iff]at Vk ⊢
    refine⟨fun k s hs=>?_,?_⟩
    · rcases List.mem_cons.1 hs with e|hs
      · cases e;exact⟨hm',by simp⟩
      · exact Vk.1 k s hs
    · rw[List.map_cons,List.nodup_cons]
      refine⟨fun hmm=>?_,Vk.2⟩
      obtain⟨⟨k,s⟩,hks,rfl⟩:=List.mem_map.1 hmm
      obtain⟨i,hi⟩:=List.getElem?_of_mem hks
      exact V1.lv i _ _ hi ((V1.get i _ _ hi).symm.trans hm)
noncomputable def FT (N:Nat) (p:Nat->Prop):List Nat:=(List.range N).filter fun k=>@decide (p k) (Classical.propDecidable _)
theorem dQ {N:Nat}{p:Nat->Prop}{k:Nat}:k∈FT N p↔k<N/\p k:=by simp[FT]
theorem y4 {N:Nat}{p:Nat->Prop}:(FT N p).Pairwise (· < ·):=List.Pairwise.filter _ List.pairwise_lt_range
theorem pd {N:Nat}{p:Nat->Prop}:(FT N p).length<=N:=by
  have:=List.length_filter_le (fun k=>@decide (p k) (Classical.propDecidable _)) (List.range N)
  simpa[FT] using this
inductive St (c:Code):Nat->Prop
  | zero:St c 0
  | step {s a t:Nat}(h:St c s) (ha:Path (qT c) s a) (ht:t∈kh c a):St c t
noncomputable def rl (c:Code) (s:Nat):List Nat:=FT c.b.length (Path (qT c) s)
noncomputable def Hw (c:Code) (s:Nat):List Nat:=FT c.b.length fun b=>∃a,Path (qT c) s a/\b∈kh c a
noncomputable def jG (c:Code):List Nat:=FT c.b.length (St c)
noncomputable def D8 (c:Code):D:=.agg [.sl (dg (jG c)),.sl ((jG c).map fun s=>.sl (dg (rl c s)))]
theorem vZ {c:Code}(hc:kR c){s a:Nat}(hs:s<c.b.length) (h:Path (qT c) s a):a<c.b.length:=by
  induction h with
  | refl=>exact hs
  | step _ hb _=>exact xj hc (GH hb)
theorem St.lt {c:Code}(hc:kR c){s:Nat}(h:St c s):s<c.b.length:=by
  cases h with
  | zero=>exact hc.nb.1
  | step _ _ ht=>exact xj hc (sg ht)
theorem Ae {ks l:List Nat}{N:Nat}(hN:N<=1000) (hlt:∀k∈ks,k<N) (hnd:ks.Nodup) (hl:l.Pairwise (· < ·)) (hm:∀k,k∈l↔k∈ks) (hlen:ks.length<=1000000):zr (pk ks) l:=by
  refine⟨fun p hp=>?_,by simpa[pk] using hlen,hl,fun k=>?_⟩
  · simp only[pk,List.mem_map]at hp
    obtain⟨k,hk,rfl⟩:=hp
    exact⟨k,by have:=hlt k hk;omega,rfl⟩
  · rw[hm]
    constructor
    · intro hk;exact⟨(nD k,.bool true),by simp only[pk,List.mem_map];exact⟨k,hk,rfl⟩,rfl⟩
    · rintro⟨p,hp,hpk⟩
      simp only[pk,List.mem_map]at hp
      obtain⟨k',hk',rfl⟩:=hp
      simp only[nD,D.int.injEq,true_and]at hpk
      have:k'=k:=by omega
      exact this ▸ hk'
theorem tH {N:Nat}:∀{ks:List Nat},(∀k∈ks,k<N)->ks.Nodup->ks.length<=N:=by
  intro ks h1 h2
  have hp:ks.Perm ((List.range N).filter fun k=>decide (k∈ks)):=(List.perm_ext_iff_of_nodup h2 (List.Pairwise.filter _ List.nodup_range)).2 fun k=>by
    simp only[List.mem_filter,List.mem_range,decide_eq_true_eq]
    exact⟨fun hk=>⟨h1 k hk,hk⟩,fun hk=>hk.2⟩
  rw[hp.length_eq]
  have:=List.length_filter_le (fun k=>decide (k∈ks)) (List.range N)
  simpa using this
end Go.Am
namespace Go.Am
open Go Go.Proofs
noncomputable def oo (c:Code) (ss:List Nat):List (D×D):=ss.map fun s=>(nD s,.sl (dg (rl c s)))
theorem yi {c:Code}{k:Nat}:∀{ss:List Nat},mget (oo c ss) (nD k)=if k∈ss then some (.sl (dg (rl c k))) else none
  | []=>by simp[oo,mget]
  | a::r=>by
    have ih:=yi (c:=c) (k:=k) (ss:=r)
    simp only[oo,List.map_cons,mget,pe,decide_eq_true_eq]at ih ⊢
    by_cases h:k=a
    · subst h;simp
    · rw[if_neg h,ih];simp[h]
theorem yh {c:Code}{k:Nat}:∀{ss:List Nat},k∉ss->mset (oo c ss) (nD k) (.sl (dg (rl c k)))=oo c (ss++[k])
  | [],_=>by simp[oo,mset]
  | a::r,h=>by
    simp only[List.mem_cons,not_or]at h
    have ih:=yh (c:=c) (k:=k) (ss:=r) h.2
    simp only[oo,List.map_cons,List.cons_append,mset,pe,decide_eq_true_eq]at ih ⊢
    rw[if_neg h.1,ih]
theorem C8 {h:Heap}{L:List (Nat×Slot)}(V:Vs h L){m:Nat}{KH:D->Heap->Prop}(hK:∀k h',Vs h' ((k,.box (.mp m))::L)->KH (.fn 66 [] [.ptr k 0 0]) h'):ae PP aB [.mp m] h KH:=by
  refine bZ fh (an _ _ _) rfl (eX _ _) ?_
  unfold cA
  exact V.box (fun x hx=>by simp[D.cells]at hx;subst hx;rfl) fun k h' V'=>hK k h' V'
theorem Hi {h:Heap}{L:List (Nat×Slot)}(V:Vs h L){m:Nat}{KH:D->Heap->Prop}(hK:∀k h',Vs h' ((k,.box (.mp m))::L)->KH (.fn 67 [] [.ptr k 0 0]) h'):ae PP aM [.mp m] h KH:=by
  refine bZ fg (an _ _ _) rfl (eW _ _) ?_
  unfold cy
  exact V.box (fun x hx=>by simp[D.cells]at hx;subst hx;rfl) fun k h' V'=>hK k h' V'
theorem Hy {P:Program}{h:Heap}{L:List (Nat×Slot)}(V:Vs h L) (i:Nat){c:Code}{n k:Nat}{ss:List Nat}{KH:D->Heap->Prop}(hi:L[i]?=some (n,.map (.int .i64) (oo c ss)))
    (hK:KH (if k∈ss then .sl (dg (rl c k)) else .nil) h):aa P (.look (.int .i64) (.c (.mp n)) (.c (nD k)) .nil false) h KH:=by
  refine⟨rfl,?_⟩
  have hn:=V.get i _ _ hi
  simp only[Arg.get,hn]
  refine⟨trivial,?_⟩
  rw[yi]
  by_cases hk:k∈ss<;>simpa[hk] using hK
noncomputable abbrev FL (c:Code) (ss:List Nat) (nl n4 n2:Nat):List (Nat×Slot):=[(nl,.map (.int .i64) (oo c ss)),(n4,.box (.agg [.nil,.nil])),(n2,.box c.e)]
theorem Fi {c:Code}(hc:kR c){h:Heap}{n2 n4 nl x:Nat}{dx:D}(hdx:dx=nD x){ss T:List Nat}{v:D}{J:List D->Heap->Prop}(q:QV h (FL c ss nl n4 n2) v T) (hx:x<c.b.length) (hT:T.length<=1000)
    (hJ:∀v' h' ss' T',QV h' (FL c ss' nl n4 n2) v' T'->((x∈ss/\ss'=ss/\T'=T)\/(x∉ss/\ss'=ss++[x]/\T'=T++Hw c x))->J [v'] h') :
    aa PP (.look (.int .i64) (.c (.mp nl)) (.c dx) .nil false) h fun a67 h68 =>
    aa PP (.nilq false (.c a67)) h68 fun a69 h70 =>
    vcond a69 (aa PP (.ld (.c (.ptr n2 0 0)) 8 true) h70 fun a71 h72 =>
    ae PP et [a71,dx] h72 fun a73 h74 =>
    aa PP (.ext (.c a73) 0) h74 fun a75 h76 =>
    aa PP (.ext (.c a73) 1) h76 fun a77 h78 =>
    ae PP aB [a75] h78 fun a79 h80 =>
    ae PP aR [a79] h80 fun a81 h82 =>
    aa PP (.mupd (.int .i64) (.c (.mp nl)) (.c dx) (.c a81)) h82 fun a83 h84 =>
    ae PP aB [a77] h84 fun a85 h86 =>
    ae PP aR [a85] h86 fun a87 h88 =>
    aa PP (.app (.c v) (.c a87) 1 8 (.int .i64 0)) h88 fun a89 h90 =>
    bw [.ptr n2 0 0,.ptr n4 0 0,.mp nl] [.ptr n2 0 0,.ptr n4 0 0,.mp nl]/\J [a89] h90) (
    bw [.ptr n2 0 0,.ptr n4 0 0,.mp nl] [.ptr n2 0 0,.ptr n4 0 0,.mp nl]/\J [v] h70):=by
  subst hdx
  have hnb:=hc.nb
  refine Hy q.vs 0 rfl ?_
  by_cases hxs:x∈ss
  · rw[if_pos hxs]
    have hne:rl c x≠[]:=fun e=>by
      have:x∈rl c x:=dQ.2 ⟨hx,.refl⟩
      rw[e]at this;cases this
    obtain⟨y,r,hyr⟩:=List.exists_cons_of_ne_nil hne
    rw[hyr]
    show vcond (.bool false) _ _
    rw[aF]
    simp only[aq,true_and]
    exact hJ _ _ _ _ q (Or.inl ⟨hxs,rfl,rfl⟩)
  · rw[if_neg hxs]
    show vcond (.bool true) _ _
    rw[aI,q.vs.Ad 2 (s:=8) rfl rfl]
    obtain⟨Lq,V0,back⟩:=q.lift
    refine Jd hc hx V0 fun h1 n5 n9 ks nx V1 k1 k2 x1 x2=>?_
    rw[GQ,GP]
    have klt:∀k∈ks,k<c.b.length:=fun k hk=>vZ hc hx ((k2 k).1 hk)
    have xlt:∀k∈nx,k<c.b.length:=fun k hk=>by
      obtain⟨a,-,ha⟩:=(x2 k).1 hk
      exact xj hc (sg ha)
    refine C8 V1 fun nk h2 V2=>?_
    refine mq E5 (V2.get 0 _ _ rfl) (V2.get 2 _ _ rfl) (Ae (N:=c.b.length) (l:=rl c x) (by omega) klt k1 y4 (fun k=>by rw[k2];unfold rl;rw[dQ];exact⟨fun hh=>hh.2,fun hh=>⟨vZ hc hx hh,hh⟩⟩) (by have:=tH klt k1;omega)) ?_
    have q2:QV h2 ((nk,.box (.mp n5))::(n9,.map (.int .i64) (pk nx))::(n5,.map (.int .i64) (pk ks))::FL c ss nl n4 n2) v T:=back h2 [_,_,_] V2
    refine⟨rfl,rfl,?_⟩
    have hnl:=q2.vs.get 3 _ _ rfl
    simp only[Arg.get,hnl]
    refine⟨trivial,?_⟩
    rw[show(D.sl (nL (rl c x)))=.sl (dg (rl c x)) from rfl,yh hxs]
    have q3:=q2.cr 3 (s':=.map (.int .i64) (oo c (ss++[x]))) rfl (by simp)
    replace q3:QV (ak h2 nl (.map (.int .i64) (oo c (ss++[x])))) ((nk,.box (.mp n5))::(n9,.map (.int .i64) (pk nx))::(n5,.map (.int .i64) (pk ks))::FL c (ss++[x]) nl n4 n2) v T:=q3
    generalize ak h2 nl (.map (.int .i64) (oo c (ss++[x])))=h3 at q3
    obtain⟨Lq3,V3,back3⟩:=q3.lift
    refine C8 V3 fun nk2 h4 V4=>?_
    have q4:QV h4 ((nk2,.box (.mp n9))::(nk,.box (.mp n5))::(n9,.map (.int .i64) (pk nx))::(n5,.map (.int .i64) (pk ks))::FL c (ss++[x]) nl n4 n2) v T:=back3 h4 [_] V4
    have V5:=q4.vs
    refine mq E5 (V5.get 0 _ _ rfl) (V5.get 2 _ _ rfl) (Ae (N:=c.b.length) (l:=Hw c x) (by omega) xlt x1 y4 (fun k=>by
      rw[x2];unfold Hw;rw[dQ]
      exact⟨fun hh=>hh.2,fun hh=>⟨by obtain⟨a,-,ha⟩:=hh;exact xj hc (sg ha),hh⟩⟩) (by have:=tH xlt x1;omega)) ?_
    have hnl2:(Hw c x).length<=c.b.length:=pd
    refine q4.app (ks:=Hw c x) (fun hk=>HT hk) (by omega) (by omega) fun v6 h6 q6=>?_
    simp only[aq,true_and]
    exact hJ _ _ _ _ q6.less.less.less.less (Or.inr ⟨hxs,rfl,rfl⟩)
end Go.Am
namespace Go.Am
open Go Go.Proofs
theorem Kn {h:Heap}{a b c d:D}{f:Nat->D}{J:List D->Heap->Prop}:mW h a b c f d J=dH h a b c (f 3) d J:=rfl
theorem DB {c:Code}{ss l:List Nat}{N:Nat}(hN:N<=1000) (hlt:∀k∈ss,k<N) (hnd:ss.Nodup) (hl:l.Pairwise (· < ·)) (hm:∀k,k∈l↔k∈ss):zr (oo c ss) l:=by
  refine⟨fun p hp=>?_,by have:=tH hlt hnd;simp[oo];omega,hl,fun k=>?_⟩
  · simp only[oo,List.mem_map]at hp
    obtain⟨k,hk,rfl⟩:=hp
    exact⟨k,by have:=hlt k hk;omega,rfl⟩
  · rw[hm]
    constructor
    · intro hk;exact⟨(nD k,.sl (dg (rl c k))),by simp only[oo,List.mem_map];exact⟨k,hk,rfl⟩,rfl⟩
    · rintro⟨p,hp,hpk⟩
      simp only[oo,List.mem_map]at hp
      obtain⟨k',hk',rfl⟩:=hp
      simp only[nD,D.int.injEq,true_and]at hpk
      have:k'=k:=by omega
      exact this ▸ hk'
noncomputable def Be (c:Code) (l:List Nat):List D:=l.map fun s=>.sl (dg (rl c s))
theorem IP {c:Code}(hc:kR c){h:Heap}{n2 n4 nl n26:Nat}{ss:List Nat}{L':List (Nat×Slot)}(hss:∀k,k∈ss↔St c k){J:List D->Heap->Prop}
    (V:Vs h ((n26,.box (.agg [.sl (dg (jG c)),.nil]))::FL c ss nl n4 n2))
    (hJ:∀h' v,QD h' ((n26,.box (.agg [.sl (dg (jG c)),v]))::FL c ss nl n4 n2) v (Be c (jG c))->J [] h') :
    dH h (.int .i64 ((jG c).length:Int)) (.sl (dg (jG c))) (.ptr n26 0 0) (.mp nl) (.ptr n4 0 0) J:=by
  have hnb:=hc.nb
  have hsl:(jG c).length<=c.b.length:=pd
  unfold dH
  refine⟨fun m l h=>∃(i:Nat) (v:D),i<=(jG c).length/\m=(jG c).length-i/\l=[.int .i64 (i:Int)]/\QD h ((n26,.box (.agg [.sl (dg (jG c)),v]))::FL c ss nl n4 n2) v (Be c ((jG c).take i)),_,
    ⟨0,.nil,by omega,rfl,rfl,Or.inl ⟨rfl,by simp[Be],V⟩⟩,?_⟩
  rintro m f h1 ⟨i,v,hi,hm,hl,q⟩
  simp only[List.cons.injEq,and_true]at hl
  rw[hl,mI]
  by_cases hlt:i<(jG c).length
  · have hk:(jG c)[i]?=some (jG c)[i]:=List.getElem?_eq_getElem hlt
    generalize (jG c)[i]=k at hk
    have hks:k∈ss:=(hss k).2 (dQ.1 (List.mem_of_getElem? hk)).2
    simp only[show((i:Int)<((jG c).length:Int))=True from eq_true (by omega),decide_true,↓aI]
    refine Kt hk ?_
    have V1:=q.vs
    simp only[↓V1.fa 0 rfl,Nat.zero_add,↓V1.tR 0 (j:=1) rfl rfl]
    refine Hy V1 1 rfl ?_
    rw[if_pos hks]
    have hrl:(Be c ((jG c).take i)).length=i:=by simp[Be];omega
    refine q.push (d:=.sl (dg (rl c k))) Fq rfl (by rw[hrl];omega) (by rw[hrl];omega) fun v2 h2 q2=>?_
    have V2:=q2.vs
    simp only[↓V2.fa 0 rfl,Nat.zero_add]
    rw[ki,V2.get 0 _ _ rfl]
    have hv1:v2.one=true/\v2.cells=[v2]:=by
      rcases q2 with⟨rfl,-,-⟩|⟨m,rfl,-⟩<;>exact⟨rfl,rfl⟩
    refine⟨by rw[hv1.2];rfl,fun x hx=>by rw[hv1.2]at hx;simp at hx;subst hx;exact hv1.1,rfl,by simp,?_⟩
    have e:setCells (.agg [.sl (dg (jG c)),v]) 1 v2.cells=.agg [.sl (dg (jG c)),v2]:=by rw[hv1.2];rfl
    rw[e]
    have q3:=q2.cr 0 (s':=.box (.agg [.sl (dg (jG c)),v2])) rfl (by simp)
    rw[AX (by omega) (by omega)]
    simp only[aq,true_and]
    refine⟨_,by omega,i+1,v2,by omega,rfl,by simp,?_⟩
    have e2:Be c ((jG c).take (i+1))=Be c ((jG c).take i)++[.sl (dg (rl c k))]:=by rw[List.take_add_one,hk];simp[Be]
    rw[e2]
    exact q3
  · have:i=(jG c).length:=by omega
    subst this
    rw[List.take_length]at q
    simp only[show(((jG c).length:Int)<((jG c).length:Int))=False from eq_false (by omega),decide_false,↓aF,aq,true_and]
    exact hJ _ v q
theorem HF {c:Code}(hc:kR c){h:Heap}{n2 n4 nl:Nat}{ss:List Nat}(V:Vs h (FL c ss nl n4 n2)) (hnd:ss.Nodup) (hss:∀k,k∈ss↔St c k){K:D->Prop}(hK:K (D8 c)) :
    ae PP aM [.mp nl] h fun a20 h21 =>
    ae PP aR [a20] h21 fun a22 h23 =>
    aa PP (.bld [.nil,.nil] [(0,1,(.c a22))]) h23 fun a24 h25 =>
    aa PP (.alloc (.agg [.nil,.nil])) h25 fun a26 h27 =>
    aa PP (.st (.c a26) (.c a24) 2) h27 fun a28 h29 =>
    ∃(J30:List D->Heap->Prop),(∀(f31:Nat->D) (h32:Heap),J30 [] h32 ->
    aa PP (.ld (.c a26) 2 true) h32 fun a33 h34 =>
    aa PP (.st (.c (.ptr n4 0 0)) (.c a33) 2) h34 fun a35 h36 =>
    aa PP (.ld (.c (.ptr n4 0 0)) 2 true) h36 fun a37 _ =>
    tq K a37 h36) /\
    aa PP (.fadd (.c a26) 0) h29 fun a38 h39 =>
    aa PP (.ld (.c a38) 1 false) h39 fun a40 h41 =>
    cN a40 h41 fun a42 =>
    dH h41 a42 a40 a26 (.mp nl) (.ptr n4 0 0) J30:=by
  have hnb:=hc.nb
  refine Hi V fun nk h2 V2=>?_
  refine mq IB (V2.get 0 _ _ rfl) (V2.get 1 _ _ rfl) (DB (N:=c.b.length) (l:=jG c) (by omega) (fun k hk=>((hss k).1 hk).lt hc) hnd y4 (fun k=>by rw[hss];unfold jG;rw[dQ];exact⟨fun hh=>hh.2,fun hh=>⟨hh.lt hc,hh⟩⟩)) ?_
  rw[ou]
  refine⟨jQ rfl,?_⟩
  refine V2.pop.alloc fun n26 h3 V3=>?_
  refine V3.Hq (cs':=[.sl (dg (jG c)),.nil]) 0 rfl rfl rfl (fun y hy=>by simp at hy;rcases hy with rfl|rfl<;>rfl) fun h4 V4=>?_
  replace V4:Vs h4 ((n26,.box (.agg [.sl (dg (jG c)),.nil]))::FL c ss nl n4 n2):=V4
  refine⟨fun _ h'=>∃v,QD h' ((n26,.box (.agg [.sl (dg (jG c)),v]))::FL c ss nl n4 n2) v (Be c (jG c)),?_,?_⟩
  · rintro f h5 ⟨v,q⟩
    have V5:=q.vs
    rw[V5.Ad 0 (s:=2) rfl rfl]
    have hv1:v.one=true:=by
      rcases q with⟨rfl,-,-⟩|⟨m,rfl,-⟩<;>rfl
    rw[ki,V5.get 2 _ _ rfl]
    refine⟨rfl,fun x hx=>by simp[D.cells]at hx;rcases hx with rfl|rfl;rfl;exact hv1,rfl,by simp,?_⟩
    have e:setCells (.agg [.nil,.nil]) 0 (D.agg [.sl (dg (jG c)),v]).cells=.agg [.sl (dg (jG c)),v]:=rfl
    rw[e]
    have q6:=q.cr 2 (s':=.box (.agg [.sl (dg (jG c)),v])) rfl (by simp)
    generalize ak h5 n4 (.box (.agg [.sl (dg (jG c)),v]))=h6 at q6
    rw[q6.vs.Ad 2 (s:=2) rfl rfl]
    rcases q6 with⟨rfl,hnil,V6⟩|⟨m,rfl,V6⟩
    · exfalso
      have h0:0∈jG c:=dQ.2 ⟨hnb.1,.zero⟩
      have:jG c=[]:=by simpa[Be] using hnil
      rw[this]at h0;cases h0
    · have hrow:(h6 m).row=some (1,Be c (jG c)):=by rw[V6.get 0 _ _ rfl];rfl
      have ez:(D.agg [.sl (dg (jG c)),.ms m 0 (Be c (jG c)).length]).fzt h6=D8 c:=by
        simp[D.fzt,D.fz,D.fzc,hrow,D8,Be]
        exact List.take_of_length_le (by simp)
      refine⟨fun x hx=>by simp[D.cells]at hx;rcases hx with rfl|rfl<;>rfl,?_,by rw[ez];rfl,by rw[ez];exact hK⟩
      intro x hx
      simp only[D.cells,List.mem_cons,List.not_mem_nil,or_false]at hx
      rcases hx with rfl|rfl
      · trivial
      · refine⟨1,_,hrow,by omega,fun x hx y hy=>?_⟩
        have hx':x∈Be c (jG c):=by simpa using hx
        simp only[Be,List.mem_map]at hx'
        obtain⟨s,-,rfl⟩:=hx'
        simp[D.cells]at hy;subst hy;rfl
  simp only[↓V4.fa 0 rfl,Nat.zero_add,↓V4.tR 0 (j:=0) rfl rfl,Cy]
  exact IP hc (L':=[]) hss V4 fun h' v q=>⟨v,q⟩
end Go.Am
namespace Go.Am
open Go Go.Proofs
structure B5 (c:Code) (ss T:List Nat) (x:Nat):Prop where
  nd:ss.Nodup
  st:∀k∈ss,St c k
  td:∀k∈T,St c k
  cur:St c x
  zero:0∈ss\/x=0\/0∈T
  done:∀s a t,s∈ss->Path (qT c) s a->t∈kh c a->t∈ss\/t=x\/t∈T
structure qq (c:Code) (ss T:List Nat):Prop where
  nd:ss.Nodup
  st:∀k∈ss,St c k
  td:∀k∈T,St c k
  zero:0∈ss\/0∈T
  done:∀s a t,s∈ss->Path (qT c) s a->t∈kh c a->t∈ss\/t∈T
theorem B5.Dw {c:Code}{ss T:List Nat}{x:Nat}(h:B5 c ss T x) (hx:x∈ss):qq c ss T :=
  ⟨h.nd,h.st,h.td,by rcases h.zero with h0|h0|h0;exact Or.inl h0;exact Or.inl (h0 ▸ hx);exact Or.inr h0,fun s a t hs ha ht=>by
    rcases h.done s a t hs ha ht with h1|h1|h1
    · exact Or.inl h1
    · exact Or.inl (h1 ▸ hx)
    · exact Or.inr h1⟩
theorem B5.new {c:Code}(hc:kR c){ss T:List Nat}{x:Nat}(h:B5 c ss T x) (hx:x∉ss):qq c (ss++[x]) (T++Hw c x):=by
  refine⟨?_,fun k hk=>?_,fun k hk=>?_,?_,fun s a t hs ha ht=>?_⟩
  · exact List.nodup_append.2 ⟨h.nd,by simp,fun a ha b hb=>by simp at hb;subst hb;rintro rfl;exact hx ha⟩
  · rcases List.mem_append.1 hk with hk|hk
    · exact h.st k hk
    · simp at hk;subst hk;exact h.cur
  · rcases List.mem_append.1 hk with hk|hk
    · exact h.td k hk
    · obtain⟨-,a,ha,hb⟩:=dQ.1 hk
      exact .step h.cur ha hb
  · rcases h.zero with h0|h0|h0
    · exact Or.inl (by simp[h0])
    · exact Or.inl (by simp[h0])
    · exact Or.inr (by simp[h0])
  · rcases List.mem_append.1 hs with hs|hs
    · rcases h.done s a t hs ha ht with h1|h1|h1
      · exact Or.inl (by simp[h1])
      · exact Or.inl (by simp[h1])
      · exact Or.inr (by simp[h1])
    · simp at hs;subst hs
      exact Or.inr (List.mem_append_right _ (dQ.2 ⟨xj hc (sg ht),a,ha,ht⟩))
theorem qq.next {c:Code}{ss T:List Nat}{x:Nat}(h:qq c ss (x::T)):B5 c ss T x :=
  ⟨h.nd,h.st,fun k hk=>h.td k (by simp[hk]),h.td x (by simp),by
    rcases h.zero with h0|h0
    · exact Or.inl h0
    · exact Or.inr (by rcases List.mem_cons.1 h0 with e|e;exact Or.inl e.symm;exact Or.inr e),fun s a t hs ha ht=>by
    rcases h.done s a t hs ha ht with h1|h1
    · exact Or.inl h1
    · exact Or.inr (by rcases List.mem_cons.1 h1 with e|e;exact Or.inl e;exact Or.inr e)⟩
theorem qq.fin {c:Code}{ss:List Nat}(h:qq c ss []) (k:Nat):k∈ss↔St c k:=by
  refine⟨h.st k,fun hk=>?_⟩
  induction hk with
  | zero=>rcases h.zero with h0|h0;exact h0;cases h0
  | step _ ha ht ih=>rcases h.done _ _ _ ih ha ht with h1|h1;exact h1;cases h1
theorem zl {c:Code}(hc:kR c):aQ PP bD [c.e] (· = D8 c):=by
  have hnb:=hc.nb
  refine fZ vP (an _ _ _) rfl (vC _ _) ?_
  unfold sV
  refine Vs.nil.box c.qW.one fun n2 h3 V1=>?_
  refine V1.alloc fun n4 h5 V2=>?_
  let M:List Nat->List Nat->Nat:=fun ss T=>20*yb (dE ss) c.b.length+T.length
  refine⟨fun m l h=>∃(nl x:Nat) (ss T:List Nat) (v:D),l=[.mp nl,nD x,v]/\QV h (FL c ss nl n4 n2) v T/\B5 c ss T x/\m=M ss T/\m<=500,?_,?_⟩
  · refine V2.v8 fun nl h11 V3=>?_
    have q0:QV h11 (FL c [] nl n4 n2) .nil []:=QV.nil V3
    have f0:B5 c [] [] 0:=⟨by simp,fun k hk=>(by cases hk),fun k hk=>(by cases hk),.zero,Or.inr (Or.inl rfl),fun s a t hs=>(by cases hs)⟩
    refine⟨fun l h=>∃(ss T:List Nat) (v:D),l=[v]/\QV h (FL c ss nl n4 n2) v T/\qq c ss T/\M ss T<=480,?_,?_⟩
    · rintro f h ⟨ss,T,v,hl,q,fi,hM⟩
      simp only[List.cons.injEq,and_true]at hl
      simp only[hl,q.len,pV]
      cases T with
      | nil =>
        simp only[List.length_nil,show((0:Nat):Int)=0 from rfl,Int.lt_irrefl,decide_false,↓aF]
        exact HF hc q.vs fi.nd fi.fin rfl
      | cons x T' =>
        simp only[show((0:Int)<((x::T').length:Int))=True from eq_true (by simp only[List.length_cons];omega),decide_true,↓aI]
        refine q.IU (i:=0) (k:=x) rfl ?_
        refine q.Kb (lo:=some 1) (hi:=none) (a:=1) (b:=(x::T').length) rfl rfl (by simp) (Nat.le_refl _) (by simp) fun v' q'=>?_
        have e1:((x::T').drop 1).take ((x::T').length-1)=T':=by simp
        rw[e1]at q'
        simp only[aq,true_and]
        refine⟨_,nl,x,ss,T',v',rfl,q',fi.next,rfl,?_⟩
        have:M ss (x::T')=M ss T'+1:=by simp only[M,List.length_cons];omega
        omega
    · refine Fi hc (x:=0) (J:=fun l h=>∃(ss T:List Nat) (v:D),l=[v]/\QV h (FL c ss nl n4 n2) v T/\qq c ss T/\M ss T<=480) rfl q0 hnb.1 (by simp) fun v' h' ss' T' q' hh=>⟨ss',T',v',rfl,q',?_,?_⟩
      · rcases hh with⟨h0,-,-⟩|⟨h0,rfl,rfl⟩
        · cases h0
        · exact f0.new hc h0
      · rcases hh with⟨h0,-,-⟩|⟨h0,rfl,rfl⟩
        · cases h0
        · have hu:yb (dE ([]++[0])) c.b.length+1<=yb (dE []) c.b.length:=vU (x:=0) (fun k hk=>by simp[dE]at hk) hnb.1 rfl rfl
          have:=Ba (dE []) c.b.length
          have hn:(Hw c 0).length<=c.b.length:=pd
          simp only[M,List.nil_append]at hu ⊢
          omega
  · rintro m f h9 ⟨nl,x,ss,T,v,hl,q,fi,hm,hmb⟩
    simp only[List.cons.injEq,and_true]at hl
    obtain⟨e3,e4,e5⟩:=hl
    rw[e3,e4,e5]
    refine⟨fun l h=>∃(ss T:List Nat) (v:D),l=[v]/\QV h (FL c ss nl n4 n2) v T/\qq c ss T/\M ss T<=m,?_,?_⟩
    · rintro f' h ⟨ss,T,v,hl,q,fi,hM⟩
      simp only[List.cons.injEq,and_true]at hl
      simp only[hl,q.len,pV]
      cases T with
      | nil =>
        simp only[List.length_nil,show((0:Nat):Int)=0 from rfl,Int.lt_irrefl,decide_false,↓aF,Kn,e3]
        exact HF hc q.vs fi.nd fi.fin rfl
      | cons x T' =>
        simp only[show((0:Int)<((x::T').length:Int))=True from eq_true (by simp only[List.length_cons];omega),decide_true,↓aI]
        refine q.IU (i:=0) (k:=x) rfl ?_
        refine q.Kb (lo:=some 1) (hi:=none) (a:=1) (b:=(x::T').length) rfl rfl (by simp) (Nat.le_refl _) (by simp) fun v' q'=>?_
        have e1:((x::T').drop 1).take ((x::T').length-1)=T':=by simp
        rw[e1]at q'
        simp only[aq,true_and]
        have:M ss (x::T')=M ss T'+1:=by simp only[M,List.length_cons];omega
        exact⟨_,by omega,nl,x,ss,T',v',rfl,q',fi.next,rfl,by omega⟩
    · refine Fi hc (x:=x) (J:=fun l h=>∃(ss T:List Nat) (v:D),l=[v]/\QV h (FL c ss nl n4 n2) v T/\qq c ss T/\M ss T<=m) rfl q (fi.cur.lt hc) (by simp only[M]at hm;omega) fun v' h' ss' T' q' hh=>⟨ss',T',v',rfl,q',?_,?_⟩
      · rcases hh with⟨h0,rfl,rfl⟩|⟨h0,rfl,rfl⟩
        · exact fi.Dw h0
        · exact fi.new hc h0
      · rcases hh with⟨h0,rfl,rfl⟩|⟨h0,rfl,rfl⟩
        · omega
        · have hu:yb (dE (ss++[x])) c.b.length+1<=yb (dE ss) c.b.length:=vU (x:=x) (fun k hk=>by simp[dE]at hk ⊢;exact Or.inl hk) (fi.cur.lt hc) (by simp[dE,h0]) (by simp[dE])
          have hn:(Hw c x).length<=c.b.length:=pd
          simp only[M,List.length_append]at hm ⊢
          omega
end Go.Am
namespace Go.Am
open Go Go.Proofs
theorem GZ {l:List Nat}{k:Nat}(hl:l.length<=1000000):aQ PP bU [.sl (dg l),nD k] (fun r=>∃i:Int,r=.int .i64 i/\(0<=i↔k∈l)):=by
  refine fZ eh (an _ _ _) rfl (jS _ _ _) ?_
  unfold fQ
  refine⟨fun _ _=>k∉l,fun f h hk=>?_,?_⟩
  · rw[zA];exact⟨-1,rfl,by simp[hk]⟩
  rw[Cy]
  unfold ec
  refine⟨fun m q _=>∃i:Nat,i<=l.length/\m=l.length-i/\q=[.int .i64 (i:Int)]/\k∉l.take i,_,⟨0,by omega,rfl,rfl,by simp⟩,?_⟩
  rintro m f h ⟨i,hi,hm,hq,hn⟩
  simp only[List.cons.injEq,and_true]at hq
  rw[hq,mI]
  by_cases hlt:i<l.length
  · have hb:l[i]?=some l[i]:=List.getElem?_eq_getElem hlt
    generalize l[i]=b at hb
    simp only[show((i:Int)<(l.length:Int))=True from eq_true (by omega),decide_true,↓aI]
    refine Kt hb ?_
    simp only[nD,dW]
    by_cases he:k=b
    · subst he
      simp only[decide_true,↓aI]
      rw[zA]
      exact⟨i,rfl,by simp[List.mem_of_getElem? hb]⟩
    · simp only[show((k:Int)=(b:Int))=False from eq_false (by omega),decide_false,↓aF]
      rw[AX (by omega) (by omega)]
      simp only[aq,true_and]
      refine⟨_,by omega,i+1,by omega,rfl,by simp,?_⟩
      rw[List.take_add_one,hb]
      simp only[Option.toList_some,List.mem_append,List.mem_singleton,not_or]
      exact⟨hn,he⟩
  · have:i=l.length:=by omega
    subst this
    simp only[show((l.length:Int)<(l.length:Int))=False from eq_false (by omega),decide_false,↓aF,aq,true_and]
    rwa [List.take_length]at hn
theorem Bd {l:List Nat}:vR (.sl (dg l)):=Fq
theorem xo {l:List Nat}{k:Nat}(hl:l.length<=1000000):aQ PP aJ [.sl (dg l),nD k] (· = .bool (decide (k∈l))):=by
  refine fZ du (an _ _ _) rfl (iF _ _ _) ?_
  unfold eg
  refine ig (GZ hl) (fun d hd=>by simp at hd;rcases hd with rfl|rfl;exact Bd.pair;exact aX.pair) ?_
  rintro _ ⟨i,rfl,hi⟩
  rw[Ce,o8]
  congr 1
  exact decide_eq_decide.2 hi
theorem xy {α:Type}{ls:List α}{g:α->D}{cl:D}{p:α->Bool}{h:Heap}{KH:D->Heap->Prop}(hx:∀y,(g y).one=true) (hl:ls.length<=1000000)
    (hp:∀y∈ls,∀KH:D->Heap->Prop,KH (.bool (p y)) h->aa PP (.callv (.c cl) [.c (g y)]) h KH) (hK:KH (.bool (ls.any p)) h):ae PP aW [.sl (ls.map g),cl] h KH:=by
  refine bZ ck (an _ _ _) rfl (ft _ _ _) ?_
  unfold cL
  have key:∀KH:D->Heap->Prop,(∀i:Int,(0<=i↔ls.any p=true)->KH (.int .i64 i) h)->ae PP bm [.sl (ls.map g),cl] h KH:=by
    intro KH hk
    refine bZ cM (an _ _ _) rfl (gB _ _ _) ?_
    unfold dt
    refine⟨fun _ h'=>h'=h/\ls.any p=false,?_,?_⟩
    · rintro f _ ⟨rfl,hn⟩
      exact hk (-1) (by simp[hn])
    rw[wq,List.length_map]
    unfold cK
    refine⟨fun m q h'=>h'=h/\∃i:Nat,i<=ls.length/\m=ls.length-i/\q=[.int .i64 (i:Int)]/\(ls.take i).any p=false,_,⟨rfl,0,by omega,rfl,rfl,by simp⟩,?_⟩
    rintro m f _ ⟨rfl,i,hi,hm,hq,hn⟩
    simp only[List.cons.injEq,and_true]at hq
    rw[hq,mI]
    by_cases hlt:i<ls.length
    · have hb:ls[i]?=some ls[i]:=List.getElem?_eq_getElem hlt
      have hbm:=List.mem_of_getElem? hb
      generalize ls[i]=b at hb hbm
      have hb1:=hx b
      have hc:(g b).cells.length=1:=by generalize g b=x at hb1;cases x<;>first|rfl|cases hb1
      simp only[show((i:Int)<(ls.length:Int))=True from eq_true (by omega),decide_true,↓aI]
      rw[nH (d:=g b) (by omega) (by rw[Int.toNat_natCast,List.getElem?_map,hb];rfl) hc,GD hb1]
      refine hp b hbm _ ?_
      cases hpb:p b
      · rw[aF,AX (by omega) (by omega)]
        simp only[aq,true_and]
        refine⟨_,by omega,i+1,by omega,rfl,by simp,?_⟩
        rw[List.take_add_one,hb]
        simp[hn,hpb]
      · rw[aI]
        exact hk i (by simp only[Int.natCast_nonneg,true_iff,List.any_eq_true];exact⟨b,hbm,hpb⟩)
    · have:i=ls.length:=by omega
      subst this
      simp only[show((ls.length:Int)<(ls.length:Int))=False from eq_false (by omega),decide_false,↓aF,aq,true_and]
      rw[List.take_length]at hn
      first|exact hn|exact⟨trivial,hn⟩|exact⟨rfl,hn⟩
  refine key _ fun i hi=>?_
  rw[Ce]
  have:decide (0<=i)=ls.any p:=by cases hp':ls.any p<;>simp[hp',hi]
  rw[this]
  exact hK
def Jh (ls:List (List Nat)) (a b:Nat):Bool:=ls.any fun l=>decide (a∈l)&&decide (b∈l)
theorem BM {s:D}{ls:List (List Nat)}{a b:Nat}(hs:s.vone=true) (hl:ls.length<=1000000) (hls:∀l∈ls,l.length<=1000000) :
    aQ PP bM [.agg [s,.sl (ls.map fun l=>.sl (dg l))],nD a,nD b] (· = .bool (Jh ls a b)):=by
  have dx:vR (.agg [s,.sl (ls.map fun l=>.sl (dg l))]):=dR (by simp[hs])
  refine fZ jk (an _ _ _) rfl (pN _ _ _ _) ?_
  unfold lM
  refine Vs.nil.box dx.one fun n4 h5 V1=>?_
  refine V1.box (aX (k:=.i64) (n:=(a:Int))).one fun n6 h7 V2=>?_
  refine V2.box (aX (k:=.i64) (n:=(b:Int))).one fun n8 h9 V3=>?_
  simp only[↓V3.fa 2 rfl,Nat.zero_add,↓V3.tR 2 (j:=1) rfl rfl]
  refine xy (g:=fun l=>.sl (dg l)) (p:=fun l=>decide (a∈l)&&decide (b∈l)) (fun _=>rfl) hl (fun l hlm KH hk=>?_) ?_
  · refine⟨by kernel_rfl,?_⟩
    have hll:=hls l hlm
    refine bZ gJ (an _ _ _) rfl (my _ _ _ _) ?_
    unfold ji
    have l6:∀{K:D->Heap->Prop},aa PP (.ld (.c (.ptr n6 0 0)) 1 false) h9 K=K (nD a) h9:=fun {K}=>by rw[qU,V3.get 1 _ _ rfl];simp[cV,D.cells,nD]
    have l8:∀{K:D->Heap->Prop},aa PP (.ld (.c (.ptr n8 0 0)) 1 false) h9 K=K (nD b) h9:=fun {K}=>by rw[qU,V3.get 0 _ _ rfl];simp[cV,D.cells,nD]
    show aa PP (.ld (.c (.ptr n6 0 0)) 1 false) h9 _
    rw[l6]
    refine ig (xo hll) (fun d hd=>by simp at hd;rcases hd with rfl|rfl;exact Bd.pair;exact aX.pair) ?_
    rintro _ rfl
    cases ha:decide (a∈l)
    · simp only[↓gS]
      rw[ha]at hk
      exact hk
    · simp only[↓gS,Arg.get,↓l8]
      refine ig (xo hll) (fun d hd=>by simp at hd;rcases hd with rfl|rfl;exact Bd.pair;exact aX.pair) ?_
      rintro _ rfl
      rw[ha]at hk
      first|exact hk|(simp only[↓gS];exact hk)|trace_state
  · rw[o8]
    rfl
end Go.Am
namespace Go.Am
open Go Go.Proofs
section
variable {h:Heap}{L:List (Nat×Slot)}{KH:D->Heap->Prop}
theorem Vs.G6 (V:Vs h L){esz:Nat}{z:D}{fz:Bool}(hK:∀n h',Vs h' ((n,.arr esz [])::L)->KH (.ms n 0 0) h'):aa PP (.bldS fz esz 0 z []) h KH:=II fun n t=>hK n _ (V.push t.free (by simp))
theorem Vs.Hf {m esz bytes:Nat}{els ys:List D}{x z:D}(V:Vs h ((m,.arr esz els)::L)) (hx:∀{K:List D->Prop},K ys->velems esz x h K) (hy:∀y∈ys,aL y) (hb:(els.length+ys.length)*bytes<=140737488355328) (hl:els.length+ys.length<=9223372036854775807)
    (hK:∀n h',Vs h' ((n,.arr esz (els++ys))::L)->KH (.ms n 0 (els.length+ys.length)) h'):aa PP (.app (.c (.ms m 0 els.length)) (.c x) esz bytes z) h KH:=by
  rw[HA]
  refine hx ⟨hy,?_⟩
  have hm:=V.get 0 _ _ rfl
  refine⟨els,.of hm,by simp,⟨hb,hl⟩,fun n t=>⟨?_,fun h0=>absurd rfl h0⟩⟩
  rw[List.drop_zero]
  refine hK n _ ?_
  have hne:n≠m:=by rintro rfl;rw[t.free]at hm;cases hm
  have V1:Vs (ak h m .dead) L:=by
    refine V.pop.CG fun k s hi=>?_
    have:k≠m:=fun e=>by
      obtain⟨i,hi'⟩:=hi
      exact V.ne (i+1) 0 k m s _ (by simpa using hi') rfl (by omega) e
    exact ab _ _ this
  exact V1.push (by rw[ab _ _ hne];exact t.free) (by simp)
theorem Vs.Lc {w:Nat}{els:List D}{t:Term}{z:D}(V:Vs h ((w,.arr 15 els)::L)) (hv:∀x∈els,∀y∈x.cells,y.vone=true)
    (hK:∀n h',Vs h' ((n,.arr 14 [.agg (.sl els::t.cs)])::L)->KH (.ms n 0 1) h'):aa PP (.bldS true 14 1 z [(0,.c (.agg (.ms w 0 els.length::t.cs)))]) h KH:=by
  have hw:=V.get 0 _ _ rfl
  have hrow:(h w).row=some (15,els):=by rw[hw];rfl
  refine⟨fun p hp=>by
    simp[Arg.get]at hp;subst hp
    exact⟨Nat.one_pos,rfl,fun x hx=>by simp[D.cells,Term.cs]at hx;rcases hx with rfl|rfl|rfl|rfl|rfl|rfl|rfl|rfl|rfl|rfl|rfl|rfl|rfl|rfl<;>rfl⟩,fun _ p hp=>?_,fun n t0=>?_⟩
  · simp[Arg.get]at hp;subst hp
    intro x hx
    simp only[D.cells,Term.cs,List.mem_cons,List.not_mem_nil,or_false]at hx
    rcases hx with rfl|rfl|rfl|rfl|rfl|rfl|rfl|rfl|rfl|rfl|rfl|rfl|rfl|rfl
    · exact⟨15,els,hrow,by simp,fun x hx y hy=>hv x (by simpa using hx) y hy⟩
    all_goals trivial
  · have ea:(ak h w (.frz 15 els)) n=.free:=by
      have:n≠w:=by rintro rfl;rw[t0.free]at hw;cases hw
      rw[ab _ _ this];exact t0.free
    have V1:=(V.cr 0 (s':=.frz 15 els) rfl (by simp)).pop
    have:=hK n _ (V1.push ea (s:=.arr 14 [.agg (.sl els::t.cs)]) (by simp))
    simpa[Arg.get,Heap.freezeAll,Heap.freeze,hw,setEls,D.fz,D.fzc,D.nm,D.iP,Slot.row,Term.cs] using this
end
theorem we {α:Type}{g:α->D}{l:List α}{esz:Nat}{h:Heap}(hc:∀x,(g x).cells.length=esz){K:List D->Prop}(hk:K (l.map g)):velems esz (.sl (l.map g)) h K :=
  ⟨fun e he=>by simp only[List.mem_map]at he;obtain⟨x,-,rfl⟩:=he;exact hc x,hk⟩
theorem y3 {α:Type}{g:α->D}{l:List α}(hd:∀x,vR (g x)):∀y,y∈l.map g->aL y:=fun y hy=>by
  simp only[List.mem_map]at hy;obtain⟨x,-,rfl⟩:=hy;exact(hd x).one
theorem GF {l:List bf}:∀x,x∈l.map bf.e->∀y∈x.cells,y.vone=true:=by
  intro x hx y hy
  simp only[List.mem_map]at hx
  obtain⟨i,-,rfl⟩:=hx
  simp[bf.e,bf.cs,D.cells]at hy
  rcases hy with rfl|rfl|rfl|rfl|rfl|rfl|rfl|rfl|rfl|rfl|rfl|rfl|rfl|rfl|rfl<;>rfl
abbrev xY (c:Code) (vA vL vB:D):D:=.agg [.int .i64 c.group,.int .i64 c.sub,.int .i64 c.regs,.int .i64 c.slots,.int .i64 c.params,vA,vL,vB]
theorem Je {c:Code}(hc:kf c){h:Heap}{L:List (Nat×Slot)}(V0:Vs h L){KH:D->Heap->Prop}
    (hK:∀h' nA nL nB,Vs h' ((nB,.arr 14 (c.b.map Block.e))::(nL,.arr 3 (c.loops.map Loop.e))::(nA,.arr 4 (c.arrays.map um.e))::L) ->
      KH (xY c (.ms nA 0 c.arrays.length) (.ms nL 0 c.loops.length) (.ms nB 0 c.b.length)) h'):ae PP jv [c.e] h KH:=by
  have hnb:=hc.nb
  have hnl:=hc.nl
  have hna:c.arrays.length=5:=by rw[hc.arrays];rfl
  refine bZ vM (an _ _ _) rfl (vw _ _) ?_
  unfold sS
  refine V0.box c.qW.one fun n2 h3 V1=>?_
  refine V1.alloc fun n4 h5 V2=>?_
  refine V2.G6 fun nA0 h7 V3=>?_
  simp only[↓V3.fa 2 rfl,Nat.zero_add,↓V3.tR 2 (j:=5) rfl rfl]
  refine V3.Hf (els:=[]) (ys:=c.arrays.map um.e) (fun hk=>we (g:=um.e) (l:=c.arrays) (fun _=>rfl) hk) (y3 fun x=>x.qW) (by simp[hna]) (by simp[hna]) fun nA h13 V4=>?_
  simp only[List.length_nil,Nat.zero_add,List.length_map,List.nil_append]at V4 ⊢
  simp only[↓V4.fa 2 rfl,Nat.zero_add]
  refine V4.KG 2 (j:=5) rfl (by simp) rfl fun h17 V5=>?_
  refine V5.G6 fun nL0 h19 V6=>?_
  simp only[↓V6.fa 3 rfl,Nat.zero_add,↓V6.tR 3 (j:=6) rfl rfl]
  refine V6.Hf (els:=[]) (ys:=c.loops.map Loop.e) (fun hk=>we (g:=Loop.e) (l:=c.loops) (fun _=>rfl) hk) (y3 fun x=>x.qW) (by simp;omega) (by simp;omega) fun nL h25 V7=>?_
  simp only[List.length_nil,Nat.zero_add,List.length_map,List.nil_append]at V7 ⊢
  simp only[↓V7.fa 3 rfl,Nat.zero_add]
  refine V7.KG 3 (j:=6) rfl (by simp) rfl fun h29 V8=>?_
  refine V8.G6 fun nB0 h31 V9=>?_
  let BL:List (Nat×Slot):=[(nL,.arr 3 (c.loops.map Loop.e)),(nA,.arr 4 (c.arrays.map um.e)),(n4,.box (.agg [.int .i64 0,.int .i64 0,.int .i64 0,.int .i64 0,.int .i64 0,.nil,.nil,.nil])),(n2,.box (xY c (.ms nA 0 c.arrays.length) (.ms nL 0 c.loops.length) (.sl (c.b.map Block.e))))]++L
  replace V9:Vs h31 ((nB0,.arr 14 [])::BL):=V9
  refine⟨fun l h=>∃nB,l=[.ms nB 0 c.b.length]/\Vs h ((nB,.arr 14 (c.b.map Block.e))::BL),?_,?_⟩
  · rintro f h34 ⟨nB,hl,V⟩
    simp only[List.cons.injEq,and_true]at hl
    rw[hl]
    simp only[↓V.fa 4 rfl,Nat.zero_add]
    refine V.KG 4 (j:=7) rfl (by simp) rfl fun h38 V'=>?_
    simp only[↓V'.Ad 4 (s:=8) rfl rfl]
    refine V'.Hq (cs':=[.int .i64 c.group,.int .i64 c.sub,.int .i64 c.regs,.int .i64 c.slots,.int .i64 c.params,.ms nA 0 c.arrays.length,.ms nL 0 c.loops.length,.ms nB 0 c.b.length]) 3 rfl rfl rfl (fun y hy=>by simp at hy;rcases hy with rfl|rfl|rfl|rfl|rfl|rfl|rfl|rfl<;>rfl) fun h42 V''=>?_
    rw[V''.Ad 3 (s:=8) rfl rfl]
    have V3:=(V''.erase 3).erase 3
    exact hK _ nA nL nB V3
  unfold mT
  refine⟨fun m l h=>∃(i nB:Nat),i<=c.b.length/\m=c.b.length-i/\l=[.ms nB 0 i,.int .i64 (i:Int)]/\Vs h ((nB,.arr 14 ((c.b.take i).map Block.e))::BL),_,⟨0,nB0,by omega,rfl,rfl,V9⟩,?_⟩
  rintro m f h47 ⟨i,nB,hi,hm,hl,V⟩
  simp only[List.cons.injEq,and_true]at hl
  obtain⟨e3,e4⟩:=hl
  simp only[e3,e4,↓V.fa 4 rfl,Nat.zero_add,↓V.tR 4 (j:=7) rfl rfl,wq,List.length_map,mI]
  by_cases hlt:i<c.b.length
  · have hB:c.b[i]?=some c.b[i]:=List.getElem?_eq_getElem hlt
    have BO:=hc.b _ (List.mem_of_getElem? hB)
    generalize c.b[i]=B at hB BO
    have hil:=BO.len
    have dblk0:∀{h:Heap}{K:D->Prop},af PP (.ld (.c (.vp B.e 0)) 1 false) h K=K (.sl (B.i.map bf.e)):=fun {h K}=>by rw[vr];exact KX rfl
    have dfav0:∀{h:Heap}{K:D->Prop}{o:Nat},af PP (.fadd (.c (.vp B.e 0)) o) h K=K (.vp B.e o):=fun {h K o}=>Kd
    simp only[show((i:Int)<(c.b.length:Int))=True from eq_true (by omega),decide_true,↓aI,↓V.xk 4 rfl,Nat.zero_add,↓V.Bz 4 (j:=7) rfl rfl,↓CZ hB,↓dfav0,↓dblk0,↓CY]
    refine V.G6 fun n64 h65 V1=>?_
    refine⟨by simp only[↓V1.xk 5 rfl,Nat.zero_add,↓V1.Bz 5 (j:=7) rfl rfl,↓CZ hB,↓dfav0,↓dblk0,↓CY,aq,and_self],?_⟩
    refine V1.Hf (els:=[]) (ys:=B.i.map bf.e) (fun hk=>we (g:=bf.e) (l:=B.i) (fun _=>rfl) hk) (y3 fun x=>x.qW) (by simp;omega) (by simp;omega) fun n76 h77 V2=>?_
    simp only[List.length_nil,Nat.zero_add,List.nil_append]at V2 ⊢
    refine⟨by simp only[↓V2.xk 5 rfl,Nat.zero_add,↓V2.Bz 5 (j:=7) rfl rfl,↓CZ hB,↓dfav0,↓dblk0,↓CY,aq,and_self],?_⟩
    rw[oD rfl]
    refine Vs.Lc (t:=B.t) V2 GF fun n84 h85 V3=>?_
    have hlen:((c.b.take i).map Block.e).length=i:=by simp;omega
    have V3':=V3.swap
    rw[show D.ms nB 0 i=.ms nB 0 ((c.b.take i).map Block.e).length by rw[hlen]]
    have row84:=V3.get 0 _ _ rfl
    refine Vs.Hf (ys:=[B.e]) V3' (fun hk=>⟨[B.e],by rw[row84];rfl,by simp,hk⟩) (fun y hy=>by simp at hy;subst hy;exact B.qW.one) (by rw[hlen];simp;omega) (by rw[hlen];simp;omega) fun n86 h87 V4=>?_
    rw[AX (by omega) (by omega),hlen]
    simp only[aq,true_and]
    refine⟨_,by omega,i+1,n86,by omega,rfl,by simp,?_⟩
    have e2:(c.b.take (i+1)).map Block.e=(c.b.take i).map Block.e++[B.e]:=by rw[List.take_add_one,hB];simp
    rw[e2]
    exact V4.erase 1
  · have:i=c.b.length:=by omega
    subst this
    rw[List.take_length]at V
    simp only[show((c.b.length:Int)<(c.b.length:Int))=False from eq_false (by omega),decide_false,↓aF,aq,true_and]
    exact⟨nB,rfl,V⟩
end Go.Am
namespace Go.Am
open Go Go.Proofs
def G7 (mask:Int) (i:Nat):Bool:=decide (ibits .and .u32 (DC .u32 mask ((i % 32:Nat):Int)) 1=1)
def AN (t:Term):Term:=if t.kind=1 then { t with kind:=3 } else t
def pM (mask:Int) (i:Nat) (B:Block):Block:=if G7 mask i then { B with t:=AN B.t } else B
def iE (c:Code) (mask:Int):Code:={ c with b:=c.b.mapIdx (pM mask) }
theorem G9 {N:Nat}{R:Int}{t:Term}(h:AZ N R t):AZ N R (AN t):=by
  cases h with
  | jump a h=>exact .barrier a h
  | branch o a b ho h1 h2=>exact .branch o a b ho h1 h2
  | barrier a h=>exact .barrier a h
  | collect s d a b t hs hd ha hb h=>exact .collect s d a b t hs hd ha hb h
  | exit=>exact .exit
theorem Ha {N:Nat}{R:Int}{B:Block}{mask:Int}{i:Nat}(h:Kv N R B):Kv N R (pM mask i B):=by
  unfold pM
  split
  · exact⟨h.xs,h.len,G9 h.t⟩
  · exact h
theorem iD {c:Code}{mask:Int}:(iE c mask).b.length=c.b.length:=by simp[iE]
theorem sM {c:Code}{mask:Int}{i:Nat}:(iE c mask).b[i]?=(c.b[i]?).map (pM mask i):=by simp[iE]
theorem C4 {c:Code}{mask:Int}(hc:kf c):kf (iE c mask):=by
  refine⟨hc.group,hc.sub,hc.dvd,hc.regs,hc.slots,hc.params,hc.arrays,hc.nl,?_,?_,fun B hB=>?_⟩
  · rw[iD];exact hc.loops
  · rw[iD];exact hc.nb
  · rw[iD]
    obtain⟨i,hi⟩:=List.getElem?_of_mem hB
    rw[sM]at hi
    simp only[Option.map_eq_some_iff]at hi
    obtain⟨B',hB',rfl⟩:=hi
    exact Ha (hc.b B' (List.mem_of_getElem? hB'))
def rG (c:Code) (mask:Int) (i:Nat):List Block:=(iE c mask).b.take i++c.b.drop i
theorem Jt {c:Code}{mask:Int}:rG c mask 0=c.b:=by simp[rG]
theorem Ep {c:Code}{mask:Int}:rG c mask c.b.length=(iE c mask).b:=by
  unfold rG;rw[List.drop_length,List.append_nil,List.take_of_length_le (by rw[iD];omega)]
theorem yS {c:Code}{mask:Int}{i:Nat}{B:Block}(hB:c.b[i]?=some B):(rG c mask i)[i]?=some B:=by
  have hi:=(List.getElem?_eq_some_iff.1 hB).1
  have h1:((iE c mask).b.take i).length=i:=by rw[List.length_take,iD];omega
  unfold rG
  rw[List.getElem?_append_right (by omega),h1,Nat.sub_self,List.getElem?_drop,Nat.add_zero,hB]
theorem Ch {c:Code}{mask:Int}{i:Nat}{B:Block}(hB:c.b[i]?=some B):(rG c mask i).set i (pM mask i B)=rG c mask (i+1):=by
  have hi:=(List.getElem?_eq_some_iff.1 hB).1
  have h1:((iE c mask).b.take i).length=i:=by rw[List.length_take,iD];omega
  have h2:c.b.drop i=B::c.b.drop (i+1):=by
    rw[List.drop_eq_getElem_cons hi]
    have:=(List.getElem?_eq_some_iff.1 hB).2
    rw[this]
  unfold rG
  rw[List.set_append_right _ _ (by omega),h1,Nat.sub_self,h2,List.set_cons_zero,List.take_add_one,sM,hB]
  simp
theorem zO {c:Code}{mask:Int}{i:Nat}{B:Block}(hB:c.b[i]?=some B) (he:pM mask i B=B):rG c mask i=rG c mask (i+1):=by
  have h1:=Ch (mask:=mask) hB
  rw[he]at h1
  rw[<- h1]
  refine List.ext_getElem? fun j=>?_
  rw[List.getElem?_set]
  by_cases hj:i=j
  · subst hj
    have hlt:=(List.getElem?_eq_some_iff.1 (yS (mask:=mask) hB)).1
    rw[if_pos rfl,if_pos hlt,yS hB]
  · rw[if_neg hj]
theorem AF {c:Code}(hc:kf c){mask:Int}:aQ PP dY [c.e,.int .u32 mask] (· = (iE c mask).e):=by
  have hnb:=hc.nb
  refine fZ s7 (an _ _ _) rfl (sP _ _ _) ?_
  unfold oJ
  refine Vs.nil.box c.qW.one fun n3 h4 V1=>?_
  refine V1.alloc fun n5 h6 V2=>?_
  simp only[↓V2.Ad 1 (s:=8) rfl rfl]
  refine Je hc V2 fun h10 nA nL nB V3=>?_
  refine V3.alloc fun n11 h12 V4=>?_
  refine V4.Hq (cs':=[.int .i64 c.group,.int .i64 c.sub,.int .i64 c.regs,.int .i64 c.slots,.int .i64 c.params,.ms nA 0 c.arrays.length,.ms nL 0 c.loops.length,.ms nB 0 c.b.length]) 0 rfl rfl rfl (fun y hy=>by simp at hy;rcases hy with rfl|rfl|rfl|rfl|rfl|rfl|rfl|rfl<;>rfl) fun h14 V5=>?_
  let BL:List Block->List (Nat×Slot):=fun bs=>[(n11,.box (xY c (.ms nA 0 c.arrays.length) (.ms nL 0 c.loops.length) (.ms nB 0 c.b.length))),(nB,.arr 14 (bs.map Block.e)),(nL,.arr 3 (c.loops.map Loop.e)),(nA,.arr 4 (c.arrays.map um.e)),(n5,.box (.agg [.int .i64 0,.int .i64 0,.int .i64 0,.int .i64 0,.int .i64 0,.nil,.nil,.nil])),(n3,.box c.e)]
  replace V5:Vs h14 (BL c.b):=V5
  refine⟨fun _ h=>Vs h (BL (iE c mask).b),?_,?_⟩
  · rintro f h17 V
    simp only[↓V.Ad 0 (s:=8) rfl rfl]
    refine V.Hq (cs':=[.int .i64 c.group,.int .i64 c.sub,.int .i64 c.regs,.int .i64 c.slots,.int .i64 c.params,.ms nA 0 c.arrays.length,.ms nL 0 c.loops.length,.ms nB 0 c.b.length]) 4 rfl rfl rfl (fun y hy=>by simp at hy;rcases hy with rfl|rfl|rfl|rfl|rfl|rfl|rfl|rfl<;>rfl) fun h21 V'=>?_
    rw[V'.Ad 4 (s:=8) rfl rfl]
    have rB:(h21 nB).row=some (14,(iE c mask).b.map Block.e):=by rw[V'.get 1 _ _ rfl];rfl
    have rL:(h21 nL).row=some (3,c.loops.map Loop.e):=by rw[V'.get 2 _ _ rfl];rfl
    have rA:(h21 nA).row=some (4,c.arrays.map um.e):=by rw[V'.get 3 _ _ rfl];rfl
    have ez:(xY c (.ms nA 0 c.arrays.length) (.ms nL 0 c.loops.length) (.ms nB 0 c.b.length)).fzt h21=(iE c mask).e:=by
      have e1:((iE c mask).b.map Block.e).take c.b.length=(iE c mask).b.map Block.e:=List.take_of_length_le (by rw[List.length_map,iD];omega)
      have e2:(c.loops.map Loop.e).take c.loops.length=c.loops.map Loop.e:=List.take_of_length_le (by rw[List.length_map];omega)
      have e3:(c.arrays.map um.e).take c.arrays.length=c.arrays.map um.e:=List.take_of_length_le (by rw[List.length_map];omega)
      simp only[D.fzt,D.fz,List.map_cons,List.map_nil,D.fzc,rA,rL,rB,List.drop_zero,e1,e2,e3,Code.e]
      rfl
    refine⟨fun x hx=>by simp[D.cells]at hx;rcases hx with rfl|rfl|rfl|rfl|rfl|rfl|rfl|rfl<;>rfl,?_,by rw[ez];rfl,ez⟩
    intro x hx
    simp only[D.cells,List.mem_cons,List.not_mem_nil,or_false]at hx
    rcases hx with rfl|rfl|rfl|rfl|rfl|rfl|rfl|rfl
    iterate 5 trivial
    · refine⟨4,_,rA,by simp,fun x hx y hy=>?_⟩
      have hx':x∈c.arrays.map um.e:=List.mem_of_mem_drop (List.mem_of_mem_take hx)
      simp only[List.mem_map]at hx'
      obtain⟨a,-,rfl⟩:=hx'
      simp[um.e,D.cells]at hy;rcases hy with rfl|rfl|rfl|rfl<;>rfl
    · refine⟨3,_,rL,by simp,fun x hx y hy=>?_⟩
      have hx':x∈c.loops.map Loop.e:=List.mem_of_mem_drop (List.mem_of_mem_take hx)
      simp only[List.mem_map]at hx'
      obtain⟨a,-,rfl⟩:=hx'
      simp[Loop.e,D.cells]at hy;rcases hy with rfl|rfl|rfl<;>rfl
    · refine⟨14,_,rB,by simp[iD],fun x hx y hy=>?_⟩
      have hx':x∈(iE c mask).b.map Block.e:=List.mem_of_mem_drop (List.mem_of_mem_take hx)
      simp only[List.mem_map]at hx'
      obtain⟨a,-,rfl⟩:=hx'
      simp[Block.e,Term.cs,D.cells]at hy
      rcases hy with rfl|rfl|rfl|rfl|rfl|rfl|rfl|rfl|rfl|rfl|rfl|rfl|rfl|rfl<;>rfl
  unfold kG
  refine⟨fun m l h=>∃i:Nat,i<=c.b.length/\m=c.b.length-i/\l=[.int .i64 (i:Int)]/\Vs h (BL (rG c mask i)),_,⟨0,by omega,rfl,rfl,by rw[Jt];exact V5⟩,?_⟩
  rintro m f h26 ⟨i,hi,hm,hl,V⟩
  simp only[List.cons.injEq,and_true]at hl
  have hlen:∀{h:Heap}{K:D->Prop},Vs h (BL (rG c mask i))->cN (.ms nB 0 c.b.length) h K=K (.int .i64 (c.b.length:Int)):=fun {h K} V=>by
    rw[lU];apply propext;exact⟨fun hh=>hh.2,fun hk=>⟨by rw[V.get 1 _ _ rfl];rfl,hk⟩⟩
  simp only[hl,↓V.fa 0 rfl,Nat.zero_add,↓V.tR 0 (j:=7) rfl rfl,↓hlen V,mI]
  by_cases hlt:i<c.b.length
  · have hB:c.b[i]?=some c.b[i]:=List.getElem?_eq_getElem hlt
    generalize c.b[i]=B at hB
    have hS:=yS (mask:=mask) hB
    have hE:((rG c mask i).map Block.e)[i]?=some B.e:=by rw[List.getElem?_map,hS];rfl
    have hEl:=(List.getElem?_eq_some_iff.1 hE).1
    have w:IntKind.u64.wrap ((i % 32:Nat):Int)=((i % 32:Nat):Int):=by simp only[IntKind.wrap,IntKind.signed,IntKind.bits];simp;omega
    simp only[show((i:Int)<(c.b.length:Int))=True from eq_true (by omega),decide_true,↓aI]
    refine⟨fun _ h=>Vs h (BL (rG c mask (i+1))),?_,?_⟩
    · rintro f' h' V'
      rw[AX (by omega) (by omega)]
      simp only[aq,true_and]
      exact⟨_,by omega,i+1,by omega,rfl,by simp,V'⟩
    rw[bS]
    refine⟨by omega,?_⟩
    rw[show((i:Int).tmod 32)=((i % 32:Nat):Int) from aP i 32,ot,w,Jm]
    refine⟨by omega,?_⟩
    rw[Jo,dW]
    have hbit:decide (ibits .and .u32 (DC .u32 mask ((i % 32:Nat):Int)) 1=1)=G7 mask i:=rfl
    rw[hbit]
    have f1:∀{KH:D->Heap->Prop},aa PP (.fadd (.c (.ptr nB i 0)) 1) h26 KH=KH (.ptr nB i 1) h26:=fun {KH}=>by
      rw[ov,V.get 1 _ _ rfl];apply propext;exact⟨fun hh=>hh.2,fun hk=>⟨rfl,hk⟩⟩
    have f0:∀{KH:D->Heap->Prop},aa PP (.fadd (.c (.ptr nB i 1)) 0) h26 KH=KH (.ptr nB i 1) h26:=fun {KH}=>by
      rw[ov,V.get 1 _ _ rfl];apply propext;exact⟨fun hh=>hh.2,fun hk=>⟨rfl,hk⟩⟩
    have lk:∀{KH:D->Heap->Prop},aa PP (.ld (.c (.ptr nB i 1)) 1 false) h26 KH=KH (.int .i64 B.t.kind) h26:=fun {KH}=>by
      rw[qU,V.get 1 _ _ rfl]
      apply propext
      constructor
      · intro hh
        have:=hh.2 B.e hE
        rw[cV]at this
        simpa[Block.e,Term.cs,D.cells] using this
      · intro hk
        refine⟨hEl,fun d hd=>?_⟩
        rw[hE]at hd;cases hd
        rw[cV]
        simpa[Block.e,Term.cs,D.cells] using hk
    cases hbm:G7 mask i
    · have hsame:pM mask i B=B:=by unfold pM;rw[hbm];rfl
      simp only[↓gS]
      simp only[aq,true_and]
      rw[<- zO hB hsame]
      exact V
    · simp only[↓gS,↓V.fa 0 rfl,Nat.zero_add,↓V.tR 0 (j:=7) rfl rfl,↓V.ia 1 rfl (show(0:Int)<=(i:Int) by omega) (show(i:Int)<(c.b.length:Nat) by omega),Int.toNat_natCast,↓f1,↓f0,↓lk,dW]
      by_cases hk:B.t.kind=1
      · have hset:pM mask i B={ B with t:={ B.t with kind:=3 } }:=by unfold pM AN;rw[hbm,if_pos rfl,if_pos hk]
        simp only[hk,decide_true,↓gS,↓V.fa 0 rfl,Nat.zero_add,↓V.tR 0 (j:=7) rfl rfl,↓V.ia 1 rfl (show(0:Int)<=(i:Int) by omega) (show(i:Int)<(c.b.length:Nat) by omega),Int.toNat_natCast,↓f1,↓f0]
        rw[ki,V.get 1 _ _ rfl]
        refine⟨rfl,fun x hx=>by simp[D.cells]at hx;subst hx;rfl,hEl,by omega,fun d hd=>?_⟩
        rw[hE]at hd;cases hd
        have e1:setCells B.e 1 (D.int .i64 3).cells=(pM mask i B).e:=by rw[hset];rfl
        have e2:((rG c mask i).map Block.e).set i (pM mask i B).e=(rG c mask (i+1)).map Block.e:=by rw[<- Ch hB,List.map_set]
        rw[e1,e2]
        simp only[aq,true_and]
        exact V.cr 1 (s':=.arr 14 ((rG c mask (i+1)).map Block.e)) rfl (by simp)
      · have hsame:pM mask i B=B:=by unfold pM AN;rw[hbm,if_pos rfl,if_neg hk]
        simp only[hk,decide_false,↓gS]
        simp only[aq,true_and]
        rw[<- zO hB hsame]
        exact V
  · have:i=c.b.length:=by omega
    subst this
    rw[Ep]at V
    simp only[show((c.b.length:Int)<(c.b.length:Int))=False from eq_false (by omega),decide_false,↓aF,aq,true_and]
    exact V
end Go.Am
namespace Go.Am
open Go Go.Proofs
def Kk (c:Code) (a b:Nat):Prop:=∃s,St c s/\Path (qT c) s a/\Path (qT c) s b
noncomputable def EL (c:Code):List (List Nat):=(jG c).map (rl c)
theorem Gh (c:Code):D8 c=.agg [.sl (dg (jG c)),.sl ((EL c).map fun l=>.sl (dg l))]:=by
  unfold D8 EL;rw[List.map_map];rfl
theorem Cs {c:Code}(hc:kR c):(EL c).length<=1000000/\∀l,l∈EL c->l.length<=1000000:=by
  have hnb:=hc.nb
  refine⟨?_,fun l hl=>?_⟩
  · have:(jG c).length<=c.b.length:=pd
    simp[EL];omega
  · simp only[EL,List.mem_map]at hl
    obtain⟨s,-,rfl⟩:=hl
    have:(rl c s).length<=c.b.length:=pd
    omega
theorem Cf {c:Code}(hc:kR c){a b:Nat}:Jh (EL c) a b=true↔Kk c a b:=by
  unfold Jh EL
  simp only[List.any_eq_true,List.mem_map,Bool.and_eq_true,decide_eq_true_eq]
  constructor
  · rintro⟨_,⟨s,hs,rfl⟩,ha,hb⟩
    exact⟨s,(dQ.1 hs).2,(dQ.1 ha).2,(dQ.1 hb).2⟩
  · rintro⟨s,hs,ha,hb⟩
    exact⟨_,⟨s,dQ.2 ⟨hs.lt hc,hs⟩,rfl⟩,dQ.2 ⟨vZ hc (hs.lt hc) ha,ha⟩,dQ.2 ⟨vZ hc (hs.lt hc) hb,hb⟩⟩
theorem HI {c:Code}(hc:kR c){a b:Nat}:aQ PP bM [D8 c,nD a,nD b] (· = .bool (Jh (EL c) a b)):=by
  rw[Gh]
  exact BM rfl (Cs hc).1 (Cs hc).2
theorem Ct (c:Code):vR (D8 c):=dR (by simp)
theorem DR {c:Code}{a b:Nat}(h:b∈edg c a):b∈qT c a\/b∈kh c a:=by
  unfold edg at h;unfold qT kh
  cases hB:c.b[a]?<;>simp only[hB]at h ⊢
  · cases h
  · split<;>simp[h]
theorem zN {t:Term}:ca (AN t)=ca t:=by
  unfold AN
  split
  · rename_i h;unfold ca;simp[h]
  · rfl
theorem GI {c:Code}{mask:Int}{a b:Nat}(h:b∈qT (iE c mask) a):b∈qT c a:=by
  unfold qT at h ⊢
  rw[sM]at h
  cases hB:c.b[a]?<;>simp only[hB,Option.map_none,Option.map_some]at h ⊢
  · cases h
  · rename_i B
    unfold pM at h
    cases hk:G7 mask a
    · rw[hk]at h;simpa using h
    · rw[hk,if_pos rfl]at h
      by_cases h3:(AN B.t).kind=3
      · rw[if_pos h3]at h;cases h
      · rw[if_neg h3,zN]at h
        have h2:¬B.t.kind=3:=fun e=>h3 (by unfold AN;rw[if_neg (by omega)];exact e)
        rw[if_neg h2];exact h
theorem EO {c:Code}{mask:Int}{a b:Nat}(h:b∈kh (iE c mask) a):b∈edg c a:=by
  unfold kh at h
  unfold edg
  rw[sM]at h
  cases hB:c.b[a]?<;>simp only[hB,Option.map_none,Option.map_some]at h ⊢
  · cases h
  · split at h
    · unfold pM at h
      split at h
      · simpa[zN] using h
      · exact h
    · cases h
theorem wN {c:Code}{mask:Int}{s a:Nat}(h:Path (qT (iE c mask)) s a):Path (qT c) s a:=by
  induction h with
  | refl=>exact .refl
  | step _ hb ih=>exact .step ih (GI hb)
theorem H2 {c:Code}{mask:Int}{s:Nat}(h:St (iE c mask) s):∃s',St c s'/\Path (qT c) s' s:=by
  induction h with
  | zero=>exact⟨0,.zero,.refl⟩
  | step _ ha ht ih =>
    obtain⟨s',h1,h2⟩:=ih
    have hp:=h2.trans (wN ha)
    rcases DR (EO ht) with hb|hb
    · exact⟨s',h1,.step hp hb⟩
    · exact⟨_,.step h1 hp hb,.refl⟩
theorem F7 {c:Code}{mask:Int}{a b:Nat}(h:Kk (iE c mask) a b):Kk c a b:=by
  obtain⟨s,hs,ha,hb⟩:=h
  obtain⟨s',h1,h2⟩:=H2 hs
  exact⟨s',h1,h2.trans (wN ha),h2.trans (wN hb)⟩
end Go.Am
namespace Go.Am
open Go Go.Proofs
def iW (w:Int) (p:List Bool×List Nat) (b:Nat):List Bool×List Nat:=if !hasB p.1 b&&decide ((b:Int)≠w) then(p.1.set b true,p.2++[b]) else p
def frRun (E:List (List Nat)) (w:Int):Nat->List Bool->List Nat->List Bool
  | 0,S,_=>S
  | _+1,S,[]=>S
  | n+1,S,a::T=>frRun E w n (((E[a]?).getD []).foldl (iW w) (S,T)).1 (((E[a]?).getD []).foldl (iW w) (S,T)).2
def qa (E:List (List Nat)) (s:Nat) (w:Int):List Bool :=
  if(s:Int)=w then List.replicate E.length false else frRun E w (3*E.length+3) ((List.replicate E.length false).set s true) [s]
def Lo (E:List (List Nat)):D:=.sl (E.map fun l=>.sl (dg l))
theorem DL {E:List (List Nat)}{w:Int}{n:Nat}{S:List Bool}:frRun E w n S []=S:=by cases n<;>rfl
theorem I2 {E:List (List Nat)}{s:Nat}{w:Int}(hN:E.length<=1000) (hE:∀l∈E,∀b∈l,b<E.length) (hs:s<E.length) (hEl:∀l∈E,l.length<=1000) :
    aQ PP cI [Lo E,nD s,.int .i64 w] (· = .sl (bL (qa E s w))):=by
  refine fZ vH (an _ _ _) rfl (vu _ _ _ _) ?_
  unfold sQ Lo
  rw[wq,List.length_map]
  refine Vs.nil.LA (by omega) (by omega) fun n5 h6 V1=>?_
  rw[show List.replicate E.length (D.bool false)=bL (List.replicate E.length false) by simp[bL]]at V1
  have ret:∀(h:Heap) (S:List Bool),S.length=E.length->Vs h [(n5,.arr 1 (bL S))]->S=qa E s w->tq (· = .sl (bL (qa E s w))) (.ms n5 0 E.length) h:=fun h S hS V he=>by
    have hl:D.ms n5 0 E.length=.ms n5 0 (bL S).length:=by simp[bL,hS]
    rw[hl]
    refine B8 (esz:=1) (by rw[V.get 0 _ _ rfl];rfl) (fun x hx y hy=>?_) (by rw[he])
    simp only[bL,List.mem_map]at hx
    obtain⟨b,-,rfl⟩:=hx
    simp[D.cells]at hy;subst hy;rfl
  simp only[nD,dW]
  by_cases hw:(s:Int)=w
  · simp only[hw,decide_true,↓aI]
    exact ret _ _ (by simp) V1 (by unfold qa;rw[if_pos hw])
  simp only[hw,decide_false,↓aF]
  rw[V1.ia 0 rfl (by omega) (by omega),Int.toNat_natCast]
  refine V1.KF 0 rfl (by simp[bL];exact hs) rfl (FE _) fun h11 V2=>?_
  rw[FD]at V2
  replace V2:Vs h11 [(n5,.arr 1 (bL ((List.replicate E.length false).set s true)))]:=V2
  refine QV.one (k:=s) V2 fun v h13 q0=>?_
  refine⟨fun _ h=>∃S:List Bool,S.length=E.length/\Vs h [(n5,.arr 1 (bL S))]/\S=qa E s w,fun f h ⟨S,hS,V,he⟩=>ret h S hS V he,?_⟩
  unfold mR
  refine⟨fun m l h=>∃(S:List Bool) (T:List Nat) (v:D),l=[v]/\S.length=E.length/\(∀k∈T,k<E.length)/\QV h [(n5,.arr 1 (bL S))] v T/\frRun E w m S T=qa E s w/\2*yb (hasB S) E.length+T.length<=m/\m<=3*E.length+3,3*E.length+3,
    ⟨_,[s],v,rfl,by simp,fun k hk=>by simp at hk;omega,q0,by unfold qa;rw[if_neg hw],by have:=Ba (hasB ((List.replicate E.length false).set s true)) E.length;simp only[List.length_singleton];omega,by omega⟩,?_⟩
  rintro m f h1 ⟨S,T,v,hl,hS,hT,q,hR,hm,hmb⟩
  simp only[List.cons.injEq,and_true]at hl
  simp only[hl,q.len,pV]
  cases T with
  | nil =>
    simp only[List.length_nil,show((0:Nat):Int)=0 from rfl,Int.lt_irrefl,decide_false,↓aF,aq,true_and]
    exact⟨S,hS,q.vs,by rw[<- hR,DL]⟩
  | cons a T' =>
    cases m with
    | zero=>simp at hm
    | succ m =>
    have haN:=hT a (by simp)
    have hEa:E[a]?=some E[a]:=List.getElem?_eq_getElem haN
    have hEm:=List.mem_of_getElem? hEa
    rw[frRun,hEa]at hR
    simp only[Option.getD_some]at hR
    generalize E[a]=es at hEa hEm hR
    simp only[show((0:Int)<((a::T').length:Int))=True from eq_true (by simp only[List.length_cons];omega),decide_true,↓aI]
    refine q.get (i:=0) (k:=a) rfl ?_
    refine q.pB (lo:=some 1) (hi:=none) (a:=1) (b:=(a::T').length) rfl rfl (by simp) (Nat.le_refl _) (by simp) fun v' q'=>?_
    have e1:((a::T').drop 1).take ((a::T').length-1)=T':=by simp
    rw[e1]at q'
    have ide:∀{h:Heap}{KH:D->Heap->Prop},aa PP (.iadd (.c (.sl (E.map fun l=>.sl (dg l)))) (.c (nD a)) 1) h KH=KH (.vp (.sl (dg es)) 0) h:=fun {h KH}=>nH (by omega) (by rw[Int.toNat_natCast,List.getElem?_map,hEa];rfl) rfl
    unfold mS
    refine⟨fun k l h=>∃(i:Nat) (S:List Bool) (T:List Nat) (v:D),l=[v,.int .i64 (i:Int)]/\i<=es.length/\k=es.length-i/\S.length=E.length/\(∀k∈T,k<E.length)/\QV h [(n5,.arr 1 (bL S))] v T /\
      frRun E w m ((es.drop i).foldl (iW w) (S,T)).1 ((es.drop i).foldl (iW w) (S,T)).2=qa E s w/\2*yb (hasB S) E.length+T.length<=m,_,
      ⟨0,S,T',v',rfl,by omega,rfl,hS,fun k hk=>hT k (by simp[hk]),q',hR,by simp only[List.length_cons]at hm;omega⟩,?_⟩
    clear hR hm q' q hS hT hl
    rintro k f2 h2 ⟨i,S,T,v,hl2,hi,hk,hS,hT,q,hR,hm⟩
    simp only[List.cons.injEq,and_true]at hl2
    obtain⟨e8,e10⟩:=hl2
    have hel:=hEl es hEm
    simp only[e8,e10,↓ide,↓GD (d:=.sl (dg es)) rfl,Cy,mI]
    by_cases hlt:i<es.length
    · have hb:es[i]?=some es[i]:=List.getElem?_eq_getElem hlt
      have hdrop:es.drop i=es[i]::es.drop (i+1):=List.drop_eq_getElem_cons hlt
      rw[hdrop,List.foldl_cons]at hR
      generalize es[i]=b at hb hR
      have hbN:b<E.length:=hE es hEm b (List.mem_of_getElem? hb)
      simp only[show((i:Int)<(es.length:Int))=True from eq_true (by omega),decide_true,↓aI]
      refine⟨fun l h=>∃(S:List Bool) (T:List Nat) (v:D),l=[v]/\S.length=E.length/\(∀k∈T,k<E.length)/\QV h [(n5,.arr 1 (bL S))] v T /\
        frRun E w m ((es.drop (i+1)).foldl (iW w) (S,T)).1 ((es.drop (i+1)).foldl (iW w) (S,T)).2=qa E s w/\2*yb (hasB S) E.length+T.length<=m,?_,?_⟩
      · rintro f3 h3 ⟨S,T,v,hl3,g1,g2,g3,g4,g5⟩
        simp only[List.cons.injEq,and_true]at hl3
        rw[hl3,AX (by omega) (by omega)]
        simp only[aq,true_and]
        exact⟨_,by omega,i+1,S,T,v,by simp,by omega,rfl,g1,g2,g3,g4,g5⟩
      have V:=q.vs
      simp only[↓ide,↓GD (d:=.sl (dg es)) rfl]
      refine Kt hb ?_
      simp only[nD,↓V.ia 0 rfl (show(0:Int)<=(b:Int) by omega) (show(b:Int)<(E.length:Nat) by omega),Int.toNat_natCast,↓V.Ll 0 rfl (FF (Al (S:=S) (k:=b) (by omega))) rfl]
      cases hbS:hasB S b
      · by_cases hbw:(b:Int)=w
        · have hst:iW w (S,T) b=(S,T):=by unfold iW;rw[if_neg (by simp[hbw])]
          rw[hst]at hR
          rw[Gv]
          simp only[↓gS,Cc,hbw,decide_true,Bool.not_true,aq,true_and]
          exact⟨S,T,v,rfl,hS,hT,q,hR,hm⟩
        · have hst:iW w (S,T) b=(S.set b true,T++[b]):=by unfold iW;rw[if_pos (by simp[hbS,hbw])]
          rw[hst]at hR
          rw[Gv]
          simp only[↓gS,Cc,hbw,decide_false,Bool.not_false]
          simp only[↓gS,↓V.ia 0 rfl (show(0:Int)<=(b:Int) by omega) (show(b:Int)<(E.length:Nat) by omega),Int.toNat_natCast]
          have hun:yb (hasB (S.set b true)) E.length+1<=yb (hasB S) E.length:=vU (x:=b) (fun k hk=>by rw[Ak (by omega),hk];simp) hbN hbS (by rw[Ak (by omega)];simp)
          refine q.KF 0 rfl (by simp[bL];omega) rfl (FE _) fun h4 q4=>?_
          rw[FD]at q4
          replace q4:QV h4 [(n5,.arr 1 (bL (S.set b true)))] v T:=q4
          refine q4.push (k:=b) (by omega) (by omega) fun v5 h5 q5=>?_
          simp only[aq,true_and]
          exact⟨_,_,v5,rfl,by simp[hS],fun k hk=>by rcases List.mem_append.1 hk with hk|hk;exact hT k hk;simp at hk;omega,q5,hR,by rw[List.length_append,List.length_singleton];omega⟩
      · have hst:iW w (S,T) b=(S,T):=by unfold iW;rw[if_neg (by simp[hbS])]
        rw[hst]at hR
        rw[Gu]
        simp only[↓gS,aq,true_and]
        exact⟨S,T,v,rfl,hS,hT,q,hR,hm⟩
    · have hi':es.length<=i:=by omega
      simp only[show((i:Int)<(es.length:Int))=False from eq_false (by omega),decide_false,↓aF,aq,true_and]
      rw[List.drop_of_length_le hi']at hR
      exact⟨m,by omega,S,T,v,rfl,hS,hT,q,hR,hm,by omega⟩
end Go.Am
