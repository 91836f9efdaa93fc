/- What the functions of this chapter give, on plain data. No condition. -/
import Derived.Shelf.SlIterI.Nil
import Derived.Shelf.SortM.Plain
import Derived.Shelf.SortM.SortNone
import Derived.Test.YtllpdgfanfffnaaGreatT1
set_option linter.unnecessarySimpa false
set_option linter.defProp false
set_option linter.unusedSectionVars false
set_option linter.unusedSimpArgs false
set_option linter.unusedVariables false

namespace Go.Am
open Go
variable [bw]
variable {P:Program}{KH:D->Heap->Prop}{K:D->Prop}{l:LH}
end Go.Am
namespace Go.Am
open Go
variable [bw]
variable {P:Program}
structure MS where
  group:Int
  sub:Int
  regs:Int
  loops:List Loop
  blocks:List Block
def sT (bs:List Nat):D:=.sl (bs.map fun(b:Nat)=>.int .u8 (b:Int))
def b6 (bs:List Nat) (k:Nat) (arrs:D) (s:MS) (vL vB:D):D :=
  .agg [sT bs,.int .i64 (k:Int),.int .i64 s.group,.int .i64 s.sub,.int .i64 s.regs,.int .i64 0,.int .i64 3,arrs,vL,vB]
def bI (vs:List D) (bs:List Block):List D:=List.zipWith (fun v b=>D.agg (v::b.t.cs)) vs bs
def bc (l:List D):List Nat:=l.flatMap D.iT
structure Rows (h:Heap) (loops:List Loop) (blocks:List Block) (vL vB:D) (vs:List D):Prop where
  oL:Own 3 h vL (loops.map Loop.e)
  oB:Own 14 h vB (bI vs blocks)
  len:vs.length=blocks.length
  oI:∀(k:Nat) (v:D) (b:Block),vs[k]?=some v->blocks[k]?=some b->Own 15 h v (b.i.map bg.e)
  nd:(bc (vL::vB::vs)).Nodup
structure aJ (h:Heap) (n k:Nat) (arrs:D) (s:MS):Prop where
  st:∃(bs:List Nat) (j:Nat) (vL vB:D) (vs:List D),(∀b∈bs,b<=255)/\bs.length<=9223372036854775807/\j<=k/\h n=.box (b6 bs j arrs s vL vB)/\Rows h s.loops s.blocks vL vB vs
def aA (n:Nat) (h h':Heap):Prop:=∀m d,m≠n->h m=.box d->h' m=.box d
theorem aA.rfl {n:Nat}{h:Heap}:aA n h h:=fun _ _ _ h=>h
theorem aA.trans {n:Nat}{a b c:Heap}(h:aA n a b) (k:aA n b c):aA n a c:=fun m d hm hd=>k m d hm (h m d hm hd)
theorem aA.self {n:Nat}{h:Heap}{s:Slot}:aA n h (aj h n s):=fun m d hm hd=>by rw[ab _ _ hm];exact hd
theorem aA.new {n m:Nat}{h:Heap}{s:Slot}(hm:h m=.free):aA n h (aj h m s):=fun k d _ hd=>by
  rw[ab _ _ (by rintro rfl;rw[hm]at hd;cases hd)];exact hd
theorem cw {esz:Nat}{h h':Heap}{v:D}{els:List D}(ho:Own esz h v els) (hk:∀k∈v.iT,h' k=h k):Own esz h' v els:=by
  rcases ho with ho|⟨q,rfl,hq⟩
  · exact Or.inl ho
  · exact Or.inr ⟨q,rfl,by rw[hk q (by simp[D.iT])];exact hq⟩
theorem mR {esz:Nat}{h:Heap}{v:D}{els:List D}(ho:Own esz h v els){k:Nat}(hk:k∈v.iT):h k=.arr esz els:=by
  rcases ho with⟨rfl,-⟩|⟨q,rfl,hq⟩
  · simp[D.iT]at hk
  · simp[D.iT]at hk;subst hk;exact hq
theorem Rows.congr {h h':Heap}{loops:List Loop}{blocks:List Block}{vL vB:D}{vs:List D}(r:Rows h loops blocks vL vB vs) (hk:∀k,k∈bc (vL::vB::vs)->h' k=h k):Rows h' loops blocks vL vB vs:=by
  have mem:∀v,v∈vL::vB::vs->∀k∈v.iT,k∈bc (vL::vB::vs):=fun v hv k hkv=>List.mem_flatMap.2 ⟨v,hv,hkv⟩
  refine⟨cw r.oL fun k q=>hk k (mem _ (by simp) k q),cw r.oB fun k q=>hk k (mem _ (by simp) k q),r.len,fun k v b hv hb=>cw (r.oI k v b hv hb) fun j q=>hk j (mem v ?_ j q),r.nd⟩
  have:=List.mem_of_getElem? hv
  simp[this]
theorem Rows.arr {h:Heap}{loops:List Loop}{blocks:List Block}{vL vB:D}{vs:List D}(r:Rows h loops blocks vL vB vs){k:Nat}(hk:k∈bc (vL::vB::vs)):∃e l,h k=.arr e l:=by
  obtain⟨v,hv,hkv⟩:=List.mem_flatMap.1 hk
  rcases List.mem_cons.1 hv with rfl|hv
  · exact⟨_,_,mR r.oL hkv⟩
  rcases List.mem_cons.1 hv with rfl|hv
  · exact⟨_,_,mR r.oB hkv⟩
  obtain⟨i,hi⟩:=List.getElem?_of_mem hv
  obtain⟨b,hb⟩:∃b,blocks[i]?=some b:=by
    have:=(List.getElem?_eq_some_iff.1 hi).1
    exact⟨blocks[i]'(by rw[<- r.len];exact this),List.getElem?_eq_getElem _⟩
  exact⟨_,_,mR (r.oI i v b hi hb) hkv⟩
theorem Rows.box {h:Heap}{loops:List Loop}{blocks:List Block}{vL vB:D}{vs:List D}(r:Rows h loops blocks vL vB vs){n:Nat}{d:D}(hn:h n=.box d) (s:Slot):Rows (aj h n s) loops blocks vL vB vs :=
  r.congr fun k hk=>by
    obtain⟨e,l,hkl⟩:=r.arr hk
    rw[ab _ _ (by rintro rfl;rw[hn]at hkl;cases hkl)]
theorem Rows.free {h:Heap}{loops:List Loop}{blocks:List Block}{vL vB:D}{vs:List D}(r:Rows h loops blocks vL vB vs){n:Nat}(hn:h n=.free) (s:Slot):Rows (aj h n s) loops blocks vL vB vs :=
  r.congr fun k hk=>by
    obtain⟨e,l,hkl⟩:=r.arr hk
    rw[ab _ _ (by rintro rfl;rw[hn]at hkl;cases hkl)]
theorem aJ.new {h:Heap}{n k:Nat}{arrs:D}{s:MS}(r:aJ h n k arrs s){m:Nat}(hm:h m=.free) (x:Slot):aJ (aj h m x) n k arrs s/\m≠n:=by
  obtain⟨bs,j,vL,vB,vs,h1,h2,h3,h4,h5⟩:=r.st
  have hne:n≠m:=by rintro rfl;rw[h4]at hm;cases hm
  exact⟨⟨bs,j,vL,vB,vs,h1,h2,h3,by rw[ab _ _ hne];exact h4,h5.free hm x⟩,hne.symm⟩
theorem aJ.cc {h:Heap}{n k:Nat}{arrs:D}{s:MS}(r:aJ h n k arrs s){m:Nat}{d:D}(hm:h m=.box d) (hne:m≠n) (x:Slot):aJ (aj h m x) n k arrs s:=by
  obtain⟨bs,j,vL,vB,vs,h1,h2,h3,h4,h5⟩:=r.st
  exact⟨bs,j,vL,vB,vs,h1,h2,h3,by rw[ab _ _ hne.symm];exact h4,h5.box hm x⟩
theorem aJ.le {h:Heap}{n k k':Nat}{arrs:D}{s:MS}(r:aJ h n k arrs s) (hk:k<=k'):aJ h n k' arrs s:=by
  obtain⟨bs,j,vL,vB,vs,h1,h2,h3,h4,h5⟩:=r.st
  exact⟨bs,j,vL,vB,vs,h1,h2,by omega,h4,h5⟩
theorem KJ {KH:D->Heap->Prop}{h:Heap}{esz bytes:Nat}{z s d:D}{els:List D}(ho:Own esz h s els) (hd:aH d) (hc:d.cells.length=esz) (hb:(els.length+1)*bytes<=140737488355328) (hl:els.length+1<=9223372036854775807)
    (hk:∀m h',h m=.free->h' m=.arr esz (els++[d])->(∀k,k≠m->k∉s.iT->h' k=h k)->KH (.ms m 0 (els.length+1)) h'):aa P (.app (.c s) (.c (.sl [d])) esz bytes z) h KH:=by
  refine⟨fun e he=>by simp at he;subst he;exact hc,fun y hy=>by simp at hy;subst hy;exact hd,?_⟩
  rcases ho with⟨rfl,rfl⟩|⟨m,rfl,hm⟩
  · exact⟨⟨by simpa using hb,by simp⟩,fun n t=>hk n _ t.free (ag _ _ _) fun k hk _=>ab _ _ hk⟩
  · refine⟨els,.of hm,by simp,⟨by simpa using hb,by simpa using hl⟩,fun n t=>⟨?_,fun h0=>absurd rfl h0⟩⟩
    refine hk n _ t.free (ag _ _ _) fun k hkf hne=>?_
    have h2:k≠m:=by rintro rfl;exact hne (by simp[D.iT])
    rw[ab _ _ hkf,ab _ _ h2]
theorem As {KH:D->Heap->Prop}{h:Heap}{esz bytes:Nat}{z z' s d:D}{els:List D}(ho:Own esz h s els) (hd:wy d) (hc:d.cells.length=esz) (hb:(els.length+1)*bytes<=140737488355328) (hl:els.length+1<=9223372036854775807)
    (hk:∀m h',h m=.free->h' m=.arr esz (els++[d])->(∀k,k≠m->k∉s.iT->h k≠.free->h' k=h k)->KH (.ms m 0 (els.length+1)) h') :
    aa P (.bldS true esz 1 z [(0,.c d)]) h fun x h1=>aa P (.app (.c s) (.c x) esz bytes z') h1 KH:=by
  refine KG hd.vd hd.one hc fun n5 t=>?_
  have hx:((aj h n5 (.arr esz [d])) n5).row=some (esz,[d]):=by rw[ag];rfl
  refine⟨[d],hx,by simp,?_⟩
  simp only[List.drop_zero,List.take_succ_cons,List.take_zero]
  refine⟨fun y hy=>by simp at hy;subst hy;exact hd.one,?_⟩
  have eF:∀n,lq (aj h n5 (.arr esz [d])) n->h n=.free/\n≠n5:=by
    intro n tn
    have:=tn.free
    by_cases he:n=n5
    · subst he;rw[ag]at this;cases this
    · rw[ab _ _ he]at this;exact⟨this,he⟩
  rcases ho with⟨rfl,rfl⟩|⟨m,rfl,hm⟩
  · refine⟨⟨by simpa using hb,by simp⟩,fun n tn=>?_⟩
    obtain⟨f1,f2⟩:=eF n tn
    exact hk n _ f1 (ag _ _ _) fun k hk _ hkf=>by rw[ab _ _ hk,ab _ _ (t.ne hkf)]
  · have hmn:m≠n5:=t.ne (by rw[hm];simp)
    refine⟨els,.of (by rw[ab _ _ hmn];exact hm),by simp,⟨by simpa using hb,by simpa using hl⟩,fun n tn=>⟨?_,fun h0=>absurd rfl h0⟩⟩
    obtain⟨f1,f2⟩:=eF n tn
    refine hk n _ f1 (ag _ _ _) fun k hkf hne hkk=>?_
    have h2:k≠m:=by rintro rfl;exact hne (by simp[D.iT])
    rw[ab _ _ hkf,ab _ _ h2,ab _ _ (t.ne hkk)]
end Go.Am
namespace Go.Am
open Go
theorem rC {n:Int}:aO PP bO [.int .i64 n] (· = (gk n).e):=by
  refine db pY (aq _ _ _) rfl (yG _ _) ?_
  unfold wg
  rw[zr]
  simp[DT,nR,Jr,h_ldp,DQ,DR,FF,gN,fillD,qb]
  exact AU (er.nT ⟨2,n,0⟩) rfl
theorem qn {v:Int}:aO PP cu [.int .i32 v] (· = (Const v).e):=by
  refine db vC (aq _ _ _) rfl (vj _ _) ?_
  unfold rD
  rw[zr]
  simp[DT,nR,Jr,h_ldp,DQ,DR,FF,gN,fillD,qb]
  exact AU (er.nT ⟨1,0,v⟩) rfl
theorem HG {bs:List Nat}{k:Nat}{d:D}(h:(bs.map fun(b:Nat)=>D.int .u8 (b:Int))[k]?=some d):∃b,b∈bs/\d=.int .u8 b:=by
  simp only[List.getElem?_map,Option.map_eq_some_iff]at h
  obtain⟨b,hb,rfl⟩:=h
  exact⟨b,List.mem_of_getElem? hb,rfl⟩
theorem AG {h:Heap}{n j:Nat}{bs:List Nat}{rest:List D}(hn:h n=.box (.agg (sT bs::.int .i64 (j:Int)::rest))) (hb:∀b∈bs,b<=255) (hl:bs.length<=9223372036854775807) (hj:j<4611686018427387904){KH:D->Heap->Prop}
    (hK:∀b:Nat,b<=255->KH (.int .i64 (b:Int)) (aj h n (.box (.agg (sT bs::.int .i64 ((j+1:Nat):Int)::rest))))):af PP ah [.ptr n 0 0] h KH:=by
  refine cA oN (aq _ _ _) rfl (oF _ _) ?_
  unfold kA
  have w1:IntKind.i64.wrap ((j:Int)+1)=((j+1:Nat):Int):=by rw[wrap64 (by omega) (by omega)];rfl
  simp only[↓pB,hn,Slot.live,Slot.used,true_and,↓u6,↓ec,iD,Nat.zero_add,List.getElem?_cons_succ,List.getElem?_cons_zero,↓dE,w1,↓jS]
  refine⟨rfl,by simp,by simp,?_⟩
  have hset:setCells (D.agg (sT bs::.int .i64 (j:Int)::rest)) 1 (D.int .i64 ((j+1:Nat):Int)).cells=.agg (sT bs::.int .i64 ((j+1:Nat):Int)::rest):=by simp[setCells]
  rw[hset]
  obtain⟨hA,eA⟩:∃hA,hA=aj h n (.box (.agg (sT bs::.int .i64 ((j+1:Nat):Int)::rest))):=⟨_,rfl⟩
  rw[<- eA]at hK ⊢
  have a1:hA n=.box (.agg (sT bs::.int .i64 ((j+1:Nat):Int)::rest)):=by rw[eA,ag]
  have e1:(∃v,hA n=.box v)=True:=eq_true ⟨_,a1⟩
  simp only[↓xx,a1,Slot.used,true_and,↓qH,↓u6,a1,↓ec,iD,Nat.zero_add,List.getElem?_cons_succ,List.getElem?_cons_zero,sT,↓oT,List.length_map,↓qS]
  by_cases hc:bs.length<j+1
  · have hc':(bs.length:Int)<((j+1:Nat):Int):=by omega
    simp only[hc',decide_true,aF]
    exact hK 0 (by omega)
  · have hc':¬(bs.length:Int)<((j+1:Nat):Int):=by omega
    have w2:IntKind.i64.wrap (((j+1:Nat):Int)-1)=(j:Int):=by rw[wrap64 (by omega) (by omega)];omega
    simp only[hc',decide_false,aC,↓kd,w2,↓ku,↓yi,List.length_map]
    refine⟨by omega,by omega,fun d hd=>?_⟩
    obtain⟨b,hbm,rfl⟩:=HG hd
    have hb2:=hb b hbm
    have w3:IntKind.i64.wrap (b:Int)=(b:Int):=wrap64 (by omega) (by omega)
    simp only[zM,List.length_singleton,true_and,↓qH,↓yh,↓ec,List.getElem?_cons_zero,↓CV,↓lK,w3]
    exact hK b hb2
theorem cY {h:Heap}{n k:Nat}{arrs:D}{s:MS}(r:aJ h n k arrs s) (hk:k<1000000){KH:D->Heap->Prop}(hK:∀(b:Nat) (h':Heap),b<=255->aJ h' n (k+1) arrs s->aA n h h'->KH (.int .i64 (b:Int)) h') :
    af PP ah [.ptr n 0 0] h KH:=by
  obtain⟨bs,j,vL,vB,vs,h1,h2,h3,h4,h5⟩:=r.st
  refine AG h4 h1 h2 (by omega) fun b hb=>hK b _ hb ⟨bs,j+1,vL,vB,vs,h1,h2,by omega,ag _ _ _,h5.box h4 _⟩ aA.self
theorem aS (a b:Nat):((a:Int).tmod (b:Int))=((a % b:Nat):Int):=(Int.ofNat_tmod a b).symm
theorem wa {h:Heap}{n k:Nat}{arrs:D}{s:MS}(r:aJ h n k arrs s) (hk:k<1000000){KH:D->Heap->Prop}(hK:∀(b:Nat) (h':Heap),b<6->aJ h' n (k+1) arrs s->aA n h h'->KH (gk (b:Int)).e h') :
    af PP aK [.ptr n 0 0] h KH:=by
  refine cA jg (aq _ _ _) rfl (jd _ _) ?_
  unfold gT
  rw[gM]
  intro m t
  obtain⟨r1,hne⟩:=r.new t.free (.box (.agg [(.int .i64 0),(.int .i64 0),(.int .i32 0)]))
  refine cY r1 hk fun b h' hb r2 hkeep=>?_
  have hm:=hkeep m _ hne (ag _ _ _)
  have e6:((b:Int).tmod 6)=((b % 6:Nat):Int):=aS b 6
  rw[cq]
  refine⟨by omega,?_⟩
  rw[e6]
  refine eh rC ⟨aV,trivial⟩ ?_
  simp only[↓jS,hm]
  refine⟨by first|rfl|trivial,(er.nT _).one,by first|rfl|trivial,by simp,?_⟩
  have hset:setCells (.agg [(.int .i64 0),(.int .i64 0),(.int .i32 0)]) 0 (gk ((b % 6:Nat):Int)).e.cells=(gk ((b % 6:Nat):Int)).e:=rfl
  rw[hset]
  simp only[↓u6,ag,true_and]
  refine⟨by simp[er.e,er.cs],?_⟩
  refine hK (b % 6) _ (Nat.mod_lt _ (by omega)) (r2.cc hm hne _) fun q d hq hd=>?_
  have hqm:q≠m:=by rintro rfl;rw[t.free]at hd;cases hd
  rw[ab _ _ hqm]
  exact hkeep q d hq (by rw[ab _ _ hqm];exact hd)
def we (o:er):Prop:=(∃b:Nat,b<6/\o=gk b)\/∃v:Int,-20<=v/\v<=65/\o=Const v
theorem ru {h:Heap}{n k:Nat}{arrs:D}{s:MS}(r:aJ h n k arrs s) (hk:k<1000000){KH:D->Heap->Prop}(hK:∀(o:er) (h':Heap),we o->aJ h' n (k+1) arrs s->aA n h h'->KH o.e h') :
    af PP aI [.ptr n 0 0] h KH:=by
  refine cA jf (aq _ _ _) rfl (jb _ _) ?_
  unfold gR
  rw[gM]
  intro m t
  obtain⟨r1,hne⟩:=r.new t.free (.box (.agg [(.int .i64 0),(.int .i64 0),(.int .i32 0)]))
  refine cY r1 hk fun b h' hb r2 hkeep=>?_
  have hm:=hkeep m _ hne (ag _ _ _)
  have fin:∀o:er,we o->aa PP (.st (.c (.ptr m 0 0)) (.c o.e) 3) h' fun _ h1=>aa PP (.ld (.c (.ptr m 0 0)) 3 true) h1 fun a _=>KH a h1:=by
    intro o ho
    simp only[↓jS,hm]
    refine⟨by first|rfl|trivial,(er.nT _).one,by first|rfl|trivial,by simp[er.e,er.cs],?_⟩
    have hset:setCells (.agg [(.int .i64 0),(.int .i64 0),(.int .i32 0)]) 0 o.e.cells=o.e:=rfl
    rw[hset]
    simp only[↓u6,ag,true_and]
    refine⟨by simp[er.e,er.cs],?_⟩
    refine hK o _ ho (r2.cc hm hne _) fun q d hq hd=>?_
    have hqm:q≠m:=by rintro rfl;rw[t.free]at hd;cases hd
    rw[ab _ _ hqm]
    exact hkeep q d hq (by rw[ab _ _ hqm];exact hd)
  have e3:((b:Int).tmod 3)=((b % 3:Nat):Int):=aS b 3
  have d3:IntKind.i64.wrap ((b:Int).tdiv 3)=((b / 3:Nat):Int):=by
    have:((b:Int).tdiv 3)=((b / 3:Nat):Int):=(Int.ofNat_tdiv b 3).symm
    rw[this];exact wrap64 (by omega) (by omega)
  rw[cq]
  refine⟨by omega,?_⟩
  rw[e3,eg]
  by_cases hc:b % 3=0
  · have hc':((b % 3:Nat):Int)=0:=by omega
    simp only[hc',decide_true,aF,↓Du]
    refine⟨by omega,?_⟩
    have w:IntKind.i32.wrap ((b / 3:Nat):Int)=((b / 3:Nat):Int):=by simp only[IntKind.wrap,IntKind.signed,IntKind.bits];simp;omega
    have w2:IntKind.i32.wrap (((b / 3:Nat):Int)-20)=((b / 3:Nat):Int)-20:=by simp only[IntKind.wrap,IntKind.signed,IntKind.bits];simp;omega
    rw[d3,lK,w,kd,w2]
    refine eh qn ⟨aV,trivial⟩ ?_
    exact fin _ (Or.inr ⟨_,by omega,by omega,rfl⟩)
  · have hc':¬((b % 3:Nat):Int)=0:=by omega
    simp only[hc',decide_false,aC,↓Du]
    refine⟨by omega,?_⟩
    rw[d3,cq]
    refine⟨by omega,?_⟩
    have e6:(((b / 3:Nat):Int).tmod 6)=((b / 3 % 6:Nat):Int):=aS (b / 3) 6
    rw[e6]
    refine eh rC ⟨aV,trivial⟩ ?_
    exact fin _ (Or.inl ⟨b / 3 % 6,Nat.mod_lt _ (by omega),rfl⟩)
theorem gg {vs:List D}{bs:List Block}(h:vs.length=bs.length):(bI vs bs).length=bs.length:=by simp[bI,h]
theorem E5 {vs:List D}{bs:List Block}(h:vs.length=bs.length) (v:D) (b:Block):bI (vs++[v]) (bs++[b])=bI vs bs++[.agg (v::b.t.cs)]:=by
  simp[bI,List.zipWith_append h]
theorem u9 {vs:List D}{bs:List Block}{k:Nat}{v:D}{b:Block}(h1:vs[k]?=some v) (h2:bs[k]?=some b):(bI vs bs)[k]?=some (.agg (v::b.t.cs)):=by
  simp[bI,List.getElem?_zipWith,h1,h2]
theorem zK {vs:List D}{bs:List Block}(h:vs.length=bs.length){k:Nat}(hk:k<bs.length) (v:D) (b:Block):(bI vs bs).set k (.agg (v::b.t.cs))=bI (vs.set k v) (bs.set k b):=by
  refine List.ext_getElem? fun i=>?_
  simp only[bI,List.getElem?_set,List.length_zipWith,List.getElem?_zipWith,h,Nat.min_self]
  by_cases hi:k=i
  · subst hi;simp[hk]
  · simp[hi]
theorem tm {esz:Nat}{h:Heap}{v:D}{els:List D}(ho:Own esz h v els) (hne:els≠[]):∃n,v=.ms n 0 els.length/\h n=.arr esz els:=by
  rcases ho with⟨-,h2⟩|h
  · exact absurd h2 hne
  · exact h
theorem Ic:(D.agg (.nil::iw.cs))=.agg [.nil,.int .i64 0,.int .i64 0,.int .i64 0,.int .i64 0,.int .i32 0,.int .i64 0,.int .i64 0,.int .i32 0,.int .i64 0,.int .i64 0,.int .i32 0,.int .i64 0,.int .i64 0]:=rfl
theorem aT {d:D}{l:List D}:bc (d::l)=d.iT++bc l:=by simp[bc]
theorem mS {l l':List D}:bc (l++l')=bc l++bc l':=by simp[bc]
theorem jN {d:D}{l:List D}(h:d∈l){k:Nat}(hk:k∈d.iT):k∈bc l:=List.mem_flatMap.2 ⟨d,h,hk⟩
theorem IM {h:Heap}{n k:Nat}{arrs:D}{s:MS}(r:aJ h n k arrs s) (hlen:s.blocks.length<1000){KH:D->Heap->Prop}
    (hK:∀h':Heap,aJ h' n k arrs { s with blocks:=s.blocks++[⟨[],iw⟩] }->aA n h h'->KH (.tup []) h'):af PP aP [.ptr n 0 0] h KH:=by
  refine cA ny (aq _ _ _) rfl (np _ _) ?_
  unfold jD
  obtain⟨bs,j,vL,vB,vs,h1,h2,h3,h4,h5⟩:=r.st
  simp only[↓pB,h4,Slot.live,Slot.used,true_and,↓u6,b6,↓ec,iD,Nat.zero_add,Nat.reduceAdd,List.getElem?_cons_succ,List.getElem?_cons_zero,↓nR]
  refine⟨by intro p hp;simp at hp,?_⟩
  have hel:=gg h5.len
  simp only[List.map_nil,fillD]
  have hd:wy (D.agg (.nil::iw.cs)):=eW (by simp[Term.cs,iw])
  rw[<- Ic]
  refine As h5.oB hd rfl (by rw[hel];omega) (by rw[hel];omega) fun m h' f1 f2 f3=>?_
  have hnm:n≠m:=by rintro rfl;rw[h4]at f1;cases f1
  have hnB:n∉vB.iT:=fun hm=>by have:=mR h5.oB hm;rw[h4]at this;cases this
  have h4':h' n=h n:=f3 n hnm hnB (by rw[h4];simp)
  simp only[↓pB,h4',h4,Slot.live,Slot.used,true_and,b6,Nat.zero_add,Nat.reduceAdd,↓jS]
  refine⟨rfl,by simp,by simp,?_⟩
  refine hK _ ⟨bs,j,vL,.ms m 0 ((bI vs s.blocks).length+1),vs++[.nil],h1,h2,h3,?_,?_⟩ fun q d hq hd=>?_
  · rw[ag];simp[setCells,b6]
  ·
    have hnew:∀k',k'∈bc (vL::vB::vs)->h k'≠.free:=fun k' hk'=>by obtain⟨e,l,hkl⟩:=h5.arr hk';rw[hkl];simp
    have hmn:m∉bc (vL::vB::vs):=fun hm=>hnew m hm f1
    have hnd:=h5.nd
    rw[aT,aT]at hnd hmn
    simp only[List.mem_append,not_or]at hmn
    have same:∀k',k'∈bc (vL::vs)->(aj h' n (.box (setCells (.agg [sT bs,.int .i64 (j:Int),.int .i64 s.group,.int .i64 s.sub,.int .i64 s.regs,.int .i64 0,.int .i64 3,arrs,vL,vB]) 9 (D.ms m 0 ((bI vs s.blocks).length+1)).cells))) k'=h k':=by
      intro k' hk'
      rw[aT,List.mem_append]at hk'
      have hkk:k'∈bc (vL::vB::vs):=by rw[aT,aT];simp only[List.mem_append];rcases hk' with h|h<;>simp[h]
      have e1:k'≠n:=by
        rintro rfl
        obtain⟨e,l,hkl⟩:=h5.arr hkk
        rw[h4]at hkl;cases hkl
      have e2:k'≠m:=by
        rintro rfl
        rcases hk' with h|h
        · exact hmn.1 h
        · exact hmn.2.2 h
      have e3:k'∉vB.iT:=by
        intro hB
        rcases hk' with h|h
        · exact(List.nodup_append.1 hnd).2.2 k' h k' (by simp[hB]) rfl
        · exact(List.nodup_append.1 (List.nodup_append.1 hnd).2.1).2.2 k' hB k' h rfl
      rw[ab _ _ e1]
      exact f3 k' e2 e3 (hnew k' hkk)
    have oB':Own 14 h' (.ms m 0 ((bI vs s.blocks).length+1)) (bI (vs++[.nil]) (s.blocks++[⟨[],iw⟩])):=by
      rw[E5 h5.len]
      exact Or.inr ⟨m,by simp,f2⟩
    refine⟨cw h5.oL fun k' q=>same k' (jN (by simp) q),cw oB' fun k' q=>?_,by simp[h5.len],fun i v b hv hb=>?_,?_⟩
    · simp only[D.iT,List.mem_singleton]at q
      subst q
      exact ab _ _ hnm.symm
    · rcases Nat.lt_or_ge i vs.length with hi|hi
      · rw[List.getElem?_append_left hi]at hv
        rw[List.getElem?_append_left (by rw[<- h5.len];exact hi)]at hb
        refine cw (h5.oI i v b hv hb) fun k' q=>same k' (jN ?_ q)
        have:=List.mem_of_getElem? hv
        simp[this]
      · rw[List.getElem?_append_right hi]at hv
        rw[List.getElem?_append_right (by rw[<- h5.len];exact hi)]at hb
        have hz:i-vs.length=0:=by
          have:=(List.getElem?_eq_some_iff.1 hv).1
          simp at this;omega
        rw[<- h5.len,hz]at hb
        rw[hz]at hv
        simp at hv hb
        subst hv hb
        exact Or.inl ⟨rfl,rfl⟩
    · rw[aT,aT,mS]
      simp only[D.iT,bc,List.flatMap_cons,List.flatMap_nil,List.append_nil,List.singleton_append]
      have hndL:=(List.nodup_append.1 hnd).1
      have hndR:=(List.nodup_append.1 (List.nodup_append.1 hnd).2.1).2.1
      have hnLR:∀a∈vL.iT,∀b,b∈bc vs->a≠b:=fun a ha b hb=>(List.nodup_append.1 hnd).2.2 a ha b (by simp[hb])
      refine List.nodup_append.2 ⟨hndL,List.nodup_cons.2 ⟨hmn.2.2,hndR⟩,fun a ha b hb=>?_⟩
      rcases List.mem_cons.1 hb with rfl|hb
      · rintro rfl;exact hmn.1 ha
      · exact hnLR a ha b hb
  · rw[ab _ _ hq]
    have e2:q≠m:=by rintro rfl;rw[hd]at f1;cases f1
    have e3:q∉vB.iT:=fun hm=>by have:=mR h5.oB hm;rw[hd]at this;cases this
    rw[f3 q e2 e3 (by rw[hd];simp)];exact hd
def y4 (bs:List Block) (i:Nat) (t:Term):List Block:=bs.modify i fun b=>{ b with t:=t }
def wT (bs:List Block) (i:Nat) (x:bg):List Block:=bs.modify i fun b=>{ b with i:=b.i++[x] }
theorem mX {α:Type}{l:List α}{i:Nat}{a:α}{f:α->α}(h:l[i]?=some a):l.modify i f=l.set i (f a):=by
  refine List.ext_getElem? fun k=>?_
  rw[List.getElem?_modify,List.getElem?_set]
  by_cases e:i=k
  · subst e
    have:=(List.getElem?_eq_some_iff.1 h).1
    have e2:=(List.getElem?_eq_some_iff.1 h).2
    simp[this,e2]
  · simp[e]
theorem xN {bs:List Block}{i:Nat}{t:Term}:(y4 bs i t).length=bs.length:=by simp[y4]
theorem Cg {bs:List Block}{i:Nat}{t:bg}:(wT bs i t).length=bs.length:=by simp[wT]
theorem aJ.some {h:Heap}{n k:Nat}{arrs:D}{s:MS}(r:aJ h n k arrs s) (hne:s.blocks≠[]):∃(bs:List Nat) (j:Nat) (vL:D) (nb:Nat) (vs:List D),(∀b∈bs,b<=255)/\bs.length<=9223372036854775807/\j<=k /\
    h n=.box (b6 bs j arrs s vL (.ms nb 0 s.blocks.length))/\h nb=.arr 14 (bI vs s.blocks)/\Rows h s.loops s.blocks vL (.ms nb 0 s.blocks.length) vs:=by
  obtain⟨bs,j,vL,vB,vs,h1,h2,h3,h4,h5⟩:=r.st
  have hel:=gg h5.len
  obtain⟨nb,e1,e2⟩:=tm h5.oB (by
    intro he
    have:=congrArg List.length he
    rw[hel]at this
    exact hne (List.length_eq_zero_iff.1 this))
  rw[hel]at e1
  subst e1
  exact⟨bs,j,vL,nb,vs,h1,h2,h3,h4,e2,h5⟩
theorem Rows.LA {h:Heap}{loops:List Loop}{blocks blocks':List Block}{vL:D}{nb:Nat}{vs vs':List D}(r:Rows h loops blocks vL (.ms nb 0 blocks.length) vs) (hl:blocks'.length=blocks.length) (hv:vs'.length=blocks'.length){h':Heap}
    (hkeep:∀k,k∈bc (vL::vs)->k∈bc (vL::vs')->h' k=h k) (hnb:h' nb=.arr 14 (bI vs' blocks')) (hL:∀k∈vL.iT,h' k=h k)
    (hI:∀(k:Nat) (v:D) (b:Block),vs'[k]?=some v->blocks'[k]?=some b->Own 15 h' v (b.i.map bg.e)) (hnd:(bc (vL::D.ms nb 0 blocks.length::vs')).Nodup):Rows h' loops blocks' vL (.ms nb 0 blocks'.length) vs':=by
  refine⟨cw r.oL hL,Or.inr ⟨nb,by rw[gg hv],hnb⟩,hv,hI,?_⟩
  rw[hl];exact hnd
theorem Rows.fresh {h:Heap}{loops:List Loop}{blocks:List Block}{vL vB:D}{vs:List D}(r:Rows h loops blocks vL vB vs){m:Nat}(hm:h m=.free):m∉bc (vL::vB::vs):=fun hk=>by
  obtain⟨e,l,hkl⟩:=r.arr hk
  rw[hm]at hkl;cases hkl
theorem tt {vL:D}{nb l:Nat}{vs:List D}(h:(bc (vL::D.ms nb 0 l::vs)).Nodup):nb∉bc (vL::vs)/\(bc (vL::vs)).Nodup:=by
  rw[aT,aT]at h
  rw[aT]
  simp only[D.iT]at h
  have h1:=List.nodup_append.1 h
  have h2:=List.nodup_cons.1 (show(nb::bc vs).Nodup from h1.2.1)
  refine⟨fun hm=>?_,List.nodup_append.2 ⟨h1.1,h2.2,fun a ha b hb=>h1.2.2 a ha b (by simp[hb])⟩⟩
  rcases List.mem_append.1 hm with hm|hm
  · exact h1.2.2 nb hm nb (by simp) rfl
  · exact h2.1 hm
theorem Ii {h:Heap}{n k i:Nat}{arrs:D}{s:MS}{t:Term}{bs:List Nat}{j nb:Nat}{vL:D}{vs:List D}(h1:∀b∈bs,b<=255) (h2:bs.length<=9223372036854775807) (h3:j<=k) (h4:h n=.box (b6 bs j arrs s vL (.ms nb 0 s.blocks.length)))
    (h5:h nb=.arr 14 (bI vs s.blocks)) (h6:Rows h s.loops s.blocks vL (.ms nb 0 s.blocks.length) vs) (hi:i<s.blocks.length) {KH:D->Heap->Prop}
    (hK:∀h',aJ h' n k arrs { s with blocks:=y4 s.blocks i t }->aA n h h'->KH .undef h'):aa PP (.st (.c (.ptr nb i 1)) (.c t.e) 13) h KH:=by
  have hel:=gg h6.len
  obtain⟨v,hv⟩:∃v,vs[i]?=some v:=⟨vs[i]'(by rw[h6.len];exact hi),List.getElem?_eq_getElem _⟩
  obtain⟨b,hb⟩:∃b,s.blocks[i]?=some b:=⟨s.blocks[i],List.getElem?_eq_getElem _⟩
  have hget:=u9 hv hb
  rw[jS]
  simp only[h5,hget,Option.some.injEq,forall_eq']
  refine⟨rfl,(Term.nT t).one,by rw[hel];exact hi,by simp[Term.e,Term.cs],?_⟩
  have hset:setCells (.agg (v::b.t.cs)) 1 t.e.cells=.agg (v::t.cs):=by simp[setCells,Term.e,Term.cs]
  rw[hset]
  have hmod:y4 s.blocks i t=s.blocks.set i { b with t:=t }:=by
    rw[y4];exact mX hb
  have e1:(bI vs s.blocks).set i (.agg (v::t.cs))=bI vs (y4 s.blocks i t):=by
    have:=zK h6.len hi v { b with t:=t }
    rw[show vs.set i v=vs from ?_]at this
    · rw[hmod];exact this
    · refine List.ext_getElem? fun q=>?_
      rw[List.getElem?_set]
      split
      · rename_i hq;subst hq;rw[if_pos (by rw[h6.len];exact hi),hv]
      · rfl
  rw[e1]
  have nnb:n≠nb:=by rintro rfl;rw[h4]at h5;cases h5
  obtain⟨hs1,hs2⟩:=tt h6.nd
  refine hK _ ⟨bs,j,vL,.ms nb 0 (y4 s.blocks i t).length,vs,h1,h2,h3,?_,?_⟩ fun q d hq hd=>?_
  · rw[ab _ _ nnb,h4,xN];rfl
  · refine Rows.LA h6 (by rw[xN]) (by rw[xN];exact h6.len) (fun q hq _=>?_) (ag _ _ _) (fun q hq=>?_) (fun q v' b' hv' hb'=>?_) h6.nd
    · rw[ab _ _ (by rintro rfl;exact hs1 hq)]
    · rw[ab _ _ (by rintro rfl;exact hs1 (by rw[aT];simp[hq]))]
    · obtain⟨b2,hb2,NP⟩:∃b2,s.blocks[q]?=some b2/\b'.i=b2.i:=by
        simp only[y4,List.getElem?_modify]at hb'
        cases hq:s.blocks[q]? with
        | none=>rw[hq]at hb';simp at hb'
        | some b2 =>
          rw[hq]at hb'
          simp at hb'
          refine⟨b2,rfl,?_⟩
          rw[<- hb'];split<;>rfl
      rw[NP]
      refine cw (h6.oI q v' b2 hv' hb2) fun q' hq'=>?_
      rw[ab _ _ (by rintro rfl;exact hs1 (by rw[aT];simp[jN (List.mem_of_getElem? hv') hq']))]
  · rw[ab _ _ (by rintro rfl;rw[hd]at h5;cases h5)];exact hd
set_option maxHeartbeats 1000000 in
theorem My {h:Heap}{n k:Nat}{arrs:D}{s:MS}{x:bg}{L:Nat}(r:aJ h n k arrs s) (hL:s.blocks.length=L+1) (hlen:L<1000) (hil:∀b∈s.blocks,b.i.length<1000){KH:D->Heap->Prop}
    (hK:∀h':Heap,aJ h' n k arrs { s with blocks:=wT s.blocks L x }->aA n h h'->KH (.tup []) h'):af PP aw [.ptr n 0 0,x.e] h KH:=by
  refine cA pX (aq _ _ _) rfl (pO _ _ _) ?_
  unfold ll
  rw[D1]
  refine⟨(bg.nT x).one,fun m t=>?_⟩
  obtain⟨r1,hmn⟩:=r.new t.free (.box x.e)
  obtain⟨hA,eA⟩:∃hA,hA=aj h m (.box x.e):=⟨_,rfl⟩
  rw[<- eA]at r1 ⊢
  have am:hA m=.box x.e:=by rw[eA,ag]
  have keepA:aA n h hA:=by rw[eA];exact aA.new t.free
  obtain⟨bs,j,vL,nb,vs,h1,h2,h3,h4,h5,h6⟩:=r1.some (by intro he;rw[he]at hL;simp at hL)
  have hel:=gg h6.len
  have hLs:s.blocks.length=L+1:=hL
  obtain⟨v,hv⟩:∃v,vs[L]?=some v:=⟨vs[L]'(by rw[h6.len,hLs];omega),List.getElem?_eq_getElem _⟩
  obtain⟨b,hb⟩:∃b,s.blocks[L]?=some b:=⟨s.blocks[L]'(by rw[hLs];omega),List.getElem?_eq_getElem _⟩
  have hget:=u9 hv hb
  have w1:IntKind.i64.wrap (((L+1:Nat):Int)-1)=(L:Int):=by rw[wrap64 (by omega) (by omega)];omega
  have c1:(0:Int)<=(L:Int):=by omega
  have c2:(L:Int)<((L+1:Nat):Int):=by omega
  have hbl:=hil b (List.mem_of_getElem? hb)
  have oV:=h6.oI L v b hv hb
  have hrow:(∃els,(Slot.arr 14 (bI vs s.blocks)).row=some (14,els))=True:=eq_true ⟨_,rfl⟩
  have hLe:(L<(bI vs s.blocks).length)=True:=eq_true (by rw[hel,hLs];omega)
  simp only[↓pB,h4,Slot.used,true_and,↓u6,b6,↓ec,iD,Nat.zero_add,Nat.reduceAdd,List.getElem?_cons_succ,List.getElem?_cons_zero,↓mM,h5,Slot.live,hLs,↓kd,w1,↓xx,↓qH,↓ku,↓pA,c1,c2,hrow,Int.toNat_natCast,hLe,hget,Option.some.injEq,forall_eq',am,↓qb]
  refine⟨Nat.le_refl _,?_⟩
  have hbld:∀{Q:D->Prop}{h:Heap}{z:D},(∀y∈z.cells,y.vone=true)->Q (.sl [x.e])->ae PP (.bldS false 15 1 z [(0,.c (.agg (List.take 15 (List.drop 0 x.e.cells))))]) h Q:=by
    intro Q h z hz hq
    have e1:D.agg (List.take 15 (List.drop 0 x.e.cells))=x.e:=rfl
    rw[e1]
    refine⟨?_,?_,hz,hq⟩
    · intro p hp;simp[Arg.get]at hp;subst hp;exact⟨Nat.one_pos,rfl,(bg.nT x).one⟩
    · intro p hp;simp[Arg.get]at hp;subst hp;intro y hy;simp[bg.e,bg.cs]at hy;rcases hy with rfl|rfl|rfl|rfl|rfl|rfl|rfl|rfl|rfl|rfl|rfl|rfl|rfl|rfl|rfl<;>rfl
  refine hbld (by simp) ?_
  refine KJ oV (bg.nT x).one rfl (by simp;omega) (by simp;omega) fun m2 hB f1 f2 f3=>?_
  have vB:nb∉v.iT:=fun hm=>by
    have:=(tt h6.nd).1
    exact this (by rw[aT];exact List.mem_append_right _ (jN (List.mem_of_getElem? hv) hm))
  have vN:n∉v.iT:=fun hm=>by have:=mR oV hm;rw[h4]at this;cases this
  have n2:n≠m2:=by rintro rfl;rw[h4]at f1;cases f1
  have b2:nb≠m2:=by rintro rfl;rw[h5]at f1;cases f1
  have nnb:n≠nb:=by rintro rfl;rw[h4]at h5;cases h5
  have g4:hB n=Slot.box (b6 bs j arrs s vL (D.ms nb 0 s.blocks.length)):=by rw[f3 n n2 vN];exact h4
  have g5:hB nb=Slot.arr 14 (bI vs s.blocks):=by rw[f3 nb b2 vB];exact h5
  simp only[g4,g5,b6,iD,List.getElem?_cons_succ,List.getElem?_cons_zero,hLs,al,hrow,true_and,↓jS]
  have hset:setCells (.agg (v::b.t.cs)) 0 (D.ms m2 0 ((List.map bg.e b.i).length+1)).cells=.agg (D.ms m2 0 ((List.map bg.e b.i).length+1)::b.t.cs):=by simp[setCells]
  refine⟨rfl,by simp,by rw[hel,hLs];omega,by simp,fun d hd=>?_⟩
  rw[hget]at hd
  cases hd
  rw[hset]
  have els2:(bI vs s.blocks).set L (.agg (D.ms m2 0 ((List.map bg.e b.i).length+1)::b.t.cs))=bI (vs.set L (.ms m2 0 (b.i.length+1))) (wT s.blocks L x):=by
    have:=zK h6.len (k:=L) (by rw[hLs];omega) (.ms m2 0 (b.i.length+1)) { b with i:=b.i++[x] }
    rw[List.length_map,wT,mX hb]
    exact this
  rw[els2]
  obtain⟨hC,eC⟩:∃hC,hC=aj hB nb (.arr 14 (bI (vs.set L (.ms m2 0 (b.i.length+1))) (wT s.blocks L x))):=⟨_,rfl⟩
  rw[<- eC]
  have k4:hC n=Slot.box (b6 bs j arrs s vL (D.ms nb 0 s.blocks.length)):=by rw[eC,ab _ _ nnb];exact g4
  have k5:hC nb=.arr 14 (bI (vs.set L (.ms m2 0 (b.i.length+1))) (wT s.blocks L x)):=by rw[eC,ag]
  have k6:∀q,q≠m2->q∉v.iT->q≠nb->hC q=hA q:=fun q q1 q2 q3=>by rw[eC,ab _ _ q3];exact f3 q q1 q2
  have k7:hC m2=.arr 15 (b.i.map bg.e++[x.e]):=by rw[eC,ab _ _ b2.symm];exact f2
  simp only[k4,k5,b6,iD,List.getElem?_cons_succ,List.getElem?_cons_zero,hLs,al,true_and]
  refine⟨by simp[Slot.row],?_⟩
  have fr:m2∉bc (vL::D.ms nb 0 s.blocks.length::vs):=h6.fresh f1
  have hvs:(vs.set L (D.ms m2 0 (b.i.length+1))).length=(wT s.blocks L x).length:=by rw[List.length_set,h6.len,Cg]
  obtain⟨hs1,hs2⟩:=tt h6.nd
  have hLv:L<vs.length:=(List.getElem?_eq_some_iff.1 hv).1
  have split:∃p q,vs=p++v::q/\p.length=L:=by
    refine⟨vs.take L,vs.drop (L+1),?_,by simp;omega⟩
    have:=List.getElem?_eq_some_iff.1 hv
    rw[<- this.2]
    exact(List.take_append_drop L vs).symm.trans (by rw[List.drop_eq_getElem_cons hLv])
  obtain⟨p,q,epq,epl⟩:=split
  have eset:vs.set L (D.ms m2 0 (b.i.length+1))=p++D.ms m2 0 (b.i.length+1)::q:=by
    rw[epq, <- epl];simp
  have nd0:(bc (vL::vs)).Nodup:=hs2
  rw[epq,aT,mS,aT]at nd0
  have ndL:=List.nodup_append.1 nd0
  have ndP:=List.nodup_append.1 ndL.2.1
  have ndQ:=List.nodup_append.1 ndP.2.1
  have memV:∀k',k'∈v.iT->∀k2,(k2∈vL.iT\/k2∈bc p\/k2∈bc q)->k2≠k':=by
    intro k' hk' k2 hk2
    rcases hk2 with h|h|h
    · exact ndL.2.2 k2 h k' (by simp[hk'])
    · exact ndP.2.2 k2 h k' (by simp[hk'])
    · exact fun e=>ndQ.2.2 k' hk' k2 h e.symm
  have frP:∀k2,(k2∈vL.iT\/k2∈bc p\/k2∈bc q)->k2≠m2/\k2∉v.iT/\k2≠nb:=by
    intro k2 hk2
    have hin:k2∈bc (vL::vs):=by
      rw[epq,aT,mS,aT]
      simp only[List.mem_append]
      rcases hk2 with h|h|h<;>simp[h]
    refine⟨?_,fun hm=>memV k2 hm k2 hk2 rfl,fun e=>hs1 (e ▸ hin)⟩
    rintro rfl
    refine fr ?_
    rw[aT]at hin
    rw[aT,aT]
    simp only[List.mem_append]at hin ⊢
    rcases hin with h|h<;>simp[h]
  refine hK _ ⟨bs,j,vL,.ms nb 0 (wT s.blocks L x).length,vs.set L (.ms m2 0 (b.i.length+1)),h1,h2,h3,by rw[Cg];exact k4,?_⟩ fun q' d hq hd=>?_
  · refine⟨cw h6.oL fun k' hk'=>?_,Or.inr ⟨nb,by rw[gg hvs],k5⟩,hvs,fun k' v' b' hv' hb'=>?_,?_⟩
    · obtain⟨q1,q2,q3⟩:=frP k' (Or.inl hk')
      exact k6 k' q1 q2 q3
    · rw[wT,mX hb]at hb'
      rw[List.getElem?_set]at hv' hb'
      by_cases e:L=k'
      · subst e
        rw[if_pos rfl,if_pos hLv]at hv'
        rw[if_pos rfl,if_pos (by rw[hLs];omega)]at hb'
        cases hv';cases hb'
        exact Or.inr ⟨m2,by simp,by rw[k7];simp⟩
      · rw[if_neg e]at hv' hb'
        refine cw (h6.oI k' v' b' hv' hb') fun k2 hk2=>?_
        have hpq:k2∈bc p\/k2∈bc q:=by
          rw[epq]at hv'
          rcases Nat.lt_or_ge k' L with h|h
          · rw[List.getElem?_append_left (by omega)]at hv'
            exact Or.inl (jN (List.mem_of_getElem? hv') hk2)
          · rw[List.getElem?_append_right (by omega)]at hv'
            obtain⟨w,hw⟩:∃w,k'-p.length=w+1:=⟨k'-p.length-1,by omega⟩
            rw[hw,List.getElem?_cons_succ]at hv'
            exact Or.inr (jN (List.mem_of_getElem? hv') hk2)
        obtain⟨q1,q2,q3⟩:=frP k2 (Or.inr hpq)
        exact k6 k2 q1 q2 q3
    · rw[eset,aT,aT,mS,aT]
      show(vL.iT++(nb::(bc p++(m2::bc q)))).Nodup
      have nbp:∀k2,(k2∈vL.iT\/k2∈bc p\/k2∈bc q)->k2≠nb:=fun k2 h=>(frP k2 h).2.2
      have m2p:∀k2,(k2∈vL.iT\/k2∈bc p\/k2∈bc q)->k2≠m2:=fun k2 h=>(frP k2 h).1
      refine List.nodup_append.2 ⟨ndL.1,?_,?_⟩
      · refine List.nodup_cons.2 ⟨?_,List.nodup_append.2 ⟨ndP.1,List.nodup_cons.2 ⟨fun h=>m2p m2 (Or.inr (Or.inr h)) rfl,ndQ.2.1⟩,?_⟩⟩
        · simp only[List.mem_append,List.mem_cons,List.not_mem_nil,or_false,List.singleton_append]
          rintro (h|h|h)
          · exact nbp nb (Or.inr (Or.inl h)) rfl
          · exact b2 h
          · exact nbp nb (Or.inr (Or.inr h)) rfl
        · intro a ha c hc
          rcases List.mem_cons.1 hc with rfl|hc
          · exact m2p a (Or.inr (Or.inl ha))
          · exact ndP.2.2 a ha c (by simp[hc])
      · intro a ha c hc
        rcases List.mem_cons.1 hc with rfl|hc
        · exact nbp a (Or.inl ha)
        rcases List.mem_append.1 hc with hc|hc
        · exact ndL.2.2 a ha c (by simp[hc])
        rcases List.mem_cons.1 hc with rfl|hc
        · exact m2p a (Or.inl ha)
        · exact ndL.2.2 a ha c (by simp[hc])
  · have e0:=keepA q' d hq hd
    have q1:q'≠m2:=by rintro rfl;rw[e0]at f1;cases f1
    have q2:q'∉v.iT:=fun hm=>by have:=mR oV hm;rw[e0]at this;cases this
    have q3:q'≠nb:=by rintro rfl;rw[e0]at h5;cases h5
    rw[k6 q' q1 q2 q3];exact e0
end Go.Am
namespace Go.Am
open Go
theorem er.len (o:er):o.e.cells.length=3:=rfl
theorem er.HX (o:er):o.e.cells.all D.one=true:=rfl
theorem Term.len (o:Term):o.e.cells.length=13:=rfl
def jn (s:MS) (pre:List Block) (is:List bg) (t:Term):MS:={ s with blocks:=pre++[⟨is,t⟩] }
structure Ft (pre:List Block) (is:List bg) (N:Nat):Prop where
  p:pre.length<=50
  b:∀b∈pre,b.i.length<=100
  i:is.length<=N
theorem Ft.le {pre:List Block}{is is':List bg}{N M:Nat}(b:Ft pre is N) (h:is'.length<=M):Ft pre is' M:=⟨b.p,b.b,h⟩
theorem vX {α:Type}(l:List α) (a:α) (f:α->α):(l++[a]).modify l.length f=l++[f a]:=by
  rw[mX (a:=a) (by simp)]
  simp
theorem G9 {h:Heap}{n k:Nat}{arrs:D}{s:MS}{pre:List Block}{is:List bg}{t:Term}{x:bg}(r:aJ h n k arrs (jn s pre is t)) (hb:Ft pre is 900){KH:D->Heap->Prop}
    (hK:∀h':Heap,aJ h' n k arrs (jn s pre (is++[x]) t)->aA n h h'->KH (.tup []) h'):af PP aw [.ptr n 0 0,x.e] h KH:=by
  refine My (L:=pre.length) r (by simp[jn]) (by have:=hb.p;omega) (fun b hbm=>?_) fun h' r' hk=>hK h' ?_ hk
  · simp only[jn,List.mem_append,List.mem_singleton]at hbm
    rcases hbm with hbm|rfl
    · have:=hb.b b hbm;omega
    · have:=hb.i;simp only;omega
  · have:wT (jn s pre is t).blocks pre.length x=pre++[⟨is++[x],t⟩]:=by simp only[jn,wT];rw[vX]
    rw[this]at r'
    exact r'
def tX:List vG:=[⟨⟨#[97]⟩,1,1,8⟩,⟨⟨#[102]⟩,1,2,4⟩,⟨⟨#[115]⟩,2,1,8⟩,⟨⟨#[112]⟩,3,1,4⟩,⟨⟨#[98]⟩,2,3,4⟩]
def aW:D:=.sl (tX.map vG.e)
def yC (n:Int):Int:=if n=0\/n=2 then 8 else 4
def vY (d:er) (a:er) (n:Int):bg:=⟨3,17,0,d,a,Const (yC n-1),an⟩
theorem aJ.box {h:Heap}{n k:Nat}{arrs:D}{s:MS}(r:aJ h n k arrs s):∃(bs:List Nat) (j:Nat) (vL vB:D),h n=.box (b6 bs j arrs s vL vB):=by
  obtain⟨bs,j,vL,vB,vs,-,-,-,h1,-⟩:=r.st
  exact⟨_,_,_,_,h1⟩
section
variable {P:Program}{KH:D->Heap->Prop}{K:D->Prop}{h:Heap}
theorem NO {m:Nat}{o:er}(a:h m=.box o.e):aa P (.ld (.c (.ptr m 0 0)) 3 true) h KH=KH o.e h:=uZ a
theorem y7 {m:Nat}{o:er}(a:h m=.box o.e):ae P (.ld (.c (.ptr m 0 0)) 3 true) h K=K o.e:=by rw[qH,NO a]
theorem ML {m:Nat}{o o':er}(a:h m=.box o.e):aa P (.st (.c (.ptr m 0 0)) (.c o'.e) 3) h KH=KH .undef (aj h m (.box o'.e)):=by
  unfold er.e er.cs at *
  exact M6 a
theorem qm {n i j o:Nat}(a:(h n).used=true):ae P (.fadd (.c (.ptr n i j)) o) h K=K (.ptr n i (j+o)):=by rw[xx,a];simp
theorem DY {n i j o:Nat}(a:(h n).used=true):aa P (.fadd (.c (.ptr n i j)) o) h KH=KH (.ptr n i (j+o)) h:=by rw[pB,a];simp
end
def Dd (q:Nat):D:=((tX.map vG.e)[q]?).getD .undef
theorem zO (q:Nat) (hq:q<5):(tX.map vG.e)[q]?=some (Dd q)/\(Dd q).cells.length=4/\(Dd q).cells[3]?=some (.int .i64 (yC q)):=by
  have:q=0\/q=1\/q=2\/q=3\/q=4:=by omega
  rcases this with rfl|rfl|rfl|rfl|rfl<;>exact⟨rfl,rfl,rfl⟩
theorem ng (q:Int):yC q=8\/yC q=4:=by unfold yC;split<;>simp
theorem yA {P:Program}{K:D->Prop}{h:Heap}{q:Nat}(hq:q<5):ae P (.iadd (.c (.sl (tX.map vG.e))) (.c (.int .i64 (q:Int))) 4) h K=K (.vp (Dd q) 0):=by
  obtain⟨h1,h2,h3⟩:=zO q hq
  have hl:(List.map vG.e tX).length=5:=rfl
  rw[ku,yi,Int.toNat_natCast,h1,hl]
  apply propext
  constructor
  · rintro⟨-,-,h⟩;exact(h _ rfl).2
  · intro hk;exact⟨by omega,by omega,fun d hd=>by cases hd;exact⟨h2,hk⟩⟩
theorem B8 {P:Program}{K:D->Prop}{h:Heap}{q:Nat}(hq:q<5):ae P (.ld (.c (.vp (Dd q) 3)) 1 false) h K=K (.int .i64 (yC q)):=by
  rw[qH,yh,ec,(zO q hq).2.2]
theorem B9 {P:Program}{K:D->Prop}{h:Heap}{q:Nat}:ae P (.fadd (.c (.vp (Dd q) 0)) 3) h K=K (.vp (Dd q) 3):=rfl
theorem Ej {h:Heap}{n k:Nat}{s:MS}{pre:List Block}{is:List bg}{t:Term}{priv:Bool}(r:aJ h n k aW (jn s pre is t)) (hb:Ft pre is 800) (hk:k<900000){KH:D->Heap->Prop}
    (hK:∀(q:Nat) (d:Nat) (a:er) (h':Heap),q<5->(priv=false->q≠3)->d<6->we a->aJ h' n (k+3) aW (jn s pre (is++[vY (gk d) a q]) t)->aA n h h'->KH (.tup [.int .i64 (q:Int),(gk (d:Int)).e]) h') :
    af PP cj [.ptr n 0 0,.bool priv] h KH:=by
  refine cA nv (aq _ _ _) rfl (ni _ _ _) ?_
  unfold jB
  rw[gM]
  intro m t0
  obtain⟨r1,hne⟩:=r.new t0.free (.box an.e)
  have k1:aA n h (aj h m (.box an.e)):=aA.new t0.free
  refine cY r1 (by omega) fun b hA _ r2 k2=>?_
  have hm:=k2 m _ hne (ag _ _ _)
  have k12:=k1.trans k2
  rw[cq]
  refine⟨by omega,?_⟩
  have e5:((b:Int).tmod 5)=((b % 5:Nat):Int):=aS b 5
  rw[e5]
  refine⟨fun qs h'=>∃q:Nat,qs=[.int .i64 (q:Int)]/\q<5/\(priv=false->q≠3)/\aJ h' n (k+1) aW (jn s pre is t)/\h' m=.box an.e/\aA n h h',?_,?_⟩
  · rintro f hB ⟨q,hq,hq5,hp,r3,hm3,k3⟩
    simp only[List.cons.injEq,and_true]at hq
    rw[hq]
    refine wa r3 (by omega) fun d hC hd r4 k4=>?_
    rw[gM]
    intro m5 t5
    obtain⟨r5,hne5⟩:=r4.new t5.free (.box an.e)
    have hm4:=(aA.new t5.free:aA n hC (aj hC m5 (.box an.e))) m _ hne (k4 m _ hne hm3)
    have k5:=(k3.trans k4).trans (aA.new t5.free:aA n hC (aj hC m5 (.box an.e)))
    have a5:=ag hC m5 (.box an.e)
    have hmm:m≠m5:=t5.ne (by rw[k4 m _ hne hm3];simp)
    show aa PP _ (aj hC m5 (.box an.e)) _
    generalize aj hC m5 (.box an.e)=hD at r5 hm4 k5 a5
    have a6:=ag hD m5 (.box (gk (d:Int)).e)
    have r6:=r5.cc a5 hne5 (.box (gk (d:Int)).e)
    have hm6:aj hD m5 (.box (gk (d:Int)).e) m=.box an.e:=by rw[ab _ _ hmm];exact hm4
    rw[ML a5]
    have k6:aA n h (aj hD m5 (.box (gk (d:Int)).e)):=fun q' d' hq' hd'=>by
      have h1:=k5 q' d' hq' hd'
      by_cases e:q'=m5
      · subst e
        exfalso
        have h2:=k4 q' d' hq' (k3 q' d' hq' hd')
        rw[t5.free]at h2;cases h2
      · rw[ab _ _ e];exact h1
    generalize aj hD m5 (.box (gk (d:Int)).e)=hE at r6 hm6 k6 a6
    obtain⟨bs,j,vL,vB,e⟩:=r6.box
    have eu:(hE n).used=true:=by rw[e];rfl
    unfold b6 at e
    have w1:IntKind.i64.wrap (yC q-1)=yC q-1:=by rcases ng q with h|h<;>rw[h]<;>rfl
    have w2:IntKind.i32.wrap (yC q-1)=yC q-1:=by rcases ng q with h|h<;>rw[h]<;>rfl
    simp only[↓y7 a6,↓qm eu,Nat.zero_add,Nat.reduceAdd,↓pH e (j:=7) rfl,aW,↓yA hq5,↓B9,↓B8 hq5,↓kd,w1,↓CV,↓lK,w2]
    refine ru r6 (by omega) fun o hF ho r7 k7=>?_
    have a7:=k7 m5 _ hne5 a6
    have hm7:=k7 m _ hne hm6
    obtain⟨bs',j',vL',vB',e'⟩:=r7.box
    have eu':(hF n).used=true:=by rw[e'];rfl
    unfold b6 at e'
    simp only[↓y7 a7,↓qm eu',Nat.zero_add,Nat.reduceAdd,↓pH e' (j:=7) rfl,aW,↓yA hq5,↓B9,↓B8 hq5,al,true_and]
    refine zZ qn ⟨aV,trivial⟩ ?_
    rw[Eh,nR]
    refine⟨kr rfl,?_⟩
    refine G9 (x:=vY (gk d) o q) r7 (hb.le (by have:=hb.i;omega)) fun hG r8 k8=>?_
    have a8:=k8 m5 _ hne5 a7
    have hm8:=k8 m _ hne hm7
    simp only[↓y7 a8,↓ML hm8,↓NO (ag _ _ _)]
    refine hK q d o _ hq5 hp hd ho (r8.cc hm8 hne _) fun q' d' hq' hd'=>?_
    have h1:=k8 q' d' hq' (k7 q' d' hq' (k6 q' d' hq' hd'))
    by_cases ee:q'=m
    · subst ee;rw[t0.free]at hd';cases hd'
    · rw[ab _ _ ee];exact h1
  · rw[eg]
    by_cases h3:b % 5=3
    · have h3':(((b % 5:Nat):Int)=3)=True:=eq_true (by omega)
      simp only[h3',decide_true,↓Nm,↓Nn,↓Nq,↓Np,↓Je]
      cases priv
      · simp only[Bool.not_false,↓Bh,↓aF]
        exact⟨rfl,0,rfl,by omega,fun _=>by omega,r2,hm,k12⟩
      · simp only[Bool.not_true,↓Bh,↓aC]
        exact⟨rfl,b % 5,rfl,Nat.mod_lt _ (by omega),fun h=>(by cases h),r2,hm,k12⟩
    · have h3':(((b % 5:Nat):Int)=3)=False:=eq_false (by omega)
      simp only[h3',decide_false,↓Nm,↓Nn,↓Nq,↓Np,↓Je,↓A7,↓Gd,↓aC]
      exact⟨rfl,b % 5,rfl,Nat.mod_lt _ (by omega),fun _=>h3,r2,hm,k12⟩
end Go.Am
namespace Go.Am
open Go
def kQ (R:Int) (o:er):Prop:=∃r:Int,0<=r/\r<R/\o=gk r
def oD (R:Int) (o:er):Prop:=kQ R o\/∃v:Int,-2147483648<=v/\v<=2147483647/\o=Const v
theorem kQ.val {R:Int}{o:er}(h:kQ R o):oD R o:=Or.inl h
theorem kQ.mono {R R':Int}(h:R<=R'){o:er}(r:kQ R o):kQ R' o:=by obtain⟨a,b,c,d⟩:=r;exact⟨a,b,by omega,d⟩
theorem oD.mono {R R':Int}(h:R<=R'){o:er}(r:oD R o):oD R' o:=r.imp (kQ.mono h) id
theorem we.o {o:er}(h:we o):oD 6 o:=by
  rcases h with⟨b,hb,rfl⟩|⟨v,h1,h2,rfl⟩
  · exact Or.inl ⟨b,by omega,by omega,rfl⟩
  · exact Or.inr ⟨v,by omega,by omega,rfl⟩
theorem cP {b:Nat}(h:b<6):kQ 6 (gk (b:Int)):=⟨b,by omega,by omega,rfl⟩
inductive AQ (R:Int):bg->Prop
  | mov (d a:er) (h1:kQ R d) (h2:oD R a):AQ R ⟨1,0,0,d,a,an,an⟩
  | un (s:Int) (d a:er) (h0:1<=s/\s<=5) (h1:kQ R d) (h2:oD R a):AQ R ⟨2,s,0,d,a,an,an⟩
  | bin (s:Int) (d a b:er) (h0:10<=s/\s<=29) (h1:kQ R d) (h2:oD R a) (h3:oD R b):AQ R ⟨3,s,0,d,a,b,an⟩
  | sel (d a b c:er) (h1:kQ R d) (h2:oD R a) (h3:oD R b) (h4:oD R c):AQ R ⟨4,0,0,d,a,b,c⟩
  | id (s:Int) (d:er) (h0:1<=s/\s<=7) (h1:kQ R d):AQ R ⟨5,s,0,d,an,an,an⟩
  | param (n:Int) (d:er) (h0:0<=n/\n<3) (h1:kQ R d):AQ R ⟨6,0,n,d,an,an,an⟩
  | load (n:Int) (d a:er) (h0:0<=n/\n<5) (h1:kQ R d) (h2:kQ R a):AQ R ⟨7,0,n,d,a,an,an⟩
  | store (n:Int) (a b:er) (h0:0<=n/\n<5) (h1:kQ R a) (h2:oD R b):AQ R ⟨8,0,n,an,a,b,an⟩
  | atom (s n:Int) (a b:er) (hs:s=10\/s=22\/s=23\/s=17\/s=18\/s=19) (h0:0<=n/\n<5/\n≠3) (h1:kQ R a) (h2:oD R b):AQ R ⟨9,s,n,an,a,b,an⟩
  | fence (s:Int) (h0:s=1\/s=2):AQ R ⟨10,s,0,an,an,an,an⟩
theorem AQ.mono {R R':Int}(h:R<=R'){x:bg}(i:AQ R x):AQ R' x:=by
  cases i with
  | mov d a h1 h2=>exact .mov d a (h1.mono h) (h2.mono h)
  | un s d a h0 h1 h2=>exact .un s d a h0 (h1.mono h) (h2.mono h)
  | bin s d a b h0 h1 h2 h3=>exact .bin s d a b h0 (h1.mono h) (h2.mono h) (h3.mono h)
  | sel d a b c h1 h2 h3 h4=>exact .sel d a b c (h1.mono h) (h2.mono h) (h3.mono h) (h4.mono h)
  | id s d h0 h1=>exact .id s d h0 (h1.mono h)
  | param n d h0 h1=>exact .param n d h0 (h1.mono h)
  | load n d a h0 h1 h2=>exact .load n d a h0 (h1.mono h) (h2.mono h)
  | store n a b h0 h1 h2=>exact .store n a b h0 (h1.mono h) (h2.mono h)
  | atom s n a b hs h0 h1 h2=>exact .atom s n a b hs h0 (h1.mono h) (h2.mono h)
  | fence s h0=>exact .fence s h0
def jT (R:Int) (xs:List bg):Prop:=∀(k:Nat) (x:bg),xs[k]?=some x->AQ R x/\((x.op=7\/x.op=8\/x.op=9)->∃(j:Nat) (a:er),k=j+1/\xs[j]?=some (vY x.a a x.n)/\oD R a)
theorem jT.nil {R:Int}:jT R []:=fun k x h=>by simp at h
theorem jT.one {R:Int}{x:bg}(i:AQ R x) (h:¬(x.op=7\/x.op=8\/x.op=9)):jT R [x]:=fun k y hy=>by
  cases k with
  | zero=>simp at hy;subst hy;exact⟨i,fun hx=>absurd hx h⟩
  | succ k=>simp at hy
theorem jT.two {R:Int}{x y:bg}{a:er}(hx:AQ R x) (hy:AQ R y) (he:x=vY y.a a y.n) (ha:oD R a) (hn:¬(x.op=7\/x.op=8\/x.op=9)):jT R [x,y]:=fun k z hz=>by
  match k with
  | 0=>simp at hz;subst hz;exact⟨hx,fun h=>absurd h hn⟩
  | 1=>simp at hz;subst hz;exact⟨hy,fun _=>⟨0,a,rfl,by simp[he],ha⟩⟩
  | k+2=>simp at hz
theorem jT.append {R:Int}{xs ys:List bg}(hx:jT R xs) (hy:jT R ys):jT R (xs++ys):=fun k x h=>by
  rcases Nat.lt_or_ge k xs.length with hk|hk
  · rw[List.getElem?_append_left hk]at h
    obtain⟨h1,h2⟩:=hx k x h
    refine⟨h1,fun ho=>?_⟩
    obtain⟨j,a,e,q,v⟩:=h2 ho
    exact⟨j,a,e,by rw[List.getElem?_append_left (by omega)];exact q,v⟩
  · rw[List.getElem?_append_right hk]at h
    obtain⟨h1,h2⟩:=hy _ x h
    refine⟨h1,fun ho=>?_⟩
    obtain⟨j,a,e,q,v⟩:=h2 ho
    exact⟨xs.length+j,a,by omega,by rw[List.getElem?_append_right (by omega)];simpa using q,v⟩
theorem jT.mono {R R':Int}(h:R<=R'){xs:List bg}(x:jT R xs):jT R' xs:=fun k y hy=>by
  obtain⟨h1,h2⟩:=x k y hy
  refine⟨h1.mono h,fun ho=>?_⟩
  obtain⟨j,a,e,q,v⟩:=h2 ho
  exact⟨j,a,e,q,v.mono h⟩
theorem Ak {d:Nat}{a:er}{q:Nat}(hd:d<6) (ha:we a):AQ 6 (vY (gk (d:Int)) a (q:Int)) :=
  .bin 17 _ _ _ (by omega) (cP hd) ha.o (Or.inr ⟨yC q-1,by rcases ng q with h|h<;>omega,by rcases ng q with h|h<;>omega,rfl⟩)
theorem gQ {h:Heap}{n k:Nat}{arrs:D}{s:MS}{pre:List Block}{is:List bg}{t:Term}{z:List D}{ps:List (Nat×Nat×Arg)}{KH:D->Heap->Prop}(x:bg) (r:aJ h n k arrs (jn s pre is t)) (hb:Ft pre is 900)
    (hf:qi z.length (ps.map fun p=>(p.1,p.2.1,p.2.2.get []))=true) (hx:D.agg (fillD z (ps.map fun p=>(p.1,p.2.1,(p.2.2.get []).cells)))=x.e)
    (hK:∀h':Heap,aJ h' n k arrs (jn s pre (is++[x]) t)->aA n h h'->KH (.tup []) h') :
    aa PP (.bld z ps) h fun a h1=>af PP aw [.ptr n 0 0,a] h1 KH:=by
  rw[nR]
  refine⟨kr hf,?_⟩
  rw[hx]
  exact G9 r hb hK
theorem yz {h:Heap}{n k:Nat}{arrs:D}{s:MS}{pre:List Block}{is:List bg}{t:Term}{z:List D}{ps:List (Nat×Nat×Arg)}{KH:D->Heap->Prop}(x:bg) (r:aJ h n k arrs (jn s pre is t)) (hb:Ft pre is 900)
    (hf:qi z.length (ps.map fun p=>(p.1,p.2.1,p.2.2.get []))=true) (hx:D.agg (fillD z (ps.map fun p=>(p.1,p.2.1,(p.2.2.get []).cells)))=x.e)
    (hK:∀h':Heap,aJ h' n k arrs (jn s pre (is++[x]) t)->aA n h h'->KH (.tup []) h') :
    ae PP (.bld z ps) h fun a=>af PP aw [.ptr n 0 0,a] h KH:=by
  rw[Eh];exact gQ x r hb hf hx hK
set_option maxHeartbeats 1000000 in
theorem K4 {h:Heap}{n k:Nat}{s:MS}{pre:List Block}{is:List bg}{t:Term}(r:aJ h n k aW (jn s pre is t)) (hb:Ft pre is 700) (hk:k<800000){KH:D->Heap->Prop}
    (hK:∀(xs:List bg) (h':Heap),jT 6 xs->xs.length<=2->aJ h' n (k+10) aW (jn s pre (is++xs) t)->aA n h h'->KH (.tup []) h') :
    af PP dM [.ptr n 0 0] h KH:=by
  refine cA oP (aq _ _ _) rfl (oH _ _) ?_
  unfold kC
  have hb9:Ft pre is 900:=hb.le (by have:=hb.i;omega)
  refine cY r (by omega) fun b0 h1 _ r1 k1=>?_
  rw[cq]
  refine⟨by omega,?_⟩
  have e16:((b0:Int).tmod 16)=((b0 % 16:Nat):Int):=aS b0 16
  rw[e16]
  have hc16:b0 % 16<16:=Nat.mod_lt _ (by omega)
  generalize b0 % 16=c at hc16
  rw[nI]
  by_cases hc3:c<3
  · simp only[show((c:Int)<3)=True from eq_true (by omega),decide_true,↓aF]
    refine cY r1 (by omega) fun b h2 _ r2 k2=>?_
    rw[cq]
    refine⟨by omega,?_⟩
    rw[show((b:Int).tmod 7)=((b % 7:Nat):Int) from aS b 7,dE,wrap64 (by omega) (by omega)]
    refine wa r2 (by omega) fun d h3 hd r3 k3=>?_
    refine gQ ⟨5,1+((b % 7:Nat):Int),0,gk d,an,an,an⟩ r3 hb9 rfl rfl fun h4 r4 k4=>?_
    exact hK _ h4 (.one (.id _ _ (by omega) (cP hd)) (by simp)) (by simp) (r4.le (by omega)) (((k1.trans k2).trans k3).trans k4)
  simp only[show((c:Int)<3)=False from eq_false (by omega),decide_false,↓aC]
  rw[nI]
  by_cases hc7:c<7
  · simp only[show((c:Int)<7)=True from eq_true (by omega),decide_true,↓aF]
    refine cY r1 (by omega) fun b h2 _ r2 k2=>?_
    rw[cq]
    refine⟨by omega,?_⟩
    rw[show((b:Int).tmod 20)=((b % 20:Nat):Int) from aS b 20,dE,wrap64 (by omega) (by omega)]
    refine wa r2 (by omega) fun d h3 hd r3 k3=>?_
    refine ru r3 (by omega) fun o h4 ho r4 k4=>?_
    refine ru r4 (by omega) fun p h5 hp r5 k5=>?_
    refine gQ ⟨3,10+((b % 20:Nat):Int),0,gk d,o,p,an⟩ r5 hb9 rfl rfl fun h6 r6 k6=>?_
    exact hK _ h6 (.one (.bin _ _ _ _ (by omega) (cP hd) ho.o hp.o) (by simp)) (by simp) (r6.le (by omega)) (((((k1.trans k2).trans k3).trans k4).trans k5).trans k6)
  simp only[show((c:Int)<7)=False from eq_false (by omega),decide_false,↓aC]
  rw[eg]
  by_cases h7:c=7
  · simp only[show((c:Int)=7)=True from eq_true (by omega),decide_true,↓aF]
    refine cY r1 (by omega) fun b h2 _ r2 k2=>?_
    rw[cq]
    refine⟨by omega,?_⟩
    rw[show((b:Int).tmod 5)=((b % 5:Nat):Int) from aS b 5,dE,wrap64 (by omega) (by omega)]
    refine wa r2 (by omega) fun d h3 hd r3 k3=>?_
    refine ru r3 (by omega) fun o h4 ho r4 k4=>?_
    refine gQ ⟨2,1+((b % 5:Nat):Int),0,gk d,o,an,an⟩ r4 hb9 rfl rfl fun h6 r6 k6=>?_
    exact hK _ h6 (.one (.un _ _ _ (by omega) (cP hd) ho.o) (by simp)) (by simp) (r6.le (by omega)) ((((k1.trans k2).trans k3).trans k4).trans k6)
  simp only[show((c:Int)=7)=False from eq_false (by omega),decide_false,↓aC]
  rw[eg]
  by_cases h8:c=8
  · simp only[show((c:Int)=8)=True from eq_true (by omega),decide_true,↓aF]
    refine wa r1 (by omega) fun d h3 hd r3 k3=>?_
    refine ru r3 (by omega) fun o h4 ho r4 k4=>?_
    refine ru r4 (by omega) fun p h5 hp r5 k5=>?_
    refine ru r5 (by omega) fun q h6 hq r6 k6=>?_
    refine gQ ⟨4,0,0,gk d,o,p,q⟩ r6 hb9 rfl rfl fun h7 r7 k7=>?_
    exact hK _ h7 (.one (.sel _ _ _ _ (cP hd) ho.o hp.o hq.o) (by simp)) (by simp) (r7.le (by omega)) (((((k1.trans k3).trans k4).trans k5).trans k6).trans k7)
  simp only[show((c:Int)=8)=False from eq_false (by omega),decide_false,↓aC]
  rw[eg]
  by_cases h9:c=9
  · simp only[show((c:Int)=9)=True from eq_true (by omega),decide_true,↓aF]
    refine wa r1 (by omega) fun d h3 hd r3 k3=>?_
    refine ru r3 (by omega) fun o h4 ho r4 k4=>?_
    refine gQ ⟨1,0,0,gk d,o,an,an⟩ r4 hb9 rfl rfl fun h7 r7 k7=>?_
    exact hK _ h7 (.one (.mov _ _ (cP hd) ho.o) (by simp)) (by simp) (r7.le (by omega)) (((k1.trans k3).trans k4).trans k7)
  simp only[show((c:Int)=9)=False from eq_false (by omega),decide_false,↓aC]
  rw[eg]
  by_cases h10:c=10
  · simp only[show((c:Int)=10)=True from eq_true (by omega),decide_true,↓aF]
    refine cY r1 (by omega) fun b h2 _ r2 k2=>?_
    rw[cq]
    refine⟨by omega,?_⟩
    rw[show((b:Int).tmod 3)=((b % 3:Nat):Int) from aS b 3]
    refine wa r2 (by omega) fun d h3 hd r3 k3=>?_
    refine gQ ⟨6,0,((b % 3:Nat):Int),gk d,an,an,an⟩ r3 hb9 rfl rfl fun h7 r7 k7=>?_
    exact hK _ h7 (.one (.param _ _ (by omega) (cP hd)) (by simp)) (by simp) (r7.le (by omega)) (((k1.trans k2).trans k3).trans k7)
  simp only[show((c:Int)=10)=False from eq_false (by omega),decide_false,↓aC]
  rw[eg]
  by_cases h11:c=11
  · simp only[show((c:Int)=11)=True from eq_true (by omega),decide_true,↓aF]
    refine cY r1 (by omega) fun b h2 _ r2 k2=>?_
    rw[cq]
    refine⟨by omega,?_⟩
    rw[show((b:Int).tmod 2)=((b % 2:Nat):Int) from aS b 2,dE,wrap64 (by omega) (by omega)]
    refine gQ ⟨10,1+((b % 2:Nat):Int),0,an,an,an,an⟩ r2 hb9 rfl rfl fun h7 r7 k7=>?_
    exact hK _ h7 (.one (.fence _ (by omega)) (by simp)) (by simp) (r7.le (by omega)) ((k1.trans k2).trans k7)
  simp only[show((c:Int)=11)=False from eq_false (by omega),decide_false,↓aC]
  rw[eg]
  by_cases h12:c=12
  · simp only[show((c:Int)=12)=True from eq_true (by omega),decide_true,↓aF]
    refine Ej r1 (hb.le (by have:=hb.i;omega)) (by omega) fun q d a h2 hq hp hd ha r2 k2=>?_
    simp only[↓IB,↓IA]
    rw[gM]
    intro m t0
    obtain⟨r3,hne⟩:=r2.new t0.free (.box an.e)
    have a3:=ag h2 m (.box an.e)
    have k3:aA n h2 (aj h2 m (.box an.e)):=aA.new t0.free
    show aa PP _ (aj h2 m (.box an.e)) _
    have key:aA n h2 (aj (aj h2 m (.box an.e)) m (.box (gk (d:Int)).e)):=by rw[zX];exact aA.new t0.free
    rw[ML a3]
    have r4:=r3.cc a3 hne (.box (gk (d:Int)).e)
    have a4:=ag (aj h2 m (.box an.e)) m (.box (gk (d:Int)).e)
    generalize aj (aj h2 m (.box an.e)) m (.box (gk (d:Int)).e)=h3 at key r4 a4
    have hbl:∀{Q:D->Prop},ae PP (.bldS false 1 6 (.int .i64 0) [(0,(.c (.int .i64 10))),(1,(.c (.int .i64 22))),(2,(.c (.int .i64 23))),(3,(.c (.int .i64 17))),(4,(.c (.int .i64 18))),(5,(.c (.int .i64 19)))]) h3 Q=Q (.sl [.int .i64 10,.int .i64 22,.int .i64 23,.int .i64 17,.int .i64 18,.int .i64 19]):=by
      intro Q
      apply propext
      constructor
      · exact fun hh=>hh.2.2.2
      · intro hq
        refine⟨mo rfl,?_,by simp,hq⟩
        intro p hp
        simp[Arg.get]at hp
        rcases hp with rfl|rfl|rfl|rfl|rfl|rfl<;>simp
    simp only[hbl,↓y7 a4]
    refine cY r4 (by omega) fun b h4 _ r5 k5=>?_
    have a5:=k5 m _ hne a4
    simp only[↓y7 a5,al,true_and]
    rw[cq]
    refine⟨by omega,?_⟩
    rw[show((b:Int).tmod 6)=((b % 6:Nat):Int) from aS b 6]
    obtain⟨sv,hsv,hs6⟩:∃sv:Int,([.int .i64 10,.int .i64 22,.int .i64 23,.int .i64 17,.int .i64 18,.int .i64 19]:List D)[b % 6]?=some (.int .i64 sv)/\(sv=10\/sv=22\/sv=23\/sv=17\/sv=18\/sv=19):=by
      have:b % 6=0\/b % 6=1\/b % 6=2\/b % 6=3\/b % 6=4\/b % 6=5:=by omega
      rcases this with e|e|e|e|e|e<;>rw[e]<;>exact⟨_,rfl,by simp⟩
    have hi:∀{h:Heap}{Q:D->Prop},ae PP (.iadd (.c (.sl [.int .i64 10,.int .i64 22,.int .i64 23,.int .i64 17,.int .i64 18,.int .i64 19])) (.c (.int .i64 ((b % 6:Nat):Int))) 1) h Q=Q (.vp (.int .i64 sv) 0):=by
      intro h Q
      rw[ku,yi,Int.toNat_natCast,hsv]
      apply propext
      constructor
      · rintro⟨-,-,h⟩;exact(h _ rfl).2
      · intro hq;exact⟨by omega,by simp;omega,fun d hd=>by cases hd;exact⟨rfl,hq⟩⟩
    have hl:∀{h:Heap}{Q:D->Prop},ae PP (.ld (.c (.vp (.int .i64 sv) 0)) 1 false) h Q=Q (.int .i64 sv):=fun {h Q}=>by rw[qH,yh,ec];rfl
    simp only[↓hi,↓hl]
    refine ru r5 (by omega) fun o h5 ho r6 k6=>?_
    have a6:=k6 m _ hne a5
    simp only[↓hi,↓hl,↓y7 a6,al,true_and]
    refine yz ⟨9,sv,q,an,gk d,o,an⟩ r6 (hb.le (by have:=hb.i;simp;omega)) rfl rfl fun h7 r7 k7=>?_
    rw[List.append_assoc]at r7
    exact hK _ h7 (.two (a:=a) (Ak hd ha) (.atom sv (q:Int) _ _ hs6 ⟨Int.natCast_nonneg q,Int.ofNat_lt.2 hq,fun e=>hp rfl (Int.ofNat_inj.1 e)⟩ (cP hd) ho.o) rfl ha.o (by simp[vY])) (by simp) (r7.le (by omega)) (((((k1.trans k2).trans key).trans k5).trans k6).trans k7)
  simp only[show((c:Int)=12)=False from eq_false (by omega),decide_false,↓aC]
  refine Ej r1 (hb.le (by have:=hb.i;omega)) (by omega) fun q d a h2 hq hp hd ha r2 k2=>?_
  simp only[↓IB,↓IA]
  rw[gM]
  intro m t0
  obtain⟨r3,hne⟩:=r2.new t0.free (.box an.e)
  have a3:=ag h2 m (.box an.e)
  show aa PP _ (aj h2 m (.box an.e)) _
  have key:aA n h2 (aj (aj h2 m (.box an.e)) m (.box (gk (d:Int)).e)):=by rw[zX];exact aA.new t0.free
  rw[ML a3]
  have r4:=r3.cc a3 hne (.box (gk (d:Int)).e)
  have a4:=ag (aj h2 m (.box an.e)) m (.box (gk (d:Int)).e)
  generalize aj (aj h2 m (.box an.e)) m (.box (gk (d:Int)).e)=h3 at key r4 a4
  rw[eg]
  by_cases h13:c=13
  · simp only[show((c:Int)=13)=True from eq_true (by omega),decide_true,↓aF,↓y7 a4]
    refine wa r4 (by omega) fun e h4 he r5 k5=>?_
    have a5:=k5 m _ hne a4
    simp only[↓y7 a5,al,true_and]
    refine yz ⟨7,0,q,gk e,gk d,an,an⟩ r5 (hb.le (by have:=hb.i;simp;omega)) rfl rfl fun h7 r7 k7=>?_
    rw[List.append_assoc]at r7
    exact hK _ h7 (.two (a:=a) (Ak hd ha) (.load (q:Int) _ _ ⟨Int.natCast_nonneg q,Int.ofNat_lt.2 hq⟩ (cP he) (cP hd)) rfl ha.o (by simp[vY])) (by simp) (r7.le (by omega)) ((((k1.trans k2).trans key).trans k5).trans k7)
  · simp only[show((c:Int)=13)=False from eq_false (by omega),decide_false,↓aC,↓y7 a4]
    refine ru r4 (by omega) fun o h4 ho r5 k5=>?_
    have a5:=k5 m _ hne a4
    simp only[↓y7 a5,al,true_and]
    refine yz ⟨8,0,q,an,gk d,o,an⟩ r5 (hb.le (by have:=hb.i;simp;omega)) rfl rfl fun h7 r7 k7=>?_
    rw[List.append_assoc]at r7
    exact hK _ h7 (.two (a:=a) (Ak hd ha) (.store (q:Int) _ _ ⟨Int.natCast_nonneg q,Int.ofNat_lt.2 hq⟩ (cP hd) ho.o) rfl ha.o (by simp[vY])) (by simp) (r7.le (by omega)) ((((k1.trans k2).trans key).trans k5).trans k7)
theorem xy {h:Heap}{n k:Nat}{s:MS}{pre:List Block}{is:List bg}{t:Term}(r:aJ h n k aW (jn s pre is t)) (hb:Ft pre is 600) (hk:k<700000){KH:D->Heap->Prop}
    (hK:∀(xs:List bg) (h':Heap),jT 6 xs->xs.length<=8->aJ h' n (k+50) aW (jn s pre (is++xs) t)->aA n h h'->KH (.tup []) h') :
    af PP bp [.ptr n 0 0] h KH:=by
  refine cA nw (aq _ _ _) rfl (nj _ _) ?_
  unfold jC
  refine cY r (by omega) fun b h1 _ r1 k1=>?_
  rw[cq]
  refine⟨by omega,?_⟩
  rw[show((b:Int).tmod 5)=((b % 5:Nat):Int) from aS b 5]
  have hb5:b % 5<5:=Nat.mod_lt _ (by omega)
  generalize b % 5=c at hb5
  unfold gV
  refine⟨fun j q h'=>j<=4/\q=[.int .i64 (j:Int)]/\∃xs:List bg,jT 6 xs/\xs.length<=2*(4-j)/\aJ h' n (k+1+10*(4-j)) aW (jn s pre (is++xs) t)/\aA n h h',c,⟨by omega,rfl,[],.nil,by simp,by simpa using r1.le (by omega),k1⟩,?_⟩
  rintro j f h2 ⟨hj,hq,xs,hx,hl,r2,k2⟩
  simp only[List.cons.injEq,and_true]at hq
  rw[hq,qS]
  by_cases h0:0<j
  · simp only[show((0:Int)<(j:Int))=True from eq_true (by omega),decide_true,↓aF]
    refine K4 r2 (hb.le (by have:=hb.i;simp;omega)) (by omega) fun ys h3 hy hyl r3 k3=>?_
    rw[kd,wrap64 (by omega) (by omega)]
    refine⟨rfl,j-1,by omega,by omega,by congr 2;omega,xs++ys,hx.append hy,by simp;omega,?_,k2.trans k3⟩
    rw[List.append_assoc]at r3
    exact r3.le (by omega)
  · simp only[show((0:Int)<(j:Int))=False from eq_false (by omega),decide_false,↓aC]
    exact hK xs h2 hx (by omega) (r2.le (by omega)) k2
end Go.Am
namespace Go.Am
open Go
theorem jA {P:Program}{h:Heap}{KH:D->Heap->Prop}{z:List D}{ps:List (Nat×Nat×Arg)}(hf:qi z.length (ps.map fun p=>(p.1,p.2.1,p.2.2.get []))=true) :
    aa P (.bld z ps) h KH=KH (.agg (fillD z (ps.map fun p=>(p.1,p.2.1,(p.2.2.get []).cells)))) h:=by
  rw[nR,eq_true (kr hf),true_and]
theorem pI {P:Program}{h:Heap}{K:D->Prop}{z:List D}{ps:List (Nat×Nat×Arg)}(hf:qi z.length (ps.map fun p=>(p.1,p.2.1,p.2.2.get []))=true) :
    ae P (.bld z ps) h K=K (.agg (fillD z (ps.map fun p=>(p.1,p.2.1,(p.2.2.get []).cells)))):=by
  rw[Eh,jA hf]
inductive Ch (N:Nat) (R:Int):Term->Prop
  | jump (a:Nat) (h:a<N):Ch N R ⟨1,0,an,an,an,a,0⟩
  | branch (o:er) (a b:Nat) (ho:kQ R o) (h1:a<N) (h2:b<N):Ch N R ⟨2,0,an,o,an,a,b⟩
  | barrier (a:Nat) (h:a<N):Ch N R ⟨3,0,an,an,an,a,0⟩
  | collect (s:Int) (d a b:er) (t:Nat) (hs:1<=s/\s<=6) (hd:kQ R d) (ha:oD R a) (hb:oD R b) (h:t<N):Ch N R ⟨4,s,d,a,b,t,0⟩
  | exit:Ch N R ⟨5,0,an,an,an,0,0⟩
theorem Ch.mono {N N':Nat}{R R':Int}(hN:N<=N') (hR:R<=R'){t:Term}(h:Ch N R t):Ch N' R' t:=by
  cases h with
  | jump a h=>exact .jump a (by omega)
  | branch o a b ho h1 h2=>exact .branch o a b (ho.mono hR) (by omega) (by omega)
  | barrier a h=>exact .barrier a (by omega)
  | collect s d a b t hs hd ha hb h=>exact .collect s d a b t hs (hd.mono hR) (ha.mono hR) (hb.mono hR) (by omega)
  | exit=>exact .exit
structure MW (N:Nat) (R:Int) (b:Block):Prop where
  xs:jT R b.i
  len:b.i.length<=20
  t:Ch N R b.t
def ji (N:Nat) (R:Int) (bs:List Block):Prop:=∀b∈bs,MW N R b
theorem ji.mono {N N':Nat}{R R':Int}(hN:N<=N') (hR:R<=R'){bs:List Block}(h:ji N R bs):ji N' R' bs:=fun b hb=>⟨(h b hb).xs.mono hR,(h b hb).len,(h b hb).t.mono hN hR⟩
theorem ji.snoc {N:Nat}{R:Int}{bs:List Block}{b:Block}(h:ji N R bs) (hb:MW N R b):ji N R (bs++[b]):=fun c hc=>by
  rcases List.mem_append.1 hc with hc|hc
  · exact h c hc
  · simp at hc;subst hc;exact hb
theorem ji.nil {N:Nat}{R:Int}:ji N R []:=fun _ h=>by cases h
theorem ji.K9 {N:Nat}{R:Int}{bs:List Block}(h:ji N R bs) (hl:bs.length<=50){is:List bg}{M:Nat}(hi:is.length<=M):Ft bs is M:=⟨hl,fun b hb=>by have:=(h b hb).len;omega,hi⟩
theorem kT {h:Heap}{n k:Nat}{arrs:D}{s:MS}{pre:List Block}{is:List bg}{t0:Term}(r:aJ h n k arrs (jn s pre is t0)) :
    ∃(bs:List Nat) (j:Nat) (vL:D) (nb:Nat),h n=.box (.agg [sT bs,.int .i64 (j:Int),.int .i64 s.group,.int .i64 s.sub,.int .i64 s.regs,.int .i64 0,.int .i64 3,arrs,vL,.ms nb 0 (pre.length+1)])/\(h n).used=true/\(h nb).live=true /\
      (∀(t:Term) {KH:D->Heap->Prop},(∀h',aJ h' n k arrs (jn s pre is t)->aA n h h'->KH .undef h') ->
        aa PP (.iadd (.c (.ms nb 0 (pre.length+1))) (.c (.int .i64 (pre.length:Int))) 14) h fun a h1=>aa PP (.fadd (.c a) 1) h1 fun b h2=>aa PP (.st (.c b) (.c t.e) 13) h2 KH) /\
      (∀(t:Term) {KH:D->Heap->Prop},(∀h',aJ h' n k arrs (jn s pre is t)->aA n h h'->KH .undef h') ->
        ae PP (.iadd (.c (.ms nb 0 (pre.length+1))) (.c (.int .i64 (pre.length:Int))) 14) h fun a=>ae PP (.fadd (.c a) 1) h fun b=>aa PP (.st (.c b) (.c t.e) 13) h KH):=by
  obtain⟨bs,j,vL,nb,vs,h1,h2,h3,h4,h5,h6⟩:=r.some (by simp[jn])
  have hl:(jn s pre is t0).blocks.length=pre.length+1:=by simp[jn]
  have e4:h n=.box (.agg [sT bs,.int .i64 (j:Int),.int .i64 s.group,.int .i64 s.sub,.int .i64 s.regs,.int .i64 0,.int .i64 3,arrs,vL,.ms nb 0 (pre.length+1)]):=by rw[h4,b6,hl];rfl
  have st:∀(t:Term) {KH:D->Heap->Prop},(∀h',aJ h' n k arrs (jn s pre is t)->aA n h h'->KH .undef h')->aa PP (.st (.c (.ptr nb pre.length 1)) (.c t.e) 13) h KH:=by
    intro t KH hK
    refine Ii (i:=pre.length) h1 h2 h3 h4 h5 h6 (by rw[hl];omega) fun h' r' k'=>hK h' ?_ k'
    have:y4 (jn s pre is t0).blocks pre.length t=pre++[⟨is,t⟩]:=by simp only[jn,y4];rw[vX]
    rw[this]at r'
    exact r'
  have c1:((0:Int)<=(pre.length:Int))=True:=eq_true (by omega)
  have c2:((pre.length:Int)<((pre.length+1:Nat):Int))=True:=eq_true (by omega)
  have c3:(∃els,(h nb).row=some (14,els))=True:=eq_true ⟨_,by rw[h5];rfl⟩
  have eu:(h nb).used=true:=by rw[h5];rfl
  refine⟨bs,j,vL,nb,e4,by rw[h4];rfl,by rw[h5];rfl,fun t KH hK=>?_,fun t KH hK=>?_⟩
  · rw[pA,c1,c2,c3]
    simp only[true_and,Int.toNat_natCast,Nat.zero_add,↓DY eu]
    exact st t hK
  · rw[ku,pA,c1,c2,c3]
    simp only[true_and,Int.toNat_natCast,Nat.zero_add,↓qm eu]
    exact st t hK
theorem pM {h:Heap}{n k:Nat}{arrs:D}{s:MS}{bs:List Block}(r:aJ h n k arrs { s with blocks:=bs }) (hl:bs.length<=50){KH:D->Heap->Prop}
    (hK:∀h':Heap,aJ h' n k arrs (jn s bs [] iw)->aA n h h'->KH (.tup []) h'):af PP aP [.ptr n 0 0] h KH :=
  IM r (by simp only;omega) fun h' r' k'=>hK h' r' k'
theorem HI {h:Heap}{n k:Nat}{arrs:D}{s:MS}{v:Int}(r:aJ h n k arrs s){KH:D->Heap->Prop}
    (hK:∀h':Heap,aJ h' n k arrs { s with regs:=v }->aA n h h'->KH .undef h'):aa PP (.st (.c (.ptr n 0 4)) (.c (.int .i64 v)) 1) h KH:=by
  obtain⟨bs,j,vL,vB,vs,h1,h2,h3,h4,h5⟩:=r.st
  rw[jS,h4]
  refine⟨rfl,by simp,rfl,by simp[b6],?_⟩
  exact hK _ ⟨bs,j,vL,vB,vs,h1,h2,h3,by rw[ag];simp[b6,setCells],h5.box h4 _⟩ aA.self
theorem JV {h:Heap}{n k:Nat}{arrs:D}{s:MS}{v:Int}(r:aJ h n k arrs s){KH:D->Heap->Prop}
    (hK:∀h':Heap,aJ h' n k arrs { s with sub:=v }->aA n h h'->KH .undef h'):aa PP (.st (.c (.ptr n 0 3)) (.c (.int .i64 v)) 1) h KH:=by
  obtain⟨bs,j,vL,vB,vs,h1,h2,h3,h4,h5⟩:=r.st
  rw[jS,h4]
  refine⟨rfl,by simp,rfl,by simp[b6],?_⟩
  exact hK _ ⟨bs,j,vL,vB,vs,h1,h2,h3,by rw[ag];simp[b6,setCells],h5.box h4 _⟩ aA.self
theorem app_loop {h:Heap}{n k:Nat}{arrs:D}{s:MS}{l:Loop}{bytes:Nat}{z z':D}(r:aJ h n k arrs s) (hl:s.loops.length<=1000) (hby:bytes<=1000){bs0:List Nat}{j0:Nat}{vL:D}{vB:D}(e:h n=.box (b6 bs0 j0 arrs s vL vB)){KH:D->Heap->Prop}
    (hK:∀h':Heap,aJ h' n k arrs { s with loops:=s.loops++[l] }->aA n h h'->KH .undef h') :
    aa PP (.bldS true 3 1 z [(0,.c l.e)]) h fun x h1=>aa PP (.app (.c vL) (.c x) 3 bytes z') h1 fun v h2=>aa PP (.fadd (.c (.ptr n 0 0)) 0) h2 fun a h3=>aa PP (.fadd (.c a) 2) h3 fun b h4=>aa PP (.fadd (.c b) 6) h4 fun c h5=>aa PP (.st (.c c) (.c v) 1) h5 KH:=by
  obtain⟨bs,j,vL',vB',vs,h1,h2,h3,h4,h5⟩:=r.st
  have ee:vL=vL'/\vB=vB'/\bs0=bs/\j0=j:=by
    rw[e]at h4
    simp only[b6,Slot.box.injEq,D.agg.injEq,List.cons.injEq,D.int.injEq,and_true,true_and,sT,D.sl.injEq]at h4
    obtain⟨q1,q2,q3,q4⟩:=h4
    refine⟨q3,q4,?_,by omega⟩
    have:=congrArg (List.map (fun d=>match d with|D.int _ i=>i.toNat|_=>0)) q1
    simpa[List.map_map,Function.comp_def] using this
  obtain⟨rfl,rfl,rfl,rfl⟩:=ee
  have hbb:((List.map Loop.e s.loops).length+1)*bytes<=140737488355328:=by
    rw[List.length_map]
    exact Nat.le_trans (Nat.mul_le_mul (show s.loops.length+1<=1001 by omega) hby) (by omega)
  refine As h5.oL (Loop.nT l) rfl hbb (by rw[List.length_map];omega) fun m h' f1 f2 f3=>?_
  have hnm:n≠m:=by rintro rfl;rw[h4]at f1;cases f1
  have hnL:n∉vL.iT:=fun hm=>by have:=mR h5.oL hm;rw[h4]at this;cases this
  have h4':h' n=h n:=f3 n hnm hnL (by rw[h4];simp)
  have eu:(h' n).used=true:=by rw[h4',h4];rfl
  simp only[↓DY eu,Nat.zero_add,Nat.reduceAdd]
  rw[jS,h4',h4]
  refine⟨rfl,by simp,rfl,by simp[b6],?_⟩
  have hnew:∀k',k'∈bc (vL::vB::vs)->h k'≠.free:=fun k' hk'=>by obtain⟨e,l,hkl⟩:=h5.arr hk';rw[hkl];simp
  have hmn:m∉bc (vL::vB::vs):=fun hm=>hnew m hm f1
  have hnd:=h5.nd
  rw[aT]at hnd hmn
  simp only[List.mem_append,not_or]at hmn
  have hnd':=List.nodup_append.1 hnd
  have same:∀{x:Slot}(k':Nat),k'∈bc (vB::vs)->(aj h' n x) k'=h k':=by
    intro x k' hk'
    have hkk:k'∈bc (vL::vB::vs):=by rw[aT];exact List.mem_append_right _ hk'
    have e1:k'≠n:=by
      rintro rfl
      obtain⟨e,l,hkl⟩:=h5.arr hkk
      rw[h4]at hkl;cases hkl
    have e2:k'≠m:=by rintro rfl;exact hmn.2 hk'
    have e3:k'∉vL.iT:=fun hL=>hnd'.2.2 k' hL k' hk' rfl
    rw[ab _ _ e1]
    exact f3 k' e2 e3 (hnew k' hkk)
  refine hK _ ⟨bs0,j0,.ms m 0 ((List.map Loop.e s.loops).length+1),vB,vs,h1,h2,h3,by rw[ag];simp[b6,setCells],?_⟩ fun q d hq hd=>?_
  · refine⟨Or.inr ⟨m,by simp,by rw[ab _ _ hnm.symm,f2];simp⟩,cw h5.oB fun k' q=>same k' (jN (by simp) q),h5.len,fun i v b hv hb=>cw (h5.oI i v b hv hb) fun k' q=>same k' (jN ?_ q),?_⟩
    · have:=List.mem_of_getElem? hv
      simp[this]
    · rw[aT]
      exact List.nodup_cons.2 ⟨hmn.2,hnd'.2.1⟩
  · rw[ab _ _ hq]
    have e2:q≠m:=by rintro rfl;rw[hd]at f1;cases f1
    have e3:q∉vL.iT:=fun hm=>by have:=mR h5.oL hm;rw[hd]at this;cases this
    rw[f3 q e2 e3 (by rw[hd];simp)];exact hd
structure AL (h:Heap) (n k:Nat) (arrs:D) (s:MS) (vL vB:D):Prop where
  st:∃(bs:List Nat) (j:Nat) (vs:List D),(∀b∈bs,b<=255)/\bs.length<=9223372036854775807/\j<=k/\h n=.box (b6 bs j arrs s vL vB)/\Rows h s.loops s.blocks vL vB vs
theorem AL.rel {h:Heap}{n k:Nat}{arrs:D}{s:MS}{vL vB:D}(r:AL h n k arrs s vL vB):aJ h n k arrs s:=by
  obtain⟨bs,j,vs,h1,h2,h3,h4,h5⟩:=r.st
  exact⟨bs,j,vL,vB,vs,h1,h2,h3,h4,h5⟩
theorem aJ.v {h:Heap}{n k:Nat}{arrs:D}{s:MS}(r:aJ h n k arrs s):∃vL vB,AL h n k arrs s vL vB:=by
  obtain⟨bs,j,vL,vB,vs,h1,h2,h3,h4,h5⟩:=r.st
  exact⟨vL,vB,bs,j,vs,h1,h2,h3,h4,h5⟩
theorem AL.new {h:Heap}{n k:Nat}{arrs:D}{s:MS}{vL vB:D}(r:AL h n k arrs s vL vB){m:Nat}(hm:h m=.free) (x:Slot):AL (aj h m x) n k arrs s vL vB/\m≠n:=by
  obtain⟨bs,j,vs,h1,h2,h3,h4,h5⟩:=r.st
  have hne:n≠m:=by rintro rfl;rw[h4]at hm;cases hm
  exact⟨⟨bs,j,vs,h1,h2,h3,by rw[ab _ _ hne];exact h4,h5.free hm x⟩,hne.symm⟩
theorem AL.cc {h:Heap}{n k:Nat}{arrs:D}{s:MS}{vL vB:D}(r:AL h n k arrs s vL vB){m:Nat}{d:D}(hm:h m=.box d) (hne:m≠n) (x:Slot):AL (aj h m x) n k arrs s vL vB:=by
  obtain⟨bs,j,vs,h1,h2,h3,h4,h5⟩:=r.st
  exact⟨bs,j,vs,h1,h2,h3,by rw[ab _ _ hne.symm];exact h4,h5.box hm x⟩
theorem AL.le {h:Heap}{n k k':Nat}{arrs:D}{s:MS}{vL vB:D}(r:AL h n k arrs s vL vB) (hk:k<=k'):AL h n k' arrs s vL vB:=by
  obtain⟨bs,j,vs,h1,h2,h3,h4,h5⟩:=r.st
  exact⟨bs,j,vs,h1,h2,by omega,h4,h5⟩
theorem tV {h:Heap}{n k:Nat}{arrs:D}{s:MS}{vL vB:D}(r:AL h n k arrs s vL vB) (hk:k<1000000){KH:D->Heap->Prop}(hK:∀(b:Nat) (h':Heap),b<=255->AL h' n (k+1) arrs s vL vB->aA n h h'->KH (.int .i64 (b:Int)) h') :
    af PP ah [.ptr n 0 0] h KH:=by
  obtain⟨bs,j,vs,h1,h2,h3,h4,h5⟩:=r.st
  refine AG h4 h1 h2 (by omega) fun b hb=>hK b _ hb ⟨bs,j+1,vs,h1,h2,by omega,ag _ _ _,h5.box h4 _⟩ aA.self
theorem C5 {vL vB:D}{h:Heap}{n k:Nat}{arrs:D}{s:MS}(r:AL h n k arrs s vL vB) (hk:k<1000000){KH:D->Heap->Prop}(hK:∀(b:Nat) (h':Heap),b<6->AL h' n (k+1) arrs s vL vB->aA n h h'->KH (gk (b:Int)).e h') :
    af PP aK [.ptr n 0 0] h KH:=by
  refine cA jg (aq _ _ _) rfl (jd _ _) ?_
  unfold gT
  rw[gM]
  intro m t
  obtain⟨r1,hne⟩:=r.new t.free (.box (.agg [(.int .i64 0),(.int .i64 0),(.int .i32 0)]))
  refine tV r1 hk fun b h' hb r2 hkeep=>?_
  have hm:=hkeep m _ hne (ag _ _ _)
  have e6:((b:Int).tmod 6)=((b % 6:Nat):Int):=aS b 6
  rw[cq]
  refine⟨by omega,?_⟩
  rw[e6]
  refine eh rC ⟨aV,trivial⟩ ?_
  simp only[↓jS,hm]
  refine⟨by first|rfl|trivial,(er.nT _).one,by first|rfl|trivial,by simp,?_⟩
  have hset:setCells (.agg [(.int .i64 0),(.int .i64 0),(.int .i32 0)]) 0 (gk ((b % 6:Nat):Int)).e.cells=(gk ((b % 6:Nat):Int)).e:=rfl
  rw[hset]
  simp only[↓u6,ag,true_and]
  refine⟨by simp[er.e,er.cs],?_⟩
  refine hK (b % 6) _ (Nat.mod_lt _ (by omega)) (r2.cc hm hne _) fun q d hq hd=>?_
  have hqm:q≠m:=by rintro rfl;rw[t.free]at hd;cases hd
  rw[ab _ _ hqm]
  exact hkeep q d hq (by rw[ab _ _ hqm];exact hd)
theorem G7 {vL vB:D}{h:Heap}{n k:Nat}{arrs:D}{s:MS}(r:AL h n k arrs s vL vB) (hk:k<1000000){KH:D->Heap->Prop}(hK:∀(o:er) (h':Heap),we o->AL h' n (k+1) arrs s vL vB->aA n h h'->KH o.e h') :
    af PP aI [.ptr n 0 0] h KH:=by
  refine cA jf (aq _ _ _) rfl (jb _ _) ?_
  unfold gR
  rw[gM]
  intro m t
  obtain⟨r1,hne⟩:=r.new t.free (.box (.agg [(.int .i64 0),(.int .i64 0),(.int .i32 0)]))
  refine tV r1 hk fun b h' hb r2 hkeep=>?_
  have hm:=hkeep m _ hne (ag _ _ _)
  have fin:∀o:er,we o->aa PP (.st (.c (.ptr m 0 0)) (.c o.e) 3) h' fun _ h1=>aa PP (.ld (.c (.ptr m 0 0)) 3 true) h1 fun a _=>KH a h1:=by
    intro o ho
    simp only[↓jS,hm]
    refine⟨by first|rfl|trivial,(er.nT _).one,by first|rfl|trivial,by simp[er.e,er.cs],?_⟩
    have hset:setCells (.agg [(.int .i64 0),(.int .i64 0),(.int .i32 0)]) 0 o.e.cells=o.e:=rfl
    rw[hset]
    simp only[↓u6,ag,true_and]
    refine⟨by simp[er.e,er.cs],?_⟩
    refine hK o _ ho (r2.cc hm hne _) fun q d hq hd=>?_
    have hqm:q≠m:=by rintro rfl;rw[t.free]at hd;cases hd
    rw[ab _ _ hqm]
    exact hkeep q d hq (by rw[ab _ _ hqm];exact hd)
  have e3:((b:Int).tmod 3)=((b % 3:Nat):Int):=aS b 3
  have d3:IntKind.i64.wrap ((b:Int).tdiv 3)=((b / 3:Nat):Int):=by
    have:((b:Int).tdiv 3)=((b / 3:Nat):Int):=(Int.ofNat_tdiv b 3).symm
    rw[this];exact wrap64 (by omega) (by omega)
  rw[cq]
  refine⟨by omega,?_⟩
  rw[e3,eg]
  by_cases hc:b % 3=0
  · have hc':((b % 3:Nat):Int)=0:=by omega
    simp only[hc',decide_true,aF,↓Du]
    refine⟨by omega,?_⟩
    have w:IntKind.i32.wrap ((b / 3:Nat):Int)=((b / 3:Nat):Int):=by simp only[IntKind.wrap,IntKind.signed,IntKind.bits];simp;omega
    have w2:IntKind.i32.wrap (((b / 3:Nat):Int)-20)=((b / 3:Nat):Int)-20:=by simp only[IntKind.wrap,IntKind.signed,IntKind.bits];simp;omega
    rw[d3,lK,w,kd,w2]
    refine eh qn ⟨aV,trivial⟩ ?_
    exact fin _ (Or.inr ⟨_,by omega,by omega,rfl⟩)
  · have hc':¬((b % 3:Nat):Int)=0:=by omega
    simp only[hc',decide_false,aC,↓Du]
    refine⟨by omega,?_⟩
    rw[d3,cq]
    refine⟨by omega,?_⟩
    have e6:(((b / 3:Nat):Int).tmod 6)=((b / 3 % 6:Nat):Int):=aS (b / 3) 6
    rw[e6]
    refine eh rC ⟨aV,trivial⟩ ?_
    exact fin _ (Or.inl ⟨b / 3 % 6,Nat.mod_lt _ (by omega),rfl⟩)
theorem dP {h:Heap}{n k:Nat}{arrs:D}{s:MS}{pre:List Block}{is:List bg}{t0:Term}{vL vB:D}(r:AL h n k arrs (jn s pre is t0) vL vB) :
    ∃(bs:List Nat) (j:Nat) (nb:Nat),vB=.ms nb 0 (pre.length+1)/\h n=.box (.agg [sT bs,.int .i64 (j:Int),.int .i64 s.group,.int .i64 s.sub,.int .i64 s.regs,.int .i64 0,.int .i64 3,arrs,vL,vB])/\(h n).used=true /\
      (∀(t:Term) {KH:D->Heap->Prop},(∀h',aJ h' n k arrs (jn s pre is t)->aA n h h'->KH .undef h') ->
        ae PP (.iadd (.c vB) (.c (.int .i64 (pre.length:Int))) 14) h fun a=>ae PP (.fadd (.c a) 1) h fun b=>aa PP (.st (.c b) (.c t.e) 13) h KH):=by
  obtain⟨bs,j,vs,h1,h2,h3,h4,h5⟩:=r.st
  obtain⟨bs',j',vL',nb',e',eu,-,-,st⟩:=kT r.rel
  rw[h4]at e'
  simp only[b6,Slot.box.injEq,D.agg.injEq,List.cons.injEq,and_true]at e'
  obtain⟨q1,-,-,-,-,-,-,-,q3,q4⟩:=e'
  refine⟨bs,j,nb',q4,by rw[h4];rfl,eu,fun t KH hK=>?_⟩
  rw[q4]
  exact st t hK
theorem DL {esz:Nat}{h:Heap}{v:D}{els:List D}(ho:Own esz h v els){K:D->Prop}:bQ v h K=K (.int .i64 (els.length:Int)):=by
  rcases ho with⟨rfl,rfl⟩|⟨m,rfl,hm⟩
  · rfl
  · rw[mM,hm];simp[Slot.live]
theorem DH {h:Heap}{n k:Nat}{arrs:D}{s:MS}(r:aJ h n k arrs s):∃(bs:List Nat) (j:Nat) (vL vB:D),
    h n=.box (b6 bs j arrs s vL vB)/\(h n).used=true/\(∀K:D->Prop,bQ vL h K=K (.int .i64 (s.loops.length:Int))):=by
  obtain⟨bs,j,vL,vB,vs,h1,h2,h3,h4,h5⟩:=r.st
  exact⟨bs,j,vL,vB,h4,by rw[h4];rfl,fun K=>by rw[DL h5.oL,List.length_map]⟩
def CA (s:MS) (hd:Nat) (b:Int):MS:={ s with regs:=6+2*(s.loops.length:Int)+2,loops:=s.loops++[⟨(hd:Int),6+2*(s.loops.length:Int),b⟩] }
set_option maxHeartbeats 2000000 in
theorem K1 {h:Heap}{n k:Nat}{s:MS}{pre:List Block}{is:List bg}{t:Term}(r:aJ h n k aW (jn s pre is t)) (hA:ji (pre.length+1) s.regs pre) (hX:jT s.regs is) (hi:is.length<=10) (hp:pre.length<=40)
    (hq:s.loops.length<=10) (hR:s.regs=6+2*(s.loops.length:Int)) (hk:k<600000) {KH:D->Heap->Prop}
    (hK:∀(b:Int) (bs:List Block) (h':Heap),1<=b->b<=3->bs.length=pre.length+3->ji (pre.length+4) (s.regs+2) bs->aJ h' n (k+100) aW { CA s (pre.length+1) b with blocks:=bs }->aA n h h'->KH (.tup []) h') :
    af PP bR [.ptr n 0 0] h KH:=by
  refine cA oO (aq _ _ _) rfl (oG _ _) ?_
  unfold kB
  obtain⟨bs0,j0,vL0,vB0,e0,eu0,el0⟩:=DH r
  unfold b6 at e0
  have el0':∀K:D->Prop,bQ vL0 h K=K (.int .i64 (s.loops.length:Int)):=el0
  generalize hqe:s.loops.length=q at *
  simp only[↓DY eu0,Nat.zero_add,Nat.reduceAdd,↓Fq e0 (j:=8) rfl,el0']
  rw[Dw,wrap64 (by omega) (by omega),dE,wrap64 (by omega) (by omega)]
  refine cY r (by omega) fun b h1 _ r1 k1=>?_
  rw[cq]
  refine⟨by omega,?_⟩
  rw[show((b:Int).tmod 3)=((b % 3:Nat):Int) from aS b 3,dE,wrap64 (by omega) (by omega),dE,wrap64 (by omega) (by omega)]
  have hb3:b % 3<3:=Nat.mod_lt _ (by omega)
  generalize hbe:1+((b % 3:Nat):Int)=bd
  have hbd1:1<=bd:=by omega
  have hbd2:bd<=3:=by omega
  obtain⟨-,-,-,-,-,eu1,-⟩:=DH r1
  simp only[↓DY eu1,Nat.zero_add,Nat.reduceAdd]
  refine HI (v:=6+2*(q:Int)+2) r1 fun h2 r2 k2=>?_
  have r2:aJ h2 n (k+1) aW (jn { s with regs:=6+2*(q:Int)+2 } pre is t):=r2
  obtain⟨bs2,j2,vL2,nb2,e2,eu2,lv2,-,-⟩:=kT r2
  simp only[↓DY eu2,Nat.zero_add,Nat.reduceAdd,↓Fq e2 (j:=9) rfl,↓mM,lv2,true_and]
  refine eh rC ⟨aV,trivial⟩ ?_
  refine eh qn ⟨aV,trivial⟩ ?_
  have hB9:∀{is':List bg},is'.length<=900->Ft pre is' 900:=fun hh=>hA.K9 (by omega) hh
  refine gQ ⟨1,0,0,gk (6+2*(q:Int)),Const 0,an,an⟩ r2 (hB9 (by omega)) rfl rfl fun h3 r3 k3=>?_
  obtain⟨bs3,j3,vL3,nb3,e3,eu3,lv3,Jh,-⟩:=kT r3
  simp only[↓DY eu3,Nat.zero_add,Nat.reduceAdd,↓Fq e3 (j:=9) rfl]
  rw[kd,wrap64 (by omega) (by omega),jA rfl,jA rfl,show((pre.length+1:Nat):Int)-1=(pre.length:Int) by omega]
  refine Jh ⟨1,0,an,an,an,((pre.length+1:Nat):Int),0⟩ fun h4 r4 k4=>?_
  have kk4:=(((k1.trans k2).trans k3).trans k4)
  refine⟨fun qs h'=>qs=[.ptr n 0 0,.int .i64 (6+2*(q:Int)),.int .i64 bd,.int .i64 ((pre.length+1:Nat):Int)] /\
    aJ h' n (k+1) aW (jn (CA s (pre.length+1) bd) pre (is++[⟨1,0,0,gk (6+2*(q:Int)),Const 0,an,an⟩]) ⟨1,0,an,an,an,((pre.length+1:Nat):Int),0⟩)/\aA n h h',?_,?_⟩
  · rintro f h5 ⟨hf,r5,k5⟩
    simp only[List.cons.injEq,and_true]at hf
    obtain⟨f0,f2,f3,f4⟩:=hf
    rw[f0,f2,f3,f4]
    clear Jh e3 e2 e0
    have hreg:(CA s (pre.length+1) bd).regs=s.regs+2:=by simp only[CA,hqe];omega
    have rn:kQ (s.regs+2) (gk (6+2*(q:Int))):=⟨_,by omega,by omega,rfl⟩
    have rn1:kQ (s.regs+2) (gk (6+2*(q:Int)+1)):=⟨_,by omega,by omega,rfl⟩
    obtain⟨B1,hB1⟩:∃B:Block,B=⟨is++[⟨1,0,0,gk (6+2*(q:Int)),Const 0,an,an⟩],⟨1,0,an,an,an,((pre.length+1:Nat):Int),0⟩⟩:=⟨_,rfl⟩
    have A1:ji (pre.length+4) (s.regs+2) (pre++[B1]):=(hA.mono (by omega) (by omega)).snoc (by
      rw[hB1]
      exact⟨(hX.mono (by omega)).append (.one (.mov _ _ rn (Or.inr ⟨0,by omega,by omega,rfl⟩)) (by simp)),by simp;omega,.jump (pre.length+1) (by omega)⟩)
    have r5':aJ h5 n (k+1) aW { CA s (pre.length+1) bd with blocks:=pre++[B1] }:=by rw[hB1];exact r5
    have l1:(pre++[B1]).length=pre.length+1:=by simp
    clear hB1 r5
    generalize pre++[B1]=pre1 at A1 r5' l1
    refine pM r5' (by omega) fun h6 r6 k6=>?_
    rw[dE,wrap64 (by omega) (by omega)]
    refine eh rC ⟨aV,trivial⟩ ?_
    refine eh rC ⟨aV,trivial⟩ ?_
    rw[lK,show IntKind.i32.wrap bd=bd by simp only[IntKind.wrap,IntKind.signed,IntKind.bits];simp;omega]
    refine eh qn ⟨aV,trivial⟩ ?_
    refine gQ ⟨3,26,0,gk (6+2*(q:Int)+1),gk (6+2*(q:Int)),Const bd,an⟩ r6 (A1.K9 (by omega) (by simp)) rfl rfl fun h7 r7 k7=>?_
    obtain⟨bs7,j7,vL7,nb7,e7,eu7,lv7,-,st7⟩:=kT r7
    simp only[↓qm eu7,Nat.zero_add,Nat.reduceAdd,↓pH e7 (j:=9) rfl]
    rw[dE,wrap64 (by omega) (by omega)]
    refine zZ rC ⟨aV,trivial⟩ ?_
    rw[dE,wrap64 (by omega) (by omega),dE,wrap64 (by omega) (by omega),pI rfl,pI rfl]
    rw[l1]at st7 ⊢
    refine st7 ⟨2,0,an,gk (6+2*(q:Int)+1),an,((pre.length+1:Nat):Int)+1,((pre.length+1:Nat):Int)+2⟩ fun h8 r8 k8=>?_
    obtain⟨B2,hB2⟩:∃B:Block,B=⟨[]++[⟨3,26,0,gk (6+2*(q:Int)+1),gk (6+2*(q:Int)),Const bd,an⟩],⟨2,0,an,gk (6+2*(q:Int)+1),an,((pre.length+1:Nat):Int)+1,((pre.length+1:Nat):Int)+2⟩⟩:=⟨_,rfl⟩
    have A2:ji (pre.length+4) (s.regs+2) (pre1++[B2]):=A1.snoc (by
      rw[hB2]
      exact⟨.one (.bin _ _ _ _ (by omega) rn1 rn.val (Or.inr ⟨bd,by omega,by omega,rfl⟩)) (by simp),by simp,.branch _ (pre.length+2) (pre.length+3) rn1 (by omega) (by omega)⟩)
    have r8':aJ h8 n (k+1) aW { CA s (pre.length+1) bd with blocks:=pre1++[B2] }:=by rw[hB2];exact r8
    have l2:(pre1++[B2]).length=pre.length+2:=by simp;omega
    clear hB2 r8 st7 e7
    generalize pre1++[B2]=pre2 at A2 r8' l2
    refine pM r8' (by omega) fun h9 r9 k9=>?_
    refine eh rC ⟨aV,trivial⟩ ?_
    refine eh rC ⟨aV,trivial⟩ ?_
    refine eh qn ⟨aV,trivial⟩ ?_
    refine gQ ⟨3,10,0,gk (6+2*(q:Int)),gk (6+2*(q:Int)),Const 1,an⟩ r9 (A2.K9 (by omega) (by simp)) rfl rfl fun h10 r10 k10=>?_
    refine xy r10 (A2.K9 (by omega) (by simp)) (by omega) fun xs h11 hxs hxl r11 k11=>?_
    obtain⟨bs11,j11,vL11,nb11,e11,eu11,lv11,st11,-⟩:=kT r11
    simp only[↓DY eu11,Nat.zero_add,Nat.reduceAdd,↓Fq e11 (j:=9) rfl]
    rw[dE,wrap64 (by omega) (by omega),jA rfl,jA rfl]
    rw[l2]at st11 ⊢
    rw[show((pre.length+1:Nat):Int)+1=((pre.length+2:Nat):Int) by omega]
    refine st11 ⟨1,0,an,an,an,((pre.length+1:Nat):Int),0⟩ fun h12 r12 k12=>?_
    clear st11 e11
    have hxs2:jT (s.regs+2) ([]++[⟨3,10,0,gk (6+2*(q:Int)),gk (6+2*(q:Int)),Const 1,an⟩]++xs) :=
      (jT.one (.bin _ _ _ _ (by omega) rn rn.val (Or.inr ⟨1,by omega,by omega,rfl⟩)) (by simp)).append (hxs.mono (by omega))
    have hxl2:([]++[⟨3,10,0,gk (6+2*(q:Int)),gk (6+2*(q:Int)),Const 1,an⟩]++xs:List bg).length<=20:=by simp;omega
    generalize ([]++[⟨3,10,0,gk (6+2*(q:Int)),gk (6+2*(q:Int)),Const 1,an⟩]++xs:List bg)=ys at hxs2 hxl2 r12
    have kk:=((((((k5.trans k6).trans k7).trans k8).trans k9).trans k10).trans k11).trans k12
    refine⟨fun qs h'=>∃c:Bool,qs=[.ptr n 0 0,.int .i64 ((pre.length+1:Nat):Int),.bool c]/\aJ h' n (k+52) aW (jn (CA s (pre.length+1) bd) pre2 ys ⟨1,0,an,an,an,((pre.length+1:Nat):Int),0⟩)/\aA n h h',?_,?_⟩
    · rintro g h13 ⟨c,hg,r13,k13⟩
      simp only[List.cons.injEq,and_true]at hg
      obtain⟨g0,g4,g119⟩:=hg
      rw[g0,g4,g119]
      cases c with
      | false =>
        rw[aC]
        exact hK bd _ h13 hbd1 hbd2 (by simp;omega) (A2.snoc ⟨hxs2,hxl2,.jump (pre.length+1) (by omega)⟩) (r13.le (by omega)) k13
      | true =>
        rw[aF]
        obtain⟨vL13,vB13,r13⟩:=r13.v
        obtain⟨bs13,j13,nb13,ev13,e13,eu13,-⟩:=dP r13
        simp only[↓qm eu13,Nat.zero_add,Nat.reduceAdd,↓pH e13 (j:=9) rfl]
        rw[dE,wrap64 (by omega) (by omega),dE,wrap64 (by omega) (by omega),pI rfl]
        refine C5 r13 (by omega) fun d h14 hd r14 k14=>?_
        obtain⟨bs14,j14,nb14,ev14,e14,eu14,st14⟩:=dP r14
        simp only[↓qm eu14,Nat.zero_add,Nat.reduceAdd,↓pH e14 (j:=9) rfl,al,true_and]
        rw[pI rfl,show((pre.length+1:Nat):Int)+1=(pre2.length:Int) by omega]
        refine st14 ⟨2,0,an,gk d,an,((pre.length+1:Nat):Int),((pre.length+1:Nat):Int)+2⟩ fun h15 r15 k15=>?_
        exact hK bd _ h15 hbd1 hbd2 (by simp;omega) (A2.snoc ⟨hxs2,hxl2,.branch (gk d) (pre.length+1) (pre.length+3) ((cP hd).mono (by omega)) (by omega) (by omega)⟩) (r15.le (by omega)) ((k13.trans k14).trans k15)
    · refine cY r12 (by omega) fun b' h13 _ r13 k13=>?_
      rw[cq]
      refine⟨by omega,?_⟩
      rw[eg]
      exact⟨rfl,_,rfl,r13.le (by omega),kk.trans k13⟩
  · obtain⟨bs4,j4,vL4,vB4,e4,eu4,-⟩:=DH r4
    have e4':=e4
    unfold b6 at e4'
    simp only[↓DY eu4,Nat.zero_add,Nat.reduceAdd,↓Fq e4' (j:=8) rfl]
    rw[jA rfl]
    refine app_loop (l:=⟨((pre.length+1:Nat):Int),6+2*(q:Int),bd⟩) r4 (by simp only[jn];omega) (by omega) e4 fun h5 r5 k5=>?_
    refine⟨by first|rfl|trivial,by first|rfl|trivial,?_,kk4.trans k5⟩
    have:CA s (pre.length+1) bd={ s with regs:=6+2*(q:Int)+2,loops:=s.loops++[⟨((pre.length+1:Nat):Int),6+2*(q:Int),bd⟩] }:=by rw[CA,hqe]
    rw[this]
    exact r5
end Go.Am
namespace Go.Am
open Go
set_option maxHeartbeats 2000000 in
theorem BS {h:Heap}{n k m:Nat}{s:MS}{bs:List Block}(r:aJ h n k aW { s with blocks:=bs }) (hA:ji (bs.length+1) s.regs bs) (hl:bs.length<=40) (hR:6<=s.regs) (hm:m<=2) (hk:k<500000){KH:D->Heap->Prop}
    (hK:∀(pre:List Block) (is:List bg) (h':Heap),pre.length=bs.length+m->ji (pre.length+1) s.regs pre->jT 6 is->is.length<=8->aJ h' n (k+300) aW (jn s pre is iw)->aA n h h'->KH (.tup []) h') :
    af PP bV [.ptr n 0 0,.int .i64 (m:Int)] h KH:=by
  refine cA mE (aq _ _ _) rfl (mv _ _ _) ?_
  unfold jc
  refine pM r (by omega) fun h1 r1 k1=>?_
  obtain⟨bs1,j1,vL1,nb1,e1,eu1,lv1,-,-⟩:=kT r1
  simp only[↓DY eu1,Nat.zero_add,Nat.reduceAdd,↓Fq e1 (j:=9) rfl,↓mM,lv1,true_and]
  rw[kd,wrap64 (by omega) (by omega),dE,wrap64 (by omega) (by omega),show((bs.length+1:Nat):Int)-1=(bs.length:Int) by omega]
  refine⟨fun qs h'=>qs=[]/\∃pre:List Block,pre.length=bs.length+m/\ji (pre.length+1) s.regs pre/\aJ h' n (k+200) aW (jn s pre [] iw)/\aA n h h',?_,?_⟩
  · rintro f h2 ⟨-,pre,hpl,hpA,r2,k2⟩
    refine xy r2 (hpA.K9 (by omega) (by simp)) (by omega) fun xs h3 hx hxl r3 k3=>?_
    exact hK pre xs h3 hpl hpA hx hxl (r3.le (by omega)) (k2.trans k3)
  · unfold gi
    refine⟨fun j qs h'=>j<=m/\qs=[.int .i64 ((bs.length+(m-j):Nat):Int)]/\∃pre:List Block,pre.length=bs.length+(m-j)/\ji (bs.length+m+1) s.regs pre/\aJ h' n (k+80*(m-j)) aW (jn s pre [] iw)/\aA n h h',m,⟨Nat.le_refl _,by simp,bs,by simp,hA.mono (by omega) (by omega),by simpa using r1,k1⟩,?_⟩
    rintro j f h2 ⟨hj,hq,pre,hpl,hpA,r2,k2⟩
    simp only[List.cons.injEq,and_true]at hq
    rw[hq,nI,show(bs.length:Int)+(m:Int)=((bs.length+m:Nat):Int) by omega]
    by_cases h0:0<j
    · simp only[show(((bs.length+(m-j):Nat):Int)<((bs.length+m:Nat):Int))=True from eq_true (by omega),decide_true,↓aF]
      refine xy r2 (hpA.K9 (by omega) (by simp)) (by omega) fun xs h3 hx hxl r3 k3=>?_
      rw[List.nil_append]at r3
      obtain⟨bs3,j3,vL3,nb3,e3,eu3,lv3,Jh,-⟩:=kT r3
      simp only[↓DY eu3,Nat.zero_add,Nat.reduceAdd,↓Fq e3 (j:=9) rfl]
      rw[dE,wrap64 (by omega) (by omega),jA rfl,jA rfl]
      rw[show((bs.length+(m-j):Nat):Int)+1=((bs.length+(m-j)+1:Nat):Int) by omega]
      rw[hpl]at Jh ⊢
      refine Jh ⟨1,0,an,an,an,((bs.length+(m-j)+1:Nat):Int),0⟩ fun h4 r4 k4=>?_
      clear Jh e3
      have kk4:=(k2.trans k3).trans k4
      refine⟨fun qs h'=>qs=[]/\∃T:Term,Ch (bs.length+m+1) s.regs T/\aJ h' n (k+80*(m-j)+60) aW (jn s pre xs T)/\aA n h h',?_,?_⟩
      · rintro g h5 ⟨-,T,hT,r5,k5⟩
        have A5:ji (bs.length+m+1) s.regs (pre++[⟨xs,T⟩]):=hpA.snoc ⟨hx.mono hR,by simp only;omega,hT⟩
        refine pM (bs:=pre++[⟨xs,T⟩]) r5 (by simp;omega) fun h6 r6 k6=>?_
        rw[dE,wrap64 (by omega) (by omega)]
        refine⟨rfl,j-1,by omega,by omega,?_,pre++[⟨xs,T⟩],by simp;omega,A5,r6.le (by omega),k5.trans k6⟩
        congr 2
        omega
      · refine cY r4 (by omega) fun b h5 _ r5 k5=>?_
        rw[cq]
        refine⟨by omega,?_⟩
        rw[show((b:Int).tmod 2)=((b % 2:Nat):Int) from aS b 2,eg]
        by_cases hb2:b % 2=0
        · simp only[show(((b % 2:Nat):Int)=0)=True from eq_true (by omega),decide_true,↓aF]
          obtain⟨vL5,vB5,r5⟩:=r5.v
          obtain⟨bs5,j5,nb5,ev5,e5,eu5,-⟩:=dP r5
          simp only[↓qm eu5,Nat.zero_add,Nat.reduceAdd,↓pH e5 (j:=9) rfl]
          rw[dE,wrap64 (by omega) (by omega),kd,wrap64 (by omega) (by omega),dE,wrap64 (by omega) (by omega),kd,wrap64 (by omega) (by omega)]
          refine C5 r5 (by omega) fun d h6 hd r6 k6=>?_
          obtain⟨bs6,j6,nb6,ev6,e6,eu6,-⟩:=dP r6
          simp only[↓qm eu6,Nat.zero_add,Nat.reduceAdd,↓pH e6 (j:=9) rfl,al,true_and]
          refine tV r6 (by omega) fun x h7 _ r7 k7=>?_
          obtain⟨bs7,j7,nb7,ev7,e7,eu7,-⟩:=dP r7
          simp only[↓qm eu7,Nat.zero_add,Nat.reduceAdd,↓pH e7 (j:=9) rfl,al,true_and]
          rw[cq]
          refine⟨by omega,?_⟩
          rw[show((bs.length+m:Nat):Int)-((bs.length+(m-j):Nat):Int)=(j:Int) by omega,show((x:Int).tmod (j:Int))=((x % j:Nat):Int) from aS x j]
          have hx1:x % j<j:=Nat.mod_lt _ h0
          rw[dE,wrap64 (by omega) (by omega)]
          refine tV r7 (by omega) fun y h8 _ r8 k8=>?_
          obtain⟨bs8,j8,nb8,ev8,e8,eu8,st8⟩:=dP r8
          simp only[↓qm eu8,Nat.zero_add,Nat.reduceAdd,↓pH e8 (j:=9) rfl,al,true_and]
          rw[cq]
          refine⟨by omega,?_⟩
          rw[show((y:Int).tmod (j:Int))=((y % j:Nat):Int) from aS y j]
          have hy1:y % j<j:=Nat.mod_lt _ h0
          rw[dE,wrap64 (by omega) (by omega),pI rfl,pI rfl]
          rw[hpl]at st8
          refine st8 ⟨2,0,an,gk d,an,((bs.length+(m-j):Nat):Int)+1+((x % j:Nat):Int),((bs.length+(m-j):Nat):Int)+1+((y % j:Nat):Int)⟩ fun h9 r9 k9=>?_
          try simp only[al,true_and]
          refine⟨_,?_,r9.le (by omega),((((kk4.trans k5).trans k6).trans k7).trans k8).trans k9⟩
          have e1:((bs.length+(m-j):Nat):Int)+1+((x % j:Nat):Int)=((bs.length+(m-j)+1+x % j:Nat):Int):=by omega
          have e2:((bs.length+(m-j):Nat):Int)+1+((y % j:Nat):Int)=((bs.length+(m-j)+1+y % j:Nat):Int):=by omega
          rw[e1,e2]
          exact .branch _ _ _ ((cP hd).mono hR) (by omega) (by omega)
        · simp only[show(((b % 2:Nat):Int)=0)=False from eq_false (by omega),decide_false,↓aC]
          try simp only[al,true_and]
          exact⟨_,.jump _ (by omega),r5.le (by omega),kk4.trans k5⟩
    · simp only[show(((bs.length+(m-j):Nat):Int)<((bs.length+m:Nat):Int))=False from eq_false (by omega),decide_false,↓aC]
      have hj0:j=0:=by omega
      subst hj0
      try simp only[al,true_and]
      exact⟨pre,by omega,by rw[hpl];exact hpA.mono (by omega) (by omega),r2.le (by omega),k2⟩
end Go.Am
namespace Go.Am
open Go
theorem Ae {esz:Nat}{h:Heap}{v:D}{els:List D}(ho:Own esz h v els) (hv:∀x∈els,∀y∈x.cells,y.vone=true):kE h v/\(v.fzc h).vone=true/\v.one=true/\Wk (v.fzc h) (.sl els):=by
  rcases ho with⟨rfl,rfl⟩|⟨m,rfl,hm⟩
  · exact⟨trivial,rfl,rfl,.nil⟩
  · have hrow:(h m).row=some (esz,els):=by rw[hm];rfl
    have e:(D.ms m 0 els.length).fzc h=.sl els:=by simp[D.fzc,hrow]
    exact⟨⟨esz,els,hrow,by simp,fun x hx=>hv x (by simpa using hx)⟩,by rw[e];rfl,rfl,by rw[e];exact .refl _⟩
theorem ye {l:List bg}:∀x,x∈l.map bg.e->∀y∈x.cells,y.vone=true:=by
  intro x hx y hy
  obtain⟨a,-,rfl⟩:=List.mem_map.1 hx
  simp[bg.e,bg.cs]at hy
  rcases hy with rfl|rfl|rfl|rfl|rfl|rfl|rfl|rfl|rfl|rfl|rfl|rfl|rfl|rfl|rfl<;>rfl
theorem CB {l:List Loop}:∀x,x∈l.map Loop.e->∀y∈x.cells,y.vone=true:=by
  intro x hx y hy
  obtain⟨a,-,rfl⟩:=List.mem_map.1 hx
  simp[Loop.e]at hy
  rcases hy with rfl|rfl|rfl<;>rfl
theorem lV {t:Term}:∀x∈t.cs,x.vone=true/\x.iT=[]/\(∀h,x.fzc h=x/\kE h x):=by
  intro x hx
  simp[Term.cs]at hx
  rcases hx with rfl|rfl|rfl|rfl|rfl|rfl|rfl|rfl|rfl|rfl|rfl|rfl|rfl<;>exact⟨rfl,rfl,fun h=>⟨rfl,trivial⟩⟩
theorem Dy {t:Term}{h:Heap}:t.cs.map (D.fzc h)=t.cs:=by
  rw[List.map_congr_left (fun x hx=>((lV x hx).2.2 h).1)];simp
theorem zL {vs:List D}{bs:List Block}(hl:vs.length=bs.length){e:D}(he:e∈bI vs bs):∃(i:Nat) (v:D) (b:Block),vs[i]?=some v/\bs[i]?=some b/\e=.agg (v::b.t.cs):=by
  obtain⟨i,hi⟩:=List.getElem?_of_mem he
  simp only[bI,List.getElem?_zipWith]at hi
  cases hv:vs[i]? with
  | none=>simp[hv]at hi
  | some v =>
    cases hb:bs[i]? with
    | none=>simp[hv,hb]at hi
    | some b=>simp only[hv,hb,Option.some.injEq]at hi;exact⟨i,v,b,hv,hb,hi.symm⟩
theorem Gy {h:Heap}{loops:List Loop}{blocks:List Block}{vL vB:D}{vs:List D}(r:Rows h loops blocks vL vB vs) (hne:blocks≠[]) (g sb rg:Int) :
    ∃h'',Cm h h''/\hQ (.agg [.int .i64 g,.int .i64 sb,.int .i64 rg,.int .i64 0,.int .i64 3,aW,vL,vB])/\pT h'' (.agg [.int .i64 g,.int .i64 sb,.int .i64 rg,.int .i64 0,.int .i64 3,aW,vL,vB]) /\
      ((D.agg [.int .i64 g,.int .i64 sb,.int .i64 rg,.int .i64 0,.int .i64 3,aW,vL,vB]).fzt h'').Cl=true /\
      Wk ((D.agg [.int .i64 g,.int .i64 sb,.int .i64 rg,.int .i64 0,.int .i64 3,aW,vL,vB]).fzt h'') (Code.e ⟨g,sb,rg,0,3,tX,loops,blocks⟩):=by
  have hel:=gg r.len
  obtain⟨nb,e1,e2⟩:=tm r.oB (by
    intro he
    have:=congrArg List.length he
    rw[hel]at this
    exact hne (List.length_eq_zero_iff.1 this))
  subst e1
  obtain⟨hs1,hs2⟩:=tt r.nd
  have names:∀k,k∈(bI vs blocks).flatMap D.nm->k∈bc vs:=by
    intro k hk
    obtain⟨e,he,hke⟩:=List.mem_flatMap.1 hk
    obtain⟨i,v,b,hv,hb,rfl⟩:=zL r.len he
    simp only[D.nm,List.mem_flatMap,List.mem_cons]at hke
    obtain⟨x,hx|hx,hkx⟩:=hke
    · subst hx;exact jN (List.mem_of_getElem? hv) hkx
    · rw[(lV x hx).2.1]at hkx;cases hkx
  have hd:Ck h nb 14 (bI vs blocks):=by
    refine⟨fun hm=>hs1 (by rw[aT];exact List.mem_append_right _ (names nb hm)),fun e he=>?_⟩
    obtain⟨i,v,b,hv,hb,rfl⟩:=zL r.len he
    obtain⟨f1,f2,f3,-⟩:=Ae (r.oI i v b hv hb) ye
    refine⟨fun x hx=>?_,fun x hx=>?_,fun y hy=>?_⟩
    · simp only[D.cells,List.mem_cons]at hx
      rcases hx with rfl|hx
      · exact f3
      · exact D.gr (lV x hx).1
    · simp only[D.cells,List.mem_cons]at hx
      rcases hx with rfl|hx
      · exact f1
      · exact((lV x hx).2.2 h).2
    · simp only[D.fz,D.cells,List.map_cons,List.mem_cons]at hy
      rcases hy with rfl|hy
      · exact f2
      · rw[Dy]at hy
        exact(lV y hy).1
  refine⟨tP h nb 14 (bI vs blocks),.step e2 hd (.refl _),?_⟩
  obtain⟨hI,eI⟩:∃hI,hI=tP h nb 14 (bI vs blocks):=⟨_,rfl⟩
  rw[<- eI]
  have hnb:hI nb=.arr 14 ((bI vs blocks).map (D.fz h)):=by rw[eI];exact zC
  have oL:Own 3 hI vL (loops.map Loop.e):=cw r.oL fun k hk=>by
    rw[eI]
    refine yf ?_ fun hm=>?_
    · rintro rfl;exact hs1 (by rw[aT];exact List.mem_append_left _ hk)
    · rw[aT]at hs2
      exact(List.nodup_append.1 hs2).2.2 k hk k (names k hm) rfl
  obtain⟨l1,l2,l3,l4⟩:=Ae oL CB
  have hrow:(hI nb).row=some (14,(bI vs blocks).map (D.fz h)):=by rw[hnb];rfl
  have eB:(D.ms nb 0 (bI vs blocks).length).fzc hI=.sl ((bI vs blocks).map (D.fz h)):=by
    simp only[D.fzc,hrow,List.drop_zero]
    rw[List.take_of_length_le (by simp)]
  have e:(D.agg [.int .i64 g,.int .i64 sb,.int .i64 rg,.int .i64 0,.int .i64 3,aW,vL,.ms nb 0 (bI vs blocks).length]).fzt hI =
      .agg [.int .i64 g,.int .i64 sb,.int .i64 rg,.int .i64 0,.int .i64 3,aW,vL.fzc hI,.sl ((bI vs blocks).map (D.fz h))]:=by
    simp only[D.fzt,D.fz,List.map_cons,List.map_nil,eB]
    rfl
  refine⟨fun x hx=>?_,fun x hx=>?_,?_,?_⟩
  · simp only[D.cells,List.mem_cons,List.not_mem_nil,or_false]at hx
    rcases hx with rfl|rfl|rfl|rfl|rfl|rfl|rfl|rfl<;>first|rfl|exact l3
  · simp only[D.cells,List.mem_cons,List.not_mem_nil,or_false]at hx
    rcases hx with rfl|rfl|rfl|rfl|rfl|rfl|rfl|rfl<;>first|exact trivial|exact l1|skip
    refine⟨14,_,hrow,by simp,fun x hx y hy=>?_⟩
    have hx:=List.mem_of_mem_drop (List.mem_of_mem_take hx)
    obtain⟨a,ha,rfl⟩:=List.mem_map.1 hx
    exact(hd.el a ha).2.2 y hy
  · rw[e]
    show([D.int .i64 g,.int .i64 sb,.int .i64 rg,.int .i64 0,.int .i64 3,aW,vL.fzc hI,.sl ((bI vs blocks).map (D.fz h))].all D.vone)=true
    simp only[List.all_cons,List.all_nil,AW,l2,aW,Ds,Bool.and_true,Bool.and_self]
  · rw[e]
    refine Wk.I8 (.cons (.refl _) (.cons (.refl _) (.cons (.refl _) (.cons (.refl _) (.cons (.refl _) (.cons (.refl _) (.cons l4 (.cons ?_ .nil))))))))
    refine .sl _ _ (by simp[hel]) fun i x y hx hy=>?_
    simp only[List.getElem?_map,Option.map_eq_some_iff]at hx hy
    obtain⟨x,hx,rfl⟩:=hx
    obtain⟨b,hb,rfl⟩:=hy
    obtain⟨v,hv⟩:∃v,vs[i]?=some v:=by
      have:=(List.getElem?_eq_some_iff.1 hb).1
      exact⟨vs[i]'(by rw[r.len];exact this),List.getElem?_eq_getElem _⟩
    rw[u9 hv hb]at hx
    cases hx
    simp only[D.fz,List.map_cons,Dy,Block.e]
    exact Wk.I8 (.cons (Ae (r.oI i v b hv hb) ye).2.2.2 .rfl)
theorem Hf:aO PP gG [] (· = aW):=by
  refine db uz (aq _ _ _) rfl (uf _) ?_
  unfold pP
  rw[jA rfl,jA rfl,jA rfl,jA rfl,jA rfl]
  refine⟨mo rfl,fun _=>?_,fun n t=>?_⟩
  · intro p hp
    simp[Arg.get]at hp
    rcases hp with rfl|rfl|rfl|rfl|rfl<;>(intro x hx;simp[D.cells,fillD]at hx;rcases hx with rfl|rfl|rfl|rfl<;>exact trivial)
  · show lQ _ (.ms n 0 5) (aj fh n (.arr 4 (tX.map vG.e)))
    refine zU (n:=n) (els:=tX.map vG.e) (esz:=4) (by rw[ag];rfl) ?_ rfl
    intro x hx y hy
    obtain⟨a,-,rfl⟩:=List.mem_map.1 hx
    simp[vG.e]at hy
    rcases hy with rfl|rfl|rfl|rfl<;>rfl
def JD (N:Nat) (R:Int) (l:Loop):Prop:=(∃hd:Nat,l.head=hd/\hd<N)/\(0<=l.reg/\l.reg<R)/\1<=l.bound/\l.bound<=3
structure lP (c:Code):Prop where
  group:c.group=4\/c.group=1\/c.group=2\/c.group=8\/c.group=6
  sub:c.sub=1\/c.sub=2\/c.sub=4\/c.sub=8
  dvd:c.group.tmod c.sub=0
  regs:c.regs=6+2*(c.loops.length:Int)
  slots:c.slots=0
  params:c.params=3
  arrays:c.arrays=tX
  nl:c.loops.length<=3
  loops:∀l∈c.loops,JD c.b.length c.regs l
  nb:1<=c.b.length/\c.b.length<=18
  b:ji c.b.length c.regs c.b
def tg (bs:List Nat):D:=.agg [sT bs]
def z8:D:=.agg [.int .i64 0,.int .i64 0,.int .i64 0,.int .i64 0,.int .i64 0,.nil,.nil,.nil]
structure Hd (g sb:Int):Prop where
  group:g=4\/g=1\/g=2\/g=8\/g=6
  sub:sb=1\/sb=2\/sb=4\/sb=8
  dvd:g.tmod sb=0
structure Dj (s:MS) (bs:List Block) (q:Nat):Prop where
  hd:Hd s.group s.sub
  regs:s.regs=6+2*(s.loops.length:Int)
  nl:s.loops.length<=q
  nb:bs.length<=6*q
  loops:∀l∈s.loops,JD bs.length s.regs l
  b:ji (bs.length+1) s.regs bs
theorem Gf {h:Heap}:Rows h [] [] .nil .nil []:=⟨Or.inl ⟨rfl,rfl⟩,Or.inl ⟨rfl,rfl⟩,rfl,fun k v b hv=>by simp at hv,by simp[bc,D.iT]⟩
theorem Bj {h:Heap}{n k:Nat}{s:MS}{pre:List Block}{is:List bg}{q:Nat}(hs:Hd s.group s.sub) (hR:s.regs=6+2*(s.loops.length:Int)) (hl:s.loops.length<=q) (hq:q<=9) (hp:pre.length<=6*q+2) (hq2:q<=2)
    (hL:∀l∈s.loops,JD (pre.length+1) s.regs l) (hA:ji (pre.length+1) s.regs pre) (hX:jT 6 is) (hi:is.length<=8) (r:aJ h n k aW (jn s pre is iw)) (hk:k<400000) {KH:D->Heap->Prop}
    (hK:∀(s':MS) (pre':List Block) (h':Heap),s'.group=s.group->s'.sub=s.sub->s'.regs=6+2*(s'.loops.length:Int)->s'.loops.length<=q+1->pre'.length<=6*q+5->(∀l,l∈s'.loops->JD (pre'.length+1) s'.regs l)->ji (pre'.length+1) s'.regs pre' ->
      aJ h' n (k+100) aW (jn s' pre' [] iw)->aA n h h'->KH (.tup []) h') :
    af PP bR [.ptr n 0 0] h fun _ h1=>af PP aP [.ptr n 0 0] h1 KH:=by
  refine K1 r hA (hX.mono (by omega)) (by omega) (by omega) (by omega) hR (by omega) fun b bs h1 hb1 hb2 hbl hbA r1 k1=>?_
  refine pM (bs:=bs) r1 (by omega) fun h2 r2 k2=>?_
  have hreg:(CA s (pre.length+1) b).regs=s.regs+2:=by simp only[CA];omega
  refine hK (CA s (pre.length+1) b) bs h2 rfl rfl ?_ ?_ (by omega) ?_ ?_ r2 (k1.trans k2)
  · simp only[CA,List.length_append,List.length_singleton];omega
  · simp only[CA,List.length_append,List.length_singleton];omega
  · intro l hl
    rw[hreg]
    simp only[CA,List.mem_append,List.mem_singleton]at hl
    rcases hl with hl|rfl
    · obtain⟨⟨hd,e1,e2⟩,e3,e4⟩:=hL l hl
      exact⟨⟨hd,e1,by omega⟩,⟨e3.1,by omega⟩,e4⟩
    · exact⟨⟨pre.length+1,rfl,by omega⟩,⟨by simp only;omega,by simp only;omega⟩,hb1,hb2⟩
  · rw[hreg]
    exact hbA.mono (by omega) (by omega)
set_option maxHeartbeats 4000000 in
theorem Ik {h:Heap}{n nz k c:Nat}{s:MS}(hne:nz≠n) (hc:c<=2) (hs:Dj s [] 0) (r:aJ h n k aW { s with blocks:=[] }) (hk:k<=1000) (hz:h nz=.box z8){J:List D->Heap->Prop}
    (hJ:∀(s':MS) (bs:List Block) (h':Heap),Dj s' bs 2->aJ h' n (k+2000) aW { s' with blocks:=bs }->h' nz=.box z8->J [] h') :
    jt (.int .i64 (c:Int)) h (.ptr nz 0 0) (.ptr n 0 0) J:=by
  unfold jt
  refine⟨fun j qs h'=>j<=c/\qs=[.int .i64 (j:Int)]/\∃(s':MS) (bs:List Block),Dj s' bs (c-j)/\aJ h' n (k+1000*(c-j)) aW { s' with blocks:=bs }/\h' nz=.box z8,c,⟨Nat.le_refl _,rfl,s,[],by simpa using hs,by simpa using r,hz⟩,?_⟩
  rintro j f h1 ⟨hj,hq,s1,bs,hs1,r1,hz1⟩
  simp only[List.cons.injEq,and_true]at hq
  rw[hq,qS]
  by_cases h0:0<j
  · simp only[show((0:Int)<(j:Int))=True from eq_true (by omega),decide_true,↓aF]
    have nl:=hs1.nl
    have nb:=hs1.nb
    refine⟨fun qs h'=>qs=[]/\∃(s':MS) (bs:List Block),Dj s' bs (c-(j-1))/\aJ h' n (k+1000*(c-j)+1000) aW { s' with blocks:=bs }/\h' nz=.box z8,?_,?_⟩
    · rintro g h2 ⟨-,s2,bs2,hs2,r2,hz2⟩
      rw[kd,wrap64 (by omega) (by omega)]
      refine⟨rfl,j-1,by omega,by omega,by congr 2;omega,s2,bs2,hs2,r2.le (by omega),hz2⟩
    · refine cY r1 (by omega) fun b h2 _ r2 k2=>?_
      rw[cq]
      refine⟨by omega,?_⟩
      rw[show((b:Int).tmod 3)=((b % 3:Nat):Int) from aS b 3]
      have hm:b % 3<3:=Nat.mod_lt _ (by omega)
      refine BS r2 hs1.b (by omega) (by have:=hs1.regs;omega) (by omega) (by omega) fun pre is h3 hpl hpA hX hi r3 k3=>?_
      have hz3:=k3 nz _ hne (k2 nz _ hne hz1)
      have hLp:∀l∈s1.loops,JD (pre.length+1) s1.regs l:=fun l hl=>by
        obtain⟨⟨hd,e1,e2⟩,e3⟩:=hs1.loops l hl
        exact⟨⟨hd,e1,by omega⟩,e3⟩
      refine⟨fun qs h'=>qs=[]/\∃(s':MS) (pre':List Block) (is':List bg),Hd s'.group s'.sub/\s'.regs=6+2*(s'.loops.length:Int)/\s'.loops.length<=(c-j)+1/\pre'.length<=6*(c-j)+5/\(∀l,l∈s'.loops->JD (pre'.length+1) s'.regs l) /\
        ji (pre'.length+1) s'.regs pre'/\jT s'.regs is'/\is'.length<=8/\aJ h' n (k+1000*(c-j)+500) aW (jn s' pre' is' iw)/\h' nz=.box z8,?_,?_⟩
      · rintro g h4 ⟨-,s4,pre4,is4,g1,g2,g3,g4,g5,g6,g7,g8,r4,hz4⟩
        obtain⟨bs4,j4,vL4,nb4,e4,eu4,lv4,st4,-⟩:=kT r4
        simp only[↓DY eu4,Nat.zero_add,Nat.reduceAdd,↓Fq e4 (j:=9) rfl,↓mM,lv4,true_and]
        rw[kd,wrap64 (by omega) (by omega)]
        rw[show((pre4.length+1:Nat):Int)-1=(pre4.length:Int) by omega,dE,wrap64 (by omega) (by omega),jA rfl,jA rfl]
        have hT:∀(T:Term) (h':Heap),Ch (pre4.length+2) s4.regs T->aJ h' n (k+1000*(c-j)+600) aW (jn s4 pre4 is4 T)->h' nz=.box z8 ->
            ∃(s':MS) (bs:List Block),Dj s' bs (c-(j-1))/\aJ h' n (k+1000*(c-j)+1000) aW { s' with blocks:=bs }/\h' nz=.box z8:=by
          intro T h' hT r' hz'
          refine⟨s4,pre4++[⟨is4,T⟩],⟨g1,g2,by omega,by simp;omega,?_,?_⟩,r'.le (by omega),hz'⟩
          · simp only[List.length_append,List.length_singleton];exact g5
          · simp only[List.length_append,List.length_singleton]
            exact(g6.mono (by omega) (by omega)).snoc ⟨g7,by simp only;omega,hT⟩
        refine st4 ⟨3,0,an,an,an,(pre4.length:Int)+1,0⟩ fun h5 r5 k5=>?_
        have hz5:=k5 nz _ hne hz4
        refine cY r5 (by omega) fun b5 h6 _ r6 k6=>?_
        have hz6:=k6 nz _ hne hz5
        rw[cq]
        refine⟨by omega,?_⟩
        rw[show((b5:Int).tmod 3)=((b5 % 3:Nat):Int) from aS b5 3,eg]
        by_cases hb3:b5 % 3=0
        · simp only[show(((b5 % 3:Nat):Int)=0)=True from eq_true (by omega),decide_true,↓aF]
          obtain⟨vL6,vB6,r6⟩:=r6.v
          obtain⟨bs6,j6,nb6,ev6,e6,eu6,-⟩:=dP r6
          simp only[↓qm eu6,Nat.zero_add,Nat.reduceAdd,↓pH e6 (j:=9) rfl]
          rw[dE,wrap64 (by omega) (by omega),pI rfl]
          refine tV r6 (by omega) fun b7 h7 _ r7 k7=>?_
          obtain⟨bs7,j7,nb7,ev7,e7,eu7,-⟩:=dP r7
          simp only[↓qm eu7,Nat.zero_add,Nat.reduceAdd,↓pH e7 (j:=9) rfl,al,true_and]
          rw[cq]
          refine⟨by omega,?_⟩
          rw[show((b7:Int).tmod 6)=((b7 % 6:Nat):Int) from aS b7 6]
          have hb6:b7 % 6<6:=Nat.mod_lt _ (by omega)
          rw[dE,wrap64 (by omega) (by omega)]
          refine C5 r7 (by omega) fun d h8 hd r8 k8=>?_
          obtain⟨bs8,j8,nb8,ev8,e8,eu8,-⟩:=dP r8
          simp only[↓qm eu8,Nat.zero_add,Nat.reduceAdd,↓pH e8 (j:=9) rfl,al,true_and]
          refine G7 r8 (by omega) fun o h9 ho r9 k9=>?_
          obtain⟨bs9,j9,nb9,ev9,e9,eu9,-⟩:=dP r9
          simp only[↓qm eu9,Nat.zero_add,Nat.reduceAdd,↓pH e9 (j:=9) rfl,al,true_and]
          refine G7 r9 (by omega) fun p h10 hp r10 k10=>?_
          obtain⟨bs10,j10,nb10,ev10,e10,eu10,st10⟩:=dP r10
          simp only[↓qm eu10,Nat.zero_add,Nat.reduceAdd,↓pH e10 (j:=9) rfl,al,true_and]
          rw[pI rfl]
          refine st10 ⟨4,1+((b7 % 6:Nat):Int),gk d,o,p,(pre4.length:Int)+1,0⟩ fun h11 r11 k11=>?_
          have hz11:=k11 nz _ hne (k10 nz _ hne (k9 nz _ hne (k8 nz _ hne (k7 nz _ hne hz6))))
          try simp only[al,true_and]
          exact hT _ h11 (.collect _ _ _ _ (pre4.length+1) (by omega) ((cP hd).mono (by omega)) (ho.o.mono (by omega)) (hp.o.mono (by omega)) (by omega)) (r11.le (by omega)) hz11
        · simp only[show(((b5 % 3:Nat):Int)=0)=False from eq_false (by omega),decide_false,↓aC]
          try simp only[al,true_and]
          exact hT _ h6 (.barrier (pre4.length+1) (by omega)) (r6.le (by omega)) hz6
      · refine cY r3 (by omega) fun b4 h4 _ r4 k4=>?_
        have hz4:=k4 nz _ hne hz3
        rw[cq]
        refine⟨by omega,?_⟩
        rw[show((b4:Int).tmod 3)=((b4 % 3:Nat):Int) from aS b4 3,eg]
        by_cases hb3:b4 % 3=0
        · simp only[show(((b4 % 3:Nat):Int)=0)=True from eq_true (by omega),decide_true,↓aF]
          refine Bj (q:=c-j) hs1.hd hs1.regs nl (by omega) (by omega) (by omega) hLp hpA hX hi r4 (by omega) fun s5 pre5 h5 e1 e2 e3 e4 e5 e6 e7 r5 k5=>?_
          try simp only[al,true_and]
          exact⟨s5,pre5,[],by rw[e1,e2];exact hs1.hd,e3,e4,e5,e6,e7,.nil,by simp,r5.le (by omega),k5 nz _ hne hz4⟩
        · simp only[show(((b4 % 3:Nat):Int)=0)=False from eq_false (by omega),decide_false,↓aC]
          try simp only[al,true_and]
          exact⟨s1,pre,is,hs1.hd,hs1.regs,by omega,by omega,hLp,hpA,hX.mono (by have:=hs1.regs;omega),hi,r4.le (by omega),hz4⟩
  · simp only[show((0:Int)<(j:Int))=False from eq_false (by omega),decide_false,↓aC]
    have hj0:j=0:=by omega
    subst hj0
    have s2:Dj s1 bs 2:=⟨hs1.hd,hs1.regs,by have:=hs1.nl;omega,by have:=hs1.nb;omega,hs1.loops,hs1.b⟩
    exact⟨rfl,hJ s1 bs h1 s2 (r1.le (by omega)) hz1⟩
end Go.Am
namespace Go.Am
open Go
set_option maxHeartbeats 1000000 in
theorem Ij {h:Heap}{n nz k c:Nat}{s:MS}(hc:c<=2) (hg:s.group=4\/s.group=1\/s.group=2\/s.group=8\/s.group=6) (h1:s.sub=1) (hr:s.regs=6) (hl:s.loops=[]) (r:aJ h n k aW { s with blocks:=[] }) (hne:nz≠n) (hz:h nz=.box z8){J:List D->Heap->Prop}
    (hJ:∀(s':MS) (h':Heap),Hd s'.group s'.sub->s'.regs=6->s'.loops=[]->aJ h' n k aW { s' with blocks:=[] }->h' nz=.box z8->J [] h') :
    js (.int .i64 (c:Int)) h (.ptr n 0 0) (.ptr nz 0 0) J:=by
  unfold js
  refine⟨fun j qs h'=>j<=c/\qs=[.int .i64 (j:Int)]/\∃s':MS,Hd s'.group s'.sub/\(j=2->s'.sub=1)/\(j=1->s'.sub<=2)/\s'.regs=6/\s'.loops=[]/\aJ h' n k aW { s' with blocks:=[] }/\h' nz=.box z8,c,
    ⟨Nat.le_refl _,rfl,s,⟨hg,by omega,by rw[h1];rcases hg with h|h|h|h|h<;>rw[h]<;>rfl⟩,fun _=>h1,fun _=>by omega,hr,hl,r,hz⟩,?_⟩
  rintro j f h2 ⟨hj,hq,s2,hd,hs2,hs1,hr2,hl2,r2,hz2⟩
  simp only[List.cons.injEq,and_true]at hq
  rw[hq,qS]
  obtain⟨bs2,j2,vL2,vB2,e2,eu2,-⟩:=DH r2
  unfold b6 at e2
  by_cases h0:0<j
  · simp only[show((0:Int)<(j:Int))=True from eq_true (by omega),decide_true,↓Mi,↓qm eu2,Nat.zero_add,Nat.reduceAdd,↓pH e2 (j:=2) rfl,↓pH e2 (j:=3) rfl]
    have hsb:s2.sub=1\/s2.sub=2:=by
      rcases hd.sub with h|h|h|h
      · exact Or.inl h
      · exact Or.inr h
      · exfalso;rcases (show j=1\/j=2 by omega) with e|e
        · have:=hs1 e;omega
        · have:=hs2 e;omega
      · exfalso;rcases (show j=1\/j=2 by omega) with e|e
        · have:=hs1 e;omega
        · have:=hs2 e;omega
    rw[Dw,wrap64 (by omega) (by omega),cq]
    refine⟨by omega,?_⟩
    rw[eg]
    by_cases hd0:s2.group.tmod (2*s2.sub)=0
    · simp only[hd0,decide_true,↓AD,↓Bh,↓aF,↓DY eu2,Nat.zero_add,Nat.reduceAdd,↓Fq e2 (j:=3) rfl]
      rw[Dw,wrap64 (by omega) (by omega)]
      refine JV (v:=2*s2.sub) r2 fun h3 r3 k3=>?_
      rw[kd,wrap64 (by omega) (by omega)]
      refine⟨rfl,j-1,by omega,by omega,by congr 2;omega,{ s2 with sub:=2*s2.sub },⟨hd.group,by simp only;omega,hd0⟩,fun e=>by omega,fun e=>?_,hr2,hl2,r3,k3 nz _ hne hz2⟩
      have:=hs2 (by omega)
      simp only;omega
    · simp only[hd0,decide_false,↓AD,↓Bh,↓aC]
      exact⟨rfl,hJ s2 h2 hd hr2 hl2 r2 hz2⟩
  · simp only[show((0:Int)<(j:Int))=False from eq_false (by omega),decide_false,↓Mj,↓zl,↓AD,↓Gd,↓aC]
    exact⟨rfl,hJ s2 h2 hd hr2 hl2 r2 hz2⟩
theorem N3 {P:Program}{h:Heap}{KH:D->Heap->Prop}{n:Nat}{a b c1 c2 c3 c4 c5 c6 c7 c8:D}(e:h n=.box (.agg [a,b,c1,c2,c3,c4,c5,c6,c7,c8])):aa P (.ld (.c (.ptr n 0 2)) 8 true) h KH=KH (.agg [c1,c2,c3,c4,c5,c6,c7,c8]) h:=N2 e (by simp)
theorem NY {P:Program}{h:Heap}{KH:D->Heap->Prop}{nz:Nat}{c1 c2 c3 c4 c5 c6 c7 c8:D}(e:h nz=.box z8) (ho:(D.agg [c1,c2,c3,c4,c5,c6,c7,c8]).cells.all D.one=true) :
    aa P (.st (.c (.ptr nz 0 0)) (.c (.agg [c1,c2,c3,c4,c5,c6,c7,c8])) 8) h KH=KH .undef (aj h nz (.box (.agg [c1,c2,c3,c4,c5,c6,c7,c8]))):=by
  rw[jS,e]
  apply propext
  constructor
  · exact fun hh=>hh.2.2.2.2
  · exact fun hk=>⟨rfl,List.all_eq_true.1 ho,rfl,by simp[z8],hk⟩
theorem DK {esz:Nat}{h:Heap}{v:D}{els:List D}(ho:Own esz h v els):v.one=true:=by
  rcases ho with⟨rfl,-⟩|⟨m,rfl,-⟩<;>rfl
set_option maxHeartbeats 4000000 in
theorem K5 {bs:List Nat}(hb:∀b∈bs,b<=255) (hl:bs.length<=9223372036854775807):aO PP jP [tg bs] (fun r=>∃c:Code,lP c/\r=c.e):=by
  refine aO.wk (K:=fun r=>∃c:Code,lP c/\Wk r c.e) (zj (cA xd (aq _ _ _) rfl (wW _ _) ?_)) fun r hr=>by
    obtain⟨c,hc,hw⟩:=hr
    exact⟨c.e,hw,rfl,c,hc,rfl⟩
  unfold ud
  rw[D1]
  refine⟨(eW (by simp[sT]):wy (tg bs)).one,fun n0 t0=>?_⟩
  rw[gM]
  intro nz tz
  have nn:n0≠nz:=tz.ne (by rw[ag];simp)
  have a0:aj (aj fh n0 (.box (tg bs))) nz (.box z8) n0=.box (tg bs):=by rw[ab _ _ nn,ag]
  have az:aj (aj fh n0 (.box (tg bs))) nz (.box z8) nz=.box z8:=ag _ _ _
  show aa PP _ (aj (aj fh n0 (.box (tg bs))) nz (.box z8)) _
  generalize aj (aj fh n0 (.box (tg bs))) nz (.box z8)=hA at a0 az
  have eu0:(hA n0).used=true:=by rw[a0];rfl
  unfold tg at a0
  simp only[↓DY eu0,Nat.zero_add,↓Fq a0 (j:=0) rfl]
  rw[jA rfl,show D.agg (fillD [.nil,.int .i64 0,.int .i64 0,.int .i64 0,.int .i64 0,.int .i64 0,.int .i64 0,.nil,.nil,.nil] (List.map (fun p=>(p.fst,p.snd.fst,(Arg.get [] p.snd.snd).cells)) [(0,1,Arg.c (sT bs))])) =
    .agg (sT bs::.int .i64 ((0:Nat):Int)::[.int .i64 0,.int .i64 0,.int .i64 0,.int .i64 0,.int .i64 0,.nil,.nil,.nil]) from rfl,D1]
  refine⟨List.all_eq_true.1 rfl,fun n tn=>?_⟩
  have hnz:nz≠n:=tn.ne (by rw[az];simp)
  have b1:aj hA n (.box (.agg (sT bs::.int .i64 ((0:Nat):Int)::[.int .i64 0,.int .i64 0,.int .i64 0,.int .i64 0,.int .i64 0,.nil,.nil,.nil]))) n=.box (.agg (sT bs::.int .i64 ((0:Nat):Int)::[.int .i64 0,.int .i64 0,.int .i64 0,.int .i64 0,.int .i64 0,.nil,.nil,.nil])):=ag _ _ _
  have bz:aj hA n (.box (.agg (sT bs::.int .i64 ((0:Nat):Int)::[.int .i64 0,.int .i64 0,.int .i64 0,.int .i64 0,.int .i64 0,.nil,.nil,.nil]))) nz=.box z8:=by rw[ab _ _ hnz];exact az
  show ae PP _ (aj hA n (.box (.agg (sT bs::.int .i64 ((0:Nat):Int)::[.int .i64 0,.int .i64 0,.int .i64 0,.int .i64 0,.int .i64 0,.nil,.nil,.nil])))) _
  generalize aj hA n (.box (.agg (sT bs::.int .i64 ((0:Nat):Int)::[.int .i64 0,.int .i64 0,.int .i64 0,.int .i64 0,.int .i64 0,.nil,.nil,.nil])))=hB at b1 bz
  have hbl:∀{Q:D->Prop},ae PP (.bldS false 1 5 (.int .i64 0) [(0,(.c (.int .i64 4))),(1,(.c (.int .i64 1))),(2,(.c (.int .i64 2))),(3,(.c (.int .i64 8))),(4,(.c (.int .i64 6)))]) hB Q=Q (.sl [.int .i64 4,.int .i64 1,.int .i64 2,.int .i64 8,.int .i64 6]):=by
    intro Q
    apply propext
    constructor
    · exact fun hh=>hh.2.2.2
    · intro hq
      refine⟨mo rfl,?_,by simp,hq⟩
      intro p hp
      simp[Arg.get]at hp
      rcases hp with rfl|rfl|rfl|rfl|rfl<;>simp
  simp only[hbl]
  refine AG b1 hb hl (by omega) fun b hb2=>?_
  have c1:=ag hB n (.box (.agg (sT bs::.int .i64 ((0+1:Nat):Int)::[.int .i64 0,.int .i64 0,.int .i64 0,.int .i64 0,.int .i64 0,.nil,.nil,.nil])))
  have cz:aj hB n (.box (.agg (sT bs::.int .i64 ((0+1:Nat):Int)::[.int .i64 0,.int .i64 0,.int .i64 0,.int .i64 0,.int .i64 0,.nil,.nil,.nil]))) nz=.box z8:=by rw[ab _ _ hnz];exact bz
  generalize aj hB n (.box (.agg (sT bs::.int .i64 ((0+1:Nat):Int)::[.int .i64 0,.int .i64 0,.int .i64 0,.int .i64 0,.int .i64 0,.nil,.nil,.nil])))=hC at c1 cz
  rw[cq]
  refine⟨by omega,?_⟩
  rw[show((b:Int).tmod 5)=((b % 5:Nat):Int) from aS b 5]
  obtain⟨g,hg,hg5⟩:∃g:Int,([.int .i64 4,.int .i64 1,.int .i64 2,.int .i64 8,.int .i64 6]:List D)[b % 5]?=some (.int .i64 g)/\(g=4\/g=1\/g=2\/g=8\/g=6):=by
    have:b % 5=0\/b % 5=1\/b % 5=2\/b % 5=3\/b % 5=4:=by omega
    rcases this with e|e|e|e|e<;>rw[e]<;>exact⟨_,rfl,by simp⟩
  have hi:∀{Q:D->Prop},ae PP (.iadd (.c (.sl [.int .i64 4,.int .i64 1,.int .i64 2,.int .i64 8,.int .i64 6])) (.c (.int .i64 ((b % 5:Nat):Int))) 1) hC Q=Q (.vp (.int .i64 g) 0):=by
    intro Q
    rw[ku,yi,Int.toNat_natCast,hg]
    apply propext
    constructor
    · rintro⟨-,-,h⟩;exact(h _ rfl).2
    · intro hq;exact⟨by omega,by simp;omega,fun d hd=>by cases hd;exact⟨rfl,hq⟩⟩
  have hld:∀{Q:D->Prop},ae PP (.ld (.c (.vp (.int .i64 g) 0)) 1 false) hC Q=Q (.int .i64 g):=fun {Q}=>by rw[qH,yh,ec];rfl
  simp only[↓hi,↓hld]
  refine zZ Hf trivial ?_
  have eu1:(hC n).used=true:=by rw[c1];rfl
  rw[pI rfl]
  simp only[↓qm eu1,Nat.zero_add]
  rw[jS,c1]
  refine⟨rfl,?_,rfl,by simp,?_⟩
  · intro x hx
    simp[fillD,D.cells,Arg.get,aW]at hx
    rcases hx with rfl|rfl|rfl|rfl|rfl|rfl|rfl|rfl<;>rfl
  have es:setCells (.agg (sT bs::.int .i64 ((0+1:Nat):Int)::[.int .i64 0,.int .i64 0,.int .i64 0,.int .i64 0,.int .i64 0,.nil,.nil,.nil])) 2 (D.agg (fillD [.int .i64 0,.int .i64 0,.int .i64 0,.int .i64 0,.int .i64 0,.nil,.nil,.nil] (List.map (fun p=>(p.fst,p.snd.fst,(Arg.get [] p.snd.snd).cells)) [(0,1,Arg.c (.int .i64 g)),(1,1,Arg.c (.int .i64 1)),(2,1,Arg.c (.int .i64 6)),(4,1,Arg.c (.int .i64 3)),(5,1,Arg.c aW)]))).cells =
      b6 bs 1 aW ⟨g,1,6,[],[]⟩ .nil .nil:=rfl
  rw[es]
  have r0:aJ (aj hC n (.box (b6 bs 1 aW ⟨g,1,6,[],[]⟩ .nil .nil))) n 1 aW { (⟨g,1,6,[],[]⟩:MS) with blocks:=[] }:=⟨bs,1,.nil,.nil,[],hb,hl,Nat.le_refl _,ag _ _ _,Gf⟩
  have dz:aj hC n (.box (b6 bs 1 aW ⟨g,1,6,[],[]⟩ .nil .nil)) nz=.box z8:=by rw[ab _ _ hnz];exact cz
  generalize aj hC n (.box (b6 bs 1 aW ⟨g,1,6,[],[]⟩ .nil .nil))=hD at r0 dz
  refine⟨fun qs h'=>qs=[]/\∃s:MS,Hd s.group s.sub/\s.regs=6/\s.loops=[]/\aJ h' n 10 aW { s with blocks:=[] }/\h' nz=.box z8,?_,?_⟩
  · rintro f1 h1 ⟨-,s1,hd1,hr1,hl1,r1,z1⟩
    refine⟨fun qs h'=>qs=[]/\∃(s':MS) (bs:List Block),Dj s' bs 2/\aJ h' n 3000 aW { s' with blocks:=bs }/\h' nz=.box z8,?_,?_⟩
    · rintro f2 h2 ⟨-,s2,bs2,hs2,r2,z2⟩
      have nl:=hs2.nl
      have nb:=hs2.nb
      refine cY r2 (by omega) fun b3 h3 _ r3 k3=>?_
      rw[cq]
      refine⟨by omega,?_⟩
      rw[show((b3:Int).tmod 3)=((b3 % 3:Nat):Int) from aS b3 3]
      have hm:b3 % 3<3:=Nat.mod_lt _ (by omega)
      refine BS r3 hs2.b (by omega) (by have:=hs2.regs;omega) (by omega) (by omega) fun pre is h4 hpl hpA hX hi4 r4 k4=>?_
      have z4:=k4 nz _ hnz (k3 nz _ hnz z2)
      have hLp:∀l∈s2.loops,JD (pre.length+1) s2.regs l:=fun l hl=>by
        obtain⟨⟨hd,e1,e2⟩,e3⟩:=hs2.loops l hl
        exact⟨⟨hd,e1,by omega⟩,e3⟩
      refine⟨fun qs h'=>qs=[]/\∃(s':MS) (pre':List Block) (is':List bg),Hd s'.group s'.sub/\s'.regs=6+2*(s'.loops.length:Int)/\s'.loops.length<=3/\pre'.length<=17/\(∀l,l∈s'.loops->JD (pre'.length+1) s'.regs l) /\
        ji (pre'.length+1) s'.regs pre'/\jT s'.regs is'/\is'.length<=8/\aJ h' n 9000 aW (jn s' pre' is' iw)/\h' nz=.box z8,?_,?_⟩
      · rintro f5 h5 ⟨-,s5,pre5,is5,g1,g2,g3,g4,g5,g6,g7,g8,r5,z5⟩
        obtain⟨vL5,vB5,r5⟩:=r5.v
        obtain⟨bs5,j5,nb5,ev5,e5,eu5,st5⟩:=dP r5
        have lv5:∀{Q:D->Prop},bQ vB5 h5 Q=Q (.int .i64 ((pre5.length+1:Nat):Int)):=by
          intro Q
          obtain⟨_,_,vs,_,_,_,q4,q5⟩:=r5.st
          rw[DL q5.oB,gg q5.len]
          simp[jn]
        simp only[↓qm eu5,Nat.zero_add,Nat.reduceAdd,↓pH e5 (j:=9) rfl,lv5]
        rw[kd,wrap64 (by omega) (by omega),pI rfl,show((pre5.length+1:Nat):Int)-1=(pre5.length:Int) by omega]
        refine st5 ⟨5,0,an,an,an,0,0⟩ fun h6 r6 k6=>?_
        have z6:=k6 nz _ hnz z5
        obtain⟨bs6,j6,vL6,vB6,vs6,q1,q2,q3,q4,q5⟩:=r6.st
        have eu6:(h6 n).used=true:=by rw[q4];rfl
        unfold b6 at q4
        simp only[↓DY eu6,Nat.zero_add,Nat.reduceAdd,↓N3 q4]
        have o1:=DK q5.oL
        have o2:=DK q5.oB
        rw[NY z6 (by simp[D.cells,o1,o2,aW])]
        have hld8:=uZ (P:=PP) (KH:=fun a63 _=>∃h'',Cm (aj h6 nz (.box (.agg [.int .i64 s5.group,.int .i64 s5.sub,.int .i64 s5.regs,.int .i64 0,.int .i64 3,aW,vL6,vB6]))) h''/\hQ a63/\pT h'' a63/\(a63.fzt h'').Cl=true/\∃c:Code,lP c/\Wk (a63.fzt h'') c.e)
          (ag h6 nz (.box (.agg [.int .i64 s5.group,.int .i64 s5.sub,.int .i64 s5.regs,.int .i64 0,.int .i64 3,aW,vL6,vB6])))
        refine hld8.mpr ?_
        have rr:=q5.box z6 (.box (.agg [.int .i64 s5.group,.int .i64 s5.sub,.int .i64 s5.regs,.int .i64 0,.int .i64 3,aW,vL6,vB6]))
        obtain⟨h'',i1,i2,i3,i4,i5⟩:=Gy rr (by simp[jn]) s5.group s5.sub s5.regs
        refine⟨h'',i1,i2,i3,i4,_,?_,i5⟩
        refine⟨g1.group,g1.sub,g1.dvd,g2,rfl,rfl,rfl,g3,?_,?_,?_⟩
        · simp only[jn,List.length_append,List.length_singleton];exact g5
        · simp only[jn,List.length_append,List.length_singleton];omega
        · simp only[jn,List.length_append,List.length_singleton]
          exact g6.snoc ⟨g7,by simp only;omega,.exit⟩
      · refine cY r4 (by omega) fun b5 h5 _ r5 k5=>?_
        have z5:=k5 nz _ hnz z4
        rw[cq]
        refine⟨by omega,?_⟩
        rw[show((b5:Int).tmod 3)=((b5 % 3:Nat):Int) from aS b5 3,eg]
        by_cases hb3:b5 % 3=0
        · simp only[show(((b5 % 3:Nat):Int)=0)=True from eq_true (by omega),decide_true,↓aF]
          refine Bj (q:=2) hs2.hd hs2.regs nl (by omega) (by omega) (by omega) hLp hpA hX hi4 r5 (by omega) fun s6 pre6 h6 e1 e2 e3 e4 e5 e6 e7 r6 k6=>?_
          refine xy r6 (e7.K9 (by omega) (by simp)) (by omega) fun xs h7 hxs hxl r7 k7=>?_
          try simp only[al,true_and]
          exact⟨s6,pre6,xs,by rw[e1,e2];exact hs2.hd,e3,e4,by omega,e6,e7,hxs.mono (by omega),hxl,r7.le (by omega),k7 nz _ hnz (k6 nz _ hnz z5)⟩
        · simp only[show(((b5 % 3:Nat):Int)=0)=False from eq_false (by omega),decide_false,↓aC]
          try simp only[al,true_and]
          exact⟨s2,pre,is,hs2.hd,hs2.regs,by omega,by omega,hLp,hpA,hX.mono (by have:=hs2.regs;omega),hi4,r5.le (by omega),z5⟩
    · refine cY r1 (by omega) fun b2 h2 _ r2 k2=>?_
      have z2:=k2 nz _ hnz z1
      rw[cq]
      refine⟨by omega,?_⟩
      rw[show((b2:Int).tmod 3)=((b2 % 3:Nat):Int) from aS b2 3]
      have hm:b2 % 3<3:=Nat.mod_lt _ (by omega)
      refine Ik hnz (by omega) ⟨hd1,by rw[hr1,hl1];rfl,by rw[hl1];simp,by simp,(by rw[hl1];intro l hl;cases hl),ji.nil⟩ r2 (by omega) z2 fun s' bs' h' q1 q2 q3=>⟨rfl,s',bs',q1,q2.le (by omega),q3⟩
  · refine cY r0 (by omega) fun b1 h1 _ r1 k1=>?_
    have z1:=k1 nz _ hnz dz
    rw[cq]
    refine⟨by omega,?_⟩
    rw[show((b1:Int).tmod 3)=((b1 % 3:Nat):Int) from aS b1 3]
    have hm:b1 % 3<3:=Nat.mod_lt _ (by omega)
    exact Ij (by omega) hg5 rfl rfl rfl r1 hnz z1 fun s' h' q1 q2 q3 q4 q5=>⟨rfl,s',q1,q2,q3,q4.le (by omega),q5⟩
end Go.Am
namespace Go.Am
open Go Go.Proofs Go.Shelf Go.RowKit
def zA:Go.Shelf.Ren:=⟨fun|7=>42|10=>66|n=>n,fun|23=>89|26=>3|3=>4|28=>94|0=>0|27=>93|33=>120|4=>4|n=>n,fun|n=>n⟩
theorem L7:Go.Proofs.SlLaysZI.n7 Tryz.prog zA:={
  mixed:=by kernel_rfl,
  f7:=⟨Tryz.f42.name,by decide,Tryz.func42.trans (congrArg some (by kernel_rfl))⟩,
  f10:=⟨Tryz.f66.name,by decide,Tryz.func66.trans (congrArg some (by kernel_rfl))⟩,
  t0:=Tryz.underlying0,
  a0:=Tryz.isAgg0,
  z0:=Tryz.sizeOf0,
  v0:=Tryz.zeroValue0,
  t4:=Tryz.underlying4,
  a4:=Tryz.isAgg4,
  z4:=Tryz.sizeOf4,
  v4:=Tryz.zeroValue4,
  t23:=Tryz.underlying89,
  a23:=Tryz.isAgg89,
  z23:=Tryz.sizeOf89,
  v23:=Tryz.zeroValue89,
  t26:=Tryz.underlying3,
  a26:=Tryz.isAgg3,
  z26:=Tryz.sizeOf3,
  v26:=Tryz.zeroValue3,
  t27:=Tryz.underlying93,
  a27:=Tryz.isAgg93,
  z27:=Tryz.sizeOf93,
  v27:=Tryz.zeroValue93,
  t28:=Tryz.underlying94,
  a28:=Tryz.isAgg94,
  z28:=Tryz.sizeOf94,
  v28:=Tryz.zeroValue94,
  t33:=Tryz.underlying120,
  a33:=Tryz.isAgg120,
  z33:=Tryz.sizeOf120,
  v33:=Tryz.zeroValue120 }
def zz:Go.Shelf.Ren:=⟨fun|7=>43|10=>67|n=>n,fun|23=>88|26=>3|3=>41|28=>94|0=>0|27=>93|33=>120|4=>4|n=>n,fun|n=>n⟩
theorem L6:Go.Proofs.SlLaysZI.n7 Tryz.prog zz:={
  mixed:=by kernel_rfl,
  f7:=⟨Tryz.f43.name,by decide,Tryz.func43.trans (congrArg some (by kernel_rfl))⟩,
  f10:=⟨Tryz.f67.name,by decide,Tryz.func67.trans (congrArg some (by kernel_rfl))⟩,
  t0:=Tryz.underlying0,
  a0:=Tryz.isAgg0,
  z0:=Tryz.sizeOf0,
  v0:=Tryz.zeroValue0,
  t4:=Tryz.underlying4,
  a4:=Tryz.isAgg4,
  z4:=Tryz.sizeOf4,
  v4:=Tryz.zeroValue4,
  t23:=Tryz.underlying88,
  a23:=Tryz.isAgg88,
  z23:=Tryz.sizeOf88,
  v23:=Tryz.zeroValue88,
  t26:=Tryz.underlying3,
  a26:=Tryz.isAgg3,
  z26:=Tryz.sizeOf3,
  v26:=Tryz.zeroValue3,
  t27:=Tryz.underlying93,
  a27:=Tryz.isAgg93,
  z27:=Tryz.sizeOf93,
  v27:=Tryz.zeroValue93,
  t28:=Tryz.underlying94,
  a28:=Tryz.isAgg94,
  z28:=Tryz.sizeOf94,
  v28:=Tryz.zeroValue94,
  t33:=Tryz.underlying120,
  a33:=Tryz.isAgg120,
  z33:=Tryz.sizeOf120,
  v33:=Tryz.zeroValue120 }
def vI:Go.Shelf.Ren:=⟨fun|6=>41|8=>64|9=>65|11=>86|13=>88|12=>87|23=>108|24=>109|14=>100|15=>101|16=>102|17=>103|18=>104|19=>105|20=>79|21=>106|22=>107|25=>117|26=>118|27=>119|28=>120|29=>121|30=>90|31=>128|n=>n,fun|26=>3|28=>94|24=>41|0=>0|3=>3|37=>79|48=>38|50=>160|4=>4|40=>153|39=>152|45=>104|5=>5|9=>9|51=>174|55=>178|57=>183|58=>184|33=>120|n=>n,fun|n=>n⟩
theorem DC:Go.Proofs.SlLaysZI.n6 Tryz.prog vI:={
  mixed:=by kernel_rfl,
  f6:=⟨Tryz.f41.name,by decide,Tryz.func41.trans (congrArg some (by kernel_rfl))⟩,
  f8:=⟨Tryz.f64.name,by decide,Tryz.func64.trans (congrArg some (by kernel_rfl))⟩,
  f11:=⟨Tryz.f86.name,by decide,Tryz.func86.trans (congrArg some (by kernel_rfl))⟩,
  t0:=Tryz.underlying0,
  a0:=Tryz.isAgg0,
  z0:=Tryz.sizeOf0,
  v0:=Tryz.zeroValue0,
  t24:=Tryz.underlying41,
  a24:=Tryz.isAgg41,
  z24:=Tryz.sizeOf41,
  v24:=Tryz.zeroValue41,
  t26:=Tryz.underlying3,
  a26:=Tryz.isAgg3,
  z26:=Tryz.sizeOf3,
  v26:=Tryz.zeroValue3,
  t28:=Tryz.underlying94,
  a28:=Tryz.isAgg94,
  z28:=Tryz.sizeOf94,
  v28:=Tryz.zeroValue94,
  i26:=by kernel_rfl }
def EC:Go.Shelf.Ren:=⟨fun|5=>65|8=>88|7=>87|19=>108|20=>109|10=>100|11=>101|12=>102|13=>103|14=>104|15=>105|16=>79|17=>106|18=>107|30=>117|31=>118|32=>119|33=>120|34=>121|35=>90|40=>128|n=>n,fun|23=>41|25=>3|3=>3|32=>79|22=>41|0=>0|44=>38|46=>160|4=>4|36=>153|35=>152|41=>104|5=>5|9=>9|53=>174|57=>178|63=>183|64=>184|n=>n,fun|n=>n⟩
theorem Ji:Go.Proofs.SlLaysM.n5 Tryz.prog EC:={
  mixed:=by kernel_rfl,
  f5:=⟨Tryz.f65.name,by decide,Tryz.func65.trans (congrArg some (by kernel_rfl))⟩,
  f7:=⟨Tryz.f87.name,by decide,Tryz.func87.trans (congrArg some (by kernel_rfl))⟩,
  f8:=Tryz.func88.trans (congrArg some (by kernel_rfl)),
  f10:=⟨Tryz.f100.name,by decide,Tryz.func100.trans (congrArg some (by kernel_rfl))⟩,
  f11:=⟨Tryz.f101.name,by decide,Tryz.func101.trans (congrArg some (by kernel_rfl))⟩,
  f12:=⟨Tryz.f102.name,by decide,Tryz.func102.trans (congrArg some (by kernel_rfl))⟩,
  f13:=⟨Tryz.f103.name,by decide,Tryz.func103.trans (congrArg some (by kernel_rfl))⟩,
  f14:=⟨Tryz.f104.name,by decide,Tryz.func104.trans (congrArg some (by kernel_rfl))⟩,
  f15:=⟨Tryz.f105.name,by decide,Tryz.func105.trans (congrArg some (by kernel_rfl))⟩,
  f16:=⟨Tryz.f79.name,by decide,Tryz.func79.trans (congrArg some (by kernel_rfl))⟩,
  f17:=⟨Tryz.f106.name,by decide,Tryz.func106.trans (congrArg some (by kernel_rfl))⟩,
  f18:=⟨Tryz.f107.name,by decide,Tryz.func107.trans (congrArg some (by kernel_rfl))⟩,
  f19:=Tryz.func108.trans (congrArg some (by kernel_rfl)),
  f20:=Tryz.func109.trans (congrArg some (by kernel_rfl)),
  f30:=⟨Tryz.f117.name,by decide,Tryz.func117.trans (congrArg some (by kernel_rfl))⟩,
  f31:=Tryz.func118.trans (congrArg some (by kernel_rfl)),
  f32:=Tryz.func119.trans (congrArg some (by kernel_rfl)),
  f33:=⟨Tryz.f120.name,by decide,Tryz.func120.trans (congrArg some (by kernel_rfl))⟩,
  f34:=⟨Tryz.f121.name,by decide,Tryz.func121.trans (congrArg some (by kernel_rfl))⟩,
  f35:=⟨Tryz.f90.name,by decide,Tryz.func90.trans (congrArg some (by kernel_rfl))⟩,
  f40:=⟨Tryz.f128.name,by decide,Tryz.func128.trans (congrArg some (by kernel_rfl))⟩,
  t0:=Tryz.underlying0,
  a0:=Tryz.isAgg0,
  z0:=Tryz.sizeOf0,
  v0:=Tryz.zeroValue0,
  t3:=Tryz.underlying3,
  a3:=Tryz.isAgg3,
  z3:=Tryz.sizeOf3,
  v3:=Tryz.zeroValue3,
  t4:=Tryz.underlying4,
  a4:=Tryz.isAgg4,
  z4:=Tryz.sizeOf4,
  v4:=Tryz.zeroValue4,
  t5:=Tryz.underlying5,
  a5:=Tryz.isAgg5,
  z5:=Tryz.sizeOf5,
  v5:=Tryz.zeroValue5,
  t9:=Tryz.underlying9,
  a9:=Tryz.isAgg9,
  z9:=Tryz.sizeOf9,
  v9:=Tryz.zeroValue9,
  t22:=Tryz.underlying41,
  a22:=Tryz.isAgg41,
  z22:=Tryz.sizeOf41,
  v22:=Tryz.zeroValue41,
  t23:=Tryz.underlying41,
  a23:=Tryz.isAgg41,
  z23:=Tryz.sizeOf41,
  v23:=Tryz.zeroValue41,
  t25:=Tryz.underlying3,
  a25:=Tryz.isAgg3,
  z25:=Tryz.sizeOf3,
  v25:=Tryz.zeroValue3,
  t32:=Tryz.underlying79,
  a32:=Tryz.isAgg79,
  z32:=Tryz.sizeOf79,
  v32:=Tryz.zeroValue79,
  t35:=Tryz.underlying152,
  a35:=Tryz.isAgg152,
  z35:=Tryz.sizeOf152,
  v35:=Tryz.zeroValue152,
  t36:=Tryz.underlying153,
  a36:=Tryz.isAgg153,
  z36:=Tryz.sizeOf153,
  v36:=Tryz.zeroValue153,
  t41:=Tryz.underlying104,
  a41:=Tryz.isAgg104,
  z41:=Tryz.sizeOf104,
  v41:=Tryz.zeroValue104,
  t44:=Tryz.underlying38,
  a44:=Tryz.isAgg38,
  z44:=Tryz.sizeOf38,
  v44:=Tryz.zeroValue38,
  t46:=Tryz.underlying160,
  a46:=Tryz.isAgg160,
  z46:=Tryz.sizeOf160,
  v46:=Tryz.zeroValue160,
  t53:=Tryz.underlying174,
  a53:=Tryz.isAgg174,
  z53:=Tryz.sizeOf174,
  v53:=Tryz.zeroValue174,
  t57:=Tryz.underlying178,
  a57:=Tryz.isAgg178,
  z57:=Tryz.sizeOf178,
  v57:=Tryz.zeroValue178,
  t63:=Tryz.underlying183,
  a63:=Tryz.isAgg183,
  z63:=Tryz.sizeOf183,
  v63:=Tryz.zeroValue183,
  t64:=Tryz.underlying184,
  a64:=Tryz.isAgg184,
  z64:=Tryz.sizeOf184,
  v64:=Tryz.zeroValue184 }
theorem FO (m:Nat):AnyZI.SortsIn Tryz.prog vI Fence.wide m :=
  ⟨fun blk off cap ss W hH hblk hsz=>callsIn_wide.2 (AnyM.slices_Sort_int Ji blk off cap ss W hH hblk hsz),
   fun p cap W=>callsIn_wide.2 (AnyM.slices_Sort_int_none Ji p cap W)⟩
def vn (F:FuncId):Prop:=∀(Bm b nn:Nat) (D0:DataW Unit) (R:Value->Option (DataW Unit×List MemPlace)) (w:World),Bm<w.heap.size->w.cell? ⟨Bm,0,none⟩=some (.map (some b))->w.ownsMap Tryz.prog 3 R b nn D0 ->
  Maps.size D0<=maxLen->Maps.size D0*8<=140737488355328->Calls Tryz.prog 41 #[.func (.func F) #[] #[.pointer (some ⟨Bm,0,none⟩)]] w fun e w'=>∃(v:Value) (ss:List Int),e=.returned v/\ss.Perm (intKeys D0) /\
    w'.ownsRow w.heap.size 3 1 v ss.length ((ss.mergeSort (fun x y=>decide (x<=y))).map encZ)/\(v=.slice none 0 0↔ss=[])/\Below w.heap.size w w'
theorem GB:vn 66:=fun Bm b nn D0 R w hB hm hown h1 h2=>by
  refine(callsIn_wide (n:=5)).1 ?_
  have hseq:SeqGives Fence.wide 2 Tryz.prog 66 #[.pointer (some ⟨Bm,0,none⟩)] encZ (fun ss=>ss.Perm (intKeys D0)) (Maps.size D0) w :=
    AnyZI.keys_gives (ρ:=zA) { L7 with } Fence.wide _ trivial rfl (by omega) Bm b nn D0 w hB hm hown
  exact AnyZI.sorted_in DC Fence.wide 5 trivial trivial trivial trivial rfl (by omega) (FO _) (enters_of Tryz.func65 (by kernel_rfl) rfl) 66 _ trivial (enters_of Tryz.func66 (by kernel_rfl) rfl) _ _ h1 h2 w hseq
theorem Ky:vn 67:=fun Bm b nn D0 R w hB hm hown h1 h2=>by
  refine(callsIn_wide (n:=5)).1 ?_
  have hseq:SeqGives Fence.wide 2 Tryz.prog 67 #[.pointer (some ⟨Bm,0,none⟩)] encZ (fun ss=>ss.Perm (intKeys D0)) (Maps.size D0) w :=
    AnyZI.keys_gives (ρ:=zz) { L6 with } Fence.wide _ trivial rfl (by omega) Bm b nn D0 w hB hm hown
  exact AnyZI.sorted_in DC Fence.wide 5 trivial trivial trivial trivial rfl (by omega) (FO _) (enters_of Tryz.func65 (by kernel_rfl) rfl) 67 _ trivial (enters_of Tryz.func67 (by kernel_rfl) rfl) _ _ h1 h2 w hseq
end Go.Am
namespace Go.Am
open Go Go.Proofs Go.RowKit
theorem GF {c:Ctx}(hr:ai c){hp':Array Obj}(hs:c.hp.size<=hp'.size) (hb:∀k,k<c.hp.size->hp'[k]?=c.hp[k]?):c.le ⟨c.ρ,c.X,c.h,hp'⟩/\ai ⟨c.ρ,c.X,c.h,hp'⟩:=by
  have hle:c.le ⟨c.ρ,c.X,c.h,hp'⟩:=⟨hs,rfl,fun g hg _=>hb g hg,fun g cur ty fr h=>⟨cur,(hb g (Array.getElem?_eq_some_iff.1 h).1).trans h,rfl⟩,
    fun g r h=>⟨r,(hb g (Array.getElem?_eq_some_iff.1 h).1).trans h,rfl⟩,fun _ _=>rfl,fun _=>Trans.refl _,fun n g hm hρ _=>⟨n,hm,hρ⟩⟩
  exact⟨hle,⟨fun n=>dX hle (hr.slot n) (fun _ _=>rfl) (fun g hm hρ=>hb g (eU hr hm hρ)),hr.inj,hr.apart,fun g hx=>Nat.lt_of_lt_of_le (hr.xlt g hx) hs,hr.fin,hr.glob.mono hle,Nat.le_trans hr.lo hs⟩⟩
abbrev nL (l:List Nat):List D:=l.map fun(k:Nat)=>.int .i64 (k:Int)
theorem F1 {c:Ctx}(hr:ai c){w':World}(hs:c.hp.size<=w'.heap.size) (hb:∀k,k<c.hp.size->w'.heap[k]?=c.hp[k]?){v:Value}{e:TypeId}{ks:List Nat}(ho:w'.ownsRow c.hp.size e 1 v ks.length (ks.map fun(k:Nat)=>Value.int .i64 (k:Int))) :
    ak ⟨c.ρ,c.X,c.h,w'.heap⟩ (.sl (nL ks)) v:=by
  rcases ho.2 with⟨rfl,h0⟩|⟨g,cap,cur,rfl,hbase,hg,h1,h2,h3,h4⟩
  · have:ks=[]:=List.eq_nil_of_length_eq_zero h0
    subst this
    exact .mL none 0 (by unfold maxLen;omega)
  · by_cases hks:ks=[]
    · subst hks
      exact .mL _ cap h2
    · have hlen:ks.length=(nL ks).length:=by simp[nL]
      have hcell:∀i j d,aD (nL ks) i j=some d->j=0/\∃k,ks[i]?=some k/\d=.int .i64 (k:Int):=by
        intro i j d hd
        simp only[aD,Option.bind_eq_some_iff,nL,List.getElem?_map,Option.map_eq_some_iff]at hd
        obtain⟨x,⟨k,hk,rfl⟩,hx⟩:=hd
        cases j with
        | zero=>simp[D.cells]at hx;exact⟨rfl,k,hk,hx.symm⟩
        | succ j=>simp[D.cells]at hx
      have hval:∀(i k:Nat),ks[i]?=some k->cur.getD i Go.undef=.int .i64 (k:Int)/\i<cur.size:=by
        intro i k hk
        have hi:=(List.getElem?_eq_some_iff.1 hk).1
        have h5:(cur.toList.take (ks.length*1))[i]?=(ks.map fun(k:Nat)=>Value.int .i64 (k:Int))[i]?:=by rw[h4]
        rw[List.getElem?_take_of_lt (by omega),List.getElem?_map,hk]at h5
        have hlt:i<cur.size:=by have:=(List.getElem?_eq_some_iff.1 h5).1;simpa using this
        refine⟨?_,hlt⟩
        rw[<- au]
        simp[List.getD,h5]
      rw[hlen]
      refine ak.sl (nL ks) g 0 cap 1 (fun i _=>cur.getD i Go.undef) (by simpa[nL] using hks) (by rw[<- hlen];exact h1) h2 (by omega) (fun x hx=>?_) (fun i j d hd=>?_) (fun i j d hd=>?_) ?_ (fun i j d hd=>?_)
      · simp only[nL,List.mem_map]at hx;obtain⟨k,-,rfl⟩:=hx;rfl
      · obtain⟨-,k,-,rfl⟩:=hcell i j d hd;rfl
      · obtain⟨rfl,k,hk,rfl⟩:=hcell i j d hd
        obtain⟨-,hlt⟩:=hval i k hk
        simp only[Nat.zero_add,Nat.mul_one,Nat.add_zero]
        exact cU hg hlt
      · rintro (hx|⟨n,hm,hρ⟩)
        · have:=hr.xlt g hx;omega
        · have:=eU hr hm hρ;omega
      · obtain⟨rfl,k,hk,rfl⟩:=hcell i j d hd
        rw[(hval i k hk).1]
        exact .int _ _
structure AM (ents:List (D×D)) (ks:List Nat):Prop where
  key:∀p∈ents,∃k:Nat,k<1000000/\p.1=.int .i64 (k:Int)
  len:ents.length<=1000000
  inc:ks.Pairwise (· < ·)
  mem:∀k:Nat,k∈ks ↔ ∃p,p∈ents/\p.1=.int .i64 (k:Int)
def RU:Value->Option (DataW Unit×List MemPlace):=fun _=>some (.nil,[])
open Go.Maps in
theorem nh {F:FuncId}(hF:vn F){n m:Nat}{h:Heap}{ents:List (D×D)}{ks:List Nat}(hn:h n=.box (.mp m)) (hm:h m=.map (.int .i64) ents) (hk:AM ents ks){KH:D->Heap->Prop}
    (hK:KH (.sl (nL ks)) h):af PP aR [.fn F [] [.ptr n 0 0]] h KH:=by
  intro c w vals hh hp hr hs hrel
  subst hh
  have r0:=hrel 0 _ rfl
  obtain⟨va,hva⟩:∃va,vals = #[va]:=by
    obtain⟨l⟩:=vals
    match l,hs with
    | [x],_=>exact⟨x,rfl⟩
  subst hva
  have e0:(#[va]:Array Value).getD 0 Go.undef=va:=rfl
  rw[e0]at r0
  cases r0 with
  | fn _ _ _ xa xb hsa hsb hra hrb =>
    have rb:=hrb 0 _ rfl
    obtain⟨xa⟩:=xa
    obtain⟨xb⟩:=xb
    match xa,hsa,xb,hsb with
    | [],_,[pv],_ =>
      have e1:(#[pv]:Array Value).getD 0 Go.undef=pv:=rfl
      rw[e1]at rb
      cases rb with
      | ptrDead _ _ _ _ _ hd=>rw[hn]at hd;cases hd
      | ptrRow _ _ _ _ _ _ hrow=>rw[hn]at hrow;cases hrow
      | ptrBox _ _ g v hv hρ =>
        have hsl:=hr.slot n
        rw[hn]at hsl
        obtain⟨g',cur,ty,q1,q2,q3,q4⟩:=hsl
        rw[hρ]at q1;cases q1
        obtain⟨-,rm⟩:=q4 0 _ rfl
        have hlt:0<cur.size:=by rw[q3];simp[D.cells]
        generalize hcv:cur.getD 0 Go.undef=cv at rm
        cases rm with
        | mpDead _ _ hd=>rw[hm]at hd;cases hd
        | mp _ gm kt es0 hmm hρm =>
          have hsm:=hr.slot m
          rw[hm]at hsm
          obtain⟨gm',es,clock,p1,p2,p3,pst,p4⟩:=hsm
          rw[hρm]at p1;cases p1
          have hcell:w.cell? ⟨g,0,none⟩=some (.map (some gm)):=by
            rw[ml, <- hp,cU q2 hlt,hcv]
          have qk:∀x∈es.toList,∃p,p∈ents/\∃k:Nat,k<1000000/\p.1=.int .i64 (k:Int)/\x.key=.int .i64 (k:Int):=by
            intro x hx
            obtain⟨i,hi,rfl⟩:=List.mem_iff_getElem.1 hx
            have hi':i<es.size:=by simpa using hi
            have hpi:ents[i]?=some ents[i]:=List.getElem?_eq_getElem (by omega)
            obtain⟨a1,a2,e,a3,a4,a5⟩:=p4 i _ hpi
            rw[Array.getElem?_eq_getElem hi']at a3
            cases a3
            obtain⟨k,hk1,hk2⟩:=hk.key _ (List.mem_of_getElem? hpi)
            refine⟨_,List.mem_of_getElem? hpi,k,hk1,hk2,?_⟩
            rw[hk2]at a4
            have hgi:es.toList[i]=es[i]:=by simp
            rw[hgi]
            generalize es[i].key=kk at a4
            cases a4
            rfl
          have tn:∀p∈ents,∃x,x∈es.toList/\∀k:Nat,p.1=.int .i64 (k:Int)->x.key=.int .i64 (k:Int):=by
            intro p hpm
            obtain⟨i,hi,rfl⟩:=List.mem_iff_getElem.1 hpm
            have hpi:ents[i]?=some ents[i]:=List.getElem?_eq_getElem hi
            obtain⟨a1,a2,e,a3,a4,a5⟩:=p4 i _ hpi
            refine⟨e,by rw[Array.mem_toList_iff];exact Array.mem_of_getElem? a3,fun k hk1=>?_⟩
            rw[hk1]at a4
            generalize e.key=kk at a4
            cases a4
            rfl
          have hwf:∀k:Nat,k<1000000->(Lit.int .i64 (k:Int)).wf=true:=by
            intro k hk1
            have e1:IntKind.i64.min = -9223372036854775808:=rfl
            have e2:IntKind.i64.max=9223372036854775807:=rfl
            simp only[Lit.wf,e1,e2,Bool.and_eq_true,decide_eq_true_eq]
            omega
          have hrd:∀x∈es.toList,∀k:Nat,k<1000000->x.key=.int .i64 (k:Int)->WideElems.rd Tryz.prog 3 RU x=some (.int .i64 (k:Int),.nil):=by
            intro x hx k hk1 hk2
            exact WideElems.rd_mk (R:=RU) (yv:=(.nil,[])) (key:=x.key) (val:=x.val) (born:=x.born) (by rw[hk2];exact keyOf_int_mk Tryz.underlying3 (hwf k hk1)) rfl
          have hfit:WideElems.Fit Tryz.prog 3 RU es clock:=⟨by rw[p3];have:=hk.len;unfold maxLen;omega,pst,fun x hx=>by
            obtain⟨p,-,k,k1,-,k3⟩:=qk x hx
            exact⟨_,hrd x hx k k1 k3⟩⟩
          have hown:w.ownsMap Tryz.prog 3 RU gm es.size (.map ((es.toList.map (WideElems.rg Tryz.prog 3 RU)).foldr DataW.insert [])):=⟨es,clock,by rw[<- hp];exact p2,hfit,Nat.le_refl _,rfl⟩
          have hsize:Maps.size (.map ((es.toList.map (WideElems.rg Tryz.prog 3 RU)).foldr DataW.insert []))=es.size:=by
            rw[Maps.size_eq,(WideShapes.sorted_perm _).length_eq];simp
          obtain⟨es',hD,hpw,-⟩:=hown.entries (int_keyed Tryz.underlying3)
          have hD':(es.toList.map (WideElems.rg Tryz.prog 3 RU)).foldr DataW.insert []=es':=by simpa using hD
          have hmem:∀p,p∈es' ↔ ∃x,x∈es.toList/\WideElems.rg Tryz.prog 3 RU x=p:=by
            intro p;rw[<- hD',mem_sorted,List.mem_map]
          have hhas:∀x:Int,x∈ks.map (fun(k:Nat)=>(k:Int))↔has (.map es') (.int .i64 x)=true:=by
            intro x
            rw[has_eq,List.any_eq_true,List.mem_map]
            constructor
            · rintro⟨k,hkm,rfl⟩
              obtain⟨p,hpm,hpk⟩:=(hk.mem k).1 hkm
              obtain⟨y,hy,hyk⟩:=tn p hpm
              obtain⟨k',hk1,hk2⟩:=hk.key p hpm
              rw[hpk]at hk2
              have:k=k':=by
                have:(k:Int)=(k':Int):=by simpa using hk2
                omega
              subst this
              exact⟨_,(hmem _).2 ⟨y,hy,rfl⟩,by rw[WideElems.rg_of (hrd y hy k hk1 (hyk k hpk))];simp[Lit.sameKey]⟩
            · rintro⟨p,hpm,hps⟩
              obtain⟨y,hy,rfl⟩:=(hmem p).1 hpm
              obtain⟨q,hq,k,k1,k2,k3⟩:=qk y hy
              rw[WideElems.rg_of (hrd y hy k k1 k3)]at hps
              refine⟨k,(hk.mem k).2 ⟨q,hq,k2⟩,by simpa[Lit.sameKey] using hps⟩
          have hperm:(ks.map fun(k:Nat)=>(k:Int)).Perm (intKeys (.map es')):=perm_intKeys hpw (fun p hpm=>by
            obtain⟨y,hy,rfl⟩:=(hmem p).1 hpm
            obtain⟨q,hq,k,k1,k2,k3⟩:=qk y hy
            exact⟨k,by rw[WideElems.rg_of (hrd y hy k k1 k3)]⟩) (by
            rw[List.nodup_iff_pairwise_ne,List.pairwise_map]
            exact hk.inc.imp fun h1 h2=>by omega) hhas
          have hsorted:(ks.map fun(k:Nat)=>(k:Int)).mergeSort (fun x y=>decide (x<=y))=ks.map fun(k:Nat)=>(k:Int):=by
            refine List.mergeSort_of_pairwise ?_
            rw[List.pairwise_map]
            exact hk.inc.imp fun h1=>by simp;omega
          refine(hF g gm es.size _ RU w (by rw[<- hp];exact(Array.getElem?_eq_some_iff.1 q2).1) hcell hown (by rw[hsize,p3];have:=hk.len;unfold maxLen;omega) (by rw[hsize,p3];have:=hk.len;omega)).mono ?_
          rintro e w' ⟨v,ss,rfl,hss,hrow,-,hbel⟩
          have hp2:ss.Perm (ks.map fun(k:Nat)=>(k:Int)):=by
            refine hss.trans ?_
            rw[hD'];exact hperm.symm
          have hms:ss.mergeSort (fun x y=>decide (x<=y))=ks.map fun(k:Nat)=>(k:Int):=(mergeSort_of_perm_i hp2).trans hsorted
          have hlen:ss.length=ks.length:=by have:=hp2.length_eq;simpa using this
          rw[hms,hlen,List.map_map]at hrow
          obtain⟨g1,g2⟩:=GF (c:=c) hr (hp':=w'.heap) (by rw[hp];exact hbel.size) (fun k hk=>by rw[hp];exact hbel.block k (by rw[<- hp];exact hk))
          exact⟨v,.sl (nL ks),c.ρ,c.h,rfl,g1,g2,⟨hbel.os,hbel.tape,hbel.output⟩,F1 hr (by rw[hp];exact hbel.size) (fun k hk=>by rw[hp];exact hbel.block k (by rw[<- hp];exact hk)) (by rw[hp];exact hrow),hK⟩
end Go.Am
namespace Go.Am
open Go
variable [bw]
variable {P:Program}{KH:D->Heap->Prop}{K:D->Prop}{h:Heap}{L:List (Nat×Slot)}
def nD (k:Nat):D:=.int .i64 (k:Int)
def aL (l:List Nat):List D:=l.map nD
def QV (h:Heap) (L:List (Nat×Slot)) (v:D) (T:List Nat):Prop :=
  (v=.nil/\T=[]/\Vs h L)\/∃m off els,v=.ms m off T.length/\Vs h ((m,.arr 1 els)::L)/\off+T.length<=els.length/\(els.drop off).take T.length=aL T/\∀x∈els,x.one=true
theorem Ag {l:List Nat}:∀x,x∈aL l->x.one=true:=fun x hx=>by
  simp only[aL,List.mem_map]at hx;obtain⟨k,-,rfl⟩:=hx;rfl
theorem Cz {l:List Nat}:∀x,x∈aL l->aH x:=fun x hx=>by
  simp only[aL,List.mem_map]at hx;obtain⟨k,-,rfl⟩:=hx;exact(aV).one
theorem eo {l:List Nat}:(aL l).length=l.length:=by simp[aL]
theorem Ah {l:List Nat}{i k:Nat}(h:l[i]?=some k):(aL l)[i]?=some (nD k):=by simp[aL,h]
variable {v:D}{T:List Nat}
theorem QV.vs (q:QV h L v T):Vs h L:=by
  rcases q with⟨-,-,V⟩|⟨m,off,els,-,V,-⟩
  · exact V
  · exact V.pop
theorem QV.len (q:QV h L v T):bQ v h K=K (.int .i64 (T.length:Int)):=by
  rcases q with⟨rfl,rfl,V⟩|⟨m,off,els,rfl,V,-⟩
  · rw[FD];rfl
  · rw[mM]
    apply propext
    exact⟨fun hh=>hh.2,fun hk=>⟨by rw[V.get 0 _ _ rfl];rfl,hk⟩⟩
theorem QV.nil (V:Vs h L):QV h L .nil []:=Or.inl ⟨rfl,rfl,V⟩
theorem QV.ex (q:QV h L v T) (hT:T≠[]):∃m off els,v=.ms m off T.length/\Vs h ((m,.arr 1 els)::L)/\off+T.length<=els.length/\(els.drop off).take T.length=aL T/\∀x∈els,x.one=true:=by
  rcases q with⟨-,rfl,-⟩|q
  · exact absurd rfl hT
  · exact q
theorem QV.get (q:QV h L v T){i k:Nat}(hk:T[i]?=some k){KH:D->Heap->Prop}(hK:KH (nD k) h):aa P (.iadd (.c v) (.c (.int .i64 (i:Int))) 1) h fun a h1=>aa P (.ld (.c a) 1 false) h1 KH:=by
  have hi:=(List.getElem?_eq_some_iff.1 hk).1
  obtain⟨m,off,els,rfl,V,h1,h2,h3⟩:=q.ex (by rintro rfl;simp at hk)
  have hm:=V.get 0 _ _ rfl
  rw[pA]
  refine⟨by omega,by omega,⟨els,by rw[hm];rfl⟩,?_⟩
  have he:els[off+i]?=some (nD k):=by
    have:=Ah hk
    rw[<- h2,List.getElem?_take_of_lt hi,List.getElem?_drop]at this
    exact this
  rw[Int.toNat_natCast,V.Nh 0 rfl he rfl]
  exact hK
theorem QV.GU (q:QV h L v T){i k:Nat}(hk:T[i]?=some k){K:D->Prop}(hK:K (nD k)):ae P (.iadd (.c v) (.c (.int .i64 (i:Int))) 1) h fun a=>ae P (.ld (.c a) 1 false) h K:=by
  have:=QV.get (P:=P) q hk (KH:=fun d _=>K d) hK
  exact this
theorem QV.kN (q:QV h L v T){lo hi:Option Nat}{a b:Nat}(ha:a=lo.getD 0) (hb:b=hi.getD T.length) (hab:a<=b) (hbl:b<=T.length) (hT:T≠[]){KH:D->Heap->Prop}(hK:∀v',QV h L v' ((T.drop a).take (b-a))->KH v' h) :
    aa P (.kN (.c v) (lo.map fun(x:Nat)=>.c (.int .i64 (x:Int))) (hi.map fun(x:Nat)=>.c (.int .i64 (x:Int))) none 1) h KH:=by
  obtain⟨m,off,els,rfl,V,h1,h2,h3⟩:=q.ex hT
  have hm:=V.get 0 _ _ rfl
  have hl:((T.drop a).take (b-a)).length=b-a:=by rw[List.length_take,List.length_drop];omega
  have key:KH (.ms m (off+a) (b-a)) h:=by
    refine hK _ (Or.inr ⟨m,off+a,els,by rw[hl],V,by rw[hl];omega,?_,h3⟩)
    rw[hl]
    have e:aL ((T.drop a).take (b-a))=((aL T).drop a).take (b-a):=by simp[aL,List.map_take,List.map_drop]
    rw[e, <- h2,List.drop_take,List.drop_drop,List.take_take]
    congr 1
    omega
  have row:∃els,(h m).row=some (1,els):=⟨els,by rw[hm];rfl⟩
  cases lo with
  | none =>
    cases hi with
    | none=>simp at ha hb;subst ha;subst hb;exact⟨by omega,by omega,by omega,by omega,row,by simpa using key⟩
    | some y=>simp at ha hb;subst ha;subst hb;exact⟨by omega,by omega,by omega,by omega,row,by simpa using key⟩
  | some x =>
    cases hi with
    | none=>simp at ha hb;subst ha;subst hb;exact⟨by omega,by omega,by omega,by omega,row,by rw[show((T.length:Int)-(a:Int)).toNat=T.length-a by omega];simpa using key⟩
    | some y=>simp at ha hb;subst ha;subst hb;exact⟨by omega,by omega,by omega,by omega,row,by rw[show((b:Int)-(a:Int)).toNat=b-a by omega];simpa using key⟩
theorem QV.Mp (q:QV h L v T){lo hi:Option Nat}{a b:Nat}(ha:a=lo.getD 0) (hb:b=hi.getD T.length) (hab:a<=b) (hbl:b<=T.length) (hT:T≠[]){K:D->Prop}(hK:∀v',QV h L v' ((T.drop a).take (b-a))->K v') :
    ae P (.kN (.c v) (lo.map fun(x:Nat)=>.c (.int .i64 (x:Int))) (hi.map fun(x:Nat)=>.c (.int .i64 (x:Int))) none 1) h K :=
  QV.kN (P:=P) q ha hb hab hbl hT (KH:=fun d _=>K d) hK
theorem QV.one (V:Vs h L){z:D}{k:Nat}{fz:Bool}{KH:D->Heap->Prop}(hK:∀v h',QV h' L v [k]->KH v h'):aa P (.bldS fz 1 1 z [(0,.c (nD k))]) h KH:=by
  refine⟨fun p hp=>by simp[Arg.get]at hp;subst hp;exact⟨Nat.one_pos,rfl,(aV (k:=.i64) (n:=(k:Int))).one⟩,fun hf p hp=>?_,fun n t=>?_⟩
  · simp[Arg.get]at hp;subst hp
    intro x hx
    simp[nD,D.cells]at hx;subst hx;trivial
  · have:KH (.ms n 0 1) (aj h n (.arr 1 [nD k])):=by
      refine hK _ _ (Or.inr ⟨n,0,[nD k],rfl,V.push t.free (by simp),by simp,by simp[aL],fun x hx=>by simp at hx;subst hx;rfl⟩)
    cases fz<;>simpa[Arg.get,setEls,D.fz,D.fzc,D.nm,D.iT,nD,Heap.freezeAll] using this
theorem DZ {s x z:D}{esz bytes:Nat}:aa P (.app (.c s) (.c x) esz bytes z) h KH=velems esz x h fun ys=>(∀y∈ys,aH y)/\match s with
    | .nil=>(ys.length*bytes<=140737488355328/\ys.length<=9223372036854775807)/\∀n,lq h n->KH (.ms n 0 ys.length) (aj h n (.arr esz ys))
    | .ms m off len=>∃els,vo h m esz els/\off+len=els.length/\((len+ys.length)*bytes<=140737488355328/\len+ys.length<=9223372036854775807) /\
        ∀n,lq h n->KH (.ms n 0 (len+ys.length)) (aj (aj h m .dead) n (.arr esz (els.drop off++ys))) /\
          (off≠0->KH (.ms n off (len+ys.length)) (aj (aj h m .dead) n (.arr esz (els++ys))))
    | _=>False:=rfl
theorem QV.app (q:QV h L v T){z x:D}{bytes:Nat}{ks:List Nat}{KH:D->Heap->Prop}(hx:∀{K:List D->Prop},K (aL ks)->velems 1 x h K) (hb:(T.length+ks.length)*bytes<=140737488355328) (hl:T.length+ks.length<=9223372036854775807)
    (hK:∀v h',QV h' L v (T++ks)->KH v h'):aa P (.app (.c v) (.c x) 1 bytes z) h KH:=by
  rw[DZ]
  refine hx ⟨Cz,?_⟩
  rcases q with⟨rfl,rfl,V⟩|⟨m,off,els,rfl,V,h1,h2,h3⟩
  · refine⟨⟨by rw[eo];simpa using hb,by rw[eo];simpa using hl⟩,fun n t=>hK _ _ ?_⟩
    rw[eo,List.nil_append]
    exact Or.inr ⟨n,0,aL ks,rfl,V.push t.free (by simp),by rw[eo];omega,by rw[List.drop_zero,List.take_of_length_le (by rw[eo];omega)],Ag⟩
  · have hm:=V.get 0 _ _ rfl
    have hel:(els.take (off+T.length)).length=off+T.length:=by rw[List.length_take];omega
    have one':∀x,x∈els.take (off+T.length)++aL ks->x.one=true:=fun x hx=>by
      rcases List.mem_append.1 hx with hx|hx
      · exact h3 x (List.mem_of_mem_take hx)
      · exact Ag x hx
    have hwin:(els.take (off+T.length)).drop off=aL T:=by rw[List.drop_take];rw[<- h2];congr 1;omega
    have hw2:aL T++aL ks=aL (T++ks):=by simp[aL]
    have hlen:(T++ks).length=T.length+ks.length:=List.length_append
    refine⟨els.take (off+T.length),⟨els.drop (off+T.length),by rw[List.take_append_drop];exact hm⟩,hel.symm,⟨by rw[eo];exact hb,by rw[eo];exact hl⟩,fun n t=>?_⟩
    have Vn:∀els':List D,Vs (aj (aj h m .dead) n (.arr 1 els')) ((n,.arr 1 els')::L):=fun els'=>by
      have hne:n≠m:=by rintro rfl;rw[t.free]at hm;cases hm
      have V1:Vs (aj h m .dead) L:=by
        refine V.pop.Bs fun k s hi=>?_
        have:k≠m:=fun e=>by
          obtain⟨i,hi'⟩:=hi
          exact V.ne (i+1) 0 k m s _ (by simpa using hi') rfl (by omega) e
        exact ab _ _ this
      exact V1.push (by rw[ab _ _ hne];exact t.free) (by simp)
    rw[hwin,hw2,eo]
    refine⟨hK _ _ (Or.inr ⟨n,0,aL (T++ks),by rw[hlen],Vn _,by rw[eo];omega,by rw[List.drop_zero,List.take_of_length_le (by rw[eo];omega)],Ag⟩),fun _=>hK _ _ (Or.inr ⟨n,off,els.take (off+T.length)++aL ks,by rw[hlen],Vn _,?_,?_,one'⟩)⟩
    · rw[List.length_append (bs:=aL ks),hel,eo,hlen];omega
    · rw[List.drop_append_of_le_length (by omega),hwin,hw2,List.take_of_length_le (by rw[eo];omega)]
theorem Vs.swap {x y:Nat×Slot}(V:Vs h (x::y::L)):Vs h (y::x::L):=by
  let f:Nat->Nat:=fun i=>if i=0 then 1 else if i=1 then 0 else i
  have hf:∀i,(y::x::L)[i]?=(x::y::L)[f i]?:=fun i=>by
    match i with
    | 0=>rfl
    | 1=>rfl
    | i+2=>simp[f]
  have inj:∀i j,f i=f j->i=j:=fun i j h=>by
    simp only[f]at h;split at h<;>split at h<;>(try split at h)<;>(try split at h)<;>omega
  exact⟨fun i n s hi=>V.get (f i) n s (by rw[<- hf];exact hi),fun i j n m s s' hi hj hij=>V.ne (f i) (f j) n m s s' (by rw[<- hf];exact hi) (by rw[<- hf];exact hj) fun e=>hij (inj _ _ e),fun i n s hi=>V.lv (f i) n s (by rw[<- hf];exact hi)⟩
theorem QV.cc (q:QV h L v T) (i:Nat){n:Nat}{s s':Slot}(hi:L[i]?=.some (n,s)) (hs:s'≠.free):QV (aj h n s') (L.set i (n,s')) v T:=by
  rcases q with⟨rfl,rfl,V⟩|⟨m,off,els,rfl,V,h1,h2,h3⟩
  · exact Or.inl ⟨rfl,rfl,V.cc i hi hs⟩
  · exact Or.inr ⟨m,off,els,rfl,by have:=V.cc (i+1) (n:=n) (s:=s) (by simpa using hi) hs;simpa using this,h1,h2,h3⟩
theorem QV.more (q:QV h L v T){n:Nat}(hn:h n=.free){s:Slot}(hs:s≠.free):QV (aj h n s) ((n,s)::L) v T:=by
  rcases q with⟨rfl,rfl,V⟩|⟨m,off,els,rfl,V,h1,h2,h3⟩
  · exact Or.inl ⟨rfl,rfl,V.push hn hs⟩
  · exact Or.inr ⟨m,off,els,rfl,(V.push hn hs).swap,h1,h2,h3⟩
theorem QV.less {x:Nat×Slot}(q:QV h (x::L) v T):QV h L v T:=by
  rcases q with⟨rfl,rfl,V⟩|⟨m,off,els,rfl,V,h1,h2,h3⟩
  · exact Or.inl ⟨rfl,rfl,V.pop⟩
  · exact Or.inr ⟨m,off,els,rfl,V.swap.pop,h1,h2,h3⟩
theorem JW {n j:Nat}{els:List D}{d:D}(hn:h n=.arr 1 els) (hj:j<els.length) (ho:d.one=true) (h1:∀x∈els,x.one=true):KH .undef (aj h n (.arr 1 (els.set j d)))->aa P (.st (.c (.ptr n j 0)) (.c d) 1) h KH:=by
  intro hK
  rw[jS,hn]
  have hc:∀d:D,d.one=true->d.cells=[d]:=fun d ho=>by cases d<;>first|rfl|cases ho
  refine⟨by rw[hc d ho];rfl,fun x hx=>by rw[hc d ho]at hx;simp at hx;subst hx;exact ho,hj,by omega,fun y hy=>?_⟩
  have hy1:=h1 y (List.mem_of_getElem? hy)
  have e:setCells y 0 d.cells=d:=by rw[hc d ho];cases y<;>first|rfl|cases hy1
  rw[e]
  exact hK
theorem QV.MM (q:QV h L v T) (i:Nat){n j:Nat}{els:List D}{d:D}(hi:L[i]?=.some (n,.arr 1 els)) (hj:j<els.length) (ho:d.one=true) (h1:∀x∈els,x.one=true)
    (hK:∀h',QV h' (L.set i (n,.arr 1 (els.set j d))) v T->KH .undef h'):aa P (.st (.c (.ptr n j 0)) (.c d) 1) h KH :=
  JW (q.vs.get i _ _ hi) hj ho h1 (hK _ (q.cc i hi (by simp)))
theorem QV.alloc (q:QV h L v T){d:D}(hK:∀n h',QV h' ((n,.box d)::L) v T->KH (.ptr n 0 0) h'):aa P (.alloc d) h KH:=by
  rw[gM]
  exact fun n t=>hK n _ (q.more t.free (by simp))
theorem QV.DA (q:QV h L v T) (i:Nat){n s:Nat}{cs cs':List D}(hi:L[i]?=.some (n,.box (.agg cs))) (hl:cs.length=s) (hl':cs'.length=s) (ho:∀x,x∈cs'->x.one=true)
    (hK:∀h',QV h' (L.set i (n,.box (.agg cs'))) v T->KH .undef h'):aa P (.st (.c (.ptr n 0 0)) (.c (.agg cs')) s) h KH:=by
  rw[jS,q.vs.get i _ _ hi]
  refine⟨hl',ho,rfl,by simp[hl],?_⟩
  have e:setCells (.agg cs) 0 (D.agg cs').cells=.agg cs':=by
    show D.agg (cs.take 0++cs'++cs.drop (0+cs'.length))=_
    rw[List.take_zero,List.nil_append,Nat.zero_add,List.drop_of_length_le (by omega),List.append_nil]
  rw[e]
  exact hK _ (q.cc i hi (by simp))
theorem QV.ret (q:QV h L v T){K:D->Prop}(hk:K (.sl (aL T))) (hn:T=[]->K .nil):lQ K v h:=by
  rcases q with⟨rfl,rfl,V⟩|⟨m,off,els,rfl,V,h1,h2,h3⟩
  · rw[AT];exact hn rfl
  · have hrow:(h m).row=some (1,els):=by rw[V.get 0 _ _ rfl];rfl
    have e:(D.ms m off T.length).fzt h=.sl (aL T):=by simp[D.fzt,D.fz,D.fzc,hrow,h2]
    have hv:∀x,x∈(els.drop off).take T.length->∀y∈x.cells,y.vone=true:=by
      rw[h2];intro x hx y hy
      simp only[aL,List.mem_map]at hx
      obtain⟨k,-,rfl⟩:=hx
      simp[nD,D.cells]at hy;subst hy;rfl
    refine⟨(by simp:aH (D.ms m off T.length)),?_,by rw[e];rfl,by rw[e];exact hk⟩
    intro x hx
    simp only[D.cells,List.mem_singleton]at hx
    subst hx
    exact⟨1,els,hrow,h1,hv⟩
theorem JM {ks:List Nat}{K:List D->Prop}(hk:K (aL ks)):velems 1 (.sl (aL ks)) h K :=
  ⟨fun e he=>by simp only[aL,List.mem_map]at he;obtain⟨k,-,rfl⟩:=he;rfl,hk⟩
theorem QV.NL {ks:List Nat}(q:QV h L v ks){K:List D->Prop}(hk:K (aL ks)):velems 1 v h K:=by
  rcases q with⟨rfl,rfl,V⟩|⟨m,off,els,rfl,V,h1,h2,h3⟩
  · exact hk
  · exact⟨els,by rw[V.get 0 _ _ rfl];rfl,h1,by rw[h2];exact hk⟩
theorem QV.push (q:QV h L v T){z z':D}{bytes k:Nat}{fz:Bool}{KH:D->Heap->Prop}(hb:(T.length+1)*bytes<=140737488355328) (hl:T.length+1<=9223372036854775807)
    (hK:∀v h',QV h' L v (T++[k])->KH v h'):aa P (.bldS fz 1 1 z [(0,.c (nD k))]) h fun x h1=>aa P (.app (.c v) (.c x) 1 bytes z') h1 KH:=by
  rcases q with⟨rfl,rfl,V⟩|⟨m,off,els,rfl,V,h1,h2,h3⟩
  · refine QV.one V fun x h1 q1=>?_
    have q0:QV h1 L .nil []:=QV.nil q1.vs
    exact q0.app (ks:=[k]) (fun hk=>q1.NL hk) (by simp at hb ⊢;omega) (by simp) hK
  · refine QV.one V fun x h1 q1=>?_
    have q0:QV h1 L (.ms m off T.length) T:=Or.inr ⟨m,off,els,rfl,q1.vs,by assumption,h2,h3⟩
    exact q0.app (ks:=[k]) (fun hk=>q1.NL hk) (by simpa using hb) (by simpa using hl) hK
end Go.Am
namespace Go.Am
open Go Go.Proofs
def bt (t:Term):List Nat:=if t.kind=5 then [] else if t.kind=2/\t.to0≠t.to1 then [t.to0.toNat,t.to1.toNat] else [t.to0.toNat]
theorem Ch.succ {N:Nat}{R:Int}{t:Term}(h:Ch N R t):∀b,b∈bt t->b<N:=by
  intro b hb
  cases h with
  | branch o x y ho h1 h2 =>
    unfold bt at hb
    split at hb
    · simp at hb
    · split at hb<;>simp at hb<;>omega
  | jump a h=>simp[bt]at hb;omega
  | barrier a h=>simp[bt]at hb;omega
  | collect s d a b t hs hd ha hbb h=>simp[bt]at hb;omega
  | exit=>simp[bt]at hb
theorem GD {P:Program}{n i j l s:Nat}{k:IntKind}{a:Int}{h:Heap}{KH:D->Heap->Prop}:aa P (.iadda (.c (.ptr n i j)) (.c (.int k a)) l s) h KH=(0<=a/\a<l/\(h n).live=true/\KH (.ptr n i (j+a.toNat*s)) h):=rfl
theorem Vs.MT {P:Program}{KH:D->Heap->Prop}{h:Heap}{L:List (Nat×Slot)}(V:Vs h L) (i:Nat){n l j:Nat}{a:Nat}{d:D}(hi:L[i]?=some (n,.box d)) (h1:a<l):aa P (.iadda (.c (.ptr n 0 j)) (.c (.int .i64 (a:Int))) l 1) h KH=KH (.ptr n 0 (j+a)) h:=by
  rw[GD,V.get i _ _ hi]
  apply propext
  constructor
  · rintro⟨-,-,-,hk⟩;simpa using hk
  · intro hk;exact⟨by omega,by omega,rfl,by simpa using hk⟩
theorem Vs.Cu {P:Program}{KH:D->Heap->Prop}{h:Heap}{L:List (Nat×Slot)}(V:Vs h L) (i:Nat){n l j:Nat}{cs:List D}(hi:L[i]?=some (n,.box (.agg cs))) (h0:0<l) (hl:l<=1000000) (hj:j+l<=cs.length) (hv:∀d,d∈(cs.drop j).take l->d.vone=true)
    (hK:∀h',KH (.sl ((cs.drop j).take l)) h'):aa P (.Cu (.c (.ptr n 0 j)) l) h KH:=by
  show match h n with
    | .box (.agg cs)=>(0:Nat)=0/\0<l/\l<=1000000/\j+l<=cs.length/\(∀d,d∈(cs.drop j).take l->d.vone=true)/\KH (.sl ((cs.drop j).take l)) (aj h n .dead)
    | _=>False
  rw[V.get i _ _ hi]
  exact⟨rfl,h0,hl,hj,hv,hK _⟩
theorem Hb {N:Nat}{R:Int}{t:Term}(h:Ch N R t):aO PP dH [t.e] (· = .sl (aL (bt t))):=by
  refine aO.wk (K:=fun r=>r=.sl (aL (bt t))\/(r=.nil/\bt t=[])) (db p8 (aq _ _ _) rfl (yH _ _) ?_) fun r hr=>?_
  · unfold wh
    refine Vs.nil.box t.nT.one fun n2 h3 V=>?_
    have i0:∀{KH:D->Heap->Prop},aa PP (.iadda (.c (.ptr n2 0 11)) (.c (.int .i64 0)) 2 1) h3 KH=KH (.ptr n2 0 11) h3:=fun {KH}=>V.MT 0 (a:=0) rfl (by omega)
    have i1:∀{KH:D->Heap->Prop},aa PP (.iadda (.c (.ptr n2 0 11)) (.c (.int .i64 1)) 2 1) h3 KH=KH (.ptr n2 0 12) h3:=fun {KH}=>V.MT 0 (a:=1) rfl (by omega)
    have one:∀(a:Nat),aa PP (.bldS true 1 1 (.int .i64 0) [(0,.c (.int .i64 (a:Int)))]) h3 fun a60 h61=>lQ (fun r=>r=.sl (aL [a])\/r=.nil/\[a]=[]) a60 h61:=fun a=>by
      exact QV.one (k:=a) V fun v h' q=>q.ret (Or.inl rfl) (by simp)
    cases h with
    | jump a ha =>
      simp (disch:=omega) only[↓V.fa 0 rfl,Nat.zero_add,↓V.q8 0 (j:=0) rfl rfl,↓cS,↓gS,↓i0,↓V.q8 0 (j:=11) rfl rfl]
      exact one a
    | barrier a ha =>
      simp (disch:=omega) only[↓V.fa 0 rfl,Nat.zero_add,↓V.q8 0 (j:=0) rfl rfl,↓cS,↓gS,↓i0,↓V.q8 0 (j:=11) rfl rfl]
      exact one a
    | collect s d a b t hs hd ha hb ht =>
      simp (disch:=omega) only[↓V.fa 0 rfl,Nat.zero_add,↓V.q8 0 (j:=0) rfl rfl,↓cS,↓gS,↓i0,↓V.q8 0 (j:=11) rfl rfl]
      exact one t
    | exit =>
      simp (disch:=omega) only[↓V.fa 0 rfl,Nat.zero_add,↓V.q8 0 (j:=0) rfl rfl,↓cS,↓gS]
      rw[AT]
      exact Or.inr ⟨rfl,rfl⟩
    | branch o a b ho ha hb =>
      simp (disch:=omega) only[↓V.fa 0 rfl,Nat.zero_add,↓V.q8 0 (j:=0) rfl rfl,↓cS,↓gS,↓i0,↓i1,↓V.q8 0 (j:=11) rfl rfl,↓V.q8 0 (j:=12) rfl rfl]
      by_cases hab:a=b
      · subst hab
        simp (disch:=omega) only[↓cS,↓gS,↓V.fa 0 rfl,Nat.zero_add,↓i0,↓V.q8 0 (j:=11) rfl rfl]
        have e:bt ⟨2,0,an,o,an,(a:Int),(a:Int)⟩=[a]:=by simp[bt]
        rw[e]
        exact one a
      · simp (disch:=omega) only[↓cS,↓gS,↓V.fa 0 rfl,Nat.zero_add]
        have e:bt ⟨2,0,an,o,an,(a:Int),(b:Int)⟩=[a,b]:=by simp[bt];omega
        rw[e]
        refine V.Cu 0 (cs:=(Term.cs ⟨2,0,an,o,an,(a:Int),(b:Int)⟩)) rfl (by omega) (by omega) (by simp[Term.cs]) (fun d hd=>by simp[Term.cs]at hd;rcases hd with rfl|rfl<;>rfl) fun h'=>?_
        rw[Dr]
        exact Or.inl rfl
  · rcases hr with rfl|⟨rfl,e⟩
    · exact⟨_,.refl _,rfl,rfl⟩
    · rw[e];exact⟨_,.nil,rfl,rfl⟩
inductive Path (E:Nat->List Nat) (s:Nat):Nat->Prop
  | refl:Path E s s
  | step {a b:Nat}(h:Path E s a) (hb:b∈E a):Path E s b
theorem Path.trans {E:Nat->List Nat}{a b c:Nat}(h:Path E a b) (k:Path E b c):Path E a c:=by
  induction k with
  | refl=>exact h
  | step _ hb ih=>exact .step ih hb
theorem Path.closed {E:Nat->List Nat}{s b:Nat}{S:Nat->Prop}(h:Path E s b) (hs:S s) (hc:∀a b,S a->b∈E a->S b):S b:=by
  induction h with
  | refl=>exact hs
  | step _ hb ih=>exact hc _ _ ih hb
def zm (p:Nat->Bool) (N:Nat):Nat:=(List.range N).countP fun k=> !p k
theorem yt {α:Type}{p q:α->Bool}:∀{l:List α},(∀x∈l,q x=true->p x=true)->(∃x,x∈l/\p x=true/\q x=false)->l.countP q+1<=l.countP p
  | [],_,⟨x,hx,_⟩=>by cases hx
  | y::l,h,⟨x,hx,h1,h2⟩=>by
    have hm:l.countP q<=l.countP p:=List.countP_mono_left fun z hz hq=>h z (by simp[hz]) hq
    rw[List.countP_cons,List.countP_cons]
    rcases List.mem_cons.1 hx with rfl|hx
    · rw[h1,h2];simp;omega
    · have:=yt (l:=l) (fun z hz=>h z (by simp[hz])) ⟨x,hx,h1,h2⟩
      by_cases hq:q y=true
      · rw[hq,h y (by simp) hq];simp;omega
      · simp[hq];split<;>omega
theorem xl {p p':Nat->Bool}{N x:Nat}(h:∀k,p k=true->p' k=true) (hx:x<N) (h1:p x=false) (h2:p' x=true):zm p' N+1<=zm p N :=
  yt (fun k _ hk=>by cases hp:p k<;>simp_all) ⟨x,by simpa using hx,by simp[h1],by simp[h2]⟩
end Go.Am
namespace Go.Am
open Go Go.Proofs
structure jG (c:Code):Prop where
  nb:1<=c.b.length/\c.b.length<=18
  t:∀B∈c.b,Ch c.b.length c.regs B.t
theorem lP.g {c:Code}(h:lP c):jG c:=⟨h.nb,fun B hB=>(h.b B hB).t⟩
def edg (c:Code) (a:Nat):List Nat:=match c.b[a]? with
  | some B=>bt B.t
  | none=>[]
theorem yq {c:Code}(hc:jG c){a b:Nat}(h:b∈edg c a):b<c.b.length:=by
  unfold edg at h
  split at h
  · rename_i B hB;exact(hc.t B (List.mem_of_getElem? hB)).succ b h
  · cases h
def bL (S:List Bool):List D:=S.map .bool
theorem Hj (S:List Bool):∀x,x∈bL S->x.one=true:=fun x hx=>by
  simp only[bL,List.mem_map]at hx;obtain⟨k,-,rfl⟩:=hx;rfl
theorem Hk {S:List Bool}{i:Nat}{b:Bool}(h:S[i]?=some b):(bL S)[i]?=some (.bool b):=by simp[bL,h]
theorem Hi (S:List Bool) (i:Nat) (b:Bool):(bL S).set i (.bool b)=bL (S.set i b):=by simp[bL,List.map_set]
def hasB (S:List Bool) (k:Nat):Bool:=(S[k]?).getD false
theorem Bz {S:List Bool}{x k:Nat}(hx:x<S.length):hasB (S.set x true) k=(decide (k=x)||hasB S k):=by
  unfold hasB
  rw[List.getElem?_set]
  by_cases h:x=k
  · subst h;simp[hx]
  · rw[if_neg h];simp[Ne.symm h]
theorem BA {S:List Bool}{k:Nat}(hk:k<S.length):S[k]?=some (hasB S k):=by
  unfold hasB;rw[List.getElem?_eq_getElem hk];rfl
theorem Cs (p:Nat->Bool) (N:Nat):zm p N<=N:=by
  have:=List.countP_le_length (p:=fun k=> !p k) (l:=List.range N)
  simpa[zm] using this
structure Dl (E:Nat->List Nat) (N s:Nat) (p:Nat->Bool) (T:List Nat):Prop where
  st:p s=true
  lt:∀k,p k=true->k<N
  td:∀k∈T,p k=true
  path:∀k,p k=true->Path E s k
  done:∀a b,p a=true->a∉T->b∈E a->p b=true
theorem Dl.fin {E:Nat->List Nat}{N s:Nat}{p:Nat->Bool}(h:Dl E N s p []) (k:Nat):p k=true↔Path E s k :=
  ⟨h.path k,fun hp=>hp.closed (S:=fun k=>p k=true) h.st fun a b ha hb=>h.done a b ha (by simp) hb⟩
structure kD (E:Nat->List Nat) (N s:Nat) (p:Nat->Bool) (T:List Nat) (a i:Nat):Prop where
  st:p s=true
  lt:∀k,p k=true->k<N
  td:∀k∈T,p k=true
  path:∀k,p k=true->Path E s k
  done:∀a' b,a'≠a->p a'=true->a'∉T->b∈E a'->p b=true
  pa:p a=true
  part:∀(j b:Nat),j<i->(E a)[j]?=some b->p b=true
theorem Dl.pop {E:Nat->List Nat}{N s a:Nat}{p:Nat->Bool}{T T':List Nat}(h:Dl E N s p T) (ha:a∈T) (hT:∀k,k∈T'->k∈T) (hT2:∀k∈T,k=a\/k∈T'):kD E N s p T' a 0 :=
  ⟨h.st,h.lt,fun k hk=>h.td k (hT k hk),h.path,fun a' b hne hp hn hb=>h.done a' b hp (fun hm=>by rcases hT2 a' hm with e|e;exact hne e;exact hn e) hb,h.td a ha,fun j b hj=>by omega⟩
theorem kD.end {E:Nat->List Nat}{N s a i:Nat}{p:Nat->Bool}{T:List Nat}(h:kD E N s p T a i) (hi:(E a).length<=i):Dl E N s p T :=
  ⟨h.st,h.lt,h.td,h.path,fun a' b hp hn hb=>by
    by_cases e:a'=a
    · subst e
      obtain⟨j,hj,rfl⟩:=List.mem_iff_getElem.1 hb
      exact h.part j _ (by omega) (List.getElem?_eq_getElem hj)
    · exact h.done a' b e hp hn hb⟩
theorem kD.EL {E:Nat->List Nat}{N s a i b:Nat}{p:Nat->Bool}{T:List Nat}(h:kD E N s p T a i) (hb:(E a)[i]?=some b) (hp:p b=true):kD E N s p T a (i+1) :=
  ⟨h.st,h.lt,h.td,h.path,h.done,h.pa,fun j c hj hc=>by
    by_cases e:j=i
    · subst e;rw[hb]at hc;cases hc;exact hp
    · exact h.part j c (by omega) hc⟩
theorem kD.new {E:Nat->List Nat}{N s a i b:Nat}{p p':Nat->Bool}{T:List Nat}(h:kD E N s p T a i) (hb:(E a)[i]?=some b) (hlt:b<N) (hp':∀k,p' k=(decide (k=b)||p k)):kD E N s p' (T++[b]) a (i+1):=by
  have up:∀k,p k=true->p' k=true:=fun k hk=>by rw[hp',hk];simp
  have inv:∀k,p' k=true->k=b\/p k=true:=fun k hk=>by rw[hp']at hk;simpa using hk
  refine⟨up s h.st,fun k hk=>?_,fun k hk=>?_,fun k hk=>?_,fun a' c hne hp hn hc=>?_,up a h.pa,fun j c hj hc=>?_⟩
  · rcases inv k hk with rfl|hk
    · exact hlt
    · exact h.lt k hk
  · rcases List.mem_append.1 hk with hk|hk
    · exact up k (h.td k hk)
    · simp at hk;subst hk;rw[hp'];simp
  · rcases inv k hk with rfl|hk
    · exact .step (h.path a h.pa) (List.mem_of_getElem? hb)
    · exact h.path k hk
  · rcases inv a' hp with rfl|hp
    · exact absurd (by simp) hn
    · exact up c (h.done a' c hne hp (fun hm=>hn (by simp[hm])) hc)
  · by_cases e:j=i
    · subst e;rw[hb]at hc;cases hc;rw[hp'];simp
    · exact up c (h.part j c (by omega) hc)
end Go.Am
namespace Go.Am
open Go Go.Proofs
section
variable {c:Code}{b:Nat}{B:Block}{P:Program}{KH:D->Heap->Prop}{h:Heap}{K:D->Prop}
theorem MA (hB:c.b[b]?=some B):aa P (.iadd (.c (.sl (c.b.map Block.e))) (.c (.int .i64 (b:Int))) 14) h KH=KH (.vp B.e 0) h :=
  mL (by omega) (by rw[Int.toNat_natCast,List.getElem?_map,hB];rfl) rfl
theorem Eg (hB:c.b[b]?=some B):ae P (.iadd (.c (.sl (c.b.map Block.e))) (.c (.int .i64 (b:Int))) 14) h K=K (.vp B.e 0):=by rw[ku,MA hB]
theorem Mz:aa P (.ld (.c (.vp B.e 1)) 13 true) h KH=KH B.t.e h:=by
  rw[yh,qb]
  apply propext
  exact⟨fun hh=>hh.2,fun hk=>⟨by show 1+13<=14;omega,hk⟩⟩
theorem Ef:ae P (.ld (.c (.vp B.e 1)) 13 true) h K=K B.t.e:=by rw[qH,Mz]
theorem Mr {d:D}{o:Nat}:ae P (.fadd (.c (.vp d 0)) o) h K=K (.vp d o):=by rw[show ae P (.fadd (.c (.vp d 0)) o) h K=aa P (.fadd (.c (.vp d 0)) o) h (fun d _=>K d) from rfl,Nw]
end
theorem Lp {P:Program}{KH:D->Heap->Prop}{h:Heap}{l:List Nat}{i k:Nat}(hk:l[i]?=some k) (hK:KH (nD k) h):aa P (.iadd (.c (.sl (aL l))) (.c (.int .i64 (i:Int))) 1) h fun a h1=>aa P (.ld (.c a) 1 false) h1 KH:=by
  rw[mL (esz:=1) (d:=nD k) (by omega) (by rw[Int.toNat_natCast];exact Ah hk) rfl,Bq rfl]
  exact hK
theorem vW {h:Heap}{K:D->Prop}{l:List Nat}:bQ (.sl (aL l)) h K=K (.int .i64 (l.length:Int)):=by rw[oT,eo]
end Go.Am
namespace Go.Am
open Go Go.Proofs
def qk (ks:List Nat):List (D×D):=ks.map fun k=>(nD k,.bool true)
theorem qg {a b:Nat}:keySame (nD a) (nD b)=decide (a=b):=by simp only[keySame,nD];exact decide_eq_decide.2 (by omega)
theorem Bl {k:Nat}:∀{ks:List Nat},mget (qk ks) (nD k)=if k∈ks then some (.bool true) else none
  | []=>by simp[qk,mget]
  | a::r=>by
    have ih:=Bl (k:=k) (ks:=r)
    simp only[qk,List.map_cons,mget,qg,decide_eq_true_eq]at ih ⊢
    by_cases h:k=a
    · simp[h]
    · rw[if_neg h,ih];simp[h]
theorem Bk {k:Nat}:∀{ks:List Nat},mset (qk ks) (nD k) (.bool true)=qk (if k∈ks then ks else ks++[k])
  | []=>by simp[qk,mset]
  | a::r=>by
    have ih:=Bk (k:=k) (ks:=r)
    simp only[qk,List.map_cons,mset,qg,decide_eq_true_eq]at ih ⊢
    by_cases h:k=a
    · subst h;simp
    · rw[if_neg h,ih]
      by_cases hk:k∈r<;>simp[h,hk]
section
variable {P:Program}{KH:D->Heap->Prop}{h:Heap}{L:List (Nat×Slot)}{v:D}{T:List Nat}
theorem Vs.xt (V:Vs h L){kt:KeyT}(hK:∀n h',Vs h' ((n,.map kt [])::L)->KH (.mp n) h'):aa P (.xt kt) h KH:=fun n t=>hK n _ (V.push t.free (by simp))
theorem QV.mset (q:QV h L v T) (i:Nat){n k:Nat}{ks:List Nat}(hi:L[i]?=some (n,.map (.int .i64) (qk ks))) (hK:∀h',QV h' (L.set i (n,.map (.int .i64) (qk (if k∈ks then ks else ks++[k])))) v T->KH .undef h') :
    aa P (.mupd (.int .i64) (.c (.mp n)) (.c (nD k)) (.c (.bool true))) h KH:=by
  refine⟨rfl,rfl,?_⟩
  have hn:=q.vs.get i _ _ hi
  simp only[Arg.get,hn]
  refine⟨trivial,?_⟩
  rw[Bk]
  exact hK _ (q.cc i hi (by simp))
theorem Vs.mset (V:Vs h L) (i:Nat){n k:Nat}{ks:List Nat}(hi:L[i]?=some (n,.map (.int .i64) (qk ks))) (hK:∀h',Vs h' (L.set i (n,.map (.int .i64) (qk (if k∈ks then ks else ks++[k]))))->KH .undef h') :
    aa P (.mupd (.int .i64) (.c (.mp n)) (.c (nD k)) (.c (.bool true))) h KH :=
  (QV.nil V).mset i hi fun h' q=>hK h' q.vs
theorem Vs.mget (V:Vs h L) (i:Nat){n k:Nat}{ks:List Nat}(hi:L[i]?=some (n,.map (.int .i64) (qk ks))) (hK:KH (.bool (decide (k∈ks))) h):aa P (.look (.int .i64) (.c (.mp n)) (.c (nD k)) (.bool false) false) h KH:=by
  refine⟨rfl,?_⟩
  have hn:=V.get i _ _ hi
  simp only[Arg.get,hn]
  refine⟨trivial,?_⟩
  rw[Bl]
  by_cases hk:k∈ks<;>simpa[hk] using hK
end
def wS (c:Code) (a:Nat):List Nat:=match c.b[a]? with
  | some B=>if B.t.kind=3 then [] else bt B.t
  | none=>[]
def kP (c:Code) (a:Nat):List Nat:=match c.b[a]? with
  | some B=>if B.t.kind=3 then bt B.t else []
  | none=>[]
structure NV (ks:List Nat) (N:Nat) (p:Nat->Prop):Prop where
  nd:ks.Nodup
  lt:∀k∈ks,k<N
  mem:∀k,k∈ks↔p k
def dQ (ks:List Nat) (k:Nat):Bool:=decide (k∈ks)
theorem pj {ks:List Nat}{k:Nat}:dQ ks k=true↔k∈ks:=by simp[dQ]
def yE (ks:List Nat) (k:Nat):List Nat:=if k∈ks then ks else ks++[k]
theorem pg {ks:List Nat}{k x:Nat}:x∈yE ks k↔x=k\/x∈ks:=by
  unfold yE
  split
  · rename_i h
    constructor
    · exact Or.inr
    · rintro (rfl|hx)
      · exact h
      · exact hx
  · simp[or_comm]
theorem En {ks:List Nat}{k:Nat}(h:ks.Nodup):(yE ks k).Nodup:=by
  unfold yE
  split
  · exact h
  · rename_i hk
    exact List.nodup_append.2 ⟨h,by simp,fun a ha b hb=>by simp at hb;subst hb;rintro rfl;exact hk ha⟩
theorem qe {ks:List Nat}{k x:Nat}:dQ (yE ks k) x=(decide (x=k)||dQ ks x):=by
  unfold dQ
  rw[<- Bool.decide_or]
  exact decide_eq_decide.2 pg
theorem CG {c:Code}{a:Nat}{B:Block}(hB:c.b[a]?=some B):wS c a=if B.t.kind=3 then [] else bt B.t:=by unfold wS;rw[hB]
theorem Af {c:Code}{a:Nat}{B:Block}(hB:c.b[a]?=some B):kP c a=if B.t.kind=3 then bt B.t else []:=by unfold kP;rw[hB]
theorem Iq {c:Code}{a b:Nat}(h:b∈wS c a):b∈edg c a:=by
  unfold wS at h;unfold edg
  cases hB:c.b[a]?<;>simp only[hB]at h ⊢
  · exact h
  · split at h
    · cases h
    · exact h
theorem tp {c:Code}{a b:Nat}(h:b∈kP c a):b∈edg c a:=by
  unfold kP at h;unfold edg
  cases hB:c.b[a]?<;>simp only[hB]at h ⊢
  · exact h
  · split at h
    · exact h
    · cases h
structure MJ (E:Nat->List Nat) (p:Nat->Bool) (T:List Nat) (nx:List Nat):Prop where
  nd:nx.Nodup
  ok:∀b∈nx,∃a,p a=true/\b∈E a
  done:∀a b,p a=true->a∉T->b∈E a->b∈nx
structure sE (E:Nat->List Nat) (p:Nat->Bool) (T:List Nat) (nx:List Nat) (a i:Nat):Prop where
  nd:nx.Nodup
  ok:∀b∈nx,∃a,p a=true/\b∈E a
  pa:p a=true
  done:∀a' b,a'≠a->p a'=true->a'∉T->b∈E a'->b∈nx
  part:∀(j b:Nat),j<i->(E a)[j]?=some b->b∈nx
section
variable {E:Nat->List Nat}{p p':Nat->Bool}{T T' nx:List Nat}{a i b:Nat}
theorem MJ.pop (h:MJ E p T nx) (pa:p a=true) (hT2:∀k∈T,k=a\/k∈T'):sE E p T' nx a 0 :=
  ⟨h.nd,h.ok,pa,fun a' b hne hp hn hb=>h.done a' b hp (fun hm=>by rcases hT2 a' hm with e|e;exact hne e;exact hn e) hb,fun j b hj=>by omega⟩
theorem sE.end (h:sE E p T nx a i) (hi:(E a).length<=i):MJ E p T nx :=
  ⟨h.nd,h.ok,fun a' b hp hn hb=>by
    by_cases e:a'=a
    · subst e
      obtain⟨j,hj,rfl⟩:=List.mem_iff_getElem.1 hb
      exact h.part j _ (by omega) (List.getElem?_eq_getElem hj)
    · exact h.done a' b e hp hn hb⟩
theorem sE.add (h:sE E p T nx a i) (hb:(E a)[i]?=some b):sE E p T (yE nx b) a (i+1) :=
  ⟨En h.nd,fun x hx=>by
    rcases pg.1 hx with rfl|hx
    · exact⟨a,h.pa,List.mem_of_getElem? hb⟩
    · exact h.ok x hx,h.pa,fun a' x hne hp hn hx=>pg.2 (Or.inr (h.done a' x hne hp hn hx)),fun j x hj hx=>by
    by_cases e:j=i
    · subst e;rw[hb]at hx;cases hx;exact pg.2 (Or.inl rfl)
    · exact pg.2 (Or.inr (h.part j x (by omega) hx))⟩
theorem sE.skip (h:sE E p T nx a i) (he:E a=[]):sE E p T nx a (i+1):=⟨h.nd,h.ok,h.pa,h.done,fun j x _ hx=>by rw[he]at hx;simp at hx⟩
theorem sE.grow (h:sE E p T nx a i) (hp':∀k,p' k=(decide (k=b)||p k)):sE E p' (T++[b]) nx a i:=by
  have inv:∀k,p' k=true->k=b\/p k=true:=fun k hk=>by rw[hp']at hk;simpa using hk
  refine⟨h.nd,fun x hx=>?_,by rw[hp',h.pa];simp,fun a' x hne hp hn hx=>?_,h.part⟩
  · obtain⟨y,hy,hyx⟩:=h.ok x hx
    exact⟨y,by rw[hp',hy];simp,hyx⟩
  · rcases inv a' hp with rfl|hp
    · exact absurd (by simp) hn
    · exact h.done a' x hne hp (fun hm=>hn (by simp[hm])) hx
end
theorem kD.skip {E:Nat->List Nat}{N s a i:Nat}{p:Nat->Bool}{T:List Nat}(h:kD E N s p T a i) (he:E a=[]):kD E N s p T a (i+1) :=
  ⟨h.st,h.lt,h.td,h.path,h.done,h.pa,fun j x _ hx=>by rw[he]at hx;simp at hx⟩
theorem Vs.qm {P:Program}{h:Heap}{L:List (Nat×Slot)}{K:D->Prop}(V:Vs h L) (i:Nat){n o:Nat}{s:Slot}(hi:L[i]?=some (n,s)):ae P (.fadd (.c (.ptr n 0 0)) o) h K=K (.ptr n 0 o):=by
  rw[show ae P (.fadd (.c (.ptr n 0 0)) o) h K=aa P (.fadd (.c (.ptr n 0 0)) o) h (fun d _=>K d) from rfl,V.fa i hi]
theorem Vs.vc {P:Program}{h:Heap}{L:List (Nat×Slot)}{K:D->Prop}(V:Vs h L) (i:Nat){n j:Nat}{cs:List D}{e:D}(hi:L[i]?=some (n,.box (.agg cs))) (he:cs[j]?=some e):ae P (.ld (.c (.ptr n 0 j)) 1 false) h K=K e:=by rw[qH,V.q8 i hi he]
theorem Vs.erase {h:Heap}{L:List (Nat×Slot)}(V:Vs h L) (i:Nat):Vs h (L.eraseIdx i):=by
  let f:Nat->Nat:=fun j=>if j<i then j else j+1
  have hf:∀j,(L.eraseIdx i)[j]?=L[f j]?:=fun j=>by
    rw[List.getElem?_eraseIdx];simp only[f];split<;>rfl
  exact⟨fun j n s hj=>V.get (f j) n s (by rw[<- hf];exact hj),fun j k n m s s' hj hk hjk=>V.ne (f j) (f k) n m s s' (by rw[<- hf];exact hj) (by rw[<- hf];exact hk) (fun e=>hjk (by
    simp only[f]at e;split at e<;>split at e<;>omega)),fun j n s hj=>V.lv (f j) n s (by rw[<- hf];exact hj)⟩
end Go.Am
namespace Go.Am
open Go Go.Proofs
theorem Lh {c:Code}(hc:jG c){s:Nat}(hs:s<c.b.length){h:Heap}{L:List (Nat×Slot)}(V0:Vs h L){KH:D->Heap->Prop}
    (hK:∀(h':Heap) (n5 n9:Nat) (ks nx:List Nat),Vs h' ((n9,.map (.int .i64) (qk nx))::(n5,.map (.int .i64) (qk ks))::L)->ks.Nodup->(∀k,k∈ks↔Path (wS c) s k) ->
      nx.Nodup->(∀b,b∈nx ↔ ∃a,Path (wS c) s a/\b∈kP c a)->KH (.tup [.mp n5,.mp n9]) h'):af PP eS [c.e,nD s] h KH:=by
  have hnb:=hc.nb
  refine cA xg (aq _ _ _) rfl (wY _ _ _) ?_
  unfold uh
  refine V0.box c.nT.one fun n3 h4 V1=>?_
  refine V1.xt fun n5 h6 V2=>?_
  have V2':Vs h6 ((n5,.map (.int .i64) (qk []))::(n3,.box c.e)::L):=V2
  refine V2'.mset 0 (k:=s) rfl fun h8 V3=>?_
  refine V3.xt fun n9 h10 V4=>?_
  replace V4:Vs h10 ((n9,.map (.int .i64) (qk []))::(n5,.map (.int .i64) (qk [s]))::(n3,.box c.e)::L):=V4
  generalize hN:c.b.length=N at *
  refine QV.one (k:=s) V4 fun v h12 q0=>?_
  let L3:List Nat->List Nat->Nat->List (Nat×Slot):=fun nx ks _=>(n9,.map (.int .i64) (qk nx))::(n5,.map (.int .i64) (qk ks))::(n3,.box c.e)::L
  refine⟨fun _ h=>∃ks nx,Vs h (L3 nx ks 0)/\Dl (wS c) N s (dQ ks) []/\ks.Nodup/\MJ (kP c) (dQ ks) [] nx,?_,?_⟩
  · rintro f h' ⟨ks,nx,V,hsr,hnd,hnx⟩
    refine hK h' n5 n9 ks nx (V.erase 2) hnd (fun k=>by rw[<- hsr.fin,pj]) hnx.nd fun b=>⟨fun hb=>?_,fun ⟨a,ha,hab⟩=>hnx.done a b ((hsr.fin a).2 ha) (by simp) hab⟩
    obtain⟨a,ha,hab⟩:=hnx.ok b hb
    exact⟨a,(hsr.fin a).1 ha,hab⟩
  unfold nY
  refine⟨fun m l h=>∃(ks nx T:List Nat) (v:D),l=[v]/\QV h (L3 nx ks 0) v T/\Dl (wS c) N s (dQ ks) T/\ks.Nodup/\MJ (kP c) (dQ ks) T nx/\m=2*zm (dQ ks) N+T.length/\m<=1000,_,
    ⟨[s],[],[s],v,rfl,q0,?_,by simp,?_,rfl,by have:=Cs (dQ [s]) N;simp only[List.length_singleton];omega⟩,?_⟩
  · have hb:∀k,dQ [s] k=true->k=s:=fun k hk=>by rw[pj]at hk;simpa using hk
    have h0:dQ [s] s=true:=by rw[pj];simp
    exact⟨h0,fun k hk=>by rw[hb k hk];exact hs,fun k hk=>by simp at hk;subst hk;exact h0,fun k hk=>by rw[hb k hk];exact .refl,fun a b ha hn _=>absurd (by simp[hb a ha]) hn⟩
  · have hb:∀k,dQ [s] k=true->k=s:=fun k hk=>by rw[pj]at hk;simpa using hk
    exact⟨by simp,fun b hb=>(by cases hb),fun a b ha hn _=>absurd (by simp[hb a ha]) hn⟩
  rintro m f h1 ⟨ks,nx,T,v,hl,q,hs',hnd,hx,hm,hmb⟩
  simp only[List.cons.injEq,and_true]at hl
  simp only[hl,q.len,qS]
  cases T with
  | nil =>
    simp only[List.length_nil,show((0:Nat):Int)=0 from rfl,Int.lt_irrefl,decide_false,↓aC,al,true_and]
    exact⟨ks,nx,q.vs,hs',hnd,hx⟩
  | cons a T' =>
    have hTl:0<(a::T').length:=by simp
    simp only[show((0:Int)<((a::T').length:Int))=True from eq_true (by omega),decide_true,↓aF]
    have haN:=hs'.lt a (hs'.td a (by simp))
    have hB:c.b[a]?=some c.b[a]:=List.getElem?_eq_getElem (by omega)
    generalize c.b[a]=B at hB
    have hTm:=hc.t B (List.mem_of_getElem? hB)
    have V:=q.vs
    simp only[↓V.qm 2 rfl,Nat.zero_add,↓V.vc 2 (j:=7) rfl rfl]
    refine q.GU (i:=0) (k:=a) rfl ?_
    simp only[nD,↓Eg hB,↓Mr,↓Ef]
    refine q.alloc fun n29 h30 q1=>?_
    refine q1.DA 0 (cs':=B.t.cs) rfl rfl rfl (fun y hy=>by simp[Term.cs]at hy;rcases hy with rfl|rfl|rfl|rfl|rfl|rfl|rfl|rfl|rfl|rfl|rfl|rfl|rfl<;>rfl) fun h32 q2=>?_
    refine q2.kN (lo:=some 1) (hi:=none) (a:=1) (b:=(a::T').length) rfl rfl (by simp) (Nat.le_refl _) (by simp) fun v' q'=>?_
    have e1:((a::T').drop 1).take ((a::T').length-1)=T':=by simp
    rw[e1]at q'
    replace q':QV h32 ((n29,.box B.t.e)::L3 nx ks 0) v' T':=q'
    have V':=q'.vs
    rw[V'.uZ 0 (s:=13) (cs:=B.t.cs) rfl rfl]
    refine fS (Hb hTm) (fun d hd=>by simp at hd;subst hd;exact B.t.nT.pair) ?_
    rintro _ rfl
    rw[vW]
    have hsi:kD (wS c) N s (dQ ks) T' a 0:=hs'.pop (by simp) (fun k hk=>by simp[hk]) (fun k hk=>by simpa using hk)
    have hxi:sE (kP c) (dQ ks) T' nx a 0:=hx.pop (hs'.td a (by simp)) (fun k hk=>by simpa using hk)
    have hmT:2*zm (dQ ks) N+T'.length<m:=by rw[hm];simp
    unfold nZ
    refine⟨fun k l h=>∃(i:Nat) (ks nx T:List Nat) (v:D),l=[v,.int .i64 (i:Int)]/\i<=(bt B.t).length/\k=(bt B.t).length-i/\QV h ((n29,.box B.t.e)::L3 nx ks 0) v T/\kD (wS c) N s (dQ ks) T a i/\ks.Nodup/\sE (kP c) (dQ ks) T nx a i/\2*zm (dQ ks) N+T.length<m,_,
      ⟨0,ks,nx,T',v',rfl,by omega,rfl,q',hsi,hnd,hxi,hmT⟩,?_⟩
    clear hmT hsi hxi q' hm hs' q q1 q2 hnd hx V V'
    rintro k f2 h2 ⟨i,ks,nx,T,v,hl2,hi,hk,q,hs,hnd,hx,hm⟩
    simp only[List.cons.injEq,and_true]at hl2
    obtain⟨e6,e32⟩:=hl2
    rw[e6,e32,nI]
    have hEl:(bt B.t).length<=2:=by unfold bt;split<;>(try split)<;>simp
    by_cases hlt:i<(bt B.t).length
    · simp only[show((i:Int)<((bt B.t).length:Int))=True from eq_true (by omega),decide_true,↓aF]
      refine⟨fun l h=>∃(ks nx T:List Nat) (v:D),l=[v]/\QV h ((n29,.box B.t.e)::L3 nx ks 0) v T/\kD (wS c) N s (dQ ks) T a (i+1)/\ks.Nodup/\sE (kP c) (dQ ks) T nx a (i+1)/\2*zm (dQ ks) N+T.length<m,?_,?_⟩
      · rintro f3 h3 ⟨ks,nx,T,v,hl3,g1,g2,g3,g4,g5⟩
        simp only[List.cons.injEq,and_true]at hl3
        rw[hl3,oC (by omega) (by omega)]
        simp only[al,true_and]
        exact⟨_,by omega,i+1,ks,nx,T,v,by simp,by omega,rfl,g1,g2,g3,g4,g5⟩
      have hb:(bt B.t)[i]?=some (bt B.t)[i]:=List.getElem?_eq_getElem hlt
      generalize (bt B.t)[i]=b at hb
      have hbN:b<N:=by rw[<- hN];exact hTm.succ b (List.mem_of_getElem? hb)
      have V:=q.vs
      refine Lp hb ?_
      simp only[↓V.fa 0 rfl,Nat.zero_add,↓V.q8 0 (j:=0) (cs:=B.t.cs) rfl rfl,eg]
      by_cases h3:B.t.kind=3
      · have ein:wS c a=[]:=by rw[CG hB,if_pos h3]
        have eout:kP c a=bt B.t:=by rw[Af hB,if_pos h3]
        simp only[h3,decide_true,↓aF]
        refine q.mset 1 (k:=b) rfl fun h5 q5=>?_
        simp only[al,true_and]
        exact⟨ks,yE nx b,T,v,rfl,q5,hs.skip ein,hnd,hx.add (by rw[eout];exact hb),hm⟩
      · have ein:wS c a=bt B.t:=by rw[CG hB,if_neg h3]
        have eout:kP c a=[]:=by rw[Af hB,if_neg h3]
        simp only[h3,decide_false,↓aC]
        refine V.mget 2 (k:=b) rfl ?_
        by_cases hbk:b∈ks
        · simp only[hbk,decide_true,↓H7,↓aC,al,true_and]
          exact⟨ks,nx,T,v,rfl,q,hs.EL (by rw[ein];exact hb) (pj.2 hbk),hnd,hx.skip eout,hm⟩
        · simp only[hbk,decide_false,↓H8,↓aF]
          have hbS:dQ ks b=false:=by simp[dQ,hbk]
          have hsn:=hs.new (p':=dQ (yE ks b)) (by rw[ein];exact hb) hbN fun k=>qe
          have hun:zm (dQ (yE ks b)) N+1<=zm (dQ ks) N:=xl (x:=b) (fun k hk=>by rw[qe,hk];simp) hbN hbS (by rw[qe];simp)
          refine q.mset 2 (k:=b) rfl fun h5 q5=>?_
          replace q5:QV h5 ((n29,.box B.t.e)::L3 nx (yE ks b) 0) v T:=q5
          refine q5.push (k:=b) (by omega) (by omega) fun v6 h6 q6=>?_
          simp only[al,true_and]
          exact⟨yE ks b,nx,T++[b],v6,rfl,q6,hsn,En hnd,(hx.skip eout).grow (fun k=>qe),by rw[List.length_append,List.length_singleton];omega⟩
    · simp only[show((i:Int)<((bt B.t).length:Int))=False from eq_false (by omega),decide_false,↓aC,al,true_and]
      refine⟨_,hm,ks,nx,T,v,rfl,q.less,hs.end ?_,hnd,hx.end ?_,rfl,by omega⟩
      · rw[CG hB];split
        · simp
        · omega
      · rw[Af hB];split
        · omega
        · simp
end Go.Am
namespace Go.Am
open Go Go.Proofs
theorem Vs.iff {h:Heap}{L:List (Nat×Slot)}:Vs h L↔(∀n s,(n,s)∈L->h n=s/\s≠.free)/\(L.map Prod.fst).Nodup:=by
  constructor
  · intro V
    refine⟨fun n s hm=>?_,?_⟩
    · obtain⟨i,hi⟩:=List.getElem?_of_mem hm
      exact⟨V.get i n s hi,V.lv i n s hi⟩
    · rw[List.nodup_iff_pairwise_ne,List.pairwise_map,List.pairwise_iff_getElem]
      intro i j hi hj hij
      exact V.ne i j _ _ L[i].2 L[j].2 (List.getElem?_eq_getElem hi) (List.getElem?_eq_getElem hj) (by omega)
  · rintro⟨h1,h2⟩
    refine⟨fun i n s hi=>(h1 n s (List.mem_of_getElem? hi)).1,fun i j n m s s' hi hj hij=>?_,fun i n s hi=>(h1 n s (List.mem_of_getElem? hi)).2⟩
    obtain⟨hli,ei⟩:=List.getElem?_eq_some_iff.1 hi
    obtain⟨hlj,ej⟩:=List.getElem?_eq_some_iff.1 hj
    rw[List.nodup_iff_pairwise_ne,List.pairwise_map,List.pairwise_iff_getElem]at h2
    rcases Nat.lt_or_gt_of_ne hij with hlt|hgt
    · have:=h2 i j hli hlj hlt;rw[ei,ej]at this;exact this
    · have:=h2 j i hlj hli hgt;rw[ei,ej]at this;exact fun e=>this e.symm
theorem Vs.perm {h:Heap}{L L':List (Nat×Slot)}(p:L.Perm L') (V:Vs h L):Vs h L':=by
  rw[Vs.iff]at V ⊢
  exact⟨fun n s hm=>V.1 n s (p.mem_iff.2 hm),(p.map _).nodup_iff.1 V.2⟩
theorem Vs.ck {h:Heap}{X L:List (Nat×Slot)}(V:Vs h (X++L)):Vs h L:=by
  rw[Vs.iff]at V ⊢
  refine⟨fun n s hm=>V.1 n s (List.mem_append_right _ hm),?_⟩
  have:=V.2
  rw[List.map_append]at this
  exact(List.nodup_append.1 this).2.1
theorem QV.lift {h:Heap}{L:List (Nat×Slot)}{v:D}{T:List Nat}(q:QV h L v T):∃Lq,Vs h Lq/\∀(h':Heap) (X:List (Nat×Slot)),Vs h' (X++Lq)->QV h' (X++L) v T:=by
  rcases q with⟨rfl,rfl,V⟩|⟨m,off,els,rfl,V,h1,h2,h3⟩
  · exact⟨L,V,fun h' X V'=>Or.inl ⟨rfl,rfl,V'⟩⟩
  · exact⟨_,V,fun h' X V'=>Or.inr ⟨m,off,els,rfl,V'.perm List.perm_middle,h1,h2,h3⟩⟩
def QD (h:Heap) (L:List (Nat×Slot)) (v:D) (T:List D):Prop :=
  (v=.nil/\T=[]/\Vs h L)\/∃m,v=.ms m 0 T.length/\Vs h ((m,.arr 1 T)::L)
theorem QD.vs {h:Heap}{L:List (Nat×Slot)}{v:D}{T:List D}(q:QD h L v T):Vs h L:=by
  rcases q with⟨-,-,V⟩|⟨m,-,V⟩
  · exact V
  · exact V.pop
theorem QD.cc {h:Heap}{L:List (Nat×Slot)}{v:D}{T:List D}(q:QD h L v T) (i:Nat){n:Nat}{s s':Slot}(hi:L[i]?=some (n,s)) (hs:s'≠.free):QD (aj h n s') (L.set i (n,s')) v T:=by
  rcases q with⟨rfl,rfl,V⟩|⟨m,rfl,V⟩
  · exact Or.inl ⟨rfl,rfl,V.cc i hi hs⟩
  · exact Or.inr ⟨m,rfl,by have:=V.cc (i+1) (n:=n) (s:=s) (by simpa using hi) hs;simpa using this⟩
theorem QD.push {h:Heap}{L:List (Nat×Slot)}{v d:D}{T:List D}(q:QD h L v T){z z':D}{bytes:Nat}{KH:D->Heap->Prop}(hd:wy d) (h1:d.one=true) (hb:(T.length+1)*bytes<=140737488355328) (hl:T.length+1<=9223372036854775807)
    (hK:∀v h',QD h' L v (T++[d])->KH v h'):aa PP (.bldS true 1 1 z [(0,.c d)]) h fun x h1=>aa PP (.app (.c v) (.c x) 1 bytes z') h1 KH:=by
  have hc:d.cells.length=1:=by cases d<;>first|rfl|cases h1
  have hlen:T.length+1=(T++[d]).length:=by simp
  rcases q with⟨rfl,rfl,V⟩|⟨m,rfl,V⟩
  · refine As (els:=[]) (Or.inl ⟨rfl,rfl⟩) hd hc hb hl fun m h' hm hm' hk=>hK _ _ (Or.inr ⟨m,rfl,?_⟩)
    have Vk:=V.Bs (h':=h') fun k s ⟨i,hi⟩=>hk k (fun e=>by subst e;exact V.lv i k s hi ((V.get i k s hi).symm.trans hm)) (by simp[D.iT]) (by rw[V.get i k s hi];exact V.lv i k s hi)
    rw[Vs.iff]at Vk ⊢
    refine⟨fun k s hs=>?_,?_⟩
    · rcases List.mem_cons.1 hs with e|hs
      · cases e;exact⟨hm',by simp⟩
      · exact Vk.1 k s hs
    · rw[List.map_cons,List.nodup_cons]
      refine⟨fun hmm=>?_,Vk.2⟩
      obtain⟨⟨k,s⟩,hks,rfl⟩:=List.mem_map.1 hmm
      obtain⟨i,hi⟩:=List.getElem?_of_mem hks
      exact V.lv i _ _ hi ((V.get i _ _ hi).symm.trans hm)
  · refine As (els:=T) (Or.inr ⟨m,rfl,V.get 0 _ _ rfl⟩) hd hc hb hl fun m' h' hm hm' hk=>hK _ _ (Or.inr ⟨m',by rw[hlen],?_⟩)
    have V1:=V.pop
    have Vk:=V1.Bs (h':=h') fun k s ⟨i,hi⟩=>hk k (fun e=>by subst e;exact V1.lv i k s hi ((V1.get i k s hi).symm.trans hm)) (fun e=>by
      simp[D.iT]at e
      exact V.ne (i+1) 0 k m s _ (by simpa using hi) rfl (by omega) e) (by rw[V1.get i k s hi];exact V1.lv i k s hi)
    rw[Vs.iff]at Vk ⊢
    refine⟨fun k s hs=>?_,?_⟩
    · rcases List.mem_cons.1 hs with e|hs
      · cases e;exact⟨hm',by simp⟩
      · exact Vk.1 k s hs
    · rw[List.map_cons,List.nodup_cons]
      refine⟨fun hmm=>?_,Vk.2⟩
      obtain⟨⟨k,s⟩,hks,rfl⟩:=List.mem_map.1 hmm
      obtain⟨i,hi⟩:=List.getElem?_of_mem hks
      exact V1.lv i _ _ hi ((V1.get i _ _ hi).symm.trans hm)
noncomputable def Hw (N:Nat) (p:Nat->Prop):List Nat:=(List.range N).filter fun k=>@decide (p k) (Classical.propDecidable _)
theorem cT {N:Nat}{p:Nat->Prop}{k:Nat}:k∈Hw N p↔k<N/\p k:=by simp[Hw]
theorem qf {N:Nat}{p:Nat->Prop}:(Hw N p).Pairwise (· < ·):=List.Pairwise.filter _ List.pairwise_lt_range
theorem mY {N:Nat}{p:Nat->Prop}:(Hw N p).length<=N:=by
  have:=List.length_filter_le (fun k=>@decide (p k) (Classical.propDecidable _)) (List.range N)
  simpa[Hw] using this
inductive St (c:Code):Nat->Prop
  | zero:St c 0
  | step {s a t:Nat}(h:St c s) (ha:Path (wS c) s a) (ht:t∈kP c a):St c t
noncomputable def rl (c:Code) (s:Nat):List Nat:=Hw c.b.length (Path (wS c) s)
noncomputable def Jm (c:Code) (s:Nat):List Nat:=Hw c.b.length fun b=>∃a,Path (wS c) s a/\b∈kP c a
noncomputable def bu (c:Code):List Nat:=Hw c.b.length (St c)
noncomputable def Ge (c:Code):D:=.agg [.sl (aL (bu c)),.sl ((bu c).map fun s=>.sl (aL (rl c s)))]
theorem ti {c:Code}(hc:jG c){s a:Nat}(hs:s<c.b.length) (h:Path (wS c) s a):a<c.b.length:=by
  induction h with
  | refl=>exact hs
  | step _ hb _=>exact yq hc (Iq hb)
theorem St.lt {c:Code}(hc:jG c){s:Nat}(h:St c s):s<c.b.length:=by
  cases h with
  | zero=>exact hc.nb.1
  | step _ _ ht=>exact yq hc (tp ht)
theorem Br {ks l:List Nat}{N:Nat}(hN:N<=1000) (hlt:∀k∈ks,k<N) (hnd:ks.Nodup) (hl:l.Pairwise (· < ·)) (hm:∀k,k∈l↔k∈ks) (hlen:ks.length<=1000000):AM (qk ks) l:=by
  refine⟨fun p hp=>?_,by simpa[qk] using hlen,hl,fun k=>?_⟩
  · simp only[qk,List.mem_map]at hp
    obtain⟨k,hk,rfl⟩:=hp
    exact⟨k,by have:=hlt k hk;omega,rfl⟩
  · rw[hm]
    constructor
    · intro hk;exact⟨(nD k,.bool true),by simp only[qk,List.mem_map];exact⟨k,hk,rfl⟩,rfl⟩
    · rintro⟨p,hp,hpk⟩
      simp only[qk,List.mem_map]at hp
      obtain⟨k',hk',rfl⟩:=hp
      simp only[nD,D.int.injEq,true_and]at hpk
      have:k'=k:=by omega
      exact this ▸ hk'
theorem l8 {N:Nat}:∀{ks:List Nat},(∀k∈ks,k<N)->ks.Nodup->ks.length<=N:=by
  intro ks h1 h2
  have hp:ks.Perm ((List.range N).filter fun k=>decide (k∈ks)):=(List.perm_ext_iff_of_nodup h2 (List.Pairwise.filter _ List.nodup_range)).2 fun k=>by
    simp only[List.mem_filter,List.mem_range,decide_eq_true_eq]
    exact⟨fun hk=>⟨h1 k hk,hk⟩,fun hk=>hk.2⟩
  rw[hp.length_eq]
  have:=List.length_filter_le (fun k=>decide (k∈ks)) (List.range N)
  simpa using this
end Go.Am
namespace Go.Am
open Go Go.Proofs
noncomputable def pz (c:Code) (ss:List Nat):List (D×D):=ss.map fun s=>(nD s,.sl (aL (rl c s)))
theorem zu {c:Code}{k:Nat}:∀{ss:List Nat},mget (pz c ss) (nD k)=if k∈ss then some (.sl (aL (rl c k))) else none
  | []=>by simp[pz,mget]
  | a::r=>by
    have ih:=zu (c:=c) (k:=k) (ss:=r)
    simp only[pz,List.map_cons,mget,qg,decide_eq_true_eq]at ih ⊢
    by_cases h:k=a
    · subst h;simp
    · rw[if_neg h,ih];simp[h]
theorem zt {c:Code}{k:Nat}:∀{ss:List Nat},k∉ss->mset (pz c ss) (nD k) (.sl (aL (rl c k)))=pz c (ss++[k])
  | [],_=>by simp[pz,mset]
  | a::r,h=>by
    simp only[List.mem_cons,not_or]at h
    have ih:=zt (c:=c) (k:=k) (ss:=r) h.2
    simp only[pz,List.map_cons,List.cons_append,mset,qg,decide_eq_true_eq]at ih ⊢
    rw[if_neg h.1,ih]
theorem Eo {h:Heap}{L:List (Nat×Slot)}(V:Vs h L){m:Nat}{KH:D->Heap->Prop}(hK:∀k h',Vs h' ((k,.box (.mp m))::L)->KH (.fn 66 [] [.ptr k 0 0]) h'):af PP aB [.mp m] h KH:=by
  refine cA fC (aq _ _ _) rfl (fu _ _) ?_
  unfold cG
  exact V.box (fun x hx=>by simp[D.cells]at hx;subst hx;rfl) fun k h' V'=>hK k h' V'
theorem I9 {h:Heap}{L:List (Nat×Slot)}(V:Vs h L){m:Nat}{KH:D->Heap->Prop}(hK:∀k h',Vs h' ((k,.box (.mp m))::L)->KH (.fn 67 [] [.ptr k 0 0]) h'):af PP aM [.mp m] h KH:=by
  refine cA fB (aq _ _ _) rfl (ft _ _) ?_
  unfold cF
  exact V.box (fun x hx=>by simp[D.cells]at hx;subst hx;rfl) fun k h' V'=>hK k h' V'
theorem Jp {P:Program}{h:Heap}{L:List (Nat×Slot)}(V:Vs h L) (i:Nat){c:Code}{n k:Nat}{ss:List Nat}{KH:D->Heap->Prop}(hi:L[i]?=some (n,.map (.int .i64) (pz c ss)))
    (hK:KH (if k∈ss then .sl (aL (rl c k)) else .nil) h):aa P (.look (.int .i64) (.c (.mp n)) (.c (nD k)) .nil false) h KH:=by
  refine⟨rfl,?_⟩
  have hn:=V.get i _ _ hi
  simp only[Arg.get,hn]
  refine⟨trivial,?_⟩
  rw[zu]
  by_cases hk:k∈ss<;>simpa[hk] using hK
noncomputable abbrev FL (c:Code) (ss:List Nat) (nl n4 n2:Nat):List (Nat×Slot):=[(nl,.map (.int .i64) (pz c ss)),(n4,.box (.agg [.nil,.nil])),(n2,.box c.e)]
theorem GO {c:Code}(hc:jG c){h:Heap}{n2 n4 nl x:Nat}{dx:D}(hdx:dx=nD x){ss T:List Nat}{v:D}{J:List D->Heap->Prop}(q:QV h (FL c ss nl n4 n2) v T) (hx:x<c.b.length) (hT:T.length<=1000)
    (hJ:∀v' h' ss' T',QV h' (FL c ss' nl n4 n2) v' T'->((x∈ss/\ss'=ss/\T'=T)\/(x∉ss/\ss'=ss++[x]/\T'=T++Jm c x))->J [v'] h') :
    aa PP (.look (.int .i64) (.c (.mp nl)) (.c dx) .nil false) h fun a67 h68 =>
    aa PP (.nilq false (.c a67)) h68 fun a69 h70 =>
    vcond a69 (aa PP (.ld (.c (.ptr n2 0 0)) 8 true) h70 fun a71 h72 =>
    af PP eS [a71,dx] h72 fun a73 h74 =>
    aa PP (.ext (.c a73) 0) h74 fun a75 h76 =>
    aa PP (.ext (.c a73) 1) h76 fun a77 h78 =>
    af PP aB [a75] h78 fun a79 h80 =>
    af PP aR [a79] h80 fun a81 h82 =>
    aa PP (.mupd (.int .i64) (.c (.mp nl)) (.c dx) (.c a81)) h82 fun a83 h84 =>
    af PP aB [a77] h84 fun a85 h86 =>
    af PP aR [a85] h86 fun a87 h88 =>
    aa PP (.app (.c v) (.c a87) 1 8 (.int .i64 0)) h88 fun a89 h90 =>
    aX [.ptr n2 0 0,.ptr n4 0 0,.mp nl] [.ptr n2 0 0,.ptr n4 0 0,.mp nl]/\J [a89] h90) (
    aX [.ptr n2 0 0,.ptr n4 0 0,.mp nl] [.ptr n2 0 0,.ptr n4 0 0,.mp nl]/\J [v] h70):=by
  subst hdx
  have hnb:=hc.nb
  refine Jp q.vs 0 rfl ?_
  by_cases hxs:x∈ss
  · rw[if_pos hxs]
    have hne:rl c x≠[]:=fun e=>by
      have:x∈rl c x:=cT.2 ⟨hx,.refl⟩
      rw[e]at this;cases this
    obtain⟨y,r,hyr⟩:=List.exists_cons_of_ne_nil hne
    rw[hyr]
    show vcond (.bool false) _ _
    rw[aC]
    simp only[al,true_and]
    exact hJ _ _ _ _ q (Or.inl ⟨hxs,rfl,rfl⟩)
  · rw[if_neg hxs]
    show vcond (.bool true) _ _
    rw[aF,q.vs.uZ 2 (s:=8) rfl rfl]
    obtain⟨Lq,V0,back⟩:=q.lift
    refine Lh hc hx V0 fun h1 n5 n9 ks nx V1 k1 k2 x1 x2=>?_
    rw[IB,IA]
    have klt:∀k∈ks,k<c.b.length:=fun k hk=>ti hc hx ((k2 k).1 hk)
    have xlt:∀k∈nx,k<c.b.length:=fun k hk=>by
      obtain⟨a,-,ha⟩:=(x2 k).1 hk
      exact yq hc (tp ha)
    refine Eo V1 fun nk h2 V2=>?_
    refine nh GB (V2.get 0 _ _ rfl) (V2.get 2 _ _ rfl) (Br (N:=c.b.length) (l:=rl c x) (by omega) klt k1 qf (fun k=>by rw[k2];unfold rl;rw[cT];exact⟨fun hh=>hh.2,fun hh=>⟨ti hc hx hh,hh⟩⟩) (by have:=l8 klt k1;omega)) ?_
    have q2:QV h2 ((nk,.box (.mp n5))::(n9,.map (.int .i64) (qk nx))::(n5,.map (.int .i64) (qk ks))::FL c ss nl n4 n2) v T:=back h2 [_,_,_] V2
    refine⟨rfl,rfl,?_⟩
    have hnl:=q2.vs.get 3 _ _ rfl
    simp only[Arg.get,hnl]
    refine⟨trivial,?_⟩
    rw[show(D.sl (nL (rl c x)))=.sl (aL (rl c x)) from rfl,zt hxs]
    have q3:=q2.cc 3 (s':=.map (.int .i64) (pz c (ss++[x]))) rfl (by simp)
    replace q3:QV (aj h2 nl (.map (.int .i64) (pz c (ss++[x])))) ((nk,.box (.mp n5))::(n9,.map (.int .i64) (qk nx))::(n5,.map (.int .i64) (qk ks))::FL c (ss++[x]) nl n4 n2) v T:=q3
    generalize aj h2 nl (.map (.int .i64) (pz c (ss++[x])))=h3 at q3
    obtain⟨Lq3,V3,back3⟩:=q3.lift
    refine Eo V3 fun nk2 h4 V4=>?_
    have q4:QV h4 ((nk2,.box (.mp n9))::(nk,.box (.mp n5))::(n9,.map (.int .i64) (qk nx))::(n5,.map (.int .i64) (qk ks))::FL c (ss++[x]) nl n4 n2) v T:=back3 h4 [_] V4
    have V5:=q4.vs
    refine nh GB (V5.get 0 _ _ rfl) (V5.get 2 _ _ rfl) (Br (N:=c.b.length) (l:=Jm c x) (by omega) xlt x1 qf (fun k=>by
      rw[x2];unfold Jm;rw[cT]
      exact⟨fun hh=>hh.2,fun hh=>⟨by obtain⟨a,-,ha⟩:=hh;exact yq hc (tp ha),hh⟩⟩) (by have:=l8 xlt x1;omega)) ?_
    have hnl2:(Jm c x).length<=c.b.length:=mY
    refine q4.app (ks:=Jm c x) (fun hk=>JM hk) (by omega) (by omega) fun v6 h6 q6=>?_
    simp only[al,true_and]
    exact hJ _ _ _ _ q6.less.less.less.less (Or.inr ⟨hxs,rfl,rfl⟩)
end Go.Am
namespace Go.Am
open Go Go.Proofs
theorem MK {h:Heap}{a b c d:D}{f:Nat->D}{J:List D->Heap->Prop}:oc h a b c f d J=dV h a b c (f 3) d J:=rfl
theorem ES {c:Code}{ss l:List Nat}{N:Nat}(hN:N<=1000) (hlt:∀k∈ss,k<N) (hnd:ss.Nodup) (hl:l.Pairwise (· < ·)) (hm:∀k,k∈l↔k∈ss):AM (pz c ss) l:=by
  refine⟨fun p hp=>?_,by have:=l8 hlt hnd;simp[pz];omega,hl,fun k=>?_⟩
  · simp only[pz,List.mem_map]at hp
    obtain⟨k,hk,rfl⟩:=hp
    exact⟨k,by have:=hlt k hk;omega,rfl⟩
  · rw[hm]
    constructor
    · intro hk;exact⟨(nD k,.sl (aL (rl c k))),by simp only[pz,List.mem_map];exact⟨k,hk,rfl⟩,rfl⟩
    · rintro⟨p,hp,hpk⟩
      simp only[pz,List.mem_map]at hp
      obtain⟨k',hk',rfl⟩:=hp
      simp only[nD,D.int.injEq,true_and]at hpk
      have:k'=k:=by omega
      exact this ▸ hk'
noncomputable def Cv (c:Code) (l:List Nat):List D:=l.map fun s=>.sl (aL (rl c s))
theorem KS {c:Code}(hc:jG c){h:Heap}{n2 n4 nl n26:Nat}{ss:List Nat}{L':List (Nat×Slot)}(hss:∀k,k∈ss↔St c k){J:List D->Heap->Prop}
    (V:Vs h ((n26,.box (.agg [.sl (aL (bu c)),.nil]))::FL c ss nl n4 n2))
    (hJ:∀h' v,QD h' ((n26,.box (.agg [.sl (aL (bu c)),v]))::FL c ss nl n4 n2) v (Cv c (bu c))->J [] h') :
    dV h (.int .i64 ((bu c).length:Int)) (.sl (aL (bu c))) (.ptr n26 0 0) (.mp nl) (.ptr n4 0 0) J:=by
  have hnb:=hc.nb
  have hsl:(bu c).length<=c.b.length:=mY
  unfold dV
  refine⟨fun m l h=>∃(i:Nat) (v:D),i<=(bu c).length/\m=(bu c).length-i/\l=[.int .i64 (i:Int)]/\QD h ((n26,.box (.agg [.sl (aL (bu c)),v]))::FL c ss nl n4 n2) v (Cv c ((bu c).take i)),_,
    ⟨0,.nil,by omega,rfl,rfl,Or.inl ⟨rfl,by simp[Cv],V⟩⟩,?_⟩
  rintro m f h1 ⟨i,v,hi,hm,hl,q⟩
  simp only[List.cons.injEq,and_true]at hl
  rw[hl,nI]
  by_cases hlt:i<(bu c).length
  · have hk:(bu c)[i]?=some (bu c)[i]:=List.getElem?_eq_getElem hlt
    generalize (bu c)[i]=k at hk
    have hks:k∈ss:=(hss k).2 (cT.1 (List.mem_of_getElem? hk)).2
    simp only[show((i:Int)<((bu c).length:Int))=True from eq_true (by omega),decide_true,↓aF]
    refine Lp hk ?_
    have V1:=q.vs
    simp only[↓V1.fa 0 rfl,Nat.zero_add,↓V1.q8 0 (j:=1) rfl rfl]
    refine Jp V1 1 rfl ?_
    rw[if_pos hks]
    have hrl:(Cv c ((bu c).take i)).length=i:=by simp[Cv];omega
    refine q.push (d:=.sl (aL (rl c k))) CU rfl (by rw[hrl];omega) (by rw[hrl];omega) fun v2 h2 q2=>?_
    have V2:=q2.vs
    simp only[↓V2.fa 0 rfl,Nat.zero_add]
    rw[jS,V2.get 0 _ _ rfl]
    have hv1:v2.one=true/\v2.cells=[v2]:=by
      rcases q2 with⟨rfl,-,-⟩|⟨m,rfl,-⟩<;>exact⟨rfl,rfl⟩
    refine⟨by rw[hv1.2];rfl,fun x hx=>by rw[hv1.2]at hx;simp at hx;subst hx;exact hv1.1,rfl,by simp,?_⟩
    have e:setCells (.agg [.sl (aL (bu c)),v]) 1 v2.cells=.agg [.sl (aL (bu c)),v2]:=by rw[hv1.2];rfl
    rw[e]
    have q3:=q2.cc 0 (s':=.box (.agg [.sl (aL (bu c)),v2])) rfl (by simp)
    rw[oC (by omega) (by omega)]
    simp only[al,true_and]
    refine⟨_,by omega,i+1,v2,by omega,rfl,by simp,?_⟩
    have e2:Cv c ((bu c).take (i+1))=Cv c ((bu c).take i)++[.sl (aL (rl c k))]:=by rw[List.take_add_one,hk];simp[Cv]
    rw[e2]
    exact q3
  · have:i=(bu c).length:=by omega
    subst this
    rw[List.take_length]at q
    simp only[show(((bu c).length:Int)<((bu c).length:Int))=False from eq_false (by omega),decide_false,↓aC,al,true_and]
    exact hJ _ v q
theorem Jw {c:Code}(hc:jG c){h:Heap}{n2 n4 nl:Nat}{ss:List Nat}(V:Vs h (FL c ss nl n4 n2)) (hnd:ss.Nodup) (hss:∀k,k∈ss↔St c k){K:D->Prop}(hK:K (Ge c)) :
    af PP aM [.mp nl] h fun a20 h21 =>
    af PP aR [a20] h21 fun a22 h23 =>
    aa PP (.bld [.nil,.nil] [(0,1,(.c a22))]) h23 fun a24 h25 =>
    aa PP (.alloc (.agg [.nil,.nil])) h25 fun a26 h27 =>
    aa PP (.st (.c a26) (.c a24) 2) h27 fun a28 h29 =>
    ∃(J30:List D->Heap->Prop),(∀(f31:Nat->D) (h32:Heap),J30 [] h32 ->
    aa PP (.ld (.c a26) 2 true) h32 fun a33 h34 =>
    aa PP (.st (.c (.ptr n4 0 0)) (.c a33) 2) h34 fun a35 h36 =>
    aa PP (.ld (.c (.ptr n4 0 0)) 2 true) h36 fun a37 _ =>
    lQ K a37 h36) /\
    aa PP (.fadd (.c a26) 0) h29 fun a38 h39 =>
    aa PP (.ld (.c a38) 1 false) h39 fun a40 h41 =>
    bQ a40 h41 fun a42 =>
    dV h41 a42 a40 a26 (.mp nl) (.ptr n4 0 0) J30:=by
  have hnb:=hc.nb
  refine I9 V fun nk h2 V2=>?_
  refine nh Ky (V2.get 0 _ _ rfl) (V2.get 1 _ _ rfl) (ES (N:=c.b.length) (l:=bu c) (by omega) (fun k hk=>((hss k).1 hk).lt hc) hnd qf (fun k=>by rw[hss];unfold bu;rw[cT];exact⟨fun hh=>hh.2,fun hh=>⟨hh.lt hc,hh⟩⟩)) ?_
  rw[nR]
  refine⟨kr rfl,?_⟩
  refine V2.pop.alloc fun n26 h3 V3=>?_
  refine V3.DA (cs':=[.sl (aL (bu c)),.nil]) 0 rfl rfl rfl (fun y hy=>by simp at hy;rcases hy with rfl|rfl<;>rfl) fun h4 V4=>?_
  replace V4:Vs h4 ((n26,.box (.agg [.sl (aL (bu c)),.nil]))::FL c ss nl n4 n2):=V4
  refine⟨fun _ h'=>∃v,QD h' ((n26,.box (.agg [.sl (aL (bu c)),v]))::FL c ss nl n4 n2) v (Cv c (bu c)),?_,?_⟩
  · rintro f h5 ⟨v,q⟩
    have V5:=q.vs
    rw[V5.uZ 0 (s:=2) rfl rfl]
    have hv1:v.one=true:=by
      rcases q with⟨rfl,-,-⟩|⟨m,rfl,-⟩<;>rfl
    rw[jS,V5.get 2 _ _ rfl]
    refine⟨rfl,fun x hx=>by simp[D.cells]at hx;rcases hx with rfl|rfl;rfl;exact hv1,rfl,by simp,?_⟩
    have e:setCells (.agg [.nil,.nil]) 0 (D.agg [.sl (aL (bu c)),v]).cells=.agg [.sl (aL (bu c)),v]:=rfl
    rw[e]
    have q6:=q.cc 2 (s':=.box (.agg [.sl (aL (bu c)),v])) rfl (by simp)
    generalize aj h5 n4 (.box (.agg [.sl (aL (bu c)),v]))=h6 at q6
    rw[q6.vs.uZ 2 (s:=2) rfl rfl]
    rcases q6 with⟨rfl,hnil,V6⟩|⟨m,rfl,V6⟩
    · exfalso
      have h0:0∈bu c:=cT.2 ⟨hnb.1,.zero⟩
      have:bu c=[]:=by simpa[Cv] using hnil
      rw[this]at h0;cases h0
    · have hrow:(h6 m).row=some (1,Cv c (bu c)):=by rw[V6.get 0 _ _ rfl];rfl
      have ez:(D.agg [.sl (aL (bu c)),.ms m 0 (Cv c (bu c)).length]).fzt h6=Ge c:=by
        simp[D.fzt,D.fz,D.fzc,hrow,Ge,Cv]
        exact List.take_of_length_le (by simp)
      refine⟨fun x hx=>by simp[D.cells]at hx;rcases hx with rfl|rfl<;>rfl,?_,by rw[ez];rfl,by rw[ez];exact hK⟩
      intro x hx
      simp only[D.cells,List.mem_cons,List.not_mem_nil,or_false]at hx
      rcases hx with rfl|rfl
      · trivial
      · refine⟨1,_,hrow,by omega,fun x hx y hy=>?_⟩
        have hx':x∈Cv c (bu c):=by simpa using hx
        simp only[Cv,List.mem_map]at hx'
        obtain⟨s,-,rfl⟩:=hx'
        simp[D.cells]at hy;subst hy;rfl
  simp only[↓V4.fa 0 rfl,Nat.zero_add,↓V4.q8 0 (j:=0) rfl rfl,vW]
  exact KS hc (L':=[]) hss V4 fun h' v q=>⟨v,q⟩
end Go.Am
namespace Go.Am
open Go Go.Proofs
structure Dn (c:Code) (ss T:List Nat) (x:Nat):Prop where
  nd:ss.Nodup
  st:∀k∈ss,St c k
  td:∀k∈T,St c k
  cur:St c x
  zero:0∈ss\/x=0\/0∈T
  done:∀s a t,s∈ss->Path (wS c) s a->t∈kP c a->t∈ss\/t=x\/t∈T
structure rQ (c:Code) (ss T:List Nat):Prop where
  nd:ss.Nodup
  st:∀k∈ss,St c k
  td:∀k∈T,St c k
  zero:0∈ss\/0∈T
  done:∀s a t,s∈ss->Path (wS c) s a->t∈kP c a->t∈ss\/t∈T
theorem Dn.EL {c:Code}{ss T:List Nat}{x:Nat}(h:Dn c ss T x) (hx:x∈ss):rQ c ss T :=
  ⟨h.nd,h.st,h.td,by rcases h.zero with h0|h0|h0;exact Or.inl h0;exact Or.inl (h0 ▸ hx);exact Or.inr h0,fun s a t hs ha ht=>by
    rcases h.done s a t hs ha ht with h1|h1|h1
    · exact Or.inl h1
    · exact Or.inl (h1 ▸ hx)
    · exact Or.inr h1⟩
theorem Dn.new {c:Code}(hc:jG c){ss T:List Nat}{x:Nat}(h:Dn c ss T x) (hx:x∉ss):rQ c (ss++[x]) (T++Jm c x):=by
  refine⟨?_,fun k hk=>?_,fun k hk=>?_,?_,fun s a t hs ha ht=>?_⟩
  · exact List.nodup_append.2 ⟨h.nd,by simp,fun a ha b hb=>by simp at hb;subst hb;rintro rfl;exact hx ha⟩
  · rcases List.mem_append.1 hk with hk|hk
    · exact h.st k hk
    · simp at hk;subst hk;exact h.cur
  · rcases List.mem_append.1 hk with hk|hk
    · exact h.td k hk
    · obtain⟨-,a,ha,hb⟩:=cT.1 hk
      exact .step h.cur ha hb
  · rcases h.zero with h0|h0|h0
    · exact Or.inl (by simp[h0])
    · exact Or.inl (by simp[h0])
    · exact Or.inr (by simp[h0])
  · rcases List.mem_append.1 hs with hs|hs
    · rcases h.done s a t hs ha ht with h1|h1|h1
      · exact Or.inl (by simp[h1])
      · exact Or.inl (by simp[h1])
      · exact Or.inr (by simp[h1])
    · simp at hs;subst hs
      exact Or.inr (List.mem_append_right _ (cT.2 ⟨yq hc (tp ht),a,ha,ht⟩))
theorem rQ.next {c:Code}{ss T:List Nat}{x:Nat}(h:rQ c ss (x::T)):Dn c ss T x :=
  ⟨h.nd,h.st,fun k hk=>h.td k (by simp[hk]),h.td x (by simp),by
    rcases h.zero with h0|h0
    · exact Or.inl h0
    · exact Or.inr (by rcases List.mem_cons.1 h0 with e|e;exact Or.inl e.symm;exact Or.inr e),fun s a t hs ha ht=>by
    rcases h.done s a t hs ha ht with h1|h1
    · exact Or.inl h1
    · exact Or.inr (by rcases List.mem_cons.1 h1 with e|e;exact Or.inl e;exact Or.inr e)⟩
theorem rQ.fin {c:Code}{ss:List Nat}(h:rQ c ss []) (k:Nat):k∈ss↔St c k:=by
  refine⟨h.st k,fun hk=>?_⟩
  induction hk with
  | zero=>rcases h.zero with h0|h0;exact h0;cases h0
  | step _ ha ht ih=>rcases h.done _ _ _ ih ha ht with h1|h1;exact h1;cases h1
theorem C7 {c:Code}(hc:jG c):aO PP bS [c.e] (· = Ge c):=by
  have hnb:=hc.nb
  refine db xh (aq _ _ _) rfl (wZ _ _) ?_
  unfold ui
  refine Vs.nil.box c.nT.one fun n2 h3 V1=>?_
  refine V1.alloc fun n4 h5 V2=>?_
  let M:List Nat->List Nat->Nat:=fun ss T=>20*zm (dQ ss) c.b.length+T.length
  refine⟨fun m l h=>∃(nl x:Nat) (ss T:List Nat) (v:D),l=[.mp nl,nD x,v]/\QV h (FL c ss nl n4 n2) v T/\Dn c ss T x/\m=M ss T/\m<=500,?_,?_⟩
  · refine V2.xt fun nl h11 V3=>?_
    have q0:QV h11 (FL c [] nl n4 n2) .nil []:=QV.nil V3
    have f0:Dn c [] [] 0:=⟨by simp,fun k hk=>(by cases hk),fun k hk=>(by cases hk),.zero,Or.inr (Or.inl rfl),fun s a t hs=>(by cases hs)⟩
    refine⟨fun l h=>∃(ss T:List Nat) (v:D),l=[v]/\QV h (FL c ss nl n4 n2) v T/\rQ c ss T/\M ss T<=480,?_,?_⟩
    · rintro f h ⟨ss,T,v,hl,q,fi,hM⟩
      simp only[List.cons.injEq,and_true]at hl
      simp only[hl,q.len,qS]
      cases T with
      | nil =>
        simp only[List.length_nil,show((0:Nat):Int)=0 from rfl,Int.lt_irrefl,decide_false,↓aC]
        exact Jw hc q.vs fi.nd fi.fin rfl
      | cons x T' =>
        simp only[show((0:Int)<((x::T').length:Int))=True from eq_true (by simp only[List.length_cons];omega),decide_true,↓aF]
        refine q.GU (i:=0) (k:=x) rfl ?_
        refine q.Mp (lo:=some 1) (hi:=none) (a:=1) (b:=(x::T').length) rfl rfl (by simp) (Nat.le_refl _) (by simp) fun v' q'=>?_
        have e1:((x::T').drop 1).take ((x::T').length-1)=T':=by simp
        rw[e1]at q'
        simp only[al,true_and]
        refine⟨_,nl,x,ss,T',v',rfl,q',fi.next,rfl,?_⟩
        have:M ss (x::T')=M ss T'+1:=by simp only[M,List.length_cons];omega
        omega
    · refine GO hc (x:=0) (J:=fun l h=>∃(ss T:List Nat) (v:D),l=[v]/\QV h (FL c ss nl n4 n2) v T/\rQ c ss T/\M ss T<=480) rfl q0 hnb.1 (by simp) fun v' h' ss' T' q' hh=>⟨ss',T',v',rfl,q',?_,?_⟩
      · rcases hh with⟨h0,-,-⟩|⟨h0,rfl,rfl⟩
        · cases h0
        · exact f0.new hc h0
      · rcases hh with⟨h0,-,-⟩|⟨h0,rfl,rfl⟩
        · cases h0
        · have hu:zm (dQ ([]++[0])) c.b.length+1<=zm (dQ []) c.b.length:=xl (x:=0) (fun k hk=>by simp[dQ]at hk) hnb.1 rfl rfl
          have:=Cs (dQ []) c.b.length
          have hn:(Jm c 0).length<=c.b.length:=mY
          simp only[M,List.nil_append]at hu ⊢
          omega
  · rintro m f h9 ⟨nl,x,ss,T,v,hl,q,fi,hm,hmb⟩
    simp only[List.cons.injEq,and_true]at hl
    obtain⟨e3,e4,e5⟩:=hl
    rw[e3,e4,e5]
    refine⟨fun l h=>∃(ss T:List Nat) (v:D),l=[v]/\QV h (FL c ss nl n4 n2) v T/\rQ c ss T/\M ss T<=m,?_,?_⟩
    · rintro f' h ⟨ss,T,v,hl,q,fi,hM⟩
      simp only[List.cons.injEq,and_true]at hl
      simp only[hl,q.len,qS]
      cases T with
      | nil =>
        simp only[List.length_nil,show((0:Nat):Int)=0 from rfl,Int.lt_irrefl,decide_false,↓aC,MK,e3]
        exact Jw hc q.vs fi.nd fi.fin rfl
      | cons x T' =>
        simp only[show((0:Int)<((x::T').length:Int))=True from eq_true (by simp only[List.length_cons];omega),decide_true,↓aF]
        refine q.GU (i:=0) (k:=x) rfl ?_
        refine q.Mp (lo:=some 1) (hi:=none) (a:=1) (b:=(x::T').length) rfl rfl (by simp) (Nat.le_refl _) (by simp) fun v' q'=>?_
        have e1:((x::T').drop 1).take ((x::T').length-1)=T':=by simp
        rw[e1]at q'
        simp only[al,true_and]
        have:M ss (x::T')=M ss T'+1:=by simp only[M,List.length_cons];omega
        exact⟨_,by omega,nl,x,ss,T',v',rfl,q',fi.next,rfl,by omega⟩
    · refine GO hc (x:=x) (J:=fun l h=>∃(ss T:List Nat) (v:D),l=[v]/\QV h (FL c ss nl n4 n2) v T/\rQ c ss T/\M ss T<=m) rfl q (fi.cur.lt hc) (by simp only[M]at hm;omega) fun v' h' ss' T' q' hh=>⟨ss',T',v',rfl,q',?_,?_⟩
      · rcases hh with⟨h0,rfl,rfl⟩|⟨h0,rfl,rfl⟩
        · exact fi.EL h0
        · exact fi.new hc h0
      · rcases hh with⟨h0,rfl,rfl⟩|⟨h0,rfl,rfl⟩
        · omega
        · have hu:zm (dQ (ss++[x])) c.b.length+1<=zm (dQ ss) c.b.length:=xl (x:=x) (fun k hk=>by simp[dQ]at hk ⊢;exact Or.inl hk) (fi.cur.lt hc) (by simp[dQ,h0]) (by simp[dQ])
          have hn:(Jm c x).length<=c.b.length:=mY
          simp only[M,List.length_append]at hm ⊢
          omega
end Go.Am
namespace Go.Am
open Go Go.Proofs
theorem JY {l:List Nat}:wy (.sl (aL l)):=CU
end Go.Am
namespace Go.Am
open Go Go.Proofs
section
variable {h:Heap}{L:List (Nat×Slot)}{KH:D->Heap->Prop}
theorem Vs.Ff (V:Vs h L){esz:Nat}{z:D}{fz:Bool}(hK:∀n h',Vs h' ((n,.arr esz [])::L)->KH (.ms n 0 0) h'):aa PP (.bldS fz esz 0 z []) h KH:=KI fun n t=>hK n _ (V.push t.free (by simp))
theorem Vs.Cb {m esz bytes:Nat}{els ys:List D}{x z:D}(V:Vs h ((m,.arr esz els)::L)) (hx:∀{K:List D->Prop},K ys->velems esz x h K) (hy:∀y∈ys,aH y) (hb:(els.length+ys.length)*bytes<=140737488355328) (hl:els.length+ys.length<=9223372036854775807)
    (hK:∀n h',Vs h' ((n,.arr esz (els++ys))::L)->KH (.ms n 0 (els.length+ys.length)) h'):aa PP (.app (.c (.ms m 0 els.length)) (.c x) esz bytes z) h KH:=by
  rw[DZ]
  refine hx ⟨hy,?_⟩
  have hm:=V.get 0 _ _ rfl
  refine⟨els,.of hm,by simp,⟨hb,hl⟩,fun n t=>⟨?_,fun h0=>absurd rfl h0⟩⟩
  rw[List.drop_zero]
  refine hK n _ ?_
  have hne:n≠m:=by rintro rfl;rw[t.free]at hm;cases hm
  have V1:Vs (aj h m .dead) L:=by
    refine V.pop.Bs fun k s hi=>?_
    have:k≠m:=fun e=>by
      obtain⟨i,hi'⟩:=hi
      exact V.ne (i+1) 0 k m s _ (by simpa using hi') rfl (by omega) e
    exact ab _ _ this
  exact V1.push (by rw[ab _ _ hne];exact t.free) (by simp)
theorem Vs.ND {w:Nat}{els:List D}{t:Term}{z:D}(V:Vs h ((w,.arr 15 els)::L)) (hv:∀x∈els,∀y∈x.cells,y.vone=true)
    (hK:∀n h',Vs h' ((n,.arr 14 [.agg (.sl els::t.cs)])::L)->KH (.ms n 0 1) h'):aa PP (.bldS true 14 1 z [(0,.c (.agg (.ms w 0 els.length::t.cs)))]) h KH:=by
  have hw:=V.get 0 _ _ rfl
  have hrow:(h w).row=some (15,els):=by rw[hw];rfl
  refine⟨fun p hp=>by
    simp[Arg.get]at hp;subst hp
    exact⟨Nat.one_pos,rfl,fun x hx=>by simp[D.cells,Term.cs]at hx;rcases hx with rfl|rfl|rfl|rfl|rfl|rfl|rfl|rfl|rfl|rfl|rfl|rfl|rfl|rfl<;>rfl⟩,fun _ p hp=>?_,fun n t0=>?_⟩
  · simp[Arg.get]at hp;subst hp
    intro x hx
    simp only[D.cells,Term.cs,List.mem_cons,List.not_mem_nil,or_false]at hx
    rcases hx with rfl|rfl|rfl|rfl|rfl|rfl|rfl|rfl|rfl|rfl|rfl|rfl|rfl|rfl
    · exact⟨15,els,hrow,by simp,fun x hx y hy=>hv x (by simpa using hx) y hy⟩
    all_goals trivial
  · have eF:(aj h w (.frz 15 els)) n=.free:=by
      have:n≠w:=by rintro rfl;rw[t0.free]at hw;cases hw
      rw[ab _ _ this];exact t0.free
    have V1:=(V.cc 0 (s':=.frz 15 els) rfl (by simp)).pop
    have:=hK n _ (V1.push eF (s:=.arr 14 [.agg (.sl els::t.cs)]) (by simp))
    simpa[Arg.get,Heap.freezeAll,Heap.freeze,hw,setEls,D.fz,D.fzc,D.nm,D.iT,Slot.row,Term.cs] using this
end
theorem xz {α:Type}{g:α->D}{l:List α}{esz:Nat}{h:Heap}(hc:∀x,(g x).cells.length=esz){K:List D->Prop}(hk:K (l.map g)):velems esz (.sl (l.map g)) h K :=
  ⟨fun e he=>by simp only[List.mem_map]at he;obtain⟨x,-,rfl⟩:=he;exact hc x,hk⟩
theorem Al {α:Type}{g:α->D}{l:List α}(hd:∀x,wy (g x)):∀y,y∈l.map g->aH y:=fun y hy=>by
  simp only[List.mem_map]at hy;obtain⟨x,-,rfl⟩:=hy;exact(hd x).one
theorem Io {l:List bg}:∀x,x∈l.map bg.e->∀y∈x.cells,y.vone=true:=by
  intro x hx y hy
  simp only[List.mem_map]at hx
  obtain⟨i,-,rfl⟩:=hx
  simp[bg.e,bg.cs,D.cells]at hy
  rcases hy with rfl|rfl|rfl|rfl|rfl|rfl|rfl|rfl|rfl|rfl|rfl|rfl|rfl|rfl|rfl<;>rfl
abbrev y9 (c:Code) (vA vL vB:D):D:=.agg [.int .i64 c.group,.int .i64 c.sub,.int .i64 c.regs,.int .i64 c.slots,.int .i64 c.params,vA,vL,vB]
theorem Li {c:Code}(hc:lP c){h:Heap}{L:List (Nat×Slot)}(V0:Vs h L){KH:D->Heap->Prop}
    (hK:∀h' nA nL nB,Vs h' ((nB,.arr 14 (c.b.map Block.e))::(nL,.arr 3 (c.loops.map Loop.e))::(nA,.arr 4 (c.arrays.map vG.e))::L) ->
      KH (y9 c (.ms nA 0 c.arrays.length) (.ms nL 0 c.loops.length) (.ms nB 0 c.b.length)) h'):af PP jQ [c.e] h KH:=by
  have hnb:=hc.nb
  have hnl:=hc.nl
  have hna:c.arrays.length=5:=by rw[hc.arrays];rfl
  refine cA xf (aq _ _ _) rfl (wX _ _) ?_
  unfold ue
  refine V0.box c.nT.one fun n2 h3 V1=>?_
  refine V1.alloc fun n4 h5 V2=>?_
  refine V2.Ff fun nA0 h7 V3=>?_
  simp only[↓V3.fa 2 rfl,Nat.zero_add,↓V3.q8 2 (j:=5) rfl rfl]
  refine V3.Cb (els:=[]) (ys:=c.arrays.map vG.e) (fun hk=>xz (g:=vG.e) (l:=c.arrays) (fun _=>rfl) hk) (Al fun x=>x.nT) (by simp[hna]) (by simp[hna]) fun nA h13 V4=>?_
  simp only[List.length_nil,Nat.zero_add,List.length_map,List.nil_append]at V4 ⊢
  simp only[↓V4.fa 2 rfl,Nat.zero_add]
  refine V4.Lm 2 (j:=5) rfl (by simp) rfl fun h17 V5=>?_
  refine V5.Ff fun nL0 h19 V6=>?_
  simp only[↓V6.fa 3 rfl,Nat.zero_add,↓V6.q8 3 (j:=6) rfl rfl]
  refine V6.Cb (els:=[]) (ys:=c.loops.map Loop.e) (fun hk=>xz (g:=Loop.e) (l:=c.loops) (fun _=>rfl) hk) (Al fun x=>x.nT) (by simp;omega) (by simp;omega) fun nL h25 V7=>?_
  simp only[List.length_nil,Nat.zero_add,List.length_map,List.nil_append]at V7 ⊢
  simp only[↓V7.fa 3 rfl,Nat.zero_add]
  refine V7.Lm 3 (j:=6) rfl (by simp) rfl fun h29 V8=>?_
  refine V8.Ff fun nB0 h31 V9=>?_
  let BL:List (Nat×Slot):=[(nL,.arr 3 (c.loops.map Loop.e)),(nA,.arr 4 (c.arrays.map vG.e)),(n4,.box (.agg [.int .i64 0,.int .i64 0,.int .i64 0,.int .i64 0,.int .i64 0,.nil,.nil,.nil])),(n2,.box (y9 c (.ms nA 0 c.arrays.length) (.ms nL 0 c.loops.length) (.sl (c.b.map Block.e))))]++L
  replace V9:Vs h31 ((nB0,.arr 14 [])::BL):=V9
  refine⟨fun l h=>∃nB,l=[.ms nB 0 c.b.length]/\Vs h ((nB,.arr 14 (c.b.map Block.e))::BL),?_,?_⟩
  · rintro f h34 ⟨nB,hl,V⟩
    simp only[List.cons.injEq,and_true]at hl
    rw[hl]
    simp only[↓V.fa 4 rfl,Nat.zero_add]
    refine V.Lm 4 (j:=7) rfl (by simp) rfl fun h38 V'=>?_
    simp only[↓V'.uZ 4 (s:=8) rfl rfl]
    refine V'.DA (cs':=[.int .i64 c.group,.int .i64 c.sub,.int .i64 c.regs,.int .i64 c.slots,.int .i64 c.params,.ms nA 0 c.arrays.length,.ms nL 0 c.loops.length,.ms nB 0 c.b.length]) 3 rfl rfl rfl (fun y hy=>by simp at hy;rcases hy with rfl|rfl|rfl|rfl|rfl|rfl|rfl|rfl<;>rfl) fun h42 V''=>?_
    rw[V''.uZ 3 (s:=8) rfl rfl]
    have V3:=(V''.erase 3).erase 3
    exact hK _ nA nL nB V3
  unfold nX
  refine⟨fun m l h=>∃(i nB:Nat),i<=c.b.length/\m=c.b.length-i/\l=[.ms nB 0 i,.int .i64 (i:Int)]/\Vs h ((nB,.arr 14 ((c.b.take i).map Block.e))::BL),_,⟨0,nB0,by omega,rfl,rfl,V9⟩,?_⟩
  rintro m f h47 ⟨i,nB,hi,hm,hl,V⟩
  simp only[List.cons.injEq,and_true]at hl
  obtain⟨e3,e4⟩:=hl
  simp only[e3,e4,↓V.fa 4 rfl,Nat.zero_add,↓V.q8 4 (j:=7) rfl rfl,oT,List.length_map,nI]
  by_cases hlt:i<c.b.length
  · have hB:c.b[i]?=some c.b[i]:=List.getElem?_eq_getElem hlt
    have BO:=hc.b _ (List.mem_of_getElem? hB)
    generalize c.b[i]=B at hB BO
    have hil:=BO.len
    have dblk0:∀{h:Heap}{K:D->Prop},ae PP (.ld (.c (.vp B.e 0)) 1 false) h K=K (.sl (B.i.map bg.e)):=fun {h K}=>by rw[qH];exact L5 rfl
    have dfav0:∀{h:Heap}{K:D->Prop}{o:Nat},ae PP (.fadd (.c (.vp B.e 0)) o) h K=K (.vp B.e o):=fun {h K o}=>Mr
    simp only[show((i:Int)<(c.b.length:Int))=True from eq_true (by omega),decide_true,↓aF,↓V.qm 4 rfl,Nat.zero_add,↓V.vc 4 (j:=7) rfl rfl,↓Eg hB,↓dfav0,↓dblk0,↓Ef]
    refine V.Ff fun n64 h65 V1=>?_
    refine⟨by simp only[↓V1.qm 5 rfl,Nat.zero_add,↓V1.vc 5 (j:=7) rfl rfl,↓Eg hB,↓dfav0,↓dblk0,↓Ef,al,and_self],?_⟩
    refine V1.Cb (els:=[]) (ys:=B.i.map bg.e) (fun hk=>xz (g:=bg.e) (l:=B.i) (fun _=>rfl) hk) (Al fun x=>x.nT) (by simp;omega) (by simp;omega) fun n76 h77 V2=>?_
    simp only[List.length_nil,Nat.zero_add,List.nil_append]at V2 ⊢
    refine⟨by simp only[↓V2.qm 5 rfl,Nat.zero_add,↓V2.vc 5 (j:=7) rfl rfl,↓Eg hB,↓dfav0,↓dblk0,↓Ef,al,and_self],?_⟩
    rw[pI rfl]
    refine Vs.ND (t:=B.t) V2 Io fun n84 h85 V3=>?_
    have hlen:((c.b.take i).map Block.e).length=i:=by simp;omega
    have V3':=V3.swap
    rw[show D.ms nB 0 i=.ms nB 0 ((c.b.take i).map Block.e).length by rw[hlen]]
    have row84:=V3.get 0 _ _ rfl
    refine Vs.Cb (ys:=[B.e]) V3' (fun hk=>⟨[B.e],by rw[row84];rfl,by simp,hk⟩) (fun y hy=>by simp at hy;subst hy;exact B.nT.one) (by rw[hlen];simp;omega) (by rw[hlen];simp;omega) fun n86 h87 V4=>?_
    rw[oC (by omega) (by omega),hlen]
    simp only[al,true_and]
    refine⟨_,by omega,i+1,n86,by omega,rfl,by simp,?_⟩
    have e2:(c.b.take (i+1)).map Block.e=(c.b.take i).map Block.e++[B.e]:=by rw[List.take_add_one,hB];simp
    rw[e2]
    exact V4.erase 1
  · have:i=c.b.length:=by omega
    subst this
    rw[List.take_length]at V
    simp only[show((c.b.length:Int)<(c.b.length:Int))=False from eq_false (by omega),decide_false,↓aC,al,true_and]
    exact⟨nB,rfl,V⟩
end Go.Am
namespace Go.Am
open Go Go.Proofs
def Lb (mask:Int) (i:Nat):Bool:=decide (ibits .and .u32 (Ao .u32 mask ((i % 32:Nat):Int)) 1=1)
def IY (t:Term):Term:=if t.kind=1 then { t with kind:=3 } else t
def tW (mask:Int) (i:Nat) (B:Block):Block:=if Lb mask i then { B with t:=IY B.t } else B
def oA (c:Code) (mask:Int):Code:={ c with b:=c.b.mapIdx (tW mask) }
theorem IX {N:Nat}{R:Int}{t:Term}(h:Ch N R t):Ch N R (IY t):=by
  cases h with
  | jump a h=>exact .barrier a h
  | branch o a b ho h1 h2=>exact .branch o a b ho h1 h2
  | barrier a h=>exact .barrier a h
  | collect s d a b t hs hd ha hb h=>exact .collect s d a b t hs hd ha hb h
  | exit=>exact .exit
theorem I0 {N:Nat}{R:Int}{B:Block}{mask:Int}{i:Nat}(h:MW N R B):MW N R (tW mask i B):=by
  unfold tW
  split
  · exact⟨h.xs,h.len,IX h.t⟩
  · exact h
theorem iZ {c:Code}{mask:Int}:(oA c mask).b.length=c.b.length:=by simp[oA]
theorem B5 {c:Code}{mask:Int}{i:Nat}:(oA c mask).b[i]?=(c.b[i]?).map (tW mask i):=by simp[oA]
theorem IZ {c:Code}{mask:Int}(hc:lP c):lP (oA c mask):=by
  refine⟨hc.group,hc.sub,hc.dvd,hc.regs,hc.slots,hc.params,hc.arrays,hc.nl,?_,?_,fun B hB=>?_⟩
  · rw[iZ];exact hc.loops
  · rw[iZ];exact hc.nb
  · rw[iZ]
    obtain⟨i,hi⟩:=List.getElem?_of_mem hB
    rw[B5]at hi
    simp only[Option.map_eq_some_iff]at hi
    obtain⟨B',hB',rfl⟩:=hi
    exact I0 (hc.b B' (List.mem_of_getElem? hB'))
def sN (c:Code) (mask:Int) (i:Nat):List Block:=(oA c mask).b.take i++c.b.drop i
theorem Ly {c:Code}{mask:Int}:sN c mask 0=c.b:=by simp[sN]
theorem FN {c:Code}{mask:Int}:sN c mask c.b.length=(oA c mask).b:=by
  unfold sN;rw[List.drop_length,List.append_nil,List.take_of_length_le (by rw[iZ];omega)]
theorem Ac {c:Code}{mask:Int}{i:Nat}{B:Block}(hB:c.b[i]?=some B):(sN c mask i)[i]?=some B:=by
  have hi:=(List.getElem?_eq_some_iff.1 hB).1
  have h1:((oA c mask).b.take i).length=i:=by rw[List.length_take,iZ];omega
  unfold sN
  rw[List.getElem?_append_right (by omega),h1,Nat.sub_self,List.getElem?_drop,Nat.add_zero,hB]
theorem Dz {c:Code}{mask:Int}{i:Nat}{B:Block}(hB:c.b[i]?=some B):(sN c mask i).set i (tW mask i B)=sN c mask (i+1):=by
  have hi:=(List.getElem?_eq_some_iff.1 hB).1
  have h1:((oA c mask).b.take i).length=i:=by rw[List.length_take,iZ];omega
  have h2:c.b.drop i=B::c.b.drop (i+1):=by
    rw[List.drop_eq_getElem_cons hi]
    have:=(List.getElem?_eq_some_iff.1 hB).2
    rw[this]
  unfold sN
  rw[List.set_append_right _ _ (by omega),h1,Nat.sub_self,h2,List.set_cons_zero,List.take_add_one,B5,hB]
  simp
theorem Ba {c:Code}{mask:Int}{i:Nat}{B:Block}(hB:c.b[i]?=some B) (he:tW mask i B=B):sN c mask i=sN c mask (i+1):=by
  have h1:=Dz (mask:=mask) hB
  rw[he]at h1
  rw[<- h1]
  refine List.ext_getElem? fun j=>?_
  rw[List.getElem?_set]
  by_cases hj:i=j
  · subst hj
    have hlt:=(List.getElem?_eq_some_iff.1 (Ac (mask:=mask) hB)).1
    rw[if_pos rfl,if_pos hlt,Ac hB]
  · rw[if_neg hj]
theorem He {c:Code}(hc:lP c){mask:Int}:aO PP gF [c.e,.int .u32 mask] (· = (oA c mask).e):=by
  have hnb:=hc.nb
  refine db ur (aq _ _ _) rfl (ub _ _ _) ?_
  unfold pN
  refine Vs.nil.box c.nT.one fun n3 h4 V1=>?_
  refine V1.alloc fun n5 h6 V2=>?_
  simp only[↓V2.uZ 1 (s:=8) rfl rfl]
  refine Li hc V2 fun h10 nA nL nB V3=>?_
  refine V3.alloc fun n11 h12 V4=>?_
  refine V4.DA (cs':=[.int .i64 c.group,.int .i64 c.sub,.int .i64 c.regs,.int .i64 c.slots,.int .i64 c.params,.ms nA 0 c.arrays.length,.ms nL 0 c.loops.length,.ms nB 0 c.b.length]) 0 rfl rfl rfl (fun y hy=>by simp at hy;rcases hy with rfl|rfl|rfl|rfl|rfl|rfl|rfl|rfl<;>rfl) fun h14 V5=>?_
  let BL:List Block->List (Nat×Slot):=fun bs=>[(n11,.box (y9 c (.ms nA 0 c.arrays.length) (.ms nL 0 c.loops.length) (.ms nB 0 c.b.length))),(nB,.arr 14 (bs.map Block.e)),(nL,.arr 3 (c.loops.map Loop.e)),(nA,.arr 4 (c.arrays.map vG.e)),(n5,.box (.agg [.int .i64 0,.int .i64 0,.int .i64 0,.int .i64 0,.int .i64 0,.nil,.nil,.nil])),(n3,.box c.e)]
  replace V5:Vs h14 (BL c.b):=V5
  refine⟨fun _ h=>Vs h (BL (oA c mask).b),?_,?_⟩
  · rintro f h17 V
    simp only[↓V.uZ 0 (s:=8) rfl rfl]
    refine V.DA (cs':=[.int .i64 c.group,.int .i64 c.sub,.int .i64 c.regs,.int .i64 c.slots,.int .i64 c.params,.ms nA 0 c.arrays.length,.ms nL 0 c.loops.length,.ms nB 0 c.b.length]) 4 rfl rfl rfl (fun y hy=>by simp at hy;rcases hy with rfl|rfl|rfl|rfl|rfl|rfl|rfl|rfl<;>rfl) fun h21 V'=>?_
    rw[V'.uZ 4 (s:=8) rfl rfl]
    have rB:(h21 nB).row=some (14,(oA c mask).b.map Block.e):=by rw[V'.get 1 _ _ rfl];rfl
    have rL:(h21 nL).row=some (3,c.loops.map Loop.e):=by rw[V'.get 2 _ _ rfl];rfl
    have rA:(h21 nA).row=some (4,c.arrays.map vG.e):=by rw[V'.get 3 _ _ rfl];rfl
    have ez:(y9 c (.ms nA 0 c.arrays.length) (.ms nL 0 c.loops.length) (.ms nB 0 c.b.length)).fzt h21=(oA c mask).e:=by
      have e1:((oA c mask).b.map Block.e).take c.b.length=(oA c mask).b.map Block.e:=List.take_of_length_le (by rw[List.length_map,iZ];omega)
      have e2:(c.loops.map Loop.e).take c.loops.length=c.loops.map Loop.e:=List.take_of_length_le (by rw[List.length_map];omega)
      have e3:(c.arrays.map vG.e).take c.arrays.length=c.arrays.map vG.e:=List.take_of_length_le (by rw[List.length_map];omega)
      simp only[D.fzt,D.fz,List.map_cons,List.map_nil,D.fzc,rA,rL,rB,List.drop_zero,e1,e2,e3,Code.e]
      rfl
    refine⟨fun x hx=>by simp[D.cells]at hx;rcases hx with rfl|rfl|rfl|rfl|rfl|rfl|rfl|rfl<;>rfl,?_,by rw[ez];rfl,ez⟩
    intro x hx
    simp only[D.cells,List.mem_cons,List.not_mem_nil,or_false]at hx
    rcases hx with rfl|rfl|rfl|rfl|rfl|rfl|rfl|rfl
    iterate 5 trivial
    · refine⟨4,_,rA,by simp,fun x hx y hy=>?_⟩
      have hx':x∈c.arrays.map vG.e:=List.mem_of_mem_drop (List.mem_of_mem_take hx)
      simp only[List.mem_map]at hx'
      obtain⟨a,-,rfl⟩:=hx'
      simp[vG.e,D.cells]at hy;rcases hy with rfl|rfl|rfl|rfl<;>rfl
    · refine⟨3,_,rL,by simp,fun x hx y hy=>?_⟩
      have hx':x∈c.loops.map Loop.e:=List.mem_of_mem_drop (List.mem_of_mem_take hx)
      simp only[List.mem_map]at hx'
      obtain⟨a,-,rfl⟩:=hx'
      simp[Loop.e,D.cells]at hy;rcases hy with rfl|rfl|rfl<;>rfl
    · refine⟨14,_,rB,by simp[iZ],fun x hx y hy=>?_⟩
      have hx':x∈(oA c mask).b.map Block.e:=List.mem_of_mem_drop (List.mem_of_mem_take hx)
      simp only[List.mem_map]at hx'
      obtain⟨a,-,rfl⟩:=hx'
      simp[Block.e,Term.cs,D.cells]at hy
      rcases hy with rfl|rfl|rfl|rfl|rfl|rfl|rfl|rfl|rfl|rfl|rfl|rfl|rfl|rfl<;>rfl
  unfold lj
  refine⟨fun m l h=>∃i:Nat,i<=c.b.length/\m=c.b.length-i/\l=[.int .i64 (i:Int)]/\Vs h (BL (sN c mask i)),_,⟨0,by omega,rfl,rfl,by rw[Ly];exact V5⟩,?_⟩
  rintro m f h26 ⟨i,hi,hm,hl,V⟩
  simp only[List.cons.injEq,and_true]at hl
  have hlen:∀{h:Heap}{K:D->Prop},Vs h (BL (sN c mask i))->bQ (.ms nB 0 c.b.length) h K=K (.int .i64 (c.b.length:Int)):=fun {h K} V=>by
    rw[mM];apply propext;exact⟨fun hh=>hh.2,fun hk=>⟨by rw[V.get 1 _ _ rfl];rfl,hk⟩⟩
  simp only[hl,↓V.fa 0 rfl,Nat.zero_add,↓V.q8 0 (j:=7) rfl rfl,↓hlen V,nI]
  by_cases hlt:i<c.b.length
  · have hB:c.b[i]?=some c.b[i]:=List.getElem?_eq_getElem hlt
    generalize c.b[i]=B at hB
    have hS:=Ac (mask:=mask) hB
    have hE:((sN c mask i).map Block.e)[i]?=some B.e:=by rw[List.getElem?_map,hS];rfl
    have hEl:=(List.getElem?_eq_some_iff.1 hE).1
    have w:IntKind.u64.wrap ((i % 32:Nat):Int)=((i % 32:Nat):Int):=by simp only[IntKind.wrap,IntKind.signed,IntKind.bits];simp;omega
    simp only[show((i:Int)<(c.b.length:Int))=True from eq_true (by omega),decide_true,↓aF]
    refine⟨fun _ h=>Vs h (BL (sN c mask (i+1))),?_,?_⟩
    · rintro f' h' V'
      rw[oC (by omega) (by omega)]
      simp only[al,true_and]
      exact⟨_,by omega,i+1,by omega,rfl,by simp,V'⟩
    rw[cq]
    refine⟨by omega,?_⟩
    rw[show((i:Int).tmod 32)=((i % 32:Nat):Int) from aS i 32,lK,w,Jd]
    refine⟨by omega,?_⟩
    rw[Lu,eg]
    have hbit:decide (ibits .and .u32 (Ao .u32 mask ((i % 32:Nat):Int)) 1=1)=Lb mask i:=rfl
    rw[hbit]
    have f1:∀{KH:D->Heap->Prop},aa PP (.fadd (.c (.ptr nB i 0)) 1) h26 KH=KH (.ptr nB i 1) h26:=fun {KH}=>by
      rw[pB,V.get 1 _ _ rfl];apply propext;exact⟨fun hh=>hh.2,fun hk=>⟨rfl,hk⟩⟩
    have f0:∀{KH:D->Heap->Prop},aa PP (.fadd (.c (.ptr nB i 1)) 0) h26 KH=KH (.ptr nB i 1) h26:=fun {KH}=>by
      rw[pB,V.get 1 _ _ rfl];apply propext;exact⟨fun hh=>hh.2,fun hk=>⟨rfl,hk⟩⟩
    have lk:∀{KH:D->Heap->Prop},aa PP (.ld (.c (.ptr nB i 1)) 1 false) h26 KH=KH (.int .i64 B.t.kind) h26:=fun {KH}=>by
      rw[u6,V.get 1 _ _ rfl]
      apply propext
      constructor
      · intro hh
        have:=hh.2 B.e hE
        rw[ec]at this
        simpa[Block.e,Term.cs,D.cells] using this
      · intro hk
        refine⟨hEl,fun d hd=>?_⟩
        rw[hE]at hd;cases hd
        rw[ec]
        simpa[Block.e,Term.cs,D.cells] using hk
    cases hbm:Lb mask i
    · have hsame:tW mask i B=B:=by unfold tW;rw[hbm];rfl
      simp only[↓gS]
      simp only[al,true_and]
      rw[<- Ba hB hsame]
      exact V
    · simp only[↓gS,↓V.fa 0 rfl,Nat.zero_add,↓V.q8 0 (j:=7) rfl rfl,↓V.ia 1 rfl (show(0:Int)<=(i:Int) by omega) (show(i:Int)<(c.b.length:Nat) by omega),Int.toNat_natCast,↓f1,↓f0,↓lk,eg]
      by_cases hk:B.t.kind=1
      · have hset:tW mask i B={ B with t:={ B.t with kind:=3 } }:=by unfold tW IY;rw[hbm,if_pos rfl,if_pos hk]
        simp only[hk,decide_true,↓gS,↓V.fa 0 rfl,Nat.zero_add,↓V.q8 0 (j:=7) rfl rfl,↓V.ia 1 rfl (show(0:Int)<=(i:Int) by omega) (show(i:Int)<(c.b.length:Nat) by omega),Int.toNat_natCast,↓f1,↓f0]
        rw[jS,V.get 1 _ _ rfl]
        refine⟨rfl,fun x hx=>by simp[D.cells]at hx;subst hx;rfl,hEl,by omega,fun d hd=>?_⟩
        rw[hE]at hd;cases hd
        have e1:setCells B.e 1 (D.int .i64 3).cells=(tW mask i B).e:=by rw[hset];rfl
        have e2:((sN c mask i).map Block.e).set i (tW mask i B).e=(sN c mask (i+1)).map Block.e:=by rw[<- Dz hB,List.map_set]
        rw[e1,e2]
        simp only[al,true_and]
        exact V.cc 1 (s':=.arr 14 ((sN c mask (i+1)).map Block.e)) rfl (by simp)
      · have hsame:tW mask i B=B:=by unfold tW IY;rw[hbm,if_pos rfl,if_neg hk]
        simp only[hk,decide_false,↓gS]
        simp only[al,true_and]
        rw[<- Ba hB hsame]
        exact V
  · have:i=c.b.length:=by omega
    subst this
    rw[FN]at V
    simp only[show((c.b.length:Int)<(c.b.length:Int))=False from eq_false (by omega),decide_false,↓aC,al,true_and]
    exact V
end Go.Am
namespace Go.Am
open Go Go.Proofs
end Go.Am
namespace Go.Am
open Go Go.Proofs
def tQ (l:List Int):List D:=l.map (.int .i64)
theorem DW {l:List Int}:(tQ l).length=l.length:=by simp[tQ]
theorem Jq (l:List Nat):aL l=tQ (l.map fun n:Nat=>(n:Int)):=by simp[aL,tQ,nD]
section
variable {P:Program}{KH:D->Heap->Prop}{K:D->Prop}{h:Heap}
theorem Ni {l:List Int}{i:Nat}{k:Int}(hk:l[i]?=some k) (hK:KH (.int .i64 k) h):aa P (.iadd (.c (.sl (tQ l))) (.c (.int .i64 (i:Int))) 1) h fun a h1=>aa P (.ld (.c a) 1 false) h1 KH:=by
  rw[mL (esz:=1) (d:=.int .i64 k) (by omega) (by rw[Int.toNat_natCast,tQ,List.getElem?_map,hk];rfl) rfl,Bq rfl]
  exact hK
theorem Ma {l:List Int}{i:Nat}{k:Int}(hk:l[i]?=some k):aa P (.iadd (.c (.sl (tQ l))) (.c (.int .i64 (i:Int))) 1) h KH=KH (.vp (.int .i64 k) 0) h :=
  mL (esz:=1) (d:=.int .i64 k) (by omega) (by rw[Int.toNat_natCast,tQ,List.getElem?_map,hk];rfl) rfl
theorem MR {k:Int}:aa P (.ld (.c (.vp (.int .i64 k) 0)) 1 false) h KH=KH (.int .i64 k) h:=Bq rfl
theorem DX {l:List Int}:bQ (.sl (tQ l)) h K=K (.int .i64 (l.length:Int)):=by rw[oT,DW]
end
theorem DV {l:List Int}:wy (.sl (tQ l)):=CU
theorem ip (l:List Int) (k:Int):∀d,d∈[.sl (tQ l),.int .i64 k]->d.vd=true/\aH d:=fun d hd=>by simp at hd;rcases hd with rfl|rfl;exact DV.pair;exact aV.pair
theorem Hc {l:List Int}{k:Int}(hl:l.length<=1000000):aO PP bZ [.sl (tQ l),.int .i64 k] (fun r=>∃i:Int,r=.int .i64 i/\(0<=i↔k∈l)):=by
  refine db eM (aq _ _ _) rfl (kz _ _ _) ?_
  unfold gh
  refine⟨fun _ _=>k∉l,fun f h hk=>?_,?_⟩
  · rw[sO];exact⟨-1,rfl,by simp[hk]⟩
  rw[DX]
  unfold eJ
  refine⟨fun m q _=>∃i:Nat,i<=l.length/\m=l.length-i/\q=[.int .i64 (i:Int)]/\k∉l.take i,_,⟨0,by omega,rfl,rfl,by simp⟩,?_⟩
  rintro m f h ⟨i,hi,hm,hq,hn⟩
  simp only[List.cons.injEq,and_true]at hq
  rw[hq,nI]
  by_cases hlt:i<l.length
  · have hb:l[i]?=some l[i]:=List.getElem?_eq_getElem hlt
    generalize l[i]=b at hb
    simp only[show((i:Int)<(l.length:Int))=True from eq_true (by omega),decide_true,↓aF]
    refine Ni hb ?_
    simp only[eg]
    by_cases he:k=b
    · subst he
      simp only[decide_true,↓aF]
      rw[sO]
      exact⟨i,rfl,by simp[List.mem_of_getElem? hb]⟩
    · simp only[show(k=b)=False from eq_false he,decide_false,↓aC]
      rw[oC (by omega) (by omega)]
      simp only[al,true_and]
      refine⟨_,by omega,i+1,by omega,rfl,by simp,?_⟩
      rw[List.take_add_one,hb]
      simp only[Option.toList_some,List.mem_append,List.mem_singleton,not_or]
      exact⟨hn,he⟩
  · have:i=l.length:=by omega
    subst this
    simp only[show((l.length:Int)<(l.length:Int))=False from eq_false (by omega),decide_false,↓aC,al,true_and]
    rwa [List.take_length]at hn
theorem BU {l:List Int}{k:Int}(hl:l.length<=1000000):aO PP aN [.sl (tQ l),.int .i64 k] (· = .bool (decide (k∈l))):=by
  refine db dJ (aq _ _ _) rfl (ja _ _ _) ?_
  unfold eK
  refine fS (Hc hl) (ip l k) ?_
  rintro _ ⟨i,rfl,hi⟩
  rw[FE,ir]
  congr 1
  exact decide_eq_decide.2 hi
def EM (N:Nat) (l:List Int):Prop:=l.Pairwise (· < ·)/\∀b∈l,0<=b/\b<(N:Int)
instance (N:Nat) (l:List Int):Decidable (EM N l):=inferInstanceAs (Decidable (_/\_))
theorem pb {N:Nat}{l:List Int}{i:Nat}{b:Int}(hb:l[i]?=some b):EM N (l.take (i+1))↔EM N (l.take i)/\(0<=b/\b<(N:Int))/\∀j a,j+1=i->l[j]?=some a->a<b:=by
  rw[List.take_add_one,hb]
  simp only[Option.toList_some,EM,List.pairwise_append,List.mem_append,List.mem_singleton,List.pairwise_cons,List.not_mem_nil,false_implies,implies_true,List.Pairwise.nil,and_self,true_and]
  constructor
  · rintro⟨⟨h1,h2⟩,h3⟩
    refine⟨⟨h1,fun x hx=>h3 x (Or.inl hx)⟩,h3 b (Or.inr rfl),fun j a hj ha=>h2 a ?_ b rfl⟩
    rw[List.mem_iff_getElem?]
    exact⟨j,by rw[List.getElem?_take,if_pos (by omega)];exact ha⟩
  · rintro⟨⟨h1,h2⟩,h3,h4⟩
    refine⟨⟨h1,fun a ha x hx=>?_⟩,fun x hx=>?_⟩
    · subst hx
      obtain⟨j,hj⟩:=List.getElem?_of_mem ha
      have hji:j<i:=by
        have:=(List.getElem?_eq_some_iff.1 hj).1
        simp at this;omega
      rw[List.getElem?_take,if_pos hji]at hj
      rcases Nat.lt_or_ge (j+1) i with hlt|hge
      · obtain⟨c,hc⟩:∃c,l[i-1]?=some c:=by
          have:=(List.getElem?_eq_some_iff.1 hb).1
          exact⟨l[i-1]'(by omega),List.getElem?_eq_getElem _⟩
        have h5:=h4 (i-1) c (by omega) hc
        rw[List.pairwise_iff_getElem]at h1
        have hl:=(List.getElem?_eq_some_iff.1 hb).1
        have h6:=h1 j (i-1) (by simp;omega) (by simp;omega) (by omega)
        rw[List.getElem_take,List.getElem_take]at h6
        rw[(List.getElem?_eq_some_iff.1 hj).2,(List.getElem?_eq_some_iff.1 hc).2]at h6
        omega
      · exact h4 j a (by omega) hj
    · rcases hx with hx|hx
      · exact h2 x hx
      · subst hx;exact h3
theorem Gn {N:Nat}{l:List Int}(h:EM N l) (i:Nat):EM N (l.take i):=⟨h.1.sublist (List.take_sublist _ _),fun b hb=>h.2 b (List.mem_of_mem_take hb)⟩
def CE (N:Nat) (l:List Int) (w:Int):Bool:=decide (EM N l)&&decide (w∈l)
theorem BT {c:Code}{l:List Int}{w:Int}(hnb:c.b.length<=1000) (hl:l.length<=1000000):aO PP dn [c.e,.sl (tQ l),.int .i64 w] (· = .bool (CE c.b.length l w)):=by
  refine db lB (aq _ _ _) rfl (ug _ _ _ _) ?_
  unfold pQ
  refine Vs.nil.box c.nT.one fun n4 h5 V=>?_
  refine⟨fun _ h=>h=h5/\EM c.b.length l,?_,?_⟩
  · rintro f _ ⟨rfl,hok⟩
    refine fS (BU hl) (ip l w) ?_
    rintro _ rfl
    rw[ir]
    simp[CE,hok]
  rw[DX]
  unfold ln
  refine⟨fun m q h=>h5=h/\∃i:Nat,i<=l.length/\m=l.length-i/\q=[.int .i64 (i:Int)]/\EM c.b.length (l.take i),_,⟨rfl,0,by omega,rfl,rfl,⟨by simp,by simp⟩⟩,?_⟩
  rintro m f h6 ⟨e6,i,hi,hm,hq,hok⟩
  subst e6
  simp only[List.cons.injEq,and_true]at hq
  rw[hq]
  by_cases hlt:i<l.length
  · have hb:l[i]?=some l[i]:=List.getElem?_eq_getElem hlt
    generalize l[i]=b at hb
    have bad:¬EM c.b.length (l.take (i+1))->lQ (fun x=>x=.bool (CE c.b.length l w)) (.bool false) h5:=fun hn=>by
      rw[ir]
      have:¬EM c.b.length l:=fun h=>hn (Gn h _)
      simp[CE,this]
    rw[Il (by omega),aF]
    refine Ni hb ?_
    by_cases h0:b<0
    · rw[Il h0]
      simp only[↓gS]
      exact bad fun h=>by have:=((pb hb).1 h).2.1;omega
    · rw[Im (by omega)]
      simp only[↓gS,↓V.fa 0 rfl,Nat.zero_add,↓V.q8 0 (j:=7) rfl rfl,oT,List.length_map]
      by_cases h1:(c.b.length:Int)<=b
      · rw[Nr h1]
        simp only[↓gS]
        exact bad fun h=>by have:=((pb hb).1 h).2.1;omega
      · rw[Ns (by omega)]
        simp only[↓gS]
        have nxt:EM c.b.length (l.take (i+1))->∃m,m<l.length-i/\∃i_1:Nat,i_1<=l.length/\m=l.length-i_1/\[D.int .i64 ((i:Int)+1)]=[.int .i64 (i_1:Int)]/\EM c.b.length (l.take i_1):=fun h=>⟨_,by omega,i+1,by omega,rfl,by simp,h⟩
        cases i with
        | zero =>
          rw[NR (by omega)]
          simp only[↓gS]
          rw[oC (by omega) (by omega)]
          simp only[al,true_and]
          subst hm
          exact nxt ((pb hb).2 ⟨hok,⟨by omega,by omega⟩,fun j a hj=>by omega⟩)
        | succ j =>
          obtain⟨a,ha⟩:∃a,l[j]?=some a:=⟨l[j]'(by omega),List.getElem?_eq_getElem _⟩
          rw[NQ (by omega)]
          simp only[↓gS]
          rw[JU (by omega) (by omega)]
          have e1:(((j+1:Nat):Int)-1)=(j:Int):=by omega
          simp only[↓gS,e1,↓Ma ha,↓MR]
          by_cases hab:b<=a
          · rw[Nr hab]
            simp only[↓gS]
            exact bad fun h=>by have:=((pb hb).1 h).2.2 j a rfl ha;omega
          · rw[Ns (by omega)]
            simp only[↓gS]
            rw[oC (by omega) (by omega)]
            simp only[al,true_and]
            subst hm
            exact nxt ((pb hb).2 ⟨hok,⟨by omega,by omega⟩,fun j' a' hj ha'=>by
              have:j'=j:=by omega
              subst this
              rw[ha]at ha';cases ha';omega⟩)
  · have:i=l.length:=by omega
    subst this
    rw[Im (by omega),aC]
    simp only[al,true_and]
    rw[List.take_length]at hok
    exact hok
end Go.Am
namespace Go.Am
open Go Go.Proofs
theorem IL {a:Int}:aO PP cM [.int .i64 a] (· = .bool false):=by
  refine db kK (aq _ _ _) rfl (sD _ _) ?_
  unfold od
  rw[Lo rfl,ir]
theorem Ha {a:Int}:aO PP bD [.int .i64 a] (· = .bool false):=by
  refine db oM (aq _ _ _) rfl (oE _ _) ?_
  unfold ky
  rw[Lo rfl,ir]
theorem i1 (k:Int):∀d,d∈[D.int .i64 k]->d.vd=true/\aH d:=fun d hd=>by simp at hd;subst hd;exact aV.pair
theorem IN {a b:Int}:aO PP dp [.int .i64 a,.int .i64 b] (· = .bool (decide (a<b))):=by
  refine db lG (aq _ _ _) rfl (uj _ _ _) ?_
  unfold pR
  refine fS IL (i1 a) ?_
  rintro _ rfl
  simp only[↓gS,nI]
  rw[ir]
theorem M4 {n:Int}(h1:0<=n) (h2:n<=9223372036854775807):IntKind.u64.wrap n=n:=by
  simp only[IntKind.wrap,IntKind.signed,IntKind.bits]
  first|omega|(simp;omega)
theorem K7 {l:List Int}{k:Int}(hl:l.length<=1000000) (hs:l.Pairwise (· < ·)):aO PP bj [.sl (tQ l),.int .i64 k] (fun r=>∃i:Int,r=.tup [.int .i64 i,.bool (decide (k∈l))]):=by
  refine db cI (aq _ _ _) rfl (gq _ _ _) ?_
  unfold dC
  rw[DX]
  have mono:∀(i j:Nat) (a b:Int),l[i]?=some a->l[j]?=some b->i<j->a<b:=by
    intro i j a b ha hb hij
    rw[List.pairwise_iff_getElem]at hs
    obtain⟨h1,e1⟩:=List.getElem?_eq_some_iff.1 ha
    obtain⟨h2,e2⟩:=List.getElem?_eq_some_iff.1 hb
    have:=hs i j h1 h2 hij
    rw[e1,e2]at this;exact this
  refine⟨fun q _=>∃i:Nat,q=[.int .i64 (i:Int)]/\i<=l.length/\(∀(x:Nat) (a:Int),x<i->l[x]?=some a->a<k)/\(∀(x:Nat) (a:Int),i<=x->l[x]?=some a->k<=a),?_,?_⟩
  · rintro f h ⟨i,hq,hi,hlo,hhi⟩
    simp only[List.cons.injEq,and_true]at hq
    rw[hq]
    have ret:∀b:Bool,b=decide (k∈l)->lQ (fun r=>∃i:Int,r=.tup [.int .i64 i,.bool (decide (k∈l))]) (.tup [.int .i64 (i:Int),.bool b]) h:=fun b hb=>by
      subst hb
      exact Fx (fun d hd=>by simp at hd;rcases hd with rfl|rfl;exact aV.pair;exact GX.pair) ⟨i,rfl⟩
    by_cases hlt:i<l.length
    · have hb:l[i]?=some l[i]:=List.getElem?_eq_getElem hlt
      generalize l[i]=b at hb
      rw[Il (by omega)]
      simp only[↓gS,↓Ma hb,↓MR]
      by_cases he:b=k
      · rw[Mo he]
        simp only[↓gS]
        exact ret _ (by subst he;simp[List.mem_of_getElem? hb])
      · rw[MU he]
        simp only[↓gS,↓Ma hb,↓MR]
        refine fS Ha (i1 b) ?_
        rintro _ rfl
        simp only[↓gS]
        refine ret _ ?_
        symm
        rw[decide_eq_false_iff_not]
        intro hm
        obtain⟨x,hx⟩:=List.getElem?_of_mem hm
        rcases Nat.lt_trichotomy x i with h1|h1|h1
        · have:=hlo x k h1 hx;omega
        · subst h1;rw[hb]at hx;cases hx;exact he rfl
        · have:=mono i x b k hb hx h1
          have:=hhi i b (Nat.le_refl _) hb
          omega
    · rw[Im (by omega)]
      simp only[↓gS]
      refine ret _ ?_
      symm
      rw[decide_eq_false_iff_not]
      intro hm
      obtain⟨x,hx⟩:=List.getElem?_of_mem hm
      have:=(List.getElem?_eq_some_iff.1 hx).1
      have:=hlo x k (by omega) hx;omega
  unfold cE
  refine⟨fun m q _=>∃i j:Nat,i<=j/\j<=l.length/\m=j-i/\q=[.int .i64 (i:Int),.int .i64 (j:Int)]/\(∀(x:Nat) (a:Int),x<i->l[x]?=some a->a<k)/\(∀(x:Nat) (a:Int),j<=x->l[x]?=some a->k<=a),_,
    ⟨0,l.length,by omega,by omega,rfl,rfl,fun x a hx=>by omega,fun x a hx ha=>by have:=(List.getElem?_eq_some_iff.1 ha).1;omega⟩,?_⟩
  rintro m f h ⟨i,j,hij,hj,hm,hq,hlo,hhi⟩
  simp only[List.cons.injEq,and_true]at hq
  obtain⟨q1,q2⟩:=hq
  rw[q1,q2]
  by_cases hlt:i<j
  · rw[Il (by omega),aF,oC (by omega) (by omega),lK,M4 (by omega) (by omega),Jd]
    refine⟨by omega,?_⟩
    have e1:Ao .u64 ((i:Int)+(j:Int)) 1=(((i+j) / 2:Nat):Int):=by
      have:=Kz (i+j) 1 (by omega)
      simpa using this
    rw[e1,lK,wrap64 (by omega) (by omega)]
    have hmid:(i+j) / 2<l.length:=by omega
    have hb:l[(i+j) / 2]?=some l[(i+j) / 2]:=List.getElem?_eq_getElem hmid
    generalize l[(i+j) / 2]=b at hb
    refine Ni hb ?_
    refine fS IN (fun d hd=>by simp at hd;rcases hd with rfl|rfl<;>exact aV.pair) ?_
    rintro _ rfl
    by_cases hbk:b<k
    · simp only[hbk,decide_true,↓aF]
      rw[oC (by omega) (by omega)]
      simp only[al,true_and]
      refine⟨_,?_,(i+j) / 2+1,j,by omega,hj,rfl,by simp,fun x a hx ha=>?_,hhi⟩
      · omega
      · rcases Nat.lt_or_ge x ((i+j) / 2) with h1|h1
        · have:=mono _ _ a b ha hb h1;omega
        · have:x=(i+j) / 2:=by omega
          subst this;rw[hb]at ha;cases ha;exact hbk
    · simp only[hbk,decide_false,↓aC]
      simp only[al,true_and]
      refine⟨_,?_,i,(i+j) / 2,by omega,by omega,rfl,rfl,hlo,fun x a hx ha=>?_⟩
      · omega
      · rcases Nat.lt_or_ge ((i+j) / 2) x with h1|h1
        · have:=mono _ _ b a hb ha h1;omega
        · have:x=(i+j) / 2:=by omega
          subst this;rw[hb]at ha;cases ha;omega
  · have:i=j:=by omega
    subst this
    rw[Im (by omega),aC]
    simp only[al,true_and]
    exact⟨i,rfl,hj,hlo,hhi⟩
def Ll (c:Code) (S l:List Int):Prop:=∀b∈l,∀B,c.b[b.toNat]?=some B->∀t,t∈bt B.t->(t:Int)∈(if B.t.kind=3 then S else l)
def Fs (c:Code) (S:List Int) (R:List (List Int)):Prop :=
  CE c.b.length S 0=true/\R.length=S.length/\∀(j:Nat) (l:List Int) (s:Int),R[j]?=some l->S[j]?=some s->CE c.b.length l s=true/\Ll c S l
def Km (S:List Int) (R:List (List Int)):D:=.agg [.sl (tQ S),.sl (R.map fun l=>.sl (tQ l))]
theorem Ap {N:Nat}{l:List Int}{w:Int}(h:CE N l w=true):l.Pairwise (· < ·)/\(∀b∈l,0<=b/\b<(N:Int))/\w∈l:=by
  simp only[CE,Bool.and_eq_true,decide_eq_true_eq]at h
  exact⟨h.1.1,h.1.2,h.2⟩
theorem IP {c:Code}{S:List Int}{R:List (List Int)}(hc:jG c) (hS:S.length<=1000000) (hR:R.length<=1000000) (hRl:∀l∈R,l.length<=1000000) :
    aO PP bf [c.e,Km S R] (fun r=>∃e:Int,r=.int .i64 e/\(e=0\/e=100)/\(e=0↔Fs c S R)):=by
  have hnb:=hc.nb
  have dph:wy (Km S R):=eW (by simp)
  have bad:∀h:Heap,¬Fs c S R->lQ (fun r=>∃e:Int,r=.int .i64 e/\(e=0\/e=100)/\(e=0↔Fs c S R)) (.int .i64 100) h:=fun h hn=>by
    rw[sO]
    exact⟨100,rfl,Or.inr rfl,by simp[hn]⟩
  refine db mH (aq _ _ _) rfl (vk _ _ _) ?_
  unfold rE
  refine Vs.nil.box c.nT.one fun n3 h4 V1=>?_
  refine V1.box dph.one fun n5 h6 V=>?_
  have l3:∀{h:Heap}{K:D->Heap->Prop},Vs h [(n5,.box (Km S R)),(n3,.box c.e)]->aa PP (.ld (.c (.ptr n3 0 0)) 8 true) h K=K c.e h:=fun V=>V.uZ 1 (s:=8) rfl rfl
  have dl3:∀{h:Heap}{K:D->Prop},Vs h [(n5,.box (Km S R)),(n3,.box c.e)]->ae PP (.ld (.c (.ptr n3 0 0)) 8 true) h K=K c.e:=fun V=>V.Nz 1 (s:=8) rfl rfl
  have l50:∀{K:D->Heap->Prop},aa PP (.ld (.c (.ptr n5 0 0)) 1 false) h6 K=K (.sl (tQ S)) h6:=fun {K}=>V.q8 0 (j:=0) rfl rfl
  have l51:∀{K:D->Heap->Prop},aa PP (.ld (.c (.ptr n5 0 1)) 1 false) h6 K=K (.sl (R.map fun l=>.sl (tQ l))) h6:=fun {K}=>V.q8 0 (j:=1) rfl rfl
  have dli:∀(l:List Int) (s:Int),∀d,d∈[c.e,.sl (tQ l),.int .i64 s]->d.vd=true/\aH d:=fun l s d hd=>by simp at hd;rcases hd with rfl|rfl|rfl;exact c.nT.pair;exact DV.pair;exact aV.pair
  simp only[↓l3 V,↓V.fa 0 rfl,Nat.zero_add,↓l50]
  refine fS (BT (by omega) hS) (dli S 0) ?_
  rintro _ rfl
  cases hS0:CE c.b.length S 0
  · simp only[↓gS]
    exact bad _ fun h=>by rw[h.1]at hS0;cases hS0
  simp only[↓gS,↓V.fa 0 rfl,Nat.zero_add,↓l50,↓l51,oT,List.length_map,DW]
  by_cases hlen:R.length=S.length
  case neg =>
    rw[NN (by omega)]
    simp only[↓gS]
    exact bad _ fun h=>hlen h.2.1
  rw[Lo (by omega)]
  simp only[↓gS]
  refine⟨fun _ h=>h6=h/\Fs c S R,?_,?_⟩
  · rintro f h ⟨e6,hk⟩
    rw[sO]
    exact⟨0,rfl,Or.inl rfl,by simp[hk]⟩
  try simp only[↓V.fa 0 rfl,Nat.zero_add,↓l51,oT,List.length_map]
  have idR:∀{KH:D->Heap->Prop}{i:Nat}{l:List Int},R[i]?=some l->aa PP (.iadd (.c (.sl (R.map fun l=>.sl (tQ l)))) (.c (.int .i64 (i:Int))) 1) h6 KH=KH (.vp (.sl (tQ l)) 0) h6:=fun hi =>
    mL (esz:=1) (by omega) (by rw[Int.toNat_natCast,List.getElem?_map,hi];rfl) rfl
  unfold mw
  refine⟨fun m q h=>h6=h/\∃i:Nat,i<=R.length/\m=R.length-i/\q=[.int .i64 (i:Int)]/\∀(j:Nat) (l:List Int) (s:Int),j<i->R[j]?=some l->S[j]?=some s->CE c.b.length l s=true/\Ll c S l,_,
    ⟨rfl,0,by omega,rfl,rfl,fun j l s hj=>by omega⟩,?_⟩
  rintro m f h ⟨e6,i,hi,hm,hq,hok⟩
  subst e6
  simp only[List.cons.injEq,and_true]at hq
  rw[hq]
  by_cases hlt:i<R.length
  case neg =>
    have:i=R.length:=by omega
    subst this
    rw[Im (by omega),aC]
    simp only[al,true_and]
    exact⟨hS0,hlen,fun j l s h1 h2=>hok j l s (List.getElem?_eq_some_iff.1 h1).1 h1 h2⟩
  rw[Il (by omega),aF]
  obtain⟨l,hl⟩:∃l,R[i]?=some l:=⟨R[i],List.getElem?_eq_getElem hlt⟩
  obtain⟨s,hs⟩:∃s,S[i]?=some s:=⟨S[i]'(by omega),List.getElem?_eq_getElem _⟩
  have hll:=hRl l (List.mem_of_getElem? hl)
  have no:(CE c.b.length l s=true->¬Ll c S l)->¬Fs c S R:=fun hn h=>by
    obtain⟨h1,h2⟩:=h.2.2 i l s hl hs
    exact hn h1 h2
  refine⟨fun _ h=>h6=h/\CE c.b.length l s=true/\Ll c S l,?_,?_⟩
  · rintro f2 h2 ⟨e2,hok2⟩
    rw[oC (by omega) (by omega)]
    simp only[al,true_and]
    refine⟨_,by omega,e2,i+1,by omega,rfl,by simp,fun j l' s' hj h1 h2=>?_⟩
    rcases Nat.lt_or_ge j i with hlt'|hge
    · exact hok j l' s' hlt' h1 h2
    · have:j=i:=by omega
      subst this
      rw[hl]at h1;rw[hs]at h2
      cases h1;cases h2
      exact hok2
  have lv1:∀{KH:D->Heap->Prop},aa PP (.ld (.c (.vp (.sl (tQ l)) 0)) 1 false) h6 KH=KH (.sl (tQ l)) h6:=fun {KH}=>Bq rfl
  have dS:∀{K:D->Prop},ae PP (.ld (.c (.ptr n5 0 0)) 1 false) h6 K=K (.sl (tQ S)):=fun {K}=>V.vc 0 (j:=0) rfl rfl
  have ds:∀{K:D->Prop},ae PP (.iadd (.c (.sl (tQ S))) (.c (.int .i64 (i:Int))) 1) h6 K=K (.vp (.int .i64 s) 0):=fun {K}=>by rw[ku,Ma hs]
  have dsl:∀{K:D->Prop},ae PP (.ld (.c (.vp (.int .i64 s) 0)) 1 false) h6 K=K (.int .i64 s):=fun {K}=>Jz rfl
  simp only[↓idR hl,↓lv1,↓dl3 V,↓V.qm 0 rfl,Nat.zero_add,↓dS,↓ds,↓dsl]
  refine GZ (BT (by omega) hll) (dli l s) ?_
  cases hls:CE c.b.length l s
  · simp only[↓gS]
    exact bad _ (no fun h=>by rw[hls]at h;cases h)
  simp only[↓gS,DX]
  obtain⟨linc,lrng,-⟩:=Ap hls
  obtain⟨Sinc,Srng,-⟩:=Ap hS0
  unfold my
  refine⟨fun m q h=>h6=h/\∃k:Nat,k<=l.length/\m=l.length-k/\q=[.int .i64 (k:Int)]/\∀(x:Nat) (b:Int),x<k->l[x]?=some b->∀B,c.b[b.toNat]?=some B->∀t,t∈bt B.t->(t:Int)∈(if B.t.kind=3 then S else l),_,
    ⟨rfl,0,by omega,rfl,rfl,fun x b hx=>by omega⟩,?_⟩
  rintro m2 f2 h2 ⟨e2,k,hk,hm2,hq2,hok2⟩
  subst e2
  simp only[List.cons.injEq,and_true]at hq2
  rw[hq2]
  by_cases hlt2:k<l.length
  case neg =>
    have:k=l.length:=by omega
    subst this
    rw[Im (by omega),aC]
    simp only[al,true_and]
    refine fun b hb B hB t ht=>?_
    obtain⟨x,hx⟩:=List.getElem?_of_mem hb
    exact hok2 x b (List.getElem?_eq_some_iff.1 hx).1 hx B hB t ht
  rw[Il (by omega),aF]
  obtain⟨b,hb⟩:∃b,l[k]?=some b:=⟨l[k],List.getElem?_eq_getElem hlt2⟩
  obtain⟨b0,b1⟩:=lrng b (List.mem_of_getElem? hb)
  obtain⟨B,hB⟩:∃B,c.b[b.toNat]?=some B:=⟨c.b[b.toNat]'(by omega),List.getElem?_eq_getElem _⟩
  have hTB:=hc.t B (List.mem_of_getElem? hB)
  have eb:b=((b.toNat:Nat):Int):=by omega
  refine⟨fun _ h=>h6=h/\∀t,t∈bt B.t->(t:Int)∈(if B.t.kind=3 then S else l),?_,?_⟩
  · rintro f3 h3 ⟨e3,hok3⟩
    rw[oC (by omega) (by omega)]
    simp only[al,true_and]
    refine⟨_,by omega,e3,k+1,by omega,rfl,by simp,fun x b' hx h1 B' hB' t ht=>?_⟩
    rcases Nat.lt_or_ge x k with hlt'|hge
    · exact hok2 x b' hlt' h1 B' hB' t ht
    · have:x=k:=by omega
      subst this
      rw[hb]at h1;cases h1
      rw[hB]at hB';cases hB'
      exact hok3 t ht
  have idb:∀{KH:D->Heap->Prop},aa PP (.iadd (.c (.sl (c.b.map Block.e))) (.c (.int .i64 b)) 14) h6 KH=KH (.vp B.e 0) h6:=fun {KH}=>by rw[eb];exact MA hB
  simp only[↓Ma hb,↓MR]
  refine⟨fun q h=>h6=h/\q=[.sl (tQ (if B.t.kind=3 then S else l))],?_,?_⟩
  · rintro f3 h3 ⟨e3,hq3⟩
    subst e3
    simp only[List.cons.injEq,and_true]at hq3
    simp only[hq3,↓V.fa 1 rfl,Nat.zero_add,↓V.q8 1 (j:=7) rfl rfl,↓idb,↓Nw,↓Mz]
    refine fS (Hb hTB) (fun d hd=>by simp at hd;subst hd;exact B.t.nT.pair) ?_
    rintro _ rfl
    rw[vW]
    have hEl:(bt B.t).length<=2:=by unfold bt;split<;>(try split)<;>simp
    have winc:(if B.t.kind=3 then S else l).Pairwise (· < ·):=by split;exact Sinc;exact linc
    have wlen:(if B.t.kind=3 then S else l).length<=1000000:=by split;exact hS;exact hll
    have hcl:∀t,t∈bt B.t->(t:Int)∉(if B.t.kind=3 then S else l)->¬Fs c S R:=fun t ht hn=>no fun _ hcl=>hn (hcl b (List.mem_of_getElem? hb) B hB t ht)
    generalize (if B.t.kind=3 then S else l)=w at winc wlen hcl hq3 ⊢
    unfold mz
    refine⟨fun m q h=>h6=h/\∃y:Nat,y<=(bt B.t).length/\m=(bt B.t).length-y/\q=[.int .i64 (y:Int)]/\∀(x t:Nat),x<y->(bt B.t)[x]?=some t->(t:Int)∈w,_,
      ⟨rfl,0,by omega,rfl,rfl,fun x t hx=>by omega⟩,?_⟩
    rintro m4 f4 h4 ⟨e4,y,hy,hm4,hq4,hok4⟩
    subst e4
    simp only[List.cons.injEq,and_true]at hq4
    rw[hq4]
    by_cases hlt4:y<(bt B.t).length
    · rw[Il (by omega),aF]
      obtain⟨t,ht⟩:∃t,(bt B.t)[y]?=some t:=⟨(bt B.t)[y],List.getElem?_eq_getElem hlt4⟩
      refine Lp ht ?_
      simp only[hq3]
      refine fS (K7 wlen winc) (ip w (t:Int)) ?_
      rintro _ ⟨i',rfl⟩
      by_cases hmem:(t:Int)∈w
      · simp only[hmem,decide_true,↓gS]
        rw[oC (by omega) (by omega)]
        simp only[al,true_and]
        refine⟨_,by omega,y+1,by omega,rfl,by simp,fun x t' hx h1=>?_⟩
        rcases Nat.lt_or_ge x y with hlt'|hge
        · exact hok4 x t' hlt' h1
        · have:x=y:=by omega
          subst this
          rw[ht]at h1;cases h1;exact hmem
      · simp only[hmem,decide_false,↓gS]
        exact bad _ (hcl t (List.mem_of_getElem? ht) hmem)
    · have:y=(bt B.t).length:=by omega
      subst this
      rw[Im (by omega),aC]
      simp only[al,true_and]
      intro t ht
      obtain⟨x,hx⟩:=List.getElem?_of_mem ht
      exact hok4 x t (List.getElem?_eq_some_iff.1 hx).1 hx
  · have fv1:∀{KH:D->Heap->Prop},aa PP (.fadd (.c (.vp B.e 1)) 0) h6 KH=KH (.vp B.e 1) h6:=fun {KH}=>rfl
    have lvk:∀{KH:D->Heap->Prop},aa PP (.ld (.c (.vp B.e 1)) 1 false) h6 KH=KH (.int .i64 B.t.kind) h6:=fun {KH}=>L5 rfl
    simp only[↓V.fa 1 rfl,Nat.zero_add,↓V.q8 1 (j:=7) rfl rfl,↓idb,↓Nw,↓fv1,↓lvk,eg]
    by_cases hk3:B.t.kind=3
    · simp only[hk3,decide_true,↓aF,↓V.fa 0 rfl,Nat.zero_add,↓l50,al,true_and,if_true]
    · simp only[hk3,decide_false,↓aC,al,true_and,if_false]
end Go.Am
namespace Go.Am
open Go Go.Proofs
theorem sp (l:List Nat) (k:Nat):∀d,d∈[.sl (aL l),nD k]->d.vd=true/\aH d:=fun d hd=>by simp at hd;rcases hd with rfl|rfl;exact JY.pair;exact aV.pair
theorem Jn {l:List Nat}:∀d,d∈aL l->d.cells.length=1:=fun d hd=>by simp only[aL,List.mem_map]at hd;obtain⟨k,-,rfl⟩:=hd;rfl
theorem xr {l:List Nat}:∀d,d∈aL l->aH d:=fun d hd=>by simp only[aL,List.mem_map]at hd;obtain⟨k,-,rfl⟩:=hd;exact aV.one
theorem pf {l:List Nat}:∀x,x∈aL l->∀y∈x.cells,y.vone=true:=fun x hx y hy=>by
  simp only[aL,List.mem_map]at hx;obtain⟨k,-,rfl⟩:=hx
  simp[nD,D.cells]at hy;subst hy;rfl
end Go.Am
namespace Go.Am
open Go Go.Proofs
theorem QV.two {h:Heap}{L:List (Nat×Slot)}(V:Vs h L){z:D}{j k:Nat}{KH:D->Heap->Prop}(hK:∀v h',QV h' L v [j,k]->KH v h'):aa PP (.bldS true 1 2 z [(0,.c (nD j)),(1,.c (nD k))]) h KH:=by
  refine⟨fun p hp=>?_,fun hf p hp=>?_,fun n t=>?_⟩
  · simp[Arg.get]at hp
    rcases hp with rfl|rfl
    · exact⟨by show 0<2;omega,rfl,aV.one⟩
    · exact⟨by show 1<2;omega,rfl,aV.one⟩
  · simp[Arg.get]at hp
    rcases hp with rfl|rfl<;>(intro x hx;simp[nD,D.cells]at hx;subst hx;trivial)
  · have:KH (.ms n 0 2) (aj h n (.arr 1 [nD j,nD k])):=by
      refine hK _ _ (Or.inr ⟨n,0,[nD j,nD k],rfl,V.push t.free (by simp),by simp,by simp[aL],fun x hx=>by simp at hx;rcases hx with rfl|rfl<;>rfl⟩)
    simpa[Arg.get,setEls,D.fz,D.fzc,D.nm,D.iT,nD,Heap.freezeAll,List.replicate] using this
def LV (h:Heap) (L:List (Nat×Slot)) (v:D) (T:List Nat):Prop:=(v=.sl (aL T)/\Vs h L)\/∃m,v=.ms m 0 T.length/\Vs h ((m,.arr 1 (aL T))::L)
section
variable {h:Heap}{L:List (Nat×Slot)}{v:D}{T:List Nat}{K:D->Prop}{KH:D->Heap->Prop}
theorem LV.vs (q:LV h L v T):Vs h L:=by
  rcases q with⟨-,V⟩|⟨m,-,V⟩
  · exact V
  · exact V.pop
theorem LV.q (q:LV h L v T):(v=.sl (aL T))\/QV h L v T:=by
  rcases q with⟨e,V⟩|⟨m,e,V⟩
  · exact Or.inl e
  · exact Or.inr (Or.inr ⟨m,0,aL T,e,V,by simp[aL],List.take_of_length_le (by simp[aL]),fun x hx=>by simp only[aL,List.mem_map]at hx;obtain⟨k,-,rfl⟩:=hx;rfl⟩)
theorem LV.len (q:LV h L v T):bQ v h K=K (.int .i64 (T.length:Int)):=by
  rcases q.q with e|q
  · rw[e,vW]
  · exact q.len
theorem LV.get (q:LV h L v T){i k:Nat}(hk:T[i]?=some k) (hK:KH (nD k) h):aa PP (.iadd (.c v) (.c (.int .i64 (i:Int))) 1) h fun a h1=>aa PP (.ld (.c a) 1 false) h1 KH:=by
  rcases q.q with e|q
  · rw[e];exact Lp hk hK
  · exact q.get hk hK
theorem LV.GU (q:LV h L v T){i k:Nat}(hk:T[i]?=some k) (hK:K (nD k)):ae PP (.iadd (.c v) (.c (.int .i64 (i:Int))) 1) h fun a=>ae PP (.ld (.c a) 1 false) h K:=by
  rcases q.q with e|q
  · rw[e]
    exact Lp (P:=PP) (h:=h) (KH:=fun d _=>K d) hk hK
  · exact q.GU hk hK
theorem LV.one (V:Vs h L){z:D}{k:Nat}(hK:∀v h',LV h' L v [k]->KH v h'):aa PP (.bldS true 1 1 z [(0,.c (nD k))]) h KH:=by
  refine⟨fun p hp=>by simp[Arg.get]at hp;subst hp;exact⟨Nat.one_pos,rfl,(aV (k:=.i64) (n:=(k:Int))).one⟩,fun hf p hp=>?_,fun n t=>?_⟩
  · simp[Arg.get]at hp;subst hp
    intro x hx
    simp[nD,D.cells]at hx;subst hx;trivial
  · have:KH (.ms n 0 1) (aj h n (.arr 1 [nD k])):=hK _ _ (Or.inr ⟨n,rfl,V.push t.free (by simp)⟩)
    simpa[Arg.get,setEls,D.fz,D.fzc,D.nm,D.iT,nD,Heap.freezeAll] using this
theorem LV.ret (q:LV h L v T) (hk:K (.sl (aL T))):lQ K v h:=by
  rcases q with⟨e,-⟩|⟨m,e,V⟩
  · rw[e,Dr];exact hk
  · have e2:v=.ms m 0 (aL T).length:=by rw[e];simp[aL]
    rw[e2]
    exact zU (esz:=1) (by rw[V.get 0 _ _ rfl];rfl) pf hk
theorem LV.call (q:LV h L v T){f:FuncId}{k:Nat}{r:D}(hv:aO PP f [.sl (aL T),nD k] (· = r)) (hK:∀h',Vs h' L->KH r h') (hF:r.flat=true->LV h L v T->KH r h):af PP f [v,nD k] h KH:=by
  have q0:=q
  rcases q with⟨e,V⟩|⟨m,e,V⟩
  · rw[e]
    refine fS hv (sp T k) ?_
    rintro _ rfl
    exact hK _ V
  · have e2:v=.ms m 0 (aL T).length:=by rw[e];simp[aL]
    rw[e2]
    have hn:=V.get 0 _ _ rfl
    have hrow:(h m).row=some (1,aL T):=by rw[hn];rfl
    have e0:(D.ms m 0 (aL T).length).fz h=.sl (aL T):=by simp[D.fz,D.fzc,hrow]
    have e1:[D.ms m 0 (aL T).length,nD k].map (D.fz h)=[.sl (aL T),nD k]:=by rw[List.map_cons,e0];rfl
    have e2':[D.ms m 0 (aL T).length,nD k].flatMap D.nm=[m]:=rfl
    refine af.mono ?_ (dB (K:=(· = r)) (by rw[e1];exact hv) (fun d hdm=>?_))
    · rintro r' h' ⟨hr',k2,k3⟩
      rw[hr']at k2 k3 ⊢
      by_cases hfl:r.flat=true
      · rw[k2 (Or.inl hfl)]
        exact hF hfl q0
      · rw[k3 (by rw[e2'];simp[hfl]),e2']
        have:h.freezeAll [m]=aj h m (.frz 1 (aL T)):=by simp[Heap.freezeAll,Heap.freeze,hn]
        rw[this]
        exact hK _ ((V.cc 0 rfl (s':=.frz 1 (aL T)) (by simp)).pop)
    · simp only[List.mem_cons,List.not_mem_nil,or_false]at hdm
      rcases hdm with rfl|rfl
      · refine⟨by simp,?_,by rw[e0];rfl⟩
        intro x hx
        simp only[D.cells,List.mem_singleton]at hx
        subst hx
        exact⟨1,aL T,hrow,by simp,fun x hx y hy=>pf x (by simpa using hx) y hy⟩
      · exact⟨aV.one,(xA (h:=h) (d:=nD k) rfl).2.2,rfl⟩
end
structure FI (c:Code) (s:Nat) (T:List Nat):Prop where
  inc:T.Pairwise (· < ·)
  st:s∈T
  pa:∀k∈T,Path (wS c) s k
theorem FI.lt {c:Code}{s:Nat}{T:List Nat}(hc:jG c) (hs:s<c.b.length) (f:FI c s T):T.length<=c.b.length/\∀k∈T,k<c.b.length:=by
  have h:∀k∈T,k<c.b.length:=fun k hk=>ti hc hs (f.pa k hk)
  exact⟨l8 h (f.inc.imp fun hab=>Nat.ne_of_lt hab),h⟩
end Go.Am
namespace Go.Am
open Go Go.Proofs
structure RI (c:Code) (S:List Bool):Prop where
  len:S.length=c.b.length
  z:hasB S 0=true
  pa:∀k,hasB S k=true->Path (edg c) 0 k
end Go.Am
namespace Go.Am
open Go Go.Proofs
def LX (v:D) (T:List Nat) (X:List (Nat×Slot)):Prop:=(v=.sl (aL T)/\X=[])\/∃m,v=.ms m 0 T.length/\X=[(m,.arr 1 (aL T))]
section
variable {h:Heap}{L X:List (Nat×Slot)}{v w:D}{T:List Nat}{R:List (List Nat)}
theorem LX.lv (x:LX v T X) (V:Vs h (L++X)):LV h L v T:=by
  rcases x with⟨e,rfl⟩|⟨m,e,rfl⟩
  · exact Or.inl ⟨e,by simp at V;exact V⟩
  · exact Or.inr ⟨m,e,V.perm (by simpa using List.perm_append_comm (l₁:=L) (l₂:=[(m,Slot.arr 1 (aL T))]))⟩
theorem LX.one (x:LX v T X):v.one=true/\v.cells=[v]:=by
  rcases x with⟨rfl,-⟩|⟨m,rfl,-⟩<;>exact⟨rfl,rfl⟩
theorem QD.one (q:QD h L w (R.map fun l=>.sl (aL l))):w.one=true/\w.cells=[w]:=by
  rcases q with⟨rfl,-,-⟩|⟨m,rfl,-⟩<;>exact⟨rfl,rfl⟩
theorem Kf {K:D->Prop}(x:LX v T X) (q:QD h (L++X) w (R.map fun l=>.sl (aL l))) (hR:R≠[]) (hK:K (.agg [.sl (aL T),.sl (R.map fun l=>.sl (aL l))])):lQ K (.agg [v,w]) h:=by
  rcases q with⟨rfl,hnil,-⟩|⟨m,rfl,V⟩
  · exact absurd (by simpa using hnil) hR
  have hrow:(h m).row=some (1,R.map fun l=>.sl (aL l)):=by rw[V.get 0 _ _ rfl];rfl
  have tk:(R.map fun l=>D.sl (aL l)).take (R.map fun l=>D.sl (aL l)).length=R.map fun l=>D.sl (aL l):=List.take_length
  have okR:kE h (.ms m 0 (R.map fun l=>D.sl (aL l)).length):=⟨1,_,hrow,by omega,fun x hx y hy=>by
    have hx':x∈R.map fun l=>D.sl (aL l):=List.mem_of_mem_drop (List.mem_of_mem_take hx)
    simp only[List.mem_map]at hx'
    obtain⟨s,-,rfl⟩:=hx'
    simp[D.cells]at hy;subst hy;rfl⟩
  rcases x with⟨rfl,rfl⟩|⟨n,rfl,rfl⟩
  · have ez:(D.agg [.sl (aL T),.ms m 0 (R.map fun l=>D.sl (aL l)).length]).fzt h=.agg [.sl (aL T),.sl (R.map fun l=>.sl (aL l))]:=by
      simp only[D.fzt,D.fz,D.fzc,hrow,List.map_cons,List.map_nil,List.drop_zero,tk]
    refine⟨fun x hx=>by simp[D.cells]at hx;rcases hx with rfl|rfl<;>rfl,?_,by rw[ez];rfl,by rw[ez];exact hK⟩
    intro x hx
    simp only[D.cells,List.mem_cons,List.not_mem_nil,or_false]at hx
    rcases hx with rfl|rfl
    · trivial
    · exact okR
  · have hrn:(h n).row=some (1,aL T):=by
      have:=V.get (L.length+1) n (.arr 1 (aL T)) (by simp)
      rw[this];rfl
    have en:(aL T).length=T.length:=by simp[aL]
    have tkn:(aL T).take T.length=aL T:=by rw[<- en,List.take_length]
    have ez:(D.agg [.ms n 0 T.length,.ms m 0 (R.map fun l=>D.sl (aL l)).length]).fzt h=.agg [.sl (aL T),.sl (R.map fun l=>.sl (aL l))]:=by
      simp only[D.fzt,D.fz,D.fzc,hrow,hrn,List.map_cons,List.map_nil,List.drop_zero,tk,tkn]
    refine⟨fun x hx=>by simp[D.cells]at hx;rcases hx with rfl|rfl<;>rfl,?_,by rw[ez];rfl,by rw[ez];exact hK⟩
    intro x hx
    simp only[D.cells,List.mem_cons,List.not_mem_nil,or_false]at hx
    rcases hx with rfl|rfl
    · exact⟨1,_,hrn,by omega,fun x hx y hy=>pf x (List.mem_of_mem_drop (List.mem_of_mem_take hx)) y hy⟩
    · exact okR
end
theorem MD {v:D}{h:Heap}{KH:D->Heap->Prop}(hv:v.one=true/\v.cells=[v]) (hK:KH (.agg [v,.nil]) h):aa PP (.bld [.nil,.nil] [(0,1,(.c v))]) h KH:=by
  rw[nR]
  refine⟨fun p hp=>?_,?_⟩
  · simp[Arg.get]at hp
    subst hp
    exact⟨by rw[hv.2];rfl,by show 0+1<=2;omega,fun d hd=>by rw[hv.2]at hd;simp at hd;subst hd;exact hv.1⟩
  · have:(fillD [D.nil,.nil] ([(0,1,Arg.c v)].map fun p=>(p.1,p.2.1,(p.2.2.get []).cells)))=[v,.nil]:=by
      simp[fillD,Arg.get,hv.2]
    rw[this]
    exact hK
def MI (v w:D) (n17 n4 n2:Nat) (c:Code):List (Nat×Slot):=[(n17,.box (.agg [v,w])),(n4,.box (.agg [.nil,.nil])),(n2,.box c.e)]
theorem MI.put {c:Code}{h:Heap}{v w:D}{n17 n4 n2:Nat}{X:List (Nat×Slot)}{R:List (List Nat)}{w':D}{KH:D->Heap->Prop}(q:QD h (MI v w n17 n4 n2 c++X) w' (R.map fun l=>.sl (aL l)))
    (hK:∀h',QD h' (MI v w' n17 n4 n2 c++X) w' (R.map fun l=>.sl (aL l))->KH .undef h'):aa PP (.st (.c (.ptr n17 0 1)) (.c w') 1) h KH:=by
  have V:=q.vs
  have hv1:=q.one
  rw[jS,V.get 0 _ _ rfl]
  refine⟨by rw[hv1.2];rfl,fun x hx=>by rw[hv1.2]at hx;simp at hx;subst hx;exact hv1.1,rfl,by simp,?_⟩
  have e:setCells (.agg [v,w]) 1 w'.cells=.agg [v,w']:=by rw[hv1.2];rfl
  rw[e]
  exact hK _ (q.cc 0 (s':=.box (.agg [v,w'])) rfl (by simp))
theorem MI.out {c:Code}{h:Heap}{v w:D}{n17 n4 n2:Nat}{T:List Nat}{X:List (Nat×Slot)}{R:List (List Nat)}{K:D->Prop}(x:LX v T X) (q:QD h (MI v w n17 n4 n2 c++X) w (R.map fun l=>.sl (aL l))) (hR:R≠[])
    (hK:K (.agg [.sl (aL T),.sl (R.map fun l=>.sl (aL l))])) :
    aa PP (.ld (.c (.ptr n17 0 0)) 2 true) h fun a24 h25=>aa PP (.st (.c (.ptr n4 0 0)) (.c a24) 2) h25 fun a26 h27=>aa PP (.ld (.c (.ptr n4 0 0)) 2 true) h27 fun a28 _=>lQ K a28 h27:=by
  have V:=q.vs
  have h1:=x.one.1
  have h2:=q.one.1
  rw[V.uZ 0 (s:=2) rfl rfl,jS,V.get 1 _ _ rfl]
  refine⟨rfl,fun y hy=>by simp[D.cells]at hy;rcases hy with rfl|rfl;exact h1;exact h2,rfl,by simp,?_⟩
  have e:setCells (.agg [.nil,.nil]) 0 (D.agg [v,w]).cells=.agg [v,w]:=rfl
  rw[e]
  have q6:=q.cc 1 (s':=.box (.agg [v,w])) rfl (by simp)
  generalize aj h n4 (.box (.agg [v,w]))=h6 at q6
  rw[q6.vs.uZ 1 (s:=2) rfl rfl]
  exact Kf (L:=[(n17,.box (.agg [v,w])),(n4,.box (.agg [v,w])),(n2,.box c.e)]) x q6 hR hK
theorem G0 {P:Program}{h:Heap}{K:D->Prop}{fz:Bool}{esz:Nat}{z d:D}(h1:∀y∈d.cells,y.vone=true) (h2:aH d) (h3:d.cells.length=esz) (hz:∀y∈z.cells,y.vone=true) (hK:K (.sl [d])):ae P (.bldS fz esz 1 z [(0,.c d)]) h K:=by
  refine⟨fun p hp=>?_,fun p hp=>?_,hz,by simpa[setEls,Arg.get] using hK⟩
  · simp[Arg.get]at hp;subst hp;exact⟨Nat.one_pos,h3,h2⟩
  · simp[Arg.get]at hp;subst hp;exact h1
theorem HU (c:Code):Ge c=.agg [.sl (aL (bu c)),.sl (((bu c).map (rl c)).map fun l=>.sl (aL l))]:=by rw[Ge,List.map_map];rfl
end Go.Am
namespace Go.Am
open Go Go.Proofs
def RX (w:D) (R:List D) (X:List (Nat×Slot)):Prop:=(w=.nil/\R=[]/\X=[])\/∃m,w=.ms m 0 R.length/\X=[(m,.arr 1 R)]
section
variable {h:Heap}{L X:List (Nat×Slot)}{w:D}{R:List D}
end
structure BL (c:Code) (T:List Nat):Prop where
  inc:T.Pairwise (· < ·)
  lt:∀k∈T,k<c.b.length
theorem BL.len {c:Code}{T:List Nat}(b:BL c T):T.length<=c.b.length:=l8 b.lt (b.inc.imp fun hab=>Nat.ne_of_lt hab)
def N4 (c:Code) (T l:List Nat):Prop:=∀a∈l,∀t,t∈kP c a->t∈T
structure N5 (c:Code) (T:List Nat):Prop where
  bl:BL c T
  st:∀k,St c k->k∈T
  cl:∀s∈T,N4 c T (rl c s)
end Go.Am
namespace Go.Am
open Go Go.Proofs
def jr (w:Int) (p:List Bool×List Nat) (b:Nat):List Bool×List Nat:=if !hasB p.1 b&&decide ((b:Int)≠w) then(p.1.set b true,p.2++[b]) else p
def frRun (E:List (List Nat)) (w:Int):Nat->List Bool->List Nat->List Bool
  | 0,S,_=>S
  | _+1,S,[]=>S
  | n+1,S,a::T=>frRun E w n (((E[a]?).getD []).foldl (jr w) (S,T)).1 (((E[a]?).getD []).foldl (jr w) (S,T)).2
def rf (E:List (List Nat)) (s:Nat) (w:Int):List Bool :=
  if(s:Int)=w then List.replicate E.length false else frRun E w (3*E.length+3) ((List.replicate E.length false).set s true) [s]
def NS (E:List (List Nat)):D:=.sl (E.map fun l=>.sl (aL l))
theorem E0 {E:List (List Nat)}{w:Int}{n:Nat}{S:List Bool}:frRun E w n S []=S:=by cases n<;>rfl
theorem K6 {E:List (List Nat)}{s:Nat}{w:Int}(hN:E.length<=1000) (hE:∀l∈E,∀b∈l,b<E.length) (hs:s<E.length) (hEl:∀l∈E,l.length<=1000) :
    aO PP cR [NS E,nD s,.int .i64 w] (· = .sl (bL (rf E s w))):=by
  refine db w9 (aq _ _ _) rfl (wV _ _ _ _) ?_
  unfold uc NS
  rw[oT,List.length_map]
  refine Vs.nil.NZ (by omega) (by omega) fun n5 h6 V1=>?_
  rw[show List.replicate E.length (D.bool false)=bL (List.replicate E.length false) by simp[bL]]at V1
  have ret:∀(h:Heap) (S:List Bool),S.length=E.length->Vs h [(n5,.arr 1 (bL S))]->S=rf E s w->lQ (· = .sl (bL (rf E s w))) (.ms n5 0 E.length) h:=fun h S hS V he=>by
    have hl:D.ms n5 0 E.length=.ms n5 0 (bL S).length:=by simp[bL,hS]
    rw[hl]
    refine zU (esz:=1) (by rw[V.get 0 _ _ rfl];rfl) (fun x hx y hy=>?_) (by rw[he])
    simp only[bL,List.mem_map]at hx
    obtain⟨b,-,rfl⟩:=hx
    simp[D.cells]at hy;subst hy;rfl
  simp only[nD,eg]
  by_cases hw:(s:Int)=w
  · simp only[hw,decide_true,↓aF]
    exact ret _ _ (by simp) V1 (by unfold rf;rw[if_pos hw])
  simp only[hw,decide_false,↓aC]
  rw[V1.ia 0 rfl (by omega) (by omega),Int.toNat_natCast]
  refine V1.MM 0 rfl (by simp[bL];exact hs) rfl (Hj _) fun h11 V2=>?_
  rw[Hi]at V2
  replace V2:Vs h11 [(n5,.arr 1 (bL ((List.replicate E.length false).set s true)))]:=V2
  refine QV.one (k:=s) V2 fun v h13 q0=>?_
  refine⟨fun _ h=>∃S:List Bool,S.length=E.length/\Vs h [(n5,.arr 1 (bL S))]/\S=rf E s w,fun f h ⟨S,hS,V,he⟩=>ret h S hS V he,?_⟩
  unfold nV
  refine⟨fun m l h=>∃(S:List Bool) (T:List Nat) (v:D),l=[v]/\S.length=E.length/\(∀k∈T,k<E.length)/\QV h [(n5,.arr 1 (bL S))] v T/\frRun E w m S T=rf E s w/\2*zm (hasB S) E.length+T.length<=m/\m<=3*E.length+3,3*E.length+3,
    ⟨_,[s],v,rfl,by simp,fun k hk=>by simp at hk;omega,q0,by unfold rf;rw[if_neg hw],by have:=Cs (hasB ((List.replicate E.length false).set s true)) E.length;simp only[List.length_singleton];omega,by omega⟩,?_⟩
  rintro m f h1 ⟨S,T,v,hl,hS,hT,q,hR,hm,hmb⟩
  simp only[List.cons.injEq,and_true]at hl
  simp only[hl,q.len,qS]
  cases T with
  | nil =>
    simp only[List.length_nil,show((0:Nat):Int)=0 from rfl,Int.lt_irrefl,decide_false,↓aC,al,true_and]
    exact⟨S,hS,q.vs,by rw[<- hR,E0]⟩
  | cons a T' =>
    cases m with
    | zero=>simp at hm
    | succ m =>
    have haN:=hT a (by simp)
    have hEa:E[a]?=some E[a]:=List.getElem?_eq_getElem haN
    have hEm:=List.mem_of_getElem? hEa
    rw[frRun,hEa]at hR
    simp only[Option.getD_some]at hR
    generalize E[a]=es at hEa hEm hR
    simp only[show((0:Int)<((a::T').length:Int))=True from eq_true (by simp only[List.length_cons];omega),decide_true,↓aF]
    refine q.get (i:=0) (k:=a) rfl ?_
    refine q.kN (lo:=some 1) (hi:=none) (a:=1) (b:=(a::T').length) rfl rfl (by simp) (Nat.le_refl _) (by simp) fun v' q'=>?_
    have e1:((a::T').drop 1).take ((a::T').length-1)=T':=by simp
    rw[e1]at q'
    have ide:∀{h:Heap}{KH:D->Heap->Prop},aa PP (.iadd (.c (.sl (E.map fun l=>.sl (aL l)))) (.c (nD a)) 1) h KH=KH (.vp (.sl (aL es)) 0) h:=fun {h KH}=>mL (by omega) (by rw[Int.toNat_natCast,List.getElem?_map,hEa];rfl) rfl
    unfold nW
    refine⟨fun k l h=>∃(i:Nat) (S:List Bool) (T:List Nat) (v:D),l=[v,.int .i64 (i:Int)]/\i<=es.length/\k=es.length-i/\S.length=E.length/\(∀k∈T,k<E.length)/\QV h [(n5,.arr 1 (bL S))] v T /\
      frRun E w m ((es.drop i).foldl (jr w) (S,T)).1 ((es.drop i).foldl (jr w) (S,T)).2=rf E s w/\2*zm (hasB S) E.length+T.length<=m,_,
      ⟨0,S,T',v',rfl,by omega,rfl,hS,fun k hk=>hT k (by simp[hk]),q',hR,by simp only[List.length_cons]at hm;omega⟩,?_⟩
    clear hR hm q' q hS hT hl
    rintro k f2 h2 ⟨i,S,T,v,hl2,hi,hk,hS,hT,q,hR,hm⟩
    simp only[List.cons.injEq,and_true]at hl2
    obtain⟨e8,e10⟩:=hl2
    have hel:=hEl es hEm
    simp only[e8,e10,↓ide,↓Bq (d:=.sl (aL es)) rfl,vW,nI]
    by_cases hlt:i<es.length
    · have hb:es[i]?=some es[i]:=List.getElem?_eq_getElem hlt
      have hdrop:es.drop i=es[i]::es.drop (i+1):=List.drop_eq_getElem_cons hlt
      rw[hdrop,List.foldl_cons]at hR
      generalize es[i]=b at hb hR
      have hbN:b<E.length:=hE es hEm b (List.mem_of_getElem? hb)
      simp only[show((i:Int)<(es.length:Int))=True from eq_true (by omega),decide_true,↓aF]
      refine⟨fun l h=>∃(S:List Bool) (T:List Nat) (v:D),l=[v]/\S.length=E.length/\(∀k∈T,k<E.length)/\QV h [(n5,.arr 1 (bL S))] v T /\
        frRun E w m ((es.drop (i+1)).foldl (jr w) (S,T)).1 ((es.drop (i+1)).foldl (jr w) (S,T)).2=rf E s w/\2*zm (hasB S) E.length+T.length<=m,?_,?_⟩
      · rintro f3 h3 ⟨S,T,v,hl3,g1,g2,g3,g4,g5⟩
        simp only[List.cons.injEq,and_true]at hl3
        rw[hl3,oC (by omega) (by omega)]
        simp only[al,true_and]
        exact⟨_,by omega,i+1,S,T,v,by simp,by omega,rfl,g1,g2,g3,g4,g5⟩
      have V:=q.vs
      simp only[↓ide,↓Bq (d:=.sl (aL es)) rfl]
      refine Lp hb ?_
      simp only[nD,↓V.ia 0 rfl (show(0:Int)<=(b:Int) by omega) (show(b:Int)<(E.length:Nat) by omega),Int.toNat_natCast,↓V.Nh 0 rfl (Hk (BA (S:=S) (k:=b) (by omega))) rfl]
      cases hbS:hasB S b
      · by_cases hbw:(b:Int)=w
        · have hst:jr w (S,T) b=(S,T):=by unfold jr;rw[if_neg (by simp[hbw])]
          rw[hst]at hR
          rw[H8]
          simp only[↓gS,Dv,hbw,decide_true,Bool.not_true,al,true_and]
          exact⟨S,T,v,rfl,hS,hT,q,hR,hm⟩
        · have hst:jr w (S,T) b=(S.set b true,T++[b]):=by unfold jr;rw[if_pos (by simp[hbS,hbw])]
          rw[hst]at hR
          rw[H8]
          simp only[↓gS,Dv,hbw,decide_false,Bool.not_false]
          simp only[↓gS,↓V.ia 0 rfl (show(0:Int)<=(b:Int) by omega) (show(b:Int)<(E.length:Nat) by omega),Int.toNat_natCast]
          have hun:zm (hasB (S.set b true)) E.length+1<=zm (hasB S) E.length:=xl (x:=b) (fun k hk=>by rw[Bz (by omega),hk];simp) hbN hbS (by rw[Bz (by omega)];simp)
          refine q.MM 0 rfl (by simp[bL];omega) rfl (Hj _) fun h4 q4=>?_
          rw[Hi]at q4
          replace q4:QV h4 [(n5,.arr 1 (bL (S.set b true)))] v T:=q4
          refine q4.push (k:=b) (by omega) (by omega) fun v5 h5 q5=>?_
          simp only[al,true_and]
          exact⟨_,_,v5,rfl,by simp[hS],fun k hk=>by rcases List.mem_append.1 hk with hk|hk;exact hT k hk;simp at hk;omega,q5,hR,by rw[List.length_append,List.length_singleton];omega⟩
      · have hst:jr w (S,T) b=(S,T):=by unfold jr;rw[if_neg (by simp[hbS])]
        rw[hst]at hR
        rw[H7]
        simp only[↓gS,al,true_and]
        exact⟨S,T,v,rfl,hS,hT,q,hR,hm⟩
    · have hi':es.length<=i:=by omega
      simp only[show((i:Int)<(es.length:Int))=False from eq_false (by omega),decide_false,↓aC,al,true_and]
      rw[List.drop_of_length_le hi']at hR
      exact⟨m,by omega,S,T,v,rfl,hS,hT,q,hR,hm,by omega⟩
end Go.Am
