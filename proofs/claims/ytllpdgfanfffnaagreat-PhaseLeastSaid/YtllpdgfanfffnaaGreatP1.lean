/- What the functions of this chapter give, on plain data. No condition. -/
import Derived.Shelf.SlIterI.Nil
import Derived.Shelf.SortM.Plain
import Derived.Shelf.SortM.SortNone
import Derived.Test.YtllpdgfanfffnaaGreatT2
set_option linter.unnecessarySimpa false
set_option linter.defProp false
set_option linter.unusedSectionVars false
set_option linter.unusedSimpArgs false
set_option linter.unusedVariables false

namespace Go.Am
open Go
variable [bA]
variable {P:Program}{KH:D->Heap->Prop}{K:D->Prop}{l:LH}
end Go.Am
namespace Go.Am
open Go
variable [bA]
variable {P:Program}
structure MS where
  group:Int
  sub:Int
  regs:Int
  loops:List Loop
  blocks:List Block
def nu (bs:List Nat):D:=.sl (bs.map fun(b:Nat)=>.int .u8 (b:Int))
def b6 (bs:List Nat) (k:Nat) (arrs:D) (s:MS) (vL vB:D):D :=
  .agg [nu bs,.int .i64 (k:Int),.int .i64 s.group,.int .i64 s.sub,.int .i64 s.regs,.int .i64 0,.int .i64 3,arrs,vL,vB]
def bK (vs:List D) (bs:List Block):List D:=List.zipWith (fun v b=>D.agg (v::b.t.cs)) vs bs
def bg (l:List D):List Nat:=l.flatMap D.iB
structure Rows (h:Heap) (loops:List Loop) (blocks:List Block) (vL vB:D) (vs:List D):Prop where
  oL:Own 3 h vL (loops.map Loop.e)
  oB:Own 14 h vB (bK vs blocks)
  len:vs.length=blocks.length
  oI:∀(k:Nat) (v:D) (b:Block),vs[k]?=some v->blocks[k]?=some b->Own 15 h v (b.i.map bh.e)
  nd:(bg (vL::vB::vs)).Nodup
structure aJ (h:Heap) (n k:Nat) (arrs:D) (s:MS):Prop where
  st:∃(bs:List Nat) (j:Nat) (vL vB:D) (vs:List D),(∀b∈bs,b<=255)/\bs.length<=9223372036854775807/\j<=k/\h n=.box (b6 bs j arrs s vL vB)/\Rows h s.loops s.blocks vL vB vs
def aD (n:Nat) (h h':Heap):Prop:=∀m d,m≠n->h m=.box d->h' m=.box d
theorem aD.rfl {n:Nat}{h:Heap}:aD n h h:=fun _ _ _ h=>h
theorem aD.trans {n:Nat}{a b c:Heap}(h:aD n a b) (k:aD n b c):aD n a c:=fun m d hm hd=>k m d hm (h m d hm hd)
theorem aD.self {n:Nat}{h:Heap}{s:Slot}:aD n h (al h n s):=fun m d hm hd=>by rw[ab _ _ hm];exact hd
theorem aD.new {n m:Nat}{h:Heap}{s:Slot}(hm:h m=.free):aD n h (al h m s):=fun k d _ hd=>by
  rw[ab _ _ (by rintro rfl;rw[hm]at hd;cases hd)];exact hd
theorem cw {esz:Nat}{h h':Heap}{v:D}{els:List D}(ho:Own esz h v els) (hk:∀k∈v.iB,h' k=h k):Own esz h' v els:=by
  rcases ho with ho|⟨q,rfl,hq⟩
  · exact Or.inl ho
  · exact Or.inr ⟨q,rfl,by rw[hk q (by simp[D.iB])];exact hq⟩
theorem nE {esz:Nat}{h:Heap}{v:D}{els:List D}(ho:Own esz h v els){k:Nat}(hk:k∈v.iB):h k=.arr esz els:=by
  rcases ho with⟨rfl,-⟩|⟨q,rfl,hq⟩
  · simp[D.iB]at hk
  · simp[D.iB]at hk;subst hk;exact hq
theorem Rows.congr {h h':Heap}{loops:List Loop}{blocks:List Block}{vL vB:D}{vs:List D}(r:Rows h loops blocks vL vB vs) (hk:∀k,k∈bg (vL::vB::vs)->h' k=h k):Rows h' loops blocks vL vB vs:=by
  have mem:∀v,v∈vL::vB::vs->∀k∈v.iB,k∈bg (vL::vB::vs):=fun v hv k hkv=>List.mem_flatMap.2 ⟨v,hv,hkv⟩
  refine⟨cw r.oL fun k q=>hk k (mem _ (by simp) k q),cw r.oB fun k q=>hk k (mem _ (by simp) k q),r.len,fun k v b hv hb=>cw (r.oI k v b hv hb) fun j q=>hk j (mem v ?_ j q),r.nd⟩
  have:=List.mem_of_getElem? hv
  simp[this]
theorem Rows.arr {h:Heap}{loops:List Loop}{blocks:List Block}{vL vB:D}{vs:List D}(r:Rows h loops blocks vL vB vs){k:Nat}(hk:k∈bg (vL::vB::vs)):∃e l,h k=.arr e l:=by
  obtain⟨v,hv,hkv⟩:=List.mem_flatMap.1 hk
  rcases List.mem_cons.1 hv with rfl|hv
  · exact⟨_,_,nE r.oL hkv⟩
  rcases List.mem_cons.1 hv with rfl|hv
  · exact⟨_,_,nE r.oB hkv⟩
  obtain⟨i,hi⟩:=List.getElem?_of_mem hv
  obtain⟨b,hb⟩:∃b,blocks[i]?=some b:=by
    have:=(List.getElem?_eq_some_iff.1 hi).1
    exact⟨blocks[i]'(by rw[<- r.len];exact this),List.getElem?_eq_getElem _⟩
  exact⟨_,_,nE (r.oI i v b hi hb) hkv⟩
theorem Rows.box {h:Heap}{loops:List Loop}{blocks:List Block}{vL vB:D}{vs:List D}(r:Rows h loops blocks vL vB vs){n:Nat}{d:D}(hn:h n=.box d) (s:Slot):Rows (al h n s) loops blocks vL vB vs :=
  r.congr fun k hk=>by
    obtain⟨e,l,hkl⟩:=r.arr hk
    rw[ab _ _ (by rintro rfl;rw[hn]at hkl;cases hkl)]
theorem Rows.free {h:Heap}{loops:List Loop}{blocks:List Block}{vL vB:D}{vs:List D}(r:Rows h loops blocks vL vB vs){n:Nat}(hn:h n=.free) (s:Slot):Rows (al h n s) loops blocks vL vB vs :=
  r.congr fun k hk=>by
    obtain⟨e,l,hkl⟩:=r.arr hk
    rw[ab _ _ (by rintro rfl;rw[hn]at hkl;cases hkl)]
theorem aJ.new {h:Heap}{n k:Nat}{arrs:D}{s:MS}(r:aJ h n k arrs s){m:Nat}(hm:h m=.free) (x:Slot):aJ (al h m x) n k arrs s/\m≠n:=by
  obtain⟨bs,j,vL,vB,vs,h1,h2,h3,h4,h5⟩:=r.st
  have hne:n≠m:=by rintro rfl;rw[h4]at hm;cases hm
  exact⟨⟨bs,j,vL,vB,vs,h1,h2,h3,by rw[ab _ _ hne];exact h4,h5.free hm x⟩,hne.symm⟩
theorem aJ.cg {h:Heap}{n k:Nat}{arrs:D}{s:MS}(r:aJ h n k arrs s){m:Nat}{d:D}(hm:h m=.box d) (hne:m≠n) (x:Slot):aJ (al h m x) n k arrs s:=by
  obtain⟨bs,j,vL,vB,vs,h1,h2,h3,h4,h5⟩:=r.st
  exact⟨bs,j,vL,vB,vs,h1,h2,h3,by rw[ab _ _ hne.symm];exact h4,h5.box hm x⟩
theorem aJ.le {h:Heap}{n k k':Nat}{arrs:D}{s:MS}(r:aJ h n k arrs s) (hk:k<=k'):aJ h n k' arrs s:=by
  obtain⟨bs,j,vL,vB,vs,h1,h2,h3,h4,h5⟩:=r.st
  exact⟨bs,j,vL,vB,vs,h1,h2,by omega,h4,h5⟩
theorem DA {KH:D->Heap->Prop}{h:Heap}{esz bytes:Nat}{z s d:D}{els:List D}(ho:Own esz h s els) (hd:aK d) (hc:d.cells.length=esz) (hb:(els.length+1)*bytes<=140737488355328) (hl:els.length+1<=9223372036854775807)
    (hk:∀m h',h m=.free->h' m=.arr esz (els++[d])->(∀k,k≠m->k∉s.iB->h' k=h k)->KH (.ms m 0 (els.length+1)) h'):aa P (.app (.c s) (.c (.sl [d])) esz bytes z) h KH:=by
  refine⟨fun e he=>by simp at he;subst he;exact hc,fun y hy=>by simp at hy;subst hy;exact hd,?_⟩
  rcases ho with⟨rfl,rfl⟩|⟨m,rfl,hm⟩
  · exact⟨⟨by simpa using hb,by simp⟩,fun n t=>hk n _ t.free (ai _ _ _) fun k hk _=>ab _ _ hk⟩
  · refine⟨els,.of hm,by simp,⟨by simpa using hb,by simpa using hl⟩,fun n t=>⟨?_,fun h0=>absurd rfl h0⟩⟩
    refine hk n _ t.free (ai _ _ _) fun k hkf hne=>?_
    have h2:k≠m:=by rintro rfl;exact hne (by simp[D.iB])
    rw[ab _ _ hkf,ab _ _ h2]
theorem Bj {KH:D->Heap->Prop}{h:Heap}{esz bytes:Nat}{z z' s d:D}{els:List D}(ho:Own esz h s els) (hd:wL d) (hc:d.cells.length=esz) (hb:(els.length+1)*bytes<=140737488355328) (hl:els.length+1<=9223372036854775807)
    (hk:∀m h',h m=.free->h' m=.arr esz (els++[d])->(∀k,k≠m->k∉s.iB->h k≠.free->h' k=h k)->KH (.ms m 0 (els.length+1)) h') :
    aa P (.bldS true esz 1 z [(0,.c d)]) h fun x h1=>aa P (.app (.c s) (.c x) esz bytes z') h1 KH:=by
  refine Ly hd.vd hd.one hc fun n5 t=>?_
  have hx:((al h n5 (.arr esz [d])) n5).row=some (esz,[d]):=by rw[ai];rfl
  refine⟨[d],hx,by simp,?_⟩
  simp only[List.drop_zero,List.take_succ_cons,List.take_zero]
  refine⟨fun y hy=>by simp at hy;subst hy;exact hd.one,?_⟩
  have et:∀n,lL (al h n5 (.arr esz [d])) n->h n=.free/\n≠n5:=by
    intro n tn
    have:=tn.free
    by_cases he:n=n5
    · subst he;rw[ai]at this;cases this
    · rw[ab _ _ he]at this;exact⟨this,he⟩
  rcases ho with⟨rfl,rfl⟩|⟨m,rfl,hm⟩
  · refine⟨⟨by simpa using hb,by simp⟩,fun n tn=>?_⟩
    obtain⟨f1,f2⟩:=et n tn
    exact hk n _ f1 (ai _ _ _) fun k hk _ hkf=>by rw[ab _ _ hk,ab _ _ (t.ne hkf)]
  · have hmn:m≠n5:=t.ne (by rw[hm];simp)
    refine⟨els,.of (by rw[ab _ _ hmn];exact hm),by simp,⟨by simpa using hb,by simpa using hl⟩,fun n tn=>⟨?_,fun h0=>absurd rfl h0⟩⟩
    obtain⟨f1,f2⟩:=et n tn
    refine hk n _ f1 (ai _ _ _) fun k hkf hne hkk=>?_
    have h2:k≠m:=by rintro rfl;exact hne (by simp[D.iB])
    rw[ab _ _ hkf,ab _ _ h2,ab _ _ (t.ne hkk)]
end Go.Am
namespace Go.Am
open Go
theorem sB {n:Int}:aN PP bP [.int .i64 n] (· = (gg n).e):=by
  refine bG qJ (ar _ _ _) rfl (zu _ _) ?_
  unfold xg
  rw[Aj]
  simp[EH,oG,Kj,h_ldp,EE,EF,Gx,gL,fillD,qU]
  exact BR (eh.kI ⟨2,n,0⟩) rfl
theorem rh {v:Int}:aN PP cu [.int .i32 v] (· = (Const v).e):=by
  refine bG wH (ar _ _ _) rfl (wq _ _) ?_
  unfold sF
  rw[Aj]
  simp[EH,oG,Kj,h_ldp,EE,EF,Gx,gL,fillD,qU]
  exact BR (eh.kI ⟨1,0,v⟩) rfl
theorem Iz {bs:List Nat}{k:Nat}{d:D}(h:(bs.map fun(b:Nat)=>D.int .u8 (b:Int))[k]?=some d):∃b,b∈bs/\d=.int .u8 b:=by
  simp only[List.getElem?_map,Option.map_eq_some_iff]at h
  obtain⟨b,hb,rfl⟩:=h
  exact⟨b,List.mem_of_getElem? hb,rfl⟩
theorem Bv {h:Heap}{n j:Nat}{bs:List Nat}{rest:List D}(hn:h n=.box (.agg (nu bs::.int .i64 (j:Int)::rest))) (hb:∀b∈bs,b<=255) (hl:bs.length<=9223372036854775807) (hj:j<4611686018427387904){KH:D->Heap->Prop}
    (hK:∀b:Nat,b<=255->KH (.int .i64 (b:Int)) (al h n (.box (.agg (nu bs::.int .i64 ((j+1:Nat):Int)::rest))))):ah PP aj [.ptr n 0 0] h KH:=by
  refine cU pB (ar _ _ _) rfl (po _ _) ?_
  unfold kM
  have w1:IntKind.i64.wrap ((j:Int)+1)=((j+1:Nat):Int):=by rw[wrap64 (by omega) (by omega)];rfl
  simp only[↓qg,hn,Slot.live,Slot.used,true_and,↓v7,↓ea,iH,Nat.zero_add,List.getElem?_cons_succ,List.getElem?_cons_zero,↓dF,w1,↓jZ]
  refine⟨rfl,by simp,by simp,?_⟩
  have hset:setCells (D.agg (nu bs::.int .i64 (j:Int)::rest)) 1 (D.int .i64 ((j+1:Nat):Int)).cells=.agg (nu bs::.int .i64 ((j+1:Nat):Int)::rest):=by simp[setCells]
  rw[hset]
  obtain⟨hA,eA⟩:∃hA,hA=al h n (.box (.agg (nu bs::.int .i64 ((j+1:Nat):Int)::rest))):=⟨_,rfl⟩
  rw[<- eA]at hK ⊢
  have a1:hA n=.box (.agg (nu bs::.int .i64 ((j+1:Nat):Int)::rest)):=by rw[eA,ai]
  have e1:(∃v,hA n=.box v)=True:=eq_true ⟨_,a1⟩
  simp only[↓Bs,a1,Slot.used,true_and,↓wc,↓v7,a1,↓ea,iH,Nat.zero_add,List.getElem?_cons_succ,List.getElem?_cons_zero,nu,↓ku,List.length_map,↓rZ]
  by_cases hc:bs.length<j+1
  · have hc':(bs.length:Int)<((j+1:Nat):Int):=by omega
    simp only[hc',decide_true,av]
    exact hK 0 (by omega)
  · have hc':¬(bs.length:Int)<((j+1:Nat):Int):=by omega
    have w2:IntKind.i64.wrap (((j+1:Nat):Int)-1)=(j:Int):=by rw[wrap64 (by omega) (by omega)];omega
    simp only[hc',decide_false,au,↓kr,w2,↓l8,↓y7,List.length_map]
    refine⟨by omega,by omega,fun d hd=>?_⟩
    obtain⟨b,hbm,rfl⟩:=Iz hd
    have hb2:=hb b hbm
    have w3:IntKind.i64.wrap (b:Int)=(b:Int):=wrap64 (by omega) (by omega)
    simp only[AI,List.length_singleton,true_and,↓wc,↓y6,↓ea,List.getElem?_cons_zero,↓HN,↓qf,w3]
    exact hK b hb2
theorem cZ {h:Heap}{n k:Nat}{arrs:D}{s:MS}(r:aJ h n k arrs s) (hk:k<1000000){KH:D->Heap->Prop}(hK:∀(b:Nat) (h':Heap),b<=255->aJ h' n (k+1) arrs s->aD n h h'->KH (.int .i64 (b:Int)) h') :
    ah PP aj [.ptr n 0 0] h KH:=by
  obtain⟨bs,j,vL,vB,vs,h1,h2,h3,h4,h5⟩:=r.st
  refine Bv h4 h1 h2 (by omega) fun b hb=>hK b _ hb ⟨bs,j+1,vL,vB,vs,h1,h2,by omega,ai _ _ _,h5.box h4 _⟩ aD.self
theorem aT (a b:Nat):((a:Int).tmod (b:Int))=((a % b:Nat):Int):=(Int.ofNat_tmod a b).symm
theorem xd {h:Heap}{n k:Nat}{arrs:D}{s:MS}(r:aJ h n k arrs s) (hk:k<1000000){KH:D->Heap->Prop}(hK:∀(b:Nat) (h':Heap),b<6->aJ h' n (k+1) arrs s->aD n h h'->KH (gg (b:Int)).e h') :
    ah PP aM [.ptr n 0 0] h KH:=by
  refine cU jn (ar _ _ _) rfl (jl _ _) ?_
  unfold gQ
  rw[gK]
  intro m t
  obtain⟨r1,hne⟩:=r.new t.free (.box (.agg [(.int .i64 0),(.int .i64 0),(.int .i32 0)]))
  refine cZ r1 hk fun b h' hb r2 hkeep=>?_
  have hm:=hkeep m _ hne (ai _ _ _)
  have e6:((b:Int).tmod 6)=((b % 6:Nat):Int):=aT b 6
  rw[cq]
  refine⟨by omega,?_⟩
  rw[e6]
  refine ec sB ⟨aY,trivial⟩ ?_
  simp only[↓jZ,hm]
  refine⟨by first|rfl|trivial,(eh.kI _).one,by first|rfl|trivial,by simp,?_⟩
  have hset:setCells (.agg [(.int .i64 0),(.int .i64 0),(.int .i32 0)]) 0 (gg ((b % 6:Nat):Int)).e.cells=(gg ((b % 6:Nat):Int)).e:=rfl
  rw[hset]
  simp only[↓v7,ai,true_and]
  refine⟨by simp[eh.e,eh.cs],?_⟩
  refine hK (b % 6) _ (Nat.mod_lt _ (by omega)) (r2.cg hm hne _) fun q d hq hd=>?_
  have hqm:q≠m:=by rintro rfl;rw[t.free]at hd;cases hd
  rw[ab _ _ hqm]
  exact hkeep q d hq (by rw[ab _ _ hqm];exact hd)
def xf (o:eh):Prop:=(∃b:Nat,b<6/\o=gg b)\/∃v:Int,-20<=v/\v<=65/\o=Const v
theorem sA {h:Heap}{n k:Nat}{arrs:D}{s:MS}(r:aJ h n k arrs s) (hk:k<1000000){KH:D->Heap->Prop}(hK:∀(o:eh) (h':Heap),xf o->aJ h' n (k+1) arrs s->aD n h h'->KH o.e h') :
    ah PP aI [.ptr n 0 0] h KH:=by
  refine cU jm (ar _ _ _) rfl (jj _ _) ?_
  unfold gP
  rw[gK]
  intro m t
  obtain⟨r1,hne⟩:=r.new t.free (.box (.agg [(.int .i64 0),(.int .i64 0),(.int .i32 0)]))
  refine cZ r1 hk fun b h' hb r2 hkeep=>?_
  have hm:=hkeep m _ hne (ai _ _ _)
  have fin:∀o:eh,xf o->aa PP (.st (.c (.ptr m 0 0)) (.c o.e) 3) h' fun _ h1=>aa PP (.ld (.c (.ptr m 0 0)) 3 true) h1 fun a _=>KH a h1:=by
    intro o ho
    simp only[↓jZ,hm]
    refine⟨by first|rfl|trivial,(eh.kI _).one,by first|rfl|trivial,by simp[eh.e,eh.cs],?_⟩
    have hset:setCells (.agg [(.int .i64 0),(.int .i64 0),(.int .i32 0)]) 0 o.e.cells=o.e:=rfl
    rw[hset]
    simp only[↓v7,ai,true_and]
    refine⟨by simp[eh.e,eh.cs],?_⟩
    refine hK o _ ho (r2.cg hm hne _) fun q d hq hd=>?_
    have hqm:q≠m:=by rintro rfl;rw[t.free]at hd;cases hd
    rw[ab _ _ hqm]
    exact hkeep q d hq (by rw[ab _ _ hqm];exact hd)
  have e3:((b:Int).tmod 3)=((b % 3:Nat):Int):=aT b 3
  have d3:IntKind.i64.wrap ((b:Int).tdiv 3)=((b / 3:Nat):Int):=by
    have:((b:Int).tdiv 3)=((b / 3:Nat):Int):=(Int.ofNat_tdiv b 3).symm
    rw[this];exact wrap64 (by omega) (by omega)
  rw[cq]
  refine⟨by omega,?_⟩
  rw[e3,dE]
  by_cases hc:b % 3=0
  · have hc':((b % 3:Nat):Int)=0:=by omega
    simp only[hc',decide_true,av,↓Ei]
    refine⟨by omega,?_⟩
    have w:IntKind.i32.wrap ((b / 3:Nat):Int)=((b / 3:Nat):Int):=by simp only[IntKind.wrap,IntKind.signed,IntKind.bits];simp;omega
    have w2:IntKind.i32.wrap (((b / 3:Nat):Int)-20)=((b / 3:Nat):Int)-20:=by simp only[IntKind.wrap,IntKind.signed,IntKind.bits];simp;omega
    rw[d3,qf,w,kr,w2]
    refine ec rh ⟨aY,trivial⟩ ?_
    exact fin _ (Or.inr ⟨_,by omega,by omega,rfl⟩)
  · have hc':¬((b % 3:Nat):Int)=0:=by omega
    simp only[hc',decide_false,au,↓Ei]
    refine⟨by omega,?_⟩
    rw[d3,cq]
    refine⟨by omega,?_⟩
    have e6:(((b / 3:Nat):Int).tmod 6)=((b / 3 % 6:Nat):Int):=aT (b / 3) 6
    rw[e6]
    refine ec sB ⟨aY,trivial⟩ ?_
    exact fin _ (Or.inl ⟨b / 3 % 6,Nat.mod_lt _ (by omega),rfl⟩)
theorem ga {vs:List D}{bs:List Block}(h:vs.length=bs.length):(bK vs bs).length=bs.length:=by simp[bK,h]
theorem FZ {vs:List D}{bs:List Block}(h:vs.length=bs.length) (v:D) (b:Block):bK (vs++[v]) (bs++[b])=bK vs bs++[.agg (v::b.t.cs)]:=by
  simp[bK,List.zipWith_append h]
theorem wa {vs:List D}{bs:List Block}{k:Nat}{v:D}{b:Block}(h1:vs[k]?=some v) (h2:bs[k]?=some b):(bK vs bs)[k]?=some (.agg (v::b.t.cs)):=by
  simp[bK,List.getElem?_zipWith,h1,h2]
theorem AG {vs:List D}{bs:List Block}(h:vs.length=bs.length){k:Nat}(hk:k<bs.length) (v:D) (b:Block):(bK vs bs).set k (.agg (v::b.t.cs))=bK (vs.set k v) (bs.set k b):=by
  refine List.ext_getElem? fun i=>?_
  simp only[bK,List.getElem?_set,List.length_zipWith,List.getElem?_zipWith,h,Nat.min_self]
  by_cases hi:k=i
  · subst hi;simp[hk]
  · simp[hi]
theorem ui {esz:Nat}{h:Heap}{v:D}{els:List D}(ho:Own esz h v els) (hne:els≠[]):∃n,v=.ms n 0 els.length/\h n=.arr esz els:=by
  rcases ho with⟨-,h2⟩|h
  · exact absurd h2 hne
  · exact h
theorem I1:(D.agg (.nil::iA.cs))=.agg [.nil,.int .i64 0,.int .i64 0,.int .i64 0,.int .i64 0,.int .i32 0,.int .i64 0,.int .i64 0,.int .i32 0,.int .i64 0,.int .i64 0,.int .i32 0,.int .i64 0,.int .i64 0]:=rfl
theorem aU {d:D}{l:List D}:bg (d::l)=d.iB++bg l:=by simp[bg]
theorem nG {l l':List D}:bg (l++l')=bg l++bg l':=by simp[bg]
theorem jT {d:D}{l:List D}(h:d∈l){k:Nat}(hk:k∈d.iB):k∈bg l:=List.mem_flatMap.2 ⟨d,h,hk⟩
theorem Jx {h:Heap}{n k:Nat}{arrs:D}{s:MS}(r:aJ h n k arrs s) (hlen:s.blocks.length<1000){KH:D->Heap->Prop}
    (hK:∀h':Heap,aJ h' n k arrs { s with blocks:=s.blocks++[⟨[],iA⟩] }->aD n h h'->KH (.tup []) h'):ah PP aQ [.ptr n 0 0] h KH:=by
  refine cU oi (ar _ _ _) rfl (nY _ _) ?_
  unfold jK
  obtain⟨bs,j,vL,vB,vs,h1,h2,h3,h4,h5⟩:=r.st
  simp only[↓qg,h4,Slot.live,Slot.used,true_and,↓v7,b6,↓ea,iH,Nat.zero_add,Nat.reduceAdd,List.getElem?_cons_succ,List.getElem?_cons_zero,↓oG]
  refine⟨by intro p hp;simp at hp,?_⟩
  have hel:=ga h5.len
  simp only[List.map_nil,fillD]
  have hd:wL (D.agg (.nil::iA.cs)):=fF (by simp[Term.cs,iA])
  rw[<- I1]
  refine Bj h5.oB hd rfl (by rw[hel];omega) (by rw[hel];omega) fun m h' f1 f2 f3=>?_
  have hnm:n≠m:=by rintro rfl;rw[h4]at f1;cases f1
  have hnB:n∉vB.iB:=fun hm=>by have:=nE h5.oB hm;rw[h4]at this;cases this
  have h4':h' n=h n:=f3 n hnm hnB (by rw[h4];simp)
  simp only[↓qg,h4',h4,Slot.live,Slot.used,true_and,b6,Nat.zero_add,Nat.reduceAdd,↓jZ]
  refine⟨rfl,by simp,by simp,?_⟩
  refine hK _ ⟨bs,j,vL,.ms m 0 ((bK vs s.blocks).length+1),vs++[.nil],h1,h2,h3,?_,?_⟩ fun q d hq hd=>?_
  · rw[ai];simp[setCells,b6]
  ·
    have hnew:∀k',k'∈bg (vL::vB::vs)->h k'≠.free:=fun k' hk'=>by obtain⟨e,l,hkl⟩:=h5.arr hk';rw[hkl];simp
    have hmn:m∉bg (vL::vB::vs):=fun hm=>hnew m hm f1
    have hnd:=h5.nd
    rw[aU,aU]at hnd hmn
    simp only[List.mem_append,not_or]at hmn
    have same:∀k',k'∈bg (vL::vs)->(al h' n (.box (setCells (.agg [nu bs,.int .i64 (j:Int),.int .i64 s.group,.int .i64 s.sub,.int .i64 s.regs,.int .i64 0,.int .i64 3,arrs,vL,vB]) 9 (D.ms m 0 ((bK vs s.blocks).length+1)).cells))) k'=h k':=by
      intro k' hk'
      rw[aU,List.mem_append]at hk'
      have hkk:k'∈bg (vL::vB::vs):=by rw[aU,aU];simp only[List.mem_append];rcases hk' with h|h<;>simp[h]
      have e1:k'≠n:=by
        rintro rfl
        obtain⟨e,l,hkl⟩:=h5.arr hkk
        rw[h4]at hkl;cases hkl
      have e2:k'≠m:=by
        rintro rfl
        rcases hk' with h|h
        · exact hmn.1 h
        · exact hmn.2.2 h
      have e3:k'∉vB.iB:=by
        intro hB
        rcases hk' with h|h
        · exact(List.nodup_append.1 hnd).2.2 k' h k' (by simp[hB]) rfl
        · exact(List.nodup_append.1 (List.nodup_append.1 hnd).2.1).2.2 k' hB k' h rfl
      rw[ab _ _ e1]
      exact f3 k' e2 e3 (hnew k' hkk)
    have oB':Own 14 h' (.ms m 0 ((bK vs s.blocks).length+1)) (bK (vs++[.nil]) (s.blocks++[⟨[],iA⟩])):=by
      rw[FZ h5.len]
      exact Or.inr ⟨m,by simp,f2⟩
    refine⟨cw h5.oL fun k' q=>same k' (jT (by simp) q),cw oB' fun k' q=>?_,by simp[h5.len],fun i v b hv hb=>?_,?_⟩
    · simp only[D.iB,List.mem_singleton]at q
      subst q
      exact ab _ _ hnm.symm
    · rcases Nat.lt_or_ge i vs.length with hi|hi
      · rw[List.getElem?_append_left hi]at hv
        rw[List.getElem?_append_left (by rw[<- h5.len];exact hi)]at hb
        refine cw (h5.oI i v b hv hb) fun k' q=>same k' (jT ?_ q)
        have:=List.mem_of_getElem? hv
        simp[this]
      · rw[List.getElem?_append_right hi]at hv
        rw[List.getElem?_append_right (by rw[<- h5.len];exact hi)]at hb
        have hz:i-vs.length=0:=by
          have:=(List.getElem?_eq_some_iff.1 hv).1
          simp at this;omega
        rw[<- h5.len,hz]at hb
        rw[hz]at hv
        simp at hv hb
        subst hv hb
        exact Or.inl ⟨rfl,rfl⟩
    · rw[aU,aU,nG]
      simp only[D.iB,bg,List.flatMap_cons,List.flatMap_nil,List.append_nil,List.singleton_append]
      have hndL:=(List.nodup_append.1 hnd).1
      have hndR:=(List.nodup_append.1 (List.nodup_append.1 hnd).2.1).2.1
      have hnLR:∀a∈vL.iB,∀b,b∈bg vs->a≠b:=fun a ha b hb=>(List.nodup_append.1 hnd).2.2 a ha b (by simp[hb])
      refine List.nodup_append.2 ⟨hndL,List.nodup_cons.2 ⟨hmn.2.2,hndR⟩,fun a ha b hb=>?_⟩
      rcases List.mem_cons.1 hb with rfl|hb
      · rintro rfl;exact hmn.1 ha
      · exact hnLR a ha b hb
  · rw[ab _ _ hq]
    have e2:q≠m:=by rintro rfl;rw[hd]at f1;cases f1
    have e3:q∉vB.iB:=fun hm=>by have:=nE h5.oB hm;rw[hd]at this;cases this
    rw[f3 q e2 e3 (by rw[hd];simp)];exact hd
def zR (bs:List Block) (i:Nat) (t:Term):List Block:=bs.modify i fun b=>{ b with t:=t }
def xK (bs:List Block) (i:Nat) (x:bh):List Block:=bs.modify i fun b=>{ b with i:=b.i++[x] }
theorem nM {α:Type}{l:List α}{i:Nat}{a:α}{f:α->α}(h:l[i]?=some a):l.modify i f=l.set i (f a):=by
  refine List.ext_getElem? fun k=>?_
  rw[List.getElem?_modify,List.getElem?_set]
  by_cases e:i=k
  · subst e
    have:=(List.getElem?_eq_some_iff.1 h).1
    have e2:=(List.getElem?_eq_some_iff.1 h).2
    simp[this,e2]
  · simp[e]
theorem yB {bs:List Block}{i:Nat}{t:Term}:(zR bs i t).length=bs.length:=by simp[zR]
theorem Da {bs:List Block}{i:Nat}{t:bh}:(xK bs i t).length=bs.length:=by simp[xK]
theorem aJ.some {h:Heap}{n k:Nat}{arrs:D}{s:MS}(r:aJ h n k arrs s) (hne:s.blocks≠[]):∃(bs:List Nat) (j:Nat) (vL:D) (nb:Nat) (vs:List D),(∀b∈bs,b<=255)/\bs.length<=9223372036854775807/\j<=k /\
    h n=.box (b6 bs j arrs s vL (.ms nb 0 s.blocks.length))/\h nb=.arr 14 (bK vs s.blocks)/\Rows h s.loops s.blocks vL (.ms nb 0 s.blocks.length) vs:=by
  obtain⟨bs,j,vL,vB,vs,h1,h2,h3,h4,h5⟩:=r.st
  have hel:=ga h5.len
  obtain⟨nb,e1,e2⟩:=ui h5.oB (by
    intro he
    have:=congrArg List.length he
    rw[hel]at this
    exact hne (List.length_eq_zero_iff.1 this))
  rw[hel]at e1
  subst e1
  exact⟨bs,j,vL,nb,vs,h1,h2,h3,h4,e2,h5⟩
theorem Rows.Mr {h:Heap}{loops:List Loop}{blocks blocks':List Block}{vL:D}{nb:Nat}{vs vs':List D}(r:Rows h loops blocks vL (.ms nb 0 blocks.length) vs) (hl:blocks'.length=blocks.length) (hv:vs'.length=blocks'.length){h':Heap}
    (hkeep:∀k,k∈bg (vL::vs)->k∈bg (vL::vs')->h' k=h k) (hnb:h' nb=.arr 14 (bK vs' blocks')) (hL:∀k∈vL.iB,h' k=h k)
    (hI:∀(k:Nat) (v:D) (b:Block),vs'[k]?=some v->blocks'[k]?=some b->Own 15 h' v (b.i.map bh.e)) (hnd:(bg (vL::D.ms nb 0 blocks.length::vs')).Nodup):Rows h' loops blocks' vL (.ms nb 0 blocks'.length) vs':=by
  refine⟨cw r.oL hL,Or.inr ⟨nb,by rw[ga hv],hnb⟩,hv,hI,?_⟩
  rw[hl];exact hnd
theorem Rows.fresh {h:Heap}{loops:List Loop}{blocks:List Block}{vL vB:D}{vs:List D}(r:Rows h loops blocks vL vB vs){m:Nat}(hm:h m=.free):m∉bg (vL::vB::vs):=fun hk=>by
  obtain⟨e,l,hkl⟩:=r.arr hk
  rw[hm]at hkl;cases hkl
theorem uk {vL:D}{nb l:Nat}{vs:List D}(h:(bg (vL::D.ms nb 0 l::vs)).Nodup):nb∉bg (vL::vs)/\(bg (vL::vs)).Nodup:=by
  rw[aU,aU]at h
  rw[aU]
  simp only[D.iB]at h
  have h1:=List.nodup_append.1 h
  have h2:=List.nodup_cons.1 (show(nb::bg vs).Nodup from h1.2.1)
  refine⟨fun hm=>?_,List.nodup_append.2 ⟨h1.1,h2.2,fun a ha b hb=>h1.2.2 a ha b (by simp[hb])⟩⟩
  rcases List.mem_append.1 hm with hm|hm
  · exact h1.2.2 nb hm nb (by simp) rfl
  · exact h2.1 hm
theorem I8 {h:Heap}{n k i:Nat}{arrs:D}{s:MS}{t:Term}{bs:List Nat}{j nb:Nat}{vL:D}{vs:List D}(h1:∀b∈bs,b<=255) (h2:bs.length<=9223372036854775807) (h3:j<=k) (h4:h n=.box (b6 bs j arrs s vL (.ms nb 0 s.blocks.length)))
    (h5:h nb=.arr 14 (bK vs s.blocks)) (h6:Rows h s.loops s.blocks vL (.ms nb 0 s.blocks.length) vs) (hi:i<s.blocks.length) {KH:D->Heap->Prop}
    (hK:∀h',aJ h' n k arrs { s with blocks:=zR s.blocks i t }->aD n h h'->KH .undef h'):aa PP (.st (.c (.ptr nb i 1)) (.c t.e) 13) h KH:=by
  have hel:=ga h6.len
  obtain⟨v,hv⟩:∃v,vs[i]?=some v:=⟨vs[i]'(by rw[h6.len];exact hi),List.getElem?_eq_getElem _⟩
  obtain⟨b,hb⟩:∃b,s.blocks[i]?=some b:=⟨s.blocks[i],List.getElem?_eq_getElem _⟩
  have hget:=wa hv hb
  rw[jZ]
  simp only[h5,hget,Option.some.injEq,forall_eq']
  refine⟨rfl,(Term.kI t).one,by rw[hel];exact hi,by simp[Term.e,Term.cs],?_⟩
  have hset:setCells (.agg (v::b.t.cs)) 1 t.e.cells=.agg (v::t.cs):=by simp[setCells,Term.e,Term.cs]
  rw[hset]
  have hmod:zR s.blocks i t=s.blocks.set i { b with t:=t }:=by
    rw[zR];exact nM hb
  have e1:(bK vs s.blocks).set i (.agg (v::t.cs))=bK vs (zR s.blocks i t):=by
    have:=AG h6.len hi v { b with t:=t }
    rw[show vs.set i v=vs from ?_]at this
    · rw[hmod];exact this
    · refine List.ext_getElem? fun q=>?_
      rw[List.getElem?_set]
      split
      · rename_i hq;subst hq;rw[if_pos (by rw[h6.len];exact hi),hv]
      · rfl
  rw[e1]
  have nnb:n≠nb:=by rintro rfl;rw[h4]at h5;cases h5
  obtain⟨hs1,hs2⟩:=uk h6.nd
  refine hK _ ⟨bs,j,vL,.ms nb 0 (zR s.blocks i t).length,vs,h1,h2,h3,?_,?_⟩ fun q d hq hd=>?_
  · rw[ab _ _ nnb,h4,yB];rfl
  · refine Rows.Mr h6 (by rw[yB]) (by rw[yB];exact h6.len) (fun q hq _=>?_) (ai _ _ _) (fun q hq=>?_) (fun q v' b' hv' hb'=>?_) h6.nd
    · rw[ab _ _ (by rintro rfl;exact hs1 hq)]
    · rw[ab _ _ (by rintro rfl;exact hs1 (by rw[aU];simp[hq]))]
    · obtain⟨b2,hb2,Nr⟩:∃b2,s.blocks[q]?=some b2/\b'.i=b2.i:=by
        simp only[zR,List.getElem?_modify]at hb'
        cases hq:s.blocks[q]? with
        | none=>rw[hq]at hb';simp at hb'
        | some b2 =>
          rw[hq]at hb'
          simp at hb'
          refine⟨b2,rfl,?_⟩
          rw[<- hb'];split<;>rfl
      rw[Nr]
      refine cw (h6.oI q v' b2 hv' hb2) fun q' hq'=>?_
      rw[ab _ _ (by rintro rfl;exact hs1 (by rw[aU];simp[jT (List.mem_of_getElem? hv') hq']))]
  · rw[ab _ _ (by rintro rfl;rw[hd]at h5;cases h5)];exact hd
set_option maxHeartbeats 1000000 in
theorem Nc {h:Heap}{n k:Nat}{arrs:D}{s:MS}{x:bh}{L:Nat}(r:aJ h n k arrs s) (hL:s.blocks.length=L+1) (hlen:L<1000) (hil:∀b∈s.blocks,b.i.length<1000){KH:D->Heap->Prop}
    (hK:∀h':Heap,aJ h' n k arrs { s with blocks:=xK s.blocks L x }->aD n h h'->KH (.tup []) h'):ah PP aC [.ptr n 0 0,x.e] h KH:=by
  refine cU qH (ar _ _ _) rfl (qv _ _ _) ?_
  unfold lJ
  rw[EP]
  refine⟨(bh.kI x).one,fun m t=>?_⟩
  obtain⟨r1,hmn⟩:=r.new t.free (.box x.e)
  obtain⟨hA,eA⟩:∃hA,hA=al h m (.box x.e):=⟨_,rfl⟩
  rw[<- eA]at r1 ⊢
  have am:hA m=.box x.e:=by rw[eA,ai]
  have keepA:aD n h hA:=by rw[eA];exact aD.new t.free
  obtain⟨bs,j,vL,nb,vs,h1,h2,h3,h4,h5,h6⟩:=r1.some (by intro he;rw[he]at hL;simp at hL)
  have hel:=ga h6.len
  have hLs:s.blocks.length=L+1:=hL
  obtain⟨v,hv⟩:∃v,vs[L]?=some v:=⟨vs[L]'(by rw[h6.len,hLs];omega),List.getElem?_eq_getElem _⟩
  obtain⟨b,hb⟩:∃b,s.blocks[L]?=some b:=⟨s.blocks[L]'(by rw[hLs];omega),List.getElem?_eq_getElem _⟩
  have hget:=wa hv hb
  have w1:IntKind.i64.wrap (((L+1:Nat):Int)-1)=(L:Int):=by rw[wrap64 (by omega) (by omega)];omega
  have c1:(0:Int)<=(L:Int):=by omega
  have c2:(L:Int)<((L+1:Nat):Int):=by omega
  have hbl:=hil b (List.mem_of_getElem? hb)
  have oV:=h6.oI L v b hv hb
  have hrow:(∃els,(Slot.arr 14 (bK vs s.blocks)).row=some (14,els))=True:=eq_true ⟨_,rfl⟩
  have hLe:(L<(bK vs s.blocks).length)=True:=eq_true (by rw[hel,hLs];omega)
  simp only[↓qg,h4,Slot.used,true_and,↓v7,b6,↓ea,iH,Nat.zero_add,Nat.reduceAdd,List.getElem?_cons_succ,List.getElem?_cons_zero,↓nr,h5,Slot.live,hLs,↓kr,w1,↓Bs,↓wc,↓l8,↓qe,c1,c2,hrow,Int.toNat_natCast,hLe,hget,Option.some.injEq,forall_eq',am,↓qU]
  refine⟨Nat.le_refl _,?_⟩
  have hbld:∀{Q:D->Prop}{h:Heap}{z:D},(∀y∈z.cells,y.vone=true)->Q (.sl [x.e])->af PP (.bldS false 15 1 z [(0,.c (.agg (List.take 15 (List.drop 0 x.e.cells))))]) h Q:=by
    intro Q h z hz hq
    have e1:D.agg (List.take 15 (List.drop 0 x.e.cells))=x.e:=rfl
    rw[e1]
    refine⟨?_,?_,hz,hq⟩
    · intro p hp;simp[Arg.get]at hp;subst hp;exact⟨Nat.one_pos,rfl,(bh.kI x).one⟩
    · intro p hp;simp[Arg.get]at hp;subst hp;intro y hy;simp[bh.e,bh.cs]at hy;rcases hy with rfl|rfl|rfl|rfl|rfl|rfl|rfl|rfl|rfl|rfl|rfl|rfl|rfl|rfl|rfl<;>rfl
  refine hbld (by simp) ?_
  refine DA oV (bh.kI x).one rfl (by simp;omega) (by simp;omega) fun m2 hB f1 f2 f3=>?_
  have vB:nb∉v.iB:=fun hm=>by
    have:=(uk h6.nd).1
    exact this (by rw[aU];exact List.mem_append_right _ (jT (List.mem_of_getElem? hv) hm))
  have vN:n∉v.iB:=fun hm=>by have:=nE oV hm;rw[h4]at this;cases this
  have n2:n≠m2:=by rintro rfl;rw[h4]at f1;cases f1
  have b2:nb≠m2:=by rintro rfl;rw[h5]at f1;cases f1
  have nnb:n≠nb:=by rintro rfl;rw[h4]at h5;cases h5
  have g4:hB n=Slot.box (b6 bs j arrs s vL (D.ms nb 0 s.blocks.length)):=by rw[f3 n n2 vN];exact h4
  have g5:hB nb=Slot.arr 14 (bK vs s.blocks):=by rw[f3 nb b2 vB];exact h5
  simp only[g4,g5,b6,iH,List.getElem?_cons_succ,List.getElem?_cons_zero,hLs,ae,hrow,true_and,↓jZ]
  have hset:setCells (.agg (v::b.t.cs)) 0 (D.ms m2 0 ((List.map bh.e b.i).length+1)).cells=.agg (D.ms m2 0 ((List.map bh.e b.i).length+1)::b.t.cs):=by simp[setCells]
  refine⟨rfl,by simp,by rw[hel,hLs];omega,by simp,fun d hd=>?_⟩
  rw[hget]at hd
  cases hd
  rw[hset]
  have els2:(bK vs s.blocks).set L (.agg (D.ms m2 0 ((List.map bh.e b.i).length+1)::b.t.cs))=bK (vs.set L (.ms m2 0 (b.i.length+1))) (xK s.blocks L x):=by
    have:=AG h6.len (k:=L) (by rw[hLs];omega) (.ms m2 0 (b.i.length+1)) { b with i:=b.i++[x] }
    rw[List.length_map,xK,nM hb]
    exact this
  rw[els2]
  obtain⟨hC,eC⟩:∃hC,hC=al hB nb (.arr 14 (bK (vs.set L (.ms m2 0 (b.i.length+1))) (xK s.blocks L x))):=⟨_,rfl⟩
  rw[<- eC]
  have k4:hC n=Slot.box (b6 bs j arrs s vL (D.ms nb 0 s.blocks.length)):=by rw[eC,ab _ _ nnb];exact g4
  have k5:hC nb=.arr 14 (bK (vs.set L (.ms m2 0 (b.i.length+1))) (xK s.blocks L x)):=by rw[eC,ai]
  have k6:∀q,q≠m2->q∉v.iB->q≠nb->hC q=hA q:=fun q q1 q2 q3=>by rw[eC,ab _ _ q3];exact f3 q q1 q2
  have k7:hC m2=.arr 15 (b.i.map bh.e++[x.e]):=by rw[eC,ab _ _ b2.symm];exact f2
  simp only[k4,k5,b6,iH,List.getElem?_cons_succ,List.getElem?_cons_zero,hLs,ae,true_and]
  refine⟨by simp[Slot.row],?_⟩
  have fr:m2∉bg (vL::D.ms nb 0 s.blocks.length::vs):=h6.fresh f1
  have hvs:(vs.set L (D.ms m2 0 (b.i.length+1))).length=(xK s.blocks L x).length:=by rw[List.length_set,h6.len,Da]
  obtain⟨hs1,hs2⟩:=uk h6.nd
  have hLv:L<vs.length:=(List.getElem?_eq_some_iff.1 hv).1
  have split:∃p q,vs=p++v::q/\p.length=L:=by
    refine⟨vs.take L,vs.drop (L+1),?_,by simp;omega⟩
    have:=List.getElem?_eq_some_iff.1 hv
    rw[<- this.2]
    exact(List.take_append_drop L vs).symm.trans (by rw[List.drop_eq_getElem_cons hLv])
  obtain⟨p,q,epq,epl⟩:=split
  have eset:vs.set L (D.ms m2 0 (b.i.length+1))=p++D.ms m2 0 (b.i.length+1)::q:=by
    rw[epq, <- epl];simp
  have nd0:(bg (vL::vs)).Nodup:=hs2
  rw[epq,aU,nG,aU]at nd0
  have ndL:=List.nodup_append.1 nd0
  have ndP:=List.nodup_append.1 ndL.2.1
  have ndQ:=List.nodup_append.1 ndP.2.1
  have memV:∀k',k'∈v.iB->∀k2,(k2∈vL.iB\/k2∈bg p\/k2∈bg q)->k2≠k':=by
    intro k' hk' k2 hk2
    rcases hk2 with h|h|h
    · exact ndL.2.2 k2 h k' (by simp[hk'])
    · exact ndP.2.2 k2 h k' (by simp[hk'])
    · exact fun e=>ndQ.2.2 k' hk' k2 h e.symm
  have frP:∀k2,(k2∈vL.iB\/k2∈bg p\/k2∈bg q)->k2≠m2/\k2∉v.iB/\k2≠nb:=by
    intro k2 hk2
    have hin:k2∈bg (vL::vs):=by
      rw[epq,aU,nG,aU]
      simp only[List.mem_append]
      rcases hk2 with h|h|h<;>simp[h]
    refine⟨?_,fun hm=>memV k2 hm k2 hk2 rfl,fun e=>hs1 (e ▸ hin)⟩
    rintro rfl
    refine fr ?_
    rw[aU]at hin
    rw[aU,aU]
    simp only[List.mem_append]at hin ⊢
    rcases hin with h|h<;>simp[h]
  refine hK _ ⟨bs,j,vL,.ms nb 0 (xK s.blocks L x).length,vs.set L (.ms m2 0 (b.i.length+1)),h1,h2,h3,by rw[Da];exact k4,?_⟩ fun q' d hq hd=>?_
  · refine⟨cw h6.oL fun k' hk'=>?_,Or.inr ⟨nb,by rw[ga hvs],k5⟩,hvs,fun k' v' b' hv' hb'=>?_,?_⟩
    · obtain⟨q1,q2,q3⟩:=frP k' (Or.inl hk')
      exact k6 k' q1 q2 q3
    · rw[xK,nM hb]at hb'
      rw[List.getElem?_set]at hv' hb'
      by_cases e:L=k'
      · subst e
        rw[if_pos rfl,if_pos hLv]at hv'
        rw[if_pos rfl,if_pos (by rw[hLs];omega)]at hb'
        cases hv';cases hb'
        exact Or.inr ⟨m2,by simp,by rw[k7];simp⟩
      · rw[if_neg e]at hv' hb'
        refine cw (h6.oI k' v' b' hv' hb') fun k2 hk2=>?_
        have hpq:k2∈bg p\/k2∈bg q:=by
          rw[epq]at hv'
          rcases Nat.lt_or_ge k' L with h|h
          · rw[List.getElem?_append_left (by omega)]at hv'
            exact Or.inl (jT (List.mem_of_getElem? hv') hk2)
          · rw[List.getElem?_append_right (by omega)]at hv'
            obtain⟨w,hw⟩:∃w,k'-p.length=w+1:=⟨k'-p.length-1,by omega⟩
            rw[hw,List.getElem?_cons_succ]at hv'
            exact Or.inr (jT (List.mem_of_getElem? hv') hk2)
        obtain⟨q1,q2,q3⟩:=frP k2 (Or.inr hpq)
        exact k6 k2 q1 q2 q3
    · rw[eset,aU,aU,nG,aU]
      show(vL.iB++(nb::(bg p++(m2::bg q)))).Nodup
      have nbp:∀k2,(k2∈vL.iB\/k2∈bg p\/k2∈bg q)->k2≠nb:=fun k2 h=>(frP k2 h).2.2
      have m2p:∀k2,(k2∈vL.iB\/k2∈bg p\/k2∈bg q)->k2≠m2:=fun k2 h=>(frP k2 h).1
      refine List.nodup_append.2 ⟨ndL.1,?_,?_⟩
      · refine List.nodup_cons.2 ⟨?_,List.nodup_append.2 ⟨ndP.1,List.nodup_cons.2 ⟨fun h=>m2p m2 (Or.inr (Or.inr h)) rfl,ndQ.2.1⟩,?_⟩⟩
        · simp only[List.mem_append,List.mem_cons,List.not_mem_nil,or_false,List.singleton_append]
          rintro (h|h|h)
          · exact nbp nb (Or.inr (Or.inl h)) rfl
          · exact b2 h
          · exact nbp nb (Or.inr (Or.inr h)) rfl
        · intro a ha c hc
          rcases List.mem_cons.1 hc with rfl|hc
          · exact m2p a (Or.inr (Or.inl ha))
          · exact ndP.2.2 a ha c (by simp[hc])
      · intro a ha c hc
        rcases List.mem_cons.1 hc with rfl|hc
        · exact nbp a (Or.inl ha)
        rcases List.mem_append.1 hc with hc|hc
        · exact ndL.2.2 a ha c (by simp[hc])
        rcases List.mem_cons.1 hc with rfl|hc
        · exact m2p a (Or.inl ha)
        · exact ndL.2.2 a ha c (by simp[hc])
  · have e0:=keepA q' d hq hd
    have q1:q'≠m2:=by rintro rfl;rw[e0]at f1;cases f1
    have q2:q'∉v.iB:=fun hm=>by have:=nE oV hm;rw[e0]at this;cases this
    have q3:q'≠nb:=by rintro rfl;rw[e0]at h5;cases h5
    rw[k6 q' q1 q2 q3];exact e0
end Go.Am
namespace Go.Am
open Go
theorem eh.len (o:eh):o.e.cells.length=3:=rfl
theorem eh.IP (o:eh):o.e.cells.all D.one=true:=rfl
theorem Term.len (o:Term):o.e.cells.length=13:=rfl
def jv (s:MS) (pre:List Block) (is:List bh) (t:Term):MS:={ s with blocks:=pre++[⟨is,t⟩] }
structure Gk (pre:List Block) (is:List bh) (N:Nat):Prop where
  p:pre.length<=50
  b:∀b∈pre,b.i.length<=100
  i:is.length<=N
theorem Gk.le {pre:List Block}{is is':List bh}{N M:Nat}(b:Gk pre is N) (h:is'.length<=M):Gk pre is' M:=⟨b.p,b.b,h⟩
theorem w5 {α:Type}(l:List α) (a:α) (f:α->α):(l++[a]).modify l.length f=l++[f a]:=by
  rw[nM (a:=a) (by simp)]
  simp
theorem HW {h:Heap}{n k:Nat}{arrs:D}{s:MS}{pre:List Block}{is:List bh}{t:Term}{x:bh}(r:aJ h n k arrs (jv s pre is t)) (hb:Gk pre is 900){KH:D->Heap->Prop}
    (hK:∀h':Heap,aJ h' n k arrs (jv s pre (is++[x]) t)->aD n h h'->KH (.tup []) h'):ah PP aC [.ptr n 0 0,x.e] h KH:=by
  refine Nc (L:=pre.length) r (by simp[jv]) (by have:=hb.p;omega) (fun b hbm=>?_) fun h' r' hk=>hK h' ?_ hk
  · simp only[jv,List.mem_append,List.mem_singleton]at hbm
    rcases hbm with hbm|rfl
    · have:=hb.b b hbm;omega
    · have:=hb.i;simp only;omega
  · have:xK (jv s pre is t).blocks pre.length x=pre++[⟨is++[x],t⟩]:=by simp only[jv,xK];rw[w5]
    rw[this]at r'
    exact r'
def uR:List wN:=[⟨⟨#[97]⟩,1,1,8⟩,⟨⟨#[102]⟩,1,2,4⟩,⟨⟨#[115]⟩,2,1,8⟩,⟨⟨#[112]⟩,3,1,4⟩,⟨⟨#[98]⟩,2,3,4⟩]
def aX:D:=.sl (uR.map wN.e)
def zp (n:Int):Int:=if n=0\/n=2 then 8 else 4
def w6 (d:eh) (a:eh) (n:Int):bh:=⟨3,17,0,d,a,Const (zp n-1),aq⟩
theorem aJ.box {h:Heap}{n k:Nat}{arrs:D}{s:MS}(r:aJ h n k arrs s):∃(bs:List Nat) (j:Nat) (vL vB:D),h n=.box (b6 bs j arrs s vL vB):=by
  obtain⟨bs,j,vL,vB,vs,-,-,-,h1,-⟩:=r.st
  exact⟨_,_,_,_,h1⟩
section
variable {P:Program}{KH:D->Heap->Prop}{K:D->Prop}{h:Heap}
theorem Od {m:Nat}{o:eh}(a:h m=.box o.e):aa P (.ld (.c (.ptr m 0 0)) 3 true) h KH=KH o.e h:=xJ a
theorem zU {m:Nat}{o:eh}(a:h m=.box o.e):af P (.ld (.c (.ptr m 0 0)) 3 true) h K=K o.e:=by rw[wc,Od a]
theorem Nk {m:Nat}{o o':eh}(a:h m=.box o.e):aa P (.st (.c (.ptr m 0 0)) (.c o'.e) 3) h KH=KH .undef (al h m (.box o'.e)):=by
  unfold eh.e eh.cs at *
  exact ND a
theorem sy {n i j o:Nat}(a:(h n).used=true):af P (.fadd (.c (.ptr n i j)) o) h K=K (.ptr n i (j+o)):=by rw[Bs,a];simp
theorem EN {n i j o:Nat}(a:(h n).used=true):aa P (.fadd (.c (.ptr n i j)) o) h KH=KH (.ptr n i (j+o)) h:=by rw[qg,a];simp
end
def D2 (q:Nat):D:=((uR.map wN.e)[q]?).getD .undef
theorem AK (q:Nat) (hq:q<5):(uR.map wN.e)[q]?=some (D2 q)/\(D2 q).cells.length=4/\(D2 q).cells[3]?=some (.int .i64 (zp q)):=by
  have:q=0\/q=1\/q=2\/q=3\/q=4:=by omega
  rcases this with rfl|rfl|rfl|rfl|rfl<;>exact⟨rfl,rfl,rfl⟩
theorem nU (q:Int):zp q=8\/zp q=4:=by unfold zp;split<;>simp
theorem zn {P:Program}{K:D->Prop}{h:Heap}{q:Nat}(hq:q<5):af P (.iadd (.c (.sl (uR.map wN.e))) (.c (.int .i64 (q:Int))) 4) h K=K (.vp (D2 q) 0):=by
  obtain⟨h1,h2,h3⟩:=AK q hq
  have hl:(List.map wN.e uR).length=5:=rfl
  rw[l8,y7,Int.toNat_natCast,h1,hl]
  apply propext
  constructor
  · rintro⟨-,-,h⟩;exact(h _ rfl).2
  · intro hk;exact⟨by omega,by omega,fun d hd=>by cases hd;exact⟨h2,hk⟩⟩
theorem C3 {P:Program}{K:D->Prop}{h:Heap}{q:Nat}(hq:q<5):af P (.ld (.c (.vp (D2 q) 3)) 1 false) h K=K (.int .i64 (zp q)):=by
  rw[wc,y6,ea,(AK q hq).2.2]
theorem C4 {P:Program}{K:D->Prop}{h:Heap}{q:Nat}:af P (.fadd (.c (.vp (D2 q) 0)) 3) h K=K (.vp (D2 q) 3):=rfl
theorem E5 {h:Heap}{n k:Nat}{s:MS}{pre:List Block}{is:List bh}{t:Term}{priv:Bool}(r:aJ h n k aX (jv s pre is t)) (hb:Gk pre is 800) (hk:k<900000){KH:D->Heap->Prop}
    (hK:∀(q:Nat) (d:Nat) (a:eh) (h':Heap),q<5->(priv=false->q≠3)->d<6->xf a->aJ h' n (k+3) aX (jv s pre (is++[w6 (gg d) a q]) t)->aD n h h'->KH (.tup [.int .i64 (q:Int),(gg (d:Int)).e]) h') :
    ah PP cj [.ptr n 0 0,.bool priv] h KH:=by
  refine cU og (ar _ _ _) rfl (nW _ _ _) ?_
  unfold jI
  rw[gK]
  intro m t0
  obtain⟨r1,hne⟩:=r.new t0.free (.box aq.e)
  have k1:aD n h (al h m (.box aq.e)):=aD.new t0.free
  refine cZ r1 (by omega) fun b hA _ r2 k2=>?_
  have hm:=k2 m _ hne (ai _ _ _)
  have k12:=k1.trans k2
  rw[cq]
  refine⟨by omega,?_⟩
  have e5:((b:Int).tmod 5)=((b % 5:Nat):Int):=aT b 5
  rw[e5]
  refine⟨fun qs h'=>∃q:Nat,qs=[.int .i64 (q:Int)]/\q<5/\(priv=false->q≠3)/\aJ h' n (k+1) aX (jv s pre is t)/\h' m=.box aq.e/\aD n h h',?_,?_⟩
  · rintro f hB ⟨q,hq,hq5,hp,r3,hm3,k3⟩
    simp only[List.cons.injEq,and_true]at hq
    rw[hq]
    refine xd r3 (by omega) fun d hC hd r4 k4=>?_
    rw[gK]
    intro m5 t5
    obtain⟨r5,hne5⟩:=r4.new t5.free (.box aq.e)
    have hm4:=(aD.new t5.free:aD n hC (al hC m5 (.box aq.e))) m _ hne (k4 m _ hne hm3)
    have k5:=(k3.trans k4).trans (aD.new t5.free:aD n hC (al hC m5 (.box aq.e)))
    have a5:=ai hC m5 (.box aq.e)
    have hmm:m≠m5:=t5.ne (by rw[k4 m _ hne hm3];simp)
    show aa PP _ (al hC m5 (.box aq.e)) _
    generalize al hC m5 (.box aq.e)=hD at r5 hm4 k5 a5
    have a6:=ai hD m5 (.box (gg (d:Int)).e)
    have r6:=r5.cg a5 hne5 (.box (gg (d:Int)).e)
    have hm6:al hD m5 (.box (gg (d:Int)).e) m=.box aq.e:=by rw[ab _ _ hmm];exact hm4
    rw[Nk a5]
    have k6:aD n h (al hD m5 (.box (gg (d:Int)).e)):=fun q' d' hq' hd'=>by
      have h1:=k5 q' d' hq' hd'
      by_cases e:q'=m5
      · subst e
        exfalso
        have h2:=k4 q' d' hq' (k3 q' d' hq' hd')
        rw[t5.free]at h2;cases h2
      · rw[ab _ _ e];exact h1
    generalize al hD m5 (.box (gg (d:Int)).e)=hE at r6 hm6 k6 a6
    obtain⟨bs,j,vL,vB,e⟩:=r6.box
    have eu:(hE n).used=true:=by rw[e];rfl
    unfold b6 at e
    have w1:IntKind.i64.wrap (zp q-1)=zp q-1:=by rcases nU q with h|h<;>rw[h]<;>rfl
    have w2:IntKind.i32.wrap (zp q-1)=zp q-1:=by rcases nU q with h|h<;>rw[h]<;>rfl
    simp only[↓zU a6,↓sy eu,Nat.zero_add,Nat.reduceAdd,↓qm e (j:=7) rfl,aX,↓zn hq5,↓C4,↓C3 hq5,↓kr,w1,↓HN,↓qf,w2]
    refine sA r6 (by omega) fun o hF ho r7 k7=>?_
    have a7:=k7 m5 _ hne5 a6
    have hm7:=k7 m _ hne hm6
    obtain⟨bs',j',vL',vB',e'⟩:=r7.box
    have eu':(hF n).used=true:=by rw[e'];rfl
    unfold b6 at e'
    simp only[↓zU a7,↓sy eu',Nat.zero_add,Nat.reduceAdd,↓qm e' (j:=7) rfl,aX,↓zn hq5,↓C4,↓C3 hq5,ae,true_and]
    refine AX rh ⟨aY,trivial⟩ ?_
    rw[HO,oG]
    refine⟨kG rfl,?_⟩
    refine HW (x:=w6 (gg d) o q) r7 (hb.le (by have:=hb.i;omega)) fun hG r8 k8=>?_
    have a8:=k8 m5 _ hne5 a7
    have hm8:=k8 m _ hne hm7
    simp only[↓zU a8,↓Nk hm8,↓Od (ai _ _ _)]
    refine hK q d o _ hq5 hp hd ho (r8.cg hm8 hne _) fun q' d' hq' hd'=>?_
    have h1:=k8 q' d' hq' (k7 q' d' hq' (k6 q' d' hq' hd'))
    by_cases ee:q'=m
    · subst ee;rw[t0.free]at hd';cases hd'
    · rw[ab _ _ ee];exact h1
  · rw[dE]
    by_cases h3:b % 5=3
    · have h3':(((b % 5:Nat):Int)=3)=True:=eq_true (by omega)
      simp only[h3',decide_true,↓NR,↓NS,↓NU,↓NT,↓JZ]
      cases priv
      · simp only[Bool.not_false,↓Cd,↓av]
        exact⟨rfl,0,rfl,by omega,fun _=>by omega,r2,hm,k12⟩
      · simp only[Bool.not_true,↓Cd,↓au]
        exact⟨rfl,b % 5,rfl,Nat.mod_lt _ (by omega),fun h=>(by cases h),r2,hm,k12⟩
    · have h3':(((b % 5:Nat):Int)=3)=False:=eq_false (by omega)
      simp only[h3',decide_false,↓NR,↓NS,↓NU,↓NT,↓JZ,↓B3,↓G1,↓au]
      exact⟨rfl,b % 5,rfl,Nat.mod_lt _ (by omega),fun _=>h3,r2,hm,k12⟩
end Go.Am
namespace Go.Am
open Go
def k0 (R:Int) (o:eh):Prop:=∃r:Int,0<=r/\r<R/\o=gg r
def pk (R:Int) (o:eh):Prop:=k0 R o\/∃v:Int,-2147483648<=v/\v<=2147483647/\o=Const v
theorem k0.val {R:Int}{o:eh}(h:k0 R o):pk R o:=Or.inl h
theorem k0.mono {R R':Int}(h:R<=R'){o:eh}(r:k0 R o):k0 R' o:=by obtain⟨a,b,c,d⟩:=r;exact⟨a,b,by omega,d⟩
theorem pk.mono {R R':Int}(h:R<=R'){o:eh}(r:pk R o):pk R' o:=r.imp (k0.mono h) id
theorem xf.o {o:eh}(h:xf o):pk 6 o:=by
  rcases h with⟨b,hb,rfl⟩|⟨v,h1,h2,rfl⟩
  · exact Or.inl ⟨b,by omega,by omega,rfl⟩
  · exact Or.inr ⟨v,by omega,by omega,rfl⟩
theorem cP {b:Nat}(h:b<6):k0 6 (gg (b:Int)):=⟨b,by omega,by omega,rfl⟩
inductive BM (R:Int):bh->Prop
  | mov (d a:eh) (h1:k0 R d) (h2:pk R a):BM R ⟨1,0,0,d,a,aq,aq⟩
  | un (s:Int) (d a:eh) (h0:1<=s/\s<=5) (h1:k0 R d) (h2:pk R a):BM R ⟨2,s,0,d,a,aq,aq⟩
  | bin (s:Int) (d a b:eh) (h0:10<=s/\s<=29) (h1:k0 R d) (h2:pk R a) (h3:pk R b):BM R ⟨3,s,0,d,a,b,aq⟩
  | sel (d a b c:eh) (h1:k0 R d) (h2:pk R a) (h3:pk R b) (h4:pk R c):BM R ⟨4,0,0,d,a,b,c⟩
  | id (s:Int) (d:eh) (h0:1<=s/\s<=7) (h1:k0 R d):BM R ⟨5,s,0,d,aq,aq,aq⟩
  | param (n:Int) (d:eh) (h0:0<=n/\n<3) (h1:k0 R d):BM R ⟨6,0,n,d,aq,aq,aq⟩
  | load (n:Int) (d a:eh) (h0:0<=n/\n<5) (h1:k0 R d) (h2:k0 R a):BM R ⟨7,0,n,d,a,aq,aq⟩
  | store (n:Int) (a b:eh) (h0:0<=n/\n<5) (h1:k0 R a) (h2:pk R b):BM R ⟨8,0,n,aq,a,b,aq⟩
  | atom (s n:Int) (a b:eh) (hs:s=10\/s=22\/s=23\/s=17\/s=18\/s=19) (h0:0<=n/\n<5/\n≠3) (h1:k0 R a) (h2:pk R b):BM R ⟨9,s,n,aq,a,b,aq⟩
  | fence (s:Int) (h0:s=1\/s=2):BM R ⟨10,s,0,aq,aq,aq,aq⟩
theorem BM.mono {R R':Int}(h:R<=R'){x:bh}(i:BM R x):BM R' x:=by
  cases i with
  | mov d a h1 h2=>exact .mov d a (h1.mono h) (h2.mono h)
  | un s d a h0 h1 h2=>exact .un s d a h0 (h1.mono h) (h2.mono h)
  | bin s d a b h0 h1 h2 h3=>exact .bin s d a b h0 (h1.mono h) (h2.mono h) (h3.mono h)
  | sel d a b c h1 h2 h3 h4=>exact .sel d a b c (h1.mono h) (h2.mono h) (h3.mono h) (h4.mono h)
  | id s d h0 h1=>exact .id s d h0 (h1.mono h)
  | param n d h0 h1=>exact .param n d h0 (h1.mono h)
  | load n d a h0 h1 h2=>exact .load n d a h0 (h1.mono h) (h2.mono h)
  | store n a b h0 h1 h2=>exact .store n a b h0 (h1.mono h) (h2.mono h)
  | atom s n a b hs h0 h1 h2=>exact .atom s n a b hs h0 (h1.mono h) (h2.mono h)
  | fence s h0=>exact .fence s h0
def kd (R:Int) (xs:List bh):Prop:=∀(k:Nat) (x:bh),xs[k]?=some x->BM R x/\((x.op=7\/x.op=8\/x.op=9)->∃(j:Nat) (a:eh),k=j+1/\xs[j]?=some (w6 x.a a x.n)/\pk R a)
theorem kd.nil {R:Int}:kd R []:=fun k x h=>by simp at h
theorem kd.one {R:Int}{x:bh}(i:BM R x) (h:¬(x.op=7\/x.op=8\/x.op=9)):kd R [x]:=fun k y hy=>by
  cases k with
  | zero=>simp at hy;subst hy;exact⟨i,fun hx=>absurd hx h⟩
  | succ k=>simp at hy
theorem kd.two {R:Int}{x y:bh}{a:eh}(hx:BM R x) (hy:BM R y) (he:x=w6 y.a a y.n) (ha:pk R a) (hn:¬(x.op=7\/x.op=8\/x.op=9)):kd R [x,y]:=fun k z hz=>by
  match k with
  | 0=>simp at hz;subst hz;exact⟨hx,fun h=>absurd h hn⟩
  | 1=>simp at hz;subst hz;exact⟨hy,fun _=>⟨0,a,rfl,by simp[he],ha⟩⟩
  | k+2=>simp at hz
theorem kd.append {R:Int}{xs ys:List bh}(hx:kd R xs) (hy:kd R ys):kd R (xs++ys):=fun k x h=>by
  rcases Nat.lt_or_ge k xs.length with hk|hk
  · rw[List.getElem?_append_left hk]at h
    obtain⟨h1,h2⟩:=hx k x h
    refine⟨h1,fun ho=>?_⟩
    obtain⟨j,a,e,q,v⟩:=h2 ho
    exact⟨j,a,e,by rw[List.getElem?_append_left (by omega)];exact q,v⟩
  · rw[List.getElem?_append_right hk]at h
    obtain⟨h1,h2⟩:=hy _ x h
    refine⟨h1,fun ho=>?_⟩
    obtain⟨j,a,e,q,v⟩:=h2 ho
    exact⟨xs.length+j,a,by omega,by rw[List.getElem?_append_right (by omega)];simpa using q,v⟩
theorem kd.mono {R R':Int}(h:R<=R'){xs:List bh}(x:kd R xs):kd R' xs:=fun k y hy=>by
  obtain⟨h1,h2⟩:=x k y hy
  refine⟨h1.mono h,fun ho=>?_⟩
  obtain⟨j,a,e,q,v⟩:=h2 ho
  exact⟨j,a,e,q,v.mono h⟩
theorem Bd {d:Nat}{a:eh}{q:Nat}(hd:d<6) (ha:xf a):BM 6 (w6 (gg (d:Int)) a (q:Int)) :=
  .bin 17 _ _ _ (by omega) (cP hd) ha.o (Or.inr ⟨zp q-1,by rcases nU q with h|h<;>omega,by rcases nU q with h|h<;>omega,rfl⟩)
theorem gO {h:Heap}{n k:Nat}{arrs:D}{s:MS}{pre:List Block}{is:List bh}{t:Term}{z:List D}{ps:List (Nat×Nat×Arg)}{KH:D->Heap->Prop}(x:bh) (r:aJ h n k arrs (jv s pre is t)) (hb:Gk pre is 900)
    (hf:q8 z.length (ps.map fun p=>(p.1,p.2.1,p.2.2.get []))=true) (hx:D.agg (fillD z (ps.map fun p=>(p.1,p.2.1,(p.2.2.get []).cells)))=x.e)
    (hK:∀h':Heap,aJ h' n k arrs (jv s pre (is++[x]) t)->aD n h h'->KH (.tup []) h') :
    aa PP (.bld z ps) h fun a h1=>ah PP aC [.ptr n 0 0,a] h1 KH:=by
  rw[oG]
  refine⟨kG hf,?_⟩
  rw[hx]
  exact HW r hb hK
theorem zm {h:Heap}{n k:Nat}{arrs:D}{s:MS}{pre:List Block}{is:List bh}{t:Term}{z:List D}{ps:List (Nat×Nat×Arg)}{KH:D->Heap->Prop}(x:bh) (r:aJ h n k arrs (jv s pre is t)) (hb:Gk pre is 900)
    (hf:q8 z.length (ps.map fun p=>(p.1,p.2.1,p.2.2.get []))=true) (hx:D.agg (fillD z (ps.map fun p=>(p.1,p.2.1,(p.2.2.get []).cells)))=x.e)
    (hK:∀h':Heap,aJ h' n k arrs (jv s pre (is++[x]) t)->aD n h h'->KH (.tup []) h') :
    af PP (.bld z ps) h fun a=>ah PP aC [.ptr n 0 0,a] h KH:=by
  rw[HO];exact gO x r hb hf hx hK
set_option maxHeartbeats 1000000 in
theorem LS {h:Heap}{n k:Nat}{s:MS}{pre:List Block}{is:List bh}{t:Term}(r:aJ h n k aX (jv s pre is t)) (hb:Gk pre is 700) (hk:k<800000){KH:D->Heap->Prop}
    (hK:∀(xs:List bh) (h':Heap),kd 6 xs->xs.length<=2->aJ h' n (k+10) aX (jv s pre (is++xs) t)->aD n h h'->KH (.tup []) h') :
    ah PP dM [.ptr n 0 0] h KH:=by
  refine cU pD (ar _ _ _) rfl (pr _ _) ?_
  unfold kO
  have hb9:Gk pre is 900:=hb.le (by have:=hb.i;omega)
  refine cZ r (by omega) fun b0 h1 _ r1 k1=>?_
  rw[cq]
  refine⟨by omega,?_⟩
  have e16:((b0:Int).tmod 16)=((b0 % 16:Nat):Int):=aT b0 16
  rw[e16]
  have hc16:b0 % 16<16:=Nat.mod_lt _ (by omega)
  generalize b0 % 16=c at hc16
  rw[ml]
  by_cases hc3:c<3
  · simp only[show((c:Int)<3)=True from eq_true (by omega),decide_true,↓av]
    refine cZ r1 (by omega) fun b h2 _ r2 k2=>?_
    rw[cq]
    refine⟨by omega,?_⟩
    rw[show((b:Int).tmod 7)=((b % 7:Nat):Int) from aT b 7,dF,wrap64 (by omega) (by omega)]
    refine xd r2 (by omega) fun d h3 hd r3 k3=>?_
    refine gO ⟨5,1+((b % 7:Nat):Int),0,gg d,aq,aq,aq⟩ r3 hb9 rfl rfl fun h4 r4 k4=>?_
    exact hK _ h4 (.one (.id _ _ (by omega) (cP hd)) (by simp)) (by simp) (r4.le (by omega)) (((k1.trans k2).trans k3).trans k4)
  simp only[show((c:Int)<3)=False from eq_false (by omega),decide_false,↓au]
  rw[ml]
  by_cases hc7:c<7
  · simp only[show((c:Int)<7)=True from eq_true (by omega),decide_true,↓av]
    refine cZ r1 (by omega) fun b h2 _ r2 k2=>?_
    rw[cq]
    refine⟨by omega,?_⟩
    rw[show((b:Int).tmod 20)=((b % 20:Nat):Int) from aT b 20,dF,wrap64 (by omega) (by omega)]
    refine xd r2 (by omega) fun d h3 hd r3 k3=>?_
    refine sA r3 (by omega) fun o h4 ho r4 k4=>?_
    refine sA r4 (by omega) fun p h5 hp r5 k5=>?_
    refine gO ⟨3,10+((b % 20:Nat):Int),0,gg d,o,p,aq⟩ r5 hb9 rfl rfl fun h6 r6 k6=>?_
    exact hK _ h6 (.one (.bin _ _ _ _ (by omega) (cP hd) ho.o hp.o) (by simp)) (by simp) (r6.le (by omega)) (((((k1.trans k2).trans k3).trans k4).trans k5).trans k6)
  simp only[show((c:Int)<7)=False from eq_false (by omega),decide_false,↓au]
  rw[dE]
  by_cases h7:c=7
  · simp only[show((c:Int)=7)=True from eq_true (by omega),decide_true,↓av]
    refine cZ r1 (by omega) fun b h2 _ r2 k2=>?_
    rw[cq]
    refine⟨by omega,?_⟩
    rw[show((b:Int).tmod 5)=((b % 5:Nat):Int) from aT b 5,dF,wrap64 (by omega) (by omega)]
    refine xd r2 (by omega) fun d h3 hd r3 k3=>?_
    refine sA r3 (by omega) fun o h4 ho r4 k4=>?_
    refine gO ⟨2,1+((b % 5:Nat):Int),0,gg d,o,aq,aq⟩ r4 hb9 rfl rfl fun h6 r6 k6=>?_
    exact hK _ h6 (.one (.un _ _ _ (by omega) (cP hd) ho.o) (by simp)) (by simp) (r6.le (by omega)) ((((k1.trans k2).trans k3).trans k4).trans k6)
  simp only[show((c:Int)=7)=False from eq_false (by omega),decide_false,↓au]
  rw[dE]
  by_cases h8:c=8
  · simp only[show((c:Int)=8)=True from eq_true (by omega),decide_true,↓av]
    refine xd r1 (by omega) fun d h3 hd r3 k3=>?_
    refine sA r3 (by omega) fun o h4 ho r4 k4=>?_
    refine sA r4 (by omega) fun p h5 hp r5 k5=>?_
    refine sA r5 (by omega) fun q h6 hq r6 k6=>?_
    refine gO ⟨4,0,0,gg d,o,p,q⟩ r6 hb9 rfl rfl fun h7 r7 k7=>?_
    exact hK _ h7 (.one (.sel _ _ _ _ (cP hd) ho.o hp.o hq.o) (by simp)) (by simp) (r7.le (by omega)) (((((k1.trans k3).trans k4).trans k5).trans k6).trans k7)
  simp only[show((c:Int)=8)=False from eq_false (by omega),decide_false,↓au]
  rw[dE]
  by_cases h9:c=9
  · simp only[show((c:Int)=9)=True from eq_true (by omega),decide_true,↓av]
    refine xd r1 (by omega) fun d h3 hd r3 k3=>?_
    refine sA r3 (by omega) fun o h4 ho r4 k4=>?_
    refine gO ⟨1,0,0,gg d,o,aq,aq⟩ r4 hb9 rfl rfl fun h7 r7 k7=>?_
    exact hK _ h7 (.one (.mov _ _ (cP hd) ho.o) (by simp)) (by simp) (r7.le (by omega)) (((k1.trans k3).trans k4).trans k7)
  simp only[show((c:Int)=9)=False from eq_false (by omega),decide_false,↓au]
  rw[dE]
  by_cases h10:c=10
  · simp only[show((c:Int)=10)=True from eq_true (by omega),decide_true,↓av]
    refine cZ r1 (by omega) fun b h2 _ r2 k2=>?_
    rw[cq]
    refine⟨by omega,?_⟩
    rw[show((b:Int).tmod 3)=((b % 3:Nat):Int) from aT b 3]
    refine xd r2 (by omega) fun d h3 hd r3 k3=>?_
    refine gO ⟨6,0,((b % 3:Nat):Int),gg d,aq,aq,aq⟩ r3 hb9 rfl rfl fun h7 r7 k7=>?_
    exact hK _ h7 (.one (.param _ _ (by omega) (cP hd)) (by simp)) (by simp) (r7.le (by omega)) (((k1.trans k2).trans k3).trans k7)
  simp only[show((c:Int)=10)=False from eq_false (by omega),decide_false,↓au]
  rw[dE]
  by_cases h11:c=11
  · simp only[show((c:Int)=11)=True from eq_true (by omega),decide_true,↓av]
    refine cZ r1 (by omega) fun b h2 _ r2 k2=>?_
    rw[cq]
    refine⟨by omega,?_⟩
    rw[show((b:Int).tmod 2)=((b % 2:Nat):Int) from aT b 2,dF,wrap64 (by omega) (by omega)]
    refine gO ⟨10,1+((b % 2:Nat):Int),0,aq,aq,aq,aq⟩ r2 hb9 rfl rfl fun h7 r7 k7=>?_
    exact hK _ h7 (.one (.fence _ (by omega)) (by simp)) (by simp) (r7.le (by omega)) ((k1.trans k2).trans k7)
  simp only[show((c:Int)=11)=False from eq_false (by omega),decide_false,↓au]
  rw[dE]
  by_cases h12:c=12
  · simp only[show((c:Int)=12)=True from eq_true (by omega),decide_true,↓av]
    refine E5 r1 (hb.le (by have:=hb.i;omega)) (by omega) fun q d a h2 hq hp hd ha r2 k2=>?_
    simp only[↓Jm,↓Jl]
    rw[gK]
    intro m t0
    obtain⟨r3,hne⟩:=r2.new t0.free (.box aq.e)
    have a3:=ai h2 m (.box aq.e)
    have k3:aD n h2 (al h2 m (.box aq.e)):=aD.new t0.free
    show aa PP _ (al h2 m (.box aq.e)) _
    have key:aD n h2 (al (al h2 m (.box aq.e)) m (.box (gg (d:Int)).e)):=by rw[AS];exact aD.new t0.free
    rw[Nk a3]
    have r4:=r3.cg a3 hne (.box (gg (d:Int)).e)
    have a4:=ai (al h2 m (.box aq.e)) m (.box (gg (d:Int)).e)
    generalize al (al h2 m (.box aq.e)) m (.box (gg (d:Int)).e)=h3 at key r4 a4
    have hbl:∀{Q:D->Prop},af PP (.bldS false 1 6 (.int .i64 0) [(0,(.c (.int .i64 10))),(1,(.c (.int .i64 22))),(2,(.c (.int .i64 23))),(3,(.c (.int .i64 17))),(4,(.c (.int .i64 18))),(5,(.c (.int .i64 19)))]) h3 Q=Q (.sl [.int .i64 10,.int .i64 22,.int .i64 23,.int .i64 17,.int .i64 18,.int .i64 19]):=by
      intro Q
      apply propext
      constructor
      · exact fun hh=>hh.2.2.2
      · intro hq
        refine⟨mL rfl,?_,by simp,hq⟩
        intro p hp
        simp[Arg.get]at hp
        rcases hp with rfl|rfl|rfl|rfl|rfl|rfl<;>simp
    simp only[hbl,↓zU a4]
    refine cZ r4 (by omega) fun b h4 _ r5 k5=>?_
    have a5:=k5 m _ hne a4
    simp only[↓zU a5,ae,true_and]
    rw[cq]
    refine⟨by omega,?_⟩
    rw[show((b:Int).tmod 6)=((b % 6:Nat):Int) from aT b 6]
    obtain⟨sv,hsv,hs6⟩:∃sv:Int,([.int .i64 10,.int .i64 22,.int .i64 23,.int .i64 17,.int .i64 18,.int .i64 19]:List D)[b % 6]?=some (.int .i64 sv)/\(sv=10\/sv=22\/sv=23\/sv=17\/sv=18\/sv=19):=by
      have:b % 6=0\/b % 6=1\/b % 6=2\/b % 6=3\/b % 6=4\/b % 6=5:=by omega
      rcases this with e|e|e|e|e|e<;>rw[e]<;>exact⟨_,rfl,by simp⟩
    have hi:∀{h:Heap}{Q:D->Prop},af PP (.iadd (.c (.sl [.int .i64 10,.int .i64 22,.int .i64 23,.int .i64 17,.int .i64 18,.int .i64 19])) (.c (.int .i64 ((b % 6:Nat):Int))) 1) h Q=Q (.vp (.int .i64 sv) 0):=by
      intro h Q
      rw[l8,y7,Int.toNat_natCast,hsv]
      apply propext
      constructor
      · rintro⟨-,-,h⟩;exact(h _ rfl).2
      · intro hq;exact⟨by omega,by simp;omega,fun d hd=>by cases hd;exact⟨rfl,hq⟩⟩
    have hl:∀{h:Heap}{Q:D->Prop},af PP (.ld (.c (.vp (.int .i64 sv) 0)) 1 false) h Q=Q (.int .i64 sv):=fun {h Q}=>by rw[wc,y6,ea];rfl
    simp only[↓hi,↓hl]
    refine sA r5 (by omega) fun o h5 ho r6 k6=>?_
    have a6:=k6 m _ hne a5
    simp only[↓hi,↓hl,↓zU a6,ae,true_and]
    refine zm ⟨9,sv,q,aq,gg d,o,aq⟩ r6 (hb.le (by have:=hb.i;simp;omega)) rfl rfl fun h7 r7 k7=>?_
    rw[List.append_assoc]at r7
    exact hK _ h7 (.two (a:=a) (Bd hd ha) (.atom sv (q:Int) _ _ hs6 ⟨Int.natCast_nonneg q,Int.ofNat_lt.2 hq,fun e=>hp rfl (Int.ofNat_inj.1 e)⟩ (cP hd) ho.o) rfl ha.o (by simp[w6])) (by simp) (r7.le (by omega)) (((((k1.trans k2).trans key).trans k5).trans k6).trans k7)
  simp only[show((c:Int)=12)=False from eq_false (by omega),decide_false,↓au]
  refine E5 r1 (hb.le (by have:=hb.i;omega)) (by omega) fun q d a h2 hq hp hd ha r2 k2=>?_
  simp only[↓Jm,↓Jl]
  rw[gK]
  intro m t0
  obtain⟨r3,hne⟩:=r2.new t0.free (.box aq.e)
  have a3:=ai h2 m (.box aq.e)
  show aa PP _ (al h2 m (.box aq.e)) _
  have key:aD n h2 (al (al h2 m (.box aq.e)) m (.box (gg (d:Int)).e)):=by rw[AS];exact aD.new t0.free
  rw[Nk a3]
  have r4:=r3.cg a3 hne (.box (gg (d:Int)).e)
  have a4:=ai (al h2 m (.box aq.e)) m (.box (gg (d:Int)).e)
  generalize al (al h2 m (.box aq.e)) m (.box (gg (d:Int)).e)=h3 at key r4 a4
  rw[dE]
  by_cases h13:c=13
  · simp only[show((c:Int)=13)=True from eq_true (by omega),decide_true,↓av,↓zU a4]
    refine xd r4 (by omega) fun e h4 he r5 k5=>?_
    have a5:=k5 m _ hne a4
    simp only[↓zU a5,ae,true_and]
    refine zm ⟨7,0,q,gg e,gg d,aq,aq⟩ r5 (hb.le (by have:=hb.i;simp;omega)) rfl rfl fun h7 r7 k7=>?_
    rw[List.append_assoc]at r7
    exact hK _ h7 (.two (a:=a) (Bd hd ha) (.load (q:Int) _ _ ⟨Int.natCast_nonneg q,Int.ofNat_lt.2 hq⟩ (cP he) (cP hd)) rfl ha.o (by simp[w6])) (by simp) (r7.le (by omega)) ((((k1.trans k2).trans key).trans k5).trans k7)
  · simp only[show((c:Int)=13)=False from eq_false (by omega),decide_false,↓au,↓zU a4]
    refine sA r4 (by omega) fun o h4 ho r5 k5=>?_
    have a5:=k5 m _ hne a4
    simp only[↓zU a5,ae,true_and]
    refine zm ⟨8,0,q,aq,gg d,o,aq⟩ r5 (hb.le (by have:=hb.i;simp;omega)) rfl rfl fun h7 r7 k7=>?_
    rw[List.append_assoc]at r7
    exact hK _ h7 (.two (a:=a) (Bd hd ha) (.store (q:Int) _ _ ⟨Int.natCast_nonneg q,Int.ofNat_lt.2 hq⟩ (cP hd) ho.o) rfl ha.o (by simp[w6])) (by simp) (r7.le (by omega)) ((((k1.trans k2).trans key).trans k5).trans k7)
theorem yk {h:Heap}{n k:Nat}{s:MS}{pre:List Block}{is:List bh}{t:Term}(r:aJ h n k aX (jv s pre is t)) (hb:Gk pre is 600) (hk:k<700000){KH:D->Heap->Prop}
    (hK:∀(xs:List bh) (h':Heap),kd 6 xs->xs.length<=8->aJ h' n (k+50) aX (jv s pre (is++xs) t)->aD n h h'->KH (.tup []) h') :
    ah PP bt [.ptr n 0 0] h KH:=by
  refine cU oh (ar _ _ _) rfl (nX _ _) ?_
  unfold jJ
  refine cZ r (by omega) fun b h1 _ r1 k1=>?_
  rw[cq]
  refine⟨by omega,?_⟩
  rw[show((b:Int).tmod 5)=((b % 5:Nat):Int) from aT b 5]
  have hb5:b % 5<5:=Nat.mod_lt _ (by omega)
  generalize b % 5=c at hb5
  unfold gR
  refine⟨fun j q h'=>j<=4/\q=[.int .i64 (j:Int)]/\∃xs:List bh,kd 6 xs/\xs.length<=2*(4-j)/\aJ h' n (k+1+10*(4-j)) aX (jv s pre (is++xs) t)/\aD n h h',c,⟨by omega,rfl,[],.nil,by simp,by simpa using r1.le (by omega),k1⟩,?_⟩
  rintro j f h2 ⟨hj,hq,xs,hx,hl,r2,k2⟩
  simp only[List.cons.injEq,and_true]at hq
  rw[hq,rZ]
  by_cases h0:0<j
  · simp only[show((0:Int)<(j:Int))=True from eq_true (by omega),decide_true,↓av]
    refine LS r2 (hb.le (by have:=hb.i;simp;omega)) (by omega) fun ys h3 hy hyl r3 k3=>?_
    rw[kr,wrap64 (by omega) (by omega)]
    refine⟨rfl,j-1,by omega,by omega,by congr 2;omega,xs++ys,hx.append hy,by simp;omega,?_,k2.trans k3⟩
    rw[List.append_assoc]at r3
    exact r3.le (by omega)
  · simp only[show((0:Int)<(j:Int))=False from eq_false (by omega),decide_false,↓au]
    exact hK xs h2 hx (by omega) (r2.le (by omega)) k2
end Go.Am
namespace Go.Am
open Go
theorem jH {P:Program}{h:Heap}{KH:D->Heap->Prop}{z:List D}{ps:List (Nat×Nat×Arg)}(hf:q8 z.length (ps.map fun p=>(p.1,p.2.1,p.2.2.get []))=true) :
    aa P (.bld z ps) h KH=KH (.agg (fillD z (ps.map fun p=>(p.1,p.2.1,(p.2.2.get []).cells)))) h:=by
  rw[oG,eq_true (kG hf),true_and]
theorem qn {P:Program}{h:Heap}{K:D->Prop}{z:List D}{ps:List (Nat×Nat×Arg)}(hf:q8 z.length (ps.map fun p=>(p.1,p.2.1,p.2.2.get []))=true) :
    af P (.bld z ps) h K=K (.agg (fillD z (ps.map fun p=>(p.1,p.2.1,(p.2.2.get []).cells)))):=by
  rw[HO,jH hf]
inductive BE (N:Nat) (R:Int):Term->Prop
  | jump (a:Nat) (h:a<N):BE N R ⟨1,0,aq,aq,aq,a,0⟩
  | branch (o:eh) (a b:Nat) (ho:k0 R o) (h1:a<N) (h2:b<N):BE N R ⟨2,0,aq,o,aq,a,b⟩
  | barrier (a:Nat) (h:a<N):BE N R ⟨3,0,aq,aq,aq,a,0⟩
  | collect (s:Int) (d a b:eh) (t:Nat) (hs:1<=s/\s<=6) (hd:k0 R d) (ha:pk R a) (hb:pk R b) (h:t<N):BE N R ⟨4,s,d,a,b,t,0⟩
  | exit:BE N R ⟨5,0,aq,aq,aq,0,0⟩
theorem BE.mono {N N':Nat}{R R':Int}(hN:N<=N') (hR:R<=R'){t:Term}(h:BE N R t):BE N' R' t:=by
  cases h with
  | jump a h=>exact .jump a (by omega)
  | branch o a b ho h1 h2=>exact .branch o a b (ho.mono hR) (by omega) (by omega)
  | barrier a h=>exact .barrier a (by omega)
  | collect s d a b t hs hd ha hb h=>exact .collect s d a b t hs (hd.mono hR) (ha.mono hR) (hb.mono hR) (by omega)
  | exit=>exact .exit
structure Nu (N:Nat) (R:Int) (b:Block):Prop where
  xs:kd R b.i
  len:b.i.length<=20
  t:BE N R b.t
def jq (N:Nat) (R:Int) (bs:List Block):Prop:=∀b∈bs,Nu N R b
theorem jq.mono {N N':Nat}{R R':Int}(hN:N<=N') (hR:R<=R'){bs:List Block}(h:jq N R bs):jq N' R' bs:=fun b hb=>⟨(h b hb).xs.mono hR,(h b hb).len,(h b hb).t.mono hN hR⟩
theorem jq.snoc {N:Nat}{R:Int}{bs:List Block}{b:Block}(h:jq N R bs) (hb:Nu N R b):jq N R (bs++[b]):=fun c hc=>by
  rcases List.mem_append.1 hc with hc|hc
  · exact h c hc
  · simp at hc;subst hc;exact hb
theorem jq.nil {N:Nat}{R:Int}:jq N R []:=fun _ h=>by cases h
theorem jq.L1 {N:Nat}{R:Int}{bs:List Block}(h:jq N R bs) (hl:bs.length<=50){is:List bh}{M:Nat}(hi:is.length<=M):Gk bs is M:=⟨hl,fun b hb=>by have:=(h b hb).len;omega,hi⟩
theorem lg {h:Heap}{n k:Nat}{arrs:D}{s:MS}{pre:List Block}{is:List bh}{t0:Term}(r:aJ h n k arrs (jv s pre is t0)) :
    ∃(bs:List Nat) (j:Nat) (vL:D) (nb:Nat),h n=.box (.agg [nu bs,.int .i64 (j:Int),.int .i64 s.group,.int .i64 s.sub,.int .i64 s.regs,.int .i64 0,.int .i64 3,arrs,vL,.ms nb 0 (pre.length+1)])/\(h n).used=true/\(h nb).live=true /\
      (∀(t:Term) {KH:D->Heap->Prop},(∀h',aJ h' n k arrs (jv s pre is t)->aD n h h'->KH .undef h') ->
        aa PP (.iadd (.c (.ms nb 0 (pre.length+1))) (.c (.int .i64 (pre.length:Int))) 14) h fun a h1=>aa PP (.fadd (.c a) 1) h1 fun b h2=>aa PP (.st (.c b) (.c t.e) 13) h2 KH) /\
      (∀(t:Term) {KH:D->Heap->Prop},(∀h',aJ h' n k arrs (jv s pre is t)->aD n h h'->KH .undef h') ->
        af PP (.iadd (.c (.ms nb 0 (pre.length+1))) (.c (.int .i64 (pre.length:Int))) 14) h fun a=>af PP (.fadd (.c a) 1) h fun b=>aa PP (.st (.c b) (.c t.e) 13) h KH):=by
  obtain⟨bs,j,vL,nb,vs,h1,h2,h3,h4,h5,h6⟩:=r.some (by simp[jv])
  have hl:(jv s pre is t0).blocks.length=pre.length+1:=by simp[jv]
  have e4:h n=.box (.agg [nu bs,.int .i64 (j:Int),.int .i64 s.group,.int .i64 s.sub,.int .i64 s.regs,.int .i64 0,.int .i64 3,arrs,vL,.ms nb 0 (pre.length+1)]):=by rw[h4,b6,hl];rfl
  have st:∀(t:Term) {KH:D->Heap->Prop},(∀h',aJ h' n k arrs (jv s pre is t)->aD n h h'->KH .undef h')->aa PP (.st (.c (.ptr nb pre.length 1)) (.c t.e) 13) h KH:=by
    intro t KH hK
    refine I8 (i:=pre.length) h1 h2 h3 h4 h5 h6 (by rw[hl];omega) fun h' r' k'=>hK h' ?_ k'
    have:zR (jv s pre is t0).blocks pre.length t=pre++[⟨is,t⟩]:=by simp only[jv,zR];rw[w5]
    rw[this]at r'
    exact r'
  have c1:((0:Int)<=(pre.length:Int))=True:=eq_true (by omega)
  have c2:((pre.length:Int)<((pre.length+1:Nat):Int))=True:=eq_true (by omega)
  have c3:(∃els,(h nb).row=some (14,els))=True:=eq_true ⟨_,by rw[h5];rfl⟩
  have eu:(h nb).used=true:=by rw[h5];rfl
  refine⟨bs,j,vL,nb,e4,by rw[h4];rfl,by rw[h5];rfl,fun t KH hK=>?_,fun t KH hK=>?_⟩
  · rw[qe,c1,c2,c3]
    simp only[true_and,Int.toNat_natCast,Nat.zero_add,↓EN eu]
    exact st t hK
  · rw[l8,qe,c1,c2,c3]
    simp only[true_and,Int.toNat_natCast,Nat.zero_add,↓sy eu]
    exact st t hK
theorem qt {h:Heap}{n k:Nat}{arrs:D}{s:MS}{bs:List Block}(r:aJ h n k arrs { s with blocks:=bs }) (hl:bs.length<=50){KH:D->Heap->Prop}
    (hK:∀h':Heap,aJ h' n k arrs (jv s bs [] iA)->aD n h h'->KH (.tup []) h'):ah PP aQ [.ptr n 0 0] h KH :=
  Jx r (by simp only;omega) fun h' r' k'=>hK h' r' k'
theorem IC {h:Heap}{n k:Nat}{arrs:D}{s:MS}{v:Int}(r:aJ h n k arrs s){KH:D->Heap->Prop}
    (hK:∀h':Heap,aJ h' n k arrs { s with regs:=v }->aD n h h'->KH .undef h'):aa PP (.st (.c (.ptr n 0 4)) (.c (.int .i64 v)) 1) h KH:=by
  obtain⟨bs,j,vL,vB,vs,h1,h2,h3,h4,h5⟩:=r.st
  rw[jZ,h4]
  refine⟨rfl,by simp,rfl,by simp[b6],?_⟩
  exact hK _ ⟨bs,j,vL,vB,vs,h1,h2,h3,by rw[ai];simp[b6,setCells],h5.box h4 _⟩ aD.self
theorem KU {h:Heap}{n k:Nat}{arrs:D}{s:MS}{v:Int}(r:aJ h n k arrs s){KH:D->Heap->Prop}
    (hK:∀h':Heap,aJ h' n k arrs { s with sub:=v }->aD n h h'->KH .undef h'):aa PP (.st (.c (.ptr n 0 3)) (.c (.int .i64 v)) 1) h KH:=by
  obtain⟨bs,j,vL,vB,vs,h1,h2,h3,h4,h5⟩:=r.st
  rw[jZ,h4]
  refine⟨rfl,by simp,rfl,by simp[b6],?_⟩
  exact hK _ ⟨bs,j,vL,vB,vs,h1,h2,h3,by rw[ai];simp[b6,setCells],h5.box h4 _⟩ aD.self
theorem app_loop {h:Heap}{n k:Nat}{arrs:D}{s:MS}{l:Loop}{bytes:Nat}{z z':D}(r:aJ h n k arrs s) (hl:s.loops.length<=1000) (hby:bytes<=1000){bs0:List Nat}{j0:Nat}{vL:D}{vB:D}(e:h n=.box (b6 bs0 j0 arrs s vL vB)){KH:D->Heap->Prop}
    (hK:∀h':Heap,aJ h' n k arrs { s with loops:=s.loops++[l] }->aD n h h'->KH .undef h') :
    aa PP (.bldS true 3 1 z [(0,.c l.e)]) h fun x h1=>aa PP (.app (.c vL) (.c x) 3 bytes z') h1 fun v h2=>aa PP (.fadd (.c (.ptr n 0 0)) 0) h2 fun a h3=>aa PP (.fadd (.c a) 2) h3 fun b h4=>aa PP (.fadd (.c b) 6) h4 fun c h5=>aa PP (.st (.c c) (.c v) 1) h5 KH:=by
  obtain⟨bs,j,vL',vB',vs,h1,h2,h3,h4,h5⟩:=r.st
  have ee:vL=vL'/\vB=vB'/\bs0=bs/\j0=j:=by
    rw[e]at h4
    simp only[b6,Slot.box.injEq,D.agg.injEq,List.cons.injEq,D.int.injEq,and_true,true_and,nu,D.sl.injEq]at h4
    obtain⟨q1,q2,q3,q4⟩:=h4
    refine⟨q3,q4,?_,by omega⟩
    have:=congrArg (List.map (fun d=>match d with|D.int _ i=>i.toNat|_=>0)) q1
    simpa[List.map_map,Function.comp_def] using this
  obtain⟨rfl,rfl,rfl,rfl⟩:=ee
  have hbb:((List.map Loop.e s.loops).length+1)*bytes<=140737488355328:=by
    rw[List.length_map]
    exact Nat.le_trans (Nat.mul_le_mul (show s.loops.length+1<=1001 by omega) hby) (by omega)
  refine Bj h5.oL (Loop.kI l) rfl hbb (by rw[List.length_map];omega) fun m h' f1 f2 f3=>?_
  have hnm:n≠m:=by rintro rfl;rw[h4]at f1;cases f1
  have hnL:n∉vL.iB:=fun hm=>by have:=nE h5.oL hm;rw[h4]at this;cases this
  have h4':h' n=h n:=f3 n hnm hnL (by rw[h4];simp)
  have eu:(h' n).used=true:=by rw[h4',h4];rfl
  simp only[↓EN eu,Nat.zero_add,Nat.reduceAdd]
  rw[jZ,h4',h4]
  refine⟨rfl,by simp,rfl,by simp[b6],?_⟩
  have hnew:∀k',k'∈bg (vL::vB::vs)->h k'≠.free:=fun k' hk'=>by obtain⟨e,l,hkl⟩:=h5.arr hk';rw[hkl];simp
  have hmn:m∉bg (vL::vB::vs):=fun hm=>hnew m hm f1
  have hnd:=h5.nd
  rw[aU]at hnd hmn
  simp only[List.mem_append,not_or]at hmn
  have hnd':=List.nodup_append.1 hnd
  have same:∀{x:Slot}(k':Nat),k'∈bg (vB::vs)->(al h' n x) k'=h k':=by
    intro x k' hk'
    have hkk:k'∈bg (vL::vB::vs):=by rw[aU];exact List.mem_append_right _ hk'
    have e1:k'≠n:=by
      rintro rfl
      obtain⟨e,l,hkl⟩:=h5.arr hkk
      rw[h4]at hkl;cases hkl
    have e2:k'≠m:=by rintro rfl;exact hmn.2 hk'
    have e3:k'∉vL.iB:=fun hL=>hnd'.2.2 k' hL k' hk' rfl
    rw[ab _ _ e1]
    exact f3 k' e2 e3 (hnew k' hkk)
  refine hK _ ⟨bs0,j0,.ms m 0 ((List.map Loop.e s.loops).length+1),vB,vs,h1,h2,h3,by rw[ai];simp[b6,setCells],?_⟩ fun q d hq hd=>?_
  · refine⟨Or.inr ⟨m,by simp,by rw[ab _ _ hnm.symm,f2];simp⟩,cw h5.oB fun k' q=>same k' (jT (by simp) q),h5.len,fun i v b hv hb=>cw (h5.oI i v b hv hb) fun k' q=>same k' (jT ?_ q),?_⟩
    · have:=List.mem_of_getElem? hv
      simp[this]
    · rw[aU]
      exact List.nodup_cons.2 ⟨hmn.2,hnd'.2.1⟩
  · rw[ab _ _ hq]
    have e2:q≠m:=by rintro rfl;rw[hd]at f1;cases f1
    have e3:q∉vL.iB:=fun hm=>by have:=nE h5.oL hm;rw[hd]at this;cases this
    rw[f3 q e2 e3 (by rw[hd];simp)];exact hd
structure BF (h:Heap) (n k:Nat) (arrs:D) (s:MS) (vL vB:D):Prop where
  st:∃(bs:List Nat) (j:Nat) (vs:List D),(∀b∈bs,b<=255)/\bs.length<=9223372036854775807/\j<=k/\h n=.box (b6 bs j arrs s vL vB)/\Rows h s.loops s.blocks vL vB vs
theorem BF.rel {h:Heap}{n k:Nat}{arrs:D}{s:MS}{vL vB:D}(r:BF h n k arrs s vL vB):aJ h n k arrs s:=by
  obtain⟨bs,j,vs,h1,h2,h3,h4,h5⟩:=r.st
  exact⟨bs,j,vL,vB,vs,h1,h2,h3,h4,h5⟩
theorem aJ.v {h:Heap}{n k:Nat}{arrs:D}{s:MS}(r:aJ h n k arrs s):∃vL vB,BF h n k arrs s vL vB:=by
  obtain⟨bs,j,vL,vB,vs,h1,h2,h3,h4,h5⟩:=r.st
  exact⟨vL,vB,bs,j,vs,h1,h2,h3,h4,h5⟩
theorem BF.new {h:Heap}{n k:Nat}{arrs:D}{s:MS}{vL vB:D}(r:BF h n k arrs s vL vB){m:Nat}(hm:h m=.free) (x:Slot):BF (al h m x) n k arrs s vL vB/\m≠n:=by
  obtain⟨bs,j,vs,h1,h2,h3,h4,h5⟩:=r.st
  have hne:n≠m:=by rintro rfl;rw[h4]at hm;cases hm
  exact⟨⟨bs,j,vs,h1,h2,h3,by rw[ab _ _ hne];exact h4,h5.free hm x⟩,hne.symm⟩
theorem BF.cg {h:Heap}{n k:Nat}{arrs:D}{s:MS}{vL vB:D}(r:BF h n k arrs s vL vB){m:Nat}{d:D}(hm:h m=.box d) (hne:m≠n) (x:Slot):BF (al h m x) n k arrs s vL vB:=by
  obtain⟨bs,j,vs,h1,h2,h3,h4,h5⟩:=r.st
  exact⟨bs,j,vs,h1,h2,h3,by rw[ab _ _ hne.symm];exact h4,h5.box hm x⟩
theorem BF.le {h:Heap}{n k k':Nat}{arrs:D}{s:MS}{vL vB:D}(r:BF h n k arrs s vL vB) (hk:k<=k'):BF h n k' arrs s vL vB:=by
  obtain⟨bs,j,vs,h1,h2,h3,h4,h5⟩:=r.st
  exact⟨bs,j,vs,h1,h2,by omega,h4,h5⟩
theorem uP {h:Heap}{n k:Nat}{arrs:D}{s:MS}{vL vB:D}(r:BF h n k arrs s vL vB) (hk:k<1000000){KH:D->Heap->Prop}(hK:∀(b:Nat) (h':Heap),b<=255->BF h' n (k+1) arrs s vL vB->aD n h h'->KH (.int .i64 (b:Int)) h') :
    ah PP aj [.ptr n 0 0] h KH:=by
  obtain⟨bs,j,vs,h1,h2,h3,h4,h5⟩:=r.st
  refine Bv h4 h1 h2 (by omega) fun b hb=>hK b _ hb ⟨bs,j+1,vs,h1,h2,by omega,ai _ _ _,h5.box h4 _⟩ aD.self
theorem DS {vL vB:D}{h:Heap}{n k:Nat}{arrs:D}{s:MS}(r:BF h n k arrs s vL vB) (hk:k<1000000){KH:D->Heap->Prop}(hK:∀(b:Nat) (h':Heap),b<6->BF h' n (k+1) arrs s vL vB->aD n h h'->KH (gg (b:Int)).e h') :
    ah PP aM [.ptr n 0 0] h KH:=by
  refine cU jn (ar _ _ _) rfl (jl _ _) ?_
  unfold gQ
  rw[gK]
  intro m t
  obtain⟨r1,hne⟩:=r.new t.free (.box (.agg [(.int .i64 0),(.int .i64 0),(.int .i32 0)]))
  refine uP r1 hk fun b h' hb r2 hkeep=>?_
  have hm:=hkeep m _ hne (ai _ _ _)
  have e6:((b:Int).tmod 6)=((b % 6:Nat):Int):=aT b 6
  rw[cq]
  refine⟨by omega,?_⟩
  rw[e6]
  refine ec sB ⟨aY,trivial⟩ ?_
  simp only[↓jZ,hm]
  refine⟨by first|rfl|trivial,(eh.kI _).one,by first|rfl|trivial,by simp,?_⟩
  have hset:setCells (.agg [(.int .i64 0),(.int .i64 0),(.int .i32 0)]) 0 (gg ((b % 6:Nat):Int)).e.cells=(gg ((b % 6:Nat):Int)).e:=rfl
  rw[hset]
  simp only[↓v7,ai,true_and]
  refine⟨by simp[eh.e,eh.cs],?_⟩
  refine hK (b % 6) _ (Nat.mod_lt _ (by omega)) (r2.cg hm hne _) fun q d hq hd=>?_
  have hqm:q≠m:=by rintro rfl;rw[t.free]at hd;cases hd
  rw[ab _ _ hqm]
  exact hkeep q d hq (by rw[ab _ _ hqm];exact hd)
theorem HV {vL vB:D}{h:Heap}{n k:Nat}{arrs:D}{s:MS}(r:BF h n k arrs s vL vB) (hk:k<1000000){KH:D->Heap->Prop}(hK:∀(o:eh) (h':Heap),xf o->BF h' n (k+1) arrs s vL vB->aD n h h'->KH o.e h') :
    ah PP aI [.ptr n 0 0] h KH:=by
  refine cU jm (ar _ _ _) rfl (jj _ _) ?_
  unfold gP
  rw[gK]
  intro m t
  obtain⟨r1,hne⟩:=r.new t.free (.box (.agg [(.int .i64 0),(.int .i64 0),(.int .i32 0)]))
  refine uP r1 hk fun b h' hb r2 hkeep=>?_
  have hm:=hkeep m _ hne (ai _ _ _)
  have fin:∀o:eh,xf o->aa PP (.st (.c (.ptr m 0 0)) (.c o.e) 3) h' fun _ h1=>aa PP (.ld (.c (.ptr m 0 0)) 3 true) h1 fun a _=>KH a h1:=by
    intro o ho
    simp only[↓jZ,hm]
    refine⟨by first|rfl|trivial,(eh.kI _).one,by first|rfl|trivial,by simp[eh.e,eh.cs],?_⟩
    have hset:setCells (.agg [(.int .i64 0),(.int .i64 0),(.int .i32 0)]) 0 o.e.cells=o.e:=rfl
    rw[hset]
    simp only[↓v7,ai,true_and]
    refine⟨by simp[eh.e,eh.cs],?_⟩
    refine hK o _ ho (r2.cg hm hne _) fun q d hq hd=>?_
    have hqm:q≠m:=by rintro rfl;rw[t.free]at hd;cases hd
    rw[ab _ _ hqm]
    exact hkeep q d hq (by rw[ab _ _ hqm];exact hd)
  have e3:((b:Int).tmod 3)=((b % 3:Nat):Int):=aT b 3
  have d3:IntKind.i64.wrap ((b:Int).tdiv 3)=((b / 3:Nat):Int):=by
    have:((b:Int).tdiv 3)=((b / 3:Nat):Int):=(Int.ofNat_tdiv b 3).symm
    rw[this];exact wrap64 (by omega) (by omega)
  rw[cq]
  refine⟨by omega,?_⟩
  rw[e3,dE]
  by_cases hc:b % 3=0
  · have hc':((b % 3:Nat):Int)=0:=by omega
    simp only[hc',decide_true,av,↓Ei]
    refine⟨by omega,?_⟩
    have w:IntKind.i32.wrap ((b / 3:Nat):Int)=((b / 3:Nat):Int):=by simp only[IntKind.wrap,IntKind.signed,IntKind.bits];simp;omega
    have w2:IntKind.i32.wrap (((b / 3:Nat):Int)-20)=((b / 3:Nat):Int)-20:=by simp only[IntKind.wrap,IntKind.signed,IntKind.bits];simp;omega
    rw[d3,qf,w,kr,w2]
    refine ec rh ⟨aY,trivial⟩ ?_
    exact fin _ (Or.inr ⟨_,by omega,by omega,rfl⟩)
  · have hc':¬((b % 3:Nat):Int)=0:=by omega
    simp only[hc',decide_false,au,↓Ei]
    refine⟨by omega,?_⟩
    rw[d3,cq]
    refine⟨by omega,?_⟩
    have e6:(((b / 3:Nat):Int).tmod 6)=((b / 3 % 6:Nat):Int):=aT (b / 3) 6
    rw[e6]
    refine ec sB ⟨aY,trivial⟩ ?_
    exact fin _ (Or.inl ⟨b / 3 % 6,Nat.mod_lt _ (by omega),rfl⟩)
theorem dP {h:Heap}{n k:Nat}{arrs:D}{s:MS}{pre:List Block}{is:List bh}{t0:Term}{vL vB:D}(r:BF h n k arrs (jv s pre is t0) vL vB) :
    ∃(bs:List Nat) (j:Nat) (nb:Nat),vB=.ms nb 0 (pre.length+1)/\h n=.box (.agg [nu bs,.int .i64 (j:Int),.int .i64 s.group,.int .i64 s.sub,.int .i64 s.regs,.int .i64 0,.int .i64 3,arrs,vL,vB])/\(h n).used=true /\
      (∀(t:Term) {KH:D->Heap->Prop},(∀h',aJ h' n k arrs (jv s pre is t)->aD n h h'->KH .undef h') ->
        af PP (.iadd (.c vB) (.c (.int .i64 (pre.length:Int))) 14) h fun a=>af PP (.fadd (.c a) 1) h fun b=>aa PP (.st (.c b) (.c t.e) 13) h KH):=by
  obtain⟨bs,j,vs,h1,h2,h3,h4,h5⟩:=r.st
  obtain⟨bs',j',vL',nb',e',eu,-,-,st⟩:=lg r.rel
  rw[h4]at e'
  simp only[b6,Slot.box.injEq,D.agg.injEq,List.cons.injEq,and_true]at e'
  obtain⟨q1,-,-,-,-,-,-,-,q3,q4⟩:=e'
  refine⟨bs,j,nb',q4,by rw[h4];rfl,eu,fun t KH hK=>?_⟩
  rw[q4]
  exact st t hK
theorem Ez {esz:Nat}{h:Heap}{v:D}{els:List D}(ho:Own esz h v els){K:D->Prop}:bj v h K=K (.int .i64 (els.length:Int)):=by
  rcases ho with⟨rfl,rfl⟩|⟨m,rfl,hm⟩
  · rfl
  · rw[nr,hm];simp[Slot.live]
theorem Eu {h:Heap}{n k:Nat}{arrs:D}{s:MS}(r:aJ h n k arrs s):∃(bs:List Nat) (j:Nat) (vL vB:D),
    h n=.box (b6 bs j arrs s vL vB)/\(h n).used=true/\(∀K:D->Prop,bj vL h K=K (.int .i64 (s.loops.length:Int))):=by
  obtain⟨bs,j,vL,vB,vs,h1,h2,h3,h4,h5⟩:=r.st
  exact⟨bs,j,vL,vB,h4,by rw[h4];rfl,fun K=>by rw[Ez h5.oL,List.length_map]⟩
def Dr (s:MS) (hd:Nat) (b:Int):MS:={ s with regs:=6+2*(s.loops.length:Int)+2,loops:=s.loops++[⟨(hd:Int),6+2*(s.loops.length:Int),b⟩] }
set_option maxHeartbeats 2000000 in
theorem LQ {h:Heap}{n k:Nat}{s:MS}{pre:List Block}{is:List bh}{t:Term}(r:aJ h n k aX (jv s pre is t)) (hA:jq (pre.length+1) s.regs pre) (hX:kd s.regs is) (hi:is.length<=10) (hp:pre.length<=40)
    (hq:s.loops.length<=10) (hR:s.regs=6+2*(s.loops.length:Int)) (hk:k<600000) {KH:D->Heap->Prop}
    (hK:∀(b:Int) (bs:List Block) (h':Heap),1<=b->b<=3->bs.length=pre.length+3->jq (pre.length+4) (s.regs+2) bs->aJ h' n (k+100) aX { Dr s (pre.length+1) b with blocks:=bs }->aD n h h'->KH (.tup []) h') :
    ah PP bR [.ptr n 0 0] h KH:=by
  refine cU pC (ar _ _ _) rfl (pq _ _) ?_
  unfold kN
  obtain⟨bs0,j0,vL0,vB0,e0,eu0,el0⟩:=Eu r
  unfold b6 at e0
  have el0':∀K:D->Prop,bj vL0 h K=K (.int .i64 (s.loops.length:Int)):=el0
  generalize hqe:s.loops.length=q at *
  simp only[↓EN eu0,Nat.zero_add,Nat.reduceAdd,↓Gj e0 (j:=8) rfl,el0']
  rw[Ek,wrap64 (by omega) (by omega),dF,wrap64 (by omega) (by omega)]
  refine cZ r (by omega) fun b h1 _ r1 k1=>?_
  rw[cq]
  refine⟨by omega,?_⟩
  rw[show((b:Int).tmod 3)=((b % 3:Nat):Int) from aT b 3,dF,wrap64 (by omega) (by omega),dF,wrap64 (by omega) (by omega)]
  have hb3:b % 3<3:=Nat.mod_lt _ (by omega)
  generalize hbe:1+((b % 3:Nat):Int)=bd
  have hbd1:1<=bd:=by omega
  have hbd2:bd<=3:=by omega
  obtain⟨-,-,-,-,-,eu1,-⟩:=Eu r1
  simp only[↓EN eu1,Nat.zero_add,Nat.reduceAdd]
  refine IC (v:=6+2*(q:Int)+2) r1 fun h2 r2 k2=>?_
  have r2:aJ h2 n (k+1) aX (jv { s with regs:=6+2*(q:Int)+2 } pre is t):=r2
  obtain⟨bs2,j2,vL2,nb2,e2,eu2,lv2,-,-⟩:=lg r2
  simp only[↓EN eu2,Nat.zero_add,Nat.reduceAdd,↓Gj e2 (j:=9) rfl,↓nr,lv2,true_and]
  refine ec sB ⟨aY,trivial⟩ ?_
  refine ec rh ⟨aY,trivial⟩ ?_
  have hB9:∀{is':List bh},is'.length<=900->Gk pre is' 900:=fun hh=>hA.L1 (by omega) hh
  refine gO ⟨1,0,0,gg (6+2*(q:Int)),Const 0,aq,aq⟩ r2 (hB9 (by omega)) rfl rfl fun h3 r3 k3=>?_
  obtain⟨bs3,j3,vL3,nb3,e3,eu3,lv3,Ka,-⟩:=lg r3
  simp only[↓EN eu3,Nat.zero_add,Nat.reduceAdd,↓Gj e3 (j:=9) rfl]
  rw[kr,wrap64 (by omega) (by omega),jH rfl,jH rfl,show((pre.length+1:Nat):Int)-1=(pre.length:Int) by omega]
  refine Ka ⟨1,0,aq,aq,aq,((pre.length+1:Nat):Int),0⟩ fun h4 r4 k4=>?_
  have kk4:=(((k1.trans k2).trans k3).trans k4)
  refine⟨fun qs h'=>qs=[.ptr n 0 0,.int .i64 (6+2*(q:Int)),.int .i64 bd,.int .i64 ((pre.length+1:Nat):Int)] /\
    aJ h' n (k+1) aX (jv (Dr s (pre.length+1) bd) pre (is++[⟨1,0,0,gg (6+2*(q:Int)),Const 0,aq,aq⟩]) ⟨1,0,aq,aq,aq,((pre.length+1:Nat):Int),0⟩)/\aD n h h',?_,?_⟩
  · rintro f h5 ⟨hf,r5,k5⟩
    simp only[List.cons.injEq,and_true]at hf
    obtain⟨f0,f2,f3,f4⟩:=hf
    rw[f0,f2,f3,f4]
    clear Ka e3 e2 e0
    have hreg:(Dr s (pre.length+1) bd).regs=s.regs+2:=by simp only[Dr,hqe];omega
    have rn:k0 (s.regs+2) (gg (6+2*(q:Int))):=⟨_,by omega,by omega,rfl⟩
    have rn1:k0 (s.regs+2) (gg (6+2*(q:Int)+1)):=⟨_,by omega,by omega,rfl⟩
    obtain⟨B1,hB1⟩:∃B:Block,B=⟨is++[⟨1,0,0,gg (6+2*(q:Int)),Const 0,aq,aq⟩],⟨1,0,aq,aq,aq,((pre.length+1:Nat):Int),0⟩⟩:=⟨_,rfl⟩
    have A1:jq (pre.length+4) (s.regs+2) (pre++[B1]):=(hA.mono (by omega) (by omega)).snoc (by
      rw[hB1]
      exact⟨(hX.mono (by omega)).append (.one (.mov _ _ rn (Or.inr ⟨0,by omega,by omega,rfl⟩)) (by simp)),by simp;omega,.jump (pre.length+1) (by omega)⟩)
    have r5':aJ h5 n (k+1) aX { Dr s (pre.length+1) bd with blocks:=pre++[B1] }:=by rw[hB1];exact r5
    have l1:(pre++[B1]).length=pre.length+1:=by simp
    clear hB1 r5
    generalize pre++[B1]=pre1 at A1 r5' l1
    refine qt r5' (by omega) fun h6 r6 k6=>?_
    rw[dF,wrap64 (by omega) (by omega)]
    refine ec sB ⟨aY,trivial⟩ ?_
    refine ec sB ⟨aY,trivial⟩ ?_
    rw[qf,show IntKind.i32.wrap bd=bd by simp only[IntKind.wrap,IntKind.signed,IntKind.bits];simp;omega]
    refine ec rh ⟨aY,trivial⟩ ?_
    refine gO ⟨3,26,0,gg (6+2*(q:Int)+1),gg (6+2*(q:Int)),Const bd,aq⟩ r6 (A1.L1 (by omega) (by simp)) rfl rfl fun h7 r7 k7=>?_
    obtain⟨bs7,j7,vL7,nb7,e7,eu7,lv7,-,st7⟩:=lg r7
    simp only[↓sy eu7,Nat.zero_add,Nat.reduceAdd,↓qm e7 (j:=9) rfl]
    rw[dF,wrap64 (by omega) (by omega)]
    refine AX sB ⟨aY,trivial⟩ ?_
    rw[dF,wrap64 (by omega) (by omega),dF,wrap64 (by omega) (by omega),qn rfl,qn rfl]
    rw[l1]at st7 ⊢
    refine st7 ⟨2,0,aq,gg (6+2*(q:Int)+1),aq,((pre.length+1:Nat):Int)+1,((pre.length+1:Nat):Int)+2⟩ fun h8 r8 k8=>?_
    obtain⟨B2,hB2⟩:∃B:Block,B=⟨[]++[⟨3,26,0,gg (6+2*(q:Int)+1),gg (6+2*(q:Int)),Const bd,aq⟩],⟨2,0,aq,gg (6+2*(q:Int)+1),aq,((pre.length+1:Nat):Int)+1,((pre.length+1:Nat):Int)+2⟩⟩:=⟨_,rfl⟩
    have A2:jq (pre.length+4) (s.regs+2) (pre1++[B2]):=A1.snoc (by
      rw[hB2]
      exact⟨.one (.bin _ _ _ _ (by omega) rn1 rn.val (Or.inr ⟨bd,by omega,by omega,rfl⟩)) (by simp),by simp,.branch _ (pre.length+2) (pre.length+3) rn1 (by omega) (by omega)⟩)
    have r8':aJ h8 n (k+1) aX { Dr s (pre.length+1) bd with blocks:=pre1++[B2] }:=by rw[hB2];exact r8
    have l2:(pre1++[B2]).length=pre.length+2:=by simp;omega
    clear hB2 r8 st7 e7
    generalize pre1++[B2]=pre2 at A2 r8' l2
    refine qt r8' (by omega) fun h9 r9 k9=>?_
    refine ec sB ⟨aY,trivial⟩ ?_
    refine ec sB ⟨aY,trivial⟩ ?_
    refine ec rh ⟨aY,trivial⟩ ?_
    refine gO ⟨3,10,0,gg (6+2*(q:Int)),gg (6+2*(q:Int)),Const 1,aq⟩ r9 (A2.L1 (by omega) (by simp)) rfl rfl fun h10 r10 k10=>?_
    refine yk r10 (A2.L1 (by omega) (by simp)) (by omega) fun xs h11 hxs hxl r11 k11=>?_
    obtain⟨bs11,j11,vL11,nb11,e11,eu11,lv11,st11,-⟩:=lg r11
    simp only[↓EN eu11,Nat.zero_add,Nat.reduceAdd,↓Gj e11 (j:=9) rfl]
    rw[dF,wrap64 (by omega) (by omega),jH rfl,jH rfl]
    rw[l2]at st11 ⊢
    rw[show((pre.length+1:Nat):Int)+1=((pre.length+2:Nat):Int) by omega]
    refine st11 ⟨1,0,aq,aq,aq,((pre.length+1:Nat):Int),0⟩ fun h12 r12 k12=>?_
    clear st11 e11
    have hxs2:kd (s.regs+2) ([]++[⟨3,10,0,gg (6+2*(q:Int)),gg (6+2*(q:Int)),Const 1,aq⟩]++xs) :=
      (kd.one (.bin _ _ _ _ (by omega) rn rn.val (Or.inr ⟨1,by omega,by omega,rfl⟩)) (by simp)).append (hxs.mono (by omega))
    have hxl2:([]++[⟨3,10,0,gg (6+2*(q:Int)),gg (6+2*(q:Int)),Const 1,aq⟩]++xs:List bh).length<=20:=by simp;omega
    generalize ([]++[⟨3,10,0,gg (6+2*(q:Int)),gg (6+2*(q:Int)),Const 1,aq⟩]++xs:List bh)=ys at hxs2 hxl2 r12
    have kk:=((((((k5.trans k6).trans k7).trans k8).trans k9).trans k10).trans k11).trans k12
    refine⟨fun qs h'=>∃c:Bool,qs=[.ptr n 0 0,.int .i64 ((pre.length+1:Nat):Int),.bool c]/\aJ h' n (k+52) aX (jv (Dr s (pre.length+1) bd) pre2 ys ⟨1,0,aq,aq,aq,((pre.length+1:Nat):Int),0⟩)/\aD n h h',?_,?_⟩
    · rintro g h13 ⟨c,hg,r13,k13⟩
      simp only[List.cons.injEq,and_true]at hg
      obtain⟨g0,g4,g119⟩:=hg
      rw[g0,g4,g119]
      cases c with
      | false =>
        rw[au]
        exact hK bd _ h13 hbd1 hbd2 (by simp;omega) (A2.snoc ⟨hxs2,hxl2,.jump (pre.length+1) (by omega)⟩) (r13.le (by omega)) k13
      | true =>
        rw[av]
        obtain⟨vL13,vB13,r13⟩:=r13.v
        obtain⟨bs13,j13,nb13,ev13,e13,eu13,-⟩:=dP r13
        simp only[↓sy eu13,Nat.zero_add,Nat.reduceAdd,↓qm e13 (j:=9) rfl]
        rw[dF,wrap64 (by omega) (by omega),dF,wrap64 (by omega) (by omega),qn rfl]
        refine DS r13 (by omega) fun d h14 hd r14 k14=>?_
        obtain⟨bs14,j14,nb14,ev14,e14,eu14,st14⟩:=dP r14
        simp only[↓sy eu14,Nat.zero_add,Nat.reduceAdd,↓qm e14 (j:=9) rfl,ae,true_and]
        rw[qn rfl,show((pre.length+1:Nat):Int)+1=(pre2.length:Int) by omega]
        refine st14 ⟨2,0,aq,gg d,aq,((pre.length+1:Nat):Int),((pre.length+1:Nat):Int)+2⟩ fun h15 r15 k15=>?_
        exact hK bd _ h15 hbd1 hbd2 (by simp;omega) (A2.snoc ⟨hxs2,hxl2,.branch (gg d) (pre.length+1) (pre.length+3) ((cP hd).mono (by omega)) (by omega) (by omega)⟩) (r15.le (by omega)) ((k13.trans k14).trans k15)
    · refine cZ r12 (by omega) fun b' h13 _ r13 k13=>?_
      rw[cq]
      refine⟨by omega,?_⟩
      rw[dE]
      exact⟨rfl,_,rfl,r13.le (by omega),kk.trans k13⟩
  · obtain⟨bs4,j4,vL4,vB4,e4,eu4,-⟩:=Eu r4
    have e4':=e4
    unfold b6 at e4'
    simp only[↓EN eu4,Nat.zero_add,Nat.reduceAdd,↓Gj e4' (j:=8) rfl]
    rw[jH rfl]
    refine app_loop (l:=⟨((pre.length+1:Nat):Int),6+2*(q:Int),bd⟩) r4 (by simp only[jv];omega) (by omega) e4 fun h5 r5 k5=>?_
    refine⟨by first|rfl|trivial,by first|rfl|trivial,?_,kk4.trans k5⟩
    have:Dr s (pre.length+1) bd={ s with regs:=6+2*(q:Int)+2,loops:=s.loops++[⟨((pre.length+1:Nat):Int),6+2*(q:Int),bd⟩] }:=by rw[Dr,hqe]
    rw[this]
    exact r5
end Go.Am
namespace Go.Am
open Go
set_option maxHeartbeats 2000000 in
theorem CN {h:Heap}{n k m:Nat}{s:MS}{bs:List Block}(r:aJ h n k aX { s with blocks:=bs }) (hA:jq (bs.length+1) s.regs bs) (hl:bs.length<=40) (hR:6<=s.regs) (hm:m<=2) (hk:k<500000){KH:D->Heap->Prop}
    (hK:∀(pre:List Block) (is:List bh) (h':Heap),pre.length=bs.length+m->jq (pre.length+1) s.regs pre->kd 6 is->is.length<=8->aJ h' n (k+300) aX (jv s pre is iA)->aD n h h'->KH (.tup []) h') :
    ah PP bV [.ptr n 0 0,.int .i64 (m:Int)] h KH:=by
  refine cU na (ar _ _ _) rfl (mS _ _ _) ?_
  unfold jk
  refine qt r (by omega) fun h1 r1 k1=>?_
  obtain⟨bs1,j1,vL1,nb1,e1,eu1,lv1,-,-⟩:=lg r1
  simp only[↓EN eu1,Nat.zero_add,Nat.reduceAdd,↓Gj e1 (j:=9) rfl,↓nr,lv1,true_and]
  rw[kr,wrap64 (by omega) (by omega),dF,wrap64 (by omega) (by omega),show((bs.length+1:Nat):Int)-1=(bs.length:Int) by omega]
  refine⟨fun qs h'=>qs=[]/\∃pre:List Block,pre.length=bs.length+m/\jq (pre.length+1) s.regs pre/\aJ h' n (k+200) aX (jv s pre [] iA)/\aD n h h',?_,?_⟩
  · rintro f h2 ⟨-,pre,hpl,hpA,r2,k2⟩
    refine yk r2 (hpA.L1 (by omega) (by simp)) (by omega) fun xs h3 hx hxl r3 k3=>?_
    exact hK pre xs h3 hpl hpA hx hxl (r3.le (by omega)) (k2.trans k3)
  · unfold gd
    refine⟨fun j qs h'=>j<=m/\qs=[.int .i64 ((bs.length+(m-j):Nat):Int)]/\∃pre:List Block,pre.length=bs.length+(m-j)/\jq (bs.length+m+1) s.regs pre/\aJ h' n (k+80*(m-j)) aX (jv s pre [] iA)/\aD n h h',m,⟨Nat.le_refl _,by simp,bs,by simp,hA.mono (by omega) (by omega),by simpa using r1,k1⟩,?_⟩
    rintro j f h2 ⟨hj,hq,pre,hpl,hpA,r2,k2⟩
    simp only[List.cons.injEq,and_true]at hq
    rw[hq,ml,show(bs.length:Int)+(m:Int)=((bs.length+m:Nat):Int) by omega]
    by_cases h0:0<j
    · simp only[show(((bs.length+(m-j):Nat):Int)<((bs.length+m:Nat):Int))=True from eq_true (by omega),decide_true,↓av]
      refine yk r2 (hpA.L1 (by omega) (by simp)) (by omega) fun xs h3 hx hxl r3 k3=>?_
      rw[List.nil_append]at r3
      obtain⟨bs3,j3,vL3,nb3,e3,eu3,lv3,Ka,-⟩:=lg r3
      simp only[↓EN eu3,Nat.zero_add,Nat.reduceAdd,↓Gj e3 (j:=9) rfl]
      rw[dF,wrap64 (by omega) (by omega),jH rfl,jH rfl]
      rw[show((bs.length+(m-j):Nat):Int)+1=((bs.length+(m-j)+1:Nat):Int) by omega]
      rw[hpl]at Ka ⊢
      refine Ka ⟨1,0,aq,aq,aq,((bs.length+(m-j)+1:Nat):Int),0⟩ fun h4 r4 k4=>?_
      clear Ka e3
      have kk4:=(k2.trans k3).trans k4
      refine⟨fun qs h'=>qs=[]/\∃T:Term,BE (bs.length+m+1) s.regs T/\aJ h' n (k+80*(m-j)+60) aX (jv s pre xs T)/\aD n h h',?_,?_⟩
      · rintro g h5 ⟨-,T,hT,r5,k5⟩
        have A5:jq (bs.length+m+1) s.regs (pre++[⟨xs,T⟩]):=hpA.snoc ⟨hx.mono hR,by simp only;omega,hT⟩
        refine qt (bs:=pre++[⟨xs,T⟩]) r5 (by simp;omega) fun h6 r6 k6=>?_
        rw[dF,wrap64 (by omega) (by omega)]
        refine⟨rfl,j-1,by omega,by omega,?_,pre++[⟨xs,T⟩],by simp;omega,A5,r6.le (by omega),k5.trans k6⟩
        congr 2
        omega
      · refine cZ r4 (by omega) fun b h5 _ r5 k5=>?_
        rw[cq]
        refine⟨by omega,?_⟩
        rw[show((b:Int).tmod 2)=((b % 2:Nat):Int) from aT b 2,dE]
        by_cases hb2:b % 2=0
        · simp only[show(((b % 2:Nat):Int)=0)=True from eq_true (by omega),decide_true,↓av]
          obtain⟨vL5,vB5,r5⟩:=r5.v
          obtain⟨bs5,j5,nb5,ev5,e5,eu5,-⟩:=dP r5
          simp only[↓sy eu5,Nat.zero_add,Nat.reduceAdd,↓qm e5 (j:=9) rfl]
          rw[dF,wrap64 (by omega) (by omega),kr,wrap64 (by omega) (by omega),dF,wrap64 (by omega) (by omega),kr,wrap64 (by omega) (by omega)]
          refine DS r5 (by omega) fun d h6 hd r6 k6=>?_
          obtain⟨bs6,j6,nb6,ev6,e6,eu6,-⟩:=dP r6
          simp only[↓sy eu6,Nat.zero_add,Nat.reduceAdd,↓qm e6 (j:=9) rfl,ae,true_and]
          refine uP r6 (by omega) fun x h7 _ r7 k7=>?_
          obtain⟨bs7,j7,nb7,ev7,e7,eu7,-⟩:=dP r7
          simp only[↓sy eu7,Nat.zero_add,Nat.reduceAdd,↓qm e7 (j:=9) rfl,ae,true_and]
          rw[cq]
          refine⟨by omega,?_⟩
          rw[show((bs.length+m:Nat):Int)-((bs.length+(m-j):Nat):Int)=(j:Int) by omega,show((x:Int).tmod (j:Int))=((x % j:Nat):Int) from aT x j]
          have hx1:x % j<j:=Nat.mod_lt _ h0
          rw[dF,wrap64 (by omega) (by omega)]
          refine uP r7 (by omega) fun y h8 _ r8 k8=>?_
          obtain⟨bs8,j8,nb8,ev8,e8,eu8,st8⟩:=dP r8
          simp only[↓sy eu8,Nat.zero_add,Nat.reduceAdd,↓qm e8 (j:=9) rfl,ae,true_and]
          rw[cq]
          refine⟨by omega,?_⟩
          rw[show((y:Int).tmod (j:Int))=((y % j:Nat):Int) from aT y j]
          have hy1:y % j<j:=Nat.mod_lt _ h0
          rw[dF,wrap64 (by omega) (by omega),qn rfl,qn rfl]
          rw[hpl]at st8
          refine st8 ⟨2,0,aq,gg d,aq,((bs.length+(m-j):Nat):Int)+1+((x % j:Nat):Int),((bs.length+(m-j):Nat):Int)+1+((y % j:Nat):Int)⟩ fun h9 r9 k9=>?_
          try simp only[ae,true_and]
          refine⟨_,?_,r9.le (by omega),((((kk4.trans k5).trans k6).trans k7).trans k8).trans k9⟩
          have e1:((bs.length+(m-j):Nat):Int)+1+((x % j:Nat):Int)=((bs.length+(m-j)+1+x % j:Nat):Int):=by omega
          have e2:((bs.length+(m-j):Nat):Int)+1+((y % j:Nat):Int)=((bs.length+(m-j)+1+y % j:Nat):Int):=by omega
          rw[e1,e2]
          exact .branch _ _ _ ((cP hd).mono hR) (by omega) (by omega)
        · simp only[show(((b % 2:Nat):Int)=0)=False from eq_false (by omega),decide_false,↓au]
          try simp only[ae,true_and]
          exact⟨_,.jump _ (by omega),r5.le (by omega),kk4.trans k5⟩
    · simp only[show(((bs.length+(m-j):Nat):Int)<((bs.length+m:Nat):Int))=False from eq_false (by omega),decide_false,↓au]
      have hj0:j=0:=by omega
      subst hj0
      try simp only[ae,true_and]
      exact⟨pre,by omega,by rw[hpl];exact hpA.mono (by omega) (by omega),r2.le (by omega),k2⟩
end Go.Am
namespace Go.Am
open Go
theorem A8 {esz:Nat}{h:Heap}{v:D}{els:List D}(ho:Own esz h v els) (hv:∀x∈els,∀y∈x.cells,y.vone=true):kR h v/\(v.fzc h).vone=true/\v.one=true/\Wk (v.fzc h) (.sl els):=by
  rcases ho with⟨rfl,rfl⟩|⟨m,rfl,hm⟩
  · exact⟨trivial,rfl,rfl,.nil⟩
  · have hrow:(h m).row=some (esz,els):=by rw[hm];rfl
    have e:(D.ms m 0 els.length).fzc h=.sl els:=by simp[D.fzc,hrow]
    exact⟨⟨esz,els,hrow,by simp,fun x hx=>hv x (by simpa using hx)⟩,by rw[e];rfl,rfl,by rw[e];exact .refl _⟩
theorem yZ {l:List bh}:∀x,x∈l.map bh.e->∀y∈x.cells,y.vone=true:=by
  intro x hx y hy
  obtain⟨a,-,rfl⟩:=List.mem_map.1 hx
  simp[bh.e,bh.cs]at hy
  rcases hy with rfl|rfl|rfl|rfl|rfl|rfl|rfl|rfl|rfl|rfl|rfl|rfl|rfl|rfl|rfl<;>rfl
theorem Ds {l:List Loop}:∀x,x∈l.map Loop.e->∀y∈x.cells,y.vone=true:=by
  intro x hx y hy
  obtain⟨a,-,rfl⟩:=List.mem_map.1 hx
  simp[Loop.e]at hy
  rcases hy with rfl|rfl|rfl<;>rfl
theorem mm {t:Term}:∀x∈t.cs,x.vone=true/\x.iB=[]/\(∀h,x.fzc h=x/\kR h x):=by
  intro x hx
  simp[Term.cs]at hx
  rcases hx with rfl|rfl|rfl|rfl|rfl|rfl|rfl|rfl|rfl|rfl|rfl|rfl|rfl<;>exact⟨rfl,rfl,fun h=>⟨rfl,trivial⟩⟩
theorem El {t:Term}{h:Heap}:t.cs.map (D.fzc h)=t.cs:=by
  rw[List.map_congr_left (fun x hx=>((mm x hx).2.2 h).1)];simp
theorem AH {vs:List D}{bs:List Block}(hl:vs.length=bs.length){e:D}(he:e∈bK vs bs):∃(i:Nat) (v:D) (b:Block),vs[i]?=some v/\bs[i]?=some b/\e=.agg (v::b.t.cs):=by
  obtain⟨i,hi⟩:=List.getElem?_of_mem he
  simp only[bK,List.getElem?_zipWith]at hi
  cases hv:vs[i]? with
  | none=>simp[hv]at hi
  | some v =>
    cases hb:bs[i]? with
    | none=>simp[hv,hb]at hi
    | some b=>simp only[hv,hb,Option.some.injEq]at hi;exact⟨i,v,b,hv,hb,hi.symm⟩
theorem Hn {h:Heap}{loops:List Loop}{blocks:List Block}{vL vB:D}{vs:List D}(r:Rows h loops blocks vL vB vs) (hne:blocks≠[]) (g sb rg:Int) :
    ∃h'',Ff h h''/\hO (.agg [.int .i64 g,.int .i64 sb,.int .i64 rg,.int .i64 0,.int .i64 3,aX,vL,vB])/\qD h'' (.agg [.int .i64 g,.int .i64 sb,.int .i64 rg,.int .i64 0,.int .i64 3,aX,vL,vB]) /\
      ((D.agg [.int .i64 g,.int .i64 sb,.int .i64 rg,.int .i64 0,.int .i64 3,aX,vL,vB]).fzt h'').Dd=true /\
      Wk ((D.agg [.int .i64 g,.int .i64 sb,.int .i64 rg,.int .i64 0,.int .i64 3,aX,vL,vB]).fzt h'') (Code.e ⟨g,sb,rg,0,3,uR,loops,blocks⟩):=by
  have hel:=ga r.len
  obtain⟨nb,e1,e2⟩:=ui r.oB (by
    intro he
    have:=congrArg List.length he
    rw[hel]at this
    exact hne (List.length_eq_zero_iff.1 this))
  subst e1
  obtain⟨hs1,hs2⟩:=uk r.nd
  have names:∀k,k∈(bK vs blocks).flatMap D.nm->k∈bg vs:=by
    intro k hk
    obtain⟨e,he,hke⟩:=List.mem_flatMap.1 hk
    obtain⟨i,v,b,hv,hb,rfl⟩:=AH r.len he
    simp only[D.nm,List.mem_flatMap,List.mem_cons]at hke
    obtain⟨x,hx|hx,hkx⟩:=hke
    · subst hx;exact jT (List.mem_of_getElem? hv) hkx
    · rw[(mm x hx).2.1]at hkx;cases hkx
  have hd:Fg h nb 14 (bK vs blocks):=by
    refine⟨fun hm=>hs1 (by rw[aU];exact List.mem_append_right _ (names nb hm)),fun e he=>?_⟩
    obtain⟨i,v,b,hv,hb,rfl⟩:=AH r.len he
    obtain⟨f1,f2,f3,-⟩:=A8 (r.oI i v b hv hb) yZ
    refine⟨fun x hx=>?_,fun x hx=>?_,fun y hy=>?_⟩
    · simp only[D.cells,List.mem_cons]at hx
      rcases hx with rfl|hx
      · exact f3
      · exact D.gp (mm x hx).1
    · simp only[D.cells,List.mem_cons]at hx
      rcases hx with rfl|hx
      · exact f1
      · exact((mm x hx).2.2 h).2
    · simp only[D.fz,D.cells,List.map_cons,List.mem_cons]at hy
      rcases hy with rfl|hy
      · exact f2
      · rw[El]at hy
        exact(mm y hy).1
  refine⟨Cr h nb 14 (bK vs blocks),.step e2 hd (.refl _),?_⟩
  obtain⟨hI,eI⟩:∃hI,hI=Cr h nb 14 (bK vs blocks):=⟨_,rfl⟩
  rw[<- eI]
  have hnb:hI nb=.arr 14 ((bK vs blocks).map (D.fz h)):=by rw[eI];exact FO
  have oL:Own 3 hI vL (loops.map Loop.e):=cw r.oL fun k hk=>by
    rw[eI]
    refine Dx ?_ fun hm=>?_
    · rintro rfl;exact hs1 (by rw[aU];exact List.mem_append_left _ hk)
    · rw[aU]at hs2
      exact(List.nodup_append.1 hs2).2.2 k hk k (names k hm) rfl
  obtain⟨l1,l2,l3,l4⟩:=A8 oL Ds
  have hrow:(hI nb).row=some (14,(bK vs blocks).map (D.fz h)):=by rw[hnb];rfl
  have eB:(D.ms nb 0 (bK vs blocks).length).fzc hI=.sl ((bK vs blocks).map (D.fz h)):=by
    simp only[D.fzc,hrow,List.drop_zero]
    rw[List.take_of_length_le (by simp)]
  have e:(D.agg [.int .i64 g,.int .i64 sb,.int .i64 rg,.int .i64 0,.int .i64 3,aX,vL,.ms nb 0 (bK vs blocks).length]).fzt hI =
      .agg [.int .i64 g,.int .i64 sb,.int .i64 rg,.int .i64 0,.int .i64 3,aX,vL.fzc hI,.sl ((bK vs blocks).map (D.fz h))]:=by
    simp only[D.fzt,D.fz,List.map_cons,List.map_nil,eB]
    rfl
  refine⟨fun x hx=>?_,fun x hx=>?_,?_,?_⟩
  · simp only[D.cells,List.mem_cons,List.not_mem_nil,or_false]at hx
    rcases hx with rfl|rfl|rfl|rfl|rfl|rfl|rfl|rfl<;>first|rfl|exact l3
  · simp only[D.cells,List.mem_cons,List.not_mem_nil,or_false]at hx
    rcases hx with rfl|rfl|rfl|rfl|rfl|rfl|rfl|rfl<;>first|exact trivial|exact l1|skip
    refine⟨14,_,hrow,by simp,fun x hx y hy=>?_⟩
    have hx:=List.mem_of_mem_drop (List.mem_of_mem_take hx)
    obtain⟨a,ha,rfl⟩:=List.mem_map.1 hx
    exact(hd.el a ha).2.2 y hy
  · rw[e]
    show([D.int .i64 g,.int .i64 sb,.int .i64 rg,.int .i64 0,.int .i64 3,aX,vL.fzc hI,.sl ((bK vs blocks).map (D.fz h))].all D.vone)=true
    simp only[List.all_cons,List.all_nil,BT,l2,aX,Ef,Bool.and_true,Bool.and_self]
  · rw[e]
    refine Wk.JT (.cons (.refl _) (.cons (.refl _) (.cons (.refl _) (.cons (.refl _) (.cons (.refl _) (.cons (.refl _) (.cons l4 (.cons ?_ .nil))))))))
    refine .sl _ _ (by simp[hel]) fun i x y hx hy=>?_
    simp only[List.getElem?_map,Option.map_eq_some_iff]at hx hy
    obtain⟨x,hx,rfl⟩:=hx
    obtain⟨b,hb,rfl⟩:=hy
    obtain⟨v,hv⟩:∃v,vs[i]?=some v:=by
      have:=(List.getElem?_eq_some_iff.1 hb).1
      exact⟨vs[i]'(by rw[r.len];exact this),List.getElem?_eq_getElem _⟩
    rw[wa hv hb]at hx
    cases hx
    simp only[D.fz,List.map_cons,El,Block.e]
    exact Wk.JT (.cons (A8 (r.oI i v b hv hb) yZ).2.2.2 .rfl)
theorem H5:aN PP gD [] (· = aX):=by
  refine bG vu (ar _ _ _) rfl (u4 _) ?_
  unfold qz
  rw[jH rfl,jH rfl,jH rfl,jH rfl,jH rfl]
  refine⟨mL rfl,fun _=>?_,fun n t=>?_⟩
  · intro p hp
    simp[Arg.get]at hp
    rcases hp with rfl|rfl|rfl|rfl|rfl<;>(intro x hx;simp[D.cells,fillD]at hx;rcases hx with rfl|rfl|rfl|rfl<;>exact trivial)
  · show lW _ (.ms n 0 5) (al eZ n (.arr 4 (uR.map wN.e)))
    refine nq (n:=n) (els:=uR.map wN.e) (esz:=4) (by rw[ai];rfl) ?_ rfl
    intro x hx y hy
    obtain⟨a,-,rfl⟩:=List.mem_map.1 hx
    simp[wN.e]at hy
    rcases hy with rfl|rfl|rfl|rfl<;>rfl
def Ky (N:Nat) (R:Int) (l:Loop):Prop:=(∃hd:Nat,l.head=hd/\hd<N)/\(0<=l.reg/\l.reg<R)/\1<=l.bound/\l.bound<=3
structure mf (c:Code):Prop where
  group:c.group=4\/c.group=1\/c.group=2\/c.group=8\/c.group=6
  sub:c.sub=1\/c.sub=2\/c.sub=4\/c.sub=8
  dvd:c.group.tmod c.sub=0
  regs:c.regs=6+2*(c.loops.length:Int)
  slots:c.slots=0
  params:c.params=3
  arrays:c.arrays=uR
  nl:c.loops.length<=3
  loops:∀l∈c.loops,Ky c.b.length c.regs l
  nb:1<=c.b.length/\c.b.length<=18
  b:jq c.b.length c.regs c.b
def tf (bs:List Nat):D:=.agg [nu bs]
def z8:D:=.agg [.int .i64 0,.int .i64 0,.int .i64 0,.int .i64 0,.int .i64 0,.nil,.nil,.nil]
structure Hd (g sb:Int):Prop where
  group:g=4\/g=1\/g=2\/g=8\/g=6
  sub:sb=1\/sb=2\/sb=4\/sb=8
  dvd:g.tmod sb=0
structure D9 (s:MS) (bs:List Block) (q:Nat):Prop where
  hd:Hd s.group s.sub
  regs:s.regs=6+2*(s.loops.length:Int)
  nl:s.loops.length<=q
  nb:bs.length<=6*q
  loops:∀l∈s.loops,Ky bs.length s.regs l
  b:jq (bs.length+1) s.regs bs
theorem G3 {h:Heap}:Rows h [] [] .nil .nil []:=⟨Or.inl ⟨rfl,rfl⟩,Or.inl ⟨rfl,rfl⟩,rfl,fun k v b hv=>by simp at hv,by simp[bg,D.iB]⟩
theorem Cf {h:Heap}{n k:Nat}{s:MS}{pre:List Block}{is:List bh}{q:Nat}(hs:Hd s.group s.sub) (hR:s.regs=6+2*(s.loops.length:Int)) (hl:s.loops.length<=q) (hq:q<=9) (hp:pre.length<=6*q+2) (hq2:q<=2)
    (hL:∀l∈s.loops,Ky (pre.length+1) s.regs l) (hA:jq (pre.length+1) s.regs pre) (hX:kd 6 is) (hi:is.length<=8) (r:aJ h n k aX (jv s pre is iA)) (hk:k<400000) {KH:D->Heap->Prop}
    (hK:∀(s':MS) (pre':List Block) (h':Heap),s'.group=s.group->s'.sub=s.sub->s'.regs=6+2*(s'.loops.length:Int)->s'.loops.length<=q+1->pre'.length<=6*q+5->(∀l,l∈s'.loops->Ky (pre'.length+1) s'.regs l)->jq (pre'.length+1) s'.regs pre' ->
      aJ h' n (k+100) aX (jv s' pre' [] iA)->aD n h h'->KH (.tup []) h') :
    ah PP bR [.ptr n 0 0] h fun _ h1=>ah PP aQ [.ptr n 0 0] h1 KH:=by
  refine LQ r hA (hX.mono (by omega)) (by omega) (by omega) (by omega) hR (by omega) fun b bs h1 hb1 hb2 hbl hbA r1 k1=>?_
  refine qt (bs:=bs) r1 (by omega) fun h2 r2 k2=>?_
  have hreg:(Dr s (pre.length+1) b).regs=s.regs+2:=by simp only[Dr];omega
  refine hK (Dr s (pre.length+1) b) bs h2 rfl rfl ?_ ?_ (by omega) ?_ ?_ r2 (k1.trans k2)
  · simp only[Dr,List.length_append,List.length_singleton];omega
  · simp only[Dr,List.length_append,List.length_singleton];omega
  · intro l hl
    rw[hreg]
    simp only[Dr,List.mem_append,List.mem_singleton]at hl
    rcases hl with hl|rfl
    · obtain⟨⟨hd,e1,e2⟩,e3,e4⟩:=hL l hl
      exact⟨⟨hd,e1,by omega⟩,⟨e3.1,by omega⟩,e4⟩
    · exact⟨⟨pre.length+1,rfl,by omega⟩,⟨by simp only;omega,by simp only;omega⟩,hb1,hb2⟩
  · rw[hreg]
    exact hbA.mono (by omega) (by omega)
set_option maxHeartbeats 4000000 in
theorem Ja {h:Heap}{n nz k c:Nat}{s:MS}(hne:nz≠n) (hc:c<=2) (hs:D9 s [] 0) (r:aJ h n k aX { s with blocks:=[] }) (hk:k<=1000) (hz:h nz=.box z8){J:List D->Heap->Prop}
    (hJ:∀(s':MS) (bs:List Block) (h':Heap),D9 s' bs 2->aJ h' n (k+2000) aX { s' with blocks:=bs }->h' nz=.box z8->J [] h') :
    jA (.int .i64 (c:Int)) h (.ptr nz 0 0) (.ptr n 0 0) J:=by
  unfold jA
  refine⟨fun j qs h'=>j<=c/\qs=[.int .i64 (j:Int)]/\∃(s':MS) (bs:List Block),D9 s' bs (c-j)/\aJ h' n (k+1000*(c-j)) aX { s' with blocks:=bs }/\h' nz=.box z8,c,⟨Nat.le_refl _,rfl,s,[],by simpa using hs,by simpa using r,hz⟩,?_⟩
  rintro j f h1 ⟨hj,hq,s1,bs,hs1,r1,hz1⟩
  simp only[List.cons.injEq,and_true]at hq
  rw[hq,rZ]
  by_cases h0:0<j
  · simp only[show((0:Int)<(j:Int))=True from eq_true (by omega),decide_true,↓av]
    have nl:=hs1.nl
    have nb:=hs1.nb
    refine⟨fun qs h'=>qs=[]/\∃(s':MS) (bs:List Block),D9 s' bs (c-(j-1))/\aJ h' n (k+1000*(c-j)+1000) aX { s' with blocks:=bs }/\h' nz=.box z8,?_,?_⟩
    · rintro g h2 ⟨-,s2,bs2,hs2,r2,hz2⟩
      rw[kr,wrap64 (by omega) (by omega)]
      refine⟨rfl,j-1,by omega,by omega,by congr 2;omega,s2,bs2,hs2,r2.le (by omega),hz2⟩
    · refine cZ r1 (by omega) fun b h2 _ r2 k2=>?_
      rw[cq]
      refine⟨by omega,?_⟩
      rw[show((b:Int).tmod 3)=((b % 3:Nat):Int) from aT b 3]
      have hm:b % 3<3:=Nat.mod_lt _ (by omega)
      refine CN r2 hs1.b (by omega) (by have:=hs1.regs;omega) (by omega) (by omega) fun pre is h3 hpl hpA hX hi r3 k3=>?_
      have hz3:=k3 nz _ hne (k2 nz _ hne hz1)
      have hLp:∀l∈s1.loops,Ky (pre.length+1) s1.regs l:=fun l hl=>by
        obtain⟨⟨hd,e1,e2⟩,e3⟩:=hs1.loops l hl
        exact⟨⟨hd,e1,by omega⟩,e3⟩
      refine⟨fun qs h'=>qs=[]/\∃(s':MS) (pre':List Block) (is':List bh),Hd s'.group s'.sub/\s'.regs=6+2*(s'.loops.length:Int)/\s'.loops.length<=(c-j)+1/\pre'.length<=6*(c-j)+5/\(∀l,l∈s'.loops->Ky (pre'.length+1) s'.regs l) /\
        jq (pre'.length+1) s'.regs pre'/\kd s'.regs is'/\is'.length<=8/\aJ h' n (k+1000*(c-j)+500) aX (jv s' pre' is' iA)/\h' nz=.box z8,?_,?_⟩
      · rintro g h4 ⟨-,s4,pre4,is4,g1,g2,g3,g4,g5,g6,g7,g8,r4,hz4⟩
        obtain⟨bs4,j4,vL4,nb4,e4,eu4,lv4,st4,-⟩:=lg r4
        simp only[↓EN eu4,Nat.zero_add,Nat.reduceAdd,↓Gj e4 (j:=9) rfl,↓nr,lv4,true_and]
        rw[kr,wrap64 (by omega) (by omega)]
        rw[show((pre4.length+1:Nat):Int)-1=(pre4.length:Int) by omega,dF,wrap64 (by omega) (by omega),jH rfl,jH rfl]
        have hT:∀(T:Term) (h':Heap),BE (pre4.length+2) s4.regs T->aJ h' n (k+1000*(c-j)+600) aX (jv s4 pre4 is4 T)->h' nz=.box z8 ->
            ∃(s':MS) (bs:List Block),D9 s' bs (c-(j-1))/\aJ h' n (k+1000*(c-j)+1000) aX { s' with blocks:=bs }/\h' nz=.box z8:=by
          intro T h' hT r' hz'
          refine⟨s4,pre4++[⟨is4,T⟩],⟨g1,g2,by omega,by simp;omega,?_,?_⟩,r'.le (by omega),hz'⟩
          · simp only[List.length_append,List.length_singleton];exact g5
          · simp only[List.length_append,List.length_singleton]
            exact(g6.mono (by omega) (by omega)).snoc ⟨g7,by simp only;omega,hT⟩
        refine st4 ⟨3,0,aq,aq,aq,(pre4.length:Int)+1,0⟩ fun h5 r5 k5=>?_
        have hz5:=k5 nz _ hne hz4
        refine cZ r5 (by omega) fun b5 h6 _ r6 k6=>?_
        have hz6:=k6 nz _ hne hz5
        rw[cq]
        refine⟨by omega,?_⟩
        rw[show((b5:Int).tmod 3)=((b5 % 3:Nat):Int) from aT b5 3,dE]
        by_cases hb3:b5 % 3=0
        · simp only[show(((b5 % 3:Nat):Int)=0)=True from eq_true (by omega),decide_true,↓av]
          obtain⟨vL6,vB6,r6⟩:=r6.v
          obtain⟨bs6,j6,nb6,ev6,e6,eu6,-⟩:=dP r6
          simp only[↓sy eu6,Nat.zero_add,Nat.reduceAdd,↓qm e6 (j:=9) rfl]
          rw[dF,wrap64 (by omega) (by omega),qn rfl]
          refine uP r6 (by omega) fun b7 h7 _ r7 k7=>?_
          obtain⟨bs7,j7,nb7,ev7,e7,eu7,-⟩:=dP r7
          simp only[↓sy eu7,Nat.zero_add,Nat.reduceAdd,↓qm e7 (j:=9) rfl,ae,true_and]
          rw[cq]
          refine⟨by omega,?_⟩
          rw[show((b7:Int).tmod 6)=((b7 % 6:Nat):Int) from aT b7 6]
          have hb6:b7 % 6<6:=Nat.mod_lt _ (by omega)
          rw[dF,wrap64 (by omega) (by omega)]
          refine DS r7 (by omega) fun d h8 hd r8 k8=>?_
          obtain⟨bs8,j8,nb8,ev8,e8,eu8,-⟩:=dP r8
          simp only[↓sy eu8,Nat.zero_add,Nat.reduceAdd,↓qm e8 (j:=9) rfl,ae,true_and]
          refine HV r8 (by omega) fun o h9 ho r9 k9=>?_
          obtain⟨bs9,j9,nb9,ev9,e9,eu9,-⟩:=dP r9
          simp only[↓sy eu9,Nat.zero_add,Nat.reduceAdd,↓qm e9 (j:=9) rfl,ae,true_and]
          refine HV r9 (by omega) fun p h10 hp r10 k10=>?_
          obtain⟨bs10,j10,nb10,ev10,e10,eu10,st10⟩:=dP r10
          simp only[↓sy eu10,Nat.zero_add,Nat.reduceAdd,↓qm e10 (j:=9) rfl,ae,true_and]
          rw[qn rfl]
          refine st10 ⟨4,1+((b7 % 6:Nat):Int),gg d,o,p,(pre4.length:Int)+1,0⟩ fun h11 r11 k11=>?_
          have hz11:=k11 nz _ hne (k10 nz _ hne (k9 nz _ hne (k8 nz _ hne (k7 nz _ hne hz6))))
          try simp only[ae,true_and]
          exact hT _ h11 (.collect _ _ _ _ (pre4.length+1) (by omega) ((cP hd).mono (by omega)) (ho.o.mono (by omega)) (hp.o.mono (by omega)) (by omega)) (r11.le (by omega)) hz11
        · simp only[show(((b5 % 3:Nat):Int)=0)=False from eq_false (by omega),decide_false,↓au]
          try simp only[ae,true_and]
          exact hT _ h6 (.barrier (pre4.length+1) (by omega)) (r6.le (by omega)) hz6
      · refine cZ r3 (by omega) fun b4 h4 _ r4 k4=>?_
        have hz4:=k4 nz _ hne hz3
        rw[cq]
        refine⟨by omega,?_⟩
        rw[show((b4:Int).tmod 3)=((b4 % 3:Nat):Int) from aT b4 3,dE]
        by_cases hb3:b4 % 3=0
        · simp only[show(((b4 % 3:Nat):Int)=0)=True from eq_true (by omega),decide_true,↓av]
          refine Cf (q:=c-j) hs1.hd hs1.regs nl (by omega) (by omega) (by omega) hLp hpA hX hi r4 (by omega) fun s5 pre5 h5 e1 e2 e3 e4 e5 e6 e7 r5 k5=>?_
          try simp only[ae,true_and]
          exact⟨s5,pre5,[],by rw[e1,e2];exact hs1.hd,e3,e4,e5,e6,e7,.nil,by simp,r5.le (by omega),k5 nz _ hne hz4⟩
        · simp only[show(((b4 % 3:Nat):Int)=0)=False from eq_false (by omega),decide_false,↓au]
          try simp only[ae,true_and]
          exact⟨s1,pre,is,hs1.hd,hs1.regs,by omega,by omega,hLp,hpA,hX.mono (by have:=hs1.regs;omega),hi,r4.le (by omega),hz4⟩
  · simp only[show((0:Int)<(j:Int))=False from eq_false (by omega),decide_false,↓au]
    have hj0:j=0:=by omega
    subst hj0
    have s2:D9 s1 bs 2:=⟨hs1.hd,hs1.regs,by have:=hs1.nl;omega,by have:=hs1.nb;omega,hs1.loops,hs1.b⟩
    exact⟨rfl,hJ s1 bs h1 s2 (r1.le (by omega)) hz1⟩
end Go.Am
namespace Go.Am
open Go
set_option maxHeartbeats 1000000 in
theorem I9 {h:Heap}{n nz k c:Nat}{s:MS}(hc:c<=2) (hg:s.group=4\/s.group=1\/s.group=2\/s.group=8\/s.group=6) (h1:s.sub=1) (hr:s.regs=6) (hl:s.loops=[]) (r:aJ h n k aX { s with blocks:=[] }) (hne:nz≠n) (hz:h nz=.box z8){J:List D->Heap->Prop}
    (hJ:∀(s':MS) (h':Heap),Hd s'.group s'.sub->s'.regs=6->s'.loops=[]->aJ h' n k aX { s' with blocks:=[] }->h' nz=.box z8->J [] h') :
    jz (.int .i64 (c:Int)) h (.ptr n 0 0) (.ptr nz 0 0) J:=by
  unfold jz
  refine⟨fun j qs h'=>j<=c/\qs=[.int .i64 (j:Int)]/\∃s':MS,Hd s'.group s'.sub/\(j=2->s'.sub=1)/\(j=1->s'.sub<=2)/\s'.regs=6/\s'.loops=[]/\aJ h' n k aX { s' with blocks:=[] }/\h' nz=.box z8,c,
    ⟨Nat.le_refl _,rfl,s,⟨hg,by omega,by rw[h1];rcases hg with h|h|h|h|h<;>rw[h]<;>rfl⟩,fun _=>h1,fun _=>by omega,hr,hl,r,hz⟩,?_⟩
  rintro j f h2 ⟨hj,hq,s2,hd,hs2,hs1,hr2,hl2,r2,hz2⟩
  simp only[List.cons.injEq,and_true]at hq
  rw[hq,rZ]
  obtain⟨bs2,j2,vL2,vB2,e2,eu2,-⟩:=Eu r2
  unfold b6 at e2
  by_cases h0:0<j
  · simp only[show((0:Int)<(j:Int))=True from eq_true (by omega),decide_true,↓M0,↓sy eu2,Nat.zero_add,Nat.reduceAdd,↓qm e2 (j:=2) rfl,↓qm e2 (j:=3) rfl]
    have hsb:s2.sub=1\/s2.sub=2:=by
      rcases hd.sub with h|h|h|h
      · exact Or.inl h
      · exact Or.inr h
      · exfalso;rcases (show j=1\/j=2 by omega) with e|e
        · have:=hs1 e;omega
        · have:=hs2 e;omega
      · exfalso;rcases (show j=1\/j=2 by omega) with e|e
        · have:=hs1 e;omega
        · have:=hs2 e;omega
    rw[Ek,wrap64 (by omega) (by omega),cq]
    refine⟨by omega,?_⟩
    rw[dE]
    by_cases hd0:s2.group.tmod (2*s2.sub)=0
    · simp only[hd0,decide_true,↓DK,↓Cd,↓av,↓EN eu2,Nat.zero_add,Nat.reduceAdd,↓Gj e2 (j:=3) rfl]
      rw[Ek,wrap64 (by omega) (by omega)]
      refine KU (v:=2*s2.sub) r2 fun h3 r3 k3=>?_
      rw[kr,wrap64 (by omega) (by omega)]
      refine⟨rfl,j-1,by omega,by omega,by congr 2;omega,{ s2 with sub:=2*s2.sub },⟨hd.group,by simp only;omega,hd0⟩,fun e=>by omega,fun e=>?_,hr2,hl2,r3,k3 nz _ hne hz2⟩
      have:=hs2 (by omega)
      simp only;omega
    · simp only[hd0,decide_false,↓DK,↓Cd,↓au]
      exact⟨rfl,hJ s2 h2 hd hr2 hl2 r2 hz2⟩
  · simp only[show((0:Int)<(j:Int))=False from eq_false (by omega),decide_false,↓M1,↓Ad,↓DK,↓G1,↓au]
    exact⟨rfl,hJ s2 h2 hd hr2 hl2 r2 hz2⟩
theorem Ou {P:Program}{h:Heap}{KH:D->Heap->Prop}{n:Nat}{a b c1 c2 c3 c4 c5 c6 c7 c8:D}(e:h n=.box (.agg [a,b,c1,c2,c3,c4,c5,c6,c7,c8])):aa P (.ld (.c (.ptr n 0 2)) 8 true) h KH=KH (.agg [c1,c2,c3,c4,c5,c6,c7,c8]) h:=Ot e (by simp)
theorem On {P:Program}{h:Heap}{KH:D->Heap->Prop}{nz:Nat}{c1 c2 c3 c4 c5 c6 c7 c8:D}(e:h nz=.box z8) (ho:(D.agg [c1,c2,c3,c4,c5,c6,c7,c8]).cells.all D.one=true) :
    aa P (.st (.c (.ptr nz 0 0)) (.c (.agg [c1,c2,c3,c4,c5,c6,c7,c8])) 8) h KH=KH .undef (al h nz (.box (.agg [c1,c2,c3,c4,c5,c6,c7,c8]))):=by
  rw[jZ,e]
  apply propext
  constructor
  · exact fun hh=>hh.2.2.2.2
  · exact fun hk=>⟨rfl,List.all_eq_true.1 ho,rfl,by simp[z8],hk⟩
theorem Ey {esz:Nat}{h:Heap}{v:D}{els:List D}(ho:Own esz h v els):v.one=true:=by
  rcases ho with⟨rfl,-⟩|⟨m,rfl,-⟩<;>rfl
set_option maxHeartbeats 4000000 in
theorem LU {bs:List Nat}(hb:∀b∈bs,b<=255) (hl:bs.length<=9223372036854775807):aN PP jW [tf bs] (fun r=>∃c:Code,mf c/\r=c.e):=by
  refine aN.wk (K:=fun r=>∃c:Code,mf c/\Wk r c.e) (Ab (cU x3 (ar _ _ _) rfl (xP _ _) ?_)) fun r hr=>by
    obtain⟨c,hc,hw⟩:=hr
    exact⟨c.e,hw,rfl,c,hc,rfl⟩
  unfold uY
  rw[EP]
  refine⟨(fF (by simp[nu]):wL (tf bs)).one,fun n0 t0=>?_⟩
  rw[gK]
  intro nz tz
  have nn:n0≠nz:=tz.ne (by rw[ai];simp)
  have a0:al (al eZ n0 (.box (tf bs))) nz (.box z8) n0=.box (tf bs):=by rw[ab _ _ nn,ai]
  have az:al (al eZ n0 (.box (tf bs))) nz (.box z8) nz=.box z8:=ai _ _ _
  show aa PP _ (al (al eZ n0 (.box (tf bs))) nz (.box z8)) _
  generalize al (al eZ n0 (.box (tf bs))) nz (.box z8)=hA at a0 az
  have eu0:(hA n0).used=true:=by rw[a0];rfl
  unfold tf at a0
  simp only[↓EN eu0,Nat.zero_add,↓Gj a0 (j:=0) rfl]
  rw[jH rfl,show D.agg (fillD [.nil,.int .i64 0,.int .i64 0,.int .i64 0,.int .i64 0,.int .i64 0,.int .i64 0,.nil,.nil,.nil] (List.map (fun p=>(p.fst,p.snd.fst,(Arg.get [] p.snd.snd).cells)) [(0,1,Arg.c (nu bs))])) =
    .agg (nu bs::.int .i64 ((0:Nat):Int)::[.int .i64 0,.int .i64 0,.int .i64 0,.int .i64 0,.int .i64 0,.nil,.nil,.nil]) from rfl,EP]
  refine⟨List.all_eq_true.1 rfl,fun n tn=>?_⟩
  have hnz:nz≠n:=tn.ne (by rw[az];simp)
  have b1:al hA n (.box (.agg (nu bs::.int .i64 ((0:Nat):Int)::[.int .i64 0,.int .i64 0,.int .i64 0,.int .i64 0,.int .i64 0,.nil,.nil,.nil]))) n=.box (.agg (nu bs::.int .i64 ((0:Nat):Int)::[.int .i64 0,.int .i64 0,.int .i64 0,.int .i64 0,.int .i64 0,.nil,.nil,.nil])):=ai _ _ _
  have bz:al hA n (.box (.agg (nu bs::.int .i64 ((0:Nat):Int)::[.int .i64 0,.int .i64 0,.int .i64 0,.int .i64 0,.int .i64 0,.nil,.nil,.nil]))) nz=.box z8:=by rw[ab _ _ hnz];exact az
  show af PP _ (al hA n (.box (.agg (nu bs::.int .i64 ((0:Nat):Int)::[.int .i64 0,.int .i64 0,.int .i64 0,.int .i64 0,.int .i64 0,.nil,.nil,.nil])))) _
  generalize al hA n (.box (.agg (nu bs::.int .i64 ((0:Nat):Int)::[.int .i64 0,.int .i64 0,.int .i64 0,.int .i64 0,.int .i64 0,.nil,.nil,.nil])))=hB at b1 bz
  have hbl:∀{Q:D->Prop},af PP (.bldS false 1 5 (.int .i64 0) [(0,(.c (.int .i64 4))),(1,(.c (.int .i64 1))),(2,(.c (.int .i64 2))),(3,(.c (.int .i64 8))),(4,(.c (.int .i64 6)))]) hB Q=Q (.sl [.int .i64 4,.int .i64 1,.int .i64 2,.int .i64 8,.int .i64 6]):=by
    intro Q
    apply propext
    constructor
    · exact fun hh=>hh.2.2.2
    · intro hq
      refine⟨mL rfl,?_,by simp,hq⟩
      intro p hp
      simp[Arg.get]at hp
      rcases hp with rfl|rfl|rfl|rfl|rfl<;>simp
  simp only[hbl]
  refine Bv b1 hb hl (by omega) fun b hb2=>?_
  have c1:=ai hB n (.box (.agg (nu bs::.int .i64 ((0+1:Nat):Int)::[.int .i64 0,.int .i64 0,.int .i64 0,.int .i64 0,.int .i64 0,.nil,.nil,.nil])))
  have cz:al hB n (.box (.agg (nu bs::.int .i64 ((0+1:Nat):Int)::[.int .i64 0,.int .i64 0,.int .i64 0,.int .i64 0,.int .i64 0,.nil,.nil,.nil]))) nz=.box z8:=by rw[ab _ _ hnz];exact bz
  generalize al hB n (.box (.agg (nu bs::.int .i64 ((0+1:Nat):Int)::[.int .i64 0,.int .i64 0,.int .i64 0,.int .i64 0,.int .i64 0,.nil,.nil,.nil])))=hC at c1 cz
  rw[cq]
  refine⟨by omega,?_⟩
  rw[show((b:Int).tmod 5)=((b % 5:Nat):Int) from aT b 5]
  obtain⟨g,hg,hg5⟩:∃g:Int,([.int .i64 4,.int .i64 1,.int .i64 2,.int .i64 8,.int .i64 6]:List D)[b % 5]?=some (.int .i64 g)/\(g=4\/g=1\/g=2\/g=8\/g=6):=by
    have:b % 5=0\/b % 5=1\/b % 5=2\/b % 5=3\/b % 5=4:=by omega
    rcases this with e|e|e|e|e<;>rw[e]<;>exact⟨_,rfl,by simp⟩
  have hi:∀{Q:D->Prop},af PP (.iadd (.c (.sl [.int .i64 4,.int .i64 1,.int .i64 2,.int .i64 8,.int .i64 6])) (.c (.int .i64 ((b % 5:Nat):Int))) 1) hC Q=Q (.vp (.int .i64 g) 0):=by
    intro Q
    rw[l8,y7,Int.toNat_natCast,hg]
    apply propext
    constructor
    · rintro⟨-,-,h⟩;exact(h _ rfl).2
    · intro hq;exact⟨by omega,by simp;omega,fun d hd=>by cases hd;exact⟨rfl,hq⟩⟩
  have hld:∀{Q:D->Prop},af PP (.ld (.c (.vp (.int .i64 g) 0)) 1 false) hC Q=Q (.int .i64 g):=fun {Q}=>by rw[wc,y6,ea];rfl
  simp only[↓hi,↓hld]
  refine AX H5 trivial ?_
  have eu1:(hC n).used=true:=by rw[c1];rfl
  rw[qn rfl]
  simp only[↓sy eu1,Nat.zero_add]
  rw[jZ,c1]
  refine⟨rfl,?_,rfl,by simp,?_⟩
  · intro x hx
    simp[fillD,D.cells,Arg.get,aX]at hx
    rcases hx with rfl|rfl|rfl|rfl|rfl|rfl|rfl|rfl<;>rfl
  have es:setCells (.agg (nu bs::.int .i64 ((0+1:Nat):Int)::[.int .i64 0,.int .i64 0,.int .i64 0,.int .i64 0,.int .i64 0,.nil,.nil,.nil])) 2 (D.agg (fillD [.int .i64 0,.int .i64 0,.int .i64 0,.int .i64 0,.int .i64 0,.nil,.nil,.nil] (List.map (fun p=>(p.fst,p.snd.fst,(Arg.get [] p.snd.snd).cells)) [(0,1,Arg.c (.int .i64 g)),(1,1,Arg.c (.int .i64 1)),(2,1,Arg.c (.int .i64 6)),(4,1,Arg.c (.int .i64 3)),(5,1,Arg.c aX)]))).cells =
      b6 bs 1 aX ⟨g,1,6,[],[]⟩ .nil .nil:=rfl
  rw[es]
  have r0:aJ (al hC n (.box (b6 bs 1 aX ⟨g,1,6,[],[]⟩ .nil .nil))) n 1 aX { (⟨g,1,6,[],[]⟩:MS) with blocks:=[] }:=⟨bs,1,.nil,.nil,[],hb,hl,Nat.le_refl _,ai _ _ _,G3⟩
  have dz:al hC n (.box (b6 bs 1 aX ⟨g,1,6,[],[]⟩ .nil .nil)) nz=.box z8:=by rw[ab _ _ hnz];exact cz
  generalize al hC n (.box (b6 bs 1 aX ⟨g,1,6,[],[]⟩ .nil .nil))=hD at r0 dz
  refine⟨fun qs h'=>qs=[]/\∃s:MS,Hd s.group s.sub/\s.regs=6/\s.loops=[]/\aJ h' n 10 aX { s with blocks:=[] }/\h' nz=.box z8,?_,?_⟩
  · rintro f1 h1 ⟨-,s1,hd1,hr1,hl1,r1,z1⟩
    refine⟨fun qs h'=>qs=[]/\∃(s':MS) (bs:List Block),D9 s' bs 2/\aJ h' n 3000 aX { s' with blocks:=bs }/\h' nz=.box z8,?_,?_⟩
    · rintro f2 h2 ⟨-,s2,bs2,hs2,r2,z2⟩
      have nl:=hs2.nl
      have nb:=hs2.nb
      refine cZ r2 (by omega) fun b3 h3 _ r3 k3=>?_
      rw[cq]
      refine⟨by omega,?_⟩
      rw[show((b3:Int).tmod 3)=((b3 % 3:Nat):Int) from aT b3 3]
      have hm:b3 % 3<3:=Nat.mod_lt _ (by omega)
      refine CN r3 hs2.b (by omega) (by have:=hs2.regs;omega) (by omega) (by omega) fun pre is h4 hpl hpA hX hi4 r4 k4=>?_
      have z4:=k4 nz _ hnz (k3 nz _ hnz z2)
      have hLp:∀l∈s2.loops,Ky (pre.length+1) s2.regs l:=fun l hl=>by
        obtain⟨⟨hd,e1,e2⟩,e3⟩:=hs2.loops l hl
        exact⟨⟨hd,e1,by omega⟩,e3⟩
      refine⟨fun qs h'=>qs=[]/\∃(s':MS) (pre':List Block) (is':List bh),Hd s'.group s'.sub/\s'.regs=6+2*(s'.loops.length:Int)/\s'.loops.length<=3/\pre'.length<=17/\(∀l,l∈s'.loops->Ky (pre'.length+1) s'.regs l) /\
        jq (pre'.length+1) s'.regs pre'/\kd s'.regs is'/\is'.length<=8/\aJ h' n 9000 aX (jv s' pre' is' iA)/\h' nz=.box z8,?_,?_⟩
      · rintro f5 h5 ⟨-,s5,pre5,is5,g1,g2,g3,g4,g5,g6,g7,g8,r5,z5⟩
        obtain⟨vL5,vB5,r5⟩:=r5.v
        obtain⟨bs5,j5,nb5,ev5,e5,eu5,st5⟩:=dP r5
        have lv5:∀{Q:D->Prop},bj vB5 h5 Q=Q (.int .i64 ((pre5.length+1:Nat):Int)):=by
          intro Q
          obtain⟨_,_,vs,_,_,_,q4,q5⟩:=r5.st
          rw[Ez q5.oB,ga q5.len]
          simp[jv]
        simp only[↓sy eu5,Nat.zero_add,Nat.reduceAdd,↓qm e5 (j:=9) rfl,lv5]
        rw[kr,wrap64 (by omega) (by omega),qn rfl,show((pre5.length+1:Nat):Int)-1=(pre5.length:Int) by omega]
        refine st5 ⟨5,0,aq,aq,aq,0,0⟩ fun h6 r6 k6=>?_
        have z6:=k6 nz _ hnz z5
        obtain⟨bs6,j6,vL6,vB6,vs6,q1,q2,q3,q4,q5⟩:=r6.st
        have eu6:(h6 n).used=true:=by rw[q4];rfl
        unfold b6 at q4
        simp only[↓EN eu6,Nat.zero_add,Nat.reduceAdd,↓Ou q4]
        have o1:=Ey q5.oL
        have o2:=Ey q5.oB
        rw[On z6 (by simp[D.cells,o1,o2,aX])]
        have hld8:=xJ (P:=PP) (KH:=fun a63 _=>∃h'',Ff (al h6 nz (.box (.agg [.int .i64 s5.group,.int .i64 s5.sub,.int .i64 s5.regs,.int .i64 0,.int .i64 3,aX,vL6,vB6]))) h''/\hO a63/\qD h'' a63/\(a63.fzt h'').Dd=true/\∃c:Code,mf c/\Wk (a63.fzt h'') c.e)
          (ai h6 nz (.box (.agg [.int .i64 s5.group,.int .i64 s5.sub,.int .i64 s5.regs,.int .i64 0,.int .i64 3,aX,vL6,vB6])))
        refine hld8.mpr ?_
        have rr:=q5.box z6 (.box (.agg [.int .i64 s5.group,.int .i64 s5.sub,.int .i64 s5.regs,.int .i64 0,.int .i64 3,aX,vL6,vB6]))
        obtain⟨h'',i1,i2,i3,i4,i5⟩:=Hn rr (by simp[jv]) s5.group s5.sub s5.regs
        refine⟨h'',i1,i2,i3,i4,_,?_,i5⟩
        refine⟨g1.group,g1.sub,g1.dvd,g2,rfl,rfl,rfl,g3,?_,?_,?_⟩
        · simp only[jv,List.length_append,List.length_singleton];exact g5
        · simp only[jv,List.length_append,List.length_singleton];omega
        · simp only[jv,List.length_append,List.length_singleton]
          exact g6.snoc ⟨g7,by simp only;omega,.exit⟩
      · refine cZ r4 (by omega) fun b5 h5 _ r5 k5=>?_
        have z5:=k5 nz _ hnz z4
        rw[cq]
        refine⟨by omega,?_⟩
        rw[show((b5:Int).tmod 3)=((b5 % 3:Nat):Int) from aT b5 3,dE]
        by_cases hb3:b5 % 3=0
        · simp only[show(((b5 % 3:Nat):Int)=0)=True from eq_true (by omega),decide_true,↓av]
          refine Cf (q:=2) hs2.hd hs2.regs nl (by omega) (by omega) (by omega) hLp hpA hX hi4 r5 (by omega) fun s6 pre6 h6 e1 e2 e3 e4 e5 e6 e7 r6 k6=>?_
          refine yk r6 (e7.L1 (by omega) (by simp)) (by omega) fun xs h7 hxs hxl r7 k7=>?_
          try simp only[ae,true_and]
          exact⟨s6,pre6,xs,by rw[e1,e2];exact hs2.hd,e3,e4,by omega,e6,e7,hxs.mono (by omega),hxl,r7.le (by omega),k7 nz _ hnz (k6 nz _ hnz z5)⟩
        · simp only[show(((b5 % 3:Nat):Int)=0)=False from eq_false (by omega),decide_false,↓au]
          try simp only[ae,true_and]
          exact⟨s2,pre,is,hs2.hd,hs2.regs,by omega,by omega,hLp,hpA,hX.mono (by have:=hs2.regs;omega),hi4,r5.le (by omega),z5⟩
    · refine cZ r1 (by omega) fun b2 h2 _ r2 k2=>?_
      have z2:=k2 nz _ hnz z1
      rw[cq]
      refine⟨by omega,?_⟩
      rw[show((b2:Int).tmod 3)=((b2 % 3:Nat):Int) from aT b2 3]
      have hm:b2 % 3<3:=Nat.mod_lt _ (by omega)
      refine Ja hnz (by omega) ⟨hd1,by rw[hr1,hl1];rfl,by rw[hl1];simp,by simp,(by rw[hl1];intro l hl;cases hl),jq.nil⟩ r2 (by omega) z2 fun s' bs' h' q1 q2 q3=>⟨rfl,s',bs',q1,q2.le (by omega),q3⟩
  · refine cZ r0 (by omega) fun b1 h1 _ r1 k1=>?_
    have z1:=k1 nz _ hnz dz
    rw[cq]
    refine⟨by omega,?_⟩
    rw[show((b1:Int).tmod 3)=((b1 % 3:Nat):Int) from aT b1 3]
    have hm:b1 % 3<3:=Nat.mod_lt _ (by omega)
    exact I9 (by omega) hg5 rfl rfl rfl r1 hnz z1 fun s' h' q1 q2 q3 q4 q5=>⟨rfl,s',q1,q2,q3,q4.le (by omega),q5⟩
end Go.Am
namespace Go.Am
open Go Go.Proofs Go.Shelf Go.RowKit
def As:Go.Shelf.Ren:=⟨fun|7=>42|10=>66|n=>n,fun|23=>89|26=>3|3=>4|28=>94|0=>0|27=>93|33=>120|4=>4|n=>n,fun|n=>n⟩
theorem MP:Go.Proofs.SlLaysZI.n7 Tryz.prog As:={
  mixed:=by kernel_rfl,
  f7:=⟨Tryz.f42.name,by decide,Tryz.func42.trans (congrArg some (by kernel_rfl))⟩,
  f10:=⟨Tryz.f66.name,by decide,Tryz.func66.trans (congrArg some (by kernel_rfl))⟩,
  t0:=Tryz.underlying0,
  a0:=Tryz.isAgg0,
  z0:=Tryz.sizeOf0,
  v0:=Tryz.zeroValue0,
  t4:=Tryz.underlying4,
  a4:=Tryz.isAgg4,
  z4:=Tryz.sizeOf4,
  v4:=Tryz.zeroValue4,
  t23:=Tryz.underlying89,
  a23:=Tryz.isAgg89,
  z23:=Tryz.sizeOf89,
  v23:=Tryz.zeroValue89,
  t26:=Tryz.underlying3,
  a26:=Tryz.isAgg3,
  z26:=Tryz.sizeOf3,
  v26:=Tryz.zeroValue3,
  t27:=Tryz.underlying93,
  a27:=Tryz.isAgg93,
  z27:=Tryz.sizeOf93,
  v27:=Tryz.zeroValue93,
  t28:=Tryz.underlying94,
  a28:=Tryz.isAgg94,
  z28:=Tryz.sizeOf94,
  v28:=Tryz.zeroValue94,
  t33:=Tryz.underlying120,
  a33:=Tryz.isAgg120,
  z33:=Tryz.sizeOf120,
  v33:=Tryz.zeroValue120 }
def Ar:Go.Shelf.Ren:=⟨fun|7=>43|10=>67|n=>n,fun|23=>88|26=>3|3=>41|28=>94|0=>0|27=>93|33=>120|4=>4|n=>n,fun|n=>n⟩
theorem MO:Go.Proofs.SlLaysZI.n7 Tryz.prog Ar:={
  mixed:=by kernel_rfl,
  f7:=⟨Tryz.f43.name,by decide,Tryz.func43.trans (congrArg some (by kernel_rfl))⟩,
  f10:=⟨Tryz.f67.name,by decide,Tryz.func67.trans (congrArg some (by kernel_rfl))⟩,
  t0:=Tryz.underlying0,
  a0:=Tryz.isAgg0,
  z0:=Tryz.sizeOf0,
  v0:=Tryz.zeroValue0,
  t4:=Tryz.underlying4,
  a4:=Tryz.isAgg4,
  z4:=Tryz.sizeOf4,
  v4:=Tryz.zeroValue4,
  t23:=Tryz.underlying88,
  a23:=Tryz.isAgg88,
  z23:=Tryz.sizeOf88,
  v23:=Tryz.zeroValue88,
  t26:=Tryz.underlying3,
  a26:=Tryz.isAgg3,
  z26:=Tryz.sizeOf3,
  v26:=Tryz.zeroValue3,
  t27:=Tryz.underlying93,
  a27:=Tryz.isAgg93,
  z27:=Tryz.sizeOf93,
  v27:=Tryz.zeroValue93,
  t28:=Tryz.underlying94,
  a28:=Tryz.isAgg94,
  z28:=Tryz.sizeOf94,
  v28:=Tryz.zeroValue94,
  t33:=Tryz.underlying120,
  a33:=Tryz.isAgg120,
  z33:=Tryz.sizeOf120,
  v33:=Tryz.zeroValue120 }
def wP:Go.Shelf.Ren:=⟨fun|6=>41|8=>64|9=>65|11=>86|13=>88|12=>87|23=>108|24=>109|14=>100|15=>101|16=>102|17=>103|18=>104|19=>105|20=>79|21=>106|22=>107|25=>117|26=>118|27=>119|28=>120|29=>121|30=>90|31=>128|n=>n,fun|26=>3|28=>94|24=>41|0=>0|3=>3|37=>79|48=>38|50=>160|4=>4|40=>153|39=>152|45=>104|5=>5|9=>9|51=>174|55=>178|57=>183|58=>184|33=>120|n=>n,fun|n=>n⟩
theorem Eo:Go.Proofs.SlLaysZI.n6 Tryz.prog wP:={
  mixed:=by kernel_rfl,
  f6:=⟨Tryz.f41.name,by decide,Tryz.func41.trans (congrArg some (by kernel_rfl))⟩,
  f8:=⟨Tryz.f64.name,by decide,Tryz.func64.trans (congrArg some (by kernel_rfl))⟩,
  f11:=⟨Tryz.f86.name,by decide,Tryz.func86.trans (congrArg some (by kernel_rfl))⟩,
  t0:=Tryz.underlying0,
  a0:=Tryz.isAgg0,
  z0:=Tryz.sizeOf0,
  v0:=Tryz.zeroValue0,
  t24:=Tryz.underlying41,
  a24:=Tryz.isAgg41,
  z24:=Tryz.sizeOf41,
  v24:=Tryz.zeroValue41,
  t26:=Tryz.underlying3,
  a26:=Tryz.isAgg3,
  z26:=Tryz.sizeOf3,
  v26:=Tryz.zeroValue3,
  t28:=Tryz.underlying94,
  a28:=Tryz.isAgg94,
  z28:=Tryz.sizeOf94,
  v28:=Tryz.zeroValue94,
  i26:=by kernel_rfl }
def Fw:Go.Shelf.Ren:=⟨fun|5=>65|8=>88|7=>87|19=>108|20=>109|10=>100|11=>101|12=>102|13=>103|14=>104|15=>105|16=>79|17=>106|18=>107|30=>117|31=>118|32=>119|33=>120|34=>121|35=>90|40=>128|n=>n,fun|23=>41|25=>3|3=>3|32=>79|22=>41|0=>0|44=>38|46=>160|4=>4|36=>153|35=>152|41=>104|5=>5|9=>9|53=>174|57=>178|63=>183|64=>184|n=>n,fun|n=>n⟩
theorem Kb:Go.Proofs.SlLaysM.n5 Tryz.prog Fw:={
  mixed:=by kernel_rfl,
  f5:=⟨Tryz.f65.name,by decide,Tryz.func65.trans (congrArg some (by kernel_rfl))⟩,
  f7:=⟨Tryz.f87.name,by decide,Tryz.func87.trans (congrArg some (by kernel_rfl))⟩,
  f8:=Tryz.func88.trans (congrArg some (by kernel_rfl)),
  f10:=⟨Tryz.f100.name,by decide,Tryz.func100.trans (congrArg some (by kernel_rfl))⟩,
  f11:=⟨Tryz.f101.name,by decide,Tryz.func101.trans (congrArg some (by kernel_rfl))⟩,
  f12:=⟨Tryz.f102.name,by decide,Tryz.func102.trans (congrArg some (by kernel_rfl))⟩,
  f13:=⟨Tryz.f103.name,by decide,Tryz.func103.trans (congrArg some (by kernel_rfl))⟩,
  f14:=⟨Tryz.f104.name,by decide,Tryz.func104.trans (congrArg some (by kernel_rfl))⟩,
  f15:=⟨Tryz.f105.name,by decide,Tryz.func105.trans (congrArg some (by kernel_rfl))⟩,
  f16:=⟨Tryz.f79.name,by decide,Tryz.func79.trans (congrArg some (by kernel_rfl))⟩,
  f17:=⟨Tryz.f106.name,by decide,Tryz.func106.trans (congrArg some (by kernel_rfl))⟩,
  f18:=⟨Tryz.f107.name,by decide,Tryz.func107.trans (congrArg some (by kernel_rfl))⟩,
  f19:=Tryz.func108.trans (congrArg some (by kernel_rfl)),
  f20:=Tryz.func109.trans (congrArg some (by kernel_rfl)),
  f30:=⟨Tryz.f117.name,by decide,Tryz.func117.trans (congrArg some (by kernel_rfl))⟩,
  f31:=Tryz.func118.trans (congrArg some (by kernel_rfl)),
  f32:=Tryz.func119.trans (congrArg some (by kernel_rfl)),
  f33:=⟨Tryz.f120.name,by decide,Tryz.func120.trans (congrArg some (by kernel_rfl))⟩,
  f34:=⟨Tryz.f121.name,by decide,Tryz.func121.trans (congrArg some (by kernel_rfl))⟩,
  f35:=⟨Tryz.f90.name,by decide,Tryz.func90.trans (congrArg some (by kernel_rfl))⟩,
  f40:=⟨Tryz.f128.name,by decide,Tryz.func128.trans (congrArg some (by kernel_rfl))⟩,
  t0:=Tryz.underlying0,
  a0:=Tryz.isAgg0,
  z0:=Tryz.sizeOf0,
  v0:=Tryz.zeroValue0,
  t3:=Tryz.underlying3,
  a3:=Tryz.isAgg3,
  z3:=Tryz.sizeOf3,
  v3:=Tryz.zeroValue3,
  t4:=Tryz.underlying4,
  a4:=Tryz.isAgg4,
  z4:=Tryz.sizeOf4,
  v4:=Tryz.zeroValue4,
  t5:=Tryz.underlying5,
  a5:=Tryz.isAgg5,
  z5:=Tryz.sizeOf5,
  v5:=Tryz.zeroValue5,
  t9:=Tryz.underlying9,
  a9:=Tryz.isAgg9,
  z9:=Tryz.sizeOf9,
  v9:=Tryz.zeroValue9,
  t22:=Tryz.underlying41,
  a22:=Tryz.isAgg41,
  z22:=Tryz.sizeOf41,
  v22:=Tryz.zeroValue41,
  t23:=Tryz.underlying41,
  a23:=Tryz.isAgg41,
  z23:=Tryz.sizeOf41,
  v23:=Tryz.zeroValue41,
  t25:=Tryz.underlying3,
  a25:=Tryz.isAgg3,
  z25:=Tryz.sizeOf3,
  v25:=Tryz.zeroValue3,
  t32:=Tryz.underlying79,
  a32:=Tryz.isAgg79,
  z32:=Tryz.sizeOf79,
  v32:=Tryz.zeroValue79,
  t35:=Tryz.underlying152,
  a35:=Tryz.isAgg152,
  z35:=Tryz.sizeOf152,
  v35:=Tryz.zeroValue152,
  t36:=Tryz.underlying153,
  a36:=Tryz.isAgg153,
  z36:=Tryz.sizeOf153,
  v36:=Tryz.zeroValue153,
  t41:=Tryz.underlying104,
  a41:=Tryz.isAgg104,
  z41:=Tryz.sizeOf104,
  v41:=Tryz.zeroValue104,
  t44:=Tryz.underlying38,
  a44:=Tryz.isAgg38,
  z44:=Tryz.sizeOf38,
  v44:=Tryz.zeroValue38,
  t46:=Tryz.underlying160,
  a46:=Tryz.isAgg160,
  z46:=Tryz.sizeOf160,
  v46:=Tryz.zeroValue160,
  t53:=Tryz.underlying174,
  a53:=Tryz.isAgg174,
  z53:=Tryz.sizeOf174,
  v53:=Tryz.zeroValue174,
  t57:=Tryz.underlying178,
  a57:=Tryz.isAgg178,
  z57:=Tryz.sizeOf178,
  v57:=Tryz.zeroValue178,
  t63:=Tryz.underlying183,
  a63:=Tryz.isAgg183,
  z63:=Tryz.sizeOf183,
  v63:=Tryz.zeroValue183,
  t64:=Tryz.underlying184,
  a64:=Tryz.isAgg184,
  z64:=Tryz.sizeOf184,
  v64:=Tryz.zeroValue184 }
theorem GD (m:Nat):AnyZI.SortsIn Tryz.prog wP Fence.wide m :=
  ⟨fun blk off cap ss W hH hblk hsz=>callsIn_wide.2 (AnyM.slices_Sort_int Kb blk off cap ss W hH hblk hsz),
   fun p cap W=>callsIn_wide.2 (AnyM.slices_Sort_int_none Kb p cap W)⟩
def wx (F:FuncId):Prop:=∀(Bm b nn:Nat) (D0:DataW Unit) (R:Value->Option (DataW Unit×List MemPlace)) (w:World),Bm<w.heap.size->w.cell? ⟨Bm,0,none⟩=some (.map (some b))->w.ownsMap Tryz.prog 3 R b nn D0 ->
  Maps.size D0<=maxLen->Maps.size D0*8<=140737488355328->Calls Tryz.prog 41 #[.func (.func F) #[] #[.pointer (some ⟨Bm,0,none⟩)]] w fun e w'=>∃(v:Value) (ss:List Int),e=.returned v/\ss.Perm (intKeys D0) /\
    w'.ownsRow w.heap.size 3 1 v ss.length ((ss.mergeSort (fun x y=>decide (x<=y))).map encZ)/\(v=.slice none 0 0↔ss=[])/\Below w.heap.size w w'
theorem Hr:wx 66:=fun Bm b nn D0 R w hB hm hown h1 h2=>by
  refine(callsIn_wide (n:=5)).1 ?_
  have hseq:SeqGives Fence.wide 2 Tryz.prog 66 #[.pointer (some ⟨Bm,0,none⟩)] encZ (fun ss=>ss.Perm (intKeys D0)) (Maps.size D0) w :=
    AnyZI.keys_gives (ρ:=As) { MP with } Fence.wide _ trivial rfl (by omega) Bm b nn D0 w hB hm hown
  exact AnyZI.sorted_in Eo Fence.wide 5 trivial trivial trivial trivial rfl (by omega) (GD _) (enters_of Tryz.func65 (by kernel_rfl) rfl) 66 _ trivial (enters_of Tryz.func66 (by kernel_rfl) rfl) _ _ h1 h2 w hseq
theorem Lr:wx 67:=fun Bm b nn D0 R w hB hm hown h1 h2=>by
  refine(callsIn_wide (n:=5)).1 ?_
  have hseq:SeqGives Fence.wide 2 Tryz.prog 67 #[.pointer (some ⟨Bm,0,none⟩)] encZ (fun ss=>ss.Perm (intKeys D0)) (Maps.size D0) w :=
    AnyZI.keys_gives (ρ:=Ar) { MO with } Fence.wide _ trivial rfl (by omega) Bm b nn D0 w hB hm hown
  exact AnyZI.sorted_in Eo Fence.wide 5 trivial trivial trivial trivial rfl (by omega) (GD _) (enters_of Tryz.func65 (by kernel_rfl) rfl) 67 _ trivial (enters_of Tryz.func67 (by kernel_rfl) rfl) _ _ h1 h2 w hseq
end Go.Am
namespace Go.Am
open Go Go.Proofs Go.RowKit
theorem Hv {c:Ctx}(hr:ak c){hp':Array Obj}(hs:c.hp.size<=hp'.size) (hb:∀k,k<c.hp.size->hp'[k]?=c.hp[k]?):c.le ⟨c.ρ,c.X,c.h,hp'⟩/\ak ⟨c.ρ,c.X,c.h,hp'⟩:=by
  have hle:c.le ⟨c.ρ,c.X,c.h,hp'⟩:=⟨hs,rfl,fun g hg _=>hb g hg,fun g cur ty fr h=>⟨cur,(hb g (Array.getElem?_eq_some_iff.1 h).1).trans h,rfl⟩,
    fun g r h=>⟨r,(hb g (Array.getElem?_eq_some_iff.1 h).1).trans h,rfl⟩,fun _ _=>rfl,fun _=>Trans.refl _,fun n g hm hρ _=>⟨n,hm,hρ⟩⟩
  exact⟨hle,⟨fun n=>dW hle (hr.slot n) (fun _ _=>rfl) (fun g hm hρ=>hb g (eQ hr hm hρ)),hr.inj,hr.apart,fun g hx=>Nat.lt_of_lt_of_le (hr.xlt g hx) hs,hr.fin,hr.glob.mono hle,Nat.le_trans hr.lo hs⟩⟩
abbrev nL (l:List Nat):List D:=l.map fun(k:Nat)=>.int .i64 (k:Int)
theorem GU {c:Ctx}(hr:ak c){w':World}(hs:c.hp.size<=w'.heap.size) (hb:∀k,k<c.hp.size->w'.heap[k]?=c.hp[k]?){v:Value}{e:TypeId}{ks:List Nat}(ho:w'.ownsRow c.hp.size e 1 v ks.length (ks.map fun(k:Nat)=>Value.int .i64 (k:Int))) :
    an ⟨c.ρ,c.X,c.h,w'.heap⟩ (.sl (nL ks)) v:=by
  rcases ho.2 with⟨rfl,h0⟩|⟨g,cap,cur,rfl,hbase,hg,h1,h2,h3,h4⟩
  · have:ks=[]:=List.eq_nil_of_length_eq_zero h0
    subst this
    exact .lf none 0 (by unfold maxLen;omega)
  · by_cases hks:ks=[]
    · subst hks
      exact .lf _ cap h2
    · have hlen:ks.length=(nL ks).length:=by simp[nL]
      have hcell:∀i j d,aG (nL ks) i j=some d->j=0/\∃k,ks[i]?=some k/\d=.int .i64 (k:Int):=by
        intro i j d hd
        simp only[aG,Option.bind_eq_some_iff,nL,List.getElem?_map,Option.map_eq_some_iff]at hd
        obtain⟨x,⟨k,hk,rfl⟩,hx⟩:=hd
        cases j with
        | zero=>simp[D.cells]at hx;exact⟨rfl,k,hk,hx.symm⟩
        | succ j=>simp[D.cells]at hx
      have hval:∀(i k:Nat),ks[i]?=some k->cur.getD i Go.undef=.int .i64 (k:Int)/\i<cur.size:=by
        intro i k hk
        have hi:=(List.getElem?_eq_some_iff.1 hk).1
        have h5:(cur.toList.take (ks.length*1))[i]?=(ks.map fun(k:Nat)=>Value.int .i64 (k:Int))[i]?:=by rw[h4]
        rw[List.getElem?_take_of_lt (by omega),List.getElem?_map,hk]at h5
        have hlt:i<cur.size:=by have:=(List.getElem?_eq_some_iff.1 h5).1;simpa using this
        refine⟨?_,hlt⟩
        rw[<- aB]
        simp[List.getD,h5]
      rw[hlen]
      refine an.sl (nL ks) g 0 cap 1 (fun i _=>cur.getD i Go.undef) (by simpa[nL] using hks) (by rw[<- hlen];exact h1) h2 (by omega) (fun x hx=>?_) (fun i j d hd=>?_) (fun i j d hd=>?_) ?_ (fun i j d hd=>?_)
      · simp only[nL,List.mem_map]at hx;obtain⟨k,-,rfl⟩:=hx;rfl
      · obtain⟨-,k,-,rfl⟩:=hcell i j d hd;rfl
      · obtain⟨rfl,k,hk,rfl⟩:=hcell i j d hd
        obtain⟨-,hlt⟩:=hval i k hk
        simp only[Nat.zero_add,Nat.mul_one,Nat.add_zero]
        exact cT hg hlt
      · rintro (hx|⟨n,hm,hρ⟩)
        · have:=hr.xlt g hx;omega
        · have:=eQ hr hm hρ;omega
      · obtain⟨rfl,k,hk,rfl⟩:=hcell i j d hd
        rw[(hval i k hk).1]
        exact .int _ _
structure BG (ents:List (D×D)) (ks:List Nat):Prop where
  key:∀p∈ents,∃k:Nat,k<1000000/\p.1=.int .i64 (k:Int)
  len:ents.length<=1000000
  inc:ks.Pairwise (· < ·)
  mem:∀k:Nat,k∈ks ↔ ∃p,p∈ents/\p.1=.int .i64 (k:Int)
def RU:Value->Option (DataW Unit×List MemPlace):=fun _=>some (.nil,[])
open Go.Maps in
theorem nV {F:FuncId}(hF:wx F){n m:Nat}{h:Heap}{ents:List (D×D)}{ks:List Nat}(hn:h n=.box (.mp m)) (hm:h m=.map (.int .i64) ents) (hk:BG ents ks){KH:D->Heap->Prop}
    (hK:KH (.sl (nL ks)) h):ah PP aS [.fn F [] [.ptr n 0 0]] h KH:=by
  intro c w vals hh hp hr hs hrel
  subst hh
  have r0:=hrel 0 _ rfl
  obtain⟨va,hva⟩:∃va,vals = #[va]:=by
    obtain⟨l⟩:=vals
    match l,hs with
    | [x],_=>exact⟨x,rfl⟩
  subst hva
  have e0:(#[va]:Array Value).getD 0 Go.undef=va:=rfl
  rw[e0]at r0
  cases r0 with
  | fn _ _ _ xa xb hsa hsb hra hrb =>
    have rb:=hrb 0 _ rfl
    obtain⟨xa⟩:=xa
    obtain⟨xb⟩:=xb
    match xa,hsa,xb,hsb with
    | [],_,[pv],_ =>
      have e1:(#[pv]:Array Value).getD 0 Go.undef=pv:=rfl
      rw[e1]at rb
      cases rb with
      | ptrDead _ _ _ _ _ hd=>rw[hn]at hd;cases hd
      | ptrRow _ _ _ _ _ _ hrow=>rw[hn]at hrow;cases hrow
      | ptrBox _ _ g v hv hρ =>
        have hsl:=hr.slot n
        rw[hn]at hsl
        obtain⟨g',cur,ty,q1,q2,q3,q4⟩:=hsl
        rw[hρ]at q1;cases q1
        obtain⟨-,rm⟩:=q4 0 _ rfl
        have hlt:0<cur.size:=by rw[q3];simp[D.cells]
        generalize hcv:cur.getD 0 Go.undef=cv at rm
        cases rm with
        | mpDead _ _ hd=>rw[hm]at hd;cases hd
        | mp _ gm kt es0 hmm hρm =>
          have hsm:=hr.slot m
          rw[hm]at hsm
          obtain⟨gm',es,clock,p1,p2,p3,pst,p4⟩:=hsm
          rw[hρm]at p1;cases p1
          have hcell:w.cell? ⟨g,0,none⟩=some (.map (some gm)):=by
            rw[mJ, <- hp,cT q2 hlt,hcv]
          have re:∀x∈es.toList,∃p,p∈ents/\∃k:Nat,k<1000000/\p.1=.int .i64 (k:Int)/\x.key=.int .i64 (k:Int):=by
            intro x hx
            obtain⟨i,hi,rfl⟩:=List.mem_iff_getElem.1 hx
            have hi':i<es.size:=by simpa using hi
            have hpi:ents[i]?=some ents[i]:=List.getElem?_eq_getElem (by omega)
            obtain⟨a1,a2,e,a3,a4,a5⟩:=p4 i _ hpi
            rw[Array.getElem?_eq_getElem hi']at a3
            cases a3
            obtain⟨k,hk1,hk2⟩:=hk.key _ (List.mem_of_getElem? hpi)
            refine⟨_,List.mem_of_getElem? hpi,k,hk1,hk2,?_⟩
            rw[hk2]at a4
            have hgi:es.toList[i]=es[i]:=by simp
            rw[hgi]
            generalize es[i].key=kk at a4
            cases a4
            rfl
          have tn:∀p∈ents,∃x,x∈es.toList/\∀k:Nat,p.1=.int .i64 (k:Int)->x.key=.int .i64 (k:Int):=by
            intro p hpm
            obtain⟨i,hi,rfl⟩:=List.mem_iff_getElem.1 hpm
            have hpi:ents[i]?=some ents[i]:=List.getElem?_eq_getElem hi
            obtain⟨a1,a2,e,a3,a4,a5⟩:=p4 i _ hpi
            refine⟨e,by rw[Array.mem_toList_iff];exact Array.mem_of_getElem? a3,fun k hk1=>?_⟩
            rw[hk1]at a4
            generalize e.key=kk at a4
            cases a4
            rfl
          have hwf:∀k:Nat,k<1000000->(Lit.int .i64 (k:Int)).wf=true:=by
            intro k hk1
            have e1:IntKind.i64.min = -9223372036854775808:=rfl
            have e2:IntKind.i64.max=9223372036854775807:=rfl
            simp only[Lit.wf,e1,e2,Bool.and_eq_true,decide_eq_true_eq]
            omega
          have hrd:∀x∈es.toList,∀k:Nat,k<1000000->x.key=.int .i64 (k:Int)->WideElems.rd Tryz.prog 3 RU x=some (.int .i64 (k:Int),.nil):=by
            intro x hx k hk1 hk2
            exact WideElems.rd_mk (R:=RU) (yv:=(.nil,[])) (key:=x.key) (val:=x.val) (born:=x.born) (by rw[hk2];exact keyOf_int_mk Tryz.underlying3 (hwf k hk1)) rfl
          have hfit:WideElems.Fit Tryz.prog 3 RU es clock:=⟨by rw[p3];have:=hk.len;unfold maxLen;omega,pst,fun x hx=>by
            obtain⟨p,-,k,k1,-,k3⟩:=re x hx
            exact⟨_,hrd x hx k k1 k3⟩⟩
          have hown:w.ownsMap Tryz.prog 3 RU gm es.size (.map ((es.toList.map (WideElems.rg Tryz.prog 3 RU)).foldr DataW.insert [])):=⟨es,clock,by rw[<- hp];exact p2,hfit,Nat.le_refl _,rfl⟩
          have hsize:Maps.size (.map ((es.toList.map (WideElems.rg Tryz.prog 3 RU)).foldr DataW.insert []))=es.size:=by
            rw[Maps.size_eq,(WideShapes.sorted_perm _).length_eq];simp
          obtain⟨es',hD,hpw,-⟩:=hown.entries (int_keyed Tryz.underlying3)
          have hD':(es.toList.map (WideElems.rg Tryz.prog 3 RU)).foldr DataW.insert []=es':=by simpa using hD
          have hmem:∀p,p∈es' ↔ ∃x,x∈es.toList/\WideElems.rg Tryz.prog 3 RU x=p:=by
            intro p;rw[<- hD',mem_sorted,List.mem_map]
          have hhas:∀x:Int,x∈ks.map (fun(k:Nat)=>(k:Int))↔has (.map es') (.int .i64 x)=true:=by
            intro x
            rw[has_eq,List.any_eq_true,List.mem_map]
            constructor
            · rintro⟨k,hkm,rfl⟩
              obtain⟨p,hpm,hpk⟩:=(hk.mem k).1 hkm
              obtain⟨y,hy,hyk⟩:=tn p hpm
              obtain⟨k',hk1,hk2⟩:=hk.key p hpm
              rw[hpk]at hk2
              have:k=k':=by
                have:(k:Int)=(k':Int):=by simpa using hk2
                omega
              subst this
              exact⟨_,(hmem _).2 ⟨y,hy,rfl⟩,by rw[WideElems.rg_of (hrd y hy k hk1 (hyk k hpk))];simp[Lit.sameKey]⟩
            · rintro⟨p,hpm,hps⟩
              obtain⟨y,hy,rfl⟩:=(hmem p).1 hpm
              obtain⟨q,hq,k,k1,k2,k3⟩:=re y hy
              rw[WideElems.rg_of (hrd y hy k k1 k3)]at hps
              refine⟨k,(hk.mem k).2 ⟨q,hq,k2⟩,by simpa[Lit.sameKey] using hps⟩
          have hperm:(ks.map fun(k:Nat)=>(k:Int)).Perm (intKeys (.map es')):=perm_intKeys hpw (fun p hpm=>by
            obtain⟨y,hy,rfl⟩:=(hmem p).1 hpm
            obtain⟨q,hq,k,k1,k2,k3⟩:=re y hy
            exact⟨k,by rw[WideElems.rg_of (hrd y hy k k1 k3)]⟩) (by
            rw[List.nodup_iff_pairwise_ne,List.pairwise_map]
            exact hk.inc.imp fun h1 h2=>by omega) hhas
          have hsorted:(ks.map fun(k:Nat)=>(k:Int)).mergeSort (fun x y=>decide (x<=y))=ks.map fun(k:Nat)=>(k:Int):=by
            refine List.mergeSort_of_pairwise ?_
            rw[List.pairwise_map]
            exact hk.inc.imp fun h1=>by simp;omega
          refine(hF g gm es.size _ RU w (by rw[<- hp];exact(Array.getElem?_eq_some_iff.1 q2).1) hcell hown (by rw[hsize,p3];have:=hk.len;unfold maxLen;omega) (by rw[hsize,p3];have:=hk.len;omega)).mono ?_
          rintro e w' ⟨v,ss,rfl,hss,hrow,-,hbel⟩
          have hp2:ss.Perm (ks.map fun(k:Nat)=>(k:Int)):=by
            refine hss.trans ?_
            rw[hD'];exact hperm.symm
          have hms:ss.mergeSort (fun x y=>decide (x<=y))=ks.map fun(k:Nat)=>(k:Int):=(mergeSort_of_perm_i hp2).trans hsorted
          have hlen:ss.length=ks.length:=by have:=hp2.length_eq;simpa using this
          rw[hms,hlen,List.map_map]at hrow
          obtain⟨g1,g2⟩:=Hv (c:=c) hr (hp':=w'.heap) (by rw[hp];exact hbel.size) (fun k hk=>by rw[hp];exact hbel.block k (by rw[<- hp];exact hk))
          exact⟨v,.sl (nL ks),c.ρ,c.h,rfl,g1,g2,⟨hbel.os,hbel.tape,hbel.output⟩,GU hr (by rw[hp];exact hbel.size) (fun k hk=>by rw[hp];exact hbel.block k (by rw[<- hp];exact hk)) (by rw[hp];exact hrow),hK⟩
end Go.Am
namespace Go.Am
open Go
variable [bA]
variable {P:Program}{KH:D->Heap->Prop}{K:D->Prop}{h:Heap}{L:List (Nat×Slot)}
def nD (k:Nat):D:=.int .i64 (k:Int)
def aL (l:List Nat):List D:=l.map nD
def QV (h:Heap) (L:List (Nat×Slot)) (v:D) (T:List Nat):Prop :=
  (v=.nil/\T=[]/\Vs h L)\/∃m off els,v=.ms m off T.length/\Vs h ((m,.arr 1 els)::L)/\off+T.length<=els.length/\(els.drop off).take T.length=aL T/\∀x∈els,x.one=true
theorem A9 {l:List Nat}:∀x,x∈aL l->x.one=true:=fun x hx=>by
  simp only[aL,List.mem_map]at hx;obtain⟨k,-,rfl⟩:=hx;rfl
theorem Dq {l:List Nat}:∀x,x∈aL l->aK x:=fun x hx=>by
  simp only[aL,List.mem_map]at hx;obtain⟨k,-,rfl⟩:=hx;exact(aY).one
theorem eP {l:List Nat}:(aL l).length=l.length:=by simp[aL]
theorem uu {l:List Nat}{i k:Nat}(h:l[i]?=some k):(aL l)[i]?=some (nD k):=by simp[aL,h]
variable {v:D}{T:List Nat}
theorem QV.vs (q:QV h L v T):Vs h L:=by
  rcases q with⟨-,-,V⟩|⟨m,off,els,-,V,-⟩
  · exact V
  · exact V.pop
theorem QV.len (q:QV h L v T):bj v h K=K (.int .i64 (T.length:Int)):=by
  rcases q with⟨rfl,rfl,V⟩|⟨m,off,els,rfl,V,-⟩
  · rw[Gv];rfl
  · rw[nr]
    apply propext
    exact⟨fun hh=>hh.2,fun hk=>⟨by rw[V.get 0 _ _ rfl];rfl,hk⟩⟩
theorem QV.nil (V:Vs h L):QV h L .nil []:=Or.inl ⟨rfl,rfl,V⟩
theorem QV.ex (q:QV h L v T) (hT:T≠[]):∃m off els,v=.ms m off T.length/\Vs h ((m,.arr 1 els)::L)/\off+T.length<=els.length/\(els.drop off).take T.length=aL T/\∀x∈els,x.one=true:=by
  rcases q with⟨-,rfl,-⟩|q
  · exact absurd rfl hT
  · exact q
theorem QV.get (q:QV h L v T){i k:Nat}(hk:T[i]?=some k){KH:D->Heap->Prop}(hK:KH (nD k) h):aa P (.iadd (.c v) (.c (.int .i64 (i:Int))) 1) h fun a h1=>aa P (.ld (.c a) 1 false) h1 KH:=by
  have hi:=(List.getElem?_eq_some_iff.1 hk).1
  obtain⟨m,off,els,rfl,V,h1,h2,h3⟩:=q.ex (by rintro rfl;simp at hk)
  have hm:=V.get 0 _ _ rfl
  rw[qe]
  refine⟨by omega,by omega,⟨els,by rw[hm];rfl⟩,?_⟩
  have he:els[off+i]?=some (nD k):=by
    have:=uu hk
    rw[<- h2,List.getElem?_take_of_lt hi,List.getElem?_drop]at this
    exact this
  rw[Int.toNat_natCast,V.NO 0 rfl he rfl]
  exact hK
theorem QV.DI (q:QV h L v T){i k:Nat}(hk:T[i]?=some k){K:D->Prop}(hK:K (nD k)):af P (.iadd (.c v) (.c (.int .i64 (i:Int))) 1) h fun a=>af P (.ld (.c a) 1 false) h K:=by
  have:=QV.get (P:=P) q hk (KH:=fun d _=>K d) hK
  exact this
theorem QV.kY (q:QV h L v T){lo hi:Option Nat}{a b:Nat}(ha:a=lo.getD 0) (hb:b=hi.getD T.length) (hab:a<=b) (hbl:b<=T.length) (hT:T≠[]){KH:D->Heap->Prop}(hK:∀v',QV h L v' ((T.drop a).take (b-a))->KH v' h) :
    aa P (.kY (.c v) (lo.map fun(x:Nat)=>.c (.int .i64 (x:Int))) (hi.map fun(x:Nat)=>.c (.int .i64 (x:Int))) none 1) h KH:=by
  obtain⟨m,off,els,rfl,V,h1,h2,h3⟩:=q.ex hT
  have hm:=V.get 0 _ _ rfl
  have hl:((T.drop a).take (b-a)).length=b-a:=by rw[List.length_take,List.length_drop];omega
  have key:KH (.ms m (off+a) (b-a)) h:=by
    refine hK _ (Or.inr ⟨m,off+a,els,by rw[hl],V,by rw[hl];omega,?_,h3⟩)
    rw[hl]
    have e:aL ((T.drop a).take (b-a))=((aL T).drop a).take (b-a):=by simp[aL,List.map_take,List.map_drop]
    rw[e, <- h2,List.drop_take,List.drop_drop,List.take_take]
    congr 1
    omega
  have row:∃els,(h m).row=some (1,els):=⟨els,by rw[hm];rfl⟩
  cases lo with
  | none =>
    cases hi with
    | none=>simp at ha hb;subst ha;subst hb;exact⟨by omega,by omega,by omega,by omega,row,by simpa using key⟩
    | some y=>simp at ha hb;subst ha;subst hb;exact⟨by omega,by omega,by omega,by omega,row,by simpa using key⟩
  | some x =>
    cases hi with
    | none=>simp at ha hb;subst ha;subst hb;exact⟨by omega,by omega,by omega,by omega,row,by rw[show((T.length:Int)-(a:Int)).toNat=T.length-a by omega];simpa using key⟩
    | some y=>simp at ha hb;subst ha;subst hb;exact⟨by omega,by omega,by omega,by omega,row,by rw[show((b:Int)-(a:Int)).toNat=b-a by omega];simpa using key⟩
theorem QV.M9 (q:QV h L v T){lo hi:Option Nat}{a b:Nat}(ha:a=lo.getD 0) (hb:b=hi.getD T.length) (hab:a<=b) (hbl:b<=T.length) (hT:T≠[]){K:D->Prop}(hK:∀v',QV h L v' ((T.drop a).take (b-a))->K v') :
    af P (.kY (.c v) (lo.map fun(x:Nat)=>.c (.int .i64 (x:Int))) (hi.map fun(x:Nat)=>.c (.int .i64 (x:Int))) none 1) h K :=
  QV.kY (P:=P) q ha hb hab hbl hT (KH:=fun d _=>K d) hK
theorem QV.one (V:Vs h L){z:D}{k:Nat}{fz:Bool}{KH:D->Heap->Prop}(hK:∀v h',QV h' L v [k]->KH v h'):aa P (.bldS fz 1 1 z [(0,.c (nD k))]) h KH:=by
  refine⟨fun p hp=>by simp[Arg.get]at hp;subst hp;exact⟨Nat.one_pos,rfl,(aY (k:=.i64) (n:=(k:Int))).one⟩,fun hf p hp=>?_,fun n t=>?_⟩
  · simp[Arg.get]at hp;subst hp
    intro x hx
    simp[nD,D.cells]at hx;subst hx;trivial
  · have:KH (.ms n 0 1) (al h n (.arr 1 [nD k])):=by
      refine hK _ _ (Or.inr ⟨n,0,[nD k],rfl,V.push t.free (by simp),by simp,by simp[aL],fun x hx=>by simp at hx;subst hx;rfl⟩)
    cases fz<;>simpa[Arg.get,setEls,D.fz,D.fzc,D.nm,D.iB,nD,Heap.freezeAll] using this
theorem Kk {s x z:D}{esz bytes:Nat}:aa P (.app (.c s) (.c x) esz bytes z) h KH=velems esz x h fun ys=>(∀y∈ys,aK y)/\match s with
    | .nil=>(ys.length*bytes<=140737488355328/\ys.length<=9223372036854775807)/\∀n,lL h n->KH (.ms n 0 ys.length) (al h n (.arr esz ys))
    | .ms m off len=>∃els,wy h m esz els/\off+len=els.length/\((len+ys.length)*bytes<=140737488355328/\len+ys.length<=9223372036854775807) /\
        ∀n,lL h n->KH (.ms n 0 (len+ys.length)) (al (al h m .dead) n (.arr esz (els.drop off++ys))) /\
          (off≠0->KH (.ms n off (len+ys.length)) (al (al h m .dead) n (.arr esz (els++ys))))
    | _=>False:=rfl
theorem QV.app (q:QV h L v T){z x:D}{bytes:Nat}{ks:List Nat}{KH:D->Heap->Prop}(hx:∀{K:List D->Prop},K (aL ks)->velems 1 x h K) (hb:(T.length+ks.length)*bytes<=140737488355328) (hl:T.length+ks.length<=9223372036854775807)
    (hK:∀v h',QV h' L v (T++ks)->KH v h'):aa P (.app (.c v) (.c x) 1 bytes z) h KH:=by
  rw[Kk]
  refine hx ⟨Dq,?_⟩
  rcases q with⟨rfl,rfl,V⟩|⟨m,off,els,rfl,V,h1,h2,h3⟩
  · refine⟨⟨by rw[eP];simpa using hb,by rw[eP];simpa using hl⟩,fun n t=>hK _ _ ?_⟩
    rw[eP,List.nil_append]
    exact Or.inr ⟨n,0,aL ks,rfl,V.push t.free (by simp),by rw[eP];omega,by rw[List.drop_zero,List.take_of_length_le (by rw[eP];omega)],A9⟩
  · have hm:=V.get 0 _ _ rfl
    have hel:(els.take (off+T.length)).length=off+T.length:=by rw[List.length_take];omega
    have one':∀x,x∈els.take (off+T.length)++aL ks->x.one=true:=fun x hx=>by
      rcases List.mem_append.1 hx with hx|hx
      · exact h3 x (List.mem_of_mem_take hx)
      · exact A9 x hx
    have hwin:(els.take (off+T.length)).drop off=aL T:=by rw[List.drop_take];rw[<- h2];congr 1;omega
    have hw2:aL T++aL ks=aL (T++ks):=by simp[aL]
    have hlen:(T++ks).length=T.length+ks.length:=List.length_append
    refine⟨els.take (off+T.length),⟨els.drop (off+T.length),by rw[List.take_append_drop];exact hm⟩,hel.symm,⟨by rw[eP];exact hb,by rw[eP];exact hl⟩,fun n t=>?_⟩
    have Vn:∀els':List D,Vs (al (al h m .dead) n (.arr 1 els')) ((n,.arr 1 els')::L):=fun els'=>by
      have hne:n≠m:=by rintro rfl;rw[t.free]at hm;cases hm
      have V1:Vs (al h m .dead) L:=by
        refine V.pop.Av fun k s hi=>?_
        have:k≠m:=fun e=>by
          obtain⟨i,hi'⟩:=hi
          exact V.ne (i+1) 0 k m s _ (by simpa using hi') rfl (by omega) e
        exact ab _ _ this
      exact V1.push (by rw[ab _ _ hne];exact t.free) (by simp)
    rw[hwin,hw2,eP]
    refine⟨hK _ _ (Or.inr ⟨n,0,aL (T++ks),by rw[hlen],Vn _,by rw[eP];omega,by rw[List.drop_zero,List.take_of_length_le (by rw[eP];omega)],A9⟩),fun _=>hK _ _ (Or.inr ⟨n,off,els.take (off+T.length)++aL ks,by rw[hlen],Vn _,?_,?_,one'⟩)⟩
    · rw[List.length_append (bs:=aL ks),hel,eP,hlen];omega
    · rw[List.drop_append_of_le_length (by omega),hwin,hw2,List.take_of_length_le (by rw[eP];omega)]
theorem Vs.swap {x y:Nat×Slot}(V:Vs h (x::y::L)):Vs h (y::x::L):=by
  let f:Nat->Nat:=fun i=>if i=0 then 1 else if i=1 then 0 else i
  have hf:∀i,(y::x::L)[i]?=(x::y::L)[f i]?:=fun i=>by
    match i with
    | 0=>rfl
    | 1=>rfl
    | i+2=>simp[f]
  have inj:∀i j,f i=f j->i=j:=fun i j h=>by
    simp only[f]at h;split at h<;>split at h<;>(try split at h)<;>(try split at h)<;>omega
  exact⟨fun i n s hi=>V.get (f i) n s (by rw[<- hf];exact hi),fun i j n m s s' hi hj hij=>V.ne (f i) (f j) n m s s' (by rw[<- hf];exact hi) (by rw[<- hf];exact hj) fun e=>hij (inj _ _ e),fun i n s hi=>V.lv (f i) n s (by rw[<- hf];exact hi)⟩
theorem QV.cg (q:QV h L v T) (i:Nat){n:Nat}{s s':Slot}(hi:L[i]?=.some (n,s)) (hs:s'≠.free):QV (al h n s') (L.set i (n,s')) v T:=by
  rcases q with⟨rfl,rfl,V⟩|⟨m,off,els,rfl,V,h1,h2,h3⟩
  · exact Or.inl ⟨rfl,rfl,V.cg i hi hs⟩
  · exact Or.inr ⟨m,off,els,rfl,by have:=V.cg (i+1) (n:=n) (s:=s) (by simpa using hi) hs;simpa using this,h1,h2,h3⟩
theorem QV.more (q:QV h L v T){n:Nat}(hn:h n=.free){s:Slot}(hs:s≠.free):QV (al h n s) ((n,s)::L) v T:=by
  rcases q with⟨rfl,rfl,V⟩|⟨m,off,els,rfl,V,h1,h2,h3⟩
  · exact Or.inl ⟨rfl,rfl,V.push hn hs⟩
  · exact Or.inr ⟨m,off,els,rfl,(V.push hn hs).swap,h1,h2,h3⟩
theorem QV.less {x:Nat×Slot}(q:QV h (x::L) v T):QV h L v T:=by
  rcases q with⟨rfl,rfl,V⟩|⟨m,off,els,rfl,V,h1,h2,h3⟩
  · exact Or.inl ⟨rfl,rfl,V.pop⟩
  · exact Or.inr ⟨m,off,els,rfl,V.swap.pop,h1,h2,h3⟩
theorem KW {n j:Nat}{els:List D}{d:D}(hn:h n=.arr 1 els) (hj:j<els.length) (ho:d.one=true) (h1:∀x∈els,x.one=true):KH .undef (al h n (.arr 1 (els.set j d)))->aa P (.st (.c (.ptr n j 0)) (.c d) 1) h KH:=by
  intro hK
  rw[jZ,hn]
  have hc:∀d:D,d.one=true->d.cells=[d]:=fun d ho=>by cases d<;>first|rfl|cases ho
  refine⟨by rw[hc d ho];rfl,fun x hx=>by rw[hc d ho]at hx;simp at hx;subst hx;exact ho,hj,by omega,fun y hy=>?_⟩
  have hy1:=h1 y (List.mem_of_getElem? hy)
  have e:setCells y 0 d.cells=d:=by rw[hc d ho];cases y<;>first|rfl|cases hy1
  rw[e]
  exact hK
theorem QV.Mp (q:QV h L v T) (i:Nat){n j:Nat}{els:List D}{d:D}(hi:L[i]?=.some (n,.arr 1 els)) (hj:j<els.length) (ho:d.one=true) (h1:∀x∈els,x.one=true)
    (hK:∀h',QV h' (L.set i (n,.arr 1 (els.set j d))) v T->KH .undef h'):aa P (.st (.c (.ptr n j 0)) (.c d) 1) h KH :=
  KW (q.vs.get i _ _ hi) hj ho h1 (hK _ (q.cg i hi (by simp)))
theorem QV.alloc (q:QV h L v T){d:D}(hK:∀n h',QV h' ((n,.box d)::L) v T->KH (.ptr n 0 0) h'):aa P (.alloc d) h KH:=by
  rw[gK]
  exact fun n t=>hK n _ (q.more t.free (by simp))
theorem QV.Fv (q:QV h L v T) (i:Nat){n s:Nat}{cs cs':List D}(hi:L[i]?=.some (n,.box (.agg cs))) (hl:cs.length=s) (hl':cs'.length=s) (ho:∀x,x∈cs'->x.one=true)
    (hK:∀h',QV h' (L.set i (n,.box (.agg cs'))) v T->KH .undef h'):aa P (.st (.c (.ptr n 0 0)) (.c (.agg cs')) s) h KH:=by
  rw[jZ,q.vs.get i _ _ hi]
  refine⟨hl',ho,rfl,by simp[hl],?_⟩
  have e:setCells (.agg cs) 0 (D.agg cs').cells=.agg cs':=by
    show D.agg (cs.take 0++cs'++cs.drop (0+cs'.length))=_
    rw[List.take_zero,List.nil_append,Nat.zero_add,List.drop_of_length_le (by omega),List.append_nil]
  rw[e]
  exact hK _ (q.cg i hi (by simp))
theorem QV.ret (q:QV h L v T){K:D->Prop}(hk:K (.sl (aL T))) (hn:T=[]->K .nil):lW K v h:=by
  rcases q with⟨rfl,rfl,V⟩|⟨m,off,els,rfl,V,h1,h2,h3⟩
  · rw[BQ];exact hn rfl
  · have hrow:(h m).row=some (1,els):=by rw[V.get 0 _ _ rfl];rfl
    have e:(D.ms m off T.length).fzt h=.sl (aL T):=by simp[D.fzt,D.fz,D.fzc,hrow,h2]
    have hv:∀x,x∈(els.drop off).take T.length->∀y∈x.cells,y.vone=true:=by
      rw[h2];intro x hx y hy
      simp only[aL,List.mem_map]at hx
      obtain⟨k,-,rfl⟩:=hx
      simp[nD,D.cells]at hy;subst hy;rfl
    refine⟨(by simp:aK (D.ms m off T.length)),?_,by rw[e];rfl,by rw[e];exact hk⟩
    intro x hx
    simp only[D.cells,List.mem_singleton]at hx
    subst hx
    exact⟨1,els,hrow,h1,hv⟩
theorem KG {ks:List Nat}{K:List D->Prop}(hk:K (aL ks)):velems 1 (.sl (aL ks)) h K :=
  ⟨fun e he=>by simp only[aL,List.mem_map]at he;obtain⟨k,-,rfl⟩:=he;rfl,hk⟩
theorem QV.Oa {ks:List Nat}(q:QV h L v ks){K:List D->Prop}(hk:K (aL ks)):velems 1 v h K:=by
  rcases q with⟨rfl,rfl,V⟩|⟨m,off,els,rfl,V,h1,h2,h3⟩
  · exact hk
  · exact⟨els,by rw[V.get 0 _ _ rfl];rfl,h1,by rw[h2];exact hk⟩
theorem QV.push (q:QV h L v T){z z':D}{bytes k:Nat}{fz:Bool}{KH:D->Heap->Prop}(hb:(T.length+1)*bytes<=140737488355328) (hl:T.length+1<=9223372036854775807)
    (hK:∀v h',QV h' L v (T++[k])->KH v h'):aa P (.bldS fz 1 1 z [(0,.c (nD k))]) h fun x h1=>aa P (.app (.c v) (.c x) 1 bytes z') h1 KH:=by
  rcases q with⟨rfl,rfl,V⟩|⟨m,off,els,rfl,V,h1,h2,h3⟩
  · refine QV.one V fun x h1 q1=>?_
    have q0:QV h1 L .nil []:=QV.nil q1.vs
    exact q0.app (ks:=[k]) (fun hk=>q1.Oa hk) (by simp at hb ⊢;omega) (by simp) hK
  · refine QV.one V fun x h1 q1=>?_
    have q0:QV h1 L (.ms m off T.length) T:=Or.inr ⟨m,off,els,rfl,q1.vs,by assumption,h2,h3⟩
    exact q0.app (ks:=[k]) (fun hk=>q1.Oa hk) (by simpa using hb) (by simpa using hl) hK
end Go.Am
namespace Go.Am
open Go Go.Proofs
def aZ (t:Term):List Nat:=if t.kind=5 then [] else if t.kind=2/\t.to0≠t.to1 then [t.to0.toNat,t.to1.toNat] else [t.to0.toNat]
theorem BE.succ {N:Nat}{R:Int}{t:Term}(h:BE N R t):∀b,b∈aZ t->b<N:=by
  intro b hb
  cases h with
  | branch o x y ho h1 h2 =>
    unfold aZ at hb
    split at hb
    · simp at hb
    · split at hb<;>simp at hb<;>omega
  | jump a h=>simp[aZ]at hb;omega
  | barrier a h=>simp[aZ]at hb;omega
  | collect s d a b t hs hd ha hbb h=>simp[aZ]at hb;omega
  | exit=>simp[aZ]at hb
theorem Hu {P:Program}{n i j l s:Nat}{k:IntKind}{a:Int}{h:Heap}{KH:D->Heap->Prop}:aa P (.iadda (.c (.ptr n i j)) (.c (.int k a)) l s) h KH=(0<=a/\a<l/\(h n).live=true/\KH (.ptr n i (j+a.toNat*s)) h):=rfl
theorem Vs.MR {P:Program}{KH:D->Heap->Prop}{h:Heap}{L:List (Nat×Slot)}(V:Vs h L) (i:Nat){n l j:Nat}{a:Nat}{d:D}(hi:L[i]?=some (n,.box d)) (h1:a<l):aa P (.iadda (.c (.ptr n 0 j)) (.c (.int .i64 (a:Int))) l 1) h KH=KH (.ptr n 0 (j+a)) h:=by
  rw[Hu,V.get i _ _ hi]
  apply propext
  constructor
  · rintro⟨-,-,-,hk⟩;simpa using hk
  · intro hk;exact⟨by omega,by omega,rfl,by simpa using hk⟩
theorem Vs.Dl {P:Program}{KH:D->Heap->Prop}{h:Heap}{L:List (Nat×Slot)}(V:Vs h L) (i:Nat){n l j:Nat}{cs:List D}(hi:L[i]?=some (n,.box (.agg cs))) (h0:0<l) (hl:l<=1000000) (hj:j+l<=cs.length) (hv:∀d,d∈(cs.drop j).take l->d.vone=true)
    (hK:∀h',KH (.sl ((cs.drop j).take l)) h'):aa P (.Dl (.c (.ptr n 0 j)) l) h KH:=by
  show match h n with
    | .box (.agg cs)=>(0:Nat)=0/\0<l/\l<=1000000/\j+l<=cs.length/\(∀d,d∈(cs.drop j).take l->d.vone=true)/\KH (.sl ((cs.drop j).take l)) (al h n .dead)
    | _=>False
  rw[V.get i _ _ hi]
  exact⟨rfl,h0,hl,hj,hv,hK _⟩
theorem HY {N:Nat}{R:Int}{t:Term}(h:BE N R t):aN PP dI [t.e] (· = .sl (aL (aZ t))):=by
  refine aN.wk (K:=fun r=>r=.sl (aL (aZ t))\/(r=.nil/\aZ t=[])) (bG qR (ar _ _ _) rfl (zw _ _) ?_) fun r hr=>?_
  · unfold xi
    refine Vs.nil.box t.kI.one fun n2 h3 V=>?_
    have i0:∀{KH:D->Heap->Prop},aa PP (.iadda (.c (.ptr n2 0 11)) (.c (.int .i64 0)) 2 1) h3 KH=KH (.ptr n2 0 11) h3:=fun {KH}=>V.MR 0 (a:=0) rfl (by omega)
    have i1:∀{KH:D->Heap->Prop},aa PP (.iadda (.c (.ptr n2 0 11)) (.c (.int .i64 1)) 2 1) h3 KH=KH (.ptr n2 0 12) h3:=fun {KH}=>V.MR 0 (a:=1) rfl (by omega)
    have one:∀(a:Nat),aa PP (.bldS true 1 1 (.int .i64 0) [(0,.c (.int .i64 (a:Int)))]) h3 fun a60 h61=>lW (fun r=>r=.sl (aL [a])\/r=.nil/\[a]=[]) a60 h61:=fun a=>by
      exact QV.one (k:=a) V fun v h' q=>q.ret (Or.inl rfl) (by simp)
    cases h with
    | jump a ha =>
      simp (disch:=omega) only[↓V.fa 0 rfl,Nat.zero_add,↓V.ig 0 (j:=0) rfl rfl,↓cS,↓gS,↓i0,↓V.ig 0 (j:=11) rfl rfl]
      exact one a
    | barrier a ha =>
      simp (disch:=omega) only[↓V.fa 0 rfl,Nat.zero_add,↓V.ig 0 (j:=0) rfl rfl,↓cS,↓gS,↓i0,↓V.ig 0 (j:=11) rfl rfl]
      exact one a
    | collect s d a b t hs hd ha hb ht =>
      simp (disch:=omega) only[↓V.fa 0 rfl,Nat.zero_add,↓V.ig 0 (j:=0) rfl rfl,↓cS,↓gS,↓i0,↓V.ig 0 (j:=11) rfl rfl]
      exact one t
    | exit =>
      simp (disch:=omega) only[↓V.fa 0 rfl,Nat.zero_add,↓V.ig 0 (j:=0) rfl rfl,↓cS,↓gS]
      rw[BQ]
      exact Or.inr ⟨rfl,rfl⟩
    | branch o a b ho ha hb =>
      simp (disch:=omega) only[↓V.fa 0 rfl,Nat.zero_add,↓V.ig 0 (j:=0) rfl rfl,↓cS,↓gS,↓i0,↓i1,↓V.ig 0 (j:=11) rfl rfl,↓V.ig 0 (j:=12) rfl rfl]
      by_cases hab:a=b
      · subst hab
        simp (disch:=omega) only[↓cS,↓gS,↓V.fa 0 rfl,Nat.zero_add,↓i0,↓V.ig 0 (j:=11) rfl rfl]
        have e:aZ ⟨2,0,aq,o,aq,(a:Int),(a:Int)⟩=[a]:=by simp[aZ]
        rw[e]
        exact one a
      · simp (disch:=omega) only[↓cS,↓gS,↓V.fa 0 rfl,Nat.zero_add]
        have e:aZ ⟨2,0,aq,o,aq,(a:Int),(b:Int)⟩=[a,b]:=by simp[aZ];omega
        rw[e]
        refine V.Dl 0 (cs:=(Term.cs ⟨2,0,aq,o,aq,(a:Int),(b:Int)⟩)) rfl (by omega) (by omega) (by simp[Term.cs]) (fun d hd=>by simp[Term.cs]at hd;rcases hd with rfl|rfl<;>rfl) fun h'=>?_
        rw[ya]
        exact Or.inl rfl
  · rcases hr with rfl|⟨rfl,e⟩
    · exact⟨_,.refl _,rfl,rfl⟩
    · rw[e];exact⟨_,.nil,rfl,rfl⟩
inductive Path (E:Nat->List Nat) (s:Nat):Nat->Prop
  | refl:Path E s s
  | step {a b:Nat}(h:Path E s a) (hb:b∈E a):Path E s b
theorem Path.trans {E:Nat->List Nat}{a b c:Nat}(h:Path E a b) (k:Path E b c):Path E a c:=by
  induction k with
  | refl=>exact h
  | step _ hb ih=>exact .step ih hb
theorem Path.closed {E:Nat->List Nat}{s b:Nat}{S:Nat->Prop}(h:Path E s b) (hs:S s) (hc:∀a b,S a->b∈E a->S b):S b:=by
  induction h with
  | refl=>exact hs
  | step _ hb ih=>exact hc _ _ ih hb
def sU (p:Nat->Bool) (N:Nat):Nat:=(List.range N).countP fun k=> !p k
theorem zi {α:Type}{p q:α->Bool}:∀{l:List α},(∀x∈l,q x=true->p x=true)->(∃x,x∈l/\p x=true/\q x=false)->l.countP q+1<=l.countP p
  | [],_,⟨x,hx,_⟩=>by cases hx
  | y::l,h,⟨x,hx,h1,h2⟩=>by
    have hm:l.countP q<=l.countP p:=List.countP_mono_left fun z hz hq=>h z (by simp[hz]) hq
    rw[List.countP_cons,List.countP_cons]
    rcases List.mem_cons.1 hx with rfl|hx
    · rw[h1,h2];simp;omega
    · have:=zi (l:=l) (fun z hz=>h z (by simp[hz])) ⟨x,hx,h1,h2⟩
      by_cases hq:q y=true
      · rw[hq,h y (by simp) hq];simp;omega
      · simp[hq];split<;>omega
theorem qV {p p':Nat->Bool}{N x:Nat}(h:∀k,p k=true->p' k=true) (hx:x<N) (h1:p x=false) (h2:p' x=true):sU p' N+1<=sU p N :=
  zi (fun k _ hk=>by cases hp:p k<;>simp_all) ⟨x,by simpa using hx,by simp[h1],by simp[h2]⟩
end Go.Am
namespace Go.Am
open Go Go.Proofs
structure gh (c:Code):Prop where
  nb:1<=c.b.length/\c.b.length<=18
  t:∀B∈c.b,BE c.b.length c.regs B.t
theorem mf.g {c:Code}(h:mf c):gh c:=⟨h.nb,fun B hB=>(h.b B hB).t⟩
def edg (c:Code) (a:Nat):List Nat:=match c.b[a]? with
  | some B=>aZ B.t
  | none=>[]
theorem HJ {c:Code}{a:Nat}{B:Block}(h:c.b[a]?=some B):edg c a=aZ B.t:=by unfold edg;rw[h]
theorem kH {c:Code}(hc:gh c){a b:Nat}(h:b∈edg c a):b<c.b.length:=by
  unfold edg at h
  split at h
  · rename_i B hB;exact(hc.t B (List.mem_of_getElem? hB)).succ b h
  · cases h
def bL (S:List Bool):List D:=S.map .bool
theorem BB (S:List Bool):∀x,x∈bL S->x.one=true:=fun x hx=>by
  simp only[bL,List.mem_map]at hx;obtain⟨k,-,rfl⟩:=hx;rfl
theorem BC {S:List Bool}{i:Nat}{b:Bool}(h:S[i]?=some b):(bL S)[i]?=some (.bool b):=by simp[bL,h]
theorem BA (S:List Bool) (i:Nat) (b:Bool):(bL S).set i (.bool b)=bL (S.set i b):=by simp[bL,List.map_set]
def hasB (S:List Bool) (k:Nat):Bool:=(S[k]?).getD false
theorem uK {S:List Bool}{x k:Nat}(hx:x<S.length):hasB (S.set x true) k=(decide (k=x)||hasB S k):=by
  unfold hasB
  rw[List.getElem?_set]
  by_cases h:x=k
  · subst h;simp[hx]
  · rw[if_neg h];simp[Ne.symm h]
theorem uL {S:List Bool}{k:Nat}(hk:k<S.length):S[k]?=some (hasB S k):=by
  unfold hasB;rw[List.getElem?_eq_getElem hk];rfl
theorem AW (p:Nat->Bool) (N:Nat):sU p N<=N:=by
  have:=List.countP_le_length (p:=fun k=> !p k) (l:=List.range N)
  simpa[sU] using this
structure Ea (E:Nat->List Nat) (N s:Nat) (p:Nat->Bool) (T:List Nat):Prop where
  st:p s=true
  lt:∀k,p k=true->k<N
  td:∀k∈T,p k=true
  path:∀k,p k=true->Path E s k
  done:∀a b,p a=true->a∉T->b∈E a->p b=true
theorem Ea.fin {E:Nat->List Nat}{N s:Nat}{p:Nat->Bool}(h:Ea E N s p []) (k:Nat):p k=true↔Path E s k :=
  ⟨h.path k,fun hp=>hp.closed (S:=fun k=>p k=true) h.st fun a b ha hb=>h.done a b ha (by simp) hb⟩
structure kQ (E:Nat->List Nat) (N s:Nat) (p:Nat->Bool) (T:List Nat) (a i:Nat):Prop where
  st:p s=true
  lt:∀k,p k=true->k<N
  td:∀k∈T,p k=true
  path:∀k,p k=true->Path E s k
  done:∀a' b,a'≠a->p a'=true->a'∉T->b∈E a'->p b=true
  pa:p a=true
  part:∀(j b:Nat),j<i->(E a)[j]?=some b->p b=true
theorem Ea.pop {E:Nat->List Nat}{N s a:Nat}{p:Nat->Bool}{T T':List Nat}(h:Ea E N s p T) (ha:a∈T) (hT:∀k,k∈T'->k∈T) (hT2:∀k∈T,k=a\/k∈T'):kQ E N s p T' a 0 :=
  ⟨h.st,h.lt,fun k hk=>h.td k (hT k hk),h.path,fun a' b hne hp hn hb=>h.done a' b hp (fun hm=>by rcases hT2 a' hm with e|e;exact hne e;exact hn e) hb,h.td a ha,fun j b hj=>by omega⟩
theorem kQ.end {E:Nat->List Nat}{N s a i:Nat}{p:Nat->Bool}{T:List Nat}(h:kQ E N s p T a i) (hi:(E a).length<=i):Ea E N s p T :=
  ⟨h.st,h.lt,h.td,h.path,fun a' b hp hn hb=>by
    by_cases e:a'=a
    · subst e
      obtain⟨j,hj,rfl⟩:=List.mem_iff_getElem.1 hb
      exact h.part j _ (by omega) (List.getElem?_eq_getElem hj)
    · exact h.done a' b e hp hn hb⟩
theorem kQ.De {E:Nat->List Nat}{N s a i b:Nat}{p:Nat->Bool}{T:List Nat}(h:kQ E N s p T a i) (hb:(E a)[i]?=some b) (hp:p b=true):kQ E N s p T a (i+1) :=
  ⟨h.st,h.lt,h.td,h.path,h.done,h.pa,fun j c hj hc=>by
    by_cases e:j=i
    · subst e;rw[hb]at hc;cases hc;exact hp
    · exact h.part j c (by omega) hc⟩
theorem kQ.new {E:Nat->List Nat}{N s a i b:Nat}{p p':Nat->Bool}{T:List Nat}(h:kQ E N s p T a i) (hb:(E a)[i]?=some b) (hlt:b<N) (hp':∀k,p' k=(decide (k=b)||p k)):kQ E N s p' (T++[b]) a (i+1):=by
  have up:∀k,p k=true->p' k=true:=fun k hk=>by rw[hp',hk];simp
  have inv:∀k,p' k=true->k=b\/p k=true:=fun k hk=>by rw[hp']at hk;simpa using hk
  refine⟨up s h.st,fun k hk=>?_,fun k hk=>?_,fun k hk=>?_,fun a' c hne hp hn hc=>?_,up a h.pa,fun j c hj hc=>?_⟩
  · rcases inv k hk with rfl|hk
    · exact hlt
    · exact h.lt k hk
  · rcases List.mem_append.1 hk with hk|hk
    · exact up k (h.td k hk)
    · simp at hk;subst hk;rw[hp'];simp
  · rcases inv k hk with rfl|hk
    · exact .step (h.path a h.pa) (List.mem_of_getElem? hb)
    · exact h.path k hk
  · rcases inv a' hp with rfl|hp
    · exact absurd (by simp) hn
    · exact up c (h.done a' c hne hp (fun hm=>hn (by simp[hm])) hc)
  · by_cases e:j=i
    · subst e;rw[hb]at hc;cases hc;rw[hp'];simp
    · exact up c (h.part j c (by omega) hc)
end Go.Am
namespace Go.Am
open Go Go.Proofs
section
variable {c:Code}{b:Nat}{B:Block}{P:Program}{KH:D->Heap->Prop}{h:Heap}{K:D->Prop}
theorem Ga (hB:c.b[b]?=some B):aa P (.iadd (.c (.sl (c.b.map Block.e))) (.c (.int .i64 (b:Int))) 14) h KH=KH (.vp B.e 0) h :=
  lf (by omega) (by rw[Int.toNat_natCast,List.getElem?_map,hB];rfl) rfl
theorem CH (hB:c.b[b]?=some B):af P (.iadd (.c (.sl (c.b.map Block.e))) (.c (.int .i64 (b:Int))) 14) h K=K (.vp B.e 0):=by rw[l8,Ga hB]
theorem JK:aa P (.ld (.c (.vp B.e 1)) 13 true) h KH=KH B.t.e h:=by
  rw[y6,qU]
  apply propext
  exact⟨fun hh=>hh.2,fun hk=>⟨by show 1+13<=14;omega,hk⟩⟩
theorem CG:af P (.ld (.c (.vp B.e 1)) 13 true) h K=K B.t.e:=by rw[wc,JK]
theorem LL {d:D}{o:Nat}:af P (.fadd (.c (.vp d 0)) o) h K=K (.vp d o):=by rw[show af P (.fadd (.c (.vp d 0)) o) h K=aa P (.fadd (.c (.vp d 0)) o) h (fun d _=>K d) from rfl,Kp]
end
theorem Il {P:Program}{KH:D->Heap->Prop}{h:Heap}{l:List Nat}{i k:Nat}(hk:l[i]?=some k) (hK:KH (nD k) h):aa P (.iadd (.c (.sl (aL l))) (.c (.int .i64 (i:Int))) 1) h fun a h1=>aa P (.ld (.c a) 1 false) h1 KH:=by
  rw[lf (esz:=1) (d:=nD k) (by omega) (by rw[Int.toNat_natCast];exact uu hk) rfl,yX rfl]
  exact hK
theorem lq {h:Heap}{K:D->Prop}{l:List Nat}:bj (.sl (aL l)) h K=K (.int .i64 (l.length:Int)):=by rw[ku,eP]
end Go.Am
namespace Go.Am
open Go Go.Proofs
def re (ks:List Nat):List (D×D):=ks.map fun k=>(nD k,.bool true)
theorem qY {a b:Nat}:keySame (nD a) (nD b)=decide (a=b):=by simp only[keySame,nD];exact decide_eq_decide.2 (by omega)
theorem Ch {k:Nat}:∀{ks:List Nat},mget (re ks) (nD k)=if k∈ks then some (.bool true) else none
  | []=>by simp[re,mget]
  | a::r=>by
    have ih:=Ch (k:=k) (ks:=r)
    simp only[re,List.map_cons,mget,qY,decide_eq_true_eq]at ih ⊢
    by_cases h:k=a
    · simp[h]
    · rw[if_neg h,ih];simp[h]
theorem Cg {k:Nat}:∀{ks:List Nat},mset (re ks) (nD k) (.bool true)=re (if k∈ks then ks else ks++[k])
  | []=>by simp[re,mset]
  | a::r=>by
    have ih:=Cg (k:=k) (ks:=r)
    simp only[re,List.map_cons,mset,qY,decide_eq_true_eq]at ih ⊢
    by_cases h:k=a
    · subst h;simp
    · rw[if_neg h,ih]
      by_cases hk:k∈r<;>simp[h,hk]
section
variable {P:Program}{KH:D->Heap->Prop}{h:Heap}{L:List (Nat×Slot)}{v:D}{T:List Nat}
theorem Vs.yi (V:Vs h L){kt:KeyT}(hK:∀n h',Vs h' ((n,.map kt [])::L)->KH (.mp n) h'):aa P (.yi kt) h KH:=fun n t=>hK n _ (V.push t.free (by simp))
theorem QV.mset (q:QV h L v T) (i:Nat){n k:Nat}{ks:List Nat}(hi:L[i]?=some (n,.map (.int .i64) (re ks))) (hK:∀h',QV h' (L.set i (n,.map (.int .i64) (re (if k∈ks then ks else ks++[k])))) v T->KH .undef h') :
    aa P (.mupd (.int .i64) (.c (.mp n)) (.c (nD k)) (.c (.bool true))) h KH:=by
  refine⟨rfl,rfl,?_⟩
  have hn:=q.vs.get i _ _ hi
  simp only[Arg.get,hn]
  refine⟨trivial,?_⟩
  rw[Cg]
  exact hK _ (q.cg i hi (by simp))
theorem Vs.mset (V:Vs h L) (i:Nat){n k:Nat}{ks:List Nat}(hi:L[i]?=some (n,.map (.int .i64) (re ks))) (hK:∀h',Vs h' (L.set i (n,.map (.int .i64) (re (if k∈ks then ks else ks++[k]))))->KH .undef h') :
    aa P (.mupd (.int .i64) (.c (.mp n)) (.c (nD k)) (.c (.bool true))) h KH :=
  (QV.nil V).mset i hi fun h' q=>hK h' q.vs
theorem Vs.mget (V:Vs h L) (i:Nat){n k:Nat}{ks:List Nat}(hi:L[i]?=some (n,.map (.int .i64) (re ks))) (hK:KH (.bool (decide (k∈ks))) h):aa P (.look (.int .i64) (.c (.mp n)) (.c (nD k)) (.bool false) false) h KH:=by
  refine⟨rfl,?_⟩
  have hn:=V.get i _ _ hi
  simp only[Arg.get,hn]
  refine⟨trivial,?_⟩
  rw[Ch]
  by_cases hk:k∈ks<;>simpa[hk] using hK
end
def mh (c:Code) (a:Nat):List Nat:=match c.b[a]? with
  | some B=>if B.t.kind=3 then [] else aZ B.t
  | none=>[]
def hU (c:Code) (a:Nat):List Nat:=match c.b[a]? with
  | some B=>if B.t.kind=3 then aZ B.t else []
  | none=>[]
structure Oj (ks:List Nat) (N:Nat) (p:Nat->Prop):Prop where
  nd:ks.Nodup
  lt:∀k∈ks,k<N
  mem:∀k,k∈ks↔p k
def dQ (ks:List Nat) (k:Nat):Bool:=decide (k∈ks)
theorem p0 {ks:List Nat}{k:Nat}:dQ ks k=true↔k∈ks:=by simp[dQ]
def zr (ks:List Nat) (k:Nat):List Nat:=if k∈ks then ks else ks++[k]
theorem pZ {ks:List Nat}{k x:Nat}:x∈zr ks k↔x=k\/x∈ks:=by
  unfold zr
  split
  · rename_i h
    constructor
    · exact Or.inr
    · rintro (rfl|hx)
      · exact h
      · exact hx
  · simp[or_comm]
theorem Fb {ks:List Nat}{k:Nat}(h:ks.Nodup):(zr ks k).Nodup:=by
  unfold zr
  split
  · exact h
  · rename_i hk
    exact List.nodup_append.2 ⟨h,by simp,fun a ha b hb=>by simp at hb;subst hb;rintro rfl;exact hk ha⟩
theorem qX {ks:List Nat}{k x:Nat}:dQ (zr ks k) x=(decide (x=k)||dQ ks x):=by
  unfold dQ
  rw[<- Bool.decide_or]
  exact decide_eq_decide.2 pZ
theorem y5 {c:Code}{a:Nat}{B:Block}(hB:c.b[a]?=some B):mh c a=if B.t.kind=3 then [] else aZ B.t:=by unfold mh;rw[hB]
theorem nF {c:Code}{a:Nat}{B:Block}(hB:c.b[a]?=some B):hU c a=if B.t.kind=3 then aZ B.t else []:=by unfold hU;rw[hB]
theorem Bh {c:Code}{a b:Nat}(h:b∈mh c a):b∈edg c a:=by
  unfold mh at h;unfold edg
  cases hB:c.b[a]?<;>simp only[hB]at h ⊢
  · exact h
  · split at h
    · cases h
    · exact h
theorem jb {c:Code}{a b:Nat}(h:b∈hU c a):b∈edg c a:=by
  unfold hU at h;unfold edg
  cases hB:c.b[a]?<;>simp only[hB]at h ⊢
  · exact h
  · split at h
    · exact h
    · cases h
structure Ni (E:Nat->List Nat) (p:Nat->Bool) (T:List Nat) (nx:List Nat):Prop where
  nd:nx.Nodup
  ok:∀b∈nx,∃a,p a=true/\b∈E a
  done:∀a b,p a=true->a∉T->b∈E a->b∈nx
structure tG (E:Nat->List Nat) (p:Nat->Bool) (T:List Nat) (nx:List Nat) (a i:Nat):Prop where
  nd:nx.Nodup
  ok:∀b∈nx,∃a,p a=true/\b∈E a
  pa:p a=true
  done:∀a' b,a'≠a->p a'=true->a'∉T->b∈E a'->b∈nx
  part:∀(j b:Nat),j<i->(E a)[j]?=some b->b∈nx
section
variable {E:Nat->List Nat}{p p':Nat->Bool}{T T' nx:List Nat}{a i b:Nat}
theorem Ni.pop (h:Ni E p T nx) (pa:p a=true) (hT2:∀k∈T,k=a\/k∈T'):tG E p T' nx a 0 :=
  ⟨h.nd,h.ok,pa,fun a' b hne hp hn hb=>h.done a' b hp (fun hm=>by rcases hT2 a' hm with e|e;exact hne e;exact hn e) hb,fun j b hj=>by omega⟩
theorem tG.end (h:tG E p T nx a i) (hi:(E a).length<=i):Ni E p T nx :=
  ⟨h.nd,h.ok,fun a' b hp hn hb=>by
    by_cases e:a'=a
    · subst e
      obtain⟨j,hj,rfl⟩:=List.mem_iff_getElem.1 hb
      exact h.part j _ (by omega) (List.getElem?_eq_getElem hj)
    · exact h.done a' b e hp hn hb⟩
theorem tG.add (h:tG E p T nx a i) (hb:(E a)[i]?=some b):tG E p T (zr nx b) a (i+1) :=
  ⟨Fb h.nd,fun x hx=>by
    rcases pZ.1 hx with rfl|hx
    · exact⟨a,h.pa,List.mem_of_getElem? hb⟩
    · exact h.ok x hx,h.pa,fun a' x hne hp hn hx=>pZ.2 (Or.inr (h.done a' x hne hp hn hx)),fun j x hj hx=>by
    by_cases e:j=i
    · subst e;rw[hb]at hx;cases hx;exact pZ.2 (Or.inl rfl)
    · exact pZ.2 (Or.inr (h.part j x (by omega) hx))⟩
theorem tG.skip (h:tG E p T nx a i) (he:E a=[]):tG E p T nx a (i+1):=⟨h.nd,h.ok,h.pa,h.done,fun j x _ hx=>by rw[he]at hx;simp at hx⟩
theorem tG.grow (h:tG E p T nx a i) (hp':∀k,p' k=(decide (k=b)||p k)):tG E p' (T++[b]) nx a i:=by
  have inv:∀k,p' k=true->k=b\/p k=true:=fun k hk=>by rw[hp']at hk;simpa using hk
  refine⟨h.nd,fun x hx=>?_,by rw[hp',h.pa];simp,fun a' x hne hp hn hx=>?_,h.part⟩
  · obtain⟨y,hy,hyx⟩:=h.ok x hx
    exact⟨y,by rw[hp',hy];simp,hyx⟩
  · rcases inv a' hp with rfl|hp
    · exact absurd (by simp) hn
    · exact h.done a' x hne hp (fun hm=>hn (by simp[hm])) hx
end
theorem kQ.skip {E:Nat->List Nat}{N s a i:Nat}{p:Nat->Bool}{T:List Nat}(h:kQ E N s p T a i) (he:E a=[]):kQ E N s p T a (i+1) :=
  ⟨h.st,h.lt,h.td,h.path,h.done,h.pa,fun j x _ hx=>by rw[he]at hx;simp at hx⟩
theorem Vs.sy {P:Program}{h:Heap}{L:List (Nat×Slot)}{K:D->Prop}(V:Vs h L) (i:Nat){n o:Nat}{s:Slot}(hi:L[i]?=some (n,s)):af P (.fadd (.c (.ptr n 0 0)) o) h K=K (.ptr n 0 o):=by
  rw[show af P (.fadd (.c (.ptr n 0 0)) o) h K=aa P (.fadd (.c (.ptr n 0 0)) o) h (fun d _=>K d) from rfl,V.fa i hi]
theorem Vs.CF {P:Program}{h:Heap}{L:List (Nat×Slot)}{K:D->Prop}(V:Vs h L) (i:Nat){n j:Nat}{cs:List D}{e:D}(hi:L[i]?=some (n,.box (.agg cs))) (he:cs[j]?=some e):af P (.ld (.c (.ptr n 0 j)) 1 false) h K=K e:=by rw[wc,V.ig i hi he]
theorem Vs.erase {h:Heap}{L:List (Nat×Slot)}(V:Vs h L) (i:Nat):Vs h (L.eraseIdx i):=by
  let f:Nat->Nat:=fun j=>if j<i then j else j+1
  have hf:∀j,(L.eraseIdx i)[j]?=L[f j]?:=fun j=>by
    rw[List.getElem?_eraseIdx];simp only[f];split<;>rfl
  exact⟨fun j n s hj=>V.get (f j) n s (by rw[<- hf];exact hj),fun j k n m s s' hj hk hjk=>V.ne (f j) (f k) n m s s' (by rw[<- hf];exact hj) (by rw[<- hf];exact hk) (fun e=>hjk (by
    simp only[f]at e;split at e<;>split at e<;>omega)),fun j n s hj=>V.lv (f j) n s (by rw[<- hf];exact hj)⟩
end Go.Am
namespace Go.Am
open Go Go.Proofs
theorem L9 {c:Code}(hc:gh c){s:Nat}(hs:s<c.b.length){h:Heap}{L:List (Nat×Slot)}(V0:Vs h L){KH:D->Heap->Prop}
    (hK:∀(h':Heap) (n5 n9:Nat) (ks nx:List Nat),Vs h' ((n9,.map (.int .i64) (re nx))::(n5,.map (.int .i64) (re ks))::L)->ks.Nodup->(∀k,k∈ks↔Path (mh c) s k) ->
      nx.Nodup->(∀b,b∈nx ↔ ∃a,Path (mh c) s a/\b∈hU c a)->KH (.tup [.mp n5,.mp n9]) h'):ah PP eN [c.e,nD s] h KH:=by
  have hnb:=hc.nb
  refine cU x6 (ar _ _ _) rfl (xR _ _ _) ?_
  unfold u6
  refine V0.box c.kI.one fun n3 h4 V1=>?_
  refine V1.yi fun n5 h6 V2=>?_
  have V2':Vs h6 ((n5,.map (.int .i64) (re []))::(n3,.box c.e)::L):=V2
  refine V2'.mset 0 (k:=s) rfl fun h8 V3=>?_
  refine V3.yi fun n9 h10 V4=>?_
  replace V4:Vs h10 ((n9,.map (.int .i64) (re []))::(n5,.map (.int .i64) (re [s]))::(n3,.box c.e)::L):=V4
  generalize hN:c.b.length=N at *
  refine QV.one (k:=s) V4 fun v h12 q0=>?_
  let L3:List Nat->List Nat->Nat->List (Nat×Slot):=fun nx ks _=>(n9,.map (.int .i64) (re nx))::(n5,.map (.int .i64) (re ks))::(n3,.box c.e)::L
  refine⟨fun _ h=>∃ks nx,Vs h (L3 nx ks 0)/\Ea (mh c) N s (dQ ks) []/\ks.Nodup/\Ni (hU c) (dQ ks) [] nx,?_,?_⟩
  · rintro f h' ⟨ks,nx,V,hsr,hnd,hnx⟩
    refine hK h' n5 n9 ks nx (V.erase 2) hnd (fun k=>by rw[<- hsr.fin,p0]) hnx.nd fun b=>⟨fun hb=>?_,fun ⟨a,ha,hab⟩=>hnx.done a b ((hsr.fin a).2 ha) (by simp) hab⟩
    obtain⟨a,ha,hab⟩:=hnx.ok b hb
    exact⟨a,(hsr.fin a).1 ha,hab⟩
  unfold oS
  refine⟨fun m l h=>∃(ks nx T:List Nat) (v:D),l=[v]/\QV h (L3 nx ks 0) v T/\Ea (mh c) N s (dQ ks) T/\ks.Nodup/\Ni (hU c) (dQ ks) T nx/\m=2*sU (dQ ks) N+T.length/\m<=1000,_,
    ⟨[s],[],[s],v,rfl,q0,?_,by simp,?_,rfl,by have:=AW (dQ [s]) N;simp only[List.length_singleton];omega⟩,?_⟩
  · have hb:∀k,dQ [s] k=true->k=s:=fun k hk=>by rw[p0]at hk;simpa using hk
    have h0:dQ [s] s=true:=by rw[p0];simp
    exact⟨h0,fun k hk=>by rw[hb k hk];exact hs,fun k hk=>by simp at hk;subst hk;exact h0,fun k hk=>by rw[hb k hk];exact .refl,fun a b ha hn _=>absurd (by simp[hb a ha]) hn⟩
  · have hb:∀k,dQ [s] k=true->k=s:=fun k hk=>by rw[p0]at hk;simpa using hk
    exact⟨by simp,fun b hb=>(by cases hb),fun a b ha hn _=>absurd (by simp[hb a ha]) hn⟩
  rintro m f h1 ⟨ks,nx,T,v,hl,q,hs',hnd,hx,hm,hmb⟩
  simp only[List.cons.injEq,and_true]at hl
  simp only[hl,q.len,rZ]
  cases T with
  | nil =>
    simp only[List.length_nil,show((0:Nat):Int)=0 from rfl,Int.lt_irrefl,decide_false,↓au,ae,true_and]
    exact⟨ks,nx,q.vs,hs',hnd,hx⟩
  | cons a T' =>
    have hTl:0<(a::T').length:=by simp
    simp only[show((0:Int)<((a::T').length:Int))=True from eq_true (by omega),decide_true,↓av]
    have haN:=hs'.lt a (hs'.td a (by simp))
    have hB:c.b[a]?=some c.b[a]:=List.getElem?_eq_getElem (by omega)
    generalize c.b[a]=B at hB
    have hTm:=hc.t B (List.mem_of_getElem? hB)
    have V:=q.vs
    simp only[↓V.sy 2 rfl,Nat.zero_add,↓V.CF 2 (j:=7) rfl rfl]
    refine q.DI (i:=0) (k:=a) rfl ?_
    simp only[nD,↓CH hB,↓LL,↓CG]
    refine q.alloc fun n29 h30 q1=>?_
    refine q1.Fv 0 (cs':=B.t.cs) rfl rfl rfl (fun y hy=>by simp[Term.cs]at hy;rcases hy with rfl|rfl|rfl|rfl|rfl|rfl|rfl|rfl|rfl|rfl|rfl|rfl|rfl<;>rfl) fun h32 q2=>?_
    refine q2.kY (lo:=some 1) (hi:=none) (a:=1) (b:=(a::T').length) rfl rfl (by simp) (Nat.le_refl _) (by simp) fun v' q'=>?_
    have e1:((a::T').drop 1).take ((a::T').length-1)=T':=by simp
    rw[e1]at q'
    replace q':QV h32 ((n29,.box B.t.e)::L3 nx ks 0) v' T':=q'
    have V':=q'.vs
    rw[V'.xJ 0 (s:=13) (cs:=B.t.cs) rfl rfl]
    refine cn (HY hTm) (fun d hd=>by simp at hd;subst hd;exact B.t.kI.pair) ?_
    rintro _ rfl
    rw[lq]
    have hsi:kQ (mh c) N s (dQ ks) T' a 0:=hs'.pop (by simp) (fun k hk=>by simp[hk]) (fun k hk=>by simpa using hk)
    have hxi:tG (hU c) (dQ ks) T' nx a 0:=hx.pop (hs'.td a (by simp)) (fun k hk=>by simpa using hk)
    have hmT:2*sU (dQ ks) N+T'.length<m:=by rw[hm];simp
    unfold oT
    refine⟨fun k l h=>∃(i:Nat) (ks nx T:List Nat) (v:D),l=[v,.int .i64 (i:Int)]/\i<=(aZ B.t).length/\k=(aZ B.t).length-i/\QV h ((n29,.box B.t.e)::L3 nx ks 0) v T/\kQ (mh c) N s (dQ ks) T a i/\ks.Nodup/\tG (hU c) (dQ ks) T nx a i/\2*sU (dQ ks) N+T.length<m,_,
      ⟨0,ks,nx,T',v',rfl,by omega,rfl,q',hsi,hnd,hxi,hmT⟩,?_⟩
    clear hmT hsi hxi q' hm hs' q q1 q2 hnd hx V V'
    rintro k f2 h2 ⟨i,ks,nx,T,v,hl2,hi,hk,q,hs,hnd,hx,hm⟩
    simp only[List.cons.injEq,and_true]at hl2
    obtain⟨e6,e32⟩:=hl2
    rw[e6,e32,ml]
    have hEl:(aZ B.t).length<=2:=by unfold aZ;split<;>(try split)<;>simp
    by_cases hlt:i<(aZ B.t).length
    · simp only[show((i:Int)<((aZ B.t).length:Int))=True from eq_true (by omega),decide_true,↓av]
      refine⟨fun l h=>∃(ks nx T:List Nat) (v:D),l=[v]/\QV h ((n29,.box B.t.e)::L3 nx ks 0) v T/\kQ (mh c) N s (dQ ks) T a (i+1)/\ks.Nodup/\tG (hU c) (dQ ks) T nx a (i+1)/\2*sU (dQ ks) N+T.length<m,?_,?_⟩
      · rintro f3 h3 ⟨ks,nx,T,v,hl3,g1,g2,g3,g4,g5⟩
        simp only[List.cons.injEq,and_true]at hl3
        rw[hl3,gk (by omega) (by omega)]
        simp only[ae,true_and]
        exact⟨_,by omega,i+1,ks,nx,T,v,by simp,by omega,rfl,g1,g2,g3,g4,g5⟩
      have hb:(aZ B.t)[i]?=some (aZ B.t)[i]:=List.getElem?_eq_getElem hlt
      generalize (aZ B.t)[i]=b at hb
      have hbN:b<N:=by rw[<- hN];exact hTm.succ b (List.mem_of_getElem? hb)
      have V:=q.vs
      refine Il hb ?_
      simp only[↓V.fa 0 rfl,Nat.zero_add,↓V.ig 0 (j:=0) (cs:=B.t.cs) rfl rfl,dE]
      by_cases h3:B.t.kind=3
      · have ein:mh c a=[]:=by rw[y5 hB,if_pos h3]
        have eout:hU c a=aZ B.t:=by rw[nF hB,if_pos h3]
        simp only[h3,decide_true,↓av]
        refine q.mset 1 (k:=b) rfl fun h5 q5=>?_
        simp only[ae,true_and]
        exact⟨ks,zr nx b,T,v,rfl,q5,hs.skip ein,hnd,hx.add (by rw[eout];exact hb),hm⟩
      · have ein:mh c a=aZ B.t:=by rw[y5 hB,if_neg h3]
        have eout:hU c a=[]:=by rw[nF hB,if_neg h3]
        simp only[h3,decide_false,↓au]
        refine V.mget 2 (k:=b) rfl ?_
        by_cases hbk:b∈ks
        · simp only[hbk,decide_true,↓IZ,↓au,ae,true_and]
          exact⟨ks,nx,T,v,rfl,q,hs.De (by rw[ein];exact hb) (p0.2 hbk),hnd,hx.skip eout,hm⟩
        · simp only[hbk,decide_false,↓I0,↓av]
          have hbS:dQ ks b=false:=by simp[dQ,hbk]
          have hsn:=hs.new (p':=dQ (zr ks b)) (by rw[ein];exact hb) hbN fun k=>qX
          have hun:sU (dQ (zr ks b)) N+1<=sU (dQ ks) N:=qV (x:=b) (fun k hk=>by rw[qX,hk];simp) hbN hbS (by rw[qX];simp)
          refine q.mset 2 (k:=b) rfl fun h5 q5=>?_
          replace q5:QV h5 ((n29,.box B.t.e)::L3 nx (zr ks b) 0) v T:=q5
          refine q5.push (k:=b) (by omega) (by omega) fun v6 h6 q6=>?_
          simp only[ae,true_and]
          exact⟨zr ks b,nx,T++[b],v6,rfl,q6,hsn,Fb hnd,(hx.skip eout).grow (fun k=>qX),by rw[List.length_append,List.length_singleton];omega⟩
    · simp only[show((i:Int)<((aZ B.t).length:Int))=False from eq_false (by omega),decide_false,↓au,ae,true_and]
      refine⟨_,hm,ks,nx,T,v,rfl,q.less,hs.end ?_,hnd,hx.end ?_,rfl,by omega⟩
      · rw[y5 hB];split
        · simp
        · omega
      · rw[nF hB];split
        · omega
        · simp
end Go.Am
namespace Go.Am
open Go Go.Proofs
theorem Vs.iff {h:Heap}{L:List (Nat×Slot)}:Vs h L↔(∀n s,(n,s)∈L->h n=s/\s≠.free)/\(L.map Prod.fst).Nodup:=by
  constructor
  · intro V
    refine⟨fun n s hm=>?_,?_⟩
    · obtain⟨i,hi⟩:=List.getElem?_of_mem hm
      exact⟨V.get i n s hi,V.lv i n s hi⟩
    · rw[List.nodup_iff_pairwise_ne,List.pairwise_map,List.pairwise_iff_getElem]
      intro i j hi hj hij
      exact V.ne i j _ _ L[i].2 L[j].2 (List.getElem?_eq_getElem hi) (List.getElem?_eq_getElem hj) (by omega)
  · rintro⟨h1,h2⟩
    refine⟨fun i n s hi=>(h1 n s (List.mem_of_getElem? hi)).1,fun i j n m s s' hi hj hij=>?_,fun i n s hi=>(h1 n s (List.mem_of_getElem? hi)).2⟩
    obtain⟨hli,ei⟩:=List.getElem?_eq_some_iff.1 hi
    obtain⟨hlj,ej⟩:=List.getElem?_eq_some_iff.1 hj
    rw[List.nodup_iff_pairwise_ne,List.pairwise_map,List.pairwise_iff_getElem]at h2
    rcases Nat.lt_or_gt_of_ne hij with hlt|hgt
    · have:=h2 i j hli hlj hlt;rw[ei,ej]at this;exact this
    · have:=h2 j i hlj hli hgt;rw[ei,ej]at this;exact fun e=>this e.symm
theorem Vs.perm {h:Heap}{L L':List (Nat×Slot)}(p:L.Perm L') (V:Vs h L):Vs h L':=by
  rw[Vs.iff]at V ⊢
  exact⟨fun n s hm=>V.1 n s (p.mem_iff.2 hm),(p.map _).nodup_iff.1 V.2⟩
theorem QV.lift {h:Heap}{L:List (Nat×Slot)}{v:D}{T:List Nat}(q:QV h L v T):∃Lq,Vs h Lq/\∀(h':Heap) (X:List (Nat×Slot)),Vs h' (X++Lq)->QV h' (X++L) v T:=by
  rcases q with⟨rfl,rfl,V⟩|⟨m,off,els,rfl,V,h1,h2,h3⟩
  · exact⟨L,V,fun h' X V'=>Or.inl ⟨rfl,rfl,V'⟩⟩
  · exact⟨_,V,fun h' X V'=>Or.inr ⟨m,off,els,rfl,V'.perm List.perm_middle,h1,h2,h3⟩⟩
def QD (h:Heap) (L:List (Nat×Slot)) (v:D) (T:List D):Prop :=
  (v=.nil/\T=[]/\Vs h L)\/∃m,v=.ms m 0 T.length/\Vs h ((m,.arr 1 T)::L)
theorem QD.vs {h:Heap}{L:List (Nat×Slot)}{v:D}{T:List D}(q:QD h L v T):Vs h L:=by
  rcases q with⟨-,-,V⟩|⟨m,-,V⟩
  · exact V
  · exact V.pop
theorem QD.cg {h:Heap}{L:List (Nat×Slot)}{v:D}{T:List D}(q:QD h L v T) (i:Nat){n:Nat}{s s':Slot}(hi:L[i]?=some (n,s)) (hs:s'≠.free):QD (al h n s') (L.set i (n,s')) v T:=by
  rcases q with⟨rfl,rfl,V⟩|⟨m,rfl,V⟩
  · exact Or.inl ⟨rfl,rfl,V.cg i hi hs⟩
  · exact Or.inr ⟨m,rfl,by have:=V.cg (i+1) (n:=n) (s:=s) (by simpa using hi) hs;simpa using this⟩
theorem QD.push {h:Heap}{L:List (Nat×Slot)}{v d:D}{T:List D}(q:QD h L v T){z z':D}{bytes:Nat}{KH:D->Heap->Prop}(hd:wL d) (h1:d.one=true) (hb:(T.length+1)*bytes<=140737488355328) (hl:T.length+1<=9223372036854775807)
    (hK:∀v h',QD h' L v (T++[d])->KH v h'):aa PP (.bldS true 1 1 z [(0,.c d)]) h fun x h1=>aa PP (.app (.c v) (.c x) 1 bytes z') h1 KH:=by
  have hc:d.cells.length=1:=by cases d<;>first|rfl|cases h1
  have hlen:T.length+1=(T++[d]).length:=by simp
  rcases q with⟨rfl,rfl,V⟩|⟨m,rfl,V⟩
  · refine Bj (els:=[]) (Or.inl ⟨rfl,rfl⟩) hd hc hb hl fun m h' hm hm' hk=>hK _ _ (Or.inr ⟨m,rfl,?_⟩)
    have Vk:=V.Av (h':=h') fun k s ⟨i,hi⟩=>hk k (fun e=>by subst e;exact V.lv i k s hi ((V.get i k s hi).symm.trans hm)) (by simp[D.iB]) (by rw[V.get i k s hi];exact V.lv i k s hi)
    rw[Vs.iff]at Vk ⊢
    refine⟨fun k s hs=>?_,?_⟩
    · rcases List.mem_cons.1 hs with e|hs
      · cases e;exact⟨hm',by simp⟩
      · exact Vk.1 k s hs
    · rw[List.map_cons,List.nodup_cons]
      refine⟨fun hmm=>?_,Vk.2⟩
      obtain⟨⟨k,s⟩,hks,rfl⟩:=List.mem_map.1 hmm
      obtain⟨i,hi⟩:=List.getElem?_of_mem hks
      exact V.lv i _ _ hi ((V.get i _ _ hi).symm.trans hm)
  · refine Bj (els:=T) (Or.inr ⟨m,rfl,V.get 0 _ _ rfl⟩) hd hc hb hl fun m' h' hm hm' hk=>hK _ _ (Or.inr ⟨m',by rw[hlen],?_⟩)
    have V1:=V.pop
    have Vk:=V1.Av (h':=h') fun k s ⟨i,hi⟩=>hk k (fun e=>by subst e;exact V1.lv i k s hi ((V1.get i k s hi).symm.trans hm)) (fun e=>by
      simp[D.iB]at e
      exact V.ne (i+1) 0 k m s _ (by simpa using hi) rfl (by omega) e) (by rw[V1.get i k s hi];exact V1.lv i k s hi)
    rw[Vs.iff]at Vk ⊢
    refine⟨fun k s hs=>?_,?_⟩
    · rcases List.mem_cons.1 hs with e|hs
      · cases e;exact⟨hm',by simp⟩
      · exact Vk.1 k s hs
    · rw[List.map_cons,List.nodup_cons]
      refine⟨fun hmm=>?_,Vk.2⟩
      obtain⟨⟨k,s⟩,hks,rfl⟩:=List.mem_map.1 hmm
      obtain⟨i,hi⟩:=List.getElem?_of_mem hks
      exact V1.lv i _ _ hi ((V1.get i _ _ hi).symm.trans hm)
noncomputable def Im (N:Nat) (p:Nat->Prop):List Nat:=(List.range N).filter fun k=>@decide (p k) (Classical.propDecidable _)
theorem bx {N:Nat}{p:Nat->Prop}{k:Nat}:k∈Im N p↔k<N/\p k:=by simp[Im]
theorem ly {N:Nat}{p:Nat->Prop}:(Im N p).Pairwise (· < ·):=List.Pairwise.filter _ List.pairwise_lt_range
theorem lu {N:Nat}{p:Nat->Prop}:(Im N p).length<=N:=by
  have:=List.length_filter_le (fun k=>@decide (p k) (Classical.propDecidable _)) (List.range N)
  simpa[Im] using this
inductive St (c:Code):Nat->Prop
  | zero:St c 0
  | step {s a t:Nat}(h:St c s) (ha:Path (mh c) s a) (ht:t∈hU c a):St c t
noncomputable def rl (c:Code) (s:Nat):List Nat:=Im c.b.length (Path (mh c) s)
noncomputable def Kf (c:Code) (s:Nat):List Nat:=Im c.b.length fun b=>∃a,Path (mh c) s a/\b∈hU c a
noncomputable def cJ (c:Code):List Nat:=Im c.b.length (St c)
noncomputable def Gi (c:Code):D:=.agg [.sl (aL (cJ c)),.sl ((cJ c).map fun s=>.sl (aL (rl c s)))]
theorem yg {c:Code}(hc:gh c){s a:Nat}(hs:s<c.b.length) (h:Path (mh c) s a):a<c.b.length:=by
  induction h with
  | refl=>exact hs
  | step _ hb _=>exact kH hc (Bh hb)
theorem St.lt {c:Code}(hc:gh c){s:Nat}(h:St c s):s<c.b.length:=by
  cases h with
  | zero=>exact hc.nb.1
  | step _ _ ht=>exact kH hc (jb ht)
theorem Cl {ks l:List Nat}{N:Nat}(hN:N<=1000) (hlt:∀k∈ks,k<N) (hnd:ks.Nodup) (hl:l.Pairwise (· < ·)) (hm:∀k,k∈l↔k∈ks) (hlen:ks.length<=1000000):BG (re ks) l:=by
  refine⟨fun p hp=>?_,by simpa[re] using hlen,hl,fun k=>?_⟩
  · simp only[re,List.mem_map]at hp
    obtain⟨k,hk,rfl⟩:=hp
    exact⟨k,by have:=hlt k hk;omega,rfl⟩
  · rw[hm]
    constructor
    · intro hk;exact⟨(nD k,.bool true),by simp only[re,List.mem_map];exact⟨k,hk,rfl⟩,rfl⟩
    · rintro⟨p,hp,hpk⟩
      simp only[re,List.mem_map]at hp
      obtain⟨k',hk',rfl⟩:=hp
      simp only[nD,D.int.injEq,true_and]at hpk
      have:k'=k:=by omega
      exact this ▸ hk'
theorem km {N:Nat}:∀{ks:List Nat},(∀k∈ks,k<N)->ks.Nodup->ks.length<=N:=by
  intro ks h1 h2
  have hp:ks.Perm ((List.range N).filter fun k=>decide (k∈ks)):=(List.perm_ext_iff_of_nodup h2 (List.Pairwise.filter _ List.nodup_range)).2 fun k=>by
    simp only[List.mem_filter,List.mem_range,decide_eq_true_eq]
    exact⟨fun hk=>⟨h1 k hk,hk⟩,fun hk=>hk.2⟩
  rw[hp.length_eq]
  have:=List.length_filter_le (fun k=>decide (k∈ks)) (List.range N)
  simpa using this
end Go.Am
namespace Go.Am
open Go Go.Proofs
noncomputable def qc (c:Code) (ss:List Nat):List (D×D):=ss.map fun s=>(nD s,.sl (aL (rl c s)))
theorem Al {c:Code}{k:Nat}:∀{ss:List Nat},mget (qc c ss) (nD k)=if k∈ss then some (.sl (aL (rl c k))) else none
  | []=>by simp[qc,mget]
  | a::r=>by
    have ih:=Al (c:=c) (k:=k) (ss:=r)
    simp only[qc,List.map_cons,mget,qY,decide_eq_true_eq]at ih ⊢
    by_cases h:k=a
    · subst h;simp
    · rw[if_neg h,ih];simp[h]
theorem Ak {c:Code}{k:Nat}:∀{ss:List Nat},k∉ss->mset (qc c ss) (nD k) (.sl (aL (rl c k)))=qc c (ss++[k])
  | [],_=>by simp[qc,mset]
  | a::r,h=>by
    simp only[List.mem_cons,not_or]at h
    have ih:=Ak (c:=c) (k:=k) (ss:=r) h.2
    simp only[qc,List.map_cons,List.cons_append,mset,qY,decide_eq_true_eq]at ih ⊢
    rw[if_neg h.1,ih]
theorem Fc {h:Heap}{L:List (Nat×Slot)}(V:Vs h L){m:Nat}{KH:D->Heap->Prop}(hK:∀k h',Vs h' ((k,.box (.mp m))::L)->KH (.fn 66 [] [.ptr k 0 0]) h'):ah PP aF [.mp m] h KH:=by
  refine cU fw (ar _ _ _) rfl (fj _ _) ?_
  unfold cF
  exact V.box (fun x hx=>by simp[D.cells]at hx;subst hx;rfl) fun k h' V'=>hK k h' V'
theorem JU {h:Heap}{L:List (Nat×Slot)}(V:Vs h L){m:Nat}{KH:D->Heap->Prop}(hK:∀k h',Vs h' ((k,.box (.mp m))::L)->KH (.fn 67 [] [.ptr k 0 0]) h'):ah PP aO [.mp m] h KH:=by
  refine cU fv (ar _ _ _) rfl (fh _ _) ?_
  unfold cE
  exact V.box (fun x hx=>by simp[D.cells]at hx;subst hx;rfl) fun k h' V'=>hK k h' V'
theorem Kh {P:Program}{h:Heap}{L:List (Nat×Slot)}(V:Vs h L) (i:Nat){c:Code}{n k:Nat}{ss:List Nat}{KH:D->Heap->Prop}(hi:L[i]?=some (n,.map (.int .i64) (qc c ss)))
    (hK:KH (if k∈ss then .sl (aL (rl c k)) else .nil) h):aa P (.look (.int .i64) (.c (.mp n)) (.c (nD k)) .nil false) h KH:=by
  refine⟨rfl,?_⟩
  have hn:=V.get i _ _ hi
  simp only[Arg.get,hn]
  refine⟨trivial,?_⟩
  rw[Al]
  by_cases hk:k∈ss<;>simpa[hk] using hK
noncomputable abbrev FL (c:Code) (ss:List Nat) (nl n4 n2:Nat):List (Nat×Slot):=[(nl,.map (.int .i64) (qc c ss)),(n4,.box (.agg [.nil,.nil])),(n2,.box c.e)]
theorem HE {c:Code}(hc:gh c){h:Heap}{n2 n4 nl x:Nat}{dx:D}(hdx:dx=nD x){ss T:List Nat}{v:D}{J:List D->Heap->Prop}(q:QV h (FL c ss nl n4 n2) v T) (hx:x<c.b.length) (hT:T.length<=1000)
    (hJ:∀v' h' ss' T',QV h' (FL c ss' nl n4 n2) v' T'->((x∈ss/\ss'=ss/\T'=T)\/(x∉ss/\ss'=ss++[x]/\T'=T++Kf c x))->J [v'] h') :
    aa PP (.look (.int .i64) (.c (.mp nl)) (.c dx) .nil false) h fun a67 h68 =>
    aa PP (.nilq false (.c a67)) h68 fun a69 h70 =>
    vcond a69 (aa PP (.ld (.c (.ptr n2 0 0)) 8 true) h70 fun a71 h72 =>
    ah PP eN [a71,dx] h72 fun a73 h74 =>
    aa PP (.ext (.c a73) 0) h74 fun a75 h76 =>
    aa PP (.ext (.c a73) 1) h76 fun a77 h78 =>
    ah PP aF [a75] h78 fun a79 h80 =>
    ah PP aS [a79] h80 fun a81 h82 =>
    aa PP (.mupd (.int .i64) (.c (.mp nl)) (.c dx) (.c a81)) h82 fun a83 h84 =>
    ah PP aF [a77] h84 fun a85 h86 =>
    ah PP aS [a85] h86 fun a87 h88 =>
    aa PP (.app (.c v) (.c a87) 1 8 (.int .i64 0)) h88 fun a89 h90 =>
    aW [.ptr n2 0 0,.ptr n4 0 0,.mp nl] [.ptr n2 0 0,.ptr n4 0 0,.mp nl]/\J [a89] h90) (
    aW [.ptr n2 0 0,.ptr n4 0 0,.mp nl] [.ptr n2 0 0,.ptr n4 0 0,.mp nl]/\J [v] h70):=by
  subst hdx
  have hnb:=hc.nb
  refine Kh q.vs 0 rfl ?_
  by_cases hxs:x∈ss
  · rw[if_pos hxs]
    have hne:rl c x≠[]:=fun e=>by
      have:x∈rl c x:=bx.2 ⟨hx,.refl⟩
      rw[e]at this;cases this
    obtain⟨y,r,hyr⟩:=List.exists_cons_of_ne_nil hne
    rw[hyr]
    show vcond (.bool false) _ _
    rw[au]
    simp only[ae,true_and]
    exact hJ _ _ _ _ q (Or.inl ⟨hxs,rfl,rfl⟩)
  · rw[if_neg hxs]
    show vcond (.bool true) _ _
    rw[av,q.vs.xJ 2 (s:=8) rfl rfl]
    obtain⟨Lq,V0,back⟩:=q.lift
    refine L9 hc hx V0 fun h1 n5 n9 ks nx V1 k1 k2 x1 x2=>?_
    rw[Jm,Jl]
    have klt:∀k∈ks,k<c.b.length:=fun k hk=>yg hc hx ((k2 k).1 hk)
    have xlt:∀k∈nx,k<c.b.length:=fun k hk=>by
      obtain⟨a,-,ha⟩:=(x2 k).1 hk
      exact kH hc (jb ha)
    refine Fc V1 fun nk h2 V2=>?_
    refine nV Hr (V2.get 0 _ _ rfl) (V2.get 2 _ _ rfl) (Cl (N:=c.b.length) (l:=rl c x) (by omega) klt k1 ly (fun k=>by rw[k2];unfold rl;rw[bx];exact⟨fun hh=>hh.2,fun hh=>⟨yg hc hx hh,hh⟩⟩) (by have:=km klt k1;omega)) ?_
    have q2:QV h2 ((nk,.box (.mp n5))::(n9,.map (.int .i64) (re nx))::(n5,.map (.int .i64) (re ks))::FL c ss nl n4 n2) v T:=back h2 [_,_,_] V2
    refine⟨rfl,rfl,?_⟩
    have hnl:=q2.vs.get 3 _ _ rfl
    simp only[Arg.get,hnl]
    refine⟨trivial,?_⟩
    rw[show(D.sl (nL (rl c x)))=.sl (aL (rl c x)) from rfl,Ak hxs]
    have q3:=q2.cg 3 (s':=.map (.int .i64) (qc c (ss++[x]))) rfl (by simp)
    replace q3:QV (al h2 nl (.map (.int .i64) (qc c (ss++[x])))) ((nk,.box (.mp n5))::(n9,.map (.int .i64) (re nx))::(n5,.map (.int .i64) (re ks))::FL c (ss++[x]) nl n4 n2) v T:=q3
    generalize al h2 nl (.map (.int .i64) (qc c (ss++[x])))=h3 at q3
    obtain⟨Lq3,V3,back3⟩:=q3.lift
    refine Fc V3 fun nk2 h4 V4=>?_
    have q4:QV h4 ((nk2,.box (.mp n9))::(nk,.box (.mp n5))::(n9,.map (.int .i64) (re nx))::(n5,.map (.int .i64) (re ks))::FL c (ss++[x]) nl n4 n2) v T:=back3 h4 [_] V4
    have V5:=q4.vs
    refine nV Hr (V5.get 0 _ _ rfl) (V5.get 2 _ _ rfl) (Cl (N:=c.b.length) (l:=Kf c x) (by omega) xlt x1 ly (fun k=>by
      rw[x2];unfold Kf;rw[bx]
      exact⟨fun hh=>hh.2,fun hh=>⟨by obtain⟨a,-,ha⟩:=hh;exact kH hc (jb ha),hh⟩⟩) (by have:=km xlt x1;omega)) ?_
    have hnl2:(Kf c x).length<=c.b.length:=lu
    refine q4.app (ks:=Kf c x) (fun hk=>KG hk) (by omega) (by omega) fun v6 h6 q6=>?_
    simp only[ae,true_and]
    exact hJ _ _ _ _ q6.less.less.less.less (Or.inr ⟨hxs,rfl,rfl⟩)
end Go.Am
namespace Go.Am
open Go Go.Proofs
theorem Nj {h:Heap}{a b c d:D}{f:Nat->D}{J:List D->Heap->Prop}:oU h a b c f d J=dU h a b c (f 3) d J:=rfl
theorem FJ {c:Code}{ss l:List Nat}{N:Nat}(hN:N<=1000) (hlt:∀k∈ss,k<N) (hnd:ss.Nodup) (hl:l.Pairwise (· < ·)) (hm:∀k,k∈l↔k∈ss):BG (qc c ss) l:=by
  refine⟨fun p hp=>?_,by have:=km hlt hnd;simp[qc];omega,hl,fun k=>?_⟩
  · simp only[qc,List.mem_map]at hp
    obtain⟨k,hk,rfl⟩:=hp
    exact⟨k,by have:=hlt k hk;omega,rfl⟩
  · rw[hm]
    constructor
    · intro hk;exact⟨(nD k,.sl (aL (rl c k))),by simp only[qc,List.mem_map];exact⟨k,hk,rfl⟩,rfl⟩
    · rintro⟨p,hp,hpk⟩
      simp only[qc,List.mem_map]at hp
      obtain⟨k',hk',rfl⟩:=hp
      simp only[nD,D.int.injEq,true_and]at hpk
      have:k'=k:=by omega
      exact this ▸ hk'
noncomputable def Dm (c:Code) (l:List Nat):List D:=l.map fun s=>.sl (aL (rl c s))
theorem LG {c:Code}(hc:gh c){h:Heap}{n2 n4 nl n26:Nat}{ss:List Nat}{L':List (Nat×Slot)}(hss:∀k,k∈ss↔St c k){J:List D->Heap->Prop}
    (V:Vs h ((n26,.box (.agg [.sl (aL (cJ c)),.nil]))::FL c ss nl n4 n2))
    (hJ:∀h' v,QD h' ((n26,.box (.agg [.sl (aL (cJ c)),v]))::FL c ss nl n4 n2) v (Dm c (cJ c))->J [] h') :
    dU h (.int .i64 ((cJ c).length:Int)) (.sl (aL (cJ c))) (.ptr n26 0 0) (.mp nl) (.ptr n4 0 0) J:=by
  have hnb:=hc.nb
  have hsl:(cJ c).length<=c.b.length:=lu
  unfold dU
  refine⟨fun m l h=>∃(i:Nat) (v:D),i<=(cJ c).length/\m=(cJ c).length-i/\l=[.int .i64 (i:Int)]/\QD h ((n26,.box (.agg [.sl (aL (cJ c)),v]))::FL c ss nl n4 n2) v (Dm c ((cJ c).take i)),_,
    ⟨0,.nil,by omega,rfl,rfl,Or.inl ⟨rfl,by simp[Dm],V⟩⟩,?_⟩
  rintro m f h1 ⟨i,v,hi,hm,hl,q⟩
  simp only[List.cons.injEq,and_true]at hl
  rw[hl,ml]
  by_cases hlt:i<(cJ c).length
  · have hk:(cJ c)[i]?=some (cJ c)[i]:=List.getElem?_eq_getElem hlt
    generalize (cJ c)[i]=k at hk
    have hks:k∈ss:=(hss k).2 (bx.1 (List.mem_of_getElem? hk)).2
    simp only[show((i:Int)<((cJ c).length:Int))=True from eq_true (by omega),decide_true,↓av]
    refine Il hk ?_
    have V1:=q.vs
    simp only[↓V1.fa 0 rfl,Nat.zero_add,↓V1.ig 0 (j:=1) rfl rfl]
    refine Kh V1 1 rfl ?_
    rw[if_pos hks]
    have hrl:(Dm c ((cJ c).take i)).length=i:=by simp[Dm];omega
    refine q.push (d:=.sl (aL (rl c k))) Br rfl (by rw[hrl];omega) (by rw[hrl];omega) fun v2 h2 q2=>?_
    have V2:=q2.vs
    simp only[↓V2.fa 0 rfl,Nat.zero_add]
    rw[jZ,V2.get 0 _ _ rfl]
    have hv1:v2.one=true/\v2.cells=[v2]:=by
      rcases q2 with⟨rfl,-,-⟩|⟨m,rfl,-⟩<;>exact⟨rfl,rfl⟩
    refine⟨by rw[hv1.2];rfl,fun x hx=>by rw[hv1.2]at hx;simp at hx;subst hx;exact hv1.1,rfl,by simp,?_⟩
    have e:setCells (.agg [.sl (aL (cJ c)),v]) 1 v2.cells=.agg [.sl (aL (cJ c)),v2]:=by rw[hv1.2];rfl
    rw[e]
    have q3:=q2.cg 0 (s':=.box (.agg [.sl (aL (cJ c)),v2])) rfl (by simp)
    rw[gk (by omega) (by omega)]
    simp only[ae,true_and]
    refine⟨_,by omega,i+1,v2,by omega,rfl,by simp,?_⟩
    have e2:Dm c ((cJ c).take (i+1))=Dm c ((cJ c).take i)++[.sl (aL (rl c k))]:=by rw[List.take_add_one,hk];simp[Dm]
    rw[e2]
    exact q3
  · have:i=(cJ c).length:=by omega
    subst this
    rw[List.take_length]at q
    simp only[show(((cJ c).length:Int)<((cJ c).length:Int))=False from eq_false (by omega),decide_false,↓au,ae,true_and]
    exact hJ _ v q
theorem Kq {c:Code}(hc:gh c){h:Heap}{n2 n4 nl:Nat}{ss:List Nat}(V:Vs h (FL c ss nl n4 n2)) (hnd:ss.Nodup) (hss:∀k,k∈ss↔St c k){K:D->Prop}(hK:K (Gi c)) :
    ah PP aO [.mp nl] h fun a20 h21 =>
    ah PP aS [a20] h21 fun a22 h23 =>
    aa PP (.bld [.nil,.nil] [(0,1,(.c a22))]) h23 fun a24 h25 =>
    aa PP (.alloc (.agg [.nil,.nil])) h25 fun a26 h27 =>
    aa PP (.st (.c a26) (.c a24) 2) h27 fun a28 h29 =>
    ∃(J30:List D->Heap->Prop),(∀(f31:Nat->D) (h32:Heap),J30 [] h32 ->
    aa PP (.ld (.c a26) 2 true) h32 fun a33 h34 =>
    aa PP (.st (.c (.ptr n4 0 0)) (.c a33) 2) h34 fun a35 h36 =>
    aa PP (.ld (.c (.ptr n4 0 0)) 2 true) h36 fun a37 _ =>
    lW K a37 h36) /\
    aa PP (.fadd (.c a26) 0) h29 fun a38 h39 =>
    aa PP (.ld (.c a38) 1 false) h39 fun a40 h41 =>
    bj a40 h41 fun a42 =>
    dU h41 a42 a40 a26 (.mp nl) (.ptr n4 0 0) J30:=by
  have hnb:=hc.nb
  refine JU V fun nk h2 V2=>?_
  refine nV Lr (V2.get 0 _ _ rfl) (V2.get 1 _ _ rfl) (FJ (N:=c.b.length) (l:=cJ c) (by omega) (fun k hk=>((hss k).1 hk).lt hc) hnd ly (fun k=>by rw[hss];unfold cJ;rw[bx];exact⟨fun hh=>hh.2,fun hh=>⟨hh.lt hc,hh⟩⟩)) ?_
  rw[oG]
  refine⟨kG rfl,?_⟩
  refine V2.pop.alloc fun n26 h3 V3=>?_
  refine V3.Fv (cs':=[.sl (aL (cJ c)),.nil]) 0 rfl rfl rfl (fun y hy=>by simp at hy;rcases hy with rfl|rfl<;>rfl) fun h4 V4=>?_
  replace V4:Vs h4 ((n26,.box (.agg [.sl (aL (cJ c)),.nil]))::FL c ss nl n4 n2):=V4
  refine⟨fun _ h'=>∃v,QD h' ((n26,.box (.agg [.sl (aL (cJ c)),v]))::FL c ss nl n4 n2) v (Dm c (cJ c)),?_,?_⟩
  · rintro f h5 ⟨v,q⟩
    have V5:=q.vs
    rw[V5.xJ 0 (s:=2) rfl rfl]
    have hv1:v.one=true:=by
      rcases q with⟨rfl,-,-⟩|⟨m,rfl,-⟩<;>rfl
    rw[jZ,V5.get 2 _ _ rfl]
    refine⟨rfl,fun x hx=>by simp[D.cells]at hx;rcases hx with rfl|rfl;rfl;exact hv1,rfl,by simp,?_⟩
    have e:setCells (.agg [.nil,.nil]) 0 (D.agg [.sl (aL (cJ c)),v]).cells=.agg [.sl (aL (cJ c)),v]:=rfl
    rw[e]
    have q6:=q.cg 2 (s':=.box (.agg [.sl (aL (cJ c)),v])) rfl (by simp)
    generalize al h5 n4 (.box (.agg [.sl (aL (cJ c)),v]))=h6 at q6
    rw[q6.vs.xJ 2 (s:=2) rfl rfl]
    rcases q6 with⟨rfl,hnil,V6⟩|⟨m,rfl,V6⟩
    · exfalso
      have h0:0∈cJ c:=bx.2 ⟨hnb.1,.zero⟩
      have:cJ c=[]:=by simpa[Dm] using hnil
      rw[this]at h0;cases h0
    · have hrow:(h6 m).row=some (1,Dm c (cJ c)):=by rw[V6.get 0 _ _ rfl];rfl
      have ez:(D.agg [.sl (aL (cJ c)),.ms m 0 (Dm c (cJ c)).length]).fzt h6=Gi c:=by
        simp[D.fzt,D.fz,D.fzc,hrow,Gi,Dm]
        exact List.take_of_length_le (by simp)
      refine⟨fun x hx=>by simp[D.cells]at hx;rcases hx with rfl|rfl<;>rfl,?_,by rw[ez];rfl,by rw[ez];exact hK⟩
      intro x hx
      simp only[D.cells,List.mem_cons,List.not_mem_nil,or_false]at hx
      rcases hx with rfl|rfl
      · trivial
      · refine⟨1,_,hrow,by omega,fun x hx y hy=>?_⟩
        have hx':x∈Dm c (cJ c):=by simpa using hx
        simp only[Dm,List.mem_map]at hx'
        obtain⟨s,-,rfl⟩:=hx'
        simp[D.cells]at hy;subst hy;rfl
  simp only[↓V4.fa 0 rfl,Nat.zero_add,↓V4.ig 0 (j:=0) rfl rfl,lq]
  exact LG hc (L':=[]) hss V4 fun h' v q=>⟨v,q⟩
end Go.Am
namespace Go.Am
open Go Go.Proofs
structure Ec (c:Code) (ss T:List Nat) (x:Nat):Prop where
  nd:ss.Nodup
  st:∀k∈ss,St c k
  td:∀k∈T,St c k
  cur:St c x
  zero:0∈ss\/x=0\/0∈T
  done:∀s a t,s∈ss->Path (mh c) s a->t∈hU c a->t∈ss\/t=x\/t∈T
structure sQ (c:Code) (ss T:List Nat):Prop where
  nd:ss.Nodup
  st:∀k∈ss,St c k
  td:∀k∈T,St c k
  zero:0∈ss\/0∈T
  done:∀s a t,s∈ss->Path (mh c) s a->t∈hU c a->t∈ss\/t∈T
theorem Ec.De {c:Code}{ss T:List Nat}{x:Nat}(h:Ec c ss T x) (hx:x∈ss):sQ c ss T :=
  ⟨h.nd,h.st,h.td,by rcases h.zero with h0|h0|h0;exact Or.inl h0;exact Or.inl (h0 ▸ hx);exact Or.inr h0,fun s a t hs ha ht=>by
    rcases h.done s a t hs ha ht with h1|h1|h1
    · exact Or.inl h1
    · exact Or.inl (h1 ▸ hx)
    · exact Or.inr h1⟩
theorem Ec.new {c:Code}(hc:gh c){ss T:List Nat}{x:Nat}(h:Ec c ss T x) (hx:x∉ss):sQ c (ss++[x]) (T++Kf c x):=by
  refine⟨?_,fun k hk=>?_,fun k hk=>?_,?_,fun s a t hs ha ht=>?_⟩
  · exact List.nodup_append.2 ⟨h.nd,by simp,fun a ha b hb=>by simp at hb;subst hb;rintro rfl;exact hx ha⟩
  · rcases List.mem_append.1 hk with hk|hk
    · exact h.st k hk
    · simp at hk;subst hk;exact h.cur
  · rcases List.mem_append.1 hk with hk|hk
    · exact h.td k hk
    · obtain⟨-,a,ha,hb⟩:=bx.1 hk
      exact .step h.cur ha hb
  · rcases h.zero with h0|h0|h0
    · exact Or.inl (by simp[h0])
    · exact Or.inl (by simp[h0])
    · exact Or.inr (by simp[h0])
  · rcases List.mem_append.1 hs with hs|hs
    · rcases h.done s a t hs ha ht with h1|h1|h1
      · exact Or.inl (by simp[h1])
      · exact Or.inl (by simp[h1])
      · exact Or.inr (by simp[h1])
    · simp at hs;subst hs
      exact Or.inr (List.mem_append_right _ (bx.2 ⟨kH hc (jb ht),a,ha,ht⟩))
theorem sQ.next {c:Code}{ss T:List Nat}{x:Nat}(h:sQ c ss (x::T)):Ec c ss T x :=
  ⟨h.nd,h.st,fun k hk=>h.td k (by simp[hk]),h.td x (by simp),by
    rcases h.zero with h0|h0
    · exact Or.inl h0
    · exact Or.inr (by rcases List.mem_cons.1 h0 with e|e;exact Or.inl e.symm;exact Or.inr e),fun s a t hs ha ht=>by
    rcases h.done s a t hs ha ht with h1|h1
    · exact Or.inl h1
    · exact Or.inr (by rcases List.mem_cons.1 h1 with e|e;exact Or.inl e;exact Or.inr e)⟩
theorem sQ.fin {c:Code}{ss:List Nat}(h:sQ c ss []) (k:Nat):k∈ss↔St c k:=by
  refine⟨h.st k,fun hk=>?_⟩
  induction hk with
  | zero=>rcases h.zero with h0|h0;exact h0;cases h0
  | step _ ha ht ih=>rcases h.done _ _ _ ih ha ht with h1|h1;exact h1;cases h1
theorem DU {c:Code}(hc:gh c):aN PP bS [c.e] (· = Gi c):=by
  have hnb:=hc.nb
  refine bG x7 (ar _ _ _) rfl (xS _ _) ?_
  unfold u7
  refine Vs.nil.box c.kI.one fun n2 h3 V1=>?_
  refine V1.alloc fun n4 h5 V2=>?_
  let M:List Nat->List Nat->Nat:=fun ss T=>20*sU (dQ ss) c.b.length+T.length
  refine⟨fun m l h=>∃(nl x:Nat) (ss T:List Nat) (v:D),l=[.mp nl,nD x,v]/\QV h (FL c ss nl n4 n2) v T/\Ec c ss T x/\m=M ss T/\m<=500,?_,?_⟩
  · refine V2.yi fun nl h11 V3=>?_
    have q0:QV h11 (FL c [] nl n4 n2) .nil []:=QV.nil V3
    have f0:Ec c [] [] 0:=⟨by simp,fun k hk=>(by cases hk),fun k hk=>(by cases hk),.zero,Or.inr (Or.inl rfl),fun s a t hs=>(by cases hs)⟩
    refine⟨fun l h=>∃(ss T:List Nat) (v:D),l=[v]/\QV h (FL c ss nl n4 n2) v T/\sQ c ss T/\M ss T<=480,?_,?_⟩
    · rintro f h ⟨ss,T,v,hl,q,fi,hM⟩
      simp only[List.cons.injEq,and_true]at hl
      simp only[hl,q.len,rZ]
      cases T with
      | nil =>
        simp only[List.length_nil,show((0:Nat):Int)=0 from rfl,Int.lt_irrefl,decide_false,↓au]
        exact Kq hc q.vs fi.nd fi.fin rfl
      | cons x T' =>
        simp only[show((0:Int)<((x::T').length:Int))=True from eq_true (by simp only[List.length_cons];omega),decide_true,↓av]
        refine q.DI (i:=0) (k:=x) rfl ?_
        refine q.M9 (lo:=some 1) (hi:=none) (a:=1) (b:=(x::T').length) rfl rfl (by simp) (Nat.le_refl _) (by simp) fun v' q'=>?_
        have e1:((x::T').drop 1).take ((x::T').length-1)=T':=by simp
        rw[e1]at q'
        simp only[ae,true_and]
        refine⟨_,nl,x,ss,T',v',rfl,q',fi.next,rfl,?_⟩
        have:M ss (x::T')=M ss T'+1:=by simp only[M,List.length_cons];omega
        omega
    · refine HE hc (x:=0) (J:=fun l h=>∃(ss T:List Nat) (v:D),l=[v]/\QV h (FL c ss nl n4 n2) v T/\sQ c ss T/\M ss T<=480) rfl q0 hnb.1 (by simp) fun v' h' ss' T' q' hh=>⟨ss',T',v',rfl,q',?_,?_⟩
      · rcases hh with⟨h0,-,-⟩|⟨h0,rfl,rfl⟩
        · cases h0
        · exact f0.new hc h0
      · rcases hh with⟨h0,-,-⟩|⟨h0,rfl,rfl⟩
        · cases h0
        · have hu:sU (dQ ([]++[0])) c.b.length+1<=sU (dQ []) c.b.length:=qV (x:=0) (fun k hk=>by simp[dQ]at hk) hnb.1 rfl rfl
          have:=AW (dQ []) c.b.length
          have hn:(Kf c 0).length<=c.b.length:=lu
          simp only[M,List.nil_append]at hu ⊢
          omega
  · rintro m f h9 ⟨nl,x,ss,T,v,hl,q,fi,hm,hmb⟩
    simp only[List.cons.injEq,and_true]at hl
    obtain⟨e3,e4,e5⟩:=hl
    rw[e3,e4,e5]
    refine⟨fun l h=>∃(ss T:List Nat) (v:D),l=[v]/\QV h (FL c ss nl n4 n2) v T/\sQ c ss T/\M ss T<=m,?_,?_⟩
    · rintro f' h ⟨ss,T,v,hl,q,fi,hM⟩
      simp only[List.cons.injEq,and_true]at hl
      simp only[hl,q.len,rZ]
      cases T with
      | nil =>
        simp only[List.length_nil,show((0:Nat):Int)=0 from rfl,Int.lt_irrefl,decide_false,↓au,Nj,e3]
        exact Kq hc q.vs fi.nd fi.fin rfl
      | cons x T' =>
        simp only[show((0:Int)<((x::T').length:Int))=True from eq_true (by simp only[List.length_cons];omega),decide_true,↓av]
        refine q.DI (i:=0) (k:=x) rfl ?_
        refine q.M9 (lo:=some 1) (hi:=none) (a:=1) (b:=(x::T').length) rfl rfl (by simp) (Nat.le_refl _) (by simp) fun v' q'=>?_
        have e1:((x::T').drop 1).take ((x::T').length-1)=T':=by simp
        rw[e1]at q'
        simp only[ae,true_and]
        have:M ss (x::T')=M ss T'+1:=by simp only[M,List.length_cons];omega
        exact⟨_,by omega,nl,x,ss,T',v',rfl,q',fi.next,rfl,by omega⟩
    · refine HE hc (x:=x) (J:=fun l h=>∃(ss T:List Nat) (v:D),l=[v]/\QV h (FL c ss nl n4 n2) v T/\sQ c ss T/\M ss T<=m) rfl q (fi.cur.lt hc) (by simp only[M]at hm;omega) fun v' h' ss' T' q' hh=>⟨ss',T',v',rfl,q',?_,?_⟩
      · rcases hh with⟨h0,rfl,rfl⟩|⟨h0,rfl,rfl⟩
        · exact fi.De h0
        · exact fi.new hc h0
      · rcases hh with⟨h0,rfl,rfl⟩|⟨h0,rfl,rfl⟩
        · omega
        · have hu:sU (dQ (ss++[x])) c.b.length+1<=sU (dQ ss) c.b.length:=qV (x:=x) (fun k hk=>by simp[dQ]at hk ⊢;exact Or.inl hk) (fi.cur.lt hc) (by simp[dQ,h0]) (by simp[dQ])
          have hn:(Kf c x).length<=c.b.length:=lu
          simp only[M,List.length_append]at hm ⊢
          omega
end Go.Am
namespace Go.Am
open Go Go.Proofs
theorem A4 {l:List Nat}:wL (.sl (aL l)):=Br
end Go.Am
namespace Go.Am
open Go Go.Proofs
section
variable {h:Heap}{L:List (Nat×Slot)}{KH:D->Heap->Prop}
theorem Vs.DZ (V:Vs h L){esz:Nat}{z:D}{fz:Bool}(hK:∀n h',Vs h' ((n,.arr esz [])::L)->KH (.ms n 0 0) h'):aa PP (.bldS fz esz 0 z []) h KH:=Lz fun n t=>hK n _ (V.push t.free (by simp))
theorem Vs.D3 {m esz bytes:Nat}{els ys:List D}{x z:D}(V:Vs h ((m,.arr esz els)::L)) (hx:∀{K:List D->Prop},K ys->velems esz x h K) (hy:∀y∈ys,aK y) (hb:(els.length+ys.length)*bytes<=140737488355328) (hl:els.length+ys.length<=9223372036854775807)
    (hK:∀n h',Vs h' ((n,.arr esz (els++ys))::L)->KH (.ms n 0 (els.length+ys.length)) h'):aa PP (.app (.c (.ms m 0 els.length)) (.c x) esz bytes z) h KH:=by
  rw[Kk]
  refine hx ⟨hy,?_⟩
  have hm:=V.get 0 _ _ rfl
  refine⟨els,.of hm,by simp,⟨hb,hl⟩,fun n t=>⟨?_,fun h0=>absurd rfl h0⟩⟩
  rw[List.drop_zero]
  refine hK n _ ?_
  have hne:n≠m:=by rintro rfl;rw[t.free]at hm;cases hm
  have V1:Vs (al h m .dead) L:=by
    refine V.pop.Av fun k s hi=>?_
    have:k≠m:=fun e=>by
      obtain⟨i,hi'⟩:=hi
      exact V.ne (i+1) 0 k m s _ (by simpa using hi') rfl (by omega) e
    exact ab _ _ this
  exact V1.push (by rw[ab _ _ hne];exact t.free) (by simp)
theorem Vs.N3 {w:Nat}{els:List D}{t:Term}{z:D}(V:Vs h ((w,.arr 15 els)::L)) (hv:∀x∈els,∀y∈x.cells,y.vone=true)
    (hK:∀n h',Vs h' ((n,.arr 14 [.agg (.sl els::t.cs)])::L)->KH (.ms n 0 1) h'):aa PP (.bldS true 14 1 z [(0,.c (.agg (.ms w 0 els.length::t.cs)))]) h KH:=by
  have hw:=V.get 0 _ _ rfl
  have hrow:(h w).row=some (15,els):=by rw[hw];rfl
  refine⟨fun p hp=>by
    simp[Arg.get]at hp;subst hp
    exact⟨Nat.one_pos,rfl,fun x hx=>by simp[D.cells,Term.cs]at hx;rcases hx with rfl|rfl|rfl|rfl|rfl|rfl|rfl|rfl|rfl|rfl|rfl|rfl|rfl|rfl<;>rfl⟩,fun _ p hp=>?_,fun n t0=>?_⟩
  · simp[Arg.get]at hp;subst hp
    intro x hx
    simp only[D.cells,Term.cs,List.mem_cons,List.not_mem_nil,or_false]at hx
    rcases hx with rfl|rfl|rfl|rfl|rfl|rfl|rfl|rfl|rfl|rfl|rfl|rfl|rfl|rfl
    · exact⟨15,els,hrow,by simp,fun x hx y hy=>hv x (by simpa using hx) y hy⟩
    all_goals trivial
  · have et:(al h w (.frz 15 els)) n=.free:=by
      have:n≠w:=by rintro rfl;rw[t0.free]at hw;cases hw
      rw[ab _ _ this];exact t0.free
    have V1:=(V.cg 0 (s':=.frz 15 els) rfl (by simp)).pop
    have:=hK n _ (V1.push et (s:=.arr 14 [.agg (.sl els::t.cs)]) (by simp))
    simpa[Arg.get,Heap.freezeAll,Heap.freeze,hw,setEls,D.fz,D.fzc,D.nm,D.iB,Slot.row,Term.cs] using this
end
theorem ym {α:Type}{g:α->D}{l:List α}{esz:Nat}{h:Heap}(hc:∀x,(g x).cells.length=esz){K:List D->Prop}(hk:K (l.map g)):velems esz (.sl (l.map g)) h K :=
  ⟨fun e he=>by simp only[List.mem_map]at he;obtain⟨x,-,rfl⟩:=he;exact hc x,hk⟩
theorem Be {α:Type}{g:α->D}{l:List α}(hd:∀x,wL (g x)):∀y,y∈l.map g->aK y:=fun y hy=>by
  simp only[List.mem_map]at hy;obtain⟨x,-,rfl⟩:=hy;exact(hd x).one
theorem Jc {l:List bh}:∀x,x∈l.map bh.e->∀y∈x.cells,y.vone=true:=by
  intro x hx y hy
  simp only[List.mem_map]at hx
  obtain⟨i,-,rfl⟩:=hx
  simp[bh.e,bh.cs,D.cells]at hy
  rcases hy with rfl|rfl|rfl|rfl|rfl|rfl|rfl|rfl|rfl|rfl|rfl|rfl|rfl|rfl|rfl<;>rfl
abbrev zV (c:Code) (vA vL vB:D):D:=.agg [.int .i64 c.group,.int .i64 c.sub,.int .i64 c.regs,.int .i64 c.slots,.int .i64 c.params,vA,vL,vB]
theorem Ma {c:Code}(hc:mf c){h:Heap}{L:List (Nat×Slot)}(V0:Vs h L){KH:D->Heap->Prop}
    (hK:∀h' nA nL nB,Vs h' ((nB,.arr 14 (c.b.map Block.e))::(nL,.arr 3 (c.loops.map Loop.e))::(nA,.arr 4 (c.arrays.map wN.e))::L) ->
      KH (zV c (.ms nA 0 c.arrays.length) (.ms nL 0 c.loops.length) (.ms nB 0 c.b.length)) h'):ah PP jX [c.e] h KH:=by
  have hnb:=hc.nb
  have hnl:=hc.nl
  have hna:c.arrays.length=5:=by rw[hc.arrays];rfl
  refine cU x5 (ar _ _ _) rfl (xQ _ _) ?_
  unfold uZ
  refine V0.box c.kI.one fun n2 h3 V1=>?_
  refine V1.alloc fun n4 h5 V2=>?_
  refine V2.DZ fun nA0 h7 V3=>?_
  simp only[↓V3.fa 2 rfl,Nat.zero_add,↓V3.ig 2 (j:=5) rfl rfl]
  refine V3.D3 (els:=[]) (ys:=c.arrays.map wN.e) (fun hk=>ym (g:=wN.e) (l:=c.arrays) (fun _=>rfl) hk) (Be fun x=>x.kI) (by simp[hna]) (by simp[hna]) fun nA h13 V4=>?_
  simp only[List.length_nil,Nat.zero_add,List.length_map,List.nil_append]at V4 ⊢
  simp only[↓V4.fa 2 rfl,Nat.zero_add]
  refine V4.NC 2 (j:=5) rfl (by simp) rfl fun h17 V5=>?_
  refine V5.DZ fun nL0 h19 V6=>?_
  simp only[↓V6.fa 3 rfl,Nat.zero_add,↓V6.ig 3 (j:=6) rfl rfl]
  refine V6.D3 (els:=[]) (ys:=c.loops.map Loop.e) (fun hk=>ym (g:=Loop.e) (l:=c.loops) (fun _=>rfl) hk) (Be fun x=>x.kI) (by simp;omega) (by simp;omega) fun nL h25 V7=>?_
  simp only[List.length_nil,Nat.zero_add,List.length_map,List.nil_append]at V7 ⊢
  simp only[↓V7.fa 3 rfl,Nat.zero_add]
  refine V7.NC 3 (j:=6) rfl (by simp) rfl fun h29 V8=>?_
  refine V8.DZ fun nB0 h31 V9=>?_
  let BL:List (Nat×Slot):=[(nL,.arr 3 (c.loops.map Loop.e)),(nA,.arr 4 (c.arrays.map wN.e)),(n4,.box (.agg [.int .i64 0,.int .i64 0,.int .i64 0,.int .i64 0,.int .i64 0,.nil,.nil,.nil])),(n2,.box (zV c (.ms nA 0 c.arrays.length) (.ms nL 0 c.loops.length) (.sl (c.b.map Block.e))))]++L
  replace V9:Vs h31 ((nB0,.arr 14 [])::BL):=V9
  refine⟨fun l h=>∃nB,l=[.ms nB 0 c.b.length]/\Vs h ((nB,.arr 14 (c.b.map Block.e))::BL),?_,?_⟩
  · rintro f h34 ⟨nB,hl,V⟩
    simp only[List.cons.injEq,and_true]at hl
    rw[hl]
    simp only[↓V.fa 4 rfl,Nat.zero_add]
    refine V.NC 4 (j:=7) rfl (by simp) rfl fun h38 V'=>?_
    simp only[↓V'.xJ 4 (s:=8) rfl rfl]
    refine V'.Fv (cs':=[.int .i64 c.group,.int .i64 c.sub,.int .i64 c.regs,.int .i64 c.slots,.int .i64 c.params,.ms nA 0 c.arrays.length,.ms nL 0 c.loops.length,.ms nB 0 c.b.length]) 3 rfl rfl rfl (fun y hy=>by simp at hy;rcases hy with rfl|rfl|rfl|rfl|rfl|rfl|rfl|rfl<;>rfl) fun h42 V''=>?_
    rw[V''.xJ 3 (s:=8) rfl rfl]
    have V3:=(V''.erase 3).erase 3
    exact hK _ nA nL nB V3
  unfold oR
  refine⟨fun m l h=>∃(i nB:Nat),i<=c.b.length/\m=c.b.length-i/\l=[.ms nB 0 i,.int .i64 (i:Int)]/\Vs h ((nB,.arr 14 ((c.b.take i).map Block.e))::BL),_,⟨0,nB0,by omega,rfl,rfl,V9⟩,?_⟩
  rintro m f h47 ⟨i,nB,hi,hm,hl,V⟩
  simp only[List.cons.injEq,and_true]at hl
  obtain⟨e3,e4⟩:=hl
  simp only[e3,e4,↓V.fa 4 rfl,Nat.zero_add,↓V.ig 4 (j:=7) rfl rfl,ku,List.length_map,ml]
  by_cases hlt:i<c.b.length
  · have hB:c.b[i]?=some c.b[i]:=List.getElem?_eq_getElem hlt
    have BO:=hc.b _ (List.mem_of_getElem? hB)
    generalize c.b[i]=B at hB BO
    have hil:=BO.len
    have dblk0:∀{h:Heap}{K:D->Prop},af PP (.ld (.c (.vp B.e 0)) 1 false) h K=K (.sl (B.i.map bh.e)):=fun {h K}=>by rw[wc];exact Hp rfl
    have dfav0:∀{h:Heap}{K:D->Prop}{o:Nat},af PP (.fadd (.c (.vp B.e 0)) o) h K=K (.vp B.e o):=fun {h K o}=>LL
    simp only[show((i:Int)<(c.b.length:Int))=True from eq_true (by omega),decide_true,↓av,↓V.sy 4 rfl,Nat.zero_add,↓V.CF 4 (j:=7) rfl rfl,↓CH hB,↓dfav0,↓dblk0,↓CG]
    refine V.DZ fun n64 h65 V1=>?_
    refine⟨by simp only[↓V1.sy 5 rfl,Nat.zero_add,↓V1.CF 5 (j:=7) rfl rfl,↓CH hB,↓dfav0,↓dblk0,↓CG,ae,and_self],?_⟩
    refine V1.D3 (els:=[]) (ys:=B.i.map bh.e) (fun hk=>ym (g:=bh.e) (l:=B.i) (fun _=>rfl) hk) (Be fun x=>x.kI) (by simp;omega) (by simp;omega) fun n76 h77 V2=>?_
    simp only[List.length_nil,Nat.zero_add,List.nil_append]at V2 ⊢
    refine⟨by simp only[↓V2.sy 5 rfl,Nat.zero_add,↓V2.CF 5 (j:=7) rfl rfl,↓CH hB,↓dfav0,↓dblk0,↓CG,ae,and_self],?_⟩
    rw[qn rfl]
    refine Vs.N3 (t:=B.t) V2 Jc fun n84 h85 V3=>?_
    have hlen:((c.b.take i).map Block.e).length=i:=by simp;omega
    have V3':=V3.swap
    rw[show D.ms nB 0 i=.ms nB 0 ((c.b.take i).map Block.e).length by rw[hlen]]
    have row84:=V3.get 0 _ _ rfl
    refine Vs.D3 (ys:=[B.e]) V3' (fun hk=>⟨[B.e],by rw[row84];rfl,by simp,hk⟩) (fun y hy=>by simp at hy;subst hy;exact B.kI.one) (by rw[hlen];simp;omega) (by rw[hlen];simp;omega) fun n86 h87 V4=>?_
    rw[gk (by omega) (by omega),hlen]
    simp only[ae,true_and]
    refine⟨_,by omega,i+1,n86,by omega,rfl,by simp,?_⟩
    have e2:(c.b.take (i+1)).map Block.e=(c.b.take i).map Block.e++[B.e]:=by rw[List.take_add_one,hB];simp
    rw[e2]
    exact V4.erase 1
  · have:i=c.b.length:=by omega
    subst this
    rw[List.take_length]at V
    simp only[show((c.b.length:Int)<(c.b.length:Int))=False from eq_false (by omega),decide_false,↓au,ae,true_and]
    exact⟨nB,rfl,V⟩
end Go.Am
namespace Go.Am
open Go Go.Proofs
def L4 (mask:Int) (i:Nat):Bool:=decide (ibits .and .u32 (Bg .u32 mask ((i % 32:Nat):Int)) 1=1)
def JM (t:Term):Term:=if t.kind=1 then { t with kind:=3 } else t
def uQ (mask:Int) (i:Nat) (B:Block):Block:=if L4 mask i then { B with t:=JM B.t } else B
def pj (c:Code) (mask:Int):Code:={ c with b:=c.b.mapIdx (uQ mask) }
theorem JL {N:Nat}{R:Int}{t:Term}(h:BE N R t):BE N R (JM t):=by
  cases h with
  | jump a h=>exact .barrier a h
  | branch o a b ho h1 h2=>exact .branch o a b ho h1 h2
  | barrier a h=>exact .barrier a h
  | collect s d a b t hs hd ha hb h=>exact .collect s d a b t hs hd ha hb h
  | exit=>exact .exit
theorem JO {N:Nat}{R:Int}{B:Block}{mask:Int}{i:Nat}(h:Nu N R B):Nu N R (uQ mask i B):=by
  unfold uQ
  split
  · exact⟨h.xs,h.len,JL h.t⟩
  · exact h
theorem jh {c:Code}{mask:Int}:(pj c mask).b.length=c.b.length:=by simp[pj]
theorem CZ {c:Code}{mask:Int}{i:Nat}:(pj c mask).b[i]?=(c.b[i]?).map (uQ mask i):=by simp[pj]
theorem JN {c:Code}{mask:Int}(hc:mf c):mf (pj c mask):=by
  refine⟨hc.group,hc.sub,hc.dvd,hc.regs,hc.slots,hc.params,hc.arrays,hc.nl,?_,?_,fun B hB=>?_⟩
  · rw[jh];exact hc.loops
  · rw[jh];exact hc.nb
  · rw[jh]
    obtain⟨i,hi⟩:=List.getElem?_of_mem hB
    rw[CZ]at hi
    simp only[Option.map_eq_some_iff]at hi
    obtain⟨B',hB',rfl⟩:=hi
    exact JO (hc.b B' (List.mem_of_getElem? hB'))
def tP (c:Code) (mask:Int) (i:Nat):List Block:=(pj c mask).b.take i++c.b.drop i
theorem Mo {c:Code}{mask:Int}:tP c mask 0=c.b:=by simp[tP]
theorem GB {c:Code}{mask:Int}:tP c mask c.b.length=(pj c mask).b:=by
  unfold tP;rw[List.drop_length,List.append_nil,List.take_of_length_le (by rw[jh];omega)]
theorem A3 {c:Code}{mask:Int}{i:Nat}{B:Block}(hB:c.b[i]?=some B):(tP c mask i)[i]?=some B:=by
  have hi:=(List.getElem?_eq_some_iff.1 hB).1
  have h1:((pj c mask).b.take i).length=i:=by rw[List.length_take,jh];omega
  unfold tP
  rw[List.getElem?_append_right (by omega),h1,Nat.sub_self,List.getElem?_drop,Nat.add_zero,hB]
theorem Em {c:Code}{mask:Int}{i:Nat}{B:Block}(hB:c.b[i]?=some B):(tP c mask i).set i (uQ mask i B)=tP c mask (i+1):=by
  have hi:=(List.getElem?_eq_some_iff.1 hB).1
  have h1:((pj c mask).b.take i).length=i:=by rw[List.length_take,jh];omega
  have h2:c.b.drop i=B::c.b.drop (i+1):=by
    rw[List.drop_eq_getElem_cons hi]
    have:=(List.getElem?_eq_some_iff.1 hB).2
    rw[this]
  unfold tP
  rw[List.set_append_right _ _ (by omega),h1,Nat.sub_self,h2,List.set_cons_zero,List.take_add_one,CZ,hB]
  simp
theorem B6 {c:Code}{mask:Int}{i:Nat}{B:Block}(hB:c.b[i]?=some B) (he:uQ mask i B=B):tP c mask i=tP c mask (i+1):=by
  have h1:=Em (mask:=mask) hB
  rw[he]at h1
  rw[<- h1]
  refine List.ext_getElem? fun j=>?_
  rw[List.getElem?_set]
  by_cases hj:i=j
  · subst hj
    have hlt:=(List.getElem?_eq_some_iff.1 (A3 (mask:=mask) hB)).1
    rw[if_pos rfl,if_pos hlt,A3 hB]
  · rw[if_neg hj]
theorem H4 {c:Code}(hc:mf c){mask:Int}:aN PP gB [c.e,.int .u32 mask] (· = (pj c mask).e):=by
  have hnb:=hc.nb
  refine bG vn (ar _ _ _) rfl (uV _ _ _) ?_
  unfold qu
  refine Vs.nil.box c.kI.one fun n3 h4 V1=>?_
  refine V1.alloc fun n5 h6 V2=>?_
  simp only[↓V2.xJ 1 (s:=8) rfl rfl]
  refine Ma hc V2 fun h10 nA nL nB V3=>?_
  refine V3.alloc fun n11 h12 V4=>?_
  refine V4.Fv (cs':=[.int .i64 c.group,.int .i64 c.sub,.int .i64 c.regs,.int .i64 c.slots,.int .i64 c.params,.ms nA 0 c.arrays.length,.ms nL 0 c.loops.length,.ms nB 0 c.b.length]) 0 rfl rfl rfl (fun y hy=>by simp at hy;rcases hy with rfl|rfl|rfl|rfl|rfl|rfl|rfl|rfl<;>rfl) fun h14 V5=>?_
  let BL:List Block->List (Nat×Slot):=fun bs=>[(n11,.box (zV c (.ms nA 0 c.arrays.length) (.ms nL 0 c.loops.length) (.ms nB 0 c.b.length))),(nB,.arr 14 (bs.map Block.e)),(nL,.arr 3 (c.loops.map Loop.e)),(nA,.arr 4 (c.arrays.map wN.e)),(n5,.box (.agg [.int .i64 0,.int .i64 0,.int .i64 0,.int .i64 0,.int .i64 0,.nil,.nil,.nil])),(n3,.box c.e)]
  replace V5:Vs h14 (BL c.b):=V5
  refine⟨fun _ h=>Vs h (BL (pj c mask).b),?_,?_⟩
  · rintro f h17 V
    simp only[↓V.xJ 0 (s:=8) rfl rfl]
    refine V.Fv (cs':=[.int .i64 c.group,.int .i64 c.sub,.int .i64 c.regs,.int .i64 c.slots,.int .i64 c.params,.ms nA 0 c.arrays.length,.ms nL 0 c.loops.length,.ms nB 0 c.b.length]) 4 rfl rfl rfl (fun y hy=>by simp at hy;rcases hy with rfl|rfl|rfl|rfl|rfl|rfl|rfl|rfl<;>rfl) fun h21 V'=>?_
    rw[V'.xJ 4 (s:=8) rfl rfl]
    have rB:(h21 nB).row=some (14,(pj c mask).b.map Block.e):=by rw[V'.get 1 _ _ rfl];rfl
    have rL:(h21 nL).row=some (3,c.loops.map Loop.e):=by rw[V'.get 2 _ _ rfl];rfl
    have rA:(h21 nA).row=some (4,c.arrays.map wN.e):=by rw[V'.get 3 _ _ rfl];rfl
    have ez:(zV c (.ms nA 0 c.arrays.length) (.ms nL 0 c.loops.length) (.ms nB 0 c.b.length)).fzt h21=(pj c mask).e:=by
      have e1:((pj c mask).b.map Block.e).take c.b.length=(pj c mask).b.map Block.e:=List.take_of_length_le (by rw[List.length_map,jh];omega)
      have e2:(c.loops.map Loop.e).take c.loops.length=c.loops.map Loop.e:=List.take_of_length_le (by rw[List.length_map];omega)
      have e3:(c.arrays.map wN.e).take c.arrays.length=c.arrays.map wN.e:=List.take_of_length_le (by rw[List.length_map];omega)
      simp only[D.fzt,D.fz,List.map_cons,List.map_nil,D.fzc,rA,rL,rB,List.drop_zero,e1,e2,e3,Code.e]
      rfl
    refine⟨fun x hx=>by simp[D.cells]at hx;rcases hx with rfl|rfl|rfl|rfl|rfl|rfl|rfl|rfl<;>rfl,?_,by rw[ez];rfl,ez⟩
    intro x hx
    simp only[D.cells,List.mem_cons,List.not_mem_nil,or_false]at hx
    rcases hx with rfl|rfl|rfl|rfl|rfl|rfl|rfl|rfl
    iterate 5 trivial
    · refine⟨4,_,rA,by simp,fun x hx y hy=>?_⟩
      have hx':x∈c.arrays.map wN.e:=List.mem_of_mem_drop (List.mem_of_mem_take hx)
      simp only[List.mem_map]at hx'
      obtain⟨a,-,rfl⟩:=hx'
      simp[wN.e,D.cells]at hy;rcases hy with rfl|rfl|rfl|rfl<;>rfl
    · refine⟨3,_,rL,by simp,fun x hx y hy=>?_⟩
      have hx':x∈c.loops.map Loop.e:=List.mem_of_mem_drop (List.mem_of_mem_take hx)
      simp only[List.mem_map]at hx'
      obtain⟨a,-,rfl⟩:=hx'
      simp[Loop.e,D.cells]at hy;rcases hy with rfl|rfl|rfl<;>rfl
    · refine⟨14,_,rB,by simp[jh],fun x hx y hy=>?_⟩
      have hx':x∈(pj c mask).b.map Block.e:=List.mem_of_mem_drop (List.mem_of_mem_take hx)
      simp only[List.mem_map]at hx'
      obtain⟨a,-,rfl⟩:=hx'
      simp[Block.e,Term.cs,D.cells]at hy
      rcases hy with rfl|rfl|rfl|rfl|rfl|rfl|rfl|rfl|rfl|rfl|rfl|rfl|rfl|rfl<;>rfl
  unfold lI
  refine⟨fun m l h=>∃i:Nat,i<=c.b.length/\m=c.b.length-i/\l=[.int .i64 (i:Int)]/\Vs h (BL (tP c mask i)),_,⟨0,by omega,rfl,rfl,by rw[Mo];exact V5⟩,?_⟩
  rintro m f h26 ⟨i,hi,hm,hl,V⟩
  simp only[List.cons.injEq,and_true]at hl
  have hlen:∀{h:Heap}{K:D->Prop},Vs h (BL (tP c mask i))->bj (.ms nB 0 c.b.length) h K=K (.int .i64 (c.b.length:Int)):=fun {h K} V=>by
    rw[nr];apply propext;exact⟨fun hh=>hh.2,fun hk=>⟨by rw[V.get 1 _ _ rfl];rfl,hk⟩⟩
  simp only[hl,↓V.fa 0 rfl,Nat.zero_add,↓V.ig 0 (j:=7) rfl rfl,↓hlen V,ml]
  by_cases hlt:i<c.b.length
  · have hB:c.b[i]?=some c.b[i]:=List.getElem?_eq_getElem hlt
    generalize c.b[i]=B at hB
    have hS:=A3 (mask:=mask) hB
    have hE:((tP c mask i).map Block.e)[i]?=some B.e:=by rw[List.getElem?_map,hS];rfl
    have hEl:=(List.getElem?_eq_some_iff.1 hE).1
    have w:IntKind.u64.wrap ((i % 32:Nat):Int)=((i % 32:Nat):Int):=by simp only[IntKind.wrap,IntKind.signed,IntKind.bits];simp;omega
    simp only[show((i:Int)<(c.b.length:Int))=True from eq_true (by omega),decide_true,↓av]
    refine⟨fun _ h=>Vs h (BL (tP c mask (i+1))),?_,?_⟩
    · rintro f' h' V'
      rw[gk (by omega) (by omega)]
      simp only[ae,true_and]
      exact⟨_,by omega,i+1,by omega,rfl,by simp,V'⟩
    rw[cq]
    refine⟨by omega,?_⟩
    rw[show((i:Int).tmod 32)=((i % 32:Nat):Int) from aT i 32,qf,w,JY]
    refine⟨by omega,?_⟩
    rw[Mj,dE]
    have hbit:decide (ibits .and .u32 (Bg .u32 mask ((i % 32:Nat):Int)) 1=1)=L4 mask i:=rfl
    rw[hbit]
    have f1:∀{KH:D->Heap->Prop},aa PP (.fadd (.c (.ptr nB i 0)) 1) h26 KH=KH (.ptr nB i 1) h26:=fun {KH}=>by
      rw[qg,V.get 1 _ _ rfl];apply propext;exact⟨fun hh=>hh.2,fun hk=>⟨rfl,hk⟩⟩
    have f0:∀{KH:D->Heap->Prop},aa PP (.fadd (.c (.ptr nB i 1)) 0) h26 KH=KH (.ptr nB i 1) h26:=fun {KH}=>by
      rw[qg,V.get 1 _ _ rfl];apply propext;exact⟨fun hh=>hh.2,fun hk=>⟨rfl,hk⟩⟩
    have lk:∀{KH:D->Heap->Prop},aa PP (.ld (.c (.ptr nB i 1)) 1 false) h26 KH=KH (.int .i64 B.t.kind) h26:=fun {KH}=>by
      rw[v7,V.get 1 _ _ rfl]
      apply propext
      constructor
      · intro hh
        have:=hh.2 B.e hE
        rw[ea]at this
        simpa[Block.e,Term.cs,D.cells] using this
      · intro hk
        refine⟨hEl,fun d hd=>?_⟩
        rw[hE]at hd;cases hd
        rw[ea]
        simpa[Block.e,Term.cs,D.cells] using hk
    cases hbm:L4 mask i
    · have hsame:uQ mask i B=B:=by unfold uQ;rw[hbm];rfl
      simp only[↓gS]
      simp only[ae,true_and]
      rw[<- B6 hB hsame]
      exact V
    · simp only[↓gS,↓V.fa 0 rfl,Nat.zero_add,↓V.ig 0 (j:=7) rfl rfl,↓V.ia 1 rfl (show(0:Int)<=(i:Int) by omega) (show(i:Int)<(c.b.length:Nat) by omega),Int.toNat_natCast,↓f1,↓f0,↓lk,dE]
      by_cases hk:B.t.kind=1
      · have hset:uQ mask i B={ B with t:={ B.t with kind:=3 } }:=by unfold uQ JM;rw[hbm,if_pos rfl,if_pos hk]
        simp only[hk,decide_true,↓gS,↓V.fa 0 rfl,Nat.zero_add,↓V.ig 0 (j:=7) rfl rfl,↓V.ia 1 rfl (show(0:Int)<=(i:Int) by omega) (show(i:Int)<(c.b.length:Nat) by omega),Int.toNat_natCast,↓f1,↓f0]
        rw[jZ,V.get 1 _ _ rfl]
        refine⟨rfl,fun x hx=>by simp[D.cells]at hx;subst hx;rfl,hEl,by omega,fun d hd=>?_⟩
        rw[hE]at hd;cases hd
        have e1:setCells B.e 1 (D.int .i64 3).cells=(uQ mask i B).e:=by rw[hset];rfl
        have e2:((tP c mask i).map Block.e).set i (uQ mask i B).e=(tP c mask (i+1)).map Block.e:=by rw[<- Em hB,List.map_set]
        rw[e1,e2]
        simp only[ae,true_and]
        exact V.cg 1 (s':=.arr 14 ((tP c mask (i+1)).map Block.e)) rfl (by simp)
      · have hsame:uQ mask i B=B:=by unfold uQ JM;rw[hbm,if_pos rfl,if_neg hk]
        simp only[hk,decide_false,↓gS]
        simp only[ae,true_and]
        rw[<- B6 hB hsame]
        exact V
  · have:i=c.b.length:=by omega
    subst this
    rw[GB]at V
    simp only[show((c.b.length:Int)<(c.b.length:Int))=False from eq_false (by omega),decide_false,↓au,ae,true_and]
    exact V
end Go.Am
namespace Go.Am
open Go Go.Proofs
theorem F0 {c:Code}{a b:Nat}(h:b∈edg c a):b∈mh c a\/b∈hU c a:=by
  unfold edg at h;unfold mh hU
  cases hB:c.b[a]?<;>simp only[hB]at h ⊢
  · cases h
  · split<;>simp[h]
theorem Ah {c:Code}{a:Nat}:Path (edg c) 0 a ↔ ∃s,St c s/\Path (mh c) s a:=by
  constructor
  · intro h
    induction h with
    | refl=>exact⟨0,.zero,.refl⟩
    | step _ hb ih =>
      obtain⟨s,hs,hp⟩:=ih
      rcases F0 hb with hb|hb
      · exact⟨s,hs,.step hp hb⟩
      · exact⟨_,.step hs hp hb,.refl⟩
  · rintro⟨s,hs,hp⟩
    have hp':∀{s b:Nat},Path (mh c) s b->Path (edg c) 0 s->Path (edg c) 0 b:=fun h h0=>by
      induction h with
      | refl=>exact h0
      | step _ hb ih=>exact .step ih (Bh hb)
    refine hp' hp ?_
    clear hp
    induction hs with
    | zero=>exact .refl
    | step _ ha ht ih=>exact .step (hp' ha ih) (jb ht)
end Go.Am
namespace Go.Am
open Go Go.Proofs
def uJ (l:List Int):List D:=l.map (.int .i64)
theorem EL {l:List Int}:(uJ l).length=l.length:=by simp[uJ]
theorem Ki (l:List Nat):aL l=uJ (l.map fun n:Nat=>(n:Int)):=by simp[aL,uJ,nD]
section
variable {P:Program}{KH:D->Heap->Prop}{K:D->Prop}{h:Heap}
theorem NP {l:List Int}{i:Nat}{k:Int}(hk:l[i]?=some k) (hK:KH (.int .i64 k) h):aa P (.iadd (.c (.sl (uJ l))) (.c (.int .i64 (i:Int))) 1) h fun a h1=>aa P (.ld (.c a) 1 false) h1 KH:=by
  rw[lf (esz:=1) (d:=.int .i64 k) (by omega) (by rw[Int.toNat_natCast,uJ,List.getElem?_map,hk];rfl) rfl,yX rfl]
  exact hK
theorem MT {l:List Int}{i:Nat}{k:Int}(hk:l[i]?=some k):aa P (.iadd (.c (.sl (uJ l))) (.c (.int .i64 (i:Int))) 1) h KH=KH (.vp (.int .i64 k) 0) h :=
  lf (esz:=1) (d:=.int .i64 k) (by omega) (by rw[Int.toNat_natCast,uJ,List.getElem?_map,hk];rfl) rfl
theorem Nq {k:Int}:aa P (.ld (.c (.vp (.int .i64 k) 0)) 1 false) h KH=KH (.int .i64 k) h:=yX rfl
theorem EM {l:List Int}:bj (.sl (uJ l)) h K=K (.int .i64 (l.length:Int)):=by rw[ku,EL]
end
theorem EJ {l:List Int}:wL (.sl (uJ l)):=Br
theorem ip (l:List Int) (k:Int):∀d,d∈[.sl (uJ l),.int .i64 k]->d.vd=true/\aK d:=fun d hd=>by simp at hd;rcases hd with rfl|rfl;exact EJ.pair;exact aY.pair
theorem H0 {l:List Int}{k:Int}(hl:l.length<=1000000):aN PP bZ [.sl (uJ l),.int .i64 k] (fun r=>∃i:Int,r=.int .i64 i/\(0<=i↔k∈l)):=by
  refine bG eG (ar _ _ _) rfl (kL _ _ _) ?_
  unfold gb
  refine⟨fun _ _=>k∉l,fun f h hk=>?_,?_⟩
  · rw[tQ];exact⟨-1,rfl,by simp[hk]⟩
  rw[EM]
  unfold eE
  refine⟨fun m q _=>∃i:Nat,i<=l.length/\m=l.length-i/\q=[.int .i64 (i:Int)]/\k∉l.take i,_,⟨0,by omega,rfl,rfl,by simp⟩,?_⟩
  rintro m f h ⟨i,hi,hm,hq,hn⟩
  simp only[List.cons.injEq,and_true]at hq
  rw[hq,ml]
  by_cases hlt:i<l.length
  · have hb:l[i]?=some l[i]:=List.getElem?_eq_getElem hlt
    generalize l[i]=b at hb
    simp only[show((i:Int)<(l.length:Int))=True from eq_true (by omega),decide_true,↓av]
    refine NP hb ?_
    simp only[dE]
    by_cases he:k=b
    · subst he
      simp only[decide_true,↓av]
      rw[tQ]
      exact⟨i,rfl,by simp[List.mem_of_getElem? hb]⟩
    · simp only[show(k=b)=False from eq_false he,decide_false,↓au]
      rw[gk (by omega) (by omega)]
      simp only[ae,true_and]
      refine⟨_,by omega,i+1,by omega,rfl,by simp,?_⟩
      rw[List.take_add_one,hb]
      simp only[Option.toList_some,List.mem_append,List.mem_singleton,not_or]
      exact⟨hn,he⟩
  · have:i=l.length:=by omega
    subst this
    simp only[show((l.length:Int)<(l.length:Int))=False from eq_false (by omega),decide_false,↓au,ae,true_and]
    rwa [List.take_length]at hn
theorem CQ {l:List Int}{k:Int}(hl:l.length<=1000000):aN PP aP [.sl (uJ l),.int .i64 k] (· = .bool (decide (k∈l))):=by
  refine bG dK (ar _ _ _) rfl (ji _ _ _) ?_
  unfold eF
  refine cn (H0 hl) (ip l k) ?_
  rintro _ ⟨i,rfl,hi⟩
  rw[Gw,eJ]
  congr 1
  exact decide_eq_decide.2 hi
def EA (N:Nat) (l:List Int):Prop:=l.Pairwise (· < ·)/\∀b∈l,0<=b/\b<(N:Int)
instance (N:Nat) (l:List Int):Decidable (EA N l):=inferInstanceAs (Decidable (_/\_))
theorem pV {N:Nat}{l:List Int}{i:Nat}{b:Int}(hb:l[i]?=some b):EA N (l.take (i+1))↔EA N (l.take i)/\(0<=b/\b<(N:Int))/\∀j a,j+1=i->l[j]?=some a->a<b:=by
  rw[List.take_add_one,hb]
  simp only[Option.toList_some,EA,List.pairwise_append,List.mem_append,List.mem_singleton,List.pairwise_cons,List.not_mem_nil,false_implies,implies_true,List.Pairwise.nil,and_self,true_and]
  constructor
  · rintro⟨⟨h1,h2⟩,h3⟩
    refine⟨⟨h1,fun x hx=>h3 x (Or.inl hx)⟩,h3 b (Or.inr rfl),fun j a hj ha=>h2 a ?_ b rfl⟩
    rw[List.mem_iff_getElem?]
    exact⟨j,by rw[List.getElem?_take,if_pos (by omega)];exact ha⟩
  · rintro⟨⟨h1,h2⟩,h3,h4⟩
    refine⟨⟨h1,fun a ha x hx=>?_⟩,fun x hx=>?_⟩
    · subst hx
      obtain⟨j,hj⟩:=List.getElem?_of_mem ha
      have hji:j<i:=by
        have:=(List.getElem?_eq_some_iff.1 hj).1
        simp at this;omega
      rw[List.getElem?_take,if_pos hji]at hj
      rcases Nat.lt_or_ge (j+1) i with hlt|hge
      · obtain⟨c,hc⟩:∃c,l[i-1]?=some c:=by
          have:=(List.getElem?_eq_some_iff.1 hb).1
          exact⟨l[i-1]'(by omega),List.getElem?_eq_getElem _⟩
        have h5:=h4 (i-1) c (by omega) hc
        rw[List.pairwise_iff_getElem]at h1
        have hl:=(List.getElem?_eq_some_iff.1 hb).1
        have h6:=h1 j (i-1) (by simp;omega) (by simp;omega) (by omega)
        rw[List.getElem_take,List.getElem_take]at h6
        rw[(List.getElem?_eq_some_iff.1 hj).2,(List.getElem?_eq_some_iff.1 hc).2]at h6
        omega
      · exact h4 j a (by omega) hj
    · rcases hx with hx|hx
      · exact h2 x hx
      · subst hx;exact h3
theorem He {N:Nat}{l:List Int}(h:EA N l) (i:Nat):EA N (l.take i):=⟨h.1.sublist (List.take_sublist _ _),fun b hb=>h.2 b (List.mem_of_mem_take hb)⟩
def Dv (N:Nat) (l:List Int) (w:Int):Bool:=decide (EA N l)&&decide (w∈l)
theorem CO {c:Code}{l:List Int}{w:Int}(hnb:c.b.length<=1000) (hl:l.length<=1000000):aN PP dq [c.e,.sl (uJ l),.int .i64 w] (· = .bool (Dv c.b.length l w)):=by
  refine bG lP (ar _ _ _) rfl (u5 _ _ _ _) ?_
  unfold qA
  refine Vs.nil.box c.kI.one fun n4 h5 V=>?_
  refine⟨fun _ h=>h=h5/\EA c.b.length l,?_,?_⟩
  · rintro f _ ⟨rfl,hok⟩
    refine cn (CQ hl) (ip l w) ?_
    rintro _ rfl
    rw[eJ]
    simp[Dv,hok]
  rw[EM]
  unfold lK
  refine⟨fun m q h=>h5=h/\∃i:Nat,i<=l.length/\m=l.length-i/\q=[.int .i64 (i:Int)]/\EA c.b.length (l.take i),_,⟨rfl,0,by omega,rfl,rfl,⟨by simp,by simp⟩⟩,?_⟩
  rintro m f h6 ⟨e6,i,hi,hm,hq,hok⟩
  subst e6
  simp only[List.cons.injEq,and_true]at hq
  rw[hq]
  by_cases hlt:i<l.length
  · have hb:l[i]?=some l[i]:=List.getElem?_eq_getElem hlt
    generalize l[i]=b at hb
    have bad:¬EA c.b.length (l.take (i+1))->lW (fun x=>x=.bool (Dv c.b.length l w)) (.bool false) h5:=fun hn=>by
      rw[eJ]
      have:¬EA c.b.length l:=fun h=>hn (He h _)
      simp[Dv,this]
    rw[xB (by omega),av]
    refine NP hb ?_
    by_cases h0:b<0
    · rw[xB h0]
      simp only[↓gS]
      exact bad fun h=>by have:=((pV hb).1 h).2.1;omega
    · rw[w7 (by omega)]
      simp only[↓gS,↓V.fa 0 rfl,Nat.zero_add,↓V.ig 0 (j:=7) rfl rfl,ku,List.length_map]
      by_cases h1:(c.b.length:Int)<=b
      · rw[NV h1]
        simp only[↓gS]
        exact bad fun h=>by have:=((pV hb).1 h).2.1;omega
      · rw[NW (by omega)]
        simp only[↓gS]
        have nxt:EA c.b.length (l.take (i+1))->∃m,m<l.length-i/\∃i_1:Nat,i_1<=l.length/\m=l.length-i_1/\[D.int .i64 ((i:Int)+1)]=[.int .i64 (i_1:Int)]/\EA c.b.length (l.take i_1):=fun h=>⟨_,by omega,i+1,by omega,rfl,by simp,h⟩
        cases i with
        | zero =>
          rw[Of (by omega)]
          simp only[↓gS]
          rw[gk (by omega) (by omega)]
          simp only[ae,true_and]
          subst hm
          exact nxt ((pV hb).2 ⟨hok,⟨by omega,by omega⟩,fun j a hj=>by omega⟩)
        | succ j =>
          obtain⟨a,ha⟩:∃a,l[j]?=some a:=⟨l[j]'(by omega),List.getElem?_eq_getElem _⟩
          rw[Oe (by omega)]
          simp only[↓gS]
          rw[Mn (by omega) (by omega)]
          have e1:(((j+1:Nat):Int)-1)=(j:Int):=by omega
          simp only[↓gS,e1,↓MT ha,↓Nq]
          by_cases hab:b<=a
          · rw[NV hab]
            simp only[↓gS]
            exact bad fun h=>by have:=((pV hb).1 h).2.2 j a rfl ha;omega
          · rw[NW (by omega)]
            simp only[↓gS]
            rw[gk (by omega) (by omega)]
            simp only[ae,true_and]
            subst hm
            exact nxt ((pV hb).2 ⟨hok,⟨by omega,by omega⟩,fun j' a' hj ha'=>by
              have:j'=j:=by omega
              subst this
              rw[ha]at ha';cases ha';omega⟩)
  · have:i=l.length:=by omega
    subst this
    rw[w7 (by omega),au]
    simp only[ae,true_and]
    rw[List.take_length]at hok
    exact hok
end Go.Am
namespace Go.Am
open Go Go.Proofs
theorem Jv {a:Int}:aN PP cM [.int .i64 a] (· = .bool false):=by
  refine bG kX (ar _ _ _) rfl (tF _ _) ?_
  unfold oW
  rw[Mf rfl,eJ]
theorem HX {a:Int}:aN PP bF [.int .i64 a] (· = .bool false):=by
  refine bG pA (ar _ _ _) rfl (pn _ _) ?_
  unfold kK
  rw[Mf rfl,eJ]
theorem i1 (k:Int):∀d,d∈[D.int .i64 k]->d.vd=true/\aK d:=fun d hd=>by simp at hd;subst hd;exact aY.pair
theorem Jy {a b:Int}:aN PP dt [.int .i64 a,.int .i64 b] (· = .bool (decide (a<b))):=by
  refine bG lV (ar _ _ _) rfl (u9 _ _ _) ?_
  unfold qB
  refine cn Jv (i1 a) ?_
  rintro _ rfl
  simp only[↓gS,ml]
  rw[eJ]
theorem NB {n:Int}(h1:0<=n) (h2:n<=9223372036854775807):IntKind.u64.wrap n=n:=by
  simp only[IntKind.wrap,IntKind.signed,IntKind.bits]
  first|omega|(simp;omega)
theorem LZ {l:List Int}{k:Int}(hl:l.length<=1000000) (hs:l.Pairwise (· < ·)):aN PP bm [.sl (uJ l),.int .i64 k] (fun r=>∃i:Int,r=.tup [.int .i64 i,.bool (decide (k∈l))]):=by
  refine bG cH (ar _ _ _) rfl (gl _ _ _) ?_
  unfold dC
  rw[EM]
  have mono:∀(i j:Nat) (a b:Int),l[i]?=some a->l[j]?=some b->i<j->a<b:=by
    intro i j a b ha hb hij
    rw[List.pairwise_iff_getElem]at hs
    obtain⟨h1,e1⟩:=List.getElem?_eq_some_iff.1 ha
    obtain⟨h2,e2⟩:=List.getElem?_eq_some_iff.1 hb
    have:=hs i j h1 h2 hij
    rw[e1,e2]at this;exact this
  refine⟨fun q _=>∃i:Nat,q=[.int .i64 (i:Int)]/\i<=l.length/\(∀(x:Nat) (a:Int),x<i->l[x]?=some a->a<k)/\(∀(x:Nat) (a:Int),i<=x->l[x]?=some a->k<=a),?_,?_⟩
  · rintro f h ⟨i,hq,hi,hlo,hhi⟩
    simp only[List.cons.injEq,and_true]at hq
    rw[hq]
    have ret:∀b:Bool,b=decide (k∈l)->lW (fun r=>∃i:Int,r=.tup [.int .i64 i,.bool (decide (k∈l))]) (.tup [.int .i64 (i:Int),.bool b]) h:=fun b hb=>by
      subst hb
      exact Gp (fun d hd=>by simp at hd;rcases hd with rfl|rfl;exact aY.pair;exact HM.pair) ⟨i,rfl⟩
    by_cases hlt:i<l.length
    · have hb:l[i]?=some l[i]:=List.getElem?_eq_getElem hlt
      generalize l[i]=b at hb
      rw[xB (by omega)]
      simp only[↓gS,↓MT hb,↓Nq]
      by_cases he:b=k
      · rw[M7 he]
        simp only[↓gS]
        exact ret _ (by subst he;simp[List.mem_of_getElem? hb])
      · rw[M8 he]
        simp only[↓gS,↓MT hb,↓Nq]
        refine cn HX (i1 b) ?_
        rintro _ rfl
        simp only[↓gS]
        refine ret _ ?_
        symm
        rw[decide_eq_false_iff_not]
        intro hm
        obtain⟨x,hx⟩:=List.getElem?_of_mem hm
        rcases Nat.lt_trichotomy x i with h1|h1|h1
        · have:=hlo x k h1 hx;omega
        · subst h1;rw[hb]at hx;cases hx;exact he rfl
        · have:=mono i x b k hb hx h1
          have:=hhi i b (Nat.le_refl _) hb
          omega
    · rw[w7 (by omega)]
      simp only[↓gS]
      refine ret _ ?_
      symm
      rw[decide_eq_false_iff_not]
      intro hm
      obtain⟨x,hx⟩:=List.getElem?_of_mem hm
      have:=(List.getElem?_eq_some_iff.1 hx).1
      have:=hlo x k (by omega) hx;omega
  unfold cD
  refine⟨fun m q _=>∃i j:Nat,i<=j/\j<=l.length/\m=j-i/\q=[.int .i64 (i:Int),.int .i64 (j:Int)]/\(∀(x:Nat) (a:Int),x<i->l[x]?=some a->a<k)/\(∀(x:Nat) (a:Int),j<=x->l[x]?=some a->k<=a),_,
    ⟨0,l.length,by omega,by omega,rfl,rfl,fun x a hx=>by omega,fun x a hx ha=>by have:=(List.getElem?_eq_some_iff.1 ha).1;omega⟩,?_⟩
  rintro m f h ⟨i,j,hij,hj,hm,hq,hlo,hhi⟩
  simp only[List.cons.injEq,and_true]at hq
  obtain⟨q1,q2⟩:=hq
  rw[q1,q2]
  by_cases hlt:i<j
  · rw[xB (by omega),av,gk (by omega) (by omega),qf,NB (by omega) (by omega),JY]
    refine⟨by omega,?_⟩
    have e1:Bg .u64 ((i:Int)+(j:Int)) 1=(((i+j) / 2:Nat):Int):=by
      have:=Ls (i+j) 1 (by omega)
      simpa using this
    rw[e1,qf,wrap64 (by omega) (by omega)]
    have hmid:(i+j) / 2<l.length:=by omega
    have hb:l[(i+j) / 2]?=some l[(i+j) / 2]:=List.getElem?_eq_getElem hmid
    generalize l[(i+j) / 2]=b at hb
    refine NP hb ?_
    refine cn Jy (fun d hd=>by simp at hd;rcases hd with rfl|rfl<;>exact aY.pair) ?_
    rintro _ rfl
    by_cases hbk:b<k
    · simp only[hbk,decide_true,↓av]
      rw[gk (by omega) (by omega)]
      simp only[ae,true_and]
      refine⟨_,?_,(i+j) / 2+1,j,by omega,hj,rfl,by simp,fun x a hx ha=>?_,hhi⟩
      · omega
      · rcases Nat.lt_or_ge x ((i+j) / 2) with h1|h1
        · have:=mono _ _ a b ha hb h1;omega
        · have:x=(i+j) / 2:=by omega
          subst this;rw[hb]at ha;cases ha;exact hbk
    · simp only[hbk,decide_false,↓au]
      simp only[ae,true_and]
      refine⟨_,?_,i,(i+j) / 2,by omega,by omega,rfl,rfl,hlo,fun x a hx ha=>?_⟩
      · omega
      · rcases Nat.lt_or_ge ((i+j) / 2) x with h1|h1
        · have:=mono _ _ b a hb ha h1;omega
        · have:x=(i+j) / 2:=by omega
          subst this;rw[hb]at ha;cases ha;omega
  · have:i=j:=by omega
    subst this
    rw[w7 (by omega),au]
    simp only[ae,true_and]
    exact⟨i,rfl,hj,hlo,hhi⟩
def Nt (c:Code) (S l:List Int):Prop:=∀b∈l,∀B,c.b[b.toNat]?=some B->∀t,t∈aZ B.t->(t:Int)∈(if B.t.kind=3 then S else l)
def Md (c:Code) (S:List Int) (R:List (List Int)):Prop :=
  Dv c.b.length S 0=true/\R.length=S.length/\∀(j:Nat) (l:List Int) (s:Int),R[j]?=some l->S[j]?=some s->Dv c.b.length l s=true/\Nt c S l
def Me (S:List Int) (R:List (List Int)):D:=.agg [.sl (uJ S),.sl (R.map fun l=>.sl (uJ l))]
theorem EK {N:Nat}{l:List Int}{w:Int}(h:Dv N l w=true):l.Pairwise (· < ·)/\(∀b∈l,0<=b/\b<(N:Int))/\w∈l:=by
  simp only[Dv,Bool.and_eq_true,decide_eq_true_eq]at h
  exact⟨h.1.1,h.1.2,h.2⟩
theorem JA {c:Code}{S:List Int}{R:List (List Int)}(hc:gh c) (hS:S.length<=1000000) (hR:R.length<=1000000) (hRl:∀l∈R,l.length<=1000000) :
    aN PP bT [c.e,Me S R] (fun r=>∃e:Int,r=.int .i64 e/\(e=0\/e=100)/\(e=0↔Md c S R)):=by
  have hnb:=hc.nb
  have dph:wL (Me S R):=fF (by simp)
  have bad:∀h:Heap,¬Md c S R->lW (fun r=>∃e:Int,r=.int .i64 e/\(e=0\/e=100)/\(e=0↔Md c S R)) (.int .i64 100) h:=fun h hn=>by
    rw[tQ]
    exact⟨100,rfl,Or.inr rfl,by simp[hn]⟩
  refine bG ni (ar _ _ _) rfl (wv _ _ _) ?_
  unfold sH
  refine Vs.nil.box c.kI.one fun n3 h4 V1=>?_
  refine V1.box dph.one fun n5 h6 V=>?_
  have l3:∀{h:Heap}{K:D->Heap->Prop},Vs h [(n5,.box (Me S R)),(n3,.box c.e)]->aa PP (.ld (.c (.ptr n3 0 0)) 8 true) h K=K c.e h:=fun V=>V.xJ 1 (s:=8) rfl rfl
  have dl3:∀{h:Heap}{K:D->Prop},Vs h [(n5,.box (Me S R)),(n3,.box c.e)]->af PP (.ld (.c (.ptr n3 0 0)) 8 true) h K=K c.e:=fun V=>V.Js 1 (s:=8) rfl rfl
  have l50:∀{K:D->Heap->Prop},aa PP (.ld (.c (.ptr n5 0 0)) 1 false) h6 K=K (.sl (uJ S)) h6:=fun {K}=>V.ig 0 (j:=0) rfl rfl
  have l51:∀{K:D->Heap->Prop},aa PP (.ld (.c (.ptr n5 0 1)) 1 false) h6 K=K (.sl (R.map fun l=>.sl (uJ l))) h6:=fun {K}=>V.ig 0 (j:=1) rfl rfl
  have dli:∀(l:List Int) (s:Int),∀d,d∈[c.e,.sl (uJ l),.int .i64 s]->d.vd=true/\aK d:=fun l s d hd=>by simp at hd;rcases hd with rfl|rfl|rfl;exact c.kI.pair;exact EJ.pair;exact aY.pair
  simp only[↓l3 V,↓V.fa 0 rfl,Nat.zero_add,↓l50]
  refine cn (CO (by omega) hS) (dli S 0) ?_
  rintro _ rfl
  cases hS0:Dv c.b.length S 0
  · simp only[↓gS]
    exact bad _ fun h=>by rw[h.1]at hS0;cases hS0
  simp only[↓gS,↓V.fa 0 rfl,Nat.zero_add,↓l50,↓l51,ku,List.length_map,EL]
  by_cases hlen:R.length=S.length
  case neg =>
    rw[Ob (by omega)]
    simp only[↓gS]
    exact bad _ fun h=>hlen h.2.1
  rw[Mf (by omega)]
  simp only[↓gS]
  refine⟨fun _ h=>h6=h/\Md c S R,?_,?_⟩
  · rintro f h ⟨e6,hk⟩
    rw[tQ]
    exact⟨0,rfl,Or.inl rfl,by simp[hk]⟩
  try simp only[↓V.fa 0 rfl,Nat.zero_add,↓l51,ku,List.length_map]
  have idR:∀{KH:D->Heap->Prop}{i:Nat}{l:List Int},R[i]?=some l->aa PP (.iadd (.c (.sl (R.map fun l=>.sl (uJ l)))) (.c (.int .i64 (i:Int))) 1) h6 KH=KH (.vp (.sl (uJ l)) 0) h6:=fun hi =>
    lf (esz:=1) (by omega) (by rw[Int.toNat_natCast,List.getElem?_map,hi];rfl) rfl
  unfold mX
  refine⟨fun m q h=>h6=h/\∃i:Nat,i<=R.length/\m=R.length-i/\q=[.int .i64 (i:Int)]/\∀(j:Nat) (l:List Int) (s:Int),j<i->R[j]?=some l->S[j]?=some s->Dv c.b.length l s=true/\Nt c S l,_,
    ⟨rfl,0,by omega,rfl,rfl,fun j l s hj=>by omega⟩,?_⟩
  rintro m f h ⟨e6,i,hi,hm,hq,hok⟩
  subst e6
  simp only[List.cons.injEq,and_true]at hq
  rw[hq]
  by_cases hlt:i<R.length
  case neg =>
    have:i=R.length:=by omega
    subst this
    rw[w7 (by omega),au]
    simp only[ae,true_and]
    exact⟨hS0,hlen,fun j l s h1 h2=>hok j l s (List.getElem?_eq_some_iff.1 h1).1 h1 h2⟩
  rw[xB (by omega),av]
  obtain⟨l,hl⟩:∃l,R[i]?=some l:=⟨R[i],List.getElem?_eq_getElem hlt⟩
  obtain⟨s,hs⟩:∃s,S[i]?=some s:=⟨S[i]'(by omega),List.getElem?_eq_getElem _⟩
  have hll:=hRl l (List.mem_of_getElem? hl)
  have no:(Dv c.b.length l s=true->¬Nt c S l)->¬Md c S R:=fun hn h=>by
    obtain⟨h1,h2⟩:=h.2.2 i l s hl hs
    exact hn h1 h2
  refine⟨fun _ h=>h6=h/\Dv c.b.length l s=true/\Nt c S l,?_,?_⟩
  · rintro f2 h2 ⟨e2,hok2⟩
    rw[gk (by omega) (by omega)]
    simp only[ae,true_and]
    refine⟨_,by omega,e2,i+1,by omega,rfl,by simp,fun j l' s' hj h1 h2=>?_⟩
    rcases Nat.lt_or_ge j i with hlt'|hge
    · exact hok j l' s' hlt' h1 h2
    · have:j=i:=by omega
      subst this
      rw[hl]at h1;rw[hs]at h2
      cases h1;cases h2
      exact hok2
  have lv1:∀{KH:D->Heap->Prop},aa PP (.ld (.c (.vp (.sl (uJ l)) 0)) 1 false) h6 KH=KH (.sl (uJ l)) h6:=fun {KH}=>yX rfl
  have dS:∀{K:D->Prop},af PP (.ld (.c (.ptr n5 0 0)) 1 false) h6 K=K (.sl (uJ S)):=fun {K}=>V.CF 0 (j:=0) rfl rfl
  have ds:∀{K:D->Prop},af PP (.iadd (.c (.sl (uJ S))) (.c (.int .i64 (i:Int))) 1) h6 K=K (.vp (.int .i64 s) 0):=fun {K}=>by rw[l8,MT hs]
  have dsl:∀{K:D->Prop},af PP (.ld (.c (.vp (.int .i64 s) 0)) 1 false) h6 K=K (.int .i64 s):=fun {K}=>HK rfl
  simp only[↓idR hl,↓lv1,↓dl3 V,↓V.sy 0 rfl,Nat.zero_add,↓dS,↓ds,↓dsl]
  refine tB (CO (by omega) hll) (dli l s) ?_
  cases hls:Dv c.b.length l s
  · simp only[↓gS]
    exact bad _ (no fun h=>by rw[hls]at h;cases h)
  simp only[↓gS,EM]
  obtain⟨linc,lrng,-⟩:=EK hls
  obtain⟨Sinc,Srng,-⟩:=EK hS0
  unfold mY
  refine⟨fun m q h=>h6=h/\∃k:Nat,k<=l.length/\m=l.length-k/\q=[.int .i64 (k:Int)]/\∀(x:Nat) (b:Int),x<k->l[x]?=some b->∀B,c.b[b.toNat]?=some B->∀t,t∈aZ B.t->(t:Int)∈(if B.t.kind=3 then S else l),_,
    ⟨rfl,0,by omega,rfl,rfl,fun x b hx=>by omega⟩,?_⟩
  rintro m2 f2 h2 ⟨e2,k,hk,hm2,hq2,hok2⟩
  subst e2
  simp only[List.cons.injEq,and_true]at hq2
  rw[hq2]
  by_cases hlt2:k<l.length
  case neg =>
    have:k=l.length:=by omega
    subst this
    rw[w7 (by omega),au]
    simp only[ae,true_and]
    refine fun b hb B hB t ht=>?_
    obtain⟨x,hx⟩:=List.getElem?_of_mem hb
    exact hok2 x b (List.getElem?_eq_some_iff.1 hx).1 hx B hB t ht
  rw[xB (by omega),av]
  obtain⟨b,hb⟩:∃b,l[k]?=some b:=⟨l[k],List.getElem?_eq_getElem hlt2⟩
  obtain⟨b0,b1⟩:=lrng b (List.mem_of_getElem? hb)
  obtain⟨B,hB⟩:∃B,c.b[b.toNat]?=some B:=⟨c.b[b.toNat]'(by omega),List.getElem?_eq_getElem _⟩
  have hTB:=hc.t B (List.mem_of_getElem? hB)
  have eb:b=((b.toNat:Nat):Int):=by omega
  refine⟨fun _ h=>h6=h/\∀t,t∈aZ B.t->(t:Int)∈(if B.t.kind=3 then S else l),?_,?_⟩
  · rintro f3 h3 ⟨e3,hok3⟩
    rw[gk (by omega) (by omega)]
    simp only[ae,true_and]
    refine⟨_,by omega,e3,k+1,by omega,rfl,by simp,fun x b' hx h1 B' hB' t ht=>?_⟩
    rcases Nat.lt_or_ge x k with hlt'|hge
    · exact hok2 x b' hlt' h1 B' hB' t ht
    · have:x=k:=by omega
      subst this
      rw[hb]at h1;cases h1
      rw[hB]at hB';cases hB'
      exact hok3 t ht
  have idb:∀{KH:D->Heap->Prop},aa PP (.iadd (.c (.sl (c.b.map Block.e))) (.c (.int .i64 b)) 14) h6 KH=KH (.vp B.e 0) h6:=fun {KH}=>by rw[eb];exact Ga hB
  simp only[↓MT hb,↓Nq]
  refine⟨fun q h=>h6=h/\q=[.sl (uJ (if B.t.kind=3 then S else l))],?_,?_⟩
  · rintro f3 h3 ⟨e3,hq3⟩
    subst e3
    simp only[List.cons.injEq,and_true]at hq3
    simp only[hq3,↓V.fa 1 rfl,Nat.zero_add,↓V.ig 1 (j:=7) rfl rfl,↓idb,↓Kp,↓JK]
    refine cn (HY hTB) (fun d hd=>by simp at hd;subst hd;exact B.t.kI.pair) ?_
    rintro _ rfl
    rw[lq]
    have hEl:(aZ B.t).length<=2:=by unfold aZ;split<;>(try split)<;>simp
    have winc:(if B.t.kind=3 then S else l).Pairwise (· < ·):=by split;exact Sinc;exact linc
    have wlen:(if B.t.kind=3 then S else l).length<=1000000:=by split;exact hS;exact hll
    have hcl:∀t,t∈aZ B.t->(t:Int)∉(if B.t.kind=3 then S else l)->¬Md c S R:=fun t ht hn=>no fun _ hcl=>hn (hcl b (List.mem_of_getElem? hb) B hB t ht)
    generalize (if B.t.kind=3 then S else l)=w at winc wlen hcl hq3 ⊢
    unfold mZ
    refine⟨fun m q h=>h6=h/\∃y:Nat,y<=(aZ B.t).length/\m=(aZ B.t).length-y/\q=[.int .i64 (y:Int)]/\∀(x t:Nat),x<y->(aZ B.t)[x]?=some t->(t:Int)∈w,_,
      ⟨rfl,0,by omega,rfl,rfl,fun x t hx=>by omega⟩,?_⟩
    rintro m4 f4 h4 ⟨e4,y,hy,hm4,hq4,hok4⟩
    subst e4
    simp only[List.cons.injEq,and_true]at hq4
    rw[hq4]
    by_cases hlt4:y<(aZ B.t).length
    · rw[xB (by omega),av]
      obtain⟨t,ht⟩:∃t,(aZ B.t)[y]?=some t:=⟨(aZ B.t)[y],List.getElem?_eq_getElem hlt4⟩
      refine Il ht ?_
      simp only[hq3]
      refine cn (LZ wlen winc) (ip w (t:Int)) ?_
      rintro _ ⟨i',rfl⟩
      by_cases hmem:(t:Int)∈w
      · simp only[hmem,decide_true,↓gS]
        rw[gk (by omega) (by omega)]
        simp only[ae,true_and]
        refine⟨_,by omega,y+1,by omega,rfl,by simp,fun x t' hx h1=>?_⟩
        rcases Nat.lt_or_ge x y with hlt'|hge
        · exact hok4 x t' hlt' h1
        · have:x=y:=by omega
          subst this
          rw[ht]at h1;cases h1;exact hmem
      · simp only[hmem,decide_false,↓gS]
        exact bad _ (hcl t (List.mem_of_getElem? ht) hmem)
    · have:y=(aZ B.t).length:=by omega
      subst this
      rw[w7 (by omega),au]
      simp only[ae,true_and]
      intro t ht
      obtain⟨x,hx⟩:=List.getElem?_of_mem ht
      exact hok4 x t (List.getElem?_eq_some_iff.1 hx).1 hx
  · have fv1:∀{KH:D->Heap->Prop},aa PP (.fadd (.c (.vp B.e 1)) 0) h6 KH=KH (.vp B.e 1) h6:=fun {KH}=>rfl
    have lvk:∀{KH:D->Heap->Prop},aa PP (.ld (.c (.vp B.e 1)) 1 false) h6 KH=KH (.int .i64 B.t.kind) h6:=fun {KH}=>Hp rfl
    simp only[↓V.fa 1 rfl,Nat.zero_add,↓V.ig 1 (j:=7) rfl rfl,↓idb,↓Kp,↓fv1,↓lvk,dE]
    by_cases hk3:B.t.kind=3
    · simp only[hk3,decide_true,↓av,↓V.fa 0 rfl,Nat.zero_add,↓l50,ae,true_and,if_true]
    · simp only[hk3,decide_false,↓au,ae,true_and,if_false]
end Go.Am
namespace Go.Am
open Go Go.Proofs
theorem sp (l:List Nat) (k:Nat):∀d,d∈[.sl (aL l),nD k]->d.vd=true/\aK d:=fun d hd=>by simp at hd;rcases hd with rfl|rfl;exact A4.pair;exact aY.pair
theorem H2 {l:List Nat}{k:Nat}(hl:l.length<=1000000):aN PP fV [.sl (aL l),nD k] (· = .bool (decide (k∈l))):=by
  refine bG zC (ar _ _ _) rfl (zv _ _ _) ?_
  unfold xh
  refine⟨fun _ _=>k∉l,fun f h hk=>?_,?_⟩
  · rw[eJ];simp[hk]
  unfold qw
  refine⟨fun m q _=>∃i:Nat,i<=l.length/\m=l.length-i/\q=[.int .i64 (i:Int)]/\k∉l.take i,_,⟨0,by omega,rfl,rfl,by simp⟩,?_⟩
  rintro m f h ⟨i,hi,hm,hq,hn⟩
  simp only[List.cons.injEq,and_true]at hq
  rw[lq,hq,ml]
  by_cases hlt:i<l.length
  · have hb:l[i]?=some l[i]:=List.getElem?_eq_getElem hlt
    generalize l[i]=b at hb
    simp only[show((i:Int)<(l.length:Int))=True from eq_true (by omega),decide_true,↓av]
    refine Il hb ?_
    simp only[nD,dE]
    by_cases he:b=k
    · subst he
      simp only[decide_true,↓av]
      rw[eJ]
      simp[List.mem_of_getElem? hb]
    · simp only[show((b:Int)=(k:Int))=False from eq_false (by omega),decide_false,↓au]
      rw[gk (by omega) (by omega)]
      simp only[ae,true_and]
      refine⟨_,by omega,i+1,by omega,rfl,by simp,?_⟩
      rw[List.take_add_one,hb]
      simp only[Option.toList_some,List.mem_append,List.mem_singleton,not_or]
      exact⟨hn,fun e=>he e.symm⟩
  · have:i=l.length:=by omega
    subst this
    simp only[show((l.length:Int)<(l.length:Int))=False from eq_false (by omega),decide_false,↓au,ae,true_and]
    rwa [List.take_length]at hn
def pg (l:List Nat) (k:Nat):List Nat:=if k∈l then l else l.filter (· < k)++[k]++l.filter (k < ·)
theorem kE {l:List Nat}{k x:Nat}:x∈pg l k↔x∈l\/x=k:=by
  unfold pg
  split
  · rename_i h
    exact⟨Or.inl,fun hx=>hx.elim id fun e=>e ▸ h⟩
  · rename_i h
    simp only[List.mem_append,List.mem_filter,List.mem_singleton,decide_eq_true_eq]
    constructor
    · rintro ((⟨h1,-⟩|h1)|⟨h1,-⟩)
      · exact Or.inl h1
      · exact Or.inr h1
      · exact Or.inl h1
    · rintro (h1|h1)
      · rcases Nat.lt_trichotomy x k with h2|h2|h2
        · exact Or.inl (Or.inl ⟨h1,h2⟩)
        · exact Or.inl (Or.inr h2)
        · exact Or.inr ⟨h1,h2⟩
      · exact Or.inl (Or.inr h1)
theorem y3 {l:List Nat}{k:Nat}(hl:l.Pairwise (· < ·)):(pg l k).Pairwise (· < ·):=by
  unfold pg
  split
  · exact hl
  · rw[List.append_assoc,List.pairwise_append]
    refine⟨hl.filter _,?_,fun a ha b hb=>?_⟩
    · simp only[List.singleton_append,List.pairwise_cons]
      exact⟨fun b hb=>by simpa using (List.mem_filter.1 hb).2,hl.filter _⟩
    · have h1:a<k:=by simpa using (List.mem_filter.1 ha).2
      simp only[List.singleton_append,List.mem_cons]at hb
      rcases hb with rfl|hb
      · exact h1
      · have h2:k<b:=by simpa using (List.mem_filter.1 hb).2
        omega
theorem Co {l:List Nat}{k:Nat}(hl:l.Pairwise (· < ·)):k∈l/\pg l k=l\/k∉l/\(pg l k).length=l.length+1:=by
  by_cases h:k∈l
  · exact Or.inl ⟨h,by unfold pg;rw[if_pos h]⟩
  · refine Or.inr ⟨h,?_⟩
    unfold pg
    rw[if_neg h]
    have:∀l:List Nat,k∉l->(l.filter (· < k)).length+(l.filter (k < ·)).length=l.length:=by
      intro l
      induction l with
      | nil=>intro _;rfl
      | cons a r ih =>
        intro hk
        simp only[List.mem_cons,not_or]at hk
        have:=ih hk.2
        rcases Nat.lt_or_ge a k with h1|h1
        · have h2:¬k<a:=by omega
          rw[List.filter_cons_of_pos (by simpa using h1),List.filter_cons_of_neg (by simpa using h2)]
          simp only[List.length_cons];omega
        · have h2:k<a:=by omega
          rw[List.filter_cons_of_neg (by simpa using h1),List.filter_cons_of_pos (by simpa using h2)]
          simp only[List.length_cons];omega
    have:=this l h
    simp only[List.length_append,List.length_singleton]
    omega
theorem GC {l:List Nat}{k at':Nat}(hl:l.Pairwise (· < ·)) (hk:k∉l) (hlo:∀(x a:Nat),x<at'->l[x]?=some a->a<k) (hhi:∀a,l[at']?=some a->k<=a):l.take at'=l.filter (· < k)/\l.drop at'=l.filter (k < ·):=by
  have e:=List.take_append_drop at' l
  have h1:∀a,a∈l.take at'->a<k:=fun a ha=>by
    obtain⟨x,hx⟩:=List.getElem?_of_mem ha
    have hlt:x<at':=by have:=(List.getElem?_eq_some_iff.1 hx).1;simp at this;omega
    rw[List.getElem?_take,if_pos hlt]at hx
    exact hlo x a hlt hx
  have h2:∀a,a∈l.drop at'->k<a:=fun a ha=>by
    have hne:a≠k:=by rintro rfl;exact hk (List.mem_of_mem_drop ha)
    obtain⟨x,hx⟩:=List.getElem?_of_mem ha
    rw[List.getElem?_drop]at hx
    cases x with
    | zero=>have:=hhi a (by simpa using hx);omega
    | succ x =>
      have hlt:=(List.getElem?_eq_some_iff.1 hx).1
      have hb:l[at']?=some l[at']:=List.getElem?_eq_getElem (by omega)
      have:=hhi _ hb
      have h3:=List.pairwise_iff_getElem.1 hl at' (at'+(x+1)) (by omega) hlt (by omega)
      rw[(List.getElem?_eq_some_iff.1 hx).2]at h3
      omega
  have f1:∀(p:Nat->Bool) (A B:List Nat),(∀a∈A,p a=true)->(∀a∈B,p a=false)->(A++B).filter p=A:=fun p A B ha hb=>by
    rw[List.filter_append,List.filter_eq_self.2 ha,List.filter_eq_nil_iff.2 (fun a h=>by rw[hb a h];simp),List.append_nil]
  have f2:∀(p:Nat->Bool) (A B:List Nat),(∀a∈A,p a=false)->(∀a∈B,p a=true)->(A++B).filter p=B:=fun p A B ha hb=>by
    rw[List.filter_append,List.filter_eq_self.2 hb,List.filter_eq_nil_iff.2 (fun a h=>by rw[ha a h];simp),List.nil_append]
  constructor
  · conv=>rhs;rw[<- e]
    exact(f1 _ _ _ (fun a h=>by simpa using h1 a h) (fun a h=>by have:=h2 a h;simp;omega)).symm
  · conv=>rhs;rw[<- e]
    exact(f2 _ _ _ (fun a h=>by have:=h1 a h;simp;omega) (fun a h=>by simpa using h2 a h)).symm
theorem GF {P:Program}{h:Heap}{KH:D->Heap->Prop}{xs:List D}{k n:Nat}(hk:k<=xs.length) (hc:∀d∈xs,d.cells.length=n):aa P (.kY (.c (.sl xs)) none (some (.c (.int .i64 (k:Int)))) none n) h KH=KH (.sl (xs.take k)) h:=by
  rw[EO]
  apply propext
  constructor
  · rintro⟨-,-,-,-,-,hk⟩;simpa using hk
  · intro hh;exact⟨by omega,by omega,by omega,by omega,hc,by simpa using hh⟩
theorem GG {P:Program}{h:Heap}{KH:D->Heap->Prop}{xs:List D}{k n:Nat}(hk:k<=xs.length) (hc:∀d∈xs,d.cells.length=n):aa P (.kY (.c (.sl xs)) (some (.c (.int .i64 (k:Int)))) none none n) h KH=KH (.sl (xs.drop k)) h:=by
  simp only[EO,Fi,Fh]
  have e:(xs.drop ((k:Int)).toNat).take (((xs.length:Int))-(k:Int)).toNat=xs.drop k:=by
    rw[Int.toNat_natCast];exact List.take_of_length_le (by simp)
  rw[e]
  apply propext
  constructor
  · rintro⟨-,-,-,-,-,h⟩;exact h
  · intro h;exact⟨by omega,by omega,by omega,by omega,hc,h⟩
theorem Hg {l:List Nat}:∀d,d∈aL l->d.cells.length=1:=fun d hd=>by simp only[aL,List.mem_map]at hd;obtain⟨k,-,rfl⟩:=hd;rfl
theorem Ba {l:List Nat}:∀d,d∈aL l->aK d:=fun d hd=>by simp only[aL,List.mem_map]at hd;obtain⟨k,-,rfl⟩:=hd;exact aY.one
theorem ur {l:List Nat}:∀x,x∈aL l->∀y∈x.cells,y.vone=true:=fun x hx y hy=>by
  simp only[aL,List.mem_map]at hx;obtain⟨k,-,rfl⟩:=hx
  simp[nD,D.cells]at hy;subst hy;rfl
theorem yl {l:List Nat}{k:Nat}(hl:l.length<=100000) (hinc:l.Pairwise (· < ·)):aN PP cY [.sl (aL l),nD k] (· = .sl (aL (pg l k))):=by
  refine bG wI (ar _ _ _) rfl (wu _ _ _) ?_
  unfold sG
  refine cn (H2 (by omega)) (sp l k) ?_
  rintro _ rfl
  by_cases hk:k∈l
  · simp only[hk,decide_true,↓av]
    rw[ya]
    simp[pg,hk]
  simp only[hk,decide_false,↓au]
  refine⟨fun q h=>∃i:Nat,q=[.int .i64 (i:Int)]/\i<=l.length/\(∀(x a:Nat),x<i->l[x]?=some a->a<k)/\(∀a,l[i]?=some a->k<=a)/\Vs h [],?_,?_⟩
  · rintro f h ⟨i,hq,hi,hlo,hhi,V⟩
    simp only[List.cons.injEq,and_true]at hq
    obtain⟨e1,e2⟩:=GC hinc hk hlo hhi
    have tk:∀{h:Heap}{K:D->Prop},af PP (.kY (.c (.sl (aL l))) none (some (.c (.int .i64 (i:Int)))) none 1) h K=K (.sl (aL (l.filter (· < k)))):=fun {h K}=>by
      rw[Kt,GF (by simpa[aL] using hi) Hg, <- e1];simp[aL,List.map_take]
    have dp:∀{h:Heap}{K:D->Prop},af PP (.kY (.c (.sl (aL l))) (some (.c (.int .i64 (i:Int)))) none none 1) h K=K (.sl (aL (l.filter (k < ·)))):=fun {h K}=>by
      rw[Kt,GG (by simpa[aL] using hi) Hg, <- e2];simp[aL,List.map_drop]
    have one:∀{h:Heap}{K:D->Prop},K (.sl (aL [k]))->af PP (.bldS false 1 1 (.int .i64 0) [(0,.c (nD k))]) h K:=fun {h K} hk =>
      ⟨fun p hp=>by simp[Arg.get]at hp;subst hp;exact⟨Nat.one_pos,rfl,aY.one⟩,fun p hp=>by simp[Arg.get]at hp;subst hp;intro y hy;simp[nD,D.cells]at hy;subst hy;rfl,fun y hy=>by simp[D.cells]at hy;subst hy;rfl,hk⟩
    have l1:(l.filter (· < k)).length<=l.length:=List.length_filter_le _ _
    have l2:(l.filter (k < ·)).length<=l.length:=List.length_filter_le _ _
    have vs:∀{ks:List Nat}{h:Heap}{K:List D->Prop},K (aL ks)->velems 1 (.sl (aL ks)) h K:=fun {ks h K} hk=>⟨Hg,hk⟩
    simp only[hq,↓tk,↓dp]
    refine one ?_
    refine V.DZ fun n11 h12 V1=>?_
    try simp only[↓tk,↓dp,ae,true_and]
    refine V1.D3 (els:=[]) (ys:=aL (l.filter (· < k))) vs Ba (by simp[aL];omega) (by simp[aL];omega) fun m1 h16 V2=>?_
    rw[List.nil_append]at V2
    rw[show([]:List D).length+(aL (l.filter (· < k))).length=(aL (l.filter (· < k))).length from Nat.zero_add _]
    try simp only[↓tk,↓dp,ae,true_and]
    refine V2.D3 (ys:=aL [k]) vs Ba (by simp[aL];omega) (by simp[aL];omega) fun m2 h19 V3=>?_
    rw[show(aL (l.filter (· < k))).length+(aL [k]).length=(aL (l.filter (· < k))++aL [k]).length by simp]
    try simp only[↓tk,↓dp,ae,true_and]
    refine V3.D3 (ys:=aL (l.filter (k < ·))) vs Ba (by simp[aL];omega) (by simp[aL];omega) fun m3 h22 V4=>?_
    rw[show(aL (l.filter (· < k))++aL [k]).length+(aL (l.filter (k < ·))).length=(aL (l.filter (· < k))++aL [k]++aL (l.filter (k < ·))).length by simp only[List.length_append]]
    have e3:aL (l.filter (· < k))++aL [k]++aL (l.filter (k < ·))=aL (pg l k):=by
      unfold pg;rw[if_neg hk];simp[aL]
    rw[e3]at V4 ⊢
    exact nq (esz:=1) (by rw[V4.get 0 _ _ rfl];rfl) ur rfl
  unfold mW
  refine⟨fun m q h=>Vs h []/\∃i:Nat,i<=l.length/\m=l.length-i/\q=[.int .i64 (i:Int)]/\∀(x a:Nat),x<i->l[x]?=some a->a<k,_,⟨Vs.nil,0,by omega,rfl,rfl,fun x a hx=>by omega⟩,?_⟩
  rintro m f h ⟨V,i,hi,hm,hq,hlo⟩
  simp only[List.cons.injEq,and_true]at hq
  rw[lq,hq]
  by_cases hlt:i<l.length
  · have hb:l[i]?=some l[i]:=List.getElem?_eq_getElem hlt
    generalize l[i]=b at hb
    have ida:∀{KH:D->Heap->Prop},aa PP (.iadd (.c (.sl (aL l))) (.c (.int .i64 (i:Int))) 1) h KH=KH (.vp (nD b) 0) h:=fun {KH}=>lf (esz:=1) (d:=nD b) (by omega) (by rw[Int.toNat_natCast];exact uu hb) rfl
    have lv:∀{KH:D->Heap->Prop},aa PP (.ld (.c (.vp (nD b) 0)) 1 false) h KH=KH (nD b) h:=fun {KH}=>yX rfl
    rw[xB (by omega)]
    simp only[↓gS,↓ida,↓lv]
    simp only[nD]
    by_cases hbk:b<k
    · rw[xB (by omega)]
      simp only[↓gS]
      rw[gk (by omega) (by omega)]
      simp only[ae,true_and]
      refine⟨_,by omega,V,i+1,by omega,rfl,by simp,fun x a hx ha=>?_⟩
      rcases Nat.lt_or_ge x i with h1|h1
      · exact hlo x a h1 ha
      · have:x=i:=by omega
        subst this;rw[hb]at ha;cases ha;exact hbk
    · rw[w7 (by omega)]
      simp only[↓gS,ae,true_and]
      exact⟨i,rfl,by omega,hlo,fun a ha=>by rw[hb]at ha;cases ha;omega,V⟩
  · rw[w7 (by omega)]
    simp only[↓gS,ae,true_and]
    exact⟨i,rfl,by omega,hlo,fun a ha=>by have:=(List.getElem?_eq_some_iff.1 ha).1;omega,V⟩
end Go.Am
namespace Go.Am
open Go Go.Proofs
theorem QV.two {h:Heap}{L:List (Nat×Slot)}(V:Vs h L){z:D}{j k:Nat}{KH:D->Heap->Prop}(hK:∀v h',QV h' L v [j,k]->KH v h'):aa PP (.bldS true 1 2 z [(0,.c (nD j)),(1,.c (nD k))]) h KH:=by
  refine⟨fun p hp=>?_,fun hf p hp=>?_,fun n t=>?_⟩
  · simp[Arg.get]at hp
    rcases hp with rfl|rfl
    · exact⟨by show 0<2;omega,rfl,aY.one⟩
    · exact⟨by show 1<2;omega,rfl,aY.one⟩
  · simp[Arg.get]at hp
    rcases hp with rfl|rfl<;>(intro x hx;simp[nD,D.cells]at hx;subst hx;trivial)
  · have:KH (.ms n 0 2) (al h n (.arr 1 [nD j,nD k])):=by
      refine hK _ _ (Or.inr ⟨n,0,[nD j,nD k],rfl,V.push t.free (by simp),by simp,by simp[aL],fun x hx=>by simp at hx;rcases hx with rfl|rfl<;>rfl⟩)
    simpa[Arg.get,setEls,D.fz,D.fzc,D.nm,D.iB,nD,Heap.freezeAll,List.replicate] using this
theorem E6 {N:Nat}{R:Int}{t:Term}(h:BE N R t):aN PP gC [t.e] (· = .sl (aL (aZ t))):=by
  refine bG o4 (ar _ _ _) rfl (xO _ _) ?_
  unfold uX
  refine Vs.nil.box t.kI.one fun n2 h3 V=>?_
  have i0:∀{KH:D->Heap->Prop},aa PP (.iadda (.c (.ptr n2 0 11)) (.c (.int .i64 0)) 2 1) h3 KH=KH (.ptr n2 0 11) h3:=fun {KH}=>V.MR 0 (a:=0) rfl (by omega)
  have i1:∀{KH:D->Heap->Prop},aa PP (.iadda (.c (.ptr n2 0 11)) (.c (.int .i64 1)) 2 1) h3 KH=KH (.ptr n2 0 12) h3:=fun {KH}=>V.MR 0 (a:=1) rfl (by omega)
  have one:∀(a:Nat),aa PP (.bldS true 1 1 (.int .i64 0) [(0,.c (.int .i64 (a:Int)))]) h3 fun a60 h61=>lW (fun r=>r=.sl (aL [a])) a60 h61:=fun a=>by
    exact QV.one (k:=a) V fun v h' q=>q.ret rfl (by simp)
  cases h with
  | jump a ha =>
    simp (disch:=omega) only[↓V.fa 0 rfl,Nat.zero_add,↓V.ig 0 (j:=0) rfl rfl,↓cS,↓gS,↓i0,↓V.ig 0 (j:=11) rfl rfl]
    exact one a
  | barrier a ha =>
    simp (disch:=omega) only[↓V.fa 0 rfl,Nat.zero_add,↓V.ig 0 (j:=0) rfl rfl,↓cS,↓gS,↓i0,↓V.ig 0 (j:=11) rfl rfl]
    exact one a
  | collect s d a b t hs hd ha hb ht =>
    simp (disch:=omega) only[↓V.fa 0 rfl,Nat.zero_add,↓V.ig 0 (j:=0) rfl rfl,↓cS,↓gS,↓i0,↓V.ig 0 (j:=11) rfl rfl]
    exact one t
  | exit =>
    simp (disch:=omega) only[↓V.fa 0 rfl,Nat.zero_add,↓V.ig 0 (j:=0) rfl rfl,↓cS,↓gS]
    refine V.DZ fun n11 h12 V1=>?_
    exact nq (esz:=1) (els:=[]) (by rw[V1.get 0 _ _ rfl];rfl) (by simp) rfl
  | branch o a b ho ha hb =>
    simp (disch:=omega) only[↓V.fa 0 rfl,Nat.zero_add,↓V.ig 0 (j:=0) rfl rfl,↓cS,↓gS,↓i0,↓i1,↓V.ig 0 (j:=11) rfl rfl,↓V.ig 0 (j:=12) rfl rfl]
    by_cases hab:a=b
    · subst hab
      simp (disch:=omega) only[↓cS,↓gS,↓V.fa 0 rfl,Nat.zero_add,↓i0,↓V.ig 0 (j:=11) rfl rfl]
      have e:aZ ⟨2,0,aq,o,aq,(a:Int),(a:Int)⟩=[a]:=by simp[aZ]
      rw[e]
      exact one a
    · simp (disch:=omega) only[↓cS,↓gS,↓V.fa 0 rfl,Nat.zero_add,↓i0,↓i1,↓V.ig 0 (j:=11) rfl rfl,↓V.ig 0 (j:=12) rfl rfl]
      have e:aZ ⟨2,0,aq,o,aq,(a:Int),(b:Int)⟩=[a,b]:=by simp[aZ];omega
      rw[e]
      exact QV.two (j:=a) (k:=b) V fun v h' q=>q.ret rfl (by simp)
theorem Jw {c:Code}{b:Nat}(hc:gh c) (hb:b<c.b.length):aN PP iL [c.e,nD b] (· = .sl (aL (mh c b))):=by
  refine bG wz (ar _ _ _) rfl (wg _ _ _) ?_
  unfold sC
  refine Vs.nil.box c.kI.one fun n3 h4 V=>?_
  have hB:c.b[b]?=some c.b[b]:=List.getElem?_eq_getElem hb
  have hT:=hc.t _ (List.mem_of_getElem? hB)
  generalize c.b[b]=B at hB hT
  have fv1:∀{KH:D->Heap->Prop},aa PP (.fadd (.c (.vp B.e 1)) 0) h4 KH=KH (.vp B.e 1) h4:=fun {KH}=>rfl
  have lvk:∀{KH:D->Heap->Prop},aa PP (.ld (.c (.vp B.e 1)) 1 false) h4 KH=KH (.int .i64 B.t.kind) h4:=fun {KH}=>Hp rfl
  have idb:∀{KH:D->Heap->Prop},aa PP (.iadd (.c (.sl (c.b.map Block.e))) (.c (nD b)) 14) h4 KH=KH (.vp B.e 0) h4:=fun {KH}=>Ga hB
  simp only[↓V.fa 0 rfl,Nat.zero_add,↓V.ig 0 (j:=7) rfl rfl,↓idb,↓Kp,↓fv1,↓lvk,dE]
  rw[y5 hB]
  by_cases hk:B.t.kind=3
  · simp only[hk,decide_true,↓av,if_true]
    refine V.DZ fun n11 h12 V1=>?_
    exact nq (esz:=1) (els:=[]) (by rw[V1.get 0 _ _ rfl];rfl) (by simp) rfl
  · simp only[hk,decide_false,↓au,if_false,↓V.fa 0 rfl,Nat.zero_add,↓V.ig 0 (j:=7) rfl rfl,↓idb,↓Kp,↓JK]
    refine cn (E6 hT) (fun d hd=>by simp at hd;subst hd;exact B.t.kI.pair) ?_
    rintro _ rfl
    rw[ya]
def LV (h:Heap) (L:List (Nat×Slot)) (v:D) (T:List Nat):Prop:=(v=.sl (aL T)/\Vs h L)\/∃m,v=.ms m 0 T.length/\Vs h ((m,.arr 1 (aL T))::L)
section
variable {h:Heap}{L:List (Nat×Slot)}{v:D}{T:List Nat}{K:D->Prop}{KH:D->Heap->Prop}
theorem LV.vs (q:LV h L v T):Vs h L:=by
  rcases q with⟨-,V⟩|⟨m,-,V⟩
  · exact V
  · exact V.pop
theorem LV.q (q:LV h L v T):(v=.sl (aL T))\/QV h L v T:=by
  rcases q with⟨e,V⟩|⟨m,e,V⟩
  · exact Or.inl e
  · exact Or.inr (Or.inr ⟨m,0,aL T,e,V,by simp[aL],List.take_of_length_le (by simp[aL]),fun x hx=>by simp only[aL,List.mem_map]at hx;obtain⟨k,-,rfl⟩:=hx;rfl⟩)
theorem LV.len (q:LV h L v T):bj v h K=K (.int .i64 (T.length:Int)):=by
  rcases q.q with e|q
  · rw[e,lq]
  · exact q.len
theorem LV.get (q:LV h L v T){i k:Nat}(hk:T[i]?=some k) (hK:KH (nD k) h):aa PP (.iadd (.c v) (.c (.int .i64 (i:Int))) 1) h fun a h1=>aa PP (.ld (.c a) 1 false) h1 KH:=by
  rcases q.q with e|q
  · rw[e];exact Il hk hK
  · exact q.get hk hK
theorem LV.DI (q:LV h L v T){i k:Nat}(hk:T[i]?=some k) (hK:K (nD k)):af PP (.iadd (.c v) (.c (.int .i64 (i:Int))) 1) h fun a=>af PP (.ld (.c a) 1 false) h K:=by
  rcases q.q with e|q
  · rw[e]
    exact Il (P:=PP) (h:=h) (KH:=fun d _=>K d) hk hK
  · exact q.DI hk hK
theorem LV.one (V:Vs h L){z:D}{k:Nat}(hK:∀v h',LV h' L v [k]->KH v h'):aa PP (.bldS true 1 1 z [(0,.c (nD k))]) h KH:=by
  refine⟨fun p hp=>by simp[Arg.get]at hp;subst hp;exact⟨Nat.one_pos,rfl,(aY (k:=.i64) (n:=(k:Int))).one⟩,fun hf p hp=>?_,fun n t=>?_⟩
  · simp[Arg.get]at hp;subst hp
    intro x hx
    simp[nD,D.cells]at hx;subst hx;trivial
  · have:KH (.ms n 0 1) (al h n (.arr 1 [nD k])):=hK _ _ (Or.inr ⟨n,rfl,V.push t.free (by simp)⟩)
    simpa[Arg.get,setEls,D.fz,D.fzc,D.nm,D.iB,nD,Heap.freezeAll] using this
theorem LV.ret (q:LV h L v T) (hk:K (.sl (aL T))):lW K v h:=by
  rcases q with⟨e,-⟩|⟨m,e,V⟩
  · rw[e,ya];exact hk
  · have e2:v=.ms m 0 (aL T).length:=by rw[e];simp[aL]
    rw[e2]
    exact nq (esz:=1) (by rw[V.get 0 _ _ rfl];rfl) ur hk
theorem LV.call (q:LV h L v T){f:FuncId}{k:Nat}{r:D}(hv:aN PP f [.sl (aL T),nD k] (· = r)) (hK:∀h',Vs h' L->KH r h') (hF:r.flat=true->LV h L v T->KH r h):ah PP f [v,nD k] h KH:=by
  have q0:=q
  rcases q with⟨e,V⟩|⟨m,e,V⟩
  · rw[e]
    refine cn hv (sp T k) ?_
    rintro _ rfl
    exact hK _ V
  · have e2:v=.ms m 0 (aL T).length:=by rw[e];simp[aL]
    rw[e2]
    have hn:=V.get 0 _ _ rfl
    have hrow:(h m).row=some (1,aL T):=by rw[hn];rfl
    have e0:(D.ms m 0 (aL T).length).fz h=.sl (aL T):=by simp[D.fz,D.fzc,hrow]
    have e1:[D.ms m 0 (aL T).length,nD k].map (D.fz h)=[.sl (aL T),nD k]:=by rw[List.map_cons,e0];rfl
    have e2':[D.ms m 0 (aL T).length,nD k].flatMap D.nm=[m]:=rfl
    refine ah.mono ?_ (eD (K:=(· = r)) (by rw[e1];exact hv) (fun d hdm=>?_))
    · rintro r' h' ⟨hr',k2,k3⟩
      rw[hr']at k2 k3 ⊢
      by_cases hfl:r.flat=true
      · rw[k2 (Or.inl hfl)]
        exact hF hfl q0
      · rw[k3 (by rw[e2'];simp[hfl]),e2']
        have:h.freezeAll [m]=al h m (.frz 1 (aL T)):=by simp[Heap.freezeAll,Heap.freeze,hn]
        rw[this]
        exact hK _ ((V.cg 0 rfl (s':=.frz 1 (aL T)) (by simp)).pop)
    · simp only[List.mem_cons,List.not_mem_nil,or_false]at hdm
      rcases hdm with rfl|rfl
      · refine⟨by simp,?_,by rw[e0];rfl⟩
        intro x hx
        simp only[D.cells,List.mem_singleton]at hx
        subst hx
        exact⟨1,aL T,hrow,by simp,fun x hx y hy=>ur x (by simpa using hx) y hy⟩
      · exact⟨aY.one,(Eg (h:=h) (d:=nD k) rfl).2.2,rfl⟩
end
theorem Dy:∀{a b:List Nat},a.Pairwise (· < ·)->b.Pairwise (· < ·)->(∀k,k∈a↔k∈b)->a=b
  | [],[],_,_,_=>rfl
  | [],y::b,_,_,h=>absurd ((h y).2 (by simp)) (by simp)
  | x::a,[],_,_,h=>absurd ((h x).1 (by simp)) (by simp)
  | x::a,y::b,ha,hb,h=>by
    rw[List.pairwise_cons]at ha hb
    have hxy:x=y:=by
      have h1:=(h x).1 (by simp)
      have h2:=(h y).2 (by simp)
      rcases List.mem_cons.1 h1 with e|h1
      · exact e
      · rcases List.mem_cons.1 h2 with e|h2
        · exact e.symm
        · have:=ha.1 y h2;have:=hb.1 x h1;omega
    subst hxy
    rw[Dy ha.2 hb.2 fun k=>?_]
    constructor
    · intro hk
      rcases List.mem_cons.1 ((h k).1 (List.mem_cons_of_mem _ hk)) with e|h1
      · have:=ha.1 k hk;omega
      · exact h1
    · intro hk
      rcases List.mem_cons.1 ((h k).2 (List.mem_cons_of_mem _ hk)) with e|h1
      · have:=hb.1 k hk;omega
      · exact h1
structure FI (c:Code) (s:Nat) (T:List Nat):Prop where
  inc:T.Pairwise (· < ·)
  st:s∈T
  pa:∀k∈T,Path (mh c) s k
theorem FI.lt {c:Code}{s:Nat}{T:List Nat}(hc:gh c) (hs:s<c.b.length) (f:FI c s T):T.length<=c.b.length/\∀k∈T,k<c.b.length:=by
  have h:∀k∈T,k<c.b.length:=fun k hk=>yg hc hs (f.pa k hk)
  exact⟨km h (f.inc.imp fun hab=>Nat.ne_of_lt hab),h⟩
theorem FI.ins {c:Code}{s:Nat}{T:List Nat}(f:FI c s T){a b:Nat}(ha:a∈T) (hb:b∈mh c a):FI c s (pg T b) :=
  ⟨y3 f.inc,kE.2 (Or.inl f.st),fun k hk=>by rcases kE.1 hk with h|h;exact f.pa k h;subst h;exact .step (f.pa a ha) hb⟩
theorem Je {c:Code}{a:Nat}:(mh c a).length<=2:=by
  unfold mh
  split
  · split
    · simp
    · unfold aZ;split<;>(try split)<;>simp
  · simp
theorem CP {c:Code}{s:Nat}(hc:gh c) (hs:s<c.b.length):aN PP eM [c.e,nD s] (· = .sl (aL (rl c s))):=by
  have hnb:=hc.nb
  refine bG xV (ar _ _ _) rfl (xL _ _ _) ?_
  unfold uT
  refine Vs.nil.box c.kI.one fun n3 h4 V=>?_
  refine LV.one (k:=s) V fun v0 h6 q0=>?_
  refine⟨fun q h=>∃v,q=[v]/\LV h [(n3,.box c.e)] v (rl c s),?_,?_⟩
  · rintro f h ⟨v,hq,q⟩
    simp only[List.cons.injEq,and_true]at hq
    rw[hq]
    exact q.ret rfl
  unfold oJ
  refine⟨fun m q h=>∃(n:Nat) (T:List Nat) (v:D),q=[v,.int .i64 (n:Int)]/\n<=c.b.length/\m=c.b.length-n/\LV h [(n3,.box c.e)] v T/\FI c s T/\((∀k,Path (mh c) s k->k∈T)\/n+1<=T.length),_,
    ⟨0,[s],v0,rfl,by omega,rfl,q0,⟨by simp,by simp,fun k hk=>by simp at hk;subst hk;exact .refl⟩,Or.inr (by simp)⟩,?_⟩
  rintro m f h ⟨n,T0,v,hq,hn,hm,q,fi,hor⟩
  simp only[List.cons.injEq,and_true]at hq
  obtain⟨hq1,hq2⟩:=hq
  have V:=q.vs
  rw[hq1,hq2]
  simp only[↓V.fa 0 rfl,Nat.zero_add,↓V.ig 0 (j:=7) rfl rfl,ku,List.length_map]
  by_cases hlt:n<c.b.length
  case neg =>
    rw[w7 (by omega),au]
    simp only[ae,true_and]
    refine⟨v,rfl,?_⟩
    have hall:∀k,Path (mh c) s k->k∈T0:=hor.resolve_right (by have:=(fi.lt hc hs).1;omega)
    have:T0=rl c s:=Dy fi.inc ly fun k=>by
      rw[rl,bx]
      exact⟨fun hk=>⟨yg hc hs (fi.pa k hk),fi.pa k hk⟩,fun hk=>hall k hk.2⟩
    rwa [this]at q
  rw[xB (by omega),av]
  refine⟨fun q h=>∃(T:List Nat) (v:D),q=[v]/\LV h [(n3,.box c.e)] v T/\FI c s T/\((∀k,Path (mh c) s k->k∈T)\/n+2<=T.length),?_,?_⟩
  · rintro f2 h2 ⟨T,v2,hq2,q2,fi2,hor2⟩
    simp only[List.cons.injEq,and_true]at hq2
    rw[hq2,gk (by omega) (by omega)]
    simp only[ae,true_and]
    exact⟨_,by omega,n+1,T,v2,by simp,by omega,rfl,q2,fi2,hor2⟩
  unfold oK
  refine⟨fun m q h=>∃(i:Nat) (T:List Nat) (v:D),q=[v,.int .i64 (i:Int)]/\i<=T.length/\m=c.b.length-i/\LV h [(n3,.box c.e)] v T/\FI c s T/\(∀k∈T0,k∈T) /\
      ((T=T0/\∀(x a:Nat),x<i->T[x]?=some a->∀b,b∈mh c a->b∈T)\/T0.length<T.length),_,
    ⟨0,T0,v,by rw[hq1];rfl,by omega,rfl,q,fi,fun k hk=>hk,Or.inl ⟨rfl,fun x a hx=>by omega⟩⟩,?_⟩
  clear hq1 hq2 q V hm
  rintro m f2 h2 ⟨i,T1,v1,hq,hi,hm,q,fi1,hsub,hor1⟩
  simp only[List.cons.injEq,and_true]at hq
  obtain⟨hq1,hq2⟩:=hq
  obtain⟨hT1,hT1l⟩:=fi1.lt hc hs
  rw[hq1,hq2,q.len]
  by_cases hlt1:i<T1.length
  case neg =>
    rw[w7 (by omega),au]
    simp only[ae,true_and]
    refine⟨T1,v1,rfl,q,fi1,?_⟩
    rcases hor1 with⟨e,hcl⟩|hgt
    · left
      intro k hk
      refine hk.closed (S:=(· ∈ T1)) fi1.st fun a b ha hb=>?_
      obtain⟨x,hx⟩:=List.getElem?_of_mem ha
      exact hcl x a (by have:=(List.getElem?_eq_some_iff.1 hx).1;omega) hx b hb
    · rcases hor with h|h
      · exact Or.inl fun k hk=>hsub k (h k hk)
      · exact Or.inr (by omega)
  rw[xB (by omega),av]
  obtain⟨a,ha⟩:∃a,T1[i]?=some a:=⟨T1[i],List.getElem?_eq_getElem hlt1⟩
  have haT:=List.mem_of_getElem? ha
  have haN:=hT1l a haT
  refine⟨fun q h=>∃(T:List Nat) (v:D),q=[v]/\LV h [(n3,.box c.e)] v T/\FI c s T/\(∀k∈T1,k∈T)/\((T=T1/\∀b,b∈mh c a->b∈T)\/T1.length<T.length),?_,?_⟩
  · rintro f3 h3 ⟨T,v3,hq3,q3,fi3,hsub3,hor3⟩
    simp only[List.cons.injEq,and_true]at hq3
    have hTl:T1.length<=T.length:=by rcases hor3 with⟨e,-⟩|h;rw[e];exact Nat.le_refl _;omega
    have hTN:=(fi3.lt hc hs).1
    rw[hq3,gk (by omega) (by omega)]
    simp only[ae,true_and]
    refine⟨_,by omega,i+1,T,v3,by simp,by omega,rfl,q3,fi3,fun k hk=>hsub3 k (hsub k hk),?_⟩
    rcases hor3 with⟨e,hcl⟩|hgt
    · rcases hor1 with⟨e1,hcl1⟩|hgt1
      · left
        subst e
        refine⟨e1,fun x a' hx hxa=>?_⟩
        rcases Nat.lt_or_ge x i with h1|h1
        · exact hcl1 x a' h1 hxa
        · have:x=i:=by omega
          subst this;rw[ha]at hxa;cases hxa;exact hcl
      · right;rw[e];exact hgt1
    · right
      have:T0.length<=T1.length:=by rcases hor1 with⟨e,-⟩|h;rw[e];exact Nat.le_refl _;omega
      omega
  have V:=q.vs
  have dc:∀{K:D->Prop},af PP (.ld (.c (.ptr n3 0 0)) 8 true) h2 K=K c.e:=fun {K}=>V.Js 0 (s:=8) rfl rfl
  simp only[↓dc]
  refine q.DI ha ?_
  refine tB (Jw hc haN) (fun d hd=>by simp[Arg.get]at hd;rcases hd with rfl|rfl;exact c.kI.pair;exact aY.pair) ?_
  have hEl:=Je (c:=c) (a:=a)
  unfold oM
  refine⟨fun m q h=>∃(y:Nat) (T:List Nat) (v:D),q=[v,.int .i64 (y:Int)]/\y<=(mh c a).length/\m=(mh c a).length-y/\LV h [(n3,.box c.e)] v T/\FI c s T/\(∀k∈T1,k∈T) /\
      ((T=T1/\∀(x b:Nat),x<y->(mh c a)[x]?=some b->b∈T)\/T1.length<T.length),_,
    ⟨0,T1,v1,by rw[hq1];rfl,by omega,rfl,q,fi1,fun k hk=>hk,Or.inl ⟨rfl,fun x b hx=>by omega⟩⟩,?_⟩
  clear hq1 hq2 q V hm dc
  rintro m f3 h3 ⟨y,T,v3,hq,hy,hm,q,fi3,hsub3,hor3⟩
  simp only[List.cons.injEq,and_true]at hq
  obtain⟨hq1,hq2⟩:=hq
  have hTN:=(fi3.lt hc hs).1
  rw[hq1,hq2,lq]
  by_cases hlt3:y<(mh c a).length
  · rw[xB (by omega),av]
    obtain⟨b,hb⟩:∃b,(mh c a)[y]?=some b:=⟨(mh c a)[y],List.getElem?_eq_getElem hlt3⟩
    refine Il hb ?_
    refine q.call (yl (by omega) fi3.inc) (fun h' V'=>?_) (fun hf=>by cases hf)
    rw[gk (by omega) (by omega)]
    simp only[ae,true_and]
    refine⟨_,by omega,y+1,pg T b,_,by simp,by omega,rfl,Or.inl ⟨rfl,V'⟩,fi3.ins (hsub3 a haT) (List.mem_of_getElem? hb),fun k hk=>kE.2 (Or.inl (hsub3 k hk)),?_⟩
    rcases Co fi3.inc (k:=b) with⟨h1,h2⟩|⟨h1,h2⟩
    · rw[h2]
      rcases hor3 with⟨e,hcl⟩|hgt
      · refine Or.inl ⟨e,fun x b' hx hxb=>?_⟩
        rcases Nat.lt_or_ge x y with h3|h3
        · exact hcl x b' h3 hxb
        · have:x=y:=by omega
          subst this;rw[hb]at hxb;cases hxb;exact h1
      · exact Or.inr hgt
    · right
      have:T1.length<=T.length:=by rcases hor3 with⟨e,-⟩|h;rw[e];exact Nat.le_refl _;omega
      omega
  · rw[w7 (by omega),au]
    simp only[ae,true_and]
    refine⟨T,v3,rfl,q,fi3,hsub3,?_⟩
    rcases hor3 with⟨e,hcl⟩|hgt
    · refine Or.inl ⟨e,fun b hb=>?_⟩
      obtain⟨x,hx⟩:=List.getElem?_of_mem hb
      exact hcl x b (by have:=(List.getElem?_eq_some_iff.1 hx).1;omega) hx
    · exact Or.inr hgt
end Go.Am
namespace Go.Am
open Go Go.Proofs
theorem AV {p p':Nat->Bool}{N:Nat}(h:∀k,p k=true->p' k=true):sU p' N<=sU p N :=
  List.countP_mono_left fun k _ hk=>by cases hp:p k<;>simp_all
theorem GK {S:List Bool}{x:Nat}(hx:hasB S x=true):S.set x true=S:=by
  apply List.ext_getElem?
  intro i
  rw[List.getElem?_set]
  by_cases h:x=i
  · subst h
    unfold hasB at hx
    cases hS:S[x]? with
    | none=>rw[hS]at hx;cases hx
    | some b =>
      rw[hS]at hx
      have:=(List.getElem?_eq_some_iff.1 hS).1
      simp only[Option.getD_some]at hx
      simp[this,hx]
  · rw[if_neg h]
theorem Ht {N k:Nat}(h:hasB ((List.replicate N false).set 0 true) k=true):k=0:=by
  by_cases hk:k=0
  · exact hk
  · exfalso
    unfold hasB at h
    rw[List.getElem?_set,if_neg (fun e=>hk e.symm),List.getElem?_replicate]at h
    split at h<;>simp at h
structure RI (c:Code) (S:List Bool):Prop where
  len:S.length=c.b.length
  z:hasB S 0=true
  pa:∀k,hasB S k=true->Path (edg c) 0 k
theorem Jp {c:Code}{a:Nat}:(edg c a).length<=2:=by
  unfold edg
  split
  · unfold aZ;split<;>(try split)<;>simp
  · simp
theorem HZ {c:Code}(hc:gh c):aN PP iO [c.e] (fun r=>∃S:List Bool,r=.sl (bL S)/\S.length=c.b.length/\∀k,hasB S k=true↔Path (edg c) 0 k):=by
  have hnb:=hc.nb
  refine bG ng (ar _ _ _) rfl (wo _ _) ?_
  unfold sE
  refine Vs.nil.box c.kI.one fun n2 h3 V1=>?_
  simp only[↓V1.fa 0 rfl,Nat.zero_add,↓V1.ig 0 (j:=7) rfl rfl,ku,List.length_map]
  refine V1.Oc (by omega) (by omega) fun n9 h10 V2=>?_
  have e0:List.replicate c.b.length (D.bool false)=bL (List.replicate c.b.length false):=by simp[bL]
  rw[e0]at V2
  rw[V2.ia 0 rfl (by omega) (by omega)]
  refine V2.Mp 0 rfl (by simp[bL];omega) rfl (BB _) fun h14 V3=>?_
  rw[show(0:Int).toNat=0 from rfl,BA]at V3
  replace V3:Vs h14 [(n9,.arr 1 (bL ((List.replicate c.b.length false).set 0 true))),(n2,.box c.e)]:=V3
  refine⟨fun _ h=>∃S:List Bool,RI c S/\(∀k,Path (edg c) 0 k->hasB S k=true)/\Vs h [(n9,.arr 1 (bL S)),(n2,.box c.e)],?_,?_⟩
  · rintro f h ⟨S,ri,hall,V⟩
    have hl:D.ms n9 0 c.b.length=.ms n9 0 (bL S).length:=by simp[bL,ri.len]
    rw[hl]
    refine nq (esz:=1) (by rw[V.get 0 _ _ rfl];rfl) (fun x hx y hy=>?_) ⟨S,rfl,ri.len,fun k=>⟨ri.pa k,hall k⟩⟩
    simp only[bL,List.mem_map]at hx
    obtain⟨b,-,rfl⟩:=hx
    simp[D.cells]at hy;subst hy;rfl
  have r0:RI c ((List.replicate c.b.length false).set 0 true):=⟨by simp,by rw[uK (by simp;omega)];simp,fun k hk=>by rw[Ht hk];exact .refl⟩
  have u0:sU (hasB ((List.replicate c.b.length false).set 0 true)) c.b.length+1<=c.b.length:=by
    have:=qV (p:=fun _=>false) (p':=hasB ((List.replicate c.b.length false).set 0 true)) (N:=c.b.length) (x:=0) (fun k hk=>by cases hk) (by omega) rfl r0.z
    have h2:=AW (fun _=>false) c.b.length
    omega
  unfold mT
  refine⟨fun m q h=>∃(n:Nat) (S:List Bool),q=[.int .i64 (n:Int)]/\n<=c.b.length/\m=c.b.length-n/\RI c S/\Vs h [(n9,.arr 1 (bL S)),(n2,.box c.e)]/\((∀k,Path (edg c) 0 k->hasB S k=true)\/sU (hasB S) c.b.length+n+1<=c.b.length),_,
    ⟨0,_,rfl,by omega,rfl,r0,V3,Or.inr u0⟩,?_⟩
  rintro m f h ⟨n,S0,hq,hn,hm,ri0,V,hor⟩
  simp only[List.cons.injEq,and_true]at hq
  simp only[hq,↓V.fa 1 rfl,Nat.zero_add,↓V.ig 1 (j:=7) rfl rfl,ku,List.length_map]
  by_cases hlt:n<c.b.length
  case neg =>
    rw[w7 (by omega),au]
    simp only[ae,true_and]
    exact⟨S0,ri0,hor.resolve_right (by omega),V⟩
  rw[xB (by omega),av]
  refine⟨fun q h=>∃(S:List Bool),RI c S/\Vs h [(n9,.arr 1 (bL S)),(n2,.box c.e)]/\((∀k,Path (edg c) 0 k->hasB S k=true)\/sU (hasB S) c.b.length+n+2<=c.b.length),?_,?_⟩
  · rintro f2 h2 ⟨S,ri,V',hor2⟩
    rw[gk (by omega) (by omega)]
    simp only[ae,true_and]
    exact⟨_,by omega,n+1,S,by simp,by omega,rfl,ri,V',by rcases hor2 with h|h;exact Or.inl h;exact Or.inr (by omega)⟩
  unfold mU
  refine⟨fun m q h=>∃(b:Nat) (S:List Bool),q=[.int .i64 (b:Int)]/\b<=c.b.length/\m=c.b.length-b/\RI c S/\Vs h [(n9,.arr 1 (bL S)),(n2,.box c.e)]/\(∀k,hasB S0 k=true->hasB S k=true) /\
      ((S=S0/\∀a,a<b->hasB S a=true->∀t,t∈edg c a->hasB S t=true)\/sU (hasB S) c.b.length+1<=sU (hasB S0) c.b.length),_,
    ⟨0,S0,rfl,by omega,rfl,ri0,V,fun k hk=>hk,Or.inl ⟨rfl,fun a ha=>by omega⟩⟩,?_⟩
  clear hq V hm
  rintro m f2 h2 ⟨b,S1,hq,hb,hm,ri1,V,hsub,hor1⟩
  simp only[List.cons.injEq,and_true]at hq
  simp only[hq,↓V.fa 1 rfl,Nat.zero_add,↓V.ig 1 (j:=7) rfl rfl,ku,List.length_map]
  by_cases hlt1:b<c.b.length
  case neg =>
    rw[w7 (by omega),au]
    simp only[ae,true_and]
    refine⟨S1,ri1,V,?_⟩
    rcases hor1 with⟨e,hcl⟩|hgt
    · left
      intro k hk
      refine(hk.closed (S:=fun k=>hasB S1 k=true/\k<c.b.length) ⟨ri1.z,by omega⟩ fun a t ha ht=>⟨hcl a (by have:=ha.2;omega) ha.1 t ht,kH hc ht⟩).1
    · rcases hor with h|h
      · exact Or.inl fun k hk=>hsub k (h k hk)
      · exact Or.inr (by omega)
  rw[xB (by omega),av]
  have hB:c.b[b]?=some c.b[b]:=List.getElem?_eq_getElem hlt1
  have hTm:=hc.t _ (List.mem_of_getElem? hB)
  generalize c.b[b]=B at hB hTm
  refine⟨fun q h=>∃(S:List Bool),RI c S/\Vs h [(n9,.arr 1 (bL S)),(n2,.box c.e)]/\(∀k,hasB S1 k=true->hasB S k=true) /\
      ((S=S1/\(hasB S b=true->∀t,t∈edg c b->hasB S t=true))\/sU (hasB S) c.b.length+1<=sU (hasB S1) c.b.length),?_,?_⟩
  · rintro f3 h3 ⟨S,ri,V',hsub3,hor3⟩
    rw[gk (by omega) (by omega)]
    simp only[ae,true_and]
    refine⟨_,by omega,b+1,S,by simp,by omega,rfl,ri,V',fun k hk=>hsub3 k (hsub k hk),?_⟩
    have hu:=AV (N:=c.b.length) hsub
    have hu3:=AV (N:=c.b.length) hsub3
    rcases hor3 with⟨e,hcl⟩|hgt
    · rcases hor1 with⟨e1,hcl1⟩|hgt1
      · left
        subst e
        refine⟨e1,fun a ha hsa t ht=>?_⟩
        rcases Nat.lt_or_ge a b with h1|h1
        · exact hcl1 a h1 hsa t ht
        · have:a=b:=by omega
          subst this;exact hcl hsa t ht
      · right;omega
    · right;omega
  simp only[↓V.fa 1 rfl,Nat.zero_add,↓V.ig 1 (j:=7) rfl rfl,↓Ga hB,↓Kp,↓JK]
  refine cn (E6 hTm) (fun d hd=>by simp at hd;subst hd;exact B.t.kI.pair) ?_
  rintro _ rfl
  rw[<- HJ hB]
  have hEl:=Jp (c:=c) (a:=b)
  unfold mV
  refine⟨fun m q h=>∃(y:Nat) (S:List Bool),q=[.int .i64 (y:Int)]/\y<=(edg c b).length/\m=(edg c b).length-y/\RI c S/\Vs h [(n9,.arr 1 (bL S)),(n2,.box c.e)]/\(∀k,hasB S1 k=true->hasB S k=true) /\
      ((S=S1/\∀(x t:Nat),x<y->(edg c b)[x]?=some t->hasB S t=true)\/sU (hasB S) c.b.length+1<=sU (hasB S1) c.b.length),_,
    ⟨0,S1,rfl,by omega,rfl,ri1,V,fun k hk=>hk,Or.inl ⟨rfl,fun x t hx=>by omega⟩⟩,?_⟩
  clear V hm
  rintro m f3 h3 ⟨y,S,hq3,hy,hm,ri,V,hsub3,hor3⟩
  simp only[List.cons.injEq,and_true]at hq3
  have hbS:(bL S).length=c.b.length:=by simp[bL,ri.len]
  rw[hq3,lq]
  by_cases hlt3:y<(edg c b).length
  case neg =>
    rw[w7 (by omega)]
    simp only[↓gS,ae,true_and]
    refine⟨S,ri,V,hsub3,?_⟩
    rcases hor3 with⟨e,hcl⟩|hgt
    · refine Or.inl ⟨e,fun _ t ht=>?_⟩
      obtain⟨x,hx⟩:=List.getElem?_of_mem ht
      exact hcl x t (by have:=(List.getElem?_eq_some_iff.1 hx).1;omega) hx
    · exact Or.inr hgt
  rw[xB (by omega)]
  simp only[hq,↓gS,↓V.ia 0 rfl (show(0:Int)<=(b:Int) by omega) (show(b:Int)<(c.b.length:Nat) by omega),Int.toNat_natCast,↓V.NO 0 rfl (BC (uL (S:=S) (k:=b) (by rw[ri.len];exact hlt1))) rfl]
  cases hSb:hasB S b
  · simp only[↓gS,ae,true_and]
    refine⟨S,ri,V,hsub3,?_⟩
    rcases hor3 with⟨e,hcl⟩|hgt
    · exact Or.inl ⟨e,fun h=>by rw[hSb]at h;cases h⟩
    · exact Or.inr hgt
  simp only[↓gS]
  obtain⟨t,ht⟩:∃t,(edg c b)[y]?=some t:=⟨(edg c b)[y],List.getElem?_eq_getElem hlt3⟩
  have htm:=List.mem_of_getElem? ht
  have htN:=kH hc htm
  refine Il ht ?_
  simp only[nD,↓V.ia 0 rfl (show(0:Int)<=(t:Int) by omega) (show(t:Int)<(c.b.length:Nat) by omega),Int.toNat_natCast]
  refine V.Mp 0 rfl (by rw[hbS];exact htN) rfl (BB _) fun h4 V4=>?_
  rw[BA]at V4
  replace V4:Vs h4 [(n9,.arr 1 (bL (S.set t true))),(n2,.box c.e)]:=V4
  rw[gk (by omega) (by omega)]
  simp only[ae,true_and]
  have hset:∀k,hasB (S.set t true) k=(decide (k=t)||hasB S k):=fun k=>uK (by rw[ri.len];exact htN)
  refine⟨_,by omega,y+1,S.set t true,by simp,by omega,rfl,⟨by simp[ri.len],by rw[hset];simp[ri.z],fun k hk=>?_⟩,V4,fun k hk=>by rw[hset];simp[hsub3 k hk],?_⟩
  · rw[hset]at hk
    simp only[Bool.or_eq_true,decide_eq_true_eq]at hk
    rcases hk with rfl|hk
    · exact .step (ri.pa b hSb) htm
    · exact ri.pa k hk
  · cases hSt:hasB S t
    · right
      have h1:=qV (p:=hasB S) (p':=hasB (S.set t true)) (N:=c.b.length) (x:=t) (fun k hk=>by rw[hset];simp[hk]) htN hSt (by rw[hset];simp)
      have h2:=AV (N:=c.b.length) hsub3
      omega
    · rw[GK hSt]
      rcases hor3 with⟨e,hcl⟩|hgt
      · refine Or.inl ⟨e,fun x t' hx hxt=>?_⟩
        rcases Nat.lt_or_ge x y with h1|h1
        · exact hcl x t' h1 hxt
        · have:x=y:=by omega
          subst this;rw[ht]at hxt;cases hxt;exact hSt
      · exact Or.inr hgt
end Go.Am
