/- What the functions of this chapter give, on plain data. No condition. -/
import Derived.Test.YtajcemgdjgddgaaGreatZ1
set_option linter.unnecessarySimpa false
set_option linter.defProp false
set_option linter.unusedSectionVars false
set_option linter.unusedSimpArgs false
set_option linter.unusedVariables false

namespace Go.Am
open Go
variable [br]
variable {P:Program}{KH:D->Heap->Prop}{K:D->Prop}{l:LH}
end Go.Am
namespace Go.Am
open Go
variable [br]
variable {P:Program}
structure MS where
  group:Int
  sub:Int
  regs:Int
  loops:List Loop
  blocks:List Block
def nZ (bs:List Nat):D:=.sl (bs.map fun(b:Nat)=>.int .u8 (b:Int))
def bU (bs:List Nat) (k:Nat) (arrs:D) (s:MS) (vL vB:D):D :=
  .agg [nZ bs,.int .i64 (k:Int),.int .i64 s.group,.int .i64 s.sub,.int .i64 s.regs,.int .i64 0,.int .i64 3,arrs,vL,vB]
def bu (vs:List D) (bs:List Block):List D:=List.zipWith (fun v b=>D.agg (v::b.t.cs)) vs bs
def bh (l:List D):List Nat:=l.flatMap D.kE
structure Rows (h:Heap) (loops:List Loop) (blocks:List Block) (vL vB:D) (vs:List D):Prop where
  oL:Own 3 h vL (loops.map Loop.e)
  oB:Own 14 h vB (bu vs blocks)
  len:vs.length=blocks.length
  oI:∀(k:Nat) (v:D) (b:Block),vs[k]?=some v->blocks[k]?=some b->Own 15 h v (b.i.map aZ.e)
  nd:(bh (vL::vB::vs)).Nodup
structure aI (h:Heap) (n k:Nat) (arrs:D) (s:MS):Prop where
  st:∃(bs:List Nat) (j:Nat) (vL vB:D) (vs:List D),(∀b∈bs,b<=255)/\bs.length<=9223372036854775807/\j<=k/\h n=.box (bU bs j arrs s vL vB)/\Rows h s.loops s.blocks vL vB vs
def aC (n:Nat) (h h':Heap):Prop:=∀m d,m≠n->h m=.box d->h' m=.box d
theorem aC.rfl {n:Nat}{h:Heap}:aC n h h:=fun _ _ _ h=>h
theorem aC.trans {n:Nat}{a b c:Heap}(h:aC n a b) (k:aC n b c):aC n a c:=fun m d hm hd=>k m d hm (h m d hm hd)
theorem aC.self {n:Nat}{h:Heap}{s:Slot}:aC n h (aq h n s):=fun m d hm hd=>by rw[ae _ _ hm];exact hd
theorem aC.new {n m:Nat}{h:Heap}{s:Slot}(hm:h m=.free):aC n h (aq h m s):=fun k d _ hd=>by
  rw[ae _ _ (by rintro rfl;rw[hm]at hd;cases hd)];exact hd
theorem cg {esz:Nat}{h h':Heap}{v:D}{els:List D}(ho:Own esz h v els) (hk:∀k∈v.kE,h' k=h k):Own esz h' v els:=by
  rcases ho with ho|⟨q,rfl,hq⟩
  · exact Or.inl ho
  · exact Or.inr ⟨q,rfl,by rw[hk q (by simp[D.kE])];exact hq⟩
theorem ov {esz:Nat}{h:Heap}{v:D}{els:List D}(ho:Own esz h v els){k:Nat}(hk:k∈v.kE):h k=.arr esz els:=by
  rcases ho with⟨rfl,-⟩|⟨q,rfl,hq⟩
  · simp[D.kE]at hk
  · simp[D.kE]at hk;subst hk;exact hq
theorem Rows.congr {h h':Heap}{loops:List Loop}{blocks:List Block}{vL vB:D}{vs:List D}(r:Rows h loops blocks vL vB vs) (hk:∀k,k∈bh (vL::vB::vs)->h' k=h k):Rows h' loops blocks vL vB vs:=by
  have mem:∀v,v∈vL::vB::vs->∀k∈v.kE,k∈bh (vL::vB::vs):=fun v hv k hkv=>List.mem_flatMap.2 ⟨v,hv,hkv⟩
  refine⟨cg r.oL fun k q=>hk k (mem _ (by simp) k q),cg r.oB fun k q=>hk k (mem _ (by simp) k q),r.len,fun k v b hv hb=>cg (r.oI k v b hv hb) fun j q=>hk j (mem v ?_ j q),r.nd⟩
  have:=List.mem_of_getElem? hv
  simp[this]
theorem Rows.arr {h:Heap}{loops:List Loop}{blocks:List Block}{vL vB:D}{vs:List D}(r:Rows h loops blocks vL vB vs){k:Nat}(hk:k∈bh (vL::vB::vs)):∃e l,h k=.arr e l:=by
  obtain⟨v,hv,hkv⟩:=List.mem_flatMap.1 hk
  rcases List.mem_cons.1 hv with rfl|hv
  · exact⟨_,_,ov r.oL hkv⟩
  rcases List.mem_cons.1 hv with rfl|hv
  · exact⟨_,_,ov r.oB hkv⟩
  obtain⟨i,hi⟩:=List.getElem?_of_mem hv
  obtain⟨b,hb⟩:∃b,blocks[i]?=some b:=by
    have:=(List.getElem?_eq_some_iff.1 hi).1
    exact⟨blocks[i]'(by rw[<- r.len];exact this),List.getElem?_eq_getElem _⟩
  exact⟨_,_,ov (r.oI i v b hi hb) hkv⟩
theorem Rows.box {h:Heap}{loops:List Loop}{blocks:List Block}{vL vB:D}{vs:List D}(r:Rows h loops blocks vL vB vs){n:Nat}{d:D}(hn:h n=.box d) (s:Slot):Rows (aq h n s) loops blocks vL vB vs :=
  r.congr fun k hk=>by
    obtain⟨e,l,hkl⟩:=r.arr hk
    rw[ae _ _ (by rintro rfl;rw[hn]at hkl;cases hkl)]
theorem Rows.free {h:Heap}{loops:List Loop}{blocks:List Block}{vL vB:D}{vs:List D}(r:Rows h loops blocks vL vB vs){n:Nat}(hn:h n=.free) (s:Slot):Rows (aq h n s) loops blocks vL vB vs :=
  r.congr fun k hk=>by
    obtain⟨e,l,hkl⟩:=r.arr hk
    rw[ae _ _ (by rintro rfl;rw[hn]at hkl;cases hkl)]
theorem aI.new {h:Heap}{n k:Nat}{arrs:D}{s:MS}(r:aI h n k arrs s){m:Nat}(hm:h m=.free) (x:Slot):aI (aq h m x) n k arrs s/\m≠n:=by
  obtain⟨bs,j,vL,vB,vs,h1,h2,h3,h4,h5⟩:=r.st
  have hne:n≠m:=by rintro rfl;rw[h4]at hm;cases hm
  exact⟨⟨bs,j,vL,vB,vs,h1,h2,h3,by rw[ae _ _ hne];exact h4,h5.free hm x⟩,hne.symm⟩
theorem aI.eg {h:Heap}{n k:Nat}{arrs:D}{s:MS}(r:aI h n k arrs s){m:Nat}{d:D}(hm:h m=.box d) (hne:m≠n) (x:Slot):aI (aq h m x) n k arrs s:=by
  obtain⟨bs,j,vL,vB,vs,h1,h2,h3,h4,h5⟩:=r.st
  exact⟨bs,j,vL,vB,vs,h1,h2,h3,by rw[ae _ _ hne.symm];exact h4,h5.box hm x⟩
theorem aI.le {h:Heap}{n k k':Nat}{arrs:D}{s:MS}(r:aI h n k arrs s) (hk:k<=k'):aI h n k' arrs s:=by
  obtain⟨bs,j,vL,vB,vs,h1,h2,h3,h4,h5⟩:=r.st
  exact⟨bs,j,vL,vB,vs,h1,h2,by omega,h4,h5⟩
theorem ME {KH:D->Heap->Prop}{h:Heap}{esz bytes:Nat}{z s d:D}{els:List D}(ho:Own esz h s els) (hd:aQ d) (hc:d.cells.length=esz) (hb:(els.length+1)*bytes<=140737488355328) (hl:els.length+1<=9223372036854775807)
    (hk:∀m h',h m=.free->h' m=.arr esz (els++[d])->(∀k,k≠m->k∉s.kE->h' k=h k)->KH (.ms m 0 (els.length+1)) h'):aa P (.app (.c s) (.c (.sl [d])) esz bytes z) h KH:=by
  refine⟨fun e he=>by simp at he;subst he;exact hc,fun y hy=>by simp at hy;subst hy;exact hd,?_⟩
  rcases ho with⟨rfl,rfl⟩|⟨m,rfl,hm⟩
  · exact⟨⟨by simpa using hb,by simp⟩,fun n t=>hk n _ t.free (an _ _ _) fun k hk _=>ae _ _ hk⟩
  · refine⟨els,.of hm,rfl,rfl,⟨by simpa using hb,by simpa using hl⟩,fun n t=>hk n _ t.free (an _ _ _) fun k hkf hne=>?_⟩
    have h2:k≠m:=by rintro rfl;exact hne (by simp[D.kE])
    rw[ae _ _ hkf,ae _ _ h2]
theorem Ju {KH:D->Heap->Prop}{h:Heap}{esz bytes:Nat}{z z' s d:D}{els:List D}(ho:Own esz h s els) (hd:CX d) (hc:d.cells.length=esz) (hb:(els.length+1)*bytes<=140737488355328) (hl:els.length+1<=9223372036854775807)
    (hk:∀m h',h m=.free->h' m=.arr esz (els++[d])->(∀k,k≠m->k∉s.kE->h k≠.free->h' k=h k)->KH (.ms m 0 (els.length+1)) h') :
    aa P (.bldS true esz 1 z [(0,.c d)]) h fun x h1=>aa P (.app (.c s) (.c x) esz bytes z') h1 KH:=by
  refine MD hd.vd hd.one hc fun n5 t=>?_
  have hx:((aq h n5 (.arr esz [d])) n5).row=some (esz,[d]):=by rw[an];rfl
  refine⟨[d],hx,by simp,?_⟩
  simp only[List.drop_zero,List.take_succ_cons,List.take_zero]
  refine⟨fun y hy=>by simp at hy;subst hy;exact hd.one,?_⟩
  have fC:∀n,pI (aq h n5 (.arr esz [d])) n->h n=.free/\n≠n5:=by
    intro n tn
    have:=tn.free
    by_cases he:n=n5
    · subst he;rw[an]at this;cases this
    · rw[ae _ _ he]at this;exact⟨this,he⟩
  rcases ho with⟨rfl,rfl⟩|⟨m,rfl,hm⟩
  · refine⟨⟨by simpa using hb,by simp⟩,fun n tn=>?_⟩
    obtain⟨f1,f2⟩:=fC n tn
    exact hk n _ f1 (an _ _ _) fun k hk _ hkf=>by rw[ae _ _ hk,ae _ _ (t.ne hkf)]
  · have hmn:m≠n5:=t.ne (by rw[hm];simp)
    refine⟨els,.of (by rw[ae _ _ hmn];exact hm),rfl,rfl,⟨by simpa using hb,by simpa using hl⟩,fun n tn=>?_⟩
    obtain⟨f1,f2⟩:=fC n tn
    refine hk n _ f1 (an _ _ _) fun k hkf hne hkk=>?_
    have h2:k≠m:=by rintro rfl;exact hne (by simp[D.kE])
    rw[ae _ _ hkf,ae _ _ h2,ae _ _ (t.ne hkk)]
end Go.Am
namespace Go.Am
open Go
theorem tS {n:Int}:bf PP bO [.int .i64 n] (· = (fM n).e):=by
  refine jW CD (ab _ _ _) rfl (Cx _ _) ?_
  unfold zI
  rw[DA]
  simp[Ha,pE,Lz,h_ldp,G7,G8,IK,gq,fillD,sH]
  exact mG (dO.xT ⟨2,n,0⟩) rfl
theorem sP {v:Int}:bf PP cb [.int .i32 v] (· = (Const v).e):=by
  refine jW yV (ab _ _ _) rfl (yP _ _) ?_
  unfold tV
  rw[DA]
  simp[Ha,pE,Lz,h_ldp,G7,G8,IK,gq,fillD,sH]
  exact mG (dO.xT ⟨1,0,v⟩) rfl
theorem Kh {bs:List Nat}{k:Nat}{d:D}(h:(bs.map fun(b:Nat)=>D.int .u8 (b:Int))[k]?=some d):∃b,b∈bs/\d=.int .u8 b:=by
  simp only[List.getElem?_map,Option.map_eq_some_iff]at h
  obtain⟨b,hb,rfl⟩:=h
  exact⟨b,List.mem_of_getElem? hb,rfl⟩
theorem Et {h:Heap}{n j:Nat}{bs:List Nat}{rest:List D}(hn:h n=.box (.agg (nZ bs::.int .i64 (j:Int)::rest))) (hb:∀b∈bs,b<=255) (hl:bs.length<=9223372036854775807) (hj:j<4611686018427387904){KH:D->Heap->Prop}
    (hK:∀b:Nat,b<=255->KH (.int .i64 (b:Int)) (aq h n (.box (.agg (nZ bs::.int .i64 ((j+1:Nat):Int)::rest))))):ai PP ah [.ptr n 0 0] h KH:=by
  refine ew ql (ab _ _ _) rfl (qh _ _) ?_
  unfold kT
  have w1:IntKind.i64.wrap ((j:Int)+1)=((j+1:Nat):Int):=by rw[wrap64 (by omega) (by omega)];rfl
  simp only[↓yJ,hn,Slot.live,Slot.used,true_and,↓AB,↓eV,iv,Nat.zero_add,List.getElem?_cons_succ,List.getElem?_cons_zero,↓cZ,w1,↓rG]
  refine⟨rfl,by simp,by simp,?_⟩
  have hset:setCells (D.agg (nZ bs::.int .i64 (j:Int)::rest)) 1 (D.int .i64 ((j+1:Nat):Int)).cells=.agg (nZ bs::.int .i64 ((j+1:Nat):Int)::rest):=by simp[setCells]
  rw[hset]
  obtain⟨hA,eA⟩:∃hA,hA=aq h n (.box (.agg (nZ bs::.int .i64 ((j+1:Nat):Int)::rest))):=⟨_,rfl⟩
  rw[<- eA]at hK ⊢
  have a1:hA n=.box (.agg (nZ bs::.int .i64 ((j+1:Nat):Int)::rest)):=by rw[eA,an]
  have e1:(∃v,hA n=.box v)=True:=eq_true ⟨_,a1⟩
  simp only[↓Er,a1,Slot.used,true_and,↓AD,↓AB,a1,↓eV,iv,Nat.zero_add,List.getElem?_cons_succ,List.getElem?_cons_zero,nZ,↓tv,List.length_map,↓Bm]
  by_cases hc:bs.length<j+1
  · have hc':(bs.length:Int)<((j+1:Nat):Int):=by omega
    simp only[hc',decide_true,aR]
    exact hK 0 (by omega)
  · have hc':¬(bs.length:Int)<((j+1:Nat):Int):=by omega
    have w2:IntKind.i64.wrap (((j+1:Nat):Int)-1)=(j:Int):=by rw[wrap64 (by omega) (by omega)];omega
    simp only[hc',decide_false,aO,↓kA,w2,↓oR,↓Ce,List.length_map]
    refine⟨by omega,by omega,fun d hd=>?_⟩
    obtain⟨b,hbm,rfl⟩:=Kh hd
    have hb2:=hb b hbm
    have w3:IntKind.i64.wrap (b:Int)=(b:Int):=wrap64 (by omega) (by omega)
    simp only[DN,List.length_singleton,true_and,↓AD,↓Cd,↓eV,List.getElem?_cons_zero,↓Gi,↓vj,w3]
    exact hK b hb2
theorem cB {h:Heap}{n k:Nat}{arrs:D}{s:MS}(r:aI h n k arrs s) (hk:k<1000000){KH:D->Heap->Prop}(hK:∀(b:Nat) (h':Heap),b<=255->aI h' n (k+1) arrs s->aC n h h'->KH (.int .i64 (b:Int)) h') :
    ai PP ah [.ptr n 0 0] h KH:=by
  obtain⟨bs,j,vL,vB,vs,h1,h2,h3,h4,h5⟩:=r.st
  refine Et h4 h1 h2 (by omega) fun b hb=>hK b _ hb ⟨bs,j+1,vL,vB,vs,h1,h2,by omega,an _ _ _,h5.box h4 _⟩ aC.self
theorem aS (a b:Nat):((a:Int).tmod (b:Int))=((a % b:Nat):Int):=(Int.ofNat_tmod a b).symm
theorem zF {h:Heap}{n k:Nat}{arrs:D}{s:MS}(r:aI h n k arrs s) (hk:k<1000000){KH:D->Heap->Prop}(hK:∀(b:Nat) (h':Heap),b<6->aI h' n (k+1) arrs s->aC n h h'->KH (fM (b:Int)).e h') :
    ai PP aJ [.ptr n 0 0] h KH:=by
  refine ew jg (ab _ _ _) rfl (iZ _ _) ?_
  unfold gy
  rw[iB]
  intro m t
  obtain⟨r1,hne⟩:=r.new t.free (.box (.agg [(.int .i64 0),(.int .i64 0),(.int .i32 0)]))
  refine cB r1 hk fun b h' hb r2 hkeep=>?_
  have hm:=hkeep m _ hne (an _ _ _)
  have e6:((b:Int).tmod 6)=((b % 6:Nat):Int):=aS b 6
  rw[bX]
  refine⟨by omega,?_⟩
  rw[e6]
  refine dI tS ⟨ca,trivial⟩ ?_
  simp only[↓rG,hm]
  refine⟨by first|rfl|trivial,(dO.xT _).one,by first|rfl|trivial,by simp,?_⟩
  have hset:setCells (.agg [(.int .i64 0),(.int .i64 0),(.int .i32 0)]) 0 (fM ((b % 6:Nat):Int)).e.cells=(fM ((b % 6:Nat):Int)).e:=rfl
  rw[hset]
  simp only[↓AB,an,true_and]
  refine⟨by simp[dO.e,dO.cs],?_⟩
  refine hK (b % 6) _ (Nat.mod_lt _ (by omega)) (r2.eg hm hne _) fun q d hq hd=>?_
  have hqm:q≠m:=by rintro rfl;rw[t.free]at hd;cases hd
  rw[ae _ _ hqm]
  exact hkeep q d hq (by rw[ae _ _ hqm];exact hd)
def zH (o:dO):Prop:=(∃b:Nat,b<6/\o=fM b)\/∃v:Int,-20<=v/\v<=65/\o=Const v
theorem tR {h:Heap}{n k:Nat}{arrs:D}{s:MS}(r:aI h n k arrs s) (hk:k<1000000){KH:D->Heap->Prop}(hK:∀(o:dO) (h':Heap),zH o->aI h' n (k+1) arrs s->aC n h h'->KH o.e h') :
    ai PP aG [.ptr n 0 0] h KH:=by
  refine ew jf (ab _ _ _) rfl (iX _ _) ?_
  unfold gx
  rw[iB]
  intro m t
  obtain⟨r1,hne⟩:=r.new t.free (.box (.agg [(.int .i64 0),(.int .i64 0),(.int .i32 0)]))
  refine cB r1 hk fun b h' hb r2 hkeep=>?_
  have hm:=hkeep m _ hne (an _ _ _)
  have fin:∀o:dO,zH o->aa PP (.st (.c (.ptr m 0 0)) (.c o.e) 3) h' fun _ h1=>aa PP (.ld (.c (.ptr m 0 0)) 3 true) h1 fun a _=>KH a h1:=by
    intro o ho
    simp only[↓rG,hm]
    refine⟨by first|rfl|trivial,(dO.xT _).one,by first|rfl|trivial,by simp[dO.e,dO.cs],?_⟩
    have hset:setCells (.agg [(.int .i64 0),(.int .i64 0),(.int .i32 0)]) 0 o.e.cells=o.e:=rfl
    rw[hset]
    simp only[↓AB,an,true_and]
    refine⟨by simp[dO.e,dO.cs],?_⟩
    refine hK o _ ho (r2.eg hm hne _) fun q d hq hd=>?_
    have hqm:q≠m:=by rintro rfl;rw[t.free]at hd;cases hd
    rw[ae _ _ hqm]
    exact hkeep q d hq (by rw[ae _ _ hqm];exact hd)
  have e3:((b:Int).tmod 3)=((b % 3:Nat):Int):=aS b 3
  have d3:IntKind.i64.wrap ((b:Int).tdiv 3)=((b / 3:Nat):Int):=by
    have:((b:Int).tdiv 3)=((b / 3:Nat):Int):=(Int.ofNat_tdiv b 3).symm
    rw[this];exact wrap64 (by omega) (by omega)
  rw[bX]
  refine⟨by omega,?_⟩
  rw[e3,gI]
  by_cases hc:b % 3=0
  · have hc':((b % 3:Nat):Int)=0:=by omega
    simp only[hc',decide_true,aR,↓GN]
    refine⟨by omega,?_⟩
    have w:IntKind.i32.wrap ((b / 3:Nat):Int)=((b / 3:Nat):Int):=by simp only[IntKind.wrap,IntKind.signed,IntKind.bits];simp;omega
    have w2:IntKind.i32.wrap (((b / 3:Nat):Int)-20)=((b / 3:Nat):Int)-20:=by simp only[IntKind.wrap,IntKind.signed,IntKind.bits];simp;omega
    rw[d3,vj,w,kA,w2]
    refine dI sP ⟨ca,trivial⟩ ?_
    exact fin _ (Or.inr ⟨_,by omega,by omega,rfl⟩)
  · have hc':¬((b % 3:Nat):Int)=0:=by omega
    simp only[hc',decide_false,aO,↓GN]
    refine⟨by omega,?_⟩
    rw[d3,bX]
    refine⟨by omega,?_⟩
    have e6:(((b / 3:Nat):Int).tmod 6)=((b / 3 % 6:Nat):Int):=aS (b / 3) 6
    rw[e6]
    refine dI tS ⟨ca,trivial⟩ ?_
    exact fin _ (Or.inl ⟨b / 3 % 6,Nat.mod_lt _ (by omega),rfl⟩)
theorem fG {vs:List D}{bs:List Block}(h:vs.length=bs.length):(bu vs bs).length=bs.length:=by simp[bu,h]
theorem Ic {vs:List D}{bs:List Block}(h:vs.length=bs.length) (v:D) (b:Block):bu (vs++[v]) (bs++[b])=bu vs bs++[.agg (v::b.t.cs)]:=by
  simp[bu,List.zipWith_append h]
theorem yL {vs:List D}{bs:List Block}{k:Nat}{v:D}{b:Block}(h1:vs[k]?=some v) (h2:bs[k]?=some b):(bu vs bs)[k]?=some (.agg (v::b.t.cs)):=by
  simp[bu,List.getElem?_zipWith,h1,h2]
theorem DL {vs:List D}{bs:List Block}(h:vs.length=bs.length){k:Nat}(hk:k<bs.length) (v:D) (b:Block):(bu vs bs).set k (.agg (v::b.t.cs))=bu (vs.set k v) (bs.set k b):=by
  refine List.ext_getElem? fun i=>?_
  simp only[bu,List.getElem?_set,List.length_zipWith,List.getElem?_zipWith,h,Nat.min_self]
  by_cases hi:k=i
  · subst hi;simp[hk]
  · simp[hi]
theorem wc {esz:Nat}{h:Heap}{v:D}{els:List D}(ho:Own esz h v els) (hne:els≠[]):∃n,v=.ms n 0 els.length/\h n=.arr esz els:=by
  rcases ho with⟨-,h2⟩|h
  · exact absurd h2 hne
  · exact h
theorem KD:(D.agg (.nil::ic.cs))=.agg [.nil,.int .i64 0,.int .i64 0,.int .i64 0,.int .i64 0,.int .i32 0,.int .i64 0,.int .i64 0,.int .i32 0,.int .i64 0,.int .i64 0,.int .i32 0,.int .i64 0,.int .i64 0]:=rfl
theorem aT {d:D}{l:List D}:bh (d::l)=d.kE++bh l:=by simp[bh]
theorem ox {l l':List D}:bh (l++l')=bh l++bh l':=by simp[bh]
theorem kf {d:D}{l:List D}(h:d∈l){k:Nat}(hk:k∈d.kE):k∈bh l:=List.mem_flatMap.2 ⟨d,h,hk⟩
theorem K8 {h:Heap}{n k:Nat}{arrs:D}{s:MS}(r:aI h n k arrs s) (hlen:s.blocks.length<1000){KH:D->Heap->Prop}
    (hK:∀h':Heap,aI h' n k arrs { s with blocks:=s.blocks++[⟨[],ic⟩] }->aC n h h'->KH (.tup []) h'):ai PP aP [.ptr n 0 0] h KH:=by
  refine ew pa (ab _ _ _) rfl (o4 _ _) ?_
  unfold jJ
  obtain⟨bs,j,vL,vB,vs,h1,h2,h3,h4,h5⟩:=r.st
  simp only[↓yJ,h4,Slot.live,Slot.used,true_and,↓AB,bU,↓eV,iv,Nat.zero_add,Nat.reduceAdd,List.getElem?_cons_succ,List.getElem?_cons_zero,↓pE]
  refine⟨by intro p hp;simp at hp,?_⟩
  have hel:=fG h5.len
  simp only[List.map_nil,fillD]
  have hd:CX (D.agg (.nil::ic.cs)):=dL (by simp[Term.cs,ic])
  rw[<- KD]
  refine Ju h5.oB hd rfl (by rw[hel];omega) (by rw[hel];omega) fun m h' f1 f2 f3=>?_
  have hnm:n≠m:=by rintro rfl;rw[h4]at f1;cases f1
  have hnB:n∉vB.kE:=fun hm=>by have:=ov h5.oB hm;rw[h4]at this;cases this
  have h4':h' n=h n:=f3 n hnm hnB (by rw[h4];simp)
  simp only[↓yJ,h4',h4,Slot.live,Slot.used,true_and,bU,Nat.zero_add,Nat.reduceAdd,↓rG]
  refine⟨rfl,by simp,by simp,?_⟩
  refine hK _ ⟨bs,j,vL,.ms m 0 ((bu vs s.blocks).length+1),vs++[.nil],h1,h2,h3,?_,?_⟩ fun q d hq hd=>?_
  · rw[an];simp[setCells,bU]
  ·
    have hnew:∀k',k'∈bh (vL::vB::vs)->h k'≠.free:=fun k' hk'=>by obtain⟨e,l,hkl⟩:=h5.arr hk';rw[hkl];simp
    have hmn:m∉bh (vL::vB::vs):=fun hm=>hnew m hm f1
    have hnd:=h5.nd
    rw[aT,aT]at hnd hmn
    simp only[List.mem_append,not_or]at hmn
    have same:∀k',k'∈bh (vL::vs)->(aq h' n (.box (setCells (.agg [nZ bs,.int .i64 (j:Int),.int .i64 s.group,.int .i64 s.sub,.int .i64 s.regs,.int .i64 0,.int .i64 3,arrs,vL,vB]) 9 (D.ms m 0 ((bu vs s.blocks).length+1)).cells))) k'=h k':=by
      intro k' hk'
      rw[aT,List.mem_append]at hk'
      have hkk:k'∈bh (vL::vB::vs):=by rw[aT,aT];simp only[List.mem_append];rcases hk' with h|h<;>simp[h]
      have e1:k'≠n:=by
        rintro rfl
        obtain⟨e,l,hkl⟩:=h5.arr hkk
        rw[h4]at hkl;cases hkl
      have e2:k'≠m:=by
        rintro rfl
        rcases hk' with h|h
        · exact hmn.1 h
        · exact hmn.2.2 h
      have e3:k'∉vB.kE:=by
        intro hB
        rcases hk' with h|h
        · exact(List.nodup_append.1 hnd).2.2 k' h k' (by simp[hB]) rfl
        · exact(List.nodup_append.1 (List.nodup_append.1 hnd).2.1).2.2 k' hB k' h rfl
      rw[ae _ _ e1]
      exact f3 k' e2 e3 (hnew k' hkk)
    have oB':Own 14 h' (.ms m 0 ((bu vs s.blocks).length+1)) (bu (vs++[.nil]) (s.blocks++[⟨[],ic⟩])):=by
      rw[Ic h5.len]
      exact Or.inr ⟨m,by simp,f2⟩
    refine⟨cg h5.oL fun k' q=>same k' (kf (by simp) q),cg oB' fun k' q=>?_,by simp[h5.len],fun i v b hv hb=>?_,?_⟩
    · simp only[D.kE,List.mem_singleton]at q
      subst q
      exact ae _ _ hnm.symm
    · rcases Nat.lt_or_ge i vs.length with hi|hi
      · rw[List.getElem?_append_left hi]at hv
        rw[List.getElem?_append_left (by rw[<- h5.len];exact hi)]at hb
        refine cg (h5.oI i v b hv hb) fun k' q=>same k' (kf ?_ q)
        have:=List.mem_of_getElem? hv
        simp[this]
      · rw[List.getElem?_append_right hi]at hv
        rw[List.getElem?_append_right (by rw[<- h5.len];exact hi)]at hb
        have hz:i-vs.length=0:=by
          have:=(List.getElem?_eq_some_iff.1 hv).1
          simp at this;omega
        rw[<- h5.len,hz]at hb
        rw[hz]at hv
        simp at hv hb
        subst hv hb
        exact Or.inl ⟨rfl,rfl⟩
    · rw[aT,aT,ox]
      simp only[D.kE,bh,List.flatMap_cons,List.flatMap_nil,List.append_nil,List.singleton_append]
      have hndL:=(List.nodup_append.1 hnd).1
      have hndR:=(List.nodup_append.1 (List.nodup_append.1 hnd).2.1).2.1
      have hnLR:∀a∈vL.kE,∀b,b∈bh vs->a≠b:=fun a ha b hb=>(List.nodup_append.1 hnd).2.2 a ha b (by simp[hb])
      refine List.nodup_append.2 ⟨hndL,List.nodup_cons.2 ⟨hmn.2.2,hndR⟩,fun a ha b hb=>?_⟩
      rcases List.mem_cons.1 hb with rfl|hb
      · rintro rfl;exact hmn.1 ha
      · exact hnLR a ha b hb
  · rw[ae _ _ hq]
    have e2:q≠m:=by rintro rfl;rw[hd]at f1;cases f1
    have e3:q∉vB.kE:=fun hm=>by have:=ov h5.oB hm;rw[hd]at this;cases this
    rw[f3 q e2 e3 (by rw[hd];simp)];exact hd
def Db (bs:List Block) (i:Nat) (t:Term):List Block:=bs.modify i fun b=>{ b with t:=t }
def AE (bs:List Block) (i:Nat) (x:aZ):List Block:=bs.modify i fun b=>{ b with i:=b.i++[x] }
theorem oE {α:Type}{l:List α}{i:Nat}{a:α}{f:α->α}(h:l[i]?=some a):l.modify i f=l.set i (f a):=by
  refine List.ext_getElem? fun k=>?_
  rw[List.getElem?_modify,List.getElem?_set]
  by_cases e:i=k
  · subst e
    have:=(List.getElem?_eq_some_iff.1 h).1
    have e2:=(List.getElem?_eq_some_iff.1 h).2
    simp[this,e2]
  · simp[e]
theorem BK {bs:List Block}{i:Nat}{t:Term}:(Db bs i t).length=bs.length:=by simp[Db]
theorem FK {bs:List Block}{i:Nat}{t:aZ}:(AE bs i t).length=bs.length:=by simp[AE]
theorem aI.some {h:Heap}{n k:Nat}{arrs:D}{s:MS}(r:aI h n k arrs s) (hne:s.blocks≠[]):∃(bs:List Nat) (j:Nat) (vL:D) (nb:Nat) (vs:List D),(∀b∈bs,b<=255)/\bs.length<=9223372036854775807/\j<=k /\
    h n=.box (bU bs j arrs s vL (.ms nb 0 s.blocks.length))/\h nb=.arr 14 (bu vs s.blocks)/\Rows h s.loops s.blocks vL (.ms nb 0 s.blocks.length) vs:=by
  obtain⟨bs,j,vL,vB,vs,h1,h2,h3,h4,h5⟩:=r.st
  have hel:=fG h5.len
  obtain⟨nb,e1,e2⟩:=wc h5.oB (by
    intro he
    have:=congrArg List.length he
    rw[hel]at this
    exact hne (List.length_eq_zero_iff.1 this))
  rw[hel]at e1
  subst e1
  exact⟨bs,j,vL,nb,vs,h1,h2,h3,h4,e2,h5⟩
theorem Rows.Ng {h:Heap}{loops:List Loop}{blocks blocks':List Block}{vL:D}{nb:Nat}{vs vs':List D}(r:Rows h loops blocks vL (.ms nb 0 blocks.length) vs) (hl:blocks'.length=blocks.length) (hv:vs'.length=blocks'.length){h':Heap}
    (hkeep:∀k,k∈bh (vL::vs)->k∈bh (vL::vs')->h' k=h k) (hnb:h' nb=.arr 14 (bu vs' blocks')) (hL:∀k∈vL.kE,h' k=h k)
    (hI:∀(k:Nat) (v:D) (b:Block),vs'[k]?=some v->blocks'[k]?=some b->Own 15 h' v (b.i.map aZ.e)) (hnd:(bh (vL::D.ms nb 0 blocks.length::vs')).Nodup):Rows h' loops blocks' vL (.ms nb 0 blocks'.length) vs':=by
  refine⟨cg r.oL hL,Or.inr ⟨nb,by rw[fG hv],hnb⟩,hv,hI,?_⟩
  rw[hl];exact hnd
theorem Rows.fresh {h:Heap}{loops:List Loop}{blocks:List Block}{vL vB:D}{vs:List D}(r:Rows h loops blocks vL vB vs){m:Nat}(hm:h m=.free):m∉bh (vL::vB::vs):=fun hk=>by
  obtain⟨e,l,hkl⟩:=r.arr hk
  rw[hm]at hkl;cases hkl
theorem wg {vL:D}{nb l:Nat}{vs:List D}(h:(bh (vL::D.ms nb 0 l::vs)).Nodup):nb∉bh (vL::vs)/\(bh (vL::vs)).Nodup:=by
  rw[aT,aT]at h
  rw[aT]
  simp only[D.kE]at h
  have h1:=List.nodup_append.1 h
  have h2:=List.nodup_cons.1 (show(nb::bh vs).Nodup from h1.2.1)
  refine⟨fun hm=>?_,List.nodup_append.2 ⟨h1.1,h2.2,fun a ha b hb=>h1.2.2 a ha b (by simp[hb])⟩⟩
  rcases List.mem_append.1 hm with hm|hm
  · exact h1.2.2 nb hm nb (by simp) rfl
  · exact h2.1 hm
theorem KI {h:Heap}{n k i:Nat}{arrs:D}{s:MS}{t:Term}{bs:List Nat}{j nb:Nat}{vL:D}{vs:List D}(h1:∀b∈bs,b<=255) (h2:bs.length<=9223372036854775807) (h3:j<=k) (h4:h n=.box (bU bs j arrs s vL (.ms nb 0 s.blocks.length)))
    (h5:h nb=.arr 14 (bu vs s.blocks)) (h6:Rows h s.loops s.blocks vL (.ms nb 0 s.blocks.length) vs) (hi:i<s.blocks.length) {KH:D->Heap->Prop}
    (hK:∀h',aI h' n k arrs { s with blocks:=Db s.blocks i t }->aC n h h'->KH .undef h'):aa PP (.st (.c (.ptr nb i 1)) (.c t.e) 13) h KH:=by
  have hel:=fG h6.len
  obtain⟨v,hv⟩:∃v,vs[i]?=some v:=⟨vs[i]'(by rw[h6.len];exact hi),List.getElem?_eq_getElem _⟩
  obtain⟨b,hb⟩:∃b,s.blocks[i]?=some b:=⟨s.blocks[i],List.getElem?_eq_getElem _⟩
  have hget:=yL hv hb
  rw[rG]
  simp only[h5,hget,Option.some.injEq,forall_eq']
  refine⟨rfl,(Term.xT t).one,by rw[hel];exact hi,by simp[Term.e,Term.cs],?_⟩
  have hset:setCells (.agg (v::b.t.cs)) 1 t.e.cells=.agg (v::t.cs):=by simp[setCells,Term.e,Term.cs]
  rw[hset]
  have hmod:Db s.blocks i t=s.blocks.set i { b with t:=t }:=by
    rw[Db];exact oE hb
  have e1:(bu vs s.blocks).set i (.agg (v::t.cs))=bu vs (Db s.blocks i t):=by
    have:=DL h6.len hi v { b with t:=t }
    rw[show vs.set i v=vs from ?_]at this
    · rw[hmod];exact this
    · refine List.ext_getElem? fun q=>?_
      rw[List.getElem?_set]
      split
      · rename_i hq;subst hq;rw[if_pos (by rw[h6.len];exact hi),hv]
      · rfl
  rw[e1]
  have nnb:n≠nb:=by rintro rfl;rw[h4]at h5;cases h5
  obtain⟨hs1,hs2⟩:=wg h6.nd
  refine hK _ ⟨bs,j,vL,.ms nb 0 (Db s.blocks i t).length,vs,h1,h2,h3,?_,?_⟩ fun q d hq hd=>?_
  · rw[ae _ _ nnb,h4,BK];rfl
  · refine Rows.Ng h6 (by rw[BK]) (by rw[BK];exact h6.len) (fun q hq _=>?_) (an _ _ _) (fun q hq=>?_) (fun q v' b' hv' hb'=>?_) h6.nd
    · rw[ae _ _ (by rintro rfl;exact hs1 hq)]
    · rw[ae _ _ (by rintro rfl;exact hs1 (by rw[aT];simp[hq]))]
    · obtain⟨b2,hb2,hbi⟩:∃b2,s.blocks[q]?=some b2/\b'.i=b2.i:=by
        simp only[Db,List.getElem?_modify]at hb'
        cases hq:s.blocks[q]? with
        | none=>rw[hq]at hb';simp at hb'
        | some b2 =>
          rw[hq]at hb'
          simp at hb'
          refine⟨b2,rfl,?_⟩
          rw[<- hb'];split<;>rfl
      rw[hbi]
      refine cg (h6.oI q v' b2 hv' hb2) fun q' hq'=>?_
      rw[ae _ _ (by rintro rfl;exact hs1 (by rw[aT];simp[kf (List.mem_of_getElem? hv') hq']))]
  · rw[ae _ _ (by rintro rfl;rw[hd]at h5;cases h5)];exact hd
set_option maxHeartbeats 1000000 in
theorem NW {h:Heap}{n k:Nat}{arrs:D}{s:MS}{x:aZ}{L:Nat}(r:aI h n k arrs s) (hL:s.blocks.length=L+1) (hlen:L<1000) (hil:∀b∈s.blocks,b.i.length<1000){KH:D->Heap->Prop}
    (hK:∀h':Heap,aI h' n k arrs { s with blocks:=AE s.blocks L x }->aC n h h'->KH (.tup []) h'):ai PP aB [.ptr n 0 0,x.e] h KH:=by
  refine ew rW (ab _ _ _) rfl (rS _ _ _) ?_
  unfold lQ
  rw[He]
  refine⟨(aZ.xT x).one,fun m t=>?_⟩
  obtain⟨r1,hmn⟩:=r.new t.free (.box x.e)
  obtain⟨hA,eA⟩:∃hA,hA=aq h m (.box x.e):=⟨_,rfl⟩
  rw[<- eA]at r1 ⊢
  have am:hA m=.box x.e:=by rw[eA,an]
  have keepA:aC n h hA:=by rw[eA];exact aC.new t.free
  obtain⟨bs,j,vL,nb,vs,h1,h2,h3,h4,h5,h6⟩:=r1.some (by intro he;rw[he]at hL;simp at hL)
  have hel:=fG h6.len
  have hLs:s.blocks.length=L+1:=hL
  obtain⟨v,hv⟩:∃v,vs[L]?=some v:=⟨vs[L]'(by rw[h6.len,hLs];omega),List.getElem?_eq_getElem _⟩
  obtain⟨b,hb⟩:∃b,s.blocks[L]?=some b:=⟨s.blocks[L]'(by rw[hLs];omega),List.getElem?_eq_getElem _⟩
  have hget:=yL hv hb
  have w1:IntKind.i64.wrap (((L+1:Nat):Int)-1)=(L:Int):=by rw[wrap64 (by omega) (by omega)];omega
  have c1:(0:Int)<=(L:Int):=by omega
  have c2:(L:Int)<((L+1:Nat):Int):=by omega
  have hbl:=hil b (List.mem_of_getElem? hb)
  have oV:=h6.oI L v b hv hb
  have hrow:(∃els,(Slot.arr 14 (bu vs s.blocks)).row=some (14,els))=True:=eq_true ⟨_,rfl⟩
  have hLe:(L<(bu vs s.blocks).length)=True:=eq_true (by rw[hel,hLs];omega)
  simp only[↓yJ,h4,Slot.used,true_and,↓AB,bU,↓eV,iv,Nat.zero_add,Nat.reduceAdd,List.getElem?_cons_succ,List.getElem?_cons_zero,↓vO,h5,Slot.live,hLs,↓kA,w1,↓Er,↓AD,↓oR,↓wV,c1,c2,hrow,Int.toNat_natCast,hLe,hget,Option.some.injEq,forall_eq',am,↓sH]
  refine⟨Nat.le_refl _,?_⟩
  have hbld:∀{Q:D->Prop}{h:Heap}{z:D},(∀y∈z.cells,y.vone=true)->Q (.sl [x.e])->ag PP (.bldS false 15 1 z [(0,.c (.agg (List.take 15 (List.drop 0 x.e.cells))))]) h Q:=by
    intro Q h z hz hq
    have e1:D.agg (List.take 15 (List.drop 0 x.e.cells))=x.e:=rfl
    rw[e1]
    refine⟨?_,?_,hz,hq⟩
    · intro p hp;simp[Arg.get]at hp;subst hp;exact⟨Nat.one_pos,rfl,(aZ.xT x).one⟩
    · intro p hp;simp[Arg.get]at hp;subst hp;intro y hy;simp[aZ.e,aZ.cs]at hy;rcases hy with rfl|rfl|rfl|rfl|rfl|rfl|rfl|rfl|rfl|rfl|rfl|rfl|rfl|rfl|rfl<;>rfl
  refine hbld (by simp) ?_
  refine ME oV (aZ.xT x).one rfl (by simp;omega) (by simp;omega) fun m2 hB f1 f2 f3=>?_
  have vB:nb∉v.kE:=fun hm=>by
    have:=(wg h6.nd).1
    exact this (by rw[aT];exact List.mem_append_right _ (kf (List.mem_of_getElem? hv) hm))
  have vN:n∉v.kE:=fun hm=>by have:=ov oV hm;rw[h4]at this;cases this
  have n2:n≠m2:=by rintro rfl;rw[h4]at f1;cases f1
  have b2:nb≠m2:=by rintro rfl;rw[h5]at f1;cases f1
  have nnb:n≠nb:=by rintro rfl;rw[h4]at h5;cases h5
  have g4:hB n=Slot.box (bU bs j arrs s vL (D.ms nb 0 s.blocks.length)):=by rw[f3 n n2 vN];exact h4
  have g5:hB nb=Slot.arr 14 (bu vs s.blocks):=by rw[f3 nb b2 vB];exact h5
  simp only[g4,g5,bU,iv,List.getElem?_cons_succ,List.getElem?_cons_zero,hLs,aA,hrow,true_and,↓rG]
  have hset:setCells (.agg (v::b.t.cs)) 0 (D.ms m2 0 ((List.map aZ.e b.i).length+1)).cells=.agg (D.ms m2 0 ((List.map aZ.e b.i).length+1)::b.t.cs):=by simp[setCells]
  refine⟨rfl,by simp,by rw[hel,hLs];omega,by simp,fun d hd=>?_⟩
  rw[hget]at hd
  cases hd
  rw[hset]
  have els2:(bu vs s.blocks).set L (.agg (D.ms m2 0 ((List.map aZ.e b.i).length+1)::b.t.cs))=bu (vs.set L (.ms m2 0 (b.i.length+1))) (AE s.blocks L x):=by
    have:=DL h6.len (k:=L) (by rw[hLs];omega) (.ms m2 0 (b.i.length+1)) { b with i:=b.i++[x] }
    rw[List.length_map,AE,oE hb]
    exact this
  rw[els2]
  obtain⟨hC,eC⟩:∃hC,hC=aq hB nb (.arr 14 (bu (vs.set L (.ms m2 0 (b.i.length+1))) (AE s.blocks L x))):=⟨_,rfl⟩
  rw[<- eC]
  have k4:hC n=Slot.box (bU bs j arrs s vL (D.ms nb 0 s.blocks.length)):=by rw[eC,ae _ _ nnb];exact g4
  have k5:hC nb=.arr 14 (bu (vs.set L (.ms m2 0 (b.i.length+1))) (AE s.blocks L x)):=by rw[eC,an]
  have k6:∀q,q≠m2->q∉v.kE->q≠nb->hC q=hA q:=fun q q1 q2 q3=>by rw[eC,ae _ _ q3];exact f3 q q1 q2
  have k7:hC m2=.arr 15 (b.i.map aZ.e++[x.e]):=by rw[eC,ae _ _ b2.symm];exact f2
  simp only[k4,k5,bU,iv,List.getElem?_cons_succ,List.getElem?_cons_zero,hLs,aA,true_and]
  refine⟨by simp[Slot.row],?_⟩
  have fr:m2∉bh (vL::D.ms nb 0 s.blocks.length::vs):=h6.fresh f1
  have hvs:(vs.set L (D.ms m2 0 (b.i.length+1))).length=(AE s.blocks L x).length:=by rw[List.length_set,h6.len,FK]
  obtain⟨hs1,hs2⟩:=wg h6.nd
  have hLv:L<vs.length:=(List.getElem?_eq_some_iff.1 hv).1
  have split:∃p q,vs=p++v::q/\p.length=L:=by
    refine⟨vs.take L,vs.drop (L+1),?_,by simp;omega⟩
    have:=List.getElem?_eq_some_iff.1 hv
    rw[<- this.2]
    exact(List.take_append_drop L vs).symm.trans (by rw[List.drop_eq_getElem_cons hLv])
  obtain⟨p,q,epq,epl⟩:=split
  have eset:vs.set L (D.ms m2 0 (b.i.length+1))=p++D.ms m2 0 (b.i.length+1)::q:=by
    rw[epq, <- epl];simp
  have nd0:(bh (vL::vs)).Nodup:=hs2
  rw[epq,aT,ox,aT]at nd0
  have ndL:=List.nodup_append.1 nd0
  have ndP:=List.nodup_append.1 ndL.2.1
  have ndQ:=List.nodup_append.1 ndP.2.1
  have memV:∀k',k'∈v.kE->∀k2,(k2∈vL.kE\/k2∈bh p\/k2∈bh q)->k2≠k':=by
    intro k' hk' k2 hk2
    rcases hk2 with h|h|h
    · exact ndL.2.2 k2 h k' (by simp[hk'])
    · exact ndP.2.2 k2 h k' (by simp[hk'])
    · exact fun e=>ndQ.2.2 k' hk' k2 h e.symm
  have frP:∀k2,(k2∈vL.kE\/k2∈bh p\/k2∈bh q)->k2≠m2/\k2∉v.kE/\k2≠nb:=by
    intro k2 hk2
    have hin:k2∈bh (vL::vs):=by
      rw[epq,aT,ox,aT]
      simp only[List.mem_append]
      rcases hk2 with h|h|h<;>simp[h]
    refine⟨?_,fun hm=>memV k2 hm k2 hk2 rfl,fun e=>hs1 (e ▸ hin)⟩
    rintro rfl
    refine fr ?_
    rw[aT]at hin
    rw[aT,aT]
    simp only[List.mem_append]at hin ⊢
    rcases hin with h|h<;>simp[h]
  refine hK _ ⟨bs,j,vL,.ms nb 0 (AE s.blocks L x).length,vs.set L (.ms m2 0 (b.i.length+1)),h1,h2,h3,by rw[FK];exact k4,?_⟩ fun q' d hq hd=>?_
  · refine⟨cg h6.oL fun k' hk'=>?_,Or.inr ⟨nb,by rw[fG hvs],k5⟩,hvs,fun k' v' b' hv' hb'=>?_,?_⟩
    · obtain⟨q1,q2,q3⟩:=frP k' (Or.inl hk')
      exact k6 k' q1 q2 q3
    · rw[AE,oE hb]at hb'
      rw[List.getElem?_set]at hv' hb'
      by_cases e:L=k'
      · subst e
        rw[if_pos rfl,if_pos hLv]at hv'
        rw[if_pos rfl,if_pos (by rw[hLs];omega)]at hb'
        cases hv';cases hb'
        exact Or.inr ⟨m2,by simp,by rw[k7];simp⟩
      · rw[if_neg e]at hv' hb'
        refine cg (h6.oI k' v' b' hv' hb') fun k2 hk2=>?_
        have hpq:k2∈bh p\/k2∈bh q:=by
          rw[epq]at hv'
          rcases Nat.lt_or_ge k' L with h|h
          · rw[List.getElem?_append_left (by omega)]at hv'
            exact Or.inl (kf (List.mem_of_getElem? hv') hk2)
          · rw[List.getElem?_append_right (by omega)]at hv'
            obtain⟨w,hw⟩:∃w,k'-p.length=w+1:=⟨k'-p.length-1,by omega⟩
            rw[hw,List.getElem?_cons_succ]at hv'
            exact Or.inr (kf (List.mem_of_getElem? hv') hk2)
        obtain⟨q1,q2,q3⟩:=frP k2 (Or.inr hpq)
        exact k6 k2 q1 q2 q3
    · rw[eset,aT,aT,ox,aT]
      show(vL.kE++(nb::(bh p++(m2::bh q)))).Nodup
      have nbp:∀k2,(k2∈vL.kE\/k2∈bh p\/k2∈bh q)->k2≠nb:=fun k2 h=>(frP k2 h).2.2
      have m2p:∀k2,(k2∈vL.kE\/k2∈bh p\/k2∈bh q)->k2≠m2:=fun k2 h=>(frP k2 h).1
      refine List.nodup_append.2 ⟨ndL.1,?_,?_⟩
      · refine List.nodup_cons.2 ⟨?_,List.nodup_append.2 ⟨ndP.1,List.nodup_cons.2 ⟨fun h=>m2p m2 (Or.inr (Or.inr h)) rfl,ndQ.2.1⟩,?_⟩⟩
        · simp only[List.mem_append,List.mem_cons,List.not_mem_nil,or_false,List.singleton_append]
          rintro (h|h|h)
          · exact nbp nb (Or.inr (Or.inl h)) rfl
          · exact b2 h
          · exact nbp nb (Or.inr (Or.inr h)) rfl
        · intro a ha c hc
          rcases List.mem_cons.1 hc with rfl|hc
          · exact m2p a (Or.inr (Or.inl ha))
          · exact ndP.2.2 a ha c (by simp[hc])
      · intro a ha c hc
        rcases List.mem_cons.1 hc with rfl|hc
        · exact nbp a (Or.inl ha)
        rcases List.mem_append.1 hc with hc|hc
        · exact ndL.2.2 a ha c (by simp[hc])
        rcases List.mem_cons.1 hc with rfl|hc
        · exact m2p a (Or.inl ha)
        · exact ndL.2.2 a ha c (by simp[hc])
  · have e0:=keepA q' d hq hd
    have q1:q'≠m2:=by rintro rfl;rw[e0]at f1;cases f1
    have q2:q'∉v.kE:=fun hm=>by have:=ov oV hm;rw[e0]at this;cases this
    have q3:q'≠nb:=by rintro rfl;rw[e0]at h5;cases h5
    rw[k6 q' q1 q2 q3];exact e0
end Go.Am
namespace Go.Am
open Go
theorem dO.len (o:dO):o.e.cells.length=3:=rfl
theorem dO.Ku (o:dO):o.e.cells.all D.one=true:=rfl
theorem Term.len (o:Term):o.e.cells.length=13:=rfl
def jr (s:MS) (pre:List Block) (is:List aZ) (t:Term):MS:={ s with blocks:=pre++[⟨is,t⟩] }
structure IA (pre:List Block) (is:List aZ) (N:Nat):Prop where
  p:pre.length<=50
  b:∀b∈pre,b.i.length<=100
  i:is.length<=N
theorem IA.le {pre:List Block}{is is':List aZ}{N M:Nat}(b:IA pre is N) (h:is'.length<=M):IA pre is' M:=⟨b.p,b.b,h⟩
theorem zx {α:Type}(l:List α) (a:α) (f:α->α):(l++[a]).modify l.length f=l++[f a]:=by
  rw[oE (a:=a) (by simp)]
  simp
theorem JP {h:Heap}{n k:Nat}{arrs:D}{s:MS}{pre:List Block}{is:List aZ}{t:Term}{x:aZ}(r:aI h n k arrs (jr s pre is t)) (hb:IA pre is 900){KH:D->Heap->Prop}
    (hK:∀h':Heap,aI h' n k arrs (jr s pre (is++[x]) t)->aC n h h'->KH (.tup []) h'):ai PP aB [.ptr n 0 0,x.e] h KH:=by
  refine NW (L:=pre.length) r (by simp[jr]) (by have:=hb.p;omega) (fun b hbm=>?_) fun h' r' hk=>hK h' ?_ hk
  · simp only[jr,List.mem_append,List.mem_singleton]at hbm
    rcases hbm with hbm|rfl
    · have:=hb.b b hbm;omega
    · have:=hb.i;simp only;omega
  · have:AE (jr s pre is t).blocks pre.length x=pre++[⟨is++[x],t⟩]:=by simp only[jr,AE];rw[zx]
    rw[this]at r'
    exact r'
def tT:List EC:=[⟨⟨#[97]⟩,1,1,8⟩,⟨⟨#[102]⟩,1,2,4⟩,⟨⟨#[115]⟩,2,1,8⟩,⟨⟨#[112]⟩,3,1,4⟩,⟨⟨#[98]⟩,2,3,4⟩]
def aW:D:=.sl (tT.map EC.e)
def Cu (n:Int):Int:=if n=0\/n=2 then 8 else 4
def zy (d:dO) (a:dO) (n:Int):aZ:=⟨3,17,0,d,a,Const (Cu n-1),ar⟩
theorem aI.box {h:Heap}{n k:Nat}{arrs:D}{s:MS}(r:aI h n k arrs s):∃(bs:List Nat) (j:Nat) (vL vB:D),h n=.box (bU bs j arrs s vL vB):=by
  obtain⟨bs,j,vL,vB,vs,-,-,-,h1,-⟩:=r.st
  exact⟨_,_,_,_,h1⟩
section
variable {P:Program}{KH:D->Heap->Prop}{K:D->Prop}{h:Heap}
theorem OP {m:Nat}{o:dO}(a:h m=.box o.e):aa P (.ld (.c (.ptr m 0 0)) 3 true) h KH=KH o.e h:=E3 a
theorem Dg {m:Nat}{o:dO}(a:h m=.box o.e):ag P (.ld (.c (.ptr m 0 0)) 3 true) h K=K o.e:=by rw[AD,OP a]
theorem N0 {m:Nat}{o o':dO}(a:h m=.box o.e):aa P (.st (.c (.ptr m 0 0)) (.c o'.e) 3) h KH=KH .undef (aq h m (.box o'.e)):=by
  unfold dO.e dO.cs at *
  exact Og a
theorem ED {n i j o:Nat}(a:(h n).used=true):ag P (.fadd (.c (.ptr n i j)) o) h K=K (.ptr n i (j+o)):=by rw[Er,a];simp
theorem Hc {n i j o:Nat}(a:(h n).used=true):aa P (.fadd (.c (.ptr n i j)) o) h KH=KH (.ptr n i (j+o)) h:=by rw[yJ,a];simp
end
def GA (q:Nat):D:=((tT.map EC.e)[q]?).getD .undef
theorem DR (q:Nat) (hq:q<5):(tT.map EC.e)[q]?=some (GA q)/\(GA q).cells.length=4/\(GA q).cells[3]?=some (.int .i64 (Cu q)):=by
  have:q=0\/q=1\/q=2\/q=3\/q=4:=by omega
  rcases this with rfl|rfl|rfl|rfl|rfl<;>exact⟨rfl,rfl,rfl⟩
theorem oY (q:Int):Cu q=8\/Cu q=4:=by unfold Cu;split<;>simp
theorem Cs {P:Program}{K:D->Prop}{h:Heap}{q:Nat}(hq:q<5):ag P (.iadd (.c (.sl (tT.map EC.e))) (.c (.int .i64 (q:Int))) 4) h K=K (.vp (GA q) 0):=by
  obtain⟨h1,h2,h3⟩:=DR q hq
  have hl:(List.map EC.e tT).length=5:=rfl
  rw[oR,Ce,Int.toNat_natCast,h1,hl]
  apply propext
  constructor
  · rintro⟨-,-,h⟩;exact(h _ rfl).2
  · intro hk;exact⟨by omega,by omega,fun d hd=>by cases hd;exact⟨h2,hk⟩⟩
theorem FD {P:Program}{K:D->Prop}{h:Heap}{q:Nat}(hq:q<5):ag P (.ld (.c (.vp (GA q) 3)) 1 false) h K=K (.int .i64 (Cu q)):=by
  rw[AD,Cd,eV,(DR q hq).2.2]
theorem FE {P:Program}{K:D->Prop}{h:Heap}{q:Nat}:ag P (.fadd (.c (.vp (GA q) 0)) 3) h K=K (.vp (GA q) 3):=rfl
theorem Hr {h:Heap}{n k:Nat}{s:MS}{pre:List Block}{is:List aZ}{t:Term}{priv:Bool}(r:aI h n k aW (jr s pre is t)) (hb:IA pre is 800) (hk:k<900000){KH:D->Heap->Prop}
    (hK:∀(q:Nat) (d:Nat) (a:dO) (h':Heap),q<5->(priv=false->q≠3)->d<6->zH a->aI h' n (k+3) aW (jr s pre (is++[zy (fM d) a q]) t)->aC n h h'->KH (.tup [.int .i64 (q:Int),(fM (d:Int)).e]) h') :
    ai PP bZ [.ptr n 0 0,.bool priv] h KH:=by
  refine ew o8 (ab _ _ _) rfl (oZ _ _ _) ?_
  unfold jH
  rw[iB]
  intro m t0
  obtain⟨r1,hne⟩:=r.new t0.free (.box ar.e)
  have k1:aC n h (aq h m (.box ar.e)):=aC.new t0.free
  refine cB r1 (by omega) fun b hA _ r2 k2=>?_
  have hm:=k2 m _ hne (an _ _ _)
  have k12:=k1.trans k2
  rw[bX]
  refine⟨by omega,?_⟩
  have e5:((b:Int).tmod 5)=((b % 5:Nat):Int):=aS b 5
  rw[e5]
  refine⟨fun qs h'=>∃q:Nat,qs=[.int .i64 (q:Int)]/\q<5/\(priv=false->q≠3)/\aI h' n (k+1) aW (jr s pre is t)/\h' m=.box ar.e/\aC n h h',?_,?_⟩
  · rintro f hB ⟨q,hq,hq5,hp,r3,hm3,k3⟩
    simp only[List.cons.injEq,and_true]at hq
    rw[hq]
    refine zF r3 (by omega) fun d hC hd r4 k4=>?_
    rw[iB]
    intro m5 t5
    obtain⟨r5,hne5⟩:=r4.new t5.free (.box ar.e)
    have hm4:=(aC.new t5.free:aC n hC (aq hC m5 (.box ar.e))) m _ hne (k4 m _ hne hm3)
    have k5:=(k3.trans k4).trans (aC.new t5.free:aC n hC (aq hC m5 (.box ar.e)))
    have a5:=an hC m5 (.box ar.e)
    have hmm:m≠m5:=t5.ne (by rw[k4 m _ hne hm3];simp)
    show aa PP _ (aq hC m5 (.box ar.e)) _
    generalize aq hC m5 (.box ar.e)=hD at r5 hm4 k5 a5
    have a6:=an hD m5 (.box (fM (d:Int)).e)
    have r6:=r5.eg a5 hne5 (.box (fM (d:Int)).e)
    have hm6:aq hD m5 (.box (fM (d:Int)).e) m=.box ar.e:=by rw[ae _ _ hmm];exact hm4
    rw[N0 a5]
    have k6:aC n h (aq hD m5 (.box (fM (d:Int)).e)):=fun q' d' hq' hd'=>by
      have h1:=k5 q' d' hq' hd'
      by_cases e:q'=m5
      · subst e
        exfalso
        have h2:=k4 q' d' hq' (k3 q' d' hq' hd')
        rw[t5.free]at h2;cases h2
      · rw[ae _ _ e];exact h1
    generalize aq hD m5 (.box (fM (d:Int)).e)=hE at r6 hm6 k6 a6
    obtain⟨bs,j,vL,vB,e⟩:=r6.box
    have eu:(hE n).used=true:=by rw[e];rfl
    unfold bU at e
    have w1:IntKind.i64.wrap (Cu q-1)=Cu q-1:=by rcases oY q with h|h<;>rw[h]<;>rfl
    have w2:IntKind.i32.wrap (Cu q-1)=Cu q-1:=by rcases oY q with h|h<;>rw[h]<;>rfl
    simp only[↓Dg a6,↓ED eu,Nat.zero_add,Nat.reduceAdd,↓rL e (j:=7) rfl,aW,↓Cs hq5,↓FE,↓FD hq5,↓kA,w1,↓Gi,↓vj,w2]
    refine tR r6 (by omega) fun o hF ho r7 k7=>?_
    have a7:=k7 m5 _ hne5 a6
    have hm7:=k7 m _ hne hm6
    obtain⟨bs',j',vL',vB',e'⟩:=r7.box
    have eu':(hF n).used=true:=by rw[e'];rfl
    unfold bU at e'
    simp only[↓Dg a7,↓ED eu',Nat.zero_add,Nat.reduceAdd,↓rL e' (j:=7) rfl,aW,↓Cs hq5,↓FE,↓FD hq5,aA,true_and]
    refine D2 sP ⟨ca,trivial⟩ ?_
    rw[JI,pE]
    refine⟨iu rfl,?_⟩
    refine JP (x:=zy (fM d) o q) r7 (hb.le (by have:=hb.i;omega)) fun hG r8 k8=>?_
    have a8:=k8 m5 _ hne5 a7
    have hm8:=k8 m _ hne hm7
    simp only[↓Dg a8,↓N0 hm8,↓OP (an _ _ _)]
    refine hK q d o _ hq5 hp hd ho (r8.eg hm8 hne _) fun q' d' hq' hd'=>?_
    have h1:=k8 q' d' hq' (k7 q' d' hq' (k6 q' d' hq' hd'))
    by_cases ee:q'=m
    · subst ee;rw[t0.free]at hd';cases hd'
    · rw[ae _ _ ee];exact h1
  · rw[gI]
    by_cases h3:b % 5=3
    · have h3':(((b % 5:Nat):Int)=3)=True:=eq_true (by omega)
      simp only[h3',decide_true,↓Oz,↓OA,↓OC,↓OB,↓Lo]
      cases priv
      · simp only[Bool.not_false,↓EY,↓aR]
        exact⟨rfl,0,rfl,by omega,fun _=>by omega,r2,hm,k12⟩
      · simp only[Bool.not_true,↓EY,↓aO]
        exact⟨rfl,b % 5,rfl,Nat.mod_lt _ (by omega),fun h=>(by cases h),r2,hm,k12⟩
    · have h3':(((b % 5:Nat):Int)=3)=False:=eq_false (by omega)
      simp only[h3',decide_false,↓Oz,↓OA,↓OC,↓OB,↓Lo,↓EP,↓I6,↓aO]
      exact⟨rfl,b % 5,rfl,Nat.mod_lt _ (by omega),fun _=>h3,r2,hm,k12⟩
end Go.Am
namespace Go.Am
open Go
def lB (R:Int) (o:dO):Prop:=∃r:Int,0<=r/\r<R/\o=fM r
def qg (R:Int) (o:dO):Prop:=lB R o\/∃v:Int,-2147483648<=v/\v<=2147483647/\o=Const v
theorem lB.val {R:Int}{o:dO}(h:lB R o):qg R o:=Or.inl h
theorem lB.mono {R R':Int}(h:R<=R'){o:dO}(r:lB R o):lB R' o:=by obtain⟨a,b,c,d⟩:=r;exact⟨a,b,by omega,d⟩
theorem qg.mono {R R':Int}(h:R<=R'){o:dO}(r:qg R o):qg R' o:=r.imp (lB.mono h) id
theorem zH.o {o:dO}(h:zH o):qg 6 o:=by
  rcases h with⟨b,hb,rfl⟩|⟨v,h1,h2,rfl⟩
  · exact Or.inl ⟨b,by omega,by omega,rfl⟩
  · exact Or.inr ⟨v,by omega,by omega,rfl⟩
theorem cu {b:Nat}(h:b<6):lB 6 (fM (b:Int)):=⟨b,by omega,by omega,rfl⟩
inductive CY (R:Int):aZ->Prop
  | mov (d a:dO) (h1:lB R d) (h2:qg R a):CY R ⟨1,0,0,d,a,ar,ar⟩
  | un (s:Int) (d a:dO) (h0:1<=s/\s<=5) (h1:lB R d) (h2:qg R a):CY R ⟨2,s,0,d,a,ar,ar⟩
  | bin (s:Int) (d a b:dO) (h0:10<=s/\s<=29) (h1:lB R d) (h2:qg R a) (h3:qg R b):CY R ⟨3,s,0,d,a,b,ar⟩
  | sel (d a b c:dO) (h1:lB R d) (h2:qg R a) (h3:qg R b) (h4:qg R c):CY R ⟨4,0,0,d,a,b,c⟩
  | id (s:Int) (d:dO) (h0:1<=s/\s<=7) (h1:lB R d):CY R ⟨5,s,0,d,ar,ar,ar⟩
  | param (n:Int) (d:dO) (h0:0<=n/\n<3) (h1:lB R d):CY R ⟨6,0,n,d,ar,ar,ar⟩
  | load (n:Int) (d a:dO) (h0:0<=n/\n<5) (h1:lB R d) (h2:lB R a):CY R ⟨7,0,n,d,a,ar,ar⟩
  | store (n:Int) (a b:dO) (h0:0<=n/\n<5) (h1:lB R a) (h2:qg R b):CY R ⟨8,0,n,ar,a,b,ar⟩
  | atom (s n:Int) (a b:dO) (hs:s=10\/s=22\/s=23\/s=17\/s=18\/s=19) (h0:0<=n/\n<5/\n≠3) (h1:lB R a) (h2:qg R b):CY R ⟨9,s,n,ar,a,b,ar⟩
  | fence (s:Int) (h0:s=1\/s=2):CY R ⟨10,s,0,ar,ar,ar,ar⟩
theorem CY.mono {R R':Int}(h:R<=R'){x:aZ}(i:CY R x):CY R' x:=by
  cases i with
  | mov d a h1 h2=>exact .mov d a (h1.mono h) (h2.mono h)
  | un s d a h0 h1 h2=>exact .un s d a h0 (h1.mono h) (h2.mono h)
  | bin s d a b h0 h1 h2 h3=>exact .bin s d a b h0 (h1.mono h) (h2.mono h) (h3.mono h)
  | sel d a b c h1 h2 h3 h4=>exact .sel d a b c (h1.mono h) (h2.mono h) (h3.mono h) (h4.mono h)
  | id s d h0 h1=>exact .id s d h0 (h1.mono h)
  | param n d h0 h1=>exact .param n d h0 (h1.mono h)
  | load n d a h0 h1 h2=>exact .load n d a h0 (h1.mono h) (h2.mono h)
  | store n a b h0 h1 h2=>exact .store n a b h0 (h1.mono h) (h2.mono h)
  | atom s n a b hs h0 h1 h2=>exact .atom s n a b hs h0 (h1.mono h) (h2.mono h)
  | fence s h0=>exact .fence s h0
def ko (R:Int) (xs:List aZ):Prop:=∀(k:Nat) (x:aZ),xs[k]?=some x->CY R x/\((x.op=7\/x.op=8\/x.op=9)->∃(j:Nat) (a:dO),k=j+1/\xs[j]?=some (zy x.a a x.n)/\qg R a)
theorem ko.nil {R:Int}:ko R []:=fun k x h=>by simp at h
theorem ko.one {R:Int}{x:aZ}(i:CY R x) (h:¬(x.op=7\/x.op=8\/x.op=9)):ko R [x]:=fun k y hy=>by
  cases k with
  | zero=>simp at hy;subst hy;exact⟨i,fun hx=>absurd hx h⟩
  | succ k=>simp at hy
theorem ko.two {R:Int}{x y:aZ}{a:dO}(hx:CY R x) (hy:CY R y) (he:x=zy y.a a y.n) (ha:qg R a) (hn:¬(x.op=7\/x.op=8\/x.op=9)):ko R [x,y]:=fun k z hz=>by
  match k with
  | 0=>simp at hz;subst hz;exact⟨hx,fun h=>absurd h hn⟩
  | 1=>simp at hz;subst hz;exact⟨hy,fun _=>⟨0,a,rfl,by simp[he],ha⟩⟩
  | k+2=>simp at hz
theorem ko.append {R:Int}{xs ys:List aZ}(hx:ko R xs) (hy:ko R ys):ko R (xs++ys):=fun k x h=>by
  rcases Nat.lt_or_ge k xs.length with hk|hk
  · rw[List.getElem?_append_left hk]at h
    obtain⟨h1,h2⟩:=hx k x h
    refine⟨h1,fun ho=>?_⟩
    obtain⟨j,a,e,q,v⟩:=h2 ho
    exact⟨j,a,e,by rw[List.getElem?_append_left (by omega)];exact q,v⟩
  · rw[List.getElem?_append_right hk]at h
    obtain⟨h1,h2⟩:=hy _ x h
    refine⟨h1,fun ho=>?_⟩
    obtain⟨j,a,e,q,v⟩:=h2 ho
    exact⟨xs.length+j,a,by omega,by rw[List.getElem?_append_right (by omega)];simpa using q,v⟩
theorem ko.mono {R R':Int}(h:R<=R'){xs:List aZ}(x:ko R xs):ko R' xs:=fun k y hy=>by
  obtain⟨h1,h2⟩:=x k y hy
  refine⟨h1.mono h,fun ho=>?_⟩
  obtain⟨j,a,e,q,v⟩:=h2 ho
  exact⟨j,a,e,q,v.mono h⟩
theorem Ef {d:Nat}{a:dO}{q:Nat}(hd:d<6) (ha:zH a):CY 6 (zy (fM (d:Int)) a (q:Int)) :=
  .bin 17 _ _ _ (by omega) (cu hd) ha.o (Or.inr ⟨Cu q-1,by rcases oY q with h|h<;>omega,by rcases oY q with h|h<;>omega,rfl⟩)
theorem gu {h:Heap}{n k:Nat}{arrs:D}{s:MS}{pre:List Block}{is:List aZ}{t:Term}{z:List D}{ps:List (Nat×Nat×Arg)}{KH:D->Heap->Prop}(x:aZ) (r:aI h n k arrs (jr s pre is t)) (hb:IA pre is 900)
    (hf:sM z.length (ps.map fun p=>(p.1,p.2.1,p.2.2.get []))=true) (hx:D.agg (fillD z (ps.map fun p=>(p.1,p.2.1,(p.2.2.get []).cells)))=x.e)
    (hK:∀h':Heap,aI h' n k arrs (jr s pre (is++[x]) t)->aC n h h'->KH (.tup []) h') :
    aa PP (.bld z ps) h fun a h1=>ai PP aB [.ptr n 0 0,a] h1 KH:=by
  rw[pE]
  refine⟨iu hf,?_⟩
  rw[hx]
  exact JP r hb hK
theorem Cr {h:Heap}{n k:Nat}{arrs:D}{s:MS}{pre:List Block}{is:List aZ}{t:Term}{z:List D}{ps:List (Nat×Nat×Arg)}{KH:D->Heap->Prop}(x:aZ) (r:aI h n k arrs (jr s pre is t)) (hb:IA pre is 900)
    (hf:sM z.length (ps.map fun p=>(p.1,p.2.1,p.2.2.get []))=true) (hx:D.agg (fillD z (ps.map fun p=>(p.1,p.2.1,(p.2.2.get []).cells)))=x.e)
    (hK:∀h':Heap,aI h' n k arrs (jr s pre (is++[x]) t)->aC n h h'->KH (.tup []) h') :
    ag PP (.bld z ps) h fun a=>ai PP aB [.ptr n 0 0,a] h KH:=by
  rw[JI];exact gu x r hb hf hx hK
set_option maxHeartbeats 1000000 in
theorem MU {h:Heap}{n k:Nat}{s:MS}{pre:List Block}{is:List aZ}{t:Term}(r:aI h n k aW (jr s pre is t)) (hb:IA pre is 700) (hk:k<800000){KH:D->Heap->Prop}
    (hK:∀(xs:List aZ) (h':Heap),ko 6 xs->xs.length<=2->aI h' n (k+10) aW (jr s pre (is++xs) t)->aC n h h'->KH (.tup []) h') :
    ai PP de [.ptr n 0 0] h KH:=by
  refine ew qn (ab _ _ _) rfl (qj _ _) ?_
  unfold kV
  have hb9:IA pre is 900:=hb.le (by have:=hb.i;omega)
  refine cB r (by omega) fun b0 h1 _ r1 k1=>?_
  rw[bX]
  refine⟨by omega,?_⟩
  have e16:((b0:Int).tmod 16)=((b0 % 16:Nat):Int):=aS b0 16
  rw[e16]
  have hc16:b0 % 16<16:=Nat.mod_lt _ (by omega)
  generalize b0 % 16=c at hc16
  rw[tu]
  by_cases hc3:c<3
  · simp only[show((c:Int)<3)=True from eq_true (by omega),decide_true,↓aR]
    refine cB r1 (by omega) fun b h2 _ r2 k2=>?_
    rw[bX]
    refine⟨by omega,?_⟩
    rw[show((b:Int).tmod 7)=((b % 7:Nat):Int) from aS b 7,cZ,wrap64 (by omega) (by omega)]
    refine zF r2 (by omega) fun d h3 hd r3 k3=>?_
    refine gu ⟨5,1+((b % 7:Nat):Int),0,fM d,ar,ar,ar⟩ r3 hb9 rfl rfl fun h4 r4 k4=>?_
    exact hK _ h4 (.one (.id _ _ (by omega) (cu hd)) (by simp)) (by simp) (r4.le (by omega)) (((k1.trans k2).trans k3).trans k4)
  simp only[show((c:Int)<3)=False from eq_false (by omega),decide_false,↓aO]
  rw[tu]
  by_cases hc7:c<7
  · simp only[show((c:Int)<7)=True from eq_true (by omega),decide_true,↓aR]
    refine cB r1 (by omega) fun b h2 _ r2 k2=>?_
    rw[bX]
    refine⟨by omega,?_⟩
    rw[show((b:Int).tmod 20)=((b % 20:Nat):Int) from aS b 20,cZ,wrap64 (by omega) (by omega)]
    refine zF r2 (by omega) fun d h3 hd r3 k3=>?_
    refine tR r3 (by omega) fun o h4 ho r4 k4=>?_
    refine tR r4 (by omega) fun p h5 hp r5 k5=>?_
    refine gu ⟨3,10+((b % 20:Nat):Int),0,fM d,o,p,ar⟩ r5 hb9 rfl rfl fun h6 r6 k6=>?_
    exact hK _ h6 (.one (.bin _ _ _ _ (by omega) (cu hd) ho.o hp.o) (by simp)) (by simp) (r6.le (by omega)) (((((k1.trans k2).trans k3).trans k4).trans k5).trans k6)
  simp only[show((c:Int)<7)=False from eq_false (by omega),decide_false,↓aO]
  rw[gI]
  by_cases h7:c=7
  · simp only[show((c:Int)=7)=True from eq_true (by omega),decide_true,↓aR]
    refine cB r1 (by omega) fun b h2 _ r2 k2=>?_
    rw[bX]
    refine⟨by omega,?_⟩
    rw[show((b:Int).tmod 5)=((b % 5:Nat):Int) from aS b 5,cZ,wrap64 (by omega) (by omega)]
    refine zF r2 (by omega) fun d h3 hd r3 k3=>?_
    refine tR r3 (by omega) fun o h4 ho r4 k4=>?_
    refine gu ⟨2,1+((b % 5:Nat):Int),0,fM d,o,ar,ar⟩ r4 hb9 rfl rfl fun h6 r6 k6=>?_
    exact hK _ h6 (.one (.un _ _ _ (by omega) (cu hd) ho.o) (by simp)) (by simp) (r6.le (by omega)) ((((k1.trans k2).trans k3).trans k4).trans k6)
  simp only[show((c:Int)=7)=False from eq_false (by omega),decide_false,↓aO]
  rw[gI]
  by_cases h8:c=8
  · simp only[show((c:Int)=8)=True from eq_true (by omega),decide_true,↓aR]
    refine zF r1 (by omega) fun d h3 hd r3 k3=>?_
    refine tR r3 (by omega) fun o h4 ho r4 k4=>?_
    refine tR r4 (by omega) fun p h5 hp r5 k5=>?_
    refine tR r5 (by omega) fun q h6 hq r6 k6=>?_
    refine gu ⟨4,0,0,fM d,o,p,q⟩ r6 hb9 rfl rfl fun h7 r7 k7=>?_
    exact hK _ h7 (.one (.sel _ _ _ _ (cu hd) ho.o hp.o hq.o) (by simp)) (by simp) (r7.le (by omega)) (((((k1.trans k3).trans k4).trans k5).trans k6).trans k7)
  simp only[show((c:Int)=8)=False from eq_false (by omega),decide_false,↓aO]
  rw[gI]
  by_cases h9:c=9
  · simp only[show((c:Int)=9)=True from eq_true (by omega),decide_true,↓aR]
    refine zF r1 (by omega) fun d h3 hd r3 k3=>?_
    refine tR r3 (by omega) fun o h4 ho r4 k4=>?_
    refine gu ⟨1,0,0,fM d,o,ar,ar⟩ r4 hb9 rfl rfl fun h7 r7 k7=>?_
    exact hK _ h7 (.one (.mov _ _ (cu hd) ho.o) (by simp)) (by simp) (r7.le (by omega)) (((k1.trans k3).trans k4).trans k7)
  simp only[show((c:Int)=9)=False from eq_false (by omega),decide_false,↓aO]
  rw[gI]
  by_cases h10:c=10
  · simp only[show((c:Int)=10)=True from eq_true (by omega),decide_true,↓aR]
    refine cB r1 (by omega) fun b h2 _ r2 k2=>?_
    rw[bX]
    refine⟨by omega,?_⟩
    rw[show((b:Int).tmod 3)=((b % 3:Nat):Int) from aS b 3]
    refine zF r2 (by omega) fun d h3 hd r3 k3=>?_
    refine gu ⟨6,0,((b % 3:Nat):Int),fM d,ar,ar,ar⟩ r3 hb9 rfl rfl fun h7 r7 k7=>?_
    exact hK _ h7 (.one (.param _ _ (by omega) (cu hd)) (by simp)) (by simp) (r7.le (by omega)) (((k1.trans k2).trans k3).trans k7)
  simp only[show((c:Int)=10)=False from eq_false (by omega),decide_false,↓aO]
  rw[gI]
  by_cases h11:c=11
  · simp only[show((c:Int)=11)=True from eq_true (by omega),decide_true,↓aR]
    refine cB r1 (by omega) fun b h2 _ r2 k2=>?_
    rw[bX]
    refine⟨by omega,?_⟩
    rw[show((b:Int).tmod 2)=((b % 2:Nat):Int) from aS b 2,cZ,wrap64 (by omega) (by omega)]
    refine gu ⟨10,1+((b % 2:Nat):Int),0,ar,ar,ar,ar⟩ r2 hb9 rfl rfl fun h7 r7 k7=>?_
    exact hK _ h7 (.one (.fence _ (by omega)) (by simp)) (by simp) (r7.le (by omega)) ((k1.trans k2).trans k7)
  simp only[show((c:Int)=11)=False from eq_false (by omega),decide_false,↓aO]
  rw[gI]
  by_cases h12:c=12
  · simp only[show((c:Int)=12)=True from eq_true (by omega),decide_true,↓aR]
    refine Hr r1 (hb.le (by have:=hb.i;omega)) (by omega) fun q d a h2 hq hp hd ha r2 k2=>?_
    simp only[↓MM,↓ML]
    rw[iB]
    intro m t0
    obtain⟨r3,hne⟩:=r2.new t0.free (.box ar.e)
    have a3:=an h2 m (.box ar.e)
    have k3:aC n h2 (aq h2 m (.box ar.e)):=aC.new t0.free
    show aa PP _ (aq h2 m (.box ar.e)) _
    have key:aC n h2 (aq (aq h2 m (.box ar.e)) m (.box (fM (d:Int)).e)):=by rw[DZ];exact aC.new t0.free
    rw[N0 a3]
    have r4:=r3.eg a3 hne (.box (fM (d:Int)).e)
    have a4:=an (aq h2 m (.box ar.e)) m (.box (fM (d:Int)).e)
    generalize aq (aq h2 m (.box ar.e)) m (.box (fM (d:Int)).e)=h3 at key r4 a4
    have hbl:∀{Q:D->Prop},ag PP (.bldS false 1 6 (.int .i64 0) [(0,(.c (.int .i64 10))),(1,(.c (.int .i64 22))),(2,(.c (.int .i64 23))),(3,(.c (.int .i64 17))),(4,(.c (.int .i64 18))),(5,(.c (.int .i64 19)))]) h3 Q=Q (.sl [.int .i64 10,.int .i64 22,.int .i64 23,.int .i64 17,.int .i64 18,.int .i64 19]):=by
      intro Q
      apply propext
      constructor
      · exact fun hh=>hh.2.2.2
      · intro hq
        refine⟨nr rfl,?_,by simp,hq⟩
        intro p hp
        simp[Arg.get]at hp
        rcases hp with rfl|rfl|rfl|rfl|rfl|rfl<;>simp
    simp only[hbl,↓Dg a4]
    refine cB r4 (by omega) fun b h4 _ r5 k5=>?_
    have a5:=k5 m _ hne a4
    simp only[↓Dg a5,aA,true_and]
    rw[bX]
    refine⟨by omega,?_⟩
    rw[show((b:Int).tmod 6)=((b % 6:Nat):Int) from aS b 6]
    obtain⟨sv,hsv,hs6⟩:∃sv:Int,([.int .i64 10,.int .i64 22,.int .i64 23,.int .i64 17,.int .i64 18,.int .i64 19]:List D)[b % 6]?=some (.int .i64 sv)/\(sv=10\/sv=22\/sv=23\/sv=17\/sv=18\/sv=19):=by
      have:b % 6=0\/b % 6=1\/b % 6=2\/b % 6=3\/b % 6=4\/b % 6=5:=by omega
      rcases this with e|e|e|e|e|e<;>rw[e]<;>exact⟨_,rfl,by simp⟩
    have hi:∀{h:Heap}{Q:D->Prop},ag PP (.iadd (.c (.sl [.int .i64 10,.int .i64 22,.int .i64 23,.int .i64 17,.int .i64 18,.int .i64 19])) (.c (.int .i64 ((b % 6:Nat):Int))) 1) h Q=Q (.vp (.int .i64 sv) 0):=by
      intro h Q
      rw[oR,Ce,Int.toNat_natCast,hsv]
      apply propext
      constructor
      · rintro⟨-,-,h⟩;exact(h _ rfl).2
      · intro hq;exact⟨by omega,by simp;omega,fun d hd=>by cases hd;exact⟨rfl,hq⟩⟩
    have hl:∀{h:Heap}{Q:D->Prop},ag PP (.ld (.c (.vp (.int .i64 sv) 0)) 1 false) h Q=Q (.int .i64 sv):=fun {h Q}=>by rw[AD,Cd,eV];rfl
    simp only[↓hi,↓hl]
    refine tR r5 (by omega) fun o h5 ho r6 k6=>?_
    have a6:=k6 m _ hne a5
    simp only[↓hi,↓hl,↓Dg a6,aA,true_and]
    refine Cr ⟨9,sv,q,ar,fM d,o,ar⟩ r6 (hb.le (by have:=hb.i;simp;omega)) rfl rfl fun h7 r7 k7=>?_
    rw[List.append_assoc]at r7
    exact hK _ h7 (.two (a:=a) (Ef hd ha) (.atom sv (q:Int) _ _ hs6 ⟨Int.natCast_nonneg q,Int.ofNat_lt.2 hq,fun e=>hp rfl (Int.ofNat_inj.1 e)⟩ (cu hd) ho.o) rfl ha.o (by simp[zy])) (by simp) (r7.le (by omega)) (((((k1.trans k2).trans key).trans k5).trans k6).trans k7)
  simp only[show((c:Int)=12)=False from eq_false (by omega),decide_false,↓aO]
  refine Hr r1 (hb.le (by have:=hb.i;omega)) (by omega) fun q d a h2 hq hp hd ha r2 k2=>?_
  simp only[↓MM,↓ML]
  rw[iB]
  intro m t0
  obtain⟨r3,hne⟩:=r2.new t0.free (.box ar.e)
  have a3:=an h2 m (.box ar.e)
  show aa PP _ (aq h2 m (.box ar.e)) _
  have key:aC n h2 (aq (aq h2 m (.box ar.e)) m (.box (fM (d:Int)).e)):=by rw[DZ];exact aC.new t0.free
  rw[N0 a3]
  have r4:=r3.eg a3 hne (.box (fM (d:Int)).e)
  have a4:=an (aq h2 m (.box ar.e)) m (.box (fM (d:Int)).e)
  generalize aq (aq h2 m (.box ar.e)) m (.box (fM (d:Int)).e)=h3 at key r4 a4
  rw[gI]
  by_cases h13:c=13
  · simp only[show((c:Int)=13)=True from eq_true (by omega),decide_true,↓aR,↓Dg a4]
    refine zF r4 (by omega) fun e h4 he r5 k5=>?_
    have a5:=k5 m _ hne a4
    simp only[↓Dg a5,aA,true_and]
    refine Cr ⟨7,0,q,fM e,fM d,ar,ar⟩ r5 (hb.le (by have:=hb.i;simp;omega)) rfl rfl fun h7 r7 k7=>?_
    rw[List.append_assoc]at r7
    exact hK _ h7 (.two (a:=a) (Ef hd ha) (.load (q:Int) _ _ ⟨Int.natCast_nonneg q,Int.ofNat_lt.2 hq⟩ (cu he) (cu hd)) rfl ha.o (by simp[zy])) (by simp) (r7.le (by omega)) ((((k1.trans k2).trans key).trans k5).trans k7)
  · simp only[show((c:Int)=13)=False from eq_false (by omega),decide_false,↓aO,↓Dg a4]
    refine tR r4 (by omega) fun o h4 ho r5 k5=>?_
    have a5:=k5 m _ hne a4
    simp only[↓Dg a5,aA,true_and]
    refine Cr ⟨8,0,q,ar,fM d,o,ar⟩ r5 (hb.le (by have:=hb.i;simp;omega)) rfl rfl fun h7 r7 k7=>?_
    rw[List.append_assoc]at r7
    exact hK _ h7 (.two (a:=a) (Ef hd ha) (.store (q:Int) _ _ ⟨Int.natCast_nonneg q,Int.ofNat_lt.2 hq⟩ (cu hd) ho.o) rfl ha.o (by simp[zy])) (by simp) (r7.le (by omega)) ((((k1.trans k2).trans key).trans k5).trans k7)
theorem Bi {h:Heap}{n k:Nat}{s:MS}{pre:List Block}{is:List aZ}{t:Term}(r:aI h n k aW (jr s pre is t)) (hb:IA pre is 600) (hk:k<700000){KH:D->Heap->Prop}
    (hK:∀(xs:List aZ) (h':Heap),ko 6 xs->xs.length<=8->aI h' n (k+50) aW (jr s pre (is++xs) t)->aC n h h'->KH (.tup []) h') :
    ai PP bl [.ptr n 0 0] h KH:=by
  refine ew o9 (ab _ _ _) rfl (o0 _ _) ?_
  unfold jI
  refine cB r (by omega) fun b h1 _ r1 k1=>?_
  rw[bX]
  refine⟨by omega,?_⟩
  rw[show((b:Int).tmod 5)=((b % 5:Nat):Int) from aS b 5]
  have hb5:b % 5<5:=Nat.mod_lt _ (by omega)
  generalize b % 5=c at hb5
  unfold gz
  refine⟨fun j q h'=>j<=4/\q=[.int .i64 (j:Int)]/\∃xs:List aZ,ko 6 xs/\xs.length<=2*(4-j)/\aI h' n (k+1+10*(4-j)) aW (jr s pre (is++xs) t)/\aC n h h',c,⟨by omega,rfl,[],.nil,by simp,by simpa using r1.le (by omega),k1⟩,?_⟩
  rintro j f h2 ⟨hj,hq,xs,hx,hl,r2,k2⟩
  simp only[List.cons.injEq,and_true]at hq
  rw[hq,Bm]
  by_cases h0:0<j
  · simp only[show((0:Int)<(j:Int))=True from eq_true (by omega),decide_true,↓aR]
    refine MU r2 (hb.le (by have:=hb.i;simp;omega)) (by omega) fun ys h3 hy hyl r3 k3=>?_
    rw[kA,wrap64 (by omega) (by omega)]
    refine⟨rfl,j-1,by omega,by omega,by congr 2;omega,xs++ys,hx.append hy,by simp;omega,?_,k2.trans k3⟩
    rw[List.append_assoc]at r3
    exact r3.le (by omega)
  · simp only[show((0:Int)<(j:Int))=False from eq_false (by omega),decide_false,↓aO]
    exact hK xs h2 hx (by omega) (r2.le (by omega)) k2
end Go.Am
namespace Go.Am
open Go
theorem jG {P:Program}{h:Heap}{KH:D->Heap->Prop}{z:List D}{ps:List (Nat×Nat×Arg)}(hf:sM z.length (ps.map fun p=>(p.1,p.2.1,p.2.2.get []))=true) :
    aa P (.bld z ps) h KH=KH (.agg (fillD z (ps.map fun p=>(p.1,p.2.1,(p.2.2.get []).cells)))) h:=by
  rw[pE,eq_true (iu hf),true_and]
theorem tQ {P:Program}{h:Heap}{K:D->Prop}{z:List D}{ps:List (Nat×Nat×Arg)}(hf:sM z.length (ps.map fun p=>(p.1,p.2.1,p.2.2.get []))=true) :
    ag P (.bld z ps) h K=K (.agg (fillD z (ps.map fun p=>(p.1,p.2.1,(p.2.2.get []).cells)))):=by
  rw[JI,jG hf]
inductive JZ (N:Nat) (R:Int):Term->Prop
  | jump (a:Nat) (h:a<N):JZ N R ⟨1,0,ar,ar,ar,a,0⟩
  | branch (o:dO) (a b:Nat) (ho:lB R o) (h1:a<N) (h2:b<N):JZ N R ⟨2,0,ar,o,ar,a,b⟩
  | barrier (a:Nat) (h:a<N):JZ N R ⟨3,0,ar,ar,ar,a,0⟩
  | collect (s:Int) (d a b:dO) (t:Nat) (hs:1<=s/\s<=6) (hd:lB R d) (ha:qg R a) (hb:qg R b) (h:t<N):JZ N R ⟨4,s,d,a,b,t,0⟩
  | exit:JZ N R ⟨5,0,ar,ar,ar,0,0⟩
theorem JZ.mono {N N':Nat}{R R':Int}(hN:N<=N') (hR:R<=R'){t:Term}(h:JZ N R t):JZ N' R' t:=by
  cases h with
  | jump a h=>exact .jump a (by omega)
  | branch o a b ho h1 h2=>exact .branch o a b (ho.mono hR) (by omega) (by omega)
  | barrier a h=>exact .barrier a (by omega)
  | collect s d a b t hs hd ha hb h=>exact .collect s d a b t hs (hd.mono hR) (ha.mono hR) (hb.mono hR) (by omega)
  | exit=>exact .exit
structure OT (N:Nat) (R:Int) (b:Block):Prop where
  xs:ko R b.i
  len:b.i.length<=20
  t:JZ N R b.t
def jm (N:Nat) (R:Int) (bs:List Block):Prop:=∀b∈bs,OT N R b
theorem jm.mono {N N':Nat}{R R':Int}(hN:N<=N') (hR:R<=R'){bs:List Block}(h:jm N R bs):jm N' R' bs:=fun b hb=>⟨(h b hb).xs.mono hR,(h b hb).len,(h b hb).t.mono hN hR⟩
theorem jm.snoc {N:Nat}{R:Int}{bs:List Block}{b:Block}(h:jm N R bs) (hb:OT N R b):jm N R (bs++[b]):=fun c hc=>by
  rcases List.mem_append.1 hc with hc|hc
  · exact h c hc
  · simp at hc;subst hc;exact hb
theorem jm.nil {N:Nat}{R:Int}:jm N R []:=fun _ h=>by cases h
theorem jm.MY {N:Nat}{R:Int}{bs:List Block}(h:jm N R bs) (hl:bs.length<=50){is:List aZ}{M:Nat}(hi:is.length<=M):IA bs is M:=⟨hl,fun b hb=>by have:=(h b hb).len;omega,hi⟩
theorem lG {h:Heap}{n k:Nat}{arrs:D}{s:MS}{pre:List Block}{is:List aZ}{t0:Term}(r:aI h n k arrs (jr s pre is t0)) :
    ∃(bs:List Nat) (j:Nat) (vL:D) (nb:Nat),h n=.box (.agg [nZ bs,.int .i64 (j:Int),.int .i64 s.group,.int .i64 s.sub,.int .i64 s.regs,.int .i64 0,.int .i64 3,arrs,vL,.ms nb 0 (pre.length+1)])/\(h n).used=true/\(h nb).live=true /\
      (∀(t:Term) {KH:D->Heap->Prop},(∀h',aI h' n k arrs (jr s pre is t)->aC n h h'->KH .undef h') ->
        aa PP (.iadd (.c (.ms nb 0 (pre.length+1))) (.c (.int .i64 (pre.length:Int))) 14) h fun a h1=>aa PP (.fadd (.c a) 1) h1 fun b h2=>aa PP (.st (.c b) (.c t.e) 13) h2 KH) /\
      (∀(t:Term) {KH:D->Heap->Prop},(∀h',aI h' n k arrs (jr s pre is t)->aC n h h'->KH .undef h') ->
        ag PP (.iadd (.c (.ms nb 0 (pre.length+1))) (.c (.int .i64 (pre.length:Int))) 14) h fun a=>ag PP (.fadd (.c a) 1) h fun b=>aa PP (.st (.c b) (.c t.e) 13) h KH):=by
  obtain⟨bs,j,vL,nb,vs,h1,h2,h3,h4,h5,h6⟩:=r.some (by simp[jr])
  have hl:(jr s pre is t0).blocks.length=pre.length+1:=by simp[jr]
  have e4:h n=.box (.agg [nZ bs,.int .i64 (j:Int),.int .i64 s.group,.int .i64 s.sub,.int .i64 s.regs,.int .i64 0,.int .i64 3,arrs,vL,.ms nb 0 (pre.length+1)]):=by rw[h4,bU,hl];rfl
  have st:∀(t:Term) {KH:D->Heap->Prop},(∀h',aI h' n k arrs (jr s pre is t)->aC n h h'->KH .undef h')->aa PP (.st (.c (.ptr nb pre.length 1)) (.c t.e) 13) h KH:=by
    intro t KH hK
    refine KI (i:=pre.length) h1 h2 h3 h4 h5 h6 (by rw[hl];omega) fun h' r' k'=>hK h' ?_ k'
    have:Db (jr s pre is t0).blocks pre.length t=pre++[⟨is,t⟩]:=by simp only[jr,Db];rw[zx]
    rw[this]at r'
    exact r'
  have c1:((0:Int)<=(pre.length:Int))=True:=eq_true (by omega)
  have c2:((pre.length:Int)<((pre.length+1:Nat):Int))=True:=eq_true (by omega)
  have c3:(∃els,(h nb).row=some (14,els))=True:=eq_true ⟨_,by rw[h5];rfl⟩
  have eu:(h nb).used=true:=by rw[h5];rfl
  refine⟨bs,j,vL,nb,e4,by rw[h4];rfl,by rw[h5];rfl,fun t KH hK=>?_,fun t KH hK=>?_⟩
  · rw[wV,c1,c2,c3]
    simp only[true_and,Int.toNat_natCast,Nat.zero_add,↓Hc eu]
    exact st t hK
  · rw[oR,wV,c1,c2,c3]
    simp only[true_and,Int.toNat_natCast,Nat.zero_add,↓ED eu]
    exact st t hK
theorem rR {h:Heap}{n k:Nat}{arrs:D}{s:MS}{bs:List Block}(r:aI h n k arrs { s with blocks:=bs }) (hl:bs.length<=50){KH:D->Heap->Prop}
    (hK:∀h':Heap,aI h' n k arrs (jr s bs [] ic)->aC n h h'->KH (.tup []) h'):ai PP aP [.ptr n 0 0] h KH :=
  K8 r (by simp only;omega) fun h' r' k'=>hK h' r' k'
theorem Kk {h:Heap}{n k:Nat}{arrs:D}{s:MS}{v:Int}(r:aI h n k arrs s){KH:D->Heap->Prop}
    (hK:∀h':Heap,aI h' n k arrs { s with regs:=v }->aC n h h'->KH .undef h'):aa PP (.st (.c (.ptr n 0 4)) (.c (.int .i64 v)) 1) h KH:=by
  obtain⟨bs,j,vL,vB,vs,h1,h2,h3,h4,h5⟩:=r.st
  rw[rG,h4]
  refine⟨rfl,by simp,rfl,by simp[bU],?_⟩
  exact hK _ ⟨bs,j,vL,vB,vs,h1,h2,h3,by rw[an];simp[bU,setCells],h5.box h4 _⟩ aC.self
theorem L4 {h:Heap}{n k:Nat}{arrs:D}{s:MS}{v:Int}(r:aI h n k arrs s){KH:D->Heap->Prop}
    (hK:∀h':Heap,aI h' n k arrs { s with sub:=v }->aC n h h'->KH .undef h'):aa PP (.st (.c (.ptr n 0 3)) (.c (.int .i64 v)) 1) h KH:=by
  obtain⟨bs,j,vL,vB,vs,h1,h2,h3,h4,h5⟩:=r.st
  rw[rG,h4]
  refine⟨rfl,by simp,rfl,by simp[bU],?_⟩
  exact hK _ ⟨bs,j,vL,vB,vs,h1,h2,h3,by rw[an];simp[bU,setCells],h5.box h4 _⟩ aC.self
theorem app_loop {h:Heap}{n k:Nat}{arrs:D}{s:MS}{l:Loop}{bytes:Nat}{z z':D}(r:aI h n k arrs s) (hl:s.loops.length<=1000) (hby:bytes<=1000){bs0:List Nat}{j0:Nat}{vL:D}{vB:D}(e:h n=.box (bU bs0 j0 arrs s vL vB)){KH:D->Heap->Prop}
    (hK:∀h':Heap,aI h' n k arrs { s with loops:=s.loops++[l] }->aC n h h'->KH .undef h') :
    aa PP (.bldS true 3 1 z [(0,.c l.e)]) h fun x h1=>aa PP (.app (.c vL) (.c x) 3 bytes z') h1 fun v h2=>aa PP (.fadd (.c (.ptr n 0 0)) 0) h2 fun a h3=>aa PP (.fadd (.c a) 2) h3 fun b h4=>aa PP (.fadd (.c b) 6) h4 fun c h5=>aa PP (.st (.c c) (.c v) 1) h5 KH:=by
  obtain⟨bs,j,vL',vB',vs,h1,h2,h3,h4,h5⟩:=r.st
  have ee:vL=vL'/\vB=vB'/\bs0=bs/\j0=j:=by
    rw[e]at h4
    simp only[bU,Slot.box.injEq,D.agg.injEq,List.cons.injEq,D.int.injEq,and_true,true_and,nZ,D.sl.injEq]at h4
    obtain⟨q1,q2,q3,q4⟩:=h4
    refine⟨q3,q4,?_,by omega⟩
    have:=congrArg (List.map (fun d=>match d with|D.int _ i=>i.toNat|_=>0)) q1
    simpa[List.map_map,Function.comp_def] using this
  obtain⟨rfl,rfl,rfl,rfl⟩:=ee
  have hbb:((List.map Loop.e s.loops).length+1)*bytes<=140737488355328:=by
    rw[List.length_map]
    exact Nat.le_trans (Nat.mul_le_mul (show s.loops.length+1<=1001 by omega) hby) (by omega)
  refine Ju h5.oL (Loop.xT l) rfl hbb (by rw[List.length_map];omega) fun m h' f1 f2 f3=>?_
  have hnm:n≠m:=by rintro rfl;rw[h4]at f1;cases f1
  have hnL:n∉vL.kE:=fun hm=>by have:=ov h5.oL hm;rw[h4]at this;cases this
  have h4':h' n=h n:=f3 n hnm hnL (by rw[h4];simp)
  have eu:(h' n).used=true:=by rw[h4',h4];rfl
  simp only[↓Hc eu,Nat.zero_add,Nat.reduceAdd]
  rw[rG,h4',h4]
  refine⟨rfl,by simp,rfl,by simp[bU],?_⟩
  have hnew:∀k',k'∈bh (vL::vB::vs)->h k'≠.free:=fun k' hk'=>by obtain⟨e,l,hkl⟩:=h5.arr hk';rw[hkl];simp
  have hmn:m∉bh (vL::vB::vs):=fun hm=>hnew m hm f1
  have hnd:=h5.nd
  rw[aT]at hnd hmn
  simp only[List.mem_append,not_or]at hmn
  have hnd':=List.nodup_append.1 hnd
  have same:∀{x:Slot}(k':Nat),k'∈bh (vB::vs)->(aq h' n x) k'=h k':=by
    intro x k' hk'
    have hkk:k'∈bh (vL::vB::vs):=by rw[aT];exact List.mem_append_right _ hk'
    have e1:k'≠n:=by
      rintro rfl
      obtain⟨e,l,hkl⟩:=h5.arr hkk
      rw[h4]at hkl;cases hkl
    have e2:k'≠m:=by rintro rfl;exact hmn.2 hk'
    have e3:k'∉vL.kE:=fun hL=>hnd'.2.2 k' hL k' hk' rfl
    rw[ae _ _ e1]
    exact f3 k' e2 e3 (hnew k' hkk)
  refine hK _ ⟨bs0,j0,.ms m 0 ((List.map Loop.e s.loops).length+1),vB,vs,h1,h2,h3,by rw[an];simp[bU,setCells],?_⟩ fun q d hq hd=>?_
  · refine⟨Or.inr ⟨m,by simp,by rw[ae _ _ hnm.symm,f2];simp⟩,cg h5.oB fun k' q=>same k' (kf (by simp) q),h5.len,fun i v b hv hb=>cg (h5.oI i v b hv hb) fun k' q=>same k' (kf ?_ q),?_⟩
    · have:=List.mem_of_getElem? hv
      simp[this]
    · rw[aT]
      exact List.nodup_cons.2 ⟨hmn.2,hnd'.2.1⟩
  · rw[ae _ _ hq]
    have e2:q≠m:=by rintro rfl;rw[hd]at f1;cases f1
    have e3:q∉vL.kE:=fun hm=>by have:=ov h5.oL hm;rw[hd]at this;cases this
    rw[f3 q e2 e3 (by rw[hd];simp)];exact hd
structure EB (h:Heap) (n k:Nat) (arrs:D) (s:MS) (vL vB:D):Prop where
  st:∃(bs:List Nat) (j:Nat) (vs:List D),(∀b∈bs,b<=255)/\bs.length<=9223372036854775807/\j<=k/\h n=.box (bU bs j arrs s vL vB)/\Rows h s.loops s.blocks vL vB vs
theorem EB.rel {h:Heap}{n k:Nat}{arrs:D}{s:MS}{vL vB:D}(r:EB h n k arrs s vL vB):aI h n k arrs s:=by
  obtain⟨bs,j,vs,h1,h2,h3,h4,h5⟩:=r.st
  exact⟨bs,j,vL,vB,vs,h1,h2,h3,h4,h5⟩
theorem aI.v {h:Heap}{n k:Nat}{arrs:D}{s:MS}(r:aI h n k arrs s):∃vL vB,EB h n k arrs s vL vB:=by
  obtain⟨bs,j,vL,vB,vs,h1,h2,h3,h4,h5⟩:=r.st
  exact⟨vL,vB,bs,j,vs,h1,h2,h3,h4,h5⟩
theorem EB.new {h:Heap}{n k:Nat}{arrs:D}{s:MS}{vL vB:D}(r:EB h n k arrs s vL vB){m:Nat}(hm:h m=.free) (x:Slot):EB (aq h m x) n k arrs s vL vB/\m≠n:=by
  obtain⟨bs,j,vs,h1,h2,h3,h4,h5⟩:=r.st
  have hne:n≠m:=by rintro rfl;rw[h4]at hm;cases hm
  exact⟨⟨bs,j,vs,h1,h2,h3,by rw[ae _ _ hne];exact h4,h5.free hm x⟩,hne.symm⟩
theorem EB.eg {h:Heap}{n k:Nat}{arrs:D}{s:MS}{vL vB:D}(r:EB h n k arrs s vL vB){m:Nat}{d:D}(hm:h m=.box d) (hne:m≠n) (x:Slot):EB (aq h m x) n k arrs s vL vB:=by
  obtain⟨bs,j,vs,h1,h2,h3,h4,h5⟩:=r.st
  exact⟨bs,j,vs,h1,h2,h3,by rw[ae _ _ hne.symm];exact h4,h5.box hm x⟩
theorem EB.le {h:Heap}{n k k':Nat}{arrs:D}{s:MS}{vL vB:D}(r:EB h n k arrs s vL vB) (hk:k<=k'):EB h n k' arrs s vL vB:=by
  obtain⟨bs,j,vs,h1,h2,h3,h4,h5⟩:=r.st
  exact⟨bs,j,vs,h1,h2,by omega,h4,h5⟩
theorem w7 {h:Heap}{n k:Nat}{arrs:D}{s:MS}{vL vB:D}(r:EB h n k arrs s vL vB) (hk:k<1000000){KH:D->Heap->Prop}(hK:∀(b:Nat) (h':Heap),b<=255->EB h' n (k+1) arrs s vL vB->aC n h h'->KH (.int .i64 (b:Int)) h') :
    ai PP ah [.ptr n 0 0] h KH:=by
  obtain⟨bs,j,vs,h1,h2,h3,h4,h5⟩:=r.st
  refine Et h4 h1 h2 (by omega) fun b hb=>hK b _ hb ⟨bs,j+1,vs,h1,h2,by omega,an _ _ _,h5.box h4 _⟩ aC.self
theorem Gr {vL vB:D}{h:Heap}{n k:Nat}{arrs:D}{s:MS}(r:EB h n k arrs s vL vB) (hk:k<1000000){KH:D->Heap->Prop}(hK:∀(b:Nat) (h':Heap),b<6->EB h' n (k+1) arrs s vL vB->aC n h h'->KH (fM (b:Int)).e h') :
    ai PP aJ [.ptr n 0 0] h KH:=by
  refine ew jg (ab _ _ _) rfl (iZ _ _) ?_
  unfold gy
  rw[iB]
  intro m t
  obtain⟨r1,hne⟩:=r.new t.free (.box (.agg [(.int .i64 0),(.int .i64 0),(.int .i32 0)]))
  refine w7 r1 hk fun b h' hb r2 hkeep=>?_
  have hm:=hkeep m _ hne (an _ _ _)
  have e6:((b:Int).tmod 6)=((b % 6:Nat):Int):=aS b 6
  rw[bX]
  refine⟨by omega,?_⟩
  rw[e6]
  refine dI tS ⟨ca,trivial⟩ ?_
  simp only[↓rG,hm]
  refine⟨by first|rfl|trivial,(dO.xT _).one,by first|rfl|trivial,by simp,?_⟩
  have hset:setCells (.agg [(.int .i64 0),(.int .i64 0),(.int .i32 0)]) 0 (fM ((b % 6:Nat):Int)).e.cells=(fM ((b % 6:Nat):Int)).e:=rfl
  rw[hset]
  simp only[↓AB,an,true_and]
  refine⟨by simp[dO.e,dO.cs],?_⟩
  refine hK (b % 6) _ (Nat.mod_lt _ (by omega)) (r2.eg hm hne _) fun q d hq hd=>?_
  have hqm:q≠m:=by rintro rfl;rw[t.free]at hd;cases hd
  rw[ae _ _ hqm]
  exact hkeep q d hq (by rw[ae _ _ hqm];exact hd)
theorem JO {vL vB:D}{h:Heap}{n k:Nat}{arrs:D}{s:MS}(r:EB h n k arrs s vL vB) (hk:k<1000000){KH:D->Heap->Prop}(hK:∀(o:dO) (h':Heap),zH o->EB h' n (k+1) arrs s vL vB->aC n h h'->KH o.e h') :
    ai PP aG [.ptr n 0 0] h KH:=by
  refine ew jf (ab _ _ _) rfl (iX _ _) ?_
  unfold gx
  rw[iB]
  intro m t
  obtain⟨r1,hne⟩:=r.new t.free (.box (.agg [(.int .i64 0),(.int .i64 0),(.int .i32 0)]))
  refine w7 r1 hk fun b h' hb r2 hkeep=>?_
  have hm:=hkeep m _ hne (an _ _ _)
  have fin:∀o:dO,zH o->aa PP (.st (.c (.ptr m 0 0)) (.c o.e) 3) h' fun _ h1=>aa PP (.ld (.c (.ptr m 0 0)) 3 true) h1 fun a _=>KH a h1:=by
    intro o ho
    simp only[↓rG,hm]
    refine⟨by first|rfl|trivial,(dO.xT _).one,by first|rfl|trivial,by simp[dO.e,dO.cs],?_⟩
    have hset:setCells (.agg [(.int .i64 0),(.int .i64 0),(.int .i32 0)]) 0 o.e.cells=o.e:=rfl
    rw[hset]
    simp only[↓AB,an,true_and]
    refine⟨by simp[dO.e,dO.cs],?_⟩
    refine hK o _ ho (r2.eg hm hne _) fun q d hq hd=>?_
    have hqm:q≠m:=by rintro rfl;rw[t.free]at hd;cases hd
    rw[ae _ _ hqm]
    exact hkeep q d hq (by rw[ae _ _ hqm];exact hd)
  have e3:((b:Int).tmod 3)=((b % 3:Nat):Int):=aS b 3
  have d3:IntKind.i64.wrap ((b:Int).tdiv 3)=((b / 3:Nat):Int):=by
    have:((b:Int).tdiv 3)=((b / 3:Nat):Int):=(Int.ofNat_tdiv b 3).symm
    rw[this];exact wrap64 (by omega) (by omega)
  rw[bX]
  refine⟨by omega,?_⟩
  rw[e3,gI]
  by_cases hc:b % 3=0
  · have hc':((b % 3:Nat):Int)=0:=by omega
    simp only[hc',decide_true,aR,↓GN]
    refine⟨by omega,?_⟩
    have w:IntKind.i32.wrap ((b / 3:Nat):Int)=((b / 3:Nat):Int):=by simp only[IntKind.wrap,IntKind.signed,IntKind.bits];simp;omega
    have w2:IntKind.i32.wrap (((b / 3:Nat):Int)-20)=((b / 3:Nat):Int)-20:=by simp only[IntKind.wrap,IntKind.signed,IntKind.bits];simp;omega
    rw[d3,vj,w,kA,w2]
    refine dI sP ⟨ca,trivial⟩ ?_
    exact fin _ (Or.inr ⟨_,by omega,by omega,rfl⟩)
  · have hc':¬((b % 3:Nat):Int)=0:=by omega
    simp only[hc',decide_false,aO,↓GN]
    refine⟨by omega,?_⟩
    rw[d3,bX]
    refine⟨by omega,?_⟩
    have e6:(((b / 3:Nat):Int).tmod 6)=((b / 3 % 6:Nat):Int):=aS (b / 3) 6
    rw[e6]
    refine dI tS ⟨ca,trivial⟩ ?_
    exact fin _ (Or.inl ⟨b / 3 % 6,Nat.mod_lt _ (by omega),rfl⟩)
theorem dt {h:Heap}{n k:Nat}{arrs:D}{s:MS}{pre:List Block}{is:List aZ}{t0:Term}{vL vB:D}(r:EB h n k arrs (jr s pre is t0) vL vB) :
    ∃(bs:List Nat) (j:Nat) (nb:Nat),vB=.ms nb 0 (pre.length+1)/\h n=.box (.agg [nZ bs,.int .i64 (j:Int),.int .i64 s.group,.int .i64 s.sub,.int .i64 s.regs,.int .i64 0,.int .i64 3,arrs,vL,vB])/\(h n).used=true /\
      (∀(t:Term) {KH:D->Heap->Prop},(∀h',aI h' n k arrs (jr s pre is t)->aC n h h'->KH .undef h') ->
        ag PP (.iadd (.c vB) (.c (.int .i64 (pre.length:Int))) 14) h fun a=>ag PP (.fadd (.c a) 1) h fun b=>aa PP (.st (.c b) (.c t.e) 13) h KH):=by
  obtain⟨bs,j,vs,h1,h2,h3,h4,h5⟩:=r.st
  obtain⟨bs',j',vL',nb',e',eu,-,-,st⟩:=lG r.rel
  rw[h4]at e'
  simp only[bU,Slot.box.injEq,D.agg.injEq,List.cons.injEq,and_true]at e'
  obtain⟨q1,-,-,-,-,-,-,-,q3,q4⟩:=e'
  refine⟨bs,j,nb',q4,by rw[h4];rfl,eu,fun t KH hK=>?_⟩
  rw[q4]
  exact st t hK
theorem G5 {esz:Nat}{h:Heap}{v:D}{els:List D}(ho:Own esz h v els){K:D->Prop}:cJ v h K=K (.int .i64 (els.length:Int)):=by
  rcases ho with⟨rfl,rfl⟩|⟨m,rfl,hm⟩
  · rfl
  · rw[vO,hm];simp[Slot.live]
theorem G1 {h:Heap}{n k:Nat}{arrs:D}{s:MS}(r:aI h n k arrs s):∃(bs:List Nat) (j:Nat) (vL vB:D),
    h n=.box (bU bs j arrs s vL vB)/\(h n).used=true/\(∀K:D->Prop,cJ vL h K=K (.int .i64 (s.loops.length:Int))):=by
  obtain⟨bs,j,vL,vB,vs,h1,h2,h3,h4,h5⟩:=r.st
  exact⟨bs,j,vL,vB,h4,by rw[h4];rfl,fun K=>by rw[G5 h5.oL,List.length_map]⟩
def F0 (s:MS) (hd:Nat) (b:Int):MS:={ s with regs:=6+2*(s.loops.length:Int)+2,loops:=s.loops++[⟨(hd:Int),6+2*(s.loops.length:Int),b⟩] }
set_option maxHeartbeats 2000000 in
theorem MT {h:Heap}{n k:Nat}{s:MS}{pre:List Block}{is:List aZ}{t:Term}(r:aI h n k aW (jr s pre is t)) (hA:jm (pre.length+1) s.regs pre) (hX:ko s.regs is) (hi:is.length<=10) (hp:pre.length<=40)
    (hq:s.loops.length<=10) (hR:s.regs=6+2*(s.loops.length:Int)) (hk:k<600000) {KH:D->Heap->Prop}
    (hK:∀(b:Int) (bs:List Block) (h':Heap),1<=b->b<=3->bs.length=pre.length+3->jm (pre.length+4) (s.regs+2) bs->aI h' n (k+100) aW { F0 s (pre.length+1) b with blocks:=bs }->aC n h h'->KH (.tup []) h') :
    ai PP bG [.ptr n 0 0] h KH:=by
  refine ew qm (ab _ _ _) rfl (qi _ _) ?_
  unfold kU
  obtain⟨bs0,j0,vL0,vB0,e0,eu0,el0⟩:=G1 r
  unfold bU at e0
  have el0':∀K:D->Prop,cJ vL0 h K=K (.int .i64 (s.loops.length:Int)):=el0
  generalize hqe:s.loops.length=q at *
  simp only[↓Hc eu0,Nat.zero_add,Nat.reduceAdd,↓Iz e0 (j:=8) rfl,el0']
  rw[GO,wrap64 (by omega) (by omega),cZ,wrap64 (by omega) (by omega)]
  refine cB r (by omega) fun b h1 _ r1 k1=>?_
  rw[bX]
  refine⟨by omega,?_⟩
  rw[show((b:Int).tmod 3)=((b % 3:Nat):Int) from aS b 3,cZ,wrap64 (by omega) (by omega),cZ,wrap64 (by omega) (by omega)]
  have hb3:b % 3<3:=Nat.mod_lt _ (by omega)
  generalize hbe:1+((b % 3:Nat):Int)=bd
  have hbd1:1<=bd:=by omega
  have hbd2:bd<=3:=by omega
  obtain⟨-,-,-,-,-,eu1,-⟩:=G1 r1
  simp only[↓Hc eu1,Nat.zero_add,Nat.reduceAdd]
  refine Kk (v:=6+2*(q:Int)+2) r1 fun h2 r2 k2=>?_
  have r2:aI h2 n (k+1) aW (jr { s with regs:=6+2*(q:Int)+2 } pre is t):=r2
  obtain⟨bs2,j2,vL2,nb2,e2,eu2,lv2,-,-⟩:=lG r2
  simp only[↓Hc eu2,Nat.zero_add,Nat.reduceAdd,↓Iz e2 (j:=9) rfl,↓vO,lv2,true_and]
  refine dI tS ⟨ca,trivial⟩ ?_
  refine dI sP ⟨ca,trivial⟩ ?_
  have hB9:∀{is':List aZ},is'.length<=900->IA pre is' 900:=fun hh=>hA.MY (by omega) hh
  refine gu ⟨1,0,0,fM (6+2*(q:Int)),Const 0,ar,ar⟩ r2 (hB9 (by omega)) rfl rfl fun h3 r3 k3=>?_
  obtain⟨bs3,j3,vL3,nb3,e3,eu3,lv3,Lt,-⟩:=lG r3
  simp only[↓Hc eu3,Nat.zero_add,Nat.reduceAdd,↓Iz e3 (j:=9) rfl]
  rw[kA,wrap64 (by omega) (by omega),jG rfl,jG rfl,show((pre.length+1:Nat):Int)-1=(pre.length:Int) by omega]
  refine Lt ⟨1,0,ar,ar,ar,((pre.length+1:Nat):Int),0⟩ fun h4 r4 k4=>?_
  have kk4:=(((k1.trans k2).trans k3).trans k4)
  refine⟨fun qs h'=>qs=[.ptr n 0 0,.int .i64 (6+2*(q:Int)),.int .i64 bd,.int .i64 ((pre.length+1:Nat):Int)] /\
    aI h' n (k+1) aW (jr (F0 s (pre.length+1) bd) pre (is++[⟨1,0,0,fM (6+2*(q:Int)),Const 0,ar,ar⟩]) ⟨1,0,ar,ar,ar,((pre.length+1:Nat):Int),0⟩)/\aC n h h',?_,?_⟩
  · rintro f h5 ⟨hf,r5,k5⟩
    simp only[List.cons.injEq,and_true]at hf
    obtain⟨f0,f2,f3,f4⟩:=hf
    rw[f0,f2,f3,f4]
    clear Lt e3 e2 e0
    have hreg:(F0 s (pre.length+1) bd).regs=s.regs+2:=by simp only[F0,hqe];omega
    have rn:lB (s.regs+2) (fM (6+2*(q:Int))):=⟨_,by omega,by omega,rfl⟩
    have rn1:lB (s.regs+2) (fM (6+2*(q:Int)+1)):=⟨_,by omega,by omega,rfl⟩
    obtain⟨B1,hB1⟩:∃B:Block,B=⟨is++[⟨1,0,0,fM (6+2*(q:Int)),Const 0,ar,ar⟩],⟨1,0,ar,ar,ar,((pre.length+1:Nat):Int),0⟩⟩:=⟨_,rfl⟩
    have A1:jm (pre.length+4) (s.regs+2) (pre++[B1]):=(hA.mono (by omega) (by omega)).snoc (by
      rw[hB1]
      exact⟨(hX.mono (by omega)).append (.one (.mov _ _ rn (Or.inr ⟨0,by omega,by omega,rfl⟩)) (by simp)),by simp;omega,.jump (pre.length+1) (by omega)⟩)
    have r5':aI h5 n (k+1) aW { F0 s (pre.length+1) bd with blocks:=pre++[B1] }:=by rw[hB1];exact r5
    have l1:(pre++[B1]).length=pre.length+1:=by simp
    clear hB1 r5
    generalize pre++[B1]=pre1 at A1 r5' l1
    refine rR r5' (by omega) fun h6 r6 k6=>?_
    rw[cZ,wrap64 (by omega) (by omega)]
    refine dI tS ⟨ca,trivial⟩ ?_
    refine dI tS ⟨ca,trivial⟩ ?_
    rw[vj,show IntKind.i32.wrap bd=bd by simp only[IntKind.wrap,IntKind.signed,IntKind.bits];simp;omega]
    refine dI sP ⟨ca,trivial⟩ ?_
    refine gu ⟨3,26,0,fM (6+2*(q:Int)+1),fM (6+2*(q:Int)),Const bd,ar⟩ r6 (A1.MY (by omega) (by simp)) rfl rfl fun h7 r7 k7=>?_
    obtain⟨bs7,j7,vL7,nb7,e7,eu7,lv7,-,st7⟩:=lG r7
    simp only[↓ED eu7,Nat.zero_add,Nat.reduceAdd,↓rL e7 (j:=9) rfl]
    rw[cZ,wrap64 (by omega) (by omega)]
    refine D2 tS ⟨ca,trivial⟩ ?_
    rw[cZ,wrap64 (by omega) (by omega),cZ,wrap64 (by omega) (by omega),tQ rfl,tQ rfl]
    rw[l1]at st7 ⊢
    refine st7 ⟨2,0,ar,fM (6+2*(q:Int)+1),ar,((pre.length+1:Nat):Int)+1,((pre.length+1:Nat):Int)+2⟩ fun h8 r8 k8=>?_
    obtain⟨B2,hB2⟩:∃B:Block,B=⟨[]++[⟨3,26,0,fM (6+2*(q:Int)+1),fM (6+2*(q:Int)),Const bd,ar⟩],⟨2,0,ar,fM (6+2*(q:Int)+1),ar,((pre.length+1:Nat):Int)+1,((pre.length+1:Nat):Int)+2⟩⟩:=⟨_,rfl⟩
    have A2:jm (pre.length+4) (s.regs+2) (pre1++[B2]):=A1.snoc (by
      rw[hB2]
      exact⟨.one (.bin _ _ _ _ (by omega) rn1 rn.val (Or.inr ⟨bd,by omega,by omega,rfl⟩)) (by simp),by simp,.branch _ (pre.length+2) (pre.length+3) rn1 (by omega) (by omega)⟩)
    have r8':aI h8 n (k+1) aW { F0 s (pre.length+1) bd with blocks:=pre1++[B2] }:=by rw[hB2];exact r8
    have l2:(pre1++[B2]).length=pre.length+2:=by simp;omega
    clear hB2 r8 st7 e7
    generalize pre1++[B2]=pre2 at A2 r8' l2
    refine rR r8' (by omega) fun h9 r9 k9=>?_
    refine dI tS ⟨ca,trivial⟩ ?_
    refine dI tS ⟨ca,trivial⟩ ?_
    refine dI sP ⟨ca,trivial⟩ ?_
    refine gu ⟨3,10,0,fM (6+2*(q:Int)),fM (6+2*(q:Int)),Const 1,ar⟩ r9 (A2.MY (by omega) (by simp)) rfl rfl fun h10 r10 k10=>?_
    refine Bi r10 (A2.MY (by omega) (by simp)) (by omega) fun xs h11 hxs hxl r11 k11=>?_
    obtain⟨bs11,j11,vL11,nb11,e11,eu11,lv11,st11,-⟩:=lG r11
    simp only[↓Hc eu11,Nat.zero_add,Nat.reduceAdd,↓Iz e11 (j:=9) rfl]
    rw[cZ,wrap64 (by omega) (by omega),jG rfl,jG rfl]
    rw[l2]at st11 ⊢
    rw[show((pre.length+1:Nat):Int)+1=((pre.length+2:Nat):Int) by omega]
    refine st11 ⟨1,0,ar,ar,ar,((pre.length+1:Nat):Int),0⟩ fun h12 r12 k12=>?_
    clear st11 e11
    have hxs2:ko (s.regs+2) ([]++[⟨3,10,0,fM (6+2*(q:Int)),fM (6+2*(q:Int)),Const 1,ar⟩]++xs) :=
      (ko.one (.bin _ _ _ _ (by omega) rn rn.val (Or.inr ⟨1,by omega,by omega,rfl⟩)) (by simp)).append (hxs.mono (by omega))
    have hxl2:([]++[⟨3,10,0,fM (6+2*(q:Int)),fM (6+2*(q:Int)),Const 1,ar⟩]++xs:List aZ).length<=20:=by simp;omega
    generalize ([]++[⟨3,10,0,fM (6+2*(q:Int)),fM (6+2*(q:Int)),Const 1,ar⟩]++xs:List aZ)=ys at hxs2 hxl2 r12
    have kk:=((((((k5.trans k6).trans k7).trans k8).trans k9).trans k10).trans k11).trans k12
    refine⟨fun qs h'=>∃c:Bool,qs=[.ptr n 0 0,.int .i64 ((pre.length+1:Nat):Int),.bool c]/\aI h' n (k+52) aW (jr (F0 s (pre.length+1) bd) pre2 ys ⟨1,0,ar,ar,ar,((pre.length+1:Nat):Int),0⟩)/\aC n h h',?_,?_⟩
    · rintro g h13 ⟨c,hg,r13,k13⟩
      simp only[List.cons.injEq,and_true]at hg
      obtain⟨g0,g4,g119⟩:=hg
      rw[g0,g4,g119]
      cases c with
      | false =>
        rw[aO]
        exact hK bd _ h13 hbd1 hbd2 (by simp;omega) (A2.snoc ⟨hxs2,hxl2,.jump (pre.length+1) (by omega)⟩) (r13.le (by omega)) k13
      | true =>
        rw[aR]
        obtain⟨vL13,vB13,r13⟩:=r13.v
        obtain⟨bs13,j13,nb13,ev13,e13,eu13,-⟩:=dt r13
        simp only[↓ED eu13,Nat.zero_add,Nat.reduceAdd,↓rL e13 (j:=9) rfl]
        rw[cZ,wrap64 (by omega) (by omega),cZ,wrap64 (by omega) (by omega),tQ rfl]
        refine Gr r13 (by omega) fun d h14 hd r14 k14=>?_
        obtain⟨bs14,j14,nb14,ev14,e14,eu14,st14⟩:=dt r14
        simp only[↓ED eu14,Nat.zero_add,Nat.reduceAdd,↓rL e14 (j:=9) rfl,aA,true_and]
        rw[tQ rfl,show((pre.length+1:Nat):Int)+1=(pre2.length:Int) by omega]
        refine st14 ⟨2,0,ar,fM d,ar,((pre.length+1:Nat):Int),((pre.length+1:Nat):Int)+2⟩ fun h15 r15 k15=>?_
        exact hK bd _ h15 hbd1 hbd2 (by simp;omega) (A2.snoc ⟨hxs2,hxl2,.branch (fM d) (pre.length+1) (pre.length+3) ((cu hd).mono (by omega)) (by omega) (by omega)⟩) (r15.le (by omega)) ((k13.trans k14).trans k15)
    · refine cB r12 (by omega) fun b' h13 _ r13 k13=>?_
      rw[bX]
      refine⟨by omega,?_⟩
      rw[gI]
      exact⟨rfl,_,rfl,r13.le (by omega),kk.trans k13⟩
  · obtain⟨bs4,j4,vL4,vB4,e4,eu4,-⟩:=G1 r4
    have e4':=e4
    unfold bU at e4'
    simp only[↓Hc eu4,Nat.zero_add,Nat.reduceAdd,↓Iz e4' (j:=8) rfl]
    rw[jG rfl]
    refine app_loop (l:=⟨((pre.length+1:Nat):Int),6+2*(q:Int),bd⟩) r4 (by simp only[jr];omega) (by omega) e4 fun h5 r5 k5=>?_
    refine⟨by first|rfl|trivial,by first|rfl|trivial,?_,kk4.trans k5⟩
    have:F0 s (pre.length+1) bd={ s with regs:=6+2*(q:Int)+2,loops:=s.loops++[⟨((pre.length+1:Nat):Int),6+2*(q:Int),bd⟩] }:=by rw[F0,hqe]
    rw[this]
    exact r5
end Go.Am
namespace Go.Am
open Go
set_option maxHeartbeats 2000000 in
theorem Fs {h:Heap}{n k m:Nat}{s:MS}{bs:List Block}(r:aI h n k aW { s with blocks:=bs }) (hA:jm (bs.length+1) s.regs bs) (hl:bs.length<=40) (hR:6<=s.regs) (hm:m<=2) (hk:k<500000){KH:D->Heap->Prop}
    (hK:∀(pre:List Block) (is:List aZ) (h':Heap),pre.length=bs.length+m->jm (pre.length+1) s.regs pre->ko 6 is->is.length<=8->aI h' n (k+300) aW (jr s pre is ic)->aC n h h'->KH (.tup []) h') :
    ai PP bN [.ptr n 0 0,.int .i64 (m:Int)] h KH:=by
  refine ew nF (ab _ _ _) rfl (nw _ _ _) ?_
  unfold iY
  refine rR r (by omega) fun h1 r1 k1=>?_
  obtain⟨bs1,j1,vL1,nb1,e1,eu1,lv1,-,-⟩:=lG r1
  simp only[↓Hc eu1,Nat.zero_add,Nat.reduceAdd,↓Iz e1 (j:=9) rfl,↓vO,lv1,true_and]
  rw[kA,wrap64 (by omega) (by omega),cZ,wrap64 (by omega) (by omega),show((bs.length+1:Nat):Int)-1=(bs.length:Int) by omega]
  refine⟨fun qs h'=>qs=[]/\∃pre:List Block,pre.length=bs.length+m/\jm (pre.length+1) s.regs pre/\aI h' n (k+200) aW (jr s pre [] ic)/\aC n h h',?_,?_⟩
  · rintro f h2 ⟨-,pre,hpl,hpA,r2,k2⟩
    refine Bi r2 (hpA.MY (by omega) (by simp)) (by omega) fun xs h3 hx hxl r3 k3=>?_
    exact hK pre xs h3 hpl hpA hx hxl (r3.le (by omega)) (k2.trans k3)
  · unfold fH
    refine⟨fun j qs h'=>j<=m/\qs=[.int .i64 ((bs.length+(m-j):Nat):Int)]/\∃pre:List Block,pre.length=bs.length+(m-j)/\jm (bs.length+m+1) s.regs pre/\aI h' n (k+80*(m-j)) aW (jr s pre [] ic)/\aC n h h',m,⟨Nat.le_refl _,by simp,bs,by simp,hA.mono (by omega) (by omega),by simpa using r1,k1⟩,?_⟩
    rintro j f h2 ⟨hj,hq,pre,hpl,hpA,r2,k2⟩
    simp only[List.cons.injEq,and_true]at hq
    rw[hq,tu,show(bs.length:Int)+(m:Int)=((bs.length+m:Nat):Int) by omega]
    by_cases h0:0<j
    · simp only[show(((bs.length+(m-j):Nat):Int)<((bs.length+m:Nat):Int))=True from eq_true (by omega),decide_true,↓aR]
      refine Bi r2 (hpA.MY (by omega) (by simp)) (by omega) fun xs h3 hx hxl r3 k3=>?_
      rw[List.nil_append]at r3
      obtain⟨bs3,j3,vL3,nb3,e3,eu3,lv3,Lt,-⟩:=lG r3
      simp only[↓Hc eu3,Nat.zero_add,Nat.reduceAdd,↓Iz e3 (j:=9) rfl]
      rw[cZ,wrap64 (by omega) (by omega),jG rfl,jG rfl]
      rw[show((bs.length+(m-j):Nat):Int)+1=((bs.length+(m-j)+1:Nat):Int) by omega]
      rw[hpl]at Lt ⊢
      refine Lt ⟨1,0,ar,ar,ar,((bs.length+(m-j)+1:Nat):Int),0⟩ fun h4 r4 k4=>?_
      clear Lt e3
      have kk4:=(k2.trans k3).trans k4
      refine⟨fun qs h'=>qs=[]/\∃T:Term,JZ (bs.length+m+1) s.regs T/\aI h' n (k+80*(m-j)+60) aW (jr s pre xs T)/\aC n h h',?_,?_⟩
      · rintro g h5 ⟨-,T,hT,r5,k5⟩
        have A5:jm (bs.length+m+1) s.regs (pre++[⟨xs,T⟩]):=hpA.snoc ⟨hx.mono hR,by simp only;omega,hT⟩
        refine rR (bs:=pre++[⟨xs,T⟩]) r5 (by simp;omega) fun h6 r6 k6=>?_
        rw[cZ,wrap64 (by omega) (by omega)]
        refine⟨rfl,j-1,by omega,by omega,?_,pre++[⟨xs,T⟩],by simp;omega,A5,r6.le (by omega),k5.trans k6⟩
        congr 2
        omega
      · refine cB r4 (by omega) fun b h5 _ r5 k5=>?_
        rw[bX]
        refine⟨by omega,?_⟩
        rw[show((b:Int).tmod 2)=((b % 2:Nat):Int) from aS b 2,gI]
        by_cases hb2:b % 2=0
        · simp only[show(((b % 2:Nat):Int)=0)=True from eq_true (by omega),decide_true,↓aR]
          obtain⟨vL5,vB5,r5⟩:=r5.v
          obtain⟨bs5,j5,nb5,ev5,e5,eu5,-⟩:=dt r5
          simp only[↓ED eu5,Nat.zero_add,Nat.reduceAdd,↓rL e5 (j:=9) rfl]
          rw[cZ,wrap64 (by omega) (by omega),kA,wrap64 (by omega) (by omega),cZ,wrap64 (by omega) (by omega),kA,wrap64 (by omega) (by omega)]
          refine Gr r5 (by omega) fun d h6 hd r6 k6=>?_
          obtain⟨bs6,j6,nb6,ev6,e6,eu6,-⟩:=dt r6
          simp only[↓ED eu6,Nat.zero_add,Nat.reduceAdd,↓rL e6 (j:=9) rfl,aA,true_and]
          refine w7 r6 (by omega) fun x h7 _ r7 k7=>?_
          obtain⟨bs7,j7,nb7,ev7,e7,eu7,-⟩:=dt r7
          simp only[↓ED eu7,Nat.zero_add,Nat.reduceAdd,↓rL e7 (j:=9) rfl,aA,true_and]
          rw[bX]
          refine⟨by omega,?_⟩
          rw[show((bs.length+m:Nat):Int)-((bs.length+(m-j):Nat):Int)=(j:Int) by omega,show((x:Int).tmod (j:Int))=((x % j:Nat):Int) from aS x j]
          have hx1:x % j<j:=Nat.mod_lt _ h0
          rw[cZ,wrap64 (by omega) (by omega)]
          refine w7 r7 (by omega) fun y h8 _ r8 k8=>?_
          obtain⟨bs8,j8,nb8,ev8,e8,eu8,st8⟩:=dt r8
          simp only[↓ED eu8,Nat.zero_add,Nat.reduceAdd,↓rL e8 (j:=9) rfl,aA,true_and]
          rw[bX]
          refine⟨by omega,?_⟩
          rw[show((y:Int).tmod (j:Int))=((y % j:Nat):Int) from aS y j]
          have hy1:y % j<j:=Nat.mod_lt _ h0
          rw[cZ,wrap64 (by omega) (by omega),tQ rfl,tQ rfl]
          rw[hpl]at st8
          refine st8 ⟨2,0,ar,fM d,ar,((bs.length+(m-j):Nat):Int)+1+((x % j:Nat):Int),((bs.length+(m-j):Nat):Int)+1+((y % j:Nat):Int)⟩ fun h9 r9 k9=>?_
          try simp only[aA,true_and]
          refine⟨_,?_,r9.le (by omega),((((kk4.trans k5).trans k6).trans k7).trans k8).trans k9⟩
          have e1:((bs.length+(m-j):Nat):Int)+1+((x % j:Nat):Int)=((bs.length+(m-j)+1+x % j:Nat):Int):=by omega
          have e2:((bs.length+(m-j):Nat):Int)+1+((y % j:Nat):Int)=((bs.length+(m-j)+1+y % j:Nat):Int):=by omega
          rw[e1,e2]
          exact .branch _ _ _ ((cu hd).mono hR) (by omega) (by omega)
        · simp only[show(((b % 2:Nat):Int)=0)=False from eq_false (by omega),decide_false,↓aO]
          try simp only[aA,true_and]
          exact⟨_,.jump _ (by omega),r5.le (by omega),kk4.trans k5⟩
    · simp only[show(((bs.length+(m-j):Nat):Int)<((bs.length+m:Nat):Int))=False from eq_false (by omega),decide_false,↓aO]
      have hj0:j=0:=by omega
      subst hj0
      try simp only[aA,true_and]
      exact⟨pre,by omega,by rw[hpl];exact hpA.mono (by omega) (by omega),r2.le (by omega),k2⟩
end Go.Am
namespace Go.Am
open Go
theorem Ea {esz:Nat}{h:Heap}{v:D}{els:List D}(ho:Own esz h v els) (hv:∀x∈els,∀y∈x.cells,y.vone=true):lV h v/\(v.fzc h).vone=true/\v.one=true/\Wk (v.fzc h) (.sl els):=by
  rcases ho with⟨rfl,rfl⟩|⟨m,rfl,hm⟩
  · exact⟨trivial,rfl,rfl,.nil⟩
  · have hrow:(h m).row=some (esz,els):=by rw[hm];rfl
    have e:(D.ms m 0 els.length).fzc h=.sl els:=by simp[D.fzc,hrow]
    exact⟨⟨esz,els,hrow,by simp,fun x hx=>hv x (by simpa using hx)⟩,by rw[e];rfl,rfl,by rw[e];exact .refl _⟩
theorem Cc {l:List aZ}:∀x,x∈l.map aZ.e->∀y∈x.cells,y.vone=true:=by
  intro x hx y hy
  obtain⟨a,-,rfl⟩:=List.mem_map.1 hx
  simp[aZ.e,aZ.cs]at hy
  rcases hy with rfl|rfl|rfl|rfl|rfl|rfl|rfl|rfl|rfl|rfl|rfl|rfl|rfl|rfl|rfl<;>rfl
theorem F1 {l:List Loop}:∀x,x∈l.map Loop.e->∀y∈x.cells,y.vone=true:=by
  intro x hx y hy
  obtain⟨a,-,rfl⟩:=List.mem_map.1 hx
  simp[Loop.e]at hy
  rcases hy with rfl|rfl|rfl<;>rfl
theorem mI {t:Term}:∀x∈t.cs,x.vone=true/\x.kE=[]/\(∀h,x.fzc h=x/\lV h x):=by
  intro x hx
  simp[Term.cs]at hx
  rcases hx with rfl|rfl|rfl|rfl|rfl|rfl|rfl|rfl|rfl|rfl|rfl|rfl|rfl<;>exact⟨rfl,rfl,fun h=>⟨rfl,trivial⟩⟩
theorem GQ {t:Term}{h:Heap}:t.cs.map (D.fzc h)=t.cs:=by
  rw[List.map_congr_left (fun x hx=>((mI x hx).2.2 h).1)];simp
theorem DM {vs:List D}{bs:List Block}(hl:vs.length=bs.length){e:D}(he:e∈bu vs bs):∃(i:Nat) (v:D) (b:Block),vs[i]?=some v/\bs[i]?=some b/\e=.agg (v::b.t.cs):=by
  obtain⟨i,hi⟩:=List.getElem?_of_mem he
  simp only[bu,List.getElem?_zipWith]at hi
  cases hv:vs[i]? with
  | none=>simp[hv]at hi
  | some v =>
    cases hb:bs[i]? with
    | none=>simp[hv,hb]at hi
    | some b=>simp only[hv,hb,Option.some.injEq]at hi;exact⟨i,v,b,hv,hb,hi.symm⟩
theorem Jl {h:Heap}{loops:List Loop}{blocks:List Block}{vL vB:D}{vs:List D}(r:Rows h loops blocks vL vB vs) (hne:blocks≠[]) (g sb rg:Int) :
    ∃h'',Iw h h''/\gG (.agg [.int .i64 g,.int .i64 sb,.int .i64 rg,.int .i64 0,.int .i64 3,aW,vL,vB])/\rV h'' (.agg [.int .i64 g,.int .i64 sb,.int .i64 rg,.int .i64 0,.int .i64 3,aW,vL,vB]) /\
      ((D.agg [.int .i64 g,.int .i64 sb,.int .i64 rg,.int .i64 0,.int .i64 3,aW,vL,vB]).fzt h'').FQ=true /\
      Wk ((D.agg [.int .i64 g,.int .i64 sb,.int .i64 rg,.int .i64 0,.int .i64 3,aW,vL,vB]).fzt h'') (Code.e ⟨g,sb,rg,0,3,tT,loops,blocks⟩):=by
  have hel:=fG r.len
  obtain⟨nb,e1,e2⟩:=wc r.oB (by
    intro he
    have:=congrArg List.length he
    rw[hel]at this
    exact hne (List.length_eq_zero_iff.1 this))
  subst e1
  obtain⟨hs1,hs2⟩:=wg r.nd
  have names:∀k,k∈(bu vs blocks).flatMap D.nm->k∈bh vs:=by
    intro k hk
    obtain⟨e,he,hke⟩:=List.mem_flatMap.1 hk
    obtain⟨i,v,b,hv,hb,rfl⟩:=DM r.len he
    simp only[D.nm,List.mem_flatMap,List.mem_cons]at hke
    obtain⟨x,hx|hx,hkx⟩:=hke
    · subst hx;exact kf (List.mem_of_getElem? hv) hkx
    · rw[(mI x hx).2.1]at hkx;cases hkx
  have hd:Hv h nb 14 (bu vs blocks):=by
    refine⟨fun hm=>hs1 (by rw[aT];exact List.mem_append_right _ (names nb hm)),fun e he=>?_⟩
    obtain⟨i,v,b,hv,hb,rfl⟩:=DM r.len he
    obtain⟨f1,f2,f3,-⟩:=Ea (r.oI i v b hv hb) Cc
    refine⟨fun x hx=>?_,fun x hx=>?_,fun y hy=>?_⟩
    · simp only[D.cells,List.mem_cons]at hx
      rcases hx with rfl|hx
      · exact f3
      · exact D.fO (mI x hx).1
    · simp only[D.cells,List.mem_cons]at hx
      rcases hx with rfl|hx
      · exact f1
      · exact((mI x hx).2.2 h).2
    · simp only[D.fz,D.cells,List.map_cons,List.mem_cons]at hy
      rcases hy with rfl|hy
      · exact f2
      · rw[GQ]at hy
        exact(mI y hy).1
  refine⟨E7 h nb 14 (bu vs blocks),.step e2 hd (.refl _),?_⟩
  obtain⟨hI,eI⟩:∃hI,hI=E7 h nb 14 (bu vs blocks):=⟨_,rfl⟩
  rw[<- eI]
  have hnb:hI nb=.arr 14 ((bu vs blocks).map (D.fz h)):=by rw[eI];exact HY
  have oL:Own 3 hI vL (loops.map Loop.e):=cg r.oL fun k hk=>by
    rw[eI]
    refine F5 ?_ fun hm=>?_
    · rintro rfl;exact hs1 (by rw[aT];exact List.mem_append_left _ hk)
    · rw[aT]at hs2
      exact(List.nodup_append.1 hs2).2.2 k hk k (names k hm) rfl
  obtain⟨l1,l2,l3,l4⟩:=Ea oL F1
  have hrow:(hI nb).row=some (14,(bu vs blocks).map (D.fz h)):=by rw[hnb];rfl
  have eB:(D.ms nb 0 (bu vs blocks).length).fzc hI=.sl ((bu vs blocks).map (D.fz h)):=by
    simp only[D.fzc,hrow,List.drop_zero]
    rw[List.take_of_length_le (by simp)]
  have e:(D.agg [.int .i64 g,.int .i64 sb,.int .i64 rg,.int .i64 0,.int .i64 3,aW,vL,.ms nb 0 (bu vs blocks).length]).fzt hI =
      .agg [.int .i64 g,.int .i64 sb,.int .i64 rg,.int .i64 0,.int .i64 3,aW,vL.fzc hI,.sl ((bu vs blocks).map (D.fz h))]:=by
    simp only[D.fzt,D.fz,List.map_cons,List.map_nil,eB]
    rfl
  refine⟨fun x hx=>?_,fun x hx=>?_,?_,?_⟩
  · simp only[D.cells,List.mem_cons,List.not_mem_nil,or_false]at hx
    rcases hx with rfl|rfl|rfl|rfl|rfl|rfl|rfl|rfl<;>first|rfl|exact l3
  · simp only[D.cells,List.mem_cons,List.not_mem_nil,or_false]at hx
    rcases hx with rfl|rfl|rfl|rfl|rfl|rfl|rfl|rfl<;>first|exact trivial|exact l1|skip
    refine⟨14,_,hrow,by simp,fun x hx y hy=>?_⟩
    have hx:=List.mem_of_mem_drop (List.mem_of_mem_take hx)
    obtain⟨a,ha,rfl⟩:=List.mem_map.1 hx
    exact(hd.el a ha).2.2 y hy
  · rw[e]
    show([D.int .i64 g,.int .i64 sb,.int .i64 rg,.int .i64 0,.int .i64 3,aW,vL.fzc hI,.sl ((bu vs blocks).map (D.fz h))].all D.vone)=true
    simp only[List.all_cons,List.all_nil,EI,l2,aW,GL,Bool.and_true,Bool.and_self]
  · rw[e]
    refine Wk.NY (.cons (.refl _) (.cons (.refl _) (.cons (.refl _) (.cons (.refl _) (.cons (.refl _) (.cons (.refl _) (.cons l4 (.cons ?_ .nil))))))))
    refine .sl _ _ (by simp[hel]) fun i x y hx hy=>?_
    simp only[List.getElem?_map,Option.map_eq_some_iff]at hx hy
    obtain⟨x,hx,rfl⟩:=hx
    obtain⟨b,hb,rfl⟩:=hy
    obtain⟨v,hv⟩:∃v,vs[i]?=some v:=by
      have:=(List.getElem?_eq_some_iff.1 hb).1
      exact⟨vs[i]'(by rw[r.len];exact this),List.getElem?_eq_getElem _⟩
    rw[yL hv hb]at hx
    cases hx
    simp only[D.fz,List.map_cons,GQ,Block.e]
    exact Wk.NY (.cons (Ea (r.oI i v b hv hb) Cc).2.2.2 .rfl)
theorem JR:bf PP gd [] (· = aW):=by
  refine jW xC (ab _ _ _) rfl (xb _) ?_
  unfold rT
  rw[jG rfl,jG rfl,jG rfl,jG rfl,jG rfl]
  refine⟨nr rfl,fun _=>?_,fun n t=>?_⟩
  · intro p hp
    simp[Arg.get]at hp
    rcases hp with rfl|rfl|rfl|rfl|rfl<;>(intro x hx;simp[D.cells,fillD]at hx;rcases hx with rfl|rfl|rfl|rfl<;>exact trivial)
  · show FP _ (.ms n 0 5) (aq eH n (.arr 4 (tT.map EC.e)))
    refine Kd (n:=n) (els:=tT.map EC.e) (esz:=4) (by rw[an];rfl) ?_ rfl
    intro x hx y hy
    obtain⟨a,-,rfl⟩:=List.mem_map.1 hx
    simp[EC.e]at hy
    rcases hy with rfl|rfl|rfl|rfl<;>rfl
def LO (N:Nat) (R:Int) (l:Loop):Prop:=(∃hd:Nat,l.head=hd/\hd<N)/\(0<=l.reg/\l.reg<R)/\1<=l.bound/\l.bound<=3
structure eP (c:Code):Prop where
  group:c.group=4\/c.group=1\/c.group=2\/c.group=8\/c.group=6
  sub:c.sub=1\/c.sub=2\/c.sub=4\/c.sub=8
  dvd:c.group.tmod c.sub=0
  regs:c.regs=6+2*(c.loops.length:Int)
  slots:c.slots=0
  params:c.params=3
  arrays:c.arrays=tT
  nl:c.loops.length<=3
  loops:∀l∈c.loops,LO c.b.length c.regs l
  nb:1<=c.b.length/\c.b.length<=18
  b:jm c.b.length c.regs c.b
def uL (bs:List Nat):D:=.agg [nZ bs]
def z8:D:=.agg [.int .i64 0,.int .i64 0,.int .i64 0,.int .i64 0,.int .i64 0,.nil,.nil,.nil]
structure Hd (g sb:Int):Prop where
  group:g=4\/g=1\/g=2\/g=8\/g=6
  sub:sb=1\/sb=2\/sb=4\/sb=8
  dvd:g.tmod sb=0
structure GG (s:MS) (bs:List Block) (q:Nat):Prop where
  hd:Hd s.group s.sub
  regs:s.regs=6+2*(s.loops.length:Int)
  nl:s.loops.length<=q
  nb:bs.length<=6*q
  loops:∀l∈s.loops,LO bs.length s.regs l
  b:jm (bs.length+1) s.regs bs
theorem I7 {h:Heap}:Rows h [] [] .nil .nil []:=⟨Or.inl ⟨rfl,rfl⟩,Or.inl ⟨rfl,rfl⟩,rfl,fun k v b hv=>by simp at hv,by simp[bh,D.kE]⟩
theorem E0 {h:Heap}{n k:Nat}{s:MS}{pre:List Block}{is:List aZ}{q:Nat}(hs:Hd s.group s.sub) (hR:s.regs=6+2*(s.loops.length:Int)) (hl:s.loops.length<=q) (hq:q<=9) (hp:pre.length<=6*q+2) (hq2:q<=2)
    (hL:∀l∈s.loops,LO (pre.length+1) s.regs l) (hA:jm (pre.length+1) s.regs pre) (hX:ko 6 is) (hi:is.length<=8) (r:aI h n k aW (jr s pre is ic)) (hk:k<400000) {KH:D->Heap->Prop}
    (hK:∀(s':MS) (pre':List Block) (h':Heap),s'.group=s.group->s'.sub=s.sub->s'.regs=6+2*(s'.loops.length:Int)->s'.loops.length<=q+1->pre'.length<=6*q+5->(∀l,l∈s'.loops->LO (pre'.length+1) s'.regs l)->jm (pre'.length+1) s'.regs pre' ->
      aI h' n (k+100) aW (jr s' pre' [] ic)->aC n h h'->KH (.tup []) h') :
    ai PP bG [.ptr n 0 0] h fun _ h1=>ai PP aP [.ptr n 0 0] h1 KH:=by
  refine MT r hA (hX.mono (by omega)) (by omega) (by omega) (by omega) hR (by omega) fun b bs h1 hb1 hb2 hbl hbA r1 k1=>?_
  refine rR (bs:=bs) r1 (by omega) fun h2 r2 k2=>?_
  have hreg:(F0 s (pre.length+1) b).regs=s.regs+2:=by simp only[F0];omega
  refine hK (F0 s (pre.length+1) b) bs h2 rfl rfl ?_ ?_ (by omega) ?_ ?_ r2 (k1.trans k2)
  · simp only[F0,List.length_append,List.length_singleton];omega
  · simp only[F0,List.length_append,List.length_singleton];omega
  · intro l hl
    rw[hreg]
    simp only[F0,List.mem_append,List.mem_singleton]at hl
    rcases hl with hl|rfl
    · obtain⟨⟨hd,e1,e2⟩,e3,e4⟩:=hL l hl
      exact⟨⟨hd,e1,by omega⟩,⟨e3.1,by omega⟩,e4⟩
    · exact⟨⟨pre.length+1,rfl,by omega⟩,⟨by simp only;omega,by simp only;omega⟩,hb1,hb2⟩
  · rw[hreg]
    exact hbA.mono (by omega) (by omega)
set_option maxHeartbeats 4000000 in
theorem KL {h:Heap}{n nz k c:Nat}{s:MS}(hne:nz≠n) (hc:c<=2) (hs:GG s [] 0) (r:aI h n k aW { s with blocks:=[] }) (hk:k<=1000) (hz:h nz=.box z8){J:List D->Heap->Prop}
    (hJ:∀(s':MS) (bs:List Block) (h':Heap),GG s' bs 2->aI h' n (k+2000) aW { s' with blocks:=bs }->h' nz=.box z8->J [] h') :
    jw (.int .i64 (c:Int)) h (.ptr nz 0 0) (.ptr n 0 0) J:=by
  unfold jw
  refine⟨fun j qs h'=>j<=c/\qs=[.int .i64 (j:Int)]/\∃(s':MS) (bs:List Block),GG s' bs (c-j)/\aI h' n (k+1000*(c-j)) aW { s' with blocks:=bs }/\h' nz=.box z8,c,⟨Nat.le_refl _,rfl,s,[],by simpa using hs,by simpa using r,hz⟩,?_⟩
  rintro j f h1 ⟨hj,hq,s1,bs,hs1,r1,hz1⟩
  simp only[List.cons.injEq,and_true]at hq
  rw[hq,Bm]
  by_cases h0:0<j
  · simp only[show((0:Int)<(j:Int))=True from eq_true (by omega),decide_true,↓aR]
    have nl:=hs1.nl
    have nb:=hs1.nb
    refine⟨fun qs h'=>qs=[]/\∃(s':MS) (bs:List Block),GG s' bs (c-(j-1))/\aI h' n (k+1000*(c-j)+1000) aW { s' with blocks:=bs }/\h' nz=.box z8,?_,?_⟩
    · rintro g h2 ⟨-,s2,bs2,hs2,r2,hz2⟩
      rw[kA,wrap64 (by omega) (by omega)]
      refine⟨rfl,j-1,by omega,by omega,by congr 2;omega,s2,bs2,hs2,r2.le (by omega),hz2⟩
    · refine cB r1 (by omega) fun b h2 _ r2 k2=>?_
      rw[bX]
      refine⟨by omega,?_⟩
      rw[show((b:Int).tmod 3)=((b % 3:Nat):Int) from aS b 3]
      have hm:b % 3<3:=Nat.mod_lt _ (by omega)
      refine Fs r2 hs1.b (by omega) (by have:=hs1.regs;omega) (by omega) (by omega) fun pre is h3 hpl hpA hX hi r3 k3=>?_
      have hz3:=k3 nz _ hne (k2 nz _ hne hz1)
      have hLp:∀l∈s1.loops,LO (pre.length+1) s1.regs l:=fun l hl=>by
        obtain⟨⟨hd,e1,e2⟩,e3⟩:=hs1.loops l hl
        exact⟨⟨hd,e1,by omega⟩,e3⟩
      refine⟨fun qs h'=>qs=[]/\∃(s':MS) (pre':List Block) (is':List aZ),Hd s'.group s'.sub/\s'.regs=6+2*(s'.loops.length:Int)/\s'.loops.length<=(c-j)+1/\pre'.length<=6*(c-j)+5/\(∀l,l∈s'.loops->LO (pre'.length+1) s'.regs l) /\
        jm (pre'.length+1) s'.regs pre'/\ko s'.regs is'/\is'.length<=8/\aI h' n (k+1000*(c-j)+500) aW (jr s' pre' is' ic)/\h' nz=.box z8,?_,?_⟩
      · rintro g h4 ⟨-,s4,pre4,is4,g1,g2,g3,g4,g5,g6,g7,g8,r4,hz4⟩
        obtain⟨bs4,j4,vL4,nb4,e4,eu4,lv4,st4,-⟩:=lG r4
        simp only[↓Hc eu4,Nat.zero_add,Nat.reduceAdd,↓Iz e4 (j:=9) rfl,↓vO,lv4,true_and]
        rw[kA,wrap64 (by omega) (by omega)]
        rw[show((pre4.length+1:Nat):Int)-1=(pre4.length:Int) by omega,cZ,wrap64 (by omega) (by omega),jG rfl,jG rfl]
        have hT:∀(T:Term) (h':Heap),JZ (pre4.length+2) s4.regs T->aI h' n (k+1000*(c-j)+600) aW (jr s4 pre4 is4 T)->h' nz=.box z8 ->
            ∃(s':MS) (bs:List Block),GG s' bs (c-(j-1))/\aI h' n (k+1000*(c-j)+1000) aW { s' with blocks:=bs }/\h' nz=.box z8:=by
          intro T h' hT r' hz'
          refine⟨s4,pre4++[⟨is4,T⟩],⟨g1,g2,by omega,by simp;omega,?_,?_⟩,r'.le (by omega),hz'⟩
          · simp only[List.length_append,List.length_singleton];exact g5
          · simp only[List.length_append,List.length_singleton]
            exact(g6.mono (by omega) (by omega)).snoc ⟨g7,by simp only;omega,hT⟩
        refine st4 ⟨3,0,ar,ar,ar,(pre4.length:Int)+1,0⟩ fun h5 r5 k5=>?_
        have hz5:=k5 nz _ hne hz4
        refine cB r5 (by omega) fun b5 h6 _ r6 k6=>?_
        have hz6:=k6 nz _ hne hz5
        rw[bX]
        refine⟨by omega,?_⟩
        rw[show((b5:Int).tmod 3)=((b5 % 3:Nat):Int) from aS b5 3,gI]
        by_cases hb3:b5 % 3=0
        · simp only[show(((b5 % 3:Nat):Int)=0)=True from eq_true (by omega),decide_true,↓aR]
          obtain⟨vL6,vB6,r6⟩:=r6.v
          obtain⟨bs6,j6,nb6,ev6,e6,eu6,-⟩:=dt r6
          simp only[↓ED eu6,Nat.zero_add,Nat.reduceAdd,↓rL e6 (j:=9) rfl]
          rw[cZ,wrap64 (by omega) (by omega),tQ rfl]
          refine w7 r6 (by omega) fun b7 h7 _ r7 k7=>?_
          obtain⟨bs7,j7,nb7,ev7,e7,eu7,-⟩:=dt r7
          simp only[↓ED eu7,Nat.zero_add,Nat.reduceAdd,↓rL e7 (j:=9) rfl,aA,true_and]
          rw[bX]
          refine⟨by omega,?_⟩
          rw[show((b7:Int).tmod 6)=((b7 % 6:Nat):Int) from aS b7 6]
          have hb6:b7 % 6<6:=Nat.mod_lt _ (by omega)
          rw[cZ,wrap64 (by omega) (by omega)]
          refine Gr r7 (by omega) fun d h8 hd r8 k8=>?_
          obtain⟨bs8,j8,nb8,ev8,e8,eu8,-⟩:=dt r8
          simp only[↓ED eu8,Nat.zero_add,Nat.reduceAdd,↓rL e8 (j:=9) rfl,aA,true_and]
          refine JO r8 (by omega) fun o h9 ho r9 k9=>?_
          obtain⟨bs9,j9,nb9,ev9,e9,eu9,-⟩:=dt r9
          simp only[↓ED eu9,Nat.zero_add,Nat.reduceAdd,↓rL e9 (j:=9) rfl,aA,true_and]
          refine JO r9 (by omega) fun p h10 hp r10 k10=>?_
          obtain⟨bs10,j10,nb10,ev10,e10,eu10,st10⟩:=dt r10
          simp only[↓ED eu10,Nat.zero_add,Nat.reduceAdd,↓rL e10 (j:=9) rfl,aA,true_and]
          rw[tQ rfl]
          refine st10 ⟨4,1+((b7 % 6:Nat):Int),fM d,o,p,(pre4.length:Int)+1,0⟩ fun h11 r11 k11=>?_
          have hz11:=k11 nz _ hne (k10 nz _ hne (k9 nz _ hne (k8 nz _ hne (k7 nz _ hne hz6))))
          try simp only[aA,true_and]
          exact hT _ h11 (.collect _ _ _ _ (pre4.length+1) (by omega) ((cu hd).mono (by omega)) (ho.o.mono (by omega)) (hp.o.mono (by omega)) (by omega)) (r11.le (by omega)) hz11
        · simp only[show(((b5 % 3:Nat):Int)=0)=False from eq_false (by omega),decide_false,↓aO]
          try simp only[aA,true_and]
          exact hT _ h6 (.barrier (pre4.length+1) (by omega)) (r6.le (by omega)) hz6
      · refine cB r3 (by omega) fun b4 h4 _ r4 k4=>?_
        have hz4:=k4 nz _ hne hz3
        rw[bX]
        refine⟨by omega,?_⟩
        rw[show((b4:Int).tmod 3)=((b4 % 3:Nat):Int) from aS b4 3,gI]
        by_cases hb3:b4 % 3=0
        · simp only[show(((b4 % 3:Nat):Int)=0)=True from eq_true (by omega),decide_true,↓aR]
          refine E0 (q:=c-j) hs1.hd hs1.regs nl (by omega) (by omega) (by omega) hLp hpA hX hi r4 (by omega) fun s5 pre5 h5 e1 e2 e3 e4 e5 e6 e7 r5 k5=>?_
          try simp only[aA,true_and]
          exact⟨s5,pre5,[],by rw[e1,e2];exact hs1.hd,e3,e4,e5,e6,e7,.nil,by simp,r5.le (by omega),k5 nz _ hne hz4⟩
        · simp only[show(((b4 % 3:Nat):Int)=0)=False from eq_false (by omega),decide_false,↓aO]
          try simp only[aA,true_and]
          exact⟨s1,pre,is,hs1.hd,hs1.regs,by omega,by omega,hLp,hpA,hX.mono (by have:=hs1.regs;omega),hi,r4.le (by omega),hz4⟩
  · simp only[show((0:Int)<(j:Int))=False from eq_false (by omega),decide_false,↓aO]
    have hj0:j=0:=by omega
    subst hj0
    have s2:GG s1 bs 2:=⟨hs1.hd,hs1.regs,by have:=hs1.nl;omega,by have:=hs1.nb;omega,hs1.loops,hs1.b⟩
    exact⟨rfl,hJ s1 bs h1 s2 (r1.le (by omega)) hz1⟩
end Go.Am
namespace Go.Am
open Go
set_option maxHeartbeats 1000000 in
theorem KJ {h:Heap}{n nz k c:Nat}{s:MS}(hc:c<=2) (hg:s.group=4\/s.group=1\/s.group=2\/s.group=8\/s.group=6) (h1:s.sub=1) (hr:s.regs=6) (hl:s.loops=[]) (r:aI h n k aW { s with blocks:=[] }) (hne:nz≠n) (hz:h nz=.box z8){J:List D->Heap->Prop}
    (hJ:∀(s':MS) (h':Heap),Hd s'.group s'.sub->s'.regs=6->s'.loops=[]->aI h' n k aW { s' with blocks:=[] }->h' nz=.box z8->J [] h') :
    jv (.int .i64 (c:Int)) h (.ptr n 0 0) (.ptr nz 0 0) J:=by
  unfold jv
  refine⟨fun j qs h'=>j<=c/\qs=[.int .i64 (j:Int)]/\∃s':MS,Hd s'.group s'.sub/\(j=2->s'.sub=1)/\(j=1->s'.sub<=2)/\s'.regs=6/\s'.loops=[]/\aI h' n k aW { s' with blocks:=[] }/\h' nz=.box z8,c,
    ⟨Nat.le_refl _,rfl,s,⟨hg,by omega,by rw[h1];rcases hg with h|h|h|h|h<;>rw[h]<;>rfl⟩,fun _=>h1,fun _=>by omega,hr,hl,r,hz⟩,?_⟩
  rintro j f h2 ⟨hj,hq,s2,hd,hs2,hs1,hr2,hl2,r2,hz2⟩
  simp only[List.cons.injEq,and_true]at hq
  rw[hq,Bm]
  obtain⟨bs2,j2,vL2,vB2,e2,eu2,-⟩:=G1 r2
  unfold bU at e2
  by_cases h0:0<j
  · simp only[show((0:Int)<(j:Int))=True from eq_true (by omega),decide_true,↓NN,↓ED eu2,Nat.zero_add,Nat.reduceAdd,↓rL e2 (j:=2) rfl,↓rL e2 (j:=3) rfl]
    have hsb:s2.sub=1\/s2.sub=2:=by
      rcases hd.sub with h|h|h|h
      · exact Or.inl h
      · exact Or.inr h
      · exfalso;rcases (show j=1\/j=2 by omega) with e|e
        · have:=hs1 e;omega
        · have:=hs2 e;omega
      · exfalso;rcases (show j=1\/j=2 by omega) with e|e
        · have:=hs1 e;omega
        · have:=hs2 e;omega
    rw[GO,wrap64 (by omega) (by omega),bX]
    refine⟨by omega,?_⟩
    rw[gI]
    by_cases hd0:s2.group.tmod (2*s2.sub)=0
    · simp only[hd0,decide_true,↓Gh,↓EY,↓aR,↓Hc eu2,Nat.zero_add,Nat.reduceAdd,↓Iz e2 (j:=3) rfl]
      rw[GO,wrap64 (by omega) (by omega)]
      refine L4 (v:=2*s2.sub) r2 fun h3 r3 k3=>?_
      rw[kA,wrap64 (by omega) (by omega)]
      refine⟨rfl,j-1,by omega,by omega,by congr 2;omega,{ s2 with sub:=2*s2.sub },⟨hd.group,by simp only;omega,hd0⟩,fun e=>by omega,fun e=>?_,hr2,hl2,r3,k3 nz _ hne hz2⟩
      have:=hs2 (by omega)
      simp only;omega
    · simp only[hd0,decide_false,↓Gh,↓EY,↓aO]
      exact⟨rfl,hJ s2 h2 hd hr2 hl2 r2 hz2⟩
  · simp only[show((0:Int)<(j:Int))=False from eq_false (by omega),decide_false,↓NO,↓Dw,↓Gh,↓I6,↓aO]
    exact⟨rfl,hJ s2 h2 hd hr2 hl2 r2 hz2⟩
theorem O5 {P:Program}{h:Heap}{KH:D->Heap->Prop}{n:Nat}{a b c1 c2 c3 c4 c5 c6 c7 c8:D}(e:h n=.box (.agg [a,b,c1,c2,c3,c4,c5,c6,c7,c8])):aa P (.ld (.c (.ptr n 0 2)) 8 true) h KH=KH (.agg [c1,c2,c3,c4,c5,c6,c7,c8]) h:=O4 e (by simp)
theorem OX {P:Program}{h:Heap}{KH:D->Heap->Prop}{nz:Nat}{c1 c2 c3 c4 c5 c6 c7 c8:D}(e:h nz=.box z8) (ho:(D.agg [c1,c2,c3,c4,c5,c6,c7,c8]).cells.all D.one=true) :
    aa P (.st (.c (.ptr nz 0 0)) (.c (.agg [c1,c2,c3,c4,c5,c6,c7,c8])) 8) h KH=KH .undef (aq h nz (.box (.agg [c1,c2,c3,c4,c5,c6,c7,c8]))):=by
  rw[rG,e]
  apply propext
  constructor
  · exact fun hh=>hh.2.2.2.2
  · exact fun hk=>⟨rfl,List.all_eq_true.1 ho,rfl,by simp[z8],hk⟩
theorem G4 {esz:Nat}{h:Heap}{v:D}{els:List D}(ho:Own esz h v els):v.one=true:=by
  rcases ho with⟨rfl,-⟩|⟨m,rfl,-⟩<;>rfl
set_option maxHeartbeats 4000000 in
theorem MW {bs:List Nat}(hb:∀b∈bs,b<=255) (hl:bs.length<=9223372036854775807):bf PP kh [uL bs] (fun r=>∃c:Code,eP c/\r=c.e):=by
  refine bf.wk (K:=fun r=>∃c:Code,eP c/\Wk r c.e) (Du (ew AJ (ab _ _ _) rfl (AG _ _) ?_)) fun r hr=>by
    obtain⟨c,hc,hw⟩:=hr
    exact⟨c.e,hw,rfl,c,hc,rfl⟩
  unfold xa
  rw[He]
  refine⟨(dL (by simp[nZ]):CX (uL bs)).one,fun n0 t0=>?_⟩
  rw[iB]
  intro nz tz
  have nn:n0≠nz:=tz.ne (by rw[an];simp)
  have a0:aq (aq eH n0 (.box (uL bs))) nz (.box z8) n0=.box (uL bs):=by rw[ae _ _ nn,an]
  have az:aq (aq eH n0 (.box (uL bs))) nz (.box z8) nz=.box z8:=an _ _ _
  show aa PP _ (aq (aq eH n0 (.box (uL bs))) nz (.box z8)) _
  generalize aq (aq eH n0 (.box (uL bs))) nz (.box z8)=hA at a0 az
  have eu0:(hA n0).used=true:=by rw[a0];rfl
  unfold uL at a0
  simp only[↓Hc eu0,Nat.zero_add,↓Iz a0 (j:=0) rfl]
  rw[jG rfl,show D.agg (fillD [.nil,.int .i64 0,.int .i64 0,.int .i64 0,.int .i64 0,.int .i64 0,.int .i64 0,.nil,.nil,.nil] (List.map (fun p=>(p.fst,p.snd.fst,(Arg.get [] p.snd.snd).cells)) [(0,1,Arg.c (nZ bs))])) =
    .agg (nZ bs::.int .i64 ((0:Nat):Int)::[.int .i64 0,.int .i64 0,.int .i64 0,.int .i64 0,.int .i64 0,.nil,.nil,.nil]) from rfl,He]
  refine⟨List.all_eq_true.1 rfl,fun n tn=>?_⟩
  have hnz:nz≠n:=tn.ne (by rw[az];simp)
  have b1:aq hA n (.box (.agg (nZ bs::.int .i64 ((0:Nat):Int)::[.int .i64 0,.int .i64 0,.int .i64 0,.int .i64 0,.int .i64 0,.nil,.nil,.nil]))) n=.box (.agg (nZ bs::.int .i64 ((0:Nat):Int)::[.int .i64 0,.int .i64 0,.int .i64 0,.int .i64 0,.int .i64 0,.nil,.nil,.nil])):=an _ _ _
  have bz:aq hA n (.box (.agg (nZ bs::.int .i64 ((0:Nat):Int)::[.int .i64 0,.int .i64 0,.int .i64 0,.int .i64 0,.int .i64 0,.nil,.nil,.nil]))) nz=.box z8:=by rw[ae _ _ hnz];exact az
  show ag PP _ (aq hA n (.box (.agg (nZ bs::.int .i64 ((0:Nat):Int)::[.int .i64 0,.int .i64 0,.int .i64 0,.int .i64 0,.int .i64 0,.nil,.nil,.nil])))) _
  generalize aq hA n (.box (.agg (nZ bs::.int .i64 ((0:Nat):Int)::[.int .i64 0,.int .i64 0,.int .i64 0,.int .i64 0,.int .i64 0,.nil,.nil,.nil])))=hB at b1 bz
  have hbl:∀{Q:D->Prop},ag PP (.bldS false 1 5 (.int .i64 0) [(0,(.c (.int .i64 4))),(1,(.c (.int .i64 1))),(2,(.c (.int .i64 2))),(3,(.c (.int .i64 8))),(4,(.c (.int .i64 6)))]) hB Q=Q (.sl [.int .i64 4,.int .i64 1,.int .i64 2,.int .i64 8,.int .i64 6]):=by
    intro Q
    apply propext
    constructor
    · exact fun hh=>hh.2.2.2
    · intro hq
      refine⟨nr rfl,?_,by simp,hq⟩
      intro p hp
      simp[Arg.get]at hp
      rcases hp with rfl|rfl|rfl|rfl|rfl<;>simp
  simp only[hbl]
  refine Et b1 hb hl (by omega) fun b hb2=>?_
  have c1:=an hB n (.box (.agg (nZ bs::.int .i64 ((0+1:Nat):Int)::[.int .i64 0,.int .i64 0,.int .i64 0,.int .i64 0,.int .i64 0,.nil,.nil,.nil])))
  have cz:aq hB n (.box (.agg (nZ bs::.int .i64 ((0+1:Nat):Int)::[.int .i64 0,.int .i64 0,.int .i64 0,.int .i64 0,.int .i64 0,.nil,.nil,.nil]))) nz=.box z8:=by rw[ae _ _ hnz];exact bz
  generalize aq hB n (.box (.agg (nZ bs::.int .i64 ((0+1:Nat):Int)::[.int .i64 0,.int .i64 0,.int .i64 0,.int .i64 0,.int .i64 0,.nil,.nil,.nil])))=hC at c1 cz
  rw[bX]
  refine⟨by omega,?_⟩
  rw[show((b:Int).tmod 5)=((b % 5:Nat):Int) from aS b 5]
  obtain⟨g,hg,hg5⟩:∃g:Int,([.int .i64 4,.int .i64 1,.int .i64 2,.int .i64 8,.int .i64 6]:List D)[b % 5]?=some (.int .i64 g)/\(g=4\/g=1\/g=2\/g=8\/g=6):=by
    have:b % 5=0\/b % 5=1\/b % 5=2\/b % 5=3\/b % 5=4:=by omega
    rcases this with e|e|e|e|e<;>rw[e]<;>exact⟨_,rfl,by simp⟩
  have hi:∀{Q:D->Prop},ag PP (.iadd (.c (.sl [.int .i64 4,.int .i64 1,.int .i64 2,.int .i64 8,.int .i64 6])) (.c (.int .i64 ((b % 5:Nat):Int))) 1) hC Q=Q (.vp (.int .i64 g) 0):=by
    intro Q
    rw[oR,Ce,Int.toNat_natCast,hg]
    apply propext
    constructor
    · rintro⟨-,-,h⟩;exact(h _ rfl).2
    · intro hq;exact⟨by omega,by simp;omega,fun d hd=>by cases hd;exact⟨rfl,hq⟩⟩
  have hld:∀{Q:D->Prop},ag PP (.ld (.c (.vp (.int .i64 g) 0)) 1 false) hC Q=Q (.int .i64 g):=fun {Q}=>by rw[AD,Cd,eV];rfl
  simp only[↓hi,↓hld]
  refine D2 JR trivial ?_
  have eu1:(hC n).used=true:=by rw[c1];rfl
  rw[tQ rfl]
  simp only[↓ED eu1,Nat.zero_add]
  rw[rG,c1]
  refine⟨rfl,?_,rfl,by simp,?_⟩
  · intro x hx
    simp[fillD,D.cells,Arg.get,aW]at hx
    rcases hx with rfl|rfl|rfl|rfl|rfl|rfl|rfl|rfl<;>rfl
  have es:setCells (.agg (nZ bs::.int .i64 ((0+1:Nat):Int)::[.int .i64 0,.int .i64 0,.int .i64 0,.int .i64 0,.int .i64 0,.nil,.nil,.nil])) 2 (D.agg (fillD [.int .i64 0,.int .i64 0,.int .i64 0,.int .i64 0,.int .i64 0,.nil,.nil,.nil] (List.map (fun p=>(p.fst,p.snd.fst,(Arg.get [] p.snd.snd).cells)) [(0,1,Arg.c (.int .i64 g)),(1,1,Arg.c (.int .i64 1)),(2,1,Arg.c (.int .i64 6)),(4,1,Arg.c (.int .i64 3)),(5,1,Arg.c aW)]))).cells =
      bU bs 1 aW ⟨g,1,6,[],[]⟩ .nil .nil:=rfl
  rw[es]
  have r0:aI (aq hC n (.box (bU bs 1 aW ⟨g,1,6,[],[]⟩ .nil .nil))) n 1 aW { (⟨g,1,6,[],[]⟩:MS) with blocks:=[] }:=⟨bs,1,.nil,.nil,[],hb,hl,Nat.le_refl _,an _ _ _,I7⟩
  have dz:aq hC n (.box (bU bs 1 aW ⟨g,1,6,[],[]⟩ .nil .nil)) nz=.box z8:=by rw[ae _ _ hnz];exact cz
  generalize aq hC n (.box (bU bs 1 aW ⟨g,1,6,[],[]⟩ .nil .nil))=hD at r0 dz
  refine⟨fun qs h'=>qs=[]/\∃s:MS,Hd s.group s.sub/\s.regs=6/\s.loops=[]/\aI h' n 10 aW { s with blocks:=[] }/\h' nz=.box z8,?_,?_⟩
  · rintro f1 h1 ⟨-,s1,hd1,hr1,hl1,r1,z1⟩
    refine⟨fun qs h'=>qs=[]/\∃(s':MS) (bs:List Block),GG s' bs 2/\aI h' n 3000 aW { s' with blocks:=bs }/\h' nz=.box z8,?_,?_⟩
    · rintro f2 h2 ⟨-,s2,bs2,hs2,r2,z2⟩
      have nl:=hs2.nl
      have nb:=hs2.nb
      refine cB r2 (by omega) fun b3 h3 _ r3 k3=>?_
      rw[bX]
      refine⟨by omega,?_⟩
      rw[show((b3:Int).tmod 3)=((b3 % 3:Nat):Int) from aS b3 3]
      have hm:b3 % 3<3:=Nat.mod_lt _ (by omega)
      refine Fs r3 hs2.b (by omega) (by have:=hs2.regs;omega) (by omega) (by omega) fun pre is h4 hpl hpA hX hi4 r4 k4=>?_
      have z4:=k4 nz _ hnz (k3 nz _ hnz z2)
      have hLp:∀l∈s2.loops,LO (pre.length+1) s2.regs l:=fun l hl=>by
        obtain⟨⟨hd,e1,e2⟩,e3⟩:=hs2.loops l hl
        exact⟨⟨hd,e1,by omega⟩,e3⟩
      refine⟨fun qs h'=>qs=[]/\∃(s':MS) (pre':List Block) (is':List aZ),Hd s'.group s'.sub/\s'.regs=6+2*(s'.loops.length:Int)/\s'.loops.length<=3/\pre'.length<=17/\(∀l,l∈s'.loops->LO (pre'.length+1) s'.regs l) /\
        jm (pre'.length+1) s'.regs pre'/\ko s'.regs is'/\is'.length<=8/\aI h' n 9000 aW (jr s' pre' is' ic)/\h' nz=.box z8,?_,?_⟩
      · rintro f5 h5 ⟨-,s5,pre5,is5,g1,g2,g3,g4,g5,g6,g7,g8,r5,z5⟩
        obtain⟨vL5,vB5,r5⟩:=r5.v
        obtain⟨bs5,j5,nb5,ev5,e5,eu5,st5⟩:=dt r5
        have lv5:∀{Q:D->Prop},cJ vB5 h5 Q=Q (.int .i64 ((pre5.length+1:Nat):Int)):=by
          intro Q
          obtain⟨_,_,vs,_,_,_,q4,q5⟩:=r5.st
          rw[G5 q5.oB,fG q5.len]
          simp[jr]
        simp only[↓ED eu5,Nat.zero_add,Nat.reduceAdd,↓rL e5 (j:=9) rfl,lv5]
        rw[kA,wrap64 (by omega) (by omega),tQ rfl,show((pre5.length+1:Nat):Int)-1=(pre5.length:Int) by omega]
        refine st5 ⟨5,0,ar,ar,ar,0,0⟩ fun h6 r6 k6=>?_
        have z6:=k6 nz _ hnz z5
        obtain⟨bs6,j6,vL6,vB6,vs6,q1,q2,q3,q4,q5⟩:=r6.st
        have eu6:(h6 n).used=true:=by rw[q4];rfl
        unfold bU at q4
        simp only[↓Hc eu6,Nat.zero_add,Nat.reduceAdd,↓O5 q4]
        have o1:=G4 q5.oL
        have o2:=G4 q5.oB
        rw[OX z6 (by simp[D.cells,o1,o2,aW])]
        have hld8:=E3 (P:=PP) (KH:=fun a63 _=>∃h'',Iw (aq h6 nz (.box (.agg [.int .i64 s5.group,.int .i64 s5.sub,.int .i64 s5.regs,.int .i64 0,.int .i64 3,aW,vL6,vB6]))) h''/\gG a63/\rV h'' a63/\(a63.fzt h'').FQ=true/\∃c:Code,eP c/\Wk (a63.fzt h'') c.e)
          (an h6 nz (.box (.agg [.int .i64 s5.group,.int .i64 s5.sub,.int .i64 s5.regs,.int .i64 0,.int .i64 3,aW,vL6,vB6])))
        refine hld8.mpr ?_
        have rr:=q5.box z6 (.box (.agg [.int .i64 s5.group,.int .i64 s5.sub,.int .i64 s5.regs,.int .i64 0,.int .i64 3,aW,vL6,vB6]))
        obtain⟨h'',i1,i2,i3,i4,i5⟩:=Jl rr (by simp[jr]) s5.group s5.sub s5.regs
        refine⟨h'',i1,i2,i3,i4,_,?_,i5⟩
        refine⟨g1.group,g1.sub,g1.dvd,g2,rfl,rfl,rfl,g3,?_,?_,?_⟩
        · simp only[jr,List.length_append,List.length_singleton];exact g5
        · simp only[jr,List.length_append,List.length_singleton];omega
        · simp only[jr,List.length_append,List.length_singleton]
          exact g6.snoc ⟨g7,by simp only;omega,.exit⟩
      · refine cB r4 (by omega) fun b5 h5 _ r5 k5=>?_
        have z5:=k5 nz _ hnz z4
        rw[bX]
        refine⟨by omega,?_⟩
        rw[show((b5:Int).tmod 3)=((b5 % 3:Nat):Int) from aS b5 3,gI]
        by_cases hb3:b5 % 3=0
        · simp only[show(((b5 % 3:Nat):Int)=0)=True from eq_true (by omega),decide_true,↓aR]
          refine E0 (q:=2) hs2.hd hs2.regs nl (by omega) (by omega) (by omega) hLp hpA hX hi4 r5 (by omega) fun s6 pre6 h6 e1 e2 e3 e4 e5 e6 e7 r6 k6=>?_
          refine Bi r6 (e7.MY (by omega) (by simp)) (by omega) fun xs h7 hxs hxl r7 k7=>?_
          try simp only[aA,true_and]
          exact⟨s6,pre6,xs,by rw[e1,e2];exact hs2.hd,e3,e4,by omega,e6,e7,hxs.mono (by omega),hxl,r7.le (by omega),k7 nz _ hnz (k6 nz _ hnz z5)⟩
        · simp only[show(((b5 % 3:Nat):Int)=0)=False from eq_false (by omega),decide_false,↓aO]
          try simp only[aA,true_and]
          exact⟨s2,pre,is,hs2.hd,hs2.regs,by omega,by omega,hLp,hpA,hX.mono (by have:=hs2.regs;omega),hi4,r5.le (by omega),z5⟩
    · refine cB r1 (by omega) fun b2 h2 _ r2 k2=>?_
      have z2:=k2 nz _ hnz z1
      rw[bX]
      refine⟨by omega,?_⟩
      rw[show((b2:Int).tmod 3)=((b2 % 3:Nat):Int) from aS b2 3]
      have hm:b2 % 3<3:=Nat.mod_lt _ (by omega)
      refine KL hnz (by omega) ⟨hd1,by rw[hr1,hl1];rfl,by rw[hl1];simp,by simp,(by rw[hl1];intro l hl;cases hl),jm.nil⟩ r2 (by omega) z2 fun s' bs' h' q1 q2 q3=>⟨rfl,s',bs',q1,q2.le (by omega),q3⟩
  · refine cB r0 (by omega) fun b1 h1 _ r1 k1=>?_
    have z1:=k1 nz _ hnz dz
    rw[bX]
    refine⟨by omega,?_⟩
    rw[show((b1:Int).tmod 3)=((b1 % 3:Nat):Int) from aS b1 3]
    have hm:b1 % 3<3:=Nat.mod_lt _ (by omega)
    exact KJ (by omega) hg5 rfl rfl rfl r1 hnz z1 fun s' h' q1 q2 q3 q4 q5=>⟨rfl,s',q1,q2,q3,q4.le (by omega),q5⟩
end Go.Am
namespace Go.Am
open Go Go.Proofs
def EA (x:aZ):Prop:=x.op=7\/x.op=8\/x.op=9
instance (x:aZ):Decidable (EA x):=by unfold EA;infer_instance
def cA (n:Int):Int:=if n=0\/n=1 then 1 else if n=3 then 3 else 2
def HA (g:Bool) (x:aZ):Bool:=decide (EA x)&&(decide (cA x.n=1)||(!g&&decide (cA x.n=2)))
def kO (g:Bool) (xs:List aZ):Nat:=xs.countP (HA g)
def tf (g:Bool) (b:Block):Nat:=kO g b.i
theorem FC {q:Nat}(hq:q<5):∃a l t:D,(tT.map EC.e)[q]?=some (.agg [a,.int .i64 (cA q),t,l]):=by
  have:q=0\/q=1\/q=2\/q=3\/q=4:=by omega
  rcases this with rfl|rfl|rfl|rfl|rfl<;>exact⟨_,_,_,rfl⟩
theorem CY.acc {R:Int}{x:aZ}(h:CY R x) (ha:EA x):∃q:Nat,x.n=q/\q<5:=by
  have key:0<=x.n/\x.n<5:=by
    cases h<;>simp_all [EA]
  exact⟨x.n.toNat,by omega,by omega⟩
theorem CY.op {R:Int}{x:aZ}(h:CY R x):1<=x.op/\x.op<=10:=by cases h<;>simp
theorem Bh (g:Bool) (xs:List aZ):kO g xs<=xs.length:=List.countP_le_length
theorem yM {g:Bool}{xs:List aZ}{k:Nat}{x:aZ}(hx:xs[k]?=some x):kO g (xs.take (k+1))=kO g (xs.take k)+if HA g x then 1 else 0:=by
  rw[List.take_add_one,hx];simp[kO,List.countP_append,List.countP_singleton]
theorem rM (g:Bool) (xs:List aZ) (k:Nat):kO g (xs.take k)<=k:=Nat.le_trans (Bh _ _) (by simp;omega)
section
variable {c:Code}{b:Nat}{B:Block}{P:Program}{KH:D->Heap->Prop}{h:Heap}
theorem Lf (hB:c.b[b]?=some B):aa P (.iadd (.c (.sl (c.b.map Block.e))) (.c (.int .i64 (b:Int))) 14) h KH=KH (.vp B.e 0) h :=
  qM (by omega) (by rw[Int.toNat_natCast,List.getElem?_map,hB];rfl) rfl
theorem ND {k:Nat}{x:aZ}(hx:B.i[k]?=some x):aa P (.iadd (.c (.sl (B.i.map aZ.e))) (.c (.int .i64 (k:Int))) 15) h KH=KH (.vp x.e 0) h :=
  qM (by omega) (by rw[Int.toNat_natCast,List.getElem?_map,hx];rfl) rfl
theorem Lg:aa P (.ld (.c (.vp B.e 0)) 1 false) h KH=KH (.sl (B.i.map aZ.e)) h:=Mu rfl
theorem NC {x:aZ}:aa P (.ld (.c (.vp x.e 0)) 15 true) h KH=KH x.e h:=Ov rfl
theorem Gx {K:D->Prop}(hB:B.i.length<=20):cJ (.sl (B.i.map aZ.e)) h K=K (.int .i64 (B.i.length:Int)):=by
  rw[tv,List.length_map]
end
theorem DO {c:Code}(hc:eP c){b:Nat}{B:Block}(hB:c.b[b]?=some B){g:Bool} :
    bf PP du [c.e,.int .i64 (b:Int),.bool g] (· = .int .i64 (tf g B:Int)):=by
  have BO:=hc.b B (List.mem_of_getElem? hB)
  have ha:=hc.arrays
  refine jW vt (ab _ _ _) rfl (vr _ _ _ _) ?_
  unfold pG
  refine Vs.nil.box c.xT.one fun n4 h5 V5=>?_
  refine⟨fun l h=>l=[.int .i64 (tf g B:Int)],fun f h hh=>?_,?_⟩
  · simp only[List.cons.injEq,and_true]at hh
    rw[hh,IF]
  unfold kS
  refine⟨fun m l h=>∃k:Nat,k<=B.i.length/\m=B.i.length-k/\l=[.int .i64 (kO g (B.i.take k):Int),.int .i64 (k:Int)]/\Vs h [(n4,.box c.e)],_,⟨0,by omega,rfl,by simp[kO],V5⟩,?_⟩
  rintro n10 f11 h12 ⟨k,hk,hm,hl,V⟩
  simp only[List.cons.injEq,and_true]at hl
  obtain⟨e7,e8⟩:=hl
  rw[e7,e8]
  simp only[↓V.fa 0 rfl,Nat.zero_add,↓V.jt 0 (j:=7) rfl rfl,↓Lf hB,↓M5,↓Lg,↓Gx BO.len,tu]
  by_cases hlt:k<B.i.length
  · have hx:B.i[k]?=some B.i[k]:=List.getElem?_eq_getElem hlt
    obtain⟨iok,-⟩:=BO.xs k _ hx
    generalize B.i[k]=x at hx iok
    have hct:=rM g B.i k
    have h20:=BO.len
    simp only[show((k:Int)<(B.i.length:Int))=True from eq_true (by omega),decide_true,↓aR]
    refine⟨fun l h=>l=[.int .i64 (kO g (B.i.take (k+1)):Int)]/\Vs h [(n4,.box c.e)],?_,?_⟩
    · rintro f26 h27 ⟨hl,V'⟩
      simp only[List.cons.injEq,and_true]at hl
      rw[hl,kR (by omega) (by omega)]
      exact⟨by simp,_,by omega,k+1,by omega,rfl,by simp,V'⟩
    simp only[↓ND hx,↓NC]
    refine V.alloc fun n43 h44 V1=>?_
    refine V1.FW (cs':=x.cs) 0 rfl rfl rfl (fun y hy=>by simp[aZ.cs]at hy;rcases hy with rfl|rfl|rfl|rfl|rfl|rfl|rfl|rfl|rfl|rfl|rfl|rfl|rfl|rfl|rfl<;>rfl) fun h46 V2=>?_
    have VF:Vs h46 [(n4,.box c.e)]:=V2.pop
    simp only[↓V2.fa 0 rfl,↓V2.jt 0 (j:=0) rfl rfl,↓V2.jt 0 (j:=2) rfl rfl]
    rw[yM hx]
    have hb:HA g x=(decide (EA x)&&(decide (cA x.n=1)||(!g&&decide (cA x.n=2)))):=rfl
    by_cases hacc:EA x
    · obtain⟨q,hq,hq5⟩:=iok.acc hacc
      obtain⟨ax,al,at_,hA⟩:=FC hq5
      have hia:∀{KH:D->Heap->Prop},aa PP (.iadd (.c (.sl (c.arrays.map EC.e))) (.c (.int .i64 x.n)) 4) h46 KH=KH (.vp (.agg [ax,.int .i64 (cA q),at_,al]) 0) h46:=fun {KH}=>by
        rw[ha];exact qM (by omega) (by rw[hq,Int.toNat_natCast];exact hA) rfl
      have fin:(if HA g x then 1 else 0:Nat)=if(decide (cA q=1)||(!g&&decide (cA q=2))) then 1 else 0:=by rw[hb,hq];simp[hacc]
      rw[fin]
      have sp:cA q=1\/cA q=2\/cA q=3:=by unfold cA;split<;>(try split)<;>simp
      rcases hacc with h7|h8|h9
      all_goals
        first|rw[h7]|rw[h8]|rw[h9]
        simp (disch:=first|assumption|omega) only[↓cS,↓gS,↓V2.fa 0 rfl,↓V2.jt 0 (j:=0) rfl rfl,↓V2.jt 0 (j:=2) rfl rfl,↓V2.fa 1 rfl,↓V2.jt 1 (j:=5) rfl rfl,↓hia,↓M5,Nat.zero_add,↓Mu (cs:=[ax,.int .i64 (cA q),at_,al]) (j:=1) rfl]
        rcases sp with s1|s1|s1<;>rw[s1]<;>cases g<;>simp (disch:=first|assumption|omega) only[↓cS,↓gS]
        all_goals
          simp only[aA,true_and]
          exact⟨by simp,VF⟩
    · have:HA g x=false:=by rw[hb];simp[hacc]
      rw[this]
      have h7:x.op≠7:=fun h=>hacc (Or.inl h)
      have h8:x.op≠8:=fun h=>hacc (Or.inr (Or.inl h))
      have h9:x.op≠9:=fun h=>hacc (Or.inr (Or.inr h))
      simp (disch:=first|assumption|omega) only[↓cS,↓gS,↓V2.fa 0 rfl,↓V2.jt 0 (j:=0) rfl rfl]
      simp only[aA,true_and]
      exact⟨by simp,VF⟩
  · have:k=B.i.length:=by omega
    subst this
    simp only[show((B.i.length:Int)<(B.i.length:Int))=False from eq_false (by omega),decide_false,↓aO]
    exact⟨by simp,by simp[tf]⟩
def Dr (l m gl:Int):D:=.agg [.int .i64 l,.int .i64 m,.int .i64 gl]
theorem K6 {c:Code}(hc:eP c){b:Nat}{B:Block}(hB:c.b[b]?=some B) :
    bf PP eS [c.e,.int .i64 (b:Int)] (· = Dr B.i.length (tf false B) (tf true B)):=by
  have BO:=hc.b B (List.mem_of_getElem? hB)
  have ha:=hc.arrays
  have h20:=BO.len
  refine jW nU (ab _ _ _) rfl (yQ _ _ _) ?_
  unfold tW
  refine Vs.nil.box c.xT.one fun n3 h4 V1=>?_
  refine V1.alloc fun n5 h6 V2=>?_
  simp only[↓V2.fa 1 rfl,Nat.zero_add,↓V2.jt 1 (j:=7) rfl rfl,↓Lf hB,↓M5,↓Lg,↓Gx BO.len]
  rw[pE]
  refine⟨iu rfl,?_⟩
  refine V2.alloc fun n20 h21 V3=>?_
  refine V3.FW (cs':=[.int .i64 B.i.length,.int .i64 0,.int .i64 0]) 0 rfl rfl rfl (fun y hy=>by simp at hy;rcases hy with rfl|rfl<;>rfl) fun h23 V4=>?_
  replace V4:Vs h23 [(n20,.box (Dr B.i.length (kO false (B.i.take 0)) (kO true (B.i.take 0)))),(n5,.box (Dr 0 0 0)),(n3,.box c.e)]:=V4
  refine⟨fun l h=>Vs h [(n20,.box (Dr B.i.length (tf false B) (tf true B))),(n5,.box (Dr 0 0 0)),(n3,.box c.e)],fun f h V=>?_,?_⟩
  · unfold Dr at V
    simp only[↓V.E3 0 (s:=3) rfl rfl]
    refine V.FW (cs':=[.int .i64 B.i.length,.int .i64 (tf false B),.int .i64 (tf true B)]) 1 rfl rfl rfl (fun y hy=>by simp at hy;rcases hy with rfl|rfl|rfl<;>rfl) fun h' V'=>?_
    rw[V'.E3 1 (s:=3) rfl rfl]
    exact mG (dL (by simp)) rfl
  simp only[↓V4.fa 2 rfl,Nat.zero_add,↓V4.jt 2 (j:=7) rfl rfl,↓Lf hB,↓M5,↓Lg,↓Gx BO.len]
  unfold nx
  refine⟨fun m l h=>∃k:Nat,k<=B.i.length/\m=B.i.length-k/\l=[.int .i64 (k:Int)]/\Vs h [(n20,.box (Dr B.i.length (kO false (B.i.take k)) (kO true (B.i.take k)))),(n5,.box (Dr 0 0 0)),(n3,.box c.e)],_,⟨0,by omega,rfl,rfl,V4⟩,?_⟩
  rintro n44 f45 h46 ⟨k,hk,hm,hl,V⟩
  simp only[List.cons.injEq,and_true]at hl
  rw[hl,tu]
  by_cases hlt:k<B.i.length
  · have hx:B.i[k]?=some B.i[k]:=List.getElem?_eq_getElem hlt
    obtain⟨iok,-⟩:=BO.xs k _ hx
    generalize B.i[k]=x at hx iok
    have hct:=rM false B.i k
    have hct':=rM true B.i k
    simp only[show((k:Int)<(B.i.length:Int))=True from eq_true (by omega),decide_true,↓aR]
    refine⟨fun l h=>Vs h [(n20,.box (Dr B.i.length (kO false (B.i.take (k+1))) (kO true (B.i.take (k+1))))),(n5,.box (Dr 0 0 0)),(n3,.box c.e)],?_,?_⟩
    · rintro f49 h50 V'
      rw[kR (by omega) (by omega)]
      exact⟨by simp,_,by omega,k+1,by omega,rfl,by simp,V'⟩
    simp only[↓ND hx,↓NC]
    refine V.alloc fun n56 h57 V1=>?_
    refine V1.FW (cs':=x.cs) 0 rfl rfl rfl (fun y hy=>by simp[aZ.cs]at hy;rcases hy with rfl|rfl|rfl|rfl|rfl|rfl|rfl|rfl|rfl|rfl|rfl|rfl|rfl|rfl|rfl<;>rfl) fun h59 V2=>?_
    replace V2:Vs h59 [(n56,.box x.e),(n20,.box (Dr B.i.length (kO false (B.i.take k)) (kO true (B.i.take k)))),(n5,.box (Dr 0 0 0)),(n3,.box c.e)]:=V2
    simp only[↓V2.fa 0 rfl,Nat.zero_add,↓V2.jt 0 (j:=0) rfl rfl]
    rw[yM (g:=false) hx,yM (g:=true) hx]
    have hb:∀g,HA g x=(decide (EA x)&&(decide (cA x.n=1)||(!g&&decide (cA x.n=2)))):=fun _=>rfl
    rw[hb,hb]
    by_cases hacc:EA x
    · obtain⟨q,hq,hq5⟩:=iok.acc hacc
      obtain⟨ax,al,at_,hA⟩:=FC hq5
      have sp:cA q=1\/cA q=2\/cA q=3:=by unfold cA;split<;>(try split)<;>simp
      have hia:∀{h:Heap}{KH:D->Heap->Prop},aa PP (.iadd (.c (.sl (c.arrays.map EC.e))) (.c (.int .i64 x.n)) 4) h KH=KH (.vp (.agg [ax,.int .i64 (cA q),at_,al]) 0) h:=fun {h KH}=>by
        rw[ha];exact qM (by omega) (by rw[hq,Int.toNat_natCast];exact hA) rfl
      refine⟨fun l h=>l=[.bool true]/\Vs h [(n56,.box x.e),(n20,.box (Dr B.i.length (kO false (B.i.take k)) (kO true (B.i.take k)))),(n5,.box (Dr 0 0 0)),(n3,.box c.e)],?_,?_⟩
      · rintro f65 h66 ⟨hl,V6⟩
        simp only[List.cons.injEq,and_true]at hl
        rw[hl]
        simp (disch:=first|assumption|omega) only[↓cS,↓gS,↓V6.fa 0 rfl,↓V6.fa 1 rfl,↓V6.jt 0 (j:=2) rfl rfl,↓V6.fa 3 rfl,↓V6.jt 3 (j:=5) rfl rfl,↓hia,↓M5,Nat.zero_add,↓Mu (cs:=[ax,.int .i64 (cA q),at_,al]) (j:=1) rfl,hq]
        rcases sp with s1|s1|s1<;>rw[s1]<;>simp (disch:=first|assumption|omega) only[↓cS,↓gS]
        · simp (disch:=omega) only[↓V6.fa 1 rfl,Nat.zero_add,↓V6.jt 1 (j:=2) rfl rfl,↓kR]
          refine V6.FV 1 (j:=2) rfl (by simp) rfl fun h7 V7=>?_
          replace V7:Vs h7 [(n56,.box x.e),(n20,.box (Dr B.i.length (kO false (B.i.take k)) (kO true (B.i.take k)+1))),(n5,.box (Dr 0 0 0)),(n3,.box c.e)]:=V7
          simp (disch:=omega) only[↓V7.fa 1 rfl,Nat.zero_add,↓V7.jt 1 (j:=1) rfl rfl,↓kR]
          refine V7.FV 1 (j:=1) rfl (by simp) rfl fun h8 V8=>?_
          simp only[aA,true_and,hacc]
          exact V8.pop
        · simp (disch:=omega) only[↓V6.fa 1 rfl,Nat.zero_add,↓V6.jt 1 (j:=1) rfl rfl,↓kR]
          refine V6.FV 1 (j:=1) rfl (by simp) rfl fun h7 V7=>?_
          simp only[aA,true_and,hacc]
          exact V7.pop
        · simp only[aA,true_and,hacc]
          exact V6.pop
      · rcases hacc with h7|h8|h9
        all_goals
          first|rw[h7]|rw[h8]|rw[h9]
          simp (disch:=first|assumption|omega) only[↓cS,↓gS,aA,true_and]
          first|exact V2|exact⟨rfl,V2⟩
    · refine⟨fun l h=>l=[.bool false]/\Vs h [(n56,.box x.e),(n20,.box (Dr B.i.length (kO false (B.i.take k)) (kO true (B.i.take k)))),(n5,.box (Dr 0 0 0)),(n3,.box c.e)],?_,?_⟩
      · rintro f65 h66 ⟨hl,V6⟩
        simp only[List.cons.injEq,and_true]at hl
        rw[hl]
        simp only[↓aO,aA,true_and,hacc,decide_false,Bool.false_and,if_false,Bool.false_eq_true,Nat.add_zero]
        exact V6.pop
      · have h7:x.op≠7:=fun h=>hacc (Or.inl h)
        have h8:x.op≠8:=fun h=>hacc (Or.inr (Or.inl h))
        have h9:x.op≠9:=fun h=>hacc (Or.inr (Or.inr h))
        simp (disch:=first|assumption|omega) only[↓cS,↓gS,aA,true_and]
        first|exact V2|exact⟨rfl,V2⟩
  · have:k=B.i.length:=by omega
    subst this
    simp only[show((B.i.length:Int)<(B.i.length:Int))=False from eq_false (by omega),decide_false,↓aO,aA,true_and]
    rw[List.take_length]at V
    exact V
end Go.Am
namespace Go.Am
open Go Go.Proofs
theorem Js {P:Program}{n i j l s:Nat}{k:IntKind}{a:Int}{h:Heap}{KH:D->Heap->Prop}:aa P (.iadda (.c (.ptr n i j)) (.c (.int k a)) l s) h KH=(0<=a/\a<l/\(h n).live=true/\KH (.ptr n i (j+a.toNat*s)) h):=rfl
theorem Vs.Ox {P:Program}{KH:D->Heap->Prop}{h:Heap}{L:List (Nat×Slot)}(V:Vs h L) (i:Nat){n l:Nat}{a:Int}{d:D}(hi:L[i]?=some (n,.box d)) (h0:0<=a) (h1:a<(l:Int)):aa P (.iadda (.c (.ptr n 0 0)) (.c (.int .i64 a)) l 1) h KH=KH (.ptr n 0 a.toNat) h:=by
  rw[Js,V.get i _ _ hi]
  apply propext
  constructor
  · rintro⟨-,-,-,hk⟩;simpa using hk
  · intro hk;exact⟨h0,h1,rfl,by simpa using hk⟩
theorem Vs.K3 {P:Program}{K:D->Prop}{h:Heap}{L:List (Nat×Slot)}(V:Vs h L) (i:Nat){n l:Nat}{a:Int}{d:D}(hi:L[i]?=some (n,.box d)) (h0:0<=a) (h1:a<(l:Int)):ag P (.iadda (.c (.ptr n 0 0)) (.c (.int .i64 a)) l 1) h K=K (.ptr n 0 a.toNat):=by rw[K5,V.Ox i hi h0 h1]
theorem Vs.K1 {P:Program}{K:D->Prop}{h:Heap}{L:List (Nat×Slot)}(V:Vs h L) (i:Nat){n j:Nat}{cs:List D}{e:D}(hi:L[i]?=some (n,.box (.agg cs))) (he:cs[j]?=some e):ag P (.ld (.c (.ptr n 0 j)) 1 false) h K=K e:=by rw[AD,V.jt i hi he]
def wsum (f:Block->Int):List Int->List Block->Int
  | t::ts,b::bs=>t*f b+wsum f ts bs
  | _,_=>0
theorem sF (f:Block->Int):∀{ts:List Int}{bs:List Block}{k:Nat}{t:Int}{b:Block},ts[k]?=some t->bs[k]?=some b->wsum f (ts.take (k+1)) bs=wsum f (ts.take k) bs+t*f b
  | x::ts,y::bs,0,t,b,h1,h2=>by simp at h1 h2;subst h1;subst h2;simp[wsum]
  | x::ts,y::bs,k+1,t,b,h1,h2=>by
    have:=sF f (ts:=ts) (bs:=bs) (k:=k) (by simpa using h1) (by simpa using h2)
    simp only[List.take_succ_cons,wsum,this];omega
  | [],_,_,_,_,h1,_=>by simp at h1
  | _::_,[],_,_,_,_,h2=>by simp at h2
theorem qa {a b A B:Int}(h1:0<=a) (h2:a<=A) (h3:0<=b) (h4:b<=B):0<=a*b/\a*b<=A*B :=
  ⟨Int.mul_nonneg h1 h3,Int.mul_le_mul h2 h4 h3 (by omega)⟩
structure yS (ts:List Int):Prop where
  b:∀t∈ts,0<=t/\t<=510
def J4 (f:Block->Int) (bs:List Block):Prop:=∀b∈bs,0<=f b/\f b<=21
theorem fN {f:Block->Int}:∀{ts:List Int}{bs:List Block},yS ts->J4 f bs->0<=wsum f ts bs/\wsum f ts bs<=10710*(ts.length:Int)
  | t::ts,b::bs,h1,h2=>by
    have:=fN (ts:=ts) (bs:=bs) ⟨fun t ht=>h1.b t (by simp[ht])⟩ (fun b hb=>h2 b (by simp[hb]))
    obtain⟨a1,a2⟩:=h1.b t (by simp)
    obtain⟨b1,b2⟩:=h2 b (by simp)
    have:=qa a1 a2 b1 b2
    simp only[wsum,List.length_cons];omega
  | [],_,_,_=>by simp[wsum]
  | _::_,[],_,_=>by simp[wsum];omega
theorem yS.take {ts:List Int}(h:yS ts) (k:Nat):yS (ts.take k):=⟨fun t ht=>h.b t (List.mem_of_mem_take ht)⟩
def f0 (b:Block):Int:=b.i.length+1
def f1 (b:Block):Int:=b.i.length
def f2 (b:Block):Int:=tf false b
def f3 (b:Block):Int:=tf true b
theorem zC {c:Code}(hc:eP c):J4 f0 c.b:=fun b hb=>by have:=(hc.b b hb).len;unfold f0;omega
theorem zB {c:Code}(hc:eP c):J4 f1 c.b:=fun b hb=>by have:=(hc.b b hb).len;unfold f1;omega
theorem LJ {c:Code}(hc:eP c):J4 f2 c.b:=fun b hb=>by have:=(hc.b b hb).len;have:=Bh false b.i;unfold f2 tf;omega
theorem zA {c:Code}(hc:eP c):J4 f3 c.b:=fun b hb=>by have:=(hc.b b hb).len;have:=Bh true b.i;unfold f3 tf;omega
def q4 (a b c d:Int):D:=.agg [.int .i64 a,.int .i64 b,.int .i64 c,.int .i64 d]
def FU (c:Code) (ts:List Int):D:=q4 (wsum f0 ts c.b) (wsum f1 ts c.b) (wsum f2 ts c.b) (wsum f3 ts c.b)
theorem Mj {a b c d:Int}:CX (q4 a b c d):=dL (by simp)
theorem NB {P:Program}{h:Heap}{KH:D->Heap->Prop}{ts:List Int}{k:Nat}{t:Int}(ht:ts[k]?=some t):aa P (.iadd (.c (ints ts)) (.c (.int .i64 (k:Int))) 1) h KH=KH (.vp (.int .i64 t) 0) h :=
  qM (by omega) (by rw[Int.toNat_natCast,List.getElem?_map,ht];rfl) rfl
theorem Ho {P:Program}{h:Heap}{K:D->Prop}{ts:List Int}{k:Nat}{t:Int}(ht:ts[k]?=some t):ag P (.iadd (.c (ints ts)) (.c (.int .i64 (k:Int))) 1) h K=K (.vp (.int .i64 t) 0):=by rw[oR,NB ht]
theorem Ly {P:Program}{h:Heap}{KH:D->Heap->Prop}{t:Int}{k:IntKind}:aa P (.ld (.c (.vp (.int k t) 0)) 1 false) h KH=KH (.int k t) h:=NA rfl
theorem Cl {P:Program}{h:Heap}{K:D->Prop}{t:Int}{k:IntKind}:ag P (.ld (.c (.vp (.int k t) 0)) 1 false) h K=K (.int k t):=NT rfl
theorem MV {c:Code}(hc:eP c){ts:List Int}(hl:ts.length=c.b.length) (ht:yS ts):bf PP kg [c.e,ints ts] (· = FU c ts):=by
  have hnb:=hc.nb
  refine jW AI (ab _ _ _) rfl (AF _ _ _) ?_
  unfold w9
  refine Vs.nil.box c.xT.one fun n3 h4 V1=>?_
  refine V1.alloc fun n5 h6 V2=>?_
  rw[MZ]
  refine V2.alloc fun n9 h10 V3=>?_
  refine V3.FW (cs':=[.int .i64 0,.int .i64 0,.int .i64 0,.int .i64 0]) 0 rfl rfl rfl (fun y hy=>by simp at hy;subst hy;rfl) fun h12 V4=>?_
  have w0:∀f,wsum f (ts.take 0) c.b=0:=fun f=>by simp[wsum]
  refine⟨fun l h=>Vs h [(n9,.box (FU c ts)),(n5,.box (q4 0 0 0 0)),(n3,.box c.e)],fun f h V=>?_,?_⟩
  · unfold FU q4 at V
    simp only[↓V.E3 0 (s:=4) rfl rfl]
    refine V.FW (cs':=[.int .i64 (wsum f0 ts c.b),.int .i64 (wsum f1 ts c.b),.int .i64 (wsum f2 ts c.b),.int .i64 (wsum f3 ts c.b)]) 1 rfl rfl rfl (fun y hy=>by simp at hy;rcases hy with rfl|rfl|rfl|rfl<;>rfl) fun h' V'=>?_
    rw[V'.E3 1 (s:=4) rfl rfl]
    exact mG (dL (by simp)) rfl
  unfold pH
  refine⟨fun m l h=>∃k:Nat,k<=c.b.length/\m=c.b.length-k/\l=[.int .i64 (k:Int)]/\Vs h [(n9,.box (FU c (ts.take k))),(n5,.box (q4 0 0 0 0)),(n3,.box c.e)],_,⟨0,by omega,rfl,rfl,by unfold FU;rw[w0,w0,w0,w0];exact V4⟩,?_⟩
  rintro n22 f23 h24 ⟨k,hk,hm,hl',V⟩
  simp only[List.cons.injEq,and_true]at hl'
  simp only[hl',↓V.fa 2 rfl,Nat.zero_add,↓V.jt 2 (j:=7) rfl rfl,tv,List.length_map,tu]
  by_cases hlt:k<c.b.length
  · have hB:c.b[k]?=some c.b[k]:=List.getElem?_eq_getElem hlt
    have hT:ts[k]?=some ts[k]:=List.getElem?_eq_getElem (by omega)
    have hTm:=ht.b _ (List.mem_of_getElem? hT)
    have hBm:=List.mem_of_getElem? hB
    generalize c.b[k]=B at hB hBm
    generalize ts[k]=t at hT hTm
    have b0:=fN (ht.take k) (zC hc);have b1:=fN (ht.take k) (zB hc);have b2:=fN (ht.take k) (LJ hc);have b3:=fN (ht.take k) (zA hc)
    have ltk:(ts.take k).length<=18:=by simp;omega
    have c0:=zC hc B hBm;have c1:=zB hc B hBm;have c2:=LJ hc B hBm;have c3:=zA hc B hBm
    have m0:=qa hTm.1 hTm.2 c0.1 c0.2;have m1:=qa hTm.1 hTm.2 c1.1 c1.2;have m2:=qa hTm.1 hTm.2 c2.1 c2.2;have m3:=qa hTm.1 hTm.2 c3.1 c3.2
    have hs:=fun f=>sF f hT hB
    have e0:(B.i.length:Int)+1=f0 B:=rfl
    have e1:(B.i.length:Int)=f1 B:=rfl
    simp only[show((k:Int)<(c.b.length:Int))=True from eq_true (by omega),decide_true,↓aR,↓Lf hB,↓M5,↓Lg,Nat.zero_add,↓Ho hT,↓Cl]
    have BL:∀{h:Heap}{K:D->Prop},cJ (.sl (B.i.map aZ.e)) h K=K (.int .i64 (f1 B)):=fun {h K}=>by rw[tv,List.length_map];rfl
    unfold FU q4 at V
    simp only[↓BL,↓V.K3 0 (a:=0) (l:=4) rfl (by omega) (by omega),Int.toNat_zero,↓V.K1 0 (j:=0) rfl rfl]
    rw[kR (by omega) (by omega),show f1 B+1=f0 B from rfl,Ap (by omega) (by omega),kR (by omega) (by omega)]
    refine V.FV 0 (j:=0) rfl (by simp) rfl fun h51 V1=>?_
    simp only[↓V1.K3 0 (a:=1) (l:=4) rfl (by omega) (by omega),Int.toNat_one,↓V1.K1 0 (j:=1) rfl rfl,↓Ho hT,↓Cl]
    rw[Ap (by omega) (by omega),kR (by omega) (by omega)]
    refine V1.FV 0 (j:=1) rfl (by simp) rfl fun h60 V2=>?_
    simp only[↓V2.K3 0 (a:=2) (l:=4) rfl (by omega) (by omega),show(2:Int).toNat=2 from rfl,↓V2.K1 0 (j:=2) rfl rfl,↓Ho hT,↓Cl,↓V2.w5 2 (s:=8) rfl rfl]
    refine Gj (DO hc hB (g:=false)) (fun d hd=>by simp at hd;rcases hd with rfl|rfl|rfl;exact c.xT.pair;exact ca.pair;exact Fm.pair) ?_
    rw[show((tf false B:Nat):Int)=f2 B from rfl,Ap (by omega) (by omega),kR (by omega) (by omega)]
    refine V2.FV 0 (j:=2) rfl (by simp) rfl fun h71 V3=>?_
    simp only[↓V3.K3 0 (a:=3) (l:=4) rfl (by omega) (by omega),show(3:Int).toNat=3 from rfl,↓V3.K1 0 (j:=3) rfl rfl,↓Ho hT,↓Cl,↓V3.w5 2 (s:=8) rfl rfl]
    refine Gj (DO hc hB (g:=true)) (fun d hd=>by simp at hd;rcases hd with rfl|rfl|rfl;exact c.xT.pair;exact ca.pair;exact Fm.pair) ?_
    rw[show((tf true B:Nat):Int)=f3 B from rfl,Ap (by omega) (by omega),kR (by omega) (by omega)]
    refine V3.FV 0 (j:=3) rfl (by simp) rfl fun h82 V4=>?_
    rw[kR (by omega) (by omega)]
    simp only[aA,true_and]
    refine⟨_,by omega,k+1,by omega,rfl,by simp,?_⟩
    unfold FU
    rw[hs,hs,hs,hs]
    exact V4
  · have:k=ts.length:=by omega
    rw[this,List.take_length]at V
    simp only[show((k:Int)<(c.b.length:Int))=False from eq_false (by omega),decide_false,↓aO,aA,true_and]
    exact V
end Go.Am
namespace Go.Am
open Go Go.Proofs
def Ey (ts:List Int) (a b:Int):D:=.agg [ints ts,.int .i64 a,.int .i64 b]
theorem Cq {ts:List Int}{a b:Int}:CX (Ey ts a b):=dL (by simp[ints])
theorem MR {c:Code}(hc:eP c){ts:List Int}(hl:ts.length=c.b.length) (ht:yS ts):bf PP dh [c.e,ints ts] (· = Ey ts (wsum f0 ts c.b) (wsum f2 ts c.b)):=by
  refine jW A0 (ab _ _ _) rfl (AH _ _ _) ?_
  unfold xc
  refine Vs.nil.box c.xT.one fun n3 h4 V1=>?_
  refine V1.alloc fun n5 h6 V2=>?_
  simp only[↓V2.E3 1 (s:=8) rfl rfl]
  refine yO (MV hc hl ht) (fun d hd=>by simp at hd;rcases hd with rfl|rfl;exact c.xT.pair;exact Jq.pair) ?_
  rintro _ rfl
  refine V2.alloc fun n11 h12 V3=>?_
  refine V3.FW (cs':=[.int .i64 (wsum f0 ts c.b),.int .i64 (wsum f1 ts c.b),.int .i64 (wsum f2 ts c.b),.int .i64 (wsum f3 ts c.b)]) 0 rfl rfl rfl (fun y hy=>by simp at hy;rcases hy with rfl|rfl|rfl|rfl<;>rfl) fun h14 V4=>?_
  simp only[↓V4.Ox 0 (a:=0) (l:=4) rfl (by omega) (by omega),Int.toNat_zero,↓V4.jt 0 (j:=0) rfl rfl,↓V4.Ox 0 (a:=2) (l:=4) rfl (by omega) (by omega),show(2:Int).toNat=2 from rfl,↓V4.jt 0 (j:=2) rfl rfl]
  rw[pE]
  refine⟨iu rfl,?_⟩
  refine V4.FW (cs':=[ints ts,.int .i64 (wsum f0 ts c.b),.int .i64 (wsum f2 ts c.b)]) 1 rfl rfl rfl (fun y hy=>by simp at hy;rcases hy with rfl|rfl|rfl<;>rfl) fun h26 V5=>?_
  rw[V5.E3 1 (s:=3) rfl rfl]
  exact mG Cq rfl
def Df (c:Code) (ts:List Int):D:=q4 (c.group*wsum f0 ts c.b) (c.group*wsum f1 ts c.b) (c.group*wsum f3 ts c.b) ((c.group-1)*(c.group*wsum f0 ts c.b))
def F9 (c:Code) (ts:List Int):D:=q4 (c.group*wsum f0 ts c.b) (c.group*wsum f1 ts c.b) (c.group*wsum f3 ts c.b) 0
theorem K9 {c:Code}(hc:eP c){ts:List Int}{a b:Int}(hl:ts.length=c.b.length) (ht:yS ts):bf PP bL [c.e,Ey ts a b] (· = Df c ts):=by
  have hnb:=hc.nb
  have hG:1<=c.group/\c.group<=8:=by rcases hc.group with h|h|h|h|h<;>omega
  refine jW nY (ab _ _ _) rfl (yR _ _ _) ?_
  unfold tX
  refine Vs.nil.box c.xT.one fun n3 h4 V1=>?_
  refine V1.box Cq.one fun n5 h6 V2=>?_
  refine V2.alloc fun n7 h8 V3=>?_
  refine V3.alloc fun n9 h10 V4=>?_
  have w0:∀f,wsum f (ts.take 0) c.b=0:=fun f=>by simp[wsum]
  refine⟨fun l h=>Vs h [(n9,.box (F9 c ts)),(n7,.box (q4 0 0 0 0)),(n5,.box (Ey ts a b)),(n3,.box c.e)],fun f h V=>?_,?_⟩
  · unfold F9 q4 at V
    have b0:=fN ht (zC hc)
    have m0:=qa (show(0:Int)<=c.group by omega) hG.2 b0.1 b0.2
    have m1:=qa (show(0:Int)<=c.group-1 by omega) (show c.group-1<=7 by omega) m0.1 m0.2
    simp only[↓V.fa 3 rfl,Nat.zero_add,↓V.jt 3 (j:=0) rfl rfl]
    rw[Nd (by omega) (by omega)]
    simp only[↓V.fa 0 rfl,Nat.zero_add,↓V.jt 0 (j:=0) rfl rfl]
    rw[Ap (by omega) (by omega)]
    refine V.FV 0 (j:=3) rfl (by simp) rfl fun h27 V5=>?_
    simp only[↓V5.E3 0 (s:=4) rfl rfl]
    refine V5.FW (cs':=[.int .i64 (c.group*wsum f0 ts c.b),.int .i64 (c.group*wsum f1 ts c.b),.int .i64 (c.group*wsum f3 ts c.b),.int .i64 ((c.group-1)*(c.group*wsum f0 ts c.b))]) 1 rfl rfl rfl (fun y hy=>by simp at hy;rcases hy with rfl|rfl|rfl|rfl<;>rfl) fun h' V'=>?_
    rw[V'.E3 1 (s:=4) rfl rfl]
    exact mG Mj rfl
  unfold Ey at V4
  have e2:ints ts=.sl (ts.map (.int .i64)):=rfl
  simp only[↓V4.fa 2 rfl,Nat.zero_add,↓V4.jt 2 (j:=0) rfl rfl]
  have LT:∀{h:Heap}{K:D->Prop},cJ (ints ts) h K=K (.int .i64 (c.b.length:Int)):=fun {h K}=>by rw[e2,tv,List.length_map,hl]
  rw[LT]
  unfold ny
  refine⟨fun m l h=>∃k:Nat,k<=c.b.length/\m=c.b.length-k/\l=[.int .i64 (k:Int)]/\Vs h [(n9,.box (F9 c (ts.take k))),(n7,.box (q4 0 0 0 0)),(n5,.box (Ey ts a b)),(n3,.box c.e)],_,⟨0,by omega,rfl,rfl,by unfold F9;rw[w0,w0,w0,Int.mul_zero];exact V4⟩,?_⟩
  rintro n22 f23 h24 ⟨k,hk,hm,hl',V⟩
  simp only[List.cons.injEq,and_true]at hl'
  simp only[hl',tu]
  by_cases hlt:k<c.b.length
  · have hB:c.b[k]?=some c.b[k]:=List.getElem?_eq_getElem hlt
    have hT:ts[k]?=some ts[k]:=List.getElem?_eq_getElem (by omega)
    have hTm:=ht.b _ (List.mem_of_getElem? hT)
    have hBm:=List.mem_of_getElem? hB
    generalize c.b[k]=B at hB hBm
    generalize ts[k]=t at hT hTm
    have b0:=fN (ht.take k) (zC hc);have b1:=fN (ht.take k) (zB hc);have b3:=fN (ht.take k) (zA hc)
    have ltk:(ts.take k).length<=18:=by simp;omega
    have c0:=zC hc B hBm;have c1:=zB hc B hBm;have c3:=zA hc B hBm
    have g0:=qa (show(0:Int)<=c.group by omega) hG.2 b0.1 b0.2
    have g1:=qa (show(0:Int)<=c.group by omega) hG.2 b1.1 b1.2
    have g3:=qa (show(0:Int)<=c.group by omega) hG.2 b3.1 b3.2
    have gt:=qa (show(0:Int)<=c.group by omega) hG.2 hTm.1 hTm.2
    have m0:=qa gt.1 gt.2 c0.1 c0.2;have m1:=qa gt.1 gt.2 c1.1 c1.2;have m3:=qa gt.1 gt.2 c3.1 c3.2
    have hs:∀f,c.group*wsum f (ts.take (k+1)) c.b=c.group*wsum f (ts.take k) c.b+c.group*t*f B:=fun f=>by rw[sF f hT hB,Int.mul_add,Int.mul_assoc]
    simp only[show((k:Int)<(c.b.length:Int))=True from eq_true (by omega),decide_true,↓aR,↓NB hT,↓Ly,↓V.E3 3 (s:=8) rfl rfl]
    refine yO (K6 hc hB) (fun d hd=>by simp at hd;rcases hd with rfl|rfl;exact c.xT.pair;exact ca.pair) ?_
    rintro _ rfl
    refine V.alloc fun n51 h52 V1=>?_
    refine V1.FW (cs':=[.int .i64 (f1 B),.int .i64 (f2 B),.int .i64 (f3 B)]) 0 rfl rfl rfl (fun y hy=>by simp at hy;rcases hy with rfl|rfl|rfl<;>rfl) fun h54 V2=>?_
    replace V2:Vs h54 [(n51,.box (Dr (f1 B) (f2 B) (f3 B))),(n9,.box (F9 c (ts.take k))),(n7,.box (q4 0 0 0 0)),(n5,.box (Ey ts a b)),(n3,.box c.e)]:=V2
    unfold F9 q4 Dr at V2
    simp only[↓V2.fa 1 rfl,Nat.zero_add,↓V2.jt 1 (j:=0) rfl rfl,↓V2.fa 4 rfl,↓V2.jt 4 (j:=0) rfl rfl]
    rw[Ap (by omega) (by omega)]
    simp only[↓V2.fa 0 rfl,Nat.zero_add,↓V2.jt 0 (j:=0) rfl rfl]
    rw[kR (by omega) (by omega),show f1 B+1=f0 B from rfl,Ap (by omega) (by omega),kR (by omega) (by omega)]
    simp only[↓V2.fa 1 rfl,Nat.zero_add]
    refine V2.FV 1 (j:=0) rfl (by simp) rfl fun h74 V3=>?_
    simp only[↓V3.fa 1 rfl,Nat.zero_add,↓V3.jt 1 (j:=1) rfl rfl,↓V3.fa 4 rfl,↓V3.jt 4 (j:=0) rfl rfl]
    rw[Ap (by omega) (by omega)]
    simp only[↓V3.fa 0 rfl,Nat.zero_add,↓V3.jt 0 (j:=0) rfl rfl]
    rw[Ap (by omega) (by omega),kR (by omega) (by omega)]
    simp only[↓V3.fa 1 rfl,Nat.zero_add]
    refine V3.FV 1 (j:=1) rfl (by simp) rfl fun h93 V4=>?_
    simp only[↓V4.fa 1 rfl,Nat.zero_add,↓V4.jt 1 (j:=2) rfl rfl,↓V4.fa 4 rfl,↓V4.jt 4 (j:=0) rfl rfl]
    rw[Ap (by omega) (by omega)]
    simp only[↓V4.fa 0 rfl,Nat.zero_add,↓V4.jt 0 (j:=2) rfl rfl]
    rw[Ap (by omega) (by omega),kR (by omega) (by omega)]
    simp only[↓V4.fa 1 rfl,Nat.zero_add]
    refine V4.FV 1 (j:=2) rfl (by simp) rfl fun h112 V5=>?_
    rw[kR (by omega) (by omega)]
    simp only[aA,true_and]
    refine⟨_,by omega,k+1,by omega,rfl,by simp,?_⟩
    unfold F9
    rw[hs,hs,hs]
    exact V5.pop
  · have:k=ts.length:=by omega
    rw[this,List.take_length]at V
    simp only[show((k:Int)<(c.b.length:Int))=False from eq_false (by omega),decide_false,↓aO,aA,true_and]
    exact V
end Go.Am
namespace Go.Am
open Go Go.Proofs
def vH (a:List Nat) (i:Nat):Int:=if a.length=0 then 0 else(((a[i % a.length]?).getD 0:Nat):Int)
def jn (a:List Nat) (n:Nat):List Int:=(List.range n).map (vH a)
def zm (a b:List Nat) (n:Nat):List Int:=(List.range n).map fun i=>vH a i+vH b i
theorem uH {a:List Nat}(ha:∀x∈a,x<=255) (i:Nat):0<=vH a i/\vH a i<=255:=by
  unfold vH
  split
  · omega
  · cases h:a[i % a.length]? with
    | none=>simp
    | some x=>have:=ha x (List.mem_of_getElem? h);simp;omega
theorem GU {a:List Nat}(i:Nat) (h:a.length≠0):∃x:Nat,a[i % a.length]?=some x/\vH a i=x:=by
  have hlt:=Nat.mod_lt i (Nat.pos_of_ne_zero h)
  refine⟨a[i % a.length],List.getElem?_eq_getElem hlt,?_⟩
  unfold vH
  rw[if_neg h,List.getElem?_eq_getElem hlt];rfl
theorem GS {a:List Nat}(i:Nat) (h:a.length=0):vH a i=0:=by unfold vH;rw[if_pos h]
theorem Ba {a:List Nat}{n:Nat}:(jn a n).length=n:=by simp[jn]
theorem D1 {a b:List Nat}{n:Nat}:(zm a b n).length=n:=by simp[zm]
theorem GR {a:List Nat}{n i:Nat}(h:i<n):(jn a n)[i]?=some (vH a i):=by simp[jn,h]
theorem GP {a b:List Nat}{n i:Nat}(h:i<n):(zm a b n)[i]?=some (vH a i+vH b i):=by simp[zm,h]
theorem FT {a:List Nat}{n:Nat}(ha:∀x∈a,x<=255):yS (jn a n):=⟨fun t ht=>by
  simp only[jn,List.mem_map]at ht
  obtain⟨i,-,rfl⟩:=ht
  have:=uH ha i;omega⟩
theorem L3 {a b:List Nat}{n:Nat}(ha:∀x∈a,x<=255) (hb:∀x∈b,x<=255):yS (zm a b n):=⟨fun t ht=>by
  simp only[zm,List.mem_map]at ht
  obtain⟨i,-,rfl⟩:=ht
  have:=uH ha i;have:=uH hb i;omega⟩
def vn (ts:List Int) (N k:Nat):List Int:=ts.take k++List.replicate (N-k) 0
section
variable {ts:List Int}{N k:Nat}{t:Int}
theorem wX (hl:ts.length=N) (hk:k<=N):(vn ts N k).length=N:=by simp[vn];omega
theorem Bg (hl:ts.length=N) (hk:k<N) (ht:ts[k]?=some t):(vn ts N k).set k t=vn ts N (k+1):=by
  have h1:(ts.take k).length=k:=by simp;omega
  unfold vn
  rw[show N-k=(N-(k+1))+1 by omega,List.replicate_succ,List.set_append_right _ _ (by omega),h1,Nat.sub_self,List.set_cons_zero,List.take_add_one,ht]
  simp
theorem Hj (hl:ts.length=N) (hk:k<N) (ht:ts[k]?=some t):(vn ts N (k+1))[k]?=some t:=by
  rw[<- Bg hl hk ht,List.getElem?_set_self (by rw[wX hl (by omega)];exact hk)]
theorem JB (hl:ts.length=N) (hk:k<N) (ht:ts[k]?=some 0):vn ts N k=vn ts N (k+1):=by
  unfold vn
  rw[show N-k=(N-(k+1))+1 by omega,List.replicate_succ,List.take_add_one,ht]
  simp
theorem Fe (hl:ts.length=N):vn ts N N=ts:=by subst hl;simp[vn]
theorem LI:vn ts N 0=List.replicate N 0:=by simp[vn]
end
theorem IB (f:Block->Int):∀(n:Nat) (bs:List Block),wsum f (List.replicate n 0) bs=0
  | 0,_=>by simp[wsum]
  | n+1,[]=>by simp[wsum,List.replicate_succ]
  | n+1,b::bs=>by simp[wsum,List.replicate_succ,IB f n bs]
theorem EF (f:Block->Int):∀{n i:Nat}{bs:List Block}{b:Block}{t:Int},i<n->bs[i]?=some b->wsum f ((List.replicate n 0).set i t) bs=t*f b
  | n+1,0,c::bs,b,t,_,h=>by simp at h;subst h;simp[List.replicate_succ,wsum,IB]
  | n+1,i+1,c::bs,b,t,hi,h=>by
    have:=EF f (n:=n) (i:=i) (bs:=bs) (b:=b) (t:=t) (by omega) (by simpa using h)
    simp[List.replicate_succ,wsum,this]
  | 0,_,_,_,_,hi,_=>by omega
  | _+1,0,[],_,_,_,h=>by simp at h
  | _+1,_+1,[],_,_,_,h=>by simp at h
theorem Mm {n i:Nat}{t:Int}(h:0<=t/\t<=510):yS ((List.replicate n 0).set i t):=⟨fun x hx=>by
  rcases List.mem_or_eq_of_mem_set hx with hx|rfl
  · have:=List.eq_of_mem_replicate hx;omega
  · exact h⟩
theorem xU {f g:Block->Int}:∀{ts us:List Int}{bs:List Block},ts.length=us.length->(∀(i:Nat) (t u:Int),ts[i]?=some t->us[i]?=some u->0<=t/\t<=u)->(∀b∈bs,0<=f b/\f b<=g b)->wsum f ts bs<=wsum g us bs
  | t::ts,u::us,b::bs,hl,ht,hf=>by
    have h1:=xU (f:=f) (g:=g) (ts:=ts) (us:=us) (bs:=bs) (by simpa using hl) (fun i x y hx hy=>ht (i+1) x y (by simpa using hx) (by simpa using hy)) (fun c hc=>hf c (by simp[hc]))
    obtain⟨t1,t2⟩:=ht 0 t u rfl rfl
    obtain⟨b1,b2⟩:=hf b (by simp)
    have:=Int.mul_le_mul t2 b2 b1 (by omega)
    simp only[wsum];omega
  | [],[],_,_,_,_=>by simp[wsum]
  | _::_,_::_,[],_,_,_=>by simp[wsum]
theorem f31 {b:Block}:f3 b<=f1 b:=by have:=Bh true b.i;unfold f3 f1 tf;omega
theorem f10 {b:Block}:f1 b<=f0 b:=by unfold f1 f0;omega
section
variable {c:Code}(hc:eP c){a b:List Nat}(ha:∀x∈a,x<=255) (hb:∀x∈b,x<=255)
include ha hb in
theorem Ki (n:Nat):∀(i:Nat) (t u:Int),(jn a n)[i]?=some t->(zm a b n)[i]?=some u->0<=t/\t<=u:=by
  intro i t u h1 h2
  have hi:i<n:=by have:=(List.getElem?_eq_some_iff.1 h1).1;rw[Ba]at this;exact this
  rw[GR hi]at h1;rw[GP hi]at h2
  cases h1;cases h2
  have:=uH ha i;have:=uH hb i;omega
include hc ha hb in
theorem F8 {f:Block->Int}(hf:J4 f c.b):c.group*wsum f (jn a c.b.length) c.b<=c.group*wsum f (zm a b c.b.length) c.b:=by
  have hG:1<=c.group:=by rcases hc.group with h|h|h|h|h<;>omega
  exact Int.mul_le_mul_of_nonneg_left (xU (by rw[Ba,D1]) (Ki ha hb _) fun x hx=>⟨(hf x hx).1,Int.le_refl _⟩) (by omega)
include hc ha in
theorem Jt {f g:Block->Int}(hf:J4 f c.b) (hfg:∀x,f x<=g x):c.group*wsum f (jn a c.b.length) c.b<=c.group*wsum g (jn a c.b.length) c.b:=by
  have hG:1<=c.group:=by rcases hc.group with h|h|h|h|h<;>omega
  refine Int.mul_le_mul_of_nonneg_left (xU rfl (fun i t u h1 h2=>?_) fun x hx=>⟨(hf x hx).1,hfg x⟩) (by omega)
  rw[h1]at h2;cases h2
  exact⟨((FT ha).b t (List.mem_of_getElem? h1)).1,Int.le_refl _⟩
end
theorem H0 {c:Code}{ts:List Int}{k:Nat}{t:Int}{B:Block}(hT:ts[k]?=some t) (hB:c.b[k]?=some B) (f:Block->Int) (hk:k<c.b.length) :
    c.group*wsum f (ts.take (k+1)) c.b=c.group*wsum f (ts.take k) c.b+c.group*wsum f ((List.replicate c.b.length 0).set k t) c.b:=by
  rw[sF f hT hB,EF f hk hB,Int.mul_add]
end Go.Am
namespace Go.Am
open Go Go.Proofs
theorem Vs.MQ {P:Program}{h:Heap}{L:List (Nat×Slot)}{KH:D->Heap->Prop}(V:Vs h L) (i:Nat){f:FuncId}{n esz:Nat}{els:List D}{d1 r:D}(hi:L[i]?=some (n,.arr esz els)) (he:∀x∈els,∀y∈x.cells,y.vone=true)
    (hv:bf P f [d1,.sl els] (· = r)) (hd:CX d1) (hfl:r.flat=false) (hK:∀h',Vs h' (L.set i (n,.frz esz els))->KH r h'):ai P f [d1,.ms n 0 els.length] h KH:=by
  have hn:=V.get i _ _ hi
  have hrow:(h n).row=some (esz,els):=by rw[hn];rfl
  have e0:(D.ms n 0 els.length).fz h=.sl els:=by simp[D.fz,D.fzc,hrow]
  have e1:[d1,D.ms n 0 els.length].map (D.fz h)=[d1,.sl els]:=by rw[List.map_cons,List.map_cons,e0,(Dt hd.vd).1];rfl
  have e2:[d1,D.ms n 0 els.length].flatMap D.nm=[n]:=by
    rw[List.flatMap_cons,(Dt (h:=h) hd.vd).2.1];rfl
  refine ai.mono ?_ (gw (K:=(· = r)) (by rw[e1];exact hv) (fun d hdm=>?_))
  · rintro r' h' ⟨hr',k2,k3⟩
    rw[hr']at k3 ⊢
    have hr:¬(r.flat=true\/[d1,D.ms n 0 els.length].flatMap D.nm=[]):=by rw[hfl,e2];simp
    rw[k3 hr,e2]
    have:h.freezeAll [n]=aq h n (.frz esz els):=by simp[Heap.freezeAll,Heap.freeze,hn]
    rw[this]
    exact hK _ (V.eg i hi (by simp))
  · simp only[List.mem_cons,List.not_mem_nil,or_false]at hdm
    rcases hdm with rfl|rfl
    · exact⟨hd.one,(Dt hd.vd).2.2,by rw[(Dt hd.vd).1];exact hd.vd⟩
    · refine⟨by simp,?_,by rw[e0];rfl⟩
      intro x hx
      simp only[D.cells,List.mem_singleton]at hx
      subst hx
      exact⟨esz,els,hrow,by simp,fun x hx y hy=>he x (by simpa using hx) y hy⟩
abbrev iL (l:List Int):List D:=l.map (.int .i64)
theorem KO (l:List Int):∀x,x∈iL l->∀y∈x.cells,y.vone=true:=by
  intro x hx y hy
  simp only[iL,List.mem_map]at hx
  obtain⟨z,-,rfl⟩:=hx
  simp[D.cells]at hy;subst hy;rfl
theorem Ej (l:List Int):∀x,x∈iL l->x.one=true:=by
  intro x hx
  simp only[iL,List.mem_map]at hx
  obtain⟨z,-,rfl⟩:=hx;rfl
theorem Ei (l:List Int) (i:Nat) (t:Int):(iL l).set i (.int .i64 t)=iL (l.set i t):=by simp[iL,List.map_set]
theorem F6 {l:List Int}{i:Nat}{t:Int}(h:l[i]?=some t):(iL l)[i]?=some (.int .i64 t):=by simp[iL,h]
theorem Jr (n:Nat):List.replicate n (D.int .i64 0)=iL (List.replicate n 0):=by simp[iL]
theorem NF {P:Program}{h:Heap}{KH:D->Heap->Prop}{a b c d:Int}:aa P (.eqv false true [.i,.i,.i,.i] (.c (q4 a b c d)) (.c (q4 a b c d))) h KH=KH (.bool true) h:=by
  rw[NJ]
  have e:eqCells [.i,.i,.i,.i] (q4 a b c d).cells (q4 a b c d).cells=some true:=by simp[q4,eqCells]
  unfold veqv
  rw[e]
  simp[q4]
theorem Gs {c:Code}(hc:eP c){ts:List Int}(hl:ts.length=c.b.length) (ht:yS ts){h:Heap}{L:List (Nat×Slot)}{KH:D->Heap->Prop}(V:Vs h L) (i:Nat){n m:Nat}(hi:L[i]?=some (n,.arr 1 (iL ts))) (hm:m=c.b.length)
    (hK:∀h',Vs h' (L.set i (n,.frz 1 (iL ts)))->KH (Ey ts (wsum f0 ts c.b) (wsum f2 ts c.b)) h'):ai PP dh [c.e,.ms n 0 m] h KH:=by
  have e:m=(iL ts).length:=by rw[hm, <- hl];simp[iL]
  rw[e]
  exact V.MQ i hi (KO ts) (MR hc hl ht) c.xT rfl hK
theorem JQ {c:Code}(hc:eP c){ts:List Int}{a b:Int}(hl:ts.length=c.b.length) (ht:yS ts){h:Heap}{KH:D->Heap->Prop}(hK:KH (Df c ts) h):ai PP bL [c.e,Ey ts a b] h KH :=
  yO (K9 hc hl ht) (fun d hd=>by simp at hd;rcases hd with rfl|rfl;exact c.xT.pair;exact Cq.pair) fun _ hr=>by subst hr;exact hK
theorem ON {P:Program}{h:Heap}{KH:D->Heap->Prop}{a:List Nat}{i x:Nat}(hx:a[i]?=some x):aa P (.iadd (.c (nZ a)) (.c (.int .i64 (i:Int))) 1) h KH=KH (.vp (.int .u8 (x:Int)) 0) h :=
  qM (by omega) (by rw[Int.toNat_natCast,List.getElem?_map,hx];rfl) rfl
theorem OI {P:Program}{h:Heap}{K:D->Prop}{a:List Nat}{i x:Nat}(hx:a[i]?=some x):ag P (.iadd (.c (nZ a)) (.c (.int .i64 (i:Int))) 1) h K=K (.vp (.int .u8 (x:Int)) 0):=by rw[oR,ON hx]
theorem Nb {a:List Nat}{h:Heap}{K:D->Prop}:cJ (nZ a) h K=K (.int .i64 (a.length:Int)):=by rw[nZ,tv,List.length_map]
theorem M7 {x:Nat}(h:x<=255):IntKind.i64.wrap (x:Int)=x:=wrap64 (by omega) (by omega)
section
variable {c:Code}(hc:eP c){bs a b:List Nat}(ha:∀x∈a,x<=255) (hb:∀x∈b,x<=255)
abbrev Cb (c:Code) (bs:List Nat) (ts us vs:List Int) (n33 n29 n22 n13 n4:Nat):List (Nat×Slot) :=
  [(n33,.box (Df c vs)),(n29,.arr 1 (iL us)),(n22,.arr 1 (iL ts)),(n13,.box c.e),(n4,.box (uL bs))]
theorem MC (c:Code):Df c []=q4 0 0 0 0:=by simp[Df,wsum]
include hc ha hb in
theorem Jn {n33 n29 n22 n13 n4:Nat}{h:Heap}{J:List D->Heap->Prop}(V0:Vs h (Cb c bs (List.replicate c.b.length 0) (List.replicate c.b.length 0) [] n33 n29 n22 n13 n4))
    (hJ:∀h',Vs h' (Cb c bs (jn a c.b.length) (zm a b c.b.length) (jn a c.b.length) n33 n29 n22 n13 n4)->J [] h') :
    eb h (.ptr n13 0 0) (.ms n22 0 c.b.length) (.ms n29 0 c.b.length) (.ptr n33 0 0) (nZ a) (nZ b) (.bool true) J:=by
  have hnb:=hc.nb
  generalize hN:c.b.length=N at *
  have lT:(jn a N).length=N:=Ba
  have lU:(zm a b N).length=N:=D1
  unfold eb
  refine⟨fun m l h=>∃k:Nat,k<=N/\m=N-k/\l=[.int .i64 (k:Int)]/\Vs h (Cb c bs (vn (jn a N) N k) (vn (zm a b N) N k) ((jn a N).take k) n33 n29 n22 n13 n4),_,⟨0,by omega,rfl,rfl,by rw[LI,LI];exact V0⟩,?_⟩
  rintro m f h1 ⟨k,hk,hm,hl,V⟩
  simp only[List.cons.injEq,and_true]at hl
  simp only[hl,↓V.fa 3 rfl,Nat.zero_add,↓V.jt 3 (j:=7) rfl rfl,tv,List.length_map,tu,hN]
  by_cases hlt:k<N
  · have hT:=GR (a:=a) hlt
    have hU:=GP (a:=a) (b:=b) hlt
    have bT:=uH ha k
    have bB:=uH hb k
    simp only[show((k:Int)<(N:Int))=True from eq_true (by omega),decide_true,↓aR,Nb,Bm]
    have lenT:∀j,j<=N->(iL (vn (jn a N) N j)).length=N:=fun j hj=>by rw[List.length_map,wX lT hj]
    have lenU:∀j,j<=N->(iL (vn (zm a b N) N j)).length=N:=fun j hj=>by rw[List.length_map,wX lU hj]
    refine⟨fun l h=>Vs h (Cb c bs (vn (jn a N) N (k+1)) (vn (zm a b N) N k) ((jn a N).take k) n33 n29 n22 n13 n4),?_,?_⟩
    · intro _ h2 V2
      simp only[↓V2.ia 2 rfl (show(0:Int)<=(k:Int) by omega) (show(k:Int)<(N:Nat) by omega),Int.toNat_natCast,↓V2.Ow 2 rfl (F6 (Hj lT hlt hT)) rfl,↓V2.ia 1 rfl (show(0:Int)<=(k:Int) by omega) (show(k:Int)<(N:Nat) by omega)]
      refine V2.N1 1 rfl (by rw[lenU k (by omega)];exact hlt) rfl (Ej _) fun h3 V3=>?_
      rw[Ei]at V3
      replace V3:Vs h3 (Cb c bs (vn (jn a N) N (k+1)) ((vn (zm a b N) N k).set k (vH a k)) ((jn a N).take k) n33 n29 n22 n13 n4):=V3
      refine⟨fun l h=>Vs h (Cb c bs (vn (jn a N) N (k+1)) (vn (zm a b N) N (k+1)) ((jn a N).take k) n33 n29 n22 n13 n4),?_,?_⟩
      · intro _ h4 V4
        simp only[↓V4.fa 3 rfl,Nat.zero_add,↓V4.jt 3 (j:=7) rfl rfl,tv,List.length_map,hN]
        refine V4.Oq (by omega) (by omega) fun nO h5 V5=>?_
        rw[Jr]at V5
        simp only[↓V5.ia 3 rfl (show(0:Int)<=(k:Int) by omega) (show(k:Int)<(N:Nat) by omega),Int.toNat_natCast,↓V5.Ow 3 rfl (F6 (Hj lT hlt hT)) rfl,↓V5.ia 0 rfl (show(0:Int)<=(k:Int) by omega) (show(k:Int)<(N:Nat) by omega)]
        refine V5.N1 0 rfl (by simp;exact hlt) rfl (Ej _) fun h6 V6=>?_
        rw[Ei]at V6
        replace V6:Vs h6 ((nO,.arr 1 (iL ((List.replicate N 0).set k (vH a k))))::Cb c bs (vn (jn a N) N (k+1)) (vn (zm a b N) N (k+1)) ((jn a N).take k) n33 n29 n22 n13 n4):=V6
        simp only[↓V6.w5 4 (s:=8) rfl rfl]
        have lO:((List.replicate N (0:Int)).set k (vH a k)).length=c.b.length:=by simp[hN]
        have oO:yS ((List.replicate N (0:Int)).set k (vH a k)):=Mm (by omega)
        refine Gs hc lO oO V6 0 rfl hN.symm fun h7 V7=>?_
        refine⟨⟨by simp only[↓V7.w5 4 (s:=8) rfl rfl,aA],trivial⟩,?_⟩
        refine JQ hc lO oO ?_
        refine V7.alloc fun nG h8 V8=>?_
        refine⟨⟨by simp only[↓V8.w5 5 (s:=8) rfl rfl,aA],by simp only[↓V8.w5 5 (s:=8) rfl rfl,aA],trivial⟩,?_⟩
        have hB:c.b[k]?=some c.b[k]:=List.getElem?_eq_getElem (by omega)
        have st:=fun f=>H0 (c:=c) hT hB f (by omega)
        rw[hN]at st
        have bd:=fun(f:Block->Int) (hf:J4 f c.b)=>fN ((FT ha (n:=N)).take k) hf
        have bd1:=fun(f:Block->Int) (hf:J4 f c.b)=>fN oO hf
        have l18:((jn a N).take k).length<=18:=by rw[List.length_take];omega
        have hG:1<=c.group/\c.group<=8:=by rcases hc.group with h|h|h|h|h<;>omega
        have gb:=fun(f:Block->Int) (hf:J4 f c.b)=>qa (show(0:Int)<=c.group by omega) hG.2 (bd f hf).1 (show _<=(192780:Int) from Int.le_trans (bd f hf).2 (by omega))
        have gb1:=fun(f:Block->Int) (hf:J4 f c.b)=>qa (show(0:Int)<=c.group by omega) hG.2 (bd1 f hf).1 (show _<=(192780:Int) from Int.le_trans (bd1 f hf).2 (by omega))
        have x0:=gb f0 (zC hc);have x1:=gb f1 (zB hc);have x3:=gb f3 (zA hc)
        have y0:=gb1 f0 (zC hc);have y1:=gb1 f1 (zB hc);have y3:=gb1 f3 (zA hc)
        have xm:=qa (show(0:Int)<=c.group-1 by omega) (show c.group-1<=7 by omega) x0.1 x0.2
        have ym:=qa (show(0:Int)<=c.group-1 by omega) (show c.group-1<=7 by omega) y0.1 y0.2
        have s0:=st f0;have s1:=st f1;have s3:=st f3
        refine V8.FW (cs':=[.int .i64 (c.group*wsum f0 ((List.replicate N 0).set k (vH a k)) c.b),.int .i64 (c.group*wsum f1 ((List.replicate N 0).set k (vH a k)) c.b),.int .i64 (c.group*wsum f3 ((List.replicate N 0).set k (vH a k)) c.b),.int .i64 ((c.group-1)*(c.group*wsum f0 ((List.replicate N 0).set k (vH a k)) c.b))]) 0 rfl rfl rfl (fun y hy=>by simp at hy;rcases hy with rfl|rfl|rfl|rfl<;>rfl) fun h9 V9=>?_
        have e2:Df c ((jn a N).take (k+1))=q4 (c.group*wsum f0 ((jn a N).take k) c.b+c.group*wsum f0 ((List.replicate N 0).set k (vH a k)) c.b) (c.group*wsum f1 ((jn a N).take k) c.b+c.group*wsum f1 ((List.replicate N 0).set k (vH a k)) c.b) (c.group*wsum f3 ((jn a N).take k) c.b+c.group*wsum f3 ((List.replicate N 0).set k (vH a k)) c.b) ((c.group-1)*(c.group*wsum f0 ((jn a N).take k) c.b)+(c.group-1)*(c.group*wsum f0 ((List.replicate N 0).set k (vH a k)) c.b)):=by
          unfold Df;rw[s0,s1,s3,Int.mul_add]
        clear s0 s1 s3 st gb gb1 bd bd1
        generalize c.group*wsum f0 ((List.replicate N 0).set k (vH a k)) c.b=y0' at *
        generalize c.group*wsum f1 ((List.replicate N 0).set k (vH a k)) c.b=y1' at *
        generalize c.group*wsum f3 ((List.replicate N 0).set k (vH a k)) c.b=y3' at *
        generalize (c.group-1)*y0'=ym' at *
        have e1:Df c ((jn a N).take k)=q4 (c.group*wsum f0 ((jn a N).take k) c.b) (c.group*wsum f1 ((jn a N).take k) c.b) (c.group*wsum f3 ((jn a N).take k) c.b) ((c.group-1)*(c.group*wsum f0 ((jn a N).take k) c.b)):=rfl
        generalize c.group*wsum f0 ((jn a N).take k) c.b=x0' at *
        generalize c.group*wsum f1 ((jn a N).take k) c.b=x1' at *
        generalize c.group*wsum f3 ((jn a N).take k) c.b=x3' at *
        generalize (c.group-1)*x0'=xm' at *
        replace V9:Vs h9 ((nG,.box (q4 y0' y1' y3' ym'))::(nO,.frz 1 (iL ((List.replicate N 0).set k (vH a k))))::(n33,.box (q4 x0' x1' x3' xm'))::(Cb c bs (vn (jn a N) N (k+1)) (vn (zm a b N) N (k+1)) ((jn a N).take k) n33 n29 n22 n13 n4).tail):=by rw[<- e1];exact V9
        unfold q4 at V9
        simp only[↓V9.fa 2 rfl,Nat.zero_add,↓V9.jt 2 (j:=0) rfl rfl,↓V9.fa 0 rfl,↓V9.jt 0 (j:=0) rfl rfl]
        rw[kR (by omega) (by omega)]
        try simp only[↓V9.fa 2 rfl,Nat.zero_add]
        refine V9.FV 2 (j:=0) rfl (by simp) rfl fun hA VA=>?_
        simp only[↓VA.fa 2 rfl,Nat.zero_add,↓VA.jt 2 (j:=1) rfl rfl,↓VA.fa 0 rfl,↓VA.jt 0 (j:=1) rfl rfl]
        rw[kR (by omega) (by omega)]
        try simp only[↓VA.fa 2 rfl,Nat.zero_add]
        refine VA.FV 2 (j:=1) rfl (by simp) rfl fun hB' VB=>?_
        simp only[↓VB.fa 2 rfl,Nat.zero_add,↓VB.jt 2 (j:=2) rfl rfl,↓VB.fa 0 rfl,↓VB.jt 0 (j:=2) rfl rfl]
        rw[kR (by omega) (by omega)]
        try simp only[↓VB.fa 2 rfl,Nat.zero_add]
        refine VB.FV 2 (j:=2) rfl (by simp) rfl fun hC VC=>?_
        simp only[↓VC.fa 2 rfl,Nat.zero_add,↓VC.jt 2 (j:=3) rfl rfl,↓VC.fa 0 rfl,↓VC.jt 0 (j:=3) rfl rfl]
        rw[kR (by omega) (by omega)]
        try simp only[↓VC.fa 2 rfl,Nat.zero_add]
        refine VC.FV 2 (j:=3) rfl (by simp) rfl fun hD VD=>?_
        rw[kR (by omega) (by omega)]
        simp only[aA,true_and]
        refine⟨_,by omega,k+1,by omega,rfl,by simp,?_⟩
        have VE:=VD.pop.pop
        unfold Cb
        rw[e2]
        exact VE
      · by_cases hb0:b.length=0
        · have e:vn (zm a b N) N (k+1)=(vn (zm a b N) N k).set k (vH a k):=(Bg lU hlt (by rw[hU,GS k hb0,Int.add_zero])).symm
          simp only[hb0,show((0:Nat):Int)=0 from rfl,Int.lt_irrefl,decide_false,↓aO,aA,true_and]
          rw[e];exact V3
        · obtain⟨x,hx,hxb⟩:=GU k hb0
          have x255:=hb x (List.mem_of_getElem? hx)
          simp only[show((0:Int)<(b.length:Int))=True from eq_true (by omega),decide_true,↓aR,↓V3.OQ 1 rfl (show(0:Int)<=(k:Int) by omega) (show(k:Int)<(N:Nat) by omega),Int.toNat_natCast,↓V3.OJ 1 rfl (F6 (List.getElem?_set_self (by rw[wX lU (by omega)];exact hlt))) rfl]
          rw[bX]
          refine⟨by omega,?_⟩
          rw[show((k:Int).tmod (b.length:Int))=((k % b.length:Nat):Int) from aS k b.length]
          simp only[↓OI hx,↓Cl,Gi,vj,M7 x255]
          rw[kR (by omega) (by omega)]
          try simp only[↓V3.OQ 1 rfl (show(0:Int)<=(k:Int) by omega) (show(k:Int)<(N:Nat) by omega),Int.toNat_natCast]
          refine V3.N1 1 rfl (by simp[wX lU (show k<=N by omega)];exact hlt) rfl (Ej _) fun h4 V4=>?_
          rw[Ei,List.set_set, <- hxb]at V4
          simp only[aA,true_and]
          rw[<- Bg lU hlt hU]
          exact V4
    · by_cases ha0:a.length=0
      · have e:vn (jn a N) N k=vn (jn a N) N (k+1):=JB lT hlt (by rw[hT,GS k ha0])
        simp only[ha0,show((0:Nat):Int)=0 from rfl,Int.lt_irrefl,decide_false,↓aO,aA,true_and]
        rw[<- e];exact V
      · obtain⟨x,hx,hxb⟩:=GU k ha0
        have x255:=ha x (List.mem_of_getElem? hx)
        simp only[show((0:Int)<(a.length:Int))=True from eq_true (by omega),decide_true,↓aR]
        rw[bX]
        refine⟨by omega,?_⟩
        rw[show((k:Int).tmod (a.length:Int))=((k % a.length:Nat):Int) from aS k a.length]
        simp only[↓ON hx,↓Ly,vj,M7 x255,↓V.ia 2 rfl (show(0:Int)<=(k:Int) by omega) (show(k:Int)<(N:Nat) by omega),Int.toNat_natCast]
        refine V.N1 2 rfl (by rw[lenT k (by omega)];exact hlt) rfl (Ej _) fun h4 V4=>?_
        rw[Ei, <- hxb]at V4
        simp only[aA,true_and]
        rw[<- Bg lT hlt hT]
        exact V4
  · have:k=N:=by omega
    subst this
    rw[Fe lT,Fe lU,List.take_of_length_le (by omega)]at V
    simp only[show((k:Int)<(k:Int))=False from eq_false (by omega),decide_false,↓aO,aA,true_and]
    exact hJ _ V
end
end Go.Am
namespace Go.Am
open Go Go.Proofs
theorem G3 (bs:List Nat):CX (uL bs):=dL (by simp[nZ])
theorem K7 {bs a b:List Nat}(hx:∀x∈bs,x<=255) (hxl:bs.length<=9223372036854775807) (ha:∀x∈a,x<=255) (hb:∀x∈b,x<=255) :
    bf PP gg [uL bs,nZ a,nZ b] (· = .bool true):=by
  refine jW sy (ab _ _ _) rfl (rU _ _ _ _) ?_
  unfold lR
  refine Vs.nil.box (G3 bs).one fun n4 h5 V1=>?_
  refine yO Gt (fun d hd=>by cases hd) ?_
  rintro _ rfl
  rw[Nx,aO,V1.E3 0 (s:=1) rfl rfl]
  refine yO (MW hx hxl) (fun d hd=>by simp at hd;subst hd;exact(G3 bs).pair) ?_
  rintro _ ⟨c,hc,rfl⟩
  have hnb:=hc.nb
  refine V1.alloc fun n13 h14 V2=>?_
  refine V2.FW (cs':=[.int .i64 c.group,.int .i64 c.sub,.int .i64 c.regs,.int .i64 c.slots,.int .i64 c.params,.sl (c.arrays.map EC.e),.sl (c.loops.map Loop.e),.sl (c.b.map Block.e)]) 0 rfl rfl rfl (fun y hy=>by simp at hy;rcases hy with rfl|rfl|rfl|rfl|rfl|rfl|rfl|rfl<;>rfl) fun h16 V3=>?_
  replace V3:Vs h16 [(n13,.box c.e),(n4,.box (uL bs))]:=V3
  simp only[↓V3.fa 0 rfl,Nat.zero_add,↓V3.jt 0 (j:=7) rfl rfl,tv,List.length_map]
  refine V3.Oq (by omega) (by omega) fun n22 h23 V4=>?_
  simp only[↓V4.fa 1 rfl,Nat.zero_add,↓V4.jt 1 (j:=7) rfl rfl,tv,List.length_map]
  refine V4.Oq (by omega) (by omega) fun n29 h30 V5=>?_
  rw[MZ]
  refine V5.alloc fun n33 h34 V6=>?_
  refine V6.FW (cs':=[.int .i64 0,.int .i64 0,.int .i64 0,.int .i64 0]) 0 rfl rfl rfl (fun y hy=>by simp at hy;subst hy;rfl) fun h36 V7=>?_
  refine⟨fun l h=>Vs h (Cb c bs (jn a c.b.length) (zm a b c.b.length) (jn a c.b.length) n33 n29 n22 n13 n4),fun f h V=>?_,?_⟩
  · have lT:(jn a c.b.length).length=c.b.length:=Ba
    have lU:(zm a b c.b.length).length=c.b.length:=D1
    have oT:=FT ha (n:=c.b.length)
    have oU:=L3 ha hb (n:=c.b.length)
    simp only[↓V.w5 3 (s:=8) rfl rfl]
    refine Gs hc lT oT V 2 rfl rfl fun h1 V1=>?_
    refine⟨⟨by simp only[↓V1.w5 3 (s:=8) rfl rfl,aA],trivial⟩,?_⟩
    refine JQ hc lT oT ?_
    refine V1.alloc fun nG h2 V2=>?_
    refine⟨⟨by simp only[↓V2.w5 4 (s:=8) rfl rfl,aA],by simp only[↓V2.w5 4 (s:=8) rfl rfl,aA],trivial⟩,?_⟩
    have eG:∀ts,Df c ts=.agg [.int .i64 (c.group*wsum f0 ts c.b),.int .i64 (c.group*wsum f1 ts c.b),.int .i64 (c.group*wsum f3 ts c.b),.int .i64 ((c.group-1)*(c.group*wsum f0 ts c.b))]:=fun _=>rfl
    replace V2:Vs h2 [(nG,.box (.agg [.int .i64 0,.int .i64 0,.int .i64 0,.int .i64 0])),(n33,.box (Df c (jn a c.b.length))),(n29,.arr 1 (iL (zm a b c.b.length))),(n22,.frz 1 (iL (jn a c.b.length))),(n13,.box c.e),(n4,.box (uL bs))]:=V2
    rw[eG (jn a c.b.length)]at V2 ⊢
    refine V2.FW 0 rfl rfl rfl (fun y hy=>by simp at hy;rcases hy with rfl|rfl|rfl|rfl<;>rfl) fun h3 V3=>?_
    simp only[↓V3.w5 4 (s:=8) rfl rfl]
    refine Gs hc lU oU V3 2 rfl rfl fun h4 V4=>?_
    refine⟨⟨by simp only[↓V4.w5 4 (s:=8) rfl rfl,aA],trivial⟩,?_⟩
    refine JQ hc lU oU ?_
    refine V4.alloc fun nH h5 V5=>?_
    refine⟨⟨by simp only[↓V5.w5 5 (s:=8) rfl rfl,aA],by simp only[↓V5.w5 5 (s:=8) rfl rfl,aA],trivial⟩,?_⟩
    rw[eG (zm a b c.b.length)]
    refine V5.FW 0 rfl rfl rfl (fun y hy=>by simp at hy;rcases hy with rfl|rfl|rfl|rfl<;>rfl) fun h6 V6=>?_
    have p0:=F8 hc ha hb (zC hc);have p1:=F8 hc ha hb (zB hc);have p3:=F8 hc ha hb (zA hc)
    have q0:=Jt hc ha (f:=f1) (g:=f0) (zB hc) fun _=>f10
    have q1:=Jt hc ha (f:=f3) (g:=f1) (zA hc) fun _=>f31
    have hG:1<=c.group/\c.group<=8:=by rcases hc.group with h|h|h|h|h<;>omega
    have p4:=Int.mul_le_mul_of_nonneg_left p0 (show(0:Int)<=c.group-1 by omega)
    generalize c.group*wsum f0 (jn a c.b.length) c.b=x0 at *
    generalize c.group*wsum f1 (jn a c.b.length) c.b=x1 at *
    generalize c.group*wsum f3 (jn a c.b.length) c.b=x3 at *
    generalize c.group*wsum f0 (zm a b c.b.length) c.b=y0 at *
    generalize c.group*wsum f1 (zm a b c.b.length) c.b=y1 at *
    generalize c.group*wsum f3 (zm a b c.b.length) c.b=y3 at *
    generalize (c.group-1)*x0=x4 at *
    generalize (c.group-1)*y0=y4 at *
    have eq4:∀{h:Heap}{KH:D->Heap->Prop},aa PP (.eqv false true [.i,.i,.i,.i] (.c (.agg [.int .i64 x0,.int .i64 x1,.int .i64 x3,.int .i64 x4])) (.c (.agg [.int .i64 x0,.int .i64 x1,.int .i64 x3,.int .i64 x4]))) h KH=KH (.bool true) h:=fun {_ _}=>NF
    simp (disch:=omega) only[↓gS,↓cS,↓V6.E3 1 (s:=4) rfl rfl,↓V6.E3 2 (s:=4) rfl rfl,↓eq4,↓V6.fa 0 rfl,↓V6.fa 1 rfl,Nat.zero_add,↓V6.jt 0 (j:=0) rfl rfl,↓V6.jt 0 (j:=1) rfl rfl,↓V6.jt 0 (j:=2) rfl rfl,↓V6.jt 0 (j:=3) rfl rfl,↓V6.jt 1 (j:=0) rfl rfl,↓V6.jt 1 (j:=1) rfl rfl,↓V6.jt 1 (j:=2) rfl rfl,↓V6.jt 1 (j:=3) rfl rfl,Hx]
  · refine Jn hc ha hb ?_ fun h' V=>V
    unfold Cb
    rw[MC, <- Jr]
    exact V7
end Go.Am
namespace Go.Am
open Go Go.Proofs
set_option maxRecDepth 100000
theorem Nc:Tryz.prog.underlying 22=some (.slice 5):=by kernel_rfl
theorem OW:Tryz.prog.underlying 5=some (.int .u8):=by kernel_rfl
theorem t24:structL Tryz.prog 24=some [(22,0)]:=by kernel_rfl
theorem OU:Tryz.prog.cellsOf 24=1:=by kernel_rfl
theorem OV:Tryz.prog.cellsOf 22=1:=by kernel_rfl
theorem Ls:IntKind.u8.min=0:=rfl
theorem Na:IntKind.u8.max=255:=rfl
theorem IL {m:Nat}{ds:List D}(h:HasTy Tryz.prog (m+2) 22 ds):∃bs:List Nat,ds=[nZ bs]/\(∀b∈bs,b<=255)/\bs.length<=9223372036854775807:=by
  obtain⟨xs,h1,h2,h3⟩:=F7 Nc OW h
  refine⟨xs.map Int.toNat,?_,fun b hb=>?_,by unfold maxLen at h2;simp;omega⟩
  · rw[h1,nZ,List.map_map]
    congr 2
    refine List.map_congr_left fun x hx=>?_
    have:=h3 x hx
    rw[Ls]at this
    show D.int .u8 x=D.int .u8 ((x.toNat:Nat):Int)
    rw[Int.toNat_of_nonneg this.1]
  · simp only[List.mem_map]at hb
    obtain⟨x,hx,rfl⟩:=hb
    have:=h3 x hx
    rw[Ls,Na]at this
    omega
theorem Mv (xs:List D) (h:CA Tryz.prog 12 Tryz.f3.params.toList xs):bf Tryz.prog 3 xs (· = .bool true):=by
  have hp:Tryz.f3.params.toList=[24,22,22]:=by kernel_rfl
  rw[hp]at h
  obtain⟨c1,r1,rfl,h1,c2,r2,rfl,h2,c3,r3,rfl,h3,rfl⟩:=h
  obtain⟨k1,k2⟩:=Ek t24 h1
  rw[OU]at k1
  have q:=k2 (22,0) (by simp)
  simp only[OV,List.drop_zero]at q
  match c1,k1 with
  | [d],_ =>
    obtain⟨bs,e1,hb,hbl⟩:=IL q
    simp at e1
    subst e1
    obtain⟨a,rfl,ha,-⟩:=IL h2
    obtain⟨b,rfl,hb',-⟩:=IL h3
    have e24:mkElem Tryz.prog 24 [nZ bs]=uL bs:=by rw[HP t24,uL]
    have e22:∀l,mkElem Tryz.prog 22 [nZ l]=nZ l:=fun l=>by rw[Jh Nc]
    rw[e24,e22,e22]
    exact K7 hb hbl ha hb'
end Go.Am
