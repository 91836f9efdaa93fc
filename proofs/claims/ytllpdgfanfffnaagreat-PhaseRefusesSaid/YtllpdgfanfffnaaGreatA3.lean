/- The abstract machine: what the operations of the program do, on plain data. No condition. -/
import Derived.OpenShut
import Derived.ReadAgain
import Derived.RowKit
import Derived.Test.YtllpdgfanfffnaaGreatA2
set_option linter.unnecessarySimpa false
set_option linter.defProp false
set_option linter.unusedSectionVars false
set_option linter.unusedSimpArgs false
set_option linter.unusedVariables false
namespace Go.Am
open Go
variable [bw]
variable {P:Program}{nt:Nat}
structure Ci (c c':Ctx):Prop where
  hp:c'.hp=c.hp
  h:∀k,c.h k≠.free->c'.h k=c.h k
  ρ:∀k,c.h k≠.free->c'.ρ k=c.ρ k
  own:∀b,b<c.hp.size->c'.own b->c.own b
theorem ak.jk {c c':Ctx}(s:Ci c c'){d:D}{v:Value}(h:ak c d v):ak c' d v:=by
  have row:∀{n:Nat}{x:Nat×List D},(c.h n).row=some x->(c'.h n).row=some x:=fun {n x} hx=>by rw[s.h n (Slot.dF hx)];exact hx
  induction h with
  | undef v=>exact .undef v
  | nil=>exact .nil
  | nilfn=>exact .nilfn
  | nilmap=>exact .nilmap
  | nilp=>exact .nilp
  | int k n=>exact .int k n
  | bool b=>exact .bool b
  | str s=>exact .str s
  | mL p cap hm=>exact .mL p cap hm
  | sl xs b o cap esz f hne hc hm he hlen hone hcell ho _ ih =>
    have hb:b<c.hp.size:=by
      cases xs with
      | nil=>exact absurd rfl hne
      | cons e r =>
        have hl:=hlen e (by simp)
        cases hcs:e.cells with
        | nil=>rw[hcs]at hl;simp at hl;omega
        | cons d ds=>exact ve (hcell 0 0 d (by simp[aD,hcs]))
    exact .sl xs b o cap esz f hne hc hm he hlen hone (fun i j d hd=>by rw[s.hp];exact hcell i j d hd) (fun h=>ho (s.own b hb h)) ih
  | msDead n off len p l k hd=>exact .msDead n off len p l k (by rw[s.h n (by rw[hd];simp)];exact hd)
  | msNil n esz els hrow hρ=>exact .msNil n esz els (row hrow) (by rw[s.ρ n (Slot.dF hrow)];exact hρ)
  | ms n off len g esz cap els cur ty fr hrow hρ hl hg hs hc hm=>exact .ms n off len g esz cap els cur ty fr (row hrow) (by rw[s.ρ n (Slot.dF hrow)];exact hρ) hl (by rw[s.hp];exact hg) hs hc hm
  | msE n off esz p els hrow=>exact .msE n off esz p els (row hrow)
  | ptrDead n i j b o hd=>exact .ptrDead n i j b o (by rw[s.h n (by rw[hd];simp)];exact hd)
  | ptrBox n j g v hb hρ=>exact .ptrBox n j g v (by rw[s.h n (by rw[hb];simp)];exact hb) (by rw[s.ρ n (by rw[hb];simp)];exact hρ)
  | ptrRow n i j g esz els hrow hρ hi=>exact .ptrRow n i j g esz els (row hrow) (by rw[s.ρ n (Slot.dF hrow)];exact hρ) hi
  | vp e j b o f hone hcell ho hb _ ih=>exact .vp e j b o f hone (fun k d hd=>by rw[s.hp];exact hcell k d hd) (fun h=>ho (s.own b hb h)) (by rw[s.hp];exact hb) ih
  | agg cs vs hsz hone _ ih=>exact .agg cs vs hsz hone ih
  | tup ds vs hsz _ ih=>exact .tup ds vs hsz ih
  | fn f a b va vb hsa hsb _ _ iha ihb=>exact .fn f a b va vb hsa hsb iha ihb
  | yld n g st B hl hρ=>exact .yld n g st B (by rw[s.h n (by rw[hl];simp)];exact hl) (by rw[s.ρ n (by rw[hl];simp)];exact hρ)
  | yldDead n g hd=>exact .yldDead n g (by rw[s.h n (by rw[hd];simp)];exact hd)
  | mp n g kt l hl hρ=>exact .mp n g kt l (by rw[s.h n (by rw[hl];simp)];exact hl) (by rw[s.ρ n (by rw[hl];simp)];exact hρ)
  | mpDead n p hd=>exact .mpDead n p (by rw[s.h n (by rw[hd];simp)];exact hd)
theorem bJ.jk {c c':Ctx}(s:Ci c c'){n:Nat}{x:Slot}(hρ:x≠.free->c'.ρ n=c.ρ n) (h:bJ c n x):bJ c' n x:=by
  cases x with
  | free=>trivial
  | dead=>trivial
  | box v =>
    obtain⟨g,cur,ty,h1,h2,h3,h4⟩:=h
    exact⟨g,cur,ty,by rw[hρ (by simp)];exact h1,by rw[s.hp];exact h2,h3,fun i d hd=>⟨(h4 i d hd).1,(h4 i d hd).2.jk s⟩⟩
  | arr e l =>
    obtain⟨h1,h2,h3,h4⟩:=h
    refine⟨h1,h2,h3,?_⟩
    rcases h4 with⟨q1,q2⟩|⟨g,cur,ty,q1,q2,q3,q4⟩
    · exact Or.inl ⟨by rw[hρ (by simp)];exact q1,q2⟩
    · exact Or.inr ⟨g,cur,ty,by rw[hρ (by simp)];exact q1,by rw[s.hp];exact q2,q3,fun i j d hd=>(q4 i j d hd).jk s⟩
  | frz e l =>
    obtain⟨h1,h2,h3,h4⟩:=h
    refine⟨h1,h2,h3,?_⟩
    rcases h4 with⟨q1,q2⟩|⟨g,cur,ty,fr,q1,q2,q3,q4,q5⟩
    · exact Or.inl ⟨by rw[hρ (by simp)];exact q1,q2⟩
    · exact Or.inr ⟨g,cur,ty,fr,by rw[hρ (by simp)];exact q1,by rw[s.hp];exact q2,q3,fun h=>q4 (s.own g (Array.getElem?_eq_some_iff.1 q2).1 h),fun i j d hd=>(q5 i j d hd).jk s⟩
  | lp st B =>
    obtain⟨g,tmps,dfs,h1,h2,h3,h4⟩:=h
    exact⟨g,tmps,dfs,by rw[hρ (by simp)];exact h1,by rw[s.hp];exact h2,h3,fun i=>(h4 i).jk s⟩
  | map kt l =>
    obtain⟨g,es,clock,h1,h2,h3,hst,h4⟩:=h
    refine⟨g,es,clock,by rw[hρ (by simp)];exact h1,by rw[s.hp];exact h2,h3,hst,fun i p hp=>?_⟩
    obtain⟨q1,q2,e,q3,q4,q5⟩:=h4 i p hp
    exact⟨q1,q2,e,q3,q4.jk s,q5.jk s⟩
theorem fv.jk {c c':Ctx}(s:Ci c c') (k:fv c):fv c':=fun g o hg=>by
  obtain⟨h1,h2,h3⟩:=k g o hg
  exact⟨fun i v hi=>by rw[s.hp];exact h1 i v hi,fun ho=>h2 (s.own g h3 ho),by rw[s.hp];exact h3⟩
theorem cZ.jk {c c':Ctx}(s:Ci c c') (hl:c'.X.lo=c.X.lo) (hd:c'.X.dfs=c.X.dfs){ds:List Deferred}(k:cZ c ds):cZ c' ds:=by
  refine⟨⟨fun d hd'=>?_,k.marks.nd⟩,by rw[hd];exact k.rest⟩
  obtain⟨j,e,h0,h1,h2⟩:=k.marks.all d hd'
  exact⟨j,e,by rw[hl];exact h0,by rw[s.hp];exact h1,fun ho=>h2 (s.own j (Array.getElem?_eq_some_iff.1 h1).1 ho)⟩
def XT.plus (X:XT) (g:Nat):XT:=⟨fun x=>X.p x\/x=g,X.lo,X.dfs⟩
structure p9 (P:Program) where
  op:AOp
  obj:Obj
  slot:Slot
  val:Nat->Value
  dv:Nat->D
  cs:List (Nat×IntKind×Int)
  hop:∀(K:D->Heap->Prop) (e:LEnv) (h:Heap),(∀q∈cs,e.get q.1=.int q.2.1 q.2.2)->vcOp P op K e h->∀n,lq h n->K (dv n) (aj h n slot)
  hslot:∀(c:Ctx) (n g:Nat),c.ρ n=some g->c.hp[g]?=some obj->bJ c n slot
  hrel:∀(c:Ctx) (n g:Nat),c.h n=slot->c.ρ n=some g->c.hp[g]?=some obj->ak c (dv n) (val g)
def yK (P:Program) (k:p9 P) (o:Oper):Prop:=(∀c,o.op≠.defer c)/\∀(a:Act) (w:World),(∀q∈k.cs,a.tmps.getD q.1 Go.undef=.int q.2.1 q.2.2)->(execOp a.eval o).run P w=.ok (.value (k.val w.heap.size)) (w.alloc k.obj)
def D6 (P:Program) (kt:KeyT):p9 P :=
  ⟨.xt kt,.map #[] 0,.map kt [],fun g=>.map (some g),fun n=>.mp n,[],fun _ _ _ _ h=>h,fun c n g h1 h2=>⟨g, #[],0,h1,h2,rfl,MapKept.stamped_empty 0,fun i p hi=>by simp at hi⟩,fun c n g h1 h2 _=>.mp n g kt [] h1 h2⟩
theorem zw {kt:KeyT}{o:Oper}{t:TypeId}(hop:o.op=.makeMap t none):yK P (D6 P kt) o :=
  ⟨fun c hc=>(by rw[hop]at hc;cases hc),fun a w _=>(by simp[execOp,hop,Instr.makeMap,run_newObj,D6])⟩
def D7 (P:Program) (zd:D) (cs:Array Value) (t:TypeId) (h:∀c:Ctx,cs.size=zd.cells.length/\∀(i:Nat) (d:D),zd.cells[i]?=some d->d.one=true/\ak c d (cs.getD i Go.undef)):p9 P :=
  ⟨.alloc zd,.cells cs t,.box zd,fun g=>.pointer (some ⟨g,0,none⟩),fun n=>.ptr n 0 0,[],fun _ _ _ _ h=>h,fun c n g h1 h2=>⟨g,cs,t,h1,h2,(h c).1,(h c).2⟩,fun c n g h1 h2 _=>.ptrBox n 0 g zd h1 h2⟩
theorem qo {t:TypeId}{zd:D}(hz:ca P t=some zd):∃z,(P.info? t).bind (·.zero)=some z/\∀c:Ctx,z.cells.size=zd.cells.length/\∀(i:Nat) (d:D),zd.cells[i]?=some d->d.one=true/\ak c d (z.cells.getD i Go.undef):=by
  obtain⟨z,hz1,hz2⟩:=dO hz
  refine⟨z,hz1,fun c=>?_⟩
  have h:=bY (eQ hz2 c) (dK hz2)
  refine⟨by simpa using h.len,fun i x hx=>?_⟩
  obtain⟨h1,h2⟩:=h.rel i x hx
  rw[au]at h2
  exact⟨h1,h2⟩
structure yJ (P:Program) (nt:Nat) (ops:Array Oper) (items:List AOper) (masks tl:List Nat) (p m s:Nat) (fk:p9 P):Prop extends oe P nt ops items masks tl where
  tord:∀l k i i':Nat,tl[l]?=some i->tl[k]?=some i'->l<k->k≠p->(masks.getD i' 0).testBit i=true
  nd:∀l l' i:Nat,tl[l]?=some i->tl[l']?=some i->l=l'
  fm:tl[p]?=some m
  it:items[m]?=some ⟨some s,fk.op,none⟩
  us:∀(k:Nat) (b:AOper),items[k]?=some b->k≠m->b.dst≠some s
  sn:s<nt
  mko:∃(o:Oper),ops[m]?=some o/\yK P fk o/\o.dst=some s/\o.guard=none
  ntm:∀l i:Nat,tl[l]?=some i->l<p->(masks.getD i 0).testBit m=false
  cok:∀q∈fk.cs,∀(k:Nat) (b:AOper),items[k]?=some b->b.dst=some q.1->k∉tl/\qw masks tl k=0/\(masks.getD m 0).testBit k=true
variable {ops:Array Oper}{items:List AOper}{masks tl:List Nat}{p m s:Nat}{fk:p9 P}
theorem AP.congr {X:XT}{L:(Nat->Option Nat)->Heap->World->Prop}{w₀:World}{K:LEnv->Heap->Prop}{l1 l2:Array Bool}{a:Act}{w:World}{ρ:Nat->Option Nat}{h:Heap}{e:LEnv}{j:Nat}(hs:l2.size=l1.size) (hl:∀k,br l2 k=br l1 k)
    (J:AP P nt ops items masks tl X L w₀ K l1 a w ρ h e j):AP P nt ops items masks tl X L w₀ K l2 a w ρ h e j :=
  ⟨hs.trans J.size,fun i k hi h1 h2=>by rw[hl]at h1 ⊢;exact J.dc i k hi h1 h2,J.le,J.hr,J.ws,J.defers,J.tsz,J.jle,J.rest,fun l i hi=>by rw[hl];exact J.prog l i hi,
    fun s=>by
      rcases J.rel s with⟨i,b,h1,h2,h3,h4⟩|h
      · exact Or.inl ⟨i,b,h1,h2,by rw[hl];exact h3,h4⟩
      · exact Or.inr h,fun i b h1 h2 h3 h4=>J.val i b h1 h2 (by rw[<- hl];exact h3) h4⟩
def LP (ob:Obj) (c₀:Ctx) (g:Nat) (ρ:Nat->Option Nat) (h:Heap) (w:World):Prop :=
  c₀.le ⟨ρ,c₀.X,h,w.heap⟩/\c₀.hp.size<=g/\w.heap[g]?=some ob/\∀n,(h n).mine->ρ n≠some g
theorem LP.mono {ob:Obj}{c₀:Ctx}{g:Nat}{X:XT}{ρ ρ':Nat->Option Nat}{h h':Heap}{w w':World}(l:LP ob c₀ g ρ h w) (k:Ctx.le ⟨ρ,X,h,w.heap⟩ ⟨ρ',X,h',w'.heap⟩):LP ob c₀ g ρ' h' w':=by
  obtain⟨l1,l2,l3,l4⟩:=l
  have hlt:=(Array.getElem?_eq_some_iff.1 l3).1
  refine⟨l1.trans (k.Kh c₀.X c₀.X rfl),l2,(k.aG g hlt l4).trans l3,fun n hm hρ=>?_⟩
  obtain⟨m,h1,h2⟩:=k.born n g hm hρ hlt
  exact l4 m h1 h2
def GN (listed:Array Bool) (m:Nat):Array Bool:=listed.setIfInBounds m false
theorem iX (listed:Array Bool) (m:Nat):(GN listed m).size=listed.size:=by simp[GN]
theorem dg {listed:Array Bool}{m:Nat}(hm:m<listed.size) (k:Nat):br (GN listed m) k=if k=m then false else br listed k:=by
  unfold br GN
  by_cases h:k=m
  · subst h;simp[Array.getD,hm]
  · have h':m≠k:=fun e=>h e.symm
    rw[if_neg h]
    by_cases hk:k<listed.size
    · simp[Array.getD,hk,h']
    · simp[Array.getD,hk]
inductive JF (P:Program) (nt:Nat) (ops:Array Oper) (items:List AOper) (masks tl:List Nat) (p m s:Nat) (fk:p9 P) (c₀:Ctx) (w₀:World) (K:LEnv->Heap->Prop) (listed:Array Bool) (a:Act) (w:World):Prop
  | A (ρ:Nat->Option Nat) (h:Heap) (e:LEnv) (j:Nat) (hJ:AP P nt ops items masks tl c₀.X (fun ρ h w=>c₀.le ⟨ρ,c₀.X,h,w.heap⟩) w₀ K listed a w ρ h e j) (he:j<=p->e.get s=.undef/\∀q∈fk.cs,e.get q.1=.int q.2.1 q.2.2)
  | B (g:Nat) (ρ:Nat->Option Nat) (h:Heap) (e:LEnv) (j:Nat) (hjp:j<p) (hm:br listed m=true) (hanc:∀k,(masks.getD m 0).testBit k=true->br listed k=true) (hJ:AP P nt ops items masks tl (c₀.X.plus g) (LP fk.obj c₀ g) w₀ K (GN listed m) a w ρ h e j)
      (he:e.get s=.undef/\∀q∈fk.cs,e.get q.1=.int q.2.1 q.2.2) (ht:a.tmps.getD s Go.undef=fk.val g)
theorem JF.size {c₀:Ctx}{w₀:World}{K:LEnv->Heap->Prop}{listed:Array Bool}{a:Act}{w:World}(hJ:JF P nt ops items masks tl p m s fk c₀ w₀ K listed a w):listed.size=ops.size:=by
  cases hJ with
  | A ρ h e j hJ he=>exact hJ.size
  | B g ρ h e j hjp hm hanc hJ he ht=>rw[<- hJ.size,iX]
theorem JF.dc (S:yJ P nt ops items masks tl p m s fk){c₀:Ctx}{w₀:World}{K:LEnv->Heap->Prop}{listed:Array Bool}{a:Act}{w:World}(hJ:JF P nt ops items masks tl p m s fk c₀ w₀ K listed a w) :
    ∀i k,i<ops.size->br listed i=true->(masks.getD i 0).testBit k=true->br listed k=true:=by
  cases hJ with
  | A ρ h e j hJ he=>exact hJ.dc
  | B g ρ h e j hjp hm hanc hJ he ht =>
    have hmlt:m<listed.size:=by
      have:=S.tlt m (List.mem_of_getElem? S.fm)
      have hs:=hJ.size
      rw[iX]at hs
      omega
    intro i k hi h1 h2
    by_cases him:i=m
    · subst him;exact hanc k h2
    · have:=hJ.dc i k hi (by rw[dg hmlt,if_neg him];exact h1) h2
      rw[dg hmlt]at this
      split at this
      · cases this
      · exact this
theorem EN (S:yJ P nt ops items masks tl p m s fk){c₀:Ctx}(hX0:∀g,c₀.X g->g<c₀.hp.size){w₀:World}{K:LEnv->Heap->Prop}{listed:Array Bool}{a:Act}{w:World}{g:Nat}{ρ:Nat->Option Nat}{h:Heap}{e:LEnv}{j:Nat}(hjp:j=p) (hm:br listed m=true)
    (hsz:listed.size=ops.size) (hanc:∀k,(masks.getD m 0).testBit k=true->br listed k=true) (hJ:AP P nt ops items masks tl (c₀.X.plus g) (LP fk.obj c₀ g) w₀ K (GN listed m) a w ρ h e j) (ht:a.tmps.getD s Go.undef=fk.val g) (hpre:∀q∈fk.cs,e.get q.1=.int q.2.1 q.2.2) :
    JF P nt ops items masks tl p m s fk c₀ w₀ K listed a w:=by
  subst hjp
  obtain⟨_,hdc,⟨l1,l2,l3,l4⟩,hr,hws,hdef,htsz,hj,htail,hprog,hrel,hval⟩:=hJ
  have hmop:m<ops.size:=S.tlt m (List.mem_of_getElem? S.fm)
  have hmlt:m<listed.size:=by rw[hsz];exact hmop
  have hlt:j<tl.length:=(List.getElem?_eq_some_iff.1 S.fm).1
  have hli:tl[j]=m:=(List.getElem?_eq_some_iff.1 S.fm).2
  rw[List.drop_eq_getElem_cons hlt,hli]at htail
  simp only[sRest,S.it,bX]at htail
  have htail:=fk.hop _ _ _ hpre htail
  obtain⟨n,top⟩:=cf hr
  have top:lq h n:=top
  have hn:=top.free
  obtain⟨hk1,hk2⟩:=htail n top
  let c1:Ctx:=⟨ρ,c₀.X.plus g,h,w.heap⟩
  let c2:Ctx:=⟨aj ρ n (some g),c₀.X,aj h n fk.slot,w.heap⟩
  have hglt:=(Array.getElem?_eq_some_iff.1 l3).1
  have sc:Ci c1 c2:=by
    refine⟨rfl,fun k hk=>?_,fun k hk=>?_,fun b hb ho=>?_⟩
    · have:k≠n:=by rintro rfl;exact hk hn
      simp[c1,c2,aj,this]
    · have:k≠n:=by rintro rfl;exact hk hn
      simp[c1,c2,aj,this]
    · rcases ho with hx|⟨k,h1,h2⟩
      · exact Or.inl (Or.inl hx)
      · by_cases hk:k=n
        · subst hk
          simp[c2,aj]at h2
          exact Or.inl (Or.inr h2.symm)
        · simp[c2,aj,hk]at h1 h2
          exact Or.inr ⟨k,h1,h2⟩
  have hle2:c₀.le c2:=by
    have fr:∀k,c₀.h k≠.free->k≠n:=by
      rintro k hk rfl
      have:=l1.tr k
      simp only at this
      rw[hn]at this
      cases hx:c₀.h k<;>rw[hx]at this hk<;>first|exact hk rfl|cases this
    refine⟨l1.size,rfl,l1.aG,l1.shape,l1.loop,fun k hk=>?_,fun k=>?_,fun k b h1 h2 hb=>?_⟩
    · show aj ρ n (some g) k=_
      rw[ab _ _ (fr k hk)];exact l1.names k hk
    · show Trans _ (aj h n _ k)
      by_cases hk:k=n
      · subst hk
        have:c₀.h k=.free:=by
          cases hx:c₀.h k<;>first|rfl|exact absurd rfl (fr k (by rw[hx];simp))
        rw[this];exact .free _
      · rw[ab _ _ hk];exact l1.tr k
    · by_cases hk:k=n
      · subst hk
        have h2':aj ρ k (some g) k=some b:=h2
        rw[ag]at h2'
        cases h2'
        omega
      · have h1':(aj h n fk.slot k).mine:=h1
        have h2':aj ρ n (some g) k=some b:=h2
        rw[ab _ _ hk]at h1' h2'
        exact l1.born k b h1' h2' hb
  have hg2:fv c2:=hr.glob.jk sc
  have hr2:ai c2:=by
    refine⟨fun k=>?_,fun k1 k2 b m1 m2 r1 r2=>?_,fun k b hm hb hX=>?_,fun b hX=>?_,?_,hg2,hr.lo⟩
    · show bJ c2 k (aj h n fk.slot k)
      by_cases hk:k=n
      · subst hk
        rw[ag]
        exact fk.hslot c2 k g (by simp[c2,aj]) l3
      · rw[ab _ _ hk]
        exact bJ.jk sc (fun _=>by simp[c1,c2,aj,hk]) (hr.slot k)
    · have m1':(aj h n fk.slot k1).mine:=m1
      have m2':(aj h n fk.slot k2).mine:=m2
      have r1':aj ρ n (some g) k1=some b:=r1
      have r2':aj ρ n (some g) k2=some b:=r2
      by_cases e1:k1=n
      · by_cases e2:k2=n
        · rw[e1,e2]
        · exfalso
          subst e1
          rw[ag]at r1'
          cases r1'
          rw[ab _ _ e2]at m2' r2'
          exact l4 k2 m2' r2'
      · by_cases e2:k2=n
        · exfalso
          subst e2
          rw[ag]at r2'
          cases r2'
          rw[ab _ _ e1]at m1' r1'
          exact l4 k1 m1' r1'
        · rw[ab _ _ e1]at m1' r1'
          rw[ab _ _ e2]at m2' r2'
          exact hr.inj k1 k2 b m1' m2' r1' r2'
    · have hm':(aj h n fk.slot k).mine:=hm
      have hb':aj ρ n (some g) k=some b:=hb
      have hX':c₀.X b:=hX
      by_cases hk:k=n
      · subst hk
        rw[ag]at hb'
        cases hb'
        have:=hX0 g hX'
        omega
      · rw[ab _ _ hk]at hm' hb'
        exact hr.apart k b hm' hb' (Or.inl hX')
    · exact hr.xlt b (Or.inl hX)
    · obtain⟨N,hN⟩:=hr.fin
      refine⟨N+n+1,fun k hk=>?_⟩
      show aj h n _ k=_
      rw[ab _ _ (show k≠n by omega)]
      exact hN k (by omega)
  obtain⟨T,t1,t2,t3⟩:=mN S.tooe hk2
  have mtl:m∈tl:=List.mem_of_getElem? S.fm
  have vals:∀b,b∈da items masks tl (j+1)->b.dst≠some s:=by
    intro b hb
    obtain⟨k,h1,h2,h3⟩:=bh hb
    exact S.us k b h1 (by rintro rfl;exact h2 mtl)
  have hput:∀s',s'≠s->(e.put (some s) (fk.dv n)).get s'=e.get s':=by
    intro s' hs
    rw[LEnv.aQ]
    simp[Env.put,aj,hs]
  refine .A (aj ρ n (some g)) (aj h n fk.slot) T (j+1) ⟨hsz,fun i k hi h1 h2=>?_,hle2,hr2,hws,cZ.jk sc rfl rfl hdef,htsz,by omega,t1,fun l i hl=>?_,fun s'=>?_,fun k b hb hk hun hst=>?_⟩ (fun h=>by omega)
  · by_cases him:i=m
    · subst him;exact hanc k h2
    · have:=hdc i k hi (by rw[dg hmlt,if_neg him];exact h1) h2
      rw[dg hmlt]at this
      split at this
      · cases this
      · exact this
  · by_cases him:i=m
    · subst him
      have:=S.nd l j i hl S.fm
      simp[hm,this]
    · have:=hprog l i hl
      rw[dg hmlt,if_neg him]at this
      rw[this]
      have:l≠j:=by rintro rfl;rw[S.fm]at hl;cases hl;exact him rfl
      omega
  · by_cases hex:∃b,b∈da items masks tl (j+1)/\b.dst=some s'
    · obtain⟨b,hb,hbd⟩:=hex
      obtain⟨k,h1,h2,h3⟩:=bh hb
      left
      refine⟨k,b,h1,h2,?_,hbd⟩
      have hkl:k<ops.size:=by rw[<- S.len];exact(List.getElem?_eq_some_iff.1 h1).1
      have hmk:=(S.sN k j m hkl h2 S.fm).2 (by omega)
      have hkm:k≠m:=by rintro rfl;exact h2 mtl
      cases hlk:br listed k with
      | false=>rfl
      | true =>
        have:=hdc k m hkl (by rw[dg hmlt,if_neg hkm];exact hlk) hmk
        rw[dg hmlt,if_pos rfl]at this
        cases this
    · rw[t2 s' (fun b hb hbd=>hex ⟨b,hb,hbd⟩)]
      by_cases hs:s'=s
      · subst hs
        right
        rw[LEnv.aQ,ht]
        have:Env.put e.get (some s') (fk.dv n) s'=fk.dv n:=by simp[Env.put,aj]
        rw[this]
        exact fk.hrel _ n g (by simp[aj]) (by simp[aj]) l3
      · rw[hput s' hs]
        rcases hrel s' with⟨k,b,h1,h2,h3,h4⟩|h
        · left
          refine⟨k,b,h1,h2,?_,h4⟩
          rw[dg hmlt]at h3
          split at h3
          · rename_i hkm;subst hkm;exact absurd mtl h2
          · exact h3
        · exact Or.inr (ak.jk sc h)
  · have hkm:k≠m:=by rintro rfl;exact hk mtl
    rcases Nat.lt_or_ge (qw masks tl k) (j+1) with hlt'|hge
    case inr =>
      have:qw masks tl k=j+1:=by omega
      have hmm:=lY (masks:=masks) hb hk
      rw[this]at hmm
      exact t3 b hmm
    have hkl:k<ops.size:=by rw[<- S.len];exact(List.getElem?_eq_some_iff.1 hb).1
    have v0:=hval k b hb hk (by rw[dg hmlt,if_neg hkm];exact hun) (by omega)
    have hnanc:(masks.getD m 0).testBit k≠true:=by
      intro hmk
      have:=hanc k hmk
      rw[hun]at this
      cases this
    have hni:¬(masks.getD k 0).testBit m=true:=by
      intro hmk
      have:=(S.sN k j m hkl hk S.fm).1 hmk
      omega
    have vput:aZ P b (e.put (some s) (fk.dv n)) (aj h n fk.slot):=by
      by_cases hf:b.op.eF=true
      · refine aZ.congr (e:=e) (fun r hr'=>?_) (fun s' hs=>?_) (aZ.free hf v0)
        · rw[hput r]
          rintro rfl
          rcases S.rdt m k _ b S.it hb mtl hk r rfl hr' with hmm|hmm
          · exact hni hmm
          · exact hnanc hmm
        · exact hput s' (by rintro rfl;exact S.us k b hb hkm hs)
      · have hmm:b∈mO items masks tl (j+1) m:=by
          simp only[mO,sRevI,List.mem_filterMap,List.mem_filter,List.mem_range,Bool.and_eq_true,decide_eq_true_eq,Bool.not_eq_true']
          exact⟨k,⟨by rw[S.len];exact hkl,⟨⟨by simpa using hk,hlt'⟩,by simpa using hnanc⟩,by rw[hb];simpa using hf⟩,hb⟩
        have hopb:∀b',b'∈mO items masks tl (j+1) m->b'.guard=none/\b'.op.isVal=true:=by
          intro b' hb'
          refine⟨(S.rev j m S.fm b' hb').1,?_⟩
          simp only[mO,sRevI,List.mem_filterMap,List.mem_filter,List.mem_range,Bool.and_eq_true,decide_eq_true_eq,Bool.not_eq_true']at hb'
          obtain⟨k2,⟨q1,⟨⟨q2,q3⟩,q4⟩,q5⟩,q6⟩:=hb'
          have q7:k2<ops.size:=by rw[<- S.len];exact q1
          have:=(S.itv k2 ops[k2] b' (by simp[q7]) q6 (by simpa using q2)).op
          rw[if_neg (by simp)]at this
          exact dN this
        exact lT hopb hk1 b hmm (S.rev j m S.fm b hmm).2
    refine aZ.congr (fun r hr'=>(t2 r fun x hx hxd=>?_).symm) (fun s' hs=>t2 s' fun x hx hxd=>?_) vput
    · obtain⟨m',m1,m2,m3⟩:=bh hx
      have:=((S.rdv m' k x b m1 hb m2 r hxd).2 hr').2.2 hk
      omega
    · obtain⟨m',m1,m2,m3⟩:=bh hx
      have hmk:k≠m':=by rintro rfl;omega
      exact(S.rdv k m' b x hb m1 hk s' hs).1 hmk hxd
theorem Jb (S:yJ P nt ops items masks tl p m s fk){c₀:Ctx}(hX0:∀g,c₀.X g->g<c₀.hp.size){w₀:World}{K:LEnv->Heap->Prop}{listed:Array Bool}{a:Act}{w:World}{Q:Exit->Act->World->Prop}{rd:Option Nat}
    (hJ:JF P nt ops items masks tl p m s fk c₀ w₀ K listed a w) {i:Nat}(hi:i∈Region.ready .any ops listed):wpOpIn (rF rd) 0 P ops Q i (JF P nt ops items masks tl p m s fk c₀ w₀ K (listed.setIfInBounds i true)) a w:=by
  have R:=Bg S.tooe hJ.size (hJ.dc S) hi
  have mtl:m∈tl:=List.mem_of_getElem? S.fm
  have hmop:m<ops.size:=S.tlt m mtl
  have hmlt:m<listed.size:=by rw[hJ.size];exact hmop
  have hil:i<listed.size:=by rw[hJ.size];exact R.lt
  have hp:=(List.getElem?_eq_some_iff.1 S.fm).1
  cases hJ with
  | A ρ h e j hJ he =>
    by_cases him:i=m
    · subst him
      have hjp:j<=p:=by
        have:=(hJ.prog p i S.fm).2
        rcases Nat.lt_or_ge p j with hlt|hge
        · have:=this hlt
          rw[R.un]at this
          cases this
        · exact hge
      by_cases hj:j=p
      · refine wpOpIn_mono (fun a' w' ⟨ρ',h',e',j',hJ',_⟩=>?_) (pS S.tooe (fun ρ h w ρ' h' w' l k=>Ctx.le.trans l k) hJ R fun l hl=>by rw[hj];exact S.nd l p i hl S.fm)
        refine .A ρ' h' e' j' hJ' fun hle=>?_
        have:=(hJ'.prog p i S.fm).1 (by rw[bk hil,if_pos rfl])
        omega
      ·
        have hj:j<p:=by omega
        obtain⟨o,ho,hmk,hdst,hg⟩:=S.mko
        have hrun:=hmk.2 a w (fun q hq=>by
          rcases hJ.rel q.1 with⟨kk,b,hb,hkt,hun,hbd⟩|h0
          · have:=R.anc kk (S.cok q hq kk b hb hbd).2.2
            rw[hun]at this;cases this
          · rw[(he hjp).2 q hq]at h0
            exact cO h0)
        unfold wpOpIn
        simp only[ho]
        rw[if_pos (by simp[Region.wanted,hg])]
        refine eP hmk.1 hrun ?_
        rw[Oper.uponIn_value,hdst]
        obtain⟨hsz,hdc,hle,hr,hws,hdef,htsz,hjl,htail,hprog,hrel,hval⟩:=hJ
        let g:=w.heap.size
        have hpush:(w.alloc fk.obj).heap=w.heap.push fk.obj:=rfl
        let C:Ctx:=⟨ρ,c₀.X,h,w.heap⟩
        let Cp:Ctx:=⟨ρ,c₀.X.plus g,h,w.heap⟩
        let C1:Ctx:=⟨ρ,c₀.X.plus g,h,w.heap.push fk.obj⟩
        have sc:Ci C Cp:=by
          refine⟨rfl,fun _ _=>rfl,fun _ _=>rfl,fun b hb ho=>?_⟩
          rcases ho with hx|hx
          · rcases hx with hx|hx
            · exact Or.inl hx
            · exact absurd hx (Nat.ne_of_lt hb)
          · exact Or.inr hx
        obtain⟨gle,_⟩:=grow_step hr fk.obj
        have le1:Cp.le C1:=gle.Kh (c₀.X.plus g) (c₀.X.plus g) rfl
        have mlt:∀k b,(h k).mine->ρ k=some b->b<g:=fun k b hm hb=>eU hr hm hb
        have hr1:ai C1:=by
          refine⟨fun k=>?_,hr.inj,fun k b hm hb hX=>?_,fun b hX=>?_,hr.fin,(hr.glob.jk sc).mono le1,by have:=hr.lo;simp only at this;show c₀.X.lo<=(w.heap.push _).size;simp;omega⟩
          · exact dX le1 (bJ.jk sc (fun _=>rfl) (hr.slot k)) (fun _ _=>rfl) (fun b hm hb=>by
              have:=mlt k b hm hb
              show(w.heap.push _)[b]?=w.heap[b]?
              rw[Array.getElem?_push,if_neg (by omega)])
          · have:=mlt k b hm hb
            rcases hX with hx|hx
            · exact hr.apart k b hm hb hx
            · have:b=g:=hx
              omega
          · show b<(w.heap.push _).size
            simp only[Array.size_push]
            rcases hX with hx|hx
            · have:=hr.xlt b hx
              simp only at this
              omega
            · have:b=w.heap.size:=hx
              omega
        have hls:∀k,br (GN (listed.setIfInBounds i true) i) k=br listed k:=by
          intro k
          rw[dg (by simpa using hmlt),bk hil]
          by_cases hk:k=i
          · subst hk;simp[R.un]
          · simp[hk]
        have hes:=he hjp
        refine .B g ρ h e j hj (by rw[bk hil,if_pos rfl]) (fun k hk=>by rw[bk hil];split;rfl;exact R.anc k hk) (AP.congr (l1:=listed) (by rw[iX];simp) hls ?_) hes (by simp[Act.put,htsz,S.sn,g])
        refine⟨hsz,hdc,⟨hle.trans gle,by have:=hle.size;simpa using this,eD _ _,fun k hm hb=>by have:=mlt k _ hm hb;omega⟩,hr1,⟨hws.os,hws.tape,hws.output⟩,(cZ.jk sc rfl rfl hdef).mono le1,by simpa[Act.put] using htsz,hjl,htail,hprog,fun s'=>?_,hval⟩
        by_cases hs:s'=s
        · subst hs;rw[hes.1];exact Or.inr (.undef _)
        · rcases hrel s' with h0|h0
          · exact Or.inl h0
          · right
            have hs':s≠s':=fun e=>hs e.symm
            have:((a.put (some s) (fk.val w.heap.size)).tmps.getD s' Go.undef)=a.tmps.getD s' Go.undef:=by simp[Act.put,hs']
            rw[this]
            exact(ak.jk sc h0).mono le1
    · refine wpOpIn_mono (fun a' w' hh=>?_) (pS S.tooe (fun ρ h w ρ' h' w' l k=>Ctx.le.trans l k) hJ R fun l hl=>?_)
      · obtain⟨ρ',h',e',j',hJ',hj',_,hes⟩:=hh
        refine .A ρ' h' e' j' hJ' fun hle=>⟨?_,fun q hq=>?_⟩
        · rw[hes s fun k b hb hk=>S.us k b hb ?_]
          · exact(he (by omega)).1
          · rintro rfl
            rcases hk with hk|hk
            · exact hk.1 mtl
            · exact him hk.1.symm
        · rw[hes q.1 fun k b hb hk hbd=>?_]
          · exact(he (by omega)).2 q hq
          · obtain⟨z1,z2,z3⟩:=S.cok q hq k b hb hbd
            rcases hk with hk|hk
            · exact hk.2 z2
            · rw[hk.1]at z1;exact z1 hk.2
      · have h1:¬l<j:=by
          intro hlt
          have:=(hJ.prog l i hl).2 hlt
          rw[R.un]at this
          cases this
        rcases Nat.lt_or_ge j l with hgt|hge
        · have hjl:j<tl.length:=Nat.lt_trans hgt (List.getElem?_eq_some_iff.1 hl).1
          have hpw:=S.tord j l tl[j] i (by simp[hjl]) hl hgt (by rintro rfl;rw[S.fm]at hl;cases hl;exact him rfl)
          have:=(hJ.prog j tl[j] (by simp[hjl])).1 (R.anc _ hpw)
          omega
        · omega
  | B g ρ h e j hjp hm hanc hJ he ht =>
    have him:i≠m:=by
      rintro rfl
      have:=R.un
      rw[hm]at this
      cases this
    have hjl:j<tl.length:=Nat.lt_trans hjp hp
    have htj:tl[j]?=some tl[j]:=by simp[hjl]
    have hjm:tl[j]≠m:=by
      intro hq
      have:=S.nd j p m (by rw[htj,hq]) S.fm
      omega
    have unl:br listed tl[j]=false:=by
      cases hl:br listed tl[j] with
      | false=>rfl
      | true =>
        have:=(hJ.prog j tl[j] htj).1 (by rw[dg hmlt,if_neg hjm];exact hl)
        omega
    have nom:(masks.getD i 0).testBit m≠true:=by
      intro hq
      by_cases hit:i∈tl
      · obtain⟨l,hl⟩:=List.getElem?_of_mem hit
        have hlp:l≠p:=by rintro rfl;rw[S.fm]at hl;cases hl;exact him rfl
        rcases Nat.lt_or_ge l p with hlt|hge
        · rw[S.ntm l i hl hlt]at hq;cases hq
        · have:=R.anc _ (S.tord j l tl[j] i htj hl (by omega) hlp)
          rw[unl]at this
          cases this
      · have h1:=(S.sN i p m R.lt hit S.fm).1 hq
        have:=R.anc _ ((S.sN i j tl[j] R.lt hit htj).2 (by omega))
        rw[unl]at this
        cases this
    have RV:JC ops masks (GN listed m) i:=by
      refine⟨R.lt,by rw[dg hmlt,if_neg him];exact R.un,fun k hk=>?_⟩
      rw[dg hmlt,if_neg (by rintro rfl;exact nom hk)]
      exact R.anc k hk
    have hitl:i<items.length:=by rw[S.len];exact R.lt
    have hdst:∀o,ops[i]?=some o->o.dst≠some s:=by
      intro o ho hq
      obtain⟨b,hb⟩:∃b,items[i]?=some b:=⟨items[i]'hitl,by simp[hitl]⟩
      refine S.us i b hb him ?_
      by_cases hit:i∈tl
      · obtain⟨fz,hc⟩:=S.itt i o ho hit
        rw[hb]at hc
        unfold cOper at hc
        split at hc
        case isFalse=>cases hc
        cases hop:cOp P fz o with
        | none=>simp[hop]at hc
        | some op =>
          simp only[hop]at hc
          split at hc
          · cases hc;exact hq
          · split at hc
            · cases hc;exact hq
            · cases hc
      · have:=(S.itv i o b ho hb hit).dst
        rw[this];exact hq
    refine wpOpIn_mono (fun a' w' hh=>?_) (wpOp_put (pS S.tooe (fun ρ h w ρ' h' w' l k=>LP.mono l k) hJ RV fun l hl=>?_))
    · obtain⟨⟨ρ',h',e',j',hJ',hj',_,hes⟩,hput⟩:=hh
      have hsz':(listed.setIfInBounds i true).size=ops.size:=by
        have:=hJ.size
        rw[iX]at this
        simpa using this
      have hls:∀k,br (GN (listed.setIfInBounds i true) m) k=br ((GN listed m).setIfInBounds i true) k:=by
        intro k
        rw[dg (by simpa using hmlt),bk hil,bk (by rw[iX];exact hil),dg hmlt]
        by_cases hk:k=m
        · subst hk
          have:¬k=i:=fun e=>him e.symm
          simp[this]
        · simp[hk]
      have hJ2:=AP.congr (l2:=GN (listed.setIfInBounds i true) m) (by rw[iX];simp[iX]) hls hJ'
      have hm':br (listed.setIfInBounds i true) m=true:=by rw[bk hil];split;rfl;exact hm
      have hanc':∀k,(masks.getD m 0).testBit k=true->br (listed.setIfInBounds i true) k=true:=fun k hk=>by rw[bk hil];split;rfl;exact hanc k hk
      have ht':a'.tmps.getD s Go.undef=fk.val g:=(hput s hdst).trans ht
      have he':e'.get s=.undef/\∀q∈fk.cs,e'.get q.1=.int q.2.1 q.2.2:=by
        refine⟨?_,fun q hq=>?_⟩
        · rw[hes s fun k b hb hk=>S.us k b hb ?_]
          · exact he.1
          · rintro rfl
            rcases hk with hk|hk
            · exact hk.1 mtl
            · exact him hk.1.symm
        · rw[hes q.1 fun k b hb hk hbd=>?_]
          · exact he.2 q hq
          · obtain⟨z1,z2,z3⟩:=S.cok q hq k b hb hbd
            rcases hk with hk|hk
            · exact hk.2 z2
            · rw[hk.1]at z1;exact z1 hk.2
      rcases Nat.lt_or_ge j' p with hlt|hge
      · exact .B g ρ' h' e' j' hlt hm' hanc' hJ2 he' ht'
      · exact EN S hX0 (by omega) hm' hsz' hanc' hJ2 ht' he'.2
    · have hlp:l≠p:=by rintro rfl;rw[S.fm]at hl;cases hl;exact him rfl
      have h1:¬l<j:=by
        intro hlt
        have:=(hJ.prog l i hl).2 hlt
        rw[RV.un]at this
        cases this
      rcases Nat.lt_or_ge j l with hgt|hge
      · have hpw:=S.tord j l tl[j] i htj hl hgt hlp
        have:=(hJ.prog j tl[j] htj).1 (RV.anc _ hpw)
        omega
      · omega
theorem zp {id:Nat}(S:yJ P nt ops items masks tl p m s fk) (hm:P.follows .mixedOrders=true){Q:LPost}{e:LEnv}{h:Heap}(hes:e.get s=.undef){T:LEnv}(t1:sRest P items masks tl tl 0 (Q .normal) T h) (t2:∀s,(∀a,a∈da items masks tl 0->a.dst≠some s)->T.get s=e.get s) (t3:∀a,a∈da items masks tl 0->aZ P a T h)
    (hpre:∀q∈fk.cs,T.get q.1=.int q.2.1 q.2.2):lg P nt (.region id ops true) (fun x=>up (Q x)) e.get h:=by
  intro rd c w a hh hp hr hs _
  subst hh
  refine wpIn_region_any hm ?_
  have hfalse:∀i,i<ops.size->br (Array.replicate ops.size false) i=false:=by intro i hi;unfold br;simp[Array.getD,hi]
  have hlt:∀i b,items[i]?=some b->i<ops.size:=fun i b hb=>by rw[<- S.len];exact(List.getElem?_eq_some_iff.1 hb).1
  have hce:(⟨c.ρ,c.X,c.h,w.heap⟩:Ctx)=c:=by rw[<- hp]
  have mtl:m∈tl:=List.mem_of_getElem? S.fm
  refine Hr S.tooe (JJ:=JF P nt ops items masks tl p m s fk c w (Q .normal)) (fun _ _ _ hJ=>hJ.size) (fun _ _ _ hJ=>hJ.dc S) (fun listed a' w' i hJ hi=>Jb S hr.xlt hJ hi) (fun listed a' w' hJ hall=>?_) ops.size _ a _ (Nat.le_trans (List.length_filter_le _ _) (by simp)) ?_
  · cases hJ with
    | B g ρ h e' j hjp hm hanc hJ he ht =>
      exfalso
      have hmlt:m<listed.size:=by
        have:=S.tlt m mtl
        have hs:=hJ.size
        rw[iX]at hs
        omega
      have hjl:j<tl.length:=Nat.lt_trans hjp (List.getElem?_eq_some_iff.1 S.fm).1
      have htj:tl[j]?=some tl[j]:=by simp[hjl]
      have hjm:tl[j]≠m:=by
        intro hq
        have:=S.nd j p m (by rw[htj,hq]) S.fm
        omega
      have:=(hJ.prog j tl[j] htj).1 (by rw[dg hmlt,if_neg hjm];exact hall _ (S.tlt _ (List.getElem_mem hjl)))
      omega
    | A ρ h e' j hJ he =>
      obtain⟨_,_,hle,hrr,hws,hdef,hsz,hj,htail,hprog,hrel,hval⟩:=hJ
      have hjl:j=tl.length:=by
        rcases Nat.lt_or_ge j tl.length with hlt|hge
        · have:=(hprog j tl[j] (by simp[hlt])).1 (hall _ (S.tlt _ (List.getElem_mem hlt)))
          omega
        · omega
      subst hjl
      rw[List.drop_length]at htail
      refine⟨ρ,e'.get,h,hle,hrr,hws,⟨hrr.glob,hrr.lo,hdef,hsz,fun s=>?_⟩,e',rfl,htail⟩
      rcases hrel s with⟨i,b,hb,_,hun,_⟩|h
      · rw[hall i (hlt i b hb)]at hun
        cases hun
      · exact h
  · have hw:({ w with drawn:=w.drawn+1 }:World).heap=w.heap:=rfl
    refine .A c.ρ c.h T 0 ⟨by simp,fun i k hi hl=>(by rw[hfalse i hi]at hl;cases hl),?_,?_,⟨rfl,rfl,rfl⟩,(by rw[hw,hce];exact hs.defers),hs.size,Nat.zero_le _,by simpa using t1,fun l i hl=>?_,fun s=>?_,fun i b hb hn _ hst=>?_⟩ (fun _=>?_)
    · rw[hw,hce];exact Ctx.le.refl c
    · rw[hw,hce];exact hr
    · rw[hfalse i (S.tlt i (List.mem_of_getElem? hl))];simp
    · by_cases hex:∃b,b∈da items masks tl 0/\b.dst=some s
      · obtain⟨b,hb,hbd⟩:=hex
        obtain⟨k,h1,h2,h3⟩:=bh hb
        exact Or.inl ⟨k,b,h1,h2,hfalse k (hlt k b h1),hbd⟩
      · right
        rw[t2 s (fun b hb hbd=>hex ⟨b,hb,hbd⟩),hw,hce]
        exact hs.rel s
    · have:=lY (masks:=masks) hb hn
      rw[show qw masks tl i=0 by omega]at this
      exact t3 b this
    · refine⟨?_,hpre⟩
      rw[t2 s fun b hb=>?_]
      · exact hes
      · obtain⟨k,h1,h2,h3⟩:=bh hb
        exact S.us k b h1 (by rintro rfl;exact h2 mtl)
theorem Ga {id:Nat}(S:yJ P nt ops items masks tl p m s fk) (hcs:fk.cs=[]) (hm:P.follows .mixedOrders=true){Q:LPost}{e:LEnv}{h:Heap}(hes:e.get s=.undef) (hv:vcC P (sCode items masks tl tl 0) Q e h):lg P nt (.region id ops true) (fun x=>up (Q x)) e.get h:=by
  obtain⟨T,t1,t2,t3⟩:=mN S.tooe (mP tl 0 hv)
  exact zp S hm hes t1 t2 t3 (by rw[hcs];intro q hq;cases hq)
def HW (masks:List Nat) (p:Nat) (tl:List Nat):Bool :=
  (List.range tl.length).all fun k=>k == p||(List.range k).all fun l=>(masks.getD (tl.getD k 0) 0).testBit (tl.getD l 0)
def Bc (ops:Array Oper) (items:List AOper) (masks tl:List Nat):Bool :=
  (ops.toList.zipIdx.all fun p=>(p.1.after.toList.all fun e=> !Region.binds .any e||decide (e.on<p.2))&&(masks.getD p.2 0 == uQ masks p.1.after.toList)) &&
  tl.all (fun i=>decide (i<ops.size)) &&
  ((List.range ops.size).all fun k=>tl.contains k||tl.zipIdx.all fun p=>(masks.getD k 0).testBit p.1 == decide (p.2<qw masks tl k)) &&
  (items.zipIdx.all fun p=>items.zipIdx.all fun q=>vJ masks tl p.2 q.2 p.1 q.1) &&
  (tl.zipIdx.all fun p=>(mO items masks tl (p.2+1) p.1).all fun b=>b.guard.isNone&&b.dst.isSome)
def sMk (P:Program) (op:AOp) (o:Oper):Bool :=
  match op,o.op with
  | .xt _,.makeMap _ none=>true
  | .alloc _,.alloc _=>true
  | _,_=>false
def sChkF (P:Program) (ops:Array Oper) (nt:Nat) (items:List AOper) (masks tl:List Nat) (p:Nat):Option Nat :=
  match tl[p]? with
  | some m=>match items[m]?,ops[m]? with
    | some ⟨some s,op,none⟩,some o=>match o.dst,o.guard with
      | some s',none=>if s'=s/\s<nt/\sMk P op o=true/\Bc ops items masks tl=true/\HW masks p tl=true/\tl.Nodup/\(items.zipIdx.all fun q=>decide (q.2=m)||q.1.dst != some s)=true/\((List.range p).all fun l=> !(masks.getD (tl.getD l 0) 0).testBit m)=true then some s else none
      | _,_=>none
    | _,_=>none
  | none=>none
theorem xP (hi:sItems P nt ops tl true ops.toList 0=some items) (hc:Bc ops items masks tl=true):oe P nt ops items masks tl:=by
  obtain⟨l1,l2⟩:=o7 hi
  simp only[Bc,Bool.and_eq_true,List.all_eq_true]at hc
  obtain⟨⟨⟨⟨c1,c2⟩,c4⟩,c5⟩,c6⟩:=hc
  have pair:∀(i k:Nat) (a b:AOper),items[i]?=some a->items[k]?=some b->vJ masks tl i k a b=true:=fun i k a b ha hb=>c5 (a,i) (mem_zipIdx ha) (b,k) (mem_zipIdx hb)
  refine⟨by simpa using l1,fun i o a ho ha hn=>?_,fun i o ho hm=>?_,fun i o ho ed he hb=>?_,fun i o ho k hk=>?_,fun i hi=>by simpa using c2 i hi,fun k l i hk hn hl=>?_,fun i k a b ha hb hn s hs=>?_,fun i k a b ha hb hm hn s hs hr=>?_,fun l i hl b hb=>?_⟩
  · have:=l2 i o (by simpa using ho)
    rw[Nat.zero_add,if_neg (by simpa using hn),ha]at this
    exact pL this
  · have:=l2 i o (by simpa using ho)
    rw[Nat.zero_add,if_pos (by simpa using hm)]at this
    exact⟨_,this⟩
  · have:=(c1 (o,i) (mem_zipIdx (by simpa using ho))).1 ed he
    simpa[hb] using this
  · have:=(c1 (o,i) (mem_zipIdx (by simpa using ho))).2
    have hme:masks.getD i 0=uQ masks o.after.toList:=by simpa using this
    rw[hme]at hk
    rcases sk _ _ hk with h|h
    · simp at h
    · exact h
  · have:=c4 k (by simpa using hk)
    simp only[Bool.or_eq_true,List.all_eq_true]at this
    have:=(this.resolve_left (by simpa using hn)) (i,l) (mem_zipIdx hl)
    simp only[beq_iff_eq]at this
    rw[this];simp
  · have:=pair i k a b ha hb
    simp only[vJ,hs]at this
    rw[if_neg (by simpa using hn)]at this
    simp only[Bool.and_eq_true,Bool.or_eq_true,beq_iff_eq,bne_iff_ne,ne_eq,Bool.not_eq_true',decide_eq_true_eq]at this
    refine⟨fun hne=>this.1.resolve_left hne,fun hr=>?_⟩
    have h2:=this.2.resolve_left (by simp[hr])
    exact⟨h2.1.1,h2.1.2,fun hk=>h2.2.resolve_left (by simpa using hk)⟩
  · have:=pair i k a b ha hb
    simp only[vJ,hs]at this
    rw[if_pos (by simpa using hm)]at this
    simp only[Bool.or_eq_true,Bool.not_eq_true']at this
    rcases this with((h1|h1)|h1)|h1
    · exact absurd (by simpa using h1) hn
    · exfalso
      rw[List.contains_eq_mem]at h1
      simp[hr]at h1
    · exact Or.inl h1
    · exact Or.inr h1
  · have:=c6 (i,l) (mem_zipIdx hl) b hb
    simp only[Bool.and_eq_true,Option.isNone_iff_eq_none]at this
    exact this
theorem FZ (hi:sItems P nt ops tl true ops.toList 0=some items) (hc:sChkF P ops nt items masks tl p=some s):∃m fk,fk.cs=[]/\yJ P nt ops items masks tl p m s fk:=by
  unfold sChkF at hc
  split at hc<;>try (cases hc;done)
  rename_i m hm
  split at hc<;>try (cases hc;done)
  rename_i s0 op o hit hop
  split at hc<;>try (cases hc;done)
  rename_i s' h2 h3
  split at hc<;>try (cases hc;done)
  rename_i hcc
  obtain⟨rfl,c1,cm,c2,c3,c4,c5,c6⟩:=hcc
  cases hc
  have S0:=xP hi c2
  obtain⟨fk,rfl,hcs,hmk⟩:∃fk:p9 P,op=fk.op/\fk.cs=[]/\yK P fk o:=by
    obtain⟨fz,hc⟩:=S0.itt m o hop (List.mem_of_getElem? hm)
    unfold sMk at cm
    split at cm<;>try (cases cm;done)
    · rename_i kt t h1
      exact⟨D6 P kt,rfl,rfl,zw h1⟩
    · rename_i zd t h1
      rw[hit]at hc
      have hz:ca P t=some zd:=by
        unfold cOper at hc
        split at hc
        case isFalse=>cases hc
        cases hcp:cOp P fz o with
        | none=>simp[hcp]at hc
        | some op' =>
          simp only[hcp]at hc
          have:op'=.alloc zd:=by
            split at hc
            · simp only[Option.some.injEq,AOper.mk.injEq]at hc;exact hc.2.1
            · split at hc
              · simp only[Option.some.injEq,AOper.mk.injEq]at hc;exact hc.2.1
              · cases hc
          subst this
          unfold cOp at hcp
          cases hz:ca P t with
          | none=>simp[cOp0,h1,hz,cOpM,deadOp]at hcp
          | some z=>simp[cOp0,h1,hz]at hcp;rw[hcp]
      obtain⟨z,z1,z2⟩:=qo (P:=P) hz
      refine⟨D7 P zd z.cells t z2,rfl,rfl,fun c hc=>(by rw[h1]at hc;cases hc),fun a w _=>?_⟩
      simp[execOp,h1,Instr.alloc,aY z1,newVar,bC,D7]
  refine⟨m,fk,hcs,S0,fun l k i i' hl hk hlt hkp=>?_,fun l l' i hl hl'=>?_,hm,hit,fun k b hb hk=>?_,c1,⟨o,hop,hmk,h2,h3⟩,fun l i hl hlt=>?_,fun q hq=>by rw[hcs]at hq;cases hq⟩
  · simp only[HW,List.all_eq_true,List.mem_range,Bool.or_eq_true,beq_iff_eq]at c3
    have hk1:=List.getElem?_eq_some_iff.1 hk
    have:=(c3 k hk1.1).resolve_left hkp l hlt
    simpa[List.getD,hl,hk] using this
  · have h1:=(List.getElem?_eq_some_iff.1 hl).1
    exact(List.getElem?_inj h1 c4).1 (hl.trans hl'.symm)
  · have:=List.all_eq_true.1 c5 (b,k) (mem_zipIdx hb)
    simp only[Bool.or_eq_true,decide_eq_true_eq,bne_iff_ne,ne_eq]at this
    exact this.resolve_left hk
  · have:=List.all_eq_true.1 c6 l (by simpa using hlt)
    simp only[Bool.not_eq_true']at this
    simpa[List.getD,hl] using this
def cDrF (P:Program) (nt:Nat) (tbl:Nat->Option (List Nat×List Nat×List Nat)) (id:Nat) (ops:Array Oper):Option ACode :=
  if P.follows .mixedOrders then
    match tbl id with
    | some (masks,tl,[999998,p])=>match sItems P nt ops tl true ops.toList 0 with
      | some items=>match sChkF P ops nt items masks tl p with
        | some s=>some (.seq (.dreg [⟨some s,.mov (.c .undef),none⟩] [] []) (sCode items masks tl tl 0))
        | none=>none
      | none=>none
    | _=>none
  else none
theorem IU (P:Program) (nt:Nat) (tbl:Nat->Option (List Nat×List Nat×List Nat)):qa P nt (cDrF P nt tbl):=by
  intro id ops ac h Q e hp hv
  unfold cDrF at h
  split at h
  case isFalse=>cases h
  rename_i hm
  split at h
  case h_2=>cases h
  rename_i masks tl p _
  cases hi:sItems P nt ops tl true ops.toList 0 with
  | none=>simp[hi]at h
  | some items =>
    simp only[hi]at h
    split at h
    case h_2=>cases h
    rename_i s hc
    simp only[Option.some.injEq]at h
    subst h
    obtain⟨m,fk,hcs,S⟩:=FZ hi hc
    have hv':vcC P (sCode items masks tl tl 0) Q (e.put (some s) .undef) hp:=hv
    refine iE (fun i=>?_) (Ga S hcs hm (e:=e.put (some s) .undef) (by simp[LEnv.put,LEnv.get]) hv')
    simp only[LEnv.put,LEnv.get]
    split
    · exact Or.inl rfl
    · exact Or.inr rfl
def argRegs:Arg->List Nat
  | .t r=>[r]
  | .c _=>[]
def lh (x:Arg) (k:IntKind) (n:Int):List (Nat×IntKind×Int):=(argRegs x).map fun r=>(r,k,n)
theorem zP {x:Arg}{k:IntKind}{n:Int}{e:LEnv}(hc:∀d,x=.c d->d=.int k n) (h:∀q,q∈lh x k n->e.get q.1=.int q.2.1 q.2.2):x.get e=.int k n:=by
  cases x with
  | t r=>exact h (r,k,n) (by simp[lh,argRegs])
  | c d=>exact hc d rfl
theorem BZ {x:Operand}{y:Arg}{k:IntKind}{n:Int}(hx:cArg x=some y){a:Act}(ht:∀q,q∈lh y k n->a.tmps.getD q.1 Go.undef=.int q.2.1 q.2.2) (hc:∀d,y=.c d->d=.int k n):a.eval x=.int k n:=by
  cases x with
  | tmp i=>simp[cArg]at hx;subst hx;exact ht (i,k,n) (by simp[lh,argRegs])
  | const v =>
    simp only[cArg]at hx
    cases hv:D.ofV v with
    | none=>simp[hv]at hx
    | some d =>
      simp[hv]at hx;subst hx
      have h1:=hc d rfl
      subst h1
      have:=eQ hv ⟨fun _=>none,⟨fun _=>False,0,[]⟩,fun _=>.free, #[]⟩
      exact cO this
  | func f=>simp[cArg]at hx;subst hx;have:=hc _ rfl;cases this
  | global g =>
    simp only[cArg]at hx
    split at hx
    · simp only[Option.map_eq_some_iff]at hx
      obtain⟨ds,_,rfl⟩:=hx
      have:=hc _ rfl;cases this
    · cases hx
def jL (z:Array Value) (n:Nat):Array Value:=(Array.range n).map (fun k=>z[k % z.size]!)
def KQ (P:Program) (esz bytes:Nat) (zd:D) (x y:Arg) (elem:TypeId) (z:Array Value) (kl kc:IntKind) (L C:Int) (hsz:zd.cells.length=esz) (hpos:0<esz)
    (hz:∀c:Ctx,z.size=zd.cells.length/\∀(i:Nat) (d:D),zd.cells[i]?=some d->d.one=true/\ak c d (z.getD i Go.undef)) (h0:0<=L) (h1:L<=C) (h2:C<=9223372036854775807)
    (hx:∀d,x=.c d->d=.int kl L) (hy:∀d,y=.c d->d=.int kc C):p9 P where
  op:=.mk esz bytes zd x y
  obj:=.cells (jL z (C.toNat*esz)) elem
  slot:=.arr esz (List.replicate L.toNat zd)
  val g:=.slice (some ⟨g,0,none⟩) L.toNat C.toNat
  dv n:=.ms n 0 L.toNat
  cs:=lh x kl L++lh y kc C
  hop:=by
    intro K e h hpre hv n t
    have ex:=zP (e:=e) hx fun q hq=>hpre q (List.mem_append_left _ hq)
    have ey:=zP (e:=e) hy fun q hq=>hpre q (List.mem_append_right _ hq)
    simp only[vcOp,ex,ey,vint]at hv
    exact hv.2.2.2.2 n t
  hslot:=by
    intro c n g hρ hg
    obtain⟨z1,z2⟩:=hz c
    have hle2:L.toNat*esz<=C.toNat*esz:=Nat.mul_le_mul_right _ (by omega)
    have key:∀i j d,aD (List.replicate L.toNat zd) i j=some d->d.one=true/\ak c d ((jL z (C.toNat*esz)).getD (i*esz+j) Go.undef):=by
      intro a b d hd
      obtain⟨q1,q2⟩:=eX hd
      have hb:b<esz:=by rw[<- hsz];exact(List.getElem?_eq_some_iff.1 q2).1
      obtain⟨p1,p2⟩:=z2 b d q2
      refine⟨p1,?_⟩
      have hlt:a*esz+b<C.toNat*esz:=by
        have:(a+1)*esz<=C.toNat*esz:=Nat.mul_le_mul_right _ (by omega)
        rw[Nat.add_mul]at this
        omega
      unfold jL
      rw[tC z (by omega) _ _ hlt]
      have:(a*esz+b) % z.size=b:=by rw[z1,hsz,Nat.mul_comm,Nat.mul_add_mod,Nat.mod_eq_of_lt hb]
      rw[this];exact p2
    exact⟨hpos,fun e he=>by rw[List.eq_of_mem_replicate he];exact hsz,fun i j d hd=>(key i j d hd).1,Or.inr ⟨g,_,elem,hρ,hg,by simp[jL];omega,fun i j d hd=>(key i j d hd).2⟩⟩
  hrel:=by
    intro c n g hh hρ hg
    have:=ak.ms (c:=c) n 0 L.toNat g esz C.toNat (List.replicate L.toNat zd) _ elem (0,0) (by rw[hh];rfl) hρ (by simp) hg (by simp[jL]) (by omega) (by unfold maxLen;omega)
    rwa [Nat.zero_mul]at this
theorem Bo {esz bytes:Nat}{zd:D}{x' y':Arg}{elem t:TypeId}{z:Value}{kl kc:IntKind}{L C:Int}{hsz:zd.cells.length=esz}{hpos:0<esz}
    {hz:∀c:Ctx,z.cells.size=zd.cells.length/\∀(i:Nat) (d:D),zd.cells[i]?=some d->d.one=true/\ak c d (z.cells.getD i Go.undef)}{h0:0<=L}{h1:L<=C}{h2:C<=9223372036854775807}
    {hx:∀d,x'=.c d->d=.int kl L}{hy:∀d,y'=.c d->d=.int kc C}{o:Oper}{x y:Operand}{i:TypeInfo}(ho:o.op=.makeSlice t x y) (hcx:cArg x=some x') (hcy:cArg y=some y')
    (hu:P.underlying t=some (.slice elem)) (hi:P.info? elem=some i) (hie:i.size=esz) (hib:i.bytes=bytes) (hz1:(P.info? elem).bind (·.zero)=some z) (hb:C*bytes<=140737488355328) :
    yK P (KQ P esz bytes zd x' y' elem z.cells kl kc L C hsz hpos hz h0 h1 h2 hx hy) o:=by
  refine⟨fun c hc=>(by rw[ho]at hc;cases hc),fun a w hcs=>?_⟩
  have ex:a.eval x=.int kl L:=BZ hcx (fun q hq=>hcs q (List.mem_append_left _ hq)) hx
  have ey:a.eval y=.int kc C:=BZ hcy (fun q hq=>hcs q (List.mem_append_right _ hq)) hy
  subst hie hib
  have hzs:z.cells.size=i.size:=by rw[(hz ⟨fun _=>none,⟨fun _=>False,0,[]⟩,fun _=>.free, #[]⟩).1,hsz]
  have wl:IntKind.i64.wrap L=L:=by unfold IntKind.wrap IntKind.bits IntKind.signed;simp;omega
  have wm:IntKind.i64.wrap C=C:=by unfold IntKind.wrap IntKind.bits IntKind.signed;simp;omega
  have hb0:¬(C<0):=by omega
  have hb1:¬((i.bytes:Int)*C>281474976710656):=by rw[Int.mul_comm];omega
  have hb2:¬(L<0):=by omega
  have hb3:¬(L>C):=by omega
  have hroom:¬(C.toNat*i.bytes>140737488355328):=by
    have:((C.toNat*i.bytes:Nat):Int)=C*i.bytes:=by simp[Int.toNat_of_nonneg (by omega:0<=C)]
    omega
  have hs2:(P.info? elem).map (·.size)=some i.size:=by simp[hi]
  show(execOp a.eval o).run P w=.ok (.value (.slice (some ⟨w.heap.size,0,none⟩) L.toNat C.toNat)) (w.alloc (.cells (jL z.cells (C.toNat*i.size)) elem))
  by_cases h:C.toNat*i.size=0
  · have hv0:jL z.cells (C.toNat*i.size) = #[]:=by apply Array.eq_empty_of_size_eq_zero;simp only[jL,Array.size_map,Array.size_range];exact h
    rw[hv0]
    simp[execOp,ho,ex,ey,Instr.makeSlice,run_underlying hu,asInt,asIntOf,run_typeInfo hi,wl,wm,hb0,hb1,hb2,hb3,askRoom,hroom,run_sizeOf hs2,h,bC,Array.range_zero']
  · simp[execOp,ho,ex,ey,Instr.makeSlice,run_underlying hu,asInt,asIntOf,run_typeInfo hi,wl,wm,hb0,hb1,hb2,hb3,askRoom,hroom,run_sizeOf hs2,h,aY hz1,bC,jL]
def sCode1 (items:List AOper) (masks tl:List Nat):List Nat->ACode
  | []=>.dreg [] [] []
  | i::r=>.seq (.dreg [] (match items[i]? with|some a=>[a]|none=>[⟨none,.dead,none⟩]) (mO items masks tl 1 i)) (sCode items masks tl r 1)
theorem vK {l:List Nat}{Q:LPost}{e:LEnv}{h:Heap}(hv:vcC P (sCode1 items masks tl l) Q e h):sRest P items masks tl l 0 (Q .normal) e h:=by
  cases l with
  | nil=>exact hv
  | cons i r =>
    simp only[sCode1,vcC,vcVals]at hv
    simp only[sRest]
    have hv:=rS hv
    cases hi:items[i]? with
    | none=>simp only[hi,de,bX,vcOp]at hv
    | some a =>
      simp only[hi,de]at hv ⊢
      exact sR (fun e h hh=>⟨hh.1,mP r 1 hh.2⟩) hv
def sChkM (ops:Array Oper) (nt:Nat) (items:List AOper) (masks tl:List Nat) (p:Nat):Option (Nat×Nat×Arg×Arg) :=
  match tl[p]? with
  | some m=>match items[m]?,ops[m]? with
    | some ⟨some s,.mk _ bytes _ x y,none⟩,some o=>match o.op,o.dst,o.guard with
      | .makeSlice _ _ _,some s',none=>if s'=s/\s<nt/\Bc ops items masks tl=true/\HW masks p tl=true/\tl.Nodup/\(items.zipIdx.all fun q=>decide (q.2=m)||q.1.dst != some s)=true/\((List.range p).all fun l=> !(masks.getD (tl.getD l 0) 0).testBit m)=true /\
          ((argRegs x++argRegs y).all fun r=>items.zipIdx.all fun q=>q.1.dst != some r||(!tl.contains q.2&&qw masks tl q.2 == 0&&(masks.getD m 0).testBit q.2))=true then some (s,bytes,x,y) else none
      | _,_,_=>none
    | _,_=>none
  | none=>none
theorem FY {bytes:Nat}{x' y':Arg}(hi:sItems P nt ops tl true ops.toList 0=some items) (hc:sChkM ops nt items masks tl p=some (s,bytes,x',y')) :
    oe P nt ops items masks tl/\∃m o t x y esz zd,o.op=.makeSlice t x y/\(∃fz:Bool,cOper P fz nt ops o=some ⟨some s,.mk esz bytes zd x' y',none⟩)/\o.guard=none/\∀fk:p9 P,fk.op=.mk esz bytes zd x' y'->(∀q∈fk.cs,q.1∈argRegs x'++argRegs y')->yK P fk o->yJ P nt ops items masks tl p m s fk:=by
  unfold sChkM at hc
  split at hc<;>try (cases hc;done)
  rename_i m hm
  split at hc<;>try (cases hc;done)
  rename_i s0 esz by0 zd x0 y0 o hit hop
  split at hc<;>try (cases hc;done)
  rename_i t x y s' h1 h2 h3
  split at hc<;>try (cases hc;done)
  rename_i hcc
  obtain⟨rfl,c1,c2,c3,c4,c5,c6,c7⟩:=hcc
  cases hc
  have S0:=xP hi c2
  refine⟨S0,m,o,t,x,y,esz,zd,h1,?_,h3,fun fk hfk hcs hmk=>?_⟩
  · obtain⟨fz,h⟩:=S0.itt m o hop (List.mem_of_getElem? hm)
    exact⟨fz,by rw[h,hit]⟩
  refine⟨S0,fun l k i i' hl hk hlt hkp=>?_,fun l l' i hl hl'=>?_,hm,by rw[hfk];exact hit,fun k b hb hk=>?_,c1,⟨o,hop,hmk,h2,h3⟩,fun l i hl hlt=>?_,fun q hq k b hb hbd=>?_⟩
  · simp only[HW,List.all_eq_true,List.mem_range,Bool.or_eq_true,beq_iff_eq]at c3
    have hk1:=List.getElem?_eq_some_iff.1 hk
    have:=(c3 k hk1.1).resolve_left hkp l hlt
    simpa[List.getD,hl,hk] using this
  · have h1:=(List.getElem?_eq_some_iff.1 hl).1
    exact(List.getElem?_inj h1 c4).1 (hl.trans hl'.symm)
  · have:=List.all_eq_true.1 c5 (b,k) (mem_zipIdx hb)
    simp only[Bool.or_eq_true,decide_eq_true_eq,bne_iff_ne,ne_eq]at this
    exact this.resolve_left hk
  · have:=List.all_eq_true.1 c6 l (by simpa using hlt)
    simp only[Bool.not_eq_true']at this
    simpa[List.getD,hl] using this
  · have:=List.all_eq_true.1 (List.all_eq_true.1 c7 q.1 (hcs q hq)) (b,k) (mem_zipIdx hb)
    simp only[hbd,bne_self_eq_false,Bool.false_or,Bool.and_eq_true,Bool.not_eq_true',beq_iff_eq]at this
    exact⟨by simpa using this.1.1,this.1.2,this.2⟩
def cDrM (P:Program) (nt:Nat) (tbl:Nat->Option (List Nat×List Nat×List Nat)) (id:Nat) (ops:Array Oper):Option ACode :=
  if P.follows .mixedOrders then
    match tbl id with
    | some (masks,tl,[999997,p])=>match sItems P nt ops tl true ops.toList 0 with
      | some items=>match sChkM ops nt items masks tl p with
        | some (s,bytes,x,y)=>some (.seq (.dreg [⟨some s,.mov (.c .undef),none⟩] [] []) (.seq (.dreg (da items masks tl 0) [⟨none,.mkc bytes x y,none⟩] []) (sCode1 items masks tl tl)))
        | none=>none
      | none=>none
    | _=>none
  else none
theorem IT (P:Program) (nt:Nat) (tbl:Nat->Option (List Nat×List Nat×List Nat)):qa P nt (cDrM P nt tbl):=by
  intro id ops ac h Q e hp hv
  unfold cDrM at h
  split at h
  case isFalse=>cases h
  rename_i hm
  split at h
  case h_2=>cases h
  rename_i masks tl p _
  cases hi:sItems P nt ops tl true ops.toList 0 with
  | none=>simp[hi]at h
  | some items =>
    simp only[hi]at h
    split at h
    case h_2=>cases h
    rename_i s bytes x' y' hc
    simp only[Option.some.injEq]at h
    subst h
    obtain⟨S0,m,o,t,x,y,esz,zd,ho,⟨fz,hco⟩,hg,jn⟩:=FY hi hc
    have hv1:vcVals P (da items masks tl 0) (fun e1 h1=>vcOp P (.mkc bytes x' y') (fun _ h2=>vcC P (sCode1 items masks tl tl) Q e1 h2) e1 h1) (e.put (some s) .undef) hp:=by
      have:=hv
      simp only[vcC,LPost.then,vcVals,iv,vcTail,kS,bX]at this
      exact this
    let KK:LEnv->Heap->Prop:=fun e1 h1=>(∃kl L kc C,x'.get e1=.int kl L/\y'.get e1=.int kc C/\0<=L/\L<=C/\C*bytes<=140737488355328/\C<=9223372036854775807)/\sRest P items masks tl tl 0 (Q .normal) e1 h1
    have hv2:vcVals P (da items masks tl 0) KK (e.put (some s) .undef) hp:=by
      refine iM (fun e1 h1 hh=>?_) hv1
      simp only[vcOp]at hh
      unfold vint at hh
      split at hh
      case h_2=>exact hh.elim
      rename_i kl L hL
      split at hh
      case h_2=>exact hh.elim
      rename_i kc C hC
      exact⟨⟨kl,L,kc,C,hL,hC,hh.1,hh.2.1,hh.2.2.1,hh.2.2.2.1⟩,vK hh.2.2.2.2⟩
    obtain⟨T,⟨⟨kl,L,kc,C,e1,e2,b0,b1,b2,b3⟩,t1⟩,t2,t3⟩:=mN S0 hv2
    unfold cOper at hco
    split at hco
    case isFalse=>cases hco
    cases hop:cOp P fz o with
    | none=>simp[hop]at hco
    | some op =>
      simp only[hop,hg,Option.some.injEq,AOper.mk.injEq]at hco
      obtain⟨hdst,rfl,_⟩:=hco
      have:∃elem i,P.underlying t=some (.slice elem)/\P.info? elem=some i/\ca P elem=some zd/\cArg x=some x'/\cArg y=some y'/\zd.cells.length=i.size/\0<i.size/\i.size=esz/\i.bytes=bytes:=by
        unfold cOp cOp0 at hop
        simp only[ho]at hop
        split at hop
        · rename_i op' h0
          cases hop
          split at h0
          · rename_i elem hu
            split at h0
            · rename_i i z x1 y1 q1 q2 q3 q4
              split at h0
              · rename_i hcc
                cases h0
                exact⟨elem,i,hu,q1,q2,q3,q4,hcc.1,hcc.2,rfl,rfl⟩
              · cases h0
            · cases h0
          · cases h0
        · simp[cOpM,ho,deadOp]at hop
      obtain⟨elem,i,hu,hinf,hz,hcx,hcy,hsz,hpos,hie,hib⟩:=this
      obtain⟨z,z1,z2⟩:=qo (P:=P) hz
      have hx:∀d,x'=.c d->d=.int kl L:=fun d hd=>by rw[hd]at e1;exact e1
      have hy:∀d,y'=.c d->d=.int kc C:=fun d hd=>by rw[hd]at e2;exact e2
      have hsz':zd.cells.length=esz:=by rw[hsz,hie]
      have hpos':0<esz:=by omega
      let fk:=KQ P esz bytes zd x' y' elem z.cells kl kc L C hsz' hpos' z2 b0 b1 b3 hx hy
      have S:=jn fk rfl (fun q hq=>by
        rcases List.mem_append.1 hq with h|h
        · simp only[lh,List.mem_map]at h
          obtain⟨r,hr,rfl⟩:=h
          exact List.mem_append_left _ hr
        · simp only[lh,List.mem_map]at h
          obtain⟨r,hr,rfl⟩:=h
          exact List.mem_append_right _ hr) (Bo ho hcx hcy hu hinf hie hib z1 b2)
      refine iE (fun i=>?_) (zp S hm (e:=e.put (some s) .undef) (by simp[LEnv.put,LEnv.get]) t1 t2 t3 (fun q hq=>by
        rcases List.mem_append.1 hq with h|h
        · simp only[lh,List.mem_map]at h
          obtain⟨r,hr,rfl⟩:=h
          cases hx':x' with
          | t r' =>
            rw[hx']at hr e1
            simp only[argRegs,List.mem_singleton]at hr
            rw[hr];exact e1
          | c d=>rw[hx']at hr;simp[argRegs]at hr
        · simp only[lh,List.mem_map]at h
          obtain⟨r,hr,rfl⟩:=h
          cases hy':y' with
          | t r' =>
            rw[hy']at hr e2
            simp only[argRegs,List.mem_singleton]at hr
            rw[hr];exact e2
          | c d=>rw[hy']at hr;simp[argRegs]at hr))
      simp only[LEnv.put,LEnv.get]
      split
      · exact Or.inl rfl
      · exact Or.inr rfl
end Go.Am
namespace Go.Am
open Go
variable [bw]
variable {P:Program}{nt:Nat}
variable {ops:Array Oper}{items:List AOper}{masks tl:List Nat}
def XT.AO (X:XT) (wt:Nat->Option Nat):XT:=⟨fun x=>X.p x\/∃k,wt k=some x,X.lo,X.dfs⟩
theorem XT.AR {X:XT}{wt:Nat->Option Nat}(h:∀k,wt k=none):X.AO wt=X:=by
  cases X with
  | mk p lo dfs =>
    have:(fun x=>p x\/∃k,wt k=some x)=p:=by
      funext x
      exact propext ⟨fun hx=>hx.elim id fun ⟨k,hk⟩=>(by rw[h k]at hk;cases hk),Or.inl⟩
    simp only[XT.AO,this]
structure Fl (P:Program) where
  p:Nat
  m:Nat
  s:Nat
  fk:p9 P
structure Lk (P:Program) (nt:Nat) (ops:Array Oper) (items:List AOper) (masks tl:List Nat) (f:Fl P):Prop where
  fm:tl[f.p]?=some f.m
  it:items[f.m]?=some ⟨some f.s,f.fk.op,none⟩
  us:∀(k:Nat) (b:AOper),items[k]?=some b->k≠f.m->b.dst≠some f.s
  sn:f.s<nt
  mko:∃(o:Oper),ops[f.m]?=some o/\yK P f.fk o/\o.dst=some f.s/\o.guard=none
  ntm:∀l i:Nat,tl[l]?=some i->l<f.p->(masks.getD i 0).testBit f.m=false
  cok:∀q∈f.fk.cs,∀(k:Nat) (b:AOper),items[k]?=some b->b.dst=some q.1->k∉tl/\qw masks tl k=0/\(masks.getD f.m 0).testBit k=true
structure uk (P:Program) (nt:Nat) (ops:Array Oper) (items:List AOper) (masks tl:List Nat) (fs:List (Fl P)):Prop extends oe P nt ops items masks tl where
  tord:∀l k i i':Nat,tl[l]?=some i->tl[k]?=some i'->l<k->(∀f∈fs,k≠f.p)->(masks.getD i' 0).testBit i=true
  nd:∀l l' i:Nat,tl[l]?=some i->tl[l']?=some i->l=l'
  fl:∀f∈fs,Lk P nt ops items masks tl f
  ind:∀f f',f∈fs->f'∈fs->f.p≠f'.p->(masks.getD f.m 0).testBit f'.m=false
  same:∀f f',f∈fs->f'∈fs->f.p=f'.p->f=f'
theorem uk.FT {fs:List (Fl P)}(S:uk P nt ops items masks tl fs){f f':Fl P}(h:f∈fs) (h':f'∈fs) (e:f.m=f'.m):f=f' :=
  S.same f f' h h' (S.nd f.p f'.p f.m (S.fl f h).fm (by rw[e];exact(S.fl f' h').fm))
def LW (fs:List (Fl P)) (c₀:Ctx) (wt:Nat->Option Nat) (ρ:Nat->Option Nat) (h:Heap) (w:World):Prop :=
  c₀.le ⟨ρ,c₀.X,h,w.heap⟩/\∀k g,wt k=some g->c₀.hp.size<=g/\(∃f,f∈fs/\f.m=k/\w.heap[g]?=some f.fk.obj)/\∀n,(h n).mine->ρ n≠some g
theorem LW.mono {fs:List (Fl P)}{c₀:Ctx}{wt:Nat->Option Nat}{X:XT}{ρ ρ':Nat->Option Nat}{h h':Heap}{w w':World}(l:LW fs c₀ wt ρ h w) (k:Ctx.le ⟨ρ,X,h,w.heap⟩ ⟨ρ',X,h',w'.heap⟩):LW fs c₀ wt ρ' h' w':=by
  refine⟨l.1.trans (k.Kh c₀.X c₀.X rfl),fun q g hq=>?_⟩
  obtain⟨l2,⟨f,f1,f2,l3⟩,l4⟩:=l.2 q g hq
  have hlt:=(Array.getElem?_eq_some_iff.1 l3).1
  refine⟨l2,⟨f,f1,f2,(k.aG g hlt l4).trans l3⟩,fun n hm hρ=>?_⟩
  obtain⟨m,h1,h2⟩:=k.born n g hm hρ hlt
  exact l4 m h1 h2
def yu (listed:Array Bool) (wt:Nat->Option Nat):Array Bool:=(Array.range listed.size).map fun k=>br listed k&&(wt k).isNone
theorem dU {listed:Array Bool}{wt:Nat->Option Nat}:(yu listed wt).size=listed.size:=by simp[yu]
theorem bT {listed:Array Bool}{wt:Nat->Option Nat}{k:Nat}(h:wt k=none):br (yu listed wt) k=br listed k:=by
  by_cases hk:k<listed.size
  · simp[yu,br,Array.getD,hk,h]
  · simp[yu,br,Array.getD,hk]
theorem gP {listed:Array Bool}{wt:Nat->Option Nat}{k g:Nat}(h:wt k=some g) (hk:k<listed.size):br (yu listed wt) k=false:=by
  simp[yu,br,Array.getD,hk,h]
theorem K0 {listed:Array Bool}{wt:Nat->Option Nat}{k:Nat}(hk:k<listed.size) (h:br (yu listed wt) k=true):br listed k=true:=by
  cases hw:wt k with
  | none=>rwa [bT hw]at h
  | some g=>rw[gP hw hk]at h;cases h
theorem Kv {fs:List (Fl P)}(S:uk P nt ops items masks tl fs){c₀:Ctx}(hX0:∀g,c₀.X g->g<c₀.hp.size){w₀:World}{K:LEnv->Heap->Prop}{l1 l2:Array Bool}{a:Act}{w:World}{wt:Nat->Option Nat}{g:Nat}{ρ:Nat->Option Nat}{h:Heap}{e:LEnv}{f:Fl P}(hf:f∈fs)
    (hwt:wt f.m=some g) (winj:∀k k' g,wt k=some g->wt k'=some g->k=k') (hs:l2.size=l1.size) (hls:∀k,br l2 k=if k=f.m then true else br l1 k) (hanc:∀k,(masks.getD f.m 0).testBit k=true->br l2 k=true) (hl1:br l1 f.m=false)
    (hJ:AP P nt ops items masks tl (c₀.X.AO wt) (LW fs c₀ wt) w₀ K l1 a w ρ h e f.p) (ht:a.tmps.getD f.s Go.undef=f.fk.val g) (hpre:∀q∈f.fk.cs,e.get q.1=.int q.2.1 q.2.2) :
    ∃ρ' h' e',AP P nt ops items masks tl (c₀.X.AO (aj wt f.m none)) (LW fs c₀ (aj wt f.m none)) w₀ K l2 a w ρ' h' e' (f.p+1) /\
      ∀s,(∀k b,items[k]?=some b->b.dst=some s->k≠f.m/\¬(k∉tl/\qw masks tl k≠0))->e'.get s=e.get s:=by
  have F:=S.fl f hf
  obtain⟨hsz,hdc,⟨l1',lw⟩,hr,hws,hdef,htsz,hj,htail,hprog,hrel,hval⟩:=hJ
  obtain⟨l2',⟨f',f1,f2,l3⟩,l4⟩:=lw f.m g hwt
  cases S.FT f1 hf f2
  have hmop:f.m<ops.size:=S.tlt f.m (List.mem_of_getElem? F.fm)
  have hlt:f.p<tl.length:=(List.getElem?_eq_some_iff.1 F.fm).1
  have hli:tl[f.p]=f.m:=(List.getElem?_eq_some_iff.1 F.fm).2
  rw[List.drop_eq_getElem_cons hlt,hli]at htail
  simp only[sRest,F.it,bX]at htail
  have htail:=f.fk.hop _ _ _ hpre htail
  obtain⟨n,top⟩:=cf hr
  have top:lq h n:=top
  have hn:=top.free
  obtain⟨hk1,hk2⟩:=htail n top
  let c1:Ctx:=⟨ρ,c₀.X.AO wt,h,w.heap⟩
  let c2:Ctx:=⟨aj ρ n (some g),c₀.X.AO (aj wt f.m none),aj h n f.fk.slot,w.heap⟩
  have hglt:=(Array.getElem?_eq_some_iff.1 l3).1
  have wle:∀k x,aj wt f.m none k=some x->wt k=some x/\k≠f.m:=by
    intro k x hk
    by_cases hkm:k=f.m
    · subst hkm;rw[ag]at hk;cases hk
    · rw[ab _ _ hkm]at hk;exact⟨hk,hkm⟩
  have xle:∀b,c₀.X.AO (aj wt f.m none) b->c₀.X.AO wt b:=by
    rintro b (hx|⟨k,hk⟩)
    · exact Or.inl hx
    · exact Or.inr ⟨k,(wle k b hk).1⟩
  have sc:Ci c1 c2:=by
    refine⟨rfl,fun k hk=>?_,fun k hk=>?_,fun b hb ho=>?_⟩
    · have:k≠n:=by rintro rfl;exact hk hn
      simp[c1,c2,aj,this]
    · have:k≠n:=by rintro rfl;exact hk hn
      simp[c1,c2,aj,this]
    · rcases ho with hx|⟨k,h1,h2⟩
      · exact Or.inl (xle b hx)
      · by_cases hk:k=n
        · subst hk
          simp[c2,aj]at h2
          exact Or.inl (Or.inr ⟨f.m,by rw[hwt,h2]⟩)
        · simp[c2,aj,hk]at h1 h2
          exact Or.inr ⟨k,h1,h2⟩
  have hle2:c₀.le ⟨aj ρ n (some g),c₀.X,aj h n f.fk.slot,w.heap⟩:=by
    have fr:∀k,c₀.h k≠.free->k≠n:=by
      rintro k hk rfl
      have:=l1'.tr k
      simp only at this
      rw[hn]at this
      cases hx:c₀.h k<;>rw[hx]at this hk<;>first|exact hk rfl|cases this
    refine⟨l1'.size,rfl,l1'.aG,l1'.shape,l1'.loop,fun k hk=>?_,fun k=>?_,fun k b h1 h2 hb=>?_⟩
    · show aj ρ n (some g) k=_
      rw[ab _ _ (fr k hk)];exact l1'.names k hk
    · show Trans _ (aj h n _ k)
      by_cases hk:k=n
      · subst hk
        have:c₀.h k=.free:=by
          cases hx:c₀.h k<;>first|rfl|exact absurd rfl (fr k (by rw[hx];simp))
        rw[this];exact .free _
      · rw[ab _ _ hk];exact l1'.tr k
    · by_cases hk:k=n
      · subst hk
        have h2':aj ρ k (some g) k=some b:=h2
        rw[ag]at h2'
        cases h2'
        omega
      · have h1':(aj h n f.fk.slot k).mine:=h1
        have h2':aj ρ n (some g) k=some b:=h2
        rw[ab _ _ hk]at h1' h2'
        exact l1'.born k b h1' h2' hb
  have hg2:fv c2:=hr.glob.jk sc
  have hr2:ai c2:=by
    refine⟨fun k=>?_,fun k1 k2 b m1 m2 r1 r2=>?_,fun k b hm hb hX=>?_,fun b hX=>?_,?_,hg2,hr.lo⟩
    · show bJ c2 k (aj h n f.fk.slot k)
      by_cases hk:k=n
      · subst hk
        rw[ag]
        exact f.fk.hslot c2 k g (by simp[c2,aj]) l3
      · rw[ab _ _ hk]
        exact bJ.jk sc (fun _=>by simp[c1,c2,aj,hk]) (hr.slot k)
    · have m1':(aj h n f.fk.slot k1).mine:=m1
      have m2':(aj h n f.fk.slot k2).mine:=m2
      have r1':aj ρ n (some g) k1=some b:=r1
      have r2':aj ρ n (some g) k2=some b:=r2
      by_cases e1:k1=n
      · by_cases e2:k2=n
        · rw[e1,e2]
        · exfalso
          subst e1
          rw[ag]at r1'
          cases r1'
          rw[ab _ _ e2]at m2' r2'
          exact l4 k2 m2' r2'
      · by_cases e2:k2=n
        · exfalso
          subst e2
          rw[ag]at r2'
          cases r2'
          rw[ab _ _ e1]at m1' r1'
          exact l4 k1 m1' r1'
        · rw[ab _ _ e1]at m1' r1'
          rw[ab _ _ e2]at m2' r2'
          exact hr.inj k1 k2 b m1' m2' r1' r2'
    · have hm':(aj h n f.fk.slot k).mine:=hm
      have hb':aj ρ n (some g) k=some b:=hb
      have hX':c₀.X.AO (aj wt f.m none) b:=hX
      by_cases hk:k=n
      · subst hk
        rw[ag]at hb'
        cases hb'
        rcases hX' with hx|⟨k',hk'⟩
        · have:=hX0 g hx
          omega
        · obtain⟨q1,q2⟩:=wle k' g hk'
          exact q2 (winj _ _ _ q1 hwt)
      · rw[ab _ _ hk]at hm' hb'
        exact hr.apart k b hm' hb' (xle b hX')
    · exact hr.xlt b (xle b hX)
    · obtain⟨N,hN⟩:=hr.fin
      refine⟨N+n+1,fun k hk=>?_⟩
      show aj h n _ k=_
      rw[ab _ _ (show k≠n by omega)]
      exact hN k (by omega)
  obtain⟨T,t1,t2,t3⟩:=mN S.tooe hk2
  have mtl:f.m∈tl:=List.mem_of_getElem? F.fm
  have hput:∀s',s'≠f.s->(e.put (some f.s) (f.fk.dv n)).get s'=e.get s':=by
    intro s' hs
    rw[LEnv.aQ]
    simp[Env.put,aj,hs]
  refine⟨aj ρ n (some g),aj h n f.fk.slot,T,⟨hs.trans hsz,fun i k hi h1 h2=>?_,⟨hle2,fun k x hk=>?_⟩,hr2,hws,cZ.jk sc rfl rfl hdef,htsz,by omega,t1,fun l i hl=>?_,fun s'=>?_,fun k b hb hk hun hst=>?_⟩,fun s' hs'=>?_⟩
  · by_cases him:i=f.m
    · subst him;exact hanc k h2
    · rw[hls,if_neg him]at h1
      have:=hdc i k hi h1 h2
      rw[hls];split;rfl;exact this
  · obtain⟨q1,q2⟩:=wle k x hk
    obtain⟨z1,⟨f',z2,z3,z4⟩,z5⟩:=lw k x q1
    refine⟨z1,⟨f',z2,z3,z4⟩,fun n' hm hρ=>?_⟩
    have hm':(aj h n f.fk.slot n').mine:=hm
    have hρ':aj ρ n (some g) n'=some x:=hρ
    by_cases hk:n'=n
    · subst hk
      rw[ag]at hρ'
      cases hρ'
      exact q2 (winj _ _ _ q1 hwt)
    · rw[ab _ _ hk]at hm' hρ'
      exact z5 n' hm' hρ'
  · by_cases him:i=f.m
    · subst him
      have:=S.nd l f.p f.m hl F.fm
      rw[hls,if_pos rfl]
      simp[this]
    · have:=hprog l i hl
      rw[hls,if_neg him,this]
      have:l≠f.p:=by rintro rfl;rw[F.fm]at hl;cases hl;exact him rfl
      omega
  · by_cases hex:∃b,b∈da items masks tl (f.p+1)/\b.dst=some s'
    · obtain⟨b,hb,hbd⟩:=hex
      obtain⟨k,h1,h2,h3⟩:=bh hb
      left
      refine⟨k,b,h1,h2,?_,hbd⟩
      have hkl:k<ops.size:=by rw[<- S.len];exact(List.getElem?_eq_some_iff.1 h1).1
      have hmk:=(S.sN k f.p f.m hkl h2 F.fm).2 (by omega)
      have hkm:k≠f.m:=by rintro rfl;exact h2 mtl
      rw[hls,if_neg hkm]
      cases hlk:br l1 k with
      | false=>rfl
      | true =>
        have:=hdc k f.m hkl hlk hmk
        rw[hl1]at this
        cases this
    · rw[t2 s' (fun b hb hbd=>hex ⟨b,hb,hbd⟩)]
      by_cases hs:s'=f.s
      · subst hs
        right
        rw[LEnv.aQ,ht]
        have:Env.put e.get (some f.s) (f.fk.dv n) f.s=f.fk.dv n:=by simp[Env.put,aj]
        rw[this]
        exact f.fk.hrel _ n g (by simp[aj]) (by simp[aj]) l3
      · rw[hput s' hs]
        rcases hrel s' with⟨k,b,h1,h2,h3,h4⟩|h
        · left
          refine⟨k,b,h1,h2,?_,h4⟩
          rw[hls,if_neg (by rintro rfl;exact h2 mtl)]
          exact h3
        · exact Or.inr (ak.jk sc h)
  · have hkm:k≠f.m:=by rintro rfl;exact hk mtl
    rw[hls,if_neg hkm]at hun
    rcases Nat.lt_or_ge (qw masks tl k) (f.p+1) with hlt'|hge
    case inr =>
      have:qw masks tl k=f.p+1:=by omega
      have hmm:=lY (masks:=masks) hb hk
      rw[this]at hmm
      exact t3 b hmm
    have hkl:k<ops.size:=by rw[<- S.len];exact(List.getElem?_eq_some_iff.1 hb).1
    have v0:=hval k b hb hk hun (by omega)
    have hnanc:(masks.getD f.m 0).testBit k≠true:=by
      intro hmk
      have:=hanc k hmk
      rw[hls,if_neg hkm,hun]at this
      cases this
    have hni:¬(masks.getD k 0).testBit f.m=true:=by
      intro hmk
      have:=(S.sN k f.p f.m hkl hk F.fm).1 hmk
      omega
    have vput:aZ P b (e.put (some f.s) (f.fk.dv n)) (aj h n f.fk.slot):=by
      by_cases hf:b.op.eF=true
      · refine aZ.congr (e:=e) (fun r hr'=>?_) (fun s' hs=>?_) (aZ.free hf v0)
        · rw[hput r]
          rintro rfl
          rcases S.rdt f.m k _ b F.it hb mtl hk f.s rfl hr' with hmm|hmm
          · exact hni hmm
          · exact hnanc hmm
        · exact hput s' (by rintro rfl;exact F.us k b hb hkm hs)
      · have hmm:b∈mO items masks tl (f.p+1) f.m:=by
          simp only[mO,sRevI,List.mem_filterMap,List.mem_filter,List.mem_range,Bool.and_eq_true,decide_eq_true_eq,Bool.not_eq_true']
          exact⟨k,⟨by rw[S.len];exact hkl,⟨⟨by simpa using hk,hlt'⟩,by simpa using hnanc⟩,by rw[hb];simpa using hf⟩,hb⟩
        have hopb:∀b',b'∈mO items masks tl (f.p+1) f.m->b'.guard=none/\b'.op.isVal=true:=by
          intro b' hb'
          refine⟨(S.rev f.p f.m F.fm b' hb').1,?_⟩
          simp only[mO,sRevI,List.mem_filterMap,List.mem_filter,List.mem_range,Bool.and_eq_true,decide_eq_true_eq,Bool.not_eq_true']at hb'
          obtain⟨k2,⟨q1,⟨⟨q2,q3⟩,q4⟩,q5⟩,q6⟩:=hb'
          have q7:k2<ops.size:=by rw[<- S.len];exact q1
          have:=(S.itv k2 ops[k2] b' (by simp[q7]) q6 (by simpa using q2)).op
          rw[if_neg (by simp)]at this
          exact dN this
        exact lT hopb hk1 b hmm (S.rev f.p f.m F.fm b hmm).2
    refine aZ.congr (fun r hr'=>(t2 r fun x hx hxd=>?_).symm) (fun s' hs=>t2 s' fun x hx hxd=>?_) vput
    · obtain⟨m',m1,m2,m3⟩:=bh hx
      have:=((S.rdv m' k x b m1 hb m2 r hxd).2 hr').2.2 hk
      omega
    · obtain⟨m',m1,m2,m3⟩:=bh hx
      have hmk:k≠m':=by rintro rfl;omega
      exact(S.rdv k m' b x hb m1 hk s' hs).1 hmk hxd
  · rw[t2 s' fun b hb hbd=>?_]
    · refine hput s' ?_
      rintro rfl
      exact(hs' f.m _ F.it rfl).1 rfl
    · obtain⟨k,h1,h2,h3⟩:=bh hb
      exact(hs' k b h1 hbd).2 ⟨h2,by omega⟩
inductive JG (P:Program) (nt:Nat) (ops:Array Oper) (items:List AOper) (masks tl:List Nat) (fs:List (Fl P)) (c₀:Ctx) (w₀:World) (K:LEnv->Heap->Prop) (d:Nat) (listed:Array Bool) (a:Act) (w:World):Prop
  | mk (wt:Nat->Option Nat) (ρ:Nat->Option Nat) (h:Heap) (e:LEnv) (j:Nat)
      (hw:∀k g,wt k=some g->∃f,f∈fs/\f.m=k/\j<f.p+d/\br listed k=true/\(∀x,(masks.getD k 0).testBit x=true->br listed x=true)/\a.tmps.getD f.s Go.undef=f.fk.val g)
      (wi:∀k k' g,wt k=some g->wt k'=some g->k=k')
      (he:∀f∈fs,j<=f.p->e.get f.s=.undef/\∀q∈f.fk.cs,e.get q.1=.int q.2.1 q.2.2)
      (hJ:AP P nt ops items masks tl (c₀.X.AO wt) (LW fs c₀ wt) w₀ K (yu listed wt) a w ρ h e j)
variable {fs:List (Fl P)}
theorem JG.size {c₀:Ctx}{w₀:World}{K:LEnv->Heap->Prop}{d:Nat}{listed:Array Bool}{a:Act}{w:World}(hJ:JG P nt ops items masks tl fs c₀ w₀ K d listed a w):listed.size=ops.size:=by
  cases hJ with
  | mk wt ρ h e j hw wi he hJ=>rw[<- hJ.size,dU]
theorem JG.dc (S:uk P nt ops items masks tl fs){c₀:Ctx}{w₀:World}{K:LEnv->Heap->Prop}{d:Nat}{listed:Array Bool}{a:Act}{w:World}(hJ:JG P nt ops items masks tl fs c₀ w₀ K d listed a w) :
    ∀i k,i<ops.size->br listed i=true->(masks.getD i 0).testBit k=true->br listed k=true:=by
  have hsz:=hJ.size
  cases hJ with
  | mk wt ρ h e j hw wi he hJ =>
    intro i k hi h1 h2
    cases hwi:wt i with
    | some g =>
      obtain⟨f,f1,f2,f3,f4,f5,f6⟩:=hw i g hwi
      exact f5 k h2
    | none =>
      have hk:=Gw S.tooe i hi k h2
      exact K0 (by omega) (hJ.dc i k hi (by rw[bT hwi];exact h1) h2)
theorem Ig (S:uk P nt ops items masks tl fs){c₀:Ctx}(hX0:∀g,c₀.X g->g<c₀.hp.size){w₀:World}{K:LEnv->Heap->Prop}{listed:Array Bool}{a:Act}{w:World}:∀(N:Nat) (wt:Nat->Option Nat) (ρ:Nat->Option Nat) (h:Heap) (e:LEnv) (j:Nat),tl.length-j<=N ->
    (∀k g,wt k=some g->∃f,f∈fs/\f.m=k/\j<f.p+1/\br listed k=true/\(∀x,(masks.getD k 0).testBit x=true->br listed x=true)/\a.tmps.getD f.s Go.undef=f.fk.val g)->(∀k k' g,wt k=some g->wt k'=some g->k=k') ->
    (∀f∈fs,j<=f.p->e.get f.s=.undef/\∀q∈f.fk.cs,e.get q.1=.int q.2.1 q.2.2)->AP P nt ops items masks tl (c₀.X.AO wt) (LW fs c₀ wt) w₀ K (yu listed wt) a w ρ h e j->JG P nt ops items masks tl fs c₀ w₀ K 0 listed a w:=by
  intro N
  induction N with
  | zero =>
    intro wt ρ h e j hN hw wi he hJ
    refine .mk wt ρ h e j (fun k g hk=>?_) wi he hJ
    obtain⟨f,f1,f2,f3,f4⟩:=hw k g hk
    have:=(List.getElem?_eq_some_iff.1 (S.fl f f1).fm).1
    omega
  | succ N ih =>
    intro wt ρ h e j hN hw wi he hJ
    by_cases hx:∃f g,f∈fs/\wt f.m=some g/\f.p=j
    · obtain⟨f,g,hf,hwt,hp⟩:=hx
      subst hp
      have F:=S.fl f hf
      obtain⟨f',f1,f2,f3,f4,f5,f6⟩:=hw f.m g hwt
      cases S.FT f1 hf f2
      have hsz:listed.size=ops.size:=by rw[<- hJ.size,dU]
      have hmop:f.m<ops.size:=S.tlt f.m (List.mem_of_getElem? F.fm)
      have hlt:f.p<tl.length:=(List.getElem?_eq_some_iff.1 F.fm).1
      have wle:∀k x,aj wt f.m none k=some x->wt k=some x/\k≠f.m:=by
        intro k x hk
        by_cases hkm:k=f.m
        · subst hkm;rw[ag]at hk;cases hk
        · rw[ab _ _ hkm]at hk;exact⟨hk,hkm⟩
      have hls:∀k,br (yu listed (aj wt f.m none)) k=if k=f.m then true else br (yu listed wt) k:=by
        intro k
        by_cases hk:k=f.m
        · subst hk
          rw[if_pos rfl,bT (by rw[ag]),f4]
        · rw[if_neg hk]
          cases hwk:wt k with
          | none=>rw[bT hwk,bT (by rw[ab _ _ hk];exact hwk)]
          | some x =>
            obtain⟨f'',g1,g2,_⟩:=hw k x hwk
            have:k<listed.size:=by rw[hsz, <- g2];exact S.tlt _ (List.mem_of_getElem? (S.fl f'' g1).fm)
            rw[gP hwk this,gP (by rw[ab _ _ hk];exact hwk) this]
      have hanc:∀k,(masks.getD f.m 0).testBit k=true->br (yu listed (aj wt f.m none)) k=true:=by
        intro k hk
        cases hwk:aj wt f.m none k with
        | none=>rw[bT hwk];exact f5 k hk
        | some x =>
          obtain⟨q1,q2⟩:=wle k x hwk
          obtain⟨f'',g1,g2,_⟩:=hw k x q1
          have:=S.ind f f'' hf g1 (by rintro hpp;exact q2 (by rw[S.same f f'' hf g1 hpp,g2]))
          rw[g2,hk]at this
          cases this
      obtain⟨ρ',h',e',hJ',hes⟩:=Kv S hX0 hf hwt wi (by rw[dU,dU]) hls hanc (gP hwt (by omega)) hJ f6 (he f hf (Nat.le_refl _)).2
      refine ih _ ρ' h' e' (f.p+1) (by omega) (fun k x hk=>?_) (fun k k' x h1 h2=>wi k k' x (wle k x h1).1 (wle k' x h2).1) (fun f2 hf2 hp2=>?_) hJ'
      · obtain⟨q1,q2⟩:=wle k x hk
        obtain⟨f'',g1,g2,g3,g4⟩:=hw k x q1
        refine⟨f'',g1,g2,?_,g4⟩
        have:f''.p≠f.p:=by rintro hpp;exact q2 (by rw[<- g2,S.same f'' f g1 hf hpp])
        omega
      · obtain⟨u1,u2⟩:=he f2 hf2 (by omega)
        have F2:=S.fl f2 hf2
        have hne:f2.m≠f.m:=by
          intro hmm
          have:=S.FT hf2 hf hmm
          subst this
          omega
        refine⟨?_,fun q hq=>?_⟩
        · rw[hes f2.s fun k b hb hbd=>?_]
          · exact u1
          · have hk:k=f2.m:=Classical.byContradiction fun hk=>F2.us k b hb hk hbd
            exact⟨by rw[hk];exact hne,fun hh=>hh.1 (by rw[hk];exact List.mem_of_getElem? F2.fm)⟩
        · rw[hes q.1 fun k b hb hbd=>?_]
          · exact u2 q hq
          · obtain⟨z1,z2,z3⟩:=F2.cok q hq k b hb hbd
            exact⟨by rintro rfl;exact z1 (List.mem_of_getElem? F.fm),fun hh=>hh.2 z2⟩
    · refine .mk wt ρ h e j (fun k g hk=>?_) wi he hJ
      obtain⟨f,f1,f2,f3,f4⟩:=hw k g hk
      have:f.p≠j:=by
        rintro hp
        exact hx ⟨f,g,f1,by rw[f2];exact hk,hp⟩
      exact⟨f,f1,f2,by omega,f4⟩
theorem IF (S:uk P nt ops items masks tl fs){c₀:Ctx}{w₀:World}{K:LEnv->Heap->Prop}{listed:Array Bool}{a:Act}{w:World}{Q:Exit->Act->World->Prop}{rd:Option Nat}{wt:Nat->Option Nat}{ρ:Nat->Option Nat}{h:Heap}{e:LEnv}{j:Nat}{f:Fl P}(hf:f∈fs)
    (hw:∀k g,wt k=some g->∃f,f∈fs/\f.m=k/\j<f.p+0/\br listed k=true/\(∀x,(masks.getD k 0).testBit x=true->br listed x=true)/\a.tmps.getD f.s Go.undef=f.fk.val g)
    (wi:∀k k' g,wt k=some g->wt k'=some g->k=k')
    (he:∀f∈fs,j<=f.p->e.get f.s=.undef/\∀q∈f.fk.cs,e.get q.1=.int q.2.1 q.2.2)
    (hJ:AP P nt ops items masks tl (c₀.X.AO wt) (LW fs c₀ wt) w₀ K (yu listed wt) a w ρ h e j) (R:JC ops masks listed f.m) (hj:j<f.p) (hwf:wt f.m=none) :
    wpOpIn (rF rd) 0 P ops Q f.m (JG P nt ops items masks tl fs c₀ w₀ K 0 (listed.setIfInBounds f.m true)) a w:=by
  have F:=S.fl f hf
  have hsl:listed.size=ops.size:=by rw[<- hJ.size,dU]
  have hil:f.m<listed.size:=by rw[hsl];exact R.lt
  obtain⟨o,ho,hmk,hdst,hg⟩:=F.mko
  have hes:=he f hf (Nat.le_of_lt hj)
  have hrun:=hmk.2 a w (fun q hq=>by
    rcases hJ.rel q.1 with⟨kk,b,hb,hkt,hun,hbd⟩|h0
    · have h1:=R.anc kk (F.cok q hq kk b hb hbd).2.2
      have:wt kk=none:=by
        cases hwk:wt kk with
        | none=>rfl
        | some x =>
          obtain⟨f2,g1,g2,_⟩:=hw kk x hwk
          exact absurd (List.mem_of_getElem? (S.fl f2 g1).fm) (by rw[g2];exact hkt)
      rw[bT this,h1]at hun;cases hun
    · rw[hes.2 q hq]at h0
      exact cO h0)
  unfold wpOpIn
  simp only[ho]
  rw[if_pos (by simp[Region.wanted,hg])]
  refine eP hmk.1 hrun ?_
  rw[Oper.uponIn_value,hdst]
  obtain⟨hsz,hdc,⟨hle,lw⟩,hr,hws,hdef,htsz,hjl,htail,hprog,hrel,hval⟩:=hJ
  let g:=w.heap.size
  let wt':=aj wt f.m (some g)
  have wle:∀k x,wt' k=some x->(k=f.m/\x=g)\/wt k=some x:=by
    intro k x hk
    by_cases hkm:k=f.m
    · subst hkm
      have:aj wt f.m (some g) f.m=some x:=hk
      rw[ag]at this
      exact Or.inl ⟨rfl,by cases this;rfl⟩
    · have:aj wt f.m (some g) k=some x:=hk
      rw[ab _ _ hkm]at this;exact Or.inr this
  have wlt:∀k x,wt k=some x->x<g:=by
    intro k x hk
    obtain⟨_,⟨f2,_,_,h3⟩,_⟩:=lw k x hk
    exact(Array.getElem?_eq_some_iff.1 h3).1
  have wup:∀k x,wt k=some x->wt' k=some x:=by
    intro k x hk
    have:k≠f.m:=by rintro rfl;rw[hwf]at hk;cases hk
    show aj wt f.m (some g) k=some x
    rw[ab _ _ this];exact hk
  have hpush:(w.alloc f.fk.obj).heap=w.heap.push f.fk.obj:=rfl
  let C:Ctx:=⟨ρ,c₀.X.AO wt,h,w.heap⟩
  let Cp:Ctx:=⟨ρ,c₀.X.AO wt',h,w.heap⟩
  let C1:Ctx:=⟨ρ,c₀.X.AO wt',h,w.heap.push f.fk.obj⟩
  have sc:Ci C Cp:=by
    refine⟨rfl,fun _ _=>rfl,fun _ _=>rfl,fun b hb ho=>?_⟩
    rcases ho with hx|hx
    · rcases hx with hx|⟨k,hk⟩
      · exact Or.inl (Or.inl hx)
      · rcases wle k b hk with⟨_,q⟩|q
        · exact absurd q (Nat.ne_of_lt hb)
        · exact Or.inl (Or.inr ⟨k,q⟩)
    · exact Or.inr hx
  obtain⟨gle,_⟩:=grow_step hr f.fk.obj
  have le1:Cp.le C1:=gle.Kh (c₀.X.AO wt') (c₀.X.AO wt') rfl
  have mlt:∀k b,(h k).mine->ρ k=some b->b<g:=fun k b hm hb=>eU hr hm hb
  have hr1:ai C1:=by
    refine⟨fun k=>?_,hr.inj,fun k b hm hb hX=>?_,fun b hX=>?_,hr.fin,(hr.glob.jk sc).mono le1,by have:=hr.lo;simp only at this;show c₀.X.lo<=(w.heap.push _).size;simp;exact Nat.le_succ_of_le this⟩
    · exact dX le1 (bJ.jk sc (fun _=>rfl) (hr.slot k)) (fun _ _=>rfl) (fun b hm hb=>by
        have:=mlt k b hm hb
        show(w.heap.push _)[b]?=w.heap[b]?
        rw[Array.getElem?_push,if_neg (by omega)])
    · have:=mlt k b hm hb
      rcases hX with hx|⟨k',hk'⟩
      · exact hr.apart k b hm hb (Or.inl hx)
      · rcases wle k' b hk' with⟨_,q⟩|q
        · omega
        · exact hr.apart k b hm hb (Or.inr ⟨k',q⟩)
    · show b<(w.heap.push _).size
      simp only[Array.size_push]
      rcases hX with hx|⟨k',hk'⟩
      · have:=hr.xlt b (Or.inl hx)
        simp only at this
        omega
      · rcases wle k' b hk' with⟨_,q⟩|q
        · have:b=w.heap.size:=q
          omega
        · have:=wlt k' b q
          have:b<w.heap.size:=this
          omega
  have hls:∀k,br (yu (listed.setIfInBounds f.m true) wt') k=br (yu listed wt) k:=by
    intro k
    by_cases hk:k=f.m
    · subst hk
      rw[gP (g:=g) (by show aj wt f.m (some g) f.m=_;rw[ag]) (by simpa using hil),bT hwf,R.un]
    · cases hwk:wt k with
      | none=>rw[bT hwk,bT (by show aj wt f.m (some g) k=_;rw[ab _ _ hk];exact hwk),bk hil,if_neg hk]
      | some x =>
        obtain⟨f2,g1,g2,_⟩:=hw k x hwk
        have:k<listed.size:=by rw[hsl, <- g2];exact S.tlt _ (List.mem_of_getElem? (S.fl f2 g1).fm)
        rw[gP hwk this,gP (wup k x hwk) (by simpa using this)]
  have hput:∀s',s'≠f.s->(a.put (some f.s) (f.fk.val w.heap.size)).tmps.getD s' Go.undef=a.tmps.getD s' Go.undef:=by
    intro s' hs
    have hs':f.s≠s':=fun e=>hs e.symm
    simp[Act.put,hs']
  refine .mk wt' ρ h e j (fun k x hk=>?_) (fun k k' x h1 h2=>?_) he (AP.congr (l1:=yu listed wt) (by rw[dU,dU];simp) hls ?_)
  · rcases wle k x hk with⟨q1,q2⟩|q
    · subst q1 q2
      exact⟨f,hf,rfl,by omega,by rw[bk hil,if_pos rfl],fun x hx=>by rw[bk hil];split;rfl;exact R.anc x hx,by simp[Act.put,htsz,F.sn,g]⟩
    · obtain⟨f2,g1,g2,g3,g4,g5,g6⟩:=hw k x q
      refine⟨f2,g1,g2,g3,by rw[bk hil];split;rfl;exact g4,fun x hx=>by rw[bk hil];split;rfl;exact g5 x hx,?_⟩
      rw[hput]
      · exact g6
      · intro hss
        refine F.us f2.m _ (S.fl f2 g1).it ?_ (by rw[hss])
        rintro hmm
        rw[<- g2,hmm,hwf]at q
        cases q
  · rcases wle k x h1 with⟨q1,q2⟩|q
    · rcases wle k' x h2 with⟨q3,q4⟩|q'
      · rw[q1,q3]
      · have:=wlt k' x q';omega
    · rcases wle k' x h2 with⟨q3,q4⟩|q'
      · have:=wlt k x q;omega
      · exact wi k k' x q q'
  refine⟨hsz,hdc,⟨hle.trans (gle.Kh c₀.X c₀.X rfl),fun k x hk=>?_⟩,hr1,⟨hws.os,hws.tape,hws.output⟩,(cZ.jk sc rfl rfl hdef).mono le1,by simpa[Act.put] using htsz,hjl,htail,hprog,fun s'=>?_,hval⟩
  · rcases wle k x hk with⟨q1,q2⟩|q
    · subst q1 q2
      exact⟨by have:=hle.size;simpa using this,⟨f,hf,rfl,eD _ _⟩,fun k hm hb=>by have:=mlt k _ hm hb;omega⟩
    · obtain⟨z1,⟨f2,z2,z3,z4⟩,z5⟩:=lw k x q
      refine⟨z1,⟨f2,z2,z3,?_⟩,z5⟩
      have:=wlt k x q
      show(w.heap.push _)[x]?=_
      rw[Array.getElem?_push,if_neg (by omega)]
      exact z4
  · by_cases hs:s'=f.s
    · subst hs;rw[hes.1];exact Or.inr (.undef _)
    · rcases hrel s' with h0|h0
      · exact Or.inl h0
      · right
        rw[hput s' hs]
        exact(ak.jk sc h0).mono le1
theorem Ja (S:uk P nt ops items masks tl fs){c₀:Ctx}(hX0:∀g,c₀.X g->g<c₀.hp.size){w₀:World}{K:LEnv->Heap->Prop}{listed:Array Bool}{a:Act}{w:World}{Q:Exit->Act->World->Prop}{rd:Option Nat}
    (hJ:JG P nt ops items masks tl fs c₀ w₀ K 0 listed a w) {i:Nat}(hi:i∈Region.ready .any ops listed):wpOpIn (rF rd) 0 P ops Q i (JG P nt ops items masks tl fs c₀ w₀ K 0 (listed.setIfInBounds i true)) a w:=by
  have R:=Bg S.tooe hJ.size (hJ.dc S) hi
  have hsl:=hJ.size
  have hil:i<listed.size:=by rw[hsl];exact R.lt
  cases hJ with
  | mk wt ρ h e j hw wi he hJ =>
    have hwi:wt i=none:=by
      cases hwk:wt i with
      | none=>rfl
      | some x =>
        obtain⟨f2,_,_,_,g4,_⟩:=hw i x hwk
        rw[R.un]at g4;cases g4
    have wlt:∀k x,wt k=some x->k<listed.size:=by
      intro k x hk
      obtain⟨f2,g1,g2,_⟩:=hw k x hk
      rw[hsl, <- g2];exact S.tlt _ (List.mem_of_getElem? (S.fl f2 g1).fm)
    by_cases hx:∃f,f∈fs/\f.m=i/\j<f.p
    · obtain⟨f,hf,rfl,hj⟩:=hx
      exact IF S hf hw wi he hJ R hj hwi
    ·
      have tj:∀l,j<l->l<tl.length->∃i',tl[j]?=some i'/\¬br (yu listed wt) i'=true:=by
        intro l hl hlt
        have hjl:j<tl.length:=by omega
        refine⟨tl[j],by simp[hjl],fun hc=>?_⟩
        have:=(hJ.prog j tl[j] (by simp[hjl])).1 hc
        omega
      have wj:∀i',tl[j]?=some i'->wt i'=none:=by
        intro i' hi'
        cases hwk:wt i' with
        | none=>rfl
        | some x =>
          obtain⟨f2,g1,g2,g3,_⟩:=hw i' x hwk
          have:=S.nd j f2.p i' hi' (by rw[<- g2];exact(S.fl f2 g1).fm)
          omega
      have lstI:∀l,tl[l]?=some i->j<=l:=by
        intro l hl
        rcases Nat.lt_or_ge l j with hlt|hge
        · have:=(hJ.prog l i hl).2 hlt
          rw[bT hwi,R.un]at this
          cases this
        · exact hge
      have nfl:∀l,tl[l]?=some i->j<l->∀f∈fs,l≠f.p:=by
        intro l hl hjl f hf hlp
        subst hlp
        have:f.m=i:=by have:=(S.fl f hf).fm;rw[this]at hl;cases hl;rfl
        exact hx ⟨f,hf,this,hjl⟩
      have hlj:∀l,tl[l]?=some i->l=j:=by
        intro l hl
        have h1:=lstI l hl
        rcases Nat.lt_or_ge j l with hgt|hge
        · exfalso
          obtain⟨i',hi',hn⟩:=tj l hgt (List.getElem?_eq_some_iff.1 hl).1
          have:=R.anc _ (S.tord j l i' i hi' hl hgt (nfl l hl hgt))
          rw[bT (wj i' hi')]at hn
          exact hn this
        · omega
      have nom:∀k x,wt k=some x->(masks.getD i 0).testBit k≠true:=by
        intro k x hk hq
        obtain⟨f2,g1,g2,g3,g4,g5,g6⟩:=hw k x hk
        have F2:=S.fl f2 g1
        subst g2
        by_cases hit:i∈tl
        · obtain⟨l,hl⟩:=List.getElem?_of_mem hit
          have:=hlj l hl
          rw[F2.ntm l i hl (by omega)]at hq;cases hq
        · have h1:=(S.sN i f2.p f2.m R.lt hit F2.fm).1 hq
          have hp:=(List.getElem?_eq_some_iff.1 F2.fm).1
          obtain⟨i',hi',hn⟩:=tj f2.p (by omega) hp
          have:=R.anc _ ((S.sN i j i' R.lt hit hi').2 (by omega))
          rw[bT (wj i' hi')]at hn
          exact hn this
      have RV:JC ops masks (yu listed wt) i:=by
        refine⟨R.lt,by rw[bT hwi];exact R.un,fun k hk=>?_⟩
        cases hwk:wt k with
        | none=>rw[bT hwk];exact R.anc k hk
        | some x=>exact absurd hk (nom k x hwk)
      have hitl:i<items.length:=by rw[S.len];exact R.lt
      have hdst:∀f∈fs,f.m≠i->∀o,ops[i]?=some o->o.dst≠some f.s:=by
        intro f hf hne o ho hq
        obtain⟨b,hb⟩:∃b,items[i]?=some b:=⟨items[i]'hitl,by simp[hitl]⟩
        refine(S.fl f hf).us i b hb (fun e=>hne e.symm) ?_
        by_cases hit:i∈tl
        · obtain⟨fz,hc⟩:=S.itt i o ho hit
          rw[hb]at hc
          unfold cOper at hc
          split at hc
          case isFalse=>cases hc
          cases hop:cOp P fz o with
          | none=>simp[hop]at hc
          | some op =>
            simp only[hop]at hc
            split at hc
            · cases hc;exact hq
            · split at hc
              · cases hc;exact hq
              · cases hc
        · have:=(S.itv i o b ho hb hit).dst
          rw[this];exact hq
      refine wpOpIn_mono (fun a' w' hh=>?_) (wpOp_put (pS S.tooe (fun ρ h w ρ' h' w' l k=>LW.mono l k) hJ RV hlj))
      obtain⟨⟨ρ',h',e',j',hJ',hj',_,hes⟩,hput⟩:=hh
      have hls:∀k,br (yu (listed.setIfInBounds i true) wt) k=br ((yu listed wt).setIfInBounds i true) k:=by
        intro k
        rw[bk (by rw[dU];exact hil)]
        by_cases hk:k=i
        · subst hk
          rw[if_pos rfl,bT hwi,bk hil,if_pos rfl]
        · rw[if_neg hk]
          cases hwk:wt k with
          | none=>rw[bT hwk,bT hwk,bk hil,if_neg hk]
          | some x=>rw[gP hwk (wlt k x hwk),gP hwk (by simpa using wlt k x hwk)]
      have hJ2:=AP.congr (l2:=yu (listed.setIfInBounds i true) wt) (by rw[dU];simp[dU]) hls hJ'
      refine Ig S hX0 _ wt ρ' h' e' j' (Nat.le_refl _) (fun k x hk=>?_) wi (fun f hf hp=>?_) hJ2
      · obtain⟨f2,g1,g2,g3,g4,g5,g6⟩:=hw k x hk
        refine⟨f2,g1,g2,by omega,by rw[bk hil];split;rfl;exact g4,fun x hx=>by rw[bk hil];split;rfl;exact g5 x hx,?_⟩
        rw[hput f2.s (hdst f2 g1 (by rintro rfl;rw[<- g2,hwi]at hk;cases hk))]
        exact g6
      · have F:=S.fl f hf
        have hne:f.m≠i:=by
          rintro rfl
          have:=(hJ'.prog f.p f.m F.fm).1 (by rw[bk (by rw[dU];exact hil),if_pos rfl])
          omega
        obtain⟨u1,u2⟩:=he f hf (by omega)
        refine⟨?_,fun q hq=>?_⟩
        · rw[hes f.s fun k b hb hk=>F.us k b hb ?_]
          · exact u1
          · rintro rfl
            rcases hk with hk|hk
            · exact hk.1 (List.mem_of_getElem? F.fm)
            · exact hne hk.1
        · rw[hes q.1 fun k b hb hk hbd=>?_]
          · exact u2 q hq
          · obtain⟨z1,z2,z3⟩:=F.cok q hq k b hb hbd
            rcases hk with hk|hk
            · exact hk.2 z2
            · rw[hk.1]at z1;exact z1 hk.2
theorem F9 {id:Nat}(S:uk P nt ops items masks tl fs) (hm:P.follows .mixedOrders=true){Q:LPost}{e:LEnv}{h:Heap}(hes:∀f∈fs,e.get f.s=.undef){T:LEnv}(t1:sRest P items masks tl tl 0 (Q .normal) T h) (t2:∀s,(∀a,a∈da items masks tl 0->a.dst≠some s)->T.get s=e.get s) (t3:∀a,a∈da items masks tl 0->aZ P a T h)
    (hpre:∀f∈fs,∀q∈f.fk.cs,T.get q.1=.int q.2.1 q.2.2):lg P nt (.region id ops true) (fun x=>up (Q x)) e.get h:=by
  intro rd c w a hh hp hr hs _
  subst hh
  refine wpIn_region_any hm ?_
  have hfalse:∀i,i<ops.size->br (Array.replicate ops.size false) i=false:=by intro i hi;unfold br;simp[Array.getD,hi]
  have hlt:∀i b,items[i]?=some b->i<ops.size:=fun i b hb=>by rw[<- S.len];exact(List.getElem?_eq_some_iff.1 hb).1
  have hce:(⟨c.ρ,c.X,c.h,w.heap⟩:Ctx)=c:=by rw[<- hp]
  have hcl:∀k,br (yu (Array.replicate ops.size false) fun _=>none) k=br (Array.replicate ops.size false) k:=fun k=>bT rfl
  refine Hr S.tooe (JJ:=JG P nt ops items masks tl fs c w (Q .normal) 0) (fun _ _ _ hJ=>hJ.size) (fun _ _ _ hJ=>hJ.dc S) (fun listed a' w' i hJ hi=>Ja S hr.xlt hJ hi) (fun listed a' w' hJ hall=>?_) ops.size _ a _ (Nat.le_trans (List.length_filter_le _ _) (by simp)) ?_
  · cases hJ with
    | mk wt ρ h e' j hw wi he hJ =>
      have hjl:j=tl.length:=by
        have hle:=hJ.jle
        rcases Nat.lt_or_ge j tl.length with hlt|hge
        · exfalso
          have htj:tl[j]?=some tl[j]:=by simp[hlt]
          cases hwk:wt tl[j] with
          | none =>
            have:=(hJ.prog j tl[j] htj).1 (by rw[bT hwk];exact hall _ (S.tlt _ (List.getElem_mem hlt)))
            omega
          | some x =>
            obtain⟨f,g1,g2,g3,_⟩:=hw _ x hwk
            have:=S.nd j f.p tl[j] htj (by rw[<- g2];exact(S.fl f g1).fm)
            omega
        · omega
      have hwn:∀k,wt k=none:=by
        intro k
        cases hwk:wt k with
        | none=>rfl
        | some x =>
          obtain⟨f,g1,g2,g3,_⟩:=hw k x hwk
          have:=(List.getElem?_eq_some_iff.1 (S.fl f g1).fm).1
          omega
      obtain⟨_,_,⟨hle,_⟩,hrr,hws,hdef,hsz,hj,htail,hprog,hrel,hval⟩:=hJ
      rw[XT.AR hwn]at hrr hdef hrel
      subst hjl
      rw[List.drop_length]at htail
      refine⟨ρ,e'.get,h,hle,hrr,hws,⟨hrr.glob,hrr.lo,hdef,hsz,fun s=>?_⟩,e',rfl,htail⟩
      rcases hrel s with⟨i,b,hb,_,hun,_⟩|h
      · rw[bT (hwn i),hall i (hlt i b hb)]at hun
        cases hun
      · exact h
  · have hw:({ w with drawn:=w.drawn+1 }:World).heap=w.heap:=rfl
    have hX:c.X.AO (fun _=>none)=c.X:=XT.AR fun _=>rfl
    refine .mk (fun _=>none) c.ρ c.h T 0 (fun k g hk=>by cases hk) (fun k k' g hk=>by cases hk) (fun f hf _=>?_) ?_
    · have F:=S.fl f hf
      refine⟨?_,hpre f hf⟩
      rw[t2 f.s fun b hb=>?_]
      · exact hes f hf
      · obtain⟨k,h1,h2,h3⟩:=bh hb
        exact F.us k b h1 (by rintro rfl;exact h2 (List.mem_of_getElem? F.fm))
    refine⟨by rw[dU];simp,fun i k hi hl=>(by rw[hcl,hfalse i hi]at hl;cases hl),⟨?_,fun k g hk=>by cases hk⟩,?_,⟨rfl,rfl,rfl⟩,(by rw[hX,hw,hce];exact hs.defers),hs.size,Nat.zero_le _,by simpa using t1,fun l i hl=>?_,fun s=>?_,fun i b hb hn _ hst=>?_⟩
    · rw[hw,hce];exact Ctx.le.refl c
    · rw[hX,hw,hce];exact hr
    · rw[hcl,hfalse i (S.tlt i (List.mem_of_getElem? hl))];simp
    · by_cases hex:∃b,b∈da items masks tl 0/\b.dst=some s
      · obtain⟨b,hb,hbd⟩:=hex
        obtain⟨k,h1,h2,h3⟩:=bh hb
        exact Or.inl ⟨k,b,h1,h2,by rw[hcl];exact hfalse k (hlt k b h1),hbd⟩
      · right
        rw[t2 s (fun b hb hbd=>hex ⟨b,hb,hbd⟩),hX,hw,hce]
        exact hs.rel s
    · have:=lY (masks:=masks) hb hn
      rw[show qw masks tl i=0 by omega]at this
      exact t3 b this
def Gg:AOp->List Nat
  | .mk _ _ _ x y=>argRegs x++argRegs y
  | _=>[]
def sMkN (op:AOp) (o:Oper):Bool :=
  match op,o.op with
  | .xt _,.makeMap _ none=>true
  | .alloc _,.alloc _=>true
  | .mk ..,.makeSlice ..=>true
  | _,_=>false
def flN (ops:Array Oper) (nt:Nat) (items:List AOper) (masks tl ps:List Nat) (p:Nat):Option (Nat×AOp) :=
  match tl[p]? with
  | some m=>match items[m]?,ops[m]? with
    | some ⟨some s,op,none⟩,some o=>match o.dst,o.guard with
      | some s',none=>if s'=s/\s<nt/\sMkN op o=true/\(items.zipIdx.all fun q=>decide (q.2=m)||q.1.dst != some s)=true/\((List.range p).all fun l=> !(masks.getD (tl.getD l 0) 0).testBit m)=true /\
          ((Gg op).all fun r=>items.zipIdx.all fun q=>q.1.dst != some r||(!tl.contains q.2&&qw masks tl q.2 == 0&&(masks.getD m 0).testBit q.2))=true /\
          (ps.all fun p'=>p' == p || !(masks.getD m 0).testBit (tl.getD p' 0))=true then some (s,op) else none
      | _,_=>none
    | _,_=>none
  | none=>none
def DO (op:AOp) (e:LEnv):Prop:=match op with
  | .mk _ bytes _ x y=>∃kl L kc C,x.get e=.int kl L/\y.get e=.int kc C/\0<=L/\L<=C/\C*bytes<=140737488355328/\C<=9223372036854775807
  | _=>True
def ckN:List (Nat×AOp)->ACode->ACode
  | [],c=>c
  | (_,.mk _ bytes _ x y)::r,c=>.seq (.dreg [] [⟨none,.mkc bytes x y,none⟩] []) (ckN r c)
  | _::r,c=>ckN r c
theorem CY:∀(l:List (Nat×AOp)){c:ACode}{Q:LPost}{e:LEnv}{h:Heap},vcC P (ckN l c) Q e h->(∀q∈l,DO q.2 e)/\vcC P c Q e h
  | [],c,Q,e,h,hv=>⟨fun q hq=>(by cases hq),hv⟩
  | (s,op)::r,c,Q,e,h,hv=>by
    cases op with
    | mk esz bytes zd x y =>
      have hv:vcOp P (.mkc bytes x y) (fun _ h2=>vcC P (ckN r c) Q e h2) e h:=by
        have:=hv
        simp only[ckN,vcC,LPost.then,vcVals,iv,vcTail,kS,bX]at this
        exact this
      simp only[vcOp]at hv
      unfold vint at hv
      split at hv
      case h_2=>exact hv.elim
      rename_i kl L hL
      split at hv
      case h_2=>exact hv.elim
      rename_i kc C hC
      obtain⟨i1,i2⟩:=CY r hv.2.2.2.2
      refine⟨fun q hq=>?_,i2⟩
      rcases List.mem_cons.1 hq with rfl|hq
      · exact⟨kl,L,kc,C,hL,hC,hv.1,hv.2.1,hv.2.2.1,hv.2.2.2.1⟩
      · exact i1 q hq
    | _ =>
      obtain⟨i1,i2⟩:=CY r hv
      refine⟨fun q hq=>?_,i2⟩
      rcases List.mem_cons.1 hq with rfl|hq
      · trivial
      · exact i1 q hq
def EI:List Nat->LEnv->LEnv
  | [],e=>e
  | s::r,e=>EI r (e.put (some s) .undef)
theorem DJ:∀(l:List Nat) (e:LEnv),(∀i,(EI l e).get i=.undef\/(EI l e).get i=e.get i)/\∀s,s∈l\/e.get s=.undef->(EI l e).get s=.undef
  | [],e=>⟨fun i=>Or.inr rfl,fun s hs=>hs.elim (fun h=>by cases h) id⟩
  | s::r,e=>by
    obtain⟨i1,i2⟩:=DJ r (e.put (some s) .undef)
    have hg:∀i,(e.put (some s) .undef).get i=if i=s then .undef else e.get i:=by
      intro i
      rw[LEnv.aQ]
      simp only[Env.put,aj]
    refine⟨fun i=>?_,fun x hx=>i2 x ?_⟩
    · rcases i1 i with h|h
      · exact Or.inl h
      · rw[hg]at h
        by_cases hi:i=s
        · rw[if_pos hi]at h;exact Or.inl h
        · rw[if_neg hi]at h;exact Or.inr h
    · rcases hx with hx|hx
      · rcases List.mem_cons.1 hx with rfl|hx
        · exact Or.inr (by rw[hg,if_pos rfl])
        · exact Or.inl hx
      · exact Or.inr (by rw[hg];split;rfl;exact hx)
theorem zq:∀(l:List Nat){K:LEnv->Heap->Prop}{e:LEnv}{h:Heap},vcVals P (l.map fun s=>⟨some s,.mov (.c .undef),none⟩) K e h->K (EI l e) h
  | [],_,_,_,hv=>hv
  | s::r,K,e,h,hv=>zq r (by simp only[List.map_cons,vcVals,iv]at hv;exact hv)
theorem Ml {ps:List Nat}{p s:Nat}{op:AOp}{T:LEnv}(S0:oe P nt ops items masks tl) (h:flN ops nt items masks tl ps p=some (s,op)) (hf:DO op T) :
    ∃f:Fl P,f.p=p/\f.s=s/\Lk P nt ops items masks tl f/\(∀q∈f.fk.cs,T.get q.1=.int q.2.1 q.2.2)/\∀p',p'∈ps->p'≠p->(masks.getD f.m 0).testBit (tl.getD p' 0)=false:=by
  unfold flN at h
  split at h<;>try (cases h;done)
  rename_i m hm
  split at h<;>try (cases h;done)
  rename_i s0 op0 o hit hop
  split at h<;>try (cases h;done)
  rename_i s' h2 h3
  split at h<;>try (cases h;done)
  rename_i hcc
  obtain⟨rfl,c1,cm,c5,c6,c7,c8⟩:=hcc
  cases h
  obtain⟨fz,hitem⟩:=S0.itt m o hop (List.mem_of_getElem? hm)
  rw[hit]at hitem
  have hcop:cOp P fz o=some op:=by
    unfold cOper at hitem
    split at hitem
    case isFalse=>cases hitem
    cases hcp:cOp P fz o with
    | none=>simp[hcp]at hitem
    | some op' =>
      simp only[hcp,h3,Option.some.injEq,AOper.mk.injEq]at hitem
      rw[hitem.2.1]
  obtain⟨fk,rfl,hcs,hpre,hmk⟩:∃fk:p9 P,op=fk.op/\(∀q∈fk.cs,q.1∈Gg op)/\(∀q∈fk.cs,T.get q.1=.int q.2.1 q.2.2)/\yK P fk o:=by
    unfold sMkN at cm
    split at cm<;>try (cases cm;done)
    · rename_i kt t h1
      exact⟨D6 P kt,rfl,fun q hq=>(by cases hq),fun q hq=>(by cases hq),zw h1⟩
    · rename_i zd t h1
      have hz:ca P t=some zd:=by
        unfold cOp at hcop
        cases hz:ca P t with
        | none=>simp[cOp0,h1,hz,cOpM,deadOp]at hcop
        | some z=>simp[cOp0,h1,hz]at hcop;rw[hcop]
      obtain⟨z,z1,z2⟩:=qo (P:=P) hz
      refine⟨D7 P zd z.cells t z2,rfl,fun q hq=>(by cases hq),fun q hq=>(by cases hq),fun c hc=>(by rw[h1]at hc;cases hc),fun a w _=>?_⟩
      simp[execOp,h1,Instr.alloc,aY z1,newVar,bC,D7]
    · rename_i esz bytes zd x' y' t x y ho
      obtain⟨kl,L,kc,C,e1,e2,b0,b1,b2,b3⟩:=hf
      have:∃elem i,P.underlying t=some (.slice elem)/\P.info? elem=some i/\ca P elem=some zd/\cArg x=some x'/\cArg y=some y'/\zd.cells.length=i.size/\0<i.size/\i.size=esz/\i.bytes=bytes:=by
        have hop:=hcop
        unfold cOp cOp0 at hop
        simp only[ho]at hop
        split at hop
        · rename_i op' h0
          cases hop
          split at h0
          · rename_i elem hu
            split at h0
            · rename_i i z x1 y1 q1 q2 q3 q4
              split at h0
              · rename_i hcc
                cases h0
                exact⟨elem,i,hu,q1,q2,q3,q4,hcc.1,hcc.2,rfl,rfl⟩
              · cases h0
            · cases h0
          · cases h0
        · simp[cOpM,ho,deadOp]at hop
      obtain⟨elem,i,hu,hinf,hz,hcx,hcy,hsz,hpos,hie,hib⟩:=this
      obtain⟨z,z1,z2⟩:=qo (P:=P) hz
      have hx:∀d,x'=.c d->d=.int kl L:=fun d hd=>by rw[hd]at e1;exact e1
      have hy:∀d,y'=.c d->d=.int kc C:=fun d hd=>by rw[hd]at e2;exact e2
      have hsz':zd.cells.length=esz:=by rw[hsz,hie]
      have hpos':0<esz:=by omega
      refine⟨KQ P esz bytes zd x' y' elem z.cells kl kc L C hsz' hpos' z2 b0 b1 b3 hx hy,rfl,fun q hq=>?_,fun q hq=>?_,Bo ho hcx hcy hu hinf hie hib z1 b2⟩
      · rcases List.mem_append.1 hq with h|h
        · simp only[lh,List.mem_map]at h
          obtain⟨r,hr,rfl⟩:=h
          exact List.mem_append_left _ hr
        · simp only[lh,List.mem_map]at h
          obtain⟨r,hr,rfl⟩:=h
          exact List.mem_append_right _ hr
      · rcases List.mem_append.1 hq with h|h
        · simp only[lh,List.mem_map]at h
          obtain⟨r,hr,rfl⟩:=h
          cases hx':x' with
          | t r' =>
            rw[hx']at hr e1
            simp only[argRegs,List.mem_singleton]at hr
            rw[hr];exact e1
          | c d=>rw[hx']at hr;simp[argRegs]at hr
        · simp only[lh,List.mem_map]at h
          obtain⟨r,hr,rfl⟩:=h
          cases hy':y' with
          | t r' =>
            rw[hy']at hr e2
            simp only[argRegs,List.mem_singleton]at hr
            rw[hr];exact e2
          | c d=>rw[hy']at hr;simp[argRegs]at hr
  refine⟨⟨p,m,s,fk⟩,rfl,rfl,⟨hm,hit,fun k b hb hk=>?_,c1,⟨o,hop,hmk,h2,h3⟩,fun l i hl hlt=>?_,fun q hq k b hb hbd=>?_⟩,hpre,fun p' hp' hne=>?_⟩
  · have:=List.all_eq_true.1 c5 (b,k) (mem_zipIdx hb)
    simp only[Bool.or_eq_true,decide_eq_true_eq,bne_iff_ne,ne_eq]at this
    exact this.resolve_left hk
  · have:=List.all_eq_true.1 c6 l (by simpa using hlt)
    simp only[Bool.not_eq_true']at this
    simpa[List.getD,hl] using this
  · have:=List.all_eq_true.1 (List.all_eq_true.1 c7 q.1 (hcs q hq)) (b,k) (mem_zipIdx hb)
    simp only[hbd,bne_self_eq_false,Bool.false_or,Bool.and_eq_true,Bool.not_eq_true',beq_iff_eq]at this
    exact⟨by simpa using this.1.1,this.1.2,this.2⟩
  · have:=List.all_eq_true.1 c8 p' hp'
    simp only[Bool.or_eq_true,beq_iff_eq,Bool.not_eq_true']at this
    exact this.resolve_left hne
def L1 (masks ps tl:List Nat):Bool :=
  (List.range tl.length).all fun k=>ps.contains k||(List.range k).all fun l=>(masks.getD (tl.getD k 0) 0).testBit (tl.getD l 0)
theorem GK {G:Fl P->Prop}:∀(ps:List Nat),(∀p∈ps,∃f:Fl P,f.p=p/\G f)->∃fs:List (Fl P),fs.map (·.p)=ps/\∀f∈fs,G f
  | [],_=>⟨[],rfl,fun f hf=>(by cases hf)⟩
  | p::r,h=>by
    obtain⟨f,hp,hg⟩:=h p (by simp)
    obtain⟨fs,h1,h2⟩:=GK r fun q hq=>h q (by simp[hq])
    refine⟨f::fs,by simp[hp,h1],fun x hx=>?_⟩
    rcases List.mem_cons.1 hx with rfl|hx
    · exact hg
    · exact h2 x hx
theorem BE:∀{fs:List (Fl P)},(fs.map (·.p)).Nodup->∀f f',f∈fs->f'∈fs->f.p=f'.p->f=f'
  | [],_,f,_,hf,_,_=>by cases hf
  | x::r,hn,f,f',hf,hf',e=>by
    simp only[List.map_cons,List.nodup_cons,List.mem_map,not_exists,not_and]at hn
    rcases List.mem_cons.1 hf with rfl|hfr
    · rcases List.mem_cons.1 hf' with rfl|hfr'
      · rfl
      · exact absurd e.symm (hn.1 f' hfr')
    · rcases List.mem_cons.1 hf' with rfl|hfr'
      · exact absurd e (hn.1 f hfr)
      · exact BE hn.2 f f' hfr hfr' e
theorem mapM_mem {α β:Type}{f:α->Option β}:∀{l:List α}{r:List β},l.mapM f=some r->∀x∈l,∃y,y∈r/\f x=some y
  | [],r,_,x,hx=>by cases hx
  | a::l,r,h,x,hx=>by
    rw[List.mapM_cons]at h
    simp only[Option.pure_def,Option.bind_eq_bind,Option.bind_eq_some_iff,Option.some.injEq]at h
    obtain⟨y,hy,z,hz,rfl⟩:=h
    rcases List.mem_cons.1 hx with rfl|hx
    · exact⟨y,by simp,hy⟩
    · obtain⟨y',h1,h2⟩:=mapM_mem hz x hx
      exact⟨y',by simp[h1],h2⟩
def cDrN (P:Program) (nt:Nat) (tbl:Nat->Option (List Nat×List Nat×List Nat)) (id:Nat) (ops:Array Oper):Option ACode :=
  if P.follows .mixedOrders then
    match tbl id with
    | some (masks,tl,999996::ps)=>match sItems P nt ops tl true ops.toList 0 with
      | some items=>match ps.mapM (flN ops nt items masks tl ps) with
        | some l=>if Bc ops items masks tl=true/\L1 masks ps tl=true/\tl.Nodup/\ps.Nodup then
            some (.seq (.dreg ((l.map (·.1)).map fun s=>⟨some s,.mov (.c .undef),none⟩) [] []) (.seq (.dreg (da items masks tl 0) [] []) (ckN l (sCode1 items masks tl tl)))) else none
        | none=>none
      | none=>none
    | _=>none
  else none
theorem IS (P:Program) (nt:Nat) (tbl:Nat->Option (List Nat×List Nat×List Nat)):qa P nt (cDrN P nt tbl):=by
  intro id ops ac h Q e hp hv
  unfold cDrN at h
  split at h
  case isFalse=>cases h
  rename_i hm
  split at h
  case h_2=>cases h
  rename_i masks tl ps _
  cases hi:sItems P nt ops tl true ops.toList 0 with
  | none=>simp[hi]at h
  | some items =>
    simp only[hi]at h
    split at h
    case h_2=>cases h
    rename_i l hl
    split at h
    case isFalse=>cases h
    rename_i hcc
    obtain⟨c1,c2,c3,c4⟩:=hcc
    simp only[Option.some.injEq]at h
    subst h
    have S0:=xP hi c1
    have hv1:vcVals P ((l.map (·.1)).map fun s=>⟨some s,.mov (.c .undef),none⟩) (fun e1 h1=>vcVals P (da items masks tl 0) (fun e2 h2=>vcC P (ckN l (sCode1 items masks tl tl)) Q e2 h2) e1 h1) e hp:=by
      have:=hv
      simp only[vcC,LPost.then,vcTail,kS]at this
      exact this
    have hv2:=zq _ hv1
    obtain⟨u1,u2⟩:=DJ (l.map (·.1)) e
    generalize EI (l.map (·.1)) e=e1 at hv2 u1 u2
    obtain⟨T,t1,t2,t3⟩:=mN S0 hv2
    obtain⟨k1,k2⟩:=CY l t1
    have k3:=vK k2
    obtain⟨fs,f1,f2⟩:=GK (P:=P) (G:=fun f=>Lk P nt ops items masks tl f/\(∀q∈f.fk.cs,T.get q.1=.int q.2.1 q.2.2)/\(∀p',p'∈ps->p'≠f.p->(masks.getD f.m 0).testBit (tl.getD p' 0)=false)/\f.s∈l.map (·.1)) ps (fun p hpm=>by
      obtain⟨⟨s,op⟩,y1,y2⟩:=mapM_mem hl p hpm
      obtain⟨f,rfl,rfl,g3,g4,g5⟩:=Ml S0 y2 (k1 _ y1)
      exact⟨f,rfl,g3,g4,g5,List.mem_map.2 ⟨_,y1,rfl⟩⟩)
    have hps:∀f∈fs,f.p∈ps:=fun f hf=>by rw[<- f1];exact List.mem_map.2 ⟨f,hf,rfl⟩
    have S:uk P nt ops items masks tl fs:=by
      refine⟨S0,fun l k i i' hl hk hlt hkp=>?_,fun l l' i hl hl'=>?_,fun f hf=>(f2 f hf).1,fun f f' hf hf' hne=>?_,BE (by rw[f1];exact c4)⟩
      · simp only[L1,List.all_eq_true,List.mem_range,Bool.or_eq_true]at c2
        have hk1:=List.getElem?_eq_some_iff.1 hk
        have hkn:¬ps.contains k=true:=by
          intro hc
          have:k∈ps:=by simpa using hc
          rw[<- f1]at this
          obtain⟨f,hf,hfp⟩:=List.mem_map.1 this
          exact hkp f hf hfp.symm
        have:=(c2 k hk1.1).resolve_left hkn l hlt
        simpa[List.getD,hl,hk] using this
      · have h1:=(List.getElem?_eq_some_iff.1 hl).1
        exact(List.getElem?_inj h1 c3).1 (hl.trans hl'.symm)
      · have:=(f2 f hf).2.2.1 f'.p (hps f' hf') (fun e=>hne e.symm)
        simpa[List.getD,(f2 f' hf').1.fm] using this
    exact iE u1 (F9 S hm (fun f hf=>u2 _ (Or.inl (f2 f hf).2.2.2)) k3 t2 t3 fun f hf=>(f2 f hf).2.1)
def cDr (P:Program) (nt:Nat) (tbl:Nat->Option (List Nat×List Nat×List Nat)) (id:Nat) (ops:Array Oper):Option ACode :=
  match cDrS P nt tbl id ops with
  | some x=>some x
  | none=>match cDrF P nt tbl id ops with
  | some x=>some x
  | none=>match cDrM P nt tbl id ops with
  | some x=>some x
  | none=>match cDrN P nt tbl id ops with
  | some x=>some x
  | none=>match cDr0 P nt tbl id ops with
    | some x=>some x
    | none=>match K8 P nt tbl id ops with
      | some x=>some x
      | none=>some (.dreg [⟨none,.dead,none⟩] [] [])
theorem aq (P:Program) (nt:Nat) (tbl:Nat->Option (List Nat×List Nat×List Nat)):qa P nt (cDr P nt tbl):=by
  intro id ops ac h Q e hp hv
  unfold cDr at h
  split at h
  · rename_i x h0
    cases h
    exact IQ P nt tbl id ops _ h0 Q e hp hv
  split at h
  · rename_i x h0
    cases h
    exact IU P nt tbl id ops _ h0 Q e hp hv
  split at h
  · rename_i x h0
    cases h
    exact IT P nt tbl id ops _ h0 Q e hp hv
  split at h
  · rename_i x h0
    cases h
    exact IS P nt tbl id ops _ h0 Q e hp hv
  split at h
  · rename_i x h0
    cases h
    exact IW P nt tbl id ops _ h0 Q e hp hv
  split at h
  · rename_i x h0
    cases h
    exact IV P nt tbl id ops _ h0 Q e hp hv
  · simp at h
    subst h
    exact hv.elim
end Go.Am
namespace Go.Am
open Go
variable [bw]
def vcond (x:D) (A B:Prop):Prop :=
  match x with
  | .bool t=>(t=true->A)/\(t=false->B)
  | _=>False
def Cj (P:Program) (a:ACode) (nt:Nat) (c:Code):Prop:=∀(Q:LPost) (e:LEnv) (h:Heap),vcC P a Q e h->lg P nt c (fun x=>up (Q x)) e.get h
def JL (P:Program) (n:Nat) (B:bq) (ps:List Nat) (ds:List D) (e:LEnv) (a b:ACode) (h:Heap) (K:D->Heap->Prop):Prop :=
  vcC P a (fun x e1 h1=>x=.normal/\h1 n=.lp .ready B/\vcC P b (fun x e2 h2=>h2 n=.lp .busy B/\roundEnd x n B K h2) e1 (aj h1 n (.lp .busy B))) (ps.zip ds++e) h
theorem AK {P:Program}{n:Nat}{B:bq}{ds:List D}{h:Heap}{K:D->Heap->Prop}{a b:ACode}{ps:List Nat}(hn:h n=.lp .ready B) (hps:B.ps=ps) (hA:Cj P a B.nt B.assign) (hB:Cj P b B.nt B.body) (hnd:ps.Nodup)
    (hlt:∀p∈ps,p<B.nt) (hlen:ds.length=ps.length) {e:LEnv}(he:B.env=e.get) (hv:JL P n B ps ds e a b h K):kL P n ds h K :=
  Fg hn hA hB (hps ▸ hnd) (hps ▸ hlt) (hps ▸ hlen) he (by rw[hps];exact hv)
variable {P:Program}{h:Heap}{K:D->Prop}{KH:D->Heap->Prop}{k:IntKind}{a b:Int}
theorem xk {t w:Bool}{A:(D->Heap->Prop)->Prop}:vguard (.bool t) w A h KH=((t=w->A KH)/\(t≠w->KH gU h)):=by simp[vguard,gv]
theorem A7 {ds:List D}{w:Bool}{A:(D->Heap->Prop)->Prop}:vguard (.tup ds) w A h KH=KH gU h:=by simp[vguard,gv]
theorem sS {t w:Bool}{A:(D->Prop)->Prop}:ba (.bool t) w A K=((t=w->A K)/\(t≠w->K gU)):=by simp[ba,gv]
theorem zl {ds:List D}{w:Bool}{A:(D->Prop)->Prop}:ba (.tup ds) w A K=K gU:=by simp[ba,gv]
theorem dE:vbin .add (.int k a) (.int k b) K=K (.int k (k.wrap (a+b))):=by simp[vbin]
theorem kd:vbin .sub (.int k a) (.int k b) K=K (.int k (k.wrap (a-b))):=by simp[vbin]
theorem Dw:vbin .mul (.int k a) (.int k b) K=K (.int k (k.wrap (a*b))):=by simp[vbin]
theorem Du:vbin .quo (.int k a) (.int k b) K=(b≠0/\K (.int k (k.wrap (a.tdiv b)))):=by simp[vbin]
theorem cq:vbin .rem (.int k a) (.int k b) K=(b≠0/\K (.int k (a.tmod b))):=by simp[vbin]
theorem Lu:vbin .and (.int k a) (.int k b) K=K (.int k (ibits .and k a b)):=by simp[vbin]
theorem Jd {k':IntKind}:vbin .shr (.int k a) (.int k' b) K=(0<=b/\K (.int k (Ao k a b))):=rfl
theorem eg:vbin .eql (.int k a) (.int k b) K=K (.bool (decide (a=b))):=by simp[vbin]
theorem Dv:vbin .neq (.int k a) (.int k b) K=K (.bool (!decide (a=b))):=by simp[vbin]
theorem nI:vbin .lss (.int k a) (.int k b) K=K (.bool (decide (a<b))):=by simp[vbin]
theorem Jf:vbin .leq (.int k a) (.int k b) K=K (.bool (decide (a<=b))):=by simp[vbin]
theorem qS:vbin .gtr (.int k a) (.int k b) K=K (.bool (decide (b<a))):=by simp[vbin]
theorem FE:vbin .geq (.int k a) (.int k b) K=K (.bool (decide (b<=a))):=by simp[vbin]
theorem toList_inj {a b:ByteArray}:(a.toList == b.toList)=decide (a=b):=by
  by_cases h:a=b
  · subst h;simp
  · have:¬a.toList=b.toList:=fun e=>h (by
      have:=congrArg List.toArray e
      simp[ByteArray.toList_eq]at this
      cases a;cases b;simp_all)
    simp[h,this]
theorem Lt:vun .neg (.int k a) K=K (.int k (k.wrap (0-a))):=rfl
theorem Je {t:Bool}:vun .not (.bool t) K=K (.bool !t):=rfl
theorem FD:bQ .nil h K=K (.int .i64 0):=rfl
theorem oT {xs:List D}:bQ (.sl xs) h K=K (.int .i64 xs.length):=rfl
theorem mM {n o l:Nat}:bQ (.ms n o l) h K=((h n).live=true/\K (.int .i64 l)):=rfl
theorem lK {k':IntKind}:aa P (.conv k (.c (.int k' a))) h KH=KH (.int k (k.wrap a)) h:=rfl
theorem Iu {d:D}{j o:Nat}:aa P (.fadd (.c (.vp d j)) o) h KH=KH (.vp d (j+o)) h:=rfl
theorem yi {xs:List D}{s:Nat}:aa P (.iadd (.c (.sl xs)) (.c (.int k a)) s) h KH=(0<=a/\a<xs.length/\∀d,xs[a.toNat]?=some d->d.cells.length=s/\KH (.vp d 0) h):=rfl
theorem pA {n o l s:Nat}:aa P (.iadd (.c (.ms n o l)) (.c (.int k a)) s) h KH=(0<=a/\a<l/\(∃els,(h n).row=some (s,els))/\KH (.ptr n (o+a.toNat) 0) h):=rfl
theorem yh {d:D}{j s:Nat}{g:Bool}:aa P (.ld (.c (.vp d j)) s g) h KH=vpart d.cells j s g (KH · h):=rfl
theorem ec {cs:List D}{o s:Nat}:vpart cs o s false K=(match cs[o]? with|some d=>K d|none=>False):=rfl
theorem qb {cs:List D}{o s:Nat}:vpart cs o s true K=(o+s<=cs.length/\K (.agg ((cs.drop o).take s))):=rfl
theorem wrap64 {n:Int}(h1 : -9223372036854775808<=n) (h2:n<=9223372036854775807):IntKind.i64.wrap n=n:=by
  simp only[IntKind.wrap,IntKind.signed,IntKind.bits]
  first|omega|(simp;omega)
end Go.Am
namespace Go.Am
open Go
variable [bw]
abbrev LH:=List Slot
class LB where
  bs:Nat->bq
def Slot.wb (s:Slot) (B:bq):Slot:=match s with
  | .lp st _=>.lp st B
  | s=>s
def LH.h (l:LH):Heap:=fun n=>l.getD n .free
def LH.w [LB] (l:LH):Heap:=fun n=>(l.getD n .free).wb (LB.bs n)
theorem JH {s:Slot}{B:bq}:(s.wb B).row=s.row:=by cases s<;>rfl
theorem HA {s:Slot}{B:bq}:(s.wb B).live=s.live:=by cases s<;>rfl
theorem HB {s:Slot}{B:bq}(h:s.wb B=.free):s=.free:=by cases s<;>first|rfl|cases h
def Slot.GC:Slot->Bool
  | .lp _ _=>true
  | _=>false
theorem Fu {s:Slot}{B:bq}(h:s.GC=false):s.wb B=s:=by cases s<;>first|rfl|cases h
theorem LH.jH [LB] {l:LH}{n:Nat}{s:Slot}(hs:l.h n=s) (hne:s.GC=false):l.w n=s:=by
  have:l.w n=(l.h n).wb (LB.bs n):=rfl
  rw[this,hs,Fu hne]
theorem LH.Cq [LB] {l:LH}{n:Nat}{st:LSt}{B:bq}(hs:l.h n=.lp st B):l.w n=.lp st (LB.bs n):=by
  have:l.w n=(l.h n).wb (LB.bs n):=rfl
  rw[this,hs];rfl
theorem LH.zi [LB] {l:LH}{n:Nat}:(l.w n).row=(l.h n).row:=JH
theorem Hz {s:Slot}{B:bq}:(s.wb B).used=s.used:=by cases s<;>rfl
theorem LH.JI [LB] {l:LH}{n:Nat}:(l.w n).used=(l.h n).used:=Hz
theorem LH.Cr [LB] {l:LH}{n:Nat}:(l.w n).live=(l.h n).live:=HA
theorem Jt [LB] {l:LH}{d:D}:d.fzc l.h=d.fzc l.w:=by
  cases d<;>try rfl
  simp only[D.fzc,LH.zi]
theorem CI [LB] {l:LH}{d:D}:d.fz l.h=d.fz l.w:=by
  cases d with
  | agg cs=>simp only[D.fz];exact congrArg D.agg (List.map_congr_left fun x _=>Jt)
  | ms a b c=>exact Jt (d:=.ms a b c)
  | _=>rfl
theorem D3 [LB] {l:LH}{ds:List D}:ds.map (D.fz l.h)=ds.map (D.fz l.w):=List.map_congr_left fun x _=>CI
theorem Js [LB] {l:LH}{d:D}:d.fzt l.h=d.fzt l.w:=by
  cases d with
  | tup ds=>simp only[D.fzt];exact congrArg D.tup D3
  | ms a b c=>exact CI (d:=.ms a b c)
  | agg cs=>exact CI (d:=.agg cs)
  | _=>rfl
def LH.nf (l:LH):Prop:=∀s∈l,s≠.free
def fi {α:Type}(n:Int) (k:Int->α):α:=match n with
  | .ofNat m=>Nat.rec (k 0) (fun p _=>k (.ofNat (p+1))) m
  | .negSucc m=>Nat.rec (k (.negSucc 0)) (fun p _=>k (.negSucc (p+1))) m
theorem Mm {α:Type}{n:Int}{k:Int->α}:fi n k=k n:=by
  cases n with
  | ofNat m=>cases m<;>rfl
  | negSucc m=>cases m<;>rfl
def Iz {α:Type}(n:Nat) (k:Nat->α):α:=Nat.rec (k 0) (fun p _=>k (p+1)) n
theorem D5 {α:Type}{n:Nat}{k:Nat->α}:Iz n k=k n:=by cases n<;>rfl
def fb {α:Type}(b:Bool) (k:Bool->α):α:=match b with
  | true=>k true
  | false=>k false
theorem Mn {α:Type}{b:Bool}{k:Bool->α}:fb b k=k b:=by cases b<;>rfl
def fl {α β:Type}:List α->(List α->β)->β
  | [],k=>k []
  | a::r,k=>fl r fun r'=>k (a::r')
theorem Jv {α β:Type}:∀{l:List α}{k:List α->β},fl l k=k l
  | [],_=>rfl
  | a::r,k=>by rw[fl,Jv]
mutual
def fD {α:Type}:D->(D->α)->α
  | .undef,k=>k .undef
  | .nil,k=>k .nil
  | .nilfn,k=>k .nilfn
  | .nilmap,k=>k .nilmap
  | .nilp,k=>k .nilp
  | .int q n,k=>fi n fun n=>k (.int q n)
  | .bool b,k=>fb b fun b=>k (.bool b)
  | .str s,k=>k (.str s)
  | .sl xs,k=>fDL xs fun xs=>k (.sl xs)
  | .ms n o m,k=>Iz n fun n=>Iz o fun o=>Iz m fun m=>k (.ms n o m)
  | .ptr n i j,k=>Iz n fun n=>Iz i fun i=>Iz j fun j=>k (.ptr n i j)
  | .vp e j,k=>fD e fun e=>Iz j fun j=>k (.vp e j)
  | .agg cs,k=>fDL cs fun cs=>k (.agg cs)
  | .tup ds,k=>fDL ds fun ds=>k (.tup ds)
  | .fn f a b,k=>fDL a fun a=>fDL b fun b=>k (.fn f a b)
  | .yld n,k=>k (.yld n)
  | .mp n,k=>Iz n fun n=>k (.mp n)
def fDL {α:Type}:List D->(List D->α)->α
  | [],k=>k []
  | d::r,k=>fD d fun d=>fDL r fun r=>k (d::r)
end
mutual
theorem rj {α:Type}:∀(d:D) (k:D->α),fD d k=k d
  | .undef,_=>rfl
  | .nil,_=>rfl
  | .nilfn,_=>rfl
  | .nilmap,_=>rfl
  | .nilp,_=>rfl
  | .int q n,k=>by rw[fD,Mm]
  | .bool b,k=>by rw[fD,Mn]
  | .str s,_=>rfl
  | .sl xs,k=>by rw[fD,lM xs]
  | .ms n o m,k=>by simp only[fD,D5]
  | .ptr n i j,k=>by simp only[fD,D5]
  | .vp e j,k=>by rw[fD,rj e,D5]
  | .agg cs,k=>by rw[fD,lM cs]
  | .tup ds,k=>by rw[fD,lM ds]
  | .fn f a b,k=>by rw[fD,lM a,lM b]
  | .yld n,_=>rfl
  | .mp n,k=>by simp only[fD,D5]
theorem lM {α:Type}:∀(l:List D) (k:List D->α),fDL l k=k l
  | [],_=>rfl
  | d::r,k=>by rw[fDL,rj d,lM r]
end
def xM (a b:ByteArray):Bool:=a.data.toList == b.data.toList
theorem xL {a b:ByteArray}:(a.toList == b.toList)=xM a b:=by simp[xM,ByteArray.toList_eq]
theorem BK {a b:ByteArray}(h:xM a b=true):a=b:=by
  rw[<- xL,toList_inj]at h;simpa using h
mutual
def D.same:D->D->Bool
  | .undef,.undef=>true
  | .nil,.nil=>true
  | .nilfn,.nilfn=>true
  | .nilmap,.nilmap=>true
  | .nilp,.nilp=>true
  | .int q n,.int q' n'=>decide (q=q')&&decide (n=n')
  | .bool b,.bool b'=>b == b'
  | .str s,.str s'=>xM s s'
  | .sl xs,.sl ys=>D.sameL xs ys
  | .ms n o m,.ms n' o' m'=>n == n'&&o == o'&&m == m'
  | .ptr n o m,.ptr n' o' m'=>n == n'&&o == o'&&m == m'
  | .vp e j,.vp e' j'=>D.same e e'&&j == j'
  | .agg xs,.agg ys=>D.sameL xs ys
  | .tup xs,.tup ys=>D.sameL xs ys
  | .fn f a b,.fn f' a' b'=>f == f'&&D.sameL a a'&&D.sameL b b'
  | .yld n,.yld n'=>n == n'
  | .mp n,.mp n'=>n == n'
  | _,_=>false
def D.sameL:List D->List D->Bool
  | [],[]=>true
  | d::r,e::s=>D.same d e&&D.sameL r s
  | _,_=>false
end
mutual
theorem D.m8:∀(a b:D),D.same a b=true->a=b
  | .undef,b,h=>by cases b<;>simp_all [D.same]
  | .nil,b,h=>by cases b<;>simp_all [D.same]
  | .nilfn,b,h=>by cases b<;>simp_all [D.same]
  | .nilmap,b,h=>by cases b<;>simp_all [D.same]
  | .nilp,b,h=>by cases b<;>simp_all [D.same]
  | .int q n,b,h=>by cases b<;>simp_all [D.same]
  | .bool x,b,h=>by cases b<;>simp_all [D.same]
  | .str s,b,h=>by
    cases b<;>simp_all [D.same]
    exact BK h
  | .sl xs,b,h=>by
    cases b<;>simp only[D.same]at h<;>first|(cases h;done)|rw[D.bW xs _ h]
  | .ms n o m,b,h=>by cases b<;>simp_all [D.same]
  | .ptr n o m,b,h=>by cases b<;>simp_all [D.same]
  | .vp e j,b,h=>by
    cases b<;>simp only[D.same,Bool.and_eq_true,beq_iff_eq]at h<;>first|(cases h;done)|rw[D.m8 e _ h.1,h.2]
  | .agg xs,b,h=>by
    cases b<;>simp only[D.same]at h<;>first|(cases h;done)|rw[D.bW xs _ h]
  | .tup xs,b,h=>by
    cases b<;>simp only[D.same]at h<;>first|(cases h;done)|rw[D.bW xs _ h]
  | .fn f x y,b,h=>by
    cases b<;>simp only[D.same,Bool.and_eq_true,beq_iff_eq]at h<;>first|(cases h;done)|rw[h.1.1,D.bW x _ h.1.2,D.bW y _ h.2]
  | .yld n,b,h=>by cases b<;>simp_all [D.same]
  | .mp n,b,h=>by cases b<;>simp_all [D.same]
theorem D.bW:∀(a b:List D),D.sameL a b=true->a=b
  | [],b,h=>by cases b<;>simp_all [D.sameL]
  | d::r,b,h=>by
    cases b with
    | nil=>simp[D.sameL]at h
    | cons e s =>
      simp only[D.sameL,Bool.and_eq_true]at h
      rw[D.m8 d e h.1,D.bW r s h.2]
end
def ebin (op:BinOp) (x y:D):Option D :=
  match x,y with
  | .int k a,.int k' b =>
    match op with
    | .shl=>if 0<=b then some (.int k (KA k a b)) else none
    | .shr=>if 0<=b then some (.int k (Ao k a b)) else none
    | .add=>if k=k' then some (.int k (k.wrap (a+b))) else none
    | .sub=>if k=k' then some (.int k (k.wrap (a-b))) else none
    | .mul=>if k=k' then some (.int k (k.wrap (a*b))) else none
    | .quo=>if k=k'/\b≠0 then some (.int k (k.wrap (a.tdiv b))) else none
    | .rem=>if k=k'/\b≠0 then some (.int k (a.tmod b)) else none
    | .and=>if k=k' then some (.int k (ibits .and k a b)) else none
    | .or=>if k=k' then some (.int k (ibits .or k a b)) else none
    | .xor=>if k=k' then some (.int k (ibits .xor k a b)) else none
    | .andNot=>if k=k' then some (.int k (ibits .andNot k a b)) else none
    | .eql=>if k=k' then some (.bool (decide (a=b))) else none
    | .neq=>if k=k' then some (.bool (!decide (a=b))) else none
    | .lss=>if k=k' then some (.bool (decide (a<b))) else none
    | .leq=>if k=k' then some (.bool (decide (a<=b))) else none
    | .gtr=>if k=k' then some (.bool (decide (b<a))) else none
    | .geq=>if k=k' then some (.bool (decide (b<=a))) else none
  | .str a,.str b =>
    match op with
    | .eql=>some (.bool (xM a b))
    | .neq=>some (.bool (!xM a b))
    | .add=>if a.size+b.size<=9223372036854775807 then some (.str (a++b)) else none
    | _=>none
  | _,_=>none
theorem IE {op:BinOp}{x y d:D}(h:ebin op x y=some d){K:D->Prop}(hk:K d):vbin op x y K:=by
  unfold ebin at h
  split at h
  · cases op<;>simp only at h<;>(try split at h)<;>simp only[Option.some.injEq,reduceCtorEq]at h<;>subst h<;>simp_all [vbin]
  · cases op<;>simp only at h<;>(try split at h)<;>simp only[Option.some.injEq,reduceCtorEq]at h<;>subst h<;>simp_all [vbin,xL]
  · cases h
def eun (op:UnOp) (x:D):Option D :=
  match op,x with
  | .neg,.int k n=>some (.int k (k.wrap (0-n)))
  | .xor,.int k n=>some (.int k (ibits .xor k (if k.signed then -1 else k.max) n))
  | .not,.bool b=>some (.bool !b)
  | _,_=>none
theorem KV {op:UnOp}{x d:D}(h:eun op x=some d){K:D->Prop}(hk:K d):vun op x K:=by
  unfold eun at h
  split at h<;>simp only[Option.some.injEq,reduceCtorEq]at h<;>subst h<;>exact hk
def eqCellsE:List CK->List D->List D->Option Bool
  | [],[],[]=>some true
  | .i::ks,.int k a::r,.int k' b::s=>if k=k' then(eqCellsE ks r s).map (fun t=>decide (a=b)&&t) else none
  | .b::ks,.bool a::r,.bool b::s=>(eqCellsE ks r s).map (fun t=>(a == b)&&t)
  | .s::ks,.str a::r,.str b::s=>(eqCellsE ks r s).map (fun t=>xM a b&&t)
  | _,_,_=>none
theorem BN:∀(ks:List CK) (x y:List D),eqCells ks x y=eqCellsE ks x y:=by
  intro ks x y
  induction ks,x,y using eqCells.induct<;>simp_all [eqCells,eqCellsE,xL]
def tS (cs:List D) (off size:Nat) (agg:Bool):Option D :=
  if agg then if off+size<=cs.length then some (.agg ((cs.drop off).take size)) else none
  else cs[off]?
theorem pG {cs:List D}{off size:Nat}{agg:Bool}{d:D}(h:tS cs off size agg=some d){K:D->Prop}(hk:K d):vpart cs off size agg K:=by
  unfold tS at h
  unfold vpart
  cases agg
  · simp only[Bool.false_eq_true,if_false]at h ⊢
    rw[h];exact hk
  · simp only[if_true]at h ⊢
    split at h
    · simp at h;subst h;exact⟨by assumption,hk⟩
    · cases h
def eelems (esz:Nat) (x:D) (l:LH):Option (List D) :=
  match x with
  | .nil=>some []
  | .sl xs=>if xs.all (fun e=>e.cells.length == esz) then some xs else none
  | .ms n off len=>match (l.h n).row with
    | some (e,els)=>if e=esz/\off+len<=els.length then some ((els.drop off).take len) else none
    | none=>none
  | _=>none
theorem ql [LB] {esz:Nat}{x:D}{l:LH}{ys:List D}(h:eelems esz x l=some ys){K:List D->Prop}(hk:K ys):velems esz x l.w K:=by
  unfold eelems at h
  unfold velems
  split at h
  · simp at h;subst h;exact hk
  · split at h
    · rename_i xs hx
      simp at h;subst h
      exact⟨fun e he=>by simpa using List.all_eq_true.1 hx e he,hk⟩
    · cases h
  · split at h
    · rename_i e els hr
      split at h
      · rename_i hc
        simp at h;subst h
        exact⟨els,by rw[LH.zi,hr,hc.1],hc.2,hk⟩
      · cases h
    · cases h
  · cases h
def eint:D->Option Int
  | .int _ i=>some i
  | _=>none
theorem fK {x:D}{i:Int}(h:eint x=some i){K:Int->Prop}(hk:K i):vint x K:=by
  unfold eint at h
  split at h<;>simp at h
  subst h;exact hk
def eopt (e:LEnv) (x:Option Arg) (dflt:Nat):Option Int :=
  match x with
  | none=>some dflt
  | some a=>eint (a.get e)
theorem gO {e:LEnv}{x:Option Arg}{dflt:Nat}{i:Int}(h:eopt e x dflt=some i){K:Int->Prop}(hk:K i):vopt e x dflt K:=by
  cases x with
  | none=>simp[eopt]at h;subst h;exact hk
  | some a=>exact fK h hk
def fL (d:D):Bool:=d.cells.all D.one
theorem cg {d:D}(h:fL d=true):aH d:=fun x hx=>List.all_eq_true.1 h x hx
def AX (d:D):Bool:=d.cells.all D.vone
theorem sP {d:D}(h:AX d=true):∀y∈d.cells,y.vone=true:=fun x hx=>List.all_eq_true.1 h x hx
def fzOkcB (l:LH):D->Bool
  | .ms n off len=>match (l.h n).row with
    | some (_,els)=>decide (off+len<=els.length)&&((els.drop off).take len).all AX
    | none=>false
  | _=>true
def zD (l:LH) (d:D):Bool:=d.cells.all (fzOkcB l)
theorem EY [LB] {l:LH}{d:D}(h:fzOkcB l d=true):kE l.w d:=by
  cases d<;>try exact trivial
  rename_i n off len
  simp only[fzOkcB]at h
  split at h
  · rename_i e els hr
    simp only[Bool.and_eq_true,decide_eq_true_eq,List.all_eq_true]at h
    exact⟨e,els,by rw[LH.zi];exact hr,h.1,fun x hx=>sP (h.2 x hx)⟩
  · cases h
theorem pC [LB] {l:LH}{d:D}(h:zD l d=true):kF l.w d:=fun x hx=>EY (List.all_eq_true.1 h x hx)
def Cf:D->Bool
  | .tup ds=>ds.all fL
  | d=>fL d
def GH (l:LH):D->Bool
  | .tup ds=>ds.all (zD l)
  | d=>zD l d
theorem Ce {d:D}(h:Cf d=true):hQ d:=by
  cases d<;>first
    | exact cg h
    | exact fun x hx=>cg (List.all_eq_true.1 h x hx)
theorem EZ [LB] {l:LH}{d:D}(h:GH l d=true):pT l.w d:=by
  cases d<;>first
    | exact pC h
    | exact fun x hx=>pC (List.all_eq_true.1 h x hx)
theorem LH.M1 [LB] {l:LH}{n:Nat}(hn:n<l.length):l.w n=(l[n]).wb (LB.bs n):=by simp[LH.w,hn]
theorem LH.JK [LB] {l:LH}{n:Nat}(hn:l.length<=n):l.w n=.free:=by simp[LH.w,hn,Slot.wb]
theorem LH.AS [LB] {l:LH}(h:l.nf){n:Nat}(t:lq l.w n):n=l.length:=by
  rcases Nat.lt_trichotomy n l.length with h1|h1|h1
  · have:=t.free
    rw[LH.M1 h1]at this
    exact absurd (HB this) (h _ (List.getElem_mem h1))
  · exact h1
  · exfalso
    obtain⟨k,rfl⟩:∃k,n=k+1:=⟨n-1,by omega⟩
    exact t.2 k rfl (LH.JK (by omega))
theorem LH.Dp [LB] (l:LH) (s:Slot):LH.w (l++[s])=aj l.w l.length (s.wb (LB.bs l.length)):=by
  funext n
  unfold LH.w aj
  by_cases h:n=l.length
  · subst h;simp
  · rw[if_neg h]
    rcases Nat.lt_or_ge n l.length with h1|h1
    · simp[List.getD,List.getElem?_append_left h1]
    · have:(l++[s]).length<=n:=by simp;omega
      simp[List.getD,List.getElem?_eq_none this,List.getElem?_eq_none h1]
theorem LH.zT [LB] (l:LH) (s:Slot) (hs:s.GC=false):LH.w (l++[s])=aj l.w l.length s:=by rw[LH.Dp,Fu hs]
theorem LH.Fv [LB] {l:LH}{n:Nat}(s:Slot) (hn:n<l.length):LH.w (l.set n s)=aj l.w n (s.wb (LB.bs n)):=by
  funext m
  unfold LH.w aj
  by_cases h:m=n
  · subst h;simp[List.getD,hn]
  · have:n≠m:=fun e=>h e.symm
    simp[List.getD,this,h]
theorem LH.qR [LB] {l:LH}{n:Nat}(s:Slot) (hs:s.GC=false) (hn:n<l.length):LH.w (l.set n s)=aj l.w n s:=by rw[LH.Fv s hn,Fu hs]
theorem LH.wK {l:LH}{n:Nat}(h:l.h n≠.free):n<l.length:=by
  rcases Nat.lt_or_ge n l.length with h1|h1
  · exact h1
  · exact absurd (by simp[LH.h,h1]) h
theorem LH.tq {l:LH}(h:l.nf){s:Slot}(hs:s≠.free):LH.nf (l++[s]):=by
  intro x hx
  rcases List.mem_append.1 hx with h1|h1
  · exact h x h1
  · simp at h1;subst h1;exact hs
theorem LH.gC {l:LH}(h:l.nf){n:Nat}{s:Slot}(hs:s≠.free):LH.nf (l.set n s):=by
  intro x hx
  rcases List.mem_or_eq_of_mem_set hx with h1|h1
  · exact h x h1
  · subst h1;exact hs
def LH.frz (l:LH) (n:Nat):LH:=match l.h n with
  | .arr e x=>l.set n (.frz e x)
  | _=>l
theorem LH.Mk [LB] (l:LH) (n:Nat):(l.frz n).w=l.w.freeze n:=by
  unfold LH.frz Heap.freeze
  cases hn:l.h n with
  | arr e x =>
    rw[LH.jH hn rfl]
    exact LH.qR _ rfl (LH.wK (by rw[hn];simp))
  | lp st B=>rw[LH.Cq hn]
  | free=>rw[LH.jH hn rfl]
  | dead=>rw[LH.jH hn rfl]
  | box v=>rw[LH.jH hn rfl]
  | frz e x=>rw[LH.jH hn rfl]
  | map k x=>rw[LH.jH hn rfl]
theorem LH.KO {l:LH}(h:l.nf) (n:Nat):(l.frz n).nf:=by
  unfold LH.frz
  cases hn:l.h n<;>simp only<;>first|exact h|exact LH.gC h (by simp)
def LH.frzAll (l:LH):List Nat->LH
  | []=>l
  | n::r=>LH.frzAll (l.frz n) r
theorem LH.qh [LB]:∀(ns:List Nat){l:LH},l.nf->(l.frzAll ns).w=l.w.freezeAll ns/\(l.frzAll ns).nf
  | [],_,h=>⟨rfl,h⟩
  | n::r,l,h=>by
    have:=LH.qh r (LH.KO h n)
    simp only[LH.frzAll,Heap.freezeAll]
    rw[LH.Mk]at this
    exact this
end Go.Am
namespace Go.Am
open Go
variable [bw]
abbrev zc:=Nat->List D->LH->Option (D×LH)
structure fX where
  call:FuncId->List D->LH->Option (D×LH)
  vcall:FuncId->List D->Option D
  own:FuncId->Bool
  yld:zc
  k:Nat
  callR:Nat->zc->FuncId->List D->LH->Option (D×LH)
def qi (n:Nat) (l:List (Nat×Nat×D)):Bool:=l.all fun p=>p.2.2.cells.length == p.2.1&&decide (p.1+p.2.1<=n)&&fL p.2.2
theorem kr {n:Nat}{l:List (Nat×Nat×D)}(h:qi n l=true):gN n l:=by
  intro p hp
  have:=List.all_eq_true.1 h p hp
  simp only[Bool.and_eq_true,beq_iff_eq,decide_eq_true_eq]at this
  exact⟨this.1.1,this.1.2,cg this.2⟩
def Db (len esz:Nat) (l:List (Nat×D)):Bool:=l.all fun p=>decide (p.1<len)&&p.2.cells.length == esz&&fL p.2
theorem mo {len esz:Nat}{l:List (Nat×D)}(h:Db len esz l=true):B4 len esz l:=by
  intro p hp
  have:=List.all_eq_true.1 h p hp
  simp only[Bool.and_eq_true,beq_iff_eq,decide_eq_true_eq]at this
  exact⟨this.1.1,this.1.2,cg this.2⟩
def AF (l:LH) (ds:List D):Bool:=ds.all fun d=>fL d&&zD l d&&(d.fz l.h).vd
theorem sC [LB] {l:LH}{ds:List D}(h:AF l ds=true):yw l.w ds:=by
  intro d hd
  have:=List.all_eq_true.1 h d hd
  simp only[Bool.and_eq_true]at this
  exact⟨cg this.1.1,pC this.1.2,by rw[<- CI];exact this.2⟩
def isFrz (l:LH) (n:Nat):Bool:=match l.h n with
  | .frz _ _=>true
  | _=>false
theorem Bu [LB] {l:LH}{n:Nat}(h:isFrz l n=true):∃e x,l.w n=.frz e x:=by
  unfold isFrz at h
  split at h
  · rename_i hn;exact⟨_,_,LH.jH hn rfl⟩
  · cases h
def evPure (C:fX) (f:FuncId) (ds:List D) (l:LH):Option D :=
  if C.own f then none else
  if AF l ds then
    fDL (ds.map (D.fz l.h)) fun vs=>match C.vcall f vs with
    | some r=>if r.flat||(ds.flatMap D.nm).all (isFrz l) then some r else none
    | none=>none
  else none
def Az (C:fX) (f:FuncId) (ds:List D) (l:LH):Option (D×LH) :=
  match evPure C f ds l with
  | some r=>some (r,l)
  | none=>C.call f ds l
def evLd (x:D) (size:Nat) (agg:Bool) (l:LH):Option D :=
  match x with
  | .vp d j=>tS d.cells j size agg
  | .ptr n i j=>match l.h n with
    | .box v=>if i=0 then tS v.cells j size agg else none
    | .arr _ els=>match els[i]? with|some d=>tS d.cells j size agg|none=>none
    | .frz _ els=>match els[i]? with|some d=>tS d.cells j size agg|none=>none
    | _=>none
  | _=>none
def evOp (P:Program) (C:fX) (op:AOp) (e:LEnv) (l:LH):Option (D×LH) :=
  match op with
  | .mov x=>some (x.get e,l)
  | .pick c a b=>match c.get e with
    | .bool t=>some (if t then a.get e else b.get e,l)
    | _=>none
  | .bin op x y=>(ebin op (x.get e) (y.get e)).map (·,l)
  | .eqv neg agg ks x y=>if(x.get e).isAgg=agg/\(y.get e).isAgg=agg then
      match eqCellsE ks (x.get e).cells (y.get e).cells with
      | some b=>some (.bool (if neg then !b else b),l)
      | none=>none
    else none
  | .un op x=>(eun op (x.get e)).map (·,l)
  | .conv k x=>match eint (x.get e) with
    | some i=>some (.int k (k.wrap i),l)
    | none=>none
  | .ext x i=>match x.get e with
    | .tup ds=>match ds[i]? with
      | some d=>some (d,l)
      | none=>none
    | _=>none
  | .fld x off size agg=>match x.get e with
    | .agg cs=>(tS cs off size agg).map (·,l)
    | _=>none
  | .bld zero parts=>if qi zero.length (parts.map fun p=>(p.1,p.2.1,p.2.2.get e)) then some (.agg (fillD zero (parts.map fun p=>(p.1,p.2.1,(p.2.2.get e).cells))),l) else none
  | .bldS fz esz len zero parts =>
    let vs:=parts.map fun p=>(p.1,p.2.get e)
    if Db len esz vs&&(!fz||vs.all fun p=>zD l p.2) then
      fDL (setEls (List.replicate len zero) (parts.map fun p=>(p.1,if fz then(p.2.get e).fz l.h else p.2.get e))) fun els =>
      fl ((if fz then l.frzAll (parts.flatMap fun p=>(p.2.get e).nm) else l)++[.arr esz els]) fun l'=>some (.ms l.length 0 len,l')
    else none
  | .len x=>match x.get e with
    | .nil=>some (.int .i64 0,l)
    | .sl xs=>some (.int .i64 xs.length,l)
    | .ms n _ len=>if(l.h n).live then some (.int .i64 len,l) else none
    | _=>none
  | .slen x=>match x.get e with
    | .str s=>some (.int .i64 s.size,l)
    | _=>none
  | .fadd x off=>match x.get e with
    | .ptr n i j=>if(l.h n).live then some (.ptr n i (j+off),l) else none
    | .vp d j=>some (.vp d (j+off),l)
    | _=>none
  | .iadd x i esz=>match eint (i.get e) with
    | none=>none
    | some i=>match x.get e with
      | .sl xs=>if 0<=i then match xs[i.toNat]? with
          | some d=>if d.cells.length=esz then some (.vp d 0,l) else none
          | none=>none
        else none
      | .ms n off len=>if 0<=i/\i<len then match (l.h n).row with
          | some (e',_)=>if e'=esz then some (.ptr n (off+i.toNat) 0,l) else none
          | none=>none
        else none
      | _=>none
  | .iadda x i len esz=>match eint (i.get e) with
    | none=>none
    | some i=>if 0<=i/\i<len then match x.get e with
      | .ptr n k j=>if(l.h n).live then some (.ptr n k (j+i.toNat*esz),l) else none
      | .vp d j=>some (.vp d (j+i.toNat*esz),l)
      | _=>none
      else none
  | .sidx x i len size agg=>match eint (i.get e) with
    | none=>none
    | some i=>match x.get e with
      | .agg cs=>if 0<len/\0<=i/\i<len then(tS cs (i.toNat*size) size agg).map (·,l) else none
      | .str s=>if len=0/\0<=i/\i<s.size then match s.data.toList[i.toNat]? with
        | some b=>some (.int .u8 b.toNat,l)
        | none=>none
        else none
      | _=>none
  | .ld x size agg=>(evLd (x.get e) size agg l).map (·,l)
  | .st x v size=>if(v.get e).cells.length=size/\fL (v.get e)=true then match x.get e with
      | .ptr n i j=>match l.h n with
        | .box d=>if i=0/\j+size<=d.cells.length then fD (setCells d j (v.get e).cells) fun d=>fl (l.set n (.box d)) fun l'=>some (.undef,l') else none
        | .arr esz els=>if j+size<=esz then match els[i]? with
            | some d=>fDL (els.set i (setCells d j (v.get e).cells)) fun els=>fl (l.set n (.arr esz els)) fun l'=>some (.undef,l')
            | none=>none
          else none
        | _=>none
      | _=>none
    else none
  | .alloc zero=>fl (l++[.box zero]) fun l'=>some (.ptr l.length 0 0,l')
  | .box x=>if fL (x.get e) then fD (x.get e) fun d=>fl (l++[.box d]) fun l'=>some (.ptr l.length 0 0,l') else none
  | .mk esz bytes zero len cap=>match eint (len.get e),eint (cap.get e) with
    | some n,some c=>if 0<=n/\n<=c/\c*bytes<=140737488355328/\c<=9223372036854775807 then
        fl (List.replicate n.toNat zero) fun els=>fl (l++[.arr esz els]) fun l'=>some (.ms l.length 0 n.toNat,l')
      else none
    | _,_=>none
  | .kN x lo hi mx esz=>match x.get e with
    | .nil=>match eopt e lo 0,eopt e hi 0,eopt e mx 0 with
      | some a,some b,some m=>if a=0/\b=0/\m=0 then some (.nil,l) else none
      | _,_,_=>none
    | .sl xs=>match eopt e lo 0,eopt e hi xs.length,eopt e mx xs.length with
      | some a,some b,some m=>if 0<=a/\a<=b/\b<=m/\m<=xs.length/\(xs.all fun d=>d.cells.length == esz)=true then some (.sl ((xs.drop a.toNat).take (b-a).toNat),l) else none
      | _,_,_=>none
    | .ms n off len=>match eopt e lo 0,eopt e hi len,eopt e mx len with
      | some a,some b,some m=>match (l.h n).row with
        | some (e',_)=>if e'=esz/\0<=a/\a<=b/\b<=m/\m<=len then some (.ms n (off+a.toNat) (b-a).toNat,l) else none
        | none=>none
      | _,_,_=>none
    | _=>none
  | .nilq neg x=>match x.get e with
    | .nil=>some (.bool (!neg),l)
    | .sl (_::_)=>some (.bool neg,l)
    | _=>none
  | .slz x esz=>match x.get e with
    | .nil=>fl (l++[.arr esz []]) fun l'=>some (.ms l.length 0 0,l')
    | .sl _=>fl (l++[.arr esz []]) fun l'=>some (.ms l.length 0 0,l')
    | .ms m _ _=>match (l.h m).row with
      | some (e',_)=>if e'=esz then fl (l++[.arr esz []]) fun l'=>some (.ms l.length 0 0,l') else none
      | none=>none
    | _=>none
  | .Cu x n=>match x.get e with
    | .ptr m i j=>match l.h m with
      | .box (.agg cs)=>if i=0/\0<n/\n<=1000000/\j+n<=cs.length/\((cs.drop j).take n).all D.vone=true then fDL ((cs.drop j).take n) fun xs=>some (.sl xs,l.set m .dead) else none
      | _=>none
    | _=>none
  | .mkc bytes len cap=>match eint (len.get e),eint (cap.get e) with
    | some n,some c=>if 0<=n/\n<=c/\c*bytes<=140737488355328/\c<=9223372036854775807 then some (.undef,l) else none
    | _,_=>none
  | .b2s x=>match eelems 1 (x.get e) l with
    | some ys=>if ys.all fL then match u8L ys with
      | some ns=>some (.str (strOf ns),l)
      | none=>none
      else none
    | none=>none
  | .sslc x lo hi=>match x.get e with
    | .str s=>match eopt e lo 0,eopt e hi s.size with
      | some a,some b=>if 0<=a/\a<=b/\b<=s.size then some (.str (s.extract a.toNat b.toNat),l) else none
      | _,_=>none
    | _=>none
  | .app s x esz bytes _=>match eelems esz (x.get e) l with
    | none=>none
    | some ys=>if ys.all fL then match s.get e with
      | .nil=>if ys.length*bytes<=140737488355328/\ys.length<=9223372036854775807 then fDL ys fun ys'=>fl (l++[.arr esz ys']) fun l'=>some (.ms l.length 0 ys.length,l') else none
      | .ms m off len=>match l.h m with
        | .arr esz' els=>if esz'=esz/\off=0/\len<=els.length/\(len+ys.length)*bytes<=140737488355328/\len+ys.length<=9223372036854775807 then
            fDL (els.take len++ys) fun zs=>fl (l.set m .dead++[.arr esz zs]) fun l'=>some (.ms l.length 0 (len+ys.length),l') else none
        | _=>none
      | _=>none
      else none
  | .y9 d s esz=>match eelems esz (s.get e) l with
    | none=>none
    | some ys=>if ys.all fL then match d.get e with
      | .ms m off len=>match l.h m with
        | .arr esz' els=>if esz'=esz/\off+len<=els.length then
            fDL (els.take off++ys.take len++els.drop (off+min ys.length len)) fun zs=>fl (l.set m (.arr esz zs)) fun l'=>some (.int .i64 (min ys.length len:Nat),l') else none
        | _=>none
      | _=>none
      else none
  | .call f args=>Az C f (args.map (·.get e)) l
  | .callv x args=>match x.get e with
    | .fn f a b=>if eY P f then Az C f (a++args.map (·.get e)++b) l else none
    | .yld n=>match l.h n with
      | .lp _ _=>C.yld n (args.map (·.get e)) l
      | _=>none
    | _=>none
  | .mkf f a b=>some (.fn f (a.map (·.get e)) (b.map (·.get e)),l)
  | .mn x y=>match x.get e,y.get e with
    | .int k a,.int k' b=>if k=k' then some (.int k (if b<a then b else a),l) else none
    | _,_=>none
  | .mx x y=>match x.get e,y.get e with
    | .int k a,.int k' b=>if k=k' then some (.int k (if a<b then b else a),l) else none
    | _,_=>none
  | .mn3 x y z=>match x.get e,y.get e,z.get e with
    | .int k a,.int k' b,.int k'' c=>if k=k'/\k=k'' then some (.int k (min (min a b) c),l) else none
    | _,_,_=>none
  | .mx3 x y z=>match x.get e,y.get e,z.get e with
    | .int k a,.int k' b,.int k'' c=>if k=k'/\k=k'' then some (.int k (max (max a b) c),l) else none
    | _,_,_=>none
  | .xt kt=>some (.mp l.length,l++[.map kt []])
  | .look kt x k z ok=>if kt.okB (k.get e) then match x.get e with
      | .mp n=>match l.h n with
        | .map kt' ents=>if kt'=kt then some (if ok then .tup [(mget ents (k.get e)).getD z,.bool (mget ents (k.get e)).isSome] else(mget ents (k.get e)).getD z,l) else none
        | _=>none
      | _=>none
    else none
  | .mupd kt x k v=>if kt.okB (k.get e)&&(v.get e).one then match x.get e with
      | .mp n=>match l.h n with
        | .map kt' ents=>if kt'=kt then some (.undef,l.set n (.map kt (mset ents (k.get e) (v.get e)))) else none
        | _=>none
      | _=>none
    else none
  | .dead=>none
structure iL [LB] (P:Program) (C:fX):Prop where
  call:∀f ds l d l',C.call f ds l=some (d,l')->l.nf->l'.nf/\∀K:D->Heap->Prop,K d l'.w->af P f ds l.w K
  yld:∀n ds l d l',C.yld n ds l=some (d,l')->l.nf->l'.nf/\∀K:D->Heap->Prop,K d l'.w->kL P n ds l.w K
  vcall:∀f ds r,C.vcall f ds=some r->aO P f ds (· = r)
variable {P:Program}{C:fX}[LB]
theorem E2 (ok:iL P C){f:FuncId}{ds:List D}{l:LH}{r:D}(h:evPure C f ds l=some r) (K:D->Heap->Prop) (hk:K r l.w):af P f ds l.w K:=by
  unfold evPure at h
  split at h
  · cases h
  · split at h
    · rename_i hc
      rw[lM,D3]at h
      split at h
      · rename_i r' hv
        split at h
        · rename_i hf
          simp at h;subst h
          refine af.mono ?_ (dB (ok.vcall _ _ _ hv) (sC hc))
          rintro r h' ⟨rfl,h1,h2⟩
          by_cases hc':r.flat=true\/ds.flatMap D.nm=[]
          · rw[h1 hc'];exact hk
          · rw[h2 hc']
            simp only[Bool.or_eq_true]at hf
            rcases hf with hf|hf
            · exact absurd (Or.inl hf) hc'
            · rw[kp _ fun n hn=>Bu (List.all_eq_true.1 hf n hn)];exact hk
        · cases h
      · cases h
    · cases h
theorem zJ (ok:iL P C){f:FuncId}{ds:List D}{l:LH}{d:D}{l':LH}(h:Az C f ds l=some (d,l')) (hn:l.nf):l'.nf/\∀K:D->Heap->Prop,K d l'.w->af P f ds l.w K:=by
  unfold Az at h
  split at h
  · rename_i r hr
    simp at h;obtain⟨rfl,rfl⟩:=h
    exact⟨hn,fun K hk=>E2 ok hr K hk⟩
  · exact ok.call _ _ _ _ _ h hn
theorem Ec {x:D}{size:Nat}{agg:Bool}{l:LH}{d:D}(h:evLd x size agg l=some d){a:Arg}{e:LEnv}(ha:a.get e=x){K:D->Heap->Prop}(hk:K d l.w):vcOp P (.ld a size agg) K e l.w:=by
  subst ha
  simp only[evLd,vcOp]at h ⊢
  have one:∀(els:List D) (i j:Nat),(match els[i]? with|some d=>tS d.cells j size agg|none=>none)=some d->i<els.length/\∀d',els[i]?=some d'->vpart d'.cells j size agg fun x=>K x l.w:=by
    intro els i j h
    cases he:els[i]? with
    | none=>simp[he]at h
    | some d1 =>
      simp only[he]at h
      refine⟨(List.getElem?_eq_some_iff.1 he).1,fun d' hd'=>?_⟩
      cases hd'
      exact pG (K:=fun x=>K x l.w) h hk
  cases hx:a.get e<;>simp only[hx]at h ⊢<;>try (cases h;done)
  · rename_i n i j
    cases hn:l.h n<;>simp only[hn]at h<;>try (cases h;done)
    · rw[LH.jH hn rfl]
      split at h
      · exact⟨by assumption,pG (K:=fun x=>K x l.w) h hk⟩
      · cases h
    · rw[LH.jH hn rfl];exact one _ _ _ h
    · rw[LH.jH hn rfl];exact one _ _ _ h
  · exact pG (K:=fun x=>K x l.w) h hk
end Go.Am
namespace Go.Am
open Go
variable [bw]
variable {P:Program}{C:fX}[LB]
theorem Eb (ok:iL P C){op:AOp}{e:LEnv}{l:LH}{d:D}{l':LH}(h:evOp P C op e l=some (d,l')) (hn:l.nf) :
    l'.nf/\∀K:D->Heap->Prop,K d l'.w->vcOp P op K e l.w:=by
  have same:∀{x:Option D},x.map (fun y=>(y,l))=some (d,l')->x=some d/\l'=l:=by
    intro x h
    cases x<;>simp at h
    exact⟨by rw[h.1],h.2.symm⟩
  have new:∀(s:Slot) (hs:s≠.free) (hw:s.GC=false),LH.nf (l++[s])/\∀K:Nat->Heap->Prop,K l.length (LH.w (l++[s]))->∀n,lq l.w n->K n (aj l.w n s):=by
    intro s hs hw
    refine⟨LH.tq hn hs,fun K hk n t=>?_⟩
    have:=LH.AS hn t
    subst this
    rw[<- LH.zT _ _ hw]
    exact hk
  cases op<;>simp only[evOp,Jv,lM,rj,CI]at h
  case mov x=>cases h;exact⟨hn,fun K hk=>hk⟩
  case pick c a b =>
    cases hc:c.get e<;>simp only[hc]at h<;>try (cases h;done)
    cases h
    exact⟨hn,fun K hk=>by simp only[vcOp,hc];exact hk⟩
  case bin op x y =>
    obtain⟨h1,rfl⟩:=same h
    exact⟨hn,fun K hk=>IE (K:=fun d=>K d l'.w) h1 hk⟩
  case eqv neg agg ks x y =>
    split at h
    · rename_i hc
      cases he:eqCellsE ks (x.get e).cells (y.get e).cells<;>simp only[he]at h<;>try (cases h;done)
      cases h
      refine⟨hn,fun K hk=>⟨hc.1,hc.2,?_⟩⟩
      simp only[veqv,BN,he]
      exact hk
    · cases h
  case un op x =>
    obtain⟨h1,rfl⟩:=same h
    exact⟨hn,fun K hk=>KV (K:=fun d=>K d l'.w) h1 hk⟩
  case conv k x =>
    cases hc:eint (x.get e)<;>simp only[hc]at h<;>try (cases h;done)
    cases h
    exact⟨hn,fun K hk=>fK (K:=fun i=>K (.int k (k.wrap i)) l.w) hc hk⟩
  case ext x i =>
    cases hc:x.get e<;>simp only[hc]at h<;>try (cases h;done)
    rename_i ds
    cases hd:ds[i]?<;>simp only[hd]at h<;>try (cases h;done)
    cases h
    exact⟨hn,fun K hk=>by simp only[vcOp,hc,hd];exact hk⟩
  case fld x off size agg =>
    cases hc:x.get e<;>simp only[hc]at h<;>try (cases h;done)
    obtain⟨h1,rfl⟩:=same h
    exact⟨hn,fun K hk=>by simp only[vcOp,hc];exact pG (K:=fun d=>K d l'.w) h1 hk⟩
  case bld zero parts =>
    split at h
    · rename_i hc
      cases h
      exact⟨hn,fun K hk=>⟨kr hc,hk⟩⟩
    · cases h
  case bldS fz esz len zero parts =>
    split at h
    · rename_i hc
      simp only[Bool.and_eq_true,Bool.or_eq_true,Bool.not_eq_true']at hc
      cases h
      have hfz:fz=true->Ek l.w (parts.map fun p=>(p.1,p.2.get e)):=by
        intro hf
        rcases hc.2 with h1|h1
        · rw[hf]at h1;cases h1
        · exact fun p hp=>pC (List.all_eq_true.1 h1 p hp)
      let l1:LH:=if fz then l.frzAll (parts.flatMap fun p=>(p.2.get e).nm) else l
      have hl1:l1.w=(if fz then l.w.freezeAll (parts.flatMap fun p=>(p.2.get e).nm) else l.w)/\l1.nf/\l1.length=l.length:=by
        cases fz with
        | false=>exact⟨rfl,hn,rfl⟩
        | true =>
          obtain⟨a1,a2⟩:=LH.qh (parts.flatMap fun p=>(p.2.get e).nm) hn
          refine⟨a1,a2,?_⟩
          have:∀(ns:List Nat) (l:LH),(l.frzAll ns).length=l.length:=by
            intro ns
            induction ns with
            | nil=>intro l;rfl
            | cons n r ih =>
              intro l
              simp only[LH.frzAll]
              rw[ih]
              unfold LH.frz
              cases l.h n<;>simp
          exact this _ _
      refine⟨LH.tq hl1.2.1 (by simp),fun K hk=>⟨mo hc.1,hfz,fun n t=>?_⟩⟩
      have:=LH.AS hn t
      subst this
      rw[LH.zT _ _ rfl]at hk
      have h2:=hl1.2.2
      have h3:=hl1.1
      simp only[l1]at h2 h3
      rw[h2,h3]at hk
      exact hk
    · cases h
  case len x =>
    cases hc:x.get e<;>simp only[hc]at h<;>try (cases h;done)
    · cases h;exact⟨hn,fun K hk=>by simp only[vcOp,hc,bQ];exact hk⟩
    · cases h;exact⟨hn,fun K hk=>by simp only[vcOp,hc,bQ];exact hk⟩
    · split at h
      · rename_i hlv
        cases h;exact⟨hn,fun K hk=>by simp only[vcOp,hc,bQ];exact⟨by rw[LH.Cr];exact hlv,hk⟩⟩
      · cases h
  case slen x =>
    cases hc:x.get e<;>simp only[hc]at h<;>try (cases h;done)
    cases h;exact⟨hn,fun K hk=>by simp only[vcOp,hc];exact hk⟩
  case fadd x off =>
    cases hc:x.get e<;>simp only[hc]at h<;>try (cases h;done)
    · split at h
      · rename_i hlv
        cases h;exact⟨hn,fun K hk=>by simp only[vcOp,hc];exact⟨Slot.zW (by intro h0;rw[<- LH.Cr,h0]at hlv;cases hlv),hk⟩⟩
      · cases h
    · cases h;exact⟨hn,fun K hk=>by simp only[vcOp,hc];exact hk⟩
  case iadd x i esz =>
    cases hi:eint (i.get e)<;>simp only[hi]at h<;>try (cases h;done)
    rename_i n
    cases hc:x.get e<;>simp only[hc]at h<;>try (cases h;done)
    · rename_i xs
      split at h
      · rename_i h0
        cases hx:xs[n.toNat]?<;>simp only[hx]at h<;>try (cases h;done)
        rename_i d0
        split at h
        · rename_i hs
          cases h
          refine⟨hn,fun K hk=>fK hi ?_⟩
          simp only[hc]
          have:=(List.getElem?_eq_some_iff.1 hx).1
          refine⟨h0,by omega,fun d hd=>?_⟩
          rw[hx]at hd;cases hd
          exact⟨hs,hk⟩
        · cases h
      · cases h
    · rename_i m off len
      split at h
      · rename_i h0
        cases hr:(l.h m).row<;>simp only[hr]at h<;>try (cases h;done)
        rename_i q
        obtain⟨e',els⟩:=q
        simp only at h
        split at h
        · rename_i hs
          subst hs
          cases h
          refine⟨hn,fun K hk=>fK hi ?_⟩
          simp only[hc]
          exact⟨h0.1,h0.2,⟨els,by rw[LH.zi];exact hr⟩,hk⟩
        · cases h
      · cases h
  case iadda x i len esz =>
    cases hi:eint (i.get e)<;>simp only[hi]at h<;>try (cases h;done)
    rename_i n
    split at h
    · rename_i h0
      cases hc:x.get e<;>simp only[hc]at h<;>try (cases h;done)
      · split at h
        · rename_i hlv
          cases h
          exact⟨hn,fun K hk=>fK hi (by simp only[hc];exact⟨h0.1,h0.2,by rw[LH.Cr];exact hlv,hk⟩)⟩
        · cases h
      · cases h
        exact⟨hn,fun K hk=>fK hi (by simp only[hc];exact⟨h0.1,h0.2,hk⟩)⟩
    · cases h
  case sidx x i len size agg =>
    cases hi:eint (i.get e)<;>simp only[hi]at h<;>try (cases h;done)
    rename_i n
    cases hc:x.get e<;>simp only[hc]at h<;>try (cases h;done)
    rotate_left
    · split at h
      · rename_i h0
        obtain⟨h1,rfl⟩:=same h
        exact⟨hn,fun K hk=>fK hi (by simp only[hc];exact⟨h0.1,h0.2.1,h0.2.2,pG (K:=fun d=>K d l'.w) h1 hk⟩)⟩
      · cases h
    rename_i s
    split at h
    · rename_i h0
      cases hb:s.data.toList[n.toNat]?<;>simp only[hb]at h<;>try (cases h;done)
      rename_i b
      cases h
      refine⟨hn,fun K hk=>fK hi ?_⟩
      simp only[hc]
      refine⟨h0.1,h0.2.1,h0.2.2,fun b' hb'=>?_⟩
      have:b'=b:=by
        have e1:s.data.toList[n.toNat]?=some b':=by
          rw[<- hb']
          simp only[Array.getElem?_toList]
          rfl
        rw[hb]at e1
        exact(Option.some.inj e1).symm
      subst this
      exact hk
    · cases h
  case ld x size agg =>
    obtain⟨h1,rfl⟩:=same h
    exact⟨hn,fun K hk=>Ec h1 rfl hk⟩
  case st x v size =>
    split at h
    · rename_i h0
      cases hc:x.get e<;>simp only[hc]at h<;>try (cases h;done)
      rename_i n i j
      cases hs:l.h n<;>simp only[hs]at h<;>try (cases h;done)
      · split at h
        · rename_i h1
          cases h
          have hlt:n<l.length:=LH.wK (by rw[hs];simp)
          refine⟨LH.gC hn (by simp),fun K hk=>⟨h0.1,cg h0.2,?_⟩⟩
          simp only[hc,LH.jH hs rfl]
          rw[LH.qR _ rfl hlt]at hk
          exact⟨h1.1,h1.2,hk⟩
        · cases h
      · rename_i esz els
        split at h
        · rename_i h1
          cases hx:els[i]?<;>simp only[hx]at h<;>try (cases h;done)
          rename_i d0
          cases h
          have hlt:n<l.length:=LH.wK (by rw[hs];simp)
          refine⟨LH.gC hn (by simp),fun K hk=>⟨h0.1,cg h0.2,?_⟩⟩
          simp only[hc,LH.jH hs rfl]
          rw[LH.qR _ rfl hlt]at hk
          refine⟨(List.getElem?_eq_some_iff.1 hx).1,h1,fun d hd=>?_⟩
          rw[hx]at hd;cases hd
          exact hk
        · cases h
    · cases h
  case alloc zero =>
    cases h
    obtain⟨a1,a2⟩:=new (.box zero) (by simp) rfl
    exact⟨a1,fun K hk=>a2 (fun n h=>K (.ptr n 0 0) h) hk⟩
  case box x =>
    split at h
    · rename_i h0
      cases h
      obtain⟨a1,a2⟩:=new (.box (x.get e)) (by simp) rfl
      exact⟨a1,fun K hk=>⟨cg h0,a2 (fun n h=>K (.ptr n 0 0) h) hk⟩⟩
    · cases h
  case mk esz bytes zero len cap =>
    cases h1:eint (len.get e)<;>simp only[h1]at h<;>try (cases h;done)
    rename_i n
    cases h2:eint (cap.get e)<;>simp only[h2]at h<;>try (cases h;done)
    rename_i c
    split at h
    · rename_i h0
      cases h
      obtain⟨a1,a2⟩:=new (.arr esz (List.replicate n.toNat zero)) (by simp) rfl
      exact⟨a1,fun K hk=>fK h1 (fK h2 ⟨h0.1,h0.2.1,h0.2.2.1,h0.2.2.2,a2 (fun m h=>K (.ms m 0 n.toNat) h) hk⟩)⟩
    · cases h
  case kN x lo hi mx esz =>
    cases hc:x.get e<;>simp only[hc]at h<;>try (cases h;done)
    · cases h1:eopt e lo 0<;>simp only[h1]at h<;>try (cases h;done)
      cases h2:eopt e hi 0<;>simp only[h2]at h<;>try (cases h;done)
      cases h3:eopt e mx 0<;>simp only[h3]at h<;>try (cases h;done)
      split at h
      · rename_i h0
        cases h
        refine⟨hn,fun K hk=>?_⟩
        simp only[vcOp,hc]
        exact gO h1 (gO h2 (gO h3 ⟨h0.1,h0.2.1,h0.2.2,hk⟩))
      · cases h
    · rename_i xs
      cases h1:eopt e lo 0<;>simp only[h1]at h<;>try (cases h;done)
      cases h2:eopt e hi xs.length<;>simp only[h2]at h<;>try (cases h;done)
      cases h3:eopt e mx xs.length<;>simp only[h3]at h<;>try (cases h;done)
      split at h
      · rename_i h0
        cases h
        refine⟨hn,fun K hk=>?_⟩
        simp only[vcOp,hc]
        exact gO h1 (gO h2 (gO h3 ⟨h0.1,h0.2.1,h0.2.2.1,h0.2.2.2.1,fun d hd=>by simpa using List.all_eq_true.1 h0.2.2.2.2 d hd,hk⟩))
      · cases h
    · rename_i n off len
      cases h1:eopt e lo 0<;>simp only[h1]at h<;>try (cases h;done)
      cases h2:eopt e hi len<;>simp only[h2]at h<;>try (cases h;done)
      cases h3:eopt e mx len<;>simp only[h3]at h<;>try (cases h;done)
      cases hr:(l.h n).row<;>simp only[hr]at h<;>try (cases h;done)
      rename_i q
      obtain⟨e',els⟩:=q
      simp only at h
      split at h
      · rename_i h0
        obtain⟨rfl,h0⟩:=h0
        cases h
        refine⟨hn,fun K hk=>?_⟩
        simp only[vcOp,hc]
        exact gO h1 (gO h2 (gO h3 ⟨h0.1,h0.2.1,h0.2.2.1,h0.2.2.2,⟨els,by rw[LH.zi];exact hr⟩,hk⟩))
      · cases h
  case nilq neg x =>
    cases hc:x.get e<;>simp only[hc]at h<;>try (cases h;done)
    · cases h
      exact⟨hn,fun K hk=>by simp only[vcOp,hc];exact hk⟩
    · rename_i xs
      cases xs with
      | nil=>cases h
      | cons d r =>
        cases h
        exact⟨hn,fun K hk=>by simp only[vcOp,hc];exact hk⟩
  case slz x esz =>
    obtain⟨a1,a2⟩:=new (.arr esz []) (by simp) rfl
    cases hc:x.get e<;>simp only[hc]at h<;>try (cases h;done)
    · cases h
      exact⟨a1,fun K hk=>by simp only[vcOp,hc];exact a2 (fun n h=>K (.ms n 0 0) h) hk⟩
    · cases h
      exact⟨a1,fun K hk=>by simp only[vcOp,hc];exact a2 (fun n h=>K (.ms n 0 0) h) hk⟩
    · rename_i m off len
      cases hr:(l.h m).row<;>simp only[hr]at h<;>try (cases h;done)
      rename_i q
      obtain⟨e',els⟩:=q
      simp only at h
      split at h
      · rename_i h0
        subst h0
        cases h
        exact⟨a1,fun K hk=>by simp only[vcOp,hc];exact⟨⟨els,by rw[LH.zi];exact hr⟩,a2 (fun n h=>K (.ms n 0 0) h) hk⟩⟩
      · cases h
  case Cu x n =>
    cases hc:x.get e<;>simp only[hc]at h<;>try (cases h;done)
    rename_i m i j
    cases hs:l.h m<;>simp only[hs]at h<;>try (cases h;done)
    rename_i v
    cases v<;>simp only at h<;>try (cases h;done)
    split at h
    · rename_i h0
      cases h
      refine⟨LH.gC hn (by simp),fun K hk=>?_⟩
      simp only[vcOp,hc,LH.jH hs rfl]
      rw[LH.qR _ rfl (LH.wK (by rw[hs];simp))]at hk
      exact⟨h0.1,h0.2.1,h0.2.2.1,h0.2.2.2.1,fun d hd=>List.all_eq_true.1 h0.2.2.2.2 d hd,hk⟩
    · cases h
  case mkc bytes len cap =>
    cases h1:eint (len.get e)<;>simp only[h1]at h<;>try (cases h;done)
    rename_i n
    cases h2:eint (cap.get e)<;>simp only[h2]at h<;>try (cases h;done)
    rename_i c
    split at h
    · rename_i h0
      cases h
      exact⟨hn,fun K hk=>fK h1 (fK h2 ⟨h0.1,h0.2.1,h0.2.2.1,h0.2.2.2,hk⟩)⟩
    · cases h
  case b2s x =>
    cases hx:eelems 1 (x.get e) l<;>simp only[hx]at h<;>try (cases h;done)
    rename_i ys
    split at h
    · rename_i hall
      cases hu:u8L ys<;>simp only[hu]at h<;>try (cases h;done)
      cases h
      refine⟨hn,fun K hk=>?_⟩
      simp only[vcOp]
      exact ql hx ⟨fun y hy=>cg (List.all_eq_true.1 hall y hy),by simp only[hu];exact hk⟩
    · cases h
  case sslc x lo hi =>
    cases hc:x.get e<;>simp only[hc]at h<;>try (cases h;done)
    rename_i s
    cases h1:eopt e lo 0<;>simp only[h1]at h<;>try (cases h;done)
    cases h2:eopt e hi s.size<;>simp only[h2]at h<;>try (cases h;done)
    split at h
    · rename_i h0
      cases h
      refine⟨hn,fun K hk=>?_⟩
      simp only[vcOp,hc]
      exact gO h1 (gO h2 ⟨h0.1,h0.2.1,h0.2.2,hk⟩)
    · cases h
  case app s x esz bytes zero =>
    cases hx:eelems esz (x.get e) l<;>simp only[hx]at h<;>try (cases h;done)
    rename_i ys
    split at h
    · rename_i hall
      have hall':∀y∈ys,aH y:=fun y hy=>cg (List.all_eq_true.1 hall y hy)
      cases hs:s.get e<;>simp only[hs]at h<;>try (cases h;done)
      · split at h
        · rename_i h0
          cases h
          obtain⟨a1,a2⟩:=new (.arr esz ys) (by simp) rfl
          refine⟨a1,fun K hk=>?_⟩
          simp only[vcOp,hs]
          refine ql hx ⟨hall',?_⟩
          exact⟨h0,a2 (fun m h=>K (.ms m 0 ys.length) h) hk⟩
        · cases h
      · rename_i m off len
        cases hm:l.h m<;>simp only[hm]at h<;>try (cases h;done)
        rename_i esz' els
        split at h
        · rename_i h0
          obtain⟨rfl,rfl,hle,h0⟩:=h0
          cases h
          have hlt:m<l.length:=LH.wK (by rw[hm];simp)
          refine⟨LH.tq (LH.gC hn (by simp)) (by simp),fun K hk=>?_⟩
          simp only[vcOp,hs]
          refine ql hx ⟨hall',?_⟩
          refine⟨els.take len,⟨els.drop len,by rw[List.take_append_drop];exact LH.jH hm rfl⟩,by rw[List.length_take];omega,h0,fun n t=>⟨?_,fun h0=>absurd rfl h0⟩⟩
          have:=LH.AS hn t
          subst this
          rw[LH.zT _ _ rfl,LH.qR _ rfl hlt,List.length_set]at hk
          exact hk
        · cases h
    · cases h
  case y9 d0 s esz =>
    cases hx:eelems esz (s.get e) l<;>simp only[hx]at h<;>try (cases h;done)
    rename_i ys
    split at h
    · rename_i hall
      have hall':∀y∈ys,aH y:=fun y hy=>cg (List.all_eq_true.1 hall y hy)
      cases hs:d0.get e<;>simp only[hs]at h<;>try (cases h;done)
      rename_i m off len
      cases hm:l.h m<;>simp only[hm]at h<;>try (cases h;done)
      rename_i esz' els
      split at h
      · rename_i h0
        obtain⟨rfl,h0⟩:=h0
        cases h
        have hlt:m<l.length:=LH.wK (by rw[hm];simp)
        refine⟨LH.gC hn (by simp),fun K hk=>?_⟩
        simp only[vcOp,hs]
        refine ql hx ⟨hall',?_⟩
        rw[LH.qR _ rfl hlt]at hk
        exact⟨els,LH.jH hm rfl,h0,hk⟩
      · cases h
    · cases h
  case call f args=>exact zJ ok h hn
  case callv x args =>
    cases hc:x.get e<;>simp only[hc]at h<;>try (cases h;done)
    · split at h
      · rename_i h0
        obtain⟨a1,a2⟩:=zJ ok h hn
        refine⟨a1,fun K hk=>?_⟩
        simp only[vcOp,hc]
        exact⟨h0,a2 K hk⟩
      · cases h
    · rename_i n
      cases hs:l.h n<;>simp only[hs]at h<;>try (cases h;done)
      obtain⟨a1,a2⟩:=ok.yld _ _ _ _ _ h hn
      refine⟨a1,fun K hk=>?_⟩
      simp only[vcOp,hc]
      exact⟨⟨_,_,LH.Cq hs⟩,a2 K hk⟩
  case mkf f a b=>cases h;exact⟨hn,fun K hk=>hk⟩
  case mn x y =>
    cases hx:x.get e<;>simp only[hx]at h<;>try (cases h;done)
    cases hy:y.get e<;>simp only[hy]at h<;>try (cases h;done)
    split at h
    · cases h;exact⟨hn,fun K hk=>by simp only[vcOp,hx,hy];exact⟨by assumption,hk⟩⟩
    · cases h
  case mx x y =>
    cases hx:x.get e<;>simp only[hx]at h<;>try (cases h;done)
    cases hy:y.get e<;>simp only[hy]at h<;>try (cases h;done)
    split at h
    · cases h;exact⟨hn,fun K hk=>by simp only[vcOp,hx,hy];exact⟨by assumption,hk⟩⟩
    · cases h
  case mn3 x y z =>
    cases hx:x.get e<;>simp only[hx]at h<;>try (cases h;done)
    cases hy:y.get e<;>simp only[hy]at h<;>try (cases h;done)
    cases hz:z.get e<;>simp only[hz]at h<;>try (cases h;done)
    split at h
    · rename_i h0
      cases h;exact⟨hn,fun K hk=>by simp only[vcOp,hx,hy,hz];exact⟨h0.1,h0.2,hk⟩⟩
    · cases h
  case mx3 x y z =>
    cases hx:x.get e<;>simp only[hx]at h<;>try (cases h;done)
    cases hy:y.get e<;>simp only[hy]at h<;>try (cases h;done)
    cases hz:z.get e<;>simp only[hz]at h<;>try (cases h;done)
    split at h
    · rename_i h0
      cases h;exact⟨hn,fun K hk=>by simp only[vcOp,hx,hy,hz];exact⟨h0.1,h0.2,hk⟩⟩
    · cases h
  case dead=>cases h
  case xt kt =>
    cases h
    refine⟨LH.tq hn (by simp),fun K hk=>?_⟩
    simp only[vcOp]
    intro n t
    rw[LH.AS hn t, <- LH.zT _ _ rfl]
    exact hk
  case look kt x k z ok =>
    split at h
    · rename_i hok
      cases hc:x.get e<;>simp only[hc]at h<;>try (cases h;done)
      rename_i n
      cases hs:l.h n<;>simp only[hs]at h<;>try (cases h;done)
      split at h
      · rename_i hkt
        cases h
        exact⟨hn,fun K hk=>by simp only[vcOp,hc,LH.jH hs rfl];exact⟨hok,hkt,hk⟩⟩
      · cases h
    · cases h
  case mupd kt x k v =>
    split at h
    · rename_i hok
      simp only[Bool.and_eq_true]at hok
      cases hc:x.get e<;>simp only[hc]at h<;>try (cases h;done)
      rename_i n
      cases hs:l.h n<;>simp only[hs]at h<;>try (cases h;done)
      split at h
      · rename_i hkt
        cases h
        refine⟨LH.gC hn (by simp),fun K hk=>?_⟩
        simp only[vcOp,hc,LH.jH hs rfl]
        refine⟨hok.1,hok.2,hkt,?_⟩
        rw[<- LH.qR _ rfl (LH.wK (by rw[hs];simp))]
        exact hk
      · cases h
    · cases h
end Go.Am
namespace Go.Am
open Go
variable [bw]
variable {P:Program}{C:fX}[LB]
def evVal (P:Program) (C:fX) (op:AOp) (e:LEnv) (l:LH):Option D :=
  match op with
  | .bldS _ esz len zero parts =>
    if Db len esz (parts.map fun p=>(p.1,p.2.get e))&&(parts.map fun p=>(p.1,p.2.get e)).all (fun p=>AX p.2)&&AX zero then
      some (.sl (setEls (List.replicate len zero) (parts.map fun p=>(p.1,p.2.get e))))
    else none
  | .call f args=>evPure C f (args.map (·.get e)) l
  | .fadd x off=>match x.get e with
    | .ptr n i j=>if(l.h n).used then some (.ptr n i (j+off)) else none
    | .vp d j=>some (.vp d (j+off))
    | _=>none
  | .mk ..=>none
  | op=>(evOp P C op e l).map (·.1)
theorem GS (ok:iL P C){f:FuncId}{ds:List D}{l:LH}{r:D}(h:evPure C f ds l=some r):aO P f (ds.map (D.fz l.w)) (· = r)/\yw l.w ds/\(r.flat=true\/Dm l.w (ds.flatMap D.nm)):=by
  unfold evPure at h
  split at h
  · cases h
  · split at h
    · rename_i hc
      rw[lM,D3]at h
      split at h
      · rename_i r' hv
        split at h
        · rename_i hf
          simp at h;subst h
          refine⟨ok.vcall _ _ _ hv,sC hc,?_⟩
          simp only[Bool.or_eq_true]at hf
          exact hf.imp id fun hz n hn=>Bu (List.all_eq_true.1 hz n hn)
        · cases h
      · cases h
    · cases h
theorem BH (ok:iL P C){op:AOp}{e:LEnv}{l:LH}{d:D}(h:evVal P C op e l=some d) (hn:l.nf){K:D->Prop}(hk:K d):vcdOp P op K e l.w:=by
  have dflt:(evOp P C op e l).map (·.1)=some d->vcOp P op (fun d _=>K d) e l.w:=by
    intro h
    cases he:evOp P C op e l with
    | none=>rw[he]at h;cases h
    | some q =>
      rw[he]at h
      obtain⟨d',l'⟩:=q
      simp at h;subst h
      exact(Eb ok he hn).2 _ hk
  cases op
  case bldS fz esz len zero parts =>
    simp only[evVal]at h
    split at h
    · rename_i hc
      simp only[Bool.and_eq_true]at hc
      cases h
      exact⟨mo hc.1.1,fun p hp=>sP (List.all_eq_true.1 hc.1.2 p hp),sP hc.2,hk⟩
    · cases h
  case call f args =>
    simp only[evVal]at h
    obtain⟨h1,h2,h3⟩:=GS ok h
    refine⟨d,by simpa[List.map_map,Function.comp_def] using h1,h2,by simpa[List.flatMap_map] using h3,hk⟩
  case fadd x off =>
    simp only[evVal,vcdOp]at h ⊢
    cases hx:x.get e<;>simp only[hx]at h ⊢<;>try (cases h;done)
    · rename_i n i j
      split at h
      · rename_i hu
        cases h
        exact⟨by rw[LH.JI];exact hu,hk⟩
      · cases h
    · cases h;exact hk
  case mk a b z x y=>simp only[evVal]at h;cases h
  case nilq neg x =>
    simp only[evVal,evOp,vcdOp]at h ⊢
    cases hx:x.get e<;>simp only[hx]at h ⊢<;>try (simp at h;done)
    · simp at h;subst h;exact hk
    · rename_i xs
      cases xs with
      | nil=>simp at h
      | cons y ys=>simp at h;subst h;exact hk
  all_goals exact dflt h
def evVals (P:Program) (C:fX):List AOper->LEnv->LH->Option LEnv
  | [],e,_=>some e
  | o::r,e,l=>match o.guard with
    | none=>match evVal P C o.op e l with
      | some d=>fD d fun d=>evVals P C r (e.put o.dst d) l
      | none=>none
    | some (j,want)=>match e.get j with
      | .bool b=>if b=want then match evVal P C o.op e l with
          | some d=>fD d fun d=>evVals P C r (e.put o.dst d) l
          | none=>none
        else evVals P C r (e.put o.dst gU) l
      | .tup _=>evVals P C r (e.put o.dst gU) l
      | _=>none
theorem qj (ok:iL P C):∀(os:List AOper) (e:LEnv) (l:LH) (e':LEnv),evVals P C os e l=some e'->l.nf->∀K:LEnv->Heap->Prop,K e' l.w->vcVals P os K e l.w
  | [],e,l,e',h,_,K,hk=>by simp[evVals]at h;subst h;exact hk
  | o::r,e,l,e',h,hn,K,hk=>by
    have go:(match evVal P C o.op e l with
      | some d=>fD d fun d=>evVals P C r (e.put o.dst d) l
      | none=>none)=some e'->vcdOp P o.op (fun d=>vcVals P r K (e.put o.dst d) l.w) e l.w:=by
      intro h
      cases hd:evVal P C o.op e l with
      | none=>rw[hd]at h;cases h
      | some d =>
        rw[hd]at h
        simp only[rj]at h
        exact BH ok hd hn (qj ok r _ l e' h hn K hk)
    simp only[evVals,vcVals,iv]at h ⊢
    cases hg:o.guard with
    | none=>simp only[hg]at h ⊢;exact go h
    | some q =>
      obtain⟨j,want⟩:=q
      simp only[hg]at h ⊢
      cases hb:e.get j<;>simp only[hb]at h<;>try (cases h;done)
      · rename_i b
        by_cases hbw:b=want
        · rw[if_pos hbw]at h
          simp only[ba,gv]
          exact⟨fun _=>go h,fun hne=>absurd (congrArg some hbw) hne⟩
        · rw[if_neg hbw]at h
          simp only[ba,gv]
          exact⟨fun he=>absurd (Option.some.inj he) hbw,fun _=>qj ok r _ l e' h hn K hk⟩
      · simp only[ba,gv]
        exact⟨fun he=>(by cases he),fun _=>qj ok r _ l e' h hn K hk⟩
def evOps (P:Program) (C:fX):List AOper->LEnv->LH->Option (LEnv×LH)
  | [],e,l=>some (e,l)
  | o::r,e,l=>match o.guard with
    | none=>match evOp P C o.op e l with
      | some (d,l')=>fD d fun d=>evOps P C r (e.put o.dst d) l'
      | none=>none
    | some (j,want)=>match e.get j with
      | .bool b=>if b=want then match evOp P C o.op e l with
          | some (d,l')=>fD d fun d=>evOps P C r (e.put o.dst d) l'
          | none=>none
        else evOps P C r (e.put o.dst gU) l
      | .tup _=>evOps P C r (e.put o.dst gU) l
      | _=>none
theorem pF (ok:iL P C):∀(os:List AOper) (e:LEnv) (l:LH) (e':LEnv) (l':LH),evOps P C os e l=some (e',l')->l.nf->l'.nf/\∀K:LEnv->Heap->Prop,K e' l'.w->kS P os K e l.w
  | [],e,l,e',l',h,hn=>by simp[evOps]at h;obtain⟨rfl,rfl⟩:=h;exact⟨hn,fun K hk=>hk⟩
  | o::r,e,l,e',l',h,hn=>by
    have go:(match evOp P C o.op e l with
      | some (d,l')=>fD d fun d=>evOps P C r (e.put o.dst d) l'
      | none=>none)=some (e',l')->l'.nf/\∀K:LEnv->Heap->Prop,K e' l'.w->vcOp P o.op (fun d h'=>kS P r K (e.put o.dst d) h') e l.w:=by
      intro h
      cases hd:evOp P C o.op e l with
      | none=>rw[hd]at h;cases h
      | some q =>
        obtain⟨d,l1⟩:=q
        rw[hd]at h
        simp only[rj]at h
        obtain⟨a1,a2⟩:=Eb ok hd hn
        obtain⟨b1,b2⟩:=pF ok r _ l1 e' l' h a1
        exact⟨b1,fun K hk=>a2 _ (b2 K hk)⟩
    simp only[evOps,kS,bX]at h ⊢
    cases hg:o.guard with
    | none=>simp only[hg]at h ⊢;exact go h
    | some q =>
      obtain⟨j,want⟩:=q
      simp only[hg]at h ⊢
      cases hb:e.get j<;>simp only[hb]at h<;>try (cases h;done)
      · rename_i b
        by_cases hbw:b=want
        · rw[if_pos hbw]at h
          obtain⟨g1,g2⟩:=go h
          simp only[vguard,gv]
          exact⟨g1,fun K hk=>⟨fun _=>g2 K hk,fun hne=>absurd (congrArg some hbw) hne⟩⟩
        · rw[if_neg hbw]at h
          obtain⟨g1,g2⟩:=pF ok r _ l e' l' h hn
          simp only[vguard,gv]
          exact⟨g1,fun K hk=>⟨fun he=>absurd (Option.some.inj he) hbw,fun _=>g2 K hk⟩⟩
      · obtain⟨g1,g2⟩:=pF ok r _ l e' l' h hn
        simp only[vguard,gv]
        exact⟨g1,fun K hk=>⟨fun he=>(by cases he),fun _=>g2 K hk⟩⟩
def GQ (P:Program) (C:fX) (e:LEnv) (l:LH) (b:AOper):Bool :=
  match b.dst with
  | some s=>(evVal P C b.op e l).any (D.same (e.get s))
  | none=>true
theorem BI (ok:iL P C):∀{rev:List AOper}{e:LEnv}{l:LH},rev.all (GQ P C e l)=true->l.nf->oS P rev e l.w
  | [],_,_,_,_=>trivial
  | b::r,e,l,h,hn=>by
    simp only[List.all_cons,Bool.and_eq_true]at h
    refine⟨?_,BI ok h.2 hn⟩
    have h1:=h.1
    unfold GQ at h1
    cases hd:b.dst with
    | none=>trivial
    | some s =>
      simp only[hd,sQ]at h1 ⊢
      cases hv:evVal P C b.op e l with
      | none=>rw[hv]at h1;cases h1
      | some d =>
        rw[hv]at h1
        simp only[Option.any_some]at h1
        refine BH ok hv hn ?_
        have:=D.m8 _ _ h1
        show [d]=[e.get s]
        rw[this]
def evTail (P:Program) (C:fX) (rev:List AOper):List AOper->LEnv->LH->Option (LEnv×LH)
  | [],e,l=>some (e,l)
  | o::r,e,l=>match evOps P C [o] e l with
    | some (e',l')=>if rev.all (GQ P C e' l') then evTail P C rev r e' l' else none
    | none=>none
theorem A0 {o:AOper}{K K':LEnv->Heap->Prop}(hk:∀e h,K e h->K' e h){e:LEnv}{h:Heap}(hv:jZ P o K e h):jZ P o K' e h:=by
  simp only[bX]at hv ⊢
  cases hg:o.guard with
  | none=>simp only[hg]at hv ⊢;exact fY (fun d h' hh=>hk _ _ hh) hv
  | some q =>
    obtain⟨j,want⟩:=q
    simp only[hg,vguard]at hv ⊢
    cases hb:gv (e.get j)<;>simp only[hb]at hv ⊢
    exact⟨fun hb=>fY (fun d h' hh=>hk _ _ hh) (hv.1 hb),fun hb=>hk _ _ (hv.2 hb)⟩
theorem AZ {rev:List AOper}{o:AOper}{r:List AOper}{K:LEnv->Heap->Prop}{e:LEnv}{h:Heap}(hv:jZ P o (fun e h=>oS P rev e h/\vcTail P rev r K e h) e h):vcTail P rev (o::r) K e h:=by
  cases rev with
  | nil=>exact A0 (fun e h hh=>hh.2) hv
  | cons b s=>exact hv
theorem zH (ok:iL P C){rev:List AOper}:∀(os:List AOper) (e:LEnv) (l:LH) (e':LEnv) (l':LH),evTail P C rev os e l=some (e',l')->l.nf->l'.nf/\∀K:LEnv->Heap->Prop,K e' l'.w->vcTail P rev os K e l.w
  | [],e,l,e',l',h,hn=>by
    simp[evTail]at h;obtain⟨rfl,rfl⟩:=h
    refine⟨hn,fun K hk=>?_⟩
    cases rev<;>exact hk
  | o::r,e,l,e',l',h,hn=>by
    simp only[evTail]at h
    cases h1:evOps P C [o] e l with
    | none=>rw[h1]at h;cases h
    | some q =>
      obtain⟨e1,l1⟩:=q
      rw[h1]at h
      simp only at h
      split at h
      · rename_i hrv
        obtain⟨a1,a2⟩:=pF ok _ _ _ _ _ h1 hn
        obtain⟨b1,b2⟩:=zH ok r e1 l1 e' l' h a1
        exact⟨b1,fun K hk=>AZ (a2 (fun e h=>oS P rev e h/\vcTail P rev r K e h) ⟨BI ok hrv a1,b2 K hk⟩)⟩
      · cases h
def fE {α:Type}:List Nat->LEnv->(LEnv->α)->α
  | [],_,k=>k []
  | v::r,e,k=>fD (e.get v) fun d=>fE r e fun t=>k ((v,d)::t)
theorem yo {α:Type}:∀(vs:List Nat) (e:LEnv) (k:LEnv->α),fE vs e k=k (vs.map fun v=>(v,e.get v))
  | [],_,_=>rfl
  | v::r,e,k=>by rw[fE,rj,yo r];rfl
abbrev Out:=Option (Ex×LEnv×LH)
def evLoop (body:LEnv->LH->Out) (aG vars:List Nat) (e0:LEnv):Nat->LEnv->LH->Out
  | 0,_,_=>none
  | n+1,e,l=>fE vars e fun ev=>fE aG e0 fun ek=>match body (ev++ek) l with
    | some (.normal,e',l')=>if D.sameL (aG.map e'.get) (aG.map e0.get) then evLoop body aG vars e0 n e' l' else none
    | r=>r
def evScope (body:LEnv->LH->Out) (t:Nat) (aG vars:List Nat) (e0:LEnv):Nat->LEnv->LH->Out
  | 0,_,_=>none
  | n+1,e,l=>fE vars e fun ev=>fE aG e0 fun ek=>match body (ev++ek) l with
    | some (.jump t',e',l')=>if t'=t/\D.sameL (aG.map e'.get) (aG.map e0.get)=true then evScope body t aG vars e0 n e' l' else none
    | r=>r
def Nb (l:LH):Bool:=l.all fun s=>match s with
  | .free=>false
  | _=>true
theorem Ku {l:LH}(h:Nb l=true):l.nf:=by
  intro s hs h0
  have:=List.all_eq_true.1 h s hs
  rw[h0]at this;cases this
def DS:bq:=⟨0,0,fun _=>.undef,[],.skip,.skip⟩
def Be (x:Ex) (n:Nat) (l:LH):Option (D×LH):=match x with
  | .normal=>some (.bool true,l.set n (.lp .ready DS))
  | .exit id=>some (.bool false,l.set n (.lp (.done (.exit id)) DS))
  | .ret=>some (.bool false,l.set n (.lp (.done .ret) DS))
  | _=>none
def yldR (A B:LEnv->LH->Out) (n:Nat) (ps:List Nat) (ke:LEnv) (EL:zc):zc:=fun m ds l =>
  if m=n then
    if ds.length=ps.length then match l.h n with
      | .lp .ready _=>match A (ps.zip ds++ke) l with
        | some (.normal,e1,l1)=>match l1.h n with
          | .lp .ready _=>match B e1 (l1.set n (.lp .busy DS)) with
            | some (x,_,l2)=>match l2.h n with
              | .lp .busy _=>Be x n l2
              | _=>none
            | none=>none
          | _=>none
        | _=>none
      | _=>none
    else none
  else EL m ds l
def rangeOut (s:Slot) (exs:List Nat) (ke:LEnv) (l:LH):Out:=match s with
  | .lp .ready _=>some (.normal,ke,l)
  | .lp (.done (.exit id)) _=>if exs.contains id then some (.exit id,ke,l) else none
  | .lp (.done .ret) _=>if exs.contains 1000000 then some (.ret,ke,l) else none
  | _=>none
def evC (P:Program) (C:fX) (N:Nat):ACode->LEnv->LH->Out
  | .skip,e,l=>some (.normal,e,l)
  | .seq a b,e,l=>match evC P C N a e l with
    | some (.normal,e',l')=>evC P C N b e' l'
    | r=>r
  | .seqj aG vars a b,e,l=>match evC P C N a e l with
    | some (.normal,e',l')=>if D.sameL (aG.map e'.get) (aG.map e.get) then fE vars e' fun ev=>fE aG e fun ek=>evC P C N b (ev++ek) l' else none
    | r=>r
  | .cond c a b,e,l=>match c.get e with
    | .bool t=>match t with
      | true=>evC P C N a e l
      | false=>evC P C N b e l
    | _=>none
  | .block id a,e,l=>match evC P C N a e l with
    | some (.exit id',e',l')=>if id'=id then some (.normal,e',l') else some (.exit id',e',l')
    | r=>r
  | .exit id,e,l=>some (.exit id,e,l)
  | .ret,e,l=>some (.ret,e,l)
  | .loop aG vars a,e,l=>evLoop (evC P C N a) aG vars e N e l
  | .reg os,e,l=>match evOps P C os e l with
    | some (e',l')=>some (.normal,e',l')
    | none=>none
  | .dreg vals tail rev,e,l=>match evVals P C vals e l with
    | some e1=>match evTail P C rev tail e1 l with
      | some (e',l')=>some (.normal,e',l')
      | none=>none
    | none=>none
  | .range g ps aG exs a b,e,l=>match g.get e with
    | .fn f [] cs=>if eY P f&&decide (C.k<=l.length)&&decide (ps.Nodup) then fE aG e fun ke =>
        match C.callR (l.length+1) (yldR (evC P C N a) (evC P C N b) l.length ps ke C.yld) f (.yld l.length::cs) (l++[.lp .ready DS]) with
        | some (_,l')=>if Nb l' then rangeOut (l'.h l.length) exs ke (l'.set l.length .dead) else none
        | none=>none
      else none
    | _=>none
  | .frz a,e,l=>match evC P C N a e l with
    | some r=>some r
    | none=>evC P C N a e (l.frzAll (List.range l.length))
  | .regx _,_,_=>none
  | .panr,_,_=>none
  | .label _,e,l=>some (.normal,e,l)
  | .goto t,e,l=>some (.jump t,e,l)
  | .scope t aG vars a b,e,l=>match evC P C N a e l with
    | some (.jump t',e',l')=>if t'=t/\D.sameL (aG.map e'.get) (aG.map e.get)=true then evScope (evC P C N b) t aG vars e N e' l' else none
    | r=>r
def vF (P:Program) (a:ACode) (body:LEnv->LH->Out):Prop :=
  ∀e l x e' l',body e l=some (x,e',l')->l.nf->l'.nf/\∀Q:LPost,Q x e' l'.w->vcC P a Q e l.w
theorem E4 {a:ACode}{body:LEnv->LH->Out}(hb:vF P a body){aG vars:List Nat}{e0:LEnv}:∀(n:Nat) (e:LEnv) (l:LH) (x:Ex) (e':LEnv) (l':LH),evLoop body aG vars e0 n e l=some (x,e',l')->l.nf->l'.nf:=by
  intro n
  induction n with
  | zero=>intro e l x e' l' h;cases h
  | succ n ih =>
    intro e l x e' l' h hn
    simp only[evLoop,yo]at h
    cases hr:body (vars.map (fun v=>(v,e.get v))++aG.map fun v=>(v,e0.get v)) l with
    | none=>rw[hr]at h;cases h
    | some q =>
      obtain⟨x1,e1,l1⟩:=q
      rw[hr]at h
      have h1:=(hb _ _ _ _ _ hr hn).1
      cases x1<;>simp only at h
      · split at h
        · exact ih _ _ _ _ _ h h1
        · cases h
      · cases h;exact h1
      · cases h;exact h1
      · cases h;exact h1
      · cases h;exact h1
theorem E3 {a:ACode}{body:LEnv->LH->Out}(hb:vF P a body){aG vars:List Nat}{N:Nat}{e:LEnv}{l:LH}{x:Ex}{e':LEnv}{l':LH}(h:evLoop body aG vars e N e l=some (x,e',l')) (hn:l.nf) :
    ∀Q:LPost,Q x e' l'.w->vcC P (.loop aG vars a) Q e l.w:=by
  intro Q hq
  refine⟨fun n ds h'=>∃e1 l1,ds=vars.map e1.get/\h'=LH.w l1/\l1.nf/\evLoop body aG vars e n e1 l1=some (x,e',l'),N,⟨e,l,rfl,rfl,hn,h⟩,?_⟩
  rintro n f h' ⟨e1,l1,hf,rfl,hn1,he⟩
  cases n with
  | zero=>cases he
  | succ n =>
    simp only[evLoop,yo]at he
    have hv:vars.map (fun v=>(v,f v))=vars.map (fun v=>(v,e1.get v)):=by
      have:=List.map_inj_left.1 hf
      exact List.map_inj_left.2 fun v hv=>by rw[this v hv]
    rw[hv]
    cases hr:body (vars.map (fun v=>(v,e1.get v))++aG.map fun v=>(v,e.get v)) l1 with
    | none=>rw[hr]at he;cases he
    | some q =>
      obtain⟨x2,e2,l2⟩:=q
      rw[hr]at he
      obtain⟨h1,h2⟩:=hb _ _ _ _ _ hr hn1
      refine h2 _ ?_
      cases x2<;>simp only at he
      · split at he
        · rename_i hs
          exact⟨D.bW _ _ hs,n,Nat.lt_succ_self n,e2,l2,rfl,rfl,h1,he⟩
        · cases he
      · cases he;exact hq
      · cases he;exact hq
      · cases he;exact hq
      · cases he;exact hq
abbrev LH.wb (b:Nat->bq) (l:LH):Heap:=letI:LB:=⟨b⟩;l.w
def Hv (k:Nat) (b b':Nat->bq):Prop:=∀m,m<k->b m=b' m
def JA (P:Program) (Y:zc) (k:Nat) (b0:Nat->bq):Prop:=∀b,Hv k b b0->∀n ds l d l',Y n ds l=some (d,l')->l.nf->l'.nf/\∀K:D->Heap->Prop,K d (LH.wb (b) l')->kL P n ds (LH.wb (b) l) K
structure Hu (P:Program) (C:fX) (b0:Nat->bq):Prop where
  ok:∀b,Hv C.k b b0->(letI:LB:=⟨b⟩;iL P C)
  callR:∀b,Hv C.k b b0->∀k Y,C.k<=k->JA P Y k b->∀f ds l d l',C.callR k Y f ds l=some (d,l')->l.nf->l'.nf/\∀K:D->Heap->Prop,K d (LH.wb (b) l')->af P f ds (LH.wb (b) l) K
theorem CQ {b:ACode}{body:LEnv->LH->Out}(hb:vF P b body){t:Nat}{aG vars:List Nat}{e:LEnv}(N:Nat):∀(e1:LEnv) (l1:LH) (x:Ex) (e':LEnv) (l':LH),evScope body t aG vars e N e1 l1=some (x,e',l')->l1.nf ->
    l'.nf/\∀Q:LPost,Q x e' l'.w->∃I:Nat->List D->Heap->Prop,I N (vars.map e1.get) l1.w/\∀n (f:Nat->D) h',I n (vars.map f) h' ->
        vcC P b (LPost.jump t (fun e' h''=>aG.map (LEnv.get e')=aG.map e.get/\∃m,m<n/\I m (vars.map (LEnv.get e')) h'') Q) (vars.map (fun v=>(v,f v))++aG.map (fun k=>(k,e.get k))) h':=by
  intro e1 l1 x e' l' h hn
  have nf:∀(n:Nat) (e1:LEnv) (l1:LH),evScope body t aG vars e n e1 l1=some (x,e',l')->l1.nf->l'.nf:=by
    intro n
    induction n with
    | zero=>intro e1 l1 h;cases h
    | succ n ih =>
      intro e1 l1 h hn
      simp only[evScope,yo]at h
      cases hr:body (vars.map (fun v=>(v,e1.get v))++aG.map fun v=>(v,e.get v)) l1 with
      | none=>rw[hr]at h;cases h
      | some q =>
        obtain⟨x1,e2,l2⟩:=q
        rw[hr]at h
        have h1:=(hb _ _ _ _ _ hr hn).1
        cases x1 with
        | jump t' =>
          simp only at h
          split at h
          · exact ih _ _ h h1
          · cases h
        | normal=>cases h;exact h1
        | ret=>cases h;exact h1
        | exit id=>cases h;exact h1
        | pan=>cases h;exact h1
  refine⟨nf N e1 l1 h hn,fun Q hq=>⟨fun n ds h'=>∃e1 l1,ds=vars.map e1.get/\h'=LH.w l1/\l1.nf/\evScope body t aG vars e n e1 l1=some (x,e',l'),⟨e1,l1,rfl,rfl,hn,h⟩,?_⟩⟩
  rintro n f h' ⟨e1,l1,hf,rfl,hn1,he⟩
  cases n with
  | zero=>cases he
  | succ n =>
    simp only[evScope,yo]at he
    have hv:vars.map (fun v=>(v,f v))=vars.map (fun v=>(v,e1.get v)):=by
      have:=List.map_inj_left.1 hf
      exact List.map_inj_left.2 fun v hv=>by rw[this v hv]
    rw[hv]
    cases hr:body (vars.map (fun v=>(v,e1.get v))++aG.map fun v=>(v,e.get v)) l1 with
    | none=>rw[hr]at he;cases he
    | some q =>
      obtain⟨x2,e2,l2⟩:=q
      rw[hr]at he
      obtain⟨h1,h2⟩:=hb _ _ _ _ _ hr hn1
      refine h2 _ ?_
      cases x2 with
      | jump t' =>
        simp only at he
        split at he
        · rename_i hc
          exact⟨hc.1,D.bW _ _ hc.2,n,Nat.lt_succ_self n,e2,l2,rfl,rfl,h1,he⟩
        · cases he
      | normal=>cases he;exact hq
      | ret=>cases he;exact hq
      | exit id=>cases he;exact hq
      | pan=>cases he;exact hq
theorem qV {id:Nat}{K:Nat->Prop}:∀{l:List Nat},id∈l->K id->mQ id K l
  | [],h,_=>(List.not_mem_nil h).elim
  | i::r,h,hk=>by
    by_cases hi:id=i
    · exact Or.inl ⟨hi,hi ▸ hk⟩
    · exact Or.inr (qV (by simpa[hi] using h) hk)
theorem th {K:Prop}:∀{l:List Nat},1000000∈l->K->qd K l
  | [],h,_=>(List.not_mem_nil h).elim
  | i::r,h,hk=>by
    by_cases hi:1000000=i
    · exact Or.inl ⟨hi.symm,hk⟩
    · exact Or.inr (th (by simpa[hi] using h) hk)
theorem Mf {b b':Nat->bq}{l:LH}(h:Hv l.length b b'):LH.wb (b) l=LH.wb (b') l:=by
  funext n
  rcases Nat.lt_or_ge n l.length with h1|h1
  · show(l.getD n .free).wb (b n)=(l.getD n .free).wb (b' n)
    rw[h n h1]
  · have e1:LH.wb b l n=.free:=(letI:LB:=⟨b⟩;LH.JK h1)
    have e2:LH.wb b' l n=.free:=(letI:LB:=⟨b'⟩;LH.JK h1)
    rw[e1,e2]
theorem EG {b0 bb:Nat->bq}(all:Hu P C b0) (hb:Hv C.k bb b0){N:Nat}{a b:ACode}{l l1:LH}{ps:List Nat}{ke:LEnv}{f:FuncId}{cs:List D}{d:D}(hk:C.k<=l.length)
    (iha:∀b,Hv C.k b b0->(letI:LB:=⟨b⟩;vF P a (evC P C N a))) (ihb:∀b',Hv C.k b' b0->(letI:LB:=⟨b'⟩;vF P b (evC P C N b))) (hnd:ps.Nodup)
    (hr:C.callR (l.length+1) (yldR (evC P C N a) (evC P C N b) l.length ps ke C.yld) f (.yld l.length::cs) (l++[.lp .ready DS])=some (d,l1)) (hn:l.nf) (hnf:Nb l1=true) :
    l1.nf/\∀B:bq,B.env=LEnv.get ke->B.ps=ps->(∀p∈ps,p<B.nt)->Cj P a B.nt B.assign->Cj P b B.nt B.body ->
      ∀K:D->Heap->Prop,K d (LH.wb (fun m=>if m=l.length then B else bb m) l1)->af P f (.yld l.length::cs) (aj (LH.wb (bb) l) l.length (.lp .ready B)) K:=by
  have go:∀B:bq,B.env=LEnv.get ke->B.ps=ps->(∀p∈ps,p<B.nt)->Cj P a B.nt B.assign->Cj P b B.nt B.body->JA P (yldR (evC P C N a) (evC P C N b) l.length ps ke C.yld) (l.length+1) (fun m=>if m=l.length then B else bb m):=by
    intro B h1 h2 h3 h4 h5 b1 hb1 m ds l2 d2 l3 h hn2
    have hB:b1 l.length=B:=by have:=hb1 l.length (Nat.lt_succ_self _);simpa using this
    have hA:Hv C.k b1 b0:=fun m hm=>by
      have:=hb1 m (by omega)
      rw[this]
      simp only
      rw[if_neg (by omega)]
      exact hb m hm
    letI:LB:=⟨b1⟩
    have ok:=all.ok b1 hA
    unfold yldR at h
    split at h
    · rename_i hm
      subst hm
      split at h
      case isFalse=>cases h
      rename_i hlen
      cases hs:l2.h l.length<;>simp only[hs]at h<;>try (cases h;done)
      rename_i st Bx
      cases st<;>simp only at h<;>try (cases h;done)
      have hh2:(LH.w l2) l.length=.lp .ready B:=by rw[LH.Cq hs];exact congrArg _ hB
      cases ha:evC P C N a (ps.zip ds++ke) l2 with
      | none=>rw[ha]at h;cases h
      | some q =>
      obtain⟨x1,e1,l4⟩:=q
      rw[ha]at h
      cases x1<;>simp only at h<;>try (cases h;done)
      obtain⟨n4,s4⟩:=iha b1 hA _ _ _ _ _ ha hn2
      cases hs4:l4.h l.length<;>simp only[hs4]at h<;>try (cases h;done)
      rename_i st4 Bx4
      cases st4<;>simp only at h<;>try (cases h;done)
      have hlt4:l.length<l4.length:=LH.wK (by rw[hs4];simp)
      have hh4:(LH.w l4) l.length=.lp .ready B:=by rw[LH.Cq hs4];exact congrArg _ hB
      cases hbq:evC P C N b e1 (l4.set l.length (.lp .busy DS)) with
      | none=>rw[hbq]at h;cases h
      | some q =>
      obtain⟨x2,e2,l5⟩:=q
      rw[hbq]at h
      simp only at h
      obtain⟨n5,s5⟩:=ihb b1 hA _ _ _ _ _ hbq (LH.gC n4 (by simp))
      cases hs5:l5.h l.length<;>simp only[hs5]at h<;>try (cases h;done)
      rename_i st5 Bx5
      cases st5<;>simp only at h<;>try (cases h;done)
      have hlt5:l.length<l5.length:=LH.wK (by rw[hs5];simp)
      have hh5:(LH.w l5) l.length=.lp .busy B:=by rw[LH.Cq hs5];exact congrArg _ hB
      have hset:∀(l6:LH) (st:LSt),l.length<l6.length->LH.w (l6.set l.length (.lp st DS))=aj (LH.w l6) l.length (.lp st B):=by
        intro l6 st h6
        rw[LH.Fv _ h6]
        exact congrArg (fun B=>aj (LH.w l6) l.length (.lp st B)) hB
      have fin:∀K:D->Heap->Prop,roundEnd x2 l.length B K (LH.w l5)->kL P l.length ds (LH.w l2) K:=by
        intro K hK
        refine AK hh2 h2 h4 h5 hnd h3 hlen h1 ?_
        refine s4 _ ⟨rfl,hh4,?_⟩
        rw[<- hset l4 .busy hlt4]
        exact s5 _ ⟨hh5,hK⟩
      unfold Be at h
      cases x2<;>simp only at h<;>try (cases h;done)
      · cases h
        exact⟨LH.gC n5 (by simp),fun K hK=>fin K (by simp only[roundEnd];rw[<- hset l5 _ hlt5];exact hK)⟩
      · cases h
        exact⟨LH.gC n5 (by simp),fun K hK=>fin K (by simp only[roundEnd];rw[<- hset l5 _ hlt5];exact hK)⟩
      · cases h
        exact⟨LH.gC n5 (by simp),fun K hK=>fin K (by simp only[roundEnd];rw[<- hset l5 _ hlt5];exact hK)⟩
    · exact ok.yld _ _ _ _ _ h hn2
  have hpush:∀B:bq,LH.wb (fun m=>if m=l.length then B else bb m) (l++[.lp .ready DS])=aj (LH.wb (bb) l) l.length (.lp .ready B):=by
    intro B
    letI:LB:=⟨fun m=>if m=l.length then B else bb m⟩
    have h1:LH.wb (fun m=>if m=l.length then B else bb m) l=LH.wb (bb) l:=Mf fun m hm=>if_neg (by omega)
    show LH.w (l++[.lp .ready DS])=_
    rw[LH.Dp]
    show aj (LH.wb (fun m=>if m=l.length then B else bb m) l) l.length (.lp .ready (if l.length=l.length then B else bb l.length))=_
    rw[h1,if_pos rfl]
  have hag:∀B:bq,Hv C.k (fun m=>if m=l.length then B else bb m) b0:=fun B m hm=>by
    show(if m=l.length then B else bb m)=b0 m
    rw[if_neg (by omega)]
    exact hb m hm
  refine⟨?_,fun B h1 h2 h3 h4 h5 K hK=>?_⟩
  · exact Ku hnf
  · have:=(all.callR _ (hag B) (l.length+1) _ (by omega) (go B h1 h2 h3 h4 h5) f _ _ _ _ hr (LH.tq hn (by simp))).2 K hK
    rwa [hpush B]at this
theorem EH {bb:Nat->bq}{a b:ACode}{g:Arg}{ps aG exs:List Nat}{e ke:LEnv}{l l1:LH}{f:FuncId}{cs:List D}{d:D}{x:Ex}{e':LEnv}{l':LH}(hg:g.get e=.fn f [] cs) (hcal:eY P f=true) (hke:ke=aG.map fun v=>(v,e.get v)) (hn:l.nf)
    (key:l1.nf/\∀B:bq,B.env=LEnv.get ke->B.ps=ps->(∀p∈ps,p<B.nt)->Cj P a B.nt B.assign->Cj P b B.nt B.body ->
      ∀K:D->Heap->Prop,K d (LH.wb (fun m=>if m=l.length then B else bb m) l1)->af P f (.yld l.length::cs) (aj (LH.wb (bb) l) l.length (.lp .ready B)) K)
    (h:rangeOut (l1.h l.length) exs ke (l1.set l.length .dead)=some (x,e',l')):l'.nf/\∀Q:LPost,Q x e' (LH.wb (bb) l')->vcC P (.range g ps aG exs a b) Q e (LH.wb (bb) l):=by
  obtain⟨k1,k2⟩:=key
  letI:LB:=⟨bb⟩
  have hdead:l1.h l.length≠.free->LH.nf (l1.set l.length .dead)/\∀B:bq,aj (LH.wb (fun m=>if m=l.length then B else bb m) l1) l.length .dead=LH.w (l1.set l.length .dead):=by
    intro hne
    refine⟨LH.gC k1 (by simp),fun B=>?_⟩
    rw[LH.qR _ rfl (LH.wK hne)]
    funext m
    by_cases hm:m=l.length
    · subst hm;rw[ag,ag]
    · rw[ab _ _ hm,ab _ _ hm]
      show(l1.getD m .free).wb (if m=l.length then B else bb m)=(l1.getD m .free).wb (bb m)
      rw[if_neg hm]
  have main:∀(st:LSt) (B0:bq),l1.h l.length=.lp st B0->∀(hx:l'=l1.set l.length .dead/\e'=ke) (Q:LPost),Q x e' (LH.w l')->(∀(KN:Heap->Prop) (KE:Nat->Heap->Prop) (KR:Heap->Prop) (B:bq) (h':Heap),h' l.length=.lp st B ->
      (match x with|.normal=>KN (aj h' l.length .dead)|.exit id=>KE id (aj h' l.length .dead)|.ret=>KR (aj h' l.length .dead)|_=>False)->rangeEnd l.length exs KN KE KR h') ->
      (x=.normal\/(∃id,x=.exit id)\/x=.ret)->vcC P (.range g ps aG exs a b) Q e (LH.w l):=by
    rintro st B0 hs ⟨rfl,rfl⟩ Q hq hend hx
    simp only[vcC,hg]
    refine⟨trivial,hcal,fun n B t h1 h2 h3 h4 h5 h6=>?_⟩
    have:=LH.AS hn t
    subst this
    refine k2 B (by rw[h1,hke]) h2 h4 h5 h6 _ ?_
    refine hend _ _ _ B _ ((show LH.wb (fun m=>if m=l.length then B else bb m) l1 l.length=.lp st (if l.length=l.length then B else bb l.length) from(letI:LB:=⟨fun m=>if m=l.length then B else bb m⟩;LH.Cq hs)).trans (by rw[if_pos rfl])) ?_
    have hd:=(hdead (by rw[hs];simp)).2 B
    rw[hke]at hq
    rcases hx with rfl|⟨id,rfl⟩|rfl<;>simp only<;>rw[hd]<;>exact hq
  cases hs:l1.h l.length<;>simp only[hs,rangeOut]at h<;>try (cases h;done)
  rename_i st B0
  have hnf:=(hdead (by rw[hs];simp)).1
  cases st with
  | ready =>
    cases h
    exact⟨hnf,fun Q hq=>main _ _ hs ⟨rfl,rfl⟩ Q hq (fun KN KE KR B h' hh hx=>by simp only[rangeEnd,hh];exact hx) (Or.inl rfl)⟩
  | busy=>cases h
  | over p=>cases h
  | done y =>
    cases y<;>simp only at h<;>try (cases h;done)
    · rename_i id
      split at h
      case isFalse=>cases h
      rename_i hc
      cases h
      refine⟨hnf,fun Q hq=>main _ _ hs ⟨rfl,rfl⟩ Q hq (fun KN KE KR B h' hh hx=>?_) (Or.inr (Or.inl ⟨id,rfl⟩))⟩
      simp only[rangeEnd,hh]
      exact qV (by simpa using hc) hx
    · split at h
      case isFalse=>cases h
      rename_i hc
      cases h
      refine⟨hnf,fun Q hq=>main _ _ hs ⟨rfl,rfl⟩ Q hq (fun KN KE KR B h' hh hx=>?_) (Or.inr (Or.inr rfl))⟩
      simp only[rangeEnd,hh]
      exact th (by simpa using hc) hx
theorem KU {b0:Nat->bq}(all:Hu P C b0) (N:Nat):∀(a:ACode) (b:Nat->bq),Hv C.k b b0->(letI:LB:=⟨b⟩;vF P a (evC P C N a)):=by
  intro a
  induction a with
  | skip=>intro bb hb;letI:LB:=⟨bb⟩;have ok:=all.ok bb hb;intro e l x e' l' h hn;cases h;exact⟨hn,fun Q hq=>hq⟩
  | exit id=>intro bb hb;letI:LB:=⟨bb⟩;have ok:=all.ok bb hb;intro e l x e' l' h hn;cases h;exact⟨hn,fun Q hq=>hq⟩
  | ret=>intro bb hb;letI:LB:=⟨bb⟩;have ok:=all.ok bb hb;intro e l x e' l' h hn;cases h;exact⟨hn,fun Q hq=>hq⟩
  | seq a b iha ihb =>
    intro bb hb;letI:LB:=⟨bb⟩;have ok:=all.ok bb hb;intro e l x e' l' h hn
    simp only[evC]at h
    cases hr:evC P C N a e l with
    | none=>rw[hr]at h;cases h
    | some q =>
      obtain⟨x1,e1,l1⟩:=q
      rw[hr]at h
      obtain⟨h1,h2⟩:=(iha bb hb) _ _ _ _ _ hr hn
      cases x1<;>simp only at h
      · obtain⟨g1,g2⟩:=(ihb bb hb) _ _ _ _ _ h h1
        exact⟨g1,fun Q hq=>h2 _ (g2 Q hq)⟩
      · cases h;exact⟨h1,fun Q hq=>h2 _ hq⟩
      · cases h;exact⟨h1,fun Q hq=>h2 _ hq⟩
      · cases h;exact⟨h1,fun Q hq=>h2 _ hq⟩
      · cases h;exact⟨h1,fun Q hq=>h2 _ hq⟩
  | seqj aG vars a b iha ihb =>
    intro bb hb;letI:LB:=⟨bb⟩;have ok:=all.ok bb hb;intro e l x e' l' h hn
    simp only[evC,yo]at h
    cases hr:evC P C N a e l with
    | none=>rw[hr]at h;cases h
    | some q =>
      obtain⟨x1,e1,l1⟩:=q
      rw[hr]at h
      obtain⟨h1,h2⟩:=(iha bb hb) _ _ _ _ _ hr hn
      cases x1<;>simp only at h
      · split at h
        · rename_i hs
          obtain⟨g1,g2⟩:=(ihb bb hb) _ _ _ _ _ h h1
          refine⟨g1,fun Q hq=>⟨fun ds h'=>ds=vars.map e1.get/\h'=l1.w,?_,h2 _ ⟨D.bW _ _ hs,rfl,rfl⟩⟩⟩
          rintro f h' ⟨hf,rfl⟩
          have hv:vars.map (fun v=>(v,f v))=vars.map (fun v=>(v,e1.get v)):=by
            have:=List.map_inj_left.1 hf
            exact List.map_inj_left.2 fun v hv=>by rw[this v hv]
          rw[hv]
          exact g2 Q hq
        · cases h
      · cases h;exact⟨h1,fun Q hq=>⟨fun _ _=>False,fun _ _ h=>h.elim,h2 _ hq⟩⟩
      · cases h;exact⟨h1,fun Q hq=>⟨fun _ _=>False,fun _ _ h=>h.elim,h2 _ hq⟩⟩
      · cases h;exact⟨h1,fun Q hq=>⟨fun _ _=>False,fun _ _ h=>h.elim,h2 _ hq⟩⟩
      · cases h;exact⟨h1,fun Q hq=>⟨fun _ _=>False,fun _ _ h=>h.elim,h2 _ hq⟩⟩
  | cond c a b iha ihb =>
    intro bb hb;letI:LB:=⟨bb⟩;have ok:=all.ok bb hb;intro e l x e' l' h hn
    simp only[evC]at h
    cases hc:c.get e<;>simp only[hc]at h<;>try (cases h;done)
    rename_i t
    cases t
    · obtain⟨g1,g2⟩:=(ihb bb hb) _ _ _ _ _ h hn
      exact⟨g1,fun Q hq=>by simp only[vcC,hc];exact⟨fun h=>(by cases h),fun _=>g2 Q hq⟩⟩
    · obtain⟨g1,g2⟩:=(iha bb hb) _ _ _ _ _ h hn
      exact⟨g1,fun Q hq=>by simp only[vcC,hc];exact⟨fun _=>g2 Q hq,fun h=>(by cases h)⟩⟩
  | block id a iha =>
    intro bb hb;letI:LB:=⟨bb⟩;have ok:=all.ok bb hb;intro e l x e' l' h hn
    simp only[evC]at h
    cases hr:evC P C N a e l with
    | none=>rw[hr]at h;cases h
    | some q =>
      obtain⟨x1,e1,l1⟩:=q
      rw[hr]at h
      obtain⟨h1,h2⟩:=(iha bb hb) _ _ _ _ _ hr hn
      cases x1<;>simp only at h
      · cases h;exact⟨h1,fun Q hq=>h2 _ hq⟩
      · split at h
        · rename_i hid
          cases h
          exact⟨h1,fun Q hq=>h2 _ (by simp only[LPost.block,if_pos hid];exact hq)⟩
        · rename_i hid
          cases h
          exact⟨h1,fun Q hq=>h2 _ (by simp only[LPost.block,if_neg hid];exact hq)⟩
      · cases h;exact⟨h1,fun Q hq=>h2 _ hq⟩
      · cases h;exact⟨h1,fun Q hq=>h2 _ hq⟩
      · cases h;exact⟨h1,fun Q hq=>h2 _ hq⟩
  | loop aG vars a iha =>
    intro bb hb;letI:LB:=⟨bb⟩;have ok:=all.ok bb hb;intro e l x e' l' h hn
    exact⟨E4 (iha bb hb) _ _ _ _ _ _ h hn,E3 (iha bb hb) h hn⟩
  | reg os =>
    intro bb hb;letI:LB:=⟨bb⟩;have ok:=all.ok bb hb;intro e l x e' l' h hn
    simp only[evC]at h
    cases hr:evOps P C os e l with
    | none=>rw[hr]at h;cases h
    | some q =>
      obtain⟨e1,l1⟩:=q
      rw[hr]at h
      cases h
      obtain⟨g1,g2⟩:=pF ok _ _ _ _ _ hr hn
      exact⟨g1,fun Q hq=>g2 _ hq⟩
  | dreg vals tail rev =>
    intro bb hb;letI:LB:=⟨bb⟩;have ok:=all.ok bb hb;intro e l x e' l' h hn
    simp only[evC]at h
    cases hv:evVals P C vals e l with
    | none=>rw[hv]at h;cases h
    | some e1 =>
      rw[hv]at h
      simp only at h
      cases hr:evTail P C rev tail e1 l with
      | none=>rw[hr]at h;cases h
      | some q =>
        obtain⟨e2,l2⟩:=q
        rw[hr]at h
        cases h
        obtain⟨g1,g2⟩:=zH ok _ _ _ _ _ hr hn
        exact⟨g1,fun Q hq=>qj ok _ _ _ _ hv hn _ (g2 _ hq)⟩
  | label t=>intro bb hb;letI:LB:=⟨bb⟩;intro e l x e' l' h hn;cases h;exact⟨hn,fun Q hq=>hq⟩
  | goto t=>intro bb hb;letI:LB:=⟨bb⟩;intro e l x e' l' h hn;cases h;exact⟨hn,fun Q hq=>hq⟩
  | scope t aG vars a b iha ihb =>
    intro bb hb;letI:LB:=⟨bb⟩
    intro e l x e' l' h hn
    simp only[evC]at h
    cases hr:evC P C N a e l with
    | none=>rw[hr]at h;cases h
    | some q =>
      obtain⟨x1,e1,l1⟩:=q
      rw[hr]at h
      obtain⟨h1,h2⟩:=(iha bb hb) _ _ _ _ _ hr hn
      cases x1 with
      | jump t' =>
        simp only at h
        split at h
        · rename_i hc
          obtain⟨g1,g2⟩:=CQ (ihb bb hb) N e1 l1 x e' l' h h1
          refine⟨g1,fun Q hq=>?_⟩
          obtain⟨I,i1,i2⟩:=g2 Q hq
          refine⟨I,h2 _ ⟨hc.1,D.bW _ _ hc.2,N,i1⟩,i2⟩
        · cases h
      | normal=>cases h;exact⟨h1,fun Q hq=>⟨fun _ _ _=>False,h2 _ hq,fun _ _ _ h=>h.elim⟩⟩
      | ret=>cases h;exact⟨h1,fun Q hq=>⟨fun _ _ _=>False,h2 _ hq,fun _ _ _ h=>h.elim⟩⟩
      | exit id=>cases h;exact⟨h1,fun Q hq=>⟨fun _ _ _=>False,h2 _ hq,fun _ _ _ h=>h.elim⟩⟩
      | pan=>cases h;exact⟨h1,fun Q hq=>⟨fun _ _ _=>False,h2 _ hq,fun _ _ _ h=>h.elim⟩⟩
  | range g ps aG exs a b iha ihb =>
    intro bb hb;letI:LB:=⟨bb⟩
    intro e l x e' l' h hn
    simp only[evC,yo]at h
    cases hg:g.get e<;>simp only[hg]at h<;>try (cases h;done)
    rename_i f fs cs
    cases fs with
    | cons y ys=>cases h
    | nil =>
    simp only at h
    split at h
    case isFalse=>cases h
    rename_i hc
    simp only[Bool.and_eq_true,decide_eq_true_eq]at hc
    obtain⟨⟨hcal,hk⟩,hnd⟩:=hc
    obtain⟨ke,hke⟩:∃ke:LEnv,ke=aG.map fun v=>(v,e.get v):=⟨_,rfl⟩
    rw[<- hke]at h
    cases hr:C.callR (l.length+1) (yldR (evC P C N a) (evC P C N b) l.length ps ke C.yld) f (.yld l.length::cs) (l++[.lp .ready DS]) with
    | none=>rw[hr]at h;cases h
    | some q =>
      obtain⟨d,l1⟩:=q
      rw[hr]at h
      simp only at h
      split at h
      case isFalse=>cases h
      rename_i hnf
      have key:=EG all hb hk iha ihb hnd hr hn hnf
      exact EH hg hcal hke hn key h
  | regx l=>intro bb hb;letI:LB:=⟨bb⟩;intro e l x e' l' h;cases h
  | panr=>intro bb hb;letI:LB:=⟨bb⟩;intro e l x e' l' h;cases h
  | frz a iha =>
    intro bb hb;letI:LB:=⟨bb⟩;have ok:=all.ok bb hb;intro e l x e' l' h hn
    simp only[evC]at h
    cases hr:evC P C N a e l with
    | some q =>
      rw[hr]at h
      cases h
      obtain⟨g1,g2⟩:=(iha bb hb) _ _ _ _ _ hr hn
      exact⟨g1,fun Q hq=>⟨[],g2 Q hq⟩⟩
    | none =>
      rw[hr]at h
      obtain⟨f1,f2⟩:=LH.qh (List.range l.length) hn
      obtain⟨g1,g2⟩:=(iha bb hb) _ _ _ _ _ h f2
      exact⟨g1,fun Q hq=>⟨_,by rw[<- f1];exact g2 Q hq⟩⟩
def Ea (r:RV) (e:LEnv) (l:LH):Option D :=
  match r with
  | .t i=>some (e.get i)
  | .cell i size agg=>evLd (e.get i) size agg l
def evRess:List RV->LEnv->LH->Option (List D)
  | [],_,_=>some []
  | r::s,e,l=>match Ea r e l with
    | some d=>match evRess s e l with
      | some ds=>some (d::ds)
      | none=>none
    | none=>none
def D9 (rs:List RV) (e:LEnv) (l:LH):Option D :=
  match rs with
  | [r]=>Ea r e l
  | rs=>match evRess rs e l with
    | some ds=>some (.tup ds)
    | none=>none
theorem BJ {r:RV}{e:LEnv}{l:LH}{d:D}(h:Ea r e l=some d){K:D->Prop}(hk:K d):Dt P r e l.w K:=by
  cases r with
  | t i=>cases h;exact hk
  | cell i n g=>exact Ec (P:=P) (K:=fun d _=>K d) h rfl hk
theorem zI:∀(rs:List RV){e:LEnv}{l:LH}{ds:List D},evRess rs e l=some ds->∀{K:List D->Prop},K ds->vcRess P rs e l.w K
  | [],e,l,ds,h,K,hk=>by cases h;exact hk
  | r::s,e,l,ds,h,K,hk=>by
    simp only[evRess]at h
    cases hr:Ea r e l with
    | none=>rw[hr]at h;cases h
    | some d =>
      rw[hr]at h
      simp only at h
      cases hs:evRess s e l with
      | none=>rw[hs]at h;cases h
      | some ds' =>
        rw[hs]at h
        cases h
        exact BJ hr (zI s hs hk)
theorem GR {rs:List RV}{e:LEnv}{l:LH}{d:D}(h:D9 rs e l=some d){K:D->Heap->Prop}(hk:K d l.w):bN P rs K e l.w:=by
  have many:(match evRess rs e l with|some ds=>some (D.tup ds)|none=>none)=some d->vcRess P rs e l.w fun ds=>K (.tup ds) l.w:=by
    intro h
    cases hs:evRess rs e l with
    | none=>rw[hs]at h;cases h
    | some ds =>
      rw[hs]at h
      cases h
      exact zI rs hs hk
  match rs,h with
  | [r],h=>exact BJ (K:=fun d=>K d l.w) h hk
  | [],h=>exact many h
  | r::s::q,h=>exact many h
end Go.Am
namespace Go.Am
open Go
variable [bw]
variable {P:Program}{l:LH}{KH:D->Heap->Prop}{K:D->Prop}
theorem LH.Md {l:LH}{n:Nat}(hn:n<l.length):l.h n=l[n]:=by simp[LH.h,hn]
theorem LH.Me {l:LH}{n:Nat}(hn:l.length<=n):l.h n=.free:=by simp[LH.h,hn]
theorem LH.top {l:LH}(h:l.nf){n:Nat}(t:lq l.h n):n=l.length:=by
  rcases Nat.lt_trichotomy n l.length with h1|h1|h1
  · have:=t.free
    rw[LH.Md h1]at this
    exact absurd this (h _ (List.getElem_mem h1))
  · exact h1
  · exfalso
    obtain⟨k,rfl⟩:∃k,n=k+1:=⟨n-1,by omega⟩
    exact t.2 k rfl (LH.Me (by omega))
theorem LH.KC (l:LH) (s:Slot):LH.h (l++[s])=aj l.h l.length s:=by
  funext n
  unfold LH.h aj
  by_cases h:n=l.length
  · subst h;simp
  · rw[if_neg h]
    rcases Nat.lt_or_ge n l.length with h1|h1
    · simp[List.getD,List.getElem?_append_left h1]
    · have:(l++[s]).length<=n:=by simp;omega
      simp[List.getD,List.getElem?_eq_none this,List.getElem?_eq_none h1]
theorem LH.Mc {l:LH}{n:Nat}(s:Slot) (hn:n<l.length):LH.h (l.set n s)=aj l.h n s:=by
  funext m
  unfold LH.h aj
  by_cases h:m=n
  · subst h;simp[List.getD,hn]
  · have:n≠m:=fun e=>h e.symm
    simp[List.getD,this,h]
theorem zr:fh=LH.h []:=by funext n;simp[fh,LH.h]
theorem HH (hn:l.nf):lq l.h l.length:=by
  refine⟨fun m hm=>LH.Me hm,fun k hk=>?_⟩
  have:k<l.length:=by omega
  rw[LH.Md this]
  exact hn _ (List.getElem_mem this)
theorem I4 (hn:l.nf){Q:Nat->Prop}:(∀n,lq l.h n->Q n)=Q l.length:=by
  apply propext
  constructor
  · exact fun h=>h _ (HH hn)
  · intro h n t
    rw[LH.top hn t];exact h
theorem Kt:LH.nf []:=fun _ h=>by cases h
theorem Ie {s:Slot}{l:LH}:LH.nf (s::l)=(s≠.free/\LH.nf l):=by
  apply propext
  constructor
  · exact fun h=>⟨h s (by simp),fun x hx=>h x (by simp[hx])⟩
  · rintro⟨h1,h2⟩ x hx
    rcases List.mem_cons.1 hx with rfl|hx
    · exact h1
    · exact h2 x hx
theorem DT {d:D}(hn:l.nf):aa P (.alloc d) l.h KH=KH (.ptr l.length 0 0) (LH.h (l++[.box d])):=by
  simp only[aa,vcOp]
  rw[I4 hn,LH.KC]
theorem h_ldp {n i j s:Nat}{g:Bool}:aa P (.ld (.c (.ptr n i j)) s g) l.h KH=(match l.h n with
      | .box v=>i=0/\vpart v.cells j s g (KH · l.h)
      | .arr _ els=>i<els.length/\∀d,els[i]?=some d->vpart d.cells j s g (KH · l.h)
      | .frz _ els=>i<els.length/\∀d,els[i]?=some d->vpart d.cells j s g (KH · l.h)
      | _=>False):=rfl
theorem Jr {n i j s:Nat}{v:D}:aa P (.st (.c (.ptr n i j)) (.c v) s) l.h KH=(v.cells.length=s/\aH v/\match l.h n with
      | .box d=>i=0/\j+s<=d.cells.length/\KH .undef (aj l.h n (.box (setCells d j v.cells)))
      | .arr esz els=>i<els.length/\j+s<=esz/\∀d,els[i]?=some d->KH .undef (aj l.h n (.arr esz (els.set i (setCells d j v.cells))))
      | _=>False):=rfl
theorem DQ {s:Slot}{l:LH}:LH.h (s::l) 0=s:=rfl
theorem DR {s:Slot}{l:LH}{n:Nat}:LH.h (s::l) (n+1)=LH.h l n:=rfl
theorem FF {n:Nat}{s:Slot}(hn:n<l.length):aj l.h n s=LH.h (l.set n s):=(LH.Mc s hn).symm
theorem nR {z:List D}{ps:List (Nat×Nat×Arg)}{h:Heap}:aa P (.bld z ps) h KH=(gN z.length (ps.map fun p=>(p.1,p.2.1,p.2.2.get []))/\KH (.agg (fillD z (ps.map fun p=>(p.1,p.2.1,(p.2.2.get []).cells)))) h):=rfl
theorem D1 {d:D}{h:Heap}:aa P (.box (.c d)) h KH=(aH d/\∀n,lq h n->KH (.ptr n 0 0) (aj h n (.box d))):=rfl
theorem gM {d:D}{h:Heap}:aa P (.alloc d) h KH=∀n,lq h n->KH (.ptr n 0 0) (aj h n (.box d)):=rfl
theorem Nt {esz bytes:Nat}{z:D}{k k':IntKind}{a b:Int}{h:Heap}:aa P (.mk esz bytes z (.c (.int k a)) (.c (.int k' b))) h KH =
    (0<=a/\a<=b/\b*bytes<=140737488355328/\b<=9223372036854775807/\∀n,lq h n->KH (.ms n 0 a.toNat) (aj h n (.arr esz (List.replicate a.toNat z)))):=rfl
theorem pB {n i j o:Nat}{h:Heap}:aa P (.fadd (.c (.ptr n i j)) o) h KH=((h n).used=true/\KH (.ptr n i (j+o)) h):=rfl
theorem u6 {n i j s:Nat}{g:Bool}{h:Heap}:aa P (.ld (.c (.ptr n i j)) s g) h KH=(match h n with
      | .box v=>i=0/\vpart v.cells j s g (KH · h)
      | .arr _ els=>i<els.length/\∀d,els[i]?=some d->vpart d.cells j s g (KH · h)
      | .frz _ els=>i<els.length/\∀d,els[i]?=some d->vpart d.cells j s g (KH · h)
      | _=>False):=rfl
theorem jS {n i j s:Nat}{v:D}{h:Heap}:aa P (.st (.c (.ptr n i j)) (.c v) s) h KH=(v.cells.length=s/\aH v/\match h n with
      | .box d=>i=0/\j+s<=d.cells.length/\KH .undef (aj h n (.box (setCells d j v.cells)))
      | .arr esz els=>i<els.length/\j+s<=esz/\∀d,els[i]?=some d->KH .undef (aj h n (.arr esz (els.set i (setCells d j v.cells))))
      | _=>False):=rfl
theorem lq.ne {h:Heap}{n m:Nat}(t:lq h n) (hm:h m≠.free):m≠n:=by rintro rfl;exact hm t.free
theorem Ext.refl {h:Heap}:Ext h h:=fun _ _=>rfl
theorem Ext.trans {a b c:Heap}(h:Ext a b) (k:Ext b c):Ext a c:=fun n hn=>by rw[k n (by rw[h n hn];exact hn),h n hn]
theorem Ext.new {h:Heap}{n:Nat}(t:lq h n) (s:Slot):Ext h (aj h n s):=k0 t.free s
theorem fS {f:FuncId}{ds:List D}{h:Heap}{KH:D->Heap->Prop}{R:D->Prop}(hv:aO P f ds R) (hds:∀d∈ds,d.vd=true/\aH d) (hk:∀r,R r->KH r h):af P f ds h KH:=by
  have uP:∀(x:D),x.vone=true->x.fzc h=x/\x.iT=[]/\kE h x:=by
    intro x hx
    cases x<;>simp_all [D.vone,D.fzc,D.iT,kE]
  have hfz:∀d∈ds,d.fz h=d/\d.nm=[]/\kF h d:=by
    intro d hd
    obtain⟨h1,h2⟩:=hds d hd
    rcases xB h1 with hv|⟨cs,rfl,hcs⟩
    · have:=uP d hv
      cases d<;>simp_all [D.fz,D.nm,D.vone,kF,D.cells]
    · refine⟨?_,?_,fun x hx=>(uP x (hcs x hx)).2.2⟩
      · simp only[D.fz]
        congr 1
        rw[List.map_congr_left (fun x hx=>(uP x (hcs x hx)).1)]
        simp
      · simp only[D.nm]
        rw[List.flatMap_eq_nil_iff]
        exact fun x hx=>(uP x (hcs x hx)).2.1
  have e1:ds.map (D.fz h)=ds:=by
    rw[List.map_congr_left (fun d hd=>(hfz d hd).1)]
    simp
  have e2:ds.flatMap D.nm=[]:=by
    rw[List.flatMap_eq_nil_iff]
    exact fun d hd=>(hfz d hd).2.1
  refine af.mono ?_ (dB (K:=R) (by rw[e1];exact hv) (fun d hd=>⟨(hds d hd).2,(hfz d hd).2.2,by rw[(hfz d hd).1];exact(hds d hd).1⟩))
  rintro r h' ⟨k1,k2,_⟩
  rw[k2 (Or.inr e2)]
  exact hk r k1
theorem vQ {d:D}(h:d.one=true):aH d=True:=by
  apply propext;refine⟨fun _=>trivial,fun _ x hx=>?_⟩
  cases d<;>simp_all [D.cells,D.one]
theorem Gb {cs:List D}:aH (.agg cs)=∀x∈cs,x.one=true:=rfl
theorem aF {A B:Prop}:vcond (.bool true) A B=A:=by simp[vcond]
theorem aC {A B:Prop}:vcond (.bool false) A B=B:=by simp[vcond]
theorem xS {d:D}{h:Heap}{K:D->Prop}(hd:d.vd=true) (ho:aH d) (hk:K d):hQ d/\pT h d/\(d.fzt h).Cl=true/\K (d.fzt h):=by
  have uP:∀(x:D),x.vone=true->x.fzc h=x/\kE h x:=by
    intro x hx
    cases x<;>simp_all [D.vone,D.fzc,kE]
  have e:d.fzt h=d/\pT h d/\hQ d/\d.Cl=true:=by
    rcases xB hd with hv|⟨cs,rfl,hcs⟩
    · have:=uP d hv
      have hc:d.cells=[d]:=by cases d<;>simp_all [D.vone,D.cells]
      refine⟨?_,?_,?_,?_⟩
      · cases d<;>simp_all [D.fzt,D.fz,D.vone]
      · cases d<;>simp_all [pT,kF,D.vone]
      · cases d<;>simp_all [hQ,D.vone]
      · cases d<;>simp_all [D.Cl,D.vone]
    · refine⟨?_,fun x hx=>(uP x (hcs x hx)).2,ho,hd⟩
      simp only[D.fzt,D.fz]
      congr 1
      rw[List.map_congr_left (fun x hx=>(uP x (hcs x hx)).1)]
      simp
  exact⟨e.2.2.1,e.2.1,by rw[e.1];exact e.2.2.2,by rw[e.1];exact hk⟩
def lQ (K:D->Prop) (r:D) (h:Heap):Prop:=hQ r/\pT h r/\(r.fzt h).Cl=true/\K (r.fzt h)
theorem sO {k:IntKind}{n:Int}{h:Heap}{K:D->Prop}:lQ K (.int k n) h=K (.int k n):=by
  apply propext;exact⟨fun h=>h.2.2.2,fun hk=>xS rfl (fun x hx=>by simp[D.cells]at hx;subst hx;rfl) hk⟩
theorem ir {b:Bool}{h:Heap}{K:D->Prop}:lQ K (.bool b) h=K (.bool b):=by
  apply propext;exact⟨fun h=>h.2.2.2,fun hk=>xS rfl (fun x hx=>by simp[D.cells]at hx;subst hx;rfl) hk⟩
theorem Dr {xs:List D}{h:Heap}{K:D->Prop}:lQ K (.sl xs) h=K (.sl xs):=by
  apply propext;exact⟨fun h=>h.2.2.2,fun hk=>xS rfl (fun x hx=>by simp[D.cells]at hx;subst hx;rfl) hk⟩
theorem AT {h:Heap}{K:D->Prop}:lQ K .nil h=K .nil:=by
  apply propext;exact⟨fun h=>h.2.2.2,fun hk=>xS rfl (fun x hx=>by simp[D.cells]at hx;subst hx;rfl) hk⟩
theorem HC {d:D}{h:Heap}{K:D->Prop}(hd:d.vd=true/\aH d) (hk:K d):lQ K d h:=xS hd.1 hd.2 hk
theorem zU {n esz:Nat}{els:List D}{h:Heap}{K:D->Prop}(hn:(h n).row=some (esz,els)) (hv:∀x∈els,∀y∈x.cells,y.vone=true) (hk:K (.sl els)):lQ K (.ms n 0 els.length) h:=by
  refine⟨fun x hx=>by simp[D.cells]at hx;subst hx;rfl,fun x hx=>?_,?_,?_⟩
  · simp only[D.cells,List.mem_singleton]at hx
    subst hx
    exact⟨esz,els,hn,by simp,fun x hx y hy=>hv x (by simpa using hx) y hy⟩
  · simp[D.fzt,D.fz,D.fzc,hn,D.Cl,D.vd,D.vone]
  · simpa[D.fzt,D.fz,D.fzc,hn] using hk
theorem db {fz:Bool}{f:FuncId}{loops:Nat->Option (List Nat×List Nat)}{dr:Nat->Array Oper->Option ACode}{F:av}(hc:cFn P fz f loops dr=some F) (hdr:qa P F.nt dr)
    {ds:List D}{K:D->Prop}(hlen:Nat.ble ds.length F.nt=true) {V:(D->Heap->Prop)->Prop}(hV:∀K,V K=vcC P F.code (fun x e h'=>match x with|.exit _=>False|.pan=>False|.jump _=>False|_=>bN P F.res K e h') (params ds 0) fh)
    (hv:V (lQ K)):aO P f ds K :=
  FC hc hdr ⟨Nat.le_of_ble_eq_true hlen,Eq.mp (hV _) hv⟩
theorem cA {fz:Bool}{f:FuncId}{loops:Nat->Option (List Nat×List Nat)}{dr:Nat->Array Oper->Option ACode}{F:av}(hc:cFn P fz f loops dr=some F) (hdr:qa P F.nt dr)
    {ds:List D}{h:Heap}{K:D->Heap->Prop}(hlen:Nat.ble ds.length F.nt=true) {V:(D->Heap->Prop)->Prop}(hV:∀K,V K=vcC P F.code (fun x e h'=>match x with|.exit _=>False|.pan=>False|.jump _=>False|_=>bN P F.res K e h') (params ds 0) h)
    (hv:V K):af P f ds h K :=
  yF hc hdr ⟨Nat.le_of_ble_eq_true hlen,Eq.mp (hV _) hv⟩
theorem iD {cs:List D}:(D.agg cs).cells=cs:=rfl
theorem zM {k:IntKind}{n:Int}:(D.int k n).cells=[.int k n]:=rfl
theorem C3 {b:Bool}:(D.bool b).cells=[.bool b]:=rfl
theorem E7 {s:ByteArray}:(D.str s).cells=[.str s]:=rfl
theorem G2 {xs:List D}:(D.sl xs).cells=[.sl xs]:=rfl
theorem E9:D.nil.cells=[.nil]:=rfl
theorem BQ:D.nilfn.cells=[.nilfn]:=rfl
theorem AE:D.nilmap.cells=[.nilmap]:=rfl
theorem C0:D.nilp.cells=[.nilp]:=rfl
theorem G4 {n:Nat}:(D.mp n).cells=[.mp n]:=rfl
theorem Cx:D.nilmap.one=true:=rfl
theorem Gh:D.nilp.one=true:=rfl
theorem Kq {n:Nat}:(D.mp n).one=true:=rfl
theorem G3 {n o l:Nat}:(D.ms n o l).cells=[.ms n o l]:=rfl
theorem E8 {n o l:Nat}:(D.ptr n o l).cells=[.ptr n o l]:=rfl
theorem G6 {f:FuncId}{a b:List D}:(D.fn f a b).cells=[.fn f a b]:=rfl
theorem al {a:List D}:aX a a=True:=by simp[aX]
theorem H2 {k:IntKind}{n:Int}:aH (.int k n)=True:=vQ rfl
theorem Gi {b:Bool}:aH (.bool b)=True:=vQ rfl
theorem HY {s:ByteArray}:aH (.str s)=True:=vQ rfl
theorem Ko {xs:List D}:aH (.sl xs)=True:=vQ rfl
theorem H0:aH .nil=True:=vQ rfl
theorem Kp {n o l:Nat}:aH (.ms n o l)=True:=vQ rfl
theorem HZ {n o l:Nat}:aH (.ptr n o l)=True:=vQ rfl
theorem Kr {f:FuncId}{a b:List D}:aH (.fn f a b)=True:=vQ rfl
theorem Mh {e:LEnv}{d:D}:Arg.get e (.c d)=d:=rfl
theorem FR {cs new:List D}{j:Nat}:setCells (.agg cs) j new=.agg (cs.take j++new++cs.drop (j+new.length)):=rfl
theorem FQ {k:IntKind}{n:Int}{j:Nat}{x:D}:setCells (.int k n) j [x]=x:=rfl
theorem ED {b:Bool}{j:Nat}{x:D}:setCells (.bool b) j [x]=x:=rfl
theorem HK {xs:List D}{j:Nat}{x:D}:setCells (.sl xs) j [x]=x:=rfl
theorem FP {j:Nat}{x:D}:setCells .nil j [x]=x:=rfl
attribute [simp] FR FQ ED HK FP
theorem AW {k:IntKind}{n:Int}:(D.int k n).vone=true:=rfl
theorem Es {b:Bool}:(D.bool b).vone=true:=rfl
theorem Fy {s:ByteArray}:(D.str s).vone=true:=rfl
theorem Ds {xs:List D}:(D.sl xs).vone=true:=rfl
theorem Fz:D.nil.vone=true:=rfl
theorem Gm {k:IntKind}{n:Int}:(D.int k n).one=true:=rfl
theorem EK {b:Bool}:(D.bool b).one=true:=rfl
theorem Gj {s:ByteArray}:(D.str s).one=true:=rfl
theorem H3 {xs:List D}:(D.sl xs).one=true:=rfl
theorem Gl:D.nil.one=true:=rfl
theorem H4 {n o l:Nat}:(D.ms n o l).one=true:=rfl
theorem Gk {n o l:Nat}:(D.ptr n o l).one=true:=rfl
theorem H5 {f:FuncId}{a b:List D}:(D.fn f a b).one=true:=rfl
theorem JQ {cs:List D}:(D.agg cs).vd=cs.all D.vone:=rfl
theorem JP {k:IntKind}{n:Int}:(D.int k n).vd=true:=rfl
theorem HD {b:Bool}:(D.bool b).vd=true:=rfl
theorem JN {s:ByteArray}:(D.str s).vd=true:=rfl
theorem Ls {xs:List D}:(D.sl xs).vd=true:=rfl
theorem JO:D.nil.vd=true:=rfl
theorem EV {cs:List D}:(D.agg cs).isAgg=true:=rfl
theorem EU {k:IntKind}{n:Int}:(D.int k n).isAgg=false:=rfl
theorem CF {b:Bool}:(D.bool b).isAgg=false:=rfl
theorem ET {s:ByteArray}:(D.str s).isAgg=false:=rfl
attribute [simp] AW Es Fy Ds Fz Gm EK Gj H3 Gl H4 Gk H5 JQ JP HD JN Ls JO EV EU CF ET
attribute [simp] Kt Ie Slot.live Slot.used iD zM C3 E7 G2 E9 BQ AE C0 G4 Cx Gh Kq G3 E8 G6 al H2 Gi HY Ko H0 Kp HZ Kr Gb ag Mh
end Go.Am
namespace Go.Am
open Go
variable [bw]
variable {P:Program}{KH:D->Heap->Prop}{h:Heap}
def Own (esz:Nat) (h:Heap) (v:D) (els:List D):Prop:=(v=.nil/\els=[])\/∃n,v=.ms n 0 els.length/\h n=.arr esz els
theorem uP {x:D}(hx:x.vone=true):x.fzc h=x/\x.iT=[]/\kE h x:=by
  cases x<;>simp_all [D.vone,D.fzc,D.iT,kE]
theorem xA {d:D}(h1:d.vd=true):d.fz h=d/\d.nm=[]/\kF h d:=by
  rcases xB h1 with hv|⟨cs,rfl,hcs⟩
  · have:=uP (h:=h) hv
    cases d<;>simp_all [D.fz,D.nm,D.vone,kF,D.cells]
  · refine⟨?_,?_,fun x hx=>(uP (hcs x hx)).2.2⟩
    · simp only[D.fz]
      congr 1
      rw[List.map_congr_left (fun x hx=>(uP (h:=h) (hcs x hx)).1)]
      simp
    · simp only[D.nm]
      rw[List.flatMap_eq_nil_iff]
      exact fun x hx=>(uP (h:=h) (hcs x hx)).2.1
theorem KG {esz:Nat}{z d:D}(h1:d.vd=true) (h2:aH d) (h3:d.cells.length=esz) (hk:∀n,lq h n->KH (.ms n 0 1) (aj h n (.arr esz [d]))):aa P (.bldS true esz 1 z [(0,.c d)]) h KH:=by
  obtain⟨a1,a2,a3⟩:=xA (h:=h) h1
  refine⟨fun p hp=>by simp[Arg.get]at hp;subst hp;exact⟨Nat.one_pos,h3,h2⟩,fun _ p hp=>by simp[Arg.get]at hp;subst hp;exact a3,fun n t=>?_⟩
  have:=hk n t
  simpa[Arg.get,a1,a2,Heap.freezeAll,setEls] using this
theorem KI {esz:Nat}{z:D}{fz:Bool}(hk:∀n,lq h n->KH (.ms n 0 0) (aj h n (.arr esz []))):aa P (.bldS fz esz 0 z []) h KH:=by
  refine⟨fun p hp=>by simp at hp,fun _ p hp=>by simp at hp,fun n t=>?_⟩
  have:=hk n t
  cases fz<;>simpa[Heap.freezeAll,setEls] using this
end Go.Am
namespace Go.Am
open Go
variable [bw]
variable {P:Program}{KH:D->Heap->Prop}{K:D->Prop}{h:Heap}
theorem qH {x:Arg}{s:Nat}{g:Bool}:ae P (.ld x s g) h K=aa P (.ld x s g) h fun d _=>K d:=rfl
theorem GY {x:Arg}{a b c:Option Arg}{n:Nat}:ae P (.kN x a b c n) h K=aa P (.kN x a b c n) h fun d _=>K d:=rfl
theorem KX {x:Arg}{a b:Option Arg}:ae P (.sslc x a b) h K=aa P (.sslc x a b) h fun d _=>K d:=rfl
theorem NB {x y:Arg}:ae P (.mn x y) h K=aa P (.mn x y) h fun d _=>K d:=rfl
theorem NA {x y:Arg}:ae P (.mx x y) h K=aa P (.mx x y) h fun d _=>K d:=rfl
theorem ku {x y:Arg}{n:Nat}:ae P (.iadd x y n) h K=aa P (.iadd x y n) h fun d _=>K d:=rfl
theorem II {x y:Arg}{l n:Nat}:ae P (.iadda x y l n) h K=aa P (.iadda x y l n) h fun d _=>K d:=rfl
theorem KZ {x y:Arg}{len size:Nat}{agg:Bool}:ae P (.sidx x y len size agg) h K=aa P (.sidx x y len size agg) h fun d _=>K d:=rfl
theorem CV {k:IntKind}{x:Arg}:ae P (.conv k x) h K=aa P (.conv k x) h fun d _=>K d:=rfl
theorem AD {c x y:Arg}:ae P (.pick c x y) h K=aa P (.pick c x y) h fun d _=>K d:=rfl
theorem Mw {x:Arg}{i:Nat}:ae P (.ext x i) h K=aa P (.ext x i) h fun d _=>K d:=rfl
theorem Mv {x:Arg}{o s:Nat}{g:Bool}:ae P (.fld x o s g) h K=aa P (.fld x o s g) h fun d _=>K d:=rfl
theorem Eh {z:List D}{ps:List (Nat×Nat×Arg)}:ae P (.bld z ps) h K=aa P (.bld z ps) h fun d _=>K d:=rfl
theorem Mx {n g:Bool}{ks:List CK}{x y:Arg}:ae P (.eqv n g ks x y) h K=aa P (.eqv n g ks x y) h fun d _=>K d:=rfl
theorem KY {x:Arg}:ae P (.slen x) h K=aa P (.slen x) h fun d _=>K d:=rfl
theorem Mu {f:FuncId}{a b:List Arg}:ae P (.mkf f a b) h K=aa P (.mkf f a b) h fun d _=>K d:=rfl
theorem IJ {d:D}{j o:Nat}:ae P (.fadd (.c (.vp d j)) o) h K=K (.vp d (j+o)):=rfl
theorem xx {n i j o:Nat}:ae P (.fadd (.c (.ptr n i j)) o) h K=((h n).used=true/\K (.ptr n i (j+o))):=rfl
theorem Ir {xs:List D}{a b c:Option Arg}{n:Nat}:aa P (.kN (.c (.sl xs)) a b c n) h KH=vopt [] a 0 fun l=>vopt [] b xs.length fun r=>vopt [] c xs.length fun m=>0<=l/\l<=r/\r<=m/\m<=xs.length/\(∀d∈xs,d.cells.length=n) /\
        KH (.sl ((xs.drop l.toNat).take (r-l).toNat)) h:=rfl
theorem Ar {m off len:Nat}{a b c:Option Arg}{n:Nat}:aa P (.kN (.c (.ms m off len)) a b c n) h KH=vopt [] a 0 fun l=>vopt [] b len fun r=>vopt [] c len fun q=>0<=l/\l<=r/\r<=q/\q<=len/\(∃els,(h m).row=some (n,els)) /\
        KH (.ms m (off+l.toNat) (r-l).toNat) h:=rfl
theorem uE {n:Nat}{Q:Int->Prop}:vopt [] none n Q=Q n:=rfl
theorem uD {k:IntKind}{i:Int}{n:Nat}{Q:Int->Prop}:vopt [] (some (.c (.int k i))) n Q=Q i:=rfl
theorem Nk {k:IntKind}{a b:Int}:aa P (.mn (.c (.int k a)) (.c (.int k b))) h KH=KH (.int k (if b<a then b else a)) h:=by simp[aa,vcOp,Arg.get]
theorem Nj {k:IntKind}{a b:Int}:aa P (.mx (.c (.int k a)) (.c (.int k b))) h KH=KH (.int k (if a<b then b else a)) h:=by simp[aa,vcOp,Arg.get]
theorem Mb {n:Nat}{as:List Arg}:aa P (.callv (.c (.yld n)) as) h KH=((∃st B,h n=.lp st B)/\kL P n (as.map (·.get [])) h KH):=rfl
theorem GZ {f:FuncId}{as:List Arg}{r:D}(hv:aO P f (as.map (·.get [])) (· = r)) (hds:∀d,d∈as.map (·.get [])->d.vd=true/\aH d) (hk:K r):ae P (.call f as) h K:=by
  have hz:∀d,d∈as.map (·.get [])->d.fz h=d/\d.nm=[]/\kF h d:=fun d hd=>xA (hds d hd).1
  have e:(as.map fun x=>(x.get []).fz h)=as.map (·.get []):=by
    refine List.map_congr_left fun x hx=>(hz _ (List.mem_map.2 ⟨x,hx,rfl⟩)).1
  refine⟨r,by rw[e];exact hv,fun d hd=>⟨(hds d hd).2,(hz d hd).2.2,by rw[(hz d hd).1];exact(hds d hd).1⟩,Or.inr ?_,hk⟩
  have en:(as.flatMap fun x=>(x.get []).nm)=[]:=by
    rw[List.flatMap_eq_nil_iff]
    exact fun x hx=>(hz _ (List.mem_map.2 ⟨x,hx,rfl⟩)).2.1
  rw[en]
  exact fun n hn=>by cases hn
theorem Is {cs:List D}{k:IntKind}{a:Int}{len size:Nat}{agg:Bool}:aa P (.sidx (.c (.agg cs)) (.c (.int k a)) len size agg) h KH=(0<len/\0<=a/\a<len/\vpart cs (a.toNat*size) size agg (KH · h)):=rfl
def dR:=And.intro @Is<|And.intro @qH (And.intro @GY (And.intro @KX (And.intro @NB (And.intro @NA (And.intro @ku (And.intro @II (And.intro @KZ (And.intro @CV (And.intro @AD (And.intro @Mw (And.intro @Mv (And.intro @Eh (And.intro @Mx (And.intro @KY (And.intro @Mu (And.intro @IJ (And.intro @xx (And.intro @Ir (And.intro @Ar (And.intro @uE (And.intro @uD (And.intro @Nk (And.intro @Nj (@Mb))))))))))))))))))))))))
end Go.Am
namespace Go.Am
open Go
variable [bw]
variable {P:Program}
theorem Hq {c:Ctx}(hr:ai c){M esz:Nat}{els els':List D}(hM:c.h M=.arr esz els) (hl:els'.length=els.length) (hc:∀e,e∈els'->e.cells.length=esz) (ho:jh els')
    (hv:∀i j d',aD els' i j=some d'->∃d,aD els i j=some d/\∀v,ak c d v->ak c d' v) :
    c.le ⟨c.ρ,c.X,aj c.h M (.arr esz els'),c.hp⟩/\ai ⟨c.ρ,c.X,aj c.h M (.arr esz els'),c.hp⟩:=by
  have sub:∀k,(aj c.h M (.arr esz els') k).mine->(c.h k).mine:=by
    intro k hk
    by_cases h:k=M
    · subst h;rw[hM];trivial
    · simpa[aj,h] using hk
  have hle:c.le ⟨c.ρ,c.X,aj c.h M (.arr esz els'),c.hp⟩:=by
    refine⟨Nat.le_refl _,rfl,fun _ _ _=>rfl,fun _ cur _ _ h=>⟨cur,h,rfl⟩,fun _ r h=>⟨r,h,rfl⟩,fun _ _=>rfl,fun k=>?_,fun k g hm hρ _=>⟨k,sub k hm,hρ⟩⟩
    by_cases h:k=M
    · subst h;simp only[ag];rw[hM];exact .arrArr _ _ _ (Nat.le_of_eq hl.symm)
    · simp only[ab _ _ h];exact Trans.refl _
  refine⟨hle,fun k=>?_,fun k1 k2 g m1 m2 r1 r2=>hr.inj k1 k2 g (sub k1 m1) (sub k2 m2) r1 r2,fun k g hm hρ=>hr.apart k g (sub k hm) hρ,hr.xlt,?_,hr.glob.mono hle,hr.lo⟩
  · by_cases h:k=M
    · subst h
      simp only[ag]
      have hs:=hr.slot k
      rw[hM]at hs
      obtain⟨h1,h2,h3,h4⟩:=hs
      refine⟨h1,hc,ho,?_⟩
      rcases h4 with⟨q,q'⟩|⟨g,cur,ty,q1,q2,q3,q4⟩
      · refine Or.inl ⟨q,?_⟩
        subst q'
        exact List.length_eq_zero_iff.1 hl
      · refine Or.inr ⟨g,cur,ty,q1,q2,by rw[hl];exact q3,fun i j d' hd'=>?_⟩
        obtain⟨d,hd,hrel⟩:=hv i j d' hd'
        exact(hrel _ (q4 i j d hd)).mono hle
    · simp only[ab _ _ h]
      exact dX hle (hr.slot k) (fun _ _=>rfl) (fun _ _ _=>rfl)
  · obtain⟨N,hN⟩:=hr.fin
    refine⟨N+M+1,fun k hk=>?_⟩
    simp only[ab _ _ (show k≠M by omega)]
    exact hN k (by omega)
theorem Aw {h:Heap}{n m:Nat}(hne:m≠n):h.freeze n m=h m:=by
  unfold Heap.freeze
  cases h n<;>simp only<;>try rfl
  exact ab _ _ hne
theorem jq {m:Nat}:∀(ns:List Nat){h:Heap},m∉ns->h.freezeAll ns m=h m
  | [],_,_=>rfl
  | n::r,h,hm=>by
    simp only[List.mem_cons,not_or]at hm
    show(h.freeze n).freezeAll r m=h m
    rw[jq r hm.2,Aw hm.1]
theorem Av {h:Heap}{m:Nat}(n:Nat):(h.freeze m n).row=(h n).row:=by
  unfold Heap.freeze
  cases hm:h m<;>simp only<;>try rfl
  by_cases he:n=m
  · subst he;rw[ag,hm];rfl
  · rw[ab _ _ he]
theorem nS:∀(ns:List Nat){h:Heap}(n:Nat),(h.freezeAll ns n).row=(h n).row
  | [],_,_=>rfl
  | m::r,h,n=>by
    show((h.freeze m).freezeAll r n).row=_
    rw[nS r,Av]
theorem EX {h h':Heap}(hr:∀n,(h' n).row=(h n).row) (d:D):d.fzc h'=d.fzc h:=by
  cases d<;>simp[D.fzc,hr]
theorem GG {h h':Heap}(hr:∀n,(h' n).row=(h n).row) (d:D):d.fz h'=d.fz h:=by
  have e:D.fzc h'=D.fzc h:=funext (EX hr)
  cases d<;>simp only[D.fz,e]
theorem CM {h h':Heap}(hr:∀n,(h' n).row=(h n).row){d:D}(hd:kF h d):kF h' d:=by
  intro x hx
  have:=hd x hx
  cases x<;>simp only[kE,hr]at this ⊢
  exact this
structure Deep (h:Heap) (M:Nat) (els:List D):Prop where
  out:M∉els.flatMap D.nm
  el:∀e∈els,e.cells=[e]/\kF h e/\(e.fz h).vone=true/\e.one=true
end Go.Am
namespace Go.Am
open Go
section aG
variable {H:Type}{enc:TypeId×Value->H}{P:Program}{w w':World}{base:Nat}{spare:Nat->Bool}{held:Bool}
theorem iB {α β:Type}{f g:α->Option β}(hk:∀a b,f a=some b->g a=some b):∀{l:List α}{r:List β},l.mapM f=some r->l.mapM g=some r
  | [],r,h=>by simpa using h
  | a::l,r,h=>by
    simp only[List.mapM_cons,Option.bind_eq_bind,Option.bind_eq_some_iff,Option.pure_def,Option.some.injEq]at h ⊢
    obtain⟨b,hb,r',hr',rfl⟩:=h
    exact⟨b,hk a b hb,r',iB hk hr',rfl⟩
theorem Fa (hk:∀b,b<w.heap.size->w'.heap[b]?=w.heap[b]?){a:Addr}{v:Value}(h:w.cell? a=some v):w'.cell? a=some v:=by
  unfold World.cell? at h ⊢
  have hlt:a.block<w.heap.size:=by
    rcases Nat.lt_or_ge a.block w.heap.size with h1|h1
    · exact h1
    · simp[Array.getElem?_eq_none h1]at h
  rw[hk _ hlt];exact h
theorem C2 (hk:∀b,b<w.heap.size->w'.heap[b]?=w.heap[b]?){a:Addr}{n:Nat}{cs:List Value}(h:w.cells? base a n=some cs):w'.cells? base a n=some cs:=by
  unfold World.cells? at h ⊢
  split at h
  · rename_i hb
    rw[if_pos hb]
    exact iB (fun i v hv=>Fa hk hv) h
  · cases h
theorem Ey (hk:∀b,b<w.heap.size->w'.heap[b]?=w.heap[b]?):∀(n:Nat) (t:TypeId) (cs:List Value) (x:DataW H×List MemPlace),DataW.trod enc P w base spare held n t cs=some x->DataW.trod enc P w' base spare held n t cs=some x:=by
  intro n
  induction n with
  | zero=>intro t cs x h;simp[DataW.trod]at h
  | succ n ih =>
    intro t cs x h
    have el:∀(a:Addr) (k:Nat) (e:TypeId) y,(w.cells? base a k).bind (DataW.trod enc P w base spare held n e)=some y->(w'.cells? base a k).bind (DataW.trod enc P w' base spare held n e)=some y:=by
      intro a k e y hy
      rw[Option.bind_eq_some_iff]at hy ⊢
      obtain⟨cs,h1,h2⟩:=hy
      exact⟨cs,C2 hk h1,ih _ _ _ h2⟩
    unfold DataW.trod at h ⊢
    generalize P.underlying t=ut at h ⊢
    split at h
    case h_6 e a =>
      rw[Option.map_eq_some_iff]at h ⊢
      obtain⟨y,hy,rfl⟩:=h
      exact⟨y,el _ _ _ _ hy,rfl⟩
    case h_8 e a len cap =>
      simp only at h ⊢
      split at h
      · rename_i hc
        rw[if_pos hc]
        rw[Option.bind_eq_some_iff]at h ⊢
        obtain⟨elems,h1,h2⟩:=h
        refine⟨elems,iB (fun i y hy=>el _ _ _ _ hy) h1,?_⟩
        rw[Option.map_eq_some_iff]at h2 ⊢
        obtain⟨rest,h3,rfl⟩:=h2
        refine⟨rest,?_,rfl⟩
        split at h3
        · rename_i hs;rw[if_pos hs];exact iB (fun i y hy=>el _ _ _ _ hy) h3
        · rename_i hs;rw[if_neg hs];exact h3
      · cases h
    case h_9 fs =>
      split at h
      · rename_i hc
        rw[if_pos hc]
        rw[Option.map_eq_some_iff]at h ⊢
        obtain⟨y,hy,rfl⟩:=h
        exact⟨y,iB (fun i y hy=>ih _ _ _ hy) hy,rfl⟩
      · cases h
    case h_10 m e =>
      split at h
      · rename_i hc
        rw[if_pos hc]
        rw[Option.map_eq_some_iff]at h ⊢
        obtain⟨y,hy,rfl⟩:=h
        exact⟨y,iB (fun i y hy=>ih _ _ _ hy) hy,rfl⟩
      · cases h
    case h_12 u v =>
      split at h
      · exact h
      · rw[Option.map_eq_some_iff]at h ⊢
        obtain⟨y,hy,rfl⟩:=h
        exact⟨y,ih _ _ _ hy,rfl⟩
      · cases h
    case h_14 k e b =>
      cases hb:w.heap[b]? with
      | none=>simp[hb]at h
      | some o =>
        have hlt:=(Array.getElem?_eq_some_iff.1 hb).1
        rw[hk b hlt]
        rw[hb]at h ⊢
        cases o<;>simp only at h ⊢<;>try (cases h;done)
        split at h
        · rename_i hc
          rw[if_pos hc]
          rw[Option.bind_eq_some_iff]at h ⊢
          obtain⟨es,h1,h2⟩:=h
          refine⟨es,iB (fun i y hy=>?_) h1,h2⟩
          rw[Option.bind_eq_some_iff]at hy ⊢
          obtain⟨key,h3,h4⟩:=hy
          refine⟨key,h3,?_⟩
          split at h4
          · rename_i hf
            rw[if_pos hf]
            rw[Option.map_eq_some_iff]at h4 ⊢
            obtain⟨z,hz,rfl⟩:=h4
            exact⟨z,ih _ _ _ hz,rfl⟩
          · cases h4
        · cases h
    all_goals first|exact h|(cases h;done)
theorem sU (hk:∀b,b<w.heap.size->w'.heap[b]?=w.heap[b]?):∀{ts:List TypeId}{vs:List Value}{ds:List (DataW H)}{ps:List MemPlace},DataW.TrodAll enc P w base spare held ts vs ds ps->DataW.TrodAll enc P w' base spare held ts vs ds ps
  | [],[],[],_,h=>h
  | _::_,_::_,_::_,_,⟨p,q,⟨n,h1⟩,h2,e⟩=>⟨p,q,⟨n,Ey hk n _ _ _ h1⟩,sU hk h2,e⟩
end aG
end Go.Am
namespace Go.Am
open Go
variable [bw]
variable {H:Type}{enc:TypeId×Value->H}{P:Program}
def mkElem (P:Program) (e:TypeId) (cs:List D):D :=
  match P.underlying e with
  | some (.struct _)=>.agg cs
  | some (.array _ _)=>.agg cs
  | _=>cs.headD .undef
def HasTy (P:Program):Nat->TypeId->List D->Prop
  | 0,_,_=>False
  | n+1,t,ds=>match P.underlying t with
    | some .bool=>∃b,ds=[.bool b]
    | some (.int k)=>∃i,ds=[.int k i]/\(Lit.int k i).wf=true
    | some .string=>∃s:ByteArray,ds=[.str s]/\s.size<=maxLen
    | some (.slice e)=>∃xs:List (List D),ds=[.sl (xs.map (mkElem P e))]/\xs.length<=maxLen/\∀x∈xs,HasTy P n e x
    | some (.struct fs)=>ds.length=P.cellsOf t/\∀f∈fs.toList,HasTy P n f.type ((ds.drop f.offset).take (P.cellsOf f.type))
    | some (.array m e)=>ds.length=P.cellsOf t/\∀i,i<m->HasTy P n e ((ds.drop (i*P.cellsOf e)).take (P.cellsOf e))
    | _=>False
def contig (P:Program) (total:Nat):List (TypeId×Nat)->Nat->Bool
  | [],o=>o == total
  | f::r,o=>f.2 == o&&contig P total r (o+P.cellsOf f.1)
def plainT (P:Program):Nat->TypeId->Bool
  | 0,_=>false
  | n+1,t=>match P.underlying t with
    | some .bool=>P.cellsOf t == 1
    | some (.int _)=>P.cellsOf t == 1
    | some .string=>P.cellsOf t == 1
    | some (.slice e)=>P.cellsOf t == 1&&decide (0<P.cellsOf e)&&plainT P n e
    | some (.struct fs)=>fs.toList.all (fun f=>plainT P n f.type)&&contig P (P.cellsOf t) (fs.toList.map fun f=>(f.type,f.offset)) 0
    | some (.array m e)=>plainT P n e&&contig P (P.cellsOf t) ((List.range m).map fun i=>(e,i*P.cellsOf e)) 0
    | _=>false
theorem m7 {cs:List D}(h1:cs.length=1) (hv:∀(i:Nat) (x:D),cs[i]?=some x->x.vone=true):(cs.headD .undef).cells=cs:=by
  cases cs with
  | nil=>simp at h1
  | cons d r =>
    have:r=[]:=List.eq_nil_of_length_eq_zero (by simpa using h1)
    subst this
    have:=hv 0 d rfl
    cases d<;>simp_all [D.vone,D.cells]
theorem Ai {n:Nat}{e:TypeId}{cs:List D}(hp:plainT P n e=true) (hl:cs.length=P.cellsOf e) (hv:∀(i:Nat) (x:D),cs[i]?=some x->x.vone=true):(mkElem P e cs).cells=cs:=by
  unfold mkElem
  split
  · rfl
  · rfl
  · cases n with
    | zero=>simp[plainT]at hp
    | succ n =>
      unfold plainT at hp
      split at hp
      · exact m7 (by rw[hl];simpa using hp) hv
      · exact m7 (by rw[hl];simpa using hp) hv
      · exact m7 (by rw[hl];simpa using hp) hv
      · simp only[Bool.and_eq_true]at hp
        exact m7 (by rw[hl];simpa using hp.1.1) hv
      · rename_i h1 h1' _ fs h2;first|exact absurd h2 (h1 _)|exact absurd h2 (h1' _)
      · rename_i h1 h1' _ m e' h2;first|exact absurd h2 (h1' _ _)|exact absurd h2 (h1 _ _)
      · cases hp
theorem parts {c:Ctx}{m:Nat}{total:Nat}(cs:List Value) (hcs:cs.length=total):∀(l:List (TypeId×Nat)) (o:Nat),contig P total l o=true ->
    (∀f∈l,∃ds:List D,HasTy P m f.1 ds/\ds.length=P.cellsOf f.1/\∀(i:Nat) (d:D),ds[i]?=some d->d.vone=true/\ak c d (((cs.drop f.2).take (P.cellsOf f.1)).getD i Go.undef)) ->
    ∃ds:List D,ds.length=cs.length-o/\(∀f∈l,HasTy P m f.1 ((ds.drop (f.2-o)).take (P.cellsOf f.1))/\o<=f.2)/\∀(i:Nat) (d:D),ds[i]?=some d->d.vone=true/\ak c d (cs.getD (o+i) Go.undef)
  | [],o,hc,_=>by
    simp only[contig,beq_iff_eq]at hc
    exact⟨[],by simp;omega,by simp,by simp⟩
  | f::r,o,hc,hf=>by
    simp only[contig,Bool.and_eq_true,beq_iff_eq]at hc
    obtain⟨hfo,hcr⟩:=hc
    obtain⟨d1,a1,a2,a3⟩:=hf f (by simp)
    obtain⟨d2,b1,b2,b3⟩:=parts cs hcs r (o+P.cellsOf f.1) hcr (fun g hg=>hf g (by simp[hg]))
    have hle:o+P.cellsOf f.1<=total:=by
      have:∀(l:List (TypeId×Nat)) (o:Nat),contig P total l o=true->o<=total:=by
        intro l
        induction l with
        | nil=>intro o h;simp[contig]at h;omega
        | cons g s ih=>intro o h;simp only[contig,Bool.and_eq_true,beq_iff_eq]at h;have:=ih _ h.2;omega
      exact this _ _ hcr
    refine⟨d1++d2,by simp;omega,fun g hg=>?_,fun i d hd=>?_⟩
    · rcases List.mem_cons.1 hg with rfl|hg
      · refine⟨?_,by omega⟩
        rw[hfo,Nat.sub_self,List.drop_zero,List.take_append_of_le_length (by omega),List.take_of_length_le (by omega)]
        exact a1
      · obtain⟨k1,k2⟩:=b2 g hg
        refine⟨?_,by omega⟩
        rw[show g.2-o=d1.length+(g.2-(o+P.cellsOf f.1)) by omega,List.drop_append,List.drop_eq_nil_of_le (by omega),List.nil_append,Nat.add_sub_cancel_left]
        exact k1
    · by_cases hi:i<d1.length
      · rw[List.getElem?_append_left hi]at hd
        obtain⟨k1,k2⟩:=a3 i d hd
        refine⟨k1,?_⟩
        have e1:((cs.drop f.2).take (P.cellsOf f.1)).getD i Go.undef=cs.getD (o+i) Go.undef:=by
          simp only[List.getD,List.getElem?_take,List.getElem?_drop]
          rw[if_pos (by omega),hfo]
        rw[e1]at k2;exact k2
      · rw[List.getElem?_append_right (by omega)]at hd
        obtain⟨k1,k2⟩:=b3 _ d hd
        refine⟨k1,?_⟩
        rw[show o+P.cellsOf f.1+(i-d1.length)=o+i by omega]at k2
        exact k2
theorem FK {W:World}{sp:Nat->Bool}{c:Ctx}(hp:c.hp=W.heap) (hown:∀g,¬c.own g):∀(m:Nat) (t:TypeId),plainT P m t=true->∀(n:Nat) (cs:List Value) (x:DataW H×List MemPlace),DataW.trod enc P W 0 sp true n t cs=some x ->
    cs.length=P.cellsOf t/\∃ds:List D,HasTy P m t ds/\ds.length=cs.length/\∀(i:Nat) (d:D),ds[i]?=some d->d.vone=true/\ak c d (cs.getD i Go.undef):=by
  intro m
  induction m with
  | zero=>intro t h;simp[plainT]at h
  | succ m ih =>
    intro t hpt n cs x h
    unfold plainT at hpt
    have one:∀(d:D) (v:Value),cs=[v]->d.vone=true->ak c d v->([d]:List D).length=cs.length/\∀(i:Nat) (d':D),[d][i]?=some d'->d'.vone=true/\ak c d' (cs.getD i Go.undef):=by
      rintro d v rfl h1 h2
      refine⟨rfl,fun i d' hd=>?_⟩
      cases i with
      | zero=>simp at hd;subst hd;exact⟨h1,by simpa using h2⟩
      | succ i=>simp at hd
    split at hpt
    ·
      rename_i hu
      cases n with
      | zero=>simp[DataW.trod]at h
      | succ n =>
        unfold DataW.trod at h
        rw[hu]at h
        split at h<;>simp_all
        rename_i b
        exact⟨[.bool b],by unfold HasTy;rw[hu];exact⟨b,rfl⟩,by simp,fun i d hd=>by
          cases i with
          | zero=>simp at hd;subst hd;exact⟨rfl,by simpa using ak.bool (c:=c) b⟩
          | succ i=>simp at hd⟩
    · rename_i k hu
      cases n with
      | zero=>simp[DataW.trod]at h
      | succ n =>
        unfold DataW.trod at h
        rw[hu]at h
        split at h<;>simp_all
        rename_i kq kq' i' hq
        have hkk:=h.1.1
        subst hkk
        exact⟨[.int kq' i'],by unfold HasTy;rw[hu];exact⟨i',rfl,h.1.2⟩,by simp,fun i d hd=>by
          cases i with
          | zero=>simp at hd;subst hd;exact⟨rfl,by simpa using ak.int (c:=c) kq' i'⟩
          | succ i=>simp at hd⟩
    · rename_i hu
      cases n with
      | zero=>simp[DataW.trod]at h
      | succ n =>
        unfold DataW.trod at h
        rw[hu]at h
        split at h<;>simp_all
        rename_i s
        exact⟨[.str s],by unfold HasTy;rw[hu];exact⟨s,rfl,h.1⟩,by simp,fun i d hd=>by
          cases i with
          | zero=>simp at hd;subst hd;exact⟨rfl,by simpa using ak.str (c:=c) s⟩
          | succ i=>simp at hd⟩
    ·
      rename_i e hu
      simp only[Bool.and_eq_true,beq_iff_eq,decide_eq_true_eq]at hpt
      obtain⟨⟨hc1,hpos⟩,hpe⟩:=hpt
      rcases DataW.trod_slice hu h with⟨rfl,_⟩|⟨a,len,cap,elems,rest,n',rfl,rfl,_,hb,hl,hm,hlen,hel,_,_⟩
      · refine⟨by rw[hc1];rfl,[.sl []],?_,one (.sl []) _ rfl rfl (.mL none 0 (by simp[maxLen]))⟩
        unfold HasTy;rw[hu]
        exact⟨[],rfl,by simp[maxLen],by simp⟩
      ·
        have each:∀i,i<len->∃(vs:List Value) (ds:List D),W.cells? 0 (a.add (i*P.cellsOf e)) (P.cellsOf e)=some vs/\HasTy P m e ds/\ds.length=P.cellsOf e/\vs.length=P.cellsOf e/\∀(j:Nat) (d:D),ds[j]?=some d->d.vone=true/\ak c d (vs.getD j Go.undef):=by
          intro i hi
          have h1:=hel i hi
          have h2:elems[i]?=some (elems[i]'(by omega)):=by simp[show i<elems.length by omega]
          rw[h2,Option.bind_eq_some_iff]at h1
          obtain⟨vs,h3,h4⟩:=h1
          obtain⟨k1,ds,k2,k3,k4⟩:=ih e hpe n' vs _ h4
          exact⟨vs,ds,h3,k2,k3.trans k1,k1,k4⟩
        let vf:Nat->List Value:=fun i=>if h:i<len then(each i h).choose else []
        let df:Nat->List D:=fun i=>if h:i<len then(each i h).choose_spec.choose else []
        have spec:∀i,i<len->W.cells? 0 (a.add (i*P.cellsOf e)) (P.cellsOf e)=some (vf i)/\HasTy P m e (df i)/\(df i).length=P.cellsOf e/\(vf i).length=P.cellsOf e/\∀(j:Nat) (d:D),(df i)[j]?=some d->d.vone=true/\ak c d ((vf i).getD j Go.undef):=by
          intro i hi
          simp only[vf,df,dif_pos hi]
          exact(each i hi).choose_spec.choose_spec
        let xs:List (List D):=(List.range len).map df
        have hxl:xs.length=len:=by simp[xs]
        have hxi:∀i,i<len->xs[i]?=some (df i):=by intro i hi;simp[xs,hi]
        have hcellsE:∀i,i<len->(mkElem P e (df i)).cells=df i:=fun i hi=>Ai hpe (spec i hi).2.2.1 (fun j x hx=>((spec i hi).2.2.2.2 j x hx).1)
        refine⟨by rw[hc1];rfl,[.sl (xs.map (mkElem P e))],?_,?_⟩
        · unfold HasTy;rw[hu]
          refine⟨xs,rfl,by rw[hxl];omega,fun x hx=>?_⟩
          obtain⟨i,hi,rfl⟩:=List.mem_map.1 hx
          exact(spec i (by simpa using hi)).2.1
        · have hl0:len=(xs.map (mkElem P e)).length:=by simp[hxl]
          refine one _ _ rfl rfl ?_
          by_cases h0:len=0
          · subst h0
            have:xs=[]:=List.eq_nil_of_length_eq_zero hxl
            rw[this]
            exact .mL _ cap hm
          · have hz:=(World.cells?_some (spec 0 (by omega)).1).2.2 0 (by omega)
            have hcell0:∃v,W.cell? a=some v:=by
              have e0:(a.add (0*P.cellsOf e)).add 0=a:=by simp[Addr.add]
              rw[e0]at hz
              have:0<(vf 0).length:=by rw[(spec 0 (by omega)).2.2.2.1];exact hpos
              exact⟨(vf 0)[0],by rw[hz];simp[this]⟩
            obtain⟨v0,hv0⟩:=hcell0
            have hspot:a=⟨a.block,a.off,none⟩:=by
              unfold World.cell? at hv0
              split at hv0
              · split at hv0
                · cases hv0
                · rename_i hs
                  obtain⟨b,o,s⟩:=a
                  cases s with
                  | none=>rfl
                  | some s=>simp at hs
              · cases hv0
            have hci:∀i j d,aD (xs.map (mkElem P e)) i j=some d->i<len/\(df i)[j]?=some d:=by
              intro i j d hd
              unfold aD at hd
              rw[List.getElem?_map]at hd
              by_cases hi:i<len
              · rw[hxi i hi]at hd
                simp only[Option.map_some,Option.bind_some]at hd
                rw[hcellsE i hi]at hd
                exact⟨hi,hd⟩
              · have:xs[i]?=none:=List.getElem?_eq_none (by omega)
                rw[this]at hd;simp at hd
            have:=ak.sl (c:=c) (xs.map (mkElem P e)) a.block a.off cap (P.cellsOf e) (fun i j=>(vf i).getD j Go.undef) (by intro he;rw[he]at hl0;simp at hl0;omega) (by rw[<- hl0];exact hl) hm hpos
              (fun x hx=>by
                obtain⟨y,hy,rfl⟩:=List.mem_map.1 hx
                obtain⟨i,hi,rfl⟩:=List.mem_map.1 hy
                rw[hcellsE i (by simpa using hi)]
                exact(spec i (by simpa using hi)).2.2.1)
              (fun i j d hd=>by
                obtain⟨hi,hj⟩:=hci i j d hd
                exact((spec i hi).2.2.2.2 j d hj).1)
              (fun i j d hd=>by
                obtain⟨hi,hj⟩:=hci i j d hd
                have hjl:=(List.getElem?_eq_some_iff.1 hj).1
                rw[(spec i hi).2.2.1]at hjl
                have hz:=(World.cells?_some (spec i hi).1).2.2 j hjl
                have e1:(a.add (i*P.cellsOf e)).add j=⟨a.block,a.off+(i*P.cellsOf e+j),none⟩:=by
                  have hadd:∀(b o x:Nat),((⟨b,o,none⟩:Addr).add x).add j=⟨b,o+(x+j),none⟩:=by
                    intro b o x
                    rw[Addr.add_lit,Addr.add_lit,Nat.add_assoc]
                  have:=hadd a.block a.off (i*P.cellsOf e)
                  rw[<- hspot]at this
                  exact this
                rw[e1,ml]at hz
                rw[hp,hz]
                have hjv:j<(vf i).length:=by rw[(spec i hi).2.2.2.1];exact hjl
                simp[List.getD,hjv])
              (hown _) (fun i j d hd=>by
                obtain⟨hi,hj⟩:=hci i j d hd
                exact((spec i hi).2.2.2.2 j d hj).2)
            rw[<- hl0]at this
            rw[hspot]
            exact this
    ·
      rename_i fs hu
      simp only[Bool.and_eq_true,List.all_eq_true]at hpt
      obtain⟨hpf,hcov⟩:=hpt
      obtain⟨xs,n',rfl,_,hcl,hxl,hf⟩:=DataW.trod_struct hu h
      obtain⟨ds,q1,q2,q3⟩:=parts (c:=c) (m:=m) cs (by rw[hcl]) _ 0 hcov (fun f hfm=>by
        simp only[List.mem_map]at hfm
        obtain⟨f',hf',rfl⟩:=hfm
        obtain⟨i,hi⟩:=List.getElem?_of_mem hf'
        have h1:=hf i f' (by simpa using hi)
        have hix:i<xs.length:=by
          have:=(List.getElem?_eq_some_iff.1 hi).1
          rw[hxl];simpa using this
        have h2:xs[i]?=some xs[i]:=by simp[hix]
        rw[h2]at h1
        obtain⟨k1,ds,k2,k3,k4⟩:=ih f'.type (hpf f' hf') n' _ _ h1
        exact⟨ds,k2,k3.trans k1,k4⟩)
      refine⟨hcl,ds,?_,by simpa using q1,fun i d hd=>by simpa using q3 i d hd⟩
      unfold HasTy;rw[hu]
      exact⟨by rw[q1,hcl];rfl,fun f hf=>by simpa using (q2 (f.type,f.offset) (List.mem_map.2 ⟨f,hf,rfl⟩)).1⟩
    ·
      rename_i k e hu
      simp only[Bool.and_eq_true]at hpt
      obtain⟨hpe,hcov⟩:=hpt
      obtain⟨xs,n',rfl,_,hcl,hxl,hf⟩:=DataW.trod_array hu h
      obtain⟨ds,q1,q2,q3⟩:=parts (c:=c) (m:=m) cs (by rw[hcl]) _ 0 hcov (fun f hfm=>by
        simp only[List.mem_map,List.mem_range]at hfm
        obtain⟨i,hi,rfl⟩:=hfm
        have h1:=hf i hi
        have h2:xs[i]?=some (xs[i]'(by omega)):=by simp[show i<xs.length by omega]
        rw[h2]at h1
        obtain⟨k1,ds,k2,k3,k4⟩:=ih e hpe n' _ _ h1
        exact⟨ds,k2,k3.trans k1,k4⟩)
      refine⟨hcl,ds,?_,by simpa using q1,fun i d hd=>by simpa using q3 i d hd⟩
      unfold HasTy;rw[hu]
      exact⟨by rw[q1,hcl];rfl,fun i hi=>by simpa using (q2 (e,i*P.cellsOf e) (List.mem_map.2 ⟨i,by simpa using hi,rfl⟩)).1⟩
    · cases hpt
end Go.Am
namespace Go.Am
open Go
variable [bw]
variable {H:Type}{enc:TypeId×Value->H}{P:Program}
theorem Ks {W:World}{r:Reach}{b:Nat}{t:TypeId}{cs:Array Value}(h:Cell.okWide P W r b t (.agg cs)):False:=by
  unfold Cell.okWide at h
  split at h<;>first
    | (rename_i h2;cases h2;done)
    | (rename_i h2 _;cases h2;done)
    | skip
  unfold Cell.ok at h
  split at h<;>first
    | exact h
    | (rename_i h2;cases h2;done)
theorem I3 {W:World}{sp:Nat->Bool}{c:Ctx}(hp:c.hp=W.heap) (hown:∀g,¬c.own g){m:Nat}{t:TypeId}(hpt:plainT P m t=true){base:Nat}{v:Value}{d:DataW H}{ps:List MemPlace}
    (hval:Value.okWide P W .any base t v) (hd:DataW.Trod enc P W 0 sp true t v d ps):∃ds:List D,HasTy P m t ds/\ak c (mkElem P t ds) v:=by
  obtain⟨n,hn⟩:=hd
  obtain⟨hl,ds,h1,h2,h3⟩:=FK hp hown m t hpt n _ _ hn
  refine⟨ds,h1,?_⟩
  have one:(∀cs,v≠.agg cs)->ds.length=1->ak c (ds.headD .undef) v:=by
    intro hna h1'
    have hc:v.cells = #[v]:=by cases v<;>first|rfl|exact absurd rfl (hna _)
    obtain⟨x,hx⟩:∃x,ds[0]?=some x:=⟨ds[0]'(by omega),by simp[show 0<ds.length by omega]⟩
    have:=(h3 0 x hx).2
    rw[hc]at this
    have e:ds.headD .undef=x:=by
      cases ds with
      | nil=>simp at hx
      | cons a r=>simpa using hx
    rw[e];simpa using this
  have agg:∀cs,v=.agg cs->ak c (.agg ds) v:=by
    rintro cs rfl
    refine .agg ds cs (by simpa[Value.cells] using h2.symm) (fun i x hx=>D.gr (h3 i x hx).1) (fun i x hx=>?_)
    have:=(h3 i x hx).2
    rw[<- au]
    exact this
  unfold Value.okWide at hval
  unfold mkElem
  cases m with
  | zero=>simp[plainT]at hpt
  | succ m =>
    unfold plainT at hpt
    cases hu:P.underlying t with
    | none=>rw[hu]at hpt;simp at hpt
    | some u =>
      rw[hu]at hval hpt
      cases u<;>simp only at hval hpt ⊢<;>first
        | (obtain⟨cs,rfl,_⟩:=hval;exact agg cs rfl)
        | (refine one (fun cs hc=>?_) ?_
           · subst hc;exact Ks hval
           · rw[h2,hl];simp only[Bool.and_eq_true,beq_iff_eq]at hpt;first|exact hpt.1.1|exact hpt)
        | cases hpt
def yL (P:Program) (m:Nat):List TypeId->List D->Prop
  | [],ds=>ds=[]
  | t::ts,ds=>∃cs r,ds=mkElem P t cs::r/\HasTy P m t cs/\yL P m ts r
theorem Ca {W:World}{sp:Nat->Bool}{c:Ctx}(hp:c.hp=W.heap) (hown:∀g,¬c.own g){m base:Nat}:∀(ts:List TypeId) (vs:List Value) (ds:List (DataW H)) (ps:List MemPlace),ts.all (plainT P m)=true ->
    (∀(j:Nat) t v,ts[j]?=some t->vs[j]?=some v->Value.okWide P W .any base t v)->DataW.TrodAll enc P W 0 sp true ts vs ds ps->vs.length=ts.length/\ds.length=ts.length /\
      ∃xs:List D,yL P m ts xs/\xs.length=ts.length/\∀(i:Nat) (x:D),xs[i]?=some x->ak c x (vs.getD i Go.undef)
  | [],vs,ds,ps,_,_,h=>by
    obtain⟨rfl,rfl,rfl⟩:=trodAll_nil' h
    exact⟨rfl,rfl,[],rfl,rfl,by simp⟩
  | t::ts,vs,ds,ps,hpt,hval,h=>by
    simp only[List.all_cons,Bool.and_eq_true]at hpt
    obtain⟨v,vs',d,ds',p,q,rfl,rfl,rfl,h1,h2⟩:=ChangeShapes.trodAll_cons h
    obtain⟨cs,k1,k2⟩:=I3 hp hown hpt.1 (hval 0 t v rfl rfl) h1
    obtain⟨l1,l2,xs,k3,k4,k5⟩:=Ca hp hown ts vs' ds' q hpt.2 (fun j t v ht hv=>hval (j+1) t v (by simpa using ht) (by simpa using hv)) h2
    refine⟨by simp[l1],by simp[l2],mkElem P t cs::xs,⟨cs,xs,rfl,k1,k3⟩,by simp[k4],fun i x hx=>?_⟩
    cases i with
    | zero=>simp at hx;subst hx;simpa using k2
    | succ i=>simp at hx;simpa using k5 i x hx
where
  trodAll_nil' {vs:List Value}{ds:List (DataW H)}{ps:List MemPlace}(h:DataW.TrodAll enc P W 0 sp true [] vs ds ps):vs=[]/\ds=[]/\ps=[]:=ChangeShapes.trodAll_nil h
theorem EP {f:FuncId}{fn:Func}{s:ChangeSpec}{m:Nat}{tb:TypeId}(hpl:fn.params.toList.all (plainT P m)=true) (hrt:fn.resultTypes = #[tb]) (htb:P.underlying tb=some .bool)
    (hvars:s.vars=[]) (hspec:∀ds:List (DataW H),ds.length=fn.params.size->s.fn H (ds++[])={ results:=[.lit (.bool true)],args:=ds })
    (hl:laidOutB P=true) (hm:mapsRowed P=true) (hfull:((List.range P.types.size).all fun t=>match P.underlying t with|some (.slice e)=>decide (0<P.cellsOf e)|_=>true)=true)
    (hin:∀t∈fn.params.toList,t<P.types.size)
    (hv:∀xs,yL P m fn.params.toList xs->aO P f xs (· = .bool true))
    (W:World) (base:Nat) (args:Array Value) (ds gs:List (DataW H)) (before:List MemPlace)
    (hval:∀(j:Nat) t v,fn.params[j]?=some t->args[j]?=some v->Value.okWide P W .any base t v)
    (hW:DataW.Whole enc P fn.params.toList s.vars false W args.toList ds gs before)
    (htab:∀g vs,bw.tab g=some vs->g<W.heap.size/\∀(k:Nat) (v:Value),vs[k]?=some v->cellOf W.heap g k=some v) :
    Calls P f args W fun e W'=>∃v,e=.returned v/\s.post enc P fn false true false false W args v W':=by
  have hW':=hW
  obtain⟨p,q,hA,hV,rfl,hfz,hnd⟩:=hW
  rw[hvars]at hV
  obtain⟨rfl,rfl⟩:=ChangeShapes.trodVars_none hV
  let c:Ctx:=⟨fun _=>none,⟨fun _=>False,0,[]⟩,fh,W.heap⟩
  have hown:∀g,¬c.own g:=by
    rintro g (h|⟨n,h,_⟩)
    · exact h
    · cases h
  have hr:ai c:=⟨fun n=>trivial,fun n m' g h=>(by cases h),fun n g h=>(by cases h),fun g h=>h.elim,⟨0,fun n _=>rfl⟩,fun g vs hg=>⟨(htab g vs hg).2,hown g,(htab g vs hg).1⟩,Nat.zero_le _⟩
  obtain⟨l1,l2,xs,h1,h2,h3⟩:=Ca (c:=c) rfl hown fn.params.toList args.toList ds p hpl (fun j t v ht hv=>hval j t v (by simpa using ht) (by simpa using hv)) hA
  refine(hv xs h1 c W args (fun _=>rfl) rfl hr (by rw[h2, <- l1];simp) (fun i x hx=>by rw[<- au];exact h3 i x hx)).mono ?_
  rintro e W' ⟨v,r,rfl,hle,hws,hrel,_,rfl⟩
  have hvt:v=.bool true:=by cases hrel;rfl
  subst hvt
  have hk:∀b,b<W.heap.size->W'.heap[b]?=W.heap[b]?:=fun b hb=>hle.aG b hb (fun n hn=>by cases hn)
  have hdl:ds.length=fn.params.size:=by rw[l2];simp
  have hsp:=hspec ds hdl
  refine⟨_,rfl,ds,[],p++[],[],p,[],hW',?_,?_,?_,?_,fun h=>by cases h⟩
  · rw[hsp,hrt]
    exact ChangeShapes.trodAll_mk1 (RowKit.shut_bool htb true)
  · rw[hsp]
    refine sU hk ?_
    exact DataW.TrodAll.respare (kids_rows hl hm) (slices_full_of P hfull) hin hA (fun x hx=>by simpa using hW'.lt x (by simpa using hx))
  · rw[hvars,hsp];rfl
  · refine⟨hws.os,hws.output,fun i hi=>?_⟩
    rw[hk i hi]
    cases hb:W.heap[i]? with
    | none=>rfl
    | some o=>cases o<;>simp
end Go.Am
namespace Go.Am
open Go
theorem Kz (a b:Nat) (hb:b<=64):Ao .u64 (a:Int) (b:Int)=((a / 2 ^ b:Nat):Int):=by
  unfold Ao
  have e:min ((b:Int).toNat) IntKind.u64.bits=b:=by
    simp only[IntKind.bits,Int.toNat_natCast];omega
  rw[e]
  have:((2:Int) ^ b)=((2 ^ b:Nat):Int):=by simp
  rw[this]
  rw[Int.fdiv_eq_ediv_of_nonneg _ (Int.natCast_nonneg _)]
  exact(Int.natCast_ediv a (2 ^ b)).symm
variable {P:Program}{m:Nat}{t e:TypeId}{k:IntKind}{ds:List D}
theorem u5 (h:P.underlying t=some (.int k)) (hd:HasTy P (m+1) t ds):∃i,ds=[.int k i]/\k.min<=i/\i<=k.max:=by
  unfold HasTy at hd
  rw[h]at hd
  obtain⟨i,h1,h2⟩:=hd
  simp[Lit.wf]at h2
  exact⟨i,h1,h2.1,h2.2⟩
theorem Bw (h:P.underlying t=some (.slice e)) (hd:HasTy P (m+1) t ds):∃xs:List (List D),ds=[.sl (xs.map (mkElem P e))]/\xs.length<=maxLen/\∀x∈xs,HasTy P m e x:=by
  unfold HasTy at hd
  rw[h]at hd
  exact hd
def structL (P:Program) (t:TypeId):Option (List (TypeId×Nat)):=match P.underlying t with
  | some (.struct fs)=>some (fs.toList.map fun f=>(f.type,f.offset))
  | _=>none
theorem Aq {l:List (TypeId×Nat)}(h:structL P t=some l) (hd:HasTy P (m+1) t ds):ds.length=P.cellsOf t/\∀q∈l,HasTy P m q.1 ((ds.drop q.2).take (P.cellsOf q.1)):=by
  unfold HasTy at hd
  unfold structL at h
  split at h
  · rename_i fs hu
    rw[hu]at hd
    cases h
    refine⟨hd.1,fun q hq=>?_⟩
    obtain⟨f,hf,rfl⟩:=List.mem_map.1 hq
    exact hd.2 f hf
  · cases h
theorem By {n:Nat}(h:P.underlying t=some (.array n e)) (hd:HasTy P (m+1) t ds):ds.length=P.cellsOf t/\∀i,i<n->HasTy P m e ((ds.drop (i*P.cellsOf e)).take (P.cellsOf e)):=by
  unfold HasTy at hd
  rw[h]at hd
  exact hd
theorem EO {l:List (TypeId×Nat)}(h:structL P t=some l) (cs:List D):mkElem P t cs=.agg cs:=by
  unfold structL at h
  unfold mkElem
  split at h
  · rename_i hu;rw[hu]
  · cases h
theorem Gu {n:Nat}(h:P.underlying t=some (.array n e)) (cs:List D):mkElem P t cs=.agg cs:=by unfold mkElem;rw[h]
theorem Gt (h:P.underlying t=some (.int k)) (d:D):mkElem P t [d]=d:=by unfold mkElem;rw[h];rfl
theorem CH (h:P.underlying t=some (.slice e)) (he:P.underlying e=some (.int k)) (hd:HasTy P (m+2) t ds):∃xs:List Int,ds=[.sl (xs.map (.int k))]/\xs.length<=maxLen/\∀x∈xs,k.min<=x/\x<=k.max:=by
  obtain⟨xs,h1,h2,h3⟩:=Bw h hd
  have:∃ys:List Int,xs.map (mkElem P e)=ys.map (.int k)/\ys.length=xs.length/\∀x∈ys,k.min<=x/\x<=k.max:=by
    clear h1 h2
    induction xs with
    | nil=>exact⟨[],rfl,rfl,fun x hx=>by cases hx⟩
    | cons x r ih =>
      obtain⟨ys,g1,g2,g3⟩:=ih fun x hx=>h3 x (List.mem_cons_of_mem _ hx)
      obtain⟨i,hi,hi1,hi2⟩:=u5 he (h3 x List.mem_cons_self)
      refine⟨i::ys,?_,by simp[g2],fun y hy=>?_⟩
      · simp only[List.map_cons,g1,hi,Gt he]
      · rcases List.mem_cons.1 hy with rfl|hy
        · exact⟨hi1,hi2⟩
        · exact g3 y hy
  obtain⟨ys,g1,g2,g3⟩:=this
  exact⟨ys,by rw[h1,g1],by omega,g3⟩
end Go.Am
namespace Go.Am
open Go
variable [bw]
variable {P:Program}
structure Ck (h:Heap) (M esz:Nat) (els:List D):Prop where
  out:M∉els.flatMap D.nm
  el:∀e∈els,aH e/\kF h e/\∀y,y∈(e.fz h).cells->y.vone=true
def tP (h:Heap) (M esz:Nat) (els:List D):Heap:=aj (h.freezeAll (els.flatMap D.nm)) M (.arr esz (els.map (D.fz h)))
theorem zC {h:Heap}{M esz:Nat}{els:List D}:tP h M esz els M=.arr esz (els.map (D.fz h)):=ag _ _ _
theorem yf {h:Heap}{M esz k:Nat}{els:List D}(h1:k≠M) (h2:k∉els.flatMap D.nm):tP h M esz els k=h k:=by
  unfold tP;rw[ab _ _ h1,jq _ h2]
theorem Au {h:Heap}{e:D}:(e.fz h).cells.length=e.cells.length:=by
  cases e with
  | ms n off len =>
    simp only[D.fz,D.fzc]
    cases hr:(h n).row with
    | none=>rfl
    | some p=>obtain⟨a,b⟩:=p;rfl
  | agg cs=>simp[D.fz,D.cells]
  | _=>rfl
theorem Iv {h:Heap}{e:D}{j:Nat}:(e.fz h).cells[j]?=(e.cells[j]?).map (D.fzc h):=by
  cases e with
  | agg cs=>simp[D.fz,D.cells]
  | ms n off len =>
    simp only[D.fz,D.cells,D.fzc]
    cases j with
    | zero =>
      cases hr:(h n).row with
      | none=>simp[D.fzc,hr]
      | some p=>obtain⟨a,b⟩:=p;simp[D.fzc,hr]
    | succ j =>
      cases hr:(h n).row with
      | none=>simp
      | some p=>obtain⟨a,b⟩:=p;simp
  | _=>cases j<;>simp[D.fz,D.fzc,D.cells]
theorem Bv {c:Ctx}(hr:ai c){M esz:Nat}{els:List D}(hM:c.h M=.arr esz els) (hd:Ck c.h M esz els) :
    c.le ⟨c.ρ,c.X,tP c.h M esz els,c.hp⟩/\ai ⟨c.ρ,c.X,tP c.h M esz els,c.hp⟩:=by
  obtain⟨g1,g2⟩:=dq hr (els.flatMap D.nm)
  have hM1:(c.h.freezeAll (els.flatMap D.nm)) M=.arr esz els:=by rw[jq _ hd.out,hM]
  have hlen:∀e∈els,e.cells.length=esz:=by
    have:=hr.slot M
    rw[hM]at this
    exact this.2.1
  have key:=Hq (c:=⟨c.ρ,c.X,c.h.freezeAll (els.flatMap D.nm),c.hp⟩) g2 (els':=els.map (D.fz c.h)) hM1 (by simp) (fun e he=>?_) (fun i j d h=>?_) (fun i j d' h=>?_)
  · exact⟨g1.trans key.1,key.2⟩
  · simp only[List.mem_map]at he
    obtain⟨x,hx,rfl⟩:=he
    rw[Au];exact hlen x hx
  · simp only[aD,List.getElem?_map,Option.bind_eq_some_iff,Option.map_eq_some_iff]at h
    obtain⟨e,⟨x,hx,rfl⟩,h2⟩:=h
    exact D.gr ((hd.el x (List.mem_of_getElem? hx)).2.2 d (List.mem_of_getElem? h2))
  · simp only[aD,List.getElem?_map,Option.bind_eq_some_iff,Option.map_eq_some_iff]at h
    obtain⟨e,⟨x,hx,rfl⟩,h2⟩:=h
    obtain⟨q1,q2,q3⟩:=hd.el x (List.mem_of_getElem? hx)
    rw[Iv,Option.map_eq_some_iff]at h2
    obtain⟨y,hy,rfl⟩:=h2
    refine⟨y,by simp[aD,hx,hy],fun v hv=>?_⟩
    have hym:=List.mem_of_getElem? hy
    have hre:∀n,((c.h.freezeAll (els.flatMap D.nm)) n).row=(c.h n).row:=fun n=>nS _ n
    have hy1:=q1 y hym
    have hyc:y.cells=[y]:=by cases y<;>first|rfl|cases hy1
    have hfz:y.fz c.h=y.fzc c.h:=by cases y<;>first|rfl|cases hy1
    have hnm:y.nm=y.iT:=by cases y<;>first|rfl|cases hy1
    have:=(yl (Ctx.le.refl _) g2 hv (fun z hz=>by rw[hyc]at hz;simp at hz;subst hz;exact hy1) (CM hre (fun z hz=>by rw[hyc]at hz;simp at hz;subst hz;exact q2 z hym)) (fun n esz' es hn hrow=>?_)).1
    · rw[GG hre,hfz]at this;exact this
    · rw[hre n]at hrow
      refine dZ _ hrow (List.mem_flatMap.2 ⟨x,List.mem_of_getElem? hx,?_⟩)
      rw[hnm]at hn
      cases x with
      | agg cs=>exact List.mem_flatMap.2 ⟨y,hym,hn⟩
      | _=>simp only[D.cells,List.mem_singleton]at hym;subst hym;exact hn
inductive Cm:Heap->Heap->Prop where
  | refl (h:Heap):Cm h h
  | step {h h':Heap}{M esz:Nat}{els:List D}(hM:h M=.arr esz els) (hd:Ck h M esz els) (k:Cm (tP h M esz els) h'):Cm h h'
theorem u0 {h h':Heap}(k:Cm h h'):∀{c:Ctx},c.h=h->ai c->c.le ⟨c.ρ,c.X,h',c.hp⟩/\ai ⟨c.ρ,c.X,h',c.hp⟩:=by
  induction k with
  | refl h=>intro c hc hr;subst hc;exact⟨Ctx.le.refl c,hr⟩
  | step hM hd _ ih =>
    intro c hc hr
    subst hc
    obtain⟨g1,g2⟩:=Bv hr hM hd
    obtain⟨g3,g4⟩:=ih (c:=⟨c.ρ,c.X,_,c.hp⟩) rfl g2
    exact⟨g1.trans g3,g4⟩
theorem Fo {f:FuncId}{ds:List D}{h h':Heap}{K:D->Heap->Prop}(k:Cm h h') (hc:af P f ds h' K):af P f ds h K:=by
  intro c w vals hh hp hr hs hrel
  obtain⟨g1,g2⟩:=u0 k hh hr
  refine(hc ⟨c.ρ,c.X,h',c.hp⟩ w vals rfl hp g2 hs (fun i d hi=>(hrel i d hi).mono g1)).mono ?_
  rintro e w' ⟨v,r,ρ,h'',r1,r2,r3,r4,r5,r6⟩
  exact⟨v,r,ρ,h'',r1,g1.trans r2,r3,r4,r5,r6⟩
theorem zj {f:FuncId}{ds:List D}{K:D->Prop}(ha:af P f ds fh (fun r h'=>∃h'',Cm h' h''/\hQ r/\pT h'' r/\(r.fzt h'').Cl=true/\K (r.fzt h''))):aO P f ds K:=by
  intro c w vals hh hp hr hs hrel
  have eF:c.h=fh:=funext hh
  have:=ha c w vals eF hp hr hs hrel
  refine this.mono ?_
  rintro e w' ⟨v,r,ρ,h',rfl,h1,h2,h3,h4,h'',hi,h5,h6,h7,h8⟩
  obtain⟨k1,k2⟩:=u0 hi (c:=⟨ρ,c.X,h',w'.heap⟩) rfl h2
  obtain⟨g1,g2⟩:=dq k2 r.nmt
  have hz:=D2 g1 g2 (h4.mono k1) h5 h6 (fun n esz els hn hrow=>dZ _ hrow hn)
  have hown:∀g,¬(⟨ρ,c.X,h''.freezeAll r.nmt,w'.heap⟩:Ctx).own g->¬(⟨c.ρ,c.X,c.h,w'.heap⟩:Ctx).own g:=by
    rintro g hn (hX|⟨n,hm,_⟩)
    · exact hn (Or.inl hX)
    · simp only[hh n]at hm;cases hm
  refine⟨v,r.fzt h'',rfl,?_,h3,ak.xo (c:=⟨ρ,c.X,h''.freezeAll r.nmt,w'.heap⟩) (c':=⟨c.ρ,c.X,c.h,w'.heap⟩) rfl hown hz h7,h7,h8⟩
  refine⟨h1.size,rfl,h1.aG,h1.shape,h1.loop,fun _ _=>rfl,fun _=>Trans.refl _,fun n g hm hρ _=>⟨n,hm,hρ⟩⟩
end Go.Am
namespace Go.Am
open Go
variable [bw]
variable {P:Program}
def CT (l:LH) (M:Nat) (els:List D):Bool:= !(els.flatMap D.nm).contains M&&els.all fun e=>fL e&&zD l e&&AX (e.fz l.h)
theorem E6 [LB] {l:LH}{M esz:Nat}{els:List D}(h:CT l M els=true):Ck l.w M esz els:=by
  simp only[CT,Bool.and_eq_true,Bool.not_eq_true',List.all_eq_true]at h
  refine⟨fun hm=>?_,fun e he=>?_⟩
  · have:(els.flatMap D.nm).contains M=true:=List.contains_iff_mem.2 hm
    rw[this]at h;exact absurd h.1 (by simp)
  · have:=h.2 e he
    exact⟨cg this.1.1,pC this.1.2,sP (by rw[<- CI];exact this.2)⟩
def innL (l:LH) (M:Nat):LH:=match l.h M with
  | .arr esz els=>if CT l M els then fDL (els.map (D.fz l.h)) fun els'=>(l.frzAll (els.flatMap D.nm)).set M (.arr esz els') else l
  | _=>l
theorem re:∀(ns:List Nat) (l:LH),(l.frzAll ns).length=l.length
  | [],_=>rfl
  | n::r,l=>by
    show((l.frz n).frzAll r).length=_
    rw[re r]
    unfold LH.frz
    split<;>simp
theorem Ip [LB] {l:LH}(hn:l.nf) (M:Nat):(innL l M).nf/\Cm l.w (innL l M).w:=by
  unfold innL
  split
  · rename_i esz els hM
    split
    · rename_i hd
      rw[lM,D3]
      obtain⟨a1,a2⟩:=LH.qh (els.flatMap D.nm) hn
      have hlt:M<(l.frzAll (els.flatMap D.nm)).length:=by rw[re];exact LH.wK (by rw[hM];simp)
      refine⟨LH.gC a2 (by simp),?_⟩
      rw[LH.qR _ rfl hlt,a1]
      exact .step (LH.jH hM rfl) (E6 hd) (.refl _)
    · exact⟨hn,.refl _⟩
  · exact⟨hn,.refl _⟩
theorem Cm.trans {a b c:Heap}(h:Cm a b) (k:Cm b c):Cm a c:=by
  induction h with
  | refl _=>exact k
  | step hM hd _ ih=>exact .step hM hd (ih k)
def yg:List Nat->LH->LH
  | [],l=>l
  | M::r,l=>yg r (innL l M)
theorem u4 [LB]:∀(ns:List Nat){l:LH},l.nf->(yg ns l).nf/\Cm l.w (yg ns l).w
  | [],_,hn=>⟨hn,.refl _⟩
  | M::r,l,hn=>by
    obtain⟨a1,a2⟩:=Ip hn M
    obtain⟨b1,b2⟩:=u4 r a1
    exact⟨b1,a2.trans b2⟩
def IH (l:LH):LH:=yg ((List.range l.length).reverse++(List.range l.length).reverse) l
structure zS (P:Program) (fs:FuncId->Option av) where
  a:∀f F,fs f=some F->∀ds K h,HE P F ds K h->af P f ds h K
  spec:FuncId->Option (List D->Option D)
  sp:∀f s,spec f=some s->∀ds r,s ds=some r->aO P f ds (· = r)
abbrev MV:=Nat->zc->FuncId->List D->LH->Option (D×LH)
def L2:zc:=fun _ _ _=>none
def tR:List Nat->LH->LH
  | [],l=>l
  | n::r,l=>tR r (match l.h n with|.arr e els=>l.set n (.frz e els)|_=>l)
theorem ym [LB]:∀(ns:List Nat){l:LH},l.nf->(tR ns l).nf/\(tR ns l).w=l.w.freezeAll ns
  | [],l,h=>⟨h,rfl⟩
  | n::r,l,h=>by
    have key:(LH.nf (match l.h n with|.arr e els=>l.set n (.frz e els)|_=>l))/\LH.w (match l.h n with|.arr e els=>l.set n (.frz e els)|_=>l)=l.w.freeze n:=by
      cases hs:l.h n with
      | arr e els =>
        have hw:=LH.jH hs rfl
        exact⟨LH.gC h (by simp),by rw[LH.qR _ rfl (LH.wK (by rw[hs];simp))];simp[Heap.freeze,hw]⟩
      | lp st B=>exact⟨h,by simp[Heap.freeze,LH.Cq hs]⟩
      | free=>exact⟨h,by simp[Heap.freeze,LH.jH hs rfl]⟩
      | dead=>exact⟨h,by simp[Heap.freeze,LH.jH hs rfl]⟩
      | box v=>exact⟨h,by simp[Heap.freeze,LH.jH hs rfl]⟩
      | frz e els=>exact⟨h,by simp[Heap.freeze,LH.jH hs rfl]⟩
      | map kt es=>exact⟨h,by simp[Heap.freeze,LH.jH hs rfl]⟩
    obtain⟨g1,g2⟩:=ym r key.1
    exact⟨g1,by show LH.w (tR r _)=_;rw[g2,key.2];rfl⟩
def evZ (s:List D->Option D) (ds:List D) (l:LH):Option (D×LH) :=
  if AF l ds then match s (ds.map (D.fz l.h)) with
    | some r=>if r.flat then none else fD r fun d=>some (d,tR (ds.flatMap D.nm) l)
    | none=>none
  else none
theorem GP [LB] {P:Program}{f:FuncId}{s:List D->Option D}(hs:∀ds r,s ds=some r->aO P f ds (· = r)){ds:List D}{l l':LH}{d:D}(h:evZ s ds l=some (d,l')) (hn:l.nf):l'.nf/\∀K:D->Heap->Prop,K d l'.w->af P f ds l.w K:=by
  unfold evZ at h
  split at h
  · rename_i hc
    have hok:=sC hc
    split at h
    · rename_i r hr
      split at h
      · cases h
      · rename_i hfl
        simp only[rj,Option.some.injEq,Prod.mk.injEq]at h
        obtain⟨rfl,rfl⟩:=h
        obtain⟨g1,g2⟩:=ym (ds.flatMap D.nm) hn
        refine⟨g1,fun K hk=>?_⟩
        have e:ds.map (D.fz l.h)=ds.map (D.fz l.w):=List.map_congr_left fun x _=>CI
        rw[e]at hr
        refine af.mono ?_ (dB (hs _ _ hr) hok)
        rintro r' h' ⟨hr',k1,k2⟩
        rw[hr']at k1 k2 ⊢
        rw[g2]at hk
        by_cases hnm:r.flat=true\/ds.flatMap D.nm=[]
        · have hnil:ds.flatMap D.nm=[]:=by rcases hnm with h0|h0;exact absurd h0 hfl;exact h0
          rw[k1 hnm];rw[hnil]at hk;exact hk
        · rw[k2 hnm];exact hk
    · cases h
  · cases h
theorem Di {P:Program}{f:FuncId}{ds:List D}{h h'':Heap}{K:D->Heap->Prop}(hi:Cm h h'') (hc:af P f ds h'' K):af P f ds h K:=by
  intro c w vals hh hp hr hs hrel
  obtain⟨g1,g2⟩:=u0 hi hh hr
  refine(hc ⟨c.ρ,c.X,h'',c.hp⟩ w vals rfl hp g2 hs (fun i d hi=>(hrel i d hi).mono g1)).mono ?_
  rintro e w' ⟨v,r,ρ,h',r1,r2,r3,r4,r5,r6⟩
  exact⟨v,r,ρ,h',r1,g1.trans r2,r3,r4,r5,r6⟩
def evZ2 (s:List D->Option D) (ds:List D) (l:LH):Option (D×LH):=match evZ s ds l with
  | some q=>some q
  | none=>evZ s ds (yg (ds.flatMap D.nm) l)
theorem IC [LB] {P:Program}{f:FuncId}{s:List D->Option D}(hs:∀ds r,s ds=some r->aO P f ds (· = r)){ds:List D}{l l':LH}{d:D}(h:evZ2 s ds l=some (d,l')) (hn:l.nf):l'.nf/\∀K:D->Heap->Prop,K d l'.w->af P f ds l.w K:=by
  unfold evZ2 at h
  split at h
  · rename_i q hq
    cases h
    exact GP hs hq hn
  · obtain⟨a1,a2⟩:=u4 (ds.flatMap D.nm) hn
    obtain⟨b1,b2⟩:=GP hs h a1
    exact⟨b1,fun K hk=>Di a2 (b2 K hk)⟩
def evPures2 (spec:FuncId->Option (List D->Option D)) (own:FuncId->Bool) (run:MV) (k:Nat) (Y:zc):fX where
  call f ds l:=match spec f with
    | none=>run k Y f ds l
    | some s=>match evZ2 s ds l with
      | some q=>some q
      | none=>run k Y f ds l
  vcall f ds:=match spec f with
    | some s=>match s ds with
      | some r=>fD r fun d=>some d
      | none=>none
    | none=>match run 0 L2 f ds [] with
      | some (r,l)=>match IH l with
        | l'=>if Cf r&&GH l' r&&(r.fzt l'.h).Cl then fD (r.fzt l'.h) fun d=>some d else none
      | none=>none
  own:=own
  yld:=Y
  k:=k
  callR:=run
def evF2 (P:Program) (fs:FuncId->Option av) (spec:FuncId->Option (List D->Option D)) (own:FuncId->Bool) (N:Nat):Nat->MV
  | 0,_,_,_,_,_=>none
  | n+1,k,Y,f,ds,l=>match fs f with
      | none=>none
      | some F=>if ds.length<=F.nt then
          match evC P (evPures2 spec own (evF2 P fs spec own N n) k Y) N F.code (params ds 0) l with
          | some (x,e,l')=>match x with
            | .exit _=>none
            | .pan=>none
            | .jump _=>none
            | .normal=>match D9 F.res e l' with
              | some d=>fD d fun d=>some (d,l')
              | none=>none
            | .ret=>match D9 F.res e l' with
              | some d=>fD d fun d=>some (d,l')
              | none=>none
          | none=>none
        else none
def JB (P:Program) (run:MV):Prop:=∀k Y b,JA P Y k b->∀f ds l d l',run k Y f ds l=some (d,l')->l.nf->l'.nf/\∀K:D->Heap->Prop,K d (LH.wb b l')->af P f ds (LH.wb b l) K
theorem JA.NI {Y:zc}{k:Nat}{b b':Nat->bq}(h:JA P Y k b) (ha:Hv k b' b):JA P Y k b':=fun b1 h1=>h b1 fun m hm=>(h1 m hm).trans (ha m hm)
theorem Gr {k:Nat}{b:Nat->bq}:JA P L2 k b:=fun _ _ _ _ _ _ _ h=>by cases h
theorem v7 {fs:FuncId->Option av}(tab:zS P fs){own:FuncId->Bool}{run:MV}(hr:JB P run){k:Nat}{Y:zc}{b0:Nat->bq}(hY:JA P Y k b0):Hu P (evPures2 tab.spec own run k Y) b0:=by
  have sp:∀f ds r s,tab.spec f=some s->(evPures2 tab.spec own run k Y).vcall f ds=some r->aO P f ds (· = r):=by
    intro f ds r s hs h
    simp only[evPures2,hs]at h
    cases hr:s ds with
    | none=>rw[hr]at h;cases h
    | some d =>
      rw[hr]at h
      simp only[rj]at h
      cases h
      exact tab.sp f s hs ds r hr
  refine⟨fun b hb=>?_,fun b hb k' Y' hk hY'=>hr k' Y' b hY'⟩
  letI:LB:=⟨b⟩
  refine⟨fun f ds l d l' h hn=>?_,fun n ds l d l' h hn=>(hY.NI hb) b (fun _ _=>rfl) n ds l d l' h hn,fun f ds r h=>?_⟩
  · cases hs:tab.spec f with
    | none =>
      simp only[evPures2,hs]at h
      exact hr k Y b (hY.NI hb) f ds l d l' h hn
    | some s =>
      simp only[evPures2,hs]at h
      cases hz:evZ2 s ds l with
      | none=>rw[hz]at h;exact hr k Y b (hY.NI hb) f ds l d l' h hn
      | some q =>
        rw[hz]at h
        cases h
        exact IC (fun ds r h=>tab.sp f s hs ds r h) hz hn
  cases hs:tab.spec f with
  | some s=>exact sp f ds r s hs h
  | none =>
    simp only[evPures2,hs]at h
    cases hq:run 0 L2 f ds [] with
    | none=>rw[hq]at h;cases h
    | some q =>
      obtain⟨d,l'⟩:=q
      rw[hq]at h
      simp only[rj]at h
      split at h
      · rename_i hc
        simp only[Bool.and_eq_true]at hc
        cases h
        obtain⟨g1,g2⟩:=hr 0 L2 b Gr f ds [] d l' hq (fun s hs=>by cases hs)
        obtain⟨d1,d2⟩:=u4 ((List.range l'.length).reverse++(List.range l'.length).reverse) g1
        refine zj ?_
        have e0:(fh:Heap)=LH.wb b []:=by funext n;simp[fh,LH.wb,LH.w,Slot.wb]
        rw[e0]
        refine g2 _ ⟨_,d2,Ce hc.1.1,EZ hc.1.2,?_,?_⟩
        · have:=hc.2;rw[Js]at this;exact this
        · rw[Js];rfl
      · cases h
theorem ID {fs:FuncId->Option av}(tab:zS P fs) (own:FuncId->Bool) (N:Nat):∀n,JB P (evF2 P fs tab.spec own N n):=by
  intro n
  induction n with
  | zero=>intro k Y b hY f ds l d l' h;cases h
  | succ n ih =>
    intro k Y b hY f ds l d l' h hn
    simp only[evF2]at h
    cases hf:fs f with
    | none=>rw[hf]at h;cases h
    | some F =>
      rw[hf]at h
      simp only at h
      split at h
      · rename_i hlen
        cases hr:evC P (evPures2 tab.spec own (evF2 P fs tab.spec own N n) k Y) N F.code (params ds 0) l with
        | none=>rw[hr]at h;cases h
        | some q =>
          obtain⟨x,e,l1⟩:=q
          rw[hr]at h
          letI:LB:=⟨b⟩
          obtain⟨g1,g2⟩:=KU (v7 tab ih hY) N F.code b (fun _ _=>rfl) _ _ _ _ _ hr hn
          cases x<;>simp only at h<;>try (cases h;done)
          all_goals
            cases hq:D9 F.res e l1 with
            | none=>rw[hq]at h;cases h
            | some d1 =>
              rw[hq]at h
              simp only[rj]at h
              cases h
              exact⟨g1,fun K hk=>tab.a f F hf ds K _ ⟨hlen,g2 _ (GR hq hk)⟩⟩
      · cases h
def Ny {fs:FuncId->Option av}(tab:zS P fs) (own:FuncId->Bool) (N n:Nat) (f:FuncId) (ds:List D):Option D:=(evPures2 tab.spec own (evF2 P fs tab.spec own N n) 0 L2).vcall f ds
theorem zk {fs:FuncId->Option av}(tab:zS P fs) (own:FuncId->Bool) (N n:Nat){f:FuncId}{ds:List D}{r:D}
    (h:(Ny tab own N n f ds).any (D.same r)=true):aO P f ds (· = r):=by
  cases hv:Ny tab own N n f ds with
  | none=>rw[hv]at h;cases h
  | some r' =>
    rw[hv]at h
    simp only[Option.any_some]at h
    rw[D.m8 _ _ h]
    letI:LB:=⟨fun _=>DS⟩
    exact((v7 tab (own:=own) (ID tab own N n) (b0:=fun _=>DS) Gr).ok (fun _=>DS) (fun _ _=>rfl)).vcall f ds r' hv
end Go.Am
namespace Go.Am
open Go
variable [bw]
variable {P:Program}
inductive Wk:D->D->Prop where
  | refl (d:D):Wk d d
  | nil:Wk .nil (.sl [])
  | sl (xs ys:List D) (hl:xs.length=ys.length) (h:∀(i:Nat) (x y:D),xs[i]?=some x->ys[i]?=some y->Wk x y):Wk (.sl xs) (.sl ys)
  | agg (xs ys:List D) (hl:xs.length=ys.length) (h:∀(i:Nat) (x y:D),xs[i]?=some x->ys[i]?=some y->Wk x y):Wk (.agg xs) (.agg ys)
  | tup (xs ys:List D) (hl:xs.length=ys.length) (h:∀(i:Nat) (x y:D),xs[i]?=some x->ys[i]?=some y->Wk x y):Wk (.tup xs) (.tup ys)
theorem Wk.one {d d':D}(h:Wk d d'):d'.one=d.one:=by cases h<;>rfl
theorem Wk.vone {d d':D}(h:Wk d d'):d'.vone=d.vone:=by cases h<;>rfl
theorem Wk.Lf {xs:List D}{y:D}(h:Wk (.agg xs) y):∃ys,y=.agg ys/\xs.length=ys.length/\∀(i:Nat) (x y:D),xs[i]?=some x->ys[i]?=some y->Wk x y:=by
  cases h with
  | refl=>exact⟨xs,rfl,rfl,fun i x y h1 h2=>by rw[h1]at h2;cases h2;exact .refl _⟩
  | agg _ ys hl h=>exact⟨ys,rfl,hl,h⟩
theorem Wk.cells {e e':D}(h:Wk e e'):e.cells.length=e'.cells.length:=by
  cases h with
  | agg xs ys hl h=>exact hl
  | _=>rfl
theorem Wk.isAgg {e e':D}(h:Wk e e'):e'.isAgg=e.isAgg:=by cases h<;>rfl
theorem tU {e:D}(h:e.isAgg=false):e.cells=[e]:=by cases e<;>first|rfl|cases h
theorem kZ {α:Type}{xs ys:List α}(hl:xs.length=ys.length){i:Nat}{y:α}(hy:ys[i]?=some y):∃x,xs[i]?=some x:=by
  have:=(List.getElem?_eq_some_iff.1 hy).1
  exact⟨xs[i]'(by omega),List.getElem?_eq_getElem (by omega)⟩
theorem Co {c:Ctx}{d d':D}(h:Wk d d'):∀v,ak c d v->ak c d' v:=by
  induction h with
  | refl d=>exact fun v hv=>hv
  | nil=>intro v hv;cases hv;exact .mL none 0 (by simp[maxLen])
  | agg xs ys hl h ih =>
    intro v hv
    cases hv with
    | agg _ vs hsz hone hrel =>
      refine .agg ys vs (by omega) (fun i d hd=>?_) (fun i d hd=>?_)
      · obtain⟨x,hx⟩:=kZ hl hd
        rw[(h i x d hx hd).one];exact hone i x hx
      · obtain⟨x,hx⟩:=kZ hl hd
        exact ih i x d hx hd _ (hrel i x hx)
  | tup xs ys hl h ih =>
    intro v hv
    cases hv with
    | tup _ vs hsz hrel =>
      refine .tup ys vs (by omega) (fun i d hd=>?_)
      obtain⟨x,hx⟩:=kZ hl hd
      exact ih i x d hx hd _ (hrel i x hx)
  | sl xs ys hl h ih =>
    intro v hv
    cases hv with
    | mL p cap hm =>
      have:ys=[]:=List.length_eq_zero_iff.1 hl.symm
      subst this
      exact .mL p cap hm
    | sl _ b o cap esz f hne hc hm he hlen hone hcell hown hrel =>
      have key:∀i j d',aD ys i j=some d'->∃d,aD xs i j=some d/\d'.vone=true/\ak c d' (f i j):=by
        intro i j d' hd'
        simp only[aD,Option.bind_eq_some_iff]at hd'
        obtain⟨y,hy,hj⟩:=hd'
        obtain⟨x,hx⟩:=kZ hl hy
        have hw:=h i x y hx hy
        by_cases ha:x.isAgg=true
        · cases x with
          | agg cs =>
            obtain⟨cs',rfl,hcl,hcw⟩:=hw.Lf
            simp only[D.cells]at hj
            obtain⟨a,haj⟩:=kZ hcl hj
            have hin:∀k z,cs[k]?=some z->aD xs i k=some z:=fun k z hz=>by simp[aD,hx,D.cells,hz]
            have hr:ak c (.agg cs) (.agg ((List.range cs.length).map (f i)).toArray):=by
              refine .agg _ _ (by simp) (fun k z hz=>D.gr (hone i k z (hin k z hz))) (fun k z hz=>?_)
              have hk:=(List.getElem?_eq_some_iff.1 hz).1
              have:((List.range cs.length).map (f i)).toArray.getD k Go.undef=f i k:=by simp[Array.getD,hk]
              rw[this];exact hrel i k z (hin k z hz)
            have hr':=ih i _ _ hx hy _ hr
            refine⟨a,hin j a haj,?_,?_⟩
            · rw[(hcw j a d' haj hj).vone];exact hone i j a (hin j a haj)
            · cases hr' with
              | agg _ _ _ _ hrel' =>
                have hk:=(List.getElem?_eq_some_iff.1 hj).1
                have:=hrel' j d' hj
                have e:((List.range cs.length).map (f i)).toArray.getD j Go.undef=f i j:=by simp[Array.getD,show j<cs.length by omega]
                rw[e]at this;exact this
          | _=>cases ha
        · have ha:x.isAgg=false:=by simpa using ha
          have hc1:=tU ha
          have hc2:=tU (hw.isAgg.trans ha)
          rw[hc2]at hj
          cases j with
          | succ j=>simp at hj
          | zero =>
            simp at hj;subst hj
            have hin:aD xs i 0=some x:=by simp[aD,hx,hc1]
            exact⟨x,hin,by rw[hw.vone];exact hone i 0 x hin,ih i x y hx hy _ (hrel i 0 x hin)⟩
      rw[hl]
      refine .sl ys b o cap esz f (fun e=>hne (by subst e;exact List.length_eq_zero_iff.1 hl)) (by omega) hm he (fun y hy=>?_) (fun i j d' hd'=>(key i j d' hd').choose_spec.2.1) (fun i j d' hd'=>?_) hown (fun i j d' hd'=>(key i j d' hd').choose_spec.2.2)
      · obtain⟨i,hi⟩:=List.getElem?_of_mem hy
        obtain⟨x,hx⟩:=kZ hl hi
        rw[<- (h i x y hx hi).cells];exact hlen x (List.mem_of_getElem? hx)
      · obtain⟨d,hd,-⟩:=key i j d' hd'
        exact hcell i j d hd
theorem aO.wk {f:FuncId}{ds:List D}{K K':D->Prop}(hc:aO P f ds K) (hk:∀r,K r->∃r',Wk r r'/\r'.Cl=true/\K' r'):aO P f ds K':=by
  intro c w vals hh hp hr hs hv
  refine(hc c w vals hh hp hr hs hv).mono ?_
  rintro e w' ⟨v,r,r1,r2,r3,r4,r5,r6⟩
  obtain⟨r',h1,h2,h3⟩:=hk r r6
  exact⟨v,r',r1,r2,r3,Co h1 v r4,h2,h3⟩
inductive Er:List D->List D->Prop where
  | nil:Er [] []
  | cons {x y:D}{xs ys:List D}(h:Wk x y) (k:Er xs ys):Er (x::xs) (y::ys)
theorem Er.get {xs ys:List D}(h:Er xs ys):xs.length=ys.length/\∀(i:Nat) (x y:D),xs[i]?=some x->ys[i]?=some y->Wk x y:=by
  induction h with
  | nil=>exact⟨rfl,fun i x y h=>by simp at h⟩
  | cons h k ih =>
    refine⟨by simp[ih.1],fun i x y h1 h2=>?_⟩
    cases i with
    | zero=>simp at h1 h2;subst h1 h2;exact h
    | succ i=>exact ih.2 i x y (by simpa using h1) (by simpa using h2)
theorem aO.arg {f:FuncId}{ds ds':List D}{K:D->Prop}(hw:Er ds ds') (hc:aO P f ds' K):aO P f ds K:=by
  intro c w vals hh hp hr hs hv
  obtain⟨hl,hw⟩:=hw.get
  refine hc c w vals hh hp hr (by omega) fun i d hd=>?_
  obtain⟨x,hx⟩:=kZ hl hd
  exact Co (hw i x d hx hd) _ (hv i x hx)
theorem af.arg {f:FuncId}{ds ds':List D}{h:Heap}{K:D->Heap->Prop}(hw:Er ds ds') (hc:af P f ds' h K):af P f ds h K:=by
  intro c w vals hh hp hr hs hv
  obtain⟨hl,hw⟩:=hw.get
  refine hc c w vals hh hp hr (by omega) fun i d hd=>?_
  obtain⟨x,hx⟩:=kZ hl hd
  exact Co (hw i x d hx hd) _ (hv i x hx)
theorem Wk.I8 {xs ys:List D}(h:Er xs ys):Wk (.agg xs) (.agg ys):=.agg _ _ h.get.1 h.get.2
theorem Er.rfl:∀{xs:List D},Er xs xs
  | []=>.nil
  | x::r=>.cons (.refl x) Er.rfl
end Go.Am
namespace Go.Am
open Go
variable [bw]
structure er where
  kind:Int
  n:Int
  v:Int
deriving DecidableEq,Inhabited
structure bg where
  op:Int
  sub:Int
  n:Int
  d:er
  a:er
  b:er
  c:er
deriving DecidableEq,Inhabited
structure Term where
  kind:Int
  sub:Int
  d:er
  a:er
  b:er
  to0:Int
  to1:Int
deriving DecidableEq,Inhabited
structure Block where
  i:List bg
  t:Term
deriving DecidableEq,Inhabited
structure vG where
  name:ByteArray
  space:Int
  type:Int
  len:Int
structure Loop where
  head:Int
  reg:Int
  bound:Int
deriving DecidableEq,Inhabited
structure Code where
  group:Int
  sub:Int
  regs:Int
  slots:Int
  params:Int
  arrays:List vG
  loops:List Loop
  b:List Block
def an:er:=⟨0,0,0⟩
def iw:Term:=⟨0,0,an,an,an,0,0⟩
def gk (n:Int):er:=⟨2,n,0⟩
def Const (v:Int):er:=⟨1,0,v⟩
def er.cs (o:er):List D:=[.int .i64 o.kind,.int .i64 o.n,.int .i32 o.v]
def er.e (o:er):D:=.agg o.cs
def bg.cs (x:bg):List D :=
  [.int .i64 x.op,.int .i64 x.sub,.int .i64 x.n,.int .i64 x.d.kind,.int .i64 x.d.n,.int .i32 x.d.v,.int .i64 x.a.kind,.int .i64 x.a.n,.int .i32 x.a.v,
   .int .i64 x.b.kind,.int .i64 x.b.n,.int .i32 x.b.v,.int .i64 x.c.kind,.int .i64 x.c.n,.int .i32 x.c.v]
def bg.e (x:bg):D:=.agg x.cs
def Term.cs (t:Term):List D :=
  [.int .i64 t.kind,.int .i64 t.sub,.int .i64 t.d.kind,.int .i64 t.d.n,.int .i32 t.d.v,.int .i64 t.a.kind,.int .i64 t.a.n,.int .i32 t.a.v,
   .int .i64 t.b.kind,.int .i64 t.b.n,.int .i32 t.b.v,.int .i64 t.to0,.int .i64 t.to1]
def Term.e (t:Term):D:=.agg t.cs
def Block.e (x:Block):D:=.agg (.sl (x.i.map bg.e)::x.t.cs)
def vG.e (x:vG):D:=.agg [.str x.name,.int .i64 x.space,.int .i64 x.type,.int .i64 x.len]
def Loop.e (x:Loop):D:=.agg [.int .i64 x.head,.int .i64 x.reg,.int .i64 x.bound]
def Code.e (c:Code):D :=
  .agg [.int .i64 c.group,.int .i64 c.sub,.int .i64 c.regs,.int .i64 c.slots,.int .i64 c.params,.sl (c.arrays.map vG.e),.sl (c.loops.map Loop.e),.sl (c.b.map Block.e)]
structure wy (d:D):Prop where
  vd:d.vd=true
  one:aH d
theorem wy.pair {d:D}(h:wy d):d.vd=true/\aH d:=⟨h.vd,h.one⟩
theorem aV {k:IntKind}{n:Int}:wy (.int k n):=⟨rfl,by simp⟩
theorem GX {b:Bool}:wy (.bool b):=⟨rfl,by simp⟩
theorem CU {xs:List D}:wy (.sl xs):=⟨rfl,by simp⟩
theorem eW {cs:List D}(h:∀x∈cs,x.vone=true):wy (.agg cs):=⟨by simpa[D.vd] using h,fun x hx=>D.gr (h x hx)⟩
theorem er.nT (o:er):wy o.e:=eW (by simp[er.cs])
theorem bg.nT (o:bg):wy o.e:=eW (by simp[bg.cs])
theorem Term.nT (o:Term):wy o.e:=eW (by simp[Term.cs])
theorem Block.nT (o:Block):wy o.e:=eW (by simp[Term.cs])
theorem vG.nT (o:vG):wy o.e:=eW (by simp)
theorem Loop.nT (o:Loop):wy o.e:=eW (by simp)
theorem Code.nT (o:Code):wy o.e:=eW (by simp)
def Fp:List D->Prop
  | []=>True
  | d::r=>wy d/\Fp r
theorem Fp.all:∀{ds:List D},Fp ds->∀d∈ds,d.vd=true/\aH d
  | [],_,d,h=>by cases h
  | x::r,hd,d,h=>by
    rcases List.mem_cons.1 h with rfl|h
    · exact hd.1.pair
    · exact Fp.all hd.2 d h
theorem eh {P:Program}{f:FuncId}{ds:List D}{h:Heap}{KH:D->Heap->Prop}{r:D}(hv:aO P f ds (· = r)) (hds:Fp ds) (hk:KH r h):af P f ds h KH:=fS hv hds.all (by rintro _ rfl;exact hk)
theorem zZ {P:Program}{f:FuncId}{as:List Arg}{h:Heap}{K:D->Prop}{r:D}(hv:aO P f (as.map (·.get [])) (· = r)) (hds:Fp (as.map (·.get []))) (hk:K r):ae P (.call f as) h K:=GZ hv hds.all hk
theorem AU {d:D}{h:Heap}{K:D->Prop}(hd:wy d) (hk:K d):lQ K d h:=HC hd.pair hk
end Go.Am
namespace Go.Am
open Go
variable [bw]
variable {P:Program}{KH:D->Heap->Prop}{K:D->Prop}{h:Heap}
theorem Nm {A:(D->Heap->Prop)->Prop}:vguard (.bool true) true A h KH=A KH:=by rw[xk];simp
theorem Nq {A:(D->Heap->Prop)->Prop}:vguard (.bool false) false A h KH=A KH:=by rw[xk];simp
theorem Nn {A:(D->Heap->Prop)->Prop}:vguard (.bool true) false A h KH=KH gU h:=by rw[xk];simp
theorem Np {A:(D->Heap->Prop)->Prop}:vguard (.bool false) true A h KH=KH gU h:=by rw[xk];simp
theorem Mi {A:(D->Prop)->Prop}:ba (.bool true) true A K=A K:=by rw[sS];simp
theorem Nv {A:(D->Prop)->Prop}:ba (.bool false) false A K=A K:=by rw[sS];simp
theorem Nu {A:(D->Prop)->Prop}:ba (.bool true) false A K=K gU:=by rw[sS];simp
theorem Mj {A:(D->Prop)->Prop}:ba (.bool false) true A K=K gU:=by rw[sS];simp
theorem Bh {x y:D}:aa P (.pick (.c (.bool true)) (.c x) (.c y)) h KH=KH x h:=rfl
theorem Gd {x y:D}:aa P (.pick (.c (.bool false)) (.c x) (.c y)) h KH=KH y h:=rfl
theorem H7 {KK:D->Prop}:vun .not (.bool true) KK=KK (.bool false):=rfl
theorem H8 {KK:D->Prop}:vun .not (.bool false) KK=KK (.bool true):=rfl
theorem Fq {n j s:Nat}{cs:List D}{d:D}(a:h n=.box (.agg cs)) (hj:cs[j]?=some d):aa P (.ld (.c (.ptr n 0 j)) s false) h KH=KH d h:=by
  rw[u6,a];simp[ec,hj]
theorem pH {n j s:Nat}{cs:List D}{d:D}(a:h n=.box (.agg cs)) (hj:cs[j]?=some d):ae P (.ld (.c (.ptr n 0 j)) s false) h K=K d:=by
  rw[qH,Fq a hj]
theorem uZ {n:Nat}{cs:List D}(a:h n=.box (.agg cs)):aa P (.ld (.c (.ptr n 0 0)) cs.length true) h KH=KH (.agg cs) h:=by
  rw[u6,a];simp[qb]
theorem N2 {n j s:Nat}{cs:List D}(a:h n=.box (.agg cs)) (hj:j+s<=cs.length):aa P (.ld (.c (.ptr n 0 j)) s true) h KH=KH (.agg ((cs.drop j).take s)) h:=by
  rw[u6,a];simp[qb,hj]
theorem Jh {n:Nat}{x y z p q r:D}(a:h n=.box (.agg [x,y,z])) (h1:p.one=true) (h2:q.one=true) (h3:r.one=true) :
    aa P (.st (.c (.ptr n 0 0)) (.c (.agg [p,q,r])) 3) h KH=KH .undef (aj h n (.box (.agg [p,q,r]))):=by
  rw[jS,a]
  apply propext
  constructor
  · exact fun hh=>by simpa using hh.2.2
  · intro hk
    refine⟨rfl,fun w hw=>?_,rfl,by simp,by simpa using hk⟩
    simp at hw;rcases hw with rfl|rfl|rfl<;>assumption
theorem M6 {n:Nat}{x y z:D}{k1 k2 k3:IntKind}{p q r:Int}(a:h n=.box (.agg [x,y,z])) :
    aa P (.st (.c (.ptr n 0 0)) (.c (.agg [.int k1 p,.int k2 q,.int k3 r])) 3) h KH=KH .undef (aj h n (.box (.agg [.int k1 p,.int k2 q,.int k3 r]))):=Jh a rfl rfl rfl
theorem NG {x y:D}{p q:Int}:aa P (.bld [x,y] [(0,1,(.c (.int .i64 p))),(1,1,(.c (.int .i64 q)))]) h KH=KH (.agg [.int .i64 p,.int .i64 q]) h:=by
  rw[nR]
  simp[gN,fillD]
theorem MC {x y z:D}{p q:Int}:aa P (.bld [x,y,z] [(0,1,(.c (.int .i64 p))),(1,1,(.c (.int .i64 q)))]) h KH=KH (.agg [.int .i64 p,.int .i64 q,z]) h:=by
  rw[nR]
  simp[gN,fillD]
theorem NF {x y z:D}{p q r:Int}:aa P (.bld [x,y,z] [(0,1,(.c (.int .i64 p))),(1,1,(.c (.int .i64 q))),(2,1,(.c (.int .i64 r)))]) h KH=KH (.agg [.int .i64 p,.int .i64 q,.int .i64 r]) h:=by
  rw[nR]
  simp[gN,fillD]
theorem NC {z:List D}:aa P (.bld z []) h KH=KH (.agg z) h:=by
  rw[nR]
  simp[gN,fillD]
theorem IB {x:D}{r:List D}:aa P (.ext (.c (.tup (x::r))) 0) h KH=KH x h:=rfl
theorem IA {x y:D}{r:List D}:aa P (.ext (.c (.tup (x::y::r))) 1) h KH=KH y h:=rfl
theorem Nx {x y z:D}{r:List D}:aa P (.ext (.c (.tup (x::y::z::r))) 2) h KH=KH z h:=rfl
theorem Mt {x:D}{r:List D}:ae P (.ext (.c (.tup (x::r))) 0) h K=K x:=rfl
theorem Ms {x y:D}{r:List D}:ae P (.ext (.c (.tup (x::y::r))) 1) h K=K y:=rfl
theorem Fx {ds:List D}{h:Heap}{K:D->Prop}(hd:∀d∈ds,d.vd=true/\aH d) (hk:K (.tup ds)):lQ K (.tup ds) h:=by
  have one:∀d∈ds,d.fz h=d/\kF h d:=by
    intro d hdm
    obtain⟨h1,h2⟩:=hd d hdm
    obtain⟨a1,a2,a3⟩:=xA (h:=h) h1
    exact⟨a1,a3⟩
  have e:(D.tup ds).fzt h=.tup ds:=by
    simp only[D.fzt]
    rw[List.map_congr_left (fun d hdm=>(one d hdm).1)]
    simp
  refine⟨fun d hdm=>(hd d hdm).2,fun d hdm=>(one d hdm).2,?_,by rw[e];exact hk⟩
  rw[e]
  simp only[D.Cl,List.all_eq_true]
  exact fun d hdm=>(hd d hdm).1
section
variable {k:IntKind}{a b:Int}
theorem N0 (h0:a<=b):vbin .leq (.int k a) (.int k b) K=K (.bool true):=by rw[Jf];simp[h0]
theorem N1 (h0:b<a):vbin .leq (.int k a) (.int k b) K=K (.bool false):=by rw[Jf];simp[show ¬a<=b by omega]
theorem Il (h0:a<b):vbin .lss (.int k a) (.int k b) K=K (.bool true):=by rw[nI];simp[h0]
theorem Im (h0:b<=a):vbin .lss (.int k a) (.int k b) K=K (.bool false):=by rw[nI];simp[show ¬a<b by omega]
theorem NQ (h0:b<a):vbin .gtr (.int k a) (.int k b) K=K (.bool true):=by rw[qS];simp[h0]
theorem NR (h0:a<=b):vbin .gtr (.int k a) (.int k b) K=K (.bool false):=by rw[qS];simp[show ¬b<a by omega]
theorem Nr (h0:b<=a):vbin .geq (.int k a) (.int k b) K=K (.bool true):=by rw[FE];simp[h0]
theorem Ns (h0:a<b):vbin .geq (.int k a) (.int k b) K=K (.bool false):=by rw[FE];simp[show ¬b<=a by omega]
theorem Mo (h0:a=b):vbin .eql (.int k a) (.int k b) K=K (.bool true):=by rw[eg];simp[h0]
theorem MU (h0:a≠b):vbin .eql (.int k a) (.int k b) K=K (.bool false):=by rw[eg];simp[h0]
theorem NN (h0:a≠b):vbin .neq (.int k a) (.int k b) K=K (.bool true):=by rw[Dv];simp[h0]
theorem Lo (h0:a=b):vbin .neq (.int k a) (.int k b) K=K (.bool false):=by rw[Dv];simp[h0]
theorem oC (h1 : -9223372036854775808<=a+b) (h2:a+b<=9223372036854775807):vbin .add (.int .i64 a) (.int .i64 b) K=K (.int .i64 (a+b)):=by rw[dE,wrap64 h1 h2]
theorem JU (h1 : -9223372036854775808<=a-b) (h2:a-b<=9223372036854775807):vbin .sub (.int .i64 a) (.int .i64 b) K=K (.int .i64 (a-b)):=by rw[kd,wrap64 h1 h2]
theorem Nd (h1 : -9223372036854775808<=a*b) (h2:a*b<=9223372036854775807):vbin .mul (.int .i64 a) (.int .i64 b) K=K (.int .i64 (a*b)):=by rw[Dw,wrap64 h1 h2]
theorem Kg (h1:b≠0):vbin .rem (.int k a) (.int k b) K=K (.int k (a.tmod b)):=by rw[cq];simp[h1]
theorem Nc (h1 : -9223372036854775808<=0-a) (h2:0-a<=9223372036854775807):vun .neg (.int .i64 a) K=K (.int .i64 (0-a)):=by rw[Lt,wrap64 h1 h2]
end
def gS:=And.intro @Nm<|And.intro @Nq<|And.intro @Nn<|And.intro @Np<|And.intro @A7<|And.intro @Mi<|And.intro @Nv<|And.intro @Nu<|And.intro @Mj<|And.intro @zl<|And.intro @Bh<|And.intro @Gd<|And.intro @H7<|And.intro @H8<|And.intro @aF<|And.intro @aC<|And.intro @IB<|And.intro @IA<|And.intro @Nx<|And.intro @NG<|And.intro @NF<|And.intro @MC<|And.intro @NC<|And.intro @Mt @Ms
def cS:=And.intro @N0<|And.intro @N1<|And.intro @Il<|And.intro @Im<|And.intro @NQ<|And.intro @NR<|And.intro @Nr<|And.intro @Ns<|And.intro @Mo<|And.intro @MU<|And.intro @NN<|And.intro @Lo<|And.intro @oC<|And.intro @JU<|And.intro @Nd<|And.intro @Kg @Nc
end Go.Am
