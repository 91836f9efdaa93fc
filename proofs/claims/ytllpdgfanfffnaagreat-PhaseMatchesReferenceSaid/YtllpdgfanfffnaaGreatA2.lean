/- The abstract machine: what the operations of the program do, on plain data. No condition. -/
import Derived.OpenShut
import Derived.ReadAgain
import Derived.RowKit
import Derived.Test.YtllpdgfanfffnaaGreatA1
set_option linter.unnecessarySimpa false
set_option linter.defProp false
set_option linter.unusedSectionVars false
set_option linter.unusedSimpArgs false
set_option linter.unusedVariables false
namespace Go.Am
open Go
variable [ca]
variable {P:Program}
inductive RV where
 | t (i:Nat)
 | cell (i size:Nat) (agg:Bool)
structure aN where
 nt:Nat
 code:ACode
 res:List RV
def S9 (P:Program) (r:RV) (e:LEnv) (h:Heap) (K:D->Prop):Prop :=
 match r with
 | .t i=>K (e.get i)
 | .cell i size agg=>vcOp P (.ld (.t i) size agg) (λ d _=>K d) e h
def vcRess (P:Program):List RV->LEnv->Heap->(List D->Prop)->Prop
 | [],_,_,K=>K []
 | r::s,e,h,K=>S9 P r e h λ d=>vcRess P s e h λ ds=>K (d::ds)
def K1 (P:Program) (rs:List RV) (K:HKq) (e:LEnv) (h:Heap):Prop :=
 match rs with
 | [r]=>S9 P r e h (K · h)
 | rs=>vcRess P rs e h λ ds=>K (.tup ds) h
def params:List D->Nat->LEnv
 | [],_=>[]
 | d::r,i=>(i,d)::params r (i+1)
def YX (P:Program) (F:aN) (ds:List D) (K:HKq) (h:Heap):Prop :=
 ds.length<=F.nt/\vcC P F.code (λ x e h'=>match x with
  | .exit _=>False
  | .pan=>False
  | .jump _=>False
  | _=>K1 P F.res K e h') (params ds 0) h
def cRes (P:Program):ResultVar->Option RV
 | .tmp i=>some (.t i)
 | .cell i t=>match cTy P t with
  | some (n,b)=>some (.cell i n b)
  | none=>none
def cFn (P:Program) (fz:Bool) (f:FuncId) (loops:TLq) (dr:Nat->Array Oper->Option ACode):Option aN :=
 match P.funcs[f]? with
 | some fn=>match fn.body with
  | some body=>match cCode P fz fn.ntmps loops dr body,fn.results.toList.mapM (cRes P) with
   | some code,some res=>some ⟨fn.ntmps,code,res⟩
   | _,_=>none
  | none=>none
 | none=>none
theorem Jh:∀(ds:List D) (k i:Nat),(params ds k).get i=if k<=i/\i<k+ds.length then ds.getD (i-k) .undef else .undef
 | [],k,i=>by simp[params,LEnv.get]
 | d::r,k,i=>by
  simp only[params,LEnv.get,Jh r (k+1) i,List.length_cons];grind
theorem RY (vals:Array Value) (n i:Nat):(vals++Array.replicate n Go.undef).getD i Go.undef=vals.getD i Go.undef:=by
 by_cases h:i<vals.size
 ·exact zK _ _ _ h
 ·rw[zH _ _ _ (by omega)];simp[Array.getD,h]
def Nx (tmps:Array Value):ResultVar->Sem Value
 | .tmp t=>pure (tmps.getD t Go.undef)
 | .cell x t=>do loadVar t (<- asAddr (tmps.getD x Go.undef))
theorem Ql {c:Ctx}{w:World}{nt:Nat}{e:LEnv}{a:Act}(hp:c.hp=w.heap) (hr:aA c) (hs:rM c nt e.get a){r:ResultVar}{rv:RV}(hc:cRes P r=some rv){K:D->Prop}(hv:S9 P rv e c.h K) :
  ∃v d,(Nx a.tmps r).run P w=.ok v w/\aB c d v/\K d:=by
 cases r with
 | tmp i =>
  simp[cRes]at hc;subst hc;exact⟨_,_,rfl,hs.rel i,hv⟩
 | cell i t =>
  simp only[cRes]at hc;split at hc
  ·rename_i n b ht;simp at hc;subst hc;have ty:=xu ht
   let o:Oper:=⟨none,.load t (.tmp i),0, "", #[],none⟩
   have G:vcOp P (.ld (.t i) n b) (λ d _=>K d) e c.h:=hv;have rx:=hs.rel i;simp only[vcOp,Arg.get]at G
   have fin:∀(g Q j:Nat) (cs:List D),a.tmps.getD i Go.undef=.pointer (some ⟨g,Q+j,none⟩)->Mem c g Q cs->vpart cs j n b K ->
     ∃v d,(Nx a.tmps (.cell i t)).run P w=.ok v w/\aB c d v/\K d:=by
    grind [uB,Nx,asAddr]
   generalize V:e.get i=Z at G rx;cases Z<;>try exact G.elim
   ·rename_i m k j;cases hn:c.h m<;>simp only[hn]at G<;>try exact G.elim
    ·grind [Mk]
    ·obtain⟨hi,G⟩:=G;rename_i esz els;have I:els[k]?=some els[k]:=by simp[hi]
     obtain⟨g,he,_,hm⟩:=mem_row hr (by rw[hn];rfl) I rx;grind
    ·obtain⟨hi,G⟩:=G;rename_i esz els;have I:els[k]?=some els[k]:=by simp[hi]
     obtain⟨g,he,_,hm⟩:=mem_row hr (by rw[hn];rfl) I rx;grind
   grind [Ub]
  ·cases hc
theorem TE {c:Ctx}{w:World}{nt:Nat}{e:LEnv}{a:Act}(hp:c.hp=w.heap) (hr:aA c) (hs:rM c nt e.get a):∀(rs:List ResultVar) (rvs:List RV),rs.mapM (cRes P)=some rvs->∀{K:List D->Prop},vcRess P rvs e c.h K ->
  ∃(vs:List Value) (ds:List D),(rs.mapM (Nx a.tmps)).run P w=.ok vs w/\vs.length=ds.length/\ds.length=rs.length/\(∀(i:Nat) (d:D),ds[i]?=some d->aB c d (vs.getD i Go.undef))/\K ds:=by
 intro rs
 induction rs with
 | nil =>
  intro rvs hm K I;simp at hm;subst hm;exact⟨[],[],by simp,rfl,rfl,by simp,I⟩
 | cons r s ih =>
  intro rvs hm K I;rw[List.mapM_cons]at hm
  cases h1:cRes P r with
  | none=>simp[h1]at hm
  | some rv =>
   cases h2:s.mapM (cRes P) with
   | none=>simp[h1,h2]at hm
   | some G =>
    simp[h1,h2]at hm;subst hm;simp only[vcRess]at I;obtain⟨v,d,g1,g2,g3⟩:=Ql (P:=P) hp hr hs h1 I;obtain⟨vs,ds,k1,Z,Q,k3,V⟩:=ih G h2 g3;refine⟨v::vs,d::ds,?_,by simp[Z],by simp[Q],λ i x hx=>?_,V⟩
    ·grind [Sem.run_bind,Result.andThen_ok,Sem.run_pure]
    grind
theorem Jd (fn:Func) (tmps:Array Value):results fn tmps=(do let vs <- fn.results.mapM (Nx tmps);pure (if h:vs.size=1 then vs[0] else .tuple vs)):=by
 unfold results;congr 1
theorem Nw {c:Ctx}{w:World}{nt:Nat}{e:LEnv}{a:Act}(hp:c.hp=w.heap) (hr:aA c) (hs:rM c nt e.get a){fn:Func}{rvs:List RV}(hm:fn.results.toList.mapM (cRes P)=some rvs){K:HKq}
  (hv:K1 P rvs K e c.h):∃v d,(results fn a.tmps).run P w=.ok v w/\aB c d v/\K d c.h:=by
 have one:∀r V,fn.results.toList=[r]->rvs=[V]->∃v d,(results fn a.tmps).run P w=.ok v w/\aB c d v/\K d c.h:=by
  rintro r V I rfl;rw[I]at hm
  have hc:cRes P r=some V:=by
   rw[List.mapM_cons]at hm
   cases h1:cRes P r with
   | none=>simp[h1]at hm
   | some x=>simp[h1]at hm;rw[hm]
  obtain⟨v,d,g1,g2,g3⟩:=Ql (P:=P) (K:=λ d=>K d c.h) hp hr hs hc hv;have Q:fn.results = #[r]:=by grind
  refine⟨v,d,?_,g2,g3⟩;rw[Jd,Q];simp[g1]
 have many:fn.results.toList.length≠1->vcRess P rvs e c.h (λ ds=>K (.tup ds) c.h)->∃v d,(results fn a.tmps).run P w=.ok v w/\aB c d v/\K d c.h:=by
  intro hne a1;obtain⟨vs,ds,k1,k2,k5,k3,k4⟩:=TE (P:=P) hp hr hs _ _ hm a1;refine⟨.tuple vs.toArray,.tup ds,?_,.tup _ _ (by simpa using k2) (λ i d hd=>by rw[<- aO];exact k3 i d hd),k4⟩;rw[Jd,Array.mapM_eq_mapM_toList];have Z:vs.length≠1:=by rw[k2,k5];exact hne
  simp[k1,Z]
 cases I:fn.results.toList with
 | nil =>
  rw[I]at hm;simp at hm;subst hm;exact many (by simp[I]) hv
 | cons r s =>
  cases s with
  | nil =>
   have G:=hm;rw[I,List.mapM_cons]at G
   cases h1:cRes P r with
   | none=>simp[h1]at G
   | some x=>grind
  | cons r' s' =>
   have G:=hm;rw[I,List.mapM_cons]at G
   cases h1:cRes P r with
   | none=>simp[h1]at G
   | some x =>
    rw[List.mapM_cons]at G
    cases h2:cRes P r' with
    | none=>simp[h1,h2]at G
    | some x' =>
     cases h3:s'.mapM (cRes P) with
     | none=>simp[h1,h2,h3]at G
     | some a2=>simp[h1,h2,h3]at G;subst G;exact many (by simp[I]) hv
structure wo (c c':Ctx):Prop where
 ρ:c'.ρ=c.ρ
 h:c'.h=c.h
 X:∀g,c'.X g↔c.X g
 size:c'.hp.size=c.hp.size
 cells:∀(g:Nat) (cur:Array Value) (ty:TypeId) (fr:Nat×Nat),c.hp[g]?=some (Obj.cells cur ty fr)->c'.hp[g]?=some (Obj.cells cur ty fr)
 loops:∀(g:Nat) (r:Loop),c.hp[g]?=some (Obj.loop r)->c'.hp[g]?=some (Obj.loop r)
 maps:∀(g:Nat) (es:Array MapEntry) (k:Nat),c.hp[g]?=some (Obj.map es k)->c'.hp[g]?=some (Obj.map es k)
theorem wo.own {c c':Ctx}(s:wo c c') (g:Nat):c'.own g↔c.own g:=by
 unfold Ctx.own;rw[s.ρ,s.h,s.X g]
theorem wo.cell {c c':Ctx}(s:wo c c'){b o:Nat}{v:Value}(h:cellOf c.hp b o=some v):cellOf c'.hp b o=some v:=by
 unfold cellOf at h ⊢;split at h
 ·rename_i cur ty fr hb;rw[s.cells b cur ty fr hb];exact h
 ·cases h
theorem aB.bK {c c':Ctx}(s:wo c c'){d:D}{v:Value}(h:aB c d v):aB c' d v:=by
 have hown:∀{g},¬c.own g->¬c'.own g:=λ hn h=>hn ((s.own _).1 h)
 induction h with
 | undef v=>exact .undef v
 | nil=>exact .nil
 | nilfn=>exact .nilfn
 | nilmap=>exact .nilmap
 | nilp=>exact .nilp
 | int k n=>exact .int k n
 | bool b=>exact .bool b
 | str s=>exact .str s
 | iN p cap hm=>exact .iN p cap hm
 | sl xs b o cap esz f hne hc hm he hlen hone hcell ho _ I=>exact .sl xs b o cap esz f hne hc hm he hlen hone (λ i j d hd=>s.cell (hcell i j d hd)) (hown ho) I
 | msDead n off len p l k hd=>exact .msDead n off len p l k (by rw[s.h];exact hd)
 | msNil n esz els G hρ=>exact .msNil n esz els (by rw[s.h];exact G) (by rw[s.ρ];exact hρ)
 | ms n off len g esz cap els cur ty fr G hρ hl hg hs hc hm=>exact .ms n off len g esz cap els cur ty fr (by rw[s.h];exact G) (by rw[s.ρ];exact hρ) hl (s.cells _ _ _ _ hg) hs hc hm
 | msE n off esz p els G=>exact .msE n off esz p els (by rw[s.h];exact G)
 | ptrDead n i j b o hd=>exact .ptrDead n i j b o (by rw[s.h];exact hd)
 | ptrBox n j g v hb hρ=>exact .ptrBox n j g v (by rw[s.h];exact hb) (by rw[s.ρ];exact hρ)
 | ptrRow n i j g esz els G hρ hi=>exact .ptrRow n i j g esz els (by rw[s.h];exact G) (by rw[s.ρ];exact hρ) hi
 | vp e j b o f hone hcell ho hb _ I=>exact .vp e j b o f hone (λ k d hd=>s.cell (hcell k d hd)) (hown ho) (by rw[s.size];exact hb) I
 | agg cs vs hsz hone _ I=>exact .agg cs vs hsz hone I
 | tup ds vs hsz _ I=>exact .tup ds vs hsz I
 | fn f a b va vb hsa hsb _ _ V Q=>exact .fn f a b va vb hsa hsb V Q
 | yld n g st B hl hρ=>exact .yld n g st B (by rw[s.h];exact hl) (by rw[s.ρ];exact hρ)
 | yldDead n g hd=>exact .yldDead n g (by rw[s.h];exact hd)
 | mp n g kt l hl hρ=>exact .mp n g kt l (by rw[s.h];exact hl) (by rw[s.ρ];exact hρ)
 | mpDead n p hd=>exact .mpDead n p (by rw[s.h];exact hd)
theorem dk.bK {c c':Ctx}(s:wo c c'){n:Nat}{x:Slot}(h:dk c n x):dk c' n x:=by
 cases x with
 | free=>trivial
 | dead=>trivial
 | box v =>
  obtain⟨g,cur,ty,h1,h2,h3,h4⟩:=h;exact⟨g,cur,ty,by rw[s.ρ];exact h1,s.cells _ _ _ _ h2,h3,λ i d hd=>⟨(h4 i d hd).1,(h4 i d hd).2.bK s⟩⟩
 | arr e l =>
  obtain⟨h1,h2,h3,h4⟩:=h;refine⟨h1,h2,h3,?_⟩;rcases h4 with⟨I,G⟩|⟨g,cur,ty,I,G,V,Q⟩
  ·exact Or.inl ⟨by rw[s.ρ];exact I,G⟩
  ·exact Or.inr ⟨g,cur,ty,by rw[s.ρ];exact I,s.cells _ _ _ _ G,V,λ i j d hd=>(Q i j d hd).bK s⟩
 | frz e l =>
  obtain⟨h1,h2,h3,h4⟩:=h;refine⟨h1,h2,h3,?_⟩;rcases h4 with⟨I,G⟩|⟨g,cur,ty,fr,I,G,V,Q,Z⟩
  ·exact Or.inl ⟨by rw[s.ρ];exact I,G⟩
  ·exact Or.inr ⟨g,cur,ty,fr,by rw[s.ρ];exact I,s.cells _ _ _ _ G,V,λ h=>Q ((s.own g).1 h),λ i j d hd=>(Z i j d hd).bK s⟩
 | lp st B =>
  obtain⟨g,tmps,dfs,h1,h2,h3,h4⟩:=h;exact⟨g,tmps,dfs,by rw[s.ρ];exact h1,s.loops _ _ h2,h3,λ i=>(h4 i).bK s⟩
 | map kt l =>
  obtain⟨g,es,clock,h1,h2,h3,a1,h4⟩:=h;refine⟨g,es,clock,by rw[s.ρ];exact h1,s.maps _ _ _ h2,h3,a1,λ i p hp=>?_⟩;obtain⟨I,G,e,V,Q,Z⟩:=h4 i p hp;exact⟨I,G,e,V,Q.bK s,Z.bK s⟩
theorem aA.bK {c c':Ctx}(s:wo c c') (hr:aA c) (hg:jO c') (hl:c'.X.lo<=c'.hp.size):aA c':=by
 refine⟨λ n=>?_,?_,?_,λ g G=>?_,?_,hg,hl⟩
 ·rw[s.h];exact(hr.slot n).bK s
 ·rw[s.h,s.ρ];exact hr.inj
 ·rw[s.h,s.ρ];intro n g hm hρ G;exact hr.apart n g hm hρ ((s.X g).1 G)
 ·rw[s.size];exact hr.xlt g ((s.X g).1 G)
 ·rw[s.h];exact hr.fin
theorem Ctx.le.reX {c c':Ctx}(h:c.le c') (X X':XT) (hX:X'=X):(⟨c.ρ,X,c.h,c.hp⟩:Ctx).le ⟨c'.ρ,X',c'.h,c'.hp⟩ :=
 ⟨h.size,hX,h.keep,h.shape,h.loop,h.names,h.tr,h.born⟩
theorem TQ {c:Ctx}{ρ:Nat->Option Nat}{h:Heap}{w:World}(hglob:jO c) (hlo:c.X.lo=c.hp.size) (hle:c.le ⟨ρ,c.X,h,w.heap⟩) (hr:aA ⟨ρ,c.X,h,w.heap⟩){d:Deferred}(hm:Mark ⟨ρ,c.X,h,w.heap⟩ d) :
  ∃k w',d.target=.collected k/\(Instr.takeDeferred k).run P w=.ok [] w'/\WS w w'/\c.le ⟨ρ,c.X,h,w'.heap⟩/\aA ⟨ρ,c.X,h,w'.heap⟩/\wo ⟨ρ,c.X,h,w.heap⟩ ⟨ρ,c.X,h,w'.heap⟩ /\
   ∀d',d'≠d->Mark ⟨ρ,c.X,h,w.heap⟩ d'->Mark ⟨ρ,c.X,h,w'.heap⟩ d':=by
 obtain⟨k,rfl,a7,I,a6⟩:=hm;have a1:k<w.heap.size:=(Array.getElem?_eq_some_iff.1 I).1
 have a2:c.hp.size<=k:=by
  grind
 have other:∀g,g≠k->(w.putObj k (.deferred none)).heap[g]?=w.heap[g]?:=λ g hg=>World.putObj_heap_other hg
 have same:wo ⟨ρ,c.X,h,w.heap⟩ ⟨ρ,c.X,h,(w.putObj k (.deferred none)).heap⟩:=by
  refine⟨rfl,rfl,λ _=>Iff.rfl,World.putObj_size,λ g cur ty fr hg=>?_,λ g r hg=>?_,λ g es q hg=>?_⟩
  ·grind
  ·grind
  grind
 have G:c.le ⟨ρ,c.X,h,(w.putObj k (.deferred none)).heap⟩:=by
  refine⟨by grind [World.putObj_size],rfl,λ g hg hn=>?_,λ g cur ty fr hg=>?_,λ g r hg=>?_,hle.names,hle.tr,hle.born⟩
  ·exact(other g (by omega)).trans (hle.keep g hg hn)
  ·obtain⟨cur',h1,h2⟩:=hle.shape g cur ty fr hg;grind
  ·obtain⟨r',h1,h2⟩:=hle.loop g r hg;grind
 have Q:jO ⟨ρ,c.X,h,(w.putObj k (.deferred none)).heap⟩:=hglob.mono G;refine⟨k,w.putObj k (.deferred none),rfl,run_takeDeferred I,⟨rfl,rfl,rfl⟩,G,hr.bK same Q (by grind [World.putObj_size]),same,?_⟩;rintro d' hne ⟨k',rfl,u1,Z,V⟩
 have hne:k'≠k:=by
  rintro rfl;exact hne rfl
 exact⟨k',rfl,u1,(other k' hne).trans Z,λ ho=>V ((same.own k').1 ho)⟩
theorem rM.pop {c:Ctx}{ρ:Nat->Option Nat}{h:Heap}{w w':World}{nt:Nat}{e:LEnv}{tmps:Array Value}{d:Deferred}{ds:List Deferred}(hs:rM ⟨ρ,c.X,h,w.heap⟩ nt e.get { tmps:=tmps,defers:=d::ds }) (hd:Bp d=true) (hr:aA ⟨ρ,c.X,h,w'.heap⟩)
  (same:wo ⟨ρ,c.X,h,w.heap⟩ ⟨ρ,c.X,h,w'.heap⟩) (hmk:∀d',d'≠d->Mark ⟨ρ,c.X,h,w.heap⟩ d'->Mark ⟨ρ,c.X,h,w'.heap⟩ d'):rM ⟨ρ,c.X,h,w'.heap⟩ nt e.get { tmps:=tmps,defers:=ds }:=by
 obtain⟨⟨Q,I⟩,G⟩:=hs.defers;simp only at Q I G;rw[List.filter_cons_of_pos hd]at Q I;rw[List.filter_cons_of_neg (by simp[hd])]at G;rw[List.pairwise_cons]at I;exact⟨hr.glob,hr.lo,⟨⟨λ d' V=>hmk d' (λ e=>I.1 d' V e.symm) (Q d' (by grind)),I.2⟩,G⟩,hs.size,λ i=>(hs.rel i).bK same⟩
theorem NL {fn:Func}{R:Ending->World->Prop}{c:Ctx}{nt:Nat}{e:LEnv}(hglob:jO c) (hdf:c.X.dfs=[]){u:FrameMode}(hu:u≠.run):∀(ds:List Deferred) (ρ:Nat->Option Nat) (h:Heap) (w:World) (tmps:Array Value),c.X.lo=c.hp.size->c.le ⟨ρ,c.X,h,w.heap⟩ ->
  aA ⟨ρ,c.X,h,w.heap⟩->rM ⟨ρ,c.X,h,w.heap⟩ nt e.get { tmps:=tmps,defers:=ds } ->
  (∀w',c.le ⟨ρ,c.X,h,w'.heap⟩->aA ⟨ρ,c.X,h,w'.heap⟩->WS w w'->rM ⟨ρ,c.X,h,w'.heap⟩ nt e.get { tmps:=tmps,defers:=[] }->LeavesIn Fence.wide 0 P fn tmps R [] u w') ->
  LeavesInM Fence.wide 0 P fn tmps R ds u w:=by
 intro ds
 induction ds with
 | nil =>
  intro ρ h w tmps G hle hr hs hk;exact hk w hle hr (WS.refl w) hs
 | cons d ds ih =>
  intro ρ h w tmps G hle hr hs hk
  have I:Bp d=true:=by
   cases hc:Bp d with
   | true=>rfl
   | false =>
    have:=hs.defers.rest;grind
  have hm:Mark ⟨ρ,c.X,h,w.heap⟩ d:=hs.defers.marks.all d (by grind);obtain⟨k,w1,Q,V,a6,a1,Z,same,a7⟩:=TQ (P:=P) hglob G hle hr hm;refine⟨hu,Or.inl ⟨k,w1,Q,V,?_⟩⟩;exact ih ρ h _ tmps G a1 Z (rM.pop hs I Z same a7) (λ w' l1 r1 a2 s1=>hk w' l1 r1 (a6.trans a2) s1)
theorem ON {fz:Bool}{f:FuncId}{loops:TLq}{dr:Nat->Array Oper->Option ACode}{F:aN}(hc:cFn P fz f loops dr=some F) (hdr:KY P F.nt dr)
  {ds:List D}{K:HKq}{h:Heap}(hv:YX P F ds K h):ag P f ds h K:=by
 unfold cFn at hc
 cases hf:P.funcs[f]? with
 | none=>simp[hf]at hc
 | some fn =>
  cases hb:fn.body with
  | none=>simp[hf,hb]at hc
  | some body =>
   simp only[hf,hb]at hc;split at hc
   ·rename_i code res a7 b2;simp at hc;subst hc;obtain⟨hlen,hv⟩:=hv;intro V w vals hh hp Z hs a2;subst hh;obtain⟨c,G⟩:∃c:Ctx,c=⟨V.ρ,⟨V.X.p,V.hp.size,[]⟩,V.h,V.hp⟩:=⟨_,rfl⟩;have Q:wo V c:=by subst G;exact⟨rfl,rfl,λ _=>Iff.rfl,rfl,λ _ _ _ _ h=>h,λ _ _ h=>h,λ _ _ _ h=>h⟩
    have b4:c.X.lo=c.hp.size:=by subst G;rfl
    have a6:jO c:=λ g o hg=>⟨by subst G;exact(Z.glob g o hg).1,λ ho=>(Z.glob g o hg).2 ((Q.own g).1 ho),by subst G;exact(Z.glob g o hg).3⟩
    have hr:aA c:=Z.bK Q a6 (by rw[b4];exact Nat.le_refl _);have c1:c.hp=w.heap:=by subst G;exact hp
    refine(callsIn_wide (n:=0)).1 (callsIn_of_wp_marks hf hb trivial ?_)
    let a:Act:={ tmps:=vals++Array.replicate (fn.ntmps-vals.size) Go.undef,defers:=[] }
    have b1:rM c fn.ntmps (params ds 0).get a:=by
     refine⟨a6,hr.lo,iu.nil (by subst G;rfl),by grind,λ i=>?_⟩;simp only[a];rw[RY,Jh];split
     ·rename_i hi;rw[Nat.sub_zero];have b5:i<ds.length:=by omega
      have:ds.getD i .undef=ds[i]:=by simp[List.getD,b5]
      rw[this];exact(a2 i _ (by simp[b5])).bK Q
     ·exact .undef _
    have c2:c.h=V.h:=by subst G;rfl
    have c3:∀g,c.X g↔V.X g:=Q.X;have:=Ox hdr body code a7 _ _ _ hv none c w a c2 c1 hr b1 oR.none;refine wpIn_mono (show body.wpIn Fence.wide 0 P _ a w from this) ?_;intro e a' w' I
    have done:∀x,(∀id,x≠Ex.exit id)->Fin c w fn.ntmps (up (λ e h'=>K1 P res K e h')) a' w'->LeavesInM Fence.wide 0 P fn a'.tmps (λ e w'=>∃(v:Value) (r:D) (ρ:Nat->Option Nat) (h':Heap),e=.returned v/\V.le ⟨ρ,V.X,h',w'.heap⟩ /\
      aA ⟨ρ,V.X,h',w'.heap⟩/\WS w w'/\aB ⟨ρ,V.X,h',w'.heap⟩ r v/\K r h') a'.defers .returning w':=by
     rintro x _ ⟨ρ,t,h',r1,r2,r3,r4,e',rfl,hk⟩;refine NL (c:=c) a6 (by subst G;rfl) (by simp) a'.defers ρ h' w' a'.tmps b4 r1 r2 r4 (λ w2 l2 b3 b7 s2=>?_);obtain⟨v,d,g1,g2,g3⟩:=Nw (P:=P) (c:=⟨ρ,c.X,h',w2.heap⟩) (a:={ tmps:=a'.tmps,defers:=[] }) rfl b3 s2 b2 hk;have a8:wo ⟨ρ,c.X,h',w2.heap⟩ ⟨ρ,V.X,h',w2.heap⟩:=⟨rfl,rfl,λ g=>(c3 g).symm,rfl,λ _ _ _ _ h=>h,λ _ _ h=>h,λ _ _ _ h=>h⟩
     have a1:V.le ⟨ρ,V.X,h',w2.heap⟩:=by
      have:=l2.reX V.X V.X rfl;subst G;exact this
     refine⟨v,g1,v,d,ρ,h',rfl,a1,b3.bK a8 (Z.glob.mono a1) (Nat.le_trans Z.lo a1.size),r3.trans b7,g2.bK a8,g3⟩
    cases e with
    | normal=>exact done .normal (by simp) I
    | ret=>exact done .ret (by simp) I
    | exit id =>
     obtain⟨ρ,t,h',r1,r2,r3,r4,e',rfl,hk⟩:=I;exact hk.elim
    | goto l =>
     obtain⟨ρ,t,h',r1,r2,r3,r4,e',rfl,hk⟩:=I;exact hk.elim
    | panic ch =>
     obtain⟨_,ρ,t,h',r1,r2,r3,r4,e',rfl,hk⟩:=I;exact hk.elim
    | outgrown=>exact I.elim
   ·cases hc
end Go.Am
namespace Go.Am
open Go
variable [ca]
variable {P:Program}
structure adX where
 nt:Nat
 pre:List ACode
 g:FuncId
 xs:List Arg
 ys:List Arg
 t:Nat
 rest:ACode
 res:List RV
def FinD (c:Ctx) (w:World) (nt:Nat) (Q:LPost) (d:FuncId×List Arg×List Arg×Nat) (Qd:List D->LPost) (x:Exit) (a':Act) (w':World):Prop :=
 (x≠.normal/\FinX c w nt (λ x=>up (Q x)) x a' w') \/
 ∃(ρ1:Nat->Option Nat) (h1:Heap) (w1:World) (ds:List D) (va vb:Array Value),c.le ⟨ρ1,c.X,h1,w1.heap⟩/\WS w w1/\(va++vb).size=ds.length /\
  (∀(i:Nat) (d:D),ds[i]?=some d->aB ⟨ρ1,c.X,h1,w1.heap⟩ d ((va++vb).getD i Go.undef))/\ds.length=(d.2.1++d.2.2.1).length /\
  FinX ⟨ρ1,⟨c.X.p,c.X.lo,{ target:=.fn (.func d.1) vb,args:=va }::c.X.dfs⟩,h1,w1.heap⟩ w1 nt (λ x=>up (Qd ds x)) x a' w'
theorem FinD.from {c c1:Ctx}{w w1:World}{nt:Nat}{Q:LPost}{d:FuncId×List Arg×List Arg×Nat}{Qd:List D->LPost}{x:Exit}{a':Act}{w':World}(hle:c.le c1) (hw:WS w w1) (h:FinD c1 w1 nt Q d Qd x a' w'):FinD c w nt Q d Qd x a' w':=by
 rcases h with⟨h0,h⟩|⟨Z,h1,w2,ds,va,vb,V,r2,r4,I,r6,G⟩
 ·exact Or.inl ⟨h0,FinX.from hle hw _ _ _ h⟩
 ·have hX:=hle.X;rw[hX]at V I G;exact Or.inr ⟨Z,h1,w2,ds,va,vb,hle.trans V,hw.trans r2,r4,I,r6,G⟩
theorem wo.trans {a b c:Ctx}(h:wo a b) (k:wo b c):wo a c :=
 ⟨k.ρ.trans h.ρ,k.h.trans h.h,λ g=>(k.X g).trans (h.X g),k.size.trans h.size,λ g cur ty fr x=>k.cells _ _ _ _ (h.cells _ _ _ _ x),λ g r x=>k.loops _ _ (h.loops _ _ x),λ g es n x=>k.maps _ _ _ (h.maps _ _ _ x)⟩
end Go.Am
namespace Go.Am
open Go
variable [ca]
variable {P:Program}
def roundEnd (x:Ex) (n:Nat) (B:dT) (K:HKq) (h:Heap):Prop :=
 match x with
 | .normal=>K (.bool true) (aF h n (.lp .ready B))
 | .pan=>False
 | .jump _=>False
 | x=>K (.bool false) (aF h n (.lp (.done x) B))
theorem N0 {c:Ctx}:∀(ps:List Nat) (ds:List D) (vals:List Value) (tmps:Array Value) (e:LEnv),ps.Nodup->(∀p∈ps,p<tmps.size)->ds.length=ps.length->vals.length=ps.length ->
  (∀(i:Nat) (d:D),ds[i]?=some d->aB c d (vals.getD i Go.undef))->(∀i,aB c (e.get i) (tmps.getD i Go.undef)) ->
  ((ps.zip vals).foldl (λ t (p:Nat×Value)=>t.setIfInBounds p.1 p.2) tmps).size=tmps.size /\
   ∀i,aB c (LEnv.get (ps.zip ds++e) i) (((ps.zip vals).foldl (λ t (p:Nat×Value)=>t.setIfInBounds p.1 p.2) tmps).getD i Go.undef)
 | [],_,_,tmps,e,_,_,_,_,_,he=>by simpa using he
 | p::r,[],_,_,_,_,_,hd,_,_,_=>by simp at hd
 | p::r,d::ds,[],_,_,_,_,_,Q,_,_=>by simp at Q
 | p::r,d::ds,v::vals,tmps,e,I,Z,hd,Q,hrel,he=>by
  rw[List.nodup_cons]at I;have h1:=hrel 0 d rfl;have V:=Z p (by simp)
  have G:∀i,aB c (LEnv.get ((p,d)::e) i) ((tmps.setIfInBounds p v).getD i Go.undef):=by
   intro i;simp only[LEnv.get];by_cases hi:i=p
   ·subst hi;rw[if_pos rfl];have:(tmps.setIfInBounds i v).getD i Go.undef=v:=by simp[V]
    rw[this];simpa using h1
   ·rw[if_neg hi];have a1:p≠i:=λ e=>hi e.symm
    have:(tmps.setIfInBounds p v).getD i Go.undef=tmps.getD i Go.undef:=by simp[a1]
    rw[this];exact he i
  obtain⟨k1,k2⟩:=N0 r ds vals (tmps.setIfInBounds p v) ((p,d)::e) I.2 (λ q hq=>by grind) (by simpa using hd) (by simpa using Q)
   (λ i x hx=>by simpa using hrel (i+1) x (by simpa using hx)) G
  refine⟨by grind [List.zip_cons_cons],λ i=>?_⟩;simp only[List.zip_cons_cons,List.foldl_cons,List.cons_append];have:=k2 i
  have eq:LEnv.get (r.zip ds++(p,d)::e) i=LEnv.get ((p,d)::(r.zip ds++e)) i:=by
   have key:∀(l:List (Nat×D)),(∀q∈l,q.1≠p)->LEnv.get (l++(p,d)::e) i=LEnv.get ((p,d)::(l++e)) i:=by
    intro l
    induction l with
    | nil=>intro _;rfl
    | cons q s ih =>
     grind [LEnv.get]
   refine key _ (λ q hq=>?_);have hm:=(List.of_mem_zip hq).1;grind
  grind
theorem Sy {n:Nat}{B:dT}{ds:List D}{h:Heap}{K:HKq}{a b:ACode}(hn:h n=.lp .ready B)
  (hA:∀(Q:LPost) (e:LEnv) (h:Heap),vcC P a Q e h->sC P B.nt B.assign (λ x=>up (Q x)) e.get h)
  (hB:∀(Q:LPost) (e:LEnv) (h:Heap),vcC P b Q e h->sC P B.nt B.body (λ x=>up (Q x)) e.get h)
  (hnd:B.ps.Nodup) (hlt:∀p∈B.ps,p<B.nt) (hlen:ds.length=B.ps.length) {e:LEnv}(he:B.env=e.get)
  (hv:vcC P a (λ x e1 h1=>x=.normal/\h1 n=.lp .ready B/\vcC P b (λ x e2 h2=>h2 n=.lp .busy B/\roundEnd x n B K h2) e1 (aF h1 n (.lp .busy B))) (B.ps.zip ds++e) h):rN P n ds h K:=by
 intro c0 w vals g hh g0 a7 hsz b7 e6;subst hh;obtain⟨c,G⟩:∃c:Ctx,c=⟨c0.ρ,⟨c0.X.p,c0.X.lo,[]⟩,c0.h,c0.hp⟩:=⟨_,rfl⟩;have Z:wo c0 c:=by subst G;exact⟨rfl,rfl,λ _=>Iff.rfl,rfl,λ _ _ _ _ h=>h,λ _ _ h=>h,λ _ _ _ h=>h⟩
 have g8:c.X.dfs=[]:=by subst G;rfl
 have g7:jO c:=λ g o hg=>⟨by subst G;exact(a7.glob g o hg).1,λ ho=>(a7.glob g o hg).2 ((Z.own g).1 ho),by subst G;exact(a7.glob g o hg).3⟩
 have hr:aA c:=a7.bK Z g7 (by subst G;exact a7.lo);have hp:c.hp=w.heap:=by subst G;exact g0
 have hρ:c.ρ n=some g:=by subst G;exact e6
 have hrel:∀(i:Nat) (d:D),ds[i]?=some d->aB c d (vals.getD i Go.undef):=λ i d hd=>(b7 i d hd).bK Z
 have h5:c.h=c0.h:=by subst G;rfl
 rw[<- h5]at hn hv
 suffices H:∃(fn:FuncId) (tmps:Array Value) (assign body:Code),(Instr.yield g vals).run P w=.ok (.round g fn tmps assign body) w /\
   RoundIn Fence.wide 0 P g fn tmps assign body w λ e w'=>∃(v:Value) (r:D) (ρ:Nat->Option Nat) (h':Heap),e=.returned v/\c.le ⟨ρ,c.X,h',w'.heap⟩ /\
    aA ⟨ρ,c.X,h',w'.heap⟩/\WS w w'/\aB ⟨ρ,c.X,h',w'.heap⟩ r v/\K r h' by
  obtain⟨fn,tmps,assign,body,h1,h2⟩:=H;refine⟨fn,tmps,assign,body,h1,h2.mono ?_⟩;rintro e w' ⟨v,r,ρ,h',r1,r2,r3,r4,r5,r6⟩;have e7:wo ⟨ρ,c.X,h',w'.heap⟩ ⟨ρ,c0.X,h',w'.heap⟩:=⟨rfl,rfl,λ g=>(Z.X g).symm,rfl,λ _ _ _ _ h=>h,λ _ _ h=>h,λ _ _ _ h=>h⟩
  have c1:c0.le ⟨ρ,c0.X,h',w'.heap⟩:=by
   have:=r2.reX c0.X c0.X rfl;subst G;exact this
  exact⟨v,r,ρ,h',r1,c1,r3.bK e7 (a7.glob.mono c1) (Nat.le_trans a7.lo c1.size),r4,r5.bK e7,r6⟩
 clear b7 e6 a7 g0;obtain⟨tmps,dfs,q1,q2,q3⟩:=Il hp hr hn hρ;have hy:=run_yield (P:=P) (args:=vals) q1 (by simp[ei,hsz,hlen]);refine⟨_,_,_,_,hy,?_⟩;refine roundIn_of_wpIn (F:=Fence.wide) trivial ?_
 have c2:((ei .ready B tmps dfs).params.zip vals).foldl (λ tmps (t,a)=>tmps.setIfInBounds t a) tmps=(B.ps.zip vals.toList).foldl (λ t (p:Nat×Value)=>t.setIfInBounds p.1 p.2) tmps:=by
  grind [ei,Array.toList_zip]
 have g1:=N0 B.ps ds vals.toList tmps e hnd (λ p hp=>by rw[q2];exact hlt p hp) hlen (by grind) (λ i d hd=>by rw[aO];exact hrel i d hd) (λ i=>by have:=q3 i;rw[he]at this;exact this)
 have g3:rM c B.nt (LEnv.get (B.ps.zip ds++e)) { tmps:=((ei .ready B tmps dfs).params.zip vals).foldl (λ tmps (t,a)=>tmps.setIfInBounds t a) (ei .ready B tmps dfs).tmps,defers:=[] }:=by
  refine⟨hr.glob,hr.lo,iu.nil g8,?_,λ i=>?_⟩
  ·show(Array.foldl _ tmps _).size=_
   rw[c2,g1.1,q2]
  ·show aB c _ ((Array.foldl _ tmps _).getD i Go.undef)
   rw[c2];exact g1.2 i
 refine wpIn_mono (show B.assign.wpIn (rF (some g)) 0 P _ _ w from hA _ _ _ hv (some g) c w _ rfl hp hr g3 (λ l hl=>by grind)) ?_;intro x a1 w1 hf
 cases x with
 | normal =>
  obtain⟨ρ1,t1,h1,b2,b3,b1,a6,e1,rfl,_,e0,hb⟩:=hf;obtain⟨_,c6⟩:=Cz b2 hn hρ e0;obtain⟨I,V,p1,p2,p3⟩:=Il (c:=⟨ρ1,c.X,h1,w1.heap⟩) (w:=w1) rfl b3 e0 c6;refine⟨_,run_beginRound p1 rfl,?_⟩;obtain⟨e4,g5⟩:=Jn (c:=⟨ρ1,c.X,h1,w1.heap⟩) rfl b3 e0 c6 p1 p2 p3 .busy;have e8:(.loop { ei .ready B I V with state:=.busy }:Obj)=.loop (ei .busy B I V):=rfl;rw[e8]
  refine wpIn_mono (show B.body.wpIn (rF (some g)) 0 P _ a1 _ from hB _ _ _ hb (some g) _ (w1.putObj g (.loop (ei .busy B I V))) a1 rfl rfl g5 (a6.mono e4) (λ l hl=>by
   grind [World.putObj_heap_same])) ?_
  have fin:∀(y:Ex) (jump:Option Code) (st':LSt),st'.st=(if jump.isNone then LoopState.ready else .done)->st'.pend=jump->∀(a2:Act) (w2:World),Fin ⟨ρ1,c.X,aF h1 n (.lp .busy B),(w1.putObj g (.loop (ei .busy B I V))).heap⟩ (w1.putObj g (.loop (ei .busy B I V))) B.nt (up λ e2 h2=>h2 n=.lp .busy B/\roundEnd y n B K h2) a2 w2 ->
    (∀h2,roundEnd y n B K h2->K (.bool jump.isNone) (aF h2 n (.lp st' B))) ->
    ∃v w',(Instr.endRound g jump).run P w2=.ok v w'/\∃(v':Value) (r:D) (ρ:Nat->Option Nat) (h':Heap),Ending.returned v=.returned v'/\c.le ⟨ρ,c.X,h',w'.heap⟩/\aA ⟨ρ,c.X,h',w'.heap⟩/\WS w w'/\aB ⟨ρ,c.X,h',w'.heap⟩ r v'/\K r h':=by
   rintro y jump st' e1 e2 a2 w2 ⟨ρ2,t2,h2,e3,e9,c5,h6,h7,rfl,c8,a8⟩ hk;have g6:(⟨ρ1,c.X,aF h1 n (.lp .busy B),(w1.putObj g (.loop (ei .busy B I V))).heap⟩:Ctx).h n=.lp .busy B:=by simp[aF]
   obtain⟨_,e5⟩:=Cz e3 g6 c6 c8;obtain⟨b5,c4,u1,u2,u3⟩:=Il (c:=⟨ρ2,c.X,h2,w2.heap⟩) (w:=w2) rfl e9 c8 e5;have c3:=run_endRound (P:=P) jump u1;have c7:(.loop { ei .busy B b5 c4 with state:=if jump.isNone then .ready else .done,pending:=jump }:Obj)=.loop (ei st' B b5 c4):=by simp[ei,e1,e2]
   rw[c7]at c3;obtain⟨g2,g4⟩:=Jn (c:=⟨ρ2,c.X,h2,w2.heap⟩) rfl e9 c8 e5 u1 u2 u3 st';refine⟨_,_,c3,_,.bool jump.isNone,ρ2,aF h2 n (.lp st' B),rfl,((b2.trans e4).trans e3).trans g2,g4,⟨?_,?_,?_⟩,.bool _,hk h2 a8⟩
   ·exact c5.os.trans b1.os
   ·exact c5.tape.trans b1.tape
   ·exact c5.output.trans b1.output
  intro y a2 w2 b4
  cases y with
  | normal=>exact fin .normal none .ready rfl rfl a2 w2 b4 (λ h2 hk=>hk)
  | exit id=>exact fin (.exit id) (some (.exit id)) (.done (.exit id)) rfl rfl a2 w2 b4 (λ h2 hk=>hk)
  | ret=>exact fin .ret (some .ret) (.done .ret) rfl rfl a2 w2 b4 (λ h2 hk=>hk)
  | goto t=>obtain⟨ρ2,t2,h2,_,_,_,_,_,_,_,a8⟩:=b4;exact a8.elim
  | panic ch=>obtain⟨_,ρ2,t2,h2,_,_,_,_,_,_,_,a8⟩:=b4;exact a8.elim
  | outgrown=>exact b4.elim
 | exit id=>obtain⟨ρ1,t1,h1,b2,b3,b1,a6,e1,rfl,hx,_⟩:=hf;cases hx
 | ret=>obtain⟨ρ1,t1,h1,b2,b3,b1,a6,e1,rfl,hx,_⟩:=hf;cases hx
 | goto t=>obtain⟨ρ1,t1,h1,b2,b3,b1,a6,e1,rfl,hx,_⟩:=hf;cases hx
 | panic ch=>obtain⟨_,ρ1,t1,h1,b2,b3,b1,a6,e1,rfl,hx,_⟩:=hf;cases hx
 | outgrown=>exact hf.elim
end Go.Am
namespace Go.Am
open Go
variable [ca]
variable {P:Program}
theorem IF {d:D}(h:d.vd=true):d.vone=true\/∃cs,d=.agg cs/\∀x∈cs,x.vone=true:=by
 cases d with
 | agg cs=>grind [D.vd]
 | _=>exact Or.inl h
theorem aB.Mb {c c':Ctx}(hp:c'.hp=c.hp) (ho:∀g,¬c.own g->¬c'.own g){d:D}{v:Value}(h:aB c d v):(d.vd=true->aB c' d v):=by
 induction h with
 | undef v=>grind [D.vd,D.vone]
 | nil=>intro _;exact .nil
 | nilfn=>intro _;exact .nilfn
 | nilmap=>intro _;exact .nilmap
 | nilp=>intro _;exact .nilp
 | int k n=>intro _;exact .int k n
 | bool b=>intro _;exact .bool b
 | str s=>intro _;exact .str s
 | iN p cap hm=>intro _;exact .iN p cap hm
 | sl xs b o cap esz f hne hc hm he hlen hone hcell hown _ G =>
  intro _;refine .sl xs b o cap esz f hne hc hm he hlen hone (λ i j d hd=>by rw[hp];exact hcell i j d hd) (ho b hown) (λ i j d hd=>G i j d hd ?_);have:=hone i j d hd;cases d<;>simp_all [D.vd,D.vone]
 | agg cs vs hsz hone _ G =>
  intro I;refine .agg cs vs hsz hone (λ i d hd=>G i d hd ?_)
  have:d.vone=true:=by
   grind [D.vd]
  cases d<;>simp_all [D.vd,D.vone]
 | _=>grind [D.vd,D.vone]
theorem aB.Ii {c c':Ctx}(hp:c'.hp=c.hp) (ho:∀g,¬c.own g->¬c'.own g){d:D}{v:Value}(h:aB c d v) (hv:d.M8=true):aB c' d v:=by
 cases h with
 | tup ds vs hsz hrel =>
  refine .tup ds vs hsz (λ i d hd=>(hrel i d hd).Mb hp ho ?_);grind [D.M8]
 | agg cs vs hsz hone hrel=>exact aB.Mb hp ho (.agg cs vs hsz hone hrel) hv
 | sl xs b o cap esz f hne hc hm he hlen hone hcell hown hrel=>exact aB.Mb hp ho (.sl xs b o cap esz f hne hc hm he hlen hone hcell hown hrel) rfl
 | iN p cap hm=>exact .iN p cap hm
 | nil=>exact .nil
 | nilfn=>exact .nilfn
 | nilmap=>exact .nilmap
 | nilp=>exact .nilp
 | int k n=>exact .int k n
 | bool b=>exact .bool b
 | str s=>exact .str s
 | _=>simp[D.M8,D.vd,D.vone]at hv
theorem aB.Ws {c c':Ctx}{d:D}{v:Value}(h:aB c d v) (hv:d.flat=true):aB c' d v:=by
 have cell:∀{d:D}{v:Value},aB c d v->d.flatc=true->aB c' d v:=by
  intro d v h G
  cases h with
  | nil=>exact .nil
  | nilfn=>exact .nilfn
  | nilmap=>exact .nilmap
  | nilp=>exact .nilp
  | int k n=>exact .int k n
  | bool b=>exact .bool b
  | str s=>exact .str s
  | _=>simp[D.flatc]at G
 have one:∀{d:D}{v:Value},aB c d v->d.Ls=true->aB c' d v:=by
  intro d v h G
  cases h with
  | agg cs vs hsz hone hrel =>
   refine .agg cs vs hsz hone (λ i d hd=>cell (hrel i d hd) ?_);grind [D.Ls]
  | nil=>exact .nil
  | nilfn=>exact .nilfn
  | nilmap=>exact .nilmap
  | nilp=>exact .nilp
  | int k n=>exact .int k n
  | bool b=>exact .bool b
  | str s=>exact .str s
  | _=>simp[D.Ls,D.flatc]at G
 cases h with
 | tup ds vs hsz hrel =>
  refine .tup ds vs hsz (λ i d hd=>one (hrel i d hd) ?_);grind [D.flat]
 | agg cs vs hsz hone hrel=>exact one (.agg cs vs hsz hone hrel) hv
 | nil=>exact .nil
 | nilfn=>exact .nilfn
 | nilmap=>exact .nilmap
 | nilp=>exact .nilp
 | int k n=>exact .int k n
 | bool b=>exact .bool b
 | str s=>exact .str s
 | _=>simp[D.flat,D.Ls,D.flatc]at hv
def D.nmt:D->List Nat
 | .tup ds=>ds.flatMap D.nm
 | d=>d.nm
def iM:D->Prop
 | .tup ds=>∀x∈ds,aL x
 | d=>aL d
def ti (h:Heap):D->Prop
 | .tup ds=>∀x∈ds,nN h x
 | d=>nN h d
theorem QN {c c':Ctx}(hle:c.le c') (hr':aA c'){d:D}{v:Value}(h:aB c d v) (h1:iM d) (hok:ti c.h d) (hfr:∀n esz els,n∈d.nmt->(c.h n).row=some (esz,els)->c'.h n=.frz esz els) :
  aB c' (d.fzt c.h) v:=by
 by_cases ht:∃ds,d=.tup ds
 ·obtain⟨ds,rfl⟩:=ht
  cases h with
  | tup _ vs hsz hrel =>
   refine .tup _ vs (by simpa using hsz) (λ i x hx=>?_);grind [Ft,D.nmt,iM,ti]
 ·have V:D.fzt c.h d=D.fz c.h d:=by cases d<;>simp_all [D.fzt]
  have Q:d.nmt=d.nm:=by cases d<;>simp_all [D.nmt]
  have I:aL d:=by cases d<;>simp_all [iM]
  have G:nN c.h d:=by cases d<;>simp_all [ti]
  grind [Ft]
def gY:Heap:=λ _=>.free
theorem S8 {fz:Bool}{f:FuncId}{loops:TLq}{dr:Nat->Array Oper->Option ACode}{F:aN}(hc:cFn P fz f loops dr=some F) (hdr:KY P F.nt dr)
  {ds:List D}{K:D->Prop}(hv:YX P F ds (λ r h=>iM r/\ti h r/\(r.fzt h).M8=true/\K (r.fzt h)) gY):aK P f ds K:=by
 intro c w vals I hp hr hs hrel;have kU:c.h=gY:=funext I;have:=ON hc hdr hv c w vals kU hp hr hs hrel;refine this.mono ?_;rintro e w' ⟨v,r,ρ,h',rfl,h1,h2,h3,h4,h5,h6,Q,h8⟩;obtain⟨g1,g2⟩:=dP h2 r.nmt;have V:=QN g1 g2 h4 h5 h6 (λ n esz els hn G=>fq _ G hn)
 have hown:∀g,¬(⟨ρ,c.X,h'.freezeAll r.nmt,w'.heap⟩:Ctx).own g->¬(⟨c.ρ,c.X,c.h,w'.heap⟩:Ctx).own g:=by
  rintro g hn (Z|⟨n,hm,_⟩)
  ·exact hn (Or.inl Z)
  ·simp only[I n]at hm;cases hm
 refine⟨v,r.fzt h',rfl,?_,h3,aB.Ii (c:=⟨ρ,c.X,h'.freezeAll r.nmt,w'.heap⟩) (c':=⟨c.ρ,c.X,c.h,w'.heap⟩) rfl hown V Q,Q,h8⟩;refine⟨h1.size,rfl,h1.keep,h1.shape,h1.loop,λ _ _=>rfl,λ _=>Trans.refl _,λ n g hm hρ _=>⟨n,hm,hρ⟩⟩
theorem dQ {f:FuncId}{ds:List D}{h:Heap}{K:D->Prop}(hv:aK P f (ds.map (D.fz h)) K) (h1:∀d∈ds,aL d/\nN h d/\(d.fz h).vd=true) :
  ag P f ds h λ r h'=>K r/\((r.flat=true\/ds.flatMap D.nm=[])->h'=h)/\(¬(r.flat=true\/ds.flatMap D.nm=[])->h'=h.freezeAll (ds.flatMap D.nm)):=by
 intro c w vals hh hp hr hs hrel;subst hh
 let ns:=ds.flatMap D.nm
 let Z:Heap:=c.h.freezeAll ns
 let c1:Ctx:=⟨c.ρ,c.X,Z,c.hp⟩
 obtain⟨g1,g2⟩:=dP hr ns
 let c0:Ctx:=⟨λ _=>none,⟨c1.own,0,[]⟩,gY,c.hp⟩
 have a8:aA c0:=by
  refine⟨λ n=>trivial,λ n m g hm=>(by cases hm),λ n g hm=>(by cases hm),λ g V=>?_,⟨0,λ n _=>rfl⟩,λ g o hg=>⟨(g2.glob g o hg).1,λ ho=>(g2.glob g o hg).2 ?_,(g2.glob g o hg).3⟩,Nat.zero_le _⟩
  rotate_left
  ·rcases ho with V|⟨n,hm,_⟩
   ·exact V
   ·cases hm
  have V:c1.own g:=V;rcases V with V|⟨n,hm,hρ⟩
  ·exact hr.xlt g V
  ·exact jE g2 hm hρ
 have hown:∀g,¬c1.own g->¬c0.own g:=by
  rintro g hn (V|⟨n,hm,_⟩)
  ·exact hn V
  ·cases hm
 have a1:∀(i:Nat) (d:D),(ds.map (D.fz c.h))[i]?=some d->aB c0 d (vals.getD i Go.undef):=by
  intro i d hd;rw[List.getElem?_map]at hd
  cases hi:ds[i]? with
  | none=>simp[hi]at hd
  | some x =>
   simp[hi]at hd;subst hd;have hm:=ak hi;obtain⟨q1,q2,q3⟩:=h1 x hm;have:=(Ft (c':=c1) g1 g2 (hrel i x hi) q1 q2 (λ n esz els hn a6=>fq ns a6 (by grind))).1;exact aB.Mb (c:=c1) (c':=c0) rfl hown this q3
 refine(hv c0 w vals (λ _=>rfl) hp a8 (by simpa using hs) a1).mono ?_;rintro e w' ⟨v,r,rfl,k1,k2,k3,a2,k4⟩;have G:∀g,g<c.hp.size->w'.heap[g]?=c.hp[g]?:=λ g hg=>k1.keep g hg (λ n hm=>by cases hm)
 have lift:∀h2:Heap,aA ⟨c.ρ,c.X,h2,c.hp⟩->(⟨c.ρ,c.X,h2,c.hp⟩:Ctx).le ⟨c.ρ,c.X,h2,w'.heap⟩/\aA ⟨c.ρ,c.X,h2,w'.heap⟩:=by
  intro h2 I
  have hle:(⟨c.ρ,c.X,h2,c.hp⟩:Ctx).le ⟨c.ρ,c.X,h2,w'.heap⟩ :=
   ⟨k1.size,rfl,λ g hg _=>G g hg,λ g cur ty fr hg=>⟨cur,(G g (Array.getElem?_eq_some_iff.1 hg).1).trans hg,rfl⟩,λ g r hg=>⟨r,(G g (Array.getElem?_eq_some_iff.1 hg).1).trans hg,rfl⟩,λ _ _=>rfl,λ _=>Trans.refl _,λ n g hm hρ _=>⟨n,hm,hρ⟩⟩
  refine⟨hle,λ n=>iz hle (I.slot n) (λ _ _=>rfl) (λ g hm hρ=>G g (jE I hm hρ)),I.inj,I.apart,λ g V=>Nat.lt_of_lt_of_le (I.xlt g V) k1.size,I.fin,I.glob.mono hle,Nat.le_trans I.lo hle.size⟩
 by_cases hf:r.flat=true\/ds.flatMap D.nm=[]
 ·obtain⟨l1,l2⟩:=lift c.h hr
  have Q:aB ⟨c.ρ,c.X,c.h,w'.heap⟩ r v:=by
   by_cases a7:r.flat=true
   ·exact k3.Ws a7
   ·have b1:ns=[]:=by grind
    have b2:c1.h=c.h:=by simp only[c1,Z,b1];rfl
    refine aB.Ii (c:=⟨c0.ρ,c0.X,c0.h,w'.heap⟩) (c':=⟨c.ρ,c.X,c.h,w'.heap⟩) rfl ?_ k3 a2;rintro g hn ho;refine hn (Or.inl ?_);show c1.own g
    rcases ho with V|⟨n,hm,hρ⟩
    ·exact Or.inl V
    ·exact Or.inr ⟨n,by rw[b2];exact hm,hρ⟩
  exact⟨v,r,c.ρ,c.h,rfl,l1,l2,k2,Q,k4,λ _=>rfl,λ h=>absurd hf h⟩
 ·obtain⟨l1,l2⟩:=lift Z g2
  have Q:aB ⟨c.ρ,c.X,Z,w'.heap⟩ r v:=by
   refine aB.Ii (c:=⟨c0.ρ,c0.X,c0.h,w'.heap⟩) (c':=⟨c.ρ,c.X,Z,w'.heap⟩) rfl ?_ k3 a2;rintro g hn ho;exact hn (Or.inl ho)
  exact⟨v,r,c.ρ,Z,rfl,g1.trans l1,l2,k2,Q,k4,λ h=>absurd h hf,λ _=>rfl⟩
end Go.Am
namespace Go.Am
open Go
variable [ca]
variable {P:Program}{nt:Nat}
def Arg.reads:Arg->List Nat
 | .t i=>[i]
 | .c _=>[]
def sg:Option Arg->List Nat
 | some a=>a.reads
 | none=>[]
def mh (l:List Arg):List Nat:=l.flatMap Arg.reads
def AOp.reads:AOp->List Nat
 | .mov x=>x.reads
 | .un _ x=>x.reads
 | .conv _ x=>x.reads
 | .ext x _=>x.reads
 | .fld x _ _ _=>x.reads
 | .len x=>x.reads
 | .slen x=>x.reads
 | .fadd x _=>x.reads
 | .ld x _ _=>x.reads
 | .box x=>x.reads
 | .pick a b c=>a.reads++b.reads++c.reads
 | .mn3 a b c=>a.reads++b.reads++c.reads
 | .mx3 a b c=>a.reads++b.reads++c.reads
 | .dead=>[]
 | .KL _=>[]
 | .look _ x k _ _=>x.reads++k.reads
 | .mupd _ x k v=>x.reads++k.reads++v.reads
 | .bin _ x y=>x.reads++y.reads
 | .eqv _ _ _ x y=>x.reads++y.reads
 | .iadd x y _=>x.reads++y.reads
 | .iadda x y _ _=>x.reads++y.reads
 | .sidx x y _ _ _=>x.reads++y.reads
 | .st x y _=>x.reads++y.reads
 | .mk _ _ _ x y=>x.reads++y.reads
 | .app x y _ _ _=>x.reads++y.reads
 | .Iy x y _=>x.reads++y.reads
 | .mn x y=>x.reads++y.reads
 | .mx x y=>x.reads++y.reads
 | .bld _ ps=>ps.flatMap λ p=>p.2.2.reads
 | .bldS _ _ _ _ ps=>ps.flatMap λ p=>p.2.reads
 | .alloc _=>[]
 | .slz x _=>x.reads
 | .SP x _=>x.reads
 | .b2s x=>x.reads
 | .mkc _ x y=>x.reads++y.reads
 | .nilq _ x=>x.reads
 | .mZ x a b c _=>x.reads++sg a++sg b++sg c
 | .sslc x a b=>x.reads++sg a++sg b
 | .call _ as=>mh as
 | .callv x as=>x.reads++mh as
 | .mkf _ a b=>mh a++mh b
theorem Arg.get_congr {e e':LEnv}{x:Arg}(h:∀i∈x.reads,e.get i=e'.get i):x.get e=x.get e':=by
 cases x with
 | t i=>exact h i (by simp[Arg.reads])
 | c d=>rfl
theorem BB {e e':LEnv}{l:List Arg}(h:∀i,i∈mh l->e.get i=e'.get i):l.map (·.get e)=l.map (·.get e'):=by
 grind [List.map_congr_left,Arg.get_congr,mh]
theorem sf {e e':LEnv}{x:Option Arg}(h:∀i,i∈sg x->e.get i=e'.get i) (d:Nat) (K:Int->Prop):vopt e x d K=vopt e' x d K:=by
 cases x with
 | none=>rfl
 | some a=>simp only[vopt];rw[Arg.get_congr h]
theorem AQ {op:AOp}{e e':LEnv}(h:∀i∈op.reads,e.get i=e'.get i) (K:HKq) (hp:Heap):vcOp P op K e hp->vcOp P op K e' hp:=by
 cases op
 case bld zero ps =>
  grind [AOp.reads,Arg.get_congr,vcOp,List.map_congr_left]
 case bldS fz esz len zero ps =>
  simp only[AOp.reads,List.mem_flatMap]at h;have hg:∀p∈ps,p.2.get e=p.2.get e':=λ p G=>Arg.get_congr λ i hi=>h i ⟨p,G,hi⟩
  simp only[vcOp,FC,LI];grind [List.map_congr_left]
 case mZ x a b c n =>
  simp only[AOp.reads,List.mem_append]at h;have hx:x.get e=x.get e':=Arg.get_congr λ i hi=>h i (Or.inl (Or.inl (Or.inl hi)))
  have ha:=λ d K=>sf (x:=a) (λ i hi=>h i (Or.inl (Or.inl (Or.inr hi)))) d K
  have hb:=λ d K=>sf (x:=b) (λ i hi=>h i (Or.inl (Or.inr hi))) d K
  have hc:=λ d K=>sf (x:=c) (λ i hi=>h i (Or.inr hi)) d K
  simp only[vcOp,hx,ha,hb,hc];exact id
 case sslc x a b =>
  simp only[AOp.reads,List.mem_append]at h;have hx:x.get e=x.get e':=Arg.get_congr λ i hi=>h i (Or.inl (Or.inl hi))
  have ha:=λ d K=>sf (x:=a) (λ i hi=>h i (Or.inl (Or.inr hi))) d K
  have hb:=λ d K=>sf (x:=b) (λ i hi=>h i (Or.inr hi)) d K
  simp only[vcOp,hx,ha,hb];exact id
 case call f as =>
  grind [AOp.reads,vcOp,BB]
 case callv x as =>
  grind [AOp.reads,Arg.get_congr,BB,vcOp]
 case mkf f a b =>
  grind [AOp.reads,BB,vcOp]
 case alloc z=>exact id
 case pick x y z =>
  grind [AOp.reads,Arg.get_congr,vcOp]
 case mn3 x y z =>
  grind [AOp.reads,Arg.get_congr,vcOp]
 case mx3 x y z =>
  grind [AOp.reads,Arg.get_congr,vcOp]
 case dead=>exact id
 case KL kt=>exact id
 case look kt x k z ok =>
  grind [AOp.reads,Arg.get_congr,vcOp]
 case mupd kt x k v =>
  grind [AOp.reads,Arg.get_congr,vcOp]
 all_goals
  grind [AOp.reads,Arg.get_congr,vcOp]
theorem jR {op:AOp}{e e':LEnv}(h:∀i∈op.reads,e.get i=e'.get i) (K:D->Prop) (hp:Heap):vcdOp P op K e hp->vcdOp P op K e' hp:=by
 cases op
 case bldS fz esz len zero ps =>
  grind [AOp.reads,Arg.get_congr,vcdOp,List.map_congr_left]
 case call f as =>
  simp only[AOp.reads]at h;have hg:∀x∈as,x.get e=x.get e':=λ x hx=>Arg.get_congr λ i hi=>h i (by grind [mh])
  simp only[vcdOp,By];grind [List.map_congr_left]
 case fadd x off =>
  have hx:x.get e=x.get e':=Arg.get_congr h;grind [vcdOp]
 case mk esz b z l c =>
  grind [AOp.reads,Arg.get_congr,vcdOp]
 case nilq neg x =>
  have hx:x.get e=x.get e':=Arg.get_congr h;grind [vcdOp]
 all_goals exact AQ (P:=P) h (λ d _=>K d) hp
def AOp.isVal:AOp->Bool
 | .alloc _=>false
 | .slz _ _=>false
 | .SP _ _=>false
 | .b2s _=>false
 | .mkc _ _ _=>false
 | .box _=>false
 | .KL _=>false
 | .mupd _ _ _ _=>false
 | .st _ _ _=>false
 | .app _ _ _ _ _=>false
 | .Iy _ _ _=>false
 | .callv _ _=>false
 | _=>true
def AOp.stable:AOp->Bool
 | .len _=>false
 | .iadd _ _ _=>false
 | .iadda _ _ _ _=>false
 | .ld _ _ _=>false
 | .mZ _ _ _ _ _=>false
 | .call _ _=>false
 | .look _ _ _ _ _=>false
 | _=>true
def Ext (h h':Heap):Prop:=∀n,h n≠.free->h' n=h n
def cF (h h':Heap):Prop:=∀n,h n≠.free->h' n≠.free
theorem Ext.box {h h':Heap}(x:Ext h h'):cF h h':=λ n hn=>by rw[x n hn];exact hn
theorem cF.Jb {h:Heap}:cF h h:=λ _ hn=>hn
theorem cF.aF {h h':Heap}(x:cF h h'){n:Nat}{s:Slot}(hs:s≠.free):cF h (Go.Am.aF h' n s):=λ k G=>by
 by_cases e:k=n
 ·grind [av]
 ·rw[an _ _ e];exact x k G
theorem Ext.row {h h':Heap}(x:Ext h h'){n:Nat}{r:Nat×List D}(hr:(h n).row=some r):(h' n).row=some r:=by rw[x n (Slot.fW hr)];exact hr
theorem Ext.live {h h':Heap}(x:Ext h h'){n:Nat}(hl:(h n).live=true):(h' n).live=true:=by
 rw[x n (by intro G;rw[G]at hl;cases hl)];exact hl
theorem o4 {x:D}{K:Int->Prop}(hv:vint x K):∃i,K i/\∀K':Int->Prop,K' i->vint x K':=by
 cases x<;>first|exact⟨_,hv,λ _ h=>h⟩|exact hv.elim
theorem rR {e:LEnv}{x:Option Arg}{n:Nat}{K:Int->Prop}(hv:vopt e x n K):∃i,K i/\∀K':Int->Prop,K' i->vopt e x n K':=by
 cases x with
 | none=>exact⟨_,hv,λ _ h=>h⟩
 | some a=>exact o4 hv
theorem oU {cs:List D}{o n:Nat}{b:Bool}{K:D->Prop}(hv:vpart cs o n b K):∃d,K d/\∀K':D->Prop,K' d->vpart cs o n b K':=by
 grind [vpart]
theorem Nk {op:BinOp}{x y:D}{K:D->Prop}(hv:vbin op x y K):∃d,K d/\∀K':D->Prop,K' d->vbin op x y K':=by
 unfold vbin at hv ⊢;grind
theorem P5 {op:UnOp}{x:D}{K:D->Prop}(hv:vun op x K):∃d,K d/\∀K':D->Prop,K' d->vun op x K':=by
 unfold vun at hv ⊢;grind
theorem Po {h h':Heap}(x:Ext h h'){d:D}(hok:nN h d):d.fz h'=d.fz h/\nN h' d:=by
 have cell:∀c:D,p6 h c->c.fzc h'=c.fzc h/\p6 h' c:=by
  intro c hc
  cases c with
  | ms n off len =>
   obtain⟨esz,els,hr,h1,h2⟩:=hc;exact⟨by simp[D.fzc,hr,x.row hr],esz,els,x.row hr,h1,h2⟩
  | _=>exact⟨rfl,trivial⟩
 constructor
 ·cases d with
  | agg cs =>
   simp only[D.fz];congr 1;exact List.map_congr_left λ c hc=>(cell c (hok c hc)).1
  | ms n off len=>exact(cell (.ms n off len) (hok (.ms n off len) (List.mem_singleton.2 rfl))).1
  | _=>rfl
 ·exact λ c hc=>(cell c (hok c hc)).2
theorem oW {op:AOp}(hval:op.isVal=true){K:D->Prop}{e:LEnv}{h:Heap}(hv:vcdOp P op K e h) :
  ∃d,K d/\∀h',(if op.stable then cF h h' else Ext h h')->∀K':D->Prop,K' d->vcdOp P op K' e h':=by
 cases op<;>simp only[AOp.isVal]at hval<;>try (cases hval;done)
 case mov x=>exact⟨_,hv,λ _ _ _ h=>h⟩
 case dead=>exact(show False from hv).elim
 case look kt x k z ok =>
  simp only[vcdOp,vcOp]at hv ⊢;grind [Ext,AOp.stable]
 case pick c a b =>
  grind [vcdOp,vcOp]
 case bin op x y=>obtain⟨d,h1,h2⟩:=Nk hv;exact⟨d,h1,λ _ _ K' h=>h2 K' h⟩
 case un op x=>obtain⟨d,h1,h2⟩:=P5 hv;exact⟨d,h1,λ _ _ K' h=>h2 K' h⟩
 case eqv neg agg ks x y =>
  simp only[vcdOp,vcOp,veqv]at hv ⊢;grind
 case conv k x=>obtain⟨i,h1,h2⟩:=o4 hv;exact⟨_,h1,λ _ _ K' h=>h2 _ h⟩
 case ext x i =>
  simp only[vcdOp,vcOp]at hv ⊢;grind
 case fld x off size agg =>
  simp only[vcdOp,vcOp]at hv ⊢;grind [oU]
 case bld zero ps=>exact⟨_,hv.2,λ _ _ _ h=>⟨hv.1,h⟩⟩
 case bldS fz esz len zero ps=>exact⟨_,hv.2.2.2,λ _ _ _ h=>⟨hv.1,hv.2.1,hv.2.2.1,h⟩⟩
 case mk esz b z l c =>
  obtain⟨i,h1,h2⟩:=o4 (show vint (l.get e) _ from hv);obtain⟨j,Z,g2⟩:=o4 h1;exact⟨_,Z.2.2,λ h' _ K' G=>h2 _ (g2 _ ⟨Z.1,Z.2.1,G⟩)⟩
 case len x =>
  simp only[vcdOp,vcOp,aM]at hv ⊢;cases hc:x.get e<;>simp only[hc]at hv ⊢<;>try exact hv.elim
  ·grind
  ·grind
  ·exact⟨_,hv.2,λ _ hx _ h=>⟨Ext.live (by simpa[AOp.stable] using hx) hv.1,h⟩⟩
 case slen x =>
  grind [vcdOp,vcOp]
 case fadd x off =>
  grind [vcdOp,Slot.P9,cF,AOp.stable]
 case iadd x i esz =>
  obtain⟨n,h1,h2⟩:=o4 (show vint (i.get e) _ from hv);cases hc:x.get e<;>simp only[hc]at h1<;>try exact h1.elim
  ·rename_i xs;obtain⟨I,Q,a3⟩:=h1;have hd:xs[n.toNat]?=some (xs[n.toNat]'(by omega)):=by rw[aq]
   obtain⟨b1,b2⟩:=a3 _ hd;refine⟨_,b2,λ h' _ K' G=>h2 _ ?_⟩;grind
  ·obtain⟨I,Q,⟨els,a3⟩,a4⟩:=h1;refine⟨_,a4,λ h' hx K' G=>h2 _ ?_⟩;simp only[hc];exact⟨I,Q,⟨els,Ext.row (by simpa[AOp.stable] using hx) a3⟩,G⟩
 case iadda x i len esz =>
  obtain⟨n,h1,h2⟩:=o4 (show vint (i.get e) _ from hv);cases hc:x.get e<;>simp only[hc]at h1<;>try exact h1.2.2.elim
  ·obtain⟨I,Q,a3,a4⟩:=h1;refine⟨_,a4,λ h' hx K' G=>h2 _ ?_⟩;simp only[hc];exact⟨I,Q,Ext.live (by simpa[AOp.stable] using hx) a3,G⟩
  ·obtain⟨I,Q,a4⟩:=h1;refine⟨_,a4,λ h' hx K' G=>h2 _ ?_⟩;grind
 case sidx x i len size agg =>
  obtain⟨n,h1,h2⟩:=o4 (show vint (i.get e) _ from hv);cases hc:x.get e<;>simp only[hc]at h1<;>try exact h1.elim
  ·rename_i s;obtain⟨a0,I,Q,a3⟩:=h1;have a7:n.toNat<s.size:=by omega
   have hb:s[n.toNat]?=some s[n.toNat]:=by grind
   refine⟨_,a3 _ hb,λ h' _ K' G=>h2 _ ?_⟩;grind
  ·obtain⟨a0,I,Q,a3⟩:=h1;obtain⟨d,Z,g2⟩:=oU a3;refine⟨_,Z,λ h' _ K' G=>h2 _ ?_⟩;grind
 case ld x size agg =>
  simp only[vcdOp,vcOp]at hv ⊢;cases hc:x.get e<;>simp only[hc]at hv ⊢<;>try exact hv.elim
  ·rename_i n i j;cases hn:h n<;>simp only[hn]at hv<;>try exact hv.elim
   ·grind [oU,Ext,AOp.stable]
   ·obtain⟨I,Q⟩:=hv;rename_i esz els;have hd:els[i]?=some (els[i]'I):=by rw[aq]
    grind [oU,Ext,AOp.stable]
   ·obtain⟨I,Q⟩:=hv;rename_i esz els;have hd:els[i]?=some (els[i]'I):=by rw[aq]
    grind [oU,Ext,AOp.stable]
  grind [oU]
 case mZ x lo hi mx esz =>
  simp only[vcdOp,vcOp]at hv ⊢;cases hc:x.get e<;>simp only[hc]at hv ⊢<;>try exact hv.elim
  ·grind [rR]
  ·grind [rR]
  ·obtain⟨l,h1,l2⟩:=rR hv;obtain⟨r,h1,r2⟩:=rR h1;obtain⟨m,h1,m2⟩:=rR h1;obtain⟨I,Q,a3,a4,⟨els,a5⟩,a6⟩:=h1;exact⟨_,a6,λ h' hx K' G=>l2 _ (r2 _ (m2 _ ⟨I,Q,a3,a4,⟨els,Ext.row (by simpa[AOp.stable] using hx) a5⟩,G⟩))⟩
 case nilq neg x =>
  grind [vcdOp]
 case sslc x lo hi =>
  simp only[vcdOp,vcOp]at hv ⊢;grind [rR]
 case call f as =>
  simp only[vcdOp,By]at hv ⊢;obtain⟨r,h1,h2,h3,h4⟩:=hv;refine⟨r,h4,λ h' hx K' G=>?_⟩;have V:Ext h h':=by simpa[AOp.stable] using hx
  have e1:(as.map λ x=>(x.get e).fz h')=as.map λ x=>(x.get e).fz h:=List.map_congr_left λ x hm=>(Po V (h2 x hm).2.1).1
  refine⟨r,by rw[e1];exact h1,λ x hm=>⟨(h2 x hm).1,(Po V (h2 x hm).2.1).2,by grind [Po]⟩,h3.imp id (λ hz n hn=>by
   obtain⟨e1,e2,e3⟩:=hz n hn
   exact⟨e1,e2,by rw[V n (by rw[e3];simp)];exact e3⟩),G⟩
 case mkf f a b=>exact⟨_,hv,λ _ _ _ h=>h⟩
 case mn x y =>
  grind [vcdOp,vcOp]
 case mx x y =>
  grind [vcdOp,vcOp]
 case mn3 x y z =>
  grind [vcdOp,vcOp]
 grind [vcdOp,vcOp]
end Go.Am
namespace Go.Am
open Go
variable [ca]
variable {P:Program}{nt:Nat}
theorem Y2 {o:Oper}{t elem:TypeId}{len esz:Nat}{ps:Array (Nat×Operand)}{qs:List (Nat×Arg)}{zd:D}(ho:o.op=.buildSlice t len ps) (hu:P.underlying t=some (.slice elem))
  (ht:(P.info? elem).map (·.size)=some esz) (hpos:0<esz) (hz:fM P elem=some zd) (hsz:zd.cells.length=esz) (hq:cPartsS len ps.toList=some qs) (hmax:len*esz<=16777216)
  (hd:∀i,o.dst=some i->i<nt) {K:D->Prop}{e:LEnv}{h:Heap}{fz:Bool}(hv:vcdOp P (.bldS fz esz len zd qs) K e h) :
  OK P nt o (λ t' h'=>∃d,t'=(e.put o.dst d).get/\K d/\h'=h) e.get h:=by
 obtain⟨z,c7,b2⟩:=hQ hz;intro e2 r c w a Q hh hp hr hs;subst hh;simp only[vcdOp,FC,Vt]at hv;obtain⟨c4,a7,c6,hk⟩:=hv;obtain⟨hlen,a8⟩:=ug hq
 have b1:∀(k:Nat) (p:Nat×Operand) (q:Nat×Arg),ps.toList[k]?=some p->qs[k]?=some q->aB c (q.2.get e) (a.eval p.2)/\aL (q.2.get e)/\(q.2.get e).cells.length=esz:=by
  grind [aJ]
 let els:=setEls (List.replicate len zd) (qs.map λ p=>(p.1,p.2.get e))
 have V:∀e,e∈List.replicate len zd->e.cells.length=esz:=λ e he=>by grind
 have a1:∀p,p∈qs.map (λ p=>(p.1,p.2.get e))->p.2.cells.length=esz/\p.1<(List.replicate len zd).length:=by
  grind
 have Z:∀e∈els,e.cells.length=esz:=AZ _ V (λ p hp=>(a1 p hp).1);have c3:els.length=len:=by grind [A0]
 have c5:=dE (jA b2 c) (gW b2)
 let a6:=(Array.range (len*esz)).map (λ k=>z.cells[k % z.cells.size]!)
 let vals:List (Nat×Value):=ps.toList.map λ p=>(p.1,a.eval p.2)
 obtain⟨G,g1,g2,g3⟩:=Jz (c:=c) (λ i=>some (i*esz,esz)) vals ((qs.map λ p=>(p.1,p.2.get e)).map λ p=>(p.1*esz,esz,p.2.cells)) a6 (flat (List.replicate len zd)) (K0 c5 hsz hpos)
  (by simp[vals,hlen]) (by
   intro k p q c1 b5;simp only[vals,List.getElem?_map,Option.map_eq_some_iff]at c1 b5;obtain⟨p',c2,rfl⟩:=c1;obtain⟨e4,⟨q',b7,rfl⟩,rfl⟩:=b5;obtain⟨s1,s2,s3⟩:=a8 k p' q' c2 b7;obtain⟨f1,f2,f3⟩:=b1 k p' q' c2 b7;refine⟨by simp[s1],dE f1 f2,f3,?_⟩;rw[bE V];simp only[List.length_replicate];have:=Nat.mul_le_mul_right esz (show q'.1+1<=len from s3)
   grind)
 rw[Bu _ V a1]at g2
 have e5:G.size=len*esz:=by
  have:=g2.len;grind [bE]
 have b4:(execOp a.eval o).run P w=.ok (.value (.slice (some ⟨w.heap.size,0,none⟩) len len)) (w.alloc (.cells G elem)):=by
  have b3:ps.map (λ(i,x)=>(i,a.eval x))=vals.toArray:=by apply Array.ext';simp[vals]
  by_cases h0:len*esz=0
  ·have c8:a6 = #[]:=by grind
   rw[c8]at g1;simp[execOp,ho,b3,Instr.buildSlice,run_underlying hu,run_sizeOf ht,h0,Array.range_zero',g1,cA]
  ·simp[execOp,ho,b3,Instr.buildSlice,run_underlying hu,run_sizeOf ht,h0,show ¬(16777216<len*esz) by omega,bX c7,a6]at g1 ⊢;simp[g1,cA]
 have I:=grow_step hr (.cells G elem);have heap:(w.alloc (.cells G elem)).heap=c.hp.push (.cells G elem):=by rw[hp];rfl
 have a2:∀i j d,aT els i j=some d->d.vone=true:=by
  have mem:∀(l:List (Nat×D)) (e0:List D),(∀y∈e0,∀x∈y.cells,x.vone=true)->(∀p∈l,∀x∈p.2.cells,x.vone=true)->∀y,y∈setEls e0 l->∀x∈y.cells,x.vone=true:=by
   intro l
   induction l with
   | nil=>intro e0 h1 _;exact h1
   | cons p r ih =>
    intro e0 h1 h2;obtain⟨i,d⟩:=p;refine ih _ (λ y hy=>?_) (λ q hq=>h2 q (by simp[hq]));rcases List.mem_or_eq_of_mem_set hy with h|h
    ·exact h1 y h
    ·rw[h];exact h2 (i,d) (by simp)
  intro i j d hd;unfold aT at hd
  cases hz:els[i]? with
  | none=>simp[hz]at hd
  | some y =>
   simp only[hz,Option.bind_some]at hd;refine mem _ _ (λ y hy=>by grind) (λ p c0=>?_) y (ak hz) d (ak hd);simp only[List.mem_map]at c0;obtain⟨q,e1,rfl⟩:=c0;exact a7 q e1
 have hrel:aB ⟨c.ρ,c.X,c.h,c.hp.push (.cells G elem)⟩ (.sl els) (.slice (some ⟨w.heap.size,0,none⟩) len len):=by
  have e3:len<=maxLen:=by unfold maxLen;have:=Nat.le_mul_of_pos_right len hpos;omega
  by_cases h0:len=0
  ·have:els=[]:=List.eq_nil_of_length_eq_zero (by omega);rw[this,h0];exact .iN _ _ (by simp[maxLen])
  ·have:=aB.sl (c:=⟨c.ρ,c.X,c.h,c.hp.push (.cells G elem)⟩) els w.heap.size 0 len esz (λ i j=>G.getD (i*esz+j) Go.undef) (by grind) (by omega) e3 hpos Z a2
    (λ i j d hd=>by
     rw[Nat.zero_add];refine dC (ty:=elem) (fr:=(0,0)) (by grind) ?_;have:=(ar.1 (gu Z hd)).1
     grind [bE]) ?_ (λ i j d hd=>by
     obtain⟨_,p2⟩:=g2.rel _ d (gu Z hd);rw[aO]at p2
     exact p2.mono I.1)
   ·rw[c3]at this;exact this
   ·rintro (hX|⟨n,hm,hρ⟩)
    ·have:=hr.xlt _ hX;rw[hp]at this;omega
    ·have:=jE hr hm hρ;rw[hp]at this;omega
 refine kF e2 b4 ?_;refine⟨c.ρ,(e.put o.dst (.sl els)).get,c.h,by rw[heap];exact I.1,by rw[heap];exact I.2,⟨rfl,rfl,rfl⟩,?_,.sl els,rfl,hk,rfl⟩;rw[heap,LEnv.bO];exact(hs.mono I.1).put hd hrel
theorem acW {o:Oper}{t elem:TypeId}{x y:Operand}{x' y':Arg}{i:TypeInfo}{zd:D}(ho:o.op=.makeSlice t x y) (hx:cArg x=some x') (hy:cArg y=some y') (hd:∀i,o.dst=some i->i<nt)
  (hu:P.underlying t=some (.slice elem)) (hi:P.info? elem=some i) (hz:fM P elem=some zd) (hsz:zd.cells.length=i.size) (hpos:0<i.size) {K:D->Prop}{e:LEnv}{h:Heap}(hv:vcdOp P (.mk i.size i.bytes zd x' y') K e h) :
  OK P nt o (λ t' h'=>∃d,t'=(e.put o.dst d).get/\K d/\h'=h) e.get h:=by
 obtain⟨z,b7,a2⟩:=hQ hz;intro c2 r c w a Q hh hp hr hs;subst hh;simp only[vcdOp]at hv;have rx:=aJ hx hs;have ry:=aJ hy hs;generalize c8:x'.get e=dx at hv rx;generalize c7:y'.get e=dy at hv ry;unfold vint at hv;split at hv
 case h_2=>exact hv.elim
 rename_i k l;split at hv
 case h_2=>exact hv.elim
 rename_i k' m;obtain⟨⟨h0,h1,h2,h3⟩,⟨_,V⟩,hk⟩:=hv;have ex:=fA rx;have ey:=fA ry;have a1:=dE (jA a2 c) (gW a2);have b5:z.cells.size=i.size:=by rw[<- hsz, <- a1.len];simp
 have wl:IntKind.i64.wrap l=l:=by grind [IntKind.wrap,IntKind.bits]
 have wm:IntKind.i64.wrap m=m:=by grind [IntKind.wrap,IntKind.bits]
 have b4:¬(m<0):=by omega
 have b3:¬((i.bytes:Int)*m>281474976710656):=by rw[Int.mul_comm];omega
 have b2:¬(l<0):=by omega
 have b1:¬(l>m):=by omega
 have I:¬(m.toNat*i.bytes>140737488355328):=by
  grind
 let vs:=(Array.range (m.toNat*i.size)).map (λ k=>z.cells[k % z.cells.size]!)
 have c0:vs.size=m.toNat*i.size:=by simp[vs]
 have c6:l.toNat*i.size<=m.toNat*i.size:=Nat.mul_le_mul_right _ (by omega)
 have a7:(execOp a.eval o).run P w=.ok (.value (.slice (some ⟨w.heap.size,0,none⟩) l.toNat m.toNat)) (w.alloc (.cells vs elem)):=by
  have a6:(P.info? elem).map (·.size)=some i.size:=by simp[hi]
  by_cases h:m.toNat*i.size=0
  ·have c1:vs = #[]:=by grind
   rw[c1];simp[execOp,ho,ex,ey,Instr.makeSlice,run_underlying hu,asInt,asIntOf,run_typeInfo hi,wl,wm,b4,b3,b2,b1,askRoom,I,run_sizeOf a6,h,cA,Array.range_zero']
  ·simp[execOp,ho,ex,ey,Instr.makeSlice,run_underlying hu,asInt,asIntOf,run_typeInfo hi,wl,wm,b4,b3,b2,b1,askRoom,I,run_sizeOf a6,h,bX b7,cA,vs]
 have G:=grow_step hr (.cells vs elem);have heap:(w.alloc (.cells vs elem)).heap=c.hp.push (.cells vs elem):=by rw[hp];rfl
 have hrel:aB ⟨c.ρ,c.X,c.h,c.hp.push (.cells vs elem)⟩ (.sl (List.replicate l.toNat zd)) (.slice (some ⟨w.heap.size,0,none⟩) l.toNat m.toNat):=by
  have a8:m.toNat<=maxLen:=by unfold maxLen;omega
  by_cases c4:l.toNat=0
  ·rw[c4];exact .iN _ _ a8
  ·have Z:∀(a b:Nat) (d:D),aT (List.replicate l.toNat zd) a b=some d->a<l.toNat/\b<i.size/\zd.cells[b]?=some d/\a*i.size+b<m.toNat*i.size:=by
    intro a b d hd;obtain⟨q1,q2⟩:=iJ hd;have hb:b<i.size:=by rw[<- hsz];exact(ar.1 q2).1
    have c5:a<l.toNat:=by
     unfold aT at hd
     cases hz:(List.replicate l.toNat zd)[a]? with
     | none=>simp[hz]at hd
     | some y=>simpa using (ar.1 hz).1
    have:(a+1)*i.size<=l.toNat*i.size:=Nat.mul_le_mul_right _ (by omega);rw[Nat.add_mul]at this;exact⟨c5,hb,q2,by omega⟩
   have:=aB.sl (c:=⟨c.ρ,c.X,c.h,c.hp.push (.cells vs elem)⟩) (List.replicate l.toNat zd) w.heap.size 0 m.toNat i.size (λ a b=>vs.getD (a*i.size+b) Go.undef) (by intro e0;have:=congrArg List.length e0;simp at this;omega) (by simp;omega) a8 hpos
    (λ e he=>by rw[List.eq_of_mem_replicate he];exact hsz) (λ a b d hd=>V d (ak (Z a b d hd).2.2.1))
    (λ a b d hd=>by
     rw[Nat.zero_add];refine dC (ty:=elem) (fr:=(0,0)) (by simp only;rw[<- hp];exact o9 _ _) ?_
     rw[c0];exact(Z a b d hd).2.2.2) ?_ (λ a b d hd=>by
     obtain⟨q0,hb,q2,c3⟩:=Z a b d hd;obtain⟨p1,p2⟩:=a1.rel b d q2;rw[Jm z.cells (by omega) _ _ c3,b5]
     have:(a*i.size+b) % i.size=b:=by
      rw[Nat.mul_comm,Nat.mul_add_mod];exact Nat.mod_eq_of_lt hb
     rw[this, <- aO]
     exact p2.mono G.1)
   ·simpa using this
   ·rintro (hX|⟨n,hm,hρ⟩)
    ·have:=hr.xlt _ hX;rw[hp]at this;omega
    ·have:=jE hr hm hρ;rw[hp]at this;omega
 refine kF c2 a7 ?_;refine⟨c.ρ,(e.put o.dst (.sl (List.replicate l.toNat zd))).get,c.h,by rw[heap];exact G.1,by rw[heap];exact G.2,⟨rfl,rfl,rfl⟩,?_,.sl (List.replicate l.toNat zd),rfl,hk,rfl⟩;rw[heap,LEnv.bO];exact(hs.mono G.1).put hd hrel
theorem Ro {op:AOp}(hval:op.isVal=true) (hb:∀a b c d e,op≠.bldS a b c d e) (hc:∀f as,op≠.call f as) (hmk:∀a b c d e,op≠.mk a b c d e){K:HKq}{e:LEnv}{h:Heap}(hv:vcOp P op (λ d _=>K d h) e h):vcOp P op K e h:=by
 cases op<;>simp only[AOp.isVal]at hval<;>first
  | (cases hval;done)
  | exact hv
  | exact absurd rfl (hb _ _ _ _ _)
  | exact absurd rfl (hc _ _)
  | exact absurd rfl (hmk _ _ _ _ _)
def AOp.plainVal:AOp->Bool
 | .bldS _ _ _ _ _=>false
 | .mk _ _ _ _ _=>false
 | .call _ _=>false
 | op=>op.isVal
def cdOp (P:Program) (o:Oper):Option AOp :=
 match o.op with
 | .buildSlice t len ps=>match P.underlying t with
  | some (.slice e)=>match (P.info? e).map (·.size),fM P e,cPartsS len ps.toList with
   | some n,some z,some qs=>if 0<n/\z.cells.length=n/\len*n<=16777216 then some (.bldS false n len z qs) else none
   | _,_,_=>none
  | _=>none
 | .call { callee:=.value (.func f),args:=args,argTypes:=_ }=>if fF P f then(args.toList.mapM cArg).map (.call f) else none
 | .makeSlice t x y=>match P.underlying t with
  | some (.slice e)=>match P.info? e,fM P e,cArg x,cArg y with
   | some i,some z,some x,some y=>if z.cells.length=i.size/\0<i.size then some (.mk i.size i.bytes z x y) else none
   | _,_,_,_=>none
  | _=>none
 | _=>match cOp P false o with
  | some op=>if op.plainVal then some op else none
  | none=>none
theorem VZ {o:Oper}{op:AOp}(hcop:cOp P false o=some op) (hpl:op.plainVal=true) (hd:∀i,o.dst=some i->i<nt){K:D->Prop}{e:LEnv}{h:Heap}(hv:vcdOp P op K e h) :
  OK P nt o (λ t' h'=>∃d,t'=(e.put o.dst d).get/\K d/\h'=h) e.get h:=by
 have G:op.isVal=true:=by cases op<;>simp_all [AOp.plainVal,AOp.isVal]
 have plain:vcOp P op (λ d _=>K d/\h=h) e h->OK P nt o (λ t' h'=>∃d,t'=(e.put o.dst d).get/\K d/\h'=h) e.get h:=by
  intro hv;have:=sA (nt:=nt) hcop hd (λ d h'=>K d/\h'=h) e h (Ro G (by rintro a b c d e rfl;simp[AOp.plainVal]at hpl) (by rintro f as rfl;simp[AOp.plainVal]at hpl) (by rintro a b c d e rfl;simp[AOp.plainVal]at hpl) hv);refine pF ?_ this;rintro t' h' ⟨d,rfl,Q,rfl⟩;exact⟨d,rfl,Q,rfl⟩
 obtain⟨d,Q,I⟩:=oW G hv;have again:=I h (by split;exact cF.Jb;exact λ n _=>rfl) (λ d=>K d/\h=h) ⟨Q,rfl⟩;cases op<;>simp only[AOp.plainVal,AOp.isVal]at hpl<;>try (cases hpl;done)
 case fadd x off =>
  refine plain ?_;simp only[vcdOp]at again;simp only[vcOp];cases hx:x.get e<;>simp only[hx]at again ⊢<;>try exact again.elim
  ·exact again
  ·exact again
 case nilq neg x =>
  refine plain ?_;simp only[vcdOp]at again;simp only[vcOp];cases hx:x.get e<;>simp only[hx]at again ⊢<;>try exact again.elim
  ·exact again
  ·rename_i xs
   cases xs with
   | nil=>exact again.elim
   | cons d r=>exact again
 all_goals exact plain again
theorem xj:∀(ns:List Nat){h:Heap},VN h ns->h.freezeAll ns=h
 | [],_,_=>rfl
 | n::r,h,G=>by
  obtain⟨e,l,hn⟩:=G n (List.mem_cons_self);have:h.freeze n=h:=by unfold Heap.freeze;rw[hn]
  simp only[Heap.freezeAll,this];exact xj r λ m hm=>G m (List.mem_cons_of_mem _ hm)
theorem Y1 {o:Oper}{f:FuncId}{args:Array Operand}{ats:Array TypeId}{args':List Arg}(ho:o.op=.call { callee:=.value (.func f),args:=args,argTypes:=ats }) (ha:args.toList.mapM cArg=some args')
  (hd:∀i,o.dst=some i->i<nt) (hf:fF P f=true) {K:D->Prop}{e:LEnv}{h:Heap}(hv:vcdOp P (.call f args') K e h) :
  OK P nt o (λ t' h'=>∃d,t'=(e.put o.dst d).get/\K d/\h'=h) e.get h:=by
 simp only[vcdOp,By]at hv;obtain⟨r,h1,h2,h3,h4⟩:=hv
 have G:ag P f (args'.map (·.get e)) h λ d h'=>K d/\h'=h:=by
  refine ag.mono ?_ (dQ (ds:=args'.map (·.get e)) (K:=(· = r)) (by rw[List.map_map];exact h1) (λ d hd=>?_))
  ·rintro d h' ⟨rfl,Q,I⟩;refine⟨h4,?_⟩;by_cases hc:d.flat=true\/(args'.map (·.get e)).flatMap D.nm=[]
   ·exact Q hc
   ·rw[I hc];rcases h3 with h3|h3
    ·exact absurd (Or.inl h3) hc
    ·refine xj _ λ n hn=>h3 n ?_
     rw[List.flatMap_map]at hn;exact hn
  ·simp only[List.mem_map]at hd;obtain⟨x,hx,rfl⟩:=hd;exact h2 x hx
 have:=TB (nt:=nt) ho ha hd hf (λ d h'=>K d/\h'=h) e h G;refine pF ?_ this;rintro t' h' ⟨d,rfl,V,rfl⟩;exact⟨d,rfl,V,rfl⟩
theorem JN {o:Oper}{op:AOp}(hc:cdOp P o=some op) (hd:∀i,o.dst=some i->i<nt){K:D->Prop}{e:LEnv}{h:Heap}(hv:vcdOp P op K e h) :
  OK P nt o (λ t' h'=>∃d,t'=(e.put o.dst d).get/\K d/\h'=h) e.get h:=by
 unfold cdOp at hc;split at hc
 ·rename_i t len ps ho;split at hc
  ·rename_i el hu;split at hc
   ·rename_i h1 h2 h3;split at hc
    ·rename_i G;simp at hc;subst hc;exact Y2 ho hu h1 G.1 h2 G.2.1 h3 G.2.2 hd hv
    ·cases hc
   ·cases hc
  ·cases hc
 ·rename_i f args Z ho;split at hc
  ·rename_i V;simp at hc;obtain⟨ys,hy,rfl⟩:=hc;exact Y1 ho hy hd V hv
  ·cases hc
 ·rename_i t x y ho;split at hc
  ·rename_i el hu;split at hc
   ·rename_i i z x' y' h1 h2 h3 h4;split at hc
    ·rename_i G;simp at hc;subst hc;exact acW ho h3 h4 hd hu h1 h2 G.1 G.2 hv
    ·cases hc
   ·cases hc
  ·cases hc
 ·split at hc
  ·rename_i Q hop;split at hc
   ·rename_i I;simp at hc;subst hc;exact VZ hop I hd hv
   ·cases hc
  ·cases hc
theorem C9 {o:Oper}{op:AOp}(h:cdOp P o=some op):∀c,o.op≠.defer c:=by
 intro c hc;simp[cdOp,cOp,cOp0,cOpM,deadOp,hc]at h
theorem mg {o:Oper}{op:AOp}(hc:cdOp P o=some op):op.isVal=true:=by
 unfold cdOp at hc;split at hc
 ·split at hc
  ·split at hc
   ·split at hc
    ·simp at hc;subst hc;rfl
    ·cases hc
   ·cases hc
  ·cases hc
 ·split at hc
  ·simp at hc;obtain⟨ys,_,rfl⟩:=hc;rfl
  ·cases hc
 ·split at hc
  ·split at hc
   ·split at hc
    ·simp at hc;subst hc;rfl
    ·cases hc
   ·cases hc
  ·cases hc
 ·split at hc
  ·rename_i G _;split at hc
   ·rename_i I;simp at hc;subst hc;cases G<;>simp_all [AOp.plainVal,AOp.isVal]
   ·cases hc
  ·cases hc
end Go.Am
namespace Go.Am
open Go
variable [ca]
variable {P:Program}{nt:Nat}
def AOper.rd (a:AOper):List Nat:=a.op.reads++(match a.guard with|some (g,_)=>[g]|none=>[])
def cK (P:Program) (a:AOper) (e:LEnv) (h:Heap):Prop :=
 ∃d,(∀s,a.dst=some s->e.get s=d)/\match a.guard with
  | none=>∀K':D->Prop,K' d->vcdOp P a.op K' e h
  | some (g,want)=>∃b,gv (e.get g)=some b/\(b=some want->∀K':D->Prop,K' d->vcdOp P a.op K' e h)/\(b≠some want->d=gU)
theorem cK.congr {a:AOper}{e e':LEnv}{h:Heap}(hrd:∀i∈a.rd,e.get i=e'.get i) (hd:∀s,a.dst=some s->e'.get s=e.get s) (hv:cK P a e h):cK P a e' h:=by
 obtain⟨d,h1,h2⟩:=hv;refine⟨d,λ s hs=>(hd s hs).trans (h1 s hs),?_⟩;have hop:∀i∈a.op.reads,e.get i=e'.get i:=λ i hi=>hrd i (by simp[AOper.rd,hi])
 cases hg:a.guard with
 | none=>rw[hg]at h2;exact λ G I=>jR hop G h (h2 G I)
 | some p =>
  obtain⟨g,want⟩:=p;rw[hg]at h2;obtain⟨b,Z,V,Q⟩:=h2;exact⟨b,by grind [AOper.rd],λ hb G I=>jR hop G h (V hb G I),Q⟩
theorem cK.ext {a:AOper}(hval:a.op.isVal=true){e:LEnv}{h h':Heap}(hx:if a.op.stable then cF h h' else Ext h h') (hv:cK P a e h):cK P a e h':=by
 obtain⟨d,h1,h2⟩:=hv
 have step:(∀G:D->Prop,G d->vcdOp P a.op G e h)->∀G:D->Prop,G d->vcdOp P a.op G e h':=by
  intro V G Q;obtain⟨Z,rfl,I⟩:=oW hval (V (· = d) rfl);exact I h' hx G Q
 refine⟨d,h1,?_⟩;grind
theorem Nl:∀(vals:List AOper),(∀a∈vals,a.op.isVal=true)->(∀a∈vals,∀s,a.dst=some s->s∉a.rd)->vals.Pairwise (λ a b=>∀s,b.dst=some s->a.dst≠some s/\s∉a.rd) ->
  ∀{K:LEnv->Heap->Prop}{e:LEnv}{h:Heap},vcVals P vals K e h->∃T:LEnv,K T h/\(∀s,(∀a∈vals,a.dst≠some s)->T.get s=e.get s)/\∀a∈vals,cK P a T h:=by
 intro vals
 induction vals with
 | nil=>intro _ _ _ K e h V;exact⟨e,V,λ _ _=>rfl,by simp⟩
 | cons a r ih =>
  intro I Q a2 K e h V;rw[List.pairwise_cons]at a2;obtain⟨b2,a8⟩:=a2;have a7:=λ e'=>@ih (λ b hb=>I b (by simp[hb])) (λ b hb=>Q b (by simp[hb])) a8 K e' h
  have fin:∀d,vcVals P r K (e.put a.dst d) h->(match a.guard with
    | none=>∀G:D->Prop,G d->vcdOp P a.op G e h
    | some (g,want)=>∃b,gv (e.get g)=some b/\(b=some want->∀G:D->Prop,G d->vcdOp P a.op G e h)/\(b≠some want->d=gU)) ->
    ∃T:LEnv,K T h/\(∀s,(∀b,b∈a::r->b.dst≠some s)->T.get s=e.get s)/\∀b,b∈a::r->cK P b T h:=by
   intro d hr hm;obtain⟨T,t1,t2,t3⟩:=a7 _ hr
   have a6:∀s,a.dst≠some s->(e.put a.dst d).get s=e.get s:=by
    intro s hs;rw[LEnv.bO]
    cases hd:a.dst with
    | none=>rfl
    | some j =>
     have:s≠j:=by rintro rfl;exact hs hd
     simp[Env.put,aF,this]
   have b1:∀i∈a.rd,T.get i=e.get i:=by
    grind
   refine⟨T,t1,λ s hs=>?_,λ b hb=>?_⟩
   ·grind
   ·rcases List.mem_cons.1 hb with rfl|hb
    ·refine cK.congr (e:=e.put b.dst d) (λ i hi=>?_) (λ s hs=>?_) ⟨d,λ s hs=>by rw[LEnv.bO,hs];simp[Env.put,aF],?_⟩
     ·grind
     ·grind
     ·have hop:∀i∈b.rd,e.get i=(e.put b.dst d).get i:=λ i hi=>(a6 i (λ hd=>Q b (by simp) i hd hi)).symm
      have a1:∀i∈b.op.reads,e.get i=(e.put b.dst d).get i:=λ i hi=>hop i (by simp[AOper.rd,hi])
      cases hg:b.guard with
      | none=>rw[hg]at hm;exact λ G hk=>jR a1 G h (hm G hk)
      | some p =>
       obtain⟨g,want⟩:=p;rw[hg]at hm;obtain⟨x,q1,q2,q3⟩:=hm;exact⟨x,by grind [AOper.rd],λ hx G hk=>jR a1 G h (q2 hx G hk),q3⟩
    ·exact t3 b hb
  simp only[vcVals,tF,ai]at V
  cases hg:a.guard with
  | none =>
   simp only[hg]at V fin;obtain⟨d,k1,k2⟩:=oW (I a (by simp)) V;exact fin d k1 (λ G hk=>k2 h (by split;exact cF.Jb;exact λ n _=>rfl) G hk)
  | some p =>
   obtain⟨g,want⟩:=p;simp only[hg]at V fin;cases hb:gv (e.get g)<;>simp only[hb]at V<;>try exact V.elim
   rename_i b;by_cases Z:b=some want
   ·obtain⟨d,k1,k2⟩:=oW (I a (by simp)) (V.1 Z);exact fin d k1 ⟨b,hb,λ _ G hk=>k2 h (by split;exact cF.Jb;exact λ n _=>rfl) G hk,λ hne=>absurd Z hne⟩
   ·exact fin gU (V.2 Z) ⟨b,hb,λ h=>absurd h Z,λ _=>rfl⟩
def AOp.isTail:AOp->Bool
 | .alloc _=>true
 | .box _=>true
 | .mk _ _ _ _ _=>true
 | .st _ _ _=>true
 | .app _ _ _ _ _=>true
 | .Iy _ _ _=>true
 | .KL _=>true
 | .mupd _ _ _ _=>true
 | .mov _=>true
 | .fadd _ _=>false
 | op=>op.plainVal
def AOp.mut:AOp->Bool
 | .st _ _ _=>true
 | .app _ _ _ _ _=>true
 | .Iy _ _ _=>true
 | .mupd _ _ _ _=>true
 | _=>false
theorem C0 {h:Heap}{n:Nat}(hn:h n=.free) (s:Slot):Ext h (aF h n s):=by
 intro k G;grind [aF]
theorem fH {x:D}{K K':Int->Prop}(hk:∀i,K i->K' i) (h:vint x K):vint x K':=by
 unfold vint at h ⊢;grind
theorem fG {e:LEnv}{x:Option Arg}{n:Nat}{K K':Int->Prop}(hk:∀i,K i->K' i) (h:vopt e x n K):vopt e x n K':=by
 cases x with
 | none=>exact hk _ h
 | some a=>exact fH hk h
theorem tD {cs:List D}{o s:Nat}{g:Bool}{K K':D->Prop}(hk:∀i,K i->K' i) (h:vpart cs o s g K):vpart cs o s g K':=by
 grind [vpart]
theorem Rm {x:D}{h:Heap}{K K':D->Prop}(hk:∀i,K i->K' i) (hv:aM x h K):aM x h K':=by
 unfold aM at hv ⊢;grind
theorem wG {n:Nat}{x:D}{h:Heap}{K K':List D->Prop}(hk:∀i,K i->K' i) (hv:velems n x h K):velems n x h K':=by
 unfold velems at hv ⊢;grind
theorem Rp {op:BinOp}{x y:D}{K K':D->Prop}(hk:∀i,K i->K' i) (h:vbin op x y K):vbin op x y K':=by
 grind [Nk]
theorem SV {op:UnOp}{x:D}{K K':D->Prop}(hk:∀i,K i->K' i) (h:vun op x K):vun op x K':=by
 grind [P5]
theorem rT {op:AOp}{K K':HKq}(hk:∀d h',K d h'->K' d h'){e:LEnv}{h:Heap}(hv:vcOp P op K e h):vcOp P op K' e h:=by
 cases op<;>simp only[vcOp]at hv ⊢
 case mov x=>exact hk _ _ hv
 case pick c a b=>grind
 case bin op x y=>grind [Rp]
 case eqv neg agg ks x y =>
  grind [veqv]
 case un op x=>grind [SV]
 case conv k x=>grind [fH]
 case ext x i =>
  grind
 case fld x o s g=>grind [tD]
 case bld z ps=>exact⟨hv.1,hk _ _ hv.2⟩
 case bldS fz esz len z ps=>grind
 case len x=>grind [Rm]
 case slen x=>grind
 case fadd x o =>
  grind
 case iadd x i n =>
  refine fH (λ i hi=>?_) hv;grind
 case iadda x i l n =>
  grind [fH]
 case sidx x i len size agg =>
  refine fH (λ i hi=>?_) hv;grind [tD]
 case ld x s g =>
  cases hc:x.get e<;>simp only[hc]at hv ⊢
  ·grind [tD]
  grind [tD]
 case st x v s =>
  grind
 case alloc z=>grind
 case box x=>grind
 case mk esz b z l c=>exact fH (λ i hi=>fH (λ j G=>⟨G.1,G.2.1,G.2.2.1,G.2.2.2.1,λ n t=>hk _ _ (G.2.2.2.2 n t)⟩) hi) hv
 case mZ x lo hi mx n =>
  cases hc:x.get e<;>simp only[hc]at hv ⊢
  ·exact fG (λ _ h1=>fG (λ _ h2=>fG (λ _ h3=>⟨h3.1,h3.2.1,h3.2.2.1,hk _ _ h3.2.2.2⟩) h2) h1) hv
  ·exact fG (λ _ h1=>fG (λ _ h2=>fG (λ _ h3=>⟨h3.1,h3.2.1,h3.2.2.1,h3.2.2.2.1,h3.2.2.2.2.1,hk _ _ h3.2.2.2.2.2⟩) h2) h1) hv
  ·exact fG (λ _ h1=>fG (λ _ h2=>fG (λ _ h3=>⟨h3.1,h3.2.1,h3.2.2.1,h3.2.2.2.1,h3.2.2.2.2.1,hk _ _ h3.2.2.2.2.2⟩) h2) h1) hv
 case nilq neg x =>
  grind
 case slz x n =>
  grind
 case SP x n =>
  grind
 case mkc b l c=>exact fH (λ i hi=>fH (λ j G=>⟨G.1,G.2.1,G.2.2.1,G.2.2.2.1,hk _ _ G.2.2.2.2⟩) hi) hv
 case b2s x =>
  grind [wG]
 case sslc x lo hi =>
  cases hc:x.get e<;>simp only[hc]at hv ⊢;exact fG (λ _ h1=>fG (λ _ h2=>⟨h2.1,h2.2.1,h2.2.2.1,hk _ _ h2.2.2.2⟩) h1) hv
 case app s x esz b z =>
  refine wG (λ ys hy=>⟨hy.1,?_⟩) hv;have hy:=hy.2;cases hc:s.get e<;>simp only[hc]at hy ⊢
  ·grind
  grind
 case Iy d s n =>
  refine wG (λ ys hy=>⟨hy.1,?_⟩) hv;grind
 case call f as=>exact ag.mono hk hv
 case callv x as =>
  grind [ag.mono,rN.mono]
 case mkf f a b=>exact hk _ _ hv
 case KL kt=>grind
 case look kt x k z ok =>
  grind
 case mupd kt x k v =>
  grind
 case mn x y =>
  grind
 case mx x y =>
  grind
 case mn3 x y z =>
  grind
 grind
theorem Rr {neg:Bool}{x:Arg}{K:HKq}{e:LEnv}{h:Heap}(hv:vcOp P (.nilq neg x) K e h):vcOp P (.nilq neg x) (λ d h'=>K d h'/\h'=h) e h:=by
 grind [vcOp]
theorem O6 {op:AOp}(hp:op.plainVal=true) (hf:∀x o,op≠.fadd x o){K:HKq}{e:LEnv}{h:Heap}(hv:vcOp P op K e h):vcOp P op (λ d h'=>K d h'/\h'=h) e h:=by
 have G:op.isVal=true:=by cases op<;>simp_all [AOp.plainVal,AOp.isVal]
 by_cases Q:∃b x,op=.nilq b x
 ·grind [Rr]
 have I:vcdOp P op (λ d=>K d h) e h:=by
  cases op<;>simp only[AOp.plainVal,AOp.isVal]at hp<;>first
   | (cases hp;done)
   | exact absurd rfl (hf _ _)
   | exact absurd ⟨_,_,rfl⟩ Q
   | exact hv
 obtain⟨d,h1,h2⟩:=oW G I;have r:=h2 h (by split;exact cF.Jb;exact λ n _=>rfl) (λ d=>K d h/\h=h) ⟨h1,rfl⟩
 cases op<;>simp only[AOp.plainVal,AOp.isVal]at hp<;>first
  | (cases hp;done)
  | exact absurd rfl (hf _ _)
  | exact absurd ⟨_,_,rfl⟩ Q
  | exact r
theorem Rs {op:AOp}(ht:op.isTail=true){K:HKq}{e:LEnv}{h:Heap}(hv:vcOp P op K e h):vcOp P op (λ d h'=>K d h'/\if op.mut then cF h h' else Ext h h') e h:=by
 by_cases hp:op.plainVal=true/\∀x o,op≠.fadd x o
 ·grind [rT,O6,cF,Ext]
 cases op<;>simp only[AOp.isTail]at ht<;>first|(cases ht;done)|(exfalso;apply hp;constructor;assumption;intro _ _ h;cases h;done)|skip
 case alloc z=>exact λ n hn=>⟨hv n hn,by simpa[AOp.mut] using C0 hn.free _⟩
 case box x=>exact⟨hv.1,λ n hn=>⟨hv.2 n hn,by simpa[AOp.mut] using C0 hn.free _⟩⟩
 case mov x=>exact⟨hv,by simp[AOp.mut,Ext]⟩
 case mk esz bytes zero l c =>
  simp only[vcOp]at hv ⊢;grind [cF,Ext,qE,aF]
 case KL kt=>exact λ n hn=>⟨hv n hn,by simpa[AOp.mut] using C0 hn.free _⟩
 case mupd kt x k v =>
  simp only[vcOp]at hv ⊢;refine⟨hv.1,hv.2.1,?_⟩;have h2:=hv.2.2;cases hx:x.get e<;>simp only[hx]at h2 ⊢<;>try exact h2.elim
  grind [AOp.mut,cF,aF]
 case st x v size =>
  simp only[vcOp]at hv ⊢;refine⟨hv.1,hv.2.1,?_⟩;have hv:=hv.2.2;cases hx:x.get e<;>simp only[hx]at hv ⊢<;>try exact hv.elim
  rename_i n i j;cases hn:h n<;>simp only[hn]at hv ⊢<;>try exact hv.elim
  ·refine⟨hv.1,hv.2.1,hv.2.2,?_⟩;simp only[AOp.mut,if_true];exact cF.Jb.aF (by simp)
  ·refine⟨hv.1,hv.2.1,λ d hd=>⟨hv.2.2 d hd,?_⟩⟩;simp only[AOp.mut,if_true];exact cF.Jb.aF (by simp)
 case app s x esz bytes zero =>
  simp only[vcOp,velems]at hv ⊢
  have key:∀ys:List D,(match s.get e with
    | .nil=>(ys.length*bytes<=140737488355328/\ys.length<=9223372036854775807)/\∀n,qE h n->K (.ms n 0 ys.length) (aF h n (.arr esz ys))
    | .ms m off len=>∃els,FX h m esz els/\off+len=els.length/\((len+ys.length)*bytes<=140737488355328/\len+ys.length<=9223372036854775807) /\
      ∀n,qE h n->K (.ms n 0 (len+ys.length)) (aF (aF h m .dead) n (.arr esz (els.drop off++ys)))/\(off≠0->K (.ms n off (len+ys.length)) (aF (aF h m .dead) n (.arr esz (els++ys))))
    | _=>False)->(match s.get e with
    | .nil=>(ys.length*bytes<=140737488355328/\ys.length<=9223372036854775807)/\∀n,qE h n->(K (.ms n 0 ys.length) (aF h n (.arr esz ys))/\if(AOp.app s x esz bytes zero).mut then cF h (aF h n (.arr esz ys)) else Ext h (aF h n (.arr esz ys)))
    | .ms m off len=>∃els,FX h m esz els/\off+len=els.length/\((len+ys.length)*bytes<=140737488355328/\len+ys.length<=9223372036854775807) /\
      ∀n,qE h n->(K (.ms n 0 (len+ys.length)) (aF (aF h m .dead) n (.arr esz (els.drop off++ys)))/\if(AOp.app s x esz bytes zero).mut then cF h (aF (aF h m .dead) n (.arr esz (els.drop off++ys))) else Ext h (aF (aF h m .dead) n (.arr esz (els.drop off++ys)))) /\
       (off≠0->(K (.ms n off (len+ys.length)) (aF (aF h m .dead) n (.arr esz (els++ys)))/\if(AOp.app s x esz bytes zero).mut then cF h (aF (aF h m .dead) n (.arr esz (els++ys))) else Ext h (aF (aF h m .dead) n (.arr esz (els++ys)))))
    | _=>False):=by
   intro ys hv;cases hs:s.get e<;>simp only[hs]at hv ⊢<;>try exact hv.elim
   ·exact⟨hv.1,λ n hn=>⟨hv.2 n hn,by simpa[AOp.mut] using (C0 hn.free _).box⟩⟩
   ·rename_i m off len;obtain⟨els,hm,Z,a3,a4⟩:=hv;refine⟨els,hm,Z,a3,λ n hn=>⟨⟨(a4 n hn).1,?_⟩,λ h0=>⟨(a4 n hn).2 h0,?_⟩⟩⟩
    ·simp only[AOp.mut,if_true];exact(cF.Jb.aF (by simp)).aF (by simp)
    ·simp only[AOp.mut,if_true];exact(cF.Jb.aF (by simp)).aF (by simp)
  cases hx:x.get e<;>simp only[hx]at hv ⊢<;>try exact hv.elim
  ·exact⟨hv.1,key _ hv.2⟩
  ·exact⟨hv.1,hv.2.1,key _ hv.2.2⟩
  ·obtain⟨els,V,Q,I,G⟩:=hv;exact⟨els,V,Q,I,key _ G⟩
 case Iy d s esz =>
  simp only[vcOp,velems]at hv ⊢
  have key:∀ys:List D,(match d.get e with
    | .ms m off len=>∃els,h m=.arr esz els/\off+len<=els.length/\K (.int .i64 (min ys.length len:Nat)) (aF h m (.arr esz (els.take off++ys.take len++els.drop (off+min ys.length len))))
    | _=>False)->(match d.get e with
    | .ms m off len=>∃els,h m=.arr esz els/\off+len<=els.length/\(K (.int .i64 (min ys.length len:Nat)) (aF h m (.arr esz (els.take off++ys.take len++els.drop (off+min ys.length len)))) /\
      if(AOp.Iy d s esz).mut then cF h (aF h m (.arr esz (els.take off++ys.take len++els.drop (off+min ys.length len)))) else Ext h (aF h m (.arr esz (els.take off++ys.take len++els.drop (off+min ys.length len)))))
    | _=>False):=by
   intro ys hv;cases hs:d.get e<;>simp only[hs]at hv ⊢<;>try exact hv.elim
   rename_i m off len;obtain⟨els,hm,Z,a2⟩:=hv;refine⟨els,hm,Z,a2,?_⟩;simp only[AOp.mut,if_true];exact cF.Jb.aF (by simp)
  cases hx:s.get e<;>simp only[hx]at hv ⊢<;>try exact hv.elim
  ·exact⟨hv.1,key _ hv.2⟩
  ·exact⟨hv.1,hv.2.1,key _ hv.2.2⟩
  ·obtain⟨els,V,Q,I,G⟩:=hv;exact⟨els,V,Q,I,key _ G⟩
end Go.Am
namespace Go.Am
open Go
variable [ca]
variable {P:Program}{nt:Nat}
def cdOper (P:Program) (nt:Nat) (ops:Array Oper) (o:Oper):Option AOper :=
 if o.dst.all (· < nt) then
  match cdOp P o with
  | some op=>match o.guard with
   | none=>some ⟨o.dst,op,none⟩
   | some (j,want)=>match (ops[j]?).bind (·.dst) with
    | some s=>some ⟨o.dst,op,some (s,want)⟩
    | none=>none
  | none=>none
 else none
def Pz (P:Program) (nt:Nat) (ops:Array Oper) (o:Oper):Option AOper :=
 match cOper P true nt ops o with
 | some a=>if a.op.isTail then some a else none
 | none=>none
structure Item (P:Program) (nt:Nat) (ops:Array Oper) (tail:Bool) (o:Oper) (a:AOper):Prop where
 dst:a.dst=o.dst
 dlt:∀j,o.dst=some j->j<nt
 op:if tail then cOp P true o=some a.op/\a.op.isTail=true else cdOp P o=some a.op
 gn:o.guard=none->a.guard=none
 gs:∀j want,o.guard=some (j,want)->∃s,(ops[j]?).bind (·.dst)=some s/\a.guard=some (s,want)
theorem xq {ops:Array Oper}{o:Oper}{a:AOper}(h:cdOper P nt ops o=some a):Item P nt ops false o a:=by
 unfold cdOper at h;split at h
 case isFalse=>cases h
 rename_i Q;have hd:∀j,o.dst=some j->j<nt:=by grind
 cases hop:cdOp P o with
 | none=>simp[hop]at h
 | some op =>
  simp only[hop]at h
  cases hg:o.guard with
  | none=>simp[hg]at h;subst h;exact⟨rfl,hd,by simpa using hop,λ _=>rfl,λ j w G=>by rw[hg]at G;cases G⟩
  | some p =>
   obtain⟨j,want⟩:=p;simp only[hg]at h
   cases I:(ops[j]?).bind (·.dst) with
   | none=>simp[I]at h
   | some s=>simp[I]at h;subst h;exact⟨rfl,hd,by simpa using hop,λ G=>by rw[hg]at G;(cases G),λ V w G=>by grind⟩
theorem Og {ops:Array Oper}{o:Oper}{a:AOper}(h:Pz P nt ops o=some a):Item P nt ops true o a:=by
 unfold Pz at h
 cases hc:cOper P true nt ops o with
 | none=>simp[hc]at h
 | some a' =>
  simp only[hc]at h;split at h
  case isFalse=>cases h
  rename_i ht;simp at h;subst h;unfold cOper at hc;split at hc
  case isFalse=>cases hc
  rename_i Q;have hd:∀j,o.dst=some j->j<nt:=by grind
  cases hop:cOp P true o with
  | none=>simp[hop]at hc
  | some op =>
   simp only[hop]at hc
   cases hg:o.guard with
   | none=>simp[hg]at hc;subst hc;exact⟨rfl,hd,by simpa using ⟨hop,ht⟩,λ _=>rfl,λ j w G=>by rw[hg]at G;cases G⟩
   | some p =>
    obtain⟨j,want⟩:=p;simp only[hg]at hc
    cases I:(ops[j]?).bind (·.dst) with
    | none=>simp[I]at hc
    | some s=>simp[I]at hc;subst hc;exact⟨rfl,hd,by simpa using ⟨hop,ht⟩,λ G=>by rw[hg]at G;(cases G),λ V w G=>by grind⟩
structure KZ (P:Program) (nt:Nat) (ops:Array Oper) (items:List AOper) (masks:List Nat) (tl:List Nat) (rev:List AOper) (tw:Bool):Prop where
 len:items.length=ops.size
 item:∀(i:Nat) (o:Oper) (a:AOper),ops[i]?=some o->items[i]?=some a->Item P nt ops (tl.contains i) o a
 edge:∀(i:Nat) (o:Oper),ops[i]?=some o->∀e∈o.after.toList,Region.binds .any e=true->e.on<i
 mask:∀(i:Nat) (o:Oper),ops[i]?=some o->∀k,(masks.getD i 0).testBit k=true->∃e,e∈o.after.toList/\Region.binds .any e=true/\(k=e.on\/(masks.getD e.on 0).testBit k=true)
 tlt:∀i∈tl,i<ops.size
 tord:∀l k i i':Nat,tl[l]?=some i->tl[k]?=some i'->l<k->(tw=true/\l=0/\k=1)\/(masks.getD i' 0).testBit i=true
 rdv:∀(i k:Nat) (a b:AOper),items[i]?=some a->items[k]?=some b->i∉tl->∀s,a.dst=some s->(i≠k->b.dst≠some s)/\(s∈b.rd->i<k/\(masks.getD k 0).testBit i=true)
 rdt:∀(i k:Nat) (a b:AOper),items[i]?=some a->items[k]?=some b->i∈tl->k∉tl->∀s,a.dst=some s->s∈b.rd->(masks.getD i 0).testBit k=true
 mt:∀(i k:Nat) (a b:AOper),items[i]?=some a->items[k]?=some b->i∈tl->k∉tl->a.op.mut=true->b.op.stable=false->(masks.getD i 0).testBit k=true\/b∈rev
 rev:∀b∈rev,b.guard=none/\b.op.isVal=true/\b.dst.isSome=true
def cO (listed:Array Bool) (i:Nat):Bool:=listed.getD i true
structure J (P:Program) (nt:Nat) (ops:Array Oper) (items:List AOper) (masks tl:List Nat) (rev:List AOper) (tw:Bool) (c₀:Ctx) (w₀:World) (K:LEnv->Heap->Prop) (listed:Array Bool) (a:Act) (w:World):Prop where
 size:listed.size=ops.size
 dc:∀i k,i<ops.size->cO listed i=true->(masks.getD i 0).testBit k=true->cO listed k=true
 st:∃(ρ:Nat->Option Nat) (h:Heap) (e:LEnv) (j:Nat),c₀.le ⟨ρ,c₀.X,h,w.heap⟩/\aA ⟨ρ,c₀.X,h,w.heap⟩/\WS w₀ w/\iu ⟨ρ,c₀.X,h,w.heap⟩ a.defers/\a.tmps.size=nt /\
  (j<=tl.length/\(tw=true->2<=j))/\fx P rev ((tl.drop j).filterMap (λ i=>items[i]?)) K e h /\
  (∀l i,tl[l]?=some i->(cO listed i=true↔l<j)) /\
  (∀s,(∃i b,items[i]?=some b/\i∉tl/\cO listed i=false/\b.dst=some s)\/aB ⟨ρ,c₀.X,h,w.heap⟩ (e.get s) (a.tmps.getD s Go.undef)) /\
  (∀i b,items[i]?=some b->i∉tl->cO listed i=false->cK P b e h)
theorem NV (l:List Nat) (f:Nat->D) (i:Nat):LEnv.get (l.map λ k=>(k,f k)) i=if i∈l then f i else .undef:=by
 induction l with
 | nil=>rfl
 | cons k r G =>
  grind [LEnv.get]
theorem O1 {r:Option Nat}{ops:Array Oper}{Q Q':Exit->Act->World->Prop}(hq:∀e,e≠.normal->Q e=Q' e){i:Nat}{K:Act->World->Prop}{a:Act}{w:World}(h:wpOpIn (rF r) 0 P ops Q i K a w):wpOpIn (rF r) 0 P ops Q' i K a w:=by
 have hl:LetsOut Q=LetsOut Q':=by unfold LetsOut;rw[hq .outgrown (by simp)]
 unfold wpOpIn at h ⊢
 cases ho:ops[i]? with
 | none=>simpa[ho] using h
 | some o =>
  simp only[ho]at h ⊢;split
  ·rename_i hw;rw[if_pos hw]at h;unfold Oper.wpIn at h ⊢;refine⟨h.1,?_⟩;have h:=h.2;generalize (o.semAt (rF r).round a.eval).run P w=res at h ⊢
   cases res with
   | ok n w' =>
    cases n<;>simp only[Oper.uponIn]at h ⊢<;>first
     | exact h
     | grind
     | grind
   | halt x w' =>
    cases x<;>simp only[Oper.uponIn]at h ⊢<;>first
     | exact h
     | grind
  grind
theorem Mg {ops:Array Oper}{i:Nat}{Kenv:Env->Heap->Prop}{t:Env}{c:Ctx}{w:World}{a:Act}{Q:Exit->Act->World->Prop}{K':Act->World->Prop}{r:Option Nat}
  (hx:vW P nt ops [i] Kenv t c.h) (hp:c.hp=w.heap) (hr:aA c) (hs:rM c nt t a) (hk:∀a' w',Fin c w nt Kenv a' w'->K' a' w'):wpOpIn (rF r) 0 P ops Q i K' a w:=by
 let G:Exit->Act->World->Prop:=λ e=>match e with|.normal=>K'|e=>Q e
 have:=hx r c w a G rfl hp hr hs hk;rw[wpOpsIn_cons]at this;refine O1 (Q:=G) (λ e he=>?_) this;grind
end Go.Am
namespace Go.Am
open Go
variable [ca]
variable {P:Program}{nt:Nat}
theorem dW {listed:Array Bool}{i k:Nat}(hi:i<listed.size):cO (listed.setIfInBounds i true) k=if k=i then true else cO listed k:=by
 unfold cO;by_cases h:k=i
 ·subst h;simp[Array.getD,hi]
 ·rw[if_neg h];have:i≠k:=λ e=>h e.symm
  by_cases G:k<listed.size
  ·simp[Array.getD,G,this]
  ·simp[Array.getD,G]
theorem WQ {ops:Array Oper}{items:List AOper}{masks tl:List Nat}{rev:List AOper}{tw:Bool}(Dk:KZ P nt ops items masks tl rev tw):∀(i:Nat),i<ops.size->∀k,(masks.getD i 0).testBit k=true->k<i:=by
 intro i
 induction i using Nat.strongRecOn with
 | _ i Q =>
  intro hi k I;have ho:ops[i]?=some ops[i]:=by simp[hi]
  obtain⟨e,he,hb,hc⟩:=Dk.mask i _ ho k I;have G:=Dk.edge i _ ho e he hb;grind
structure Rdy (ops:Array Oper) (masks:List Nat) (listed:Array Bool) (i:Nat):Prop where
 lt:i<ops.size
 un:cO listed i=false
 anc:∀k,(masks.getD i 0).testBit k=true->cO listed k=true
theorem Jg {ops:Array Oper}{listed:Array Bool}{i:Nat}(h:i∈Region.ready .any ops listed):i<ops.size/\cO listed i=false/\∀o,ops[i]?=some o->∀e∈o.after.toList,Region.binds .any e=true->listed.getD e.on false=true:=by
 grind [Region.ready,Array.all_eq_true',cO]
theorem Mc {ops:Array Oper}{items:List AOper}{masks tl:List Nat}{rev:List AOper}{tw:Bool}(Dk:KZ P nt ops items masks tl rev tw){listed:Array Bool}
  (hsz:listed.size=ops.size) (hdc:∀i k,i<ops.size->cO listed i=true->(masks.getD i 0).testBit k=true->cO listed k=true) {i:Nat}(hi:i∈Region.ready .any ops listed):Rdy ops masks listed i:=by
 obtain⟨h1,h2,h3⟩:=Jg hi;refine⟨h1,h2,λ k G=>?_⟩;have ho:ops[i]?=some ops[i]:=by simp[h1]
 obtain⟨e,he,hb,hc⟩:=Dk.mask i _ ho k G;grind [cO]
theorem Zn {ops:Array Oper}{items:List AOper}{masks tl:List Nat}{rev:List AOper}{tw:Bool}(Dk:KZ P nt ops items masks tl rev tw){c₀:Ctx}{w₀:World}{K:LEnv->Heap->Prop}{listed:Array Bool}{a:Act}{w:World}
  (hJ:J P nt ops items masks tl rev tw c₀ w₀ K listed a w) {i:Nat}(hi:i∈Region.ready .any ops listed):Rdy ops masks listed i :=
 Mc Dk hJ.size hJ.dc hi
theorem yH:∀{rev:List AOper},(∀b∈rev,b.guard=none/\b.op.isVal=true)->∀{e:LEnv}{h:Heap},Gh P rev e h->∀b∈rev,b.dst.isSome=true->cK P b e h
 | [],_,_,_,_,b,hb,_=>by simp at hb
 | x::r,G,e,h,hv,b,hb,Q=>by
  rcases List.mem_cons.1 hb with rfl|hb
  ·obtain⟨g1,g2⟩:=G b (by simp);have I:=hv.1
   cases hd:b.dst with
   | none=>rw[hd]at Q;cases Q
   | some s =>
    rw[hd]at I;simp only[IG]at I;obtain⟨d',hk,V⟩:=oW g2 I
    have Z:d'=e.get s:=by
     have:[d']=[e.get s]:=hk;simpa using this
    refine⟨e.get s,λ s' a1=>by grind,?_⟩;rw[g1];intro K' hK;exact V h (by split;exact cF.Jb;exact λ n _=>rfl) K' (Z ▸ hK)
  ·exact yH (λ b hb=>G b (by simp[hb])) hv.2 b hb Q
open Classical in
theorem aax {ops:Array Oper}{items:List AOper}{masks tl:List Nat}{rev:List AOper}{tw:Bool}(Dk:KZ P nt ops items masks tl rev tw){c₀:Ctx}{w₀:World}{K:LEnv->Heap->Prop}{listed:Array Bool}{a:Act}{w:World}{Q:Exit->Act->World->Prop}{r:Option Nat}
  (hJ:J P nt ops items masks tl rev tw c₀ w₀ K listed a w) {i:Nat}(hi:i∈Region.ready .any ops listed) :
  wpOpIn (rF r) 0 P ops Q i (J P nt ops items masks tl rev tw c₀ w₀ K (listed.setIfInBounds i true)) a w:=by
 have R:=Zn Dk hJ hi;have h5:i<listed.size:=by rw[hJ.size];exact R.lt
 have a8:=λ k=>dW (k:=k) h5
 obtain⟨o,ho⟩:∃o,ops[i]?=some o:=⟨ops[i]'R.lt,by simp[R.lt]⟩;have c6:i<items.length:=by rw[Dk.len];exact R.lt
 obtain⟨a0,a7⟩:∃x,items[i]?=some x:=⟨items[i]'c6,by simp[c6]⟩;have It:=Dk.item i o a0 ho a7;obtain⟨ρ,h,e,j,hle,hr,e4,g3,hsz,hj,G,b2,hrel,c4⟩:=hJ.st
 let c:Ctx:=⟨ρ,c₀.X,h,w.heap⟩
 let pend:Nat->Prop:=λ s=>∃k b,items[k]?=some b/\k∉tl/\cO listed k=false/\b.dst=some s
 let V:LEnv:=(a0.rd++List.range nt).map λ s=>(s,if pend s then D.undef else e.get s)
 have c0:∀s,V.get s=if s∈a0.rd++List.range nt then(if pend s then .undef else e.get s) else .undef:=λ s=>NV _ _ s
 have c5:rM c nt V.get a:=by
  refine⟨hr.glob,hr.lo,g3,hsz,λ s=>?_⟩;rw[c0];split
  ·split
   ·exact .undef _
   grind
  ·exact .undef _
 have c8:∀r∈a0.rd,V.get r=e.get r:=by
  intro r a2;rw[c0,if_pos (by simp[a2]),if_neg];rintro⟨k,b,hb,hk,a1,hd⟩;obtain⟨_,hm⟩:=(Dk.rdv k i b a0 hb a7 hk r hd).2 a2;have:=R.anc k hm;grind
 have Z:∀r∈a0.op.reads,e.get r=V.get r:=λ r a2=>(c8 r (by simp[AOper.rd,a2])).symm
 have g4:∀i' k,i'<ops.size->cO (listed.setIfInBounds i true) i'=true->(masks.getD i' 0).testBit k=true->cO (listed.setIfInBounds i true) k=true:=by
  intro i' k h7 hl hm;rw[a8]at hl ⊢;split
  ·rfl
  ·by_cases h:i'=i
   ·subst h;exact R.anc k hm
   ·rw[if_neg h]at hl;exact hJ.dc i' k h7 hl hm
 have keep:∀{ρ':Nat->Option Nat}{h':Heap}{t':Env}{a':Act}{w':World}{d:D},c.le ⟨ρ',c.X,h',w'.heap⟩->rM ⟨ρ',c.X,h',w'.heap⟩ nt t' a'->t'=(V.put o.dst d).get->∀s,o.dst≠some s->¬pend s->aB ⟨ρ',c.X,h',w'.heap⟩ (e.get s) (a'.tmps.getD s Go.undef):=by
  intro ρ' h' t' a' w' d g0 e7 ht s hs hp;by_cases e6:s<nt
  ·have:=e7.rel s;rw[ht,LEnv.bO]at this
   have e1:Env.put V.get o.dst d s=e.get s:=by
    have:Env.put V.get o.dst d s=V.get s:=by
     cases hd:o.dst with
     | none=>rfl
     | some x =>
      have:s≠x:=by rintro rfl;exact hs hd
      simp[Env.put,aF,this]
    grind
   grind
  ·have h1:=(hrel s).resolve_left hp;have e1:a.tmps.getD s Go.undef=Go.undef:=by simp[Array.getD,hsz,e6]
   have e2:a'.tmps.getD s Go.undef=Go.undef:=by simp[Array.getD,e7.size,e6]
   rw[e1]at h1;rw[e2];exact h1.mono g0
 by_cases c1:i∈tl
 ·
  obtain⟨l,hl⟩:=ba c1
  have g6:l=j:=by
   have h1:¬l<j:=by
    intro e9;have:=(b2 l i hl).2 e9;rw[R.un]at this;cases this
   rcases Nat.lt_or_ge j l with g2|j1
   ·have g1:j<tl.length:=Nat.lt_trans g2 (ar.1 hl).1;rcases Dk.tord j l tl[j] i (by simp[g1]) hl g2 with⟨t1,t2,t3⟩|e0
    ·have:=hj.2 t1;omega
    have:=(b2 j tl[j] (by simp[g1])).1 (R.anc _ e0);omega
   ·omega
  subst g6;have e9:=(ar.1 hl).1;have j0:tl[l]=i:=(ar.1 hl).2
  have e3:(tl.drop l).filterMap (λ k=>items[k]?)=a0::(tl.drop (l+1)).filterMap (λ k=>items[k]?):=by
   grind [List.drop_eq_getElem_cons]
  rw[e3]at G
  let rest:=(tl.drop (l+1)).filterMap (λ k=>items[k]?)
  let HR:Heap->Prop:=λ h'=>if a0.op.mut then cF h h' else Ext h h'
  have hrefl:HR h:=by
   simp only[HR];split
   ·exact cF.Jb
   ·exact λ n _=>rfl
  have hop:cOp P true o=some a0.op/\a0.op.isTail=true:=by have:=It.op;grind
  have b3:=qn hop.1
  let I:Env->Heap->Prop:=λ t' h'=>∃d,t'=(V.put o.dst d).get/\(Gh P rev (e.put a0.dst d) h'/\fx P rev rest K (e.put a0.dst d) h')/\HR h'
  have run:vcOp P a0.op (λ d h'=>Gh P rev (e.put a0.dst d) h'/\fx P rev rest K (e.put a0.dst d) h') e h->OK P nt o (vW P nt ops [] I) V.get h:=by
   intro hv;have:=sA (nt:=nt) hop.1 It.dlt _ V h (AQ Z _ h (Rs hop.2 hv));grind [pF,lh]
  have hx:vW P nt ops [i] I V.get h:=by
   refine oZ ho b3 a0.guard (λ j' want hg=>by obtain⟨s,h1,h2⟩:=It.gs j' want hg;exact⟨s,h1,h2⟩) It.gn It.dlt ?_;simp only[fx,gC,vguard]at G
   cases hg:a0.guard with
   | none=>simp only[hg]at G;exact run G
   | some p =>
    obtain⟨g,want⟩:=p;simp only[hg]at G;cases hb:gv (e.get g)<;>simp only[hb]at G<;>try exact G.elim
    rename_i b;refine⟨b,by grind [AOper.rd],λ b7=>run (G.1 b7),λ b7=>?_⟩;grind [lh,LEnv.bO]
  refine Mg (c:=c) hx rfl hr c5 ?_;rintro a' w' ⟨ρ',t',h',k1,k2,k3,k4,d,ht,hk,a6⟩
  have b1:∀s,a0.dst≠some s->(e.put a0.dst d).get s=e.get s:=by
   intro s hs;rw[LEnv.bO]
   cases hd:a0.dst with
   | none=>rfl
   | some x =>
    have:s≠x:=by rintro rfl;exact hs hd
    simp[Env.put,aF,this]
  refine⟨by simp[hJ.size],g4,ρ',h',e.put a0.dst d,l+1,hle.trans k1,k2,e4.trans k3,k4.defers,k4.size,⟨by omega,λ t=>by have:=hj.2 t;omega⟩,hk.2,λ l' i' c2=>?_,λ s=>?_,λ k b hb b5 a1=>?_⟩
  ·rw[a8];by_cases h6:i'=i
   ·subst h6;rw[if_pos rfl];have g7:=(ar.1 c2).1;have h9:tl[l']=i':=(ar.1 c2).2
    have:l'=l:=by
     rcases Nat.lt_trichotomy l' l with h1|h1|h1
     ·grind
     ·exact h1
     ·rcases Dk.tord l l' i' i' hl c2 h1 with⟨t1,t2,t3⟩|e0
      ·have:=hj.2 t1;omega
      have:=WQ Dk i' R.lt i' e0;omega
    simp[this]
   grind
  ·by_cases hs:a0.dst=some s
   ·right;have:=k4.rel s;rw[ht,LEnv.bO, <- It.dst,hs]at this;rw[LEnv.bO,hs];simpa[Env.put,aF] using this
   ·rw[b1 s hs];by_cases hp:pend s
    ·grind
    ·right;exact keep k1 k4 ht s (by rw[<- It.dst];exact hs) hp
  ·rw[a8]at a1;split at a1
   ·cases a1
   ·rename_i g8;have v0:=c4 k b hb b5 a1
    have b4:(masks.getD i 0).testBit k≠true:=by
     grind
    have ob:∃ok,ops[k]?=some ok:=by
     have:k<ops.size:=by rw[<- Dk.len];grind
     grind
    obtain⟨ok,g5⟩:=ob;have Ib:=Dk.item k ok b g5 hb;have e8:cdOp P ok=some b.op:=by have:=Ib.op;grind
    by_cases c7:b∈rev
    ·exact yH (λ b hb=>⟨(Dk.rev b hb).1,(Dk.rev b hb).2.1⟩) hk.1 b c7 (Dk.rev b c7).2.2
    refine cK.congr (e:=e) (λ r a2=>?_) (λ s hs=>?_) (v0.ext (mg e8) ?_)
    ·rw[b1 r];intro hd;exact b4 (Dk.rdt i k a0 b a7 hb c1 b5 r hd a2)
    ·exact b1 s ((Dk.rdv k i b a0 hb a7 b5 s hs).1 g8)
    ·simp only[HR]at a6;by_cases hm:a0.op.mut=true
     ·rw[if_pos hm]at a6;by_cases e5:b.op.stable=true
      ·rw[if_pos e5];exact a6
      ·exact absurd ((Dk.mt i k a0 b a7 hb c1 b5 hm (by simpa using e5)).resolve_right c7) b4
     ·rw[if_neg hm]at a6;split
      ·exact a6.box
      ·exact a6
 ·
  obtain⟨d,h8,c3⟩:=c4 i a0 a7 c1 R.un;have hop:cdOp P o=some a0.op:=by have:=It.op;grind
  have b3:=C9 hop
  let I:Env->Heap->Prop:=λ t' h'=>t'=(V.put o.dst d).get/\h'=h
  have run:(∀K':D->Prop,K' d->vcdOp P a0.op K' e h)->OK P nt o (vW P nt ops [] I) V.get h:=by
   intro hv;have:=JN (nt:=nt) hop It.dlt (jR Z (· = d) h (hv (· = d) rfl));grind [pF,lh]
  have hx:vW P nt ops [i] I V.get h:=by
   refine oZ ho b3 a0.guard (λ j' want hg=>by obtain⟨s,h1,h2⟩:=It.gs j' want hg;exact⟨s,h1,h2⟩) It.gn It.dlt ?_
   cases hg:a0.guard with
   | none=>rw[hg]at c3;exact run c3
   | some p =>
    obtain⟨g,want⟩:=p;rw[hg]at c3;obtain⟨b,q1,q2,q3⟩:=c3;refine⟨b,by grind [AOper.rd],λ b7=>run (q2 b7),λ b7=>?_⟩;grind [lh,LEnv.bO]
  refine Mg (c:=c) hx rfl hr c5 ?_;rintro a' w' ⟨ρ',t',h',k1,k2,k3,k4,ht,rfl⟩;refine⟨by simp[hJ.size],g4,ρ',h',e,j,hle.trans k1,k2,e4.trans k3,k4.defers,k4.size,hj,G,λ l' i' c2=>?_,λ s=>?_,λ k b hb b5 a1=>?_⟩
  ·grind
  ·by_cases hs:a0.dst=some s
   ·right;have:=k4.rel s;rw[ht,LEnv.bO, <- It.dst,hs]at this;rw[h8 s hs];simpa[Env.put,aF] using this
   ·by_cases hp:pend s
    ·grind
    ·right;exact keep k1 k4 ht s (by rw[<- It.dst];exact hs) hp
  grind
end Go.Am
namespace Go.Am
open Go
variable [ca]
variable {P:Program}{nt:Nat}
def hS (h0:Heap) (N:Nat) (za zb:D) (A B:Bool):Heap:=λ n=>if n=N then(if A then .box za else .free) else if n=N+1 then(if B then .box zb else .free) else h0 n
structure Two (P:Program) (nt:Nat) (ops:Array Oper) (items:List AOper) (masks tl:List Nat) (ia ib:Nat) (r:List Nat) (sa sb:Nat) (za zb:D):Prop where
 etl:tl=ia::ib::r
 nd:ia≠ib/\ia∉r/\ib∉r
 oa:∃o t,ops[ia]?=some o/\o.op=.alloc t/\fM P t=some za/\o.dst=some sa/\o.guard=none
 ob:∃o t,ops[ib]?=some o/\o.op=.alloc t/\fM P t=some zb/\o.dst=some sb/\o.guard=none
 ne:sa≠sb
 anc:∀k∈r,(masks.getD k 0).testBit ia=true/\(masks.getD k 0).testBit ib=true
 vals:∀(k:Nat) (b:AOper),items[k]?=some b->k∉tl->sa∉b.rd/\sb∉b.rd/\b.dst≠some sa/\b.dst≠some sb
 lt:sa<nt/\sb<nt
structure J1 (P:Program) (nt:Nat) (ops:Array Oper) (items:List AOper) (masks tl:List Nat) (rev:List AOper) (ia ib:Nat) (r:List Nat) (sa sb:Nat) (za zb:D) (c₀:Ctx) (w₀:World) (K:LEnv->Heap->Prop) (listed:Array Bool) (a:Act) (w:World):Prop where
 size:listed.size=ops.size
 dc:∀i k,i<ops.size->cO listed i=true->(masks.getD i 0).testBit k=true->cO listed k=true
 st:∃(ρ:Nat->Option Nat) (h0:Heap) (N:Nat) (e:LEnv) (A B:Bool),(A&&B)=false/\cO listed ia=A/\cO listed ib=B/\(∀i∈r,cO listed i=false) /\
  c₀.le ⟨ρ,c₀.X,hS h0 N za zb A B,w.heap⟩/\aA ⟨ρ,c₀.X,hS h0 N za zb A B,w.heap⟩/\WS w₀ w/\iu ⟨ρ,c₀.X,hS h0 N za zb A B,w.heap⟩ a.defers/\a.tmps.size=nt /\
  fx P rev (r.filterMap (λ i=>items[i]?)) K e (hS h0 N za zb true true) /\
  e.get sa=.ptr N 0 0/\e.get sb=.ptr (N+1) 0 0 /\
  (∀s,((s=sa/\A=false)\/(s=sb/\B=false)\/∃i b,items[i]?=some b/\i∉tl/\cO listed i=false/\b.dst=some s)\/aB ⟨ρ,c₀.X,hS h0 N za zb A B,w.heap⟩ (e.get s) (a.tmps.getD s Go.undef)) /\
  (∀i b,items[i]?=some b->i∉tl->cO listed i=false->cK P b e (hS h0 N za zb A B))
theorem ZU {ops:Array Oper}{masks:List Nat}{listed:Array Bool}{i:Nat}(hil:i<listed.size) (R:Rdy ops masks listed i) (dc:∀i k,i<ops.size->cO listed i=true->(masks.getD i 0).testBit k=true->cO listed k=true) :
  ∀i' k,i'<ops.size->cO (listed.setIfInBounds i true) i'=true->(masks.getD i' 0).testBit k=true->cO (listed.setIfInBounds i true) k=true:=by
 intro i' k G hl hm;rw[dW hil]at hl ⊢;split
 ·rfl
 ·by_cases h:i'=i
  ·subst h;exact R.anc k hm
  grind
end Go.Am
namespace Go.Am
open Go
variable [ca]
variable {P:Program}{nt:Nat}
theorem ME {p q:Nat->Bool}:∀{l:List Nat},(∀x∈l,q x=true->p x=true)->∀{i:Nat},i∈l->p i=true->q i=false->(l.filter q).length<(l.filter p).length
 | [],_,i,hi,_,_=>by simp at hi
 | x::r,hle,i,hi,hp,Q=>by
  have G:(r.filter q).length<=(r.filter p).length:=by
   have:∀(l:List Nat),(∀x∈l,q x=true->p x=true)->(l.filter q).length<=(l.filter p).length:=by
    intro l
    induction l with
    | nil=>intro _;simp
    | cons y s I =>
     grind
   grind
  rcases List.mem_cons.1 hi with rfl|hi
  ·grind
  ·have I:=ME (λ x hx=>hle x (by simp[hx])) hi hp Q;grind
def left (n:Nat) (listed:Array Bool):Nat:=((List.range n).filter λ i=> !cO listed i).length
theorem PV {ops:Array Oper}{items:List AOper}{masks tl:List Nat}{rev:List AOper}{tw:Bool}(Dk:KZ P nt ops items masks tl rev tw){listed:Array Bool}(hsz:listed.size=ops.size) (hr:Region.ready .any ops listed=[]):∀i,i<ops.size->cO listed i=true:=by
 intro i
 induction i using Nat.strongRecOn with
 | _ i Q =>
  intro hi;by_cases hl:cO listed i=true
  ·exact hl
  ·exfalso
   have G:i∈Region.ready .any ops listed:=by
    unfold Region.ready;simp only[List.mem_filter,List.mem_range,Bool.and_eq_true,Bool.not_eq_true'];refine⟨hi,by grind [cO],?_⟩;have ho:ops[i]?=some ops[i]:=by simp[hi]
    rw[ho];simp only[Option.map_some,Option.getD_some,Array.all_eq_true'];intro e he;by_cases hb:Region.binds .any e=true
    ·have I:=Dk.edge i _ ho e (by simpa using he) hb;grind [cO]
    ·simp[hb]
   grind
theorem aai {ops:Array Oper}{items:List AOper}{masks tl:List Nat}{rev:List AOper}{tw:Bool}(Dk:KZ P nt ops items masks tl rev tw){JJ:Array Bool->Act->World->Prop}{Q:Exit->Act->World->Prop}{r:Option Nat}
  (hsz:∀listed a w,JJ listed a w->listed.size=ops.size) (hdc:∀listed a w,JJ listed a w->∀i k,i<ops.size->cO listed i=true->(masks.getD i 0).testBit k=true->cO listed k=true)
  (step:∀listed a w i,JJ listed a w->i∈Region.ready .any ops listed->wpOpIn (rF r) 0 P ops Q i (JJ (listed.setIfInBounds i true)) a w)
  (hq:∀listed a w,JJ listed a w->(∀i,i<ops.size->cO listed i=true)->Q .normal a w):∀(fuel:Nat) (listed:Array Bool) (a:Act) (w:World),left ops.size listed<=fuel->JJ listed a w->wpAnyIn (rF r) 0 P .any ops Q fuel listed a w:=by
 have done:∀(listed:Array Bool) (a:Act) (w:World),JJ listed a w->Region.ready .any ops listed=[]->Q .normal a w:=by
  grind [PV]
 intro fuel
 induction fuel with
 | zero =>
  intro listed a w hl hJ
  have hr:Region.ready .any ops listed=[]:=by
   cases G:Region.ready .any ops listed with
   | nil=>rfl
   | cons x r =>
    exfalso;have hm:x∈Region.ready .any ops listed:=by rw[G];simp
    have R:=Mc Dk (hsz _ _ _ hJ) (hdc _ _ _ hJ) hm;have:x∈(List.range ops.size).filter λ i=> !cO listed i:=by simp[R.lt,R.un]
    grind [left]
  exact⟨hr,done listed a w hJ hr⟩
 | succ fuel Z =>
  intro listed a w hl hJ;refine⟨done listed a w hJ,λ i hi=>?_⟩;have R:=Mc Dk (hsz _ _ _ hJ) (hdc _ _ _ hJ) hi;refine wpOpIn_mono (λ a' w' V=>Z _ a' w' ?_ V) (step listed a w i hJ hi);have I:i<listed.size:=by rw[hsz _ _ _ hJ];exact R.lt
  have:=ME (l:=List.range ops.size) (p:=λ i=> !cO listed i) (q:=λ k=> !cO (listed.setIfInBounds i true) k) (λ x _ hx=>by
   grind [dW]) (i:=i) (by simpa using R.lt) (by simp[R.un]) (by simp[dW I])
  grind [left]
theorem acF {ops:Array Oper}{items:List AOper}{masks tl:List Nat}{rev:List AOper}{tw:Bool}(Dk:KZ P nt ops items masks tl rev tw){c₀:Ctx}{w₀:World}{K:LEnv->Heap->Prop}{listed:Array Bool}{a:Act}{w:World}
  (hJ:J P nt ops items masks tl rev tw c₀ w₀ K listed a w) (hall:∀i,i<ops.size->cO listed i=true):Fin c₀ w₀ nt (up K) a w:=by
 obtain⟨ρ,h,e,j,hle,I,a1,Z,hsz,hj,G,Q,hrel,a6⟩:=hJ.st
 have a2:j=tl.length:=by
  rcases Nat.lt_or_ge j tl.length with V|a8
  ·have:=(Q j tl[j] (by simp[V])).1 (hall _ (Dk.tlt _ (List.getElem_mem V)));omega
  ·have:=hj.1;omega
 subst a2;rw[List.drop_length]at G;refine⟨ρ,e.get,h,hle,I,a1,⟨I.glob,I.lo,Z,hsz,λ s=>?_⟩,e,rfl,G⟩;rcases hrel s with⟨i,b,hb,_,a7,_⟩|h
 ·have:i<ops.size:=by rw[<- Dk.len];grind
  grind
 ·exact h
theorem Gg:∀{l:List AOper}{K:LEnv->Heap->Prop}{e:LEnv}{h:Heap},zC P l K e h->fx P [] l K e h
 | [],_,_,_,G=>G
 | o::r,K,e,h,G=>by
  have I:∀e h,zC P r K e h->Gh P [] e h/\fx P [] r K e h:=λ e h G=>⟨trivial,Gg G⟩
  simp only[zC,fx,gC,vguard]at G ⊢
  cases hg:o.guard with
  | none=>grind [rT]
  | some q =>
   grind [rT]
theorem AP {rev l:List AOper}{K:LEnv->Heap->Prop}{e:LEnv}{h:Heap}(hv:vcTail P rev l K e h):fx P rev l K e h:=by
 cases rev with
 | nil=>exact Gg hv
 | cons b r=>exact hv
theorem Nz {id:Nat}{ops:Array Oper}{items:List AOper}{masks tl:List Nat}{rev:List AOper}{tw:Bool}(Dk:KZ P nt ops items masks tl rev tw) (hm:P.follows .mixedOrders=true){K:LEnv->Heap->Prop}{Q:LPost}{e:LEnv}{h:Heap}
  (hq:∀e h,K e h->Q .normal e h)
  (hv:vcVals P (((List.range ops.size).filter (λ i=> !tl.contains i)).filterMap (λ i=>items[i]?)) (vcTail P rev (tl.filterMap (λ i=>items[i]?)) K) e h)
  (JJ:Ctx->World->Array Bool->Act->World->Prop)
  (hsz:∀c w₀ listed a w,JJ c w₀ listed a w->listed.size=ops.size) (hdc:∀c w₀ listed a w,JJ c w₀ listed a w->∀i k,i<ops.size->cO listed i=true->(masks.getD i 0).testBit k=true->cO listed k=true)
  (step:∀c w₀ r Q listed a w i,JJ c w₀ listed a w->i∈Region.ready .any ops listed->wpOpIn (rF r) 0 P ops Q i (JJ c w₀ (listed.setIfInBounds i true)) a w)
  (fin:∀c w₀ listed a w,JJ c w₀ listed a w->(∀i,i<ops.size->cO listed i=true)->Fin c w₀ nt (up K) a w)
  (init:∀c w a T,c.h=h->c.hp=w.heap->aA c->iu c a.defers->a.tmps.size=nt->fx P rev (tl.filterMap (λ i=>items[i]?)) K T c.h->(∀i,i<ops.size->cO (Array.replicate ops.size false) i=false) ->
   (∀s,(∃i b,items[i]?=some b/\i∉tl/\cO (Array.replicate ops.size false) i=false/\b.dst=some s)\/aB c (T.get s) (a.tmps.getD s Go.undef))->(∀i b,items[i]?=some b->i∉tl->cK P b T c.h)->JJ c w (Array.replicate ops.size false) a { w with drawn:=w.drawn+1 }) :
  sC P nt (.region id ops true) (λ x=>up (Q x)) e.get h:=by
 intro rd c w a hh hp hr hs _;subst hh;refine wpIn_region_any hm ?_
 let V:=(List.range ops.size).filter (λ i=> !tl.contains i)
 let vals:=V.filterMap (λ i=>items[i]?)
 have hV:∀b∈vals,∃i o,items[i]?=some b/\i∉tl/\ops[i]?=some o:=by
  intro b hb;simp only[vals,V,List.mem_filterMap,List.mem_filter,List.mem_range]at hb;obtain⟨i,⟨hi,hn⟩,hb⟩:=hb;exact⟨i,ops[i],hb,by simpa using hn,by simp[hi]⟩
 have a2:∀i b,items[i]?=some b->i∉tl->b∈vals:=by
  intro i b hb hn;have:i<ops.size:=by rw[<- Dk.len];grind
  grind
 obtain⟨T,t1,t2,t3⟩:=Nl vals (λ b hb=>by
   obtain⟨i,o,h1,h2,h3⟩:=hV b hb;have:=(Dk.item i o b h3 h1).op
   grind [mg]) (λ b hb s hs Z=>by
   obtain⟨i,o,h1,h2,h3⟩:=hV b hb;have:=((Dk.rdv i i b b h1 h1 h2 s hs).2 Z).1
   omega) (by
   have a8:V.Pairwise (· < ·):=List.Pairwise.filter _ List.pairwise_lt_range;have G:∀i∈V,i∉tl:=by grind
   have:∀(l:List Nat),(∀i∈l,i∉tl)->l.Pairwise (· < ·)->(l.filterMap (λ i=>items[i]?)).Pairwise (λ a b=>∀s,b.dst=some s->a.dst≠some s/\s∉a.rd):=by
    intro l
    induction l with
    | nil=>intro _ _;simp
    | cons x r ih =>
     intro hn a1;rw[List.pairwise_cons]at a1;have a7:=ih (λ i hi=>hn i (by simp[hi])) a1.2
     cases hx:items[x]? with
     | none=>grind
     | some ax =>
      rw[List.filterMap_cons_some hx,List.pairwise_cons];refine⟨λ b hb s hs=>?_,a7⟩;simp only[List.mem_filterMap]at hb;obtain⟨k,hk,hb⟩:=hb;have b1:=a1.1 k hk;have a6:=hn k (by simp[hk]);refine⟨(Dk.rdv k x b ax hb hx a6 s hs).1 (by omega),λ Z=>?_⟩;have:=((Dk.rdv k x b ax hb hx a6 s hs).2 Z).1;omega
   exact this V G a8) hv
 have I:∀i,i<ops.size->cO (Array.replicate ops.size false) i=false:=by intro i hi;unfold cO;simp[Array.getD,hi]
 refine aai Dk (JJ:=JJ c w) (hsz c w) (hdc c w) (step c w _ _) (λ listed a' w' hJ G=>Fin.mono (λ t h hk=>by obtain⟨e',rfl,hk⟩:=hk;exact⟨e',rfl,hq e' h hk⟩) (fin c w listed a' w' hJ G)) ops.size _ a _ ?_ ?_
 ·grind [left]
 ·refine init c w a T rfl hp hr hs.defers hs.size (AP t1) I (λ s=>?_) (λ i b hb hn=>t3 b (a2 i b hb hn));by_cases hex:∃i b,items[i]?=some b/\i∉tl/\b.dst=some s
  ·grind
  ·right
   rw[t2 s (λ b hb b2=>by
    grind)]
   exact hs.rel s
theorem RC {id:Nat}{ops:Array Oper}{items:List AOper}{masks tl:List Nat}{rev:List AOper}(Dk:KZ P nt ops items masks tl rev false) (hm:P.follows .mixedOrders=true){K:LEnv->Heap->Prop}{Q:LPost}{e:LEnv}{h:Heap}
  (hq:∀e h,K e h->Q .normal e h)
  (hv:vcVals P (((List.range ops.size).filter (λ i=> !tl.contains i)).filterMap (λ i=>items[i]?)) (vcTail P rev (tl.filterMap (λ i=>items[i]?)) K) e h):sC P nt (.region id ops true) (λ x=>up (Q x)) e.get h:=by
 refine Nz Dk hm hq hv (λ c w₀=>J P nt ops items masks tl rev false c w₀ K) (λ _ _ _ _ _ hJ=>hJ.size) (λ _ _ _ _ _ hJ=>hJ.dc) (λ _ _ _ _ _ _ _ _ hJ hi=>aax Dk hJ hi) (λ _ _ _ _ _ hJ a1=>acF Dk hJ a1) ?_;intro c w a T hh hp hr Z hsz t1 G hrel V;have I:(⟨c.ρ,c.X,c.h,w.heap⟩:Ctx)=c:=by rw[<- hp]
 have hw:({ w with drawn:=w.drawn+1 }:World).heap=w.heap:=rfl;refine⟨by simp,λ i k hi hl=>(by grind),c.ρ,c.h,T,0,?_,?_,⟨rfl,rfl,rfl⟩,(by rw[hw,I];exact Z),hsz,⟨Nat.zero_le _,λ h=>by cases h⟩,by simpa using t1,λ l i hl=>?_,λ s=>?_,λ i b hb hn _=>V i b hb hn⟩
 ·grind [Ctx.le.refl]
 ·rw[hw,I];exact hr
 ·rw[G i (Dk.tlt i (ak hl))];simp
 ·rw[hw,I];exact hrel s
def pairOk (masks tl rv:List Nat) (i k:Nat) (a b:AOper):Bool :=
 (match a.dst with
  | none=>true
  | some s=>if tl.contains i then tl.contains k || !b.rd.contains s||(masks.getD i 0).testBit k
   else(i == k||b.dst != some s)&&(!b.rd.contains s||(decide (i<k)&&(masks.getD k 0).testBit i))) &&
 (!(tl.contains i && !tl.contains k&&a.op.mut && !b.op.stable)||(masks.getD i 0).testBit k||rv.contains k)
def E2 (masks:List Nat) (l:List Edge):Nat:=l.foldl (λ s e=>if Region.binds .any e then s ||| 2 ^ e.on ||| masks.getD e.on 0 else s) 0
def ordOk (masks:List Nat):List Nat->Bool
 | []=>true
 | i::r=>r.all (λ k=>(masks.getD k 0).testBit i)&&ordOk masks r
def itemsOf (P:Program) (nt:Nat) (ops:Array Oper) (tl:List Nat):List Oper->Nat->Option (List AOper)
 | [],_=>some []
 | o::r,i=>match (if tl.contains i then Pz P nt ops o else cdOper P nt ops o),itemsOf P nt ops tl r (i+1) with
  | some a,some s=>some (a::s)
  | _,_=>none
def ord2 (masks:List Nat):List Nat->Bool
 | a::b::r=>r.all (λ k=>(masks.getD k 0).testBit a&&(masks.getD k 0).testBit b)&&ordOk masks r
 | _=>false
def dchk (tw:Bool) (ops:Array Oper) (items:List AOper) (masks tl rv:List Nat):Bool :=
 (ops.toList.zipIdx.all λ p=>(p.1.after.toList.all λ e=> !Region.binds .any e||decide (e.on<p.2))&&(masks.getD p.2 0 == E2 masks p.1.after.toList)) &&
 tl.all (λ i=>decide (i<ops.size))&&(if tw then ord2 masks tl else ordOk masks tl)&&(rv.all λ k=> !tl.contains k&&(match items[k]? with|some b=>b.guard.isNone&&b.dst.isSome|none=>false)) &&
 items.zipIdx.all λ p=>items.zipIdx.all λ q=>pairOk masks tl rv p.2 q.2 p.1 q.1
def cDr0 (P:Program) (nt:Nat) (tbl:TTq) (id:Nat) (ops:Array Oper):Option ACode :=
 if P.follows .mixedOrders then
  match tbl id with
  | some (masks,tl,rv)=>match itemsOf P nt ops tl ops.toList 0 with
   | some items=>if dchk false ops items masks tl rv then
     some (.dreg (((List.range ops.size).filter (λ i=> !tl.contains i)).filterMap (λ i=>items[i]?)) (tl.filterMap (λ i=>items[i]?)) (rv.filterMap (λ i=>items[i]?))) else none
   | none=>none
  | none=>none
 else none
theorem CT {ops:Array Oper}{tl:List Nat}:∀{l:List Oper}{i:Nat}{items:List AOper},itemsOf P nt ops tl l i=some items->items.length=l.length/\∀(k:Nat) (o:Oper) (a:AOper),l[k]?=some o->items[k]?=some a->Item P nt ops (tl.contains (i+k)) o a
 | [],i,items,h=>by grind [itemsOf]
 | o::r,i,items,h=>by
  simp only[itemsOf]at h;split at h
  ·rename_i a s h1 h2;simp at h;subst h;obtain⟨I,G⟩:=CT h2;grind [Og,xq]
  ·cases h
theorem Bc {masks:List Nat}{k:Nat}:∀(l:List Edge) (s:Nat),(l.foldl (λ s e=>if Region.binds .any e then s ||| 2 ^ e.on ||| masks.getD e.on 0 else s) s).testBit k=true ->
  s.testBit k=true\/∃e,e∈l/\Region.binds .any e=true/\(k=e.on\/(masks.getD e.on 0).testBit k=true):=by
 intro l
 induction l with
 | nil=>intro s h;exact Or.inl h
 | cons e r G =>
  grind
theorem A8 {masks:List Nat}:∀{l:List Nat},ordOk masks l=true->l.Pairwise (λ i k=>(masks.getD k 0).testBit i=true)
 | [],_=>by simp
 | i::r,h=>by
  simp only[ordOk,Bool.and_eq_true,List.all_eq_true]at h;exact List.pairwise_cons.2 ⟨λ k G=>h.1 k G,A8 h.2⟩
theorem mem_zipIdx {α:Type}{l:List α}{i:Nat}{x:α}(h:l[i]?=some x):(x,i)∈l.zipIdx:=by
 grind
theorem Wx {tw:Bool}{masks tl:List Nat}(h:(if tw then ord2 masks tl else ordOk masks tl)=true):∀l k i i':Nat,tl[l]?=some i->tl[k]?=some i'->l<k->(tw=true/\l=0/\k=1)\/(masks.getD i' 0).testBit i=true:=by
 have one:∀{t:List Nat},ordOk masks t=true->∀l k i i':Nat,t[l]?=some i->t[k]?=some i'->l<k->(masks.getD i' 0).testBit i=true:=by
  intro t ht l k i i' hl I G;have Q:=(ar.1 hl);have V:=(ar.1 I);have:=List.pairwise_iff_getElem.1 (A8 ht) l k Q.1 V.1 G;grind
 intro l k i i' hl I G
 cases tw with
 | false=>grind
 | true =>
  rw[if_pos rfl]at h
  match tl,h with
  | a::b::r,h =>
   simp only[ord2,Bool.and_eq_true,List.all_eq_true]at h
   match l,k,hl,I,G with
   | 0,1,_,_,_=>grind
   | 0,k+2,hl,I,_ =>
    grind
   | 1,k+2,hl,I,_ =>
    grind
   | l+2,k+2,hl,I,G =>
    grind
  | [],h=>simp[ord2]at h
  | [_],h=>simp[ord2]at h
theorem Xm {tw:Bool}{ops:Array Oper}{items:List AOper}{masks tl rv:List Nat}(hi:itemsOf P nt ops tl ops.toList 0=some items) (hc:dchk tw ops items masks tl rv=true):KZ P nt ops items masks tl (rv.filterMap (λ i=>items[i]?)) tw:=by
 obtain⟨l1,l2⟩:=CT hi;simp only[dchk,Bool.and_eq_true,List.all_eq_true]at hc;obtain⟨⟨⟨⟨V,c2⟩,c3⟩,c5⟩,c4⟩:=hc;have pair:∀(i k:Nat) (a b:AOper),items[i]?=some a->items[k]?=some b->pairOk masks tl rv i k a b=true:=λ i k a b ha hb=>c4 (a,i) (mem_zipIdx ha) (b,k) (mem_zipIdx hb)
 refine⟨by simpa using l1,λ i o a ho ha=>?_,λ i o ho ed he hb=>?_,λ i o ho k G=>?_,λ i hi=>by simpa using c2 i hi,Wx c3,λ i k a b ha hb hn s hs=>?_,λ i k a b ha hb hn G s hs hr=>?_,λ i k a b ha hb hn G a2 a1=>?_,λ b hb=>?_⟩
 ·grind
 ·have:=(V (o,i) (mem_zipIdx (by simpa using ho))).1 ed he;simpa[hb] using this
 ·have:=(V (o,i) (mem_zipIdx (by simpa using ho))).2;have I:masks.getD i 0=E2 masks o.after.toList:=by simpa using this
  rw[I]at G;rcases Bc _ _ G with h|h
  ·simp at h
  ·exact h
 ·grind [pairOk]
 ·grind [pairOk]
 ·grind [pairOk]
 ·simp only[List.mem_filterMap]at hb;obtain⟨k,G,hb⟩:=hb;have:=c5 k G;rw[hb]at this;simp only[Bool.and_eq_true,Bool.not_eq_true',Option.isNone_iff_eq_none]at this
  have Q:k<ops.size:=by
   grind
  have Z:=l2 k ops[k] b (by simp[Q]) hb;rw[Nat.zero_add]at Z;have hop:=Z.op;grind [mg]
theorem XG (P:Program) (nt:Nat) (tbl:TTq):KY P nt (cDr0 P nt tbl):=by
 intro id ops ac h Q e hp G;unfold cDr0 at h;split at h
 case isFalse=>cases h
 rename_i hm
 cases ht:tbl id with
 | none=>simp[ht]at h
 | some p =>
  obtain⟨masks,tl,I⟩:=p;simp only[ht]at h
  cases hi:itemsOf P nt ops tl ops.toList 0 with
  | none=>simp[hi]at h
  | some items =>
   simp only[hi]at h;split at h
   case isFalse=>cases h
   rename_i hc;simp only[Option.some.injEq]at h;subst h;exact RC (K:=Q .normal) (Xm hi hc) hm (λ _ _ h=>h) G
end Go.Am
namespace Go.Am
open Go
variable [ca]
variable {P:Program}{nt:Nat}
def AOp.kU:AOp->Bool
 | .mov _=>true
 | .pick _ _ _=>true
 | .bin _ _ _=>true
 | .eqv _ _ _ _ _=>true
 | .un _ _=>true
 | .conv _ _=>true
 | .ext _ _=>true
 | .fld _ _ _ _=>true
 | .bld _ _=>true
 | .bldS _ _ _ _ _=>true
 | .slen _=>true
 | .sidx _ _ _ _ _=>true
 | .sslc _ _ _=>true
 | .mkf _ _ _=>true
 | .mn _ _=>true
 | .mx _ _=>true
 | .mn3 _ _ _=>true
 | .mx3 _ _ _=>true
 | _=>false
theorem II {op:AOp}(hf:op.kU=true){K:D->Prop}{e:LEnv}{h h':Heap}(hv:vcdOp P op K e h):vcdOp P op K e h':=by
 cases op<;>first|exact hv|cases hf
theorem cK.free {a:AOper}(hf:a.op.kU=true){e:LEnv}{h h':Heap}(hv:cK P a e h):cK P a e h':=by
 obtain⟨d,h1,h2⟩:=hv;refine⟨d,h1,?_⟩
 cases hg:a.guard with
 | none=>rw[hg]at h2;exact λ I G=>II hf (h2 I G)
 | some p =>
  obtain⟨g,want⟩:=p;rw[hg]at h2;obtain⟨b,Z,V,Q⟩:=h2;exact⟨b,Z,λ hb I G=>II hf (V hb I G),Q⟩
def Hk (masks tl:List Nat) (k:Nat):Nat:=(tl.filter λ i=>(masks.getD k 0).testBit i).length
def jV (items:List AOper) (masks tl:List Nat) (j:Nat):List AOper:=((List.range items.length).filter λ k=> !tl.contains k&&Hk masks tl k == j).filterMap λ k=>items[k]?
def sRevI (items:List AOper) (masks tl:List Nat) (j i:Nat):List Nat :=
 (List.range items.length).filter λ k=> !tl.contains k&&decide (Hk masks tl k<j) && !(masks.getD i 0).testBit k&&(match items[k]? with|some b=> !b.op.kU|none=>false)
def A3 (items:List AOper) (masks tl:List Nat) (j i:Nat):List AOper:=(sRevI items masks tl j i).filterMap λ k=>items[k]?
def sCode (items:List AOper) (masks tl:List Nat):List Nat->Nat->ACode
 | [],j=>.dreg (jV items masks tl j) [] []
 | i::r,j=>.seq (.dreg (jV items masks tl j) (match items[i]? with|some a=>[a]|none=>[⟨none,.dead,none⟩]) (A3 items masks tl (j+1) i)) (sCode items masks tl r (j+1))
def sRest (P:Program) (items:List AOper) (masks tl:List Nat):List Nat->Nat->(LEnv->Heap->Prop)->LEnv->Heap->Prop
 | [],_,K=>K
 | i::r,j,K=>match items[i]? with
  | some a=>wH P a λ e h=>Gh P (A3 items masks tl (j+1) i) e h/\vcVals P (jV items masks tl (j+1)) (sRest P items masks tl r (j+1) K) e h
  | none=>λ _ _=>False
def Ym:AOp->Bool
 | .bldS ..=>false
 | .mk ..=>false
 | .call ..=>false
 | .fadd ..=>false
 | .nilq ..=>false
 | _=>true
theorem S7 {op:AOp}(hp:Ym op=true){K:D->Prop}{e:LEnv}{h:Heap}:vcdOp P op K e h=vcOp P op (λ d _=>K d) e h:=by
 cases op<;>first|rfl|cases hp
theorem IH {op:AOp}{K K':D->Prop}(hk:∀d,K d->K' d){e:LEnv}{h:Heap}(hv:vcdOp P op K e h):vcdOp P op K' e h:=by
 by_cases hp:Ym op=true
 ·grind [S7,rT]
 cases op with
 | bldS a b c d f=>exact⟨hv.1,hv.2.1,hv.2.2.1,hk _ hv.2.2.2⟩
 | call f as =>
  obtain⟨r,h1,h2,h3,h4⟩:=hv;exact⟨r,h1,h2,h3,hk _ h4⟩
 | mk a b z l c =>
  simp only[vcdOp]at hv ⊢;exact fH (λ i hi=>fH (λ j G=>⟨G.1,G.2.1,hk _ G.2.2⟩) hi) hv
 | fadd x o =>
  grind [vcdOp]
 | nilq neg x =>
  grind [vcdOp]
 | _=>exact absurd rfl hp
theorem qg:∀{l:List AOper}{K K':LEnv->Heap->Prop},(∀e h,K e h->K' e h)->∀{e:LEnv}{h:Heap},vcVals P l K e h->vcVals P l K' e h
 | [],_,_,I,e,h,G=>I e h G
 | o::r,K,K',I,e,h,G=>by
  simp only[vcVals,tF]at G ⊢
  cases hg:o.guard with
  | none =>
   simp only[hg]at G ⊢;exact IH (λ d hd=>qg I hd) G
  | some q =>
   obtain⟨j,want⟩:=q;simp only[hg,ai]at G ⊢;cases hb:gv (e.get j)<;>simp only[hb]at G ⊢<;>try exact G
   exact⟨λ hb=>IH (λ d hd=>qg I hd) (G.1 hb),λ hb=>qg I (G.2 hb)⟩
theorem B5 {o:AOper}{K K':LEnv->Heap->Prop}(hk:∀e h,K e h->K' e h){e:LEnv}{h:Heap}(hv:wH P o K e h):wH P o K' e h:=by
 simp only[gC,vguard]at hv ⊢;grind [rT]
theorem A4 {items:List AOper}{masks tl:List Nat}:∀(l:List Nat) (j:Nat){Q:LPost}{e:LEnv}{h:Heap},vcC P (sCode items masks tl l j) Q e h->vcVals P (jV items masks tl j) (sRest P items masks tl l j (Q .normal)) e h
 | [],j,Q,e,h,G=>G
 | i::r,j,Q,e,h,G=>by
  simp only[sCode,vcC]at G;refine qg (λ e h G=>?_) G;simp only[sRest];have G:=AP G
  cases hi:items[i]? with
  | none=>simp only[hi,fx,gC,vcOp]at G
  | some a =>
   simp only[hi,fx]at G ⊢;exact B5 (λ e h I=>⟨I.1,A4 r (j+1) I.2⟩) G
structure x7 (P:Program) (nt:Nat) (ops:Array Oper) (items:List AOper) (masks tl:List Nat):Prop where
 len:items.length=ops.size
 itv:∀(i:Nat) (o:Oper) (a:AOper),ops[i]?=some o->items[i]?=some a->i∉tl->Item P nt ops false o a
 itt:∀(i:Nat) (o:Oper),ops[i]?=some o->i∈tl->∃fz:Bool,cOper P fz nt ops o=items[i]?
 edge:∀(i:Nat) (o:Oper),ops[i]?=some o->∀e∈o.after.toList,Region.binds .any e=true->e.on<i
 mask:∀(i:Nat) (o:Oper),ops[i]?=some o->∀k,(masks.getD i 0).testBit k=true->∃e,e∈o.after.toList/\Region.binds .any e=true/\(k=e.on\/(masks.getD e.on 0).testBit k=true)
 tlt:∀i∈tl,i<ops.size
 Gj:∀(k l i:Nat),k<ops.size->k∉tl->tl[l]?=some i->((masks.getD k 0).testBit i=true↔l<Hk masks tl k)
 rdv:∀(i k:Nat) (a b:AOper),items[i]?=some a->items[k]?=some b->i∉tl->∀s,a.dst=some s->(i≠k->b.dst≠some s)/\(s∈b.rd->i<k/\(masks.getD k 0).testBit i=true/\(k∉tl->Hk masks tl i<=Hk masks tl k))
 rdt:∀(i k:Nat) (a b:AOper),items[i]?=some a->items[k]?=some b->i∈tl->k∉tl->∀s,a.dst=some s->s∈b.rd->(masks.getD k 0).testBit i=true\/(masks.getD i 0).testBit k=true
 rev:∀(l i:Nat),tl[l]?=some i->∀b,b∈A3 items masks tl (l+1) i->b.guard=none/\b.dst.isSome=true
structure acA (P:Program) (nt:Nat) (ops:Array Oper) (items:List AOper) (masks tl:List Nat):Prop extends x7 P nt ops items masks tl where
 tord:∀l k i i':Nat,tl[l]?=some i->tl[k]?=some i'->l<k->(masks.getD i' 0).testBit i=true
variable {ops:Array Oper}{items:List AOper}{masks tl:List Nat}
theorem Ue (S:x7 P nt ops items masks tl):∀(i:Nat),i<ops.size->∀k,(masks.getD i 0).testBit k=true->k<i:=by
 intro i
 induction i using Nat.strongRecOn with
 | _ i Q =>
  intro hi k I;have ho:ops[i]?=some ops[i]:=by simp[hi]
  obtain⟨e,he,hb,hc⟩:=S.mask i _ ho k I;have G:=S.edge i _ ho e he hb;grind
theorem Qt (S:x7 P nt ops items masks tl){listed:Array Bool}(hsz:listed.size=ops.size) (hdc:∀i k,i<ops.size->cO listed i=true->(masks.getD i 0).testBit k=true->cO listed k=true)
  {i:Nat}(hi:i∈Region.ready .any ops listed):Rdy ops masks listed i:=by
 obtain⟨h1,h2,h3⟩:=Jg hi;refine⟨h1,h2,λ k G=>?_⟩;have ho:ops[i]?=some ops[i]:=by simp[h1]
 obtain⟨e,he,hb,hc⟩:=S.mask i _ ho k G;grind [cO]
theorem OL (S:x7 P nt ops items masks tl){listed:Array Bool}(hsz:listed.size=ops.size) (hr:Region.ready .any ops listed=[]):∀i,i<ops.size->cO listed i=true:=by
 intro i
 induction i using Nat.strongRecOn with
 | _ i Q =>
  intro hi;by_cases hl:cO listed i=true
  ·exact hl
  ·exfalso
   have G:i∈Region.ready .any ops listed:=by
    unfold Region.ready;simp only[List.mem_filter,List.mem_range,Bool.and_eq_true,Bool.not_eq_true'];refine⟨hi,by grind [cO],?_⟩;have ho:ops[i]?=some ops[i]:=by simp[hi]
    rw[ho];simp only[Option.map_some,Option.getD_some,Array.all_eq_true'];intro e he;by_cases hb:Region.binds .any e=true
    ·have I:=S.edge i _ ho e (by simpa using he) hb;grind [cO]
    ·simp[hb]
   grind
theorem YN (S:x7 P nt ops items masks tl){JJ:Array Bool->Act->World->Prop}{Q:Exit->Act->World->Prop}{r:Option Nat}
  (hsz:∀listed a w,JJ listed a w->listed.size=ops.size) (hdc:∀listed a w,JJ listed a w->∀i k,i<ops.size->cO listed i=true->(masks.getD i 0).testBit k=true->cO listed k=true)
  (step:∀listed a w i,JJ listed a w->i∈Region.ready .any ops listed->wpOpIn (rF r) 0 P ops Q i (JJ (listed.setIfInBounds i true)) a w)
  (hq:∀listed a w,JJ listed a w->(∀i,i<ops.size->cO listed i=true)->Q .normal a w):∀(fuel:Nat) (listed:Array Bool) (a:Act) (w:World),left ops.size listed<=fuel->JJ listed a w->wpAnyIn (rF r) 0 P .any ops Q fuel listed a w:=by
 have done:∀(listed:Array Bool) (a:Act) (w:World),JJ listed a w->Region.ready .any ops listed=[]->Q .normal a w:=by
  grind [OL]
 intro fuel
 induction fuel with
 | zero =>
  intro listed a w hl hJ
  have hr:Region.ready .any ops listed=[]:=by
   cases G:Region.ready .any ops listed with
   | nil=>rfl
   | cons x r =>
    exfalso;have hm:x∈Region.ready .any ops listed:=by rw[G];simp
    have R:=Qt S (hsz _ _ _ hJ) (hdc _ _ _ hJ) hm;have:x∈(List.range ops.size).filter λ i=> !cO listed i:=by simp[R.lt,R.un]
    grind [left]
  exact⟨hr,done listed a w hJ hr⟩
 | succ fuel Z =>
  intro listed a w hl hJ;refine⟨done listed a w hJ,λ i hi=>?_⟩;have R:=Qt S (hsz _ _ _ hJ) (hdc _ _ _ hJ) hi;refine wpOpIn_mono (λ a' w' V=>Z _ a' w' ?_ V) (step listed a w i hJ hi);have I:i<listed.size:=by rw[hsz _ _ _ hJ];exact R.lt
  have:=ME (l:=List.range ops.size) (p:=λ i=> !cO listed i) (q:=λ k=> !cO (listed.setIfInBounds i true) k) (λ x _ hx=>by
   grind [dW]) (i:=i) (by simpa using R.lt) (by simp[R.un]) (by simp[dW I])
  grind [left]
structure P0 (P:Program) (nt:Nat) (ops:Array Oper) (items:List AOper) (masks tl:List Nat) (X:XT) (L:(Nat->Option Nat)->Heap->World->Prop) (w₀:World) (K:LEnv->Heap->Prop) (listed:Array Bool) (a:Act) (w:World)
  (ρ:Nat->Option Nat) (h:Heap) (e:LEnv) (j:Nat):Prop where
 size:listed.size=ops.size
 dc:∀i k,i<ops.size->cO listed i=true->(masks.getD i 0).testBit k=true->cO listed k=true
 le:L ρ h w
 hr:aA ⟨ρ,X,h,w.heap⟩
 ws:WS w₀ w
 defers:iu ⟨ρ,X,h,w.heap⟩ a.defers
 tsz:a.tmps.size=nt
 jle:j<=tl.length
 rest:sRest P items masks tl (tl.drop j) j K e h
 prog:∀l i,tl[l]?=some i->(cO listed i=true↔l<j)
 rel:∀s,(∃i b,items[i]?=some b/\i∉tl/\cO listed i=false/\b.dst=some s)\/aB ⟨ρ,X,h,w.heap⟩ (e.get s) (a.tmps.getD s Go.undef)
 val:∀i b,items[i]?=some b->i∉tl->cO listed i=false->Hk masks tl i<=j->cK P b e h
theorem dD {j:Nat}{b:AOper}(hb:b∈jV items masks tl j):∃i,items[i]?=some b/\i∉tl/\Hk masks tl i=j:=by
 grind [jV]
theorem Cj {i:Nat}{b:AOper}(hi:items[i]?=some b) (hn:i∉tl):b∈jV items masks tl (Hk masks tl i):=by
 grind [jV]
theorem Ie (S:x7 P nt ops items masks tl){j:Nat}{K:LEnv->Heap->Prop}{e:LEnv}{h:Heap}(hv:vcVals P (jV items masks tl j) K e h) :
  ∃T:LEnv,K T h/\(∀s,(∀a,a∈jV items masks tl j->a.dst≠some s)->T.get s=e.get s)/\∀a,a∈jV items masks tl j->cK P a T h:=by
 have Q:∀(i:Nat) (b:AOper),items[i]?=some b->i∉tl->Item P nt ops false (ops[i]!) b:=by
  intro i b hi hn;have hl:i<ops.size:=by rw[<- S.len];grind
  exact S.itv i _ b (by simp[hl]) hi hn
 refine Nl _ (λ b hb=>?_) (λ b hb s hs G=>?_) ?_ hv
 ·obtain⟨i,h1,h2,h3⟩:=dD hb;have:=(Q i b h1 h2).op;grind [mg]
 ·obtain⟨i,h1,h2,h3⟩:=dD hb;have:=((S.rdv i i b b h1 h1 h2 s hs).2 G).1;omega
 ·have a2:((List.range items.length).filter λ k=> !tl.contains k&&Hk masks tl k == j).Pairwise (· < ·):=List.Pairwise.filter _ List.pairwise_lt_range
  have Z:∀i,i∈((List.range items.length).filter λ k=> !tl.contains k&&Hk masks tl k == j)->i∉tl:=by
   grind
  have:∀(l:List Nat),(∀i∈l,i∉tl)->l.Pairwise (· < ·)->(l.filterMap (λ i=>items[i]?)).Pairwise (λ a b=>∀s,b.dst=some s->a.dst≠some s/\s∉a.rd):=by
   intro l
   induction l with
   | nil=>intro _ _;simp
   | cons x r ih =>
    intro hn I;rw[List.pairwise_cons]at I;have a1:=ih (λ i hi=>hn i (by simp[hi])) I.2
    cases hx:items[x]? with
    | none=>grind
    | some ax =>
     rw[List.filterMap_cons_some hx,List.pairwise_cons];refine⟨λ b hb s hs=>?_,a1⟩;simp only[List.mem_filterMap]at hb;obtain⟨k,hk,hb⟩:=hb;have a6:=I.1 k hk;have V:=hn k (by simp[hk]);refine⟨(S.rdv k x b ax hb hx V s hs).1 (by omega),λ G=>?_⟩;have:=((S.rdv k x b ax hb hx V s hs).2 G).1;omega
  exact this _ Z a2
theorem wpOp_put {ops:Array Oper}{i:Nat}{K:Act->World->Prop}{a:Act}{w:World}{Q:Exit->Act->World->Prop}{r:Option Nat}(h:wpOpIn (rF r) 0 P ops Q i K a w) :
    wpOpIn (rF r) 0 P ops Q i (λ a' w'=>K a' w'/\∀s,(∀o,ops[i]?=some o->o.dst≠some s)->a'.tmps.getD s Go.undef=a.tmps.getD s Go.undef) a w:=by
  unfold wpOpIn at h ⊢
  cases ho:ops[i]? with
  | none=>grind
  | some o =>
    simp only[ho]at h ⊢
    have put:∀(d:List Deferred) (v:Value) (s:Nat),(∀I,some o=some I->I.dst≠some s)->(({ a with defers:=d }:Act).put o.dst v).tmps.getD s Go.undef=a.tmps.getD s Go.undef:=by
      intro d v s hs;have:=hs o rfl
      cases hd:o.dst with
      | none=>rfl
      | some x =>
        have hx:x≠s:=by rintro rfl;exact this hd
        simp[Act.put,hx]
    split
    · rename_i hw
      rw[if_pos hw]at h;unfold Oper.wpIn at h ⊢;refine⟨h.1,?_⟩;have h:=h.2;generalize (o.semAt (rF r).round a.eval).run P w=res at h ⊢
      cases res with
      | ok n w' =>
        cases n<;>simp only[Oper.uponIn]at h ⊢<;>first
          | exact h
          | exact⟨h,λ s hs=>put _ _ s hs⟩
          | exact⟨h,λ s hs=>put a.defers _ s hs⟩
          | (refine⟨h.1,CallsIn.mono h.2 (λ e G he=>?_)⟩
             cases e
             · exact⟨he,λ s hs=>put a.defers _ s hs⟩
             · exact he
             · exact he)
          | (refine⟨h.1,RoundIn.mono h.2 (λ e G he=>?_)⟩
             cases e
             · exact⟨he,λ s hs=>put a.defers _ s hs⟩
             · exact he
             · exact he)
          | (refine⟨h.1,RowsIn.mono h.2 (λ v G he=>?_)⟩
             exact⟨he,λ s hs=>put a.defers _ s hs⟩)
      | halt x w' =>
        cases x<;>simp only[Oper.uponIn]at h ⊢<;>exact h
    · rename_i hw
      rw[if_neg hw]at h;exact⟨h.1,h.2,λ s hs=>put a.defers _ s hs⟩
open Classical in
theorem OX (S:x7 P nt ops items masks tl){X:XT}{L:(Nat->Option Nat)->Heap->World->Prop}(Lmono:∀ρ h w ρ' h' w',L ρ h w->Ctx.le ⟨ρ,X,h,w.heap⟩ ⟨ρ',X,h',w'.heap⟩->L ρ' h' w'){w₀:World}{K:LEnv->Heap->Prop}{listed:Array Bool}{a:Act}{w:World}
  {Q:Exit->Act->World->Prop}{rd:Option Nat}{ρ:Nat->Option Nat}{h:Heap}{e:LEnv}{j:Nat}
  (hJ:P0 P nt ops items masks tl X L w₀ K listed a w ρ h e j) {i:Nat}(R:Rdy ops masks listed i) (hlj:∀l,tl[l]?=some i->l=j) :
  wpOpIn (rF rd) 0 P ops Q i (λ a' w'=>∃ρ' h' e' j',P0 P nt ops items masks tl X L w₀ K (listed.setIfInBounds i true) a' w' ρ' h' e' j'/\(j'=j\/(j'=j+1/\tl[j]?=some i))/\Ctx.le ⟨ρ,X,h,w.heap⟩ ⟨ρ',X,h',w'.heap⟩ /\
   ∀s,(∀k b,items[k]?=some b->(k∉tl/\Hk masks tl k≠0)\/(k=i/\i∈tl)->b.dst≠some s)->e'.get s=e.get s) a w:=by
 have j2:=hJ.dc;have a2:=hJ.size;have g5:i<listed.size:=by rw[hJ.size];exact R.lt
 have c2:=λ k=>dW (k:=k) g5
 obtain⟨o,ho⟩:∃o,ops[i]?=some o:=⟨ops[i]'R.lt,by simp[R.lt]⟩;have c3:i<items.length:=by rw[S.len];exact R.lt
 obtain⟨a0,a8⟩:∃x,items[i]?=some x:=⟨items[i]'c3,by simp[c3]⟩;obtain⟨_,_,hle,hr,e6,g7,hsz,hj,G,c6,hrel,c0⟩:=hJ
 let c:Ctx:=⟨ρ,X,h,w.heap⟩
 let pend:Nat->Prop:=λ s=>∃k b,items[k]?=some b/\k∉tl/\cO listed k=false/\b.dst=some s
 let ef:LEnv:=(a0.rd++List.range nt).map λ s=>(s,if pend s then D.undef else e.get s)
 have b4:∀s,ef.get s=if s∈a0.rd++List.range nt then(if pend s then .undef else e.get s) else .undef:=λ s=>NV _ _ s
 have c1:rM c nt ef.get a:=by
  refine⟨hr.glob,hr.lo,g7,hsz,λ s=>?_⟩;rw[b4];split
  ·split
   ·exact .undef _
   grind
  ·exact .undef _
 have c5:∀r∈a0.rd,ef.get r=e.get r:=by
  intro r I;rw[b4,if_pos (by simp[I]),if_neg];rintro⟨k,b,hb,hk,a6,hd⟩;have hm:=((S.rdv k i b a0 hb a8 hk r hd).2 I).2.1;have:=R.anc k hm;grind
 have a1:∀r∈a0.op.reads,e.get r=ef.get r:=λ r I=>(c5 r (by simp[AOper.rd,I])).symm
 have g8:=ZU g5 R j2
 have keep:∀{ρ':Nat->Option Nat}{h':Heap}{t':Env}{a':Act}{w':World}{d:D},c.le ⟨ρ',c.X,h',w'.heap⟩->rM ⟨ρ',c.X,h',w'.heap⟩ nt t' a'->t'=(ef.put o.dst d).get->∀s,o.dst≠some s->¬pend s->aB ⟨ρ',c.X,h',w'.heap⟩ (e.get s) (a'.tmps.getD s Go.undef):=by
  intro ρ' h' t' a' w' d g3 g0 ht s hs hp;by_cases e9:s<nt
  ·have:=g0.rel s;rw[ht,LEnv.bO]at this
   have e1:Env.put ef.get o.dst d s=e.get s:=by
    have:Env.put ef.get o.dst d s=ef.get s:=by
     cases hd:o.dst with
     | none=>rfl
     | some x =>
      have:s≠x:=by rintro rfl;exact hs hd
      simp[Env.put,aF,this]
    grind
   grind
  ·have h1:=(hrel s).resolve_left hp;have e1:a.tmps.getD s Go.undef=Go.undef:=by simp[Array.getD,hsz,e9]
   have e2:a'.tmps.getD s Go.undef=Go.undef:=by simp[Array.getD,g0.size,e9]
   rw[e1]at h1;rw[e2];exact h1.mono g3
 by_cases a7:i∈tl
 ·
  obtain⟨l,hl⟩:=ba a7;have g2:l=j:=hlj l hl;subst g2;have c8:=(ar.1 hl).1;have h7:tl[l]=i:=(ar.1 hl).2;rw[List.drop_eq_getElem_cons c8,h7]at G;simp only[sRest,a8]at G
  obtain⟨fz,e3⟩:∃fz:Bool,cOper P fz nt ops o=some a0:=by
   obtain⟨fz,h⟩:=S.itt i o ho a7;grind
  unfold cOper at e3;split at e3
  case isFalse=>cases e3
  rename_i j5;have hd:∀j,o.dst=some j->j<nt:=by grind
  have hop:∃op,cOp P fz o=some op/\a0.op=op/\a0.dst=o.dst/\(o.guard=none->a0.guard=none)/\∀j want,o.guard=some (j,want)->∃s,(ops[j]?).bind (·.dst)=some s/\a0.guard=some (s,want):=by
   grind
  obtain⟨op,hop,e1,e2,gn,gs⟩:=hop;subst e1;have b2:=qn hop
  let KK:LEnv->Heap->Prop:=λ e h=>Gh P (A3 items masks tl (l+1) i) e h/\vcVals P (jV items masks tl (l+1)) (sRest P items masks tl (tl.drop (l+1)) (l+1) K) e h
  let V:Env->Heap->Prop:=λ t' h'=>∃d,t'=(ef.put o.dst d).get/\KK (e.put a0.dst d) h'
  have run:vcOp P a0.op (λ d h'=>KK (e.put a0.dst d) h') e h->OK P nt o (vW P nt ops [] V) ef.get h:=by
   intro hv;have:=sA (nt:=nt) hop hd _ ef h (AQ a1 _ h hv);grind [pF,lh]
  have hx:vW P nt ops [i] V ef.get h:=by
   refine oZ ho b2 a0.guard (λ j' want hg=>by grind) gn hd ?_;simp only[gC,vguard]at G
   cases hg:a0.guard with
   | none=>simp only[hg]at G;exact run G
   | some p =>
    obtain⟨g,want⟩:=p;simp only[hg]at G;cases hb:gv (e.get g)<;>simp only[hb]at G<;>try exact G.elim
    rename_i b;refine⟨b,by grind [AOper.rd],λ b3=>run (G.1 b3),λ b3=>?_⟩;grind [lh,LEnv.bO]
  refine Mg (c:=c) hx rfl hr c1 ?_;rintro a' w' ⟨ρ',t',h',k1,k2,k3,k4,d,ht,j1,j0⟩
  have b1:∀s,a0.dst≠some s->(e.put a0.dst d).get s=e.get s:=by
   intro s hs;rw[LEnv.bO]
   cases hd:a0.dst with
   | none=>rfl
   | some x =>
    have:s≠x:=by rintro rfl;exact hs hd
    simp[Env.put,aF,this]
  obtain⟨T,t1,t2,t3⟩:=Ie S j0
  have j6:∀k b,items[k]?=some b->k∉tl->Hk masks tl k=l+1->cO listed k=false:=by
   intro k b hb hk e8;have e0:k<ops.size:=by rw[<- S.len];grind
   have hm:=(S.Gj k l i e0 hk hl).2 (by omega);grind
  refine⟨ρ',h',T,l+1,⟨by simp[a2],g8,Lmono _ _ _ _ _ _ hle k1,k2,e6.trans k3,k4.defers,k4.size,by omega,t1,λ l' i' h8=>?_,λ s=>?_,λ k b hb Z a6 e8=>?_⟩,Or.inr ⟨rfl,hl⟩,k1,λ s hs=>?_⟩
  rotate_right
  ·rw[t2 s (λ b hb b7=>by grind [dD])];grind
  ·rw[c2];grind
  ·by_cases hex:∃b,b∈jV items masks tl (l+1)/\b.dst=some s
   ·obtain⟨b,hb,b7⟩:=hex;obtain⟨k,h1,h2,h3⟩:=dD hb;left;refine⟨k,b,h1,h2,?_,b7⟩;grind
   ·rw[t2 s (λ b hb b7=>hex ⟨b,hb,b7⟩)];by_cases hs:a0.dst=some s
    ·right;have:=k4.rel s;rw[ht,LEnv.bO, <- e2,hs]at this;rw[LEnv.bO,hs];simpa[Env.put,aF] using this
    ·rw[b1 s hs];by_cases hp:pend s
     ·grind
     grind
  ·rw[c2]at a6;split at a6
   ·cases a6
   ·rename_i h9;rcases Nat.lt_or_ge (Hk masks tl k) (l+1) with j4|g6
    case inr =>
     grind [Cj]
    have e0:k<ops.size:=by rw[<- S.len];grind
    have v0:=c0 k b hb Z a6 (by omega)
    have c7:(masks.getD i 0).testBit k≠true:=by
     grind
    have h5:¬(masks.getD k 0).testBit i=true:=by
     intro hm;have:=(S.Gj k l i e0 Z hl).1 hm;omega
    have e5:cK P b (e.put a0.dst d) h':=by
     by_cases hf:b.op.kU=true
     ·refine cK.congr (e:=e) (λ r I=>?_) (λ s hs=>?_) (cK.free hf v0)
      ·rw[b1 r];intro hd;rcases S.rdt i k a0 b a8 hb a7 Z r hd I with hm|hm
       ·exact h5 hm
       ·exact c7 hm
      ·exact b1 s ((S.rdv k i b a0 hb a8 Z s hs).1 h9)
     ·have hm:b∈A3 items masks tl (l+1) i:=by
       grind [A3,sRevI]
      have g1:∀b',b'∈A3 items masks tl (l+1) i->b'.guard=none/\b'.op.isVal=true:=by
       intro b' e4;refine⟨(S.rev l i hl b' e4).1,?_⟩;simp only[A3,sRevI,List.mem_filterMap,List.mem_filter,List.mem_range,Bool.and_eq_true,decide_eq_true_eq,Bool.not_eq_true']at e4;obtain⟨k2,⟨q1,⟨⟨q2,q3⟩,q4⟩,q5⟩,q6⟩:=e4;have q7:k2<ops.size:=by rw[<- S.len];exact q1
       have:=(S.itv k2 ops[k2] b' (by simp[q7]) q6 (by simpa using q2)).op;grind [mg]
      exact yH g1 j1 b hm (S.rev l i hl b hm).2
    refine cK.congr (λ r I=>(t2 r λ x hx c4=>?_).symm) (λ s hs=>t2 s λ x hx c4=>?_) e5
    ·obtain⟨m,m1,m2,m3⟩:=dD hx;have:=((S.rdv m k x b m1 hb m2 r c4).2 I).2.2 Z;omega
    ·obtain⟨m,m1,m2,m3⟩:=dD hx;have h6:k≠m:=by rintro rfl;omega
     exact(S.rdv k m b x hb m1 Z s hs).1 h6 c4
 ·
  have It:=S.itv i o a0 ho a8 a7
  have e7:Hk masks tl i<=j:=by
   rcases Nat.lt_or_ge j (Hk masks tl i) with c8|g6
   ·exfalso
    have g4:j<tl.length:=by
     grind [Hk]
    have hm:=(S.Gj i j tl[j] R.lt a7 (by simp[g4])).2 c8;have:=(c6 j tl[j] (by simp[g4])).1 (R.anc _ hm);omega
   ·exact g6
  obtain⟨d,j3,b5⟩:=c0 i a0 a8 a7 R.un e7;have hop:cdOp P o=some a0.op:=by have:=It.op;grind
  have b2:=C9 hop
  let V:Env->Heap->Prop:=λ t' h'=>t'=(ef.put o.dst d).get/\h'=h
  have run:(∀K':D->Prop,K' d->vcdOp P a0.op K' e h)->OK P nt o (vW P nt ops [] V) ef.get h:=by
   intro hv;have:=JN (nt:=nt) hop It.dlt (jR a1 (· = d) h (hv (· = d) rfl));grind [pF,lh]
  have hx:vW P nt ops [i] V ef.get h:=by
   refine oZ ho b2 a0.guard (λ j' want hg=>by obtain⟨s,h1,h2⟩:=It.gs j' want hg;exact⟨s,h1,h2⟩) It.gn It.dlt ?_
   cases hg:a0.guard with
   | none=>rw[hg]at b5;exact run b5
   | some p =>
    obtain⟨g,want⟩:=p;rw[hg]at b5;obtain⟨b,q1,q2,q3⟩:=b5;refine⟨b,by grind [AOper.rd],λ b3=>run (q2 b3),λ b3=>?_⟩;grind [lh,LEnv.bO]
  refine Mg (c:=c) hx rfl hr c1 ?_;rintro a' w' ⟨ρ',t',h',k1,k2,k3,k4,ht,rfl⟩;refine⟨ρ',h',e,j,⟨by simp[a2],g8,Lmono _ _ _ _ _ _ hle k1,k2,e6.trans k3,k4.defers,k4.size,hj,G,λ l' i' h8=>?_,λ s=>?_,λ k b hb Z a6 e8=>?_⟩,Or.inl rfl,k1,λ s hs=>rfl⟩
  ·grind
  ·by_cases hs:a0.dst=some s
   ·right;have:=k4.rel s;rw[ht,LEnv.bO, <- It.dst,hs]at this;rw[j3 s hs];simpa[Env.put,aF] using this
   ·by_cases hp:pend s
    ·grind
    ·right;exact keep k1 k4 ht s (by rw[<- It.dst];exact hs) hp
  grind
theorem TM {id:Nat}(S:acA P nt ops items masks tl) (hm:P.follows .mixedOrders=true){Q:LPost}{e:LEnv}{h:Heap}(hv:vcC P (sCode items masks tl tl 0) Q e h):sC P nt (.region id ops true) (λ x=>up (Q x)) e.get h:=by
 intro rd c w a hh hp hr hs _;subst hh;refine wpIn_region_any hm ?_;obtain⟨T,t1,t2,t3⟩:=Ie S.tox7 (A4 tl 0 hv);have Z:∀i,i<ops.size->cO (Array.replicate ops.size false) i=false:=by intro i hi;unfold cO;simp[Array.getD,hi]
 have I:∀i b,items[i]?=some b->i<ops.size:=λ i b hb=>by rw[<- S.len];grind
 have a6:(⟨c.ρ,c.X,c.h,w.heap⟩:Ctx)=c:=by rw[<- hp]
 refine YN S.tox7 (JJ:=λ listed a' w'=>∃ρ h e j,P0 P nt ops items masks tl c.X (λ ρ h w=>c.le ⟨ρ,c.X,h,w.heap⟩) w (Q .normal) listed a' w' ρ h e j) (λ _ _ _ ⟨_,_,_,_,hJ⟩=>hJ.size) (λ _ _ _ ⟨_,_,_,_,hJ⟩=>hJ.dc) (λ listed a' w' i hJ hi=>?_) (λ listed a' w' hJ b1=>?_) ops.size _ a _ (Nat.le_trans (List.length_filter_le _ _) (by simp)) ?_
 ·obtain⟨ρ,h,e,j,hJ⟩:=hJ;have R:=Qt S.tox7 hJ.size hJ.dc hi;refine wpOpIn_mono (λ a' w' ⟨ρ',h',e',j',b7,_⟩=>⟨ρ',h',e',j',b7⟩) (OX S.tox7 (λ ρ h w ρ' h' w' l k=>Ctx.le.trans l k) hJ R λ l hl=>?_)
  have h1:¬l<j:=by
   intro I;have:=(hJ.prog l i hl).2 I;rw[R.un]at this;cases this
  rcases Nat.lt_or_ge j l with a7|b4
  ·have V:j<tl.length:=Nat.lt_trans a7 (ar.1 hl).1;have b3:=S.tord j l tl[j] i (by simp[V]) hl a7;have:=(hJ.prog j tl[j] (by simp[V])).1 (R.anc _ b3);omega
  ·omega
 ·obtain⟨ρ,h,e',j,hJ⟩:=hJ;obtain⟨_,_,hle,a1,b2,a8,hsz,hj,G,a2,hrel,c0⟩:=hJ
  have V:j=tl.length:=by
   rcases Nat.lt_or_ge j tl.length with I|b4
   ·have:=(a2 j tl[j] (by simp[I])).1 (b1 _ (S.tlt _ (List.getElem_mem I)));omega
   ·omega
  subst V;rw[List.drop_length]at G;refine⟨ρ,e'.get,h,hle,a1,b2,⟨a1.glob,a1.lo,a8,hsz,λ s=>?_⟩,e',rfl,G⟩;grind
 ·have hw:({ w with drawn:=w.drawn+1 }:World).heap=w.heap:=rfl;refine⟨c.ρ,c.h,T,0,by simp,λ i k hi hl=>(by grind),?_,?_,⟨rfl,rfl,rfl⟩,(by rw[hw,a6];exact hs.defers),hs.size,Nat.zero_le _,by simpa using t1,λ l i hl=>?_,λ s=>?_,λ i b hb hn _ c1=>?_⟩
  ·grind [Ctx.le.refl]
  ·rw[hw,a6];exact hr
  ·rw[Z i (S.tlt i (ak hl))];simp
  ·by_cases hex:∃b,b∈jV items masks tl 0/\b.dst=some s
   ·grind [dD]
   ·right;rw[t2 s (λ b hb b5=>hex ⟨b,hb,b5⟩),hw,a6];exact hs.rel s
  grind [Cj]
def sItems (P:Program) (nt:Nat) (ops:Array Oper) (tl:List Nat) (fz:Bool):List Oper->Nat->Option (List AOper)
 | [],_=>some []
 | o::r,i=>match (if tl.contains i then cOper P fz nt ops o else cdOper P nt ops o),sItems P nt ops tl fz r (i+1) with
  | some a,some s=>some (a::s)
  | _,_=>none
def Gl (masks tl:List Nat) (i k:Nat) (a b:AOper):Bool :=
 match a.dst with
 | none=>true
 | some s=>if tl.contains i then tl.contains k || !b.rd.contains s||(masks.getD k 0).testBit i||(masks.getD i 0).testBit k
  else(i == k||b.dst != some s)&&(!b.rd.contains s||(decide (i<k)&&(masks.getD k 0).testBit i&&(tl.contains k||decide (Hk masks tl i<=Hk masks tl k))))
def Zl (ops:Array Oper) (items:List AOper) (masks tl:List Nat):Bool :=
 (ops.toList.zipIdx.all λ p=>(p.1.after.toList.all λ e=> !Region.binds .any e||decide (e.on<p.2))&&(masks.getD p.2 0 == E2 masks p.1.after.toList)) &&
 tl.all (λ i=>decide (i<ops.size))&&ordOk masks tl &&
 ((List.range ops.size).all λ k=>tl.contains k||tl.zipIdx.all λ p=>(masks.getD k 0).testBit p.1 == decide (p.2<Hk masks tl k)) &&
 (items.zipIdx.all λ p=>items.zipIdx.all λ q=>Gl masks tl p.2 q.2 p.1 q.1) &&
 (tl.zipIdx.all λ p=>(A3 items masks tl (p.2+1) p.1).all λ b=>b.guard.isNone&&b.dst.isSome)
theorem wQ {fz:Bool}:∀{l:List Oper}{i:Nat}{items:List AOper},sItems P nt ops tl fz l i=some items->items.length=l.length/\∀(k:Nat) (o:Oper),l[k]?=some o->(if tl.contains (i+k) then cOper P fz nt ops o else cdOper P nt ops o)=items[k]?
 | [],i,items,h=>by grind [sItems]
 | o::r,i,items,h=>by
  simp only[sItems]at h;split at h
  ·rename_i a s h1 h2;simp at h;subst h;obtain⟨I,G⟩:=wQ h2;grind
  ·cases h
theorem Wp {fz:Bool}(hi:sItems P nt ops tl fz ops.toList 0=some items) (hc:Zl ops items masks tl=true):acA P nt ops items masks tl:=by
 obtain⟨l1,l2⟩:=wQ hi;simp only[Zl,Bool.and_eq_true,List.all_eq_true]at hc;obtain⟨⟨⟨⟨⟨c1,c2⟩,c3⟩,c4⟩,c5⟩,c6⟩:=hc;have pair:∀(i k:Nat) (a b:AOper),items[i]?=some a->items[k]?=some b->Gl masks tl i k a b=true:=λ i k a b ha hb=>c5 (a,i) (mem_zipIdx ha) (b,k) (mem_zipIdx hb)
 refine⟨⟨by simpa using l1,λ i o a ho ha hn=>?_,λ i o ho hm=>?_,λ i o ho ed he hb=>?_,λ i o ho k G=>?_,λ i hi=>by simpa using c2 i hi,λ k l i G hn hl=>?_,λ i k a b ha hb hn s hs=>?_,λ i k a b ha hb hm hn s hs hr=>?_,λ l i hl b hb=>?_⟩,λ l k i i' hl G Q=>?_⟩
 ·have:=l2 i o (by simpa using ho);grind [xq]
 ·have:=l2 i o (by simpa using ho);grind
 ·have:=(c1 (o,i) (mem_zipIdx (by simpa using ho))).1 ed he;simpa[hb] using this
 ·have:=(c1 (o,i) (mem_zipIdx (by simpa using ho))).2;have I:masks.getD i 0=E2 masks o.after.toList:=by simpa using this
  rw[I]at G;rcases Bc _ _ G with h|h
  ·simp at h
  ·exact h
 ·have:=c4 k (by simpa using G);simp only[Bool.or_eq_true,List.all_eq_true]at this;have:=(this.resolve_left (by simpa using hn)) (i,l) (mem_zipIdx hl);grind
 ·grind [Gl]
 ·grind [Gl]
 ·have:=c6 (i,l) (mem_zipIdx hl) b hb;grind [Option.isNone_iff_eq_none]
 ·have V:=ar.1 hl;have Z:=ar.1 G;have:=List.pairwise_iff_getElem.1 (A8 c3) l k V.1 Z.1 Q;grind
def cDrS (P:Program) (nt:Nat) (tbl:TTq) (id:Nat) (ops:Array Oper):Option ACode :=
 if P.follows .mixedOrders then
  match tbl id with
  | some (masks,tl,[q])=>if q=999999\/q=999995 then match sItems P nt ops tl (q == 999999) ops.toList 0 with
   | some items=>if Zl ops items masks tl then some (sCode items masks tl tl 0) else none
   | none=>none
   else none
  | _=>none
 else none
theorem XE (P:Program) (nt:Nat) (tbl:TTq):KY P nt (cDrS P nt tbl):=by
 intro id ops ac h Q e hp G;unfold cDrS at h;split at h
 case isFalse=>cases h
 rename_i hm;split at h
 case h_2=>cases h
 rename_i masks tl q _;split at h
 case isFalse=>cases h
 cases hi:sItems P nt ops tl (q == 999999) ops.toList 0 with
 | none=>simp[hi]at h
 | some items =>
  simp only[hi]at h;split at h
  case isFalse=>cases h
  rename_i hc;simp only[Option.some.injEq]at h;subst h;exact TM (Wp hi hc) hm G
end Go.Am
namespace Go.Am
open Go
variable [ca]
variable {P:Program}{nt:Nat}
structure SK (c c':Ctx):Prop where
 hp:c'.hp=c.hp
 h:∀k,c.h k≠.free->c'.h k=c.h k
 ρ:∀k,c.h k≠.free->c'.ρ k=c.ρ k
 own:∀b,b<c.hp.size->c'.own b->c.own b
theorem aB.wP {c c':Ctx}(s:SK c c'){d:D}{v:Value}(h:aB c d v):aB c' d v:=by
 have row:∀{n:Nat}{x:Nat×List D},(c.h n).row=some x->(c'.h n).row=some x:=λ {n x} hx=>by rw[s.h n (Slot.fW hx)];exact hx
 induction h with
 | undef v=>exact .undef v
 | nil=>exact .nil
 | nilfn=>exact .nilfn
 | nilmap=>exact .nilmap
 | nilp=>exact .nilp
 | int k n=>exact .int k n
 | bool b=>exact .bool b
 | str s=>exact .str s
 | iN p cap hm=>exact .iN p cap hm
 | sl xs b o cap esz f hne hc hm he hlen hone hcell ho _ I =>
  have hb:b<c.hp.size:=by
   cases xs with
   | nil=>exact absurd rfl hne
   | cons e r =>
    have hl:=hlen e (by simp)
    cases Z:e.cells with
    | nil=>grind
    | cons d ds=>exact FB (hcell 0 0 d (by simp[aT,Z]))
  exact .sl xs b o cap esz f hne hc hm he hlen hone (λ i j d hd=>by rw[s.hp];exact hcell i j d hd) (λ h=>ho (s.own b hb h)) I
 | msDead n off len p l k hd=>exact .msDead n off len p l k (by rw[s.h n (by rw[hd];simp)];exact hd)
 | msNil n esz els G hρ=>exact .msNil n esz els (row G) (by rw[s.ρ n (Slot.fW G)];exact hρ)
 | ms n off len g esz cap els cur ty fr G hρ hl hg hs hc hm=>exact .ms n off len g esz cap els cur ty fr (row G) (by rw[s.ρ n (Slot.fW G)];exact hρ) hl (by rw[s.hp];exact hg) hs hc hm
 | msE n off esz p els G=>exact .msE n off esz p els (row G)
 | ptrDead n i j b o hd=>exact .ptrDead n i j b o (by rw[s.h n (by rw[hd];simp)];exact hd)
 | ptrBox n j g v hb hρ=>exact .ptrBox n j g v (by rw[s.h n (by rw[hb];simp)];exact hb) (by rw[s.ρ n (by rw[hb];simp)];exact hρ)
 | ptrRow n i j g esz els G hρ hi=>exact .ptrRow n i j g esz els (row G) (by rw[s.ρ n (Slot.fW G)];exact hρ) hi
 | vp e j b o f hone hcell ho hb _ I=>exact .vp e j b o f hone (λ k d hd=>by rw[s.hp];exact hcell k d hd) (λ h=>ho (s.own b hb h)) (by rw[s.hp];exact hb) I
 | agg cs vs hsz hone _ I=>exact .agg cs vs hsz hone I
 | tup ds vs hsz _ I=>exact .tup ds vs hsz I
 | fn f a b va vb hsa hsb _ _ V Q=>exact .fn f a b va vb hsa hsb V Q
 | yld n g st B hl hρ=>exact .yld n g st B (by rw[s.h n (by rw[hl];simp)];exact hl) (by rw[s.ρ n (by rw[hl];simp)];exact hρ)
 | yldDead n g hd=>exact .yldDead n g (by rw[s.h n (by rw[hd];simp)];exact hd)
 | mp n g kt l hl hρ=>exact .mp n g kt l (by rw[s.h n (by rw[hl];simp)];exact hl) (by rw[s.ρ n (by rw[hl];simp)];exact hρ)
 | mpDead n p hd=>exact .mpDead n p (by rw[s.h n (by rw[hd];simp)];exact hd)
theorem dk.wP {c c':Ctx}(s:SK c c'){n:Nat}{x:Slot}(hρ:x≠.free->c'.ρ n=c.ρ n) (h:dk c n x):dk c' n x:=by
 cases x with
 | free=>trivial
 | dead=>trivial
 | box v =>
  obtain⟨g,cur,ty,h1,h2,h3,h4⟩:=h;exact⟨g,cur,ty,by rw[hρ (by simp)];exact h1,by rw[s.hp];exact h2,h3,λ i d hd=>⟨(h4 i d hd).1,(h4 i d hd).2.wP s⟩⟩
 | arr e l =>
  obtain⟨h1,h2,h3,h4⟩:=h;refine⟨h1,h2,h3,?_⟩;rcases h4 with⟨I,G⟩|⟨g,cur,ty,I,G,V,Q⟩
  ·grind
  ·exact Or.inr ⟨g,cur,ty,by rw[hρ (by simp)];exact I,by rw[s.hp];exact G,V,λ i j d hd=>(Q i j d hd).wP s⟩
 | frz e l =>
  obtain⟨h1,h2,h3,h4⟩:=h;refine⟨h1,h2,h3,?_⟩;rcases h4 with⟨I,G⟩|⟨g,cur,ty,fr,I,G,V,Q,Z⟩
  ·grind
  ·exact Or.inr ⟨g,cur,ty,fr,by rw[hρ (by simp)];exact I,by rw[s.hp];exact G,V,λ h=>Q (s.own g (Array.getElem?_eq_some_iff.1 G).1 h),λ i j d hd=>(Z i j d hd).wP s⟩
 | lp st B =>
  obtain⟨g,tmps,dfs,h1,h2,h3,h4⟩:=h;exact⟨g,tmps,dfs,by rw[hρ (by simp)];exact h1,by rw[s.hp];exact h2,h3,λ i=>(h4 i).wP s⟩
 | map kt l =>
  obtain⟨g,es,clock,h1,h2,h3,a1,h4⟩:=h;refine⟨g,es,clock,by rw[hρ (by simp)];exact h1,by rw[s.hp];exact h2,h3,a1,λ i p hp=>?_⟩;obtain⟨I,G,e,V,Q,Z⟩:=h4 i p hp;exact⟨I,G,e,V,Q.wP s,Z.wP s⟩
theorem jO.wP {c c':Ctx}(s:SK c c') (k:jO c):jO c':=λ g o hg=>by
 obtain⟨h1,h2,h3⟩:=k g o hg;exact⟨λ i v hi=>by rw[s.hp];exact h1 i v hi,λ ho=>h2 (s.own g h3 ho),by rw[s.hp];exact h3⟩
theorem iu.wP {c c':Ctx}(s:SK c c') (hl:c'.X.lo=c.X.lo) (hd:c'.X.dfs=c.X.dfs){ds:List Deferred}(k:iu c ds):iu c' ds:=by
 refine⟨⟨λ d G=>?_,k.marks.nd⟩,by rw[hd];exact k.rest⟩;obtain⟨j,e,h0,h1,h2⟩:=k.marks.all d G;exact⟨j,e,by rw[hl];exact h0,by rw[s.hp];exact h1,λ ho=>h2 (s.own j (Array.getElem?_eq_some_iff.1 h1).1 ho)⟩
def XT.plus (X:XT) (g:Nat):XT:=⟨λ x=>X.p x\/x=g,X.lo,X.dfs⟩
structure AL (P:Program) where
 op:AOp
 obj:Obj
 slot:Slot
 val:Nat->Value
 dv:Nat->D
 cs:List (Nat×IntKind×Int)
 hop:∀(K:HKq) (e:LEnv) (h:Heap),(∀q∈cs,e.get q.1=.int q.2.1 q.2.2)->vcOp P op K e h->∀n,qE h n->K (dv n) (aF h n slot)
 hslot:∀(c:Ctx) (n g:Nat),c.ρ n=some g->c.hp[g]?=some obj->dk c n slot
 hrel:∀(c:Ctx) (n g:Nat),c.h n=slot->c.ρ n=some g->c.hp[g]?=some obj->aB c (dv n) (val g)
def LU (P:Program) (k:AL P) (o:Oper):Prop:=(∀c,o.op≠.defer c)/\∀(a:Act) (w:World),(∀q∈k.cs,a.tmps.getD q.1 Go.undef=.int q.2.1 q.2.2)->(execOp a.eval o).run P w=.ok (.value (k.val w.heap.size)) (w.alloc k.obj)
def UA (P:Program) (kt:KeyT):AL P :=
 ⟨.KL kt,.map #[] 0,.map kt [],λ g=>.map (some g),λ n=>.mp n,[],λ _ _ _ _ h=>h,λ c n g h1 h2=>⟨g, #[],0,h1,h2,rfl,MapKept.stamped_empty 0,λ i p hi=>by simp at hi⟩,λ c n g h1 h2 _=>.mp n g kt [] h1 h2⟩
theorem RH {kt:KeyT}{o:Oper}{t:TypeId}(hop:o.op=.makeMap t none):LU P (UA P kt) o :=
 ⟨λ c hc=>(by rw[hop]at hc;cases hc),λ a w _=>(by simp[execOp,hop,Instr.makeMap,run_newObj,UA])⟩
def Yw (P:Program) (zd:D) (cs:Array Value) (t:TypeId) (h:∀c:Ctx,cs.size=zd.cells.length/\∀(i:Nat) (d:D),zd.cells[i]?=some d->d.one=true/\aB c d (cs.getD i Go.undef)):AL P :=
 ⟨.alloc zd,.cells cs t,.box zd,λ g=>.pointer (some ⟨g,0,none⟩),λ n=>.ptr n 0 0,[],λ _ _ _ _ h=>h,λ c n g h1 h2=>⟨g,cs,t,h1,h2,(h c).1,(h c).2⟩,λ c n g h1 h2 _=>.ptrBox n 0 g zd h1 h2⟩
theorem LG {t:TypeId}{zd:D}(hz:fM P t=some zd):∃z,(P.info? t).bind (·.zero)=some z/\∀c:Ctx,z.cells.size=zd.cells.length/\∀(i:Nat) (d:D),zd.cells[i]?=some d->d.one=true/\aB c d (z.cells.getD i Go.undef):=by
 obtain⟨z,I,G⟩:=hQ hz;refine⟨z,I,λ c=>?_⟩;have h:=dE (jA G c) (gW G);refine⟨by simpa using h.len,λ i x hx=>?_⟩;obtain⟨h1,h2⟩:=h.rel i x hx;grind [aO]
structure acz (P:Program) (nt:Nat) (ops:Array Oper) (items:List AOper) (masks tl:List Nat) (p m s:Nat) (fk:AL P):Prop extends x7 P nt ops items masks tl where
 tord:∀l k i i':Nat,tl[l]?=some i->tl[k]?=some i'->l<k->k≠p->(masks.getD i' 0).testBit i=true
 nd:∀l l' i:Nat,tl[l]?=some i->tl[l']?=some i->l=l'
 fm:tl[p]?=some m
 it:items[m]?=some ⟨some s,fk.op,none⟩
 us:∀(k:Nat) (b:AOper),items[k]?=some b->k≠m->b.dst≠some s
 sn:s<nt
 mko:∃(o:Oper),ops[m]?=some o/\LU P fk o/\o.dst=some s/\o.guard=none
 ntm:∀l i:Nat,tl[l]?=some i->l<p->(masks.getD i 0).testBit m=false
 cok:∀q∈fk.cs,∀(k:Nat) (b:AOper),items[k]?=some b->b.dst=some q.1->k∉tl/\Hk masks tl k=0/\(masks.getD m 0).testBit k=true
variable {ops:Array Oper}{items:List AOper}{masks tl:List Nat}{p m s:Nat}{fk:AL P}
theorem P0.congr {X:XT}{L:(Nat->Option Nat)->Heap->World->Prop}{w₀:World}{K:LEnv->Heap->Prop}{l1 l2:Array Bool}{a:Act}{w:World}{ρ:Nat->Option Nat}{h:Heap}{e:LEnv}{j:Nat}(hs:l2.size=l1.size) (hl:∀k,cO l2 k=cO l1 k)
  (J:P0 P nt ops items masks tl X L w₀ K l1 a w ρ h e j):P0 P nt ops items masks tl X L w₀ K l2 a w ρ h e j :=
 ⟨hs.trans J.size,λ i k hi h1 h2=>by grind [J.dc],J.le,J.hr,J.ws,J.defers,J.tsz,J.jle,J.rest,λ l i hi=>by rw[hl];exact J.prog l i hi,
  λ s=>by
   rcases J.rel s with⟨i,b,h1,h2,h3,h4⟩|h
   ·grind
   ·exact Or.inr h,λ i b h1 h2 h3 h4=>J.val i b h1 h2 (by rw[<- hl];exact h3) h4⟩
def LP (ob:Obj) (c₀:Ctx) (g:Nat) (ρ:Nat->Option Nat) (h:Heap) (w:World):Prop :=
 c₀.le ⟨ρ,c₀.X,h,w.heap⟩/\c₀.hp.size<=g/\w.heap[g]?=some ob/\∀n,(h n).mine->ρ n≠some g
theorem LP.mono {ob:Obj}{c₀:Ctx}{g:Nat}{X:XT}{ρ ρ':Nat->Option Nat}{h h':Heap}{w w':World}(l:LP ob c₀ g ρ h w) (k:Ctx.le ⟨ρ,X,h,w.heap⟩ ⟨ρ',X,h',w'.heap⟩):LP ob c₀ g ρ' h' w':=by
 obtain⟨Z,V,Q,I⟩:=l;have G:=(Array.getElem?_eq_some_iff.1 Q).1;refine⟨Z.trans (k.reX c₀.X c₀.X rfl),V,(k.keep g G I).trans Q,λ n hm hρ=>?_⟩;obtain⟨m,h1,h2⟩:=k.born n g hm hρ G;exact I m h1 h2
def fcl (listed:Array Bool) (m:Nat):Array Bool:=listed.setIfInBounds m false
theorem N8 (listed:Array Bool) (m:Nat):(fcl listed m).size=listed.size:=by simp[fcl]
theorem QP {listed:Array Bool}{m:Nat}(hm:m<listed.size) (k:Nat):cO (fcl listed m) k=if k=m then false else cO listed k:=by
 unfold cO fcl;by_cases h:k=m
 ·subst h;simp[Array.getD,hm]
 ·have h':m≠k:=λ e=>h e.symm
  rw[if_neg h];by_cases G:k<listed.size
  ·simp[Array.getD,G,h']
  ·simp[Array.getD,G]
inductive JF (P:Program) (nt:Nat) (ops:Array Oper) (items:List AOper) (masks tl:List Nat) (p m s:Nat) (fk:AL P) (c₀:Ctx) (w₀:World) (K:LEnv->Heap->Prop) (listed:Array Bool) (a:Act) (w:World):Prop
 | A (ρ:Nat->Option Nat) (h:Heap) (e:LEnv) (j:Nat) (hJ:P0 P nt ops items masks tl c₀.X (λ ρ h w=>c₀.le ⟨ρ,c₀.X,h,w.heap⟩) w₀ K listed a w ρ h e j) (he:j<=p->e.get s=.undef/\∀q∈fk.cs,e.get q.1=.int q.2.1 q.2.2)
 | B (g:Nat) (ρ:Nat->Option Nat) (h:Heap) (e:LEnv) (j:Nat) (hjp:j<p) (hm:cO listed m=true) (hanc:∀k,(masks.getD m 0).testBit k=true->cO listed k=true) (hJ:P0 P nt ops items masks tl (c₀.X.plus g) (LP fk.obj c₀ g) w₀ K (fcl listed m) a w ρ h e j)
   (he:e.get s=.undef/\∀q∈fk.cs,e.get q.1=.int q.2.1 q.2.2) (ht:a.tmps.getD s Go.undef=fk.val g)
theorem JF.size {c₀:Ctx}{w₀:World}{K:LEnv->Heap->Prop}{listed:Array Bool}{a:Act}{w:World}(hJ:JF P nt ops items masks tl p m s fk c₀ w₀ K listed a w):listed.size=ops.size:=by
 cases hJ with
 | A ρ h e j hJ he=>exact hJ.size
 | B g ρ h e j hjp hm hanc hJ he ht=>rw[<- hJ.size,N8]
theorem JF.dc (S:acz P nt ops items masks tl p m s fk){c₀:Ctx}{w₀:World}{K:LEnv->Heap->Prop}{listed:Array Bool}{a:Act}{w:World}(hJ:JF P nt ops items masks tl p m s fk c₀ w₀ K listed a w) :
  ∀i k,i<ops.size->cO listed i=true->(masks.getD i 0).testBit k=true->cO listed k=true:=by
 cases hJ with
 | A ρ h e j hJ he=>exact hJ.dc
 | B g ρ h e j hjp hm hanc hJ he ht =>
  have I:m<listed.size:=by
   have:=S.tlt m (ak S.fm);have hs:=hJ.size;grind [N8]
  intro i k hi h1 h2;by_cases G:i=m
  ·subst G;exact hanc k h2
  ·have:=hJ.dc i k hi (by grind [QP]) h2;grind [QP]
def TD (ops:Array Oper) (items:List AOper) (masks tl:List Nat):Bool :=
 (ops.toList.zipIdx.all λ p=>(p.1.after.toList.all λ e=> !Region.binds .any e||decide (e.on<p.2))&&(masks.getD p.2 0 == E2 masks p.1.after.toList)) &&
 tl.all (λ i=>decide (i<ops.size)) &&
 ((List.range ops.size).all λ k=>tl.contains k||tl.zipIdx.all λ p=>(masks.getD k 0).testBit p.1 == decide (p.2<Hk masks tl k)) &&
 (items.zipIdx.all λ p=>items.zipIdx.all λ q=>Gl masks tl p.2 q.2 p.1 q.1) &&
 (tl.zipIdx.all λ p=>(A3 items masks tl (p.2+1) p.1).all λ b=>b.guard.isNone&&b.dst.isSome)
theorem TC (hi:sItems P nt ops tl true ops.toList 0=some items) (hc:TD ops items masks tl=true):x7 P nt ops items masks tl:=by
 obtain⟨Z,Q⟩:=wQ hi;simp only[TD,Bool.and_eq_true,List.all_eq_true]at hc;obtain⟨⟨⟨⟨V,c2⟩,c4⟩,c5⟩,c6⟩:=hc;have pair:∀(i k:Nat) (a b:AOper),items[i]?=some a->items[k]?=some b->Gl masks tl i k a b=true:=λ i k a b ha hb=>c5 (a,i) (mem_zipIdx ha) (b,k) (mem_zipIdx hb)
 refine⟨by simpa using Z,λ i o a ho ha hn=>?_,λ i o ho hm=>?_,λ i o ho ed he hb=>?_,λ i o ho k G=>?_,λ i hi=>by simpa using c2 i hi,λ k l i G hn hl=>?_,λ i k a b ha hb hn s hs=>?_,λ i k a b ha hb hm hn s hs hr=>?_,λ l i hl b hb=>?_⟩
 ·have:=Q i o (by simpa using ho);grind [xq]
 ·have:=Q i o (by simpa using ho);grind
 ·have:=(V (o,i) (mem_zipIdx (by simpa using ho))).1 ed he;simpa[hb] using this
 ·have:=(V (o,i) (mem_zipIdx (by simpa using ho))).2;have I:masks.getD i 0=E2 masks o.after.toList:=by simpa using this
  rw[I]at G;rcases Bc _ _ G with h|h
  ·simp at h
  ·exact h
 ·have:=c4 k (by simpa using G);simp only[Bool.or_eq_true,List.all_eq_true]at this;have:=(this.resolve_left (by simpa using hn)) (i,l) (mem_zipIdx hl);grind
 ·grind [Gl]
 ·grind [Gl]
 ·have:=c6 (i,l) (mem_zipIdx hl) b hb;grind [Option.isNone_iff_eq_none]
def argRegs:Arg->List Nat
 | .t r=>[r]
 | .c _=>[]
def zP (x:Arg) (k:IntKind) (n:Int):List (Nat×IntKind×Int):=(argRegs x).map λ r=>(r,k,n)
theorem LK {x:Arg}{k:IntKind}{n:Int}{e:LEnv}(hc:∀d,x=.c d->d=.int k n) (h:∀q,q∈zP x k n->e.get q.1=.int q.2.1 q.2.2):x.get e=.int k n:=by
 cases x with
 | t r=>exact h (r,k,n) (by simp[zP,argRegs])
 | c d=>exact hc d rfl
theorem Oy {x:Operand}{y:Arg}{k:IntKind}{n:Int}(hx:cArg x=some y){a:Act}(ht:∀q,q∈zP y k n->a.tmps.getD q.1 Go.undef=.int q.2.1 q.2.2) (hc:∀d,y=.c d->d=.int k n):a.eval x=.int k n:=by
 cases x with
 | tmp i=>simp[cArg]at hx;subst hx;exact ht (i,k,n) (by simp[zP,argRegs])
 | const v =>
  simp only[cArg]at hx
  cases G:D.ofV v with
  | none=>simp[G]at hx
  | some d =>
   simp[G]at hx;subst hx;have h1:=hc d rfl;subst h1;have:=jA G ⟨λ _=>none,⟨λ _=>False,0,[]⟩,λ _=>.free, #[]⟩;exact fA this
 | func f=>grind [cArg]
 | global g =>
  grind [cArg,Option.map_eq_some_iff]
def oH (z:Array Value) (n:Nat):Array Value:=(Array.range n).map (λ k=>z[k % z.size]!)
def abN (P:Program) (esz bytes:Nat) (zd:D) (x y:Arg) (elem:TypeId) (z:Array Value) (kl kc:IntKind) (L C:Int) (hsz:zd.cells.length=esz) (hpos:0<esz)
  (hz:∀c:Ctx,z.size=zd.cells.length/\∀(i:Nat) (d:D),zd.cells[i]?=some d->d.one=true/\aB c d (z.getD i Go.undef)) (h0:0<=L) (h1:L<=C) (h2:C<=9223372036854775807)
  (hx:∀d,x=.c d->d=.int kl L) (hy:∀d,y=.c d->d=.int kc C):AL P where
 op:=.mk esz bytes zd x y
 obj:=.cells (oH z (C.toNat*esz)) elem
 slot:=.arr esz (List.replicate L.toNat zd)
 val g:=.slice (some ⟨g,0,none⟩) L.toNat C.toNat
 dv n:=.ms n 0 L.toNat
 cs:=zP x kl L++zP y kc C
 hop:=by
  intro K e h hpre hv n t;have ex:=LK (e:=e) hx λ q hq=>hpre q (List.mem_append_left _ hq)
  have ey:=LK (e:=e) hy λ q hq=>hpre q (List.mem_append_right _ hq)
  simp only[vcOp,ex,ey,vint]at hv;exact hv.2.2.2.2 n t
 hslot:=by
  intro c n g hρ hg;obtain⟨z1,z2⟩:=hz c;have hle2:L.toNat*esz<=C.toNat*esz:=Nat.mul_le_mul_right _ (by omega)
  have key:∀i j d,aT (List.replicate L.toNat zd) i j=some d->d.one=true/\aB c d ((oH z (C.toNat*esz)).getD (i*esz+j) Go.undef):=by
   intro a b d hd;obtain⟨q1,q2⟩:=iJ hd;have hb:b<esz:=by rw[<- hsz];exact(ar.1 q2).1
   obtain⟨p1,p2⟩:=z2 b d q2;refine⟨p1,?_⟩
   have hlt:a*esz+b<C.toNat*esz:=by
    have:(a+1)*esz<=C.toNat*esz:=Nat.mul_le_mul_right _ (by omega);rw[Nat.add_mul]at this;omega
   unfold oH;rw[Jm z (by omega) _ _ hlt];have:(a*esz+b) % z.size=b:=by rw[z1,hsz,Nat.mul_comm,Nat.mul_add_mod,Nat.mod_eq_of_lt hb]
   rw[this];exact p2
  exact⟨hpos,λ e he=>by rw[List.eq_of_mem_replicate he];exact hsz,λ i j d hd=>(key i j d hd).1,Or.inr ⟨g,_,elem,hρ,hg,by simp[oH];omega,λ i j d hd=>(key i j d hd).2⟩⟩
 hrel:=by
  intro c n g hh hρ hg;have:=aB.ms (c:=c) n 0 L.toNat g esz C.toNat (List.replicate L.toNat zd) _ elem (0,0) (by rw[hh];rfl) hρ (by simp) hg (by simp[oH]) (by omega) (by unfold maxLen;omega)
  rwa [Nat.zero_mul]at this
theorem Uh {esz bytes:Nat}{zd:D}{x' y':Arg}{elem t:TypeId}{z:Value}{kl kc:IntKind}{L C:Int}{hsz:zd.cells.length=esz}{hpos:0<esz}
  {hz:∀c:Ctx,z.cells.size=zd.cells.length/\∀(i:Nat) (d:D),zd.cells[i]?=some d->d.one=true/\aB c d (z.cells.getD i Go.undef)}{h0:0<=L}{h1:L<=C}{h2:C<=9223372036854775807}
  {hx:∀d,x'=.c d->d=.int kl L}{hy:∀d,y'=.c d->d=.int kc C}{o:Oper}{x y:Operand}{i:TypeInfo}(ho:o.op=.makeSlice t x y) (hcx:cArg x=some x') (hcy:cArg y=some y')
  (hu:P.underlying t=some (.slice elem)) (hi:P.info? elem=some i) (hie:i.size=esz) (hib:i.bytes=bytes) (hz1:(P.info? elem).bind (·.zero)=some z) (hb:C*bytes<=140737488355328) :
  LU P (abN P esz bytes zd x' y' elem z.cells kl kc L C hsz hpos hz h0 h1 h2 hx hy) o:=by
 refine⟨λ c hc=>(by rw[ho]at hc;cases hc),λ a w Q=>?_⟩;have ex:a.eval x=.int kl L:=Oy hcx (λ q hq=>Q q (List.mem_append_left _ hq)) hx;have ey:a.eval y=.int kc C:=Oy hcy (λ q hq=>Q q (List.mem_append_right _ hq)) hy;subst hie hib;have a7:z.cells.size=i.size:=by rw[(hz ⟨λ _=>none,⟨λ _=>False,0,[]⟩,λ _=>.free, #[]⟩).1,hsz]
 have wl:IntKind.i64.wrap L=L:=by grind [IntKind.wrap,IntKind.bits]
 have wm:IntKind.i64.wrap C=C:=by grind [IntKind.wrap,IntKind.bits]
 have a2:¬(C<0):=by omega
 have a1:¬((i.bytes:Int)*C>281474976710656):=by rw[Int.mul_comm];omega
 have Z:¬(L<0):=by omega
 have V:¬(L>C):=by omega
 have G:¬(C.toNat*i.bytes>140737488355328):=by
  grind
 have I:(P.info? elem).map (·.size)=some i.size:=by simp[hi]
 show(execOp a.eval o).run P w=.ok (.value (.slice (some ⟨w.heap.size,0,none⟩) L.toNat C.toNat)) (w.alloc (.cells (oH z.cells (C.toNat*i.size)) elem))
 by_cases h:C.toNat*i.size=0
 ·have a6:oH z.cells (C.toNat*i.size) = #[]:=by grind [oH]
  rw[a6];simp[execOp,ho,ex,ey,Instr.makeSlice,run_underlying hu,asInt,asIntOf,run_typeInfo hi,wl,wm,a2,a1,Z,V,askRoom,G,run_sizeOf I,h,cA,Array.range_zero']
 ·simp[execOp,ho,ex,ey,Instr.makeSlice,run_underlying hu,asInt,asIntOf,run_typeInfo hi,wl,wm,a2,a1,Z,V,askRoom,G,run_sizeOf I,h,bX hz1,cA,oH]
def sCode1 (items:List AOper) (masks tl:List Nat):List Nat->ACode
 | []=>.dreg [] [] []
 | i::r=>.seq (.dreg [] (match items[i]? with|some a=>[a]|none=>[⟨none,.dead,none⟩]) (A3 items masks tl 1 i)) (sCode items masks tl r 1)
theorem Nv {l:List Nat}{Q:LPost}{e:LEnv}{h:Heap}(hv:vcC P (sCode1 items masks tl l) Q e h):sRest P items masks tl l 0 (Q .normal) e h:=by
 cases l with
 | nil=>exact hv
 | cons i r =>
  simp only[sCode1,vcC,vcVals]at hv;simp only[sRest];have hv:=AP hv
  cases hi:items[i]? with
  | none=>simp only[hi,fx,gC,vcOp]at hv
  | some a =>
   simp only[hi,fx]at hv ⊢;exact B5 (λ e h G=>⟨G.1,A4 r 1 G.2⟩) hv
end Go.Am
namespace Go.Am
open Go
variable [ca]
variable {P:Program}{nt:Nat}
variable {ops:Array Oper}{items:List AOper}{masks tl:List Nat}
def XT.M7 (X:XT) (wt:Nat->Option Nat):XT:=⟨λ x=>X.p x\/∃k,wt k=some x,X.lo,X.dfs⟩
theorem XT.Nc {X:XT}{wt:Nat->Option Nat}(h:∀k,wt k=none):X.M7 wt=X:=by
 cases X with
 | mk p lo dfs =>
  have:(λ x=>p x\/∃k,wt k=some x)=p:=by
   grind
  simp only[XT.M7,this]
structure Fl (P:Program) where
 p:Nat
 m:Nat
 s:Nat
 fk:AL P
structure aaA (P:Program) (nt:Nat) (ops:Array Oper) (items:List AOper) (masks tl:List Nat) (f:Fl P):Prop where
 fm:tl[f.p]?=some f.m
 it:items[f.m]?=some ⟨some f.s,f.fk.op,none⟩
 us:∀(k:Nat) (b:AOper),items[k]?=some b->k≠f.m->b.dst≠some f.s
 sn:f.s<nt
 mko:∃(o:Oper),ops[f.m]?=some o/\LU P f.fk o/\o.dst=some f.s/\o.guard=none
 ntm:∀l i:Nat,tl[l]?=some i->l<f.p->(masks.getD i 0).testBit f.m=false
 cok:∀q∈f.fk.cs,∀(k:Nat) (b:AOper),items[k]?=some b->b.dst=some q.1->k∉tl/\Hk masks tl k=0/\(masks.getD f.m 0).testBit k=true
structure DS (P:Program) (nt:Nat) (ops:Array Oper) (items:List AOper) (masks tl:List Nat) (fs:List (Fl P)):Prop extends x7 P nt ops items masks tl where
 tord:∀l k i i':Nat,tl[l]?=some i->tl[k]?=some i'->l<k->(∀f∈fs,k≠f.p)->(masks.getD i' 0).testBit i=true
 nd:∀l l' i:Nat,tl[l]?=some i->tl[l']?=some i->l=l'
 fl:∀f∈fs,aaA P nt ops items masks tl f
 ind:∀f f',f∈fs->f'∈fs->f.p≠f'.p->(masks.getD f.m 0).testBit f'.m=false
 same:∀f f',f∈fs->f'∈fs->f.p=f'.p->f=f'
theorem DS.Ty {fs:List (Fl P)}(S:DS P nt ops items masks tl fs){f f':Fl P}(h:f∈fs) (h':f'∈fs) (e:f.m=f'.m):f=f' :=
 S.same f f' h h' (S.nd f.p f'.p f.m (S.fl f h).fm (by rw[e];exact(S.fl f' h').fm))
def LW (fs:List (Fl P)) (c₀:Ctx) (wt:Nat->Option Nat) (ρ:Nat->Option Nat) (h:Heap) (w:World):Prop :=
 c₀.le ⟨ρ,c₀.X,h,w.heap⟩/\∀k g,wt k=some g->c₀.hp.size<=g/\(∃f,f∈fs/\f.m=k/\w.heap[g]?=some f.fk.obj)/\∀n,(h n).mine->ρ n≠some g
theorem LW.mono {fs:List (Fl P)}{c₀:Ctx}{wt:Nat->Option Nat}{X:XT}{ρ ρ':Nat->Option Nat}{h h':Heap}{w w':World}(l:LW fs c₀ wt ρ h w) (k:Ctx.le ⟨ρ,X,h,w.heap⟩ ⟨ρ',X,h',w'.heap⟩):LW fs c₀ wt ρ' h' w':=by
 refine⟨l.1.trans (k.reX c₀.X c₀.X rfl),λ q g Z=>?_⟩;obtain⟨V,⟨f,f1,f2,Q⟩,I⟩:=l.2 q g Z;have G:=(Array.getElem?_eq_some_iff.1 Q).1;refine⟨V,⟨f,f1,f2,(k.keep g G I).trans Q⟩,λ n hm hρ=>?_⟩;obtain⟨m,h1,h2⟩:=k.born n g hm hρ G;exact I m h1 h2
def JM (listed:Array Bool) (wt:Nat->Option Nat):Array Bool:=(Array.range listed.size).map λ k=>cO listed k&&(wt k).isNone
theorem gx {listed:Array Bool}{wt:Nat->Option Nat}:(JM listed wt).size=listed.size:=by simp[JM]
theorem dX {listed:Array Bool}{wt:Nat->Option Nat}{k:Nat}(h:wt k=none):cO (JM listed wt) k=cO listed k:=by
 by_cases G:k<listed.size
 ·simp[JM,cO,Array.getD,G,h]
 grind [JM,cO]
theorem sy {listed:Array Bool}{wt:Nat->Option Nat}{k g:Nat}(h:wt k=some g) (hk:k<listed.size):cO (JM listed wt) k=false:=by
 simp[JM,cO,Array.getD,hk,h]
theorem Z1 {listed:Array Bool}{wt:Nat->Option Nat}{k:Nat}(hk:k<listed.size) (h:cO (JM listed wt) k=true):cO listed k=true:=by
 cases hw:wt k with
 | none=>rwa [dX hw]at h
 | some g=>grind [sy]
theorem Zw {fs:List (Fl P)}(S:DS P nt ops items masks tl fs){c₀:Ctx}(hX0:∀g,c₀.X g->g<c₀.hp.size){w₀:World}{K:LEnv->Heap->Prop}{l1 l2:Array Bool}{a:Act}{w:World}{wt:Nat->Option Nat}{g:Nat}{ρ:Nat->Option Nat}{h:Heap}{e:LEnv}{f:Fl P}(hf:f∈fs)
  (hwt:wt f.m=some g) (winj:∀k k' g,wt k=some g->wt k'=some g->k=k') (hs:l2.size=l1.size) (hls:∀k,cO l2 k=if k=f.m then true else cO l1 k) (hanc:∀k,(masks.getD f.m 0).testBit k=true->cO l2 k=true) (hl1:cO l1 f.m=false)
  (hJ:P0 P nt ops items masks tl (c₀.X.M7 wt) (LW fs c₀ wt) w₀ K l1 a w ρ h e f.p) (ht:a.tmps.getD f.s Go.undef=f.fk.val g) (hpre:∀q∈f.fk.cs,e.get q.1=.int q.2.1 q.2.2) :
  ∃ρ' h' e',P0 P nt ops items masks tl (c₀.X.M7 (aF wt f.m none)) (LW fs c₀ (aF wt f.m none)) w₀ K l2 a w ρ' h' e' (f.p+1) /\
   ∀s,(∀k b,items[k]?=some b->b.dst=some s->k≠f.m/\¬(k∉tl/\Hk masks tl k≠0))->e'.get s=e.get s:=by
 have F:=S.fl f hf;obtain⟨hsz,j4,⟨Q,lw⟩,hr,g0,e5,c7,hj,I,g3,hrel,c5⟩:=hJ;obtain⟨j0,⟨f',f1,f2,l3⟩,l4⟩:=lw f.m g hwt;cases S.Ty f1 hf f2;have h7:f.m<ops.size:=S.tlt f.m (ak F.fm);have g5:f.p<tl.length:=(ar.1 F.fm).1;have g6:tl[f.p]=f.m:=(ar.1 F.fm).2;rw[List.drop_eq_getElem_cons g5,g6]at I;simp only[sRest,F.it,gC]at I;have I:=f.fk.hop _ _ _ hpre I;obtain⟨n,top⟩:=ft hr;have top:qE h n:=top;have hn:=top.free;obtain⟨g8,g7⟩:=I n top
 let c1:Ctx:=⟨ρ,c₀.X.M7 wt,h,w.heap⟩
 let c2:Ctx:=⟨aF ρ n (some g),c₀.X.M7 (aF wt f.m none),aF h n f.fk.slot,w.heap⟩
 have h9:=(Array.getElem?_eq_some_iff.1 l3).1
 have e9:∀k x,aF wt f.m none k=some x->wt k=some x/\k≠f.m:=by
  grind [av,an]
 have a7:∀b,c₀.X.M7 (aF wt f.m none) b->c₀.X.M7 wt b:=by
  rintro b (hx|⟨k,G⟩)
  ·exact Or.inl hx
  ·exact Or.inr ⟨k,(e9 k b G).1⟩
 have sc:SK c1 c2:=by
  refine⟨rfl,λ k G=>?_,λ k G=>?_,λ b hb ho=>?_⟩
  ·grind [aF]
  ·grind [aF]
  ·rcases ho with hx|⟨k,h1,h2⟩
   ·exact Or.inl (a7 b hx)
   ·by_cases G:k=n
    ·subst G;simp[c2,aF]at h2;exact Or.inl (Or.inr ⟨f.m,by rw[hwt,h2]⟩)
    ·simp[c2,aF,G]at h1 h2;exact Or.inr ⟨k,h1,h2⟩
 have e3:c₀.le ⟨aF ρ n (some g),c₀.X,aF h n f.fk.slot,w.heap⟩:=by
  have fr:∀k,c₀.h k≠.free->k≠n:=by
   rintro k G rfl;have:=Q.tr k;simp only at this;rw[hn]at this;cases hx:c₀.h k<;>rw[hx]at this G<;>first|exact G rfl|cases this
  refine⟨Q.size,rfl,Q.keep,Q.shape,Q.loop,λ k G=>?_,λ k=>?_,λ k b h1 h2 hb=>?_⟩
  ·show aF ρ n (some g) k=_
   rw[an _ _ (fr k G)];exact Q.names k G
  ·show Trans _ (aF h n _ k)
   by_cases G:k=n
   ·subst G
    have:c₀.h k=.free:=by
     grind
    rw[this];exact .free _
   ·rw[an _ _ G];exact Q.tr k
  ·by_cases G:k=n
   ·grind [av]
   ·have e8:(aF h n f.fk.slot k).mine:=h1;have e7:aF ρ n (some g) k=some b:=h2;rw[an _ _ G]at e8 e7;exact Q.born k b e8 e7 hb
 have h6:jO c2:=hr.glob.wP sc
 have g2:aA c2:=by
  refine⟨λ k=>?_,λ k1 k2 b m1 m2 r1 r2=>?_,λ k b hm hb hX=>?_,λ b hX=>?_,?_,h6,hr.lo⟩
  ·show dk c2 k (aF h n f.fk.slot k)
   by_cases G:k=n
   ·subst G;rw[av];exact f.fk.hslot c2 k g (by simp[c2,aF]) l3
   ·rw[an _ _ G];exact dk.wP sc (λ _=>by simp[c1,c2,aF,G]) (hr.slot k)
  ·have c4:(aF h n f.fk.slot k1).mine:=m1;have c3:(aF h n f.fk.slot k2).mine:=m2;have b7:aF ρ n (some g) k1=some b:=r1;have b5:aF ρ n (some g) k2=some b:=r2;by_cases e1:k1=n
   ·grind [av,an]
   ·by_cases e2:k2=n
    ·grind [av,an]
    ·rw[an _ _ e1]at c4 b7;rw[an _ _ e2]at c3 b5;exact hr.inj k1 k2 b c4 c3 b7 b5
  ·have e0:(aF h n f.fk.slot k).mine:=hm;have V:aF ρ n (some g) k=some b:=hb;have e6:c₀.X.M7 (aF wt f.m none) b:=hX;by_cases G:k=n
   ·subst G;rw[av]at V;cases V;rcases e6 with hx|⟨k',j2⟩
    ·grind
    grind
   ·rw[an _ _ G]at e0 V;exact hr.apart k b e0 V (a7 b e6)
  ·exact hr.xlt b (a7 b hX)
  ·obtain⟨N,hN⟩:=hr.fin;refine⟨N+n+1,λ k G=>?_⟩;grind [an]
 obtain⟨T,t1,t2,t3⟩:=Ie S.tox7 g7;have c0:f.m∈tl:=ak F.fm
 have a1:∀s',s'≠f.s->(e.put (some f.s) (f.fk.dv n)).get s'=e.get s':=by
  intro s' hs;rw[LEnv.bO];simp[Env.put,aF,hs]
 refine⟨aF ρ n (some g),aF h n f.fk.slot,T,⟨hs.trans hsz,λ i k hi h1 h2=>?_,⟨e3,λ k x G=>?_⟩,g2,g0,iu.wP sc rfl rfl e5,c7,by omega,t1,λ l i hl=>?_,λ s'=>?_,λ k b hb G c6 j1=>?_⟩,λ s' g1=>?_⟩
 ·grind
 ·grind [av,an]
 ·by_cases h5:i=f.m
  ·subst h5;have:=S.nd l f.p f.m hl F.fm;grind
  grind
 ·by_cases hex:∃b,b∈jV items masks tl (f.p+1)/\b.dst=some s'
  ·obtain⟨b,hb,a6⟩:=hex;obtain⟨k,h1,h2,h3⟩:=dD hb;left;refine⟨k,b,h1,h2,?_,a6⟩;have b3:k<ops.size:=by rw[<- S.len];grind
   have a2:=(S.Gj k f.p f.m b3 h2 F.fm).2 (by omega);grind
  ·rw[t2 s' (λ b hb a6=>hex ⟨b,hb,a6⟩)];by_cases hs:s'=f.s
   ·subst hs;right;rw[LEnv.bO,ht];have:Env.put e.get (some f.s) (f.fk.dv n) f.s=f.fk.dv n:=by simp[Env.put,aF]
    rw[this];exact f.fk.hrel _ n g (by simp[aF]) (by simp[aF]) l3
   grind [aB.wP]
 ·have e4:k≠f.m:=by rintro rfl;exact G c0
  rw[hls,if_neg e4]at c6;rcases Nat.lt_or_ge (Hk masks tl k) (f.p+1) with h8|j3
  case inr =>
   grind [Cj]
  have b3:k<ops.size:=by rw[<- S.len];grind
  have v0:=c5 k b hb G c6 (by omega)
  have b2:(masks.getD f.m 0).testBit k≠true:=by
   grind
  have g4:¬(masks.getD k 0).testBit f.m=true:=by
   intro a2;have:=(S.Gj k f.p f.m b3 G F.fm).1 a2;omega
  have b4:cK P b (e.put (some f.s) (f.fk.dv n)) (aF h n f.fk.slot):=by
   by_cases hf:b.op.kU=true
   ·refine cK.congr (e:=e) (λ r b1=>?_) (λ s' hs=>?_) (cK.free hf v0)
    ·rw[a1 r];rintro rfl;rcases S.rdt f.m k _ b F.it hb c0 G f.s rfl b1 with Z|Z
     ·exact g4 Z
     ·exact b2 Z
    ·exact a1 s' (by rintro rfl;exact F.us k b hb e4 hs)
   ·have Z:b∈A3 items masks tl (f.p+1) f.m:=by
     grind [A3,sRevI]
    have c8:∀b',b'∈A3 items masks tl (f.p+1) f.m->b'.guard=none/\b'.op.isVal=true:=by
     intro b' V;refine⟨(S.rev f.p f.m F.fm b' V).1,?_⟩;simp only[A3,sRevI,List.mem_filterMap,List.mem_filter,List.mem_range,Bool.and_eq_true,decide_eq_true_eq,Bool.not_eq_true']at V;obtain⟨k2,⟨q1,⟨⟨q2,q3⟩,q4⟩,q5⟩,q6⟩:=V;have q7:k2<ops.size:=by rw[<- S.len];exact q1
     have:=(S.itv k2 ops[k2] b' (by simp[q7]) q6 (by simpa using q2)).op;grind [mg]
    exact yH c8 g8 b Z (S.rev f.p f.m F.fm b Z).2
  refine cK.congr (λ r b1=>(t2 r λ x hx a8=>?_).symm) (λ s' hs=>t2 s' λ x hx a8=>?_) b4
  ·obtain⟨m',m1,m2,m3⟩:=dD hx;have:=((S.rdv m' k x b m1 hb m2 r a8).2 b1).2.2 G;omega
  ·obtain⟨m',m1,m2,m3⟩:=dD hx;have a2:k≠m':=by rintro rfl;omega
   exact(S.rdv k m' b x hb m1 G s' hs).1 a2 a8
 ·rw[t2 s' λ b hb a6=>?_]
  ·refine a1 s' ?_;rintro rfl;exact(g1 f.m _ F.it rfl).1 rfl
  grind [dD]
inductive JG (P:Program) (nt:Nat) (ops:Array Oper) (items:List AOper) (masks tl:List Nat) (fs:List (Fl P)) (c₀:Ctx) (w₀:World) (K:LEnv->Heap->Prop) (d:Nat) (listed:Array Bool) (a:Act) (w:World):Prop
 | mk (wt:Nat->Option Nat) (ρ:Nat->Option Nat) (h:Heap) (e:LEnv) (j:Nat)
   (hw:∀k g,wt k=some g->∃f,f∈fs/\f.m=k/\j<f.p+d/\cO listed k=true/\(∀x,(masks.getD k 0).testBit x=true->cO listed x=true)/\a.tmps.getD f.s Go.undef=f.fk.val g)
   (wi:∀k k' g,wt k=some g->wt k'=some g->k=k')
   (he:∀f∈fs,j<=f.p->e.get f.s=.undef/\∀q∈f.fk.cs,e.get q.1=.int q.2.1 q.2.2)
   (hJ:P0 P nt ops items masks tl (c₀.X.M7 wt) (LW fs c₀ wt) w₀ K (JM listed wt) a w ρ h e j)
variable {fs:List (Fl P)}
theorem JG.size {c₀:Ctx}{w₀:World}{K:LEnv->Heap->Prop}{d:Nat}{listed:Array Bool}{a:Act}{w:World}(hJ:JG P nt ops items masks tl fs c₀ w₀ K d listed a w):listed.size=ops.size:=by
 cases hJ with
 | mk wt ρ h e j hw wi he hJ=>rw[<- hJ.size,gx]
theorem JG.dc (S:DS P nt ops items masks tl fs){c₀:Ctx}{w₀:World}{K:LEnv->Heap->Prop}{d:Nat}{listed:Array Bool}{a:Act}{w:World}(hJ:JG P nt ops items masks tl fs c₀ w₀ K d listed a w) :
  ∀i k,i<ops.size->cO listed i=true->(masks.getD i 0).testBit k=true->cO listed k=true:=by
 have hsz:=hJ.size
 cases hJ with
 | mk wt ρ h e j hw wi he hJ =>
  intro i k hi h1 h2
  cases G:wt i with
  | some g =>
   grind
  | none =>
   have I:=Ue S.tox7 i hi k h2;exact Z1 (by omega) (hJ.dc i k hi (by rw[dX G];exact h1) h2)
theorem WM (S:DS P nt ops items masks tl fs){c₀:Ctx}(hX0:∀g,c₀.X g->g<c₀.hp.size){w₀:World}{K:LEnv->Heap->Prop}{listed:Array Bool}{a:Act}{w:World}:∀(N:Nat) (wt:Nat->Option Nat) (ρ:Nat->Option Nat) (h:Heap) (e:LEnv) (j:Nat),tl.length-j<=N ->
  (∀k g,wt k=some g->∃f,f∈fs/\f.m=k/\j<f.p+1/\cO listed k=true/\(∀x,(masks.getD k 0).testBit x=true->cO listed x=true)/\a.tmps.getD f.s Go.undef=f.fk.val g)->(∀k k' g,wt k=some g->wt k'=some g->k=k') ->
  (∀f∈fs,j<=f.p->e.get f.s=.undef/\∀q∈f.fk.cs,e.get q.1=.int q.2.1 q.2.2)->P0 P nt ops items masks tl (c₀.X.M7 wt) (LW fs c₀ wt) w₀ K (JM listed wt) a w ρ h e j->JG P nt ops items masks tl fs c₀ w₀ K 0 listed a w:=by
 intro N
 induction N with
 | zero =>
  intro wt ρ h e j hN hw wi he hJ;refine .mk wt ρ h e j (λ k g I=>?_) wi he hJ;obtain⟨f,f1,f2,f3,f4⟩:=hw k g I;have:=(ar.1 (S.fl f f1).fm).1;omega
 | succ N ih =>
  intro wt ρ h e j hN hw wi he hJ;by_cases hx:∃f g,f∈fs/\wt f.m=some g/\f.p=j
  ·obtain⟨f,g,V,Z,hp⟩:=hx;subst hp;have F:=S.fl f V;obtain⟨f',f1,f2,f3,f4,f5,f6⟩:=hw f.m g Z;cases S.Ty f1 V f2;have hsz:listed.size=ops.size:=by rw[<- hJ.size,gx]
   have b4:f.m<ops.size:=S.tlt f.m (ak F.fm);have b7:f.p<tl.length:=(ar.1 F.fm).1
   have Q:∀k x,aF wt f.m none k=some x->wt k=some x/\k≠f.m:=by
    grind [av,an]
   have b2:∀k,cO (JM listed (aF wt f.m none)) k=if k=f.m then true else cO (JM listed wt) k:=by
    intro k;by_cases I:k=f.m
    ·grind [dX,av]
    ·rw[if_neg I]
     cases a7:wt k with
     | none=>grind [dX,an]
     | some x =>
      grind [sy,cO,gx,aF]
   have hanc:∀k,(masks.getD f.m 0).testBit k=true->cO (JM listed (aF wt f.m none)) k=true:=by
    intro k I
    cases a7:aF wt f.m none k with
    | none=>grind [dX]
    | some x =>
     obtain⟨q1,q2⟩:=Q k x a7;obtain⟨G,g1,g2,_⟩:=hw k x q1;have:=S.ind f G V g1 (by rintro a1;exact q2 (by rw[S.same f G V g1 a1,g2]));grind
   obtain⟨ρ',h',e',b3,a8⟩:=Zw S hX0 V Z wi (by rw[gx,gx]) b2 hanc (sy Z (by omega)) hJ f6 (he f V (Nat.le_refl _)).2;refine ih _ ρ' h' e' (f.p+1) (by omega) (λ k x I=>?_) (λ k k' x h1 h2=>wi k k' x (Q k x h1).1 (Q k' x h2).1) (λ f2 a2 b5=>?_) b3
   ·obtain⟨q1,q2⟩:=Q k x I;obtain⟨G,g1,g2,g3,g4⟩:=hw k x q1;refine⟨G,g1,g2,?_,g4⟩;have:G.p≠f.p:=by rintro a1;exact q2 (by rw[<- g2,S.same G f g1 V a1])
    omega
   ·obtain⟨u1,u2⟩:=he f2 a2 (by omega);have F2:=S.fl f2 a2
    have hne:f2.m≠f.m:=by
     intro b1;have:=S.Ty a2 V b1;subst this;omega
    refine⟨?_,λ q hq=>?_⟩
    ·rw[a8 f2.s λ k b hb a6=>?_]
     ·exact u1
     ·have I:k=f2.m:=Classical.byContradiction λ I=>F2.us k b hb I a6
      exact⟨by rw[I];exact hne,λ hh=>hh.1 (by rw[I];exact ak F2.fm)⟩
    ·rw[a8 q.1 λ k b hb a6=>?_]
     ·exact u2 q hq
     ·obtain⟨z1,z2,z3⟩:=F2.cok q hq k b hb a6;exact⟨by rintro rfl;exact z1 (ak F.fm),λ hh=>hh.2 z2⟩
  ·refine .mk wt ρ h e j (λ k g I=>?_) wi he hJ;grind
theorem Xh (S:DS P nt ops items masks tl fs){c₀:Ctx}{w₀:World}{K:LEnv->Heap->Prop}{listed:Array Bool}{a:Act}{w:World}{Q:Exit->Act->World->Prop}{rd:Option Nat}{wt:Nat->Option Nat}{ρ:Nat->Option Nat}{h:Heap}{e:LEnv}{j:Nat}{f:Fl P}(hf:f∈fs)
  (hw:∀k g,wt k=some g->∃f,f∈fs/\f.m=k/\j<f.p+0/\cO listed k=true/\(∀x,(masks.getD k 0).testBit x=true->cO listed x=true)/\a.tmps.getD f.s Go.undef=f.fk.val g)
  (wi:∀k k' g,wt k=some g->wt k'=some g->k=k')
  (he:∀f∈fs,j<=f.p->e.get f.s=.undef/\∀q∈f.fk.cs,e.get q.1=.int q.2.1 q.2.2)
  (hJ:P0 P nt ops items masks tl (c₀.X.M7 wt) (LW fs c₀ wt) w₀ K (JM listed wt) a w ρ h e j) (R:Rdy ops masks listed f.m) (hj:j<f.p) (hwf:wt f.m=none) :
  wpOpIn (rF rd) 0 P ops Q f.m (JG P nt ops items masks tl fs c₀ w₀ K 0 (listed.setIfInBounds f.m true)) a w:=by
 have F:=S.fl f hf;have b3:listed.size=ops.size:=by rw[<- hJ.size,gx]
 have b1:f.m<listed.size:=by rw[b3];exact R.lt
 obtain⟨o,ho,b5,b7,hg⟩:=F.mko;have e1:=he f hf (Nat.le_of_lt hj)
 have b4:=b5.2 a w (λ q hq=>by
  rcases hJ.rel q.1 with⟨kk,b,hb,c7,e6,e3⟩|h0
  ·have h1:=R.anc kk (F.cok q hq kk b hb e3).2.2
   have:wt kk=none:=by
    cases a6:wt kk with
    | none=>rfl
    | some x =>
     obtain⟨f2,g1,g2,_⟩:=hw kk x a6;exact absurd (ak (S.fl f2 g1).fm) (by rw[g2];exact c7)
   grind [dX]
  grind [fA])
 unfold wpOpIn;simp only[ho];rw[if_pos (by simp[Region.wanted,hg])];refine kF b5.1 b4 ?_;rw[Oper.uponIn_value,b7];obtain⟨hsz,e2,⟨hle,lw⟩,hr,a2,c0,V,e0,a7,a8,hrel,b2⟩:=hJ
 let g:=w.heap.size
 let G:=aF wt f.m (some g)
 have a1:∀k x,G k=some x->(k=f.m/\x=g)\/wt k=some x:=by
  grind [av,an]
 have e5:∀k x,wt k=some x->x<g:=by
  grind
 have e4:∀k x,wt k=some x->G k=some x:=by
  grind [an]
 have c5:(w.alloc f.fk.obj).heap=w.heap.push f.fk.obj:=rfl
 let C:Ctx:=⟨ρ,c₀.X.M7 wt,h,w.heap⟩
 let Cp:Ctx:=⟨ρ,c₀.X.M7 G,h,w.heap⟩
 let C1:Ctx:=⟨ρ,c₀.X.M7 G,h,w.heap.push f.fk.obj⟩
 have sc:SK C Cp:=by
  refine⟨rfl,λ _ _=>rfl,λ _ _=>rfl,λ b hb ho=>?_⟩;rcases ho with hx|hx
  ·rcases hx with hx|⟨k,hk⟩
   ·exact Or.inl (Or.inl hx)
   ·rcases a1 k b hk with⟨_,q⟩|q
    ·grind
    ·exact Or.inl (Or.inr ⟨k,q⟩)
  ·exact Or.inr hx
 obtain⟨c1,_⟩:=grow_step hr f.fk.obj;have I:Cp.le C1:=c1.reX (c₀.X.M7 G) (c₀.X.M7 G) rfl;have mlt:∀k b,(h k).mine->ρ k=some b->b<g:=λ k b hm hb=>jE hr hm hb
 have c4:aA C1:=by
  refine⟨λ k=>?_,hr.inj,λ k b hm hb hX=>?_,λ b hX=>?_,hr.fin,(hr.glob.wP sc).mono I,by have:=hr.lo;simp only at this;show c₀.X.lo<=(w.heap.push _).size;simp;exact Nat.le_succ_of_le this⟩
  ·exact iz I (dk.wP sc (λ _=>rfl) (hr.slot k)) (λ _ _=>rfl) (λ b hm hb=>by
    grind)
  ·have:=mlt k b hm hb;rcases hX with hx|⟨k',c8⟩
   ·exact hr.apart k b hm hb (Or.inl hx)
   grind
  ·show b<(w.heap.push _).size
   simp only[Array.size_push];rcases hX with hx|⟨k',c8⟩
   ·have:=hr.xlt b (Or.inl hx);grind
   grind
 have c6:∀k,cO (JM (listed.setIfInBounds f.m true) G) k=cO (JM listed wt) k:=by
  intro k;by_cases hk:k=f.m
  ·subst hk;rw[sy (g:=g) (by grind [av]) (by simpa using b1),dX hwf,R.un]
  ·cases a6:wt k with
   | none=>grind [dX,an,dW]
   | some x =>
    obtain⟨f2,g1,g2,_⟩:=hw k x a6;have:k<listed.size:=by rw[b3, <- g2];exact S.tlt _ (ak (S.fl f2 g1).fm)
    grind [sy]
 have Z:∀s',s'≠f.s->(a.put (some f.s) (f.fk.val w.heap.size)).tmps.getD s' Go.undef=a.tmps.getD s' Go.undef:=by
  intro s' hs;have c3:f.s≠s':=λ e=>hs e.symm
  simp[Act.put,c3]
 refine .mk G ρ h e j (λ k x hk=>?_) (λ k k' x h1 h2=>?_) he (P0.congr (l1:=JM listed wt) (by rw[gx,gx];simp) c6 ?_)
 ·rcases a1 k x hk with⟨q1,q2⟩|q
  ·subst q1 q2;exact⟨f,hf,rfl,by omega,by rw[dW b1,if_pos rfl],λ x hx=>by rw[dW b1];split;rfl;exact R.anc x hx,by simp[Act.put,V,F.sn,g]⟩
  ·obtain⟨f2,g1,g2,g3,g4,g5,g6⟩:=hw k x q;refine⟨f2,g1,g2,g3,by grind [dW],λ x hx=>by grind [dW],?_⟩;rw[Z]
   ·exact g6
   ·intro c2;refine F.us f2.m _ (S.fl f2 g1).it ?_ (by rw[c2]);grind
 ·grind
 refine⟨hsz,e2,⟨hle.trans (c1.reX c₀.X c₀.X rfl),λ k x hk=>?_⟩,c4,⟨a2.os,a2.tape,a2.output⟩,(iu.wP sc rfl rfl c0).mono I,by simpa[Act.put] using V,e0,a7,a8,λ s'=>?_,b2⟩
 ·rcases a1 k x hk with⟨q1,q2⟩|q
  ·subst q1 q2;exact⟨by have:=hle.size;simpa using this,⟨f,hf,rfl,o9 _ _⟩,λ k hm hb=>by have:=mlt k _ hm hb;omega⟩
  grind
 ·by_cases hs:s'=f.s
  ·subst hs;rw[e1.1];exact Or.inr (.undef _)
  ·rcases hrel s' with h0|h0
   ·exact Or.inl h0
   ·right;rw[Z s' hs];exact(aB.wP sc h0).mono I
theorem X8 (S:DS P nt ops items masks tl fs){c₀:Ctx}(hX0:∀g,c₀.X g->g<c₀.hp.size){w₀:World}{K:LEnv->Heap->Prop}{listed:Array Bool}{a:Act}{w:World}{Q:Exit->Act->World->Prop}{rd:Option Nat}
  (hJ:JG P nt ops items masks tl fs c₀ w₀ K 0 listed a w) {i:Nat}(hi:i∈Region.ready .any ops listed):wpOpIn (rF rd) 0 P ops Q i (JG P nt ops items masks tl fs c₀ w₀ K 0 (listed.setIfInBounds i true)) a w:=by
 have R:=Qt S.tox7 hJ.size (hJ.dc S) hi;have b1:=hJ.size;have c4:i<listed.size:=by rw[b1];exact R.lt
 cases hJ with
 | mk wt ρ h e j hw wi he hJ =>
  have a8:wt i=none:=by
   cases I:wt i with
   | none=>rfl
   | some x =>
    obtain⟨f2,_,_,_,g4,_⟩:=hw i x I;rw[R.un]at g4;cases g4
  have e0:∀k x,wt k=some x->k<listed.size:=by
   intro k x G;obtain⟨f2,g1,g2,_⟩:=hw k x G;rw[b1, <- g2];exact S.tlt _ (ak (S.fl f2 g1).fm)
  by_cases hx:∃f,f∈fs/\f.m=i/\j<f.p
  ·grind [Xh]
  ·
   have tj:∀l,j<l->l<tl.length->∃i',tl[j]?=some i'/\¬cO (JM listed wt) i'=true:=by
    intro l hl b2;have a2:j<tl.length:=by omega
    refine⟨tl[j],by simp[a2],λ hc=>?_⟩;have:=(hJ.prog j tl[j] (by simp[a2])).1 hc;omega
   have wj:∀i',tl[j]?=some i'->wt i'=none:=by
    intro i' Z
    cases I:wt i' with
    | none=>rfl
    | some x =>
     obtain⟨f2,g1,g2,g3,_⟩:=hw i' x I;have:=S.nd j f2.p i' Z (by rw[<- g2];exact(S.fl f2 g1).fm);omega
   have a7:∀l,tl[l]?=some i->j<=l:=by
    intro l hl;rcases Nat.lt_or_ge l j with b2|b4
    ·have:=(hJ.prog l i hl).2 b2;rw[dX a8,R.un]at this;cases this
    ·exact b4
   have c1:∀l,tl[l]?=some i->j<l->∀f∈fs,l≠f.p:=by
    intro l hl a2 f hf c3;subst c3;have:f.m=i:=by have:=(S.fl f hf).fm;grind
    grind
   have b3:∀l,tl[l]?=some i->l=j:=by
    intro l hl;have h1:=a7 l hl;rcases Nat.lt_or_ge j l with a6|b4
    ·exfalso;obtain⟨i',Z,hn⟩:=tj l a6 (ar.1 hl).1;have:=R.anc _ (S.tord j l i' i Z hl a6 (c1 l hl a6));grind [dX]
    ·omega
   have c0:∀k x,wt k=some x->(masks.getD i 0).testBit k≠true:=by
    intro k x G hq;obtain⟨f2,g1,g2,g3,g4,g5,g6⟩:=hw k x G;have F2:=S.fl f2 g1;subst g2;by_cases V:i∈tl
    ·obtain⟨l,hl⟩:=ba V;have:=b3 l hl;rw[F2.ntm l i hl (by omega)]at hq;cases hq
    ·have h1:=(S.Gj i f2.p f2.m R.lt V F2.fm).1 hq;have hp:=(ar.1 F2.fm).1;obtain⟨i',Z,hn⟩:=tj f2.p (by omega) hp;have:=R.anc _ ((S.Gj i j i' R.lt V Z).2 (by omega));grind [dX]
   have RV:Rdy ops masks (JM listed wt) i:=by
    refine⟨R.lt,by rw[dX a8];exact R.un,λ k G=>?_⟩
    cases I:wt k with
    | none=>rw[dX I];exact R.anc k G
    | some x=>exact absurd G (c0 k x I)
   have a1:i<items.length:=by rw[S.len];exact R.lt
   have c8:∀f∈fs,f.m≠i->∀o,ops[i]?=some o->o.dst≠some f.s:=by
    intro f hf hne o ho hq;obtain⟨b,hb⟩:∃b,items[i]?=some b:=⟨items[i]'a1,by simp[a1]⟩;refine(S.fl f hf).us i b hb (λ e=>hne e.symm) ?_;by_cases V:i∈tl
    ·obtain⟨fz,hc⟩:=S.itt i o ho V;rw[hb]at hc;unfold cOper at hc;grind
    ·have:=(S.itv i o b ho hb V).dst;rw[this];exact hq
   refine wpOpIn_mono (λ a' w' hh=>?_) (wpOp_put (OX S.tox7 (λ ρ h w ρ' h' w' l k=>LW.mono l k) hJ RV b3));obtain⟨⟨ρ',h',e',j',b7,e1,_,b5⟩,c7⟩:=hh
   have c2:∀k,cO (JM (listed.setIfInBounds i true) wt) k=cO ((JM listed wt).setIfInBounds i true) k:=by
    intro k;rw[dW (by rw[gx];exact c4)];by_cases G:k=i
    ·grind [dX,dW]
    ·rw[if_neg G]
     cases I:wt k with
     | none=>grind [dX,dW]
     | some x=>grind [sy]
   have c6:=P0.congr (l2:=JM (listed.setIfInBounds i true) wt) (by grind [gx]) c2 b7;refine WM S hX0 _ wt ρ' h' e' j' (Nat.le_refl _) (λ k x G=>?_) wi (λ f hf hp=>?_) c6
   ·obtain⟨f2,g1,g2,g3,g4,g5,g6⟩:=hw k x G;refine⟨f2,g1,g2,by omega,by grind [dW],λ x hx=>by grind [dW],?_⟩;grind
   ·have F:=S.fl f hf
    have hne:f.m≠i:=by
     rintro rfl;have:=(b7.prog f.p f.m F.fm).1 (by grind [dW,gx]);omega
    obtain⟨u1,u2⟩:=he f hf (by omega);refine⟨?_,λ q hq=>?_⟩
    ·rw[b5 f.s λ k b hb G=>F.us k b hb ?_]
     ·exact u1
     ·rintro rfl;rcases G with G|G
      ·exact G.1 (ak F.fm)
      ·exact hne G.1
    ·rw[b5 q.1 λ k b hb G c5=>?_]
     ·exact u2 q hq
     ·obtain⟨z1,z2,z3⟩:=F.cok q hq k b hb c5;grind
theorem TN {id:Nat}(S:DS P nt ops items masks tl fs) (hm:P.follows .mixedOrders=true){Q:LPost}{e:LEnv}{h:Heap}(hes:∀f∈fs,e.get f.s=.undef){T:LEnv}(t1:sRest P items masks tl tl 0 (Q .normal) T h) (t2:∀s,(∀a,a∈jV items masks tl 0->a.dst≠some s)->T.get s=e.get s) (t3:∀a,a∈jV items masks tl 0->cK P a T h)
  (hpre:∀f∈fs,∀q∈f.fk.cs,T.get q.1=.int q.2.1 q.2.2):sC P nt (.region id ops true) (λ x=>up (Q x)) e.get h:=by
 intro rd c w a hh hp hr hs _;subst hh;refine wpIn_region_any hm ?_;have Z:∀i,i<ops.size->cO (Array.replicate ops.size false) i=false:=by intro i hi;unfold cO;simp[Array.getD,hi]
 have a2:∀i b,items[i]?=some b->i<ops.size:=λ i b hb=>by rw[<- S.len];grind
 have a6:(⟨c.ρ,c.X,c.h,w.heap⟩:Ctx)=c:=by rw[<- hp]
 have b5:∀k,cO (JM (Array.replicate ops.size false) λ _=>none) k=cO (Array.replicate ops.size false) k:=λ k=>dX rfl
 refine YN S.tox7 (JJ:=JG P nt ops items masks tl fs c w (Q .normal) 0) (λ _ _ _ hJ=>hJ.size) (λ _ _ _ hJ=>hJ.dc S) (λ listed a' w' i hJ hi=>X8 S hr.xlt hJ hi) (λ listed a' w' hJ a8=>?_) ops.size _ a _ (Nat.le_trans (List.length_filter_le _ _) (by simp)) ?_
 ·cases hJ with
  | mk wt ρ h e' j hw wi he hJ =>
   have b4:j=tl.length:=by
    have hle:=hJ.jle;rcases Nat.lt_or_ge j tl.length with a2|c2
    ·exfalso;have a7:tl[j]?=some tl[j]:=by simp[a2]
     cases I:wt tl[j] with
     | none =>
      have:=(hJ.prog j tl[j] a7).1 (by rw[dX I];exact a8 _ (S.tlt _ (List.getElem_mem a2)));omega
     | some x =>
      obtain⟨f,g1,g2,g3,_⟩:=hw _ x I;have:=S.nd j f.p tl[j] a7 (by rw[<- g2];exact(S.fl f g1).fm);omega
    ·omega
   have b2:∀k,wt k=none:=by
    intro k
    cases I:wt k with
    | none=>rfl
    | some x =>
     obtain⟨f,g1,g2,g3,_⟩:=hw k x I;have:=(ar.1 (S.fl f g1).fm).1;omega
   obtain⟨_,_,⟨hle,_⟩,V,b1,a1,hsz,hj,G,b3,hrel,c0⟩:=hJ;rw[XT.Nc b2]at V a1 hrel;subst b4;rw[List.drop_length]at G;refine⟨ρ,e'.get,h,hle,V,b1,⟨V.glob,V.lo,a1,hsz,λ s=>?_⟩,e',rfl,G⟩;grind [dX]
 ·have hw:({ w with drawn:=w.drawn+1 }:World).heap=w.heap:=rfl;have hX:c.X.M7 (λ _=>none)=c.X:=XT.Nc λ _=>rfl
  refine .mk (λ _=>none) c.ρ c.h T 0 (λ k g hk=>by cases hk) (λ k k' g hk=>by cases hk) (λ f hf _=>?_) ?_
  ·have F:=S.fl f hf;refine⟨?_,hpre f hf⟩;rw[t2 f.s λ b hb=>?_]
   ·exact hes f hf
   ·obtain⟨k,h1,h2,h3⟩:=dD hb;exact F.us k b h1 (by rintro rfl;exact h2 (ak F.fm))
  refine⟨by rw[gx];simp,λ i k hi hl=>(by grind),⟨?_,λ k g hk=>by cases hk⟩,?_,⟨rfl,rfl,rfl⟩,(by rw[hX,hw,a6];exact hs.defers),hs.size,Nat.zero_le _,by simpa using t1,λ l i hl=>?_,λ s=>?_,λ i b hb hn _ c1=>?_⟩
  ·grind [Ctx.le.refl]
  ·rw[hX,hw,a6];exact hr
  ·rw[b5,Z i (S.tlt i (ak hl))];simp
  ·by_cases hex:∃b,b∈jV items masks tl 0/\b.dst=some s
   ·grind [dD]
   ·right;rw[t2 s (λ b hb b7=>hex ⟨b,hb,b7⟩),hX,hw,a6];exact hs.rel s
  grind [Cj]
def Yv (P:Program) (fz:Bool) (esz:Nat) (zd:D) (elem:TypeId) (hpos:0<esz):AL P where
 op:=.bldS fz esz 0 zd []
 obj:=.cells #[] elem
 slot:=.arr esz []
 val g:=.slice (some ⟨g,0,none⟩) 0 0
 dv n:=.ms n 0 0
 cs:=[]
 hop:=by
  intro K e h _ hv n t;simp only[vcOp]at hv;have:=hv.2.2 n t;simpa[Heap.freezeAll,setEls] using this
 hslot:=by
  intro c n g hρ hg;exact⟨hpos,λ e he=>(by cases he),λ i j d hd=>(by simp[aT]at hd),Or.inr ⟨g,_,elem,hρ,hg,by simp,λ i j d hd=>(by simp[aT]at hd)⟩⟩
 hrel:=by
  intro c n g hh hρ hg;have:=aB.ms (c:=c) n 0 0 g esz 0 [] #[] elem (0,0) (by rw[hh];rfl) hρ (by simp) hg (by simp) (by omega) (by unfold maxLen;omega)
  rwa [Nat.zero_mul]at this
theorem RJ {fz:Bool}{esz:Nat}{zd:D}{elem t:TypeId}{hpos:0<esz}{o:Oper}{ps:Array (Nat×Operand)}(ho:o.op=.buildSlice t 0 ps) (hps:ps = #[]) (hu:P.underlying t=some (.slice elem)) (ht:(P.info? elem).map (·.size)=some esz) :
  LU P (Yv P fz esz zd elem hpos) o:=by
 subst hps;refine⟨λ c hc=>(by rw[ho]at hc;cases hc),λ a w _=>?_⟩;show(execOp a.eval o).run P w=.ok (.value (.slice (some ⟨w.heap.size,0,none⟩) 0 0)) (w.alloc (.cells #[] elem))
 simp[execOp,ho,Instr.buildSlice,run_underlying hu,run_sizeOf ht,Array.range_zero',Instr.fill,cA]
def TU:AOp->List Nat
 | .mk _ _ _ x y=>argRegs x++argRegs y
 | _=>[]
def sMkN (op:AOp) (o:Oper):Bool :=
 match op,o.op with
 | .KL _,.makeMap _ none=>true
 | .alloc _,.alloc _=>true
 | .mk ..,.makeSlice ..=>true
 | .bldS _ _ 0 _ [],.buildSlice _ 0 ps=>ps.size == 0
 | _,_=>false
def flN (ops:Array Oper) (nt:Nat) (items:List AOper) (masks tl ps:List Nat) (p:Nat):Option (Nat×AOp) :=
 match tl[p]? with
 | some m=>match items[m]?,ops[m]? with
  | some ⟨some s,op,none⟩,some o=>match o.dst,o.guard with
   | some s',none=>if s'=s/\s<nt/\sMkN op o=true/\(items.zipIdx.all λ q=>decide (q.2=m)||q.1.dst != some s)=true/\((List.range p).all λ l=> !(masks.getD (tl.getD l 0) 0).testBit m)=true /\
     ((TU op).all λ r=>items.zipIdx.all λ q=>q.1.dst != some r||(!tl.contains q.2&&Hk masks tl q.2 == 0&&(masks.getD m 0).testBit q.2))=true /\
     (ps.all λ p'=>p' == p || !(masks.getD m 0).testBit (tl.getD p' 0))=true then some (s,op) else none
   | _,_=>none
  | _,_=>none
 | none=>none
def Mi (op:AOp) (e:LEnv):Prop:=match op with
 | .mk _ bytes _ x y=>∃kl L kc C,x.get e=.int kl L/\y.get e=.int kc C/\0<=L/\L<=C/\C*bytes<=140737488355328/\C<=9223372036854775807
 | _=>True
def ckN:List (Nat×AOp)->ACode->ACode
 | [],c=>c
 | (_,.mk _ bytes _ x y)::r,c=>.seq (.dreg [] [⟨none,.mkc bytes x y,none⟩] []) (ckN r c)
 | _::r,c=>ckN r c
theorem PA:∀(l:List (Nat×AOp)){c:ACode}{Q:LPost}{e:LEnv}{h:Heap},vcC P (ckN l c) Q e h->(∀q∈l,Mi q.2 e)/\vcC P c Q e h
 | [],c,Q,e,h,G=>⟨λ q I=>(by cases I),G⟩
 | (s,op)::r,c,Q,e,h,G=>by
  cases op with
  | mk esz bytes V x y =>
   have G:vcOp P (.mkc bytes x y) (λ _ h2=>vcC P (ckN r c) Q e h2) e h:=by
    have:=G;simp only[ckN,vcC,LPost.then,vcVals,tF,vcTail,zC,gC]at this;exact this
   simp only[vcOp]at G;unfold vint at G;split at G
   case h_2=>exact G.elim
   rename_i Z L hL;split at G
   case h_2=>exact G.elim
   rename_i kc C hC;obtain⟨i1,i2⟩:=PA r G.2.2.2.2;grind [Mi]
  | _ =>
   obtain⟨i1,i2⟩:=PA r G;refine⟨λ q I=>?_,i2⟩;rcases List.mem_cons.1 I with rfl|I
   ·trivial
   ·exact i1 q I
def Pb:List Nat->LEnv->LEnv
 | [],e=>e
 | s::r,e=>Pb r (e.put (some s) .undef)
theorem Qu:∀(l:List Nat) (e:LEnv),(∀i,(Pb l e).get i=.undef\/(Pb l e).get i=e.get i)/\∀s,s∈l\/e.get s=.undef->(Pb l e).get s=.undef
 | [],e=>⟨λ i=>Or.inr rfl,λ s hs=>hs.elim (λ h=>by cases h) id⟩
 | s::r,e=>by
  obtain⟨i1,i2⟩:=Qu r (e.put (some s) .undef)
  have hg:∀i,(e.put (some s) .undef).get i=if i=s then .undef else e.get i:=by
   intro i;rw[LEnv.bO];simp only[Env.put,aF]
  grind [Pb]
theorem K8:∀(l:List Nat){K:LEnv->Heap->Prop}{e:LEnv}{h:Heap},vcVals P (l.map λ s=>⟨some s,.mov (.c .undef),none⟩) K e h->K (Pb l e) h
 | [],_,_,_,G=>G
 | s::r,K,e,h,G=>K8 r (by simp only[List.map_cons,vcVals,tF]at G;exact G)
theorem abM {ps:List Nat}{p s:Nat}{op:AOp}{T:LEnv}(S0:x7 P nt ops items masks tl) (h:flN ops nt items masks tl ps p=some (s,op)) (hf:Mi op T) :
  ∃f:Fl P,f.p=p/\f.s=s/\aaA P nt ops items masks tl f/\(∀q∈f.fk.cs,T.get q.1=.int q.2.1 q.2.2)/\∀p',p'∈ps->p'≠p->(masks.getD f.m 0).testBit (tl.getD p' 0)=false:=by
 unfold flN at h;split at h<;>try (cases h;done)
 rename_i m hm;split at h<;>try (cases h;done)
 rename_i s0 e7 o a6 hop;split at h<;>try (cases h;done)
 rename_i s' h2 h3;split at h<;>try (cases h;done)
 rename_i e5;obtain⟨rfl,c1,cm,c5,c6,c7,c8⟩:=e5;cases h;obtain⟨fz,Z⟩:=S0.itt m o hop (ak hm);rw[a6]at Z
 have b4:cOp P fz o=some op:=by
  grind [cOper]
 obtain⟨fk,rfl,e4,a2,c2⟩:∃fk:AL P,op=fk.op/\(∀q∈fk.cs,q.1∈TU op)/\(∀q∈fk.cs,T.get q.1=.int q.2.1 q.2.2)/\LU P fk o:=by
  unfold sMkN at cm;split at cm<;>try (cases cm;done)
  ·rename_i kt t h1;exact⟨UA P kt,rfl,λ q G=>(by cases G),λ q G=>(by cases G),RH h1⟩
  ·rename_i I t h1
   have hz:fM P t=some I:=by
    unfold cOp at b4
    cases hz:fM P t with
    | none=>grind [cOp0,cOpM,deadOp]
    | some z=>grind [cOp0]
   obtain⟨z,z1,z2⟩:=LG (P:=P) hz;refine⟨Yw P I z.cells t z2,rfl,λ q G=>(by cases G),λ q G=>(by cases G),λ c hc=>(by rw[h1]at hc;cases hc),λ a w _=>?_⟩;simp[execOp,h1,Instr.alloc,bX z1,newVar,cA,Yw]
  ·rename_i esz bytes I x' y' t x y ho;obtain⟨kl,L,kc,C,e1,e2,b0,b1,b2,b3⟩:=hf
   have:∃elem i,P.underlying t=some (.slice elem)/\P.info? elem=some i/\fM P elem=some I/\cArg x=some x'/\cArg y=some y'/\I.cells.length=i.size/\0<i.size/\i.size=esz/\i.bytes=bytes:=by
    grind [cOp,cOp0,cOpM,deadOp]
   obtain⟨elem,i,hu,a7,hz,e3,e0,hsz,Q,a8,c4⟩:=this;obtain⟨z,z1,z2⟩:=LG (P:=P) hz;have hx:∀d,x'=.c d->d=.int kl L:=λ d hd=>by rw[hd]at e1;exact e1
   have hy:∀d,y'=.c d->d=.int kc C:=λ d hd=>by rw[hd]at e2;exact e2
   have a1:I.cells.length=esz:=by rw[hsz,a8]
   have V:0<esz:=by omega
   refine⟨abN P esz bytes I x' y' elem z.cells kl kc L C a1 V z2 b0 b1 b3 hx hy,rfl,λ q G=>?_,λ q G=>?_,Uh ho e3 e0 hu a7 a8 c4 z1 b2⟩
   ·rcases List.mem_append.1 G with h|h
    ·simp only[zP,List.mem_map]at h;obtain⟨r,hr,rfl⟩:=h;exact List.mem_append_left _ hr
    ·simp only[zP,List.mem_map]at h;obtain⟨r,hr,rfl⟩:=h;exact List.mem_append_right _ hr
   ·rcases List.mem_append.1 G with h|h
    ·simp only[zP,List.mem_map]at h;obtain⟨r,hr,rfl⟩:=h
     cases b7:x' with
     | t r' =>
      rw[b7]at hr e1;simp only[argRegs,List.mem_singleton]at hr;rw[hr];exact e1
     | c d=>grind [argRegs]
    ·simp only[zP,List.mem_map]at h;obtain⟨r,hr,rfl⟩:=h
     cases b5:y' with
     | t r' =>
      rw[b5]at hr e2;simp only[argRegs,List.mem_singleton]at hr;rw[hr];exact e2
     | c d=>grind [argRegs]
  ·rename_i e6 esz I t ps ho;have c0:ps = #[]:=Array.eq_empty_of_size_eq_zero (by simpa using cm);subst c0
   have:∃elem,P.underlying t=some (.slice elem)/\(P.info? elem).map (·.size)=some esz/\0<esz:=by
    grind [cOp,cOp0,cOpM,deadOp]
   obtain⟨elem,hu,ht,Q⟩:=this;exact⟨Yv P e6 esz I elem Q,rfl,λ q G=>(by cases G),λ q G=>(by cases G),RJ ho rfl hu ht⟩
 refine⟨⟨p,m,s,fk⟩,rfl,rfl,⟨hm,a6,λ k b hb hk=>?_,c1,⟨o,hop,c2,h2,h3⟩,λ l i hl c3=>?_,λ q G k b hb e9=>?_⟩,a2,λ p' e8 hne=>?_⟩
 ·have:=List.all_eq_true.1 c5 (b,k) (mem_zipIdx hb);grind
 ·have:=List.all_eq_true.1 c6 l (by simpa using c3);grind
 ·have:=List.all_eq_true.1 (List.all_eq_true.1 c7 q.1 (e4 q G)) (b,k) (mem_zipIdx hb);grind
 grind
def abm (masks ps tl:List Nat):Bool :=
 (List.range tl.length).all λ k=>ps.contains k||(List.range k).all λ l=>(masks.getD (tl.getD k 0) 0).testBit (tl.getD l 0)
theorem Uy {G:Fl P->Prop}:∀(ps:List Nat),(∀p∈ps,∃f:Fl P,f.p=p/\G f)->∃fs:List (Fl P),fs.map (·.p)=ps/\∀f∈fs,G f
 | [],_=>⟨[],rfl,λ f Q=>(by cases Q)⟩
 | p::r,h=>by
  obtain⟨f,hp,hg⟩:=h p (by simp);obtain⟨fs,h1,h2⟩:=Uy r λ q I=>h q (by simp[I])
  refine⟨f::fs,by simp[hp,h1],λ x hx=>?_⟩;grind
theorem N3:∀{fs:List (Fl P)},(fs.map (·.p)).Nodup->∀f f',f∈fs->f'∈fs->f.p=f'.p->f=f'
 | [],_,f,_,V,_,_=>by cases V
 | x::r,hn,f,f',V,Q,e=>by
  simp only[List.map_cons,List.nodup_cons,List.mem_map,not_exists,not_and]at hn;rcases List.mem_cons.1 V with rfl|I
  ·grind
  ·rcases List.mem_cons.1 Q with rfl|G
   ·exact absurd e (hn.1 f I)
   ·exact N3 hn.2 f f' I G e
theorem mapM_mem {α β:Type}{f:α->Option β}:∀{l:List α}{r:List β},l.mapM f=some r->∀x∈l,∃y,y∈r/\f x=some y
 | [],r,_,x,hx=>by cases hx
 | a::l,r,h,x,hx=>by
  rw[List.mapM_cons]at h;simp only[Option.pure_def,Option.bind_eq_bind,Option.bind_eq_some_iff,Option.some.injEq]at h;obtain⟨y,hy,z,G,rfl⟩:=h;rcases List.mem_cons.1 hx with rfl|hx
  ·exact⟨y,by simp,hy⟩
  ·obtain⟨I,h1,h2⟩:=mapM_mem G x hx;grind
def cDrN (P:Program) (nt:Nat) (tbl:TTq) (id:Nat) (ops:Array Oper):Option ACode :=
 if P.follows .mixedOrders then
  match tbl id with
  | some (masks,tl,999996::ps)=>match sItems P nt ops tl true ops.toList 0 with
   | some items=>match ps.mapM (flN ops nt items masks tl ps) with
    | some l=>if TD ops items masks tl=true/\abm masks ps tl=true/\tl.Nodup/\ps.Nodup then
      some (.seq (.dreg ((l.map (·.1)).map λ s=>⟨some s,.mov (.c .undef),none⟩) [] []) (.seq (.dreg (jV items masks tl 0) [] []) (ckN l (sCode1 items masks tl tl)))) else none
    | none=>none
   | none=>none
  | _=>none
 else none
theorem XF (P:Program) (nt:Nat) (tbl:TTq):KY P nt (cDrN P nt tbl):=by
 intro id ops ac h Q e hp hv;unfold cDrN at h;split at h
 case isFalse=>cases h
 rename_i hm;split at h
 case h_2=>cases h
 rename_i masks tl ps _
 cases hi:sItems P nt ops tl true ops.toList 0 with
 | none=>simp[hi]at h
 | some items =>
  simp only[hi]at h;split at h
  case h_2=>cases h
  rename_i l hl;split at h
  case isFalse=>cases h
  rename_i a7;obtain⟨c1,c2,c3,c4⟩:=a7;simp only[Option.some.injEq]at h;subst h;have S0:=TC hi c1
  have a1:vcVals P ((l.map (·.1)).map λ s=>⟨some s,.mov (.c .undef),none⟩) (λ e1 h1=>vcVals P (jV items masks tl 0) (λ e2 h2=>vcC P (ckN l (sCode1 items masks tl tl)) Q e2 h2) e1 h1) e hp:=by
   have:=hv;simp only[vcC,LPost.then,vcTail,zC]at this;exact this
  have V:=K8 _ a1;obtain⟨u1,u2⟩:=Qu (l.map (·.1)) e;generalize Pb (l.map (·.1)) e=e1 at V u1 u2;obtain⟨T,t1,t2,t3⟩:=Ie S0 V;obtain⟨k1,k2⟩:=PA l t1;have k3:=Nv k2
  obtain⟨fs,f1,f2⟩:=Uy (P:=P) (G:=λ f=>aaA P nt ops items masks tl f/\(∀q∈f.fk.cs,T.get q.1=.int q.2.1 q.2.2)/\(∀p',p'∈ps->p'≠f.p->(masks.getD f.m 0).testBit (tl.getD p' 0)=false)/\f.s∈l.map (·.1)) ps (λ p a6=>by
   obtain⟨⟨s,op⟩,y1,y2⟩:=mapM_mem hl p a6;obtain⟨f,rfl,rfl,g3,g4,g5⟩:=abM S0 y2 (k1 _ y1)
   grind)
  have a2:∀f∈fs,f.p∈ps:=λ f I=>by grind
  have S:DS P nt ops items masks tl fs:=by
   refine⟨S0,λ l k i i' hl hk a8 b2=>?_,λ l l' i hl b1=>?_,λ f I=>(f2 f I).1,λ f f' I Z hne=>?_,N3 (by rw[f1];exact c4)⟩
   ·simp only[abm,List.all_eq_true,List.mem_range,Bool.or_eq_true]at c2;grind
   ·grind [List.getElem?_inj]
   ·have:=(f2 f I).2.2.1 f'.p (a2 f' Z) (λ e=>hne e.symm);simpa[List.getD,(f2 f' Z).1.fm] using this
  exact uj u1 (TN S hm (λ f I=>u2 _ (Or.inl (f2 f I).2.2.2)) k3 t2 t3 λ f I=>(f2 f I).2.1)
def cDr (P:Program) (nt:Nat) (tbl:TTq) (id:Nat) (ops:Array Oper):Option ACode :=
 match cDrS P nt tbl id ops with
 | some x=>some x
 | none=>match cDrN P nt tbl id ops with
 | some x=>some x
 | none=>match cDr0 P nt tbl id ops with
  | some x=>some x
  | none=>some (.dreg [⟨none,.dead,none⟩] [] [])
theorem aG (P:Program) (nt:Nat) (tbl:TTq):KY P nt (cDr P nt tbl):=by
 intro id ops ac h Q e hp G;unfold cDr at h;split at h
 ·rename_i x h0;cases h;exact XE P nt tbl id ops _ h0 Q e hp G
 split at h
 ·rename_i x h0;cases h;exact XF P nt tbl id ops _ h0 Q e hp G
 split at h
 ·rename_i x h0;cases h;exact XG P nt tbl id ops _ h0 Q e hp G
 ·simp at h;subst h;exact G.elim
end Go.Am
namespace Go.Am
open Go
variable [ca]
def vcond (x:D) (A B:Prop):Prop :=
 match x with
 | .bool t=>(t=true->A)/\(t=false->B)
 | _=>False
def OW (P:Program) (a:ACode) (nt:Nat) (c:Code):Prop:=∀(Q:LPost) (e:LEnv) (h:Heap),vcC P a Q e h->sC P nt c (λ x=>up (Q x)) e.get h
def SW (P:Program) (g:D) (ps:List Nat) (e:LEnv) (a b:ACode) (h:Heap) (E:Nat->Heap->Prop):Prop :=
 match g with
 | .fn f fs cs=>fs=[]/\fF P f=true/\∀(n:Nat) (B:dT),qE h n->B.env=LEnv.get e->B.ps=ps->ps.Nodup->(∀p∈ps,p<B.nt)->OW P a B.nt B.assign->OW P b B.nt B.body ->
   ag P f (.yld n::cs) (aF h n (.lp .ready B)) λ _ h'=>E n h'
 | _=>False
def O3 (P:Program) (n:Nat) (B:dT) (ps:List Nat) (ds:List D) (e:LEnv) (a b:ACode) (h:Heap) (K:HKq):Prop :=
 vcC P a (λ x e1 h1=>x=.normal/\h1 n=.lp .ready B/\vcC P b (λ x e2 h2=>h2 n=.lp .busy B/\roundEnd x n B K h2) e1 (aF h1 n (.lp .busy B))) (ps.zip ds++e) h
theorem Df {P:Program}{n:Nat}{B:dT}{ds:List D}{h:Heap}{K:HKq}{a b:ACode}{ps:List Nat}(hn:h n=.lp .ready B) (hps:B.ps=ps) (hA:OW P a B.nt B.assign) (hB:OW P b B.nt B.body) (hnd:ps.Nodup)
  (hlt:∀p∈ps,p<B.nt) (hlen:ds.length=ps.length) {e:LEnv}(he:B.env=e.get) (hv:O3 P n B ps ds e a b h K):rN P n ds h K :=
 Sy hn hA hB (hps ▸ hnd) (hps ▸ hlt) (hps ▸ hlen) he (by rw[hps];exact hv)
def lW (n:Nat) (h:Heap) (KN:Prop) (KE:Nat->Prop) (KR:Prop):Prop :=
 match h n with
 | .lp .ready _=>KN
 | .lp (.done (.exit id)) _=>KE id
 | .lp (.done .ret) _=>KR
 | _=>False
variable {P:Program}{h:Heap}{K:D->Prop}{KH:HKq}{k:IntKind}{a b:Int}
theorem Y0 {p:Prop}[Decidable p] {A B:Prop}:vcond (.bool (decide p)) A B=((p->A)/\(¬p->B)):=by
 simp[vcond]
theorem Wa {p:Prop}[Decidable p] {A B:Prop}:vcond (.bool (!decide p)) A B=((¬p->A)/\(p->B)):=by
 simp[vcond]
theorem Wb {t:Bool}{A B:Prop}:vcond (.bool t) A B=((t=true->A)/\(t=false->B)):=rfl
theorem my {t w:Bool}{A:(HKq)->Prop}:vguard (.bool t) w A h KH=((t=w->A KH)/\(t≠w->KH gU h)):=by simp[vguard,gv]
theorem B7 {ds:List D}{w:Bool}{A:(HKq)->Prop}:vguard (.tup ds) w A h KH=KH gU h:=by simp[vguard,gv]
theorem fI {t w:Bool}{A:(D->Prop)->Prop}:ai (.bool t) w A K=((t=w->A K)/\(t≠w->K gU)):=by simp[ai,gv]
theorem yK {ds:List D}{w:Bool}{A:(D->Prop)->Prop}:ai (.tup ds) w A K=K gU:=by simp[ai,gv]
theorem fv:vbin .add (.int k a) (.int k b) K=K (.int k (k.wrap (a+b))):=by simp[vbin]
theorem nT:vbin .sub (.int k a) (.int k b) K=K (.int k (k.wrap (a-b))):=by simp[vbin]
theorem K3:vbin .mul (.int k a) (.int k b) K=K (.int k (k.wrap (a*b))):=by simp[vbin]
theorem Nm:vbin .quo (.int k a) (.int k b) K=(b≠0/\K (.int k (k.wrap (a.tdiv b)))):=by simp[vbin]
theorem cY:vbin .rem (.int k a) (.int k b) K=(b≠0/\K (.int k (a.tmod b))):=by simp[vbin]
theorem P8:vbin .and (.int k a) (.int k b) K=K (.int k (ibits .and k a b)):=by simp[vbin]
theorem acV:vbin .or (.int k a) (.int k b) K=K (.int k (ibits .or k a b)):=by simp[vbin]
theorem aaK:vbin .xor (.int k a) (.int k b) K=K (.int k (ibits .xor k a b)):=by simp[vbin]
theorem Ta:vbin .andNot (.int k a) (.int k b) K=K (.int k (ibits .andNot k a b)):=by simp[vbin]
theorem aaL {k':IntKind}:vbin .shl (.int k a) (.int k' b) K=(0<=b/\K (.int k (ZB k a b))):=rfl
theorem P7 {k':IntKind}:vbin .shr (.int k a) (.int k' b) K=(0<=b/\K (.int k (Jt k a b))):=rfl
theorem bq:vbin .eql (.int k a) (.int k b) K=K (.bool (decide (a=b))):=by simp[vbin]
theorem kA:vbin .neq (.int k a) (.int k b) K=K (.bool (!decide (a=b))):=by simp[vbin]
theorem nV:vbin .lss (.int k a) (.int k b) K=K (.bool (decide (a<b))):=by simp[vbin]
theorem Nn:vbin .leq (.int k a) (.int k b) K=K (.bool (decide (a<=b))):=by simp[vbin]
theorem rU:vbin .gtr (.int k a) (.int k b) K=K (.bool (decide (b<a))):=by simp[vbin]
theorem Gi:vbin .geq (.int k a) (.int k b) K=K (.bool (decide (b<=a))):=by simp[vbin]
theorem toList_inj {a b:ByteArray}:(a.toList == b.toList)=decide (a=b):=by
 by_cases h:a=b
 ·subst h;simp
 ·have:¬a.toList=b.toList:=λ e=>h (by
   have:=congrArg List.toArray e;simp[ByteArray.toList_eq]at this
   cases a;cases b;simp_all)
  simp[h,this]
theorem YZ {s t:ByteArray}:vbin .eql (.str s) (.str t) K=K (.bool (decide (s=t))):=by simp[vbin,toList_inj]
theorem YY {s t:ByteArray}:vbin .neq (.str s) (.str t) K=K (.bool (!decide (s=t))):=by simp[vbin,toList_inj]
theorem Yd:vun .neg (.int k a) K=K (.int k (k.wrap (0-a))):=rfl
theorem cw {t:Bool}:vun .not (.bool t) K=K (.bool !t):=rfl
theorem aaM:vun .xor (.int k a) K=K (.int k (ibits .xor k (if k.signed then -1 else k.max) a)):=rfl
theorem B6:aM .nil h K=K (.int .i64 0):=rfl
theorem bD {xs:List D}:aM (.sl xs) h K=K (.int .i64 xs.length):=rfl
theorem bH {n o l:Nat}:aM (.ms n o l) h K=((h n).live=true/\K (.int .i64 l)):=rfl
theorem jb {k':IntKind}:ab P (.conv k (.c (.int k' a))) h KH=KH (.int k (k.wrap a)) h:=rfl
theorem cq {t:Bool}{x y:D}:ab P (.pick (.c (.bool t)) (.c x) (.c y)) h KH=KH (if t then x else y) h:=rfl
theorem h_ext {ds:List D}{i:Nat}:ab P (.ext (.c (.tup ds)) i) h KH=(match ds[i]? with|some d=>KH d h|none=>False):=rfl
theorem abF {cs:List D}{o s:Nat}{g:Bool}:ab P (.fld (.c (.agg cs)) o s g) h KH=vpart cs o s g (KH · h):=rfl
theorem ZF {s:ByteArray}:ab P (.slen (.c (.str s))) h KH=KH (.int .i64 s.size) h:=rfl
theorem My {d:D}{j o:Nat}:ab P (.fadd (.c (.vp d j)) o) h KH=KH (.vp d (j+o)) h:=rfl
theorem Fq {xs:List D}{s:Nat}:ab P (.iadd (.c (.sl xs)) (.c (.int k a)) s) h KH=(0<=a/\a<xs.length/\∀d,xs[a.toNat]?=some d->d.cells.length=s/\KH (.vp d 0) h):=rfl
theorem pw {n o l s:Nat}:ab P (.iadd (.c (.ms n o l)) (.c (.int k a)) s) h KH=(0<=a/\a<l/\(∃els,(h n).row=some (s,els))/\KH (.ptr n (o+a.toNat) 0) h):=rfl
theorem zG {d:D}{j s:Nat}{g:Bool}:ab P (.ld (.c (.vp d j)) s g) h KH=vpart d.cells j s g (KH · h):=rfl
theorem gd {cs:List D}{o s:Nat}:vpart cs o s false K=(match cs[o]? with|some d=>K d|none=>False):=rfl
theorem mw {cs:List D}{o s:Nat}:vpart cs o s true K=(o+s<=cs.length/\K (.agg ((cs.drop o).take s))):=rfl
theorem wrap64 {n:Int}(h1 : -9223372036854775808<=n) (h2:n<=9223372036854775807):IntKind.i64.wrap n=n:=by
 grind [IntKind.wrap,IntKind.signed,IntKind.bits]
end Go.Am
namespace Go.Am
open Go
variable [ca]
abbrev LH:=List Slot
class LB where
 bs:Nat->dT
def Slot.wb (s:Slot) (B:dT):Slot:=match s with
 | .lp st _=>.lp st B
 | s=>s
def LH.h (l:LH):Heap:=λ n=>l.getD n .free
def LH.w [LB] (l:LH):Heap:=λ n=>(l.getD n .free).wb (LB.bs n)
def LH.nf (l:LH):Prop:=∀s∈l,s≠.free
def fi {α:Type}(n:Int) (k:Int->α):α:=match n with
 | .ofNat m=>Nat.rec (k 0) (λ p _=>k (.ofNat (p+1))) m
 | .negSucc m=>Nat.rec (k (.negSucc 0)) (λ p _=>k (.negSucc (p+1))) m
def fb {α:Type}(b:Bool) (k:Bool->α):α:=match b with
 | true=>k true
 | false=>k false
def fl {α β:Type}:List α->(List α->β)->β
 | [],k=>k []
 | a::r,k=>fl r λ r'=>k (a::r')
def aaS (a b:ByteArray):Bool:=a.data.toList == b.data.toList
mutual
def D.same:D->D->Bool
 | .undef,.undef=>true
 | .nil,.nil=>true
 | .nilfn,.nilfn=>true
 | .nilmap,.nilmap=>true
 | .nilp,.nilp=>true
 | .int q n,.int q' n'=>decide (q=q')&&decide (n=n')
 | .bool b,.bool b'=>b == b'
 | .str s,.str s'=>aaS s s'
 | .sl xs,.sl ys=>D.sameL xs ys
 | .ms n o m,.ms n' o' m'=>n == n'&&o == o'&&m == m'
 | .ptr n o m,.ptr n' o' m'=>n == n'&&o == o'&&m == m'
 | .vp e j,.vp e' j'=>D.same e e'&&j == j'
 | .agg xs,.agg ys=>D.sameL xs ys
 | .tup xs,.tup ys=>D.sameL xs ys
 | .fn f a b,.fn f' a' b'=>f == f'&&D.sameL a a'&&D.sameL b b'
 | .yld n,.yld n'=>n == n'
 | .mp n,.mp n'=>n == n'
 | _,_=>false
def D.sameL:List D->List D->Bool
 | [],[]=>true
 | d::r,e::s=>D.same d e&&D.sameL r s
 | _,_=>false
end
def M0 (d:D):Bool:=d.cells.all D.one
theorem JW {d:D}(h:M0 d=true):aL d:=λ x hx=>List.all_eq_true.1 h x hx
def LH.frz (l:LH) (n:Nat):LH:=match l.h n with
 | .arr e x=>l.set n (.frz e x)
 | _=>l
end Go.Am
namespace Go.Am
open Go
variable [ca]
abbrev aau:=Nat->List D->LH->Option (D×LH)
structure Ku where
 call:FuncId->List D->LH->Option (D×LH)
 vcall:FuncId->List D->Option D
 own:FuncId->Bool
 yld:aau
 k:Nat
 callR:Nat->aau->FuncId->List D->LH->Option (D×LH)
def CZ (n:Nat) (l:List (Nat×Nat×D)):Bool:=l.all λ p=>p.2.2.cells.length == p.2.1&&decide (p.1+p.2.1<=n)&&M0 p.2.2
theorem uc {n:Nat}{l:List (Nat×Nat×D)}(h:CZ n l=true):kY n l:=by
 intro p hp;have:=List.all_eq_true.1 h p hp;simp only[Bool.and_eq_true,beq_iff_eq,decide_eq_true_eq]at this;exact⟨this.1.1,this.1.2,JW this.2⟩
def aae (len esz:Nat) (l:List (Nat×D)):Bool:=l.all λ p=>decide (p.1<len)&&p.2.cells.length == esz&&M0 p.2
theorem FD {len esz:Nat}{l:List (Nat×D)}(h:aae len esz l=true):OA len esz l:=by
 intro p hp;have:=List.all_eq_true.1 h p hp;simp only[Bool.and_eq_true,beq_iff_eq,decide_eq_true_eq]at this;exact⟨this.1.1,this.1.2,JW this.2⟩
structure X9 [LB] (P:Program) (C:Ku):Prop where
 call:∀f ds l d l',C.call f ds l=some (d,l')->l.nf->l'.nf/\∀K:HKq,K d l'.w->ag P f ds l.w K
 yld:∀n ds l d l',C.yld n ds l=some (d,l')->l.nf->l'.nf/\∀K:HKq,K d l'.w->rN P n ds l.w K
 vcall:∀f ds r,C.vcall f ds=some r->aK P f ds (· = r)
variable {P:Program}{C:Ku}[LB]
end Go.Am
namespace Go.Am
open Go
variable [ca]
variable {P:Program}{C:Ku}[LB]
end Go.Am
namespace Go.Am
open Go
variable [ca]
variable {P:Program}{C:Ku}[LB]
abbrev LH.wb (b:Nat->dT) (l:LH):Heap:=letI:LB:=⟨b⟩;l.w
def Agr (k:Nat) (b b':Nat->dT):Prop:=∀m,m<k->b m=b' m
def YOk (P:Program) (Y:aau) (k:Nat) (b0:Nat->dT):Prop:=∀b,Agr k b b0->∀n ds l d l',Y n ds l=some (d,l')->l.nf->l'.nf/\∀K:HKq,K d (LH.wb (b) l')->rN P n ds (LH.wb (b) l) K
structure adZ (P:Program) (C:Ku) (b0:Nat->dT):Prop where
 ok:∀b,Agr C.k b b0->(letI:LB:=⟨b⟩;X9 P C)
 callR:∀b,Agr C.k b b0->∀k Y,C.k<=k->YOk P Y k b->∀f ds l d l',C.callR k Y f ds l=some (d,l')->l.nf->l'.nf/\∀K:HKq,K d (LH.wb (b) l')->ag P f ds (LH.wb (b) l) K
end Go.Am
namespace Go.Am
open Go
variable [ca]
variable {P:Program}{l:LH}{KH:HKq}{K:D->Prop}
theorem LH.abD {l:LH}{n:Nat}(hn:n<l.length):l.h n=l[n]:=by simp[LH.h,hn]
theorem LH.abE {l:LH}{n:Nat}(hn:l.length<=n):l.h n=.free:=by simp[LH.h,hn]
theorem LH.top {l:LH}(h:l.nf){n:Nat}(t:qE l.h n):n=l.length:=by
 rcases Nat.lt_trichotomy n l.length with h1|h1|h1
 ·have:=t.free;rw[LH.abD h1]at this;exact absurd this (h _ (List.getElem_mem h1))
 ·exact h1
 ·exfalso;obtain⟨k,rfl⟩:∃k,n=k+1:=⟨n-1,by omega⟩;exact t.2 k rfl (LH.abE (by omega))
theorem LH.ZG (l:LH) (s:Slot):LH.h (l++[s])=aF l.h l.length s:=by
 grind [aF,h]
theorem LH.abA {l:LH}{n:Nat}(s:Slot) (hn:n<l.length):LH.h (l.set n s)=aF l.h n s:=by
 grind [aF,h]
theorem Lb:gY=LH.h []:=by funext n;simp[gY,LH.h]
theorem Wf (hn:l.nf):qE l.h l.length:=by
 refine⟨λ m hm=>LH.abE hm,λ k G=>?_⟩;have:k<l.length:=by omega
 rw[LH.abD this];exact hn _ (List.getElem_mem this)
theorem XS (hn:l.nf){Q:Nat->Prop}:(∀n,qE l.h n->Q n)=Q l.length:=by
 grind [Wf,LH.top]
theorem Zu:LH.nf []:=λ _ h=>by cases h
theorem WK {s:Slot}{l:LH}:LH.nf (s::l)=(s≠.free/\LH.nf l):=by
 grind [LH.nf]
theorem QA {d:D}(hn:l.nf):ab P (.alloc d) l.h KH=KH (.ptr l.length 0 0) (LH.h (l++[.box d])):=by
 simp only[ab,vcOp];rw[XS hn,LH.ZG]
theorem h_ldp {n i j s:Nat}{g:Bool}:ab P (.ld (.c (.ptr n i j)) s g) l.h KH=(match l.h n with
   | .box v=>i=0/\vpart v.cells j s g (KH · l.h)
   | .arr _ els=>i<els.length/\∀d,els[i]?=some d->vpart d.cells j s g (KH · l.h)
   | .frz _ els=>i<els.length/\∀d,els[i]?=some d->vpart d.cells j s g (KH · l.h)
   | _=>False):=rfl
theorem Yr {n i j s:Nat}{v:D}:ab P (.st (.c (.ptr n i j)) (.c v) s) l.h KH=(v.cells.length=s/\aL v/\match l.h n with
   | .box d=>i=0/\j+s<=d.cells.length/\KH .undef (aF l.h n (.box (setCells d j v.cells)))
   | .arr esz els=>i<els.length/\j+s<=esz/\∀d,els[i]?=some d->KH .undef (aF l.h n (.arr esz (els.set i (setCells d j v.cells))))
   | _=>False):=rfl
theorem Zy {n:Nat}:LH.h [] n=.free:=by simp[LH.h]
theorem Mq {s:Slot}{l:LH}:LH.h (s::l) 0=s:=rfl
theorem Mr {s:Slot}{l:LH}{n:Nat}:LH.h (s::l) (n+1)=LH.h l n:=rfl
theorem Tb {n:Nat}{s:Slot}(hn:n<l.length):aF l.h n s=LH.h (l.set n s):=(LH.abA s hn).symm
theorem NT {f:FuncId}{a b:List Arg}{h:Heap}:ab P (.mkf f a b) h KH=KH (.fn f (a.map (·.get [])) (b.map (·.get []))) h:=rfl
theorem WY {f:FuncId}{a b:List D}{as:List Arg}{h:Heap}:ab P (.callv (.c (.fn f a b)) as) h KH=(fF P f=true/\ag P f (a++as.map (·.get [])++b) h KH):=rfl
theorem nX {z:List D}{ps:List (Nat×Nat×Arg)}{h:Heap}:ab P (.bld z ps) h KH=(kY z.length (ps.map λ p=>(p.1,p.2.1,p.2.2.get []))/\KH (.agg (fillD z (ps.map λ p=>(p.1,p.2.1,(p.2.2.get []).cells)))) h):=rfl
theorem Ys {neg agg:Bool}{ks:List CK}{x y:D}{h:Heap}:ab P (.eqv neg agg ks (.c x) (.c y)) h KH=(x.isAgg=agg/\y.isAgg=agg/\veqv neg ks x y (KH · h)):=rfl
theorem Jy {d:D}{h:Heap}:ab P (.box (.c d)) h KH=(aL d/\∀n,qE h n->KH (.ptr n 0 0) (aF h n (.box d))):=rfl
theorem gP {d:D}{h:Heap}:ab P (.alloc d) h KH=∀n,qE h n->KH (.ptr n 0 0) (aF h n (.box d)):=rfl
theorem abI {esz bytes:Nat}{z:D}{k k':IntKind}{a b:Int}{h:Heap}:ab P (.mk esz bytes z (.c (.int k a)) (.c (.int k' b))) h KH =
  (0<=a/\a<=b/\b*bytes<=140737488355328/\b<=9223372036854775807/\∀n,qE h n->KH (.ms n 0 a.toNat) (aF h n (.arr esz (List.replicate a.toNat z)))):=rfl
theorem kX {n i j o:Nat}{h:Heap}:ab P (.fadd (.c (.ptr n i j)) o) h KH=((h n).used=true/\KH (.ptr n i (j+o)) h):=rfl
theorem zh {n i j s:Nat}{g:Bool}{h:Heap}:ab P (.ld (.c (.ptr n i j)) s g) h KH=(match h n with
   | .box v=>i=0/\vpart v.cells j s g (KH · h)
   | .arr _ els=>i<els.length/\∀d,els[i]?=some d->vpart d.cells j s g (KH · h)
   | .frz _ els=>i<els.length/\∀d,els[i]?=some d->vpart d.cells j s g (KH · h)
   | _=>False):=rfl
theorem kW {n i j s:Nat}{v:D}{h:Heap}:ab P (.st (.c (.ptr n i j)) (.c v) s) h KH=(v.cells.length=s/\aL v/\match h n with
   | .box d=>i=0/\j+s<=d.cells.length/\KH .undef (aF h n (.box (setCells d j v.cells)))
   | .arr esz els=>i<els.length/\j+s<=esz/\∀d,els[i]?=some d->KH .undef (aF h n (.arr esz (els.set i (setCells d j v.cells))))
   | _=>False):=rfl
theorem qE.ne {h:Heap}{n m:Nat}(t:qE h n) (hm:h m≠.free):m≠n:=by rintro rfl;exact hm t.free
theorem Ext.refl {h:Heap}:Ext h h:=λ _ _=>rfl
theorem Ext.trans {a b c:Heap}(h:Ext a b) (k:Ext b c):Ext a c:=λ n hn=>by rw[k n (by rw[h n hn];exact hn),h n hn]
theorem Ext.new {h:Heap}{n:Nat}(t:qE h n) (s:Slot):Ext h (aF h n s):=C0 t.free s
theorem aW {f:FuncId}{ds:List D}{h:Heap}{KH:HKq}{R:D->Prop}(hv:aK P f ds R) (hds:∀d∈ds,d.vd=true/\aL d) (hk:∀r,R r->KH r h):ag P f ds h KH:=by
 have Hn:∀(x:D),x.vone=true->x.fzc h=x/\x.lG=[]/\p6 h x:=by
  intro x hx;cases x<;>simp_all [D.vone,D.fzc,D.lG,p6]
 have G:∀d∈ds,d.fz h=d/\d.nm=[]/\nN h d:=by
  intro d hd;obtain⟨h1,h2⟩:=hds d hd;rcases IF h1 with hv|⟨cs,rfl,I⟩
  ·have:=Hn d hv;cases d<;>simp_all [D.fz,D.nm,D.vone,nN,D.cells]
  ·refine⟨?_,?_,λ x hx=>(Hn x (I x hx)).2.2⟩
   ·simp only[D.fz];congr 1;rw[List.map_congr_left (λ x hx=>(Hn x (I x hx)).1)];simp
   grind [D.nm,List.flatMap_eq_nil_iff]
 have Q:ds.map (D.fz h)=ds:=by
  rw[List.map_congr_left (λ d hd=>(G d hd).1)];simp
 have V:ds.flatMap D.nm=[]:=by
  grind [List.flatMap_eq_nil_iff]
 refine ag.mono ?_ (dQ (K:=R) (by rw[Q];exact hv) (λ d hd=>⟨(hds d hd).2,(G d hd).2.2,by grind⟩));grind
theorem Gq {d:D}(h:d.one=true):aL d=True:=by
 apply propext;refine⟨λ _=>trivial,λ _ x hx=>?_⟩;cases d<;>simp_all [D.cells,D.one]
theorem TO {cs:List D}:aL (.agg cs)=∀x∈cs,x.one=true:=rfl
theorem af {A B:Prop}:vcond (.bool true) A B=A:=by simp[vcond]
theorem ae {A B:Prop}:vcond (.bool false) A B=B:=by simp[vcond]
theorem Jc {d:D}{h:Heap}{K:D->Prop}(hd:d.vd=true) (ho:aL d) (hk:K d):iM d/\ti h d/\(d.fzt h).M8=true/\K (d.fzt h):=by
 have Hn:∀(x:D),x.vone=true->x.fzc h=x/\p6 h x:=by
  intro x hx;cases x<;>simp_all [D.vone,D.fzc,p6]
 have e:d.fzt h=d/\ti h d/\iM d/\d.M8=true:=by
  rcases IF hd with I|⟨cs,rfl,G⟩
  ·have:=Hn d I;have hc:d.cells=[d]:=by cases d<;>simp_all [D.vone,D.cells]
   refine⟨?_,?_,?_,?_⟩
   ·cases d<;>simp_all [D.fzt,D.fz,D.vone]
   ·cases d<;>simp_all [ti,nN,D.vone]
   ·cases d<;>simp_all [iM,D.vone]
   ·cases d<;>simp_all [D.M8,D.vone]
  ·refine⟨?_,λ x hx=>(Hn x (G x hx)).2,ho,hd⟩;simp only[D.fzt,D.fz];congr 1;rw[List.map_congr_left (λ x hx=>(Hn x (G x hx)).1)];simp
 grind
def ky (K:D->Prop) (r:D) (h:Heap):Prop:=iM r/\ti h r/\(r.fzt h).M8=true/\K (r.fzt h)
theorem bC {k:IntKind}{n:Int}{h:Heap}{K:D->Prop}:ky K (.int k n) h=K (.int k n):=by
 apply propext;exact⟨λ h=>h.2.2.2,λ G=>Jc rfl (λ x hx=>by simp[D.cells]at hx;subst hx;rfl) G⟩
theorem bb {b:Bool}{h:Heap}{K:D->Prop}:ky K (.bool b) h=K (.bool b):=by
 apply propext;exact⟨λ h=>h.2.2.2,λ G=>Jc rfl (λ x hx=>by simp[D.cells]at hx;subst hx;rfl) G⟩
theorem B3 {xs:List D}{h:Heap}{K:D->Prop}:ky K (.sl xs) h=K (.sl xs):=by
 apply propext;exact⟨λ h=>h.2.2.2,λ G=>Jc rfl (λ x hx=>by simp[D.cells]at hx;subst hx;rfl) G⟩
theorem IC {h:Heap}{K:D->Prop}:ky K .nil h=K .nil:=by
 apply propext;exact⟨λ h=>h.2.2.2,λ G=>Jc rfl (λ x hx=>by simp[D.cells]at hx;subst hx;rfl) G⟩
theorem VS {d:D}{h:Heap}{K:D->Prop}(hd:d.vd=true/\aL d) (hk:K d):ky K d h:=Jc hd.1 hd.2 hk
theorem oD {n esz:Nat}{els:List D}{h:Heap}{K:D->Prop}(hn:(h n).row=some (esz,els)) (hv:∀x∈els,∀y∈x.cells,y.vone=true) (hk:K (.sl els)):ky K (.ms n 0 els.length) h:=by
 refine⟨λ x hx=>by simp[D.cells]at hx;subst hx;rfl,λ x hx=>?_,?_,?_⟩
 ·simp only[D.cells,List.mem_singleton]at hx;subst hx;exact⟨esz,els,hn,by simp,λ x hx y hy=>hv x (by simpa using hx) y hy⟩
 ·simp[D.fzt,D.fz,D.fzc,hn,D.M8,D.vd,D.vone]
 grind [D.fzt,D.fz,D.fzc]
theorem aZ {fz:Bool}{f:FuncId}{loops:TLq}{dr:Nat->Array Oper->Option ACode}{F:aN}(hc:cFn P fz f loops dr=some F) (hdr:KY P F.nt dr)
  {ds:List D}{K:D->Prop}(hlen:Nat.ble ds.length F.nt=true) {V:(HKq)->Prop}(hV:∀K,V K=vcC P F.code (λ x e h'=>match x with|.exit _=>False|.pan=>False|.jump _=>False|_=>K1 P F.res K e h') (params ds 0) gY)
  (hv:V (ky K)):aK P f ds K :=
 S8 hc hdr ⟨Nat.le_of_ble_eq_true hlen,Eq.mp (hV _) hv⟩
theorem aY {fz:Bool}{f:FuncId}{loops:TLq}{dr:Nat->Array Oper->Option ACode}{F:aN}(hc:cFn P fz f loops dr=some F) (hdr:KY P F.nt dr)
  {ds:List D}{h:Heap}{K:HKq}(hlen:Nat.ble ds.length F.nt=true) {V:(HKq)->Prop}(hV:∀K,V K=vcC P F.code (λ x e h'=>match x with|.exit _=>False|.pan=>False|.jump _=>False|_=>K1 P F.res K e h') (params ds 0) h)
  (hv:V K):ag P f ds h K :=
 ON hc hdr ⟨Nat.le_of_ble_eq_true hlen,Eq.mp (hV _) hv⟩
def vR:=And.intro @Y0 (And.intro @Wa (And.intro @Wb (And.intro @af (And.intro @ae (And.intro @my (And.intro (And.intro @fI (And.intro @B7 @yK)) (And.intro @fv (And.intro @nT (And.intro @K3 (And.intro @Nm (And.intro @cY (And.intro @P8 (And.intro @acV (And.intro @aaK (And.intro @Ta (And.intro @aaL (And.intro @P7 (And.intro @bq (And.intro @kA (And.intro @nV (And.intro @Nn (And.intro @rU (And.intro @Gi (And.intro @YZ (And.intro @YY (And.intro @Yd (And.intro @cw (And.intro @aaM (And.intro @B6 (And.intro @bD (And.intro @bH (And.intro @jb (And.intro @cq (And.intro @h_ext (And.intro @abF (And.intro @ZF (And.intro @Fq (And.intro @pw (And.intro @zG (And.intro @gd (And.intro @mw (And.intro @NT (And.intro @WY (And.intro @nX (And.intro @Ys (And.intro @Zy (And.intro @Mq (And.intro @Mr (And.intro @bC (And.intro @bb (And.intro @B3 (@IC))))))))))))))))))))))))))))))))))))))))))))))))))))
theorem mf {cs:List D}:(D.agg cs).cells=cs:=rfl
theorem LC {k:IntKind}{n:Int}:(D.int k n).cells=[.int k n]:=rfl
theorem PE {b:Bool}:(D.bool b).cells=[.bool b]:=rfl
theorem Sl {s:ByteArray}:(D.str s).cells=[.str s]:=rfl
theorem UZ {xs:List D}:(D.sl xs).cells=[.sl xs]:=rfl
theorem Sn:D.nil.cells=[.nil]:=rfl
theorem Ol:D.nilfn.cells=[.nilfn]:=rfl
theorem MN:D.nilmap.cells=[.nilmap]:=rfl
theorem PC:D.nilp.cells=[.nilp]:=rfl
theorem U5 {n:Nat}:(D.mp n).cells=[.mp n]:=rfl
theorem Pe:D.nilmap.one=true:=rfl
theorem TV:D.nilp.one=true:=rfl
theorem Zr {n:Nat}:(D.mp n).one=true:=rfl
theorem U4 {n o l:Nat}:(D.ms n o l).cells=[.ms n o l]:=rfl
theorem Sm {n o l:Nat}:(D.ptr n o l).cells=[.ptr n o l]:=rfl
theorem U6 {f:FuncId}{a b:List D}:(D.fn f a b).cells=[.fn f a b]:=rfl
theorem aa {a:List D}:aD a a=True:=by simp[aD]
theorem WD {k:IntKind}{n:Int}:aL (.int k n)=True:=Gq rfl
theorem TW {b:Bool}:aL (.bool b)=True:=Gq rfl
theorem WA {s:ByteArray}:aL (.str s)=True:=Gq rfl
theorem Zp {xs:List D}:aL (.sl xs)=True:=Gq rfl
theorem WC:aL .nil=True:=Gq rfl
theorem Zq {n o l:Nat}:aL (.ms n o l)=True:=Gq rfl
theorem WB {n o l:Nat}:aL (.ptr n o l)=True:=Gq rfl
theorem Zs {f:FuncId}{a b:List D}:aL (.fn f a b)=True:=Gq rfl
theorem abH {e:LEnv}{d:D}:Arg.get e (.c d)=d:=rfl
theorem Tt {cs new:List D}{j:Nat}:setCells (.agg cs) j new=.agg (cs.take j++new++cs.drop (j+new.length)):=rfl
theorem Ts {k:IntKind}{n:Int}{j:Nat}{x:D}:setCells (.int k n) j [x]=x:=rfl
theorem Ry {b:Bool}{j:Nat}{x:D}:setCells (.bool b) j [x]=x:=rfl
theorem Wh {xs:List D}{j:Nat}{x:D}:setCells (.sl xs) j [x]=x:=rfl
theorem Tq {j:Nat}{x:D}:setCells .nil j [x]=x:=rfl
attribute [simp] Tt Ts Ry Wh Tq
def gR:=And.intro @Jy (And.intro @gP (And.intro @abI (And.intro @kX (And.intro @zh (@kW)))))
theorem Ng {k:IntKind}{n:Int}:(D.int k n).vone=true:=rfl
theorem Rl {b:Bool}:(D.bool b).vone=true:=rfl
theorem SX {s:ByteArray}:(D.str s).vone=true:=rfl
theorem P6 {xs:List D}:(D.sl xs).vone=true:=rfl
theorem SY:D.nil.vone=true:=rfl
theorem T3 {k:IntKind}{n:Int}:(D.int k n).one=true:=rfl
theorem RF {b:Bool}:(D.bool b).one=true:=rfl
theorem TX {s:ByteArray}:(D.str s).one=true:=rfl
theorem WE {xs:List D}:(D.sl xs).one=true:=rfl
theorem TZ:D.nil.one=true:=rfl
theorem WG {n o l:Nat}:(D.ms n o l).one=true:=rfl
theorem TY {n o l:Nat}:(D.ptr n o l).one=true:=rfl
theorem WH {f:FuncId}{a b:List D}:(D.fn f a b).one=true:=rfl
theorem YW {cs:List D}:(D.agg cs).vd=cs.all D.vone:=rfl
theorem YV {k:IntKind}{n:Int}:(D.int k n).vd=true:=rfl
theorem VY {b:Bool}:(D.bool b).vd=true:=rfl
theorem YT {s:ByteArray}:(D.str s).vd=true:=rfl
theorem aaJ {xs:List D}:(D.sl xs).vd=true:=rfl
theorem YU:D.nil.vd=true:=rfl
theorem RS {cs:List D}:(D.agg cs).isAgg=true:=rfl
theorem RQ {k:IntKind}{n:Int}:(D.int k n).isAgg=false:=rfl
theorem Pk {b:Bool}:(D.bool b).isAgg=false:=rfl
theorem RP {s:ByteArray}:(D.str s).isAgg=false:=rfl
attribute [simp] Ng Rl SX P6 SY T3 RF TX WE TZ WG TY WH YW YV VY YT aaJ YU RS RQ Pk RP
attribute [simp] Zu WK Slot.live Slot.used mf LC PE Sl UZ Sn Ol MN PC U5 Pe TV Zr U4 Sm U6 aa WD TW WA Zp WC Zq WB Zs TO av abH
end Go.Am
namespace Go.Am
open Go
variable [ca]
variable {P:Program}{KH:HKq}{h:Heap}
def Own (esz:Nat) (h:Heap) (v:D) (els:List D):Prop:=(v=.nil/\els=[])\/∃n,v=.ms n 0 els.length/\h n=.arr esz els
theorem Hn {x:D}(hx:x.vone=true):x.fzc h=x/\x.lG=[]/\p6 h x:=by
 cases x<;>simp_all [D.vone,D.fzc,D.lG,p6]
theorem jj {d:D}(h1:d.vd=true):d.fz h=d/\d.nm=[]/\nN h d:=by
 rcases IF h1 with I|⟨cs,rfl,G⟩
 ·have:=Hn (h:=h) I;cases d<;>simp_all [D.fz,D.nm,D.vone,nN,D.cells]
 ·refine⟨?_,?_,λ x hx=>(Hn (G x hx)).2.2⟩
  ·simp only[D.fz];congr 1;rw[List.map_congr_left (λ x hx=>(Hn (h:=h) (G x hx)).1)];simp
  ·simp only[D.nm];rw[List.flatMap_eq_nil_iff];exact λ x hx=>(Hn (h:=h) (G x hx)).2.1
theorem Mz {esz:Nat}{z d:D}(h1:d.vd=true) (h2:aL d) (h3:d.cells.length=esz) (hk:∀n,qE h n->KH (.ms n 0 1) (aF h n (.arr esz [d]))):ab P (.bldS true esz 1 z [(0,.c d)]) h KH:=by
 obtain⟨I,G,a3⟩:=jj (h:=h) h1;refine⟨λ p hp=>by grind [Arg.get],λ _ p hp=>by grind [Arg.get],λ n t=>?_⟩;grind [Arg.get,Heap.freezeAll,setEls]
theorem ZH {esz:Nat}{z:D}{fz:Bool}(hk:∀n,qE h n->KH (.ms n 0 0) (aF h n (.arr esz []))):ab P (.bldS fz esz 0 z []) h KH:=by
 refine⟨λ p hp=>by simp at hp,λ _ p hp=>by simp at hp,λ n t=>?_⟩;grind [Heap.freezeAll,setEls]
end Go.Am
namespace Go.Am
open Go
variable [ca]
variable {P:Program}{KH:HKq}{K:D->Prop}{h:Heap}
theorem mc {x:Arg}{s:Nat}{g:Bool}:au P (.ld x s g) h K=ab P (.ld x s g) h λ d _=>K d:=rfl
theorem JH {x:Arg}{a b c:Option Arg}{n:Nat}:au P (.mZ x a b c n) h K=ab P (.mZ x a b c n) h λ d _=>K d:=rfl
theorem ZX {x:Arg}{a b:Option Arg}:au P (.sslc x a b) h K=ab P (.sslc x a b) h λ d _=>K d:=rfl
theorem adB {x y:Arg}:au P (.mn x y) h K=ab P (.mn x y) h λ d _=>K d:=rfl
theorem adA {x y:Arg}:au P (.mx x y) h K=ab P (.mx x y) h λ d _=>K d:=rfl
theorem gJ {x y:Arg}{n:Nat}:au P (.iadd x y n) h K=ab P (.iadd x y n) h λ d _=>K d:=rfl
theorem MM {x y:Arg}{l n:Nat}:au P (.iadda x y l n) h K=ab P (.iadda x y l n) h λ d _=>K d:=rfl
theorem ZZ {x y:Arg}{len size:Nat}{agg:Bool}:au P (.sidx x y len size agg) h K=ab P (.sidx x y len size agg) h λ d _=>K d:=rfl
theorem Pu {k:IntKind}{x:Arg}:au P (.conv k x) h K=ab P (.conv k x) h λ d _=>K d:=rfl
theorem jL {c x y:Arg}:au P (.pick c x y) h K=ab P (.pick c x y) h λ d _=>K d:=rfl
theorem ab5 {x:Arg}{i:Nat}:au P (.ext x i) h K=ab P (.ext x i) h λ d _=>K d:=rfl
theorem ab4 {x:Arg}{o s:Nat}{g:Bool}:au P (.fld x o s g) h K=ab P (.fld x o s g) h λ d _=>K d:=rfl
theorem Lz {z:List D}{ps:List (Nat×Nat×Arg)}:au P (.bld z ps) h K=ab P (.bld z ps) h λ d _=>K d:=rfl
theorem YB {n g:Bool}{ks:List CK}{x y:Arg}:au P (.eqv n g ks x y) h K=ab P (.eqv n g ks x y) h λ d _=>K d:=rfl
theorem ZY {x:Arg}:au P (.slen x) h K=ab P (.slen x) h λ d _=>K d:=rfl
theorem ab3 {f:FuncId}{a b:List Arg}:au P (.mkf f a b) h K=ab P (.mkf f a b) h λ d _=>K d:=rfl
theorem QX {d:D}{j o:Nat}:au P (.fadd (.c (.vp d j)) o) h K=K (.vp d (j+o)):=rfl
theorem Ix {n i j o:Nat}:au P (.fadd (.c (.ptr n i j)) o) h K=((h n).used=true/\K (.ptr n i (j+o))):=rfl
theorem Mx {xs:List D}{a b c:Option Arg}{n:Nat}:ab P (.mZ (.c (.sl xs)) a b c n) h KH=vopt [] a 0 λ l=>vopt [] b xs.length λ r=>vopt [] c xs.length λ m=>0<=l/\l<=r/\r<=m/\m<=xs.length/\(∀d∈xs,d.cells.length=n) /\
    KH (.sl ((xs.drop l.toNat).take (r-l).toNat)) h:=rfl
theorem yT {m off len:Nat}{a b c:Option Arg}{n:Nat}:ab P (.mZ (.c (.ms m off len)) a b c n) h KH=vopt [] a 0 λ l=>vopt [] b len λ r=>vopt [] c len λ q=>0<=l/\l<=r/\r<=q/\q<=len/\(∃els,(h m).row=some (n,els)) /\
    KH (.ms m (off+l.toNat) (r-l).toNat) h:=rfl
theorem rQ {n:Nat}{Q:Int->Prop}:vopt [] none n Q=Q n:=rfl
theorem rP {k:IntKind}{i:Int}{n:Nat}{Q:Int->Prop}:vopt [] (some (.c (.int k i))) n Q=Q i:=rfl
theorem abC {k:IntKind}{a b:Int}:ab P (.mn (.c (.int k a)) (.c (.int k b))) h KH=KH (.int k (if b<a then b else a)) h:=by simp[ab,vcOp,Arg.get]
theorem abB {k:IntKind}{a b:Int}:ab P (.mx (.c (.int k a)) (.c (.int k b))) h KH=KH (.int k (if a<b then b else a)) h:=by simp[ab,vcOp,Arg.get]
theorem Up {n:Nat}{as:List Arg}:ab P (.callv (.c (.yld n)) as) h KH=((∃st B,h n=.lp st B)/\rN P n (as.map (·.get [])) h KH):=rfl
theorem db {f:FuncId}{as:List Arg}{r:D}(hv:aK P f (as.map (·.get [])) (· = r)) (hds:∀d,d∈as.map (·.get [])->d.vd=true/\aL d) (hk:K r):au P (.call f as) h K:=by
 have G:∀d,d∈as.map (·.get [])->d.fz h=d/\d.nm=[]/\nN h d:=λ d hd=>jj (hds d hd).1
 have e:(as.map λ x=>(x.get []).fz h)=as.map (·.get []):=by
  grind [List.map_congr_left]
 refine⟨r,by rw[e];exact hv,λ d hd=>⟨(hds d hd).2,(G d hd).2.2,by grind⟩,Or.inr ?_,hk⟩
 have I:(as.flatMap λ x=>(x.get []).nm)=[]:=by
  grind [List.flatMap_eq_nil_iff]
 rw[I];exact λ n hn=>by cases hn
theorem WX {cs:List D}{k:IntKind}{a:Int}{len size:Nat}{agg:Bool}:ab P (.sidx (.c (.agg cs)) (.c (.int k a)) len size agg) h KH=(0<len/\0<=a/\a<len/\vpart cs (a.toNat*size) size agg (KH · h)):=rfl
def dR:=And.intro @WX<|And.intro @mc (And.intro @JH (And.intro @ZX (And.intro @adB (And.intro @adA (And.intro @gJ (And.intro @MM (And.intro @ZZ (And.intro @Pu (And.intro @jL (And.intro @ab5 (And.intro @ab4 (And.intro @Lz (And.intro @YB (And.intro @ZY (And.intro @ab3 (And.intro @QX (And.intro @Ix (And.intro @Mx (And.intro @yT (And.intro @rQ (And.intro @rP (And.intro @abC (And.intro @abB (@Up))))))))))))))))))))))))
def amR:=And.intro vR (And.intro gR dR)
end Go.Am
namespace Go.Am
open Go
variable [ca]
variable {P:Program}
theorem VE {c:Ctx}(hr:aA c){M esz:Nat}{els els':List D}(hM:c.h M=.arr esz els) (hl:els'.length=els.length) (hc:∀e,e∈els'->e.cells.length=esz) (ho:mW els')
  (hv:∀i j d',aT els' i j=some d'->∃d,aT els i j=some d/\∀v,aB c d v->aB c d' v) :
  c.le ⟨c.ρ,c.X,aF c.h M (.arr esz els'),c.hp⟩/\aA ⟨c.ρ,c.X,aF c.h M (.arr esz els'),c.hp⟩:=by
 have sub:∀k,(aF c.h M (.arr esz els') k).mine->(c.h k).mine:=by
  intro k V;by_cases h:k=M
  ·subst h;rw[hM];trivial
  ·simpa[aF,h] using V
 have hle:c.le ⟨c.ρ,c.X,aF c.h M (.arr esz els'),c.hp⟩:=by
  refine⟨Nat.le_refl _,rfl,λ _ _ _=>rfl,λ _ cur _ _ h=>⟨cur,h,rfl⟩,λ _ r h=>⟨r,h,rfl⟩,λ _ _=>rfl,λ k=>?_,λ k g hm hρ _=>⟨k,sub k hm,hρ⟩⟩;by_cases h:k=M
  ·subst h;simp only[av];rw[hM];exact .arrArr _ _ _ (Nat.le_of_eq hl.symm)
  grind [an,Trans.refl]
 refine⟨hle,λ k=>?_,λ Q I g m1 m2 r1 Z=>hr.inj Q I g (sub Q m1) (sub I m2) r1 Z,λ k g hm hρ=>hr.apart k g (sub k hm) hρ,hr.xlt,?_,hr.glob.mono hle,hr.lo⟩
 ·by_cases h:k=M
  ·subst h;simp only[av];have hs:=hr.slot k;rw[hM]at hs;obtain⟨h1,h2,h3,h4⟩:=hs;refine⟨h1,hc,ho,?_⟩;rcases h4 with⟨q,q'⟩|⟨g,cur,ty,q1,q2,q3,q4⟩
   ·grind
   ·refine Or.inr ⟨g,cur,ty,q1,q2,by rw[hl];exact q3,λ i j d' G=>?_⟩;obtain⟨d,hd,hrel⟩:=hv i j d' G;exact(hrel _ (q4 i j d hd)).mono hle
  ·simp only[an _ _ h];exact iz hle (hr.slot k) (λ _ _=>rfl) (λ _ _ _=>rfl)
 ·obtain⟨N,hN⟩:=hr.fin;refine⟨N+M+1,λ k V=>?_⟩;grind [an]
theorem MD {h:Heap}{n m:Nat}(hne:m≠n):h.freeze n m=h m:=by
 unfold Heap.freeze;cases h n<;>simp only<;>try rfl
 exact an _ _ hne
theorem jG {m:Nat}:∀(ns:List Nat){h:Heap},m∉ns->h.freezeAll ns m=h m
 | [],_,_=>rfl
 | n::r,h,hm=>by
  simp only[List.mem_cons,not_or]at hm;show(h.freeze n).freezeAll r m=h m
  rw[jG r hm.2,MD hm.1]
theorem MC {h:Heap}{m:Nat}(n:Nat):(h.freeze m n).row=(h n).row:=by
 unfold Heap.freeze;cases hm:h m<;>simp only<;>try rfl
 by_cases he:n=m
 ·subst he;rw[av,hm];rfl
 ·rw[an _ _ he]
theorem uC:∀(ns:List Nat){h:Heap}(n:Nat),(h.freezeAll ns n).row=(h n).row
 | [],_,_=>rfl
 | m::r,h,n=>by
  show((h.freeze m).freezeAll r n).row=_
  rw[uC r,MC]
theorem RZ {h h':Heap}(hr:∀n,(h' n).row=(h n).row) (d:D):d.fzc h'=d.fzc h:=by
 cases d<;>simp[D.fzc,hr]
theorem Ut {h h':Heap}(hr:∀n,(h' n).row=(h n).row) (d:D):d.fz h'=d.fz h:=by
 have e:D.fzc h'=D.fzc h:=funext (RZ hr);cases d<;>simp only[D.fz,e]
theorem Pp {h h':Heap}(hr:∀n,(h' n).row=(h n).row){d:D}(hd:nN h d):nN h' d:=by
 intro x hx;have:=hd x hx;cases x<;>simp only[p6,hr]at this ⊢;exact this
structure Deep (h:Heap) (M:Nat) (els:List D):Prop where
 out:M∉els.flatMap D.nm
 el:∀e∈els,e.cells=[e]/\nN h e/\(e.fz h).vone=true/\e.one=true
end Go.Am
namespace Go.Am
open Go
section keep
variable {H:Type}{enc:TypeId×Value->H}{P:Program}{w w':World}{base:Nat}{spare:Nat->Bool}{held:Bool}
theorem oX {α β:Type}{f g:α->Option β}(hk:∀a b,f a=some b->g a=some b):∀{l:List α}{r:List β},l.mapM f=some r->l.mapM g=some r
 | [],r,h=>by simpa using h
 | a::l,r,h=>by
  simp only[List.mapM_cons,Option.bind_eq_bind,Option.bind_eq_some_iff,Option.pure_def,Option.some.injEq]at h ⊢;obtain⟨b,hb,r',G,rfl⟩:=h;exact⟨b,hk a b hb,r',oX hk G,rfl⟩
theorem Sp (hk:∀b,b<w.heap.size->w'.heap[b]?=w.heap[b]?){a:Addr}{v:Value}(h:w.cell? a=some v):w'.cell? a=some v:=by
 grind [World.cell?]
theorem PD (hk:∀b,b<w.heap.size->w'.heap[b]?=w.heap[b]?){a:Addr}{n:Nat}{cs:List Value}(h:w.cells? base a n=some cs):w'.cells? base a n=some cs:=by
 grind [World.cells?,oX,Sp]
theorem Rq (hk:∀b,b<w.heap.size->w'.heap[b]?=w.heap[b]?):∀(n:Nat) (t:TypeId) (cs:List Value) (x:DataW H×List MemPlace),DataW.trod enc P w base spare held n t cs=some x->DataW.trod enc P w' base spare held n t cs=some x:=by
 intro n
 induction n with
 | zero=>intro t cs x h;simp[DataW.trod]at h
 | succ n I =>
  intro t cs x h
  have el:∀(a:Addr) (k:Nat) (e:TypeId) y,(w.cells? base a k).bind (DataW.trod enc P w base spare held n e)=some y->(w'.cells? base a k).bind (DataW.trod enc P w' base spare held n e)=some y:=by
   grind [Option.bind_eq_some_iff,PD]
  unfold DataW.trod at h ⊢;generalize P.underlying t=ut at h ⊢;split at h
  case h_6 e a =>
   grind [Option.map_eq_some_iff]
  case h_8 e a len cap =>
   simp only at h ⊢;split at h
   ·rename_i hc;rw[if_pos hc];rw[Option.bind_eq_some_iff]at h ⊢;grind [oX,Option.map_eq_some_iff]
   ·cases h
  case h_9 fs =>
   grind [Option.map_eq_some_iff,oX]
  case h_10 m e =>
   grind [Option.map_eq_some_iff,oX]
  case h_12 u v =>
   grind [Option.map_eq_some_iff]
  case h_14 k e b =>
   cases hb:w.heap[b]? with
   | none=>simp[hb]at h
   | some o =>
    have G:=(Array.getElem?_eq_some_iff.1 hb).1;rw[hk b G];rw[hb]at h ⊢;cases o<;>simp only at h ⊢<;>try (cases h;done)
    grind [Option.bind_eq_some_iff,oX,Option.map_eq_some_iff]
  all_goals grind
theorem B8 (hk:∀b,b<w.heap.size->w'.heap[b]?=w.heap[b]?):∀{ts:List TypeId}{vs:List Value}{ds:List (DataW H)}{ps:List MemPlace},DataW.TrodAll enc P w base spare held ts vs ds ps->DataW.TrodAll enc P w' base spare held ts vs ds ps
 | [],[],[],_,h=>h
 | _::_,_::_,_::_,_,⟨p,q,⟨n,h1⟩,h2,e⟩=>⟨p,q,⟨n,Rq hk n _ _ _ h1⟩,B8 hk h2,e⟩
end keep
end Go.Am
namespace Go.Am
open Go
variable [ca]
variable {H:Type}{enc:TypeId×Value->H}{P:Program}
def mkElem (P:Program) (e:TypeId) (cs:List D):D :=
 match P.underlying e with
 | some (.struct _)=>.agg cs
 | some (.array _ _)=>.agg cs
 | _=>cs.headD .undef
def HasTy (P:Program):Nat->TypeId->List D->Prop
 | 0,_,_=>False
 | n+1,t,ds=>match P.underlying t with
  | some .bool=>∃b,ds=[.bool b]
  | some (.int k)=>∃i,ds=[.int k i]/\(Lit.int k i).wf=true
  | some .string=>∃s:ByteArray,ds=[.str s]/\s.size<=maxLen
  | some (.slice e)=>∃xs:List (List D),ds=[.sl (xs.map (mkElem P e))]/\xs.length<=maxLen/\∀x∈xs,HasTy P n e x
  | some (.struct fs)=>ds.length=P.cellsOf t/\∀f∈fs.toList,HasTy P n f.type ((ds.drop f.offset).take (P.cellsOf f.type))
  | some (.array m e)=>ds.length=P.cellsOf t/\∀i,i<m->HasTy P n e ((ds.drop (i*P.cellsOf e)).take (P.cellsOf e))
  | _=>False
def contig (P:Program) (total:Nat):List (TypeId×Nat)->Nat->Bool
 | [],o=>o == total
 | f::r,o=>f.2 == o&&contig P total r (o+P.cellsOf f.1)
def plainT (P:Program):Nat->TypeId->Bool
 | 0,_=>false
 | n+1,t=>match P.underlying t with
  | some .bool=>P.cellsOf t == 1
  | some (.int _)=>P.cellsOf t == 1
  | some .string=>P.cellsOf t == 1
  | some (.slice e)=>P.cellsOf t == 1&&decide (0<P.cellsOf e)&&plainT P n e
  | some (.struct fs)=>fs.toList.all (λ f=>plainT P n f.type)&&contig P (P.cellsOf t) (fs.toList.map λ f=>(f.type,f.offset)) 0
  | some (.array m e)=>plainT P n e&&contig P (P.cellsOf t) ((List.range m).map λ i=>(e,i*P.cellsOf e)) 0
  | _=>false
theorem Pl {cs:List D}(h1:cs.length=1) (hv:∀(i:Nat) (x:D),cs[i]?=some x->x.vone=true):(cs.headD .undef).cells=cs:=by
 cases cs with
 | nil=>simp at h1
 | cons d r =>
  have:r=[]:=List.eq_nil_of_length_eq_zero (by simpa using h1);subst this;have:=hv 0 d rfl;cases d<;>simp_all [D.vone,D.cells]
theorem Mj {n:Nat}{e:TypeId}{cs:List D}(hp:plainT P n e=true) (hl:cs.length=P.cellsOf e) (hv:∀(i:Nat) (x:D),cs[i]?=some x->x.vone=true):(mkElem P e cs).cells=cs:=by
 unfold mkElem;split
 ·rfl
 ·rfl
 ·cases n with
  | zero=>simp[plainT]at hp
  | succ n =>
   grind [plainT,Pl]
theorem parts {c:Ctx}{m:Nat}{total:Nat}(cs:List Value) (hcs:cs.length=total):∀(l:List (TypeId×Nat)) (o:Nat),contig P total l o=true ->
  (∀f∈l,∃ds:List D,HasTy P m f.1 ds/\ds.length=P.cellsOf f.1/\∀(i:Nat) (d:D),ds[i]?=some d->d.vone=true/\aB c d (((cs.drop f.2).take (P.cellsOf f.1)).getD i Go.undef)) ->
  ∃ds:List D,ds.length=cs.length-o/\(∀f∈l,HasTy P m f.1 ((ds.drop (f.2-o)).take (P.cellsOf f.1))/\o<=f.2)/\∀(i:Nat) (d:D),ds[i]?=some d->d.vone=true/\aB c d (cs.getD (o+i) Go.undef)
 | [],o,hc,_=>by
  simp only[contig,beq_iff_eq]at hc;exact⟨[],by simp;omega,by simp,by simp⟩
 | f::r,o,hc,I=>by
  simp only[contig,Bool.and_eq_true,beq_iff_eq]at hc;obtain⟨Q,G⟩:=hc;obtain⟨d1,a1,a2,a3⟩:=I f (by simp);obtain⟨d2,b1,b2,Z⟩:=parts cs hcs r (o+P.cellsOf f.1) G (λ g hg=>I g (by simp[hg]))
  have hle:o+P.cellsOf f.1<=total:=by
   have:∀(l:List (TypeId×Nat)) (o:Nat),contig P total l o=true->o<=total:=by
    intro l
    induction l with
    | nil=>grind [contig]
    | cons g s V=>grind [contig]
   exact this _ _ G
  refine⟨d1++d2,by simp;omega,λ g hg=>?_,λ i d hd=>?_⟩
  ·grind [List.drop_append,List.drop_eq_nil_of_le,Nat.add_sub_cancel_left]
  grind
theorem Te {W:World}{sp:Nat->Bool}{c:Ctx}(hp:c.hp=W.heap) (hown:∀g,¬c.own g):∀(m:Nat) (t:TypeId),plainT P m t=true->∀(n:Nat) (cs:List Value) (x:DataW H×List MemPlace),DataW.trod enc P W 0 sp true n t cs=some x ->
  cs.length=P.cellsOf t/\∃ds:List D,HasTy P m t ds/\ds.length=cs.length/\∀(i:Nat) (d:D),ds[i]?=some d->d.vone=true/\aB c d (cs.getD i Go.undef):=by
 intro m
 induction m with
 | zero=>intro t h;simp[plainT]at h
 | succ m ih =>
  intro t G n cs x h;unfold plainT at G
  have one:∀(d:D) (v:Value),cs=[v]->d.vone=true->aB c d v->([d]:List D).length=cs.length/\∀(i:Nat) (d':D),[d][i]?=some d'->d'.vone=true/\aB c d' (cs.getD i Go.undef):=by
   rintro d v rfl h1 h2;refine⟨rfl,λ i d' hd=>?_⟩
   cases i with
   | zero=>simp at hd;subst hd;exact⟨h1,by simpa using h2⟩
   | succ i=>simp at hd
  split at G
  ·
   rename_i hu
   cases n with
   | zero=>simp[DataW.trod]at h
   | succ n =>
    unfold DataW.trod at h;rw[hu]at h;split at h<;>simp_all;rename_i b
    exact⟨[.bool b],by unfold HasTy;rw[hu];exact⟨b,rfl⟩,by simp,λ i d hd=>by
     cases i with
     | zero=>simp at hd;subst hd;exact⟨rfl,by simpa using aB.bool (c:=c) b⟩
     | succ i=>simp at hd⟩
  ·rename_i k hu
   cases n with
   | zero=>simp[DataW.trod]at h
   | succ n =>
    unfold DataW.trod at h;rw[hu]at h;split at h<;>simp_all;rename_i kq b5 i' hq;have c4:=h.1.1;subst c4
    exact⟨[.int b5 i'],by unfold HasTy;rw[hu];exact⟨i',rfl,h.1.2⟩,by simp,λ i d hd=>by
     cases i with
     | zero=>simp at hd;subst hd;exact⟨rfl,by simpa using aB.int (c:=c) b5 i'⟩
     | succ i=>simp at hd⟩
  ·rename_i hu
   cases n with
   | zero=>simp[DataW.trod]at h
   | succ n =>
    unfold DataW.trod at h;rw[hu]at h;split at h<;>simp_all;rename_i s
    exact⟨[.str s],by unfold HasTy;rw[hu];exact⟨s,rfl,h.1⟩,by simp,λ i d hd=>by
     cases i with
     | zero=>simp at hd;subst hd;exact⟨rfl,by simpa using aB.str (c:=c) s⟩
     | succ i=>simp at hd⟩
  ·
   rename_i e hu;simp only[Bool.and_eq_true,beq_iff_eq,decide_eq_true_eq]at G;obtain⟨⟨c0,b2⟩,a7⟩:=G;rcases DataW.trod_slice hu h with⟨rfl,_⟩|⟨a,len,cap,elems,rest,n',rfl,rfl,_,hb,hl,hm,hlen,c7,_,_⟩
   ·refine⟨by rw[c0];rfl,[.sl []],?_,one (.sl []) _ rfl rfl (.iN none 0 (by simp[maxLen]))⟩;unfold HasTy;rw[hu];exact⟨[],rfl,by simp[maxLen],by simp⟩
   ·
    have each:∀i,i<len->∃(vs:List Value) (ds:List D),W.cells? 0 (a.add (i*P.cellsOf e)) (P.cellsOf e)=some vs/\HasTy P m e ds/\ds.length=P.cellsOf e/\vs.length=P.cellsOf e/\∀(j:Nat) (d:D),ds[j]?=some d->d.vone=true/\aB c d (vs.getD j Go.undef):=by
     intro i hi;have h1:=c7 i hi;have h2:elems[i]?=some (elems[i]'(by omega)):=by simp[show i<elems.length by omega]
     rw[h2,Option.bind_eq_some_iff]at h1;obtain⟨vs,h3,h4⟩:=h1;obtain⟨k1,ds,k2,k3,k4⟩:=ih e a7 n' vs _ h4;exact⟨vs,ds,h3,k2,k3.trans k1,k1,k4⟩
    let vf:Nat->List Value:=λ i=>if h:i<len then(each i h).choose else []
    let df:Nat->List D:=λ i=>if h:i<len then(each i h).choose_spec.choose else []
    have spec:∀i,i<len->W.cells? 0 (a.add (i*P.cellsOf e)) (P.cellsOf e)=some (vf i)/\HasTy P m e (df i)/\(df i).length=P.cellsOf e/\(vf i).length=P.cellsOf e/\∀(j:Nat) (d:D),(df i)[j]?=some d->d.vone=true/\aB c d ((vf i).getD j Go.undef):=by
     intro i hi;simp only[vf,df,dif_pos hi];exact(each i hi).choose_spec.choose_spec
    let xs:List (List D):=(List.range len).map df
    have V:xs.length=len:=by simp[xs]
    have c2:∀i,i<len->xs[i]?=some (df i):=by intro i hi;simp[xs,hi]
    have I:∀i,i<len->(mkElem P e (df i)).cells=df i:=λ i hi=>Mj a7 (spec i hi).2.2.1 (λ j x hx=>((spec i hi).2.2.2.2 j x hx).1)
    refine⟨by rw[c0];rfl,[.sl (xs.map (mkElem P e))],?_,?_⟩
    ·unfold HasTy;rw[hu];refine⟨xs,rfl,by rw[V];omega,λ x hx=>?_⟩;obtain⟨i,hi,rfl⟩:=List.mem_map.1 hx;exact(spec i (by simpa using hi)).2.1
    ·have a8:len=(xs.map (mkElem P e)).length:=by simp[V]
     refine one _ _ rfl rfl ?_;by_cases h0:len=0
     ·subst h0;have:xs=[]:=List.eq_nil_of_length_eq_zero V;rw[this];exact .iN _ cap hm
     ·have hz:=(World.cells?_some (spec 0 (by omega)).1).2.2 0 (by omega)
      have b1:∃v,W.cell? a=some v:=by
       have e0:(a.add (0*P.cellsOf e)).add 0=a:=by simp[Addr.add]
       rw[e0]at hz;have:0<(vf 0).length:=by rw[(spec 0 (by omega)).2.2.2.1];exact b2
       exact⟨(vf 0)[0],by rw[hz];simp[this]⟩
      obtain⟨v0,Z⟩:=b1
      have a1:a=⟨a.block,a.off,none⟩:=by
       unfold World.cell? at Z;split at Z
       ·split at Z
        ·cases Z
        ·rename_i hs;obtain⟨b,o,s⟩:=a
         cases s with
         | none=>rfl
         | some s=>simp at hs
       ·cases Z
      have b4:∀i j d,aT (xs.map (mkElem P e)) i j=some d->i<len/\(df i)[j]?=some d:=by
       intro i j d hd;unfold aT at hd;rw[List.getElem?_map]at hd;by_cases hi:i<len
       ·rw[c2 i hi]at hd;simp only[Option.map_some,Option.bind_some]at hd;rw[I i hi]at hd;exact⟨hi,hd⟩
       ·have:xs[i]?=none:=List.getElem?_eq_none (by omega);rw[this]at hd;simp at hd
      have:=aB.sl (c:=c) (xs.map (mkElem P e)) a.block a.off cap (P.cellsOf e) (λ i j=>(vf i).getD j Go.undef) (by intro he;rw[he]at a8;simp at a8;omega) (by rw[<- a8];exact hl) hm b2
       (λ x hx=>by
        obtain⟨y,hy,rfl⟩:=List.mem_map.1 hx;obtain⟨i,hi,rfl⟩:=List.mem_map.1 hy;rw[I i (by simpa using hi)]
        exact(spec i (by simpa using hi)).2.2.1)
       (λ i j d hd=>by
        obtain⟨hi,hj⟩:=b4 i j d hd
        exact((spec i hi).2.2.2.2 j d hj).1)
       (λ i j d hd=>by
        obtain⟨hi,hj⟩:=b4 i j d hd;have b3:=(ar.1 hj).1;rw[(spec i hi).2.2.1]at b3;have hz:=(World.cells?_some (spec i hi).1).2.2 j b3
        have e1:(a.add (i*P.cellsOf e)).add j=⟨a.block,a.off+(i*P.cellsOf e+j),none⟩:=by
         have c1:∀(b o x:Nat),((⟨b,o,none⟩:Addr).add x).add j=⟨b,o+(x+j),none⟩:=by
          intro b o x;rw[Addr.add_lit,Addr.add_lit,Nat.add_assoc]
         have:=c1 a.block a.off (i*P.cellsOf e);rw[<- a1]at this;exact this
        rw[e1,pD]at hz;rw[hp,hz];have c5:j<(vf i).length:=by rw[(spec i hi).2.2.2.1];exact b3
        simp[List.getD,c5])
       (hown _) (λ i j d hd=>by
        obtain⟨hi,hj⟩:=b4 i j d hd
        exact((spec i hi).2.2.2.2 j d hj).2)
      rw[<- a8]at this;rw[a1];exact this
  ·
   rename_i fs hu;simp only[Bool.and_eq_true,List.all_eq_true]at G;obtain⟨c3,a6⟩:=G;obtain⟨xs,n',rfl,_,Q,V,hf⟩:=DataW.trod_struct hu h
   obtain⟨ds,q1,q2,q3⟩:=parts (c:=c) (m:=m) cs (by rw[Q]) _ 0 a6 (λ f a2=>by
    simp only[List.mem_map]at a2;obtain⟨f',b7,rfl⟩:=a2;obtain⟨i,hi⟩:=ba b7;have h1:=hf i f' (by simpa using hi)
    have c6:i<xs.length:=by
     have:=(ar.1 hi).1;rw[V];simpa using this
    have h2:xs[i]?=some xs[i]:=by simp[c6]
    rw[h2]at h1;obtain⟨k1,ds,k2,k3,k4⟩:=ih f'.type (c3 f' b7) n' _ _ h1
    exact⟨ds,k2,k3.trans k1,k4⟩)
   refine⟨Q,ds,?_,by simpa using q1,λ i d hd=>by simpa using q3 i d hd⟩;unfold HasTy;rw[hu];exact⟨by rw[q1,Q];rfl,λ f hf=>by simpa using (q2 (f.type,f.offset) (List.mem_map.2 ⟨f,hf,rfl⟩)).1⟩
  ·
   rename_i k e hu;simp only[Bool.and_eq_true]at G;obtain⟨a7,a6⟩:=G;obtain⟨xs,n',rfl,_,Q,V,hf⟩:=DataW.trod_array hu h
   obtain⟨ds,q1,q2,q3⟩:=parts (c:=c) (m:=m) cs (by rw[Q]) _ 0 a6 (λ f a2=>by
    simp only[List.mem_map,List.mem_range]at a2;obtain⟨i,hi,rfl⟩:=a2;have h1:=hf i hi;have h2:xs[i]?=some (xs[i]'(by omega)):=by simp[show i<xs.length by omega]
    rw[h2]at h1;obtain⟨k1,ds,k2,k3,k4⟩:=ih e a7 n' _ _ h1
    exact⟨ds,k2,k3.trans k1,k4⟩)
   refine⟨Q,ds,?_,by simpa using q1,λ i d hd=>by simpa using q3 i d hd⟩;unfold HasTy;rw[hu];exact⟨by rw[q1,Q];rfl,λ i hi=>by simpa using (q2 (e,i*P.cellsOf e) (List.mem_map.2 ⟨i,by simpa using hi,rfl⟩)).1⟩
  ·cases G
end Go.Am
namespace Go.Am
open Go
variable [ca]
variable {H:Type}{enc:TypeId×Value->H}{P:Program}
theorem Zt {W:World}{r:Reach}{b:Nat}{t:TypeId}{cs:Array Value}(h:Cell.okWide P W r b t (.agg cs)):False:=by
 unfold Cell.okWide at h
 split at h<;>first
  | (rename_i h2;cases h2;done)
  | (rename_i h2 _;cases h2;done)
  | skip
 unfold Cell.ok at h;grind
theorem XQ {W:World}{sp:Nat->Bool}{c:Ctx}(hp:c.hp=W.heap) (hown:∀g,¬c.own g){m:Nat}{t:TypeId}(hpt:plainT P m t=true){base:Nat}{v:Value}{d:DataW H}{ps:List MemPlace}
  (hval:Value.okWide P W .any base t v) (hd:DataW.Trod enc P W 0 sp true t v d ps):∃ds:List D,HasTy P m t ds/\aB c (mkElem P t ds) v:=by
 obtain⟨n,hn⟩:=hd;obtain⟨hl,ds,h1,h2,h3⟩:=Te hp hown m t hpt n _ _ hn;refine⟨ds,h1,?_⟩
 have one:(∀cs,v≠.agg cs)->ds.length=1->aB c (ds.headD .undef) v:=by
  intro G I;have hc:v.cells = #[v]:=by cases v<;>first|rfl|exact absurd rfl (G _)
  obtain⟨x,hx⟩:∃x,ds[0]?=some x:=⟨ds[0]'(by omega),by grind⟩;have:=(h3 0 x hx).2;rw[hc]at this
  have e:ds.headD .undef=x:=by
   cases ds with
   | nil=>simp at hx
   | cons a r=>simpa using hx
  rw[e];simpa using this
 have agg:∀cs,v=.agg cs->aB c (.agg ds) v:=by
  rintro cs rfl;refine .agg ds cs (by grind [Value.cells]) (λ i x hx=>D.kz (h3 i x hx).1) (λ i x hx=>?_);have:=(h3 i x hx).2;rw[<- aO];exact this
 unfold Value.okWide at hval;unfold mkElem
 cases m with
 | zero=>simp[plainT]at hpt
 | succ m =>
  grind [plainT,Zt]
def Ki (P:Program) (m:Nat):List TypeId->List D->Prop
 | [],ds=>ds=[]
 | t::ts,ds=>∃cs r,ds=mkElem P t cs::r/\HasTy P m t cs/\Ki P m ts r
theorem OJ {W:World}{sp:Nat->Bool}{c:Ctx}(hp:c.hp=W.heap) (hown:∀g,¬c.own g){m base:Nat}:∀(ts:List TypeId) (vs:List Value) (ds:List (DataW H)) (ps:List MemPlace),ts.all (plainT P m)=true ->
  (∀(j:Nat) t v,ts[j]?=some t->vs[j]?=some v->Value.okWide P W .any base t v)->DataW.TrodAll enc P W 0 sp true ts vs ds ps->vs.length=ts.length/\ds.length=ts.length /\
   ∃xs:List D,Ki P m ts xs/\xs.length=ts.length/\∀(i:Nat) (x:D),xs[i]?=some x->aB c x (vs.getD i Go.undef)
 | [],vs,ds,ps,_,_,h=>by
  obtain⟨rfl,rfl,rfl⟩:=trodAll_nil' h;exact⟨rfl,rfl,[],rfl,rfl,by simp⟩
 | t::ts,vs,ds,ps,I,G,h=>by
  simp only[List.all_cons,Bool.and_eq_true]at I;obtain⟨v,Q,d,V,p,q,rfl,rfl,rfl,h1,h2⟩:=ChangeShapes.trodAll_cons h;obtain⟨cs,k1,k2⟩:=XQ hp hown I.1 (G 0 t v rfl rfl) h1;obtain⟨l1,Z,xs,k3,k4,k5⟩:=OJ hp hown ts Q V q I.2 (λ j t v ht hv=>G (j+1) t v (by simpa using ht) (by simpa using hv)) h2;refine⟨by simp[l1],by simp[Z],mkElem P t cs::xs,⟨cs,xs,rfl,k1,k3⟩,by simp[k4],λ i x hx=>?_⟩;grind
where
 trodAll_nil' {vs:List Value}{ds:List (DataW H)}{ps:List MemPlace}(h:DataW.TrodAll enc P W 0 sp true [] vs ds ps):vs=[]/\ds=[]/\ps=[]:=ChangeShapes.trodAll_nil h
theorem RN {f:FuncId}{fn:Func}{s:ChangeSpec}{m:Nat}{tb:TypeId}(hpl:fn.params.toList.all (plainT P m)=true) (hrt:fn.resultTypes = #[tb]) (htb:P.underlying tb=some .bool)
  (hvars:s.vars=[]) (hspec:∀ds:List (DataW H),ds.length=fn.params.size->s.fn H (ds++[])={ results:=[.lit (.bool true)],args:=ds })
  (hl:laidOutB P=true) (hm:mapsRowed P=true) (hfull:((List.range P.types.size).all λ t=>match P.underlying t with|some (.slice e)=>decide (0<P.cellsOf e)|_=>true)=true)
  (hin:∀t∈fn.params.toList,t<P.types.size)
  (hv:∀xs,Ki P m fn.params.toList xs->aK P f xs (· = .bool true))
  (W:World) (base:Nat) (args:Array Value) (ds gs:List (DataW H)) (before:List MemPlace)
  (hval:∀(j:Nat) t v,fn.params[j]?=some t->args[j]?=some v->Value.okWide P W .any base t v)
  (hW:DataW.Whole enc P fn.params.toList s.vars false W args.toList ds gs before)
  (htab:∀g vs,ca.tab g=some vs->g<W.heap.size/\∀(k:Nat) (v:Value),vs[k]?=some v->cellOf W.heap g k=some v) :
  Calls P f args W λ e W'=>∃v,e=.returned v/\s.post enc P fn false true false false W args v W':=by
 have Q:=hW;obtain⟨p,q,hA,hV,rfl,a2,a1⟩:=hW;rw[hvars]at hV;obtain⟨rfl,rfl⟩:=ChangeShapes.trodVars_none hV
 let c:Ctx:=⟨λ _=>none,⟨λ _=>False,0,[]⟩,gY,W.heap⟩
 have hown:∀g,¬c.own g:=by
  rintro g (h|⟨n,h,_⟩)
  ·exact h
  ·cases h
 have hr:aA c:=⟨λ n=>trivial,λ n m' g h=>(by cases h),λ n g h=>(by cases h),λ g h=>h.elim,⟨0,λ n _=>rfl⟩,λ g vs hg=>⟨(htab g vs hg).2,hown g,(htab g vs hg).1⟩,Nat.zero_le _⟩;obtain⟨l1,l2,xs,h1,h2,h3⟩:=OJ (c:=c) rfl hown fn.params.toList args.toList ds p hpl (λ j t v ht hv=>hval j t v (by simpa using ht) (by simpa using hv)) hA;refine(hv xs h1 c W args (λ _=>rfl) rfl hr (by rw[h2, <- l1];simp) (λ i x hx=>by grind [aO])).mono ?_;rintro e W' ⟨v,r,rfl,hle,I,hrel,_,rfl⟩;have V:v=.bool true:=by cases hrel;rfl
 subst V;have hk:∀b,b<W.heap.size->W'.heap[b]?=W.heap[b]?:=λ b hb=>hle.keep b hb (λ n hn=>by cases hn)
 have Z:ds.length=fn.params.size:=by rw[l2];simp
 have G:=hspec ds Z;refine⟨_,rfl,ds,[],p++[],[],p,[],Q,?_,?_,?_,?_,λ h=>by cases h⟩
 ·rw[G,hrt];exact ChangeShapes.trodAll_mk1 (RowKit.shut_bool htb true)
 ·rw[G];refine B8 hk ?_;exact DataW.TrodAll.respare (kids_rows hl hm) (slices_full_of P hfull) hin hA (λ x hx=>by simpa using Q.lt x (by simpa using hx))
 ·rw[hvars,G];rfl
 ·refine⟨I.os,I.output,λ i hi=>?_⟩;grind
end Go.Am
namespace Go.Am
open Go
theorem ZD (a b:Nat) (ha:a<18446744073709551616) (hb:b<18446744073709551616):ibits .and .u64 (a:Int) (b:Int)=((a &&& b:Nat):Int):=by
 grind [IntKind.wrap,IntKind.signed,IntKind.bits,ibits]
theorem Ul (a b:Nat) (hb:b<=64):Jt .u64 (a:Int) (b:Int)=((a / 2 ^ b:Nat):Int):=by
 grind [Jt,IntKind.bits]
theorem SU (n:Nat):IntKind.u64.wrap (n:Int)=((n % 18446744073709551616:Nat):Int):=by
 grind [IntKind.wrap,IntKind.signed,IntKind.bits]
variable {P:Program}{m:Nat}{t e:TypeId}{k:IntKind}{ds:List D}
theorem Fp (h:P.underlying t=some (.int k)) (hd:HasTy P (m+1) t ds):∃i,ds=[.int k i]/\k.min<=i/\i<=k.max:=by
 grind [HasTy,Lit.wf]
theorem Gv (h:P.underlying t=some (.slice e)) (hd:HasTy P (m+1) t ds):∃xs:List (List D),ds=[.sl (xs.map (mkElem P e))]/\xs.length<=maxLen/\∀x∈xs,HasTy P m e x:=by
 grind [HasTy]
def structL (P:Program) (t:TypeId):Option (List (TypeId×Nat)):=match P.underlying t with
 | some (.struct fs)=>some (fs.toList.map λ f=>(f.type,f.offset))
 | _=>none
theorem CV {l:List (TypeId×Nat)}(h:structL P t=some l) (hd:HasTy P (m+1) t ds):ds.length=P.cellsOf t/\∀q∈l,HasTy P m q.1 ((ds.drop q.2).take (P.cellsOf q.1)):=by
 grind [HasTy,structL]
theorem Gw {n:Nat}(h:P.underlying t=some (.array n e)) (hd:HasTy P (m+1) t ds):ds.length=P.cellsOf t/\∀i,i<n->HasTy P m e ((ds.drop (i*P.cellsOf e)).take (P.cellsOf e)):=by
 grind [HasTy]
theorem RG {l:List (TypeId×Nat)}(h:structL P t=some l) (cs:List D):mkElem P t cs=.agg cs:=by
 grind [structL,mkElem]
theorem NH {n:Nat}(h:P.underlying t=some (.array n e)) (cs:List D):mkElem P t cs=.agg cs:=by unfold mkElem;rw[h]
theorem Zx (h:P.underlying t=some (.int k)) (d:D):mkElem P t [d]=d:=by unfold mkElem;rw[h];rfl
theorem Ua (h:P.underlying t=some (.slice e)) (d:D):mkElem P t [d]=d:=by unfold mkElem;rw[h];rfl
theorem Pm (h:P.underlying t=some (.slice e)) (he:P.underlying e=some (.int k)) (hd:HasTy P (m+2) t ds):∃xs:List Int,ds=[.sl (xs.map (.int k))]/\xs.length<=maxLen/\∀x∈xs,k.min<=x/\x<=k.max:=by
 obtain⟨xs,h1,h2,h3⟩:=Gv h hd
 have:∃ys:List Int,xs.map (mkElem P e)=ys.map (.int k)/\ys.length=xs.length/\∀x∈ys,k.min<=x/\x<=k.max:=by
  clear h1 h2
  induction xs with
  | nil=>exact⟨[],rfl,rfl,λ x hx=>by cases hx⟩
  | cons x r G =>
   obtain⟨ys,g1,V,Z⟩:=G λ x hx=>h3 x (List.mem_cons_of_mem _ hx)
   obtain⟨i,hi,Q,I⟩:=Fp he (h3 x List.mem_cons_self);refine⟨i::ys,?_,by simp[V],λ y hy=>?_⟩
   ·grind [Zx]
   grind
 grind
end Go.Am
namespace Go.Am
open Go
variable [ca]
variable {P:Program}
structure Rj (h:Heap) (M esz:Nat) (els:List D):Prop where
 out:M∉els.flatMap D.nm
 el:∀e∈els,aL e/\nN h e/\∀y,y∈(e.fz h).cells->y.vone=true
def zg (h:Heap) (M esz:Nat) (els:List D):Heap:=aF (h.freezeAll (els.flatMap D.nm)) M (.arr esz (els.map (D.fz h)))
theorem Lm {h:Heap}{M esz:Nat}{els:List D}:zg h M esz els M=.arr esz (els.map (D.fz h)):=av _ _ _
theorem Jv {h:Heap}{M esz k:Nat}{els:List D}(h1:k≠M) (h2:k∉els.flatMap D.nm):zg h M esz els k=h k:=by
 unfold zg;rw[an _ _ h1,jG _ h2]
theorem MB {h:Heap}{e:D}:(e.fz h).cells.length=e.cells.length:=by
 cases e with
 | ms n off len =>
  simp only[D.fz,D.fzc]
  cases hr:(h n).row with
  | none=>rfl
  | some p=>obtain⟨a,b⟩:=p;rfl
 | agg cs=>simp[D.fz,D.cells]
 | _=>rfl
theorem W5 {h:Heap}{e:D}{j:Nat}:(e.fz h).cells[j]?=(e.cells[j]?).map (D.fzc h):=by
 cases e with
 | agg cs=>simp[D.fz,D.cells]
 | ms n off len =>
  simp only[D.fz,D.cells,D.fzc]
  cases j with
  | zero =>
   cases hr:(h n).row with
   | none=>simp[D.fzc,hr]
   | some p=>obtain⟨a,b⟩:=p;simp[D.fzc,hr]
  | succ j =>
   cases hr:(h n).row with
   | none=>simp
   | some p=>obtain⟨a,b⟩:=p;simp
 | _=>cases j<;>simp[D.fz,D.fzc,D.cells]
theorem NR {c:Ctx}(hr:aA c){M esz:Nat}{els:List D}(hM:c.h M=.arr esz els) (hd:Rj c.h M esz els) :
  c.le ⟨c.ρ,c.X,zg c.h M esz els,c.hp⟩/\aA ⟨c.ρ,c.X,zg c.h M esz els,c.hp⟩:=by
 obtain⟨g1,g2⟩:=dP hr (els.flatMap D.nm);have a7:(c.h.freezeAll (els.flatMap D.nm)) M=.arr esz els:=by rw[jG _ hd.out,hM]
 have hlen:∀e∈els,e.cells.length=esz:=by
  have:=hr.slot M;rw[hM]at this;exact this.2.1
 have key:=VE (c:=⟨c.ρ,c.X,c.h.freezeAll (els.flatMap D.nm),c.hp⟩) g2 (els':=els.map (D.fz c.h)) a7 (by simp) (λ e he=>?_) (λ i j d h=>?_) (λ i j d' h=>?_)
 ·exact⟨g1.trans key.1,key.2⟩
 ·simp only[List.mem_map]at he;obtain⟨x,hx,rfl⟩:=he;rw[MB];exact hlen x hx
 ·simp only[aT,List.getElem?_map,Option.bind_eq_some_iff,Option.map_eq_some_iff]at h;obtain⟨e,⟨x,hx,rfl⟩,h2⟩:=h;exact D.kz ((hd.el x (ak hx)).2.2 d (ak h2))
 ·simp only[aT,List.getElem?_map,Option.bind_eq_some_iff,Option.map_eq_some_iff]at h;obtain⟨e,⟨x,hx,rfl⟩,h2⟩:=h;obtain⟨q1,q2,q3⟩:=hd.el x (ak hx);rw[W5,Option.map_eq_some_iff]at h2;obtain⟨y,hy,rfl⟩:=h2;refine⟨y,by simp[aT,hx,hy],λ v hv=>?_⟩;have G:=ak hy;have Z:∀n,((c.h.freezeAll (els.flatMap D.nm)) n).row=(c.h n).row:=λ n=>uC _ n
  have I:=q1 y G;have a1:y.cells=[y]:=by cases y<;>first|rfl|cases I
  have a6:y.fz c.h=y.fzc c.h:=by cases y<;>first|rfl|cases I
  have a2:y.nm=y.lG:=by cases y<;>first|rfl|cases I
  have:=(Ft (Ctx.le.refl _) g2 hv (λ z V=>by rw[a1]at V;simp at V;subst V;exact I) (Pp Z (λ z V=>by rw[a1]at V;simp at V;subst V;exact q2 z G)) (λ n a8 es hn Q=>?_)).1
  ·rw[Ut Z,a6]at this;exact this
  ·rw[Z n]at Q;refine fq _ Q (List.mem_flatMap.2 ⟨x,ak hx,?_⟩);rw[a2]at hn
   cases x with
   | agg cs=>exact List.mem_flatMap.2 ⟨y,G,hn⟩
   | _=>simp only[D.cells,List.mem_singleton]at G;subst G;exact hn
inductive P1:Heap->Heap->Prop where
 | refl (h:Heap):P1 h h
 | step {h h':Heap}{M esz:Nat}{els:List D}(hM:h M=.arr esz els) (hd:Rj h M esz els) (k:P1 (zg h M esz els) h'):P1 h h'
theorem Ll {h h':Heap}(k:P1 h h'):∀{c:Ctx},c.h=h->aA c->c.le ⟨c.ρ,c.X,h',c.hp⟩/\aA ⟨c.ρ,c.X,h',c.hp⟩:=by
 induction k with
 | refl h=>intro c hc hr;subst hc;exact⟨Ctx.le.refl c,hr⟩
 | step hM hd _ G =>
  intro c hc hr;subst hc;obtain⟨Z,V⟩:=NR hr hM hd;obtain⟨Q,I⟩:=G (c:=⟨c.ρ,c.X,_,c.hp⟩) rfl V;exact⟨Z.trans Q,I⟩
theorem SF {f:FuncId}{ds:List D}{h h':Heap}{K:HKq}(k:P1 h h') (hc:ag P f ds h' K):ag P f ds h K:=by
 intro c w vals hh hp hr hs hrel;obtain⟨I,g2⟩:=Ll k hh hr;refine(hc ⟨c.ρ,c.X,h',c.hp⟩ w vals rfl hp g2 hs (λ i d hi=>(hrel i d hi).mono I)).mono ?_;rintro e w' ⟨v,r,ρ,G,r1,r2,r3,Z,V,Q⟩;exact⟨v,r,ρ,G,r1,I.trans r2,r3,Z,V,Q⟩
theorem EJ {f:FuncId}{ds:List D}{K:D->Prop}(ha:ag P f ds gY (λ r h'=>∃h'',P1 h' h''/\iM r/\ti h'' r/\(r.fzt h'').M8=true/\K (r.fzt h''))):aK P f ds K:=by
 intro c w vals I hp hr hs hrel;have kU:c.h=gY:=funext I;have:=ha c w vals kU hp hr hs hrel;refine this.mono ?_;rintro e w' ⟨v,r,ρ,h',rfl,h1,h2,h3,h4,h'',hi,h5,h6,Q,h8⟩;obtain⟨Z,V⟩:=Ll hi (c:=⟨ρ,c.X,h',w'.heap⟩) rfl h2;obtain⟨g1,g2⟩:=dP V r.nmt;have hz:=QN g1 g2 (h4.mono Z) h5 h6 (λ n esz els hn G=>fq _ G hn)
 have hown:∀g,¬(⟨ρ,c.X,h''.freezeAll r.nmt,w'.heap⟩:Ctx).own g->¬(⟨c.ρ,c.X,c.h,w'.heap⟩:Ctx).own g:=by
  rintro g hn (hX|⟨n,hm,_⟩)
  ·exact hn (Or.inl hX)
  ·simp only[I n]at hm;cases hm
 refine⟨v,r.fzt h'',rfl,?_,h3,aB.Ii (c:=⟨ρ,c.X,h''.freezeAll r.nmt,w'.heap⟩) (c':=⟨c.ρ,c.X,c.h,w'.heap⟩) rfl hown hz Q,Q,h8⟩;refine⟨h1.size,rfl,h1.keep,h1.shape,h1.loop,λ _ _=>rfl,λ _=>Trans.refl _,λ n g hm hρ _=>⟨n,hm,hρ⟩⟩
end Go.Am
namespace Go.Am
open Go
variable [ca]
variable {P:Program}
theorem P1.trans {a b c:Heap}(h:P1 a b) (k:P1 b c):P1 a c:=by
 induction h with
 | refl _=>exact k
 | step hM hd _ G=>exact .step hM hd (G k)
structure adW (P:Program) (fs:FuncId->Option aN) where
 a:∀f F,fs f=some F->∀ds K h,YX P F ds K h->ag P f ds h K
 spec:FuncId->Option (List D->Option D)
 sp:∀f s,spec f=some s->∀ds r,s ds=some r->aK P f ds (· = r)
end Go.Am
namespace Go.Am
open Go
variable [ca]
variable {P:Program}
inductive Wk:D->D->Prop where
 | refl (d:D):Wk d d
 | nil:Wk .nil (.sl [])
 | sl (xs ys:List D) (hl:xs.length=ys.length) (h:∀(i:Nat) (x y:D),xs[i]?=some x->ys[i]?=some y->Wk x y):Wk (.sl xs) (.sl ys)
 | agg (xs ys:List D) (hl:xs.length=ys.length) (h:∀(i:Nat) (x y:D),xs[i]?=some x->ys[i]?=some y->Wk x y):Wk (.agg xs) (.agg ys)
 | tup (xs ys:List D) (hl:xs.length=ys.length) (h:∀(i:Nat) (x y:D),xs[i]?=some x->ys[i]?=some y->Wk x y):Wk (.tup xs) (.tup ys)
theorem Wk.one {d d':D}(h:Wk d d'):d'.one=d.one:=by cases h<;>rfl
theorem Wk.vone {d d':D}(h:Wk d d'):d'.vone=d.vone:=by cases h<;>rfl
theorem Wk.aaj {xs:List D}{y:D}(h:Wk (.agg xs) y):∃ys,y=.agg ys/\xs.length=ys.length/\∀(i:Nat) (x y:D),xs[i]?=some x->ys[i]?=some y->Wk x y:=by
 cases h with
 | refl=>exact⟨xs,rfl,rfl,λ i x y h1 h2=>by rw[h1]at h2;cases h2;exact .refl _⟩
 | agg _ ys hl h=>exact⟨ys,rfl,hl,h⟩
theorem Wk.cells {e e':D}(h:Wk e e'):e.cells.length=e'.cells.length:=by
 cases h with
 | agg xs ys hl h=>exact hl
 | _=>rfl
theorem Wk.isAgg {e e':D}(h:Wk e e'):e'.isAgg=e.isAgg:=by cases h<;>rfl
theorem C8 {e:D}(h:e.isAgg=false):e.cells=[e]:=by cases e<;>first|rfl|cases h
theorem qj {α:Type}{xs ys:List α}(hl:xs.length=ys.length){i:Nat}{y:α}(hy:ys[i]?=some y):∃x,xs[i]?=some x:=by
 have:=(ar.1 hy).1;exact⟨xs[i]'(by omega),aq (by omega)⟩
theorem O2 {c:Ctx}{d d':D}(h:Wk d d'):∀v,aB c d v->aB c d' v:=by
 induction h with
 | refl d=>exact λ v Q=>Q
 | nil=>intro v Q;cases Q;exact .iN none 0 (by simp[maxLen])
 | agg xs ys hl h ih =>
  intro v Q
  cases Q with
  | agg _ vs hsz hone hrel =>
   refine .agg ys vs (by omega) (λ i d hd=>?_) (λ i d hd=>?_)
   ·obtain⟨x,hx⟩:=qj hl hd;rw[(h i x d hx hd).one];exact hone i x hx
   ·obtain⟨x,hx⟩:=qj hl hd;exact ih i x d hx hd _ (hrel i x hx)
 | tup xs ys hl h ih =>
  intro v Q
  cases Q with
  | tup _ vs hsz hrel =>
   refine .tup ys vs (by omega) (λ i d hd=>?_);obtain⟨x,hx⟩:=qj hl hd;exact ih i x d hx hd _ (hrel i x hx)
 | sl xs ys hl h ih =>
  intro v Q
  cases Q with
  | iN p cap hm =>
   have:ys=[]:=List.length_eq_zero_iff.1 hl.symm;subst this;exact .iN p cap hm
  | sl _ b o cap esz f hne hc hm he hlen hone hcell hown hrel =>
   have key:∀i j d',aT ys i j=some d'->∃d,aT xs i j=some d/\d'.vone=true/\aB c d' (f i j):=by
    intro i j d' I;simp only[aT,Option.bind_eq_some_iff]at I;obtain⟨y,hy,V⟩:=I;obtain⟨x,hx⟩:=qj hl hy;have hw:=h i x y hx hy;by_cases ha:x.isAgg=true
    ·cases x with
     | agg cs =>
      obtain⟨b2,rfl,a7,a6⟩:=hw.aaj;simp only[D.cells]at V;obtain⟨a,a1⟩:=qj a7 V;have G:∀k z,cs[k]?=some z->aT xs i k=some z:=λ k z hz=>by simp[aT,hx,D.cells,hz]
      have hr:aB c (.agg cs) (.agg ((List.range cs.length).map (f i)).toArray):=by
       refine .agg _ _ (by simp) (λ k z hz=>D.kz (hone i k z (G k z hz))) (λ k z hz=>?_);have hk:=(ar.1 hz).1;have:((List.range cs.length).map (f i)).toArray.getD k Go.undef=f i k:=by simp[Array.getD,hk]
       rw[this];exact hrel i k z (G k z hz)
      have a2:=ih i _ _ hx hy _ hr;refine⟨a,G j a a1,?_,?_⟩
      ·rw[(a6 j a d' a1 V).vone];exact hone i j a (G j a a1)
      ·cases a2 with
       | agg _ _ _ _ Z =>
        have hk:=(ar.1 V).1;have:=Z j d' V;have e:((List.range cs.length).map (f i)).toArray.getD j Go.undef=f i j:=by simp[Array.getD,show j<cs.length by omega]
        rw[e]at this;exact this
     | _=>cases ha
    ·have ha:x.isAgg=false:=by simpa using ha
     have b1:=C8 ha;have a8:=C8 (hw.isAgg.trans ha);rw[a8]at V
     cases j with
     | succ j=>simp at V
     | zero =>
      simp at V;subst V;have G:aT xs i 0=some x:=by simp[aT,hx,b1]
      exact⟨x,G,by rw[hw.vone];exact hone i 0 x G,ih i x y hx hy _ (hrel i 0 x G)⟩
   rw[hl];refine .sl ys b o cap esz f (λ e=>hne (by subst e;exact List.length_eq_zero_iff.1 hl)) (by omega) hm he (λ y hy=>?_) (λ i j d' I=>(key i j d' I).choose_spec.2.1) (λ i j d' I=>?_) hown (λ i j d' I=>(key i j d' I).choose_spec.2.2)
   ·obtain⟨i,hi⟩:=ba hy;obtain⟨x,hx⟩:=qj hl hi;rw[<- (h i x y hx hi).cells];exact hlen x (ak hx)
   ·obtain⟨d,hd,-⟩:=key i j d' I;exact hcell i j d hd
theorem aK.wk {f:FuncId}{ds:List D}{K K':D->Prop}(hc:aK P f ds K) (hk:∀r,K r->∃r',Wk r r'/\r'.M8=true/\K' r'):aK P f ds K':=by
 intro c w vals hh hp hr hs hv;refine(hc c w vals hh hp hr hs hv).mono ?_;rintro e w' ⟨v,r,Z,V,Q,I,r5,G⟩;obtain⟨r',h1,h2,h3⟩:=hk r G;exact⟨v,r',Z,V,Q,O2 h1 v I,h2,h3⟩
inductive OS:List D->List D->Prop where
 | nil:OS [] []
 | cons {x y:D}{xs ys:List D}(h:Wk x y) (k:OS xs ys):OS (x::xs) (y::ys)
theorem OS.get {xs ys:List D}(h:OS xs ys):xs.length=ys.length/\∀(i:Nat) (x y:D),xs[i]?=some x->ys[i]?=some y->Wk x y:=by
 induction h with
 | nil=>exact⟨rfl,λ i x y h=>by simp at h⟩
 | cons h k G =>
  refine⟨by simp[G.1],λ i x y h1 h2=>?_⟩
  cases i with
  | zero=>simp at h1 h2;subst h1 h2;exact h
  | succ i=>exact G.2 i x y (by simpa using h1) (by simpa using h2)
theorem aK.arg {f:FuncId}{ds ds':List D}{K:D->Prop}(hw:OS ds ds') (hc:aK P f ds' K):aK P f ds K:=by
 intro c w vals I hp hr hs G;obtain⟨hl,hw⟩:=hw.get;refine hc c w vals I hp hr (by omega) λ i d hd=>?_
 obtain⟨x,hx⟩:=qj hl hd;exact O2 (hw i x d hx hd) _ (G i x hx)
theorem ag.arg {f:FuncId}{ds ds':List D}{h:Heap}{K:HKq}(hw:OS ds ds') (hc:ag P f ds' h K):ag P f ds h K:=by
 intro c w vals I hp hr hs G;obtain⟨hl,hw⟩:=hw.get;refine hc c w vals I hp hr (by omega) λ i d hd=>?_
 obtain⟨x,hx⟩:=qj hl hd;exact O2 (hw i x d hx hd) _ (G i x hx)
theorem Wk.abp {α:Type}{f g:α->D}(xs:List α) (h:∀x∈xs,Wk (f x) (g x)):Wk (.sl (xs.map f)) (.sl (xs.map g)):=by
 refine .sl _ _ (by simp) λ i x y h1 h2=>?_
 simp only[List.getElem?_map,Option.map_eq_some_iff]at h1 h2;obtain⟨a,ha,rfl⟩:=h1;obtain⟨b,hb,rfl⟩:=h2;rw[ha]at hb;cases hb;exact h a (ak ha)
theorem Wk.acs {xs ys:List D}(h:OS xs ys):Wk (.agg xs) (.agg ys):=.agg _ _ h.get.1 h.get.2
theorem OS.rfl:∀{xs:List D},OS xs xs
 | []=>.nil
 | x::r=>.cons (.refl x) OS.rfl
end Go.Am
namespace Go.Am
open Go
variable [ca]
structure dn where
 kind:Int
 n:Int
 v:Int
deriving DecidableEq,Inhabited
structure bj where
 op:Int
 sub:Int
 n:Int
 d:dn
 a:dn
 b:dn
 c:dn
deriving DecidableEq,Inhabited
structure Term where
 kind:Int
 sub:Int
 d:dn
 a:dn
 b:dn
 to0:Int
 to1:Int
deriving DecidableEq,Inhabited
structure Block where
 i:List bj
 t:Term
deriving DecidableEq,Inhabited
structure qV where
 name:ByteArray
 space:Int
 type:Int
 len:Int
structure Loop where
 head:Int
 reg:Int
 bound:Int
deriving DecidableEq,Inhabited
structure Code where
 group:Int
 sub:Int
 regs:Int
 slots:Int
 params:Int
 arrays:List qV
 loops:List Loop
 b:List Block
def aj:dn:=⟨0,0,0⟩
def lY:Term:=⟨0,0,aj,aj,aj,0,0⟩
def gT (n:Int):dn:=⟨2,n,0⟩
def Const (v:Int):dn:=⟨1,0,v⟩
def dn.cs (o:dn):List D:=[.int .i64 o.kind,.int .i64 o.n,.int .i32 o.v]
def dn.e (o:dn):D:=.agg o.cs
def bj.cs (x:bj):List D :=
  [.int .i64 x.op,.int .i64 x.sub,.int .i64 x.n,.int .i64 x.d.kind,.int .i64 x.d.n,.int .i32 x.d.v,.int .i64 x.a.kind,.int .i64 x.a.n,.int .i32 x.a.v,
   .int .i64 x.b.kind,.int .i64 x.b.n,.int .i32 x.b.v,.int .i64 x.c.kind,.int .i64 x.c.n,.int .i32 x.c.v]
def bj.e (x:bj):D:=.agg x.cs
def Term.cs (t:Term):List D :=
  [.int .i64 t.kind,.int .i64 t.sub,.int .i64 t.d.kind,.int .i64 t.d.n,.int .i32 t.d.v,.int .i64 t.a.kind,.int .i64 t.a.n,.int .i32 t.a.v,
   .int .i64 t.b.kind,.int .i64 t.b.n,.int .i32 t.b.v,.int .i64 t.to0,.int .i64 t.to1]
def Term.e (t:Term):D:=.agg t.cs
def Block.e (x:Block):D:=.agg (.sl (x.i.map bj.e)::x.t.cs)
def qV.e (x:qV):D:=.agg [.str x.name,.int .i64 x.space,.int .i64 x.type,.int .i64 x.len]
def Loop.e (x:Loop):D:=.agg [.int .i64 x.head,.int .i64 x.reg,.int .i64 x.bound]
def Code.e (c:Code):D :=
 .agg [.int .i64 c.group,.int .i64 c.sub,.int .i64 c.regs,.int .i64 c.slots,.int .i64 c.params,.sl (c.arrays.map qV.e),.sl (c.loops.map Loop.e),.sl (c.b.map Block.e)]
structure kx (d:D):Prop where
 vd:d.vd=true
 one:aL d
theorem kx.pair {d:D}(h:kx d):d.vd=true/\aL d:=⟨h.vd,h.one⟩
theorem aI {k:IntKind}{n:Int}:kx (.int k n):=⟨rfl,by simp⟩
theorem C5 {b:Bool}:kx (.bool b):=⟨rfl,by simp⟩
theorem FA {xs:List D}:kx (.sl xs):=⟨rfl,by simp⟩
theorem Xn:kx .nil:=⟨rfl,by simp⟩
theorem bw {cs:List D}(h:∀x∈cs,x.vone=true):kx (.agg cs):=⟨by simpa[D.vd] using h,λ x hx=>D.kz (h x hx)⟩
theorem dn.b9 (o:dn):kx o.e:=bw (by simp[dn.cs])
theorem bj.b9 (o:bj):kx o.e:=bw (by simp[bj.cs])
theorem Term.b9 (o:Term):kx o.e:=bw (by simp[Term.cs])
theorem Block.b9 (o:Block):kx o.e:=bw (by simp[Term.cs])
theorem qV.b9 (o:qV):kx o.e:=bw (by simp)
theorem Loop.b9 (o:Loop):kx o.e:=bw (by simp)
theorem Code.b9 (o:Code):kx o.e:=bw (by simp)
def SN:List D->Prop
 | []=>True
 | d::r=>kx d/\SN r
theorem SN.all:∀{ds:List D},SN ds->∀d∈ds,d.vd=true/\aL d
 | [],_,d,h=>by cases h
 | x::r,hd,d,h=>by
  rcases List.mem_cons.1 h with rfl|h
  ·exact hd.1.pair
  ·exact SN.all hd.2 d h
theorem gN {P:Program}{f:FuncId}{ds:List D}{h:Heap}{KH:HKq}{r:D}(hv:aK P f ds (· = r)) (hds:SN ds) (hk:KH r h):ag P f ds h KH:=aW hv hds.all (by rintro _ rfl;exact hk)
theorem L4 {P:Program}{f:FuncId}{as:List Arg}{h:Heap}{K:D->Prop}{r:D}(hv:aK P f (as.map (·.get [])) (· = r)) (hds:SN (as.map (·.get []))) (hk:K r):au P (.call f as) h K:=db hv hds.all hk
theorem Nd {d:D}{h:Heap}{K:D->Prop}(hd:kx d) (hk:K d):ky K d h:=VS hd.pair hk
end Go.Am
namespace Go.Am
open Go
variable [ca]
variable {P:Program}{KH:HKq}{K:D->Prop}{h:Heap}
theorem gtt {A:(HKq)->Prop}:vguard (.bool true) true A h KH=A KH:=by rw[my];simp
theorem gff {A:(HKq)->Prop}:vguard (.bool false) false A h KH=A KH:=by rw[my];simp
theorem gtf {A:(HKq)->Prop}:vguard (.bool true) false A h KH=KH gU h:=by rw[my];simp
theorem gft {A:(HKq)->Prop}:vguard (.bool false) true A h KH=KH gU h:=by rw[my];simp
theorem abJ {A:(D->Prop)->Prop}:ai (.bool true) true A K=A K:=by rw[fI];simp
theorem adw {A:(D->Prop)->Prop}:ai (.bool false) false A K=A K:=by rw[fI];simp
theorem adv {A:(D->Prop)->Prop}:ai (.bool true) false A K=K gU:=by rw[fI];simp
theorem abK {A:(D->Prop)->Prop}:ai (.bool false) true A K=K gU:=by rw[fI];simp
theorem NB {x y:D}:ab P (.pick (.c (.bool true)) (.c x) (.c y)) h KH=KH x h:=rfl
theorem TR {x y:D}:ab P (.pick (.c (.bool false)) (.c x) (.c y)) h KH=KH y h:=rfl
theorem WI {KK:D->Prop}:vun .not (.bool true) KK=KK (.bool false):=rfl
theorem T5 {KK:D->Prop}:vun .not (.bool false) KK=KK (.bool true):=rfl
theorem RM {n j s:Nat}{cs:List D}{d:D}(a:h n=.box (.agg cs)) (hj:cs[j]?=some d):ab P (.ld (.c (.ptr n 0 j)) s false) h KH=KH d h:=by
 rw[zh,a];simp[gd,hj]
theorem xm {n j s:Nat}{cs:List D}{d:D}(a:h n=.box (.agg cs)) (hj:cs[j]?=some d):au P (.ld (.c (.ptr n 0 j)) s false) h K=K d:=by
 rw[mc,RM a hj]
theorem fV {n:Nat}{cs:List D}(a:h n=.box (.agg cs)):ab P (.ld (.c (.ptr n 0 0)) cs.length true) h KH=KH (.agg cs) h:=by
 rw[zh,a];simp[mw]
theorem RK {n j s:Nat}{cs:List D}(a:h n=.box (.agg cs)) (hj:j+s<=cs.length):ab P (.ld (.c (.ptr n 0 j)) s true) h KH=KH (.agg ((cs.drop j).take s)) h:=by
 rw[zh,a];simp[mw,hj]
theorem Yh {n:Nat}{x y z p q r:D}(a:h n=.box (.agg [x,y,z])) (h1:p.one=true) (h2:q.one=true) (h3:r.one=true) :
  ab P (.st (.c (.ptr n 0 0)) (.c (.agg [p,q,r])) 3) h KH=KH .undef (aF h n (.box (.agg [p,q,r]))):=by
 rw[kW,a];apply propext;constructor
 ·exact λ I=>by simpa using I.2.2
 ·intro G;refine⟨rfl,λ w hw=>?_,rfl,by simp,by simpa using G⟩;simp at hw;grind
theorem ac0 {n:Nat}{x y z:D}{k1 k2 k3:IntKind}{p q r:Int}(a:h n=.box (.agg [x,y,z])) :
  ab P (.st (.c (.ptr n 0 0)) (.c (.agg [.int k1 p,.int k2 q,.int k3 r])) 3) h KH=KH .undef (aF h n (.box (.agg [.int k1 p,.int k2 q,.int k3 r]))):=Yh a rfl rfl rfl
theorem adH {x y:D}{p q:Int}:ab P (.bld [x,y] [(0,1,(.c (.int .i64 p))),(1,1,(.c (.int .i64 q)))]) h KH=KH (.agg [.int .i64 p,.int .i64 q]) h:=by
 rw[nX];simp[kY,fillD]
theorem acq {x y z:D}{p q:Int}:ab P (.bld [x,y,z] [(0,1,(.c (.int .i64 p))),(1,1,(.c (.int .i64 q)))]) h KH=KH (.agg [.int .i64 p,.int .i64 q,z]) h:=by
 rw[nX];simp[kY,fillD]
theorem adG {x y z:D}{p q r:Int}:ab P (.bld [x,y,z] [(0,1,(.c (.int .i64 p))),(1,1,(.c (.int .i64 q))),(2,1,(.c (.int .i64 r)))]) h KH=KH (.agg [.int .i64 p,.int .i64 q,.int .i64 r]) h:=by
 rw[nX];simp[kY,fillD]
theorem adD {z:List D}:ab P (.bld z []) h KH=KH (.agg z) h:=by
 rw[nX];simp[kY,fillD]
theorem Xb {x:D}{r:List D}:ab P (.ext (.c (.tup (x::r))) 0) h KH=KH x h:=rfl
theorem Xa {x y:D}{r:List D}:ab P (.ext (.c (.tup (x::y::r))) 1) h KH=KH y h:=rfl
theorem adx {x y z:D}{r:List D}:ab P (.ext (.c (.tup (x::y::z::r))) 2) h KH=KH z h:=rfl
theorem abZ {x:D}{r:List D}:au P (.ext (.c (.tup (x::r))) 0) h K=K x:=rfl
theorem abY {x y:D}{r:List D}:au P (.ext (.c (.tup (x::y::r))) 1) h K=K y:=rfl
theorem IB {ds:List D}{h:Heap}{K:D->Prop}(hd:∀d∈ds,d.vd=true/\aL d) (hk:K (.tup ds)):ky K (.tup ds) h:=by
 have one:∀d∈ds,d.fz h=d/\nN h d:=by
  grind [jj]
 have e:(D.tup ds).fzt h=.tup ds:=by
  simp only[D.fzt];rw[List.map_congr_left (λ d G=>(one d G).1)];simp
 refine⟨λ d G=>(hd d G).2,λ d G=>(one d G).2,?_,by rw[e];exact hk⟩;grind [D.M8]
section
variable {k:IntKind}{a b:Int}
theorem leT (h0:a<=b):vbin .leq (.int k a) (.int k b) K=K (.bool true):=by rw[Nn];simp[h0]
theorem leF (h0:b<a):vbin .leq (.int k a) (.int k b) K=K (.bool false):=by grind [Nn]
theorem fY (h0:a<b):vbin .lss (.int k a) (.int k b) K=K (.bool true):=by rw[nV];simp[h0]
theorem fU (h0:b<=a):vbin .lss (.int k a) (.int k b) K=K (.bool false):=by grind [nV]
theorem Yt (h0:b<a):vbin .gtr (.int k a) (.int k b) K=K (.bool true):=by rw[rU];simp[h0]
theorem WZ (h0:a<=b):vbin .gtr (.int k a) (.int k b) K=K (.bool false):=by grind [rU]
theorem geT (h0:b<=a):vbin .geq (.int k a) (.int k b) K=K (.bool true):=by rw[Gi];simp[h0]
theorem geF (h0:a<b):vbin .geq (.int k a) (.int k b) K=K (.bool false):=by grind [Gi]
theorem eqT (h0:a=b):vbin .eql (.int k a) (.int k b) K=K (.bool true):=by rw[bq];simp[h0]
theorem eqF (h0:a≠b):vbin .eql (.int k a) (.int k b) K=K (.bool false):=by rw[bq];simp[h0]
theorem Zv (h0:a≠b):vbin .neq (.int k a) (.int k b) K=K (.bool true):=by rw[kA];simp[h0]
theorem Ik (h0:a=b):vbin .neq (.int k a) (.int k b) K=K (.bool false):=by rw[kA];simp[h0]
theorem bB (h1 : -9223372036854775808<=a+b) (h2:a+b<=9223372036854775807):vbin .add (.int .i64 a) (.int .i64 b) K=K (.int .i64 (a+b)):=by rw[fv,wrap64 h1 h2]
theorem KG (h1 : -9223372036854775808<=a-b) (h2:a-b<=9223372036854775807):vbin .sub (.int .i64 a) (.int .i64 b) K=K (.int .i64 (a-b)):=by rw[nT,wrap64 h1 h2]
theorem ada (h1 : -9223372036854775808<=a*b) (h2:a*b<=9223372036854775807):vbin .mul (.int .i64 a) (.int .i64 b) K=K (.int .i64 (a*b)):=by rw[K3,wrap64 h1 h2]
theorem Hm (h1:b≠0):vbin .rem (.int k a) (.int k b) K=K (.int k (a.tmod b)):=by rw[cY];simp[h1]
theorem ac9 (h1 : -9223372036854775808<=0-a) (h2:0-a<=9223372036854775807):vun .neg (.int .i64 a) K=K (.int .i64 (0-a)):=by rw[Yd,wrap64 h1 h2]
end
def gS:=And.intro @gtt<|And.intro @gff<|And.intro @gtf<|And.intro @gft<|And.intro @B7<|And.intro @abJ<|And.intro @adw<|And.intro @adv<|And.intro @abK<|And.intro @yK<|And.intro @NB<|And.intro @TR<|And.intro @WI<|And.intro @T5<|And.intro @af<|And.intro @ae<|And.intro @Xb<|And.intro @Xa<|And.intro @adx<|And.intro @adH<|And.intro @adG<|And.intro @acq<|And.intro @adD<|And.intro @abZ @abY
def cS:=And.intro @leT<|And.intro @leF<|And.intro @fY<|And.intro @fU<|And.intro @Yt<|And.intro @WZ<|And.intro @geT<|And.intro @geF<|And.intro @eqT<|And.intro @eqF<|And.intro @Zv<|And.intro @Ik<|And.intro @bB<|And.intro @KG<|And.intro @ada<|And.intro @Hm @ac9
end Go.Am
namespace Go.Am
open Go
variable [ca]
variable {P:Program}{KH:HKq}{K:D->Prop}{h:Heap}{L:LSq}
structure Vs (h:Heap) (L:LSq):Prop where
 get:∀(i n:Nat) (s:Slot),L[i]?=some (n,s)->h n=s
 ne:∀(i j n m:Nat) (s s':Slot),L[i]?=some (n,s)->L[j]?=some (m,s')->i≠j->n≠m
 lv:∀(i n:Nat) (s:Slot),L[i]?=some (n,s)->s≠.free
theorem Vs.nil:Vs h []:=⟨λ i n s h=>by simp at h,λ i j n m s s' h=>by simp at h,λ i n s h=>by simp at h⟩
theorem Vs.push (V:Vs h L){n:Nat}(hn:h n=.free){s:Slot}(hs:s≠.free):Vs (aF h n s) ((n,s)::L):=by
 have T4:∀(i m:Nat) (t:Slot),L[i]?=some (m,t)->m≠n:=by
  rintro i m t hi rfl;exact V.lv i m t hi ((V.get i m t hi).symm.trans hn)
 refine⟨λ i m t hi=>?_,λ i j m Q t I hi G Z=>?_,λ i m t hi=>?_⟩
 ·cases i with
  | zero=>grind [av]
  | succ i=>simp at hi;rw[an _ _ (T4 i m t hi)];exact V.get i m t hi
 ·cases i with
  | zero =>
   grind
  | succ i =>
   cases j with
   | zero=>grind
   | succ j=>simp at hi G;exact V.ne i j m Q t I hi G (by omega)
 ·cases i with
  | zero=>grind
  | succ i=>simp at hi;exact V.lv i m t hi
theorem Vs.bK (V:Vs h L) (i:Nat){n:Nat}{s:Slot}(hi:L[i]?=some (n,s)){s':Slot}(hs:s'≠.free):Vs (aF h n s') (L.set i (n,s')):=by
 have a1:=(ar.1 hi).1
 have key:∀(j m:Nat) (t:Slot),(L.set i (n,s'))[j]?=some (m,t)->(j=i/\m=n/\t=s')\/(j≠i/\L[j]?=some (m,t)):=by
  grind
 refine⟨λ j m t I=>?_,λ j k m Q t Z I hk G=>?_,λ j m t I=>?_⟩
 ·rcases key j m t I with⟨-,rfl,rfl⟩|⟨h1,h2⟩
  ·exact av _ _ _
  ·rw[an _ _ (V.ne j i m n t s h2 hi h1)];exact V.get j m t h2
 ·rcases key j m t I with⟨rfl,rfl,rfl⟩|⟨h1,h2⟩<;>rcases key k Q Z hk with⟨rfl,rfl,rfl⟩|⟨g1,g2⟩
  ·exact absurd rfl G
  ·exact(V.ne k j Q m Z s g2 hi g1).symm
  ·exact V.ne j k m Q t s h2 hi h1
  ·exact V.ne j k m Q t Z h2 g2 G
 ·rcases key j m t I with⟨-,-,rfl⟩|⟨-,h2⟩
  ·exact hs
  ·exact V.lv j m t h2
theorem Vs.keep (V:Vs h L){h':Heap}(hk:∀k,h k≠.free->h' k=h k):Vs h' L :=
 ⟨λ i n s hi=>by have:=V.get i n s hi;rw[hk n (by rw[this];exact V.lv i n s hi)];exact this,V.ne,V.lv⟩
theorem Vs.QC (V:Vs h L){h':Heap}(hk:∀(k:Nat) (s:Slot),(∃i:Nat,L[i]?=some (k,s))->h' k=h k):Vs h' L :=
 ⟨λ i n s hi=>by rw[hk n s ⟨i,hi⟩];exact V.get i n s hi,V.ne,V.lv⟩
theorem Vs.pop {x:Nat×Slot}(V:Vs h (x::L)):Vs h L :=
 ⟨λ i n s hi=>V.get (i+1) n s (by simpa using hi),λ i j n m s s' hi G I=>V.ne (i+1) (j+1) n m s s' (by simpa using hi) (by simpa using G) (by omega),λ i n s hi=>V.lv (i+1) n s (by simpa using hi)⟩
theorem Vs.box (V:Vs h L){d:D}(ho:aL d) (hK:∀n h',Vs h' ((n,.box d)::L)->KH (.ptr n 0 0) h'):ab P (.box (.c d)) h KH:=by
 rw[Jy];exact⟨ho,λ n t=>hK n _ (V.push t.free (by simp))⟩
theorem Vs.alloc (V:Vs h L){d:D}(hK:∀n h',Vs h' ((n,.box d)::L)->KH (.ptr n 0 0) h'):ab P (.alloc d) h KH:=by
 rw[gP];exact λ n t=>hK n _ (V.push t.free (by simp))
theorem Vs.SQ (V:Vs h L){esz bytes l:Nat}{z:D}(hb:l*bytes<=140737488355328) (hl:l<=9223372036854775807) (hK:∀n h',Vs h' ((n,.arr esz (List.replicate l z))::L)->KH (.ms n 0 l) h'):ab P (.mk esz bytes z (.c (.int .i64 (l:Int))) (.c (.int .i64 (l:Int)))) h KH:=by
 rw[abI];refine⟨by omega,by omega,by grind,by omega,λ n t=>?_⟩;rw[aE];exact hK n _ (V.push t.free (by simp))
theorem Vs.mY (V:Vs h L) (i:Nat){n s:Nat}{cs cs':List D}(hi:L[i]?=some (n,.box (.agg cs))) (hl:cs.length=s) (hl':cs'.length=s) (ho:∀x,x∈cs'->x.one=true)
  (hK:∀h',Vs h' (L.set i (n,.box (.agg cs')))->KH .undef h'):ab P (.st (.c (.ptr n 0 0)) (.c (.agg cs')) s) h KH:=by
 rw[kW,V.get i _ _ hi];refine⟨hl',ho,rfl,by simp[hl],?_⟩
 have e:setCells (.agg cs) 0 (D.agg cs').cells=.agg cs':=by
  show D.agg (cs.take 0++cs'++cs.drop (0+cs'.length))=_
  grind
 rw[e];exact hK _ (V.bK i hi (by simp))
theorem Vs.Yg (V:Vs h L) (i:Nat){n j:Nat}{cs:List D}{d:D}(hi:L[i]?=some (n,.box (.agg cs))) (hj:j<cs.length) (ho:d.one=true)
  (hK:∀h',Vs h' (L.set i (n,.box (.agg (cs.set j d))))->KH .undef h'):ab P (.st (.c (.ptr n 0 j)) (.c d) 1) h KH:=by
 rw[kW,V.get i _ _ hi];have hc:d.cells=[d]:=by cases d<;>first|rfl|cases ho
 refine⟨by rw[hc];rfl,λ x hx=>by grind,rfl,by simp;omega,?_⟩
 have e:setCells (.agg cs) j d.cells=.agg (cs.set j d):=by
  rw[hc];show D.agg (cs.take j++[d]++cs.drop (j+1))=_
  grind [List.set_eq_take_append_cons_drop]
 rw[e];exact hK _ (V.bK i hi (by simp))
theorem Vs.wA (V:Vs h L) (i:Nat){n j:Nat}{els:List D}{d:D}(hi:L[i]?=some (n,.arr 1 els)) (hj:j<els.length) (ho:d.one=true) (h1:∀x∈els,x.one=true)
  (hK:∀h',Vs h' (L.set i (n,.arr 1 (els.set j d)))->KH .undef h'):ab P (.st (.c (.ptr n j 0)) (.c d) 1) h KH:=by
 rw[kW,V.get i _ _ hi];have hc:∀d:D,d.one=true->d.cells=[d]:=λ d ho=>by cases d<;>first|rfl|cases ho
 refine⟨by rw[hc d ho];rfl,λ x hx=>by grind,hj,by omega,λ y hy=>?_⟩;have G:=h1 y (ak hy);have e:setCells y 0 d.cells=d:=by rw[hc d ho];cases y<;>first|rfl|cases G
 rw[e];exact hK _ (V.bK i hi (by simp))
theorem Vs.fa (V:Vs h L) (i:Nat){n o:Nat}{s:Slot}(hi:L[i]?=some (n,s)):ab P (.fadd (.c (.ptr n 0 0)) o) h KH=KH (.ptr n 0 o) h:=by
 have:=V.get i n s hi;rw[kX,this];have hu:s.used=true:=Slot.P9 (V.lv i n s hi);grind
theorem Vs.bI (V:Vs h L) (i:Nat){n j:Nat}{cs:List D}{e:D}(hi:L[i]?=some (n,.box (.agg cs))) (he:cs[j]?=some e):ab P (.ld (.c (.ptr n 0 j)) 1 false) h KH=KH e h:=RM (V.get i _ _ hi) he
theorem Vs.fV (V:Vs h L) (i:Nat){n s:Nat}{cs:List D}(hi:L[i]?=some (n,.box (.agg cs))) (hl:cs.length=s):ab P (.ld (.c (.ptr n 0 0)) s true) h KH=KH (.agg cs) h:=by rw[<- hl,Go.Am.fV (V.get i _ _ hi)]
theorem Vs.Bv (V:Vs h L) (i:Nat){n s:Nat}{cs:List D}(hi:L[i]?=some (n,.box (.agg cs))) (hl:cs.length=s):au P (.ld (.c (.ptr n 0 0)) s true) h K=K (.agg cs):=by rw[mc,V.fV i hi hl]
theorem Vs.ia (V:Vs h L) (i:Nat){n l esz:Nat}{els:List D}{a:Int}(hi:L[i]?=some (n,.arr esz els)) (h0:0<=a) (h1:a<l):ab P (.iadd (.c (.ms n 0 l)) (.c (.int .i64 a)) esz) h KH=KH (.ptr n a.toNat 0) h:=by
 rw[pw];apply propext;constructor
 ·grind
 ·exact λ G=>⟨h0,h1,⟨els,by rw[V.get i _ _ hi];rfl⟩,by simpa using G⟩
theorem Vs.Bw (V:Vs h L) (i:Nat){n l esz:Nat}{els:List D}{a:Int}(hi:L[i]?=some (n,.arr esz els)) (h0:0<=a) (h1:a<l):au P (.iadd (.c (.ms n 0 l)) (.c (.int .i64 a)) esz) h K=K (.ptr n a.toNat 0):=by rw[gJ,V.ia i hi h0 h1]
theorem Vs.yQ (V:Vs h L) (i:Nat){n j:Nat}{els:List D}{d:D}(hi:L[i]?=some (n,.arr 1 els)) (hd:els[j]?=some d) (h1:d.one=true):ab P (.ld (.c (.ptr n j 0)) 1 false) h KH=KH d h:=by
 rw[zh,V.get i _ _ hi];obtain⟨hl,he⟩:=ar.1 hd;have hc:d.cells=[d]:=by cases d<;>first|rfl|cases h1
 simp[gd,hl,he,hc]
theorem Vs.Fy (V:Vs h L) (i:Nat){n j:Nat}{els:List D}{d:D}(hi:L[i]?=some (n,.arr 1 els)) (hd:els[j]?=some d) (h1:d.one=true):au P (.ld (.c (.ptr n j 0)) 1 false) h K=K d:=by rw[mc,V.yQ i hi hd h1]
theorem iN {xs:List D}{a:Int}{esz:Nat}{d:D}(h0:0<=a) (hd:xs[a.toNat]?=some d) (hc:d.cells.length=esz):ab P (.iadd (.c (.sl xs)) (.c (.int .i64 a)) esz) h KH=KH (.vp d 0) h:=by
 grind [Fq]
theorem Ps {xs:List D}{a:Int}{esz:Nat}{d:D}(h0:0<=a) (hd:xs[a.toNat]?=some d) (hc:d.cells.length=esz):au P (.iadd (.c (.sl xs)) (.c (.int .i64 a)) esz) h K=K (.vp d 0):=by rw[gJ,iN h0 hd hc]
theorem KM {d:D}{o:Nat}:ab P (.fadd (.c (.vp d 0)) o) h KH=KH (.vp d o) h:=by rw[My,Nat.zero_add]
theorem Fo {cs:List D}{j:Nat}{e:D}(he:cs[j]?=some e):ab P (.ld (.c (.vp (.agg cs) j)) 1 false) h KH=KH e h:=by rw[zG,gd];simp[he]
theorem NM {cs:List D}{s:Nat}(hl:cs.length=s):ab P (.ld (.c (.vp (.agg cs) 0)) s true) h KH=KH (.agg cs) h:=by
 subst hl;rw[zG,mw];simp
theorem ni {d:D}(h1:d.one=true):ab P (.ld (.c (.vp d 0)) 1 false) h KH=KH d h:=by
 have hc:d.cells=[d]:=by cases d<;>first|rfl|cases h1
 rw[zG,gd,hc];rfl
theorem sw {d:D}(h1:d.one=true):au P (.ld (.c (.vp d 0)) 1 false) h K=K d:=by rw[mc,ni h1]
end Go.Am
