/- The abstract machine: what the operations of the program do, on plain data. No condition. -/
import Derived.OpenShut
import Derived.ReadAgain
import Derived.RowKit
import Derived.Test.YtjhjndjghaagiaaA2
set_option linter.unnecessarySimpa false
set_option linter.defProp false
set_option linter.unusedSectionVars false
set_option linter.unusedSimpArgs false
set_option linter.unusedVariables false
namespace Go.Am
open Go
variable [bI]
variable {P:Program}{nt:Nat}
variable {ops:Array Oper}{items:List AOper}{masks tl:List Nat}
def XT.F9 (X:XT) (wt:Nat->Option Nat):XT:=⟨fun x=>X.p x\/∃k,wt k=some x,X.lo,X.dfs⟩
theorem XT.Gb {X:XT}{wt:Nat->Option Nat}(h:∀k,wt k=none):X.F9 wt=X:=by
 cases X with
 | mk p lo dfs =>
  have:(fun x=>p x\/∃k,wt k=some x)=p:=by
   funext x
   exact propext ⟨fun hx=>hx.elim id fun ⟨k,hk⟩=>(by rw[h k]at hk;cases hk),Or.inl⟩
  simp only[XT.F9,this]
structure Fl (P:Program) where
 p:Nat
 m:Nat
 s:Nat
 fk:vV P
structure Sj (P:Program) (nt:Nat) (ops:Array Oper) (items:List AOper) (masks tl:List Nat) (f:Fl P):Prop where
 fm:tl[f.p]?=some f.m
 it:items[f.m]?=some ⟨some f.s,f.fk.op,none⟩
 us:∀(k:Nat) (b:AOper),items[k]?=some b->k≠f.m->b.dst≠some f.s
 sn:f.s<nt
 mko:∃(o:Oper),ops[f.m]?=some o/\E6 P f.fk o/\o.dst=some f.s/\o.guard=none
 ntm:∀l i:Nat,tl[l]?=some i->l<f.p->(masks.getD i 0).testBit f.m=false
 cok:∀q∈f.fk.cs,∀(k:Nat) (b:AOper),items[k]?=some b->b.dst=some q.1->k∉tl/\xH masks tl k=0/\(masks.getD f.m 0).testBit k=true
structure yH (P:Program) (nt:Nat) (ops:Array Oper) (items:List AOper) (masks tl:List Nat) (fs:List (Fl P)):Prop extends tv P nt ops items masks tl where
 tord:∀l k i i':Nat,tl[l]?=some i->tl[k]?=some i'->l<k->(∀f∈fs,k≠f.p)->(masks.getD i' 0).testBit i=true
 nd:∀l l' i:Nat,tl[l]?=some i->tl[l']?=some i->l=l'
 fl:∀f∈fs,Sj P nt ops items masks tl f
 ind:∀f f',f∈fs->f'∈fs->f.p≠f'.p->(masks.getD f.m 0).testBit f'.m=false
 same:∀f f',f∈fs->f'∈fs->f.p=f'.p->f=f'
theorem yH.L2 {fs:List (Fl P)}(S:yH P nt ops items masks tl fs){f f':Fl P}(h:f∈fs) (h':f'∈fs) (e:f.m=f'.m):f=f' :=
 S.same f f' h h' (S.nd f.p f'.p f.m (S.fl f h).fm (by rw[e];exact(S.fl f' h').fm))
def LW (fs:List (Fl P)) (c₀:Ctx) (wt:Nat->Option Nat) (ρ:Nat->Option Nat) (h:Heap) (w:World):Prop :=
 c₀.le ⟨ρ,c₀.X,h,w.heap⟩/\∀k g,wt k=some g->c₀.hp.size<=g/\(∃f,f∈fs/\f.m=k/\w.heap[g]?=some f.fk.obj)/\∀n,(h n).mine->ρ n≠some g
theorem LW.mono {fs:List (Fl P)}{c₀:Ctx}{wt:Nat->Option Nat}{X:XT}{ρ ρ':Nat->Option Nat}{h h':Heap}{w w':World}(l:LW fs c₀ wt ρ h w) (k:Ctx.le ⟨ρ,X,h,w.heap⟩ ⟨ρ',X,h',w'.heap⟩):LW fs c₀ wt ρ' h' w':=by
 refine⟨l.1.trans (k.Sl c₀.X c₀.X rfl),fun q g hq=>?_⟩
 obtain⟨l2,⟨f,f1,f2,l3⟩,l4⟩:=l.2 q g hq
 have hlt:=(Array.getElem?_eq_some_iff.1 l3).1
 refine⟨l2,⟨f,f1,f2,(k.keep g hlt l4).trans l3⟩,fun n hm hρ=>?_⟩
 obtain⟨m,h1,h2⟩:=k.born n g hm hρ hlt
 exact l4 m h1 h2
def Df (listed:Array Bool) (wt:Nat->Option Nat):Array Bool:=(Array.range listed.size).map fun k=>b6 listed k&&(wt k).isNone
theorem fv {listed:Array Bool}{wt:Nat->Option Nat}:(Df listed wt).size=listed.size:=by simp[Df]
theorem cv {listed:Array Bool}{wt:Nat->Option Nat}{k:Nat}(h:wt k=none):b6 (Df listed wt) k=b6 listed k:=by
 by_cases hk:k<listed.size
 ·simp[Df,b6,Array.getD,hk,h]
 ·simp[Df,b6,Array.getD,hk]
theorem jg {listed:Array Bool}{wt:Nat->Option Nat}{k g:Nat}(h:wt k=some g) (hk:k<listed.size):b6 (Df listed wt) k=false:=by
 simp[Df,b6,Array.getD,hk,h]
theorem RO {listed:Array Bool}{wt:Nat->Option Nat}{k:Nat}(hk:k<listed.size) (h:b6 (Df listed wt) k=true):b6 listed k=true:=by
 cases hw:wt k with
 | none=>rwa [cv hw]at h
 | some g=>rw[jg hw hk]at h;cases h
theorem Q9 {fs:List (Fl P)}(S:yH P nt ops items masks tl fs){c₀:Ctx}(hX0:∀g,c₀.X g->g<c₀.hp.size){w₀:World}{K:LEnv->Heap->Prop}{l1 l2:Array Bool}{a:Act}{w:World}{wt:Nat->Option Nat}{g:Nat}{ρ:Nat->Option Nat}{h:Heap}{e:LEnv}{f:Fl P}(hf:f∈fs)
  (hwt:wt f.m=some g) (winj:∀k k' g,wt k=some g->wt k'=some g->k=k') (hs:l2.size=l1.size) (hls:∀k,b6 l2 k=if k=f.m then true else b6 l1 k) (hanc:∀k,(masks.getD f.m 0).testBit k=true->b6 l2 k=true) (hl1:b6 l1 f.m=false)
  (hJ:IL P nt ops items masks tl (c₀.X.F9 wt) (LW fs c₀ wt) w₀ K l1 a w ρ h e f.p) (ht:a.tmps.getD f.s Go.undef=f.fk.val g) (hpre:∀q∈f.fk.cs,e.get q.1=.int q.2.1 q.2.2) :
  ∃ρ' h' e',IL P nt ops items masks tl (c₀.X.F9 (au wt f.m none)) (LW fs c₀ (au wt f.m none)) w₀ K l2 a w ρ' h' e' (f.p+1) /\
   ∀s,(∀k b,items[k]?=some b->b.dst=some s->k≠f.m/\¬(k∉tl/\xH masks tl k≠0))->e'.get s=e.get s:=by
 have F:=S.fl f hf
 obtain⟨hsz,hdc,⟨l1',lw⟩,hr,hws,hdef,htsz,hj,htail,hprog,hrel,hval⟩:=hJ
 obtain⟨l2',⟨f',f1,f2,l3⟩,l4⟩:=lw f.m g hwt
 cases S.L2 f1 hf f2
 have hmop:f.m<ops.size:=S.tlt f.m (List.mem_of_getElem? F.fm)
 have hlt:f.p<tl.length:=(List.getElem?_eq_some_iff.1 F.fm).1
 have hli:tl[f.p]=f.m:=(List.getElem?_eq_some_iff.1 F.fm).2
 rw[List.drop_eq_getElem_cons hlt,hli]at htail
 simp only[sRest,F.it,fA]at htail
 have htail:=f.fk.hop _ _ _ hpre htail
 obtain⟨n,top⟩:=dk hr
 have top:oU h n:=top
 have hn:=top.free
 obtain⟨hk1,hk2⟩:=htail n top
 let c1:Ctx:=⟨ρ,c₀.X.F9 wt,h,w.heap⟩
 let c2:Ctx:=⟨au ρ n (some g),c₀.X.F9 (au wt f.m none),au h n f.fk.slot,w.heap⟩
 have hglt:=(Array.getElem?_eq_some_iff.1 l3).1
 have wle:∀k x,au wt f.m none k=some x->wt k=some x/\k≠f.m:=by
  intro k x hk
  by_cases hkm:k=f.m
  ·subst hkm;rw[ak]at hk;cases hk
  ·rw[ai _ _ hkm]at hk;exact⟨hk,hkm⟩
 have xle:∀b,c₀.X.F9 (au wt f.m none) b->c₀.X.F9 wt b:=by
  rintro b (hx|⟨k,hk⟩)
  ·exact Or.inl hx
  ·exact Or.inr ⟨k,(wle k b hk).1⟩
 have sc:Ld c1 c2:=by
  refine⟨rfl,fun k hk=>?_,fun k hk=>?_,fun b hb ho=>?_⟩
  ·have:k≠n:=by rintro rfl;exact hk hn
   simp[c1,c2,au,this]
  ·have:k≠n:=by rintro rfl;exact hk hn
   simp[c1,c2,au,this]
  ·rcases ho with hx|⟨k,h1,h2⟩
   ·exact Or.inl (xle b hx)
   ·by_cases hk:k=n
    ·subst hk
     simp[c2,au]at h2
     exact Or.inl (Or.inr ⟨f.m,by rw[hwt,h2]⟩)
    ·simp[c2,au,hk]at h1 h2
     exact Or.inr ⟨k,h1,h2⟩
 have hle2:c₀.le ⟨au ρ n (some g),c₀.X,au h n f.fk.slot,w.heap⟩:=by
  have fr:∀k,c₀.h k≠.free->k≠n:=by
   rintro k hk rfl
   have:=l1'.tr k
   simp only at this
   rw[hn]at this
   cases hx:c₀.h k<;>rw[hx]at this hk<;>first|exact hk rfl|cases this
  refine⟨l1'.size,rfl,l1'.keep,l1'.shape,l1'.loop,fun k hk=>?_,fun k=>?_,fun k b h1 h2 hb=>?_⟩
  ·show au ρ n (some g) k=_
   rw[ai _ _ (fr k hk)];exact l1'.names k hk
  ·show Trans _ (au h n _ k)
   by_cases hk:k=n
   ·subst hk
    have:c₀.h k=.free:=by
     cases hx:c₀.h k<;>first|rfl|exact absurd rfl (fr k (by rw[hx];simp))
    rw[this];exact .free _
   ·rw[ai _ _ hk];exact l1'.tr k
  ·by_cases hk:k=n
   ·subst hk
    have h2':au ρ k (some g) k=some b:=h2
    rw[ak]at h2'
    cases h2'
    omega
   ·have h1':(au h n f.fk.slot k).mine:=h1
    have h2':au ρ n (some g) k=some b:=h2
    rw[ai _ _ hk]at h1' h2'
    exact l1'.born k b h1' h2' hb
 have hg2:hQ c2:=hr.glob.sx sc
 have hr2:aq c2:=by
  refine⟨fun k=>?_,fun k1 k2 b m1 m2 r1 r2=>?_,fun k b hm hb hX=>?_,fun b hX=>?_,?_,hg2,hr.lo⟩
  ·show cx c2 k (au h n f.fk.slot k)
   by_cases hk:k=n
   ·subst hk
    rw[ak]
    exact f.fk.hslot c2 k g (by simp[c2,au]) l3
   ·rw[ai _ _ hk]
    exact cx.sx sc (fun _=>by simp[c1,c2,au,hk]) (hr.slot k)
  ·have m1':(au h n f.fk.slot k1).mine:=m1
   have m2':(au h n f.fk.slot k2).mine:=m2
   have r1':au ρ n (some g) k1=some b:=r1
   have r2':au ρ n (some g) k2=some b:=r2
   by_cases e1:k1=n
   ·by_cases e2:k2=n
    ·rw[e1,e2]
    ·exfalso
     subst e1
     rw[ak]at r1'
     cases r1'
     rw[ai _ _ e2]at m2' r2'
     exact l4 k2 m2' r2'
   ·by_cases e2:k2=n
    ·exfalso
     subst e2
     rw[ak]at r2'
     cases r2'
     rw[ai _ _ e1]at m1' r1'
     exact l4 k1 m1' r1'
    ·rw[ai _ _ e1]at m1' r1'
     rw[ai _ _ e2]at m2' r2'
     exact hr.inj k1 k2 b m1' m2' r1' r2'
  ·have hm':(au h n f.fk.slot k).mine:=hm
   have hb':au ρ n (some g) k=some b:=hb
   have hX':c₀.X.F9 (au wt f.m none) b:=hX
   by_cases hk:k=n
   ·subst hk
    rw[ak]at hb'
    cases hb'
    rcases hX' with hx|⟨k',hk'⟩
    ·have:=hX0 g hx
     omega
    ·obtain⟨q1,q2⟩:=wle k' g hk'
     exact q2 (winj _ _ _ q1 hwt)
   ·rw[ai _ _ hk]at hm' hb'
    exact hr.apart k b hm' hb' (xle b hX')
  ·exact hr.xlt b (xle b hX)
  ·obtain⟨N,hN⟩:=hr.fin
   refine⟨N+n+1,fun k hk=>?_⟩
   show au h n _ k=_
   rw[ai _ _ (show k≠n by omega)]
   exact hN k (by omega)
 obtain⟨T,t1,t2,t3⟩:=BV S.totv hk2
 have mtl:f.m∈tl:=List.mem_of_getElem? F.fm
 have hput:∀s',s'≠f.s->(e.put (some f.s) (f.fk.dv n)).get s'=e.get s':=by
  intro s' hs
  rw[LEnv.aX]
  simp[Env.put,au,hs]
 refine⟨au ρ n (some g),au h n f.fk.slot,T,⟨hs.trans hsz,fun i k hi h1 h2=>?_,⟨hle2,fun k x hk=>?_⟩,hr2,hws,fj.sx sc rfl rfl hdef,htsz,by omega,t1,fun l i hl=>?_,fun s'=>?_,fun k b hb hk hun hst=>?_⟩,fun s' hs'=>?_⟩
 ·by_cases him:i=f.m
  ·subst him;exact hanc k h2
  ·rw[hls,if_neg him]at h1
   have:=hdc i k hi h1 h2
   rw[hls];split;rfl;exact this
 ·obtain⟨q1,q2⟩:=wle k x hk
  obtain⟨z1,⟨f',z2,z3,z4⟩,z5⟩:=lw k x q1
  refine⟨z1,⟨f',z2,z3,z4⟩,fun n' hm hρ=>?_⟩
  have hm':(au h n f.fk.slot n').mine:=hm
  have hρ':au ρ n (some g) n'=some x:=hρ
  by_cases hk:n'=n
  ·subst hk
   rw[ak]at hρ'
   cases hρ'
   exact q2 (winj _ _ _ q1 hwt)
  ·rw[ai _ _ hk]at hm' hρ'
   exact z5 n' hm' hρ'
 ·by_cases him:i=f.m
  ·subst him
   have:=S.nd l f.p f.m hl F.fm
   rw[hls,if_pos rfl]
   simp[this]
  ·have:=hprog l i hl
   rw[hls,if_neg him,this]
   have:l≠f.p:=by rintro rfl;rw[F.fm]at hl;cases hl;exact him rfl
   omega
 ·by_cases hex:∃b,b∈il items masks tl (f.p+1)/\b.dst=some s'
  ·obtain⟨b,hb,hbd⟩:=hex
   obtain⟨k,h1,h2,h3⟩:=cV hb
   left
   refine⟨k,b,h1,h2,?_,hbd⟩
   have hkl:k<ops.size:=by rw[<- S.len];exact(List.getElem?_eq_some_iff.1 h1).1
   have hmk:=(S.stg k f.p f.m hkl h2 F.fm).2 (by omega)
   have hkm:k≠f.m:=by rintro rfl;exact h2 mtl
   rw[hls,if_neg hkm]
   cases hlk:b6 l1 k with
   | false=>rfl
   | true =>
    have:=hdc k f.m hkl hlk hmk
    rw[hl1]at this
    cases this
  ·rw[t2 s' (fun b hb hbd=>hex ⟨b,hb,hbd⟩)]
   by_cases hs:s'=f.s
   ·subst hs
    right
    rw[LEnv.aX,ht]
    have:Env.put e.get (some f.s) (f.fk.dv n) f.s=f.fk.dv n:=by simp[Env.put,au]
    rw[this]
    exact f.fk.hrel _ n g (by simp[au]) (by simp[au]) l3
   ·rw[hput s' hs]
    rcases hrel s' with⟨k,b,h1,h2,h3,h4⟩|h
    ·left
     refine⟨k,b,h1,h2,?_,h4⟩
     rw[hls,if_neg (by rintro rfl;exact h2 mtl)]
     exact h3
    ·exact Or.inr (ar.sx sc h)
 ·have hkm:k≠f.m:=by rintro rfl;exact hk mtl
  rw[hls,if_neg hkm]at hun
  rcases Nat.lt_or_ge (xH masks tl k) (f.p+1) with hlt'|hge
  case inr =>
   have:xH masks tl k=f.p+1:=by omega
   have hmm:=xG (masks:=masks) hb hk
   rw[this]at hmm
   exact t3 b hmm
  have hkl:k<ops.size:=by rw[<- S.len];exact(List.getElem?_eq_some_iff.1 hb).1
  have v0:=hval k b hb hk hun (by omega)
  have hnanc:(masks.getD f.m 0).testBit k≠true:=by
   intro hmk
   have:=hanc k hmk
   rw[hls,if_neg hkm,hun]at this
   cases this
  have hni:¬(masks.getD k 0).testBit f.m=true:=by
   intro hmk
   have:=(S.stg k f.p f.m hkl hk F.fm).1 hmk
   omega
  have vput:bV P b (e.put (some f.s) (f.fk.dv n)) (au h n f.fk.slot):=by
   by_cases hf:b.op.gk=true
   ·refine bV.congr (e:=e) (fun r hr'=>?_) (fun s' hs=>?_) (bV.free hf v0)
    ·rw[hput r]
     rintro rfl
     rcases S.rdt f.m k _ b F.it hb mtl hk f.s rfl hr' with hmm|hmm
     ·exact hni hmm
     ·exact hnanc hmm
    ·exact hput s' (by rintro rfl;exact F.us k b hb hkm hs)
   ·have hmm:b∈wq items masks tl (f.p+1) f.m:=by
     simp only[wq,sRevI,List.mem_filterMap,List.mem_filter,List.mem_range,Bool.and_eq_true,decide_eq_true_eq,Bool.not_eq_true']
     exact⟨k,⟨by rw[S.len];exact hkl,⟨⟨by simpa using hk,hlt'⟩,by simpa using hnanc⟩,by rw[hb];simpa using hf⟩,hb⟩
    have hopb:∀b',b'∈wq items masks tl (f.p+1) f.m->b'.guard=none/\b'.op.isVal=true:=by
     intro b' hb'
     refine⟨(S.rev f.p f.m F.fm b' hb').1,?_⟩
     simp only[wq,sRevI,List.mem_filterMap,List.mem_filter,List.mem_range,Bool.and_eq_true,decide_eq_true_eq,Bool.not_eq_true']at hb'
     obtain⟨k2,⟨q1,⟨⟨q2,q3⟩,q4⟩,q5⟩,q6⟩:=hb'
     have q7:k2<ops.size:=by rw[<- S.len];exact q1
     have:=(S.itv k2 ops[k2] b' (by simp[q7]) q6 (by simpa using q2)).op
     rw[if_neg (by simp)]at this
     exact fU this
    exact tX hopb hk1 b hmm (S.rev f.p f.m F.fm b hmm).2
  refine bV.congr (fun r hr'=>(t2 r fun x hx hxd=>?_).symm) (fun s' hs=>t2 s' fun x hx hxd=>?_) vput
  ·obtain⟨m',m1,m2,m3⟩:=cV hx
   have:=((S.rdv m' k x b m1 hb m2 r hxd).2 hr').2.2 hk
   omega
  ·obtain⟨m',m1,m2,m3⟩:=cV hx
   have hmk:k≠m':=by rintro rfl;omega
   exact(S.rdv k m' b x hb m1 hk s' hs).1 hmk hxd
 ·rw[t2 s' fun b hb hbd=>?_]
  ·refine hput s' ?_
   rintro rfl
   exact(hs' f.m _ F.it rfl).1 rfl
  ·obtain⟨k,h1,h2,h3⟩:=cV hb
   exact(hs' k b h1 hbd).2 ⟨h2,by omega⟩
inductive JG (P:Program) (nt:Nat) (ops:Array Oper) (items:List AOper) (masks tl:List Nat) (fs:List (Fl P)) (c₀:Ctx) (w₀:World) (K:LEnv->Heap->Prop) (d:Nat) (listed:Array Bool) (a:Act) (w:World):Prop
 | mk (wt:Nat->Option Nat) (ρ:Nat->Option Nat) (h:Heap) (e:LEnv) (j:Nat)
   (hw:∀k g,wt k=some g->∃f,f∈fs/\f.m=k/\j<f.p+d/\b6 listed k=true/\(∀x,(masks.getD k 0).testBit x=true->b6 listed x=true)/\a.tmps.getD f.s Go.undef=f.fk.val g)
   (wi:∀k k' g,wt k=some g->wt k'=some g->k=k')
   (he:∀f∈fs,j<=f.p->e.get f.s=.undef/\∀q∈f.fk.cs,e.get q.1=.int q.2.1 q.2.2)
   (hJ:IL P nt ops items masks tl (c₀.X.F9 wt) (LW fs c₀ wt) w₀ K (Df listed wt) a w ρ h e j)
variable {fs:List (Fl P)}
theorem JG.size {c₀:Ctx}{w₀:World}{K:LEnv->Heap->Prop}{d:Nat}{listed:Array Bool}{a:Act}{w:World}(hJ:JG P nt ops items masks tl fs c₀ w₀ K d listed a w):listed.size=ops.size:=by
 cases hJ with
 | mk wt ρ h e j hw wi he hJ=>rw[<- hJ.size,fv]
theorem JG.dc (S:yH P nt ops items masks tl fs){c₀:Ctx}{w₀:World}{K:LEnv->Heap->Prop}{d:Nat}{listed:Array Bool}{a:Act}{w:World}(hJ:JG P nt ops items masks tl fs c₀ w₀ K d listed a w) :
  ∀i k,i<ops.size->b6 listed i=true->(masks.getD i 0).testBit k=true->b6 listed k=true:=by
 have hsz:=hJ.size
 cases hJ with
 | mk wt ρ h e j hw wi he hJ =>
  intro i k hi h1 h2
  cases hwi:wt i with
  | some g =>
   obtain⟨f,f1,f2,f3,f4,f5,f6⟩:=hw i g hwi
   exact f5 k h2
  | none =>
   have hk:=MC S.totv i hi k h2
   exact RO (by omega) (hJ.dc i k hi (by rw[cv hwi];exact h1) h2)
theorem OK (S:yH P nt ops items masks tl fs){c₀:Ctx}(hX0:∀g,c₀.X g->g<c₀.hp.size){w₀:World}{K:LEnv->Heap->Prop}{listed:Array Bool}{a:Act}{w:World}:∀(N:Nat) (wt:Nat->Option Nat) (ρ:Nat->Option Nat) (h:Heap) (e:LEnv) (j:Nat),tl.length-j<=N ->
  (∀k g,wt k=some g->∃f,f∈fs/\f.m=k/\j<f.p+1/\b6 listed k=true/\(∀x,(masks.getD k 0).testBit x=true->b6 listed x=true)/\a.tmps.getD f.s Go.undef=f.fk.val g)->(∀k k' g,wt k=some g->wt k'=some g->k=k') ->
  (∀f∈fs,j<=f.p->e.get f.s=.undef/\∀q∈f.fk.cs,e.get q.1=.int q.2.1 q.2.2)->IL P nt ops items masks tl (c₀.X.F9 wt) (LW fs c₀ wt) w₀ K (Df listed wt) a w ρ h e j->JG P nt ops items masks tl fs c₀ w₀ K 0 listed a w:=by
 intro N
 induction N with
 | zero =>
  intro wt ρ h e j hN hw wi he hJ
  refine .mk wt ρ h e j (fun k g hk=>?_) wi he hJ
  obtain⟨f,f1,f2,f3,f4⟩:=hw k g hk
  have:=(List.getElem?_eq_some_iff.1 (S.fl f f1).fm).1
  omega
 | succ N ih =>
  intro wt ρ h e j hN hw wi he hJ
  by_cases hx:∃f g,f∈fs/\wt f.m=some g/\f.p=j
  ·obtain⟨f,g,hf,hwt,hp⟩:=hx
   subst hp
   have F:=S.fl f hf
   obtain⟨f',f1,f2,f3,f4,f5,f6⟩:=hw f.m g hwt
   cases S.L2 f1 hf f2
   have hsz:listed.size=ops.size:=by rw[<- hJ.size,fv]
   have hmop:f.m<ops.size:=S.tlt f.m (List.mem_of_getElem? F.fm)
   have hlt:f.p<tl.length:=(List.getElem?_eq_some_iff.1 F.fm).1
   have wle:∀k x,au wt f.m none k=some x->wt k=some x/\k≠f.m:=by
    intro k x hk
    by_cases hkm:k=f.m
    ·subst hkm;rw[ak]at hk;cases hk
    ·rw[ai _ _ hkm]at hk;exact⟨hk,hkm⟩
   have hls:∀k,b6 (Df listed (au wt f.m none)) k=if k=f.m then true else b6 (Df listed wt) k:=by
    intro k
    by_cases hk:k=f.m
    ·subst hk
     rw[if_pos rfl,cv (by rw[ak]),f4]
    ·rw[if_neg hk]
     cases hwk:wt k with
     | none=>rw[cv hwk,cv (by rw[ai _ _ hk];exact hwk)]
     | some x =>
      obtain⟨f'',g1,g2,_⟩:=hw k x hwk
      have:k<listed.size:=by rw[hsz, <- g2];exact S.tlt _ (List.mem_of_getElem? (S.fl f'' g1).fm)
      rw[jg hwk this,jg (by rw[ai _ _ hk];exact hwk) this]
   have hanc:∀k,(masks.getD f.m 0).testBit k=true->b6 (Df listed (au wt f.m none)) k=true:=by
    intro k hk
    cases hwk:au wt f.m none k with
    | none=>rw[cv hwk];exact f5 k hk
    | some x =>
     obtain⟨q1,q2⟩:=wle k x hwk
     obtain⟨f'',g1,g2,_⟩:=hw k x q1
     have:=S.ind f f'' hf g1 (by rintro hpp;exact q2 (by rw[S.same f f'' hf g1 hpp,g2]))
     rw[g2,hk]at this
     cases this
   obtain⟨ρ',h',e',hJ',hes⟩:=Q9 S hX0 hf hwt wi (by rw[fv,fv]) hls hanc (jg hwt (by omega)) hJ f6 (he f hf (Nat.le_refl _)).2
   refine ih _ ρ' h' e' (f.p+1) (by omega) (fun k x hk=>?_) (fun k k' x h1 h2=>wi k k' x (wle k x h1).1 (wle k' x h2).1) (fun f2 hf2 hp2=>?_) hJ'
   ·obtain⟨q1,q2⟩:=wle k x hk
    obtain⟨f'',g1,g2,g3,g4⟩:=hw k x q1
    refine⟨f'',g1,g2,?_,g4⟩
    have:f''.p≠f.p:=by rintro hpp;exact q2 (by rw[<- g2,S.same f'' f g1 hf hpp])
    omega
   ·obtain⟨u1,u2⟩:=he f2 hf2 (by omega)
    have F2:=S.fl f2 hf2
    have hne:f2.m≠f.m:=by
     intro hmm
     have:=S.L2 hf2 hf hmm
     subst this
     omega
    refine⟨?_,fun q hq=>?_⟩
    ·rw[hes f2.s fun k b hb hbd=>?_]
     ·exact u1
     ·have hk:k=f2.m:=Classical.byContradiction fun hk=>F2.us k b hb hk hbd
      exact⟨by rw[hk];exact hne,fun hh=>hh.1 (by rw[hk];exact List.mem_of_getElem? F2.fm)⟩
    ·rw[hes q.1 fun k b hb hbd=>?_]
     ·exact u2 q hq
     ·obtain⟨z1,z2,z3⟩:=F2.cok q hq k b hb hbd
      exact⟨by rintro rfl;exact z1 (List.mem_of_getElem? F.fm),fun hh=>hh.2 z2⟩
  ·refine .mk wt ρ h e j (fun k g hk=>?_) wi he hJ
   obtain⟨f,f1,f2,f3,f4⟩:=hw k g hk
   have:f.p≠j:=by
    rintro hp
    exact hx ⟨f,g,f1,by rw[f2];exact hk,hp⟩
   exact⟨f,f1,f2,by omega,f4⟩
theorem Pc (S:yH P nt ops items masks tl fs){c₀:Ctx}{w₀:World}{K:LEnv->Heap->Prop}{listed:Array Bool}{a:Act}{w:World}{Q:Exit->Act->World->Prop}{rd:Option Nat}{wt:Nat->Option Nat}{ρ:Nat->Option Nat}{h:Heap}{e:LEnv}{j:Nat}{f:Fl P}(hf:f∈fs)
  (hw:∀k g,wt k=some g->∃f,f∈fs/\f.m=k/\j<f.p+0/\b6 listed k=true/\(∀x,(masks.getD k 0).testBit x=true->b6 listed x=true)/\a.tmps.getD f.s Go.undef=f.fk.val g)
  (wi:∀k k' g,wt k=some g->wt k'=some g->k=k')
  (he:∀f∈fs,j<=f.p->e.get f.s=.undef/\∀q∈f.fk.cs,e.get q.1=.int q.2.1 q.2.2)
  (hJ:IL P nt ops items masks tl (c₀.X.F9 wt) (LW fs c₀ wt) w₀ K (Df listed wt) a w ρ h e j) (R:Sg ops masks listed f.m) (hj:j<f.p) (hwf:wt f.m=none) :
  wpOpIn (rF rd) 0 P ops Q f.m (JG P nt ops items masks tl fs c₀ w₀ K 0 (listed.setIfInBounds f.m true)) a w:=by
 have F:=S.fl f hf
 have hsl:listed.size=ops.size:=by rw[<- hJ.size,fv]
 have hil:f.m<listed.size:=by rw[hsl];exact R.lt
 obtain⟨o,ho,hmk,hdst,hg⟩:=F.mko
 have hes:=he f hf (Nat.le_of_lt hj)
 have hrun:=hmk.2 a w (fun q hq=>by
  rcases hJ.rel q.1 with⟨kk,b,hb,hkt,hun,hbd⟩|h0
  ·have h1:=R.anc kk (F.cok q hq kk b hb hbd).2.2
   have:wt kk=none:=by
    cases hwk:wt kk with
    | none=>rfl
    | some x =>
     obtain⟨f2,g1,g2,_⟩:=hw kk x hwk
     exact absurd (List.mem_of_getElem? (S.fl f2 g1).fm) (by rw[g2];exact hkt)
   rw[cv this,h1]at hun;cases hun
  ·rw[hes.2 q hq]at h0
   exact dY h0)
 unfold wpOpIn
 simp only[ho]
 rw[if_pos (by simp[Region.wanted,hg])]
 refine gN hmk.1 hrun ?_
 rw[Oper.uponIn_value,hdst]
 obtain⟨hsz,hdc,⟨hle,lw⟩,hr,hws,hdef,htsz,hjl,htail,hprog,hrel,hval⟩:=hJ
 let g:=w.heap.size
 let wt':=au wt f.m (some g)
 have wle:∀k x,wt' k=some x->(k=f.m/\x=g)\/wt k=some x:=by
  intro k x hk
  by_cases hkm:k=f.m
  ·subst hkm
   have:au wt f.m (some g) f.m=some x:=hk
   rw[ak]at this
   exact Or.inl ⟨rfl,by cases this;rfl⟩
  ·have:au wt f.m (some g) k=some x:=hk
   rw[ai _ _ hkm]at this;exact Or.inr this
 have wlt:∀k x,wt k=some x->x<g:=by
  intro k x hk
  obtain⟨_,⟨f2,_,_,h3⟩,_⟩:=lw k x hk
  exact(Array.getElem?_eq_some_iff.1 h3).1
 have wup:∀k x,wt k=some x->wt' k=some x:=by
  intro k x hk
  have:k≠f.m:=by rintro rfl;rw[hwf]at hk;cases hk
  show au wt f.m (some g) k=some x
  rw[ai _ _ this];exact hk
 have hpush:(w.alloc f.fk.obj).heap=w.heap.push f.fk.obj:=rfl
 let C:Ctx:=⟨ρ,c₀.X.F9 wt,h,w.heap⟩
 let Cp:Ctx:=⟨ρ,c₀.X.F9 wt',h,w.heap⟩
 let C1:Ctx:=⟨ρ,c₀.X.F9 wt',h,w.heap.push f.fk.obj⟩
 have sc:Ld C Cp:=by
  refine⟨rfl,fun _ _=>rfl,fun _ _=>rfl,fun b hb ho=>?_⟩
  rcases ho with hx|hx
  ·rcases hx with hx|⟨k,hk⟩
   ·exact Or.inl (Or.inl hx)
   ·rcases wle k b hk with⟨_,q⟩|q
    ·exact absurd q (Nat.ne_of_lt hb)
    ·exact Or.inl (Or.inr ⟨k,q⟩)
  ·exact Or.inr hx
 obtain⟨gle,_⟩:=grow_step hr f.fk.obj
 have le1:Cp.le C1:=gle.Sl (c₀.X.F9 wt') (c₀.X.F9 wt') rfl
 have mlt:∀k b,(h k).mine->ρ k=some b->b<g:=fun k b hm hb=>kg hr hm hb
 have hr1:aq C1:=by
  refine⟨fun k=>?_,hr.inj,fun k b hm hb hX=>?_,fun b hX=>?_,hr.fin,(hr.glob.sx sc).mono le1,by have:=hr.lo;simp only at this;show c₀.X.lo<=(w.heap.push _).size;simp;exact Nat.le_succ_of_le this⟩
  ·exact ik le1 (cx.sx sc (fun _=>rfl) (hr.slot k)) (fun _ _=>rfl) (fun b hm hb=>by
    have:=mlt k b hm hb
    show(w.heap.push _)[b]?=w.heap[b]?
    rw[Array.getElem?_push,if_neg (by omega)])
  ·have:=mlt k b hm hb
   rcases hX with hx|⟨k',hk'⟩
   ·exact hr.apart k b hm hb (Or.inl hx)
   ·rcases wle k' b hk' with⟨_,q⟩|q
    ·omega
    ·exact hr.apart k b hm hb (Or.inr ⟨k',q⟩)
  ·show b<(w.heap.push _).size
   simp only[Array.size_push]
   rcases hX with hx|⟨k',hk'⟩
   ·have:=hr.xlt b (Or.inl hx)
    simp only at this
    omega
   ·rcases wle k' b hk' with⟨_,q⟩|q
    ·have:b=w.heap.size:=q
     omega
    ·have:=wlt k' b q
     have:b<w.heap.size:=this
     omega
 have hls:∀k,b6 (Df (listed.setIfInBounds f.m true) wt') k=b6 (Df listed wt) k:=by
  intro k
  by_cases hk:k=f.m
  ·subst hk
   rw[jg (g:=g) (by show au wt f.m (some g) f.m=_;rw[ak]) (by simpa using hil),cv hwf,R.un]
  ·cases hwk:wt k with
   | none=>rw[cv hwk,cv (by show au wt f.m (some g) k=_;rw[ai _ _ hk];exact hwk),cP hil,if_neg hk]
   | some x =>
    obtain⟨f2,g1,g2,_⟩:=hw k x hwk
    have:k<listed.size:=by rw[hsl, <- g2];exact S.tlt _ (List.mem_of_getElem? (S.fl f2 g1).fm)
    rw[jg hwk this,jg (wup k x hwk) (by simpa using this)]
 have hput:∀s',s'≠f.s->(a.put (some f.s) (f.fk.val w.heap.size)).tmps.getD s' Go.undef=a.tmps.getD s' Go.undef:=by
  intro s' hs
  have hs':f.s≠s':=fun e=>hs e.symm
  simp[Act.put,hs']
 refine .mk wt' ρ h e j (fun k x hk=>?_) (fun k k' x h1 h2=>?_) he (IL.congr (l1:=Df listed wt) (by rw[fv,fv];simp) hls ?_)
 ·rcases wle k x hk with⟨q1,q2⟩|q
  ·subst q1 q2
   exact⟨f,hf,rfl,by omega,by rw[cP hil,if_pos rfl],fun x hx=>by rw[cP hil];split;rfl;exact R.anc x hx,by simp[Act.put,htsz,F.sn,g]⟩
  ·obtain⟨f2,g1,g2,g3,g4,g5,g6⟩:=hw k x q
   refine⟨f2,g1,g2,g3,by rw[cP hil];split;rfl;exact g4,fun x hx=>by rw[cP hil];split;rfl;exact g5 x hx,?_⟩
   rw[hput]
   ·exact g6
   ·intro hss
    refine F.us f2.m _ (S.fl f2 g1).it ?_ (by rw[hss])
    rintro hmm
    rw[<- g2,hmm,hwf]at q
    cases q
 ·rcases wle k x h1 with⟨q1,q2⟩|q
  ·rcases wle k' x h2 with⟨q3,q4⟩|q'
   ·rw[q1,q3]
   ·have:=wlt k' x q';omega
  ·rcases wle k' x h2 with⟨q3,q4⟩|q'
   ·have:=wlt k x q;omega
   ·exact wi k k' x q q'
 refine⟨hsz,hdc,⟨hle.trans (gle.Sl c₀.X c₀.X rfl),fun k x hk=>?_⟩,hr1,⟨hws.os,hws.tape,hws.output⟩,(fj.sx sc rfl rfl hdef).mono le1,by simpa[Act.put] using htsz,hjl,htail,hprog,fun s'=>?_,hval⟩
 ·rcases wle k x hk with⟨q1,q2⟩|q
  ·subst q1 q2
   exact⟨by have:=hle.size;simpa using this,⟨f,hf,rfl,gE _ _⟩,fun k hm hb=>by have:=mlt k _ hm hb;omega⟩
  ·obtain⟨z1,⟨f2,z2,z3,z4⟩,z5⟩:=lw k x q
   refine⟨z1,⟨f2,z2,z3,?_⟩,z5⟩
   have:=wlt k x q
   show(w.heap.push _)[x]?=_
   rw[Array.getElem?_push,if_neg (by omega)]
   exact z4
 ·by_cases hs:s'=f.s
  ·subst hs;rw[hes.1];exact Or.inr (.undef _)
  ·rcases hrel s' with h0|h0
   ·exact Or.inl h0
   ·right
    rw[hput s' hs]
    exact(ar.sx sc h0).mono le1
theorem PR (S:yH P nt ops items masks tl fs){c₀:Ctx}(hX0:∀g,c₀.X g->g<c₀.hp.size){w₀:World}{K:LEnv->Heap->Prop}{listed:Array Bool}{a:Act}{w:World}{Q:Exit->Act->World->Prop}{rd:Option Nat}
  (hJ:JG P nt ops items masks tl fs c₀ w₀ K 0 listed a w) {i:Nat}(hi:i∈Region.ready .any ops listed):wpOpIn (rF rd) 0 P ops Q i (JG P nt ops items masks tl fs c₀ w₀ K 0 (listed.setIfInBounds i true)) a w:=by
 have R:=Jf S.totv hJ.size (hJ.dc S) hi
 have hsl:=hJ.size
 have hil:i<listed.size:=by rw[hsl];exact R.lt
 cases hJ with
 | mk wt ρ h e j hw wi he hJ =>
  have hwi:wt i=none:=by
   cases hwk:wt i with
   | none=>rfl
   | some x =>
    obtain⟨f2,_,_,_,g4,_⟩:=hw i x hwk
    rw[R.un]at g4;cases g4
  have wlt:∀k x,wt k=some x->k<listed.size:=by
   intro k x hk
   obtain⟨f2,g1,g2,_⟩:=hw k x hk
   rw[hsl, <- g2];exact S.tlt _ (List.mem_of_getElem? (S.fl f2 g1).fm)
  by_cases hx:∃f,f∈fs/\f.m=i/\j<f.p
  ·obtain⟨f,hf,rfl,hj⟩:=hx
   exact Pc S hf hw wi he hJ R hj hwi
  ·
   have tj:∀l,j<l->l<tl.length->∃i',tl[j]?=some i'/\¬b6 (Df listed wt) i'=true:=by
    intro l hl hlt
    have hjl:j<tl.length:=by omega
    refine⟨tl[j],by simp[hjl],fun hc=>?_⟩
    have:=(hJ.prog j tl[j] (by simp[hjl])).1 hc
    omega
   have wj:∀i',tl[j]?=some i'->wt i'=none:=by
    intro i' hi'
    cases hwk:wt i' with
    | none=>rfl
    | some x =>
     obtain⟨f2,g1,g2,g3,_⟩:=hw i' x hwk
     have:=S.nd j f2.p i' hi' (by rw[<- g2];exact(S.fl f2 g1).fm)
     omega
   have lstI:∀l,tl[l]?=some i->j<=l:=by
    intro l hl
    rcases Nat.lt_or_ge l j with hlt|hge
    ·have:=(hJ.prog l i hl).2 hlt
     rw[cv hwi,R.un]at this
     cases this
    ·exact hge
   have nfl:∀l,tl[l]?=some i->j<l->∀f∈fs,l≠f.p:=by
    intro l hl hjl f hf hlp
    subst hlp
    have:f.m=i:=by have:=(S.fl f hf).fm;rw[this]at hl;cases hl;rfl
    exact hx ⟨f,hf,this,hjl⟩
   have hlj:∀l,tl[l]?=some i->l=j:=by
    intro l hl
    have h1:=lstI l hl
    rcases Nat.lt_or_ge j l with hgt|hge
    ·exfalso
     obtain⟨i',hi',hn⟩:=tj l hgt (List.getElem?_eq_some_iff.1 hl).1
     have:=R.anc _ (S.tord j l i' i hi' hl hgt (nfl l hl hgt))
     rw[cv (wj i' hi')]at hn
     exact hn this
    ·omega
   have nom:∀k x,wt k=some x->(masks.getD i 0).testBit k≠true:=by
    intro k x hk hq
    obtain⟨f2,g1,g2,g3,g4,g5,g6⟩:=hw k x hk
    have F2:=S.fl f2 g1
    subst g2
    by_cases hit:i∈tl
    ·obtain⟨l,hl⟩:=List.getElem?_of_mem hit
     have:=hlj l hl
     rw[F2.ntm l i hl (by omega)]at hq;cases hq
    ·have h1:=(S.stg i f2.p f2.m R.lt hit F2.fm).1 hq
     have hp:=(List.getElem?_eq_some_iff.1 F2.fm).1
     obtain⟨i',hi',hn⟩:=tj f2.p (by omega) hp
     have:=R.anc _ ((S.stg i j i' R.lt hit hi').2 (by omega))
     rw[cv (wj i' hi')]at hn
     exact hn this
   have RV:Sg ops masks (Df listed wt) i:=by
    refine⟨R.lt,by rw[cv hwi];exact R.un,fun k hk=>?_⟩
    cases hwk:wt k with
    | none=>rw[cv hwk];exact R.anc k hk
    | some x=>exact absurd hk (nom k x hwk)
   have hitl:i<items.length:=by rw[S.len];exact R.lt
   have hdst:∀f∈fs,f.m≠i->∀o,ops[i]?=some o->o.dst≠some f.s:=by
    intro f hf hne o ho hq
    obtain⟨b,hb⟩:∃b,items[i]?=some b:=⟨items[i]'hitl,by simp[hitl]⟩
    refine(S.fl f hf).us i b hb (fun e=>hne e.symm) ?_
    by_cases hit:i∈tl
    ·obtain⟨fz,hc⟩:=S.itt i o ho hit
     rw[hb]at hc
     unfold cOper at hc
     split at hc
     case isFalse=>cases hc
     cases hop:cOp P fz o with
     | none=>simp[hop]at hc
     | some op =>
      simp only[hop]at hc
      split at hc
      ·cases hc;exact hq
      ·split at hc
       ·cases hc;exact hq
       ·cases hc
    ·have:=(S.itv i o b ho hb hit).dst
     rw[this];exact hq
   refine wpOpIn_mono (fun a' w' hh=>?_) (wpOp_put (HI S.totv (fun ρ h w ρ' h' w' l k=>LW.mono l k) hJ RV hlj))
   obtain⟨⟨ρ',h',e',j',hJ',hj',_,hes⟩,hput⟩:=hh
   have hls:∀k,b6 (Df (listed.setIfInBounds i true) wt) k=b6 ((Df listed wt).setIfInBounds i true) k:=by
    intro k
    rw[cP (by rw[fv];exact hil)]
    by_cases hk:k=i
    ·subst hk
     rw[if_pos rfl,cv hwi,cP hil,if_pos rfl]
    ·rw[if_neg hk]
     cases hwk:wt k with
     | none=>rw[cv hwk,cv hwk,cP hil,if_neg hk]
     | some x=>rw[jg hwk (wlt k x hwk),jg hwk (by simpa using wlt k x hwk)]
   have hJ2:=IL.congr (l2:=Df (listed.setIfInBounds i true) wt) (by rw[fv];simp[fv]) hls hJ'
   refine OK S hX0 _ wt ρ' h' e' j' (Nat.le_refl _) (fun k x hk=>?_) wi (fun f hf hp=>?_) hJ2
   ·obtain⟨f2,g1,g2,g3,g4,g5,g6⟩:=hw k x hk
    refine⟨f2,g1,g2,by omega,by rw[cP hil];split;rfl;exact g4,fun x hx=>by rw[cP hil];split;rfl;exact g5 x hx,?_⟩
    rw[hput f2.s (hdst f2 g1 (by rintro rfl;rw[<- g2,hwi]at hk;cases hk))]
    exact g6
   ·have F:=S.fl f hf
    have hne:f.m≠i:=by
     rintro rfl
     have:=(hJ'.prog f.p f.m F.fm).1 (by rw[cP (by rw[fv];exact hil),if_pos rfl])
     omega
    obtain⟨u1,u2⟩:=he f hf (by omega)
    refine⟨?_,fun q hq=>?_⟩
    ·rw[hes f.s fun k b hb hk=>F.us k b hb ?_]
     ·exact u1
     ·rintro rfl
      rcases hk with hk|hk
      ·exact hk.1 (List.mem_of_getElem? F.fm)
      ·exact hne hk.1
    ·rw[hes q.1 fun k b hb hk hbd=>?_]
     ·exact u2 q hq
     ·obtain⟨z1,z2,z3⟩:=F.cok q hq k b hb hbd
      rcases hk with hk|hk
      ·exact hk.2 z2
      ·rw[hk.1]at z1;exact z1 hk.2
theorem Mj {id:Nat}(S:yH P nt ops items masks tl fs) (hm:P.follows .mixedOrders=true){Q:LPost}{e:LEnv}{h:Heap}(hes:∀f∈fs,e.get f.s=.undef){T:LEnv}(t1:sRest P items masks tl tl 0 (Q .normal) T h) (t2:∀s,(∀a,a∈il items masks tl 0->a.dst≠some s)->T.get s=e.get s) (t3:∀a,a∈il items masks tl 0->bV P a T h)
  (hpre:∀f∈fs,∀q∈f.fk.cs,T.get q.1=.int q.2.1 q.2.2):oT P nt (.region id ops true) (fun x=>up (Q x)) e.get h:=by
 intro rd c w a hh hp hr hs _
 subst hh
 refine wpIn_region_any hm ?_
 have hfalse:∀i,i<ops.size->b6 (Array.replicate ops.size false) i=false:=by intro i hi;unfold b6;simp[Array.getD,hi]
 have hlt:∀i b,items[i]?=some b->i<ops.size:=fun i b hb=>by rw[<- S.len];exact(List.getElem?_eq_some_iff.1 hb).1
 have hce:(⟨c.ρ,c.X,c.h,w.heap⟩:Ctx)=c:=by rw[<- hp]
 have hcl:∀k,b6 (Df (Array.replicate ops.size false) fun _=>none) k=b6 (Array.replicate ops.size false) k:=fun k=>cv rfl
 refine Ql S.totv (JJ:=JG P nt ops items masks tl fs c w (Q .normal) 0) (fun _ _ _ hJ=>hJ.size) (fun _ _ _ hJ=>hJ.dc S) (fun listed a' w' i hJ hi=>PR S hr.xlt hJ hi) (fun listed a' w' hJ hall=>?_) ops.size _ a _ (Nat.le_trans (List.length_filter_le _ _) (by simp)) ?_
 ·cases hJ with
  | mk wt ρ h e' j hw wi he hJ =>
   have hjl:j=tl.length:=by
    have hle:=hJ.jle
    rcases Nat.lt_or_ge j tl.length with hlt|hge
    ·exfalso
     have htj:tl[j]?=some tl[j]:=by simp[hlt]
     cases hwk:wt tl[j] with
     | none =>
      have:=(hJ.prog j tl[j] htj).1 (by rw[cv hwk];exact hall _ (S.tlt _ (List.getElem_mem hlt)))
      omega
     | some x =>
      obtain⟨f,g1,g2,g3,_⟩:=hw _ x hwk
      have:=S.nd j f.p tl[j] htj (by rw[<- g2];exact(S.fl f g1).fm)
      omega
    ·omega
   have hwn:∀k,wt k=none:=by
    intro k
    cases hwk:wt k with
    | none=>rfl
    | some x =>
     obtain⟨f,g1,g2,g3,_⟩:=hw k x hwk
     have:=(List.getElem?_eq_some_iff.1 (S.fl f g1).fm).1
     omega
   obtain⟨_,_,⟨hle,_⟩,hrr,hws,hdef,hsz,hj,htail,hprog,hrel,hval⟩:=hJ
   rw[XT.Gb hwn]at hrr hdef hrel
   subst hjl
   rw[List.drop_length]at htail
   refine⟨ρ,e'.get,h,hle,hrr,hws,⟨hrr.glob,hrr.lo,hdef,hsz,fun s=>?_⟩,e',rfl,htail⟩
   rcases hrel s with⟨i,b,hb,_,hun,_⟩|h
   ·rw[cv (hwn i),hall i (hlt i b hb)]at hun
    cases hun
   ·exact h
 ·have hw:({ w with drawn:=w.drawn+1 }:World).heap=w.heap:=rfl
  have hX:c.X.F9 (fun _=>none)=c.X:=XT.Gb fun _=>rfl
  refine .mk (fun _=>none) c.ρ c.h T 0 (fun k g hk=>by cases hk) (fun k k' g hk=>by cases hk) (fun f hf _=>?_) ?_
  ·have F:=S.fl f hf
   refine⟨?_,hpre f hf⟩
   rw[t2 f.s fun b hb=>?_]
   ·exact hes f hf
   ·obtain⟨k,h1,h2,h3⟩:=cV hb
    exact F.us k b h1 (by rintro rfl;exact h2 (List.mem_of_getElem? F.fm))
  refine⟨by rw[fv];simp,fun i k hi hl=>(by rw[hcl,hfalse i hi]at hl;cases hl),⟨?_,fun k g hk=>by cases hk⟩,?_,⟨rfl,rfl,rfl⟩,(by rw[hX,hw,hce];exact hs.defers),hs.size,Nat.zero_le _,by simpa using t1,fun l i hl=>?_,fun s=>?_,fun i b hb hn _ hst=>?_⟩
  ·rw[hw,hce];exact Ctx.le.refl c
  ·rw[hX,hw,hce];exact hr
  ·rw[hcl,hfalse i (S.tlt i (List.mem_of_getElem? hl))];simp
  ·by_cases hex:∃b,b∈il items masks tl 0/\b.dst=some s
   ·obtain⟨b,hb,hbd⟩:=hex
    obtain⟨k,h1,h2,h3⟩:=cV hb
    exact Or.inl ⟨k,b,h1,h2,by rw[hcl];exact hfalse k (hlt k b h1),hbd⟩
   ·right
    rw[t2 s (fun b hb hbd=>hex ⟨b,hb,hbd⟩),hX,hw,hce]
    exact hs.rel s
  ·have:=xG (masks:=masks) hb hn
   rw[show xH masks tl i=0 by omega]at this
   exact t3 b this
def Qa (P:Program) (fz:Bool) (esz:Nat) (zd:D) (elem:TypeId) (hpos:0<esz):vV P where
 op:=.bldS fz esz 0 zd []
 obj:=.cells #[] elem
 slot:=.arr esz []
 val g:=.slice (some ⟨g,0,none⟩) 0 0
 dv n:=.ms n 0 0
 cs:=[]
 hop:=by
  intro K e h _ hv n t
  simp only[vcOp]at hv
  have:=hv.2.2 n t
  simpa[Heap.freezeAll,setEls] using this
 hslot:=by
  intro c n g hρ hg
  exact⟨hpos,fun e he=>(by cases he),fun i j d hd=>(by simp[aF]at hd),Or.inr ⟨g,_,elem,hρ,hg,by simp,fun i j d hd=>(by simp[aF]at hd)⟩⟩
 hrel:=by
  intro c n g hh hρ hg
  have:=ar.ms (c:=c) n 0 0 g esz 0 [] #[] elem (0,0) (by rw[hh];rfl) hρ (by simp) hg (by simp) (by omega) (by unfold maxLen;omega)
  rwa [Nat.zero_mul]at this
theorem Kj {fz:Bool}{esz:Nat}{zd:D}{elem t:TypeId}{hpos:0<esz}{o:Oper}{ps:Array (Nat×Operand)}(ho:o.op=.buildSlice t 0 ps) (hps:ps = #[]) (hu:P.underlying t=some (.slice elem)) (ht:(P.info? elem).map (·.size)=some esz) :
  E6 P (Qa P fz esz zd elem hpos) o:=by
 subst hps
 refine⟨fun c hc=>(by rw[ho]at hc;cases hc),fun a w _=>?_⟩
 show(execOp a.eval o).run P w=.ok (.value (.slice (some ⟨w.heap.size,0,none⟩) 0 0)) (w.alloc (.cells #[] elem))
 simp[execOp,ho,Instr.buildSlice,run_underlying hu,run_sizeOf ht,Array.range_zero',Instr.fill,bQ]
def Mq:AOp->List Nat
 | .mk _ _ _ x y=>argRegs x++argRegs y
 | _=>[]
def sMkN (op:AOp) (o:Oper):Bool :=
 match op,o.op with
 | .HY _,.makeMap _ none=>true
 | .alloc _,.alloc _=>true
 | .mk ..,.makeSlice ..=>true
 | .bldS _ _ 0 _ [],.buildSlice _ 0 ps=>ps.size == 0
 | _,_=>false
def flN (ops:Array Oper) (nt:Nat) (items:List AOper) (masks tl ps:List Nat) (p:Nat):Option (Nat×AOp) :=
 match tl[p]? with
 | some m=>match items[m]?,ops[m]? with
  | some ⟨some s,op,none⟩,some o=>match o.dst,o.guard with
   | some s',none=>if s'=s/\s<nt/\sMkN op o=true/\(items.zipIdx.all fun q=>decide (q.2=m)||q.1.dst != some s)=true/\((List.range p).all fun l=> !(masks.getD (tl.getD l 0) 0).testBit m)=true /\
     ((Mq op).all fun r=>items.zipIdx.all fun q=>q.1.dst != some r||(!tl.contains q.2&&xH masks tl q.2 == 0&&(masks.getD m 0).testBit q.2))=true /\
     (ps.all fun p'=>p' == p || !(masks.getD m 0).testBit (tl.getD p' 0))=true then some (s,op) else none
   | _,_=>none
  | _,_=>none
 | none=>none
def Jm (op:AOp) (e:LEnv):Prop:=match op with
 | .mk _ bytes _ x y=>∃kl L kc C,x.get e=.int kl L/\y.get e=.int kc C/\0<=L/\L<=C/\C*bytes<=140737488355328/\C<=9223372036854775807
 | _=>True
def ckN:List (Nat×AOp)->ACode->ACode
 | [],c=>c
 | (_,.mk _ bytes _ x y)::r,c=>.seq (.dreg [] [⟨none,.mkc bytes x y,none⟩] []) (ckN r c)
 | _::r,c=>ckN r c
theorem Il:∀(l:List (Nat×AOp)){c:ACode}{Q:LPost}{e:LEnv}{h:Heap},vcC P (ckN l c) Q e h->(∀q∈l,Jm q.2 e)/\vcC P c Q e h
 | [],c,Q,e,h,hv=>⟨fun q hq=>(by cases hq),hv⟩
 | (s,op)::r,c,Q,e,h,hv=>by
  cases op with
  | mk esz bytes zd x y =>
   have hv:vcOp P (.mkc bytes x y) (fun _ h2=>vcC P (ckN r c) Q e h2) e h:=by
    have:=hv
    simp only[ckN,vcC,LPost.then,vcVals,pY,vcTail,uR,fA]at this
    exact this
   simp only[vcOp]at hv
   unfold vint at hv
   split at hv
   case h_2=>exact hv.elim
   rename_i kl L hL
   split at hv
   case h_2=>exact hv.elim
   rename_i kc C hC
   obtain⟨i1,i2⟩:=Il r hv.2.2.2.2
   refine⟨fun q hq=>?_,i2⟩
   rcases List.mem_cons.1 hq with rfl|hq
   ·exact⟨kl,L,kc,C,hL,hC,hv.1,hv.2.1,hv.2.2.1,hv.2.2.2.1⟩
   ·exact i1 q hq
  | _ =>
   obtain⟨i1,i2⟩:=Il r hv
   refine⟨fun q hq=>?_,i2⟩
   rcases List.mem_cons.1 hq with rfl|hq
   ·trivial
   ·exact i1 q hq
def Kf:List Nat->LEnv->LEnv
 | [],e=>e
 | s::r,e=>Kf r (e.put (some s) .undef)
theorem Jh:∀(l:List Nat) (e:LEnv),(∀i,(Kf l e).get i=.undef\/(Kf l e).get i=e.get i)/\∀s,s∈l\/e.get s=.undef->(Kf l e).get s=.undef
 | [],e=>⟨fun i=>Or.inr rfl,fun s hs=>hs.elim (fun h=>by cases h) id⟩
 | s::r,e=>by
  obtain⟨i1,i2⟩:=Jh r (e.put (some s) .undef)
  have hg:∀i,(e.put (some s) .undef).get i=if i=s then .undef else e.get i:=by
   intro i
   rw[LEnv.aX]
   simp only[Env.put,au]
  refine⟨fun i=>?_,fun x hx=>i2 x ?_⟩
  ·rcases i1 i with h|h
   ·exact Or.inl h
   ·rw[hg]at h
    by_cases hi:i=s
    ·rw[if_pos hi]at h;exact Or.inl h
    ·rw[if_neg hi]at h;exact Or.inr h
  ·rcases hx with hx|hx
   ·rcases List.mem_cons.1 hx with rfl|hx
    ·exact Or.inr (by rw[hg,if_pos rfl])
    ·exact Or.inl hx
   ·exact Or.inr (by rw[hg];split;rfl;exact hx)
theorem Ew:∀(l:List Nat){K:LEnv->Heap->Prop}{e:LEnv}{h:Heap},vcVals P (l.map fun s=>⟨some s,.mov (.c .undef),none⟩) K e h->K (Kf l e) h
 | [],_,_,_,hv=>hv
 | s::r,K,e,h,hv=>Ew r (by simp only[List.map_cons,vcVals,pY]at hv;exact hv)
theorem Th {ps:List Nat}{p s:Nat}{op:AOp}{T:LEnv}(S0:tv P nt ops items masks tl) (h:flN ops nt items masks tl ps p=some (s,op)) (hf:Jm op T) :
  ∃f:Fl P,f.p=p/\f.s=s/\Sj P nt ops items masks tl f/\(∀q∈f.fk.cs,T.get q.1=.int q.2.1 q.2.2)/\∀p',p'∈ps->p'≠p->(masks.getD f.m 0).testBit (tl.getD p' 0)=false:=by
 unfold flN at h
 split at h<;>try (cases h;done)
 rename_i m hm
 split at h<;>try (cases h;done)
 rename_i s0 op0 o hit hop
 split at h<;>try (cases h;done)
 rename_i s' h2 h3
 split at h<;>try (cases h;done)
 rename_i hcc
 obtain⟨rfl,c1,cm,c5,c6,c7,c8⟩:=hcc
 cases h
 obtain⟨fz,hitem⟩:=S0.itt m o hop (List.mem_of_getElem? hm)
 rw[hit]at hitem
 have hcop:cOp P fz o=some op:=by
  unfold cOper at hitem
  split at hitem
  case isFalse=>cases hitem
  cases hcp:cOp P fz o with
  | none=>simp[hcp]at hitem
  | some op' =>
   simp only[hcp,h3,Option.some.injEq,AOper.mk.injEq]at hitem
   rw[hitem.2.1]
 obtain⟨fk,rfl,hcs,hpre,hmk⟩:∃fk:vV P,op=fk.op/\(∀q∈fk.cs,q.1∈Mq op)/\(∀q∈fk.cs,T.get q.1=.int q.2.1 q.2.2)/\E6 P fk o:=by
  unfold sMkN at cm
  split at cm<;>try (cases cm;done)
  ·rename_i kt t h1
   exact⟨MV P kt,rfl,fun q hq=>(by cases hq),fun q hq=>(by cases hq),Ki h1⟩
  ·rename_i zd t h1
   have hz:dt P t=some zd:=by
    unfold cOp at hcop
    cases hz:dt P t with
    | none=>simp[cOp0,h1,hz,cOpM,deadOp]at hcop
    | some z=>simp[cOp0,h1,hz]at hcop;rw[hcop]
   obtain⟨z,z1,z2⟩:=EW (P:=P) hz
   refine⟨Qb P zd z.cells t z2,rfl,fun q hq=>(by cases hq),fun q hq=>(by cases hq),fun c hc=>(by rw[h1]at hc;cases hc),fun a w _=>?_⟩
   simp[execOp,h1,Instr.alloc,bw z1,newVar,bQ,Qb]
  ·rename_i esz bytes zd x' y' t x y ho
   obtain⟨kl,L,kc,C,e1,e2,b0,b1,b2,b3⟩:=hf
   have:∃elem i,P.underlying t=some (.slice elem)/\P.info? elem=some i/\dt P elem=some zd/\cArg x=some x'/\cArg y=some y'/\zd.cells.length=i.size/\0<i.size/\i.size=esz/\i.bytes=bytes:=by
    have hop:=hcop
    unfold cOp cOp0 at hop
    simp only[ho]at hop
    split at hop
    ·rename_i op' h0
     cases hop
     split at h0
     ·rename_i elem hu
      split at h0
      ·rename_i i z x1 y1 q1 q2 q3 q4
       split at h0
       ·rename_i hcc
        cases h0
        exact⟨elem,i,hu,q1,q2,q3,q4,hcc.1,hcc.2,rfl,rfl⟩
       ·cases h0
      ·cases h0
     ·cases h0
    ·simp[cOpM,ho,deadOp]at hop
   obtain⟨elem,i,hu,hinf,hz,hcx,hcy,hsz,hpos,hie,hib⟩:=this
   obtain⟨z,z1,z2⟩:=EW (P:=P) hz
   have hx:∀d,x'=.c d->d=.int kl L:=fun d hd=>by rw[hd]at e1;exact e1
   have hy:∀d,y'=.c d->d=.int kc C:=fun d hd=>by rw[hd]at e2;exact e2
   have hsz':zd.cells.length=esz:=by rw[hsz,hie]
   have hpos':0<esz:=by omega
   refine⟨Ti P esz bytes zd x' y' elem z.cells kl kc L C hsz' hpos' z2 b0 b1 b3 hx hy,rfl,fun q hq=>?_,fun q hq=>?_,MF ho hcx hcy hu hinf hie hib z1 b2⟩
   ·rcases List.mem_append.1 hq with h|h
    ·simp only[u5,List.mem_map]at h
     obtain⟨r,hr,rfl⟩:=h
     exact List.mem_append_left _ hr
    ·simp only[u5,List.mem_map]at h
     obtain⟨r,hr,rfl⟩:=h
     exact List.mem_append_right _ hr
   ·rcases List.mem_append.1 hq with h|h
    ·simp only[u5,List.mem_map]at h
     obtain⟨r,hr,rfl⟩:=h
     cases hx':x' with
     | t r' =>
      rw[hx']at hr e1
      simp only[argRegs,List.mem_singleton]at hr
      rw[hr];exact e1
     | c d=>rw[hx']at hr;simp[argRegs]at hr
    ·simp only[u5,List.mem_map]at h
     obtain⟨r,hr,rfl⟩:=h
     cases hy':y' with
     | t r' =>
      rw[hy']at hr e2
      simp only[argRegs,List.mem_singleton]at hr
      rw[hr];exact e2
     | c d=>rw[hy']at hr;simp[argRegs]at hr
  ·rename_i fz' esz zd t ps ho
   have hps:ps = #[]:=Array.eq_empty_of_size_eq_zero (by simpa using cm)
   subst hps
   have:∃elem,P.underlying t=some (.slice elem)/\(P.info? elem).map (·.size)=some esz/\0<esz:=by
    have hop:=hcop
    unfold cOp cOp0 at hop
    simp only[ho]at hop
    split at hop
    ·rename_i op' h0
     cases hop
     split at h0
     ·rename_i elem hu
      split at h0
      ·rename_i n z qs q1 q2 q3
       split at h0
       ·rename_i hcc
        cases h0
        exact⟨elem,hu,q1,hcc.1⟩
       ·cases h0
      ·cases h0
     ·cases h0
    ·simp[cOpM,ho,deadOp]at hop
   obtain⟨elem,hu,ht,hpos⟩:=this
   exact⟨Qa P fz' esz zd elem hpos,rfl,fun q hq=>(by cases hq),fun q hq=>(by cases hq),Kj ho rfl hu ht⟩
 refine⟨⟨p,m,s,fk⟩,rfl,rfl,⟨hm,hit,fun k b hb hk=>?_,c1,⟨o,hop,hmk,h2,h3⟩,fun l i hl hlt=>?_,fun q hq k b hb hbd=>?_⟩,hpre,fun p' hp' hne=>?_⟩
 ·have:=List.all_eq_true.1 c5 (b,k) (mem_zipIdx hb)
  simp only[Bool.or_eq_true,decide_eq_true_eq,bne_iff_ne,ne_eq]at this
  exact this.resolve_left hk
 ·have:=List.all_eq_true.1 c6 l (by simpa using hlt)
  simp only[Bool.not_eq_true']at this
  simpa[List.getD,hl] using this
 ·have:=List.all_eq_true.1 (List.all_eq_true.1 c7 q.1 (hcs q hq)) (b,k) (mem_zipIdx hb)
  simp only[hbd,bne_self_eq_false,Bool.false_or,Bool.and_eq_true,Bool.not_eq_true',beq_iff_eq]at this
  exact⟨by simpa using this.1.1,this.1.2,this.2⟩
 ·have:=List.all_eq_true.1 c8 p' hp'
  simp only[Bool.or_eq_true,beq_iff_eq,Bool.not_eq_true']at this
  exact this.resolve_left hne
def SX (masks ps tl:List Nat):Bool :=
 (List.range tl.length).all fun k=>ps.contains k||(List.range k).all fun l=>(masks.getD (tl.getD k 0) 0).testBit (tl.getD l 0)
theorem MT {G:Fl P->Prop}:∀(ps:List Nat),(∀p∈ps,∃f:Fl P,f.p=p/\G f)->∃fs:List (Fl P),fs.map (·.p)=ps/\∀f∈fs,G f
 | [],_=>⟨[],rfl,fun f hf=>(by cases hf)⟩
 | p::r,h=>by
  obtain⟨f,hp,hg⟩:=h p (by simp)
  obtain⟨fs,h1,h2⟩:=MT r fun q hq=>h q (by simp[hq])
  refine⟨f::fs,by simp[hp,h1],fun x hx=>?_⟩
  rcases List.mem_cons.1 hx with rfl|hx
  ·exact hg
  ·exact h2 x hx
theorem GP:∀{fs:List (Fl P)},(fs.map (·.p)).Nodup->∀f f',f∈fs->f'∈fs->f.p=f'.p->f=f'
 | [],_,f,_,hf,_,_=>by cases hf
 | x::r,hn,f,f',hf,hf',e=>by
  simp only[List.map_cons,List.nodup_cons,List.mem_map,not_exists,not_and]at hn
  rcases List.mem_cons.1 hf with rfl|hfr
  ·rcases List.mem_cons.1 hf' with rfl|hfr'
   ·rfl
   ·exact absurd e.symm (hn.1 f' hfr')
  ·rcases List.mem_cons.1 hf' with rfl|hfr'
   ·exact absurd e (hn.1 f hfr)
   ·exact GP hn.2 f f' hfr hfr' e
theorem mapM_mem {α β:Type}{f:α->Option β}:∀{l:List α}{r:List β},l.mapM f=some r->∀x∈l,∃y,y∈r/\f x=some y
 | [],r,_,x,hx=>by cases hx
 | a::l,r,h,x,hx=>by
  rw[List.mapM_cons]at h
  simp only[Option.pure_def,Option.bind_eq_bind,Option.bind_eq_some_iff,Option.some.injEq]at h
  obtain⟨y,hy,z,hz,rfl⟩:=h
  rcases List.mem_cons.1 hx with rfl|hx
  ·exact⟨y,by simp,hy⟩
  ·obtain⟨y',h1,h2⟩:=mapM_mem hz x hx
   exact⟨y',by simp[h1],h2⟩
def cDrN (P:Program) (nt:Nat) (tbl:TTq) (id:Nat) (ops:Array Oper):Option ACode :=
 if P.follows .mixedOrders then
  match tbl id with
  | some (masks,tl,999996::ps)=>match sItems P nt ops tl true ops.toList 0 with
   | some items=>match ps.mapM (flN ops nt items masks tl ps) with
    | some l=>if Ma ops items masks tl=true/\SX masks ps tl=true/\tl.Nodup/\ps.Nodup then
      some (.seq (.dreg ((l.map (·.1)).map fun s=>⟨some s,.mov (.c .undef),none⟩) [] []) (.seq (.dreg (il items masks tl 0) [] []) (ckN l (sCode1 items masks tl tl)))) else none
    | none=>none
   | none=>none
  | _=>none
 else none
theorem Pu (P:Program) (nt:Nat) (tbl:TTq):DX P nt (cDrN P nt tbl):=by
 intro id ops ac h Q e hp hv
 unfold cDrN at h
 split at h
 case isFalse=>cases h
 rename_i hm
 split at h
 case h_2=>cases h
 rename_i masks tl ps _
 cases hi:sItems P nt ops tl true ops.toList 0 with
 | none=>simp[hi]at h
 | some items =>
  simp only[hi]at h
  split at h
  case h_2=>cases h
  rename_i l hl
  split at h
  case isFalse=>cases h
  rename_i hcc
  obtain⟨c1,c2,c3,c4⟩:=hcc
  simp only[Option.some.injEq]at h
  subst h
  have S0:=L9 hi c1
  have hv1:vcVals P ((l.map (·.1)).map fun s=>⟨some s,.mov (.c .undef),none⟩) (fun e1 h1=>vcVals P (il items masks tl 0) (fun e2 h2=>vcC P (ckN l (sCode1 items masks tl tl)) Q e2 h2) e1 h1) e hp:=by
   have:=hv
   simp only[vcC,LPost.then,vcTail,uR]at this
   exact this
  have hv2:=Ew _ hv1
  obtain⟨u1,u2⟩:=Jh (l.map (·.1)) e
  generalize Kf (l.map (·.1)) e=e1 at hv2 u1 u2
  obtain⟨T,t1,t2,t3⟩:=BV S0 hv2
  obtain⟨k1,k2⟩:=Il l t1
  have k3:=Gq k2
  obtain⟨fs,f1,f2⟩:=MT (P:=P) (G:=fun f=>Sj P nt ops items masks tl f/\(∀q∈f.fk.cs,T.get q.1=.int q.2.1 q.2.2)/\(∀p',p'∈ps->p'≠f.p->(masks.getD f.m 0).testBit (tl.getD p' 0)=false)/\f.s∈l.map (·.1)) ps (fun p hpm=>by
   obtain⟨⟨s,op⟩,y1,y2⟩:=mapM_mem hl p hpm
   obtain⟨f,rfl,rfl,g3,g4,g5⟩:=Th S0 y2 (k1 _ y1)
   exact⟨f,rfl,g3,g4,g5,List.mem_map.2 ⟨_,y1,rfl⟩⟩)
  have hps:∀f∈fs,f.p∈ps:=fun f hf=>by rw[<- f1];exact List.mem_map.2 ⟨f,hf,rfl⟩
  have S:yH P nt ops items masks tl fs:=by
   refine⟨S0,fun l k i i' hl hk hlt hkp=>?_,fun l l' i hl hl'=>?_,fun f hf=>(f2 f hf).1,fun f f' hf hf' hne=>?_,GP (by rw[f1];exact c4)⟩
   ·simp only[SX,List.all_eq_true,List.mem_range,Bool.or_eq_true]at c2
    have hk1:=List.getElem?_eq_some_iff.1 hk
    have hkn:¬ps.contains k=true:=by
     intro hc
     have:k∈ps:=by simpa using hc
     rw[<- f1]at this
     obtain⟨f,hf,hfp⟩:=List.mem_map.1 this
     exact hkp f hf hfp.symm
    have:=(c2 k hk1.1).resolve_left hkn l hlt
    simpa[List.getD,hl,hk] using this
   ·have h1:=(List.getElem?_eq_some_iff.1 hl).1
    exact(List.getElem?_inj h1 c3).1 (hl.trans hl'.symm)
   ·have:=(f2 f hf).2.2.1 f'.p (hps f' hf') (fun e=>hne e.symm)
    simpa[List.getD,(f2 f' hf').1.fm] using this
  exact qz u1 (Mj S hm (fun f hf=>u2 _ (Or.inl (f2 f hf).2.2.2)) k3 t2 t3 fun f hf=>(f2 f hf).2.1)
def cDr (P:Program) (nt:Nat) (tbl:TTq) (id:Nat) (ops:Array Oper):Option ACode :=
 match cDrS P nt tbl id ops with
 | some x=>some x
 | none=>match cDrN P nt tbl id ops with
 | some x=>some x
 | none=>match cDr0 P nt tbl id ops with
  | some x=>some x
  | none=>match RX P nt tbl id ops with
   | some x=>some x
   | none=>some (.dreg [⟨none,.dead,none⟩] [] [])
theorem aD (P:Program) (nt:Nat) (tbl:TTq):DX P nt (cDr P nt tbl):=by
 intro id ops ac h Q e hp hv
 unfold cDr at h
 split at h
 ·rename_i x h0
  cases h
  exact Pt P nt tbl id ops _ h0 Q e hp hv
 split at h
 ·rename_i x h0
  cases h
  exact Pu P nt tbl id ops _ h0 Q e hp hv
 split at h
 ·rename_i x h0
  cases h
  exact Px P nt tbl id ops _ h0 Q e hp hv
 split at h
 ·rename_i x h0
  cases h
  exact Pw P nt tbl id ops _ h0 Q e hp hv
 ·simp at h
  subst h
  exact hv.elim
end Go.Am
namespace Go.Am
open Go
variable [bI]
def vcond (x:D) (A B:Prop):Prop :=
 match x with
 | .bool t=>(t=true->A)/\(t=false->B)
 | _=>False
def Ek (P:Program) (a:ACode) (nt:Nat) (c:Code):Prop:=∀(Q:LPost) (e:LEnv) (h:Heap),vcC P a Q e h->oT P nt c (fun x=>up (Q x)) e.get h
def HN (P:Program) (g:D) (ps:List Nat) (e:LEnv) (a b:ACode) (h:Heap) (E:Nat->Heap->Prop):Prop :=
 match g with
 | .fn f fs cs=>fs=[]/\eb P f=true/\∀(n:Nat) (B:cC),oU h n->B.env=LEnv.get e->B.ps=ps->ps.Nodup->(∀p∈ps,p<B.nt)->Ek P a B.nt B.assign->Ek P b B.nt B.body ->
   ah P f (.yld n::cs) (au h n (.lp .ready B)) fun _ h'=>E n h'
 | _=>False
def E7 (P:Program) (n:Nat) (B:cC) (ps:List Nat) (ds:List D) (e:LEnv) (a b:ACode) (h:Heap) (K:HKq):Prop :=
 vcC P a (fun x e1 h1=>x=.normal/\h1 n=.lp .ready B/\vcC P b (fun x e2 h2=>h2 n=.lp .busy B/\roundEnd x n B K h2) e1 (au h1 n (.lp .busy B))) (ps.zip ds++e) h
theorem qw {P:Program}{n:Nat}{B:cC}{ds:List D}{h:Heap}{K:HKq}{a b:ACode}{ps:List Nat}(hn:h n=.lp .ready B) (hps:B.ps=ps) (hA:Ek P a B.nt B.assign) (hB:Ek P b B.nt B.body) (hnd:ps.Nodup)
  (hlt:∀p∈ps,p<B.nt) (hlen:ds.length=ps.length) {e:LEnv}(he:B.env=e.get) (hv:E7 P n B ps ds e a b h K):oQ P n ds h K :=
 KY hn hA hB (hps ▸ hnd) (hps ▸ hlt) (hps ▸ hlen) he (by rw[hps];exact hv)
def eg (n:Nat) (h:Heap) (KN:Prop) (KE:Nat->Prop) (KR:Prop):Prop :=
 match h n with
 | .lp .ready _=>KN
 | .lp (.done (.exit id)) _=>KE id
 | .lp (.done .ret) _=>KR
 | _=>False
variable {P:Program}{h:Heap}{K:D->Prop}{KH:HKq}{k:IntKind}{a b:Int}
theorem QC {p:Prop}[Decidable p] {A B:Prop}:vcond (.bool (decide p)) A B=((p->A)/\(¬p->B)):=by
 simp[vcond]
theorem N7 {p:Prop}[Decidable p] {A B:Prop}:vcond (.bool (!decide p)) A B=((¬p->A)/\(p->B)):=by
 simp[vcond]
theorem N8 {t:Bool}{A B:Prop}:vcond (.bool t) A B=((t=true->A)/\(t=false->B)):=rfl
theorem iM {t w:Bool}{A:(HKq)->Prop}:vguard (.bool t) w A h KH=((t=w->A KH)/\(t≠w->KH gU h)):=by simp[vguard,gv]
theorem xw {ds:List D}{w:Bool}{A:(HKq)->Prop}:vguard (.tup ds) w A h KH=KH gU h:=by simp[vguard,gv]
theorem ep {t w:Bool}{A:(D->Prop)->Prop}:av (.bool t) w A K=((t=w->A K)/\(t≠w->K gU)):=by simp[av,gv]
theorem tY {ds:List D}{w:Bool}{A:(D->Prop)->Prop}:av (.tup ds) w A K=K gU:=by simp[av,gv]
theorem dW:vbin .add (.int k a) (.int k b) K=K (.int k (k.wrap (a+b))):=by simp[vbin]
theorem lq:vbin .sub (.int k a) (.int k b) K=K (.int k (k.wrap (a-b))):=by simp[vbin]
theorem Er:vbin .mul (.int k a) (.int k b) K=K (.int k (k.wrap (a*b))):=by simp[vbin]
theorem Gl:vbin .quo (.int k a) (.int k b) K=(b≠0/\K (.int k (k.wrap (a.tdiv b)))):=by simp[vbin]
theorem cI:vbin .rem (.int k a) (.int k b) K=(b≠0/\K (.int k (a.tmod b))):=by simp[vbin]
theorem P1:vbin .and (.int k a) (.int k b) K=K (.int k (ibits .and k a b)):=by simp[vbin]
theorem Ua:vbin .or (.int k a) (.int k b) K=K (.int k (ibits .or k a b)):=by simp[vbin]
theorem Su:vbin .xor (.int k a) (.int k b) K=K (.int k (ibits .xor k a b)):=by simp[vbin]
theorem LC:vbin .andNot (.int k a) (.int k b) K=K (.int k (ibits .andNot k a b)):=by simp[vbin]
theorem Sv {k':IntKind}:vbin .shl (.int k a) (.int k' b) K=(0<=b/\K (.int k (Rl k a b))):=rfl
theorem PZ {k':IntKind}:vbin .shr (.int k a) (.int k' b) K=(0<=b/\K (.int k (GA k a b))):=rfl
theorem bY:vbin .eql (.int k a) (.int k b) K=K (.bool (decide (a=b))):=by simp[vbin]
theorem gj:vbin .neq (.int k a) (.int k b) K=K (.bool (!decide (a=b))):=by simp[vbin]
theorem xv:vbin .lss (.int k a) (.int k b) K=K (.bool (decide (a<b))):=by simp[vbin]
theorem Lz:vbin .leq (.int k a) (.int k b) K=K (.bool (decide (a<=b))):=by simp[vbin]
theorem uS:vbin .gtr (.int k a) (.int k b) K=K (.bool (decide (b<a))):=by simp[vbin]
theorem Ax:vbin .geq (.int k a) (.int k b) K=K (.bool (decide (b<=a))):=by simp[vbin]
theorem toList_inj {a b:ByteArray}:(a.toList == b.toList)=decide (a=b):=by
 by_cases h:a=b
 ·subst h;simp
 ·have:¬a.toList=b.toList:=fun e=>h (by
   have:=congrArg List.toArray e
   simp[ByteArray.toList_eq]at this
   cases a;cases b;simp_all)
  simp[h,this]
theorem QB {s t:ByteArray}:vbin .eql (.str s) (.str t) K=K (.bool (decide (s=t))):=by simp[vbin,toList_inj]
theorem QA {s t:ByteArray}:vbin .neq (.str s) (.str t) K=K (.bool (!decide (s=t))):=by simp[vbin,toList_inj]
theorem P0:vun .neg (.int k a) K=K (.int k (k.wrap (0-a))):=rfl
theorem cD {t:Bool}:vun .not (.bool t) K=K (.bool !t):=rfl
theorem Sw:vun .xor (.int k a) K=K (.int k (ibits .xor k (if k.signed then -1 else k.max) a)):=rfl
theorem sm:aG .nil h K=K (.int .i64 0):=rfl
theorem br {xs:List D}:aG (.sl xs) h K=K (.int .i64 xs.length):=rfl
theorem bb {n o l:Nat}:aG (.ms n o l) h K=((h n).live=true/\K (.int .i64 l)):=rfl
theorem oE {k':IntKind}:aa P (.conv k (.c (.int k' a))) h KH=KH (.int k (k.wrap a)) h:=rfl
theorem bE {t:Bool}{x y:D}:aa P (.pick (.c (.bool t)) (.c x) (.c y)) h KH=KH (if t then x else y) h:=rfl
theorem h_ext {ds:List D}{i:Nat}:aa P (.ext (.c (.tup ds)) i) h KH=(match ds[i]? with|some d=>KH d h|none=>False):=rfl
theorem Ta {cs:List D}{o s:Nat}{g:Bool}:aa P (.fld (.c (.agg cs)) o s g) h KH=vpart cs o s g (KH · h):=rfl
theorem Ro {s:ByteArray}:aa P (.slen (.c (.str s))) h KH=KH (.int .i64 s.size) h:=rfl
theorem Fz {d:D}{j o:Nat}:aa P (.fadd (.c (.vp d j)) o) h KH=KH (.vp d (j+o)) h:=rfl
theorem zP {xs:List D}{s:Nat}:aa P (.iadd (.c (.sl xs)) (.c (.int k a)) s) h KH=(0<=a/\a<xs.length/\∀d,xs[a.toNat]?=some d->d.cells.length=s/\KH (.vp d 0) h):=rfl
theorem mv {n o l s:Nat}:aa P (.iadd (.c (.ms n o l)) (.c (.int k a)) s) h KH=(0<=a/\a<l/\(∃els,(h n).row=some (s,els))/\KH (.ptr n (o+a.toNat) 0) h):=rfl
theorem uW {d:D}{j s:Nat}{g:Bool}:aa P (.ld (.c (.vp d j)) s g) h KH=vpart d.cells j s g (KH · h):=rfl
theorem fF {cs:List D}{o s:Nat}:vpart cs o s false K=(match cs[o]? with|some d=>K d|none=>False):=rfl
theorem jW {cs:List D}{o s:Nat}:vpart cs o s true K=(o+s<=cs.length/\K (.agg ((cs.drop o).take s))):=rfl
theorem wrap64 {n:Int}(h1 : -9223372036854775808<=n) (h2:n<=9223372036854775807):IntKind.i64.wrap n=n:=by
 simp only[IntKind.wrap,IntKind.signed,IntKind.bits]
 first|omega|(simp;omega)
end Go.Am
namespace Go.Am
open Go
variable [bI]
abbrev LH:=List Slot
class LB where
 bs:Nat->cC
def Slot.wb (s:Slot) (B:cC):Slot:=match s with
 | .lp st _=>.lp st B
 | s=>s
def LH.h (l:LH):Heap:=fun n=>l.getD n .free
def LH.w [LB] (l:LH):Heap:=fun n=>(l.getD n .free).wb (LB.bs n)
def LH.nf (l:LH):Prop:=∀s∈l,s≠.free
def fb {α:Type}(b:Bool) (k:Bool->α):α:=match b with
 | true=>k true
 | false=>k false
def fl {α β:Type}:List α->(List α->β)->β
 | [],k=>k []
 | a::r,k=>fl r fun r'=>k (a::r')
def Sy (a b:ByteArray):Bool:=a.data.toList == b.data.toList
mutual
def D.same:D->D->Bool
 | .undef,.undef=>true
 | .nil,.nil=>true
 | .nilfn,.nilfn=>true
 | .nilmap,.nilmap=>true
 | .nilp,.nilp=>true
 | .int q n,.int q' n'=>decide (q=q')&&decide (n=n')
 | .bool b,.bool b'=>b == b'
 | .str s,.str s'=>Sy s s'
 | .sl xs,.sl ys=>D.sameL xs ys
 | .ms n o m,.ms n' o' m'=>n == n'&&o == o'&&m == m'
 | .ptr n o m,.ptr n' o' m'=>n == n'&&o == o'&&m == m'
 | .vp e j,.vp e' j'=>D.same e e'&&j == j'
 | .agg xs,.agg ys=>D.sameL xs ys
 | .tup xs,.tup ys=>D.sameL xs ys
 | .fn f a b,.fn f' a' b'=>f == f'&&D.sameL a a'&&D.sameL b b'
 | .yld n,.yld n'=>n == n'
 | .mp n,.mp n'=>n == n'
 | _,_=>false
def D.sameL:List D->List D->Bool
 | [],[]=>true
 | d::r,e::s=>D.same d e&&D.sameL r s
 | _,_=>false
end
def F0 (d:D):Bool:=d.cells.all D.one
theorem Dt {d:D}(h:F0 d=true):aH d:=fun x hx=>List.all_eq_true.1 h x hx
def LH.frz (l:LH) (n:Nat):LH:=match l.h n with
 | .arr e x=>l.set n (.frz e x)
 | _=>l
end Go.Am
namespace Go.Am
open Go
variable [bI]
abbrev Sf:=Nat->List D->LH->Option (D×LH)
structure DY where
 call:FuncId->List D->LH->Option (D×LH)
 vcall:FuncId->List D->Option D
 own:FuncId->Bool
 yld:Sf
 k:Nat
 callR:Nat->Sf->FuncId->List D->LH->Option (D×LH)
def yb (n:Nat) (l:List (Nat×Nat×D)):Bool:=l.all fun p=>p.2.2.cells.length == p.2.1&&decide (p.1+p.2.1<=n)&&F0 p.2.2
theorem wW {n:Nat}{l:List (Nat×Nat×D)}(h:yb n l=true):je n l:=by
 intro p hp
 have:=List.all_eq_true.1 h p hp
 simp only[Bool.and_eq_true,beq_iff_eq,decide_eq_true_eq]at this
 exact⟨this.1.1,this.1.2,Dt this.2⟩
def R5 (len esz:Nat) (l:List (Nat×D)):Bool:=l.all fun p=>decide (p.1<len)&&p.2.cells.length == esz&&F0 p.2
theorem z7 {len esz:Nat}{l:List (Nat×D)}(h:R5 len esz l=true):Hn len esz l:=by
 intro p hp
 have:=List.all_eq_true.1 h p hp
 simp only[Bool.and_eq_true,beq_iff_eq,decide_eq_true_eq]at this
 exact⟨this.1.1,this.1.2,Dt this.2⟩
structure PT [LB] (P:Program) (C:DY):Prop where
 call:∀f ds l d l',C.call f ds l=some (d,l')->l.nf->l'.nf/\∀K:HKq,K d l'.w->ah P f ds l.w K
 yld:∀n ds l d l',C.yld n ds l=some (d,l')->l.nf->l'.nf/\∀K:HKq,K d l'.w->oQ P n ds l.w K
 vcall:∀f ds r,C.vcall f ds=some r->aU P f ds (· = r)
variable {P:Program}{C:DY}[LB]
end Go.Am
namespace Go.Am
open Go
variable [bI]
variable {P:Program}{C:DY}[LB]
end Go.Am
namespace Go.Am
open Go
variable [bI]
variable {P:Program}{C:DY}[LB]
abbrev LH.wb (b:Nat->cC) (l:LH):Heap:=letI:LB:=⟨b⟩;l.w
def UT (k:Nat) (b b':Nat->cC):Prop:=∀m,m<k->b m=b' m
def Vo (P:Program) (Y:Sf) (k:Nat) (b0:Nat->cC):Prop:=∀b,UT k b b0->∀n ds l d l',Y n ds l=some (d,l')->l.nf->l'.nf/\∀K:HKq,K d (LH.wb (b) l')->oQ P n ds (LH.wb (b) l) K
structure Vb (P:Program) (C:DY) (b0:Nat->cC):Prop where
 ok:∀b,UT C.k b b0->(letI:LB:=⟨b⟩;PT P C)
 callR:∀b,UT C.k b b0->∀k Y,C.k<=k->Vo P Y k b->∀f ds l d l',C.callR k Y f ds l=some (d,l')->l.nf->l'.nf/\∀K:HKq,K d (LH.wb (b) l')->ah P f ds (LH.wb (b) l) K
end Go.Am
namespace Go.Am
open Go
variable [bI]
variable {P:Program}{l:LH}{KH:HKq}{K:D->Prop}
theorem LH.S8 {l:LH}{n:Nat}(hn:n<l.length):l.h n=l[n]:=by simp[LH.h,hn]
theorem LH.S9 {l:LH}{n:Nat}(hn:l.length<=n):l.h n=.free:=by simp[LH.h,hn]
theorem LH.top {l:LH}(h:l.nf){n:Nat}(t:oU l.h n):n=l.length:=by
 rcases Nat.lt_trichotomy n l.length with h1|h1|h1
 ·have:=t.free
  rw[LH.S8 h1]at this
  exact absurd this (h _ (List.getElem_mem h1))
 ·exact h1
 ·exfalso
  obtain⟨k,rfl⟩:∃k,n=k+1:=⟨n-1,by omega⟩
  exact t.2 k rfl (LH.S9 (by omega))
theorem LH.Rp (l:LH) (s:Slot):LH.h (l++[s])=au l.h l.length s:=by
 funext n
 unfold LH.h au
 by_cases h:n=l.length
 ·subst h;simp
 ·rw[if_neg h]
  rcases Nat.lt_or_ge n l.length with h1|h1
  ·simp[List.getD,List.getElem?_append_left h1]
  ·have:(l++[s]).length<=n:=by simp;omega
   simp[List.getD,List.getElem?_eq_none this,List.getElem?_eq_none h1]
theorem LH.S7 {l:LH}{n:Nat}(s:Slot) (hn:n<l.length):LH.h (l.set n s)=au l.h n s:=by
 funext m
 unfold LH.h au
 by_cases h:m=n
 ·subst h;simp[List.getD,hn]
 ·have:n≠m:=fun e=>h e.symm
  simp[List.getD,this,h]
theorem EA:gT=LH.h []:=by funext n;simp[gT,LH.h]
theorem Od (hn:l.nf):oU l.h l.length:=by
 refine⟨fun m hm=>LH.S9 hm,fun k hk=>?_⟩
 have:k<l.length:=by omega
 rw[LH.S8 this]
 exact hn _ (List.getElem_mem this)
theorem PF (hn:l.nf){Q:Nat->Prop}:(∀n,oU l.h n->Q n)=Q l.length:=by
 apply propext
 constructor
 ·exact fun h=>h _ (Od hn)
 ·intro h n t
  rw[LH.top hn t];exact h
theorem Q8:LH.nf []:=fun _ h=>by cases h
theorem OJ {s:Slot}{l:LH}:LH.nf (s::l)=(s≠.free/\LH.nf l):=by
 apply propext
 constructor
 ·exact fun h=>⟨h s (by simp),fun x hx=>h x (by simp[hx])⟩
 ·rintro⟨h1,h2⟩ x hx
  rcases List.mem_cons.1 hx with rfl|hx
  ·exact h1
  ·exact h2 x hx
theorem Jq {d:D}(hn:l.nf):aa P (.alloc d) l.h KH=KH (.ptr l.length 0 0) (LH.h (l++[.box d])):=by
 simp only[aa,vcOp]
 rw[PF hn,LH.Rp]
theorem h_ldp {n i j s:Nat}{g:Bool}:aa P (.ld (.c (.ptr n i j)) s g) l.h KH=(match l.h n with
   | .box v=>i=0/\vpart v.cells j s g (KH · l.h)
   | .arr _ els=>i<els.length/\∀d,els[i]?=some d->vpart d.cells j s g (KH · l.h)
   | .frz _ els=>i<els.length/\∀d,els[i]?=some d->vpart d.cells j s g (KH · l.h)
   | _=>False):=rfl
theorem P9 {n i j s:Nat}{v:D}:aa P (.st (.c (.ptr n i j)) (.c v) s) l.h KH=(v.cells.length=s/\aH v/\match l.h n with
   | .box d=>i=0/\j+s<=d.cells.length/\KH .undef (au l.h n (.box (setCells d j v.cells)))
   | .arr esz els=>i<els.length/\j+s<=esz/\∀d,els[i]?=some d->KH .undef (au l.h n (.arr esz (els.set i (setCells d j v.cells))))
   | _=>False):=rfl
theorem Re {n:Nat}:LH.h [] n=.free:=by simp[LH.h]
theorem Fq {s:Slot}{l:LH}:LH.h (s::l) 0=s:=rfl
theorem Fs {s:Slot}{l:LH}{n:Nat}:LH.h (s::l) (n+1)=LH.h l n:=rfl
theorem LD {n:Nat}{s:Slot}(hn:n<l.length):au l.h n s=LH.h (l.set n s):=(LH.S7 s hn).symm
theorem GH {f:FuncId}{a b:List Arg}{h:Heap}:aa P (.mkf f a b) h KH=KH (.fn f (a.map (·.get [])) (b.map (·.get []))) h:=rfl
theorem OS {f:FuncId}{a b:List D}{as:List Arg}{h:Heap}:aa P (.callv (.c (.fn f a b)) as) h KH=(eb P f=true/\ah P f (a++as.map (·.get [])++b) h KH):=rfl
theorem nj {z:List D}{ps:List (Nat×Nat×Arg)}{h:Heap}:aa P (.bld z ps) h KH=(je z.length (ps.map fun p=>(p.1,p.2.1,p.2.2.get []))/\KH (.agg (fillD z (ps.map fun p=>(p.1,p.2.1,(p.2.2.get []).cells)))) h):=rfl
theorem MK {neg agg:Bool}{ks:List CK}{x y:D}{h:Heap}:aa P (.eqv neg agg ks (.c x) (.c y)) h KH=(x.isAgg=agg/\y.isAgg=agg/\veqv neg ks x y (KH · h)):=rfl
theorem C4 {d:D}{h:Heap}:aa P (.box (.c d)) h KH=(aH d/\∀n,oU h n->KH (.ptr n 0 0) (au h n (.box d))):=rfl
theorem fI {d:D}{h:Heap}:aa P (.alloc d) h KH=∀n,oU h n->KH (.ptr n 0 0) (au h n (.box d)):=rfl
theorem Te {esz bytes:Nat}{z:D}{k k':IntKind}{a b:Int}{h:Heap}:aa P (.mk esz bytes z (.c (.int k a)) (.c (.int k' b))) h KH =
  (0<=a/\a<=b/\b*bytes<=140737488355328/\b<=9223372036854775807/\∀n,oU h n->KH (.ms n 0 a.toNat) (au h n (.arr esz (List.replicate a.toNat z)))):=rfl
theorem jN {n i j o:Nat}{h:Heap}:aa P (.fadd (.c (.ptr n i j)) o) h KH=((h n).used=true/\KH (.ptr n i (j+o)) h):=rfl
theorem wT {n i j s:Nat}{g:Bool}{h:Heap}:aa P (.ld (.c (.ptr n i j)) s g) h KH=(match h n with
   | .box v=>i=0/\vpart v.cells j s g (KH · h)
   | .arr _ els=>i<els.length/\∀d,els[i]?=some d->vpart d.cells j s g (KH · h)
   | .frz _ els=>i<els.length/\∀d,els[i]?=some d->vpart d.cells j s g (KH · h)
   | _=>False):=rfl
theorem oF {n i j s:Nat}{v:D}{h:Heap}:aa P (.st (.c (.ptr n i j)) (.c v) s) h KH=(v.cells.length=s/\aH v/\match h n with
   | .box d=>i=0/\j+s<=d.cells.length/\KH .undef (au h n (.box (setCells d j v.cells)))
   | .arr esz els=>i<els.length/\j+s<=esz/\∀d,els[i]?=some d->KH .undef (au h n (.arr esz (els.set i (setCells d j v.cells))))
   | _=>False):=rfl
theorem oU.ne {h:Heap}{n m:Nat}(t:oU h n) (hm:h m≠.free):m≠n:=by rintro rfl;exact hm t.free
theorem Ext.refl {h:Heap}:Ext h h:=fun _ _=>rfl
theorem Ext.trans {a b c:Heap}(h:Ext a b) (k:Ext b c):Ext a c:=fun n hn=>by rw[k n (by rw[h n hn];exact hn),h n hn]
theorem Ext.new {h:Heap}{n:Nat}(t:oU h n) (s:Slot):Ext h (au h n s):=nq t.free s
theorem bT {f:FuncId}{ds:List D}{h:Heap}{KH:HKq}{R:D->Prop}(hv:aU P f ds R) (hds:∀d∈ds,d.vd=true/\aH d) (hk:∀r,R r->KH r h):ah P f ds h KH:=by
 have zB:∀(x:D),x.vone=true->x.fzc h=x/\x.jA=[]/\oh h x:=by
  intro x hx
  cases x<;>simp_all [D.vone,D.fzc,D.jA,oh]
 have hfz:∀d∈ds,d.fz h=d/\d.nm=[]/\l9 h d:=by
  intro d hd
  obtain⟨h1,h2⟩:=hds d hd
  rcases Cj h1 with hv|⟨cs,rfl,hcs⟩
  ·have:=zB d hv
   cases d<;>simp_all [D.fz,D.nm,D.vone,l9,D.cells]
  ·refine⟨?_,?_,fun x hx=>(zB x (hcs x hx)).2.2⟩
   ·simp only[D.fz]
    congr 1
    rw[List.map_congr_left (fun x hx=>(zB x (hcs x hx)).1)]
    simp
   ·simp only[D.nm]
    rw[List.flatMap_eq_nil_iff]
    exact fun x hx=>(zB x (hcs x hx)).2.1
 have e1:ds.map (D.fz h)=ds:=by
  rw[List.map_congr_left (fun d hd=>(hfz d hd).1)]
  simp
 have e2:ds.flatMap D.nm=[]:=by
  rw[List.flatMap_eq_nil_iff]
  exact fun d hd=>(hfz d hd).2.1
 refine ah.mono ?_ (dB (K:=R) (by rw[e1];exact hv) (fun d hd=>⟨(hds d hd).2,(hfz d hd).2.2,by rw[(hfz d hd).1];exact(hds d hd).1⟩))
 rintro r h' ⟨k1,k2,_⟩
 rw[k2 (Or.inr e2)]
 exact hk r k1
theorem AE {d:D}(h:d.one=true):aH d=True:=by
 apply propext;refine⟨fun _=>trivial,fun _ x hx=>?_⟩
 cases d<;>simp_all [D.cells,D.one]
theorem Mk {cs:List D}:aH (.agg cs)=∀x∈cs,x.one=true:=rfl
theorem ag {A B:Prop}:vcond (.bool true) A B=A:=by simp[vcond]
theorem af {A B:Prop}:vcond (.bool false) A B=B:=by simp[vcond]
theorem CC {d:D}{h:Heap}{K:D->Prop}(hd:d.vd=true) (ho:aH d) (hk:K d):kj d/\vI h d/\(d.fzt h).HO=true/\K (d.fzt h):=by
 have zB:∀(x:D),x.vone=true->x.fzc h=x/\oh h x:=by
  intro x hx
  cases x<;>simp_all [D.vone,D.fzc,oh]
 have e:d.fzt h=d/\vI h d/\kj d/\d.HO=true:=by
  rcases Cj hd with hv|⟨cs,rfl,hcs⟩
  ·have:=zB d hv
   have hc:d.cells=[d]:=by cases d<;>simp_all [D.vone,D.cells]
   refine⟨?_,?_,?_,?_⟩
   ·cases d<;>simp_all [D.fzt,D.fz,D.vone]
   ·cases d<;>simp_all [vI,l9,D.vone]
   ·cases d<;>simp_all [kj,D.vone]
   ·cases d<;>simp_all [D.HO,D.vone]
  ·refine⟨?_,fun x hx=>(zB x (hcs x hx)).2,ho,hd⟩
   simp only[D.fzt,D.fz]
   congr 1
   rw[List.map_congr_left (fun x hx=>(zB x (hcs x hx)).1)]
   simp
 exact⟨e.2.2.1,e.2.1,by rw[e.1];exact e.2.2.2,by rw[e.1];exact hk⟩
def sh (K:D->Prop) (r:D) (h:Heap):Prop:=kj r/\vI h r/\(r.fzt h).HO=true/\K (r.fzt h)
theorem ec {k:IntKind}{n:Int}{h:Heap}{K:D->Prop}:sh K (.int k n) h=K (.int k n):=by
 apply propext;exact⟨fun h=>h.2.2.2,fun hk=>CC rfl (fun x hx=>by simp[D.cells]at hx;subst hx;rfl) hk⟩
theorem bo {b:Bool}{h:Heap}{K:D->Prop}:sh K (.bool b) h=K (.bool b):=by
 apply propext;exact⟨fun h=>h.2.2.2,fun hk=>CC rfl (fun x hx=>by simp[D.cells]at hx;subst hx;rfl) hk⟩
theorem IN {xs:List D}{h:Heap}{K:D->Prop}:sh K (.sl xs) h=K (.sl xs):=by
 apply propext;exact⟨fun h=>h.2.2.2,fun hk=>CC rfl (fun x hx=>by simp[D.cells]at hx;subst hx;rfl) hk⟩
theorem Ci {h:Heap}{K:D->Prop}:sh K .nil h=K .nil:=by
 apply propext;exact⟨fun h=>h.2.2.2,fun hk=>CC rfl (fun x hx=>by simp[D.cells]at hx;subst hx;rfl) hk⟩
theorem N0 {d:D}{h:Heap}{K:D->Prop}(hd:d.vd=true/\aH d) (hk:K d):sh K d h:=CC hd.1 hd.2 hk
theorem tW {n esz:Nat}{els:List D}{h:Heap}{K:D->Prop}(hn:(h n).row=some (esz,els)) (hv:∀x∈els,∀y∈x.cells,y.vone=true) (hk:K (.sl els)):sh K (.ms n 0 els.length) h:=by
 refine⟨fun x hx=>by simp[D.cells]at hx;subst hx;rfl,fun x hx=>?_,?_,?_⟩
 ·simp only[D.cells,List.mem_singleton]at hx
  subst hx
  exact⟨esz,els,hn,by simp,fun x hx y hy=>hv x (by simpa using hx) y hy⟩
 ·simp[D.fzt,D.fz,D.fzc,hn,D.HO,D.vd,D.vone]
 ·simpa[D.fzt,D.fz,D.fzc,hn] using hk
theorem bp {fz:Bool}{f:FuncId}{loops:TLq}{dr:Nat->Array Oper->Option ACode}{F:aJ}(hc:cFn P fz f loops dr=some F) (hdr:DX P F.nt dr)
  {ds:List D}{K:D->Prop}(hlen:Nat.ble ds.length F.nt=true) {V:(HKq)->Prop}(hV:∀K,V K=vcC P F.code (fun x e h'=>match x with|.exit _=>False|.pan=>False|.jump _=>False|_=>Ep P F.res K e h') (params ds 0) gT)
  (hv:V (sh K)):aU P f ds K :=
 Lx hc hdr ⟨Nat.le_of_ble_eq_true hlen,Eq.mp (hV _) hv⟩
theorem aL {fz:Bool}{f:FuncId}{loops:TLq}{dr:Nat->Array Oper->Option ACode}{F:aJ}(hc:cFn P fz f loops dr=some F) (hdr:DX P F.nt dr)
  {ds:List D}{h:Heap}{K:HKq}(hlen:Nat.ble ds.length F.nt=true) {V:(HKq)->Prop}(hV:∀K,V K=vcC P F.code (fun x e h'=>match x with|.exit _=>False|.pan=>False|.jump _=>False|_=>Ep P F.res K e h') (params ds 0) h)
  (hv:V K):ah P f ds h K :=
 HA hc hdr ⟨Nat.le_of_ble_eq_true hlen,Eq.mp (hV _) hv⟩
def vR:=And.intro @QC (And.intro @N7 (And.intro @N8 (And.intro @ag (And.intro @af (And.intro @iM (And.intro (And.intro @ep (And.intro @xw @tY)) (And.intro @dW (And.intro @lq (And.intro @Er (And.intro @Gl (And.intro @cI (And.intro @P1 (And.intro @Ua (And.intro @Su (And.intro @LC (And.intro @Sv (And.intro @PZ (And.intro @bY (And.intro @gj (And.intro @xv (And.intro @Lz (And.intro @uS (And.intro @Ax (And.intro @QB (And.intro @QA (And.intro @P0 (And.intro @cD (And.intro @Sw (And.intro @sm (And.intro @br (And.intro @bb (And.intro @oE (And.intro @bE (And.intro @h_ext (And.intro @Ta (And.intro @Ro (And.intro @zP (And.intro @mv (And.intro @uW (And.intro @fF (And.intro @jW (And.intro @GH (And.intro @OS (And.intro @nj (And.intro @MK (And.intro @Re (And.intro @Fq (And.intro @Fs (And.intro @ec (And.intro @bo (And.intro @IN (@Ci))))))))))))))))))))))))))))))))))))))))))))))))))))
theorem jP {cs:List D}:(D.agg cs).cells=cs:=rfl
theorem EU {k:IntKind}{n:Int}:(D.int k n).cells=[.int k n]:=rfl
theorem Iq {b:Bool}:(D.bool b).cells=[.bool b]:=rfl
theorem KM {s:ByteArray}:(D.str s).cells=[.str s]:=rfl
theorem Nh {xs:List D}:(D.sl xs).cells=[.sl xs]:=rfl
theorem KQ:D.nil.cells=[.nil]:=rfl
theorem G9:D.nilfn.cells=[.nilfn]:=rfl
theorem FO:D.nilmap.cells=[.nilmap]:=rfl
theorem Io:D.nilp.cells=[.nilp]:=rfl
theorem Nj {n:Nat}:(D.mp n).cells=[.mp n]:=rfl
theorem HX:D.nilmap.one=true:=rfl
theorem Mr:D.nilp.one=true:=rfl
theorem Q4 {n:Nat}:(D.mp n).one=true:=rfl
theorem Ni {n o l:Nat}:(D.ms n o l).cells=[.ms n o l]:=rfl
theorem KO {n o l:Nat}:(D.ptr n o l).cells=[.ptr n o l]:=rfl
theorem Nk {f:FuncId}{a b:List D}:(D.fn f a b).cells=[.fn f a b]:=rfl
theorem ab {a:List D}:aB a a=True:=by simp[aB]
theorem OA {k:IntKind}{n:Int}:aH (.int k n)=True:=AE rfl
theorem Ms {b:Bool}:aH (.bool b)=True:=AE rfl
theorem Ox {s:ByteArray}:aH (.str s)=True:=AE rfl
theorem Q0 {xs:List D}:aH (.sl xs)=True:=AE rfl
theorem Oz:aH .nil=True:=AE rfl
theorem Q3 {n o l:Nat}:aH (.ms n o l)=True:=AE rfl
theorem Oy {n o l:Nat}:aH (.ptr n o l)=True:=AE rfl
theorem Q5 {f:FuncId}{a b:List D}:aH (.fn f a b)=True:=AE rfl
theorem Td {e:LEnv}{d:D}:Arg.get e (.c d)=d:=rfl
theorem LX {cs new:List D}{j:Nat}:setCells (.agg cs) j new=.agg (cs.take j++new++cs.drop (j+new.length)):=rfl
theorem LV {k:IntKind}{n:Int}{j:Nat}{x:D}:setCells (.int k n) j [x]=x:=rfl
theorem Kb {b:Bool}{j:Nat}{x:D}:setCells (.bool b) j [x]=x:=rfl
theorem Of {xs:List D}{j:Nat}{x:D}:setCells (.sl xs) j [x]=x:=rfl
theorem LU {j:Nat}{x:D}:setCells .nil j [x]=x:=rfl
attribute [simp] LX LV Kb Of LU
def gR:=And.intro @C4 (And.intro @fI (And.intro @Te (And.intro @jN (And.intro @wT (@oF)))))
theorem Gg {k:IntKind}{n:Int}:(D.int k n).vone=true:=rfl
theorem JS {b:Bool}:(D.bool b).vone=true:=rfl
theorem Lr {s:ByteArray}:(D.str s).vone=true:=rfl
theorem IP {xs:List D}:(D.sl xs).vone=true:=rfl
theorem Ls:D.nil.vone=true:=rfl
theorem Mw {k:IntKind}{n:Int}:(D.int k n).one=true:=rfl
theorem Kg {b:Bool}:(D.bool b).one=true:=rfl
theorem Mt {s:ByteArray}:(D.str s).one=true:=rfl
theorem OC {xs:List D}:(D.sl xs).one=true:=rfl
theorem Mv:D.nil.one=true:=rfl
theorem OD {n o l:Nat}:(D.ms n o l).one=true:=rfl
theorem Mu {n o l:Nat}:(D.ptr n o l).one=true:=rfl
theorem OE {f:FuncId}{a b:List D}:(D.fn f a b).one=true:=rfl
theorem Qy {cs:List D}:(D.agg cs).vd=cs.all D.vone:=rfl
theorem Qx {k:IntKind}{n:Int}:(D.int k n).vd=true:=rfl
theorem N5 {b:Bool}:(D.bool b).vd=true:=rfl
theorem Qu {s:ByteArray}:(D.str s).vd=true:=rfl
theorem Ss {xs:List D}:(D.sl xs).vd=true:=rfl
theorem Qw:D.nil.vd=true:=rfl
theorem Ko {cs:List D}:(D.agg cs).isAgg=true:=rfl
theorem Kn {k:IntKind}{n:Int}:(D.int k n).isAgg=false:=rfl
theorem H4 {b:Bool}:(D.bool b).isAgg=false:=rfl
theorem Km {s:ByteArray}:(D.str s).isAgg=false:=rfl
attribute [simp] Gg JS Lr IP Ls Mw Kg Mt OC Mv OD Mu OE Qy Qx N5 Qu Ss Qw Ko Kn H4 Km
attribute [simp] Q8 OJ Slot.live Slot.used jP EU Iq KM Nh KQ G9 FO Io Nj HX Mr Q4 Ni KO Nk ab OA Ms Ox Q0 Oz Q3 Oy Q5 Mk ak Td
end Go.Am
namespace Go.Am
open Go
variable [bI]
variable {P:Program}{KH:HKq}{h:Heap}
def Own (esz:Nat) (h:Heap) (v:D) (els:List D):Prop:=(v=.nil/\els=[])\/∃n,v=.ms n 0 els.length/\h n=.arr esz els
theorem zB {x:D}(hx:x.vone=true):x.fzc h=x/\x.jA=[]/\oh h x:=by
 cases x<;>simp_all [D.vone,D.fzc,D.jA,oh]
theorem sj {d:D}(h1:d.vd=true):d.fz h=d/\d.nm=[]/\l9 h d:=by
 rcases Cj h1 with hv|⟨cs,rfl,hcs⟩
 ·have:=zB (h:=h) hv
  cases d<;>simp_all [D.fz,D.nm,D.vone,l9,D.cells]
 ·refine⟨?_,?_,fun x hx=>(zB (hcs x hx)).2.2⟩
  ·simp only[D.fz]
   congr 1
   rw[List.map_congr_left (fun x hx=>(zB (h:=h) (hcs x hx)).1)]
   simp
  ·simp only[D.nm]
   rw[List.flatMap_eq_nil_iff]
   exact fun x hx=>(zB (h:=h) (hcs x hx)).2.1
theorem FA {esz:Nat}{z d:D}(h1:d.vd=true) (h2:aH d) (h3:d.cells.length=esz) (hk:∀n,oU h n->KH (.ms n 0 1) (au h n (.arr esz [d]))):aa P (.bldS true esz 1 z [(0,.c d)]) h KH:=by
 obtain⟨a1,a2,a3⟩:=sj (h:=h) h1
 refine⟨fun p hp=>by simp[Arg.get]at hp;subst hp;exact⟨Nat.one_pos,h3,h2⟩,fun _ p hp=>by simp[Arg.get]at hp;subst hp;exact a3,fun n t=>?_⟩
 have:=hk n t
 simpa[Arg.get,a1,a2,Heap.freezeAll,setEls] using this
theorem Rs {esz:Nat}{z:D}{fz:Bool}(hk:∀n,oU h n->KH (.ms n 0 0) (au h n (.arr esz []))):aa P (.bldS fz esz 0 z []) h KH:=by
 refine⟨fun p hp=>by simp at hp,fun _ p hp=>by simp at hp,fun n t=>?_⟩
 have:=hk n t
 cases fz<;>simpa[Heap.freezeAll,setEls] using this
end Go.Am
namespace Go.Am
open Go
variable [bI]
variable {P:Program}{KH:HKq}{K:D->Prop}{h:Heap}
theorem oJ {x:Arg}{s:Nat}{g:Bool}:ae P (.ld x s g) h K=aa P (.ld x s g) h fun d _=>K d:=rfl
theorem Qh {x:Arg}{a b c:Option Arg}{n:Nat}:ae P (.zf x a b c n) h K=aa P (.zf x a b c n) h fun d _=>K d:=rfl
theorem RK {x:Arg}{a b:Option Arg}:ae P (.sslc x a b) h K=aa P (.sslc x a b) h fun d _=>K d:=rfl
theorem UG {x y:Arg}:ae P (.mn x y) h K=aa P (.mn x y) h fun d _=>K d:=rfl
theorem UF {x y:Arg}:ae P (.mx x y) h K=aa P (.mx x y) h fun d _=>K d:=rfl
theorem mA {x y:Arg}{n:Nat}:ae P (.iadd x y n) h K=aa P (.iadd x y n) h fun d _=>K d:=rfl
theorem Ph {x y:Arg}{l n:Nat}:ae P (.iadda x y l n) h K=aa P (.iadda x y l n) h fun d _=>K d:=rfl
theorem RM {x y:Arg}{len size:Nat}{agg:Bool}:ae P (.sidx x y len size agg) h K=aa P (.sidx x y len size agg) h fun d _=>K d:=rfl
theorem Ig {k:IntKind}{x:Arg}:ae P (.conv k x) h K=aa P (.conv k x) h fun d _=>K d:=rfl
theorem fT {c x y:Arg}:ae P (.pick c x y) h K=aa P (.pick c x y) h fun d _=>K d:=rfl
theorem TA {x:Arg}{i:Nat}:ae P (.ext x i) h K=aa P (.ext x i) h fun d _=>K d:=rfl
theorem Tz {x:Arg}{o s:Nat}{g:Bool}:ae P (.fld x o s g) h K=aa P (.fld x o s g) h fun d _=>K d:=rfl
theorem ES {z:List D}{ps:List (Nat×Nat×Arg)}:ae P (.bld z ps) h K=aa P (.bld z ps) h fun d _=>K d:=rfl
theorem Qi {n g:Bool}{ks:List CK}{x y:Arg}:ae P (.eqv n g ks x y) h K=aa P (.eqv n g ks x y) h fun d _=>K d:=rfl
theorem RL {x:Arg}:ae P (.slen x) h K=aa P (.slen x) h fun d _=>K d:=rfl
theorem Ty {f:FuncId}{a b:List Arg}:ae P (.mkf f a b) h K=aa P (.mkf f a b) h fun d _=>K d:=rfl
theorem JE {d:D}{j o:Nat}:ae P (.fadd (.c (.vp d j)) o) h K=K (.vp d (j+o)):=rfl
theorem Ce {n i j o:Nat}:ae P (.fadd (.c (.ptr n i j)) o) h K=((h n).used=true/\K (.ptr n i (j+o))):=rfl
theorem OQ {xs:List D}{a b c:Option Arg}{n:Nat}:aa P (.zf (.c (.sl xs)) a b c n) h KH=vopt [] a 0 fun l=>vopt [] b xs.length fun r=>vopt [] c xs.length fun m=>0<=l/\l<=r/\r<=m/\m<=xs.length/\(∀d∈xs,d.cells.length=n) /\
    KH (.sl ((xs.drop l.toNat).take (r-l).toNat)) h:=rfl
theorem Fy {m off len:Nat}{a b c:Option Arg}{n:Nat}:aa P (.zf (.c (.ms m off len)) a b c n) h KH=vopt [] a 0 fun l=>vopt [] b len fun r=>vopt [] c len fun q=>0<=l/\l<=r/\r<=q/\q<=len/\(∃els,(h m).row=some (n,els)) /\
    KH (.ms m (off+l.toNat) (r-l).toNat) h:=rfl
theorem JR {n:Nat}{Q:Int->Prop}:vopt [] none n Q=Q n:=rfl
theorem JQ {k:IntKind}{i:Int}{n:Nat}{Q:Int->Prop}:vopt [] (some (.c (.int k i))) n Q=Q i:=rfl
theorem Uu {k:IntKind}{a b:Int}:aa P (.mn (.c (.int k a)) (.c (.int k b))) h KH=KH (.int k (if b<a then b else a)) h:=by simp[aa,vcOp,Arg.get]
theorem Ut {k:IntKind}{a b:Int}:aa P (.mx (.c (.int k a)) (.c (.int k b))) h KH=KH (.int k (if a<b then b else a)) h:=by simp[aa,vcOp,Arg.get]
theorem Jt {n:Nat}{as:List Arg}:aa P (.callv (.c (.yld n)) as) h KH=((∃st B,h n=.lp st B)/\oQ P n (as.map (·.get [])) h KH):=rfl
theorem zY {f:FuncId}{as:List Arg}{r:D}(hv:aU P f (as.map (·.get [])) (· = r)) (hds:∀d,d∈as.map (·.get [])->d.vd=true/\aH d) (hk:K r):ae P (.call f as) h K:=by
 have hz:∀d,d∈as.map (·.get [])->d.fz h=d/\d.nm=[]/\l9 h d:=fun d hd=>sj (hds d hd).1
 have e:(as.map fun x=>(x.get []).fz h)=as.map (·.get []):=by
  refine List.map_congr_left fun x hx=>(hz _ (List.mem_map.2 ⟨x,hx,rfl⟩)).1
 refine⟨r,by rw[e];exact hv,fun d hd=>⟨(hds d hd).2,(hz d hd).2.2,by rw[(hz d hd).1];exact(hds d hd).1⟩,Or.inr ?_,hk⟩
 have en:(as.flatMap fun x=>(x.get []).nm)=[]:=by
  rw[List.flatMap_eq_nil_iff]
  exact fun x hx=>(hz _ (List.mem_map.2 ⟨x,hx,rfl⟩)).2.1
 rw[en]
 exact fun n hn=>by cases hn
theorem OR {cs:List D}{k:IntKind}{a:Int}{len size:Nat}{agg:Bool}:aa P (.sidx (.c (.agg cs)) (.c (.int k a)) len size agg) h KH=(0<len/\0<=a/\a<len/\vpart cs (a.toNat*size) size agg (KH · h)):=rfl
def dR:=And.intro @OR<|And.intro @oJ (And.intro @Qh (And.intro @RK (And.intro @UG (And.intro @UF (And.intro @mA (And.intro @Ph (And.intro @RM (And.intro @Ig (And.intro @fT (And.intro @TA (And.intro @Tz (And.intro @ES (And.intro @Qi (And.intro @RL (And.intro @Ty (And.intro @JE (And.intro @Ce (And.intro @OQ (And.intro @Fy (And.intro @JR (And.intro @JQ (And.intro @Uu (And.intro @Ut (@Jt))))))))))))))))))))))))
def UM:=And.intro vR (And.intro gR dR)
end Go.Am
namespace Go.Am
open Go
variable [bI]
variable {P:Program}
theorem NM {c:Ctx}(hr:aq c){M esz:Nat}{els els':List D}(hM:c.h M=.arr esz els) (hl:els'.length=els.length) (hc:∀e,e∈els'->e.cells.length=esz) (ho:kK els')
  (hv:∀i j d',aF els' i j=some d'->∃d,aF els i j=some d/\∀v,ar c d v->ar c d' v) :
  c.le ⟨c.ρ,c.X,au c.h M (.arr esz els'),c.hp⟩/\aq ⟨c.ρ,c.X,au c.h M (.arr esz els'),c.hp⟩:=by
 have sub:∀k,(au c.h M (.arr esz els') k).mine->(c.h k).mine:=by
  intro k hk
  by_cases h:k=M
  ·subst h;rw[hM];trivial
  ·simpa[au,h] using hk
 have hle:c.le ⟨c.ρ,c.X,au c.h M (.arr esz els'),c.hp⟩:=by
  refine⟨Nat.le_refl _,rfl,fun _ _ _=>rfl,fun _ cur _ _ h=>⟨cur,h,rfl⟩,fun _ r h=>⟨r,h,rfl⟩,fun _ _=>rfl,fun k=>?_,fun k g hm hρ _=>⟨k,sub k hm,hρ⟩⟩
  by_cases h:k=M
  ·subst h;simp only[ak];rw[hM];exact .arrArr _ _ _ (Nat.le_of_eq hl.symm)
  ·simp only[ai _ _ h];exact Trans.refl _
 refine⟨hle,fun k=>?_,fun k1 k2 g m1 m2 r1 r2=>hr.inj k1 k2 g (sub k1 m1) (sub k2 m2) r1 r2,fun k g hm hρ=>hr.apart k g (sub k hm) hρ,hr.xlt,?_,hr.glob.mono hle,hr.lo⟩
 ·by_cases h:k=M
  ·subst h
   simp only[ak]
   have hs:=hr.slot k
   rw[hM]at hs
   obtain⟨h1,h2,h3,h4⟩:=hs
   refine⟨h1,hc,ho,?_⟩
   rcases h4 with⟨q,q'⟩|⟨g,cur,ty,q1,q2,q3,q4⟩
   ·refine Or.inl ⟨q,?_⟩
    subst q'
    exact List.length_eq_zero_iff.1 hl
   ·refine Or.inr ⟨g,cur,ty,q1,q2,by rw[hl];exact q3,fun i j d' hd'=>?_⟩
    obtain⟨d,hd,hrel⟩:=hv i j d' hd'
    exact(hrel _ (q4 i j d hd)).mono hle
  ·simp only[ai _ _ h]
   exact ik hle (hr.slot k) (fun _ _=>rfl) (fun _ _ _=>rfl)
 ·obtain⟨N,hN⟩:=hr.fin
  refine⟨N+M+1,fun k hk=>?_⟩
  simp only[ai _ _ (show k≠M by omega)]
  exact hN k (by omega)
theorem FF {h:Heap}{n m:Nat}(hne:m≠n):h.freeze n m=h m:=by
 unfold Heap.freeze
 cases h n<;>simp only<;>try rfl
 exact ai _ _ hne
theorem gQ {m:Nat}:∀(ns:List Nat){h:Heap},m∉ns->h.freezeAll ns m=h m
 | [],_,_=>rfl
 | n::r,h,hm=>by
  simp only[List.mem_cons,not_or]at hm
  show(h.freeze n).freezeAll r m=h m
  rw[gQ r hm.2,FF hm.1]
theorem FE {h:Heap}{m:Nat}(n:Nat):(h.freeze m n).row=(h n).row:=by
 unfold Heap.freeze
 cases hm:h m<;>simp only<;>try rfl
 by_cases he:n=m
 ·subst he;rw[ak,hm];rfl
 ·rw[ai _ _ he]
theorem qK:∀(ns:List Nat){h:Heap}(n:Nat),(h.freezeAll ns n).row=(h n).row
 | [],_,_=>rfl
 | m::r,h,n=>by
  show((h.freeze m).freezeAll r n).row=_
  rw[qK r,FE]
theorem Ku {h h':Heap}(hr:∀n,(h' n).row=(h n).row) (d:D):d.fzc h'=d.fzc h:=by
 cases d<;>simp[D.fzc,hr]
theorem MM {h h':Heap}(hr:∀n,(h' n).row=(h n).row) (d:D):d.fz h'=d.fz h:=by
 have e:D.fzc h'=D.fzc h:=funext (Ku hr)
 cases d<;>simp only[D.fz,e]
theorem H8 {h h':Heap}(hr:∀n,(h' n).row=(h n).row){d:D}(hd:l9 h d):l9 h' d:=by
 intro x hx
 have:=hd x hx
 cases x<;>simp only[oh,hr]at this ⊢
 exact this
structure Deep (h:Heap) (M:Nat) (els:List D):Prop where
 out:M∉els.flatMap D.nm
 el:∀e∈els,e.cells=[e]/\l9 h e/\(e.fz h).vone=true/\e.one=true
end Go.Am
namespace Go.Am
open Go
section keep
variable {H:Type}{enc:TypeId×Value->H}{P:Program}{w w':World}{base:Nat}{spare:Nat->Bool}{held:Bool}
theorem jL {α β:Type}{f g:α->Option β}(hk:∀a b,f a=some b->g a=some b):∀{l:List α}{r:List β},l.mapM f=some r->l.mapM g=some r
 | [],r,h=>by simpa using h
 | a::l,r,h=>by
  simp only[List.mapM_cons,Option.bind_eq_bind,Option.bind_eq_some_iff,Option.pure_def,Option.some.injEq]at h ⊢
  obtain⟨b,hb,r',hr',rfl⟩:=h
  exact⟨b,hk a b hb,r',jL hk hr',rfl⟩
theorem KS (hk:∀b,b<w.heap.size->w'.heap[b]?=w.heap[b]?){a:Addr}{v:Value}(h:w.cell? a=some v):w'.cell? a=some v:=by
 unfold World.cell? at h ⊢
 have hlt:a.block<w.heap.size:=by
  rcases Nat.lt_or_ge a.block w.heap.size with h1|h1
  ·exact h1
  ·simp[Array.getElem?_eq_none h1]at h
 rw[hk _ hlt];exact h
theorem Ip (hk:∀b,b<w.heap.size->w'.heap[b]?=w.heap[b]?){a:Addr}{n:Nat}{cs:List Value}(h:w.cells? base a n=some cs):w'.cells? base a n=some cs:=by
 unfold World.cells? at h ⊢
 split at h
 ·rename_i hb
  rw[if_pos hb]
  exact jL (fun i v hv=>KS hk hv) h
 ·cases h
theorem JY (hk:∀b,b<w.heap.size->w'.heap[b]?=w.heap[b]?):∀(n:Nat) (t:TypeId) (cs:List Value) (x:DataW H×List MemPlace),DataW.trod enc P w base spare held n t cs=some x->DataW.trod enc P w' base spare held n t cs=some x:=by
 intro n
 induction n with
 | zero=>intro t cs x h;simp[DataW.trod]at h
 | succ n ih =>
  intro t cs x h
  have el:∀(a:Addr) (k:Nat) (e:TypeId) y,(w.cells? base a k).bind (DataW.trod enc P w base spare held n e)=some y->(w'.cells? base a k).bind (DataW.trod enc P w' base spare held n e)=some y:=by
   intro a k e y hy
   rw[Option.bind_eq_some_iff]at hy ⊢
   obtain⟨cs,h1,h2⟩:=hy
   exact⟨cs,Ip hk h1,ih _ _ _ h2⟩
  unfold DataW.trod at h ⊢
  generalize P.underlying t=ut at h ⊢
  split at h
  case h_6 e a =>
   rw[Option.map_eq_some_iff]at h ⊢
   obtain⟨y,hy,rfl⟩:=h
   exact⟨y,el _ _ _ _ hy,rfl⟩
  case h_8 e a len cap =>
   simp only at h ⊢
   split at h
   ·rename_i hc
    rw[if_pos hc]
    rw[Option.bind_eq_some_iff]at h ⊢
    obtain⟨elems,h1,h2⟩:=h
    refine⟨elems,jL (fun i y hy=>el _ _ _ _ hy) h1,?_⟩
    rw[Option.map_eq_some_iff]at h2 ⊢
    obtain⟨rest,h3,rfl⟩:=h2
    refine⟨rest,?_,rfl⟩
    split at h3
    ·rename_i hs;rw[if_pos hs];exact jL (fun i y hy=>el _ _ _ _ hy) h3
    ·rename_i hs;rw[if_neg hs];exact h3
   ·cases h
  case h_9 fs =>
   split at h
   ·rename_i hc
    rw[if_pos hc]
    rw[Option.map_eq_some_iff]at h ⊢
    obtain⟨y,hy,rfl⟩:=h
    exact⟨y,jL (fun i y hy=>ih _ _ _ hy) hy,rfl⟩
   ·cases h
  case h_10 m e =>
   split at h
   ·rename_i hc
    rw[if_pos hc]
    rw[Option.map_eq_some_iff]at h ⊢
    obtain⟨y,hy,rfl⟩:=h
    exact⟨y,jL (fun i y hy=>ih _ _ _ hy) hy,rfl⟩
   ·cases h
  case h_12 u v =>
   split at h
   ·exact h
   ·rw[Option.map_eq_some_iff]at h ⊢
    obtain⟨y,hy,rfl⟩:=h
    exact⟨y,ih _ _ _ hy,rfl⟩
   ·cases h
  case h_14 k e b =>
   cases hb:w.heap[b]? with
   | none=>simp[hb]at h
   | some o =>
    have hlt:=(Array.getElem?_eq_some_iff.1 hb).1
    rw[hk b hlt]
    rw[hb]at h ⊢
    cases o<;>simp only at h ⊢<;>try (cases h;done)
    split at h
    ·rename_i hc
     rw[if_pos hc]
     rw[Option.bind_eq_some_iff]at h ⊢
     obtain⟨es,h1,h2⟩:=h
     refine⟨es,jL (fun i y hy=>?_) h1,h2⟩
     rw[Option.bind_eq_some_iff]at hy ⊢
     obtain⟨key,h3,h4⟩:=hy
     refine⟨key,h3,?_⟩
     split at h4
     ·rename_i hf
      rw[if_pos hf]
      rw[Option.map_eq_some_iff]at h4 ⊢
      obtain⟨z,hz,rfl⟩:=h4
      exact⟨z,ih _ _ _ hz,rfl⟩
     ·cases h4
    ·cases h
  all_goals first|exact h|(cases h;done)
theorem xy (hk:∀b,b<w.heap.size->w'.heap[b]?=w.heap[b]?):∀{ts:List TypeId}{vs:List Value}{ds:List (DataW H)}{ps:List MemPlace},DataW.TrodAll enc P w base spare held ts vs ds ps->DataW.TrodAll enc P w' base spare held ts vs ds ps
 | [],[],[],_,h=>h
 | _::_,_::_,_::_,_,⟨p,q,⟨n,h1⟩,h2,e⟩=>⟨p,q,⟨n,JY hk n _ _ _ h1⟩,xy hk h2,e⟩
end keep
end Go.Am
namespace Go.Am
open Go
variable [bI]
variable {H:Type}{enc:TypeId×Value->H}{P:Program}
def mkElem (P:Program) (e:TypeId) (cs:List D):D :=
 match P.underlying e with
 | some (.struct _)=>.agg cs
 | some (.array _ _)=>.agg cs
 | _=>cs.headD .undef
def HasTy (P:Program):Nat->TypeId->List D->Prop
 | 0,_,_=>False
 | n+1,t,ds=>match P.underlying t with
  | some .bool=>∃b,ds=[.bool b]
  | some (.int k)=>∃i,ds=[.int k i]/\(Lit.int k i).wf=true
  | some .string=>∃s:ByteArray,ds=[.str s]/\s.size<=maxLen
  | some (.slice e)=>∃xs:List (List D),ds=[.sl (xs.map (mkElem P e))]/\xs.length<=maxLen/\∀x∈xs,HasTy P n e x
  | some (.struct fs)=>ds.length=P.cellsOf t/\∀f∈fs.toList,HasTy P n f.type ((ds.drop f.offset).take (P.cellsOf f.type))
  | some (.array m e)=>ds.length=P.cellsOf t/\∀i,i<m->HasTy P n e ((ds.drop (i*P.cellsOf e)).take (P.cellsOf e))
  | _=>False
def contig (P:Program) (total:Nat):List (TypeId×Nat)->Nat->Bool
 | [],o=>o == total
 | f::r,o=>f.2 == o&&contig P total r (o+P.cellsOf f.1)
def plainT (P:Program):Nat->TypeId->Bool
 | 0,_=>false
 | n+1,t=>match P.underlying t with
  | some .bool=>P.cellsOf t == 1
  | some (.int _)=>P.cellsOf t == 1
  | some .string=>P.cellsOf t == 1
  | some (.slice e)=>P.cellsOf t == 1&&decide (0<P.cellsOf e)&&plainT P n e
  | some (.struct fs)=>fs.toList.all (fun f=>plainT P n f.type)&&contig P (P.cellsOf t) (fs.toList.map fun f=>(f.type,f.offset)) 0
  | some (.array m e)=>plainT P n e&&contig P (P.cellsOf t) ((List.range m).map fun i=>(e,i*P.cellsOf e)) 0
  | _=>false
theorem qp {cs:List D}(h1:cs.length=1) (hv:∀(i:Nat) (x:D),cs[i]?=some x->x.vone=true):(cs.headD .undef).cells=cs:=by
 cases cs with
 | nil=>simp at h1
 | cons d r =>
  have:r=[]:=List.eq_nil_of_length_eq_zero (by simpa using h1)
  subst this
  have:=hv 0 d rfl
  cases d<;>simp_all [D.vone,D.cells]
theorem Fm {n:Nat}{e:TypeId}{cs:List D}(hp:plainT P n e=true) (hl:cs.length=P.cellsOf e) (hv:∀(i:Nat) (x:D),cs[i]?=some x->x.vone=true):(mkElem P e cs).cells=cs:=by
 unfold mkElem
 split
 ·rfl
 ·rfl
 ·cases n with
  | zero=>simp[plainT]at hp
  | succ n =>
   unfold plainT at hp
   split at hp
   ·exact qp (by rw[hl];simpa using hp) hv
   ·exact qp (by rw[hl];simpa using hp) hv
   ·exact qp (by rw[hl];simpa using hp) hv
   ·simp only[Bool.and_eq_true]at hp
    exact qp (by rw[hl];simpa using hp.1.1) hv
   ·rename_i h1 h1' _ fs h2;first|exact absurd h2 (h1 _)|exact absurd h2 (h1' _)
   ·rename_i h1 h1' _ m e' h2;first|exact absurd h2 (h1' _ _)|exact absurd h2 (h1 _ _)
   ·cases hp
theorem parts {c:Ctx}{m:Nat}{total:Nat}(cs:List Value) (hcs:cs.length=total):∀(l:List (TypeId×Nat)) (o:Nat),contig P total l o=true ->
  (∀f∈l,∃ds:List D,HasTy P m f.1 ds/\ds.length=P.cellsOf f.1/\∀(i:Nat) (d:D),ds[i]?=some d->d.vone=true/\ar c d (((cs.drop f.2).take (P.cellsOf f.1)).getD i Go.undef)) ->
  ∃ds:List D,ds.length=cs.length-o/\(∀f∈l,HasTy P m f.1 ((ds.drop (f.2-o)).take (P.cellsOf f.1))/\o<=f.2)/\∀(i:Nat) (d:D),ds[i]?=some d->d.vone=true/\ar c d (cs.getD (o+i) Go.undef)
 | [],o,hc,_=>by
  simp only[contig,beq_iff_eq]at hc
  exact⟨[],by simp;omega,by simp,by simp⟩
 | f::r,o,hc,hf=>by
  simp only[contig,Bool.and_eq_true,beq_iff_eq]at hc
  obtain⟨hfo,hcr⟩:=hc
  obtain⟨d1,a1,a2,a3⟩:=hf f (by simp)
  obtain⟨d2,b1,b2,b3⟩:=parts cs hcs r (o+P.cellsOf f.1) hcr (fun g hg=>hf g (by simp[hg]))
  have hle:o+P.cellsOf f.1<=total:=by
   have:∀(l:List (TypeId×Nat)) (o:Nat),contig P total l o=true->o<=total:=by
    intro l
    induction l with
    | nil=>intro o h;simp[contig]at h;omega
    | cons g s ih=>intro o h;simp only[contig,Bool.and_eq_true,beq_iff_eq]at h;have:=ih _ h.2;omega
   exact this _ _ hcr
  refine⟨d1++d2,by simp;omega,fun g hg=>?_,fun i d hd=>?_⟩
  ·rcases List.mem_cons.1 hg with rfl|hg
   ·refine⟨?_,by omega⟩
    rw[hfo,Nat.sub_self,List.drop_zero,List.take_append_of_le_length (by omega),List.take_of_length_le (by omega)]
    exact a1
   ·obtain⟨k1,k2⟩:=b2 g hg
    refine⟨?_,by omega⟩
    rw[show g.2-o=d1.length+(g.2-(o+P.cellsOf f.1)) by omega,List.drop_append,List.drop_eq_nil_of_le (by omega),List.nil_append,Nat.add_sub_cancel_left]
    exact k1
  ·by_cases hi:i<d1.length
   ·rw[List.getElem?_append_left hi]at hd
    obtain⟨k1,k2⟩:=a3 i d hd
    refine⟨k1,?_⟩
    have e1:((cs.drop f.2).take (P.cellsOf f.1)).getD i Go.undef=cs.getD (o+i) Go.undef:=by
     simp only[List.getD,List.getElem?_take,List.getElem?_drop]
     rw[if_pos (by omega),hfo]
    rw[e1]at k2;exact k2
   ·rw[List.getElem?_append_right (by omega)]at hd
    obtain⟨k1,k2⟩:=b3 _ d hd
    refine⟨k1,?_⟩
    rw[show o+P.cellsOf f.1+(i-d1.length)=o+i by omega]at k2
    exact k2
theorem LJ {W:World}{sp:Nat->Bool}{c:Ctx}(hp:c.hp=W.heap) (hown:∀g,¬c.own g):∀(m:Nat) (t:TypeId),plainT P m t=true->∀(n:Nat) (cs:List Value) (x:DataW H×List MemPlace),DataW.trod enc P W 0 sp true n t cs=some x ->
  cs.length=P.cellsOf t/\∃ds:List D,HasTy P m t ds/\ds.length=cs.length/\∀(i:Nat) (d:D),ds[i]?=some d->d.vone=true/\ar c d (cs.getD i Go.undef):=by
 intro m
 induction m with
 | zero=>intro t h;simp[plainT]at h
 | succ m ih =>
  intro t hpt n cs x h
  unfold plainT at hpt
  have one:∀(d:D) (v:Value),cs=[v]->d.vone=true->ar c d v->([d]:List D).length=cs.length/\∀(i:Nat) (d':D),[d][i]?=some d'->d'.vone=true/\ar c d' (cs.getD i Go.undef):=by
   rintro d v rfl h1 h2
   refine⟨rfl,fun i d' hd=>?_⟩
   cases i with
   | zero=>simp at hd;subst hd;exact⟨h1,by simpa using h2⟩
   | succ i=>simp at hd
  split at hpt
  ·
   rename_i hu
   cases n with
   | zero=>simp[DataW.trod]at h
   | succ n =>
    unfold DataW.trod at h
    rw[hu]at h
    split at h<;>simp_all
    rename_i b
    exact⟨[.bool b],by unfold HasTy;rw[hu];exact⟨b,rfl⟩,by simp,fun i d hd=>by
     cases i with
     | zero=>simp at hd;subst hd;exact⟨rfl,by simpa using ar.bool (c:=c) b⟩
     | succ i=>simp at hd⟩
  ·rename_i k hu
   cases n with
   | zero=>simp[DataW.trod]at h
   | succ n =>
    unfold DataW.trod at h
    rw[hu]at h
    split at h<;>simp_all
    rename_i kq kq' i' hq
    have hkk:=h.1.1
    subst hkk
    exact⟨[.int kq' i'],by unfold HasTy;rw[hu];exact⟨i',rfl,h.1.2⟩,by simp,fun i d hd=>by
     cases i with
     | zero=>simp at hd;subst hd;exact⟨rfl,by simpa using ar.int (c:=c) kq' i'⟩
     | succ i=>simp at hd⟩
  ·rename_i hu
   cases n with
   | zero=>simp[DataW.trod]at h
   | succ n =>
    unfold DataW.trod at h
    rw[hu]at h
    split at h<;>simp_all
    rename_i s
    exact⟨[.str s],by unfold HasTy;rw[hu];exact⟨s,rfl,h.1⟩,by simp,fun i d hd=>by
     cases i with
     | zero=>simp at hd;subst hd;exact⟨rfl,by simpa using ar.str (c:=c) s⟩
     | succ i=>simp at hd⟩
  ·
   rename_i e hu
   simp only[Bool.and_eq_true,beq_iff_eq,decide_eq_true_eq]at hpt
   obtain⟨⟨hc1,hpos⟩,hpe⟩:=hpt
   rcases DataW.trod_slice hu h with⟨rfl,_⟩|⟨a,len,cap,elems,rest,n',rfl,rfl,_,hb,hl,hm,hlen,hel,_,_⟩
   ·refine⟨by rw[hc1];rfl,[.sl []],?_,one (.sl []) _ rfl rfl (.kM none 0 (by simp[maxLen]))⟩
    unfold HasTy;rw[hu]
    exact⟨[],rfl,by simp[maxLen],by simp⟩
   ·
    have each:∀i,i<len->∃(vs:List Value) (ds:List D),W.cells? 0 (a.add (i*P.cellsOf e)) (P.cellsOf e)=some vs/\HasTy P m e ds/\ds.length=P.cellsOf e/\vs.length=P.cellsOf e/\∀(j:Nat) (d:D),ds[j]?=some d->d.vone=true/\ar c d (vs.getD j Go.undef):=by
     intro i hi
     have h1:=hel i hi
     have h2:elems[i]?=some (elems[i]'(by omega)):=by simp[show i<elems.length by omega]
     rw[h2,Option.bind_eq_some_iff]at h1
     obtain⟨vs,h3,h4⟩:=h1
     obtain⟨k1,ds,k2,k3,k4⟩:=ih e hpe n' vs _ h4
     exact⟨vs,ds,h3,k2,k3.trans k1,k1,k4⟩
    let vf:Nat->List Value:=fun i=>if h:i<len then(each i h).choose else []
    let df:Nat->List D:=fun i=>if h:i<len then(each i h).choose_spec.choose else []
    have spec:∀i,i<len->W.cells? 0 (a.add (i*P.cellsOf e)) (P.cellsOf e)=some (vf i)/\HasTy P m e (df i)/\(df i).length=P.cellsOf e/\(vf i).length=P.cellsOf e/\∀(j:Nat) (d:D),(df i)[j]?=some d->d.vone=true/\ar c d ((vf i).getD j Go.undef):=by
     intro i hi
     simp only[vf,df,dif_pos hi]
     exact(each i hi).choose_spec.choose_spec
    let xs:List (List D):=(List.range len).map df
    have hxl:xs.length=len:=by simp[xs]
    have hxi:∀i,i<len->xs[i]?=some (df i):=by intro i hi;simp[xs,hi]
    have hcellsE:∀i,i<len->(mkElem P e (df i)).cells=df i:=fun i hi=>Fm hpe (spec i hi).2.2.1 (fun j x hx=>((spec i hi).2.2.2.2 j x hx).1)
    refine⟨by rw[hc1];rfl,[.sl (xs.map (mkElem P e))],?_,?_⟩
    ·unfold HasTy;rw[hu]
     refine⟨xs,rfl,by rw[hxl];omega,fun x hx=>?_⟩
     obtain⟨i,hi,rfl⟩:=List.mem_map.1 hx
     exact(spec i (by simpa using hi)).2.1
    ·have hl0:len=(xs.map (mkElem P e)).length:=by simp[hxl]
     refine one _ _ rfl rfl ?_
     by_cases h0:len=0
     ·subst h0
      have:xs=[]:=List.eq_nil_of_length_eq_zero hxl
      rw[this]
      exact .kM _ cap hm
     ·have hz:=(World.cells?_some (spec 0 (by omega)).1).2.2 0 (by omega)
      have hcell0:∃v,W.cell? a=some v:=by
       have e0:(a.add (0*P.cellsOf e)).add 0=a:=by simp[Addr.add]
       rw[e0]at hz
       have:0<(vf 0).length:=by rw[(spec 0 (by omega)).2.2.2.1];exact hpos
       exact⟨(vf 0)[0],by rw[hz];simp[this]⟩
      obtain⟨v0,hv0⟩:=hcell0
      have hspot:a=⟨a.block,a.off,none⟩:=by
       unfold World.cell? at hv0
       split at hv0
       ·split at hv0
        ·cases hv0
        ·rename_i hs
         obtain⟨b,o,s⟩:=a
         cases s with
         | none=>rfl
         | some s=>simp at hs
       ·cases hv0
      have hci:∀i j d,aF (xs.map (mkElem P e)) i j=some d->i<len/\(df i)[j]?=some d:=by
       intro i j d hd
       unfold aF at hd
       rw[List.getElem?_map]at hd
       by_cases hi:i<len
       ·rw[hxi i hi]at hd
        simp only[Option.map_some,Option.bind_some]at hd
        rw[hcellsE i hi]at hd
        exact⟨hi,hd⟩
       ·have:xs[i]?=none:=List.getElem?_eq_none (by omega)
        rw[this]at hd;simp at hd
      have:=ar.sl (c:=c) (xs.map (mkElem P e)) a.block a.off cap (P.cellsOf e) (fun i j=>(vf i).getD j Go.undef) (by intro he;rw[he]at hl0;simp at hl0;omega) (by rw[<- hl0];exact hl) hm hpos
       (fun x hx=>by
        obtain⟨y,hy,rfl⟩:=List.mem_map.1 hx
        obtain⟨i,hi,rfl⟩:=List.mem_map.1 hy
        rw[hcellsE i (by simpa using hi)]
        exact(spec i (by simpa using hi)).2.2.1)
       (fun i j d hd=>by
        obtain⟨hi,hj⟩:=hci i j d hd
        exact((spec i hi).2.2.2.2 j d hj).1)
       (fun i j d hd=>by
        obtain⟨hi,hj⟩:=hci i j d hd
        have hjl:=(List.getElem?_eq_some_iff.1 hj).1
        rw[(spec i hi).2.2.1]at hjl
        have hz:=(World.cells?_some (spec i hi).1).2.2 j hjl
        have e1:(a.add (i*P.cellsOf e)).add j=⟨a.block,a.off+(i*P.cellsOf e+j),none⟩:=by
         have hadd:∀(b o x:Nat),((⟨b,o,none⟩:Addr).add x).add j=⟨b,o+(x+j),none⟩:=by
          intro b o x
          rw[Addr.add_lit,Addr.add_lit,Nat.add_assoc]
         have:=hadd a.block a.off (i*P.cellsOf e)
         rw[<- hspot]at this
         exact this
        rw[e1,pj]at hz
        rw[hp,hz]
        have hjv:j<(vf i).length:=by rw[(spec i hi).2.2.2.1];exact hjl
        simp[List.getD,hjv])
       (hown _) (fun i j d hd=>by
        obtain⟨hi,hj⟩:=hci i j d hd
        exact((spec i hi).2.2.2.2 j d hj).2)
      rw[<- hl0]at this
      rw[hspot]
      exact this
  ·
   rename_i fs hu
   simp only[Bool.and_eq_true,List.all_eq_true]at hpt
   obtain⟨hpf,hcov⟩:=hpt
   obtain⟨xs,n',rfl,_,hcl,hxl,hf⟩:=DataW.trod_struct hu h
   obtain⟨ds,q1,q2,q3⟩:=parts (c:=c) (m:=m) cs (by rw[hcl]) _ 0 hcov (fun f hfm=>by
    simp only[List.mem_map]at hfm
    obtain⟨f',hf',rfl⟩:=hfm
    obtain⟨i,hi⟩:=List.getElem?_of_mem hf'
    have h1:=hf i f' (by simpa using hi)
    have hix:i<xs.length:=by
     have:=(List.getElem?_eq_some_iff.1 hi).1
     rw[hxl];simpa using this
    have h2:xs[i]?=some xs[i]:=by simp[hix]
    rw[h2]at h1
    obtain⟨k1,ds,k2,k3,k4⟩:=ih f'.type (hpf f' hf') n' _ _ h1
    exact⟨ds,k2,k3.trans k1,k4⟩)
   refine⟨hcl,ds,?_,by simpa using q1,fun i d hd=>by simpa using q3 i d hd⟩
   unfold HasTy;rw[hu]
   exact⟨by rw[q1,hcl];rfl,fun f hf=>by simpa using (q2 (f.type,f.offset) (List.mem_map.2 ⟨f,hf,rfl⟩)).1⟩
  ·
   rename_i k e hu
   simp only[Bool.and_eq_true]at hpt
   obtain⟨hpe,hcov⟩:=hpt
   obtain⟨xs,n',rfl,_,hcl,hxl,hf⟩:=DataW.trod_array hu h
   obtain⟨ds,q1,q2,q3⟩:=parts (c:=c) (m:=m) cs (by rw[hcl]) _ 0 hcov (fun f hfm=>by
    simp only[List.mem_map,List.mem_range]at hfm
    obtain⟨i,hi,rfl⟩:=hfm
    have h1:=hf i hi
    have h2:xs[i]?=some (xs[i]'(by omega)):=by simp[show i<xs.length by omega]
    rw[h2]at h1
    obtain⟨k1,ds,k2,k3,k4⟩:=ih e hpe n' _ _ h1
    exact⟨ds,k2,k3.trans k1,k4⟩)
   refine⟨hcl,ds,?_,by simpa using q1,fun i d hd=>by simpa using q3 i d hd⟩
   unfold HasTy;rw[hu]
   exact⟨by rw[q1,hcl];rfl,fun i hi=>by simpa using (q2 (e,i*P.cellsOf e) (List.mem_map.2 ⟨i,by simpa using hi,rfl⟩)).1⟩
  ·cases hpt
end Go.Am
namespace Go.Am
open Go
variable [bI]
variable {H:Type}{enc:TypeId×Value->H}{P:Program}
theorem Q7 {W:World}{r:Reach}{b:Nat}{t:TypeId}{cs:Array Value}(h:Cell.okWide P W r b t (.agg cs)):False:=by
 unfold Cell.okWide at h
 split at h<;>first
  | (rename_i h2;cases h2;done)
  | (rename_i h2 _;cases h2;done)
  | skip
 unfold Cell.ok at h
 split at h<;>first
  | exact h
  | (rename_i h2;cases h2;done)
theorem PD {W:World}{sp:Nat->Bool}{c:Ctx}(hp:c.hp=W.heap) (hown:∀g,¬c.own g){m:Nat}{t:TypeId}(hpt:plainT P m t=true){base:Nat}{v:Value}{d:DataW H}{ps:List MemPlace}
    (hval:Value.okWide P W .any base t v) (hd:DataW.Trod enc P W 0 sp true t v d ps):∃ds:List D,HasTy P m t ds/\ar c (mkElem P t ds) v:=by
  obtain⟨n,hn⟩:=hd
  obtain⟨hl,ds,h1,h2,h3⟩:=LJ hp hown m t hpt n _ _ hn
  refine⟨ds,h1,?_⟩
  have one:(∀cs,v≠.agg cs)->ds.length=1->ar c (ds.headD .undef) v:=by
    intro hna h1'
    have hc:v.cells = #[v]:=by cases v<;>first|rfl|exact absurd rfl (hna _)
    obtain⟨x,hx⟩:∃x,ds[0]?=some x:=⟨ds[0]'(by omega),by simp[show 0<ds.length by omega]⟩
    have:=(h3 0 x hx).2
    rw[hc]at this
    have e:ds.headD .undef=x:=by
      cases ds with
      | nil=>simp at hx
      | cons a r=>simpa using hx
    rw[e];simpa using this
  have agg:∀cs,v=.agg cs->ar c (.agg ds) v:=by
    rintro cs rfl
    refine .agg ds cs (by simpa[Value.cells] using h2.symm) (fun i x hx=>D.iK (h3 i x hx).1) (fun i x hx=>?_)
    have:=(h3 i x hx).2
    rw[<- aA]
    exact this
  unfold Value.okWide at hval
  unfold mkElem
  cases m with
  | zero=>simp[plainT]at hpt
  | succ m =>
    unfold plainT at hpt
    cases hu:P.underlying t with
    | none=>rw[hu]at hpt;simp at hpt
    | some u =>
      rw[hu]at hval hpt
      cases u<;>simp only at hval hpt ⊢<;>first
        | (obtain⟨cs,rfl,_⟩:=hval;exact agg cs rfl)
        | (refine one (fun cs hc=>?_) ?_
           · subst hc;exact Q7 hval
           · rw[h2,hl];simp only[Bool.and_eq_true,beq_iff_eq]at hpt;first|exact hpt.1.1|exact hpt)
        | cases hpt
def DN (P:Program) (m:Nat):List TypeId->List D->Prop
 | [],ds=>ds=[]
 | t::ts,ds=>∃cs r,ds=mkElem P t cs::r/\HasTy P m t cs/\DN P m ts r
theorem Hv {W:World}{sp:Nat->Bool}{c:Ctx}(hp:c.hp=W.heap) (hown:∀g,¬c.own g){m base:Nat}:∀(ts:List TypeId) (vs:List Value) (ds:List (DataW H)) (ps:List MemPlace),ts.all (plainT P m)=true ->
  (∀(j:Nat) t v,ts[j]?=some t->vs[j]?=some v->Value.okWide P W .any base t v)->DataW.TrodAll enc P W 0 sp true ts vs ds ps->vs.length=ts.length/\ds.length=ts.length /\
   ∃xs:List D,DN P m ts xs/\xs.length=ts.length/\∀(i:Nat) (x:D),xs[i]?=some x->ar c x (vs.getD i Go.undef)
 | [],vs,ds,ps,_,_,h=>by
  obtain⟨rfl,rfl,rfl⟩:=trodAll_nil' h
  exact⟨rfl,rfl,[],rfl,rfl,by simp⟩
 | t::ts,vs,ds,ps,hpt,hval,h=>by
  simp only[List.all_cons,Bool.and_eq_true]at hpt
  obtain⟨v,vs',d,ds',p,q,rfl,rfl,rfl,h1,h2⟩:=ChangeShapes.trodAll_cons h
  obtain⟨cs,k1,k2⟩:=PD hp hown hpt.1 (hval 0 t v rfl rfl) h1
  obtain⟨l1,l2,xs,k3,k4,k5⟩:=Hv hp hown ts vs' ds' q hpt.2 (fun j t v ht hv=>hval (j+1) t v (by simpa using ht) (by simpa using hv)) h2
  refine⟨by simp[l1],by simp[l2],mkElem P t cs::xs,⟨cs,xs,rfl,k1,k3⟩,by simp[k4],fun i x hx=>?_⟩
  cases i with
  | zero=>simp at hx;subst hx;simpa using k2
  | succ i=>simp at hx;simpa using k5 i x hx
where
 trodAll_nil' {vs:List Value}{ds:List (DataW H)}{ps:List MemPlace}(h:DataW.TrodAll enc P W 0 sp true [] vs ds ps):vs=[]/\ds=[]/\ps=[]:=ChangeShapes.trodAll_nil h
theorem Kl {f:FuncId}{fn:Func}{s:ChangeSpec}{m:Nat}{tb:TypeId}(hpl:fn.params.toList.all (plainT P m)=true) (hrt:fn.resultTypes = #[tb]) (htb:P.underlying tb=some .bool)
  (hvars:s.vars=[]) (hspec:∀ds:List (DataW H),ds.length=fn.params.size->s.fn H (ds++[])={ results:=[.lit (.bool true)],args:=ds })
  (hl:laidOutB P=true) (hm:mapsRowed P=true) (hfull:((List.range P.types.size).all fun t=>match P.underlying t with|some (.slice e)=>decide (0<P.cellsOf e)|_=>true)=true)
  (hin:∀t∈fn.params.toList,t<P.types.size)
  (hv:∀xs,DN P m fn.params.toList xs->aU P f xs (· = .bool true))
  (W:World) (base:Nat) (args:Array Value) (ds gs:List (DataW H)) (before:List MemPlace)
  (hval:∀(j:Nat) t v,fn.params[j]?=some t->args[j]?=some v->Value.okWide P W .any base t v)
  (hW:DataW.Whole enc P fn.params.toList s.vars false W args.toList ds gs before)
  (htab:∀g vs,bI.tab g=some vs->g<W.heap.size/\∀(k:Nat) (v:Value),vs[k]?=some v->cellOf W.heap g k=some v) :
  Calls P f args W fun e W'=>∃v,e=.returned v/\s.post enc P fn false true false false W args v W':=by
 have hW':=hW
 obtain⟨p,q,hA,hV,rfl,hfz,hnd⟩:=hW
 rw[hvars]at hV
 obtain⟨rfl,rfl⟩:=ChangeShapes.trodVars_none hV
 let c:Ctx:=⟨fun _=>none,⟨fun _=>False,0,[]⟩,gT,W.heap⟩
 have hown:∀g,¬c.own g:=by
  rintro g (h|⟨n,h,_⟩)
  ·exact h
  ·cases h
 have hr:aq c:=⟨fun n=>trivial,fun n m' g h=>(by cases h),fun n g h=>(by cases h),fun g h=>h.elim,⟨0,fun n _=>rfl⟩,fun g vs hg=>⟨(htab g vs hg).2,hown g,(htab g vs hg).1⟩,Nat.zero_le _⟩
 obtain⟨l1,l2,xs,h1,h2,h3⟩:=Hv (c:=c) rfl hown fn.params.toList args.toList ds p hpl (fun j t v ht hv=>hval j t v (by simpa using ht) (by simpa using hv)) hA
 refine(hv xs h1 c W args (fun _=>rfl) rfl hr (by rw[h2, <- l1];simp) (fun i x hx=>by rw[<- aA];exact h3 i x hx)).mono ?_
 rintro e W' ⟨v,r,rfl,hle,hws,hrel,_,rfl⟩
 have hvt:v=.bool true:=by cases hrel;rfl
 subst hvt
 have hk:∀b,b<W.heap.size->W'.heap[b]?=W.heap[b]?:=fun b hb=>hle.keep b hb (fun n hn=>by cases hn)
 have hdl:ds.length=fn.params.size:=by rw[l2];simp
 have hsp:=hspec ds hdl
 refine⟨_,rfl,ds,[],p++[],[],p,[],hW',?_,?_,?_,?_,fun h=>by cases h⟩
 ·rw[hsp,hrt]
  exact ChangeShapes.trodAll_mk1 (RowKit.shut_bool htb true)
 ·rw[hsp]
  refine xy hk ?_
  exact DataW.TrodAll.respare (kids_rows hl hm) (slices_full_of P hfull) hin hA (fun x hx=>by simpa using hW'.lt x (by simpa using hx))
 ·rw[hvars,hsp];rfl
 ·refine⟨hws.os,hws.output,fun i hi=>?_⟩
  rw[hk i hi]
  cases hb:W.heap[i]? with
  | none=>rfl
  | some o=>cases o<;>simp
end Go.Am
namespace Go.Am
open Go
theorem Rn (a b:Nat) (ha:a<18446744073709551616) (hb:b<18446744073709551616):ibits .and .u64 (a:Int) (b:Int)=((a &&& b:Nat):Int):=by
 have hx:a &&& b<2 ^ 64:=Nat.and_lt_two_pow _ (by omega)
 have h1:(BitVec.ofInt 64 (a:Int)).toNat=a:=by
  rw[BitVec.ofInt_natCast,BitVec.toNat_ofNat];exact Nat.mod_eq_of_lt (by omega)
 have h2:(BitVec.ofInt 64 (b:Int)).toNat=b:=by
  rw[BitVec.ofInt_natCast,BitVec.toNat_ofNat];exact Nat.mod_eq_of_lt (by omega)
 show IntKind.u64.wrap ((BitVec.ofInt 64 (a:Int) &&& BitVec.ofInt 64 (b:Int)).toNat:Int)=_
 rw[BitVec.toNat_and,h1,h2]
 simp only[IntKind.wrap,IntKind.signed,IntKind.bits]
 simp
 omega
theorem Rk (a b:Nat) (hb:b<=64):GA .u64 (a:Int) (b:Int)=((a / 2 ^ b:Nat):Int):=by
 unfold GA
 have e:min ((b:Int).toNat) IntKind.u64.bits=b:=by
  simp only[IntKind.bits,Int.toNat_natCast];omega
 rw[e]
 have:((2:Int) ^ b)=((2 ^ b:Nat):Int):=by simp
 rw[this]
 rw[Int.fdiv_eq_ediv_of_nonneg _ (Int.natCast_nonneg _)]
 exact(Int.natCast_ediv a (2 ^ b)).symm
theorem Lo (n:Nat):IntKind.u64.wrap (n:Int)=((n % 18446744073709551616:Nat):Int):=by
 simp only[IntKind.wrap,IntKind.signed,IntKind.bits]
 simp
variable {P:Program}{m:Nat}{t e:TypeId}{k:IntKind}{ds:List D}
theorem EE (h:P.underlying t=some (.int k)) (hd:HasTy P (m+1) t ds):∃i,ds=[.int k i]/\k.min<=i/\i<=k.max:=by
 unfold HasTy at hd
 rw[h]at hd
 obtain⟨i,h1,h2⟩:=hd
 simp[Lit.wf]at h2
 exact⟨i,h1,h2.1,h2.2⟩
theorem GG (h:P.underlying t=some (.slice e)) (hd:HasTy P (m+1) t ds):∃xs:List (List D),ds=[.sl (xs.map (mkElem P e))]/\xs.length<=maxLen/\∀x∈xs,HasTy P m e x:=by
 unfold HasTy at hd
 rw[h]at hd
 exact hd
def structL (P:Program) (t:TypeId):Option (List (TypeId×Nat)):=match P.underlying t with
 | some (.struct fs)=>some (fs.toList.map fun f=>(f.type,f.offset))
 | _=>none
theorem Fx {l:List (TypeId×Nat)}(h:structL P t=some l) (hd:HasTy P (m+1) t ds):ds.length=P.cellsOf t/\∀q∈l,HasTy P m q.1 ((ds.drop q.2).take (P.cellsOf q.1)):=by
 unfold HasTy at hd
 unfold structL at h
 split at h
 ·rename_i fs hu
  rw[hu]at hd
  cases h
  refine⟨hd.1,fun q hq=>?_⟩
  obtain⟨f,hf,rfl⟩:=List.mem_map.1 hq
  exact hd.2 f hf
 ·cases h
theorem Kh {l:List (TypeId×Nat)}(h:structL P t=some l) (cs:List D):mkElem P t cs=.agg cs:=by
 unfold structL at h
 unfold mkElem
 split at h
 ·rename_i hu;rw[hu]
 ·cases h
theorem MA (h:P.underlying t=some (.int k)) (d:D):mkElem P t [d]=d:=by unfold mkElem;rw[h];rfl
theorem Mz (h:P.underlying t=some (.slice e)) (d:D):mkElem P t [d]=d:=by unfold mkElem;rw[h];rfl
theorem H6 (h:P.underlying t=some (.slice e)) (he:P.underlying e=some (.int k)) (hd:HasTy P (m+2) t ds):∃xs:List Int,ds=[.sl (xs.map (.int k))]/\xs.length<=maxLen/\∀x∈xs,k.min<=x/\x<=k.max:=by
 obtain⟨xs,h1,h2,h3⟩:=GG h hd
 have:∃ys:List Int,xs.map (mkElem P e)=ys.map (.int k)/\ys.length=xs.length/\∀x∈ys,k.min<=x/\x<=k.max:=by
  clear h1 h2
  induction xs with
  | nil=>exact⟨[],rfl,rfl,fun x hx=>by cases hx⟩
  | cons x r ih =>
   obtain⟨ys,g1,g2,g3⟩:=ih fun x hx=>h3 x (List.mem_cons_of_mem _ hx)
   obtain⟨i,hi,hi1,hi2⟩:=EE he (h3 x List.mem_cons_self)
   refine⟨i::ys,?_,by simp[g2],fun y hy=>?_⟩
   ·simp only[List.map_cons,g1,hi,MA he]
   ·rcases List.mem_cons.1 hy with rfl|hy
    ·exact⟨hi1,hi2⟩
    ·exact g3 y hy
 obtain⟨ys,g1,g2,g3⟩:=this
 exact⟨ys,by rw[h1,g1],by omega,g3⟩
end Go.Am
namespace Go.Am
open Go
variable [bI]
variable {P:Program}
structure NX (h:Heap) (M esz:Nat) (els:List D):Prop where
 out:M∉els.flatMap D.nm
 el:∀e∈els,aH e/\l9 h e/\∀y,y∈(e.fz h).cells->y.vone=true
def GF (h:Heap) (M esz:Nat) (els:List D):Heap:=au (h.freezeAll (els.flatMap D.nm)) M (.arr esz (els.map (D.fz h)))
theorem Kq {h:Heap}{M esz:Nat}{els:List D}:GF h M esz els M=.arr esz (els.map (D.fz h)):=ak _ _ _
theorem H5 {h:Heap}{M esz k:Nat}{els:List D}(h1:k≠M) (h2:k∉els.flatMap D.nm):GF h M esz els k=h k:=by
 unfold GF;rw[ai _ _ h1,gQ _ h2]
theorem FD {h:Heap}{e:D}:(e.fz h).cells.length=e.cells.length:=by
 cases e with
 | ms n off len =>
  simp only[D.fz,D.fzc]
  cases hr:(h n).row with
  | none=>rfl
  | some p=>obtain⟨a,b⟩:=p;rfl
 | agg cs=>simp[D.fz,D.cells]
 | _=>rfl
theorem OV {h:Heap}{e:D}{j:Nat}:(e.fz h).cells[j]?=(e.cells[j]?).map (D.fzc h):=by
 cases e with
 | agg cs=>simp[D.fz,D.cells]
 | ms n off len =>
  simp only[D.fz,D.cells,D.fzc]
  cases j with
  | zero =>
   cases hr:(h n).row with
   | none=>simp[D.fzc,hr]
   | some p=>obtain⟨a,b⟩:=p;simp[D.fzc,hr]
  | succ j =>
   cases hr:(h n).row with
   | none=>simp
   | some p=>obtain⟨a,b⟩:=p;simp
 | _=>cases j<;>simp[D.fz,D.fzc,D.cells]
theorem GD {c:Ctx}(hr:aq c){M esz:Nat}{els:List D}(hM:c.h M=.arr esz els) (hd:NX c.h M esz els) :
  c.le ⟨c.ρ,c.X,GF c.h M esz els,c.hp⟩/\aq ⟨c.ρ,c.X,GF c.h M esz els,c.hp⟩:=by
 obtain⟨g1,g2⟩:=ez hr (els.flatMap D.nm)
 have hM1:(c.h.freezeAll (els.flatMap D.nm)) M=.arr esz els:=by rw[gQ _ hd.out,hM]
 have hlen:∀e∈els,e.cells.length=esz:=by
  have:=hr.slot M
  rw[hM]at this
  exact this.2.1
 have key:=NM (c:=⟨c.ρ,c.X,c.h.freezeAll (els.flatMap D.nm),c.hp⟩) g2 (els':=els.map (D.fz c.h)) hM1 (by simp) (fun e he=>?_) (fun i j d h=>?_) (fun i j d' h=>?_)
 ·exact⟨g1.trans key.1,key.2⟩
 ·simp only[List.mem_map]at he
  obtain⟨x,hx,rfl⟩:=he
  rw[FD];exact hlen x hx
 ·simp only[aF,List.getElem?_map,Option.bind_eq_some_iff,Option.map_eq_some_iff]at h
  obtain⟨e,⟨x,hx,rfl⟩,h2⟩:=h
  exact D.iK ((hd.el x (List.mem_of_getElem? hx)).2.2 d (List.mem_of_getElem? h2))
 ·simp only[aF,List.getElem?_map,Option.bind_eq_some_iff,Option.map_eq_some_iff]at h
  obtain⟨e,⟨x,hx,rfl⟩,h2⟩:=h
  obtain⟨q1,q2,q3⟩:=hd.el x (List.mem_of_getElem? hx)
  rw[OV,Option.map_eq_some_iff]at h2
  obtain⟨y,hy,rfl⟩:=h2
  refine⟨y,by simp[aF,hx,hy],fun v hv=>?_⟩
  have hym:=List.mem_of_getElem? hy
  have hre:∀n,((c.h.freezeAll (els.flatMap D.nm)) n).row=(c.h n).row:=fun n=>qK _ n
  have hy1:=q1 y hym
  have hyc:y.cells=[y]:=by cases y<;>first|rfl|cases hy1
  have hfz:y.fz c.h=y.fzc c.h:=by cases y<;>first|rfl|cases hy1
  have hnm:y.nm=y.jA:=by cases y<;>first|rfl|cases hy1
  have:=(C5 (Ctx.le.refl _) g2 hv (fun z hz=>by rw[hyc]at hz;simp at hz;subst hz;exact hy1) (H8 hre (fun z hz=>by rw[hyc]at hz;simp at hz;subst hz;exact q2 z hym)) (fun n esz' es hn hrow=>?_)).1
  ·rw[MM hre,hfz]at this;exact this
  ·rw[hre n]at hrow
   refine fB _ hrow (List.mem_flatMap.2 ⟨x,List.mem_of_getElem? hx,?_⟩)
   rw[hnm]at hn
   cases x with
   | agg cs=>exact List.mem_flatMap.2 ⟨y,hym,hn⟩
   | _=>simp only[D.cells,List.mem_singleton]at hym;subst hym;exact hn
inductive NV:Heap->Heap->Prop where
 | refl (h:Heap):NV h h
 | step {h h':Heap}{M esz:Nat}{els:List D}(hM:h M=.arr esz els) (hd:NX h M esz els) (k:NV (GF h M esz els) h'):NV h h'
theorem Kp {h h':Heap}(k:NV h h'):∀{c:Ctx},c.h=h->aq c->c.le ⟨c.ρ,c.X,h',c.hp⟩/\aq ⟨c.ρ,c.X,h',c.hp⟩:=by
 induction k with
 | refl h=>intro c hc hr;subst hc;exact⟨Ctx.le.refl c,hr⟩
 | step hM hd _ ih =>
  intro c hc hr
  subst hc
  obtain⟨g1,g2⟩:=GD hr hM hd
  obtain⟨g3,g4⟩:=ih (c:=⟨c.ρ,c.X,_,c.hp⟩) rfl g2
  exact⟨g1.trans g3,g4⟩
theorem JV {f:FuncId}{ds:List D}{K:D->Prop}(ha:ah P f ds gT (fun r h'=>∃h'',NV h' h''/\kj r/\vI h'' r/\(r.fzt h'').HO=true/\K (r.fzt h''))):aU P f ds K:=by
 intro c w vals hh hp hr hs hrel
 have gk:c.h=gT:=funext hh
 have:=ha c w vals gk hp hr hs hrel
 refine this.mono ?_
 rintro e w' ⟨v,r,ρ,h',rfl,h1,h2,h3,h4,h'',hi,h5,h6,h7,h8⟩
 obtain⟨k1,k2⟩:=Kp hi (c:=⟨ρ,c.X,h',w'.heap⟩) rfl h2
 obtain⟨g1,g2⟩:=ez k2 r.nmt
 have hz:=Jw g1 g2 (h4.mono k1) h5 h6 (fun n esz els hn hrow=>fB _ hrow hn)
 have hown:∀g,¬(⟨ρ,c.X,h''.freezeAll r.nmt,w'.heap⟩:Ctx).own g->¬(⟨c.ρ,c.X,c.h,w'.heap⟩:Ctx).own g:=by
  rintro g hn (hX|⟨n,hm,_⟩)
  ·exact hn (Or.inl hX)
  ·simp only[hh n]at hm;cases hm
 refine⟨v,r.fzt h'',rfl,?_,h3,ar.BZ (c:=⟨ρ,c.X,h''.freezeAll r.nmt,w'.heap⟩) (c':=⟨c.ρ,c.X,c.h,w'.heap⟩) rfl hown hz h7,h7,h8⟩
 refine⟨h1.size,rfl,h1.keep,h1.shape,h1.loop,fun _ _=>rfl,fun _=>Trans.refl _,fun n g hm hρ _=>⟨n,hm,hρ⟩⟩
end Go.Am
namespace Go.Am
open Go
variable [bI]
variable {P:Program}
theorem NV.trans {a b c:Heap}(h:NV a b) (k:NV b c):NV a c:=by
 induction h with
 | refl _=>exact k
 | step hM hd _ ih=>exact .step hM hd (ih k)
structure U8 (P:Program) (fs:FuncId->Option aJ) where
 a:∀f F,fs f=some F->∀ds K h,Qz P F ds K h->ah P f ds h K
 spec:FuncId->Option (List D->Option D)
 sp:∀f s,spec f=some s->∀ds r,s ds=some r->aU P f ds (· = r)
end Go.Am
namespace Go.Am
open Go
variable [bI]
variable {P:Program}
inductive Wk:D->D->Prop where
 | refl (d:D):Wk d d
 | nil:Wk .nil (.sl [])
 | sl (xs ys:List D) (hl:xs.length=ys.length) (h:∀(i:Nat) (x y:D),xs[i]?=some x->ys[i]?=some y->Wk x y):Wk (.sl xs) (.sl ys)
 | agg (xs ys:List D) (hl:xs.length=ys.length) (h:∀(i:Nat) (x y:D),xs[i]?=some x->ys[i]?=some y->Wk x y):Wk (.agg xs) (.agg ys)
 | tup (xs ys:List D) (hl:xs.length=ys.length) (h:∀(i:Nat) (x y:D),xs[i]?=some x->ys[i]?=some y->Wk x y):Wk (.tup xs) (.tup ys)
theorem Wk.one {d d':D}(h:Wk d d'):d'.one=d.one:=by cases h<;>rfl
theorem Wk.vone {d d':D}(h:Wk d d'):d'.vone=d.vone:=by cases h<;>rfl
theorem Wk.R7 {xs:List D}{y:D}(h:Wk (.agg xs) y):∃ys,y=.agg ys/\xs.length=ys.length/\∀(i:Nat) (x y:D),xs[i]?=some x->ys[i]?=some y->Wk x y:=by
 cases h with
 | refl=>exact⟨xs,rfl,rfl,fun i x y h1 h2=>by rw[h1]at h2;cases h2;exact .refl _⟩
 | agg _ ys hl h=>exact⟨ys,rfl,hl,h⟩
theorem Wk.cells {e e':D}(h:Wk e e'):e.cells.length=e'.cells.length:=by
 cases h with
 | agg xs ys hl h=>exact hl
 | _=>rfl
theorem Wk.isAgg {e e':D}(h:Wk e e'):e'.isAgg=e.isAgg:=by cases h<;>rfl
theorem yg {e:D}(h:e.isAgg=false):e.cells=[e]:=by cases e<;>first|rfl|cases h
theorem np {α:Type}{xs ys:List α}(hl:xs.length=ys.length){i:Nat}{y:α}(hy:ys[i]?=some y):∃x,xs[i]?=some x:=by
 have:=(List.getElem?_eq_some_iff.1 hy).1
 exact⟨xs[i]'(by omega),List.getElem?_eq_getElem (by omega)⟩
theorem HM {c:Ctx}{d d':D}(h:Wk d d'):∀v,ar c d v->ar c d' v:=by
 induction h with
 | refl d=>exact fun v hv=>hv
 | nil=>intro v hv;cases hv;exact .kM none 0 (by simp[maxLen])
 | agg xs ys hl h ih =>
  intro v hv
  cases hv with
  | agg _ vs hsz hone hrel =>
   refine .agg ys vs (by omega) (fun i d hd=>?_) (fun i d hd=>?_)
   ·obtain⟨x,hx⟩:=np hl hd
    rw[(h i x d hx hd).one];exact hone i x hx
   ·obtain⟨x,hx⟩:=np hl hd
    exact ih i x d hx hd _ (hrel i x hx)
 | tup xs ys hl h ih =>
  intro v hv
  cases hv with
  | tup _ vs hsz hrel =>
   refine .tup ys vs (by omega) (fun i d hd=>?_)
   obtain⟨x,hx⟩:=np hl hd
   exact ih i x d hx hd _ (hrel i x hx)
 | sl xs ys hl h ih =>
  intro v hv
  cases hv with
  | kM p cap hm =>
   have:ys=[]:=List.length_eq_zero_iff.1 hl.symm
   subst this
   exact .kM p cap hm
  | sl _ b o cap esz f hne hc hm he hlen hone hcell hown hrel =>
   have key:∀i j d',aF ys i j=some d'->∃d,aF xs i j=some d/\d'.vone=true/\ar c d' (f i j):=by
    intro i j d' hd'
    simp only[aF,Option.bind_eq_some_iff]at hd'
    obtain⟨y,hy,hj⟩:=hd'
    obtain⟨x,hx⟩:=np hl hy
    have hw:=h i x y hx hy
    by_cases ha:x.isAgg=true
    ·cases x with
     | agg cs =>
      obtain⟨cs',rfl,hcl,hcw⟩:=hw.R7
      simp only[D.cells]at hj
      obtain⟨a,haj⟩:=np hcl hj
      have hin:∀k z,cs[k]?=some z->aF xs i k=some z:=fun k z hz=>by simp[aF,hx,D.cells,hz]
      have hr:ar c (.agg cs) (.agg ((List.range cs.length).map (f i)).toArray):=by
       refine .agg _ _ (by simp) (fun k z hz=>D.iK (hone i k z (hin k z hz))) (fun k z hz=>?_)
       have hk:=(List.getElem?_eq_some_iff.1 hz).1
       have:((List.range cs.length).map (f i)).toArray.getD k Go.undef=f i k:=by simp[Array.getD,hk]
       rw[this];exact hrel i k z (hin k z hz)
      have hr':=ih i _ _ hx hy _ hr
      refine⟨a,hin j a haj,?_,?_⟩
      ·rw[(hcw j a d' haj hj).vone];exact hone i j a (hin j a haj)
      ·cases hr' with
       | agg _ _ _ _ hrel' =>
        have hk:=(List.getElem?_eq_some_iff.1 hj).1
        have:=hrel' j d' hj
        have e:((List.range cs.length).map (f i)).toArray.getD j Go.undef=f i j:=by simp[Array.getD,show j<cs.length by omega]
        rw[e]at this;exact this
     | _=>cases ha
    ·have ha:x.isAgg=false:=by simpa using ha
     have hc1:=yg ha
     have hc2:=yg (hw.isAgg.trans ha)
     rw[hc2]at hj
     cases j with
     | succ j=>simp at hj
     | zero =>
      simp at hj;subst hj
      have hin:aF xs i 0=some x:=by simp[aF,hx,hc1]
      exact⟨x,hin,by rw[hw.vone];exact hone i 0 x hin,ih i x y hx hy _ (hrel i 0 x hin)⟩
   rw[hl]
   refine .sl ys b o cap esz f (fun e=>hne (by subst e;exact List.length_eq_zero_iff.1 hl)) (by omega) hm he (fun y hy=>?_) (fun i j d' hd'=>(key i j d' hd').choose_spec.2.1) (fun i j d' hd'=>?_) hown (fun i j d' hd'=>(key i j d' hd').choose_spec.2.2)
   ·obtain⟨i,hi⟩:=List.getElem?_of_mem hy
    obtain⟨x,hx⟩:=np hl hi
    rw[<- (h i x y hx hi).cells];exact hlen x (List.mem_of_getElem? hx)
   ·obtain⟨d,hd,-⟩:=key i j d' hd'
    exact hcell i j d hd
theorem aU.wk {f:FuncId}{ds:List D}{K K':D->Prop}(hc:aU P f ds K) (hk:∀r,K r->∃r',Wk r r'/\r'.HO=true/\K' r'):aU P f ds K':=by
 intro c w vals hh hp hr hs hv
 refine(hc c w vals hh hp hr hs hv).mono ?_
 rintro e w' ⟨v,r,r1,r2,r3,r4,r5,r6⟩
 obtain⟨r',h1,h2,h3⟩:=hk r r6
 exact⟨v,r',r1,r2,r3,HM h1 v r4,h2,h3⟩
inductive La:List D->List D->Prop where
 | nil:La [] []
 | cons {x y:D}{xs ys:List D}(h:Wk x y) (k:La xs ys):La (x::xs) (y::ys)
theorem La.get {xs ys:List D}(h:La xs ys):xs.length=ys.length/\∀(i:Nat) (x y:D),xs[i]?=some x->ys[i]?=some y->Wk x y:=by
 induction h with
 | nil=>exact⟨rfl,fun i x y h=>by simp at h⟩
 | cons h k ih =>
  refine⟨by simp[ih.1],fun i x y h1 h2=>?_⟩
  cases i with
  | zero=>simp at h1 h2;subst h1 h2;exact h
  | succ i=>exact ih.2 i x y (by simpa using h1) (by simpa using h2)
theorem aU.arg {f:FuncId}{ds ds':List D}{K:D->Prop}(hw:La ds ds') (hc:aU P f ds' K):aU P f ds K:=by
 intro c w vals hh hp hr hs hv
 obtain⟨hl,hw⟩:=hw.get
 refine hc c w vals hh hp hr (by omega) fun i d hd=>?_
 obtain⟨x,hx⟩:=np hl hd
 exact HM (hw i x d hx hd) _ (hv i x hx)
theorem ah.arg {f:FuncId}{ds ds':List D}{h:Heap}{K:HKq}(hw:La ds ds') (hc:ah P f ds' h K):ah P f ds h K:=by
 intro c w vals hh hp hr hs hv
 obtain⟨hl,hw⟩:=hw.get
 refine hc c w vals hh hp hr (by omega) fun i d hd=>?_
 obtain⟨x,hx⟩:=np hl hd
 exact HM (hw i x d hx hd) _ (hv i x hx)
theorem Wk.TM {xs ys:List D}(h:La xs ys):Wk (.agg xs) (.agg ys):=.agg _ _ h.get.1 h.get.2
theorem La.rfl:∀{xs:List D},La xs xs
 | []=>.nil
 | x::r=>.cons (.refl x) La.rfl
end Go.Am
namespace Go.Am
open Go
variable [bI]
structure cG where
 kind:Int
 n:Int
 v:Int
deriving DecidableEq,Inhabited
structure aP where
 op:Int
 sub:Int
 n:Int
 d:cG
 a:cG
 b:cG
 c:cG
deriving DecidableEq,Inhabited
structure Term where
 kind:Int
 sub:Int
 d:cG
 a:cG
 b:cG
 to0:Int
 to1:Int
deriving DecidableEq,Inhabited
structure Block where
 i:List aP
 t:Term
deriving DecidableEq,Inhabited
structure uQ where
 name:ByteArray
 space:Int
 type:Int
 len:Int
structure Loop where
 head:Int
 reg:Int
 bound:Int
deriving DecidableEq,Inhabited
structure Code where
 group:Int
 sub:Int
 regs:Int
 slots:Int
 params:Int
 arrays:List uQ
 loops:List Loop
 b:List Block
def aj:cG:=⟨0,0,0⟩
def jI:Term:=⟨0,0,aj,aj,aj,0,0⟩
def eM (n:Int):cG:=⟨2,n,0⟩
def Const (v:Int):cG:=⟨1,0,v⟩
def cG.cs (o:cG):List D:=[.int .i64 o.kind,.int .i64 o.n,.int .i32 o.v]
def cG.e (o:cG):D:=.agg o.cs
def aP.cs (x:aP):List D :=
  [.int .i64 x.op,.int .i64 x.sub,.int .i64 x.n,.int .i64 x.d.kind,.int .i64 x.d.n,.int .i32 x.d.v,.int .i64 x.a.kind,.int .i64 x.a.n,.int .i32 x.a.v,
   .int .i64 x.b.kind,.int .i64 x.b.n,.int .i32 x.b.v,.int .i64 x.c.kind,.int .i64 x.c.n,.int .i32 x.c.v]
def aP.e (x:aP):D:=.agg x.cs
def Term.cs (t:Term):List D :=
  [.int .i64 t.kind,.int .i64 t.sub,.int .i64 t.d.kind,.int .i64 t.d.n,.int .i32 t.d.v,.int .i64 t.a.kind,.int .i64 t.a.n,.int .i32 t.a.v,
   .int .i64 t.b.kind,.int .i64 t.b.n,.int .i32 t.b.v,.int .i64 t.to0,.int .i64 t.to1]
def Term.e (t:Term):D:=.agg t.cs
def Block.e (x:Block):D:=.agg (.sl (x.i.map aP.e)::x.t.cs)
def uQ.e (x:uQ):D:=.agg [.str x.name,.int .i64 x.space,.int .i64 x.type,.int .i64 x.len]
def Loop.e (x:Loop):D:=.agg [.int .i64 x.head,.int .i64 x.reg,.int .i64 x.bound]
def Code.e (c:Code):D :=
 .agg [.int .i64 c.group,.int .i64 c.sub,.int .i64 c.regs,.int .i64 c.slots,.int .i64 c.params,.sl (c.arrays.map uQ.e),.sl (c.loops.map Loop.e),.sl (c.b.map Block.e)]
structure xo (d:D):Prop where
 vd:d.vd=true
 one:aH d
theorem xo.pair {d:D}(h:xo d):d.vd=true/\aH d:=⟨h.vd,h.one⟩
theorem aO {k:IntKind}{n:Int}:xo (.int k n):=⟨rfl,by simp⟩
theorem Nd {b:Bool}:xo (.bool b):=⟨rfl,by simp⟩
theorem kT {xs:List D}:xo (.sl xs):=⟨rfl,by simp⟩
theorem Pg:xo .nil:=⟨rfl,by simp⟩
theorem fJ {cs:List D}(h:∀x∈cs,x.vone=true):xo (.agg cs):=⟨by simpa[D.vd] using h,fun x hx=>D.iK (h x hx)⟩
theorem cG.db (o:cG):xo o.e:=fJ (by simp[cG.cs])
theorem aP.db (o:aP):xo o.e:=fJ (by simp[aP.cs])
theorem Term.db (o:Term):xo o.e:=fJ (by simp[Term.cs])
theorem Block.db (o:Block):xo o.e:=fJ (by simp[Term.cs])
theorem uQ.db (o:uQ):xo o.e:=fJ (by simp)
theorem Loop.db (o:Loop):xo o.e:=fJ (by simp)
theorem Code.db (o:Code):xo o.e:=fJ (by simp)
def Lh:List D->Prop
 | []=>True
 | d::r=>xo d/\Lh r
theorem Lh.all:∀{ds:List D},Lh ds->∀d∈ds,d.vd=true/\aH d
 | [],_,d,h=>by cases h
 | x::r,hd,d,h=>by
  rcases List.mem_cons.1 h with rfl|h
  ·exact hd.1.pair
  ·exact Lh.all hd.2 d h
theorem fG {P:Program}{f:FuncId}{ds:List D}{h:Heap}{KH:HKq}{r:D}(hv:aU P f ds (· = r)) (hds:Lh ds) (hk:KH r h):ah P f ds h KH:=bT hv hds.all (by rintro _ rfl;exact hk)
theorem Fc {P:Program}{f:FuncId}{as:List Arg}{h:Heap}{K:D->Prop}{r:D}(hv:aU P f (as.map (·.get [])) (· = r)) (hds:Lh (as.map (·.get []))) (hk:K r):ae P (.call f as) h K:=zY hv hds.all hk
theorem Gd {d:D}{h:Heap}{K:D->Prop}(hd:xo d) (hk:K d):sh K d h:=N0 hd.pair hk
end Go.Am
namespace Go.Am
open Go
variable [bI]
variable {P:Program}{KH:HKq}{K:D->Prop}{h:Heap}
theorem Uw {A:(HKq)->Prop}:vguard (.bool true) true A h KH=A KH:=by rw[iM];simp
theorem Uz {A:(HKq)->Prop}:vguard (.bool false) false A h KH=A KH:=by rw[iM];simp
theorem Ux {A:(HKq)->Prop}:vguard (.bool true) false A h KH=KH gU h:=by rw[iM];simp
theorem Uy {A:(HKq)->Prop}:vguard (.bool false) true A h KH=KH gU h:=by rw[iM];simp
theorem Tf {A:(D->Prop)->Prop}:av (.bool true) true A K=A K:=by rw[ep];simp
theorem UB {A:(D->Prop)->Prop}:av (.bool false) false A K=A K:=by rw[ep];simp
theorem UA {A:(D->Prop)->Prop}:av (.bool true) false A K=K gU:=by rw[ep];simp
theorem Tg {A:(D->Prop)->Prop}:av (.bool false) true A K=K gU:=by rw[ep];simp
theorem Gv {x y:D}:aa P (.pick (.c (.bool true)) (.c x) (.c y)) h KH=KH x h:=rfl
theorem Mn {x y:D}:aa P (.pick (.c (.bool false)) (.c x) (.c y)) h KH=KH y h:=rfl
theorem Q6 {KK:D->Prop}:vun .not (.bool true) KK=KK (.bool false):=rfl
theorem OG {KK:D->Prop}:vun .not (.bool false) KK=KK (.bool true):=rfl
theorem Kk {n j s:Nat}{cs:List D}{d:D}(a:h n=.box (.agg cs)) (hj:cs[j]?=some d):aa P (.ld (.c (.ptr n 0 j)) s false) h KH=KH d h:=by
 rw[wT,a];simp[fF,hj]
theorem sP {n j s:Nat}{cs:List D}{d:D}(a:h n=.box (.agg cs)) (hj:cs[j]?=some d):ae P (.ld (.c (.ptr n 0 j)) s false) h K=K d:=by
 rw[oJ,Kk a hj]
theorem lu {n:Nat}{cs:List D}(a:h n=.box (.agg cs)):aa P (.ld (.c (.ptr n 0 0)) cs.length true) h KH=KH (.agg cs) h:=by
 rw[wT,a];simp[jW]
theorem Lk {n j s:Nat}{cs:List D}(a:h n=.box (.agg cs)) (hj:j+s<=cs.length):aa P (.ld (.c (.ptr n 0 j)) s true) h KH=KH (.agg ((cs.drop j).take s)) h:=by
 rw[wT,a];simp[jW,hj]
theorem P4 {n:Nat}{x y z p q r:D}(a:h n=.box (.agg [x,y,z])) (h1:p.one=true) (h2:q.one=true) (h3:r.one=true) :
  aa P (.st (.c (.ptr n 0 0)) (.c (.agg [p,q,r])) 3) h KH=KH .undef (au h n (.box (.agg [p,q,r]))):=by
 rw[oF,a]
 apply propext
 constructor
 ·exact fun hh=>by simpa using hh.2.2
 ·intro hk
  refine⟨rfl,fun w hw=>?_,rfl,by simp,by simpa using hk⟩
  simp at hw;rcases hw with rfl|rfl|rfl<;>assumption
theorem Ue {n:Nat}{x y z:D}{k1 k2 k3:IntKind}{p q r:Int}(a:h n=.box (.agg [x,y,z])) :
  aa P (.st (.c (.ptr n 0 0)) (.c (.agg [.int k1 p,.int k2 q,.int k3 r])) 3) h KH=KH .undef (au h n (.box (.agg [.int k1 p,.int k2 q,.int k3 r]))):=P4 a rfl rfl rfl
theorem UK {x y:D}{p q:Int}:aa P (.bld [x,y] [(0,1,(.c (.int .i64 p))),(1,1,(.c (.int .i64 q)))]) h KH=KH (.agg [.int .i64 p,.int .i64 q]) h:=by
 rw[nj]
 simp[je,fillD]
theorem TL {x y z:D}{p q:Int}:aa P (.bld [x,y,z] [(0,1,(.c (.int .i64 p))),(1,1,(.c (.int .i64 q)))]) h KH=KH (.agg [.int .i64 p,.int .i64 q,z]) h:=by
 rw[nj]
 simp[je,fillD]
theorem UJ {x y z:D}{p q r:Int}:aa P (.bld [x,y,z] [(0,1,(.c (.int .i64 p))),(1,1,(.c (.int .i64 q))),(2,1,(.c (.int .i64 r)))]) h KH=KH (.agg [.int .i64 p,.int .i64 q,.int .i64 r]) h:=by
 rw[nj]
 simp[je,fillD]
theorem UH {z:List D}:aa P (.bld z []) h KH=KH (.agg z) h:=by
 rw[nj]
 simp[je,fillD]
theorem Rz {x:D}{r:List D}:aa P (.ext (.c (.tup (x::r))) 0) h KH=KH x h:=rfl
theorem Ry {x y:D}{r:List D}:aa P (.ext (.c (.tup (x::y::r))) 1) h KH=KH y h:=rfl
theorem UC {x y z:D}{r:List D}:aa P (.ext (.c (.tup (x::y::z::r))) 2) h KH=KH z h:=rfl
theorem Tu {x:D}{r:List D}:ae P (.ext (.c (.tup (x::r))) 0) h K=K x:=rfl
theorem Tt {x y:D}{r:List D}:ae P (.ext (.c (.tup (x::y::r))) 1) h K=K y:=rfl
theorem Gc {ds:List D}{h:Heap}{K:D->Prop}(hd:∀d∈ds,d.vd=true/\aH d) (hk:K (.tup ds)):sh K (.tup ds) h:=by
 have one:∀d∈ds,d.fz h=d/\l9 h d:=by
  intro d hdm
  obtain⟨h1,h2⟩:=hd d hdm
  obtain⟨a1,a2,a3⟩:=sj (h:=h) h1
  exact⟨a1,a3⟩
 have e:(D.tup ds).fzt h=.tup ds:=by
  simp only[D.fzt]
  rw[List.map_congr_left (fun d hdm=>(one d hdm).1)]
  simp
 refine⟨fun d hdm=>(hd d hdm).2,fun d hdm=>(one d hdm).2,?_,by rw[e];exact hk⟩
 rw[e]
 simp only[D.HO,List.all_eq_true]
 exact fun d hdm=>(hd d hdm).1
section
variable {k:IntKind}{a b:Int}
theorem Ve (h0:a<=b):vbin .leq (.int k a) (.int k b) K=K (.bool true):=by rw[Lz];simp[h0]
theorem Vf (h0:b<a):vbin .leq (.int k a) (.int k b) K=K (.bool false):=by rw[Lz];simp[show ¬a<=b by omega]
theorem kN (h0:a<b):vbin .lss (.int k a) (.int k b) K=K (.bool true):=by rw[xv];simp[h0]
theorem kp (h0:b<=a):vbin .lss (.int k a) (.int k b) K=K (.bool false):=by rw[xv];simp[show ¬a<b by omega]
theorem T3 (h0:b<a):vbin .gtr (.int k a) (.int k b) K=K (.bool true):=by rw[uS];simp[h0]
theorem Sn (h0:a<=b):vbin .gtr (.int k a) (.int k b) K=K (.bool false):=by rw[uS];simp[show ¬b<a by omega]
theorem UY (h0:b<=a):vbin .geq (.int k a) (.int k b) K=K (.bool true):=by rw[Ax];simp[h0]
theorem UZ (h0:a<b):vbin .geq (.int k a) (.int k b) K=K (.bool false):=by rw[Ax];simp[show ¬b<=a by omega]
theorem Vj (h0:a=b):vbin .eql (.int k a) (.int k b) K=K (.bool true):=by rw[bY];simp[h0]
theorem Vl (h0:a≠b):vbin .eql (.int k a) (.int k b) K=K (.bool false):=by rw[bY];simp[h0]
theorem Uk (h0:a≠b):vbin .neq (.int k a) (.int k b) K=K (.bool true):=by rw[gj];simp[h0]
theorem Ul (h0:a=b):vbin .neq (.int k a) (.int k b) K=K (.bool false):=by rw[gj];simp[h0]
theorem cw (h1 : -9223372036854775808<=a+b) (h2:a+b<=9223372036854775807):vbin .add (.int .i64 a) (.int .i64 b) K=K (.int .i64 (a+b)):=by rw[dW,wrap64 h1 h2]
theorem Ea (h1 : -9223372036854775808<=a-b) (h2:a-b<=9223372036854775807):vbin .sub (.int .i64 a) (.int .i64 b) K=K (.int .i64 (a-b)):=by rw[lq,wrap64 h1 h2]
theorem Um (h1 : -9223372036854775808<=a*b) (h2:a*b<=9223372036854775807):vbin .mul (.int .i64 a) (.int .i64 b) K=K (.int .i64 (a*b)):=by rw[Er,wrap64 h1 h2]
theorem Mg (h1:b≠0):vbin .rem (.int k a) (.int k b) K=K (.int k (a.tmod b)):=by rw[cI];simp[h1]
theorem Uj (h1 : -9223372036854775808<=0-a) (h2:0-a<=9223372036854775807):vun .neg (.int .i64 a) K=K (.int .i64 (0-a)):=by rw[P0,wrap64 h1 h2]
end
def gS:=And.intro @Uw<|And.intro @Uz<|And.intro @Ux<|And.intro @Uy<|And.intro @xw<|And.intro @Tf<|And.intro @UB<|And.intro @UA<|And.intro @Tg<|And.intro @tY<|And.intro @Gv<|And.intro @Mn<|And.intro @Q6<|And.intro @OG<|And.intro @ag<|And.intro @af<|And.intro @Rz<|And.intro @Ry<|And.intro @UC<|And.intro @UK<|And.intro @UJ<|And.intro @TL<|And.intro @UH<|And.intro @Tu @Tt
def cS:=And.intro @Ve<|And.intro @Vf<|And.intro @kN<|And.intro @kp<|And.intro @T3<|And.intro @Sn<|And.intro @UY<|And.intro @UZ<|And.intro @Vj<|And.intro @Vl<|And.intro @Uk<|And.intro @Ul<|And.intro @cw<|And.intro @Ea<|And.intro @Um<|And.intro @Mg @Uj
end Go.Am
namespace Go.Am
open Go
variable [bI]
variable {P:Program}{KH:HKq}{K:D->Prop}{h:Heap}{L:LSq}
structure Vs (h:Heap) (L:LSq):Prop where
 get:∀(i n:Nat) (s:Slot),L[i]?=some (n,s)->h n=s
 ne:∀(i j n m:Nat) (s s':Slot),L[i]?=some (n,s)->L[j]?=some (m,s')->i≠j->n≠m
 lv:∀(i n:Nat) (s:Slot),L[i]?=some (n,s)->s≠.free
theorem Vs.nil:Vs h []:=⟨fun i n s h=>by simp at h,fun i j n m s s' h=>by simp at h,fun i n s h=>by simp at h⟩
theorem Vs.push (V:Vs h L){n:Nat}(hn:h n=.free){s:Slot}(hs:s≠.free):Vs (au h n s) ((n,s)::L):=by
 have NY:∀(i m:Nat) (t:Slot),L[i]?=some (m,t)->m≠n:=by
  rintro i m t hi rfl
  exact V.lv i m t hi ((V.get i m t hi).symm.trans hn)
 refine⟨fun i m t hi=>?_,fun i j m m' t t' hi hj hij=>?_,fun i m t hi=>?_⟩
 ·cases i with
  | zero=>simp at hi;obtain⟨rfl,rfl⟩:=hi;exact ak _ _ _
  | succ i=>simp at hi;rw[ai _ _ (NY i m t hi)];exact V.get i m t hi
 ·cases i with
  | zero =>
   cases j with
   | zero=>exact absurd rfl hij
   | succ j=>simp at hi hj;obtain⟨rfl,rfl⟩:=hi;exact(NY j m' t' hj).symm
  | succ i =>
   cases j with
   | zero=>simp at hi hj;obtain⟨rfl,rfl⟩:=hj;exact NY i m t hi
   | succ j=>simp at hi hj;exact V.ne i j m m' t t' hi hj (by omega)
 ·cases i with
  | zero=>simp at hi;obtain⟨rfl,rfl⟩:=hi;exact hs
  | succ i=>simp at hi;exact V.lv i m t hi
theorem Vs.bX (V:Vs h L) (i:Nat){n:Nat}{s:Slot}(hi:L[i]?=some (n,s)){s':Slot}(hs:s'≠.free):Vs (au h n s') (L.set i (n,s')):=by
 have hil:=(List.getElem?_eq_some_iff.1 hi).1
 have key:∀(j m:Nat) (t:Slot),(L.set i (n,s'))[j]?=some (m,t)->(j=i/\m=n/\t=s')\/(j≠i/\L[j]?=some (m,t)):=by
  intro j m t hj
  rw[List.getElem?_set]at hj
  by_cases e:i=j
  ·subst e;rw[if_pos rfl]at hj;simp[hil]at hj;exact Or.inl ⟨rfl,hj.1.symm,hj.2.symm⟩
  ·rw[if_neg e]at hj;exact Or.inr ⟨fun q=>e q.symm,hj⟩
 refine⟨fun j m t hj=>?_,fun j k m m' t t' hj hk hjk=>?_,fun j m t hj=>?_⟩
 ·rcases key j m t hj with⟨-,rfl,rfl⟩|⟨h1,h2⟩
  ·exact ak _ _ _
  ·rw[ai _ _ (V.ne j i m n t s h2 hi h1)];exact V.get j m t h2
 ·rcases key j m t hj with⟨rfl,rfl,rfl⟩|⟨h1,h2⟩<;>rcases key k m' t' hk with⟨rfl,rfl,rfl⟩|⟨g1,g2⟩
  ·exact absurd rfl hjk
  ·exact(V.ne k j m' m t' s g2 hi g1).symm
  ·exact V.ne j k m m' t s h2 hi h1
  ·exact V.ne j k m m' t t' h2 g2 hjk
 ·rcases key j m t hj with⟨-,-,rfl⟩|⟨-,h2⟩
  ·exact hs
  ·exact V.lv j m t h2
theorem Vs.keep (V:Vs h L){h':Heap}(hk:∀k,h k≠.free->h' k=h k):Vs h' L :=
 ⟨fun i n s hi=>by have:=V.get i n s hi;rw[hk n (by rw[this];exact V.lv i n s hi)];exact this,V.ne,V.lv⟩
theorem Vs.CZ (V:Vs h L){h':Heap}(hk:∀(k:Nat) (s:Slot),(∃i:Nat,L[i]?=some (k,s))->h' k=h k):Vs h' L :=
 ⟨fun i n s hi=>by rw[hk n s ⟨i,hi⟩];exact V.get i n s hi,V.ne,V.lv⟩
theorem Vs.pop {x:Nat×Slot}(V:Vs h (x::L)):Vs h L :=
 ⟨fun i n s hi=>V.get (i+1) n s (by simpa using hi),fun i j n m s s' hi hj hij=>V.ne (i+1) (j+1) n m s s' (by simpa using hi) (by simpa using hj) (by omega),fun i n s hi=>V.lv (i+1) n s (by simpa using hi)⟩
theorem Vs.box (V:Vs h L){d:D}(ho:aH d) (hK:∀n h',Vs h' ((n,.box d)::L)->KH (.ptr n 0 0) h'):aa P (.box (.c d)) h KH:=by
 rw[C4]
 exact⟨ho,fun n t=>hK n _ (V.push t.free (by simp))⟩
theorem Vs.alloc (V:Vs h L){d:D}(hK:∀n h',Vs h' ((n,.box d)::L)->KH (.ptr n 0 0) h'):aa P (.alloc d) h KH:=by
 rw[fI]
 exact fun n t=>hK n _ (V.push t.free (by simp))
theorem Vs.Jl (V:Vs h L){esz bytes l:Nat}{z:D}(hb:l*bytes<=140737488355328) (hl:l<=9223372036854775807) (hK:∀n h',Vs h' ((n,.arr esz (List.replicate l z))::L)->KH (.ms n 0 l) h'):aa P (.mk esz bytes z (.c (.int .i64 (l:Int))) (.c (.int .i64 (l:Int)))) h KH:=by
 rw[Te]
 refine⟨by omega,by omega,by have:=Int.ofNat_le.2 hb;simpa using this,by omega,fun n t=>?_⟩
 rw[Int.toNat_natCast]
 exact hK n _ (V.push t.free (by simp))
theorem Vs.pV (V:Vs h L) (i:Nat){n s:Nat}{cs cs':List D}(hi:L[i]?=some (n,.box (.agg cs))) (hl:cs.length=s) (hl':cs'.length=s) (ho:∀x,x∈cs'->x.one=true)
  (hK:∀h',Vs h' (L.set i (n,.box (.agg cs')))->KH .undef h'):aa P (.st (.c (.ptr n 0 0)) (.c (.agg cs')) s) h KH:=by
 rw[oF,V.get i _ _ hi]
 refine⟨hl',ho,rfl,by simp[hl],?_⟩
 have e:setCells (.agg cs) 0 (D.agg cs').cells=.agg cs':=by
  show D.agg (cs.take 0++cs'++cs.drop (0+cs'.length))=_
  rw[List.take_zero,List.nil_append,Nat.zero_add,List.drop_of_length_le (by omega),List.append_nil]
 rw[e]
 exact hK _ (V.bX i hi (by simp))
theorem Vs.UU (V:Vs h L) (i:Nat){n j:Nat}{cs:List D}{d:D}(hi:L[i]?=some (n,.box (.agg cs))) (hj:j<cs.length) (ho:d.one=true)
  (hK:∀h',Vs h' (L.set i (n,.box (.agg (cs.set j d))))->KH .undef h'):aa P (.st (.c (.ptr n 0 j)) (.c d) 1) h KH:=by
 rw[oF,V.get i _ _ hi]
 have hc:d.cells=[d]:=by cases d<;>first|rfl|cases ho
 refine⟨by rw[hc];rfl,fun x hx=>by rw[hc]at hx;simp at hx;subst hx;exact ho,rfl,by simp;omega,?_⟩
 have e:setCells (.agg cs) j d.cells=.agg (cs.set j d):=by
  rw[hc]
  show D.agg (cs.take j++[d]++cs.drop (j+1))=_
  rw[List.set_eq_take_append_cons_drop,if_pos hj]
  simp
 rw[e]
 exact hK _ (V.bX i hi (by simp))
theorem Vs.rG (V:Vs h L) (i:Nat){n j:Nat}{els:List D}{d:D}(hi:L[i]?=some (n,.arr 1 els)) (hj:j<els.length) (ho:d.one=true) (h1:∀x∈els,x.one=true)
  (hK:∀h',Vs h' (L.set i (n,.arr 1 (els.set j d)))->KH .undef h'):aa P (.st (.c (.ptr n j 0)) (.c d) 1) h KH:=by
 rw[oF,V.get i _ _ hi]
 have hc:∀d:D,d.one=true->d.cells=[d]:=fun d ho=>by cases d<;>first|rfl|cases ho
 refine⟨by rw[hc d ho];rfl,fun x hx=>by rw[hc d ho]at hx;simp at hx;subst hx;exact ho,hj,by omega,fun y hy=>?_⟩
 have hy1:=h1 y (List.mem_of_getElem? hy)
 have e:setCells y 0 d.cells=d:=by rw[hc d ho];cases y<;>first|rfl|cases hy1
 rw[e]
 exact hK _ (V.bX i hi (by simp))
theorem Vs.fa (V:Vs h L) (i:Nat){n o:Nat}{s:Slot}(hi:L[i]?=some (n,s)):aa P (.fadd (.c (.ptr n 0 0)) o) h KH=KH (.ptr n 0 o) h:=by
 have:=V.get i n s hi
 rw[jN,this]
 have hu:s.used=true:=Slot.IS (V.lv i n s hi)
 apply propext
 exact⟨fun hh=>by simpa using hh.2,fun hk=>⟨hu,by simpa using hk⟩⟩
theorem Vs.b9 (V:Vs h L) (i:Nat){n j:Nat}{cs:List D}{e:D}(hi:L[i]?=some (n,.box (.agg cs))) (he:cs[j]?=some e):aa P (.ld (.c (.ptr n 0 j)) 1 false) h KH=KH e h:=Kk (V.get i _ _ hi) he
theorem Vs.lu (V:Vs h L) (i:Nat){n s:Nat}{cs:List D}(hi:L[i]?=some (n,.box (.agg cs))) (hl:cs.length=s):aa P (.ld (.c (.ptr n 0 0)) s true) h KH=KH (.agg cs) h:=by rw[<- hl,Go.Am.lu (V.get i _ _ hi)]
theorem Vs.yd (V:Vs h L) (i:Nat){n s:Nat}{cs:List D}(hi:L[i]?=some (n,.box (.agg cs))) (hl:cs.length=s):ae P (.ld (.c (.ptr n 0 0)) s true) h K=K (.agg cs):=by rw[oJ,V.lu i hi hl]
theorem Vs.ia (V:Vs h L) (i:Nat){n l esz:Nat}{els:List D}{a:Int}(hi:L[i]?=some (n,.arr esz els)) (h0:0<=a) (h1:a<l):aa P (.iadd (.c (.ms n 0 l)) (.c (.int .i64 a)) esz) h KH=KH (.ptr n a.toNat 0) h:=by
 rw[mv]
 apply propext
 constructor
 ·exact fun hh=>by simpa using hh.2.2.2
 ·exact fun hk=>⟨h0,h1,⟨els,by rw[V.get i _ _ hi];rfl⟩,by simpa using hk⟩
theorem Vs.EO (V:Vs h L) (i:Nat){n l esz:Nat}{els:List D}{a:Int}(hi:L[i]?=some (n,.arr esz els)) (h0:0<=a) (h1:a<l):ae P (.iadd (.c (.ms n 0 l)) (.c (.int .i64 a)) esz) h K=K (.ptr n a.toNat 0):=by rw[mA,V.ia i hi h0 h1]
theorem Vs.uV (V:Vs h L) (i:Nat){n j:Nat}{els:List D}{d:D}(hi:L[i]?=some (n,.arr 1 els)) (hd:els[j]?=some d) (h1:d.one=true):aa P (.ld (.c (.ptr n j 0)) 1 false) h KH=KH d h:=by
 rw[wT,V.get i _ _ hi]
 obtain⟨hl,he⟩:=List.getElem?_eq_some_iff.1 hd
 have hc:d.cells=[d]:=by cases d<;>first|rfl|cases h1
 simp[fF,hl,he,hc]
theorem Vs.Bu (V:Vs h L) (i:Nat){n j:Nat}{els:List D}{d:D}(hi:L[i]?=some (n,.arr 1 els)) (hd:els[j]?=some d) (h1:d.one=true):ae P (.ld (.c (.ptr n j 0)) 1 false) h K=K d:=by rw[oJ,V.uV i hi hd h1]
theorem kM {xs:List D}{a:Int}{esz:Nat}{d:D}(h0:0<=a) (hd:xs[a.toNat]?=some d) (hc:d.cells.length=esz):aa P (.iadd (.c (.sl xs)) (.c (.int .i64 a)) esz) h KH=KH (.vp d 0) h:=by
 rw[zP]
 have hl:=(List.getElem?_eq_some_iff.1 hd).1
 apply propext
 constructor
 ·exact fun hh=>(hh.2.2 d hd).2
 ·exact fun hk=>⟨h0,by omega,fun d' hd'=>by rw[hd]at hd';cases hd';exact⟨hc,hk⟩⟩
theorem KD {xs:List D}{a:Int}{esz:Nat}{d:D}(h0:0<=a) (hd:xs[a.toNat]?=some d) (hc:d.cells.length=esz):ae P (.iadd (.c (.sl xs)) (.c (.int .i64 a)) esz) h K=K (.vp d 0):=by rw[mA,kM h0 hd hc]
theorem Ky {d:D}{o:Nat}:aa P (.fadd (.c (.vp d 0)) o) h KH=KH (.vp d o) h:=by rw[Fz,Nat.zero_add]
theorem Rf {cs:List D}{j:Nat}{e:D}(he:cs[j]?=some e):aa P (.ld (.c (.vp (.agg cs) j)) 1 false) h KH=KH e h:=by rw[uW,fF];simp[he]
theorem H2 {cs:List D}{s:Nat}(hl:cs.length=s):aa P (.ld (.c (.vp (.agg cs) 0)) s true) h KH=KH (.agg cs) h:=by
 subst hl
 rw[uW,jW];simp
theorem rP {d:D}(h1:d.one=true):aa P (.ld (.c (.vp d 0)) 1 false) h KH=KH d h:=by
 have hc:d.cells=[d]:=by cases d<;>first|rfl|cases h1
 rw[uW,fF,hc];rfl
theorem EN {d:D}(h1:d.one=true):ae P (.ld (.c (.vp d 0)) 1 false) h K=K d:=by rw[oJ,rP h1]
end Go.Am
