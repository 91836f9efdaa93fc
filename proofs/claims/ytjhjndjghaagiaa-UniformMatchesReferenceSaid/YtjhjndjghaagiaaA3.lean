/- The abstract machine: what the operations of the program do, on plain data. No condition. -/
import Derived.OpenShut
import Derived.ReadAgain
import Derived.RowKit
import Derived.Test.YtjhjndjghaagiaaA2
set_option linter.unnecessarySimpa false
set_option linter.defProp false
set_option linter.unusedSectionVars false
set_option linter.unusedSimpArgs false
set_option linter.unusedVariables false
namespace Go.Am
open Go
variable [bW]
variable {P:Program}{nt:Nat}
variable {ops:Array Oper}{items:List AOper}{masks tl:List Nat}
def XT.Gz (X:XT) (wt:Nat->Option Nat):XT:=⟨fun x=>X.p x\/∃k,wt k=some x,X.lo,X.dfs⟩
theorem XT.GD {X:XT}{wt:Nat->Option Nat}(h:∀k,wt k=none):X.Gz wt=X:=by
 cases X with
 | mk p lo dfs =>
  have:(fun x=>p x\/∃k,wt k=some x)=p:=by
   funext x
   exact propext ⟨fun hx=>hx.elim id fun ⟨k,hk⟩=>(by rw[h k]at hk;cases hk),Or.inl⟩
  simp only[XT.Gz,this]
structure Fl (P:Program) where
 p:Nat
 m:Nat
 s:Nat
 fk:wA P
structure SQ (P:Program) (nt:Nat) (ops:Array Oper) (items:List AOper) (masks tl:List Nat) (f:Fl P):Prop where
 fm:tl[f.p]?=some f.m
 it:items[f.m]?=some ⟨some f.s,f.fk.op,none⟩
 us:∀(k:Nat) (b:AOper),items[k]?=some b->k≠f.m->b.dst≠some f.s
 sn:f.s<nt
 mko:∃(o:Oper),ops[f.m]?=some o/\Fy P f.fk o/\o.dst=some f.s/\o.guard=none
 ntm:∀l i:Nat,tl[l]?=some i->l<f.p->(masks.getD i 0).testBit f.m=false
 cok:∀q∈f.fk.cs,∀(k:Nat) (b:AOper),items[k]?=some b->b.dst=some q.1->k∉tl/\xZ masks tl k=0/\(masks.getD f.m 0).testBit k=true
structure y3 (P:Program) (nt:Nat) (ops:Array Oper) (items:List AOper) (masks tl:List Nat) (fs:List (Fl P)):Prop extends tM P nt ops items masks tl where
 tord:∀l k i i':Nat,tl[l]?=some i->tl[k]?=some i'->l<k->(∀f∈fs,k≠f.p)->(masks.getD i' 0).testBit i=true
 nd:∀l l' i:Nat,tl[l]?=some i->tl[l']?=some i->l=l'
 fl:∀f∈fs,SQ P nt ops items masks tl f
 ind:∀f f',f∈fs->f'∈fs->f.p≠f'.p->(masks.getD f.m 0).testBit f'.m=false
 same:∀f f',f∈fs->f'∈fs->f.p=f'.p->f=f'
theorem y3.MC {fs:List (Fl P)}(S:y3 P nt ops items masks tl fs){f f':Fl P}(h:f∈fs) (h':f'∈fs) (e:f.m=f'.m):f=f' :=
 S.same f f' h h' (S.nd f.p f'.p f.m (S.fl f h).fm (by rw[e];exact(S.fl f' h').fm))
def LW (fs:List (Fl P)) (c₀:Ctx) (wt:Nat->Option Nat) (ρ:Nat->Option Nat) (h:Heap) (w:World):Prop :=
 c₀.le ⟨ρ,c₀.X,h,w.heap⟩/\∀k g,wt k=some g->c₀.hp.size<=g/\(∃f,f∈fs/\f.m=k/\w.heap[g]?=some f.fk.obj)/\∀n,(h n).mine->ρ n≠some g
theorem LW.mono {fs:List (Fl P)}{c₀:Ctx}{wt:Nat->Option Nat}{X:XT}{ρ ρ':Nat->Option Nat}{h h':Heap}{w w':World}(l:LW fs c₀ wt ρ h w) (k:Ctx.le ⟨ρ,X,h,w.heap⟩ ⟨ρ',X,h',w'.heap⟩):LW fs c₀ wt ρ' h' w':=by
 refine⟨l.1.trans (k.SS c₀.X c₀.X rfl),fun q g hq=>?_⟩
 obtain⟨l2,⟨f,f1,f2,l3⟩,l4⟩:=l.2 q g hq
 have hlt:=(Array.getElem?_eq_some_iff.1 l3).1
 refine⟨l2,⟨f,f1,f2,(k.keep g hlt l4).trans l3⟩,fun n hm hρ=>?_⟩
 obtain⟨m,h1,h2⟩:=k.born n g hm hρ hlt
 exact l4 m h1 h2
def DJ (listed:Array Bool) (wt:Nat->Option Nat):Array Bool:=(Array.range listed.size).map fun k=>cA listed k&&(wt k).isNone
theorem fT {listed:Array Bool}{wt:Nat->Option Nat}:(DJ listed wt).size=listed.size:=by simp[DJ]
theorem cL {listed:Array Bool}{wt:Nat->Option Nat}{k:Nat}(h:wt k=none):cA (DJ listed wt) k=cA listed k:=by
 by_cases hk:k<listed.size
 ·simp[DJ,cA,Array.getD,hk,h]
 ·simp[DJ,cA,Array.getD,hk]
theorem jF {listed:Array Bool}{wt:Nat->Option Nat}{k g:Nat}(h:wt k=some g) (hk:k<listed.size):cA (DJ listed wt) k=false:=by
 simp[DJ,cA,Array.getD,hk,h]
theorem Sn {listed:Array Bool}{wt:Nat->Option Nat}{k:Nat}(hk:k<listed.size) (h:cA (DJ listed wt) k=true):cA listed k=true:=by
 cases hw:wt k with
 | none=>rwa [cL hw]at h
 | some g=>rw[jF hw hk]at h;cases h
theorem RG {fs:List (Fl P)}(S:y3 P nt ops items masks tl fs){c₀:Ctx}(hX0:∀g,c₀.X g->g<c₀.hp.size){w₀:World}{K:LEnv->Heap->Prop}{l1 l2:Array Bool}{a:Act}{w:World}{wt:Nat->Option Nat}{g:Nat}{ρ:Nat->Option Nat}{h:Heap}{e:LEnv}{f:Fl P}(hf:f∈fs)
  (hwt:wt f.m=some g) (winj:∀k k' g,wt k=some g->wt k'=some g->k=k') (hs:l2.size=l1.size) (hls:∀k,cA l2 k=if k=f.m then true else cA l1 k) (hanc:∀k,(masks.getD f.m 0).testBit k=true->cA l2 k=true) (hl1:cA l1 f.m=false)
  (hJ:Jr P nt ops items masks tl (c₀.X.Gz wt) (LW fs c₀ wt) w₀ K l1 a w ρ h e f.p) (ht:a.tmps.getD f.s Go.undef=f.fk.val g) (hpre:∀q∈f.fk.cs,e.get q.1=.int q.2.1 q.2.2) :
  ∃ρ' h' e',Jr P nt ops items masks tl (c₀.X.Gz (aD wt f.m none)) (LW fs c₀ (aD wt f.m none)) w₀ K l2 a w ρ' h' e' (f.p+1) /\
   ∀s,(∀k b,items[k]?=some b->b.dst=some s->k≠f.m/\¬(k∉tl/\xZ masks tl k≠0))->e'.get s=e.get s:=by
 have F:=S.fl f hf
 obtain⟨hsz,hdc,⟨l1',lw⟩,hr,hws,hdef,htsz,hj,htail,hprog,hrel,hval⟩:=hJ
 obtain⟨l2',⟨f',f1,f2,l3⟩,l4⟩:=lw f.m g hwt
 cases S.MC f1 hf f2
 have hmop:f.m<ops.size:=S.tlt f.m (ak F.fm)
 have hlt:f.p<tl.length:=(ah.1 F.fm).1
 have hli:tl[f.p]=f.m:=(ah.1 F.fm).2
 rw[List.drop_eq_getElem_cons hlt,hli]at htail
 simp only[sRest,F.it,fW]at htail
 have htail:=f.fk.hop _ _ _ hpre htail
 obtain⟨n,top⟩:=dL hr
 have top:pc h n:=top
 have hn:=top.free
 obtain⟨hk1,hk2⟩:=htail n top
 let c1:Ctx:=⟨ρ,c₀.X.Gz wt,h,w.heap⟩
 let c2:Ctx:=⟨aD ρ n (some g),c₀.X.Gz (aD wt f.m none),aD h n f.fk.slot,w.heap⟩
 have hglt:=(Array.getElem?_eq_some_iff.1 l3).1
 have wle:∀k x,aD wt f.m none k=some x->wt k=some x/\k≠f.m:=by
  intro k x hk
  by_cases hkm:k=f.m
  ·subst hkm;rw[ar]at hk;cases hk
  ·rw[an _ _ hkm]at hk;exact⟨hk,hkm⟩
 have xle:∀b,c₀.X.Gz (aD wt f.m none) b->c₀.X.Gz wt b:=by
  rintro b (hx|⟨k,hk⟩)
  ·exact Or.inl hx
  ·exact Or.inr ⟨k,(wle k b hk).1⟩
 have sc:LS c1 c2:=by
  refine⟨rfl,fun k hk=>?_,fun k hk=>?_,fun b hb ho=>?_⟩
  ·have:k≠n:=by rintro rfl;exact hk hn
   simp[c1,c2,aD,this]
  ·have:k≠n:=by rintro rfl;exact hk hn
   simp[c1,c2,aD,this]
  ·rcases ho with hx|⟨k,h1,h2⟩
   ·exact Or.inl (xle b hx)
   ·by_cases hk:k=n
    ·subst hk
     simp[c2,aD]at h2
     exact Or.inl (Or.inr ⟨f.m,by rw[hwt,h2]⟩)
    ·simp[c2,aD,hk]at h1 h2
     exact Or.inr ⟨k,h1,h2⟩
 have hle2:c₀.le ⟨aD ρ n (some g),c₀.X,aD h n f.fk.slot,w.heap⟩:=by
  have fr:∀k,c₀.h k≠.free->k≠n:=by
   rintro k hk rfl
   have:=l1'.tr k
   simp only at this
   rw[hn]at this
   cases hx:c₀.h k<;>rw[hx]at this hk<;>first|exact hk rfl|cases this
  refine⟨l1'.size,rfl,l1'.keep,l1'.shape,l1'.loop,fun k hk=>?_,fun k=>?_,fun k b h1 h2 hb=>?_⟩
  ·show aD ρ n (some g) k=_
   rw[an _ _ (fr k hk)];exact l1'.names k hk
  ·show Trans _ (aD h n _ k)
   by_cases hk:k=n
   ·subst hk
    have:c₀.h k=.free:=by
     cases hx:c₀.h k<;>first|rfl|exact absurd rfl (fr k (by rw[hx];simp))
    rw[this];exact .free _
   ·rw[an _ _ hk];exact l1'.tr k
  ·by_cases hk:k=n
   ·subst hk
    have h2':aD ρ k (some g) k=some b:=h2
    rw[ar]at h2'
    cases h2'
    omega
   ·have h1':(aD h n f.fk.slot k).mine:=h1
    have h2':aD ρ n (some g) k=some b:=h2
    rw[an _ _ hk]at h1' h2'
    exact l1'.born k b h1' h2' hb
 have hg2:iP c2:=hr.glob.sM sc
 have hr2:av c2:=by
  refine⟨fun k=>?_,fun k1 k2 b m1 m2 r1 r2=>?_,fun k b hm hb hX=>?_,fun b hX=>?_,?_,hg2,hr.lo⟩
  ·show cM c2 k (aD h n f.fk.slot k)
   by_cases hk:k=n
   ·subst hk
    rw[ar]
    exact f.fk.hslot c2 k g (by simp[c2,aD]) l3
   ·rw[an _ _ hk]
    exact cM.sM sc (fun _=>by simp[c1,c2,aD,hk]) (hr.slot k)
  ·have m1':(aD h n f.fk.slot k1).mine:=m1
   have m2':(aD h n f.fk.slot k2).mine:=m2
   have r1':aD ρ n (some g) k1=some b:=r1
   have r2':aD ρ n (some g) k2=some b:=r2
   by_cases e1:k1=n
   ·by_cases e2:k2=n
    ·rw[e1,e2]
    ·exfalso
     subst e1
     rw[ar]at r1'
     cases r1'
     rw[an _ _ e2]at m2' r2'
     exact l4 k2 m2' r2'
   ·by_cases e2:k2=n
    ·exfalso
     subst e2
     rw[ar]at r2'
     cases r2'
     rw[an _ _ e1]at m1' r1'
     exact l4 k1 m1' r1'
    ·rw[an _ _ e1]at m1' r1'
     rw[an _ _ e2]at m2' r2'
     exact hr.inj k1 k2 b m1' m2' r1' r2'
  ·have hm':(aD h n f.fk.slot k).mine:=hm
   have hb':aD ρ n (some g) k=some b:=hb
   have hX':c₀.X.Gz (aD wt f.m none) b:=hX
   by_cases hk:k=n
   ·subst hk
    rw[ar]at hb'
    cases hb'
    rcases hX' with hx|⟨k',hk'⟩
    ·have:=hX0 g hx
     omega
    ·obtain⟨q1,q2⟩:=wle k' g hk'
     exact q2 (winj _ _ _ q1 hwt)
   ·rw[an _ _ hk]at hm' hb'
    exact hr.apart k b hm' hb' (xle b hX')
  ·exact hr.xlt b (xle b hX)
  ·obtain⟨N,hN⟩:=hr.fin
   refine⟨N+n+1,fun k hk=>?_⟩
   show aD h n _ k=_
   rw[an _ _ (show k≠n by omega)]
   exact hN k (by omega)
 obtain⟨T,t1,t2,t3⟩:=Co S.totM hk2
 have mtl:f.m∈tl:=ak F.fm
 have hput:∀s',s'≠f.s->(e.put (some f.s) (f.fk.dv n)).get s'=e.get s':=by
  intro s' hs
  rw[LEnv.bf]
  simp[Env.put,aD,hs]
 refine⟨aD ρ n (some g),aD h n f.fk.slot,T,⟨hs.trans hsz,fun i k hi h1 h2=>?_,⟨hle2,fun k x hk=>?_⟩,hr2,hws,fO.sM sc rfl rfl hdef,htsz,by omega,t1,fun l i hl=>?_,fun s'=>?_,fun k b hb hk hun hst=>?_⟩,fun s' hs'=>?_⟩
 ·by_cases him:i=f.m
  ·subst him;exact hanc k h2
  ·rw[hls,if_neg him]at h1
   have:=hdc i k hi h1 h2
   rw[hls];split;rfl;exact this
 ·obtain⟨q1,q2⟩:=wle k x hk
  obtain⟨z1,⟨f',z2,z3,z4⟩,z5⟩:=lw k x q1
  refine⟨z1,⟨f',z2,z3,z4⟩,fun n' hm hρ=>?_⟩
  have hm':(aD h n f.fk.slot n').mine:=hm
  have hρ':aD ρ n (some g) n'=some x:=hρ
  by_cases hk:n'=n
  ·subst hk
   rw[ar]at hρ'
   cases hρ'
   exact q2 (winj _ _ _ q1 hwt)
  ·rw[an _ _ hk]at hm' hρ'
   exact z5 n' hm' hρ'
 ·by_cases him:i=f.m
  ·subst him
   have:=S.nd l f.p f.m hl F.fm
   rw[hls,if_pos rfl]
   simp[this]
  ·have:=hprog l i hl
   rw[hls,if_neg him,this]
   have:l≠f.p:=by rintro rfl;rw[F.fm]at hl;cases hl;exact him rfl
   omega
 ·by_cases hex:∃b,b∈iX items masks tl (f.p+1)/\b.dst=some s'
  ·obtain⟨b,hb,hbd⟩:=hex
   obtain⟨k,h1,h2,h3⟩:=dC hb
   left
   refine⟨k,b,h1,h2,?_,hbd⟩
   have hkl:k<ops.size:=by rw[<- S.len];exact(ah.1 h1).1
   have hmk:=(S.stg k f.p f.m hkl h2 F.fm).2 (by omega)
   have hkm:k≠f.m:=by rintro rfl;exact h2 mtl
   rw[hls,if_neg hkm]
   cases hlk:cA l1 k with
   | false=>rfl
   | true =>
    have:=hdc k f.m hkl hlk hmk
    rw[hl1]at this
    cases this
  ·rw[t2 s' (fun b hb hbd=>hex ⟨b,hb,hbd⟩)]
   by_cases hs:s'=f.s
   ·subst hs
    right
    rw[LEnv.bf,ht]
    have:Env.put e.get (some f.s) (f.fk.dv n) f.s=f.fk.dv n:=by simp[Env.put,aD]
    rw[this]
    exact f.fk.hrel _ n g (by simp[aD]) (by simp[aD]) l3
   ·rw[hput s' hs]
    rcases hrel s' with⟨k,b,h1,h2,h3,h4⟩|h
    ·left
     refine⟨k,b,h1,h2,?_,h4⟩
     rw[hls,if_neg (by rintro rfl;exact h2 mtl)]
     exact h3
    ·exact Or.inr (aB.sM sc h)
 ·have hkm:k≠f.m:=by rintro rfl;exact hk mtl
  rw[hls,if_neg hkm]at hun
  rcases Nat.lt_or_ge (xZ masks tl k) (f.p+1) with hlt'|hge
  case inr =>
   have:xZ masks tl k=f.p+1:=by omega
   have hmm:=xY (masks:=masks) hb hk
   rw[this]at hmm
   exact t3 b hmm
  have hkl:k<ops.size:=by rw[<- S.len];exact(ah.1 hb).1
  have v0:=hval k b hb hk hun (by omega)
  have hnanc:(masks.getD f.m 0).testBit k≠true:=by
   intro hmk
   have:=hanc k hmk
   rw[hls,if_neg hkm,hun]at this
   cases this
  have hni:¬(masks.getD k 0).testBit f.m=true:=by
   intro hmk
   have:=(S.stg k f.p f.m hkl hk F.fm).1 hmk
   omega
  have vput:cr P b (e.put (some f.s) (f.fk.dv n)) (aD h n f.fk.slot):=by
   by_cases hf:b.op.gM=true
   ·refine cr.congr (e:=e) (fun r hr'=>?_) (fun s' hs=>?_) (cr.free hf v0)
    ·rw[hput r]
     rintro rfl
     rcases S.rdt f.m k _ b F.it hb mtl hk f.s rfl hr' with hmm|hmm
     ·exact hni hmm
     ·exact hnanc hmm
    ·exact hput s' (by rintro rfl;exact F.us k b hb hkm hs)
   ·have hmm:b∈wP items masks tl (f.p+1) f.m:=by
     simp only[wP,sRevI,List.mem_filterMap,List.mem_filter,List.mem_range,Bool.and_eq_true,decide_eq_true_eq,Bool.not_eq_true']
     exact⟨k,⟨by rw[S.len];exact hkl,⟨⟨by simpa using hk,hlt'⟩,by simpa using hnanc⟩,by rw[hb];simpa using hf⟩,hb⟩
    have hopb:∀b',b'∈wP items masks tl (f.p+1) f.m->b'.guard=none/\b'.op.isVal=true:=by
     intro b' hb'
     refine⟨(S.rev f.p f.m F.fm b' hb').1,?_⟩
     simp only[wP,sRevI,List.mem_filterMap,List.mem_filter,List.mem_range,Bool.and_eq_true,decide_eq_true_eq,Bool.not_eq_true']at hb'
     obtain⟨k2,⟨q1,⟨⟨q2,q3⟩,q4⟩,q5⟩,q6⟩:=hb'
     have q7:k2<ops.size:=by rw[<- S.len];exact q1
     have:=(S.itv k2 ops[k2] b' (by simp[q7]) q6 (by simpa using q2)).op
     rw[if_neg (by simp)]at this
     exact gq this
    exact uk hopb hk1 b hmm (S.rev f.p f.m F.fm b hmm).2
  refine cr.congr (fun r hr'=>(t2 r fun x hx hxd=>?_).symm) (fun s' hs=>t2 s' fun x hx hxd=>?_) vput
  ·obtain⟨m',m1,m2,m3⟩:=dC hx
   have:=((S.rdv m' k x b m1 hb m2 r hxd).2 hr').2.2 hk
   omega
  ·obtain⟨m',m1,m2,m3⟩:=dC hx
   have hmk:k≠m':=by rintro rfl;omega
   exact(S.rdv k m' b x hb m1 hk s' hs).1 hmk hxd
 ·rw[t2 s' fun b hb hbd=>?_]
  ·refine hput s' ?_
   rintro rfl
   exact(hs' f.m _ F.it rfl).1 rfl
  ·obtain⟨k,h1,h2,h3⟩:=dC hb
   exact(hs' k b h1 hbd).2 ⟨h2,by omega⟩
inductive JG (P:Program) (nt:Nat) (ops:Array Oper) (items:List AOper) (masks tl:List Nat) (fs:List (Fl P)) (c₀:Ctx) (w₀:World) (K:LEnv->Heap->Prop) (d:Nat) (listed:Array Bool) (a:Act) (w:World):Prop
 | mk (wt:Nat->Option Nat) (ρ:Nat->Option Nat) (h:Heap) (e:LEnv) (j:Nat)
   (hw:∀k g,wt k=some g->∃f,f∈fs/\f.m=k/\j<f.p+d/\cA listed k=true/\(∀x,(masks.getD k 0).testBit x=true->cA listed x=true)/\a.tmps.getD f.s Go.undef=f.fk.val g)
   (wi:∀k k' g,wt k=some g->wt k'=some g->k=k')
   (he:∀f∈fs,j<=f.p->e.get f.s=.undef/\∀q∈f.fk.cs,e.get q.1=.int q.2.1 q.2.2)
   (hJ:Jr P nt ops items masks tl (c₀.X.Gz wt) (LW fs c₀ wt) w₀ K (DJ listed wt) a w ρ h e j)
variable {fs:List (Fl P)}
theorem JG.size {c₀:Ctx}{w₀:World}{K:LEnv->Heap->Prop}{d:Nat}{listed:Array Bool}{a:Act}{w:World}(hJ:JG P nt ops items masks tl fs c₀ w₀ K d listed a w):listed.size=ops.size:=by
 cases hJ with
 | mk wt ρ h e j hw wi he hJ=>rw[<- hJ.size,fT]
theorem JG.dc (S:y3 P nt ops items masks tl fs){c₀:Ctx}{w₀:World}{K:LEnv->Heap->Prop}{d:Nat}{listed:Array Bool}{a:Act}{w:World}(hJ:JG P nt ops items masks tl fs c₀ w₀ K d listed a w) :
  ∀i k,i<ops.size->cA listed i=true->(masks.getD i 0).testBit k=true->cA listed k=true:=by
 have hsz:=hJ.size
 cases hJ with
 | mk wt ρ h e j hw wi he hJ =>
  intro i k hi h1 h2
  cases hwi:wt i with
  | some g =>
   obtain⟨f,f1,f2,f3,f4,f5,f6⟩:=hw i g hwi
   exact f5 k h2
  | none =>
   have hk:=Na S.totM i hi k h2
   exact Sn (by omega) (hJ.dc i k hi (by rw[cL hwi];exact h1) h2)
theorem Pf (S:y3 P nt ops items masks tl fs){c₀:Ctx}(hX0:∀g,c₀.X g->g<c₀.hp.size){w₀:World}{K:LEnv->Heap->Prop}{listed:Array Bool}{a:Act}{w:World}:∀(N:Nat) (wt:Nat->Option Nat) (ρ:Nat->Option Nat) (h:Heap) (e:LEnv) (j:Nat),tl.length-j<=N ->
  (∀k g,wt k=some g->∃f,f∈fs/\f.m=k/\j<f.p+1/\cA listed k=true/\(∀x,(masks.getD k 0).testBit x=true->cA listed x=true)/\a.tmps.getD f.s Go.undef=f.fk.val g)->(∀k k' g,wt k=some g->wt k'=some g->k=k') ->
  (∀f∈fs,j<=f.p->e.get f.s=.undef/\∀q∈f.fk.cs,e.get q.1=.int q.2.1 q.2.2)->Jr P nt ops items masks tl (c₀.X.Gz wt) (LW fs c₀ wt) w₀ K (DJ listed wt) a w ρ h e j->JG P nt ops items masks tl fs c₀ w₀ K 0 listed a w:=by
 intro N
 induction N with
 | zero =>
  intro wt ρ h e j hN hw wi he hJ
  refine .mk wt ρ h e j (fun k g hk=>?_) wi he hJ
  obtain⟨f,f1,f2,f3,f4⟩:=hw k g hk
  have:=(ah.1 (S.fl f f1).fm).1
  omega
 | succ N ih =>
  intro wt ρ h e j hN hw wi he hJ
  by_cases hx:∃f g,f∈fs/\wt f.m=some g/\f.p=j
  ·obtain⟨f,g,hf,hwt,hp⟩:=hx
   subst hp
   have F:=S.fl f hf
   obtain⟨f',f1,f2,f3,f4,f5,f6⟩:=hw f.m g hwt
   cases S.MC f1 hf f2
   have hsz:listed.size=ops.size:=by rw[<- hJ.size,fT]
   have hmop:f.m<ops.size:=S.tlt f.m (ak F.fm)
   have hlt:f.p<tl.length:=(ah.1 F.fm).1
   have wle:∀k x,aD wt f.m none k=some x->wt k=some x/\k≠f.m:=by
    intro k x hk
    by_cases hkm:k=f.m
    ·subst hkm;rw[ar]at hk;cases hk
    ·rw[an _ _ hkm]at hk;exact⟨hk,hkm⟩
   have hls:∀k,cA (DJ listed (aD wt f.m none)) k=if k=f.m then true else cA (DJ listed wt) k:=by
    intro k
    by_cases hk:k=f.m
    ·subst hk
     rw[if_pos rfl,cL (by rw[ar]),f4]
    ·rw[if_neg hk]
     cases hwk:wt k with
     | none=>rw[cL hwk,cL (by rw[an _ _ hk];exact hwk)]
     | some x =>
      obtain⟨f'',g1,g2,_⟩:=hw k x hwk
      have:k<listed.size:=by rw[hsz, <- g2];exact S.tlt _ (ak (S.fl f'' g1).fm)
      rw[jF hwk this,jF (by rw[an _ _ hk];exact hwk) this]
   have hanc:∀k,(masks.getD f.m 0).testBit k=true->cA (DJ listed (aD wt f.m none)) k=true:=by
    intro k hk
    cases hwk:aD wt f.m none k with
    | none=>rw[cL hwk];exact f5 k hk
    | some x =>
     obtain⟨q1,q2⟩:=wle k x hwk
     obtain⟨f'',g1,g2,_⟩:=hw k x q1
     have:=S.ind f f'' hf g1 (by rintro hpp;exact q2 (by rw[S.same f f'' hf g1 hpp,g2]))
     rw[g2,hk]at this
     cases this
   obtain⟨ρ',h',e',hJ',hes⟩:=RG S hX0 hf hwt wi (by rw[fT,fT]) hls hanc (jF hwt (by omega)) hJ f6 (he f hf (Nat.le_refl _)).2
   refine ih _ ρ' h' e' (f.p+1) (by omega) (fun k x hk=>?_) (fun k k' x h1 h2=>wi k k' x (wle k x h1).1 (wle k' x h2).1) (fun f2 hf2 hp2=>?_) hJ'
   ·obtain⟨q1,q2⟩:=wle k x hk
    obtain⟨f'',g1,g2,g3,g4⟩:=hw k x q1
    refine⟨f'',g1,g2,?_,g4⟩
    have:f''.p≠f.p:=by rintro hpp;exact q2 (by rw[<- g2,S.same f'' f g1 hf hpp])
    omega
   ·obtain⟨u1,u2⟩:=he f2 hf2 (by omega)
    have F2:=S.fl f2 hf2
    have hne:f2.m≠f.m:=by
     intro hmm
     have:=S.MC hf2 hf hmm
     subst this
     omega
    refine⟨?_,fun q hq=>?_⟩
    ·rw[hes f2.s fun k b hb hbd=>?_]
     ·exact u1
     ·have hk:k=f2.m:=Classical.byContradiction fun hk=>F2.us k b hb hk hbd
      exact⟨by rw[hk];exact hne,fun hh=>hh.1 (by rw[hk];exact ak F2.fm)⟩
    ·rw[hes q.1 fun k b hb hbd=>?_]
     ·exact u2 q hq
     ·obtain⟨z1,z2,z3⟩:=F2.cok q hq k b hb hbd
      exact⟨by rintro rfl;exact z1 (ak F.fm),fun hh=>hh.2 z2⟩
  ·refine .mk wt ρ h e j (fun k g hk=>?_) wi he hJ
   obtain⟨f,f1,f2,f3,f4⟩:=hw k g hk
   have:f.p≠j:=by
    rintro hp
    exact hx ⟨f,g,f1,by rw[f2];exact hk,hp⟩
   exact⟨f,f1,f2,by omega,f4⟩
theorem PI (S:y3 P nt ops items masks tl fs){c₀:Ctx}{w₀:World}{K:LEnv->Heap->Prop}{listed:Array Bool}{a:Act}{w:World}{Q:Exit->Act->World->Prop}{rd:Option Nat}{wt:Nat->Option Nat}{ρ:Nat->Option Nat}{h:Heap}{e:LEnv}{j:Nat}{f:Fl P}(hf:f∈fs)
  (hw:∀k g,wt k=some g->∃f,f∈fs/\f.m=k/\j<f.p+0/\cA listed k=true/\(∀x,(masks.getD k 0).testBit x=true->cA listed x=true)/\a.tmps.getD f.s Go.undef=f.fk.val g)
  (wi:∀k k' g,wt k=some g->wt k'=some g->k=k')
  (he:∀f∈fs,j<=f.p->e.get f.s=.undef/\∀q∈f.fk.cs,e.get q.1=.int q.2.1 q.2.2)
  (hJ:Jr P nt ops items masks tl (c₀.X.Gz wt) (LW fs c₀ wt) w₀ K (DJ listed wt) a w ρ h e j) (R:SN ops masks listed f.m) (hj:j<f.p) (hwf:wt f.m=none) :
  wpOpIn (rF rd) 0 P ops Q f.m (JG P nt ops items masks tl fs c₀ w₀ K 0 (listed.setIfInBounds f.m true)) a w:=by
 have F:=S.fl f hf
 have hsl:listed.size=ops.size:=by rw[<- hJ.size,fT]
 have hil:f.m<listed.size:=by rw[hsl];exact R.lt
 obtain⟨o,ho,hmk,hdst,hg⟩:=F.mko
 have hes:=he f hf (Nat.le_of_lt hj)
 have hrun:=hmk.2 a w (fun q hq=>by
  rcases hJ.rel q.1 with⟨kk,b,hb,hkt,hun,hbd⟩|h0
  ·have h1:=R.anc kk (F.cok q hq kk b hb hbd).2.2
   have:wt kk=none:=by
    cases hwk:wt kk with
    | none=>rfl
    | some x =>
     obtain⟨f2,g1,g2,_⟩:=hw kk x hwk
     exact absurd (ak (S.fl f2 g1).fm) (by rw[g2];exact hkt)
   rw[cL this,h1]at hun;cases hun
  ·rw[hes.2 q hq]at h0
   exact eY h0)
 unfold wpOpIn
 simp only[ho]
 rw[if_pos (by simp[Region.wanted,hg])]
 refine iC hmk.1 hrun ?_
 rw[Oper.uponIn_value,hdst]
 obtain⟨hsz,hdc,⟨hle,lw⟩,hr,hws,hdef,htsz,hjl,htail,hprog,hrel,hval⟩:=hJ
 let g:=w.heap.size
 let wt':=aD wt f.m (some g)
 have wle:∀k x,wt' k=some x->(k=f.m/\x=g)\/wt k=some x:=by
  intro k x hk
  by_cases hkm:k=f.m
  ·subst hkm
   have:aD wt f.m (some g) f.m=some x:=hk
   rw[ar]at this
   exact Or.inl ⟨rfl,by cases this;rfl⟩
  ·have:aD wt f.m (some g) k=some x:=hk
   rw[an _ _ hkm]at this;exact Or.inr this
 have wlt:∀k x,wt k=some x->x<g:=by
  intro k x hk
  obtain⟨_,⟨f2,_,_,h3⟩,_⟩:=lw k x hk
  exact(Array.getElem?_eq_some_iff.1 h3).1
 have wup:∀k x,wt k=some x->wt' k=some x:=by
  intro k x hk
  have:k≠f.m:=by rintro rfl;rw[hwf]at hk;cases hk
  show aD wt f.m (some g) k=some x
  rw[an _ _ this];exact hk
 have hpush:(w.alloc f.fk.obj).heap=w.heap.push f.fk.obj:=rfl
 let C:Ctx:=⟨ρ,c₀.X.Gz wt,h,w.heap⟩
 let Cp:Ctx:=⟨ρ,c₀.X.Gz wt',h,w.heap⟩
 let C1:Ctx:=⟨ρ,c₀.X.Gz wt',h,w.heap.push f.fk.obj⟩
 have sc:LS C Cp:=by
  refine⟨rfl,fun _ _=>rfl,fun _ _=>rfl,fun b hb ho=>?_⟩
  rcases ho with hx|hx
  ·rcases hx with hx|⟨k,hk⟩
   ·exact Or.inl (Or.inl hx)
   ·rcases wle k b hk with⟨_,q⟩|q
    ·exact absurd q (Nat.ne_of_lt hb)
    ·exact Or.inl (Or.inr ⟨k,q⟩)
  ·exact Or.inr hx
 obtain⟨gle,_⟩:=grow_step hr f.fk.obj
 have le1:Cp.le C1:=gle.SS (c₀.X.Gz wt') (c₀.X.Gz wt') rfl
 have mlt:∀k b,(h k).mine->ρ k=some b->b<g:=fun k b hm hb=>kO hr hm hb
 have hr1:av C1:=by
  refine⟨fun k=>?_,hr.inj,fun k b hm hb hX=>?_,fun b hX=>?_,hr.fin,(hr.glob.sM sc).mono le1,by have:=hr.lo;simp only at this;show c₀.X.lo<=(w.heap.push _).size;simp;exact Nat.le_succ_of_le this⟩
  ·exact iW le1 (cM.sM sc (fun _=>rfl) (hr.slot k)) (fun _ _=>rfl) (fun b hm hb=>by
    have:=mlt k b hm hb
    show(w.heap.push _)[b]?=w.heap[b]?
    rw[Array.getElem?_push,if_neg (by omega)])
  ·have:=mlt k b hm hb
   rcases hX with hx|⟨k',hk'⟩
   ·exact hr.apart k b hm hb (Or.inl hx)
   ·rcases wle k' b hk' with⟨_,q⟩|q
    ·omega
    ·exact hr.apart k b hm hb (Or.inr ⟨k',q⟩)
  ·show b<(w.heap.push _).size
   simp only[Array.size_push]
   rcases hX with hx|⟨k',hk'⟩
   ·have:=hr.xlt b (Or.inl hx)
    simp only at this
    omega
   ·rcases wle k' b hk' with⟨_,q⟩|q
    ·have:b=w.heap.size:=q
     omega
    ·have:=wlt k' b q
     have:b<w.heap.size:=this
     omega
 have hls:∀k,cA (DJ (listed.setIfInBounds f.m true) wt') k=cA (DJ listed wt) k:=by
  intro k
  by_cases hk:k=f.m
  ·subst hk
   rw[jF (g:=g) (by show aD wt f.m (some g) f.m=_;rw[ar]) (by simpa using hil),cL hwf,R.un]
  ·cases hwk:wt k with
   | none=>rw[cL hwk,cL (by show aD wt f.m (some g) k=_;rw[an _ _ hk];exact hwk),dk hil,if_neg hk]
   | some x =>
    obtain⟨f2,g1,g2,_⟩:=hw k x hwk
    have:k<listed.size:=by rw[hsl, <- g2];exact S.tlt _ (ak (S.fl f2 g1).fm)
    rw[jF hwk this,jF (wup k x hwk) (by simpa using this)]
 have hput:∀s',s'≠f.s->(a.put (some f.s) (f.fk.val w.heap.size)).tmps.getD s' Go.undef=a.tmps.getD s' Go.undef:=by
  intro s' hs
  have hs':f.s≠s':=fun e=>hs e.symm
  simp[Act.put,hs']
 refine .mk wt' ρ h e j (fun k x hk=>?_) (fun k k' x h1 h2=>?_) he (Jr.congr (l1:=DJ listed wt) (by rw[fT,fT];simp) hls ?_)
 ·rcases wle k x hk with⟨q1,q2⟩|q
  ·subst q1 q2
   exact⟨f,hf,rfl,by omega,by rw[dk hil,if_pos rfl],fun x hx=>by rw[dk hil];split;rfl;exact R.anc x hx,by simp[Act.put,htsz,F.sn,g]⟩
  ·obtain⟨f2,g1,g2,g3,g4,g5,g6⟩:=hw k x q
   refine⟨f2,g1,g2,g3,by rw[dk hil];split;rfl;exact g4,fun x hx=>by rw[dk hil];split;rfl;exact g5 x hx,?_⟩
   rw[hput]
   ·exact g6
   ·intro hss
    refine F.us f2.m _ (S.fl f2 g1).it ?_ (by rw[hss])
    rintro hmm
    rw[<- g2,hmm,hwf]at q
    cases q
 ·rcases wle k x h1 with⟨q1,q2⟩|q
  ·rcases wle k' x h2 with⟨q3,q4⟩|q'
   ·rw[q1,q3]
   ·have:=wlt k' x q';omega
  ·rcases wle k' x h2 with⟨q3,q4⟩|q'
   ·have:=wlt k x q;omega
   ·exact wi k k' x q q'
 refine⟨hsz,hdc,⟨hle.trans (gle.SS c₀.X c₀.X rfl),fun k x hk=>?_⟩,hr1,⟨hws.os,hws.tape,hws.output⟩,(fO.sM sc rfl rfl hdef).mono le1,by simpa[Act.put] using htsz,hjl,htail,hprog,fun s'=>?_,hval⟩
 ·rcases wle k x hk with⟨q1,q2⟩|q
  ·subst q1 q2
   exact⟨by have:=hle.size;simpa using this,⟨f,hf,rfl,hQ _ _⟩,fun k hm hb=>by have:=mlt k _ hm hb;omega⟩
  ·obtain⟨z1,⟨f2,z2,z3,z4⟩,z5⟩:=lw k x q
   refine⟨z1,⟨f2,z2,z3,?_⟩,z5⟩
   have:=wlt k x q
   show(w.heap.push _)[x]?=_
   rw[Array.getElem?_push,if_neg (by omega)]
   exact z4
 ·by_cases hs:s'=f.s
  ·subst hs;rw[hes.1];exact Or.inr (.undef _)
  ·rcases hrel s' with h0|h0
   ·exact Or.inl h0
   ·right
    rw[hput s' hs]
    exact(aB.sM sc h0).mono le1
theorem Qm (S:y3 P nt ops items masks tl fs){c₀:Ctx}(hX0:∀g,c₀.X g->g<c₀.hp.size){w₀:World}{K:LEnv->Heap->Prop}{listed:Array Bool}{a:Act}{w:World}{Q:Exit->Act->World->Prop}{rd:Option Nat}
  (hJ:JG P nt ops items masks tl fs c₀ w₀ K 0 listed a w) {i:Nat}(hi:i∈Region.ready .any ops listed):wpOpIn (rF rd) 0 P ops Q i (JG P nt ops items masks tl fs c₀ w₀ K 0 (listed.setIfInBounds i true)) a w:=by
 have R:=JM S.totM hJ.size (hJ.dc S) hi
 have hsl:=hJ.size
 have hil:i<listed.size:=by rw[hsl];exact R.lt
 cases hJ with
 | mk wt ρ h e j hw wi he hJ =>
  have hwi:wt i=none:=by
   cases hwk:wt i with
   | none=>rfl
   | some x =>
    obtain⟨f2,_,_,_,g4,_⟩:=hw i x hwk
    rw[R.un]at g4;cases g4
  have wlt:∀k x,wt k=some x->k<listed.size:=by
   intro k x hk
   obtain⟨f2,g1,g2,_⟩:=hw k x hk
   rw[hsl, <- g2];exact S.tlt _ (ak (S.fl f2 g1).fm)
  by_cases hx:∃f,f∈fs/\f.m=i/\j<f.p
  ·obtain⟨f,hf,rfl,hj⟩:=hx
   exact PI S hf hw wi he hJ R hj hwi
  ·
   have tj:∀l,j<l->l<tl.length->∃i',tl[j]?=some i'/\¬cA (DJ listed wt) i'=true:=by
    intro l hl hlt
    have hjl:j<tl.length:=by omega
    refine⟨tl[j],by simp[hjl],fun hc=>?_⟩
    have:=(hJ.prog j tl[j] (by simp[hjl])).1 hc
    omega
   have wj:∀i',tl[j]?=some i'->wt i'=none:=by
    intro i' hi'
    cases hwk:wt i' with
    | none=>rfl
    | some x =>
     obtain⟨f2,g1,g2,g3,_⟩:=hw i' x hwk
     have:=S.nd j f2.p i' hi' (by rw[<- g2];exact(S.fl f2 g1).fm)
     omega
   have lstI:∀l,tl[l]?=some i->j<=l:=by
    intro l hl
    rcases Nat.lt_or_ge l j with hlt|hge
    ·have:=(hJ.prog l i hl).2 hlt
     rw[cL hwi,R.un]at this
     cases this
    ·exact hge
   have nfl:∀l,tl[l]?=some i->j<l->∀f∈fs,l≠f.p:=by
    intro l hl hjl f hf hlp
    subst hlp
    have:f.m=i:=by have:=(S.fl f hf).fm;rw[this]at hl;cases hl;rfl
    exact hx ⟨f,hf,this,hjl⟩
   have hlj:∀l,tl[l]?=some i->l=j:=by
    intro l hl
    have h1:=lstI l hl
    rcases Nat.lt_or_ge j l with hgt|hge
    ·exfalso
     obtain⟨i',hi',hn⟩:=tj l hgt (ah.1 hl).1
     have:=R.anc _ (S.tord j l i' i hi' hl hgt (nfl l hl hgt))
     rw[cL (wj i' hi')]at hn
     exact hn this
    ·omega
   have nom:∀k x,wt k=some x->(masks.getD i 0).testBit k≠true:=by
    intro k x hk hq
    obtain⟨f2,g1,g2,g3,g4,g5,g6⟩:=hw k x hk
    have F2:=S.fl f2 g1
    subst g2
    by_cases hit:i∈tl
    ·obtain⟨l,hl⟩:=aO hit
     have:=hlj l hl
     rw[F2.ntm l i hl (by omega)]at hq;cases hq
    ·have h1:=(S.stg i f2.p f2.m R.lt hit F2.fm).1 hq
     have hp:=(ah.1 F2.fm).1
     obtain⟨i',hi',hn⟩:=tj f2.p (by omega) hp
     have:=R.anc _ ((S.stg i j i' R.lt hit hi').2 (by omega))
     rw[cL (wj i' hi')]at hn
     exact hn this
   have RV:SN ops masks (DJ listed wt) i:=by
    refine⟨R.lt,by rw[cL hwi];exact R.un,fun k hk=>?_⟩
    cases hwk:wt k with
    | none=>rw[cL hwk];exact R.anc k hk
    | some x=>exact absurd hk (nom k x hwk)
   have hitl:i<items.length:=by rw[S.len];exact R.lt
   have hdst:∀f∈fs,f.m≠i->∀o,ops[i]?=some o->o.dst≠some f.s:=by
    intro f hf hne o ho hq
    obtain⟨b,hb⟩:∃b,items[i]?=some b:=⟨items[i]'hitl,by simp[hitl]⟩
    refine(S.fl f hf).us i b hb (fun e=>hne e.symm) ?_
    by_cases hit:i∈tl
    ·obtain⟨fz,hc⟩:=S.itt i o ho hit
     rw[hb]at hc
     unfold cOper at hc
     split at hc
     case isFalse=>cases hc
     cases hop:cOp P fz o with
     | none=>simp[hop]at hc
     | some op =>
      simp only[hop]at hc
      split at hc
      ·cases hc;exact hq
      ·split at hc
       ·cases hc;exact hq
       ·cases hc
    ·have:=(S.itv i o b ho hb hit).dst
     rw[this];exact hq
   refine wpOpIn_mono (fun a' w' hh=>?_) (wpOp_put (Ie S.totM (fun ρ h w ρ' h' w' l k=>LW.mono l k) hJ RV hlj))
   obtain⟨⟨ρ',h',e',j',hJ',hj',_,hes⟩,hput⟩:=hh
   have hls:∀k,cA (DJ (listed.setIfInBounds i true) wt) k=cA ((DJ listed wt).setIfInBounds i true) k:=by
    intro k
    rw[dk (by rw[fT];exact hil)]
    by_cases hk:k=i
    ·subst hk
     rw[if_pos rfl,cL hwi,dk hil,if_pos rfl]
    ·rw[if_neg hk]
     cases hwk:wt k with
     | none=>rw[cL hwk,cL hwk,dk hil,if_neg hk]
     | some x=>rw[jF hwk (wlt k x hwk),jF hwk (by simpa using wlt k x hwk)]
   have hJ2:=Jr.congr (l2:=DJ (listed.setIfInBounds i true) wt) (by rw[fT];simp[fT]) hls hJ'
   refine Pf S hX0 _ wt ρ' h' e' j' (Nat.le_refl _) (fun k x hk=>?_) wi (fun f hf hp=>?_) hJ2
   ·obtain⟨f2,g1,g2,g3,g4,g5,g6⟩:=hw k x hk
    refine⟨f2,g1,g2,by omega,by rw[dk hil];split;rfl;exact g4,fun x hx=>by rw[dk hil];split;rfl;exact g5 x hx,?_⟩
    rw[hput f2.s (hdst f2 g1 (by rintro rfl;rw[<- g2,hwi]at hk;cases hk))]
    exact g6
   ·have F:=S.fl f hf
    have hne:f.m≠i:=by
     rintro rfl
     have:=(hJ'.prog f.p f.m F.fm).1 (by rw[dk (by rw[fT];exact hil),if_pos rfl])
     omega
    obtain⟨u1,u2⟩:=he f hf (by omega)
    refine⟨?_,fun q hq=>?_⟩
    ·rw[hes f.s fun k b hb hk=>F.us k b hb ?_]
     ·exact u1
     ·rintro rfl
      rcases hk with hk|hk
      ·exact hk.1 (ak F.fm)
      ·exact hne hk.1
    ·rw[hes q.1 fun k b hb hk hbd=>?_]
     ·exact u2 q hq
     ·obtain⟨z1,z2,z3⟩:=F.cok q hq k b hb hbd
      rcases hk with hk|hk
      ·exact hk.2 z2
      ·rw[hk.1]at z1;exact z1 hk.2
theorem MP {id:Nat}(S:y3 P nt ops items masks tl fs) (hm:P.follows .mixedOrders=true){Q:LPost}{e:LEnv}{h:Heap}(hes:∀f∈fs,e.get f.s=.undef){T:LEnv}(t1:sRest P items masks tl tl 0 (Q .normal) T h) (t2:∀s,(∀a,a∈iX items masks tl 0->a.dst≠some s)->T.get s=e.get s) (t3:∀a,a∈iX items masks tl 0->cr P a T h)
  (hpre:∀f∈fs,∀q∈f.fk.cs,T.get q.1=.int q.2.1 q.2.2):o9 P nt (.region id ops true) (fun x=>up (Q x)) e.get h:=by
 intro rd c w a hh hp hr hs _
 subst hh
 refine wpIn_region_any hm ?_
 have hfalse:∀i,i<ops.size->cA (Array.replicate ops.size false) i=false:=by intro i hi;unfold cA;simp[Array.getD,hi]
 have hlt:∀i b,items[i]?=some b->i<ops.size:=fun i b hb=>by rw[<- S.len];exact(ah.1 hb).1
 have hce:(⟨c.ρ,c.X,c.h,w.heap⟩:Ctx)=c:=by rw[<- hp]
 have hcl:∀k,cA (DJ (Array.replicate ops.size false) fun _=>none) k=cA (Array.replicate ops.size false) k:=fun k=>cL rfl
 refine QQ S.totM (JJ:=JG P nt ops items masks tl fs c w (Q .normal) 0) (fun _ _ _ hJ=>hJ.size) (fun _ _ _ hJ=>hJ.dc S) (fun listed a' w' i hJ hi=>Qm S hr.xlt hJ hi) (fun listed a' w' hJ hall=>?_) ops.size _ a _ (Nat.le_trans (List.length_filter_le _ _) (by simp)) ?_
 ·cases hJ with
  | mk wt ρ h e' j hw wi he hJ =>
   have hjl:j=tl.length:=by
    have hle:=hJ.jle
    rcases Nat.lt_or_ge j tl.length with hlt|hge
    ·exfalso
     have htj:tl[j]?=some tl[j]:=by simp[hlt]
     cases hwk:wt tl[j] with
     | none =>
      have:=(hJ.prog j tl[j] htj).1 (by rw[cL hwk];exact hall _ (S.tlt _ (List.getElem_mem hlt)))
      omega
     | some x =>
      obtain⟨f,g1,g2,g3,_⟩:=hw _ x hwk
      have:=S.nd j f.p tl[j] htj (by rw[<- g2];exact(S.fl f g1).fm)
      omega
    ·omega
   have hwn:∀k,wt k=none:=by
    intro k
    cases hwk:wt k with
    | none=>rfl
    | some x =>
     obtain⟨f,g1,g2,g3,_⟩:=hw k x hwk
     have:=(ah.1 (S.fl f g1).fm).1
     omega
   obtain⟨_,_,⟨hle,_⟩,hrr,hws,hdef,hsz,hj,htail,hprog,hrel,hval⟩:=hJ
   rw[XT.GD hwn]at hrr hdef hrel
   subst hjl
   rw[List.drop_length]at htail
   refine⟨ρ,e'.get,h,hle,hrr,hws,⟨hrr.glob,hrr.lo,hdef,hsz,fun s=>?_⟩,e',rfl,htail⟩
   rcases hrel s with⟨i,b,hb,_,hun,_⟩|h
   ·rw[cL (hwn i),hall i (hlt i b hb)]at hun
    cases hun
   ·exact h
 ·have hw:({ w with drawn:=w.drawn+1 }:World).heap=w.heap:=rfl
  have hX:c.X.Gz (fun _=>none)=c.X:=XT.GD fun _=>rfl
  refine .mk (fun _=>none) c.ρ c.h T 0 (fun k g hk=>by cases hk) (fun k k' g hk=>by cases hk) (fun f hf _=>?_) ?_
  ·have F:=S.fl f hf
   refine⟨?_,hpre f hf⟩
   rw[t2 f.s fun b hb=>?_]
   ·exact hes f hf
   ·obtain⟨k,h1,h2,h3⟩:=dC hb
    exact F.us k b h1 (by rintro rfl;exact h2 (ak F.fm))
  refine⟨by rw[fT];simp,fun i k hi hl=>(by rw[hcl,hfalse i hi]at hl;cases hl),⟨?_,fun k g hk=>by cases hk⟩,?_,⟨rfl,rfl,rfl⟩,(by rw[hX,hw,hce];exact hs.defers),hs.size,Nat.zero_le _,by simpa using t1,fun l i hl=>?_,fun s=>?_,fun i b hb hn _ hst=>?_⟩
  ·rw[hw,hce];exact Ctx.le.refl c
  ·rw[hX,hw,hce];exact hr
  ·rw[hcl,hfalse i (S.tlt i (ak hl))];simp
  ·by_cases hex:∃b,b∈iX items masks tl 0/\b.dst=some s
   ·obtain⟨b,hb,hbd⟩:=hex
    obtain⟨k,h1,h2,h3⟩:=dC hb
    exact Or.inl ⟨k,b,h1,h2,by rw[hcl];exact hfalse k (hlt k b h1),hbd⟩
   ·right
    rw[t2 s (fun b hb hbd=>hex ⟨b,hb,hbd⟩),hX,hw,hce]
    exact hs.rel s
  ·have:=xY (masks:=masks) hb hn
   rw[show xZ masks tl i=0 by omega]at this
   exact t3 b this
def QG (P:Program) (fz:Bool) (esz:Nat) (zd:D) (elem:TypeId) (hpos:0<esz):wA P where
 op:=.bldS fz esz 0 zd []
 obj:=.cells #[] elem
 slot:=.arr esz []
 val g:=.slice (some ⟨g,0,none⟩) 0 0
 dv n:=.ms n 0 0
 cs:=[]
 hop:=by
  intro K e h _ hv n t
  simp only[vcOp]at hv
  have:=hv.2.2 n t
  simpa[Heap.freezeAll,setEls] using this
 hslot:=by
  intro c n g hρ hg
  exact⟨hpos,fun e he=>(by cases he),fun i j d hd=>(by simp[aM]at hd),Or.inr ⟨g,_,elem,hρ,hg,by simp,fun i j d hd=>(by simp[aM]at hd)⟩⟩
 hrel:=by
  intro c n g hh hρ hg
  have:=aB.ms (c:=c) n 0 0 g esz 0 [] #[] elem (0,0) (by rw[hh];rfl) hρ (by simp) hg (by simp) (by omega) (by unfold maxLen;omega)
  rwa [Nat.zero_mul]at this
theorem KU {fz:Bool}{esz:Nat}{zd:D}{elem t:TypeId}{hpos:0<esz}{o:Oper}{ps:Array (Nat×Operand)}(ho:o.op=.buildSlice t 0 ps) (hps:ps = #[]) (hu:P.underlying t=some (.slice elem)) (ht:(P.info? elem).map (·.size)=some esz) :
  Fy P (QG P fz esz zd elem hpos) o:=by
 subst hps
 refine⟨fun c hc=>(by rw[ho]at hc;cases hc),fun a w _=>?_⟩
 show(execOp a.eval o).run P w=.ok (.value (.slice (some ⟨w.heap.size,0,none⟩) 0 0)) (w.alloc (.cells #[] elem))
 simp[execOp,ho,Instr.buildSlice,run_underlying hu,run_sizeOf ht,Array.range_zero',Instr.fill,cf]
def MX:AOp->List Nat
 | .mk _ _ _ x y=>argRegs x++argRegs y
 | _=>[]
def sMkN (op:AOp) (o:Oper):Bool :=
 match op,o.op with
 | .Ix _,.makeMap _ none=>true
 | .alloc _,.alloc _=>true
 | .mk ..,.makeSlice ..=>true
 | .bldS _ _ 0 _ [],.buildSlice _ 0 ps=>ps.size == 0
 | _,_=>false
def flN (ops:Array Oper) (nt:Nat) (items:List AOper) (masks tl ps:List Nat) (p:Nat):Option (Nat×AOp) :=
 match tl[p]? with
 | some m=>match items[m]?,ops[m]? with
  | some ⟨some s,op,none⟩,some o=>match o.dst,o.guard with
   | some s',none=>if s'=s/\s<nt/\sMkN op o=true/\(items.zipIdx.all fun q=>decide (q.2=m)||q.1.dst != some s)=true/\((List.range p).all fun l=> !(masks.getD (tl.getD l 0) 0).testBit m)=true /\
     ((MX op).all fun r=>items.zipIdx.all fun q=>q.1.dst != some r||(!tl.contains q.2&&xZ masks tl q.2 == 0&&(masks.getD m 0).testBit q.2))=true /\
     (ps.all fun p'=>p' == p || !(masks.getD m 0).testBit (tl.getD p' 0))=true then some (s,op) else none
   | _,_=>none
  | _,_=>none
 | none=>none
def JT (op:AOp) (e:LEnv):Prop:=match op with
 | .mk _ bytes _ x y=>∃kl L kc C,x.get e=.int kl L/\y.get e=.int kc C/\0<=L/\L<=C/\C*bytes<=140737488355328/\C<=9223372036854775807
 | _=>True
def ckN:List (Nat×AOp)->ACode->ACode
 | [],c=>c
 | (_,.mk _ bytes _ x y)::r,c=>.seq (.dreg [] [⟨none,.mkc bytes x y,none⟩] []) (ckN r c)
 | _::r,c=>ckN r c
theorem IU:∀(l:List (Nat×AOp)){c:ACode}{Q:LPost}{e:LEnv}{h:Heap},vcC P (ckN l c) Q e h->(∀q∈l,JT q.2 e)/\vcC P c Q e h
 | [],c,Q,e,h,hv=>⟨fun q hq=>(by cases hq),hv⟩
 | (s,op)::r,c,Q,e,h,hv=>by
  cases op with
  | mk esz bytes zd x y =>
   have hv:vcOp P (.mkc bytes x y) (fun _ h2=>vcC P (ckN r c) Q e h2) e h:=by
    have:=hv
    simp only[ckN,vcC,LPost.then,vcVals,qb,vcTail,ve,fW]at this
    exact this
   simp only[vcOp]at hv
   unfold vint at hv
   split at hv
   case h_2=>exact hv.elim
   rename_i kl L hL
   split at hv
   case h_2=>exact hv.elim
   rename_i kc C hC
   obtain⟨i1,i2⟩:=IU r hv.2.2.2.2
   refine⟨fun q hq=>?_,i2⟩
   rcases List.mem_cons.1 hq with rfl|hq
   ·exact⟨kl,L,kc,C,hL,hC,hv.1,hv.2.1,hv.2.2.1,hv.2.2.2.1⟩
   ·exact i1 q hq
  | _ =>
   obtain⟨i1,i2⟩:=IU r hv
   refine⟨fun q hq=>?_,i2⟩
   rcases List.mem_cons.1 hq with rfl|hq
   ·trivial
   ·exact i1 q hq
def KQ:List Nat->LEnv->LEnv
 | [],e=>e
 | s::r,e=>KQ r (e.put (some s) .undef)
theorem JO:∀(l:List Nat) (e:LEnv),(∀i,(KQ l e).get i=.undef\/(KQ l e).get i=e.get i)/\∀s,s∈l\/e.get s=.undef->(KQ l e).get s=.undef
 | [],e=>⟨fun i=>Or.inr rfl,fun s hs=>hs.elim (fun h=>by cases h) id⟩
 | s::r,e=>by
  obtain⟨i1,i2⟩:=JO r (e.put (some s) .undef)
  have hg:∀i,(e.put (some s) .undef).get i=if i=s then .undef else e.get i:=by
   intro i
   rw[LEnv.bf]
   simp only[Env.put,aD]
  refine⟨fun i=>?_,fun x hx=>i2 x ?_⟩
  ·rcases i1 i with h|h
   ·exact Or.inl h
   ·rw[hg]at h
    by_cases hi:i=s
    ·rw[if_pos hi]at h;exact Or.inl h
    ·rw[if_neg hi]at h;exact Or.inr h
  ·rcases hx with hx|hx
   ·rcases List.mem_cons.1 hx with rfl|hx
    ·exact Or.inr (by rw[hg,if_pos rfl])
    ·exact Or.inl hx
   ·exact Or.inr (by rw[hg];split;rfl;exact hx)
theorem EW:∀(l:List Nat){K:LEnv->Heap->Prop}{e:LEnv}{h:Heap},vcVals P (l.map fun s=>⟨some s,.mov (.c .undef),none⟩) K e h->K (KQ l e) h
 | [],_,_,_,hv=>hv
 | s::r,K,e,h,hv=>EW r (by simp only[List.map_cons,vcVals,qb]at hv;exact hv)
theorem TR {ps:List Nat}{p s:Nat}{op:AOp}{T:LEnv}(S0:tM P nt ops items masks tl) (h:flN ops nt items masks tl ps p=some (s,op)) (hf:JT op T) :
  ∃f:Fl P,f.p=p/\f.s=s/\SQ P nt ops items masks tl f/\(∀q∈f.fk.cs,T.get q.1=.int q.2.1 q.2.2)/\∀p',p'∈ps->p'≠p->(masks.getD f.m 0).testBit (tl.getD p' 0)=false:=by
 unfold flN at h
 split at h<;>try (cases h;done)
 rename_i m hm
 split at h<;>try (cases h;done)
 rename_i s0 op0 o hit hop
 split at h<;>try (cases h;done)
 rename_i s' h2 h3
 split at h<;>try (cases h;done)
 rename_i hcc
 obtain⟨rfl,c1,cm,c5,c6,c7,c8⟩:=hcc
 cases h
 obtain⟨fz,hitem⟩:=S0.itt m o hop (ak hm)
 rw[hit]at hitem
 have hcop:cOp P fz o=some op:=by
  unfold cOper at hitem
  split at hitem
  case isFalse=>cases hitem
  cases hcp:cOp P fz o with
  | none=>simp[hcp]at hitem
  | some op' =>
   simp only[hcp,h3,Option.some.injEq,AOper.mk.injEq]at hitem
   rw[hitem.2.1]
 obtain⟨fk,rfl,hcs,hpre,hmk⟩:∃fk:wA P,op=fk.op/\(∀q∈fk.cs,q.1∈MX op)/\(∀q∈fk.cs,T.get q.1=.int q.2.1 q.2.2)/\Fy P fk o:=by
  unfold sMkN at cm
  split at cm<;>try (cases cm;done)
  ·rename_i kt t h1
   exact⟨Nt P kt,rfl,fun q hq=>(by cases hq),fun q hq=>(by cases hq),KT h1⟩
  ·rename_i zd t h1
   have hz:dP P t=some zd:=by
    unfold cOp at hcop
    cases hz:dP P t with
    | none=>simp[cOp0,h1,hz,cOpM,deadOp]at hcop
    | some z=>simp[cOp0,h1,hz]at hcop;rw[hcop]
   obtain⟨z,z1,z2⟩:=Fm (P:=P) hz
   refine⟨QH P zd z.cells t z2,rfl,fun q hq=>(by cases hq),fun q hq=>(by cases hq),fun c hc=>(by rw[h1]at hc;cases hc),fun a w _=>?_⟩
   simp[execOp,h1,Instr.alloc,bG z1,newVar,cf,QH]
  ·rename_i esz bytes zd x' y' t x y ho
   obtain⟨kl,L,kc,C,e1,e2,b0,b1,b2,b3⟩:=hf
   have:∃elem i,P.underlying t=some (.slice elem)/\P.info? elem=some i/\dP P elem=some zd/\cArg x=some x'/\cArg y=some y'/\zd.cells.length=i.size/\0<i.size/\i.size=esz/\i.bytes=bytes:=by
    have hop:=hcop
    unfold cOp cOp0 at hop
    simp only[ho]at hop
    split at hop
    ·rename_i op' h0
     cases hop
     split at h0
     ·rename_i elem hu
      split at h0
      ·rename_i i z x1 y1 q1 q2 q3 q4
       split at h0
       ·rename_i hcc
        cases h0
        exact⟨elem,i,hu,q1,q2,q3,q4,hcc.1,hcc.2,rfl,rfl⟩
       ·cases h0
      ·cases h0
     ·cases h0
    ·simp[cOpM,ho,deadOp]at hop
   obtain⟨elem,i,hu,hinf,hz,hcx,hcy,hsz,hpos,hie,hib⟩:=this
   obtain⟨z,z1,z2⟩:=Fm (P:=P) hz
   have hx:∀d,x'=.c d->d=.int kl L:=fun d hd=>by rw[hd]at e1;exact e1
   have hy:∀d,y'=.c d->d=.int kc C:=fun d hd=>by rw[hd]at e2;exact e2
   have hsz':zd.cells.length=esz:=by rw[hsz,hie]
   have hpos':0<esz:=by omega
   refine⟨TS P esz bytes zd x' y' elem z.cells kl kc L C hsz' hpos' z2 b0 b1 b3 hx hy,rfl,fun q hq=>?_,fun q hq=>?_,Nd ho hcx hcy hu hinf hie hib z1 b2⟩
   ·rcases List.mem_append.1 hq with h|h
    ·simp only[vv,List.mem_map]at h
     obtain⟨r,hr,rfl⟩:=h
     exact List.mem_append_left _ hr
    ·simp only[vv,List.mem_map]at h
     obtain⟨r,hr,rfl⟩:=h
     exact List.mem_append_right _ hr
   ·rcases List.mem_append.1 hq with h|h
    ·simp only[vv,List.mem_map]at h
     obtain⟨r,hr,rfl⟩:=h
     cases hx':x' with
     | t r' =>
      rw[hx']at hr e1
      simp only[argRegs,List.mem_singleton]at hr
      rw[hr];exact e1
     | c d=>rw[hx']at hr;simp[argRegs]at hr
    ·simp only[vv,List.mem_map]at h
     obtain⟨r,hr,rfl⟩:=h
     cases hy':y' with
     | t r' =>
      rw[hy']at hr e2
      simp only[argRegs,List.mem_singleton]at hr
      rw[hr];exact e2
     | c d=>rw[hy']at hr;simp[argRegs]at hr
  ·rename_i fz' esz zd t ps ho
   have hps:ps = #[]:=Array.eq_empty_of_size_eq_zero (by simpa using cm)
   subst hps
   have:∃elem,P.underlying t=some (.slice elem)/\(P.info? elem).map (·.size)=some esz/\0<esz:=by
    have hop:=hcop
    unfold cOp cOp0 at hop
    simp only[ho]at hop
    split at hop
    ·rename_i op' h0
     cases hop
     split at h0
     ·rename_i elem hu
      split at h0
      ·rename_i n z qs q1 q2 q3
       split at h0
       ·rename_i hcc
        cases h0
        exact⟨elem,hu,q1,hcc.1⟩
       ·cases h0
      ·cases h0
     ·cases h0
    ·simp[cOpM,ho,deadOp]at hop
   obtain⟨elem,hu,ht,hpos⟩:=this
   exact⟨QG P fz' esz zd elem hpos,rfl,fun q hq=>(by cases hq),fun q hq=>(by cases hq),KU ho rfl hu ht⟩
 refine⟨⟨p,m,s,fk⟩,rfl,rfl,⟨hm,hit,fun k b hb hk=>?_,c1,⟨o,hop,hmk,h2,h3⟩,fun l i hl hlt=>?_,fun q hq k b hb hbd=>?_⟩,hpre,fun p' hp' hne=>?_⟩
 ·have:=List.all_eq_true.1 c5 (b,k) (mem_zipIdx hb)
  simp only[Bool.or_eq_true,decide_eq_true_eq,bne_iff_ne,ne_eq]at this
  exact this.resolve_left hk
 ·have:=List.all_eq_true.1 c6 l (by simpa using hlt)
  simp only[Bool.not_eq_true']at this
  simpa[List.getD,hl] using this
 ·have:=List.all_eq_true.1 (List.all_eq_true.1 c7 q.1 (hcs q hq)) (b,k) (mem_zipIdx hb)
  simp only[hbd,bne_self_eq_false,Bool.false_or,Bool.and_eq_true,Bool.not_eq_true',beq_iff_eq]at this
  exact⟨by simpa using this.1.1,this.1.2,this.2⟩
 ·have:=List.all_eq_true.1 c8 p' hp'
  simp only[Bool.or_eq_true,beq_iff_eq,Bool.not_eq_true']at this
  exact this.resolve_left hne
def Tx (masks ps tl:List Nat):Bool :=
 (List.range tl.length).all fun k=>ps.contains k||(List.range k).all fun l=>(masks.getD (tl.getD k 0) 0).testBit (tl.getD l 0)
theorem Nr {G:Fl P->Prop}:∀(ps:List Nat),(∀p∈ps,∃f:Fl P,f.p=p/\G f)->∃fs:List (Fl P),fs.map (·.p)=ps/\∀f∈fs,G f
 | [],_=>⟨[],rfl,fun f hf=>(by cases hf)⟩
 | p::r,h=>by
  obtain⟨f,hp,hg⟩:=h p (by simp)
  obtain⟨fs,h1,h2⟩:=Nr r fun q hq=>h q (by simp[hq])
  refine⟨f::fs,by simp[hp,h1],fun x hx=>?_⟩
  rcases List.mem_cons.1 hx with rfl|hx
  ·exact hg
  ·exact h2 x hx
theorem Hm:∀{fs:List (Fl P)},(fs.map (·.p)).Nodup->∀f f',f∈fs->f'∈fs->f.p=f'.p->f=f'
 | [],_,f,_,hf,_,_=>by cases hf
 | x::r,hn,f,f',hf,hf',e=>by
  simp only[List.map_cons,List.nodup_cons,List.mem_map,not_exists,not_and]at hn
  rcases List.mem_cons.1 hf with rfl|hfr
  ·rcases List.mem_cons.1 hf' with rfl|hfr'
   ·rfl
   ·exact absurd e.symm (hn.1 f' hfr')
  ·rcases List.mem_cons.1 hf' with rfl|hfr'
   ·exact absurd e (hn.1 f hfr)
   ·exact Hm hn.2 f f' hfr hfr' e
theorem mapM_mem {α β:Type}{f:α->Option β}:∀{l:List α}{r:List β},l.mapM f=some r->∀x∈l,∃y,y∈r/\f x=some y
 | [],r,_,x,hx=>by cases hx
 | a::l,r,h,x,hx=>by
  rw[List.mapM_cons]at h
  simp only[Option.pure_def,Option.bind_eq_bind,Option.bind_eq_some_iff,Option.some.injEq]at h
  obtain⟨y,hy,z,hz,rfl⟩:=h
  rcases List.mem_cons.1 hx with rfl|hx
  ·exact⟨y,by simp,hy⟩
  ·obtain⟨y',h1,h2⟩:=mapM_mem hz x hx
   exact⟨y',by simp[h1],h2⟩
def cDrN (P:Program) (nt:Nat) (tbl:TTq) (id:Nat) (ops:Array Oper):Option ACode :=
 if P.follows .mixedOrders then
  match tbl id with
  | some (masks,tl,999996::ps)=>match sItems P nt ops tl true ops.toList 0 with
   | some items=>match ps.mapM (flN ops nt items masks tl ps) with
    | some l=>if MI ops items masks tl=true/\Tx masks ps tl=true/\tl.Nodup/\ps.Nodup then
      some (.seq (.dreg ((l.map (·.1)).map fun s=>⟨some s,.mov (.c .undef),none⟩) [] []) (.seq (.dreg (iX items masks tl 0) [] []) (ckN l (sCode1 items masks tl tl)))) else none
    | none=>none
   | none=>none
  | _=>none
 else none
theorem P1 (P:Program) (nt:Nat) (tbl:TTq):Eo P nt (cDrN P nt tbl):=by
 intro id ops ac h Q e hp hv
 unfold cDrN at h
 split at h
 case isFalse=>cases h
 rename_i hm
 split at h
 case h_2=>cases h
 rename_i masks tl ps _
 cases hi:sItems P nt ops tl true ops.toList 0 with
 | none=>simp[hi]at h
 | some items =>
  simp only[hi]at h
  split at h
  case h_2=>cases h
  rename_i l hl
  split at h
  case isFalse=>cases h
  rename_i hcc
  obtain⟨c1,c2,c3,c4⟩:=hcc
  simp only[Option.some.injEq]at h
  subst h
  have S0:=MH hi c1
  have hv1:vcVals P ((l.map (·.1)).map fun s=>⟨some s,.mov (.c .undef),none⟩) (fun e1 h1=>vcVals P (iX items masks tl 0) (fun e2 h2=>vcC P (ckN l (sCode1 items masks tl tl)) Q e2 h2) e1 h1) e hp:=by
   have:=hv
   simp only[vcC,LPost.then,vcTail,ve]at this
   exact this
  have hv2:=EW _ hv1
  obtain⟨u1,u2⟩:=JO (l.map (·.1)) e
  generalize KQ (l.map (·.1)) e=e1 at hv2 u1 u2
  obtain⟨T,t1,t2,t3⟩:=Co S0 hv2
  obtain⟨k1,k2⟩:=IU l t1
  have k3:=GU k2
  obtain⟨fs,f1,f2⟩:=Nr (P:=P) (G:=fun f=>SQ P nt ops items masks tl f/\(∀q∈f.fk.cs,T.get q.1=.int q.2.1 q.2.2)/\(∀p',p'∈ps->p'≠f.p->(masks.getD f.m 0).testBit (tl.getD p' 0)=false)/\f.s∈l.map (·.1)) ps (fun p hpm=>by
   obtain⟨⟨s,op⟩,y1,y2⟩:=mapM_mem hl p hpm
   obtain⟨f,rfl,rfl,g3,g4,g5⟩:=TR S0 y2 (k1 _ y1)
   exact⟨f,rfl,g3,g4,g5,List.mem_map.2 ⟨_,y1,rfl⟩⟩)
  have hps:∀f∈fs,f.p∈ps:=fun f hf=>by rw[<- f1];exact List.mem_map.2 ⟨f,hf,rfl⟩
  have S:y3 P nt ops items masks tl fs:=by
   refine⟨S0,fun l k i i' hl hk hlt hkp=>?_,fun l l' i hl hl'=>?_,fun f hf=>(f2 f hf).1,fun f f' hf hf' hne=>?_,Hm (by rw[f1];exact c4)⟩
   ·simp only[Tx,List.all_eq_true,List.mem_range,Bool.or_eq_true]at c2
    have hk1:=ah.1 hk
    have hkn:¬ps.contains k=true:=by
     intro hc
     have:k∈ps:=by simpa using hc
     rw[<- f1]at this
     obtain⟨f,hf,hfp⟩:=List.mem_map.1 this
     exact hkp f hf hfp.symm
    have:=(c2 k hk1.1).resolve_left hkn l hlt
    simpa[List.getD,hl,hk] using this
   ·have h1:=(ah.1 hl).1
    exact(List.getElem?_inj h1 c3).1 (hl.trans hl'.symm)
   ·have:=(f2 f hf).2.2.1 f'.p (hps f' hf') (fun e=>hne e.symm)
    simpa[List.getD,(f2 f' hf').1.fm] using this
  exact qK u1 (MP S hm (fun f hf=>u2 _ (Or.inl (f2 f hf).2.2.2)) k3 t2 t3 fun f hf=>(f2 f hf).2.1)
def cDr (P:Program) (nt:Nat) (tbl:TTq) (id:Nat) (ops:Array Oper):Option ACode :=
 match cDrS P nt tbl id ops with
 | some x=>some x
 | none=>match cDrN P nt tbl id ops with
 | some x=>some x
 | none=>match cDr0 P nt tbl id ops with
  | some x=>some x
  | none=>match Sy P nt tbl id ops with
   | some x=>some x
   | none=>some (.dreg [⟨none,.dead,none⟩] [] [])
theorem aJ (P:Program) (nt:Nat) (tbl:TTq):Eo P nt (cDr P nt tbl):=by
 intro id ops ac h Q e hp hv
 unfold cDr at h
 split at h
 ·rename_i x h0
  cases h
  exact P0 P nt tbl id ops _ h0 Q e hp hv
 split at h
 ·rename_i x h0
  cases h
  exact P1 P nt tbl id ops _ h0 Q e hp hv
 split at h
 ·rename_i x h0
  cases h
  exact P3 P nt tbl id ops _ h0 Q e hp hv
 split at h
 ·rename_i x h0
  cases h
  exact P2 P nt tbl id ops _ h0 Q e hp hv
 ·simp at h
  subst h
  exact hv.elim
end Go.Am
namespace Go.Am
open Go
variable [bW]
def vcond (x:D) (A B:Prop):Prop :=
 match x with
 | .bool t=>(t=true->A)/\(t=false->B)
 | _=>False
def EK (P:Program) (a:ACode) (nt:Nat) (c:Code):Prop:=∀(Q:LPost) (e:LEnv) (h:Heap),vcC P a Q e h->o9 P nt c (fun x=>up (Q x)) e.get h
def Ik (P:Program) (g:D) (ps:List Nat) (e:LEnv) (a b:ACode) (h:Heap) (E:Nat->Heap->Prop):Prop :=
 match g with
 | .fn f fs cs=>fs=[]/\fc P f=true/\∀(n:Nat) (B:cV),pc h n->B.env=LEnv.get e->B.ps=ps->ps.Nodup->(∀p∈ps,p<B.nt)->EK P a B.nt B.assign->EK P b B.nt B.body ->
   ai P f (.yld n::cs) (aD h n (.lp .ready B)) fun _ h'=>E n h'
 | _=>False
def Fz (P:Program) (n:Nat) (B:cV) (ps:List Nat) (ds:List D) (e:LEnv) (a b:ACode) (h:Heap) (K:HKq):Prop :=
 vcC P a (fun x e1 h1=>x=.normal/\h1 n=.lp .ready B/\vcC P b (fun x e2 h2=>h2 n=.lp .busy B/\roundEnd x n B K h2) e1 (aD h1 n (.lp .busy B))) (ps.zip ds++e) h
theorem qJ {P:Program}{n:Nat}{B:cV}{ds:List D}{h:Heap}{K:HKq}{a b:ACode}{ps:List Nat}(hn:h n=.lp .ready B) (hps:B.ps=ps) (hA:EK P a B.nt B.assign) (hB:EK P b B.nt B.body) (hnd:ps.Nodup)
  (hlt:∀p∈ps,p<B.nt) (hlen:ds.length=ps.length) {e:LEnv}(he:B.env=e.get) (hv:Fz P n B ps ds e a b h K):o7 P n ds h K :=
 Lz hn hA hB (hps ▸ hnd) (hps ▸ hlt) (hps ▸ hlen) he (by rw[hps];exact hv)
def ff (n:Nat) (h:Heap) (KN:Prop) (KE:Nat->Prop) (KR:Prop):Prop :=
 match h n with
 | .lp .ready _=>KN
 | .lp (.done (.exit id)) _=>KE id
 | .lp (.done .ret) _=>KR
 | _=>False
variable {P:Program}{h:Heap}{K:D->Prop}{KH:HKq}{k:IntKind}{a b:Int}
theorem Q9 {p:Prop}[Decidable p] {A B:Prop}:vcond (.bool (decide p)) A B=((p->A)/\(¬p->B)):=by
 simp[vcond]
theorem OF {p:Prop}[Decidable p] {A B:Prop}:vcond (.bool (!decide p)) A B=((¬p->A)/\(p->B)):=by
 simp[vcond]
theorem OG {t:Bool}{A B:Prop}:vcond (.bool t) A B=((t=true->A)/\(t=false->B)):=rfl
theorem jl {t w:Bool}{A:(HKq)->Prop}:vguard (.bool t) w A h KH=((t=w->A KH)/\(t≠w->KH gU h)):=by simp[vguard,gv]
theorem xN {ds:List D}{w:Bool}{A:(HKq)->Prop}:vguard (.tup ds) w A h KH=KH gU h:=by simp[vguard,gv]
theorem gk {t w:Bool}{A:(D->Prop)->Prop}:aF (.bool t) w A K=((t=w->A K)/\(t≠w->K gU)):=by simp[aF,gv]
theorem um {ds:List D}{w:Bool}{A:(D->Prop)->Prop}:aF (.tup ds) w A K=K gU:=by simp[aF,gv]
theorem eK:vbin .add (.int k a) (.int k b) K=K (.int k (k.wrap (a+b))):=by simp[vbin]
theorem lS:vbin .sub (.int k a) (.int k b) K=K (.int k (k.wrap (a-b))):=by simp[vbin]
theorem ES:vbin .mul (.int k a) (.int k b) K=K (.int k (k.wrap (a*b))):=by simp[vbin]
theorem GN:vbin .quo (.int k a) (.int k b) K=(b≠0/\K (.int k (k.wrap (a.tdiv b)))):=by simp[vbin]
theorem dt:vbin .rem (.int k a) (.int k b) K=(b≠0/\K (.int k (a.tmod b))):=by simp[vbin]
theorem Qu:vbin .and (.int k a) (.int k b) K=K (.int k (ibits .and k a b)):=by simp[vbin]
theorem UO:vbin .or (.int k a) (.int k b) K=K (.int k (ibits .or k a b)):=by simp[vbin]
theorem SZ:vbin .xor (.int k a) (.int k b) K=K (.int k (ibits .xor k a b)):=by simp[vbin]
theorem Mi:vbin .andNot (.int k a) (.int k b) K=K (.int k (ibits .andNot k a b)):=by simp[vbin]
theorem S3 {k':IntKind}:vbin .shl (.int k a) (.int k' b) K=(0<=b/\K (.int k (RO k a b))):=rfl
theorem Qs {k':IntKind}:vbin .shr (.int k a) (.int k' b) K=(0<=b/\K (.int k (G6 k a b))):=rfl
theorem bQ:vbin .eql (.int k a) (.int k b) K=K (.bool (decide (a=b))):=by simp[vbin]
theorem gK:vbin .neq (.int k a) (.int k b) K=K (.bool (!decide (a=b))):=by simp[vbin]
theorem xM:vbin .lss (.int k a) (.int k b) K=K (.bool (decide (a<b))):=by simp[vbin]
theorem Mh:vbin .leq (.int k a) (.int k b) K=K (.bool (decide (a<=b))):=by simp[vbin]
theorem xO:vbin .gtr (.int k a) (.int k b) K=K (.bool (decide (b<a))):=by simp[vbin]
theorem CN:vbin .geq (.int k a) (.int k b) K=K (.bool (decide (b<=a))):=by simp[vbin]
theorem toList_inj {a b:ByteArray}:(a.toList == b.toList)=decide (a=b):=by
 by_cases h:a=b
 ·subst h;simp
 ·have:¬a.toList=b.toList:=fun e=>h (by
   have:=congrArg List.toArray e
   simp[ByteArray.toList_eq]at this
   cases a;cases b;simp_all)
  simp[h,this]
theorem Q8 {s t:ByteArray}:vbin .eql (.str s) (.str t) K=K (.bool (decide (s=t))):=by simp[vbin,toList_inj]
theorem Q7 {s t:ByteArray}:vbin .neq (.str s) (.str t) K=K (.bool (!decide (s=t))):=by simp[vbin,toList_inj]
theorem Qt:vun .neg (.int k a) K=K (.int k (k.wrap (0-a))):=rfl
theorem du {t:Bool}:vun .not (.bool t) K=K (.bool !t):=rfl
theorem S4:vun .xor (.int k a) K=K (.int k (ibits .xor k (if k.signed then -1 else k.max) a)):=rfl
theorem sE:aR .nil h K=K (.int .i64 0):=rfl
theorem bX {xs:List D}:aR (.sl xs) h K=K (.int .i64 xs.length):=rfl
theorem bu {n o l:Nat}:aR (.ms n o l) h K=((h n).live=true/\K (.int .i64 l)):=rfl
theorem oW {k':IntKind}:aa P (.conv k (.c (.int k' a))) h KH=KH (.int k (k.wrap a)) h:=rfl
theorem cq {t:Bool}{x y:D}:aa P (.pick (.c (.bool t)) (.c x) (.c y)) h KH=KH (if t then x else y) h:=rfl
theorem h_ext {ds:List D}{i:Nat}:aa P (.ext (.c (.tup ds)) i) h KH=(match ds[i]? with|some d=>KH d h|none=>False):=rfl
theorem TK {cs:List D}{o s:Nat}{g:Bool}:aa P (.fld (.c (.agg cs)) o s g) h KH=vpart cs o s g (KH · h):=rfl
theorem RT {s:ByteArray}:aa P (.slen (.c (.str s))) h KH=KH (.int .i64 s.size) h:=rfl
theorem FY {d:D}{j o:Nat}:aa P (.fadd (.c (.vp d j)) o) h KH=KH (.vp d (j+o)) h:=rfl
theorem Aj {xs:List D}{s:Nat}:aa P (.iadd (.c (.sl xs)) (.c (.int k a)) s) h KH=(0<=a/\a<xs.length/\∀d,xs[a.toNat]?=some d->d.cells.length=s/\KH (.vp d 0) h):=rfl
theorem mP {n o l s:Nat}:aa P (.iadd (.c (.ms n o l)) (.c (.int k a)) s) h KH=(0<=a/\a<l/\(∃els,(h n).row=some (s,els))/\KH (.ptr n (o+a.toNat) 0) h):=rfl
theorem vn {d:D}{j s:Nat}{g:Bool}:aa P (.ld (.c (.vp d j)) s g) h KH=vpart d.cells j s g (KH · h):=rfl
theorem fZ {cs:List D}{o s:Nat}:vpart cs o s false K=(match cs[o]? with|some d=>K d|none=>False):=rfl
theorem kI {cs:List D}{o s:Nat}:vpart cs o s true K=(o+s<=cs.length/\K (.agg ((cs.drop o).take s))):=rfl
theorem wrap64 {n:Int}(h1 : -9223372036854775808<=n) (h2:n<=9223372036854775807):IntKind.i64.wrap n=n:=by
 simp only[IntKind.wrap,IntKind.signed,IntKind.bits]
 first|omega|(simp;omega)
end Go.Am
namespace Go.Am
open Go
variable [bW]
abbrev LH:=List Slot
class LB where
 bs:Nat->cV
def Slot.wb (s:Slot) (B:cV):Slot:=match s with
 | .lp st _=>.lp st B
 | s=>s
def LH.h (l:LH):Heap:=fun n=>l.getD n .free
def LH.w [LB] (l:LH):Heap:=fun n=>(l.getD n .free).wb (LB.bs n)
def LH.nf (l:LH):Prop:=∀s∈l,s≠.free
def fb {α:Type}(b:Bool) (k:Bool->α):α:=match b with
 | true=>k true
 | false=>k false
def fl {α β:Type}:List α->(List α->β)->β
 | [],k=>k []
 | a::r,k=>fl r fun r'=>k (a::r')
def S8 (a b:ByteArray):Bool:=a.data.toList == b.data.toList
mutual
def D.same:D->D->Bool
 | .undef,.undef=>true
 | .nil,.nil=>true
 | .nilfn,.nilfn=>true
 | .nilmap,.nilmap=>true
 | .nilp,.nilp=>true
 | .int q n,.int q' n'=>decide (q=q')&&decide (n=n')
 | .bool b,.bool b'=>b == b'
 | .str s,.str s'=>S8 s s'
 | .sl xs,.sl ys=>D.sameL xs ys
 | .ms n o m,.ms n' o' m'=>n == n'&&o == o'&&m == m'
 | .ptr n o m,.ptr n' o' m'=>n == n'&&o == o'&&m == m'
 | .vp e j,.vp e' j'=>D.same e e'&&j == j'
 | .agg xs,.agg ys=>D.sameL xs ys
 | .tup xs,.tup ys=>D.sameL xs ys
 | .fn f a b,.fn f' a' b'=>f == f'&&D.sameL a a'&&D.sameL b b'
 | .yld n,.yld n'=>n == n'
 | .mp n,.mp n'=>n == n'
 | _,_=>false
def D.sameL:List D->List D->Bool
 | [],[]=>true
 | d::r,e::s=>D.same d e&&D.sameL r s
 | _,_=>false
end
def Gs (d:D):Bool:=d.cells.all D.one
theorem DQ {d:D}(h:Gs d=true):aN d:=fun x hx=>List.all_eq_true.1 h x hx
def LH.frz (l:LH) (n:Nat):LH:=match l.h n with
 | .arr e x=>l.set n (.frz e x)
 | _=>l
end Go.Am
namespace Go.Am
open Go
variable [bW]
abbrev SM:=Nat->List D->LH->Option (D×LH)
structure Ep where
 call:FuncId->List D->LH->Option (D×LH)
 vcall:FuncId->List D->Option D
 own:FuncId->Bool
 yld:SM
 k:Nat
 callR:Nat->SM->FuncId->List D->LH->Option (D×LH)
def yx (n:Nat) (l:List (Nat×Nat×D)):Bool:=l.all fun p=>p.2.2.cells.length == p.2.1&&decide (p.1+p.2.1<=n)&&Gs p.2.2
theorem xj {n:Nat}{l:List (Nat×Nat×D)}(h:yx n l=true):jD n l:=by
 intro p hp
 have:=List.all_eq_true.1 h p hp
 simp only[Bool.and_eq_true,beq_iff_eq,decide_eq_true_eq]at this
 exact⟨this.1.1,this.1.2,DQ this.2⟩
def SB (len esz:Nat) (l:List (Nat×D)):Bool:=l.all fun p=>decide (p.1<len)&&p.2.cells.length == esz&&Gs p.2
theorem Av {len esz:Nat}{l:List (Nat×D)}(h:SB len esz l=true):HQ len esz l:=by
 intro p hp
 have:=List.all_eq_true.1 h p hp
 simp only[Bool.and_eq_true,beq_iff_eq,decide_eq_true_eq]at this
 exact⟨this.1.1,this.1.2,DQ this.2⟩
structure Qo [LB] (P:Program) (C:Ep):Prop where
 call:∀f ds l d l',C.call f ds l=some (d,l')->l.nf->l'.nf/\∀K:HKq,K d l'.w->ai P f ds l.w K
 yld:∀n ds l d l',C.yld n ds l=some (d,l')->l.nf->l'.nf/\∀K:HKq,K d l'.w->o7 P n ds l.w K
 vcall:∀f ds r,C.vcall f ds=some r->aY P f ds (· = r)
variable {P:Program}{C:Ep}[LB]
end Go.Am
namespace Go.Am
open Go
variable [bW]
variable {P:Program}{C:Ep}[LB]
end Go.Am
namespace Go.Am
open Go
variable [bW]
variable {P:Program}{C:Ep}[LB]
abbrev LH.wb (b:Nat->cV) (l:LH):Heap:=letI:LB:=⟨b⟩;l.w
def VI (k:Nat) (b b':Nat->cV):Prop:=∀m,m<k->b m=b' m
def Wp (P:Program) (Y:SM) (k:Nat) (b0:Nat->cV):Prop:=∀b,VI k b b0->∀n ds l d l',Y n ds l=some (d,l')->l.nf->l'.nf/\∀K:HKq,K d (LH.wb (b) l')->o7 P n ds (LH.wb (b) l) K
structure Wc (P:Program) (C:Ep) (b0:Nat->cV):Prop where
 ok:∀b,VI C.k b b0->(letI:LB:=⟨b⟩;Qo P C)
 callR:∀b,VI C.k b b0->∀k Y,C.k<=k->Wp P Y k b->∀f ds l d l',C.callR k Y f ds l=some (d,l')->l.nf->l'.nf/\∀K:HKq,K d (LH.wb (b) l')->ai P f ds (LH.wb (b) l) K
end Go.Am
namespace Go.Am
open Go
variable [bW]
variable {P:Program}{l:LH}{KH:HKq}{K:D->Prop}
theorem LH.TI {l:LH}{n:Nat}(hn:n<l.length):l.h n=l[n]:=by simp[LH.h,hn]
theorem LH.TJ {l:LH}{n:Nat}(hn:l.length<=n):l.h n=.free:=by simp[LH.h,hn]
theorem LH.top {l:LH}(h:l.nf){n:Nat}(t:pc l.h n):n=l.length:=by
 rcases Nat.lt_trichotomy n l.length with h1|h1|h1
 ·have:=t.free
  rw[LH.TI h1]at this
  exact absurd this (h _ (List.getElem_mem h1))
 ·exact h1
 ·exfalso
  obtain⟨k,rfl⟩:∃k,n=k+1:=⟨n-1,by omega⟩
  exact t.2 k rfl (LH.TJ (by omega))
theorem LH.RU (l:LH) (s:Slot):LH.h (l++[s])=aD l.h l.length s:=by
 funext n
 unfold LH.h aD
 by_cases h:n=l.length
 ·subst h;simp
 ·rw[if_neg h]
  rcases Nat.lt_or_ge n l.length with h1|h1
  ·simp[List.getD,List.getElem?_append_left h1]
  ·have:(l++[s]).length<=n:=by simp;omega
   simp[List.getD,List.getElem?_eq_none this,List.getElem?_eq_none h1]
theorem LH.TF {l:LH}{n:Nat}(s:Slot) (hn:n<l.length):LH.h (l.set n s)=aD l.h n s:=by
 funext m
 unfold LH.h aD
 by_cases h:m=n
 ·subst h;simp[List.getD,hn]
 ·have:n≠m:=fun e=>h e.symm
  simp[List.getD,this,h]
theorem E0:iG=LH.h []:=by funext n;simp[iG,LH.h]
theorem OL (hn:l.nf):pc l.h l.length:=by
 refine⟨fun m hm=>LH.TJ hm,fun k hk=>?_⟩
 have:k<l.length:=by omega
 rw[LH.TI this]
 exact hn _ (List.getElem_mem this)
theorem Qb (hn:l.nf){Q:Nat->Prop}:(∀n,pc l.h n->Q n)=Q l.length:=by
 apply propext
 constructor
 ·exact fun h=>h _ (OL hn)
 ·intro h n t
  rw[LH.top hn t];exact h
theorem RF:LH.nf []:=fun _ h=>by cases h
theorem Pe {s:Slot}{l:LH}:LH.nf (s::l)=(s≠.free/\LH.nf l):=by
 apply propext
 constructor
 ·exact fun h=>⟨h s (by simp),fun x hx=>h x (by simp[hx])⟩
 ·rintro⟨h1,h2⟩ x hx
  rcases List.mem_cons.1 hx with rfl|hx
  ·exact h1
  ·exact h2 x hx
theorem JX {d:D}(hn:l.nf):aa P (.alloc d) l.h KH=KH (.ptr l.length 0 0) (LH.h (l++[.box d])):=by
 simp only[aa,vcOp]
 rw[Qb hn,LH.RU]
theorem h_ldp {n i j s:Nat}{g:Bool}:aa P (.ld (.c (.ptr n i j)) s g) l.h KH=(match l.h n with
   | .box v=>i=0/\vpart v.cells j s g (KH · l.h)
   | .arr _ els=>i<els.length/\∀d,els[i]?=some d->vpart d.cells j s g (KH · l.h)
   | .frz _ els=>i<els.length/\∀d,els[i]?=some d->vpart d.cells j s g (KH · l.h)
   | _=>False):=rfl
theorem QC {n i j s:Nat}{v:D}:aa P (.st (.c (.ptr n i j)) (.c v) s) l.h KH=(v.cells.length=s/\aN v/\match l.h n with
   | .box d=>i=0/\j+s<=d.cells.length/\KH .undef (aD l.h n (.box (setCells d j v.cells)))
   | .arr esz els=>i<els.length/\j+s<=esz/\∀d,els[i]?=some d->KH .undef (aD l.h n (.arr esz (els.set i (setCells d j v.cells))))
   | _=>False):=rfl
theorem RJ {n:Nat}:LH.h [] n=.free:=by simp[LH.h]
theorem FP {s:Slot}{l:LH}:LH.h (s::l) 0=s:=rfl
theorem FQ {s:Slot}{l:LH}{n:Nat}:LH.h (s::l) (n+1)=LH.h l n:=rfl
theorem Mj {n:Nat}{s:Slot}(hn:n<l.length):aD l.h n s=LH.h (l.set n s):=(LH.TF s hn).symm
theorem He {f:FuncId}{a b:List Arg}{h:Heap}:aa P (.mkf f a b) h KH=KH (.fn f (a.map (·.get [])) (b.map (·.get []))) h:=rfl
theorem Pp {f:FuncId}{a b:List D}{as:List Arg}{h:Heap}:aa P (.callv (.c (.fn f a b)) as) h KH=(fc P f=true/\ai P f (a++as.map (·.get [])++b) h KH):=rfl
theorem nT {z:List D}{ps:List (Nat×Nat×Arg)}{h:Heap}:aa P (.bld z ps) h KH=(jD z.length (ps.map fun p=>(p.1,p.2.1,p.2.2.get []))/\KH (.agg (fillD z (ps.map fun p=>(p.1,p.2.1,(p.2.2.get []).cells)))) h):=rfl
theorem QF {neg agg:Bool}{ks:List CK}{x y:D}{h:Heap}:aa P (.eqv neg agg ks (.c x) (.c y)) h KH=(x.isAgg=agg/\y.isAgg=agg/\veqv neg ks x y (KH · h)):=rfl
theorem Dz {d:D}{h:Heap}:aa P (.box (.c d)) h KH=(aN d/\∀n,pc h n->KH (.ptr n 0 0) (aD h n (.box d))):=rfl
theorem gf {d:D}{h:Heap}:aa P (.alloc d) h KH=∀n,pc h n->KH (.ptr n 0 0) (aD h n (.box d)):=rfl
theorem TO {esz bytes:Nat}{z:D}{k k':IntKind}{a b:Int}{h:Heap}:aa P (.mk esz bytes z (.c (.int k a)) (.c (.int k' b))) h KH =
  (0<=a/\a<=b/\b*bytes<=140737488355328/\b<=9223372036854775807/\∀n,pc h n->KH (.ms n 0 a.toNat) (aD h n (.arr esz (List.replicate a.toNat z)))):=rfl
theorem ku {n i j o:Nat}{h:Heap}:aa P (.fadd (.c (.ptr n i j)) o) h KH=((h n).used=true/\KH (.ptr n i (j+o)) h):=rfl
theorem xh {n i j s:Nat}{g:Bool}{h:Heap}:aa P (.ld (.c (.ptr n i j)) s g) h KH=(match h n with
   | .box v=>i=0/\vpart v.cells j s g (KH · h)
   | .arr _ els=>i<els.length/\∀d,els[i]?=some d->vpart d.cells j s g (KH · h)
   | .frz _ els=>i<els.length/\∀d,els[i]?=some d->vpart d.cells j s g (KH · h)
   | _=>False):=rfl
theorem mQ {n i j s:Nat}{v:D}{h:Heap}:aa P (.st (.c (.ptr n i j)) (.c v) s) h KH=(v.cells.length=s/\aN v/\match h n with
   | .box d=>i=0/\j+s<=d.cells.length/\KH .undef (aD h n (.box (setCells d j v.cells)))
   | .arr esz els=>i<els.length/\j+s<=esz/\∀d,els[i]?=some d->KH .undef (aD h n (.arr esz (els.set i (setCells d j v.cells))))
   | _=>False):=rfl
theorem pc.ne {h:Heap}{n m:Nat}(t:pc h n) (hm:h m≠.free):m≠n:=by rintro rfl;exact hm t.free
theorem Ext.refl {h:Heap}:Ext h h:=fun _ _=>rfl
theorem Ext.trans {a b c:Heap}(h:Ext a b) (k:Ext b c):Ext a c:=fun n hn=>by rw[k n (by rw[h n hn];exact hn),h n hn]
theorem Ext.new {h:Heap}{n:Nat}(t:pc h n) (s:Slot):Ext h (aD h n s):=nW t.free s
theorem bO {f:FuncId}{ds:List D}{h:Heap}{KH:HKq}{R:D->Prop}(hv:aY P f ds R) (hds:∀d∈ds,d.vd=true/\aN d) (hk:∀r,R r->KH r h):ai P f ds h KH:=by
 have zW:∀(x:D),x.vone=true->x.fzc h=x/\x.jV=[]/\oE h x:=by
  intro x hx
  cases x<;>simp_all [D.vone,D.fzc,D.jV,oE]
 have hfz:∀d∈ds,d.fz h=d/\d.nm=[]/\mB h d:=by
  intro d hd
  obtain⟨h1,h2⟩:=hds d hd
  rcases CH h1 with hv|⟨cs,rfl,hcs⟩
  ·have:=zW d hv
   cases d<;>simp_all [D.fz,D.nm,D.vone,mB,D.cells]
  ·refine⟨?_,?_,fun x hx=>(zW x (hcs x hx)).2.2⟩
   ·simp only[D.fz]
    congr 1
    rw[List.map_congr_left (fun x hx=>(zW x (hcs x hx)).1)]
    simp
   ·simp only[D.nm]
    rw[List.flatMap_eq_nil_iff]
    exact fun x hx=>(zW x (hcs x hx)).2.1
 have e1:ds.map (D.fz h)=ds:=by
  rw[List.map_congr_left (fun d hd=>(hfz d hd).1)]
  simp
 have e2:ds.flatMap D.nm=[]:=by
  rw[List.flatMap_eq_nil_iff]
  exact fun d hd=>(hfz d hd).2.1
 refine ai.mono ?_ (gw (K:=R) (by rw[e1];exact hv) (fun d hd=>⟨(hds d hd).2,(hfz d hd).2.2,by rw[(hfz d hd).1];exact(hds d hd).1⟩))
 rintro r h' ⟨k1,k2,_⟩
 rw[k2 (Or.inr e2)]
 exact hk r k1
theorem AX {d:D}(h:d.one=true):aN d=True:=by
 apply propext;refine⟨fun _=>trivial,fun _ x hx=>?_⟩
 cases d<;>simp_all [D.cells,D.one]
theorem MQ {cs:List D}:aN (.agg cs)=∀x∈cs,x.one=true:=rfl
theorem ag {A B:Prop}:vcond (.bool true) A B=A:=by simp[vcond]
theorem af {A B:Prop}:vcond (.bool false) A B=B:=by simp[vcond]
theorem C6 {d:D}{h:Heap}{K:D->Prop}(hd:d.vd=true) (ho:aN d) (hk:K d):kS d/\v8 h d/\(d.fzt h).Il=true/\K (d.fzt h):=by
 have zW:∀(x:D),x.vone=true->x.fzc h=x/\oE h x:=by
  intro x hx
  cases x<;>simp_all [D.vone,D.fzc,oE]
 have e:d.fzt h=d/\v8 h d/\kS d/\d.Il=true:=by
  rcases CH hd with hv|⟨cs,rfl,hcs⟩
  ·have:=zW d hv
   have hc:d.cells=[d]:=by cases d<;>simp_all [D.vone,D.cells]
   refine⟨?_,?_,?_,?_⟩
   ·cases d<;>simp_all [D.fzt,D.fz,D.vone]
   ·cases d<;>simp_all [v8,mB,D.vone]
   ·cases d<;>simp_all [kS,D.vone]
   ·cases d<;>simp_all [D.Il,D.vone]
  ·refine⟨?_,fun x hx=>(zW x (hcs x hx)).2,ho,hd⟩
   simp only[D.fzt,D.fz]
   congr 1
   rw[List.map_congr_left (fun x hx=>(zW x (hcs x hx)).1)]
   simp
 exact⟨e.2.2.1,e.2.1,by rw[e.1];exact e.2.2.2,by rw[e.1];exact hk⟩
def sy (K:D->Prop) (r:D) (h:Heap):Prop:=kS r/\v8 h r/\(r.fzt h).Il=true/\K (r.fzt h)
theorem cH {k:IntKind}{n:Int}{h:Heap}{K:D->Prop}:sy K (.int k n) h=K (.int k n):=by
 apply propext;exact⟨fun h=>h.2.2.2,fun hk=>C6 rfl (fun x hx=>by simp[D.cells]at hx;subst hx;rfl) hk⟩
theorem bw {b:Bool}{h:Heap}{K:D->Prop}:sy K (.bool b) h=K (.bool b):=by
 apply propext;exact⟨fun h=>h.2.2.2,fun hk=>C6 rfl (fun x hx=>by simp[D.cells]at hx;subst hx;rfl) hk⟩
theorem Jt {xs:List D}{h:Heap}{K:D->Prop}:sy K (.sl xs) h=K (.sl xs):=by
 apply propext;exact⟨fun h=>h.2.2.2,fun hk=>C6 rfl (fun x hx=>by simp[D.cells]at hx;subst hx;rfl) hk⟩
theorem CG {h:Heap}{K:D->Prop}:sy K .nil h=K .nil:=by
 apply propext;exact⟨fun h=>h.2.2.2,fun hk=>C6 rfl (fun x hx=>by simp[D.cells]at hx;subst hx;rfl) hk⟩
theorem Oz {d:D}{h:Heap}{K:D->Prop}(hd:d.vd=true/\aN d) (hk:K d):sy K d h:=C6 hd.1 hd.2 hk
theorem uj {n esz:Nat}{els:List D}{h:Heap}{K:D->Prop}(hn:(h n).row=some (esz,els)) (hv:∀x∈els,∀y∈x.cells,y.vone=true) (hk:K (.sl els)):sy K (.ms n 0 els.length) h:=by
 refine⟨fun x hx=>by simp[D.cells]at hx;subst hx;rfl,fun x hx=>?_,?_,?_⟩
 ·simp only[D.cells,List.mem_singleton]at hx
  subst hx
  exact⟨esz,els,hn,by simp,fun x hx y hy=>hv x (by simpa using hx) y hy⟩
 ·simp[D.fzt,D.fz,D.fzc,hn,D.Il,D.vd,D.vone]
 ·simpa[D.fzt,D.fz,D.fzc,hn] using hk
theorem bx {fz:Bool}{f:FuncId}{loops:TLq}{dr:Nat->Array Oper->Option ACode}{F:aQ}(hc:cFn P fz f loops dr=some F) (hdr:Eo P F.nt dr)
  {ds:List D}{K:D->Prop}(hlen:Nat.ble ds.length F.nt=true) {V:(HKq)->Prop}(hV:∀K,V K=vcC P F.code (fun x e h'=>match x with|.exit _=>False|.pan=>False|.jump _=>False|_=>ER P F.res K e h') (params ds 0) iG)
  (hv:V (sy K)):aY P f ds K :=
 Mf hc hdr ⟨Nat.le_of_ble_eq_true hlen,Eq.mp (hV _) hv⟩
theorem aT {fz:Bool}{f:FuncId}{loops:TLq}{dr:Nat->Array Oper->Option ACode}{F:aQ}(hc:cFn P fz f loops dr=some F) (hdr:Eo P F.nt dr)
  {ds:List D}{h:Heap}{K:HKq}(hlen:Nat.ble ds.length F.nt=true) {V:(HKq)->Prop}(hV:∀K,V K=vcC P F.code (fun x e h'=>match x with|.exit _=>False|.pan=>False|.jump _=>False|_=>ER P F.res K e h') (params ds 0) h)
  (hv:V K):ai P f ds h K :=
 H5 hc hdr ⟨Nat.le_of_ble_eq_true hlen,Eq.mp (hV _) hv⟩
def vR:=And.intro @Q9 (And.intro @OF (And.intro @OG (And.intro @ag (And.intro @af (And.intro @jl (And.intro (And.intro @gk (And.intro @xN @um)) (And.intro @eK (And.intro @lS (And.intro @ES (And.intro @GN (And.intro @dt (And.intro @Qu (And.intro @UO (And.intro @SZ (And.intro @Mi (And.intro @S3 (And.intro @Qs (And.intro @bQ (And.intro @gK (And.intro @xM (And.intro @Mh (And.intro @xO (And.intro @CN (And.intro @Q8 (And.intro @Q7 (And.intro @Qt (And.intro @du (And.intro @S4 (And.intro @sE (And.intro @bX (And.intro @bu (And.intro @oW (And.intro @cq (And.intro @h_ext (And.intro @TK (And.intro @RT (And.intro @Aj (And.intro @mP (And.intro @vn (And.intro @fZ (And.intro @kI (And.intro @He (And.intro @Pp (And.intro @nT (And.intro @QF (And.intro @RJ (And.intro @FP (And.intro @FQ (And.intro @cH (And.intro @bw (And.intro @Jt (@CG))))))))))))))))))))))))))))))))))))))))))))))))))))
theorem kz {cs:List D}:(D.agg cs).cells=cs:=rfl
theorem Fj {k:IntKind}{n:Int}:(D.int k n).cells=[.int k n]:=rfl
theorem IZ {b:Bool}:(D.bool b).cells=[.bool b]:=rfl
theorem Lo {s:ByteArray}:(D.str s).cells=[.str s]:=rfl
theorem NN {xs:List D}:(D.sl xs).cells=[.sl xs]:=rfl
theorem Lr:D.nil.cells=[.nil]:=rfl
theorem HD:D.nilfn.cells=[.nilfn]:=rfl
theorem Gh:D.nilmap.cells=[.nilmap]:=rfl
theorem IX:D.nilp.cells=[.nilp]:=rfl
theorem NP {n:Nat}:(D.mp n).cells=[.mp n]:=rfl
theorem Iw:D.nilmap.one=true:=rfl
theorem MY:D.nilp.one=true:=rfl
theorem RB {n:Nat}:(D.mp n).one=true:=rfl
theorem NO {n o l:Nat}:(D.ms n o l).cells=[.ms n o l]:=rfl
theorem Lp {n o l:Nat}:(D.ptr n o l).cells=[.ptr n o l]:=rfl
theorem NQ {f:FuncId}{a b:List D}:(D.fn f a b).cells=[.fn f a b]:=rfl
theorem ab {a:List D}:aI a a=True:=by simp[aI]
theorem O6 {k:IntKind}{n:Int}:aN (.int k n)=True:=AX rfl
theorem MZ {b:Bool}:aN (.bool b)=True:=AX rfl
theorem O3 {s:ByteArray}:aN (.str s)=True:=AX rfl
theorem Rz {xs:List D}:aN (.sl xs)=True:=AX rfl
theorem O5:aN .nil=True:=AX rfl
theorem RA {n o l:Nat}:aN (.ms n o l)=True:=AX rfl
theorem O4 {n o l:Nat}:aN (.ptr n o l)=True:=AX rfl
theorem RC {f:FuncId}{a b:List D}:aN (.fn f a b)=True:=AX rfl
theorem TN {e:LEnv}{d:D}:Arg.get e (.c d)=d:=rfl
theorem Mx {cs new:List D}{j:Nat}:setCells (.agg cs) j new=.agg (cs.take j++new++cs.drop (j+new.length)):=rfl
theorem Mw {k:IntKind}{n:Int}{j:Nat}{x:D}:setCells (.int k n) j [x]=x:=rfl
theorem KJ {b:Bool}{j:Nat}{x:D}:setCells (.bool b) j [x]=x:=rfl
theorem ON {xs:List D}{j:Nat}{x:D}:setCells (.sl xs) j [x]=x:=rfl
theorem Mv {j:Nat}{x:D}:setCells .nil j [x]=x:=rfl
attribute [simp] Mx Mw KJ ON Mv
def gR:=And.intro @Dz (And.intro @gf (And.intro @TO (And.intro @ku (And.intro @xh (@mQ)))))
theorem GI {k:IntKind}{n:Int}:(D.int k n).vone=true:=rfl
theorem Kv {b:Bool}:(D.bool b).vone=true:=rfl
theorem L9 {s:ByteArray}:(D.str s).vone=true:=rfl
theorem Ju {xs:List D}:(D.sl xs).vone=true:=rfl
theorem Ma:D.nil.vone=true:=rfl
theorem M4 {k:IntKind}{n:Int}:(D.int k n).one=true:=rfl
theorem KS {b:Bool}:(D.bool b).one=true:=rfl
theorem M0 {s:ByteArray}:(D.str s).one=true:=rfl
theorem O7 {xs:List D}:(D.sl xs).one=true:=rfl
theorem M3:D.nil.one=true:=rfl
theorem O8 {n o l:Nat}:(D.ms n o l).one=true:=rfl
theorem M1 {n o l:Nat}:(D.ptr n o l).one=true:=rfl
theorem O9 {f:FuncId}{a b:List D}:(D.fn f a b).one=true:=rfl
theorem Q5 {cs:List D}:(D.agg cs).vd=cs.all D.vone:=rfl
theorem Q4 {k:IntKind}{n:Int}:(D.int k n).vd=true:=rfl
theorem OD {b:Bool}:(D.bool b).vd=true:=rfl
theorem Q0 {s:ByteArray}:(D.str s).vd=true:=rfl
theorem SY {xs:List D}:(D.sl xs).vd=true:=rfl
theorem Q3:D.nil.vd=true:=rfl
theorem K0 {cs:List D}:(D.agg cs).isAgg=true:=rfl
theorem KZ {k:IntKind}{n:Int}:(D.int k n).isAgg=false:=rfl
theorem ID {b:Bool}:(D.bool b).isAgg=false:=rfl
theorem KY {s:ByteArray}:(D.str s).isAgg=false:=rfl
attribute [simp] GI Kv L9 Ju Ma M4 KS M0 O7 M3 O8 M1 O9 Q5 Q4 OD Q0 SY Q3 K0 KZ ID KY
attribute [simp] RF Pe Slot.live Slot.used kz Fj IZ Lo NN Lr HD Gh IX NP Iw MY RB NO Lp NQ ab O6 MZ O3 Rz O5 RA O4 RC MQ ar TN
end Go.Am
namespace Go.Am
open Go
variable [bW]
variable {P:Program}{KH:HKq}{h:Heap}
def Own (esz:Nat) (h:Heap) (v:D) (els:List D):Prop:=(v=.nil/\els=[])\/∃n,v=.ms n 0 els.length/\h n=.arr esz els
theorem zW {x:D}(hx:x.vone=true):x.fzc h=x/\x.jV=[]/\oE h x:=by
 cases x<;>simp_all [D.vone,D.fzc,D.jV,oE]
theorem qU {d:D}(h1:d.vd=true):d.fz h=d/\d.nm=[]/\mB h d:=by
 rcases CH h1 with hv|⟨cs,rfl,hcs⟩
 ·have:=zW (h:=h) hv
  cases d<;>simp_all [D.fz,D.nm,D.vone,mB,D.cells]
 ·refine⟨?_,?_,fun x hx=>(zW (hcs x hx)).2.2⟩
  ·simp only[D.fz]
   congr 1
   rw[List.map_congr_left (fun x hx=>(zW (h:=h) (hcs x hx)).1)]
   simp
  ·simp only[D.nm]
   rw[List.flatMap_eq_nil_iff]
   exact fun x hx=>(zW (h:=h) (hcs x hx)).2.1
theorem FZ {esz:Nat}{z d:D}(h1:d.vd=true) (h2:aN d) (h3:d.cells.length=esz) (hk:∀n,pc h n->KH (.ms n 0 1) (aD h n (.arr esz [d]))):aa P (.bldS true esz 1 z [(0,.c d)]) h KH:=by
 obtain⟨a1,a2,a3⟩:=qU (h:=h) h1
 refine⟨fun p hp=>by simp[Arg.get]at hp;subst hp;exact⟨Nat.one_pos,h3,h2⟩,fun _ p hp=>by simp[Arg.get]at hp;subst hp;exact a3,fun n t=>?_⟩
 have:=hk n t
 simpa[Arg.get,a1,a2,Heap.freezeAll,setEls] using this
theorem RY {esz:Nat}{z:D}{fz:Bool}(hk:∀n,pc h n->KH (.ms n 0 0) (aD h n (.arr esz []))):aa P (.bldS fz esz 0 z []) h KH:=by
 refine⟨fun p hp=>by simp at hp,fun _ p hp=>by simp at hp,fun n t=>?_⟩
 have:=hk n t
 cases fz<;>simpa[Heap.freezeAll,setEls] using this
end Go.Am
namespace Go.Am
open Go
variable [bW]
variable {P:Program}{KH:HKq}{K:D->Prop}{h:Heap}
theorem mU {x:Arg}{s:Nat}{g:Bool}:ae P (.ld x s g) h K=aa P (.ld x s g) h fun d _=>K d:=rfl
theorem QM {x:Arg}{a b c:Option Arg}{n:Nat}:ae P (.zB x a b c n) h K=aa P (.zB x a b c n) h fun d _=>K d:=rfl
theorem Sj {x:Arg}{a b:Option Arg}:ae P (.sslc x a b) h K=aa P (.sslc x a b) h fun d _=>K d:=rfl
theorem Vu {x y:Arg}:ae P (.mn x y) h K=aa P (.mn x y) h fun d _=>K d:=rfl
theorem Vt {x y:Arg}:ae P (.mx x y) h K=aa P (.mx x y) h fun d _=>K d:=rfl
theorem mV {x y:Arg}{n:Nat}:ae P (.iadd x y n) h K=aa P (.iadd x y n) h fun d _=>K d:=rfl
theorem Gd {x y:Arg}{l n:Nat}:ae P (.iadda x y l n) h K=aa P (.iadda x y l n) h fun d _=>K d:=rfl
theorem Sl {x y:Arg}{len size:Nat}{agg:Bool}:ae P (.sidx x y len size agg) h K=aa P (.sidx x y len size agg) h fun d _=>K d:=rfl
theorem IN {k:IntKind}{x:Arg}:ae P (.conv k x) h K=aa P (.conv k x) h fun d _=>K d:=rfl
theorem iK {c x y:Arg}:ae P (.pick c x y) h K=aa P (.pick c x y) h fun d _=>K d:=rfl
theorem Uc {x:Arg}{i:Nat}:ae P (.ext x i) h K=aa P (.ext x i) h fun d _=>K d:=rfl
theorem Ub {x:Arg}{o s:Nat}{g:Bool}:ae P (.fld x o s g) h K=aa P (.fld x o s g) h fun d _=>K d:=rfl
theorem Fh {z:List D}{ps:List (Nat×Nat×Arg)}:ae P (.bld z ps) h K=aa P (.bld z ps) h fun d _=>K d:=rfl
theorem QN {n g:Bool}{ks:List CK}{x y:Arg}:ae P (.eqv n g ks x y) h K=aa P (.eqv n g ks x y) h fun d _=>K d:=rfl
theorem Sk {x:Arg}:ae P (.slen x) h K=aa P (.slen x) h fun d _=>K d:=rfl
theorem Ua {f:FuncId}{a b:List Arg}:ae P (.mkf f a b) h K=aa P (.mkf f a b) h fun d _=>K d:=rfl
theorem Ki {d:D}{j o:Nat}:ae P (.fadd (.c (.vp d j)) o) h K=K (.vp d (j+o)):=rfl
theorem CC {n i j o:Nat}:ae P (.fadd (.c (.ptr n i j)) o) h K=((h n).used=true/\K (.ptr n i (j+o))):=rfl
theorem Pn {xs:List D}{a b c:Option Arg}{n:Nat}:aa P (.zB (.c (.sl xs)) a b c n) h KH=vopt [] a 0 fun l=>vopt [] b xs.length fun r=>vopt [] c xs.length fun m=>0<=l/\l<=r/\r<=m/\m<=xs.length/\(∀d∈xs,d.cells.length=n) /\
    KH (.sl ((xs.drop l.toNat).take (r-l).toNat)) h:=rfl
theorem FX {m off len:Nat}{a b c:Option Arg}{n:Nat}:aa P (.zB (.c (.ms m off len)) a b c n) h KH=vopt [] a 0 fun l=>vopt [] b len fun r=>vopt [] c len fun q=>0<=l/\l<=r/\r<=q/\q<=len/\(∃els,(h m).row=some (n,els)) /\
    KH (.ms m (off+l.toNat) (r-l).toNat) h:=rfl
theorem Ku {n:Nat}{Q:Int->Prop}:vopt [] none n Q=Q n:=rfl
theorem Kt {k:IntKind}{i:Int}{n:Nat}{Q:Int->Prop}:vopt [] (some (.c (.int k i))) n Q=Q i:=rfl
theorem TH {k:IntKind}{a b:Int}:aa P (.mn (.c (.int k a)) (.c (.int k b))) h KH=KH (.int k (if b<a then b else a)) h:=by simp[aa,vcOp,Arg.get]
theorem TG {k:IntKind}{a b:Int}:aa P (.mx (.c (.int k a)) (.c (.int k b))) h KH=KH (.int k (if a<b then b else a)) h:=by simp[aa,vcOp,Arg.get]
theorem J0 {n:Nat}{as:List Arg}:aa P (.callv (.c (.yld n)) as) h KH=((∃st B,h n=.lp st B)/\o7 P n (as.map (·.get [])) h KH):=rfl
theorem qD {f:FuncId}{as:List Arg}{r:D}(hv:aY P f (as.map (·.get [])) (· = r)) (hds:∀d,d∈as.map (·.get [])->d.vd=true/\aN d) (hk:K r):ae P (.call f as) h K:=by
 have hz:∀d,d∈as.map (·.get [])->d.fz h=d/\d.nm=[]/\mB h d:=fun d hd=>qU (hds d hd).1
 have e:(as.map fun x=>(x.get []).fz h)=as.map (·.get []):=by
  refine List.map_congr_left fun x hx=>(hz _ (List.mem_map.2 ⟨x,hx,rfl⟩)).1
 refine⟨r,by rw[e];exact hv,fun d hd=>⟨(hds d hd).2,(hz d hd).2.2,by rw[(hz d hd).1];exact(hds d hd).1⟩,Or.inr ?_,hk⟩
 have en:(as.flatMap fun x=>(x.get []).nm)=[]:=by
  rw[List.flatMap_eq_nil_iff]
  exact fun x hx=>(hz _ (List.mem_map.2 ⟨x,hx,rfl⟩)).2.1
 rw[en]
 exact fun n hn=>by cases hn
theorem Po {cs:List D}{k:IntKind}{a:Int}{len size:Nat}{agg:Bool}:aa P (.sidx (.c (.agg cs)) (.c (.int k a)) len size agg) h KH=(0<len/\0<=a/\a<len/\vpart cs (a.toNat*size) size agg (KH · h)):=rfl
def dR:=And.intro @Po<|And.intro @mU (And.intro @QM (And.intro @Sj (And.intro @Vu (And.intro @Vt (And.intro @mV (And.intro @Gd (And.intro @Sl (And.intro @IN (And.intro @iK (And.intro @Uc (And.intro @Ub (And.intro @Fh (And.intro @QN (And.intro @Sk (And.intro @Ua (And.intro @Ki (And.intro @CC (And.intro @Pn (And.intro @FX (And.intro @Ku (And.intro @Kt (And.intro @TH (And.intro @TG (@J0))))))))))))))))))))))))
def VC:=And.intro vR (And.intro gR dR)
end Go.Am
namespace Go.Am
open Go
variable [bW]
variable {P:Program}
theorem Oh {c:Ctx}(hr:av c){M esz:Nat}{els els':List D}(hM:c.h M=.arr esz els) (hl:els'.length=els.length) (hc:∀e,e∈els'->e.cells.length=esz) (ho:lA els')
  (hv:∀i j d',aM els' i j=some d'->∃d,aM els i j=some d/\∀v,aB c d v->aB c d' v) :
  c.le ⟨c.ρ,c.X,aD c.h M (.arr esz els'),c.hp⟩/\av ⟨c.ρ,c.X,aD c.h M (.arr esz els'),c.hp⟩:=by
 have sub:∀k,(aD c.h M (.arr esz els') k).mine->(c.h k).mine:=by
  intro k hk
  by_cases h:k=M
  ·subst h;rw[hM];trivial
  ·simpa[aD,h] using hk
 have hle:c.le ⟨c.ρ,c.X,aD c.h M (.arr esz els'),c.hp⟩:=by
  refine⟨Nat.le_refl _,rfl,fun _ _ _=>rfl,fun _ cur _ _ h=>⟨cur,h,rfl⟩,fun _ r h=>⟨r,h,rfl⟩,fun _ _=>rfl,fun k=>?_,fun k g hm hρ _=>⟨k,sub k hm,hρ⟩⟩
  by_cases h:k=M
  ·subst h;simp only[ar];rw[hM];exact .arrArr _ _ _ (Nat.le_of_eq hl.symm)
  ·simp only[an _ _ h];exact Trans.refl _
 refine⟨hle,fun k=>?_,fun k1 k2 g m1 m2 r1 r2=>hr.inj k1 k2 g (sub k1 m1) (sub k2 m2) r1 r2,fun k g hm hρ=>hr.apart k g (sub k hm) hρ,hr.xlt,?_,hr.glob.mono hle,hr.lo⟩
 ·by_cases h:k=M
  ·subst h
   simp only[ar]
   have hs:=hr.slot k
   rw[hM]at hs
   obtain⟨h1,h2,h3,h4⟩:=hs
   refine⟨h1,hc,ho,?_⟩
   rcases h4 with⟨q,q'⟩|⟨g,cur,ty,q1,q2,q3,q4⟩
   ·refine Or.inl ⟨q,?_⟩
    subst q'
    exact List.length_eq_zero_iff.1 hl
   ·refine Or.inr ⟨g,cur,ty,q1,q2,by rw[hl];exact q3,fun i j d' hd'=>?_⟩
    obtain⟨d,hd,hrel⟩:=hv i j d' hd'
    exact(hrel _ (q4 i j d hd)).mono hle
  ·simp only[an _ _ h]
   exact iW hle (hr.slot k) (fun _ _=>rfl) (fun _ _ _=>rfl)
 ·obtain⟨N,hN⟩:=hr.fin
  refine⟨N+M+1,fun k hk=>?_⟩
  simp only[an _ _ (show k≠M by omega)]
  exact hN k (by omega)
theorem F6 {h:Heap}{n m:Nat}(hne:m≠n):h.freeze n m=h m:=by
 unfold Heap.freeze
 cases h n<;>simp only<;>try rfl
 exact an _ _ hne
theorem iF {m:Nat}:∀(ns:List Nat){h:Heap},m∉ns->h.freezeAll ns m=h m
 | [],_,_=>rfl
 | n::r,h,hm=>by
  simp only[List.mem_cons,not_or]at hm
  show(h.freeze n).freezeAll r m=h m
  rw[iF r hm.2,F6 hm.1]
theorem F5 {h:Heap}{m:Nat}(n:Nat):(h.freeze m n).row=(h n).row:=by
 unfold Heap.freeze
 cases hm:h m<;>simp only<;>try rfl
 by_cases he:n=m
 ·subst he;rw[ar,hm];rfl
 ·rw[an _ _ he]
theorem qW:∀(ns:List Nat){h:Heap}(n:Nat),(h.freezeAll ns n).row=(h n).row
 | [],_,_=>rfl
 | m::r,h,n=>by
  show((h.freeze m).freezeAll r n).row=_
  rw[qW r,F5]
theorem K7 {h h':Heap}(hr:∀n,(h' n).row=(h n).row) (d:D):d.fzc h'=d.fzc h:=by
 cases d<;>simp[D.fzc,hr]
theorem Nk {h h':Heap}(hr:∀n,(h' n).row=(h n).row) (d:D):d.fz h'=d.fz h:=by
 have e:D.fzc h'=D.fzc h:=funext (K7 hr)
 cases d<;>simp only[D.fz,e]
theorem IH {h h':Heap}(hr:∀n,(h' n).row=(h n).row){d:D}(hd:mB h d):mB h' d:=by
 intro x hx
 have:=hd x hx
 cases x<;>simp only[oE,hr]at this ⊢
 exact this
structure Deep (h:Heap) (M:Nat) (els:List D):Prop where
 out:M∉els.flatMap D.nm
 el:∀e∈els,e.cells=[e]/\mB h e/\(e.fz h).vone=true/\e.one=true
end Go.Am
namespace Go.Am
open Go
section keep
variable {H:Type}{enc:TypeId×Value->H}{P:Program}{w w':World}{base:Nat}{spare:Nat->Bool}{held:Bool}
theorem kp {α β:Type}{f g:α->Option β}(hk:∀a b,f a=some b->g a=some b):∀{l:List α}{r:List β},l.mapM f=some r->l.mapM g=some r
 | [],r,h=>by simpa using h
 | a::l,r,h=>by
  simp only[List.mapM_cons,Option.bind_eq_bind,Option.bind_eq_some_iff,Option.pure_def,Option.some.injEq]at h ⊢
  obtain⟨b,hb,r',hr',rfl⟩:=h
  exact⟨b,hk a b hb,r',kp hk hr',rfl⟩
theorem Ls (hk:∀b,b<w.heap.size->w'.heap[b]?=w.heap[b]?){a:Addr}{v:Value}(h:w.cell? a=some v):w'.cell? a=some v:=by
 unfold World.cell? at h ⊢
 have hlt:a.block<w.heap.size:=by
  rcases Nat.lt_or_ge a.block w.heap.size with h1|h1
  ·exact h1
  ·simp[Array.getElem?_eq_none h1]at h
 rw[hk _ hlt];exact h
theorem IY (hk:∀b,b<w.heap.size->w'.heap[b]?=w.heap[b]?){a:Addr}{n:Nat}{cs:List Value}(h:w.cells? base a n=some cs):w'.cells? base a n=some cs:=by
 unfold World.cells? at h ⊢
 split at h
 ·rename_i hb
  rw[if_pos hb]
  exact kp (fun i v hv=>Ls hk hv) h
 ·cases h
theorem KB (hk:∀b,b<w.heap.size->w'.heap[b]?=w.heap[b]?):∀(n:Nat) (t:TypeId) (cs:List Value) (x:DataW H×List MemPlace),DataW.trod enc P w base spare held n t cs=some x->DataW.trod enc P w' base spare held n t cs=some x:=by
 intro n
 induction n with
 | zero=>intro t cs x h;simp[DataW.trod]at h
 | succ n ih =>
  intro t cs x h
  have el:∀(a:Addr) (k:Nat) (e:TypeId) y,(w.cells? base a k).bind (DataW.trod enc P w base spare held n e)=some y->(w'.cells? base a k).bind (DataW.trod enc P w' base spare held n e)=some y:=by
   intro a k e y hy
   rw[Option.bind_eq_some_iff]at hy ⊢
   obtain⟨cs,h1,h2⟩:=hy
   exact⟨cs,IY hk h1,ih _ _ _ h2⟩
  unfold DataW.trod at h ⊢
  generalize P.underlying t=ut at h ⊢
  split at h
  case h_6 e a =>
   rw[Option.map_eq_some_iff]at h ⊢
   obtain⟨y,hy,rfl⟩:=h
   exact⟨y,el _ _ _ _ hy,rfl⟩
  case h_8 e a len cap =>
   simp only at h ⊢
   split at h
   ·rename_i hc
    rw[if_pos hc]
    rw[Option.bind_eq_some_iff]at h ⊢
    obtain⟨elems,h1,h2⟩:=h
    refine⟨elems,kp (fun i y hy=>el _ _ _ _ hy) h1,?_⟩
    rw[Option.map_eq_some_iff]at h2 ⊢
    obtain⟨rest,h3,rfl⟩:=h2
    refine⟨rest,?_,rfl⟩
    split at h3
    ·rename_i hs;rw[if_pos hs];exact kp (fun i y hy=>el _ _ _ _ hy) h3
    ·rename_i hs;rw[if_neg hs];exact h3
   ·cases h
  case h_9 fs =>
   split at h
   ·rename_i hc
    rw[if_pos hc]
    rw[Option.map_eq_some_iff]at h ⊢
    obtain⟨y,hy,rfl⟩:=h
    exact⟨y,kp (fun i y hy=>ih _ _ _ hy) hy,rfl⟩
   ·cases h
  case h_10 m e =>
   split at h
   ·rename_i hc
    rw[if_pos hc]
    rw[Option.map_eq_some_iff]at h ⊢
    obtain⟨y,hy,rfl⟩:=h
    exact⟨y,kp (fun i y hy=>ih _ _ _ hy) hy,rfl⟩
   ·cases h
  case h_12 u v =>
   split at h
   ·exact h
   ·rw[Option.map_eq_some_iff]at h ⊢
    obtain⟨y,hy,rfl⟩:=h
    exact⟨y,ih _ _ _ hy,rfl⟩
   ·cases h
  case h_14 k e b =>
   cases hb:w.heap[b]? with
   | none=>simp[hb]at h
   | some o =>
    have hlt:=(Array.getElem?_eq_some_iff.1 hb).1
    rw[hk b hlt]
    rw[hb]at h ⊢
    cases o<;>simp only at h ⊢<;>try (cases h;done)
    split at h
    ·rename_i hc
     rw[if_pos hc]
     rw[Option.bind_eq_some_iff]at h ⊢
     obtain⟨es,h1,h2⟩:=h
     refine⟨es,kp (fun i y hy=>?_) h1,h2⟩
     rw[Option.bind_eq_some_iff]at hy ⊢
     obtain⟨key,h3,h4⟩:=hy
     refine⟨key,h3,?_⟩
     split at h4
     ·rename_i hf
      rw[if_pos hf]
      rw[Option.map_eq_some_iff]at h4 ⊢
      obtain⟨z,hz,rfl⟩:=h4
      exact⟨z,ih _ _ _ hz,rfl⟩
     ·cases h4
    ·cases h
  all_goals first|exact h|(cases h;done)
theorem xQ (hk:∀b,b<w.heap.size->w'.heap[b]?=w.heap[b]?):∀{ts:List TypeId}{vs:List Value}{ds:List (DataW H)}{ps:List MemPlace},DataW.TrodAll enc P w base spare held ts vs ds ps->DataW.TrodAll enc P w' base spare held ts vs ds ps
 | [],[],[],_,h=>h
 | _::_,_::_,_::_,_,⟨p,q,⟨n,h1⟩,h2,e⟩=>⟨p,q,⟨n,KB hk n _ _ _ h1⟩,xQ hk h2,e⟩
end keep
end Go.Am
namespace Go.Am
open Go
variable [bW]
variable {H:Type}{enc:TypeId×Value->H}{P:Program}
def mkElem (P:Program) (e:TypeId) (cs:List D):D :=
 match P.underlying e with
 | some (.struct _)=>.agg cs
 | some (.array _ _)=>.agg cs
 | _=>cs.headD .undef
def HasTy (P:Program):Nat->TypeId->List D->Prop
 | 0,_,_=>False
 | n+1,t,ds=>match P.underlying t with
  | some .bool=>∃b,ds=[.bool b]
  | some (.int k)=>∃i,ds=[.int k i]/\(Lit.int k i).wf=true
  | some .string=>∃s:ByteArray,ds=[.str s]/\s.size<=maxLen
  | some (.slice e)=>∃xs:List (List D),ds=[.sl (xs.map (mkElem P e))]/\xs.length<=maxLen/\∀x∈xs,HasTy P n e x
  | some (.struct fs)=>ds.length=P.cellsOf t/\∀f∈fs.toList,HasTy P n f.type ((ds.drop f.offset).take (P.cellsOf f.type))
  | some (.array m e)=>ds.length=P.cellsOf t/\∀i,i<m->HasTy P n e ((ds.drop (i*P.cellsOf e)).take (P.cellsOf e))
  | _=>False
def contig (P:Program) (total:Nat):List (TypeId×Nat)->Nat->Bool
 | [],o=>o == total
 | f::r,o=>f.2 == o&&contig P total r (o+P.cellsOf f.1)
def plainT (P:Program):Nat->TypeId->Bool
 | 0,_=>false
 | n+1,t=>match P.underlying t with
  | some .bool=>P.cellsOf t == 1
  | some (.int _)=>P.cellsOf t == 1
  | some .string=>P.cellsOf t == 1
  | some (.slice e)=>P.cellsOf t == 1&&decide (0<P.cellsOf e)&&plainT P n e
  | some (.struct fs)=>fs.toList.all (fun f=>plainT P n f.type)&&contig P (P.cellsOf t) (fs.toList.map fun f=>(f.type,f.offset)) 0
  | some (.array m e)=>plainT P n e&&contig P (P.cellsOf t) ((List.range m).map fun i=>(e,i*P.cellsOf e)) 0
  | _=>false
theorem qB {cs:List D}(h1:cs.length=1) (hv:∀(i:Nat) (x:D),cs[i]?=some x->x.vone=true):(cs.headD .undef).cells=cs:=by
 cases cs with
 | nil=>simp at h1
 | cons d r =>
  have:r=[]:=List.eq_nil_of_length_eq_zero (by simpa using h1)
  subst this
  have:=hv 0 d rfl
  cases d<;>simp_all [D.vone,D.cells]
theorem FM {n:Nat}{e:TypeId}{cs:List D}(hp:plainT P n e=true) (hl:cs.length=P.cellsOf e) (hv:∀(i:Nat) (x:D),cs[i]?=some x->x.vone=true):(mkElem P e cs).cells=cs:=by
 unfold mkElem
 split
 ·rfl
 ·rfl
 ·cases n with
  | zero=>simp[plainT]at hp
  | succ n =>
   unfold plainT at hp
   split at hp
   ·exact qB (by rw[hl];simpa using hp) hv
   ·exact qB (by rw[hl];simpa using hp) hv
   ·exact qB (by rw[hl];simpa using hp) hv
   ·simp only[Bool.and_eq_true]at hp
    exact qB (by rw[hl];simpa using hp.1.1) hv
   ·rename_i h1 h1' _ fs h2;first|exact absurd h2 (h1 _)|exact absurd h2 (h1' _)
   ·rename_i h1 h1' _ m e' h2;first|exact absurd h2 (h1' _ _)|exact absurd h2 (h1 _ _)
   ·cases hp
theorem parts {c:Ctx}{m:Nat}{total:Nat}(cs:List Value) (hcs:cs.length=total):∀(l:List (TypeId×Nat)) (o:Nat),contig P total l o=true ->
  (∀f∈l,∃ds:List D,HasTy P m f.1 ds/\ds.length=P.cellsOf f.1/\∀(i:Nat) (d:D),ds[i]?=some d->d.vone=true/\aB c d (((cs.drop f.2).take (P.cellsOf f.1)).getD i Go.undef)) ->
  ∃ds:List D,ds.length=cs.length-o/\(∀f∈l,HasTy P m f.1 ((ds.drop (f.2-o)).take (P.cellsOf f.1))/\o<=f.2)/\∀(i:Nat) (d:D),ds[i]?=some d->d.vone=true/\aB c d (cs.getD (o+i) Go.undef)
 | [],o,hc,_=>by
  simp only[contig,beq_iff_eq]at hc
  exact⟨[],by simp;omega,by simp,by simp⟩
 | f::r,o,hc,hf=>by
  simp only[contig,Bool.and_eq_true,beq_iff_eq]at hc
  obtain⟨hfo,hcr⟩:=hc
  obtain⟨d1,a1,a2,a3⟩:=hf f (by simp)
  obtain⟨d2,b1,b2,b3⟩:=parts cs hcs r (o+P.cellsOf f.1) hcr (fun g hg=>hf g (by simp[hg]))
  have hle:o+P.cellsOf f.1<=total:=by
   have:∀(l:List (TypeId×Nat)) (o:Nat),contig P total l o=true->o<=total:=by
    intro l
    induction l with
    | nil=>intro o h;simp[contig]at h;omega
    | cons g s ih=>intro o h;simp only[contig,Bool.and_eq_true,beq_iff_eq]at h;have:=ih _ h.2;omega
   exact this _ _ hcr
  refine⟨d1++d2,by simp;omega,fun g hg=>?_,fun i d hd=>?_⟩
  ·rcases List.mem_cons.1 hg with rfl|hg
   ·refine⟨?_,by omega⟩
    rw[hfo,Nat.sub_self,List.drop_zero,List.take_append_of_le_length (by omega),List.take_of_length_le (by omega)]
    exact a1
   ·obtain⟨k1,k2⟩:=b2 g hg
    refine⟨?_,by omega⟩
    rw[show g.2-o=d1.length+(g.2-(o+P.cellsOf f.1)) by omega,List.drop_append,List.drop_eq_nil_of_le (by omega),List.nil_append,Nat.add_sub_cancel_left]
    exact k1
  ·by_cases hi:i<d1.length
   ·rw[List.getElem?_append_left hi]at hd
    obtain⟨k1,k2⟩:=a3 i d hd
    refine⟨k1,?_⟩
    have e1:((cs.drop f.2).take (P.cellsOf f.1)).getD i Go.undef=cs.getD (o+i) Go.undef:=by
     simp only[List.getD,List.getElem?_take,List.getElem?_drop]
     rw[if_pos (by omega),hfo]
    rw[e1]at k2;exact k2
   ·rw[List.getElem?_append_right (by omega)]at hd
    obtain⟨k1,k2⟩:=b3 _ d hd
    refine⟨k1,?_⟩
    rw[show o+P.cellsOf f.1+(i-d1.length)=o+i by omega]at k2
    exact k2
theorem Mn {W:World}{sp:Nat->Bool}{c:Ctx}(hp:c.hp=W.heap) (hown:∀g,¬c.own g):∀(m:Nat) (t:TypeId),plainT P m t=true->∀(n:Nat) (cs:List Value) (x:DataW H×List MemPlace),DataW.trod enc P W 0 sp true n t cs=some x ->
  cs.length=P.cellsOf t/\∃ds:List D,HasTy P m t ds/\ds.length=cs.length/\∀(i:Nat) (d:D),ds[i]?=some d->d.vone=true/\aB c d (cs.getD i Go.undef):=by
 intro m
 induction m with
 | zero=>intro t h;simp[plainT]at h
 | succ m ih =>
  intro t hpt n cs x h
  unfold plainT at hpt
  have one:∀(d:D) (v:Value),cs=[v]->d.vone=true->aB c d v->([d]:List D).length=cs.length/\∀(i:Nat) (d':D),[d][i]?=some d'->d'.vone=true/\aB c d' (cs.getD i Go.undef):=by
   rintro d v rfl h1 h2
   refine⟨rfl,fun i d' hd=>?_⟩
   cases i with
   | zero=>simp at hd;subst hd;exact⟨h1,by simpa using h2⟩
   | succ i=>simp at hd
  split at hpt
  ·
   rename_i hu
   cases n with
   | zero=>simp[DataW.trod]at h
   | succ n =>
    unfold DataW.trod at h
    rw[hu]at h
    split at h<;>simp_all
    rename_i b
    exact⟨[.bool b],by unfold HasTy;rw[hu];exact⟨b,rfl⟩,by simp,fun i d hd=>by
     cases i with
     | zero=>simp at hd;subst hd;exact⟨rfl,by simpa using aB.bool (c:=c) b⟩
     | succ i=>simp at hd⟩
  ·rename_i k hu
   cases n with
   | zero=>simp[DataW.trod]at h
   | succ n =>
    unfold DataW.trod at h
    rw[hu]at h
    split at h<;>simp_all
    rename_i kq kq' i' hq
    have hkk:=h.1.1
    subst hkk
    exact⟨[.int kq' i'],by unfold HasTy;rw[hu];exact⟨i',rfl,h.1.2⟩,by simp,fun i d hd=>by
     cases i with
     | zero=>simp at hd;subst hd;exact⟨rfl,by simpa using aB.int (c:=c) kq' i'⟩
     | succ i=>simp at hd⟩
  ·rename_i hu
   cases n with
   | zero=>simp[DataW.trod]at h
   | succ n =>
    unfold DataW.trod at h
    rw[hu]at h
    split at h<;>simp_all
    rename_i s
    exact⟨[.str s],by unfold HasTy;rw[hu];exact⟨s,rfl,h.1⟩,by simp,fun i d hd=>by
     cases i with
     | zero=>simp at hd;subst hd;exact⟨rfl,by simpa using aB.str (c:=c) s⟩
     | succ i=>simp at hd⟩
  ·
   rename_i e hu
   simp only[Bool.and_eq_true,beq_iff_eq,decide_eq_true_eq]at hpt
   obtain⟨⟨hc1,hpos⟩,hpe⟩:=hpt
   rcases DataW.trod_slice hu h with⟨rfl,_⟩|⟨a,len,cap,elems,rest,n',rfl,rfl,_,hb,hl,hm,hlen,hel,_,_⟩
   ·refine⟨by rw[hc1];rfl,[.sl []],?_,one (.sl []) _ rfl rfl (.lD none 0 (by simp[maxLen]))⟩
    unfold HasTy;rw[hu]
    exact⟨[],rfl,by simp[maxLen],by simp⟩
   ·
    have each:∀i,i<len->∃(vs:List Value) (ds:List D),W.cells? 0 (a.add (i*P.cellsOf e)) (P.cellsOf e)=some vs/\HasTy P m e ds/\ds.length=P.cellsOf e/\vs.length=P.cellsOf e/\∀(j:Nat) (d:D),ds[j]?=some d->d.vone=true/\aB c d (vs.getD j Go.undef):=by
     intro i hi
     have h1:=hel i hi
     have h2:elems[i]?=some (elems[i]'(by omega)):=by simp[show i<elems.length by omega]
     rw[h2,Option.bind_eq_some_iff]at h1
     obtain⟨vs,h3,h4⟩:=h1
     obtain⟨k1,ds,k2,k3,k4⟩:=ih e hpe n' vs _ h4
     exact⟨vs,ds,h3,k2,k3.trans k1,k1,k4⟩
    let vf:Nat->List Value:=fun i=>if h:i<len then(each i h).choose else []
    let df:Nat->List D:=fun i=>if h:i<len then(each i h).choose_spec.choose else []
    have spec:∀i,i<len->W.cells? 0 (a.add (i*P.cellsOf e)) (P.cellsOf e)=some (vf i)/\HasTy P m e (df i)/\(df i).length=P.cellsOf e/\(vf i).length=P.cellsOf e/\∀(j:Nat) (d:D),(df i)[j]?=some d->d.vone=true/\aB c d ((vf i).getD j Go.undef):=by
     intro i hi
     simp only[vf,df,dif_pos hi]
     exact(each i hi).choose_spec.choose_spec
    let xs:List (List D):=(List.range len).map df
    have hxl:xs.length=len:=by simp[xs]
    have hxi:∀i,i<len->xs[i]?=some (df i):=by intro i hi;simp[xs,hi]
    have hcellsE:∀i,i<len->(mkElem P e (df i)).cells=df i:=fun i hi=>FM hpe (spec i hi).2.2.1 (fun j x hx=>((spec i hi).2.2.2.2 j x hx).1)
    refine⟨by rw[hc1];rfl,[.sl (xs.map (mkElem P e))],?_,?_⟩
    ·unfold HasTy;rw[hu]
     refine⟨xs,rfl,by rw[hxl];omega,fun x hx=>?_⟩
     obtain⟨i,hi,rfl⟩:=List.mem_map.1 hx
     exact(spec i (by simpa using hi)).2.1
    ·have hl0:len=(xs.map (mkElem P e)).length:=by simp[hxl]
     refine one _ _ rfl rfl ?_
     by_cases h0:len=0
     ·subst h0
      have:xs=[]:=List.eq_nil_of_length_eq_zero hxl
      rw[this]
      exact .lD _ cap hm
     ·have hz:=(World.cells?_some (spec 0 (by omega)).1).2.2 0 (by omega)
      have hcell0:∃v,W.cell? a=some v:=by
       have e0:(a.add (0*P.cellsOf e)).add 0=a:=by simp[Addr.add]
       rw[e0]at hz
       have:0<(vf 0).length:=by rw[(spec 0 (by omega)).2.2.2.1];exact hpos
       exact⟨(vf 0)[0],by rw[hz];simp[this]⟩
      obtain⟨v0,hv0⟩:=hcell0
      have hspot:a=⟨a.block,a.off,none⟩:=by
       unfold World.cell? at hv0
       split at hv0
       ·split at hv0
        ·cases hv0
        ·rename_i hs
         obtain⟨b,o,s⟩:=a
         cases s with
         | none=>rfl
         | some s=>simp at hs
       ·cases hv0
      have hci:∀i j d,aM (xs.map (mkElem P e)) i j=some d->i<len/\(df i)[j]?=some d:=by
       intro i j d hd
       unfold aM at hd
       rw[List.getElem?_map]at hd
       by_cases hi:i<len
       ·rw[hxi i hi]at hd
        simp only[Option.map_some,Option.bind_some]at hd
        rw[hcellsE i hi]at hd
        exact⟨hi,hd⟩
       ·have:xs[i]?=none:=List.getElem?_eq_none (by omega)
        rw[this]at hd;simp at hd
      have:=aB.sl (c:=c) (xs.map (mkElem P e)) a.block a.off cap (P.cellsOf e) (fun i j=>(vf i).getD j Go.undef) (by intro he;rw[he]at hl0;simp at hl0;omega) (by rw[<- hl0];exact hl) hm hpos
       (fun x hx=>by
        obtain⟨y,hy,rfl⟩:=List.mem_map.1 hx
        obtain⟨i,hi,rfl⟩:=List.mem_map.1 hy
        rw[hcellsE i (by simpa using hi)]
        exact(spec i (by simpa using hi)).2.2.1)
       (fun i j d hd=>by
        obtain⟨hi,hj⟩:=hci i j d hd
        exact((spec i hi).2.2.2.2 j d hj).1)
       (fun i j d hd=>by
        obtain⟨hi,hj⟩:=hci i j d hd
        have hjl:=(ah.1 hj).1
        rw[(spec i hi).2.2.1]at hjl
        have hz:=(World.cells?_some (spec i hi).1).2.2 j hjl
        have e1:(a.add (i*P.cellsOf e)).add j=⟨a.block,a.off+(i*P.cellsOf e+j),none⟩:=by
         have hadd:∀(b o x:Nat),((⟨b,o,none⟩:Addr).add x).add j=⟨b,o+(x+j),none⟩:=by
          intro b o x
          rw[Addr.add_lit,Addr.add_lit,Nat.add_assoc]
         have:=hadd a.block a.off (i*P.cellsOf e)
         rw[<- hspot]at this
         exact this
        rw[e1,pC]at hz
        rw[hp,hz]
        have hjv:j<(vf i).length:=by rw[(spec i hi).2.2.2.1];exact hjl
        simp[List.getD,hjv])
       (hown _) (fun i j d hd=>by
        obtain⟨hi,hj⟩:=hci i j d hd
        exact((spec i hi).2.2.2.2 j d hj).2)
      rw[<- hl0]at this
      rw[hspot]
      exact this
  ·
   rename_i fs hu
   simp only[Bool.and_eq_true,List.all_eq_true]at hpt
   obtain⟨hpf,hcov⟩:=hpt
   obtain⟨xs,n',rfl,_,hcl,hxl,hf⟩:=DataW.trod_struct hu h
   obtain⟨ds,q1,q2,q3⟩:=parts (c:=c) (m:=m) cs (by rw[hcl]) _ 0 hcov (fun f hfm=>by
    simp only[List.mem_map]at hfm
    obtain⟨f',hf',rfl⟩:=hfm
    obtain⟨i,hi⟩:=aO hf'
    have h1:=hf i f' (by simpa using hi)
    have hix:i<xs.length:=by
     have:=(ah.1 hi).1
     rw[hxl];simpa using this
    have h2:xs[i]?=some xs[i]:=by simp[hix]
    rw[h2]at h1
    obtain⟨k1,ds,k2,k3,k4⟩:=ih f'.type (hpf f' hf') n' _ _ h1
    exact⟨ds,k2,k3.trans k1,k4⟩)
   refine⟨hcl,ds,?_,by simpa using q1,fun i d hd=>by simpa using q3 i d hd⟩
   unfold HasTy;rw[hu]
   exact⟨by rw[q1,hcl];rfl,fun f hf=>by simpa using (q2 (f.type,f.offset) (List.mem_map.2 ⟨f,hf,rfl⟩)).1⟩
  ·
   rename_i k e hu
   simp only[Bool.and_eq_true]at hpt
   obtain⟨hpe,hcov⟩:=hpt
   obtain⟨xs,n',rfl,_,hcl,hxl,hf⟩:=DataW.trod_array hu h
   obtain⟨ds,q1,q2,q3⟩:=parts (c:=c) (m:=m) cs (by rw[hcl]) _ 0 hcov (fun f hfm=>by
    simp only[List.mem_map,List.mem_range]at hfm
    obtain⟨i,hi,rfl⟩:=hfm
    have h1:=hf i hi
    have h2:xs[i]?=some (xs[i]'(by omega)):=by simp[show i<xs.length by omega]
    rw[h2]at h1
    obtain⟨k1,ds,k2,k3,k4⟩:=ih e hpe n' _ _ h1
    exact⟨ds,k2,k3.trans k1,k4⟩)
   refine⟨hcl,ds,?_,by simpa using q1,fun i d hd=>by simpa using q3 i d hd⟩
   unfold HasTy;rw[hu]
   exact⟨by rw[q1,hcl];rfl,fun i hi=>by simpa using (q2 (e,i*P.cellsOf e) (List.mem_map.2 ⟨i,by simpa using hi,rfl⟩)).1⟩
  ·cases hpt
end Go.Am
namespace Go.Am
open Go
variable [bW]
variable {H:Type}{enc:TypeId×Value->H}{P:Program}
theorem RE {W:World}{r:Reach}{b:Nat}{t:TypeId}{cs:Array Value}(h:Cell.okWide P W r b t (.agg cs)):False:=by
 unfold Cell.okWide at h
 split at h<;>first
  | (rename_i h2;cases h2;done)
  | (rename_i h2 _;cases h2;done)
  | skip
 unfold Cell.ok at h
 split at h<;>first
  | exact h
  | (rename_i h2;cases h2;done)
theorem P9 {W:World}{sp:Nat->Bool}{c:Ctx}(hp:c.hp=W.heap) (hown:∀g,¬c.own g){m:Nat}{t:TypeId}(hpt:plainT P m t=true){base:Nat}{v:Value}{d:DataW H}{ps:List MemPlace}
    (hval:Value.okWide P W .any base t v) (hd:DataW.Trod enc P W 0 sp true t v d ps):∃ds:List D,HasTy P m t ds/\aB c (mkElem P t ds) v:=by
  obtain⟨n,hn⟩:=hd
  obtain⟨hl,ds,h1,h2,h3⟩:=Mn hp hown m t hpt n _ _ hn
  refine⟨ds,h1,?_⟩
  have one:(∀cs,v≠.agg cs)->ds.length=1->aB c (ds.headD .undef) v:=by
    intro hna h1'
    have hc:v.cells = #[v]:=by cases v<;>first|rfl|exact absurd rfl (hna _)
    obtain⟨x,hx⟩:∃x,ds[0]?=some x:=⟨ds[0]'(by omega),by simp[show 0<ds.length by omega]⟩
    have:=(h3 0 x hx).2
    rw[hc]at this
    have e:ds.headD .undef=x:=by
      cases ds with
      | nil=>simp at hx
      | cons a r=>simpa using hx
    rw[e];simpa using this
  have agg:∀cs,v=.agg cs->aB c (.agg ds) v:=by
    rintro cs rfl
    refine .agg ds cs (by simpa[Value.cells] using h2.symm) (fun i x hx=>D.jj (h3 i x hx).1) (fun i x hx=>?_)
    have:=(h3 i x hx).2
    rw[<- aH]
    exact this
  unfold Value.okWide at hval
  unfold mkElem
  cases m with
  | zero=>simp[plainT]at hpt
  | succ m =>
    unfold plainT at hpt
    cases hu:P.underlying t with
    | none=>rw[hu]at hpt;simp at hpt
    | some u =>
      rw[hu]at hval hpt
      cases u<;>simp only at hval hpt ⊢<;>first
        | (obtain⟨cs,rfl,_⟩:=hval;exact agg cs rfl)
        | (refine one (fun cs hc=>?_) ?_
           · subst hc;exact RE hval
           · rw[h2,hl];simp only[Bool.and_eq_true,beq_iff_eq]at hpt;first|exact hpt.1.1|exact hpt)
        | cases hpt
def Ec (P:Program) (m:Nat):List TypeId->List D->Prop
 | [],ds=>ds=[]
 | t::ts,ds=>∃cs r,ds=mkElem P t cs::r/\HasTy P m t cs/\Ec P m ts r
theorem HZ {W:World}{sp:Nat->Bool}{c:Ctx}(hp:c.hp=W.heap) (hown:∀g,¬c.own g){m base:Nat}:∀(ts:List TypeId) (vs:List Value) (ds:List (DataW H)) (ps:List MemPlace),ts.all (plainT P m)=true ->
  (∀(j:Nat) t v,ts[j]?=some t->vs[j]?=some v->Value.okWide P W .any base t v)->DataW.TrodAll enc P W 0 sp true ts vs ds ps->vs.length=ts.length/\ds.length=ts.length /\
   ∃xs:List D,Ec P m ts xs/\xs.length=ts.length/\∀(i:Nat) (x:D),xs[i]?=some x->aB c x (vs.getD i Go.undef)
 | [],vs,ds,ps,_,_,h=>by
  obtain⟨rfl,rfl,rfl⟩:=trodAll_nil' h
  exact⟨rfl,rfl,[],rfl,rfl,by simp⟩
 | t::ts,vs,ds,ps,hpt,hval,h=>by
  simp only[List.all_cons,Bool.and_eq_true]at hpt
  obtain⟨v,vs',d,ds',p,q,rfl,rfl,rfl,h1,h2⟩:=ChangeShapes.trodAll_cons h
  obtain⟨cs,k1,k2⟩:=P9 hp hown hpt.1 (hval 0 t v rfl rfl) h1
  obtain⟨l1,l2,xs,k3,k4,k5⟩:=HZ hp hown ts vs' ds' q hpt.2 (fun j t v ht hv=>hval (j+1) t v (by simpa using ht) (by simpa using hv)) h2
  refine⟨by simp[l1],by simp[l2],mkElem P t cs::xs,⟨cs,xs,rfl,k1,k3⟩,by simp[k4],fun i x hx=>?_⟩
  cases i with
  | zero=>simp at hx;subst hx;simpa using k2
  | succ i=>simp at hx;simpa using k5 i x hx
where
 trodAll_nil' {vs:List Value}{ds:List (DataW H)}{ps:List MemPlace}(h:DataW.TrodAll enc P W 0 sp true [] vs ds ps):vs=[]/\ds=[]/\ps=[]:=ChangeShapes.trodAll_nil h
theorem KX {f:FuncId}{fn:Func}{s:ChangeSpec}{m:Nat}{tb:TypeId}(hpl:fn.params.toList.all (plainT P m)=true) (hrt:fn.resultTypes = #[tb]) (htb:P.underlying tb=some .bool)
  (hvars:s.vars=[]) (hspec:∀ds:List (DataW H),ds.length=fn.params.size->s.fn H (ds++[])={ results:=[.lit (.bool true)],args:=ds })
  (hl:laidOutB P=true) (hm:mapsRowed P=true) (hfull:((List.range P.types.size).all fun t=>match P.underlying t with|some (.slice e)=>decide (0<P.cellsOf e)|_=>true)=true)
  (hin:∀t∈fn.params.toList,t<P.types.size)
  (hv:∀xs,Ec P m fn.params.toList xs->aY P f xs (· = .bool true))
  (W:World) (base:Nat) (args:Array Value) (ds gs:List (DataW H)) (before:List MemPlace)
  (hval:∀(j:Nat) t v,fn.params[j]?=some t->args[j]?=some v->Value.okWide P W .any base t v)
  (hW:DataW.Whole enc P fn.params.toList s.vars false W args.toList ds gs before)
  (htab:∀g vs,bW.tab g=some vs->g<W.heap.size/\∀(k:Nat) (v:Value),vs[k]?=some v->cellOf W.heap g k=some v) :
  Calls P f args W fun e W'=>∃v,e=.returned v/\s.post enc P fn false true false false W args v W':=by
 have hW':=hW
 obtain⟨p,q,hA,hV,rfl,hfz,hnd⟩:=hW
 rw[hvars]at hV
 obtain⟨rfl,rfl⟩:=ChangeShapes.trodVars_none hV
 let c:Ctx:=⟨fun _=>none,⟨fun _=>False,0,[]⟩,iG,W.heap⟩
 have hown:∀g,¬c.own g:=by
  rintro g (h|⟨n,h,_⟩)
  ·exact h
  ·cases h
 have hr:av c:=⟨fun n=>trivial,fun n m' g h=>(by cases h),fun n g h=>(by cases h),fun g h=>h.elim,⟨0,fun n _=>rfl⟩,fun g vs hg=>⟨(htab g vs hg).2,hown g,(htab g vs hg).1⟩,Nat.zero_le _⟩
 obtain⟨l1,l2,xs,h1,h2,h3⟩:=HZ (c:=c) rfl hown fn.params.toList args.toList ds p hpl (fun j t v ht hv=>hval j t v (by simpa using ht) (by simpa using hv)) hA
 refine(hv xs h1 c W args (fun _=>rfl) rfl hr (by rw[h2, <- l1];simp) (fun i x hx=>by rw[<- aH];exact h3 i x hx)).mono ?_
 rintro e W' ⟨v,r,rfl,hle,hws,hrel,_,rfl⟩
 have hvt:v=.bool true:=by cases hrel;rfl
 subst hvt
 have hk:∀b,b<W.heap.size->W'.heap[b]?=W.heap[b]?:=fun b hb=>hle.keep b hb (fun n hn=>by cases hn)
 have hdl:ds.length=fn.params.size:=by rw[l2];simp
 have hsp:=hspec ds hdl
 refine⟨_,rfl,ds,[],p++[],[],p,[],hW',?_,?_,?_,?_,fun h=>by cases h⟩
 ·rw[hsp,hrt]
  exact ChangeShapes.trodAll_mk1 (RowKit.shut_bool htb true)
 ·rw[hsp]
  refine xQ hk ?_
  exact DataW.TrodAll.respare (kids_rows hl hm) (slices_full_of P hfull) hin hA (fun x hx=>by simpa using hW'.lt x (by simpa using hx))
 ·rw[hvars,hsp];rfl
 ·refine⟨hws.os,hws.output,fun i hi=>?_⟩
  rw[hk i hi]
  cases hb:W.heap[i]? with
  | none=>rfl
  | some o=>cases o<;>simp
end Go.Am
namespace Go.Am
open Go
theorem RQ (a b:Nat) (ha:a<18446744073709551616) (hb:b<18446744073709551616):ibits .and .u64 (a:Int) (b:Int)=((a &&& b:Nat):Int):=by
 have hx:a &&& b<2 ^ 64:=Nat.and_lt_two_pow _ (by omega)
 have h1:(BitVec.ofInt 64 (a:Int)).toNat=a:=by
  rw[BitVec.ofInt_natCast,BitVec.toNat_ofNat];exact Nat.mod_eq_of_lt (by omega)
 have h2:(BitVec.ofInt 64 (b:Int)).toNat=b:=by
  rw[BitVec.ofInt_natCast,BitVec.toNat_ofNat];exact Nat.mod_eq_of_lt (by omega)
 show IntKind.u64.wrap ((BitVec.ofInt 64 (a:Int) &&& BitVec.ofInt 64 (b:Int)).toNat:Int)=_
 rw[BitVec.toNat_and,h1,h2]
 simp only[IntKind.wrap,IntKind.signed,IntKind.bits]
 simp
 omega
theorem RN (a b:Nat) (hb:b<=64):G6 .u64 (a:Int) (b:Int)=((a / 2 ^ b:Nat):Int):=by
 unfold G6
 have e:min ((b:Int).toNat) IntKind.u64.bits=b:=by
  simp only[IntKind.bits,aA];omega
 rw[e]
 have:((2:Int) ^ b)=((2 ^ b:Nat):Int):=by simp
 rw[this]
 rw[Int.fdiv_eq_ediv_of_nonneg _ (Int.natCast_nonneg _)]
 exact(Int.natCast_ediv a (2 ^ b)).symm
theorem L7 (n:Nat):IntKind.u64.wrap (n:Int)=((n % 18446744073709551616:Nat):Int):=by
 simp only[IntKind.wrap,IntKind.signed,IntKind.bits]
 simp
variable {P:Program}{m:Nat}{t e:TypeId}{k:IntKind}{ds:List D}
theorem E5 (h:P.underlying t=some (.int k)) (hd:HasTy P (m+1) t ds):∃i,ds=[.int k i]/\k.min<=i/\i<=k.max:=by
 unfold HasTy at hd
 rw[h]at hd
 obtain⟨i,h1,h2⟩:=hd
 simp[Lit.wf]at h2
 exact⟨i,h1,h2.1,h2.2⟩
theorem sX (h:P.underlying t=some (.slice e)) (hd:HasTy P (m+1) t ds):∃xs:List (List D),ds=[.sl (xs.map (mkElem P e))]/\xs.length<=maxLen/\∀x∈xs,HasTy P m e x:=by
 unfold HasTy at hd
 rw[h]at hd
 exact hd
def structL (P:Program) (t:TypeId):Option (List (TypeId×Nat)):=match P.underlying t with
 | some (.struct fs)=>some (fs.toList.map fun f=>(f.type,f.offset))
 | _=>none
theorem yr {l:List (TypeId×Nat)}(h:structL P t=some l) (hd:HasTy P (m+1) t ds):ds.length=P.cellsOf t/\∀q∈l,HasTy P m q.1 ((ds.drop q.2).take (P.cellsOf q.1)):=by
 unfold HasTy at hd
 unfold structL at h
 split at h
 ·rename_i fs hu
  rw[hu]at hd
  cases h
  refine⟨hd.1,fun q hq=>?_⟩
  obtain⟨f,hf,rfl⟩:=List.mem_map.1 hq
  exact hd.2 f hf
 ·cases h
theorem Hc {n:Nat}(h:P.underlying t=some (.array n e)) (hd:HasTy P (m+1) t ds):ds.length=P.cellsOf t/\∀i,i<n->HasTy P m e ((ds.drop (i*P.cellsOf e)).take (P.cellsOf e)):=by
 unfold HasTy at hd
 rw[h]at hd
 exact hd
theorem E1 {l:List (TypeId×Nat)}(h:structL P t=some l) (cs:List D):mkElem P t cs=.agg cs:=by
 unfold structL at h
 unfold mkElem
 split at h
 ·rename_i hu;rw[hu]
 ·cases h
theorem M8 {n:Nat}(h:P.underlying t=some (.array n e)) (cs:List D):mkElem P t cs=.agg cs:=by unfold mkElem;rw[h]
theorem RH (h:P.underlying t=some (.int k)) (d:D):mkElem P t [d]=d:=by unfold mkElem;rw[h];rfl
theorem M7 (h:P.underlying t=some (.slice e)) (d:D):mkElem P t [d]=d:=by unfold mkElem;rw[h];rfl
theorem IF (h:P.underlying t=some (.slice e)) (he:P.underlying e=some (.int k)) (hd:HasTy P (m+2) t ds):∃xs:List Int,ds=[.sl (xs.map (.int k))]/\xs.length<=maxLen/\∀x∈xs,k.min<=x/\x<=k.max:=by
 obtain⟨xs,h1,h2,h3⟩:=sX h hd
 have:∃ys:List Int,xs.map (mkElem P e)=ys.map (.int k)/\ys.length=xs.length/\∀x∈ys,k.min<=x/\x<=k.max:=by
  clear h1 h2
  induction xs with
  | nil=>exact⟨[],rfl,rfl,fun x hx=>by cases hx⟩
  | cons x r ih =>
   obtain⟨ys,g1,g2,g3⟩:=ih fun x hx=>h3 x (List.mem_cons_of_mem _ hx)
   obtain⟨i,hi,hi1,hi2⟩:=E5 he (h3 x List.mem_cons_self)
   refine⟨i::ys,?_,by simp[g2],fun y hy=>?_⟩
   ·simp only[List.map_cons,g1,hi,RH he]
   ·rcases List.mem_cons.1 hy with rfl|hy
    ·exact⟨hi1,hi2⟩
    ·exact g3 y hy
 obtain⟨ys,g1,g2,g3⟩:=this
 exact⟨ys,by rw[h1,g1],by omega,g3⟩
end Go.Am
namespace Go.Am
open Go
variable [bW]
variable {P:Program}
structure Ow (h:Heap) (M esz:Nat) (els:List D):Prop where
 out:M∉els.flatMap D.nm
 el:∀e∈els,aN e/\mB h e/\∀y,y∈(e.fz h).cells->y.vone=true
def Hb (h:Heap) (M esz:Nat) (els:List D):Heap:=aD (h.freezeAll (els.flatMap D.nm)) M (.arr esz (els.map (D.fz h)))
theorem K3 {h:Heap}{M esz:Nat}{els:List D}:Hb h M esz els M=.arr esz (els.map (D.fz h)):=ar _ _ _
theorem IE {h:Heap}{M esz k:Nat}{els:List D}(h1:k≠M) (h2:k∉els.flatMap D.nm):Hb h M esz els k=h k:=by
 unfold Hb;rw[an _ _ h1,iF _ h2]
theorem F4 {h:Heap}{e:D}:(e.fz h).cells.length=e.cells.length:=by
 cases e with
 | ms n off len =>
  simp only[D.fz,D.fzc]
  cases hr:(h n).row with
  | none=>rfl
  | some p=>obtain⟨a,b⟩:=p;rfl
 | agg cs=>simp[D.fz,D.cells]
 | _=>rfl
theorem Pt {h:Heap}{e:D}{j:Nat}:(e.fz h).cells[j]?=(e.cells[j]?).map (D.fzc h):=by
 cases e with
 | agg cs=>simp[D.fz,D.cells]
 | ms n off len =>
  simp only[D.fz,D.cells,D.fzc]
  cases j with
  | zero =>
   cases hr:(h n).row with
   | none=>simp[D.fzc,hr]
   | some p=>obtain⟨a,b⟩:=p;simp[D.fzc,hr]
  | succ j =>
   cases hr:(h n).row with
   | none=>simp
   | some p=>obtain⟨a,b⟩:=p;simp
 | _=>cases j<;>simp[D.fz,D.fzc,D.cells]
theorem Ha {c:Ctx}(hr:av c){M esz:Nat}{els:List D}(hM:c.h M=.arr esz els) (hd:Ow c.h M esz els) :
  c.le ⟨c.ρ,c.X,Hb c.h M esz els,c.hp⟩/\av ⟨c.ρ,c.X,Hb c.h M esz els,c.hp⟩:=by
 obtain⟨g1,g2⟩:=fq hr (els.flatMap D.nm)
 have hM1:(c.h.freezeAll (els.flatMap D.nm)) M=.arr esz els:=by rw[iF _ hd.out,hM]
 have hlen:∀e∈els,e.cells.length=esz:=by
  have:=hr.slot M
  rw[hM]at this
  exact this.2.1
 have key:=Oh (c:=⟨c.ρ,c.X,c.h.freezeAll (els.flatMap D.nm),c.hp⟩) g2 (els':=els.map (D.fz c.h)) hM1 (by simp) (fun e he=>?_) (fun i j d h=>?_) (fun i j d' h=>?_)
 ·exact⟨g1.trans key.1,key.2⟩
 ·simp only[List.mem_map]at he
  obtain⟨x,hx,rfl⟩:=he
  rw[F4];exact hlen x hx
 ·simp only[aM,List.getElem?_map,Option.bind_eq_some_iff,Option.map_eq_some_iff]at h
  obtain⟨e,⟨x,hx,rfl⟩,h2⟩:=h
  exact D.jj ((hd.el x (ak hx)).2.2 d (ak h2))
 ·simp only[aM,List.getElem?_map,Option.bind_eq_some_iff,Option.map_eq_some_iff]at h
  obtain⟨e,⟨x,hx,rfl⟩,h2⟩:=h
  obtain⟨q1,q2,q3⟩:=hd.el x (ak hx)
  rw[Pt,Option.map_eq_some_iff]at h2
  obtain⟨y,hy,rfl⟩:=h2
  refine⟨y,by simp[aM,hx,hy],fun v hv=>?_⟩
  have hym:=ak hy
  have hre:∀n,((c.h.freezeAll (els.flatMap D.nm)) n).row=(c.h n).row:=fun n=>qW _ n
  have hy1:=q1 y hym
  have hyc:y.cells=[y]:=by cases y<;>first|rfl|cases hy1
  have hfz:y.fz c.h=y.fzc c.h:=by cases y<;>first|rfl|cases hy1
  have hnm:y.nm=y.jV:=by cases y<;>first|rfl|cases hy1
  have:=(DA (Ctx.le.refl _) g2 hv (fun z hz=>by rw[hyc]at hz;simp at hz;subst hz;exact hy1) (IH hre (fun z hz=>by rw[hyc]at hz;simp at hz;subst hz;exact q2 z hym)) (fun n esz' es hn hrow=>?_)).1
  ·rw[Nk hre,hfz]at this;exact this
  ·rw[hre n]at hrow
   refine fX _ hrow (List.mem_flatMap.2 ⟨x,ak hx,?_⟩)
   rw[hnm]at hn
   cases x with
   | agg cs=>exact List.mem_flatMap.2 ⟨y,hym,hn⟩
   | _=>simp only[D.cells,List.mem_singleton]at hym;subst hym;exact hn
inductive Ou:Heap->Heap->Prop where
 | refl (h:Heap):Ou h h
 | step {h h':Heap}{M esz:Nat}{els:List D}(hM:h M=.arr esz els) (hd:Ow h M esz els) (k:Ou (Hb h M esz els) h'):Ou h h'
theorem K1 {h h':Heap}(k:Ou h h'):∀{c:Ctx},c.h=h->av c->c.le ⟨c.ρ,c.X,h',c.hp⟩/\av ⟨c.ρ,c.X,h',c.hp⟩:=by
 induction k with
 | refl h=>intro c hc hr;subst hc;exact⟨Ctx.le.refl c,hr⟩
 | step hM hd _ ih =>
  intro c hc hr
  subst hc
  obtain⟨g1,g2⟩:=Ha hr hM hd
  obtain⟨g3,g4⟩:=ih (c:=⟨c.ρ,c.X,_,c.hp⟩) rfl g2
  exact⟨g1.trans g3,g4⟩
theorem Ky {f:FuncId}{ds:List D}{K:D->Prop}(ha:ai P f ds iG (fun r h'=>∃h'',Ou h' h''/\kS r/\v8 h'' r/\(r.fzt h'').Il=true/\K (r.fzt h''))):aY P f ds K:=by
 intro c w vals hh hp hr hs hrel
 have gM:c.h=iG:=funext hh
 have:=ha c w vals gM hp hr hs hrel
 refine this.mono ?_
 rintro e w' ⟨v,r,ρ,h',rfl,h1,h2,h3,h4,h'',hi,h5,h6,h7,h8⟩
 obtain⟨k1,k2⟩:=K1 hi (c:=⟨ρ,c.X,h',w'.heap⟩) rfl h2
 obtain⟨g1,g2⟩:=fq k2 r.nmt
 have hz:=Ka g1 g2 (h4.mono k1) h5 h6 (fun n esz els hn hrow=>fX _ hrow hn)
 have hown:∀g,¬(⟨ρ,c.X,h''.freezeAll r.nmt,w'.heap⟩:Ctx).own g->¬(⟨c.ρ,c.X,c.h,w'.heap⟩:Ctx).own g:=by
  rintro g hn (hX|⟨n,hm,_⟩)
  ·exact hn (Or.inl hX)
  ·simp only[hh n]at hm;cases hm
 refine⟨v,r.fzt h'',rfl,?_,h3,aB.Cs (c:=⟨ρ,c.X,h''.freezeAll r.nmt,w'.heap⟩) (c':=⟨c.ρ,c.X,c.h,w'.heap⟩) rfl hown hz h7,h7,h8⟩
 refine⟨h1.size,rfl,h1.keep,h1.shape,h1.loop,fun _ _=>rfl,fun _=>Trans.refl _,fun n g hm hρ _=>⟨n,hm,hρ⟩⟩
end Go.Am
namespace Go.Am
open Go
variable [bW]
variable {P:Program}
theorem Ou.trans {a b c:Heap}(h:Ou a b) (k:Ou b c):Ou a c:=by
 induction h with
 | refl _=>exact k
 | step hM hd _ ih=>exact .step hM hd (ih k)
structure VZ (P:Program) (fs:FuncId->Option aQ) where
 a:∀f F,fs f=some F->∀ds K h,Q6 P F ds K h->ai P f ds h K
 spec:FuncId->Option (List D->Option D)
 sp:∀f s,spec f=some s->∀ds r,s ds=some r->aY P f ds (· = r)
end Go.Am
namespace Go.Am
open Go
variable [bW]
variable {P:Program}
inductive Wk:D->D->Prop where
 | refl (d:D):Wk d d
 | nil:Wk .nil (.sl [])
 | sl (xs ys:List D) (hl:xs.length=ys.length) (h:∀(i:Nat) (x y:D),xs[i]?=some x->ys[i]?=some y->Wk x y):Wk (.sl xs) (.sl ys)
 | agg (xs ys:List D) (hl:xs.length=ys.length) (h:∀(i:Nat) (x y:D),xs[i]?=some x->ys[i]?=some y->Wk x y):Wk (.agg xs) (.agg ys)
 | tup (xs ys:List D) (hl:xs.length=ys.length) (h:∀(i:Nat) (x y:D),xs[i]?=some x->ys[i]?=some y->Wk x y):Wk (.tup xs) (.tup ys)
theorem Wk.one {d d':D}(h:Wk d d'):d'.one=d.one:=by cases h<;>rfl
theorem Wk.vone {d d':D}(h:Wk d d'):d'.vone=d.vone:=by cases h<;>rfl
theorem Wk.SE {xs:List D}{y:D}(h:Wk (.agg xs) y):∃ys,y=.agg ys/\xs.length=ys.length/\∀(i:Nat) (x y:D),xs[i]?=some x->ys[i]?=some y->Wk x y:=by
 cases h with
 | refl=>exact⟨xs,rfl,rfl,fun i x y h1 h2=>by rw[h1]at h2;cases h2;exact .refl _⟩
 | agg _ ys hl h=>exact⟨ys,rfl,hl,h⟩
theorem Wk.cells {e e':D}(h:Wk e e'):e.cells.length=e'.cells.length:=by
 cases h with
 | agg xs ys hl h=>exact hl
 | _=>rfl
theorem Wk.isAgg {e e':D}(h:Wk e e'):e'.isAgg=e.isAgg:=by cases h<;>rfl
theorem yB {e:D}(h:e.isAgg=false):e.cells=[e]:=by cases e<;>first|rfl|cases h
theorem nV {α:Type}{xs ys:List α}(hl:xs.length=ys.length){i:Nat}{y:α}(hy:ys[i]?=some y):∃x,xs[i]?=some x:=by
 have:=(ah.1 hy).1
 exact⟨xs[i]'(by omega),aC (by omega)⟩
theorem Ij {c:Ctx}{d d':D}(h:Wk d d'):∀v,aB c d v->aB c d' v:=by
 induction h with
 | refl d=>exact fun v hv=>hv
 | nil=>intro v hv;cases hv;exact .lD none 0 (by simp[maxLen])
 | agg xs ys hl h ih =>
  intro v hv
  cases hv with
  | agg _ vs hsz hone hrel =>
   refine .agg ys vs (by omega) (fun i d hd=>?_) (fun i d hd=>?_)
   ·obtain⟨x,hx⟩:=nV hl hd
    rw[(h i x d hx hd).one];exact hone i x hx
   ·obtain⟨x,hx⟩:=nV hl hd
    exact ih i x d hx hd _ (hrel i x hx)
 | tup xs ys hl h ih =>
  intro v hv
  cases hv with
  | tup _ vs hsz hrel =>
   refine .tup ys vs (by omega) (fun i d hd=>?_)
   obtain⟨x,hx⟩:=nV hl hd
   exact ih i x d hx hd _ (hrel i x hx)
 | sl xs ys hl h ih =>
  intro v hv
  cases hv with
  | lD p cap hm =>
   have:ys=[]:=List.length_eq_zero_iff.1 hl.symm
   subst this
   exact .lD p cap hm
  | sl _ b o cap esz f hne hc hm he hlen hone hcell hown hrel =>
   have key:∀i j d',aM ys i j=some d'->∃d,aM xs i j=some d/\d'.vone=true/\aB c d' (f i j):=by
    intro i j d' hd'
    simp only[aM,Option.bind_eq_some_iff]at hd'
    obtain⟨y,hy,hj⟩:=hd'
    obtain⟨x,hx⟩:=nV hl hy
    have hw:=h i x y hx hy
    by_cases ha:x.isAgg=true
    ·cases x with
     | agg cs =>
      obtain⟨cs',rfl,hcl,hcw⟩:=hw.SE
      simp only[D.cells]at hj
      obtain⟨a,haj⟩:=nV hcl hj
      have hin:∀k z,cs[k]?=some z->aM xs i k=some z:=fun k z hz=>by simp[aM,hx,D.cells,hz]
      have hr:aB c (.agg cs) (.agg ((List.range cs.length).map (f i)).toArray):=by
       refine .agg _ _ (by simp) (fun k z hz=>D.jj (hone i k z (hin k z hz))) (fun k z hz=>?_)
       have hk:=(ah.1 hz).1
       have:((List.range cs.length).map (f i)).toArray.getD k Go.undef=f i k:=by simp[Array.getD,hk]
       rw[this];exact hrel i k z (hin k z hz)
      have hr':=ih i _ _ hx hy _ hr
      refine⟨a,hin j a haj,?_,?_⟩
      ·rw[(hcw j a d' haj hj).vone];exact hone i j a (hin j a haj)
      ·cases hr' with
       | agg _ _ _ _ hrel' =>
        have hk:=(ah.1 hj).1
        have:=hrel' j d' hj
        have e:((List.range cs.length).map (f i)).toArray.getD j Go.undef=f i j:=by simp[Array.getD,show j<cs.length by omega]
        rw[e]at this;exact this
     | _=>cases ha
    ·have ha:x.isAgg=false:=by simpa using ha
     have hc1:=yB ha
     have hc2:=yB (hw.isAgg.trans ha)
     rw[hc2]at hj
     cases j with
     | succ j=>simp at hj
     | zero =>
      simp at hj;subst hj
      have hin:aM xs i 0=some x:=by simp[aM,hx,hc1]
      exact⟨x,hin,by rw[hw.vone];exact hone i 0 x hin,ih i x y hx hy _ (hrel i 0 x hin)⟩
   rw[hl]
   refine .sl ys b o cap esz f (fun e=>hne (by subst e;exact List.length_eq_zero_iff.1 hl)) (by omega) hm he (fun y hy=>?_) (fun i j d' hd'=>(key i j d' hd').choose_spec.2.1) (fun i j d' hd'=>?_) hown (fun i j d' hd'=>(key i j d' hd').choose_spec.2.2)
   ·obtain⟨i,hi⟩:=aO hy
    obtain⟨x,hx⟩:=nV hl hi
    rw[<- (h i x y hx hi).cells];exact hlen x (ak hx)
   ·obtain⟨d,hd,-⟩:=key i j d' hd'
    exact hcell i j d hd
theorem aY.wk {f:FuncId}{ds:List D}{K K':D->Prop}(hc:aY P f ds K) (hk:∀r,K r->∃r',Wk r r'/\r'.Il=true/\K' r'):aY P f ds K':=by
 intro c w vals hh hp hr hs hv
 refine(hc c w vals hh hp hr hs hv).mono ?_
 rintro e w' ⟨v,r,r1,r2,r3,r4,r5,r6⟩
 obtain⟨r',h1,h2,h3⟩:=hk r r6
 exact⟨v,r',r1,r2,r3,Ij h1 v r4,h2,h3⟩
inductive Kr:List D->List D->Prop where
 | nil:Kr [] []
 | cons {x y:D}{xs ys:List D}(h:Wk x y) (k:Kr xs ys):Kr (x::xs) (y::ys)
theorem Kr.get {xs ys:List D}(h:Kr xs ys):xs.length=ys.length/\∀(i:Nat) (x y:D),xs[i]?=some x->ys[i]?=some y->Wk x y:=by
 induction h with
 | nil=>exact⟨rfl,fun i x y h=>by simp at h⟩
 | cons h k ih =>
  refine⟨by simp[ih.1],fun i x y h1 h2=>?_⟩
  cases i with
  | zero=>simp at h1 h2;subst h1 h2;exact h
  | succ i=>exact ih.2 i x y (by simpa using h1) (by simpa using h2)
theorem aY.arg {f:FuncId}{ds ds':List D}{K:D->Prop}(hw:Kr ds ds') (hc:aY P f ds' K):aY P f ds K:=by
 intro c w vals hh hp hr hs hv
 obtain⟨hl,hw⟩:=hw.get
 refine hc c w vals hh hp hr (by omega) fun i d hd=>?_
 obtain⟨x,hx⟩:=nV hl hd
 exact Ij (hw i x d hx hd) _ (hv i x hx)
theorem ai.arg {f:FuncId}{ds ds':List D}{h:Heap}{K:HKq}(hw:Kr ds ds') (hc:ai P f ds' h K):ai P f ds h K:=by
 intro c w vals hh hp hr hs hv
 obtain⟨hl,hw⟩:=hw.get
 refine hc c w vals hh hp hr (by omega) fun i d hd=>?_
 obtain⟨x,hx⟩:=nV hl hd
 exact Ij (hw i x d hx hd) _ (hv i x hx)
theorem Wk.Ty {α:Type}{f g:α->D}(xs:List α) (h:∀x∈xs,Wk (f x) (g x)):Wk (.sl (xs.map f)) (.sl (xs.map g)):=by
 refine .sl _ _ (by simp) fun i x y h1 h2=>?_
 simp only[List.getElem?_map,Option.map_eq_some_iff]at h1 h2
 obtain⟨a,ha,rfl⟩:=h1
 obtain⟨b,hb,rfl⟩:=h2
 rw[ha]at hb;cases hb
 exact h a (ak ha)
theorem Wk.Uq {xs ys:List D}(h:Kr xs ys):Wk (.agg xs) (.agg ys):=.agg _ _ h.get.1 h.get.2
theorem Kr.rfl:∀{xs:List D},Kr xs xs
 | []=>.nil
 | x::r=>.cons (.refl x) Kr.rfl
end Go.Am
namespace Go.Am
open Go
variable [bW]
structure cY where
 kind:Int
 n:Int
 v:Int
deriving DecidableEq,Inhabited
structure aX where
 op:Int
 sub:Int
 n:Int
 d:cY
 a:cY
 b:cY
 c:cY
deriving DecidableEq,Inhabited
structure Term where
 kind:Int
 sub:Int
 d:cY
 a:cY
 b:cY
 to0:Int
 to1:Int
deriving DecidableEq,Inhabited
structure Block where
 i:List aX
 t:Term
deriving DecidableEq,Inhabited
structure vc where
 name:ByteArray
 space:Int
 type:Int
 len:Int
structure Loop where
 head:Int
 reg:Int
 bound:Int
deriving DecidableEq,Inhabited
structure Code where
 group:Int
 sub:Int
 regs:Int
 slots:Int
 params:Int
 arrays:List vc
 loops:List Loop
 b:List Block
def aj:cY:=⟨0,0,0⟩
def km:Term:=⟨0,0,aj,aj,aj,0,0⟩
def fe (n:Int):cY:=⟨2,n,0⟩
def Const (v:Int):cY:=⟨1,0,v⟩
def cY.cs (o:cY):List D:=[.int .i64 o.kind,.int .i64 o.n,.int .i32 o.v]
def cY.e (o:cY):D:=.agg o.cs
def aX.cs (x:aX):List D :=
  [.int .i64 x.op,.int .i64 x.sub,.int .i64 x.n,.int .i64 x.d.kind,.int .i64 x.d.n,.int .i32 x.d.v,.int .i64 x.a.kind,.int .i64 x.a.n,.int .i32 x.a.v,
   .int .i64 x.b.kind,.int .i64 x.b.n,.int .i32 x.b.v,.int .i64 x.c.kind,.int .i64 x.c.n,.int .i32 x.c.v]
def aX.e (x:aX):D:=.agg x.cs
def Term.cs (t:Term):List D :=
  [.int .i64 t.kind,.int .i64 t.sub,.int .i64 t.d.kind,.int .i64 t.d.n,.int .i32 t.d.v,.int .i64 t.a.kind,.int .i64 t.a.n,.int .i32 t.a.v,
   .int .i64 t.b.kind,.int .i64 t.b.n,.int .i32 t.b.v,.int .i64 t.to0,.int .i64 t.to1]
def Term.e (t:Term):D:=.agg t.cs
def Block.e (x:Block):D:=.agg (.sl (x.i.map aX.e)::x.t.cs)
def vc.e (x:vc):D:=.agg [.str x.name,.int .i64 x.space,.int .i64 x.type,.int .i64 x.len]
def Loop.e (x:Loop):D:=.agg [.int .i64 x.head,.int .i64 x.reg,.int .i64 x.bound]
def Code.e (c:Code):D :=
 .agg [.int .i64 c.group,.int .i64 c.sub,.int .i64 c.regs,.int .i64 c.slots,.int .i64 c.params,.sl (c.arrays.map vc.e),.sl (c.loops.map Loop.e),.sl (c.b.map Block.e)]
structure sx (d:D):Prop where
 vd:d.vd=true
 one:aN d
theorem sx.pair {d:D}(h:sx d):d.vd=true/\aN d:=⟨h.vd,h.one⟩
theorem aW {k:IntKind}{n:Int}:sx (.int k n):=⟨rfl,by simp⟩
theorem NL {b:Bool}:sx (.bool b):=⟨rfl,by simp⟩
theorem mT {xs:List D}:sx (.sl xs):=⟨rfl,by simp⟩
theorem PM:sx .nil:=⟨rfl,by simp⟩
theorem ez {cs:List D}(h:∀x∈cs,x.vone=true):sx (.agg cs):=⟨by simpa[D.vd] using h,fun x hx=>D.jj (h x hx)⟩
theorem cY.dS (o:cY):sx o.e:=ez (by simp[cY.cs])
theorem aX.dS (o:aX):sx o.e:=ez (by simp[aX.cs])
theorem Term.dS (o:Term):sx o.e:=ez (by simp[Term.cs])
theorem Block.dS (o:Block):sx o.e:=ez (by simp[Term.cs])
theorem vc.dS (o:vc):sx o.e:=ez (by simp)
theorem Loop.dS (o:Loop):sx o.e:=ez (by simp)
theorem Code.dS (o:Code):sx o.e:=ez (by simp)
def LX:List D->Prop
 | []=>True
 | d::r=>sx d/\LX r
theorem LX.all:∀{ds:List D},LX ds->∀d∈ds,d.vd=true/\aN d
 | [],_,d,h=>by cases h
 | x::r,hd,d,h=>by
  rcases List.mem_cons.1 h with rfl|h
  ·exact hd.1.pair
  ·exact LX.all hd.2 d h
theorem gb {P:Program}{f:FuncId}{ds:List D}{h:Heap}{KH:HKq}{r:D}(hv:aY P f ds (· = r)) (hds:LX ds) (hk:KH r h):ai P f ds h KH:=bO hv hds.all (by rintro _ rfl;exact hk)
theorem FD {P:Program}{f:FuncId}{as:List Arg}{h:Heap}{K:D->Prop}{r:D}(hv:aY P f (as.map (·.get [])) (· = r)) (hds:LX (as.map (·.get []))) (hk:K r):ae P (.call f as) h K:=qD hv hds.all hk
theorem GG {d:D}{h:Heap}{K:D->Prop}(hd:sx d) (hk:K d):sy K d h:=Oz hd.pair hk
end Go.Am
namespace Go.Am
open Go
variable [bW]
variable {P:Program}{KH:HKq}{K:D->Prop}{h:Heap}
theorem Vi {A:(HKq)->Prop}:vguard (.bool true) true A h KH=A KH:=by rw[jl];simp
theorem Vm {A:(HKq)->Prop}:vguard (.bool false) false A h KH=A KH:=by rw[jl];simp
theorem Vj {A:(HKq)->Prop}:vguard (.bool true) false A h KH=KH gU h:=by rw[jl];simp
theorem Vl {A:(HKq)->Prop}:vguard (.bool false) true A h KH=KH gU h:=by rw[jl];simp
theorem TP {A:(D->Prop)->Prop}:aF (.bool true) true A K=A K:=by rw[gk];simp
theorem Vp {A:(D->Prop)->Prop}:aF (.bool false) false A K=A K:=by rw[gk];simp
theorem Vo {A:(D->Prop)->Prop}:aF (.bool true) false A K=K gU:=by rw[gk];simp
theorem TQ {A:(D->Prop)->Prop}:aF (.bool false) true A K=K gU:=by rw[gk];simp
theorem GZ {x y:D}:aa P (.pick (.c (.bool true)) (.c x) (.c y)) h KH=KH x h:=rfl
theorem MU {x y:D}:aa P (.pick (.c (.bool false)) (.c x) (.c y)) h KH=KH y h:=rfl
theorem RD {KK:D->Prop}:vun .not (.bool true) KK=KK (.bool false):=rfl
theorem Pb {KK:D->Prop}:vun .not (.bool false) KK=KK (.bool true):=rfl
theorem KW {n j s:Nat}{cs:List D}{d:D}(a:h n=.box (.agg cs)) (hj:cs[j]?=some d):aa P (.ld (.c (.ptr n 0 j)) s false) h KH=KH d h:=by
 rw[xh,a];simp[fZ,hj]
theorem s9 {n j s:Nat}{cs:List D}{d:D}(a:h n=.box (.agg cs)) (hj:cs[j]?=some d):ae P (.ld (.c (.ptr n 0 j)) s false) h K=K d:=by
 rw[mU,KW a hj]
theorem lI {n:Nat}{cs:List D}(a:h n=.box (.agg cs)):aa P (.ld (.c (.ptr n 0 0)) cs.length true) h KH=KH (.agg cs) h:=by
 rw[xh,a];simp[kI]
theorem L1 {n j s:Nat}{cs:List D}(a:h n=.box (.agg cs)) (hj:j+s<=cs.length):aa P (.ld (.c (.ptr n 0 j)) s true) h KH=KH (.agg ((cs.drop j).take s)) h:=by
 rw[xh,a];simp[kI,hj]
theorem Qx {n:Nat}{x y z p q r:D}(a:h n=.box (.agg [x,y,z])) (h1:p.one=true) (h2:q.one=true) (h3:r.one=true) :
  aa P (.st (.c (.ptr n 0 0)) (.c (.agg [p,q,r])) 3) h KH=KH .undef (aD h n (.box (.agg [p,q,r]))):=by
 rw[mQ,a]
 apply propext
 constructor
 ·exact fun hh=>by simpa using hh.2.2
 ·intro hk
  refine⟨rfl,fun w hw=>?_,rfl,by simp,by simpa using hk⟩
  simp at hw;rcases hw with rfl|rfl|rfl<;>assumption
theorem UU {n:Nat}{x y z:D}{k1 k2 k3:IntKind}{p q r:Int}(a:h n=.box (.agg [x,y,z])) :
  aa P (.st (.c (.ptr n 0 0)) (.c (.agg [.int k1 p,.int k2 q,.int k3 r])) 3) h KH=KH .undef (aD h n (.box (.agg [.int k1 p,.int k2 q,.int k3 r]))):=Qx a rfl rfl rfl
theorem VA {x y:D}{p q:Int}:aa P (.bld [x,y] [(0,1,(.c (.int .i64 p))),(1,1,(.c (.int .i64 q)))]) h KH=KH (.agg [.int .i64 p,.int .i64 q]) h:=by
 rw[nT]
 simp[jD,fillD]
theorem Up {x y z:D}{p q:Int}:aa P (.bld [x,y,z] [(0,1,(.c (.int .i64 p))),(1,1,(.c (.int .i64 q)))]) h KH=KH (.agg [.int .i64 p,.int .i64 q,z]) h:=by
 rw[nT]
 simp[jD,fillD]
theorem Vz {x y z:D}{p q r:Int}:aa P (.bld [x,y,z] [(0,1,(.c (.int .i64 p))),(1,1,(.c (.int .i64 q))),(2,1,(.c (.int .i64 r)))]) h KH=KH (.agg [.int .i64 p,.int .i64 q,.int .i64 r]) h:=by
 rw[nT]
 simp[jD,fillD]
theorem Vw {z:List D}:aa P (.bld z []) h KH=KH (.agg z) h:=by
 rw[nT]
 simp[jD,fillD]
theorem R9 {x:D}{r:List D}:aa P (.ext (.c (.tup (x::r))) 0) h KH=KH x h:=rfl
theorem R8 {x y:D}{r:List D}:aa P (.ext (.c (.tup (x::y::r))) 1) h KH=KH y h:=rfl
theorem Vq {x y z:D}{r:List D}:aa P (.ext (.c (.tup (x::y::z::r))) 2) h KH=KH z h:=rfl
theorem T6 {x:D}{r:List D}:ae P (.ext (.c (.tup (x::r))) 0) h K=K x:=rfl
theorem T5 {x y:D}{r:List D}:ae P (.ext (.c (.tup (x::y::r))) 1) h K=K y:=rfl
theorem GF {ds:List D}{h:Heap}{K:D->Prop}(hd:∀d∈ds,d.vd=true/\aN d) (hk:K (.tup ds)):sy K (.tup ds) h:=by
 have one:∀d∈ds,d.fz h=d/\mB h d:=by
  intro d hdm
  obtain⟨h1,h2⟩:=hd d hdm
  obtain⟨a1,a2,a3⟩:=qU (h:=h) h1
  exact⟨a1,a3⟩
 have e:(D.tup ds).fzt h=.tup ds:=by
  simp only[D.fzt]
  rw[List.map_congr_left (fun d hdm=>(one d hdm).1)]
  simp
 refine⟨fun d hdm=>(hd d hdm).2,fun d hdm=>(one d hdm).2,?_,by rw[e];exact hk⟩
 rw[e]
 simp only[D.Il,List.all_eq_true]
 exact fun d hdm=>(hd d hdm).1
section
variable {k:IntKind}{a b:Int}
theorem Wg (h0:a<=b):vbin .leq (.int k a) (.int k b) K=K (.bool true):=by rw[Mh];simp[h0]
theorem Wh (h0:b<a):vbin .leq (.int k a) (.int k b) K=K (.bool false):=by rw[Mh];simp[show ¬a<=b by omega]
theorem jZ (h0:a<b):vbin .lss (.int k a) (.int k b) K=K (.bool true):=by rw[xM];simp[h0]
theorem jX (h0:b<=a):vbin .lss (.int k a) (.int k b) K=K (.bool false):=by rw[xM];simp[show ¬a<b by omega]
theorem VQ (h0:b<a):vbin .gtr (.int k a) (.int k b) K=K (.bool true):=by rw[xO];simp[h0]
theorem UG (h0:a<=b):vbin .gtr (.int k a) (.int k b) K=K (.bool false):=by rw[xO];simp[show ¬b<a by omega]
theorem VR (h0:b<=a):vbin .geq (.int k a) (.int k b) K=K (.bool true):=by rw[CN];simp[h0]
theorem VS (h0:a<b):vbin .geq (.int k a) (.int k b) K=K (.bool false):=by rw[CN];simp[show ¬b<=a by omega]
theorem Wm (h0:a=b):vbin .eql (.int k a) (.int k b) K=K (.bool true):=by rw[bQ];simp[h0]
theorem Wn (h0:a≠b):vbin .eql (.int k a) (.int k b) K=K (.bool false):=by rw[bQ];simp[h0]
theorem U7 (h0:a≠b):vbin .neq (.int k a) (.int k b) K=K (.bool true):=by rw[gK];simp[h0]
theorem U8 (h0:a=b):vbin .neq (.int k a) (.int k b) K=K (.bool false):=by rw[gK];simp[h0]
theorem cU (h1 : -9223372036854775808<=a+b) (h2:a+b<=9223372036854775807):vbin .add (.int .i64 a) (.int .i64 b) K=K (.int .i64 (a+b)):=by rw[eK,wrap64 h1 h2]
theorem GR (h1 : -9223372036854775808<=a-b) (h2:a-b<=9223372036854775807):vbin .sub (.int .i64 a) (.int .i64 b) K=K (.int .i64 (a-b)):=by rw[lS,wrap64 h1 h2]
theorem U9 (h1 : -9223372036854775808<=a*b) (h2:a*b<=9223372036854775807):vbin .mul (.int .i64 a) (.int .i64 b) K=K (.int .i64 (a*b)):=by rw[ES,wrap64 h1 h2]
theorem OW (h1:b≠0):vbin .rem (.int k a) (.int k b) K=K (.int k (a.tmod b)):=by rw[dt];simp[h1]
theorem U6 (h1 : -9223372036854775808<=0-a) (h2:0-a<=9223372036854775807):vun .neg (.int .i64 a) K=K (.int .i64 (0-a)):=by rw[Qt,wrap64 h1 h2]
end
def gS:=And.intro @Vi<|And.intro @Vm<|And.intro @Vj<|And.intro @Vl<|And.intro @xN<|And.intro @TP<|And.intro @Vp<|And.intro @Vo<|And.intro @TQ<|And.intro @um<|And.intro @GZ<|And.intro @MU<|And.intro @RD<|And.intro @Pb<|And.intro @ag<|And.intro @af<|And.intro @R9<|And.intro @R8<|And.intro @Vq<|And.intro @VA<|And.intro @Vz<|And.intro @Up<|And.intro @Vw<|And.intro @T6 @T5
def cS:=And.intro @Wg<|And.intro @Wh<|And.intro @jZ<|And.intro @jX<|And.intro @VQ<|And.intro @UG<|And.intro @VR<|And.intro @VS<|And.intro @Wm<|And.intro @Wn<|And.intro @U7<|And.intro @U8<|And.intro @cU<|And.intro @GR<|And.intro @U9<|And.intro @OW @U6
end Go.Am
namespace Go.Am
open Go
variable [bW]
variable {P:Program}{KH:HKq}{K:D->Prop}{h:Heap}{L:LSq}
structure Vs (h:Heap) (L:LSq):Prop where
 get:∀(i n:Nat) (s:Slot),L[i]?=some (n,s)->h n=s
 ne:∀(i j n m:Nat) (s s':Slot),L[i]?=some (n,s)->L[j]?=some (m,s')->i≠j->n≠m
 lv:∀(i n:Nat) (s:Slot),L[i]?=some (n,s)->s≠.free
theorem Vs.nil:Vs h []:=⟨fun i n s h=>by simp at h,fun i j n m s s' h=>by simp at h,fun i n s h=>by simp at h⟩
theorem Vs.push (V:Vs h L){n:Nat}(hn:h n=.free){s:Slot}(hs:s≠.free):Vs (aD h n s) ((n,s)::L):=by
 have Ox:∀(i m:Nat) (t:Slot),L[i]?=some (m,t)->m≠n:=by
  rintro i m t hi rfl
  exact V.lv i m t hi ((V.get i m t hi).symm.trans hn)
 refine⟨fun i m t hi=>?_,fun i j m m' t t' hi hj hij=>?_,fun i m t hi=>?_⟩
 ·cases i with
  | zero=>simp at hi;obtain⟨rfl,rfl⟩:=hi;exact ar _ _ _
  | succ i=>simp at hi;rw[an _ _ (Ox i m t hi)];exact V.get i m t hi
 ·cases i with
  | zero =>
   cases j with
   | zero=>exact absurd rfl hij
   | succ j=>simp at hi hj;obtain⟨rfl,rfl⟩:=hi;exact(Ox j m' t' hj).symm
  | succ i =>
   cases j with
   | zero=>simp at hi hj;obtain⟨rfl,rfl⟩:=hj;exact Ox i m t hi
   | succ j=>simp at hi hj;exact V.ne i j m m' t t' hi hj (by omega)
 ·cases i with
  | zero=>simp at hi;obtain⟨rfl,rfl⟩:=hi;exact hs
  | succ i=>simp at hi;exact V.lv i m t hi
theorem Vs.cc (V:Vs h L) (i:Nat){n:Nat}{s:Slot}(hi:L[i]?=some (n,s)){s':Slot}(hs:s'≠.free):Vs (aD h n s') (L.set i (n,s')):=by
 have hil:=(ah.1 hi).1
 have key:∀(j m:Nat) (t:Slot),(L.set i (n,s'))[j]?=some (m,t)->(j=i/\m=n/\t=s')\/(j≠i/\L[j]?=some (m,t)):=by
  intro j m t hj
  rw[List.getElem?_set]at hj
  by_cases e:i=j
  ·subst e;rw[if_pos rfl]at hj;simp[hil]at hj;exact Or.inl ⟨rfl,hj.1.symm,hj.2.symm⟩
  ·rw[if_neg e]at hj;exact Or.inr ⟨fun q=>e q.symm,hj⟩
 refine⟨fun j m t hj=>?_,fun j k m m' t t' hj hk hjk=>?_,fun j m t hj=>?_⟩
 ·rcases key j m t hj with⟨-,rfl,rfl⟩|⟨h1,h2⟩
  ·exact ar _ _ _
  ·rw[an _ _ (V.ne j i m n t s h2 hi h1)];exact V.get j m t h2
 ·rcases key j m t hj with⟨rfl,rfl,rfl⟩|⟨h1,h2⟩<;>rcases key k m' t' hk with⟨rfl,rfl,rfl⟩|⟨g1,g2⟩
  ·exact absurd rfl hjk
  ·exact(V.ne k j m' m t' s g2 hi g1).symm
  ·exact V.ne j k m m' t s h2 hi h1
  ·exact V.ne j k m m' t t' h2 g2 hjk
 ·rcases key j m t hj with⟨-,-,rfl⟩|⟨-,h2⟩
  ·exact hs
  ·exact V.lv j m t h2
theorem Vs.keep (V:Vs h L){h':Heap}(hk:∀k,h k≠.free->h' k=h k):Vs h' L :=
 ⟨fun i n s hi=>by have:=V.get i n s hi;rw[hk n (by rw[this];exact V.lv i n s hi)];exact this,V.ne,V.lv⟩
theorem Vs.Dv (V:Vs h L){h':Heap}(hk:∀(k:Nat) (s:Slot),(∃i:Nat,L[i]?=some (k,s))->h' k=h k):Vs h' L :=
 ⟨fun i n s hi=>by rw[hk n s ⟨i,hi⟩];exact V.get i n s hi,V.ne,V.lv⟩
theorem Vs.pop {x:Nat×Slot}(V:Vs h (x::L)):Vs h L :=
 ⟨fun i n s hi=>V.get (i+1) n s (by simpa using hi),fun i j n m s s' hi hj hij=>V.ne (i+1) (j+1) n m s s' (by simpa using hi) (by simpa using hj) (by omega),fun i n s hi=>V.lv (i+1) n s (by simpa using hi)⟩
theorem Vs.box (V:Vs h L){d:D}(ho:aN d) (hK:∀n h',Vs h' ((n,.box d)::L)->KH (.ptr n 0 0) h'):aa P (.box (.c d)) h KH:=by
 rw[Dz]
 exact⟨ho,fun n t=>hK n _ (V.push t.free (by simp))⟩
theorem Vs.alloc (V:Vs h L){d:D}(hK:∀n h',Vs h' ((n,.box d)::L)->KH (.ptr n 0 0) h'):aa P (.alloc d) h KH:=by
 rw[gf]
 exact fun n t=>hK n _ (V.push t.free (by simp))
theorem Vs.JS (V:Vs h L){esz bytes l:Nat}{z:D}(hb:l*bytes<=140737488355328) (hl:l<=9223372036854775807) (hK:∀n h',Vs h' ((n,.arr esz (List.replicate l z))::L)->KH (.ms n 0 l) h'):aa P (.mk esz bytes z (.c (.int .i64 (l:Int))) (.c (.int .i64 (l:Int)))) h KH:=by
 rw[TO]
 refine⟨by omega,by omega,by have:=Int.ofNat_le.2 hb;simpa using this,by omega,fun n t=>?_⟩
 rw[aA]
 exact hK n _ (V.push t.free (by simp))
theorem Vs.p8 (V:Vs h L) (i:Nat){n s:Nat}{cs cs':List D}(hi:L[i]?=some (n,.box (.agg cs))) (hl:cs.length=s) (hl':cs'.length=s) (ho:∀x,x∈cs'->x.one=true)
  (hK:∀h',Vs h' (L.set i (n,.box (.agg cs')))->KH .undef h'):aa P (.st (.c (.ptr n 0 0)) (.c (.agg cs')) s) h KH:=by
 rw[mQ,V.get i _ _ hi]
 refine⟨hl',ho,rfl,by simp[hl],?_⟩
 have e:setCells (.agg cs) 0 (D.agg cs').cells=.agg cs':=by
  show D.agg (cs.take 0++cs'++cs.drop (0+cs'.length))=_
  rw[List.take_zero,List.nil_append,Nat.zero_add,List.drop_of_length_le (by omega),List.append_nil]
 rw[e]
 exact hK _ (V.cc i hi (by simp))
theorem Vs.VN (V:Vs h L) (i:Nat){n j:Nat}{cs:List D}{d:D}(hi:L[i]?=some (n,.box (.agg cs))) (hj:j<cs.length) (ho:d.one=true)
  (hK:∀h',Vs h' (L.set i (n,.box (.agg (cs.set j d))))->KH .undef h'):aa P (.st (.c (.ptr n 0 j)) (.c d) 1) h KH:=by
 rw[mQ,V.get i _ _ hi]
 have hc:d.cells=[d]:=by cases d<;>first|rfl|cases ho
 refine⟨by rw[hc];rfl,fun x hx=>by rw[hc]at hx;simp at hx;subst hx;exact ho,rfl,by simp;omega,?_⟩
 have e:setCells (.agg cs) j d.cells=.agg (cs.set j d):=by
  rw[hc]
  show D.agg (cs.take j++[d]++cs.drop (j+1))=_
  rw[List.set_eq_take_append_cons_drop,if_pos hj]
  simp
 rw[e]
 exact hK _ (V.cc i hi (by simp))
theorem Vs.uK (V:Vs h L) (i:Nat){n j:Nat}{els:List D}{d:D}(hi:L[i]?=some (n,.arr 1 els)) (hj:j<els.length) (ho:d.one=true) (h1:∀x∈els,x.one=true)
  (hK:∀h',Vs h' (L.set i (n,.arr 1 (els.set j d)))->KH .undef h'):aa P (.st (.c (.ptr n j 0)) (.c d) 1) h KH:=by
 rw[mQ,V.get i _ _ hi]
 have hc:∀d:D,d.one=true->d.cells=[d]:=fun d ho=>by cases d<;>first|rfl|cases ho
 refine⟨by rw[hc d ho];rfl,fun x hx=>by rw[hc d ho]at hx;simp at hx;subst hx;exact ho,hj,by omega,fun y hy=>?_⟩
 have hy1:=h1 y (ak hy)
 have e:setCells y 0 d.cells=d:=by rw[hc d ho];cases y<;>first|rfl|cases hy1
 rw[e]
 exact hK _ (V.cc i hi (by simp))
theorem Vs.fa (V:Vs h L) (i:Nat){n o:Nat}{s:Slot}(hi:L[i]?=some (n,s)):aa P (.fadd (.c (.ptr n 0 0)) o) h KH=KH (.ptr n 0 o) h:=by
 have:=V.get i n s hi
 rw[ku,this]
 have hu:s.used=true:=Slot.Jv (V.lv i n s hi)
 apply propext
 exact⟨fun hh=>by simpa using hh.2,fun hk=>⟨hu,by simpa using hk⟩⟩
theorem Vs.cx (V:Vs h L) (i:Nat){n j:Nat}{cs:List D}{e:D}(hi:L[i]?=some (n,.box (.agg cs))) (he:cs[j]?=some e):aa P (.ld (.c (.ptr n 0 j)) 1 false) h KH=KH e h:=KW (V.get i _ _ hi) he
theorem Vs.lI (V:Vs h L) (i:Nat){n s:Nat}{cs:List D}(hi:L[i]?=some (n,.box (.agg cs))) (hl:cs.length=s):aa P (.ld (.c (.ptr n 0 0)) s true) h KH=KH (.agg cs) h:=by rw[<- hl,Go.Am.lI (V.get i _ _ hi)]
theorem Vs.tc (V:Vs h L) (i:Nat){n s:Nat}{cs:List D}(hi:L[i]?=some (n,.box (.agg cs))) (hl:cs.length=s):ae P (.ld (.c (.ptr n 0 0)) s true) h K=K (.agg cs):=by rw[mU,V.lI i hi hl]
theorem Vs.ia (V:Vs h L) (i:Nat){n l esz:Nat}{els:List D}{a:Int}(hi:L[i]?=some (n,.arr esz els)) (h0:0<=a) (h1:a<l):aa P (.iadd (.c (.ms n 0 l)) (.c (.int .i64 a)) esz) h KH=KH (.ptr n a.toNat 0) h:=by
 rw[mP]
 apply propext
 constructor
 ·exact fun hh=>by simpa using hh.2.2.2
 ·exact fun hk=>⟨h0,h1,⟨els,by rw[V.get i _ _ hi];rfl⟩,by simpa using hk⟩
theorem Vs.GB (V:Vs h L) (i:Nat){n l esz:Nat}{els:List D}{a:Int}(hi:L[i]?=some (n,.arr esz els)) (h0:0<=a) (h1:a<l):ae P (.iadd (.c (.ms n 0 l)) (.c (.int .i64 a)) esz) h K=K (.ptr n a.toNat 0):=by rw[mV,V.ia i hi h0 h1]
theorem Vs.xI (V:Vs h L) (i:Nat){n j:Nat}{els:List D}{d:D}(hi:L[i]?=some (n,.arr 1 els)) (hd:els[j]?=some d) (h1:d.one=true):aa P (.ld (.c (.ptr n j 0)) 1 false) h KH=KH d h:=by
 rw[xh,V.get i _ _ hi]
 obtain⟨hl,he⟩:=ah.1 hd
 have hc:d.cells=[d]:=by cases d<;>first|rfl|cases h1
 simp[fZ,hl,he,hc]
theorem Vs.EF (V:Vs h L) (i:Nat){n j:Nat}{els:List D}{d:D}(hi:L[i]?=some (n,.arr 1 els)) (hd:els[j]?=some d) (h1:d.one=true):ae P (.ld (.c (.ptr n j 0)) 1 false) h K=K d:=by rw[mU,V.xI i hi hd h1]
theorem lD {xs:List D}{a:Int}{esz:Nat}{d:D}(h0:0<=a) (hd:xs[a.toNat]?=some d) (hc:d.cells.length=esz):aa P (.iadd (.c (.sl xs)) (.c (.int .i64 a)) esz) h KH=KH (.vp d 0) h:=by
 rw[Aj]
 have hl:=(ah.1 hd).1
 apply propext
 constructor
 ·exact fun hh=>(hh.2.2 d hd).2
 ·exact fun hk=>⟨h0,by omega,fun d' hd'=>by rw[hd]at hd';cases hd';exact⟨hc,hk⟩⟩
theorem IL {xs:List D}{a:Int}{esz:Nat}{d:D}(h0:0<=a) (hd:xs[a.toNat]?=some d) (hc:d.cells.length=esz):ae P (.iadd (.c (.sl xs)) (.c (.int .i64 a)) esz) h K=K (.vp d 0):=by rw[mV,lD h0 hd hc]
theorem La {d:D}{o:Nat}:aa P (.fadd (.c (.vp d 0)) o) h KH=KH (.vp d o) h:=by rw[FY,Nat.zero_add]
theorem KV {cs:List D}{j:Nat}{e:D}(he:cs[j]?=some e):aa P (.ld (.c (.vp (.agg cs) j)) 1 false) h KH=KH e h:=by rw[vn,fZ];simp[he]
theorem IA {cs:List D}{s:Nat}(hl:cs.length=s):aa P (.ld (.c (.vp (.agg cs) 0)) s true) h KH=KH (.agg cs) h:=by
 subst hl
 rw[vn,kI];simp
theorem uR {d:D}(h1:d.one=true):aa P (.ld (.c (.vp d 0)) 1 false) h KH=KH d h:=by
 have hc:d.cells=[d]:=by cases d<;>first|rfl|cases h1
 rw[vn,fZ,hc];rfl
theorem Hx {d:D}(h1:d.one=true):ae P (.ld (.c (.vp d 0)) 1 false) h K=K d:=by rw[mU,uR h1]
end Go.Am
