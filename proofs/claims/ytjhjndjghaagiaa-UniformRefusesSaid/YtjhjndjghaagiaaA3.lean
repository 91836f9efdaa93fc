/- The abstract machine: what the operations of the program do, on plain data. No condition. -/
import Derived.OpenShut
import Derived.ReadAgain
import Derived.RowKit
import Derived.Test.YtjhjndjghaagiaaA2
set_option linter.unnecessarySimpa false
set_option linter.defProp false
set_option linter.unusedSectionVars false
set_option linter.unusedSimpArgs false
set_option linter.unusedVariables false
namespace Go.Am
open Go
variable [bH]
variable {P:Program}{nt:Nat}
variable {ops:Array Oper}{items:List AOper}{masks tl:List Nat}
def XT.B5 (X:XT) (wt:Nat->Option Nat):XT:=⟨fun x=>X.p x\/∃k,wt k=some x,X.lo,X.dfs⟩
theorem XT.B7 {X:XT}{wt:Nat->Option Nat}(h:∀k,wt k=none):X.B5 wt=X:=by
 cases X with
 | mk p lo dfs =>
  have:(fun x=>p x\/∃k,wt k=some x)=p:=by
   funext x
   exact propext ⟨fun hx=>hx.elim id fun ⟨k,hk⟩=>(by rw[h k]at hk;cases hk),Or.inl⟩
  simp only[XT.B5,this]
structure Fl (P:Program) where
 p:Nat
 m:Nat
 s:Nat
 fk:tQ P
structure OL (P:Program) (nt:Nat) (ops:Array Oper) (items:List AOper) (masks tl:List Nat) (f:Fl P):Prop where
 fm:tl[f.p]?=some f.m
 it:items[f.m]?=some ⟨some f.s,f.fk.op,none⟩
 us:∀(k:Nat) (b:AOper),items[k]?=some b->k≠f.m->b.dst≠some f.s
 sn:f.s<nt
 mko:∃(o:Oper),ops[f.m]?=some o/\A7 P f.fk o/\o.dst=some f.s/\o.guard=none
 ntm:∀l i:Nat,tl[l]?=some i->l<f.p->(masks.getD i 0).testBit f.m=false
 cok:∀q∈f.fk.cs,∀(k:Nat) (b:AOper),items[k]?=some b->b.dst=some q.1->k∉tl/\u7 masks tl k=0/\(masks.getD f.m 0).testBit k=true
structure wy (P:Program) (nt:Nat) (ops:Array Oper) (items:List AOper) (masks tl:List Nat) (fs:List (Fl P)):Prop extends rZ P nt ops items masks tl where
 tord:∀l k i i':Nat,tl[l]?=some i->tl[k]?=some i'->l<k->(∀f∈fs,k≠f.p)->(masks.getD i' 0).testBit i=true
 nd:∀l l' i:Nat,tl[l]?=some i->tl[l']?=some i->l=l'
 fl:∀f∈fs,OL P nt ops items masks tl f
 ind:∀f f',f∈fs->f'∈fs->f.p≠f'.p->(masks.getD f.m 0).testBit f'.m=false
 same:∀f f',f∈fs->f'∈fs->f.p=f'.p->f=f'
theorem wy.Ie {fs:List (Fl P)}(S:wy P nt ops items masks tl fs){f f':Fl P}(h:f∈fs) (h':f'∈fs) (e:f.m=f'.m):f=f' :=
 S.same f f' h h' (S.nd f.p f'.p f.m (S.fl f h).fm (by rw[e];exact(S.fl f' h').fm))
def LW (fs:List (Fl P)) (c₀:Ctx) (wt:Nat->Option Nat) (ρ:Nat->Option Nat) (h:Heap) (w:World):Prop :=
 c₀.le ⟨ρ,c₀.X,h,w.heap⟩/\∀k g,wt k=some g->c₀.hp.size<=g/\(∃f,f∈fs/\f.m=k/\w.heap[g]?=some f.fk.obj)/\∀n,(h n).mine->ρ n≠some g
theorem LW.mono {fs:List (Fl P)}{c₀:Ctx}{wt:Nat->Option Nat}{X:XT}{ρ ρ':Nat->Option Nat}{h h':Heap}{w w':World}(l:LW fs c₀ wt ρ h w) (k:Ctx.le ⟨ρ,X,h,w.heap⟩ ⟨ρ',X,h',w'.heap⟩):LW fs c₀ wt ρ' h' w':=by
 refine⟨l.1.trans (k.ON c₀.X c₀.X rfl),fun q g hq=>?_⟩
 obtain⟨l2,⟨f,f1,f2,l3⟩,l4⟩:=l.2 q g hq
 have hlt:=(Array.getElem?_eq_some_iff.1 l3).1
 refine⟨l2,⟨f,f1,f2,(k.keep g hlt l4).trans l3⟩,fun n hm hρ=>?_⟩
 obtain⟨m,h1,h2⟩:=k.born n g hm hρ hlt
 exact l4 m h1 h2
def zr (listed:Array Bool) (wt:Nat->Option Nat):Array Bool:=(Array.range listed.size).map fun k=>bR listed k&&(wt k).isNone
theorem eM {listed:Array Bool}{wt:Nat->Option Nat}:(zr listed wt).size=listed.size:=by simp[zr]
theorem b9 {listed:Array Bool}{wt:Nat->Option Nat}{k:Nat}(h:wt k=none):bR (zr listed wt) k=bR listed k:=by
 by_cases hk:k<listed.size
 ·simp[zr,bR,Array.getD,hk,h]
 ·simp[zr,bR,Array.getD,hk]
theorem iJ {listed:Array Bool}{wt:Nat->Option Nat}{k g:Nat}(h:wt k=some g) (hk:k<listed.size):bR (zr listed wt) k=false:=by
 simp[zr,bR,Array.getD,hk,h]
theorem Oh {listed:Array Bool}{wt:Nat->Option Nat}{k:Nat}(hk:k<listed.size) (h:bR (zr listed wt) k=true):bR listed k=true:=by
 cases hw:wt k with
 | none=>rwa [b9 hw]at h
 | some g=>rw[iJ hw hk]at h;cases h
theorem NB {fs:List (Fl P)}(S:wy P nt ops items masks tl fs){c₀:Ctx}(hX0:∀g,c₀.X g->g<c₀.hp.size){w₀:World}{K:LEnv->Heap->Prop}{l1 l2:Array Bool}{a:Act}{w:World}{wt:Nat->Option Nat}{g:Nat}{ρ:Nat->Option Nat}{h:Heap}{e:LEnv}{f:Fl P}(hf:f∈fs)
  (hwt:wt f.m=some g) (winj:∀k k' g,wt k=some g->wt k'=some g->k=k') (hs:l2.size=l1.size) (hls:∀k,bR l2 k=if k=f.m then true else bR l1 k) (hanc:∀k,(masks.getD f.m 0).testBit k=true->bR l2 k=true) (hl1:bR l1 f.m=false)
  (hJ:E5 P nt ops items masks tl (c₀.X.B5 wt) (LW fs c₀ wt) w₀ K l1 a w ρ h e f.p) (ht:a.tmps.getD f.s Go.undef=f.fk.val g) (hpre:∀q∈f.fk.cs,e.get q.1=.int q.2.1 q.2.2) :
  ∃ρ' h' e',E5 P nt ops items masks tl (c₀.X.B5 (aq wt f.m none)) (LW fs c₀ (aq wt f.m none)) w₀ K l2 a w ρ' h' e' (f.p+1) /\
   ∀s,(∀k b,items[k]?=some b->b.dst=some s->k≠f.m/\¬(k∉tl/\u7 masks tl k≠0))->e'.get s=e.get s:=by
 have F:=S.fl f hf
 obtain⟨hsz,hdc,⟨l1',lw⟩,hr,hws,hdef,htsz,hj,htail,hprog,hrel,hval⟩:=hJ
 obtain⟨l2',⟨f',f1,f2,l3⟩,l4⟩:=lw f.m g hwt
 cases S.Ie f1 hf f2
 have hmop:f.m<ops.size:=S.tlt f.m (List.mem_of_getElem? F.fm)
 have hlt:f.p<tl.length:=(List.getElem?_eq_some_iff.1 F.fm).1
 have hli:tl[f.p]=f.m:=(List.getElem?_eq_some_iff.1 F.fm).2
 rw[List.drop_eq_getElem_cons hlt,hli]at htail
 simp only[sRest,F.it,cZ]at htail
 have htail:=f.fk.hop _ _ _ hpre htail
 obtain⟨n,top⟩:=cJ hr
 have top:m8 h n:=top
 have hn:=top.free
 obtain⟨hk1,hk2⟩:=htail n top
 let c1:Ctx:=⟨ρ,c₀.X.B5 wt,h,w.heap⟩
 let c2:Ctx:=⟨aq ρ n (some g),c₀.X.B5 (aq wt f.m none),aq h n f.fk.slot,w.heap⟩
 have hglt:=(Array.getElem?_eq_some_iff.1 l3).1
 have wle:∀k x,aq wt f.m none k=some x->wt k=some x/\k≠f.m:=by
  intro k x hk
  by_cases hkm:k=f.m
  ·subst hkm;rw[aj]at hk;cases hk
  ·rw[ag _ _ hkm]at hk;exact⟨hk,hkm⟩
 have xle:∀b,c₀.X.B5 (aq wt f.m none) b->c₀.X.B5 wt b:=by
  rintro b (hx|⟨k,hk⟩)
  ·exact Or.inl hx
  ·exact Or.inr ⟨k,(wle k b hk).1⟩
 have sc:Hy c1 c2:=by
  refine⟨rfl,fun k hk=>?_,fun k hk=>?_,fun b hb ho=>?_⟩
  ·have:k≠n:=by rintro rfl;exact hk hn
   simp[c1,c2,aq,this]
  ·have:k≠n:=by rintro rfl;exact hk hn
   simp[c1,c2,aq,this]
  ·rcases ho with hx|⟨k,h1,h2⟩
   ·exact Or.inl (xle b hx)
   ·by_cases hk:k=n
    ·subst hk
     simp[c2,aq]at h2
     exact Or.inl (Or.inr ⟨f.m,by rw[hwt,h2]⟩)
    ·simp[c2,aq,hk]at h1 h2
     exact Or.inr ⟨k,h1,h2⟩
 have hle2:c₀.le ⟨aq ρ n (some g),c₀.X,aq h n f.fk.slot,w.heap⟩:=by
  have fr:∀k,c₀.h k≠.free->k≠n:=by
   rintro k hk rfl
   have:=l1'.tr k
   simp only at this
   rw[hn]at this
   cases hx:c₀.h k<;>rw[hx]at this hk<;>first|exact hk rfl|cases this
  refine⟨l1'.size,rfl,l1'.keep,l1'.shape,l1'.loop,fun k hk=>?_,fun k=>?_,fun k b h1 h2 hb=>?_⟩
  ·show aq ρ n (some g) k=_
   rw[ag _ _ (fr k hk)];exact l1'.names k hk
  ·show Trans _ (aq h n _ k)
   by_cases hk:k=n
   ·subst hk
    have:c₀.h k=.free:=by
     cases hx:c₀.h k<;>first|rfl|exact absurd rfl (fr k (by rw[hx];simp))
    rw[this];exact .free _
   ·rw[ag _ _ hk];exact l1'.tr k
  ·by_cases hk:k=n
   ·subst hk
    have h2':aq ρ k (some g) k=some b:=h2
    rw[aj]at h2'
    cases h2'
    omega
   ·have h1':(aq h n f.fk.slot k).mine:=h1
    have h2':aq ρ n (some g) k=some b:=h2
    rw[ag _ _ hk]at h1' h2'
    exact l1'.born k b h1' h2' hb
 have hg2:gG c2:=hr.glob.qT sc
 have hr2:an c2:=by
  refine⟨fun k=>?_,fun k1 k2 b m1 m2 r1 r2=>?_,fun k b hm hb hX=>?_,fun b hX=>?_,?_,hg2,hr.lo⟩
  ·show ca c2 k (aq h n f.fk.slot k)
   by_cases hk:k=n
   ·subst hk
    rw[aj]
    exact f.fk.hslot c2 k g (by simp[c2,aq]) l3
   ·rw[ag _ _ hk]
    exact ca.qT sc (fun _=>by simp[c1,c2,aq,hk]) (hr.slot k)
  ·have m1':(aq h n f.fk.slot k1).mine:=m1
   have m2':(aq h n f.fk.slot k2).mine:=m2
   have r1':aq ρ n (some g) k1=some b:=r1
   have r2':aq ρ n (some g) k2=some b:=r2
   by_cases e1:k1=n
   ·by_cases e2:k2=n
    ·rw[e1,e2]
    ·exfalso
     subst e1
     rw[aj]at r1'
     cases r1'
     rw[ag _ _ e2]at m2' r2'
     exact l4 k2 m2' r2'
   ·by_cases e2:k2=n
    ·exfalso
     subst e2
     rw[aj]at r2'
     cases r2'
     rw[ag _ _ e1]at m1' r1'
     exact l4 k1 m1' r1'
    ·rw[ag _ _ e1]at m1' r1'
     rw[ag _ _ e2]at m2' r2'
     exact hr.inj k1 k2 b m1' m2' r1' r2'
  ·have hm':(aq h n f.fk.slot k).mine:=hm
   have hb':aq ρ n (some g) k=some b:=hb
   have hX':c₀.X.B5 (aq wt f.m none) b:=hX
   by_cases hk:k=n
   ·subst hk
    rw[aj]at hb'
    cases hb'
    rcases hX' with hx|⟨k',hk'⟩
    ·have:=hX0 g hx
     omega
    ·obtain⟨q1,q2⟩:=wle k' g hk'
     exact q2 (winj _ _ _ q1 hwt)
   ·rw[ag _ _ hk]at hm' hb'
    exact hr.apart k b hm' hb' (xle b hX')
  ·exact hr.xlt b (xle b hX)
  ·obtain⟨N,hN⟩:=hr.fin
   refine⟨N+n+1,fun k hk=>?_⟩
   show aq h n _ k=_
   rw[ag _ _ (show k≠n by omega)]
   exact hN k (by omega)
 obtain⟨T,t1,t2,t3⟩:=yf S.torZ hk2
 have mtl:f.m∈tl:=List.mem_of_getElem? F.fm
 have hput:∀s',s'≠f.s->(e.put (some f.s) (f.fk.dv n)).get s'=e.get s':=by
  intro s' hs
  rw[LEnv.aU]
  simp[Env.put,aq,hs]
 refine⟨aq ρ n (some g),aq h n f.fk.slot,T,⟨hs.trans hsz,fun i k hi h1 h2=>?_,⟨hle2,fun k x hk=>?_⟩,hr2,hws,et.qT sc rfl rfl hdef,htsz,by omega,t1,fun l i hl=>?_,fun s'=>?_,fun k b hb hk hun hst=>?_⟩,fun s' hs'=>?_⟩
 ·by_cases him:i=f.m
  ·subst him;exact hanc k h2
  ·rw[hls,if_neg him]at h1
   have:=hdc i k hi h1 h2
   rw[hls];split;rfl;exact this
 ·obtain⟨q1,q2⟩:=wle k x hk
  obtain⟨z1,⟨f',z2,z3,z4⟩,z5⟩:=lw k x q1
  refine⟨z1,⟨f',z2,z3,z4⟩,fun n' hm hρ=>?_⟩
  have hm':(aq h n f.fk.slot n').mine:=hm
  have hρ':aq ρ n (some g) n'=some x:=hρ
  by_cases hk:n'=n
  ·subst hk
   rw[aj]at hρ'
   cases hρ'
   exact q2 (winj _ _ _ q1 hwt)
  ·rw[ag _ _ hk]at hm' hρ'
   exact z5 n' hm' hρ'
 ·by_cases him:i=f.m
  ·subst him
   have:=S.nd l f.p f.m hl F.fm
   rw[hls,if_pos rfl]
   simp[this]
  ·have:=hprog l i hl
   rw[hls,if_neg him,this]
   have:l≠f.p:=by rintro rfl;rw[F.fm]at hl;cases hl;exact him rfl
   omega
 ·by_cases hex:∃b,b∈gQ items masks tl (f.p+1)/\b.dst=some s'
  ·obtain⟨b,hb,hbd⟩:=hex
   obtain⟨k,h1,h2,h3⟩:=cA hb
   left
   refine⟨k,b,h1,h2,?_,hbd⟩
   have hkl:k<ops.size:=by rw[<- S.len];exact(List.getElem?_eq_some_iff.1 h1).1
   have hmk:=(S.stg k f.p f.m hkl h2 F.fm).2 (by omega)
   have hkm:k≠f.m:=by rintro rfl;exact h2 mtl
   rw[hls,if_neg hkm]
   cases hlk:bR l1 k with
   | false=>rfl
   | true =>
    have:=hdc k f.m hkl hlk hmk
    rw[hl1]at this
    cases this
  ·rw[t2 s' (fun b hb hbd=>hex ⟨b,hb,hbd⟩)]
   by_cases hs:s'=f.s
   ·subst hs
    right
    rw[LEnv.aU,ht]
    have:Env.put e.get (some f.s) (f.fk.dv n) f.s=f.fk.dv n:=by simp[Env.put,aq]
    rw[this]
    exact f.fk.hrel _ n g (by simp[aq]) (by simp[aq]) l3
   ·rw[hput s' hs]
    rcases hrel s' with⟨k,b,h1,h2,h3,h4⟩|h
    ·left
     refine⟨k,b,h1,h2,?_,h4⟩
     rw[hls,if_neg (by rintro rfl;exact h2 mtl)]
     exact h3
    ·exact Or.inr (ar.qT sc h)
 ·have hkm:k≠f.m:=by rintro rfl;exact hk mtl
  rw[hls,if_neg hkm]at hun
  rcases Nat.lt_or_ge (u7 masks tl k) (f.p+1) with hlt'|hge
  case inr =>
   have:u7 masks tl k=f.p+1:=by omega
   have hmm:=u5 (masks:=masks) hb hk
   rw[this]at hmm
   exact t3 b hmm
  have hkl:k<ops.size:=by rw[<- S.len];exact(List.getElem?_eq_some_iff.1 hb).1
  have v0:=hval k b hb hk hun (by omega)
  have hnanc:(masks.getD f.m 0).testBit k≠true:=by
   intro hmk
   have:=hanc k hmk
   rw[hls,if_neg hkm,hun]at this
   cases this
  have hni:¬(masks.getD k 0).testBit f.m=true:=by
   intro hmk
   have:=(S.stg k f.p f.m hkl hk F.fm).1 hmk
   omega
  have vput:bM P b (e.put (some f.s) (f.fk.dv n)) (aq h n f.fk.slot):=by
   by_cases hf:b.op.fL=true
   ·refine bM.congr (e:=e) (fun r hr'=>?_) (fun s' hs=>?_) (bM.free hf v0)
    ·rw[hput r]
     rintro rfl
     rcases S.rdt f.m k _ b F.it hb mtl hk f.s rfl hr' with hmm|hmm
     ·exact hni hmm
     ·exact hnanc hmm
    ·exact hput s' (by rintro rfl;exact F.us k b hb hkm hs)
   ·have hmm:b∈tZ items masks tl (f.p+1) f.m:=by
     simp only[tZ,sRevI,List.mem_filterMap,List.mem_filter,List.mem_range,Bool.and_eq_true,decide_eq_true_eq,Bool.not_eq_true']
     exact⟨k,⟨by rw[S.len];exact hkl,⟨⟨by simpa using hk,hlt'⟩,by simpa using hnanc⟩,by rw[hb];simpa using hf⟩,hb⟩
    have hopb:∀b',b'∈tZ items masks tl (f.p+1) f.m->b'.guard=none/\b'.op.isVal=true:=by
     intro b' hb'
     refine⟨(S.rev f.p f.m F.fm b' hb').1,?_⟩
     simp only[tZ,sRevI,List.mem_filterMap,List.mem_filter,List.mem_range,Bool.and_eq_true,decide_eq_true_eq,Bool.not_eq_true']at hb'
     obtain⟨k2,⟨q1,⟨⟨q2,q3⟩,q4⟩,q5⟩,q6⟩:=hb'
     have q7:k2<ops.size:=by rw[<- S.len];exact q1
     have:=(S.itv k2 ops[k2] b' (by simp[q7]) q6 (by simpa using q2)).op
     rw[if_neg (by simp)]at this
     exact ft this
    exact sD hopb hk1 b hmm (S.rev f.p f.m F.fm b hmm).2
  refine bM.congr (fun r hr'=>(t2 r fun x hx hxd=>?_).symm) (fun s' hs=>t2 s' fun x hx hxd=>?_) vput
  ·obtain⟨m',m1,m2,m3⟩:=cA hx
   have:=((S.rdv m' k x b m1 hb m2 r hxd).2 hr').2.2 hk
   omega
  ·obtain⟨m',m1,m2,m3⟩:=cA hx
   have hmk:k≠m':=by rintro rfl;omega
   exact(S.rdv k m' b x hb m1 hk s' hs).1 hmk hxd
 ·rw[t2 s' fun b hb hbd=>?_]
  ·refine hput s' ?_
   rintro rfl
   exact(hs' f.m _ F.it rfl).1 rfl
  ·obtain⟨k,h1,h2,h3⟩:=cA hb
   exact(hs' k b h1 hbd).2 ⟨h2,by omega⟩
inductive JG (P:Program) (nt:Nat) (ops:Array Oper) (items:List AOper) (masks tl:List Nat) (fs:List (Fl P)) (c₀:Ctx) (w₀:World) (K:LEnv->Heap->Prop) (d:Nat) (listed:Array Bool) (a:Act) (w:World):Prop
 | mk (wt:Nat->Option Nat) (ρ:Nat->Option Nat) (h:Heap) (e:LEnv) (j:Nat)
   (hw:∀k g,wt k=some g->∃f,f∈fs/\f.m=k/\j<f.p+d/\bR listed k=true/\(∀x,(masks.getD k 0).testBit x=true->bR listed x=true)/\a.tmps.getD f.s Go.undef=f.fk.val g)
   (wi:∀k k' g,wt k=some g->wt k'=some g->k=k')
   (he:∀f∈fs,j<=f.p->e.get f.s=.undef/\∀q∈f.fk.cs,e.get q.1=.int q.2.1 q.2.2)
   (hJ:E5 P nt ops items masks tl (c₀.X.B5 wt) (LW fs c₀ wt) w₀ K (zr listed wt) a w ρ h e j)
variable {fs:List (Fl P)}
theorem JG.size {c₀:Ctx}{w₀:World}{K:LEnv->Heap->Prop}{d:Nat}{listed:Array Bool}{a:Act}{w:World}(hJ:JG P nt ops items masks tl fs c₀ w₀ K d listed a w):listed.size=ops.size:=by
 cases hJ with
 | mk wt ρ h e j hw wi he hJ=>rw[<- hJ.size,eM]
theorem JG.dc (S:wy P nt ops items masks tl fs){c₀:Ctx}{w₀:World}{K:LEnv->Heap->Prop}{d:Nat}{listed:Array Bool}{a:Act}{w:World}(hJ:JG P nt ops items masks tl fs c₀ w₀ K d listed a w) :
  ∀i k,i<ops.size->bR listed i=true->(masks.getD i 0).testBit k=true->bR listed k=true:=by
 have hsz:=hJ.size
 cases hJ with
 | mk wt ρ h e j hw wi he hJ =>
  intro i k hi h1 h2
  cases hwi:wt i with
  | some g =>
   obtain⟨f,f1,f2,f3,f4,f5,f6⟩:=hw i g hwi
   exact f5 k h2
  | none =>
   have hk:=IS S.torZ i hi k h2
   exact Oh (by omega) (hJ.dc i k hi (by rw[b9 hwi];exact h1) h2)
theorem K7 (S:wy P nt ops items masks tl fs){c₀:Ctx}(hX0:∀g,c₀.X g->g<c₀.hp.size){w₀:World}{K:LEnv->Heap->Prop}{listed:Array Bool}{a:Act}{w:World}:∀(N:Nat) (wt:Nat->Option Nat) (ρ:Nat->Option Nat) (h:Heap) (e:LEnv) (j:Nat),tl.length-j<=N ->
  (∀k g,wt k=some g->∃f,f∈fs/\f.m=k/\j<f.p+1/\bR listed k=true/\(∀x,(masks.getD k 0).testBit x=true->bR listed x=true)/\a.tmps.getD f.s Go.undef=f.fk.val g)->(∀k k' g,wt k=some g->wt k'=some g->k=k') ->
  (∀f∈fs,j<=f.p->e.get f.s=.undef/\∀q∈f.fk.cs,e.get q.1=.int q.2.1 q.2.2)->E5 P nt ops items masks tl (c₀.X.B5 wt) (LW fs c₀ wt) w₀ K (zr listed wt) a w ρ h e j->JG P nt ops items masks tl fs c₀ w₀ K 0 listed a w:=by
 intro N
 induction N with
 | zero =>
  intro wt ρ h e j hN hw wi he hJ
  refine .mk wt ρ h e j (fun k g hk=>?_) wi he hJ
  obtain⟨f,f1,f2,f3,f4⟩:=hw k g hk
  have:=(List.getElem?_eq_some_iff.1 (S.fl f f1).fm).1
  omega
 | succ N ih =>
  intro wt ρ h e j hN hw wi he hJ
  by_cases hx:∃f g,f∈fs/\wt f.m=some g/\f.p=j
  ·obtain⟨f,g,hf,hwt,hp⟩:=hx
   subst hp
   have F:=S.fl f hf
   obtain⟨f',f1,f2,f3,f4,f5,f6⟩:=hw f.m g hwt
   cases S.Ie f1 hf f2
   have hsz:listed.size=ops.size:=by rw[<- hJ.size,eM]
   have hmop:f.m<ops.size:=S.tlt f.m (List.mem_of_getElem? F.fm)
   have hlt:f.p<tl.length:=(List.getElem?_eq_some_iff.1 F.fm).1
   have wle:∀k x,aq wt f.m none k=some x->wt k=some x/\k≠f.m:=by
    intro k x hk
    by_cases hkm:k=f.m
    ·subst hkm;rw[aj]at hk;cases hk
    ·rw[ag _ _ hkm]at hk;exact⟨hk,hkm⟩
   have hls:∀k,bR (zr listed (aq wt f.m none)) k=if k=f.m then true else bR (zr listed wt) k:=by
    intro k
    by_cases hk:k=f.m
    ·subst hk
     rw[if_pos rfl,b9 (by rw[aj]),f4]
    ·rw[if_neg hk]
     cases hwk:wt k with
     | none=>rw[b9 hwk,b9 (by rw[ag _ _ hk];exact hwk)]
     | some x =>
      obtain⟨f'',g1,g2,_⟩:=hw k x hwk
      have:k<listed.size:=by rw[hsz, <- g2];exact S.tlt _ (List.mem_of_getElem? (S.fl f'' g1).fm)
      rw[iJ hwk this,iJ (by rw[ag _ _ hk];exact hwk) this]
   have hanc:∀k,(masks.getD f.m 0).testBit k=true->bR (zr listed (aq wt f.m none)) k=true:=by
    intro k hk
    cases hwk:aq wt f.m none k with
    | none=>rw[b9 hwk];exact f5 k hk
    | some x =>
     obtain⟨q1,q2⟩:=wle k x hwk
     obtain⟨f'',g1,g2,_⟩:=hw k x q1
     have:=S.ind f f'' hf g1 (by rintro hpp;exact q2 (by rw[S.same f f'' hf g1 hpp,g2]))
     rw[g2,hk]at this
     cases this
   obtain⟨ρ',h',e',hJ',hes⟩:=NB S hX0 hf hwt wi (by rw[eM,eM]) hls hanc (iJ hwt (by omega)) hJ f6 (he f hf (Nat.le_refl _)).2
   refine ih _ ρ' h' e' (f.p+1) (by omega) (fun k x hk=>?_) (fun k k' x h1 h2=>wi k k' x (wle k x h1).1 (wle k' x h2).1) (fun f2 hf2 hp2=>?_) hJ'
   ·obtain⟨q1,q2⟩:=wle k x hk
    obtain⟨f'',g1,g2,g3,g4⟩:=hw k x q1
    refine⟨f'',g1,g2,?_,g4⟩
    have:f''.p≠f.p:=by rintro hpp;exact q2 (by rw[<- g2,S.same f'' f g1 hf hpp])
    omega
   ·obtain⟨u1,u2⟩:=he f2 hf2 (by omega)
    have F2:=S.fl f2 hf2
    have hne:f2.m≠f.m:=by
     intro hmm
     have:=S.Ie hf2 hf hmm
     subst this
     omega
    refine⟨?_,fun q hq=>?_⟩
    ·rw[hes f2.s fun k b hb hbd=>?_]
     ·exact u1
     ·have hk:k=f2.m:=Classical.byContradiction fun hk=>F2.us k b hb hk hbd
      exact⟨by rw[hk];exact hne,fun hh=>hh.1 (by rw[hk];exact List.mem_of_getElem? F2.fm)⟩
    ·rw[hes q.1 fun k b hb hbd=>?_]
     ·exact u2 q hq
     ·obtain⟨z1,z2,z3⟩:=F2.cok q hq k b hb hbd
      exact⟨by rintro rfl;exact z1 (List.mem_of_getElem? F.fm),fun hh=>hh.2 z2⟩
  ·refine .mk wt ρ h e j (fun k g hk=>?_) wi he hJ
   obtain⟨f,f1,f2,f3,f4⟩:=hw k g hk
   have:f.p≠j:=by
    rintro hp
    exact hx ⟨f,g,f1,by rw[f2];exact hk,hp⟩
   exact⟨f,f1,f2,by omega,f4⟩
theorem Ly (S:wy P nt ops items masks tl fs){c₀:Ctx}{w₀:World}{K:LEnv->Heap->Prop}{listed:Array Bool}{a:Act}{w:World}{Q:Exit->Act->World->Prop}{rd:Option Nat}{wt:Nat->Option Nat}{ρ:Nat->Option Nat}{h:Heap}{e:LEnv}{j:Nat}{f:Fl P}(hf:f∈fs)
  (hw:∀k g,wt k=some g->∃f,f∈fs/\f.m=k/\j<f.p+0/\bR listed k=true/\(∀x,(masks.getD k 0).testBit x=true->bR listed x=true)/\a.tmps.getD f.s Go.undef=f.fk.val g)
  (wi:∀k k' g,wt k=some g->wt k'=some g->k=k')
  (he:∀f∈fs,j<=f.p->e.get f.s=.undef/\∀q∈f.fk.cs,e.get q.1=.int q.2.1 q.2.2)
  (hJ:E5 P nt ops items masks tl (c₀.X.B5 wt) (LW fs c₀ wt) w₀ K (zr listed wt) a w ρ h e j) (R:OH ops masks listed f.m) (hj:j<f.p) (hwf:wt f.m=none) :
  wpOpIn (rF rd) 0 P ops Q f.m (JG P nt ops items masks tl fs c₀ w₀ K 0 (listed.setIfInBounds f.m true)) a w:=by
 have F:=S.fl f hf
 have hsl:listed.size=ops.size:=by rw[<- hJ.size,eM]
 have hil:f.m<listed.size:=by rw[hsl];exact R.lt
 obtain⟨o,ho,hmk,hdst,hg⟩:=F.mko
 have hes:=he f hf (Nat.le_of_lt hj)
 have hrun:=hmk.2 a w (fun q hq=>by
  rcases hJ.rel q.1 with⟨kk,b,hb,hkt,hun,hbd⟩|h0
  ·have h1:=R.anc kk (F.cok q hq kk b hb hbd).2.2
   have:wt kk=none:=by
    cases hwk:wt kk with
    | none=>rfl
    | some x =>
     obtain⟨f2,g1,g2,_⟩:=hw kk x hwk
     exact absurd (List.mem_of_getElem? (S.fl f2 g1).fm) (by rw[g2];exact hkt)
   rw[b9 this,h1]at hun;cases hun
  ·rw[hes.2 q hq]at h0
   exact dG h0)
 unfold wpOpIn
 simp only[ho]
 rw[if_pos (by simp[Region.wanted,hg])]
 refine gm hmk.1 hrun ?_
 rw[Oper.uponIn_value,hdst]
 obtain⟨hsz,hdc,⟨hle,lw⟩,hr,hws,hdef,htsz,hjl,htail,hprog,hrel,hval⟩:=hJ
 let g:=w.heap.size
 let wt':=aq wt f.m (some g)
 have wle:∀k x,wt' k=some x->(k=f.m/\x=g)\/wt k=some x:=by
  intro k x hk
  by_cases hkm:k=f.m
  ·subst hkm
   have:aq wt f.m (some g) f.m=some x:=hk
   rw[aj]at this
   exact Or.inl ⟨rfl,by cases this;rfl⟩
  ·have:aq wt f.m (some g) k=some x:=hk
   rw[ag _ _ hkm]at this;exact Or.inr this
 have wlt:∀k x,wt k=some x->x<g:=by
  intro k x hk
  obtain⟨_,⟨f2,_,_,h3⟩,_⟩:=lw k x hk
  exact(Array.getElem?_eq_some_iff.1 h3).1
 have wup:∀k x,wt k=some x->wt' k=some x:=by
  intro k x hk
  have:k≠f.m:=by rintro rfl;rw[hwf]at hk;cases hk
  show aq wt f.m (some g) k=some x
  rw[ag _ _ this];exact hk
 have hpush:(w.alloc f.fk.obj).heap=w.heap.push f.fk.obj:=rfl
 let C:Ctx:=⟨ρ,c₀.X.B5 wt,h,w.heap⟩
 let Cp:Ctx:=⟨ρ,c₀.X.B5 wt',h,w.heap⟩
 let C1:Ctx:=⟨ρ,c₀.X.B5 wt',h,w.heap.push f.fk.obj⟩
 have sc:Hy C Cp:=by
  refine⟨rfl,fun _ _=>rfl,fun _ _=>rfl,fun b hb ho=>?_⟩
  rcases ho with hx|hx
  ·rcases hx with hx|⟨k,hk⟩
   ·exact Or.inl (Or.inl hx)
   ·rcases wle k b hk with⟨_,q⟩|q
    ·exact absurd q (Nat.ne_of_lt hb)
    ·exact Or.inl (Or.inr ⟨k,q⟩)
  ·exact Or.inr hx
 obtain⟨gle,_⟩:=grow_step hr f.fk.obj
 have le1:Cp.le C1:=gle.ON (c₀.X.B5 wt') (c₀.X.B5 wt') rfl
 have mlt:∀k b,(h k).mine->ρ k=some b->b<g:=fun k b hm hb=>jK hr hm hb
 have hr1:an C1:=by
  refine⟨fun k=>?_,hr.inj,fun k b hm hb hX=>?_,fun b hX=>?_,hr.fin,(hr.glob.qT sc).mono le1,by have:=hr.lo;simp only at this;show c₀.X.lo<=(w.heap.push _).size;simp;exact Nat.le_succ_of_le this⟩
  ·exact gP le1 (ca.qT sc (fun _=>rfl) (hr.slot k)) (fun _ _=>rfl) (fun b hm hb=>by
    have:=mlt k b hm hb
    show(w.heap.push _)[b]?=w.heap[b]?
    rw[Array.getElem?_push,if_neg (by omega)])
  ·have:=mlt k b hm hb
   rcases hX with hx|⟨k',hk'⟩
   ·exact hr.apart k b hm hb (Or.inl hx)
   ·rcases wle k' b hk' with⟨_,q⟩|q
    ·omega
    ·exact hr.apart k b hm hb (Or.inr ⟨k',q⟩)
  ·show b<(w.heap.push _).size
   simp only[Array.size_push]
   rcases hX with hx|⟨k',hk'⟩
   ·have:=hr.xlt b (Or.inl hx)
    simp only at this
    omega
   ·rcases wle k' b hk' with⟨_,q⟩|q
    ·have:b=w.heap.size:=q
     omega
    ·have:=wlt k' b q
     have:b<w.heap.size:=this
     omega
 have hls:∀k,bR (zr (listed.setIfInBounds f.m true) wt') k=bR (zr listed wt) k:=by
  intro k
  by_cases hk:k=f.m
  ·subst hk
   rw[iJ (g:=g) (by show aq wt f.m (some g) f.m=_;rw[aj]) (by simpa using hil),b9 hwf,R.un]
  ·cases hwk:wt k with
   | none=>rw[b9 hwk,b9 (by show aq wt f.m (some g) k=_;rw[ag _ _ hk];exact hwk),ct hil,if_neg hk]
   | some x =>
    obtain⟨f2,g1,g2,_⟩:=hw k x hwk
    have:k<listed.size:=by rw[hsl, <- g2];exact S.tlt _ (List.mem_of_getElem? (S.fl f2 g1).fm)
    rw[iJ hwk this,iJ (wup k x hwk) (by simpa using this)]
 have hput:∀s',s'≠f.s->(a.put (some f.s) (f.fk.val w.heap.size)).tmps.getD s' Go.undef=a.tmps.getD s' Go.undef:=by
  intro s' hs
  have hs':f.s≠s':=fun e=>hs e.symm
  simp[Act.put,hs']
 refine .mk wt' ρ h e j (fun k x hk=>?_) (fun k k' x h1 h2=>?_) he (E5.congr (l1:=zr listed wt) (by rw[eM,eM];simp) hls ?_)
 ·rcases wle k x hk with⟨q1,q2⟩|q
  ·subst q1 q2
   exact⟨f,hf,rfl,by omega,by rw[ct hil,if_pos rfl],fun x hx=>by rw[ct hil];split;rfl;exact R.anc x hx,by simp[Act.put,htsz,F.sn,g]⟩
  ·obtain⟨f2,g1,g2,g3,g4,g5,g6⟩:=hw k x q
   refine⟨f2,g1,g2,g3,by rw[ct hil];split;rfl;exact g4,fun x hx=>by rw[ct hil];split;rfl;exact g5 x hx,?_⟩
   rw[hput]
   ·exact g6
   ·intro hss
    refine F.us f2.m _ (S.fl f2 g1).it ?_ (by rw[hss])
    rintro hmm
    rw[<- g2,hmm,hwf]at q
    cases q
 ·rcases wle k x h1 with⟨q1,q2⟩|q
  ·rcases wle k' x h2 with⟨q3,q4⟩|q'
   ·rw[q1,q3]
   ·have:=wlt k' x q';omega
  ·rcases wle k' x h2 with⟨q3,q4⟩|q'
   ·have:=wlt k x q;omega
   ·exact wi k k' x q q'
 refine⟨hsz,hdc,⟨hle.trans (gle.ON c₀.X c₀.X rfl),fun k x hk=>?_⟩,hr1,⟨hws.os,hws.tape,hws.output⟩,(et.qT sc rfl rfl hdef).mono le1,by simpa[Act.put] using htsz,hjl,htail,hprog,fun s'=>?_,hval⟩
 ·rcases wle k x hk with⟨q1,q2⟩|q
  ·subst q1 q2
   exact⟨by have:=hle.size;simpa using this,⟨f,hf,rfl,fZ _ _⟩,fun k hm hb=>by have:=mlt k _ hm hb;omega⟩
  ·obtain⟨z1,⟨f2,z2,z3,z4⟩,z5⟩:=lw k x q
   refine⟨z1,⟨f2,z2,z3,?_⟩,z5⟩
   have:=wlt k x q
   show(w.heap.push _)[x]?=_
   rw[Array.getElem?_push,if_neg (by omega)]
   exact z4
 ·by_cases hs:s'=f.s
  ·subst hs;rw[hes.1];exact Or.inr (.undef _)
  ·rcases hrel s' with h0|h0
   ·exact Or.inl h0
   ·right
    rw[hput s' hs]
    exact(ar.qT sc h0).mono le1
theorem Mi (S:wy P nt ops items masks tl fs){c₀:Ctx}(hX0:∀g,c₀.X g->g<c₀.hp.size){w₀:World}{K:LEnv->Heap->Prop}{listed:Array Bool}{a:Act}{w:World}{Q:Exit->Act->World->Prop}{rd:Option Nat}
  (hJ:JG P nt ops items masks tl fs c₀ w₀ K 0 listed a w) {i:Nat}(hi:i∈Region.ready .any ops listed):wpOpIn (rF rd) 0 P ops Q i (JG P nt ops items masks tl fs c₀ w₀ K 0 (listed.setIfInBounds i true)) a w:=by
 have R:=Fv S.torZ hJ.size (hJ.dc S) hi
 have hsl:=hJ.size
 have hil:i<listed.size:=by rw[hsl];exact R.lt
 cases hJ with
 | mk wt ρ h e j hw wi he hJ =>
  have hwi:wt i=none:=by
   cases hwk:wt i with
   | none=>rfl
   | some x =>
    obtain⟨f2,_,_,_,g4,_⟩:=hw i x hwk
    rw[R.un]at g4;cases g4
  have wlt:∀k x,wt k=some x->k<listed.size:=by
   intro k x hk
   obtain⟨f2,g1,g2,_⟩:=hw k x hk
   rw[hsl, <- g2];exact S.tlt _ (List.mem_of_getElem? (S.fl f2 g1).fm)
  by_cases hx:∃f,f∈fs/\f.m=i/\j<f.p
  ·obtain⟨f,hf,rfl,hj⟩:=hx
   exact Ly S hf hw wi he hJ R hj hwi
  ·
   have tj:∀l,j<l->l<tl.length->∃i',tl[j]?=some i'/\¬bR (zr listed wt) i'=true:=by
    intro l hl hlt
    have hjl:j<tl.length:=by omega
    refine⟨tl[j],by simp[hjl],fun hc=>?_⟩
    have:=(hJ.prog j tl[j] (by simp[hjl])).1 hc
    omega
   have wj:∀i',tl[j]?=some i'->wt i'=none:=by
    intro i' hi'
    cases hwk:wt i' with
    | none=>rfl
    | some x =>
     obtain⟨f2,g1,g2,g3,_⟩:=hw i' x hwk
     have:=S.nd j f2.p i' hi' (by rw[<- g2];exact(S.fl f2 g1).fm)
     omega
   have lstI:∀l,tl[l]?=some i->j<=l:=by
    intro l hl
    rcases Nat.lt_or_ge l j with hlt|hge
    ·have:=(hJ.prog l i hl).2 hlt
     rw[b9 hwi,R.un]at this
     cases this
    ·exact hge
   have nfl:∀l,tl[l]?=some i->j<l->∀f∈fs,l≠f.p:=by
    intro l hl hjl f hf hlp
    subst hlp
    have:f.m=i:=by have:=(S.fl f hf).fm;rw[this]at hl;cases hl;rfl
    exact hx ⟨f,hf,this,hjl⟩
   have hlj:∀l,tl[l]?=some i->l=j:=by
    intro l hl
    have h1:=lstI l hl
    rcases Nat.lt_or_ge j l with hgt|hge
    ·exfalso
     obtain⟨i',hi',hn⟩:=tj l hgt (List.getElem?_eq_some_iff.1 hl).1
     have:=R.anc _ (S.tord j l i' i hi' hl hgt (nfl l hl hgt))
     rw[b9 (wj i' hi')]at hn
     exact hn this
    ·omega
   have nom:∀k x,wt k=some x->(masks.getD i 0).testBit k≠true:=by
    intro k x hk hq
    obtain⟨f2,g1,g2,g3,g4,g5,g6⟩:=hw k x hk
    have F2:=S.fl f2 g1
    subst g2
    by_cases hit:i∈tl
    ·obtain⟨l,hl⟩:=List.getElem?_of_mem hit
     have:=hlj l hl
     rw[F2.ntm l i hl (by omega)]at hq;cases hq
    ·have h1:=(S.stg i f2.p f2.m R.lt hit F2.fm).1 hq
     have hp:=(List.getElem?_eq_some_iff.1 F2.fm).1
     obtain⟨i',hi',hn⟩:=tj f2.p (by omega) hp
     have:=R.anc _ ((S.stg i j i' R.lt hit hi').2 (by omega))
     rw[b9 (wj i' hi')]at hn
     exact hn this
   have RV:OH ops masks (zr listed wt) i:=by
    refine⟨R.lt,by rw[b9 hwi];exact R.un,fun k hk=>?_⟩
    cases hwk:wt k with
    | none=>rw[b9 hwk];exact R.anc k hk
    | some x=>exact absurd hk (nom k x hwk)
   have hitl:i<items.length:=by rw[S.len];exact R.lt
   have hdst:∀f∈fs,f.m≠i->∀o,ops[i]?=some o->o.dst≠some f.s:=by
    intro f hf hne o ho hq
    obtain⟨b,hb⟩:∃b,items[i]?=some b:=⟨items[i]'hitl,by simp[hitl]⟩
    refine(S.fl f hf).us i b hb (fun e=>hne e.symm) ?_
    by_cases hit:i∈tl
    ·obtain⟨fz,hc⟩:=S.itt i o ho hit
     rw[hb]at hc
     unfold cOper at hc
     split at hc
     case isFalse=>cases hc
     cases hop:cOp P fz o with
     | none=>simp[hop]at hc
     | some op =>
      simp only[hop]at hc
      split at hc
      ·cases hc;exact hq
      ·split at hc
       ·cases hc;exact hq
       ·cases hc
    ·have:=(S.itv i o b ho hb hit).dst
     rw[this];exact hq
   refine wpOpIn_mono (fun a' w' hh=>?_) (wpOp_put (DU S.torZ (fun ρ h w ρ' h' w' l k=>LW.mono l k) hJ RV hlj))
   obtain⟨⟨ρ',h',e',j',hJ',hj',_,hes⟩,hput⟩:=hh
   have hls:∀k,bR (zr (listed.setIfInBounds i true) wt) k=bR ((zr listed wt).setIfInBounds i true) k:=by
    intro k
    rw[ct (by rw[eM];exact hil)]
    by_cases hk:k=i
    ·subst hk
     rw[if_pos rfl,b9 hwi,ct hil,if_pos rfl]
    ·rw[if_neg hk]
     cases hwk:wt k with
     | none=>rw[b9 hwk,b9 hwk,ct hil,if_neg hk]
     | some x=>rw[iJ hwk (wlt k x hwk),iJ hwk (by simpa using wlt k x hwk)]
   have hJ2:=E5.congr (l2:=zr (listed.setIfInBounds i true) wt) (by rw[eM];simp[eM]) hls hJ'
   refine K7 S hX0 _ wt ρ' h' e' j' (Nat.le_refl _) (fun k x hk=>?_) wi (fun f hf hp=>?_) hJ2
   ·obtain⟨f2,g1,g2,g3,g4,g5,g6⟩:=hw k x hk
    refine⟨f2,g1,g2,by omega,by rw[ct hil];split;rfl;exact g4,fun x hx=>by rw[ct hil];split;rfl;exact g5 x hx,?_⟩
    rw[hput f2.s (hdst f2 g1 (by rintro rfl;rw[<- g2,hwi]at hk;cases hk))]
    exact g6
   ·have F:=S.fl f hf
    have hne:f.m≠i:=by
     rintro rfl
     have:=(hJ'.prog f.p f.m F.fm).1 (by rw[ct (by rw[eM];exact hil),if_pos rfl])
     omega
    obtain⟨u1,u2⟩:=he f hf (by omega)
    refine⟨?_,fun q hq=>?_⟩
    ·rw[hes f.s fun k b hb hk=>F.us k b hb ?_]
     ·exact u1
     ·rintro rfl
      rcases hk with hk|hk
      ·exact hk.1 (List.mem_of_getElem? F.fm)
      ·exact hne hk.1
    ·rw[hes q.1 fun k b hb hk hbd=>?_]
     ·exact u2 q hq
     ·obtain⟨z1,z2,z3⟩:=F.cok q hq k b hb hbd
      rcases hk with hk|hk
      ·exact hk.2 z2
      ·rw[hk.1]at z1;exact z1 hk.2
theorem Iu {id:Nat}(S:wy P nt ops items masks tl fs) (hm:P.follows .mixedOrders=true){Q:LPost}{e:LEnv}{h:Heap}(hes:∀f∈fs,e.get f.s=.undef){T:LEnv}(t1:sRest P items masks tl tl 0 (Q .normal) T h) (t2:∀s,(∀a,a∈gQ items masks tl 0->a.dst≠some s)->T.get s=e.get s) (t3:∀a,a∈gQ items masks tl 0->bM P a T h)
  (hpre:∀f∈fs,∀q∈f.fk.cs,T.get q.1=.int q.2.1 q.2.2):oq P nt (.region id ops true) (fun x=>up (Q x)) e.get h:=by
 intro rd c w a hh hp hr hs _
 subst hh
 refine wpIn_region_any hm ?_
 have hfalse:∀i,i<ops.size->bR (Array.replicate ops.size false) i=false:=by intro i hi;unfold bR;simp[Array.getD,hi]
 have hlt:∀i b,items[i]?=some b->i<ops.size:=fun i b hb=>by rw[<- S.len];exact(List.getElem?_eq_some_iff.1 hb).1
 have hce:(⟨c.ρ,c.X,c.h,w.heap⟩:Ctx)=c:=by rw[<- hp]
 have hcl:∀k,bR (zr (Array.replicate ops.size false) fun _=>none) k=bR (Array.replicate ops.size false) k:=fun k=>b9 rfl
 refine MI S.torZ (JJ:=JG P nt ops items masks tl fs c w (Q .normal) 0) (fun _ _ _ hJ=>hJ.size) (fun _ _ _ hJ=>hJ.dc S) (fun listed a' w' i hJ hi=>Mi S hr.xlt hJ hi) (fun listed a' w' hJ hall=>?_) ops.size _ a _ (Nat.le_trans (List.length_filter_le _ _) (by simp)) ?_
 ·cases hJ with
  | mk wt ρ h e' j hw wi he hJ =>
   have hjl:j=tl.length:=by
    have hle:=hJ.jle
    rcases Nat.lt_or_ge j tl.length with hlt|hge
    ·exfalso
     have htj:tl[j]?=some tl[j]:=by simp[hlt]
     cases hwk:wt tl[j] with
     | none =>
      have:=(hJ.prog j tl[j] htj).1 (by rw[b9 hwk];exact hall _ (S.tlt _ (List.getElem_mem hlt)))
      omega
     | some x =>
      obtain⟨f,g1,g2,g3,_⟩:=hw _ x hwk
      have:=S.nd j f.p tl[j] htj (by rw[<- g2];exact(S.fl f g1).fm)
      omega
    ·omega
   have hwn:∀k,wt k=none:=by
    intro k
    cases hwk:wt k with
    | none=>rfl
    | some x =>
     obtain⟨f,g1,g2,g3,_⟩:=hw k x hwk
     have:=(List.getElem?_eq_some_iff.1 (S.fl f g1).fm).1
     omega
   obtain⟨_,_,⟨hle,_⟩,hrr,hws,hdef,hsz,hj,htail,hprog,hrel,hval⟩:=hJ
   rw[XT.B7 hwn]at hrr hdef hrel
   subst hjl
   rw[List.drop_length]at htail
   refine⟨ρ,e'.get,h,hle,hrr,hws,⟨hrr.glob,hrr.lo,hdef,hsz,fun s=>?_⟩,e',rfl,htail⟩
   rcases hrel s with⟨i,b,hb,_,hun,_⟩|h
   ·rw[b9 (hwn i),hall i (hlt i b hb)]at hun
    cases hun
   ·exact h
 ·have hw:({ w with drawn:=w.drawn+1 }:World).heap=w.heap:=rfl
  have hX:c.X.B5 (fun _=>none)=c.X:=XT.B7 fun _=>rfl
  refine .mk (fun _=>none) c.ρ c.h T 0 (fun k g hk=>by cases hk) (fun k k' g hk=>by cases hk) (fun f hf _=>?_) ?_
  ·have F:=S.fl f hf
   refine⟨?_,hpre f hf⟩
   rw[t2 f.s fun b hb=>?_]
   ·exact hes f hf
   ·obtain⟨k,h1,h2,h3⟩:=cA hb
    exact F.us k b h1 (by rintro rfl;exact h2 (List.mem_of_getElem? F.fm))
  refine⟨by rw[eM];simp,fun i k hi hl=>(by rw[hcl,hfalse i hi]at hl;cases hl),⟨?_,fun k g hk=>by cases hk⟩,?_,⟨rfl,rfl,rfl⟩,(by rw[hX,hw,hce];exact hs.defers),hs.size,Nat.zero_le _,by simpa using t1,fun l i hl=>?_,fun s=>?_,fun i b hb hn _ hst=>?_⟩
  ·rw[hw,hce];exact Ctx.le.refl c
  ·rw[hX,hw,hce];exact hr
  ·rw[hcl,hfalse i (S.tlt i (List.mem_of_getElem? hl))];simp
  ·by_cases hex:∃b,b∈gQ items masks tl 0/\b.dst=some s
   ·obtain⟨b,hb,hbd⟩:=hex
    obtain⟨k,h1,h2,h3⟩:=cA hb
    exact Or.inl ⟨k,b,h1,h2,by rw[hcl];exact hfalse k (hlt k b h1),hbd⟩
   ·right
    rw[t2 s (fun b hb hbd=>hex ⟨b,hb,hbd⟩),hX,hw,hce]
    exact hs.rel s
  ·have:=u5 (masks:=masks) hb hn
   rw[show u7 masks tl i=0 by omega]at this
   exact t3 b this
def MC (P:Program) (fz:Bool) (esz:Nat) (zd:D) (elem:TypeId) (hpos:0<esz):tQ P where
 op:=.bldS fz esz 0 zd []
 obj:=.cells #[] elem
 slot:=.arr esz []
 val g:=.slice (some ⟨g,0,none⟩) 0 0
 dv n:=.ms n 0 0
 cs:=[]
 hop:=by
  intro K e h _ hv n t
  simp only[vcOp]at hv
  have:=hv.2.2 n t
  simpa[Heap.freezeAll,setEls] using this
 hslot:=by
  intro c n g hρ hg
  exact⟨hpos,fun e he=>(by cases he),fun i j d hd=>(by simp[aF]at hd),Or.inr ⟨g,_,elem,hρ,hg,by simp,fun i j d hd=>(by simp[aF]at hd)⟩⟩
 hrel:=by
  intro c n g hh hρ hg
  have:=ar.ms (c:=c) n 0 0 g esz 0 [] #[] elem (0,0) (by rw[hh];rfl) hρ (by simp) hg (by simp) (by omega) (by unfold maxLen;omega)
  rwa [Nat.zero_mul]at this
theorem GO {fz:Bool}{esz:Nat}{zd:D}{elem t:TypeId}{hpos:0<esz}{o:Oper}{ps:Array (Nat×Operand)}(ho:o.op=.buildSlice t 0 ps) (hps:ps = #[]) (hu:P.underlying t=some (.slice elem)) (ht:(P.info? elem).map (·.size)=some esz) :
  A7 P (MC P fz esz zd elem hpos) o:=by
 subst hps
 refine⟨fun c hc=>(by rw[ho]at hc;cases hc),fun a w _=>?_⟩
 show(execOp a.eval o).run P w=.ok (.value (.slice (some ⟨w.heap.size,0,none⟩) 0 0)) (w.alloc (.cells #[] elem))
 simp[execOp,ho,Instr.buildSlice,run_underlying hu,run_sizeOf ht,Array.range_zero',Instr.fill,bK]
def IC:AOp->List Nat
 | .mk _ _ _ x y=>argRegs x++argRegs y
 | _=>[]
def sMkN (op:AOp) (o:Oper):Bool :=
 match op,o.op with
 | .CA _,.makeMap _ none=>true
 | .alloc _,.alloc _=>true
 | .mk ..,.makeSlice ..=>true
 | .bldS _ _ 0 _ [],.buildSlice _ 0 ps=>ps.size == 0
 | _,_=>false
def flN (ops:Array Oper) (nt:Nat) (items:List AOper) (masks tl ps:List Nat) (p:Nat):Option (Nat×AOp) :=
 match tl[p]? with
 | some m=>match items[m]?,ops[m]? with
  | some ⟨some s,op,none⟩,some o=>match o.dst,o.guard with
   | some s',none=>if s'=s/\s<nt/\sMkN op o=true/\(items.zipIdx.all fun q=>decide (q.2=m)||q.1.dst != some s)=true/\((List.range p).all fun l=> !(masks.getD (tl.getD l 0) 0).testBit m)=true /\
     ((IC op).all fun r=>items.zipIdx.all fun q=>q.1.dst != some r||(!tl.contains q.2&&u7 masks tl q.2 == 0&&(masks.getD m 0).testBit q.2))=true /\
     (ps.all fun p'=>p' == p || !(masks.getD m 0).testBit (tl.getD p' 0))=true then some (s,op) else none
   | _,_=>none
  | _,_=>none
 | none=>none
def FC (op:AOp) (e:LEnv):Prop:=match op with
 | .mk _ bytes _ x y=>∃kl L kc C,x.get e=.int kl L/\y.get e=.int kc C/\0<=L/\L<=C/\C*bytes<=140737488355328/\C<=9223372036854775807
 | _=>True
def ckN:List (Nat×AOp)->ACode->ACode
 | [],c=>c
 | (_,.mk _ bytes _ x y)::r,c=>.seq (.dreg [] [⟨none,.mkc bytes x y,none⟩] []) (ckN r c)
 | _::r,c=>ckN r c
theorem EG:∀(l:List (Nat×AOp)){c:ACode}{Q:LPost}{e:LEnv}{h:Heap},vcC P (ckN l c) Q e h->(∀q∈l,FC q.2 e)/\vcC P c Q e h
 | [],c,Q,e,h,hv=>⟨fun q hq=>(by cases hq),hv⟩
 | (s,op)::r,c,Q,e,h,hv=>by
  cases op with
  | mk esz bytes zd x y =>
   have hv:vcOp P (.mkc bytes x y) (fun _ h2=>vcC P (ckN r c) Q e h2) e h:=by
    have:=hv
    simp only[ckN,vcC,LPost.then,vcVals,lK,vcTail,ot,cZ]at this
    exact this
   simp only[vcOp]at hv
   unfold vint at hv
   split at hv
   case h_2=>exact hv.elim
   rename_i kl L hL
   split at hv
   case h_2=>exact hv.elim
   rename_i kc C hC
   obtain⟨i1,i2⟩:=EG r hv.2.2.2.2
   refine⟨fun q hq=>?_,i2⟩
   rcases List.mem_cons.1 hq with rfl|hq
   ·exact⟨kl,L,kc,C,hL,hC,hv.1,hv.2.1,hv.2.2.1,hv.2.2.2.1⟩
   ·exact i1 q hq
  | _ =>
   obtain⟨i1,i2⟩:=EG r hv
   refine⟨fun q hq=>?_,i2⟩
   rcases List.mem_cons.1 hq with rfl|hq
   ·trivial
   ·exact i1 q hq
def GJ:List Nat->LEnv->LEnv
 | [],e=>e
 | s::r,e=>GJ r (e.put (some s) .undef)
theorem Fy:∀(l:List Nat) (e:LEnv),(∀i,(GJ l e).get i=.undef\/(GJ l e).get i=e.get i)/\∀s,s∈l\/e.get s=.undef->(GJ l e).get s=.undef
 | [],e=>⟨fun i=>Or.inr rfl,fun s hs=>hs.elim (fun h=>by cases h) id⟩
 | s::r,e=>by
  obtain⟨i1,i2⟩:=Fy r (e.put (some s) .undef)
  have hg:∀i,(e.put (some s) .undef).get i=if i=s then .undef else e.get i:=by
   intro i
   rw[LEnv.aU]
   simp only[Env.put,aq]
  refine⟨fun i=>?_,fun x hx=>i2 x ?_⟩
  ·rcases i1 i with h|h
   ·exact Or.inl h
   ·rw[hg]at h
    by_cases hi:i=s
    ·rw[if_pos hi]at h;exact Or.inl h
    ·rw[if_neg hi]at h;exact Or.inr h
  ·rcases hx with hx|hx
   ·rcases List.mem_cons.1 hx with rfl|hx
    ·exact Or.inr (by rw[hg,if_pos rfl])
    ·exact Or.inl hx
   ·exact Or.inr (by rw[hg];split;rfl;exact hx)
theorem Az:∀(l:List Nat){K:LEnv->Heap->Prop}{e:LEnv}{h:Heap},vcVals P (l.map fun s=>⟨some s,.mov (.c .undef),none⟩) K e h->K (GJ l e) h
 | [],_,_,_,hv=>hv
 | s::r,K,e,h,hv=>Az r (by simp only[List.map_cons,vcVals,lK]at hv;exact hv)
theorem PJ {ps:List Nat}{p s:Nat}{op:AOp}{T:LEnv}(S0:rZ P nt ops items masks tl) (h:flN ops nt items masks tl ps p=some (s,op)) (hf:FC op T) :
  ∃f:Fl P,f.p=p/\f.s=s/\OL P nt ops items masks tl f/\(∀q∈f.fk.cs,T.get q.1=.int q.2.1 q.2.2)/\∀p',p'∈ps->p'≠p->(masks.getD f.m 0).testBit (tl.getD p' 0)=false:=by
 unfold flN at h
 split at h<;>try (cases h;done)
 rename_i m hm
 split at h<;>try (cases h;done)
 rename_i s0 op0 o hit hop
 split at h<;>try (cases h;done)
 rename_i s' h2 h3
 split at h<;>try (cases h;done)
 rename_i hcc
 obtain⟨rfl,c1,cm,c5,c6,c7,c8⟩:=hcc
 cases h
 obtain⟨fz,hitem⟩:=S0.itt m o hop (List.mem_of_getElem? hm)
 rw[hit]at hitem
 have hcop:cOp P fz o=some op:=by
  unfold cOper at hitem
  split at hitem
  case isFalse=>cases hitem
  cases hcp:cOp P fz o with
  | none=>simp[hcp]at hitem
  | some op' =>
   simp only[hcp,h3,Option.some.injEq,AOper.mk.injEq]at hitem
   rw[hitem.2.1]
 obtain⟨fk,rfl,hcs,hpre,hmk⟩:∃fk:tQ P,op=fk.op/\(∀q∈fk.cs,q.1∈IC op)/\(∀q∈fk.cs,T.get q.1=.int q.2.1 q.2.2)/\A7 P fk o:=by
  unfold sMkN at cm
  split at cm<;>try (cases cm;done)
  ·rename_i kt t h1
   exact⟨Jf P kt,rfl,fun q hq=>(by cases hq),fun q hq=>(by cases hq),GN h1⟩
  ·rename_i zd t h1
   have hz:cK P t=some zd:=by
    unfold cOp at hcop
    cases hz:cK P t with
    | none=>simp[cOp0,h1,hz,cOpM,deadOp]at hcop
    | some z=>simp[cOp0,h1,hz]at hcop;rw[hcop]
   obtain⟨z,z1,z2⟩:=AV (P:=P) hz
   refine⟨MD P zd z.cells t z2,rfl,fun q hq=>(by cases hq),fun q hq=>(by cases hq),fun c hc=>(by rw[h1]at hc;cases hc),fun a w _=>?_⟩
   simp[execOp,h1,Instr.alloc,bt z1,newVar,bK,MD]
  ·rename_i esz bytes zd x' y' t x y ho
   obtain⟨kl,L,kc,C,e1,e2,b0,b1,b2,b3⟩:=hf
   have:∃elem i,P.underlying t=some (.slice elem)/\P.info? elem=some i/\cK P elem=some zd/\cArg x=some x'/\cArg y=some y'/\zd.cells.length=i.size/\0<i.size/\i.size=esz/\i.bytes=bytes:=by
    have hop:=hcop
    unfold cOp cOp0 at hop
    simp only[ho]at hop
    split at hop
    ·rename_i op' h0
     cases hop
     split at h0
     ·rename_i elem hu
      split at h0
      ·rename_i i z x1 y1 q1 q2 q3 q4
       split at h0
       ·rename_i hcc
        cases h0
        exact⟨elem,i,hu,q1,q2,q3,q4,hcc.1,hcc.2,rfl,rfl⟩
       ·cases h0
      ·cases h0
     ·cases h0
    ·simp[cOpM,ho,deadOp]at hop
   obtain⟨elem,i,hu,hinf,hz,hcx,hcy,hsz,hpos,hie,hib⟩:=this
   obtain⟨z,z1,z2⟩:=AV (P:=P) hz
   have hx:∀d,x'=.c d->d=.int kl L:=fun d hd=>by rw[hd]at e1;exact e1
   have hy:∀d,y'=.c d->d=.int kc C:=fun d hd=>by rw[hd]at e2;exact e2
   have hsz':zd.cells.length=esz:=by rw[hsz,hie]
   have hpos':0<esz:=by omega
   refine⟨PK P esz bytes zd x' y' elem z.cells kl kc L C hsz' hpos' z2 b0 b1 b3 hx hy,rfl,fun q hq=>?_,fun q hq=>?_,IV ho hcx hcy hu hinf hie hib z1 b2⟩
   ·rcases List.mem_append.1 hq with h|h
    ·simp only[tJ,List.mem_map]at h
     obtain⟨r,hr,rfl⟩:=h
     exact List.mem_append_left _ hr
    ·simp only[tJ,List.mem_map]at h
     obtain⟨r,hr,rfl⟩:=h
     exact List.mem_append_right _ hr
   ·rcases List.mem_append.1 hq with h|h
    ·simp only[tJ,List.mem_map]at h
     obtain⟨r,hr,rfl⟩:=h
     cases hx':x' with
     | t r' =>
      rw[hx']at hr e1
      simp only[argRegs,List.mem_singleton]at hr
      rw[hr];exact e1
     | c d=>rw[hx']at hr;simp[argRegs]at hr
    ·simp only[tJ,List.mem_map]at h
     obtain⟨r,hr,rfl⟩:=h
     cases hy':y' with
     | t r' =>
      rw[hy']at hr e2
      simp only[argRegs,List.mem_singleton]at hr
      rw[hr];exact e2
     | c d=>rw[hy']at hr;simp[argRegs]at hr
  ·rename_i fz' esz zd t ps ho
   have hps:ps = #[]:=Array.eq_empty_of_size_eq_zero (by simpa using cm)
   subst hps
   have:∃elem,P.underlying t=some (.slice elem)/\(P.info? elem).map (·.size)=some esz/\0<esz:=by
    have hop:=hcop
    unfold cOp cOp0 at hop
    simp only[ho]at hop
    split at hop
    ·rename_i op' h0
     cases hop
     split at h0
     ·rename_i elem hu
      split at h0
      ·rename_i n z qs q1 q2 q3
       split at h0
       ·rename_i hcc
        cases h0
        exact⟨elem,hu,q1,hcc.1⟩
       ·cases h0
      ·cases h0
     ·cases h0
    ·simp[cOpM,ho,deadOp]at hop
   obtain⟨elem,hu,ht,hpos⟩:=this
   exact⟨MC P fz' esz zd elem hpos,rfl,fun q hq=>(by cases hq),fun q hq=>(by cases hq),GO ho rfl hu ht⟩
 refine⟨⟨p,m,s,fk⟩,rfl,rfl,⟨hm,hit,fun k b hb hk=>?_,c1,⟨o,hop,hmk,h2,h3⟩,fun l i hl hlt=>?_,fun q hq k b hb hbd=>?_⟩,hpre,fun p' hp' hne=>?_⟩
 ·have:=List.all_eq_true.1 c5 (b,k) (mem_zipIdx hb)
  simp only[Bool.or_eq_true,decide_eq_true_eq,bne_iff_ne,ne_eq]at this
  exact this.resolve_left hk
 ·have:=List.all_eq_true.1 c6 l (by simpa using hlt)
  simp only[Bool.not_eq_true']at this
  simpa[List.getD,hl] using this
 ·have:=List.all_eq_true.1 (List.all_eq_true.1 c7 q.1 (hcs q hq)) (b,k) (mem_zipIdx hb)
  simp only[hbd,bne_self_eq_false,Bool.false_or,Bool.and_eq_true,Bool.not_eq_true',beq_iff_eq]at this
  exact⟨by simpa using this.1.1,this.1.2,this.2⟩
 ·have:=List.all_eq_true.1 c8 p' hp'
  simp only[Bool.or_eq_true,beq_iff_eq,Bool.not_eq_true']at this
  exact this.resolve_left hne
def Pj (masks ps tl:List Nat):Bool :=
 (List.range tl.length).all fun k=>ps.contains k||(List.range k).all fun l=>(masks.getD (tl.getD k 0) 0).testBit (tl.getD l 0)
theorem Jd {G:Fl P->Prop}:∀(ps:List Nat),(∀p∈ps,∃f:Fl P,f.p=p/\G f)->∃fs:List (Fl P),fs.map (·.p)=ps/\∀f∈fs,G f
 | [],_=>⟨[],rfl,fun f hf=>(by cases hf)⟩
 | p::r,h=>by
  obtain⟨f,hp,hg⟩:=h p (by simp)
  obtain⟨fs,h1,h2⟩:=Jd r fun q hq=>h q (by simp[hq])
  refine⟨f::fs,by simp[hp,h1],fun x hx=>?_⟩
  rcases List.mem_cons.1 hx with rfl|hx
  ·exact hg
  ·exact h2 x hx
theorem CZ:∀{fs:List (Fl P)},(fs.map (·.p)).Nodup->∀f f',f∈fs->f'∈fs->f.p=f'.p->f=f'
 | [],_,f,_,hf,_,_=>by cases hf
 | x::r,hn,f,f',hf,hf',e=>by
  simp only[List.map_cons,List.nodup_cons,List.mem_map,not_exists,not_and]at hn
  rcases List.mem_cons.1 hf with rfl|hfr
  ·rcases List.mem_cons.1 hf' with rfl|hfr'
   ·rfl
   ·exact absurd e.symm (hn.1 f' hfr')
  ·rcases List.mem_cons.1 hf' with rfl|hfr'
   ·exact absurd e (hn.1 f hfr)
   ·exact CZ hn.2 f f' hfr hfr' e
theorem mapM_mem {α β:Type}{f:α->Option β}:∀{l:List α}{r:List β},l.mapM f=some r->∀x∈l,∃y,y∈r/\f x=some y
 | [],r,_,x,hx=>by cases hx
 | a::l,r,h,x,hx=>by
  rw[List.mapM_cons]at h
  simp only[Option.pure_def,Option.bind_eq_bind,Option.bind_eq_some_iff,Option.some.injEq]at h
  obtain⟨y,hy,z,hz,rfl⟩:=h
  rcases List.mem_cons.1 hx with rfl|hx
  ·exact⟨y,by simp,hy⟩
  ·obtain⟨y',h1,h2⟩:=mapM_mem hz x hx
   exact⟨y',by simp[h1],h2⟩
def cDrN (P:Program) (nt:Nat) (tbl:TT) (id:Nat) (ops:Array Oper):Option ACode :=
 if P.follows .mixedOrders then
  match tbl id with
  | some (masks,tl,999996::ps)=>match sItems P nt ops tl true ops.toList 0 with
   | some items=>match ps.mapM (flN ops nt items masks tl ps) with
    | some l=>if Il ops items masks tl=true/\Pj masks ps tl=true/\tl.Nodup/\ps.Nodup then
      some (.seq (.dreg ((l.map (·.1)).map fun s=>⟨some s,.mov (.c .undef),none⟩) [] []) (.seq (.dreg (gQ items masks tl 0) [] []) (ckN l (sCode1 items masks tl tl)))) else none
    | none=>none
   | none=>none
  | _=>none
 else none
theorem LX (P:Program) (nt:Nat) (tbl:TT):wJ P nt (cDrN P nt tbl):=by
 intro id ops ac h Q e hp hv
 unfold cDrN at h
 split at h
 case isFalse=>cases h
 rename_i hm
 split at h
 case h_2=>cases h
 rename_i masks tl ps _
 cases hi:sItems P nt ops tl true ops.toList 0 with
 | none=>simp[hi]at h
 | some items =>
  simp only[hi]at h
  split at h
  case h_2=>cases h
  rename_i l hl
  split at h
  case isFalse=>cases h
  rename_i hcc
  obtain⟨c1,c2,c3,c4⟩:=hcc
  simp only[Option.some.injEq]at h
  subst h
  have S0:=Ik hi c1
  have hv1:vcVals P ((l.map (·.1)).map fun s=>⟨some s,.mov (.c .undef),none⟩) (fun e1 h1=>vcVals P (gQ items masks tl 0) (fun e2 h2=>vcC P (ckN l (sCode1 items masks tl tl)) Q e2 h2) e1 h1) e hp:=by
   have:=hv
   simp only[vcC,LPost.then,vcTail,ot]at this
   exact this
  have hv2:=Az _ hv1
  obtain⟨u1,u2⟩:=Fy (l.map (·.1)) e
  generalize GJ (l.map (·.1)) e=e1 at hv2 u1 u2
  obtain⟨T,t1,t2,t3⟩:=yf S0 hv2
  obtain⟨k1,k2⟩:=EG l t1
  have k3:=Cr k2
  obtain⟨fs,f1,f2⟩:=Jd (P:=P) (G:=fun f=>OL P nt ops items masks tl f/\(∀q∈f.fk.cs,T.get q.1=.int q.2.1 q.2.2)/\(∀p',p'∈ps->p'≠f.p->(masks.getD f.m 0).testBit (tl.getD p' 0)=false)/\f.s∈l.map (·.1)) ps (fun p hpm=>by
   obtain⟨⟨s,op⟩,y1,y2⟩:=mapM_mem hl p hpm
   obtain⟨f,rfl,rfl,g3,g4,g5⟩:=PJ S0 y2 (k1 _ y1)
   exact⟨f,rfl,g3,g4,g5,List.mem_map.2 ⟨_,y1,rfl⟩⟩)
  have hps:∀f∈fs,f.p∈ps:=fun f hf=>by rw[<- f1];exact List.mem_map.2 ⟨f,hf,rfl⟩
  have S:wy P nt ops items masks tl fs:=by
   refine⟨S0,fun l k i i' hl hk hlt hkp=>?_,fun l l' i hl hl'=>?_,fun f hf=>(f2 f hf).1,fun f f' hf hf' hne=>?_,CZ (by rw[f1];exact c4)⟩
   ·simp only[Pj,List.all_eq_true,List.mem_range,Bool.or_eq_true]at c2
    have hk1:=List.getElem?_eq_some_iff.1 hk
    have hkn:¬ps.contains k=true:=by
     intro hc
     have:k∈ps:=by simpa using hc
     rw[<- f1]at this
     obtain⟨f,hf,hfp⟩:=List.mem_map.1 this
     exact hkp f hf hfp.symm
    have:=(c2 k hk1.1).resolve_left hkn l hlt
    simpa[List.getD,hl,hk] using this
   ·have h1:=(List.getElem?_eq_some_iff.1 hl).1
    exact(List.getElem?_inj h1 c3).1 (hl.trans hl'.symm)
   ·have:=(f2 f hf).2.2.1 f'.p (hps f' hf') (fun e=>hne e.symm)
    simpa[List.getD,(f2 f' hf').1.fm] using this
  exact pJ u1 (Iu S hm (fun f hf=>u2 _ (Or.inl (f2 f hf).2.2.2)) k3 t2 t3 fun f hf=>(f2 f hf).2.1)
def cDr (P:Program) (nt:Nat) (tbl:TT) (id:Nat) (ops:Array Oper):Option ACode :=
 match cDrS P nt tbl id ops with
 | some x=>some x
 | none=>match cDrN P nt tbl id ops with
 | some x=>some x
 | none=>match cDr0 P nt tbl id ops with
  | some x=>some x
  | none=>match Oq P nt tbl id ops with
   | some x=>some x
   | none=>some (.dreg [⟨none,.dead,none⟩] [] [])
theorem av (P:Program) (nt:Nat) (tbl:TT):wJ P nt (cDr P nt tbl):=by
 intro id ops ac h Q e hp hv
 unfold cDr at h
 split at h
 ·rename_i x h0
  cases h
  exact LV P nt tbl id ops _ h0 Q e hp hv
 split at h
 ·rename_i x h0
  cases h
  exact LX P nt tbl id ops _ h0 Q e hp hv
 split at h
 ·rename_i x h0
  cases h
  exact LZ P nt tbl id ops _ h0 Q e hp hv
 split at h
 ·rename_i x h0
  cases h
  exact LY P nt tbl id ops _ h0 Q e hp hv
 ·simp at h
  subst h
  exact hv.elim
end Go.Am
namespace Go.Am
open Go
variable [bH]
def vcond (x:D) (A B:Prop):Prop :=
 match x with
 | .bool t=>(t=true->A)/\(t=false->B)
 | _=>False
def tp (P:Program) (a:ACode) (nt:Nat) (c:Code):Prop:=∀(Q:LPost) (e:LEnv) (h:Heap),vcC P a Q e h->oq P nt c (fun x=>up (Q x)) e.get h
def D6 (P:Program) (g:D) (ps:List Nat) (e:LEnv) (a b:ACode) (h:Heap) (E:Nat->Heap->Prop):Prop :=
 match g with
 | .fn f fs cs=>fs=[]/\cv P f=true/\∀(n:Nat) (B:bf),m8 h n->B.env=LEnv.get e->B.ps=ps->ps.Nodup->(∀p∈ps,p<B.nt)->tp P a B.nt B.assign->tp P b B.nt B.body ->
   af P f (.yld n::cs) (aq h n (.lp .ready B)) fun _ h'=>E n h'
 | _=>False
def Ba (P:Program) (n:Nat) (B:bf) (ps:List Nat) (ds:List D) (e:LEnv) (a b:ACode) (h:Heap) (K:HKq):Prop :=
 vcC P a (fun x e1 h1=>x=.normal/\h1 n=.lp .ready B/\vcC P b (fun x e2 h2=>h2 n=.lp .busy B/\roundEnd x n B K h2) e1 (aq h1 n (.lp .busy B))) (ps.zip ds++e) h
theorem lz {P:Program}{n:Nat}{B:bf}{ds:List D}{h:Heap}{K:HKq}{a b:ACode}{ps:List Nat}(hn:h n=.lp .ready B) (hps:B.ps=ps) (hA:tp P a B.nt B.assign) (hB:tp P b B.nt B.body) (hnd:ps.Nodup)
  (hlt:∀p∈ps,p<B.nt) (hlen:ds.length=ps.length) {e:LEnv}(he:B.env=e.get) (hv:Ba P n B ps ds e a b h K):mG P n ds h K :=
 Hn hn hA hB (hps ▸ hnd) (hps ▸ hlt) (hps ▸ hlen) he (by rw[hps];exact hv)
def dI (n:Nat) (h:Heap) (KN:Prop) (KE:Nat->Prop) (KR:Prop):Prop :=
 match h n with
 | .lp .ready _=>KN
 | .lp (.done (.exit id)) _=>KE id
 | .lp (.done .ret) _=>KR
 | _=>False
variable {P:Program}{h:Heap}{K:D->Prop}{KH:HKq}{k:IntKind}{a b:Int}
theorem M0 {p:Prop}[Decidable p] {A B:Prop}:vcond (.bool (decide p)) A B=((p->A)/\(¬p->B)):=by
 simp[vcond]
theorem Kt {p:Prop}[Decidable p] {A B:Prop}:vcond (.bool (!decide p)) A B=((¬p->A)/\(p->B)):=by
 simp[vcond]
theorem Ku {t:Bool}{A B:Prop}:vcond (.bool t) A B=((t=true->A)/\(t=false->B)):=rfl
theorem o4 {t w:Bool}{A:(HKq)->Prop}:vguard (.bool t) w A h KH=((t=w->A KH)/\(t≠w->KH gU h)):=by simp[vguard,gv]
theorem yC {ds:List D}{w:Bool}{A:(HKq)->Prop}:vguard (.tup ds) w A h KH=KH gU h:=by simp[vguard,gv]
theorem iw {t w:Bool}{A:(D->Prop)->Prop}:aA (.bool t) w A K=((t=w->A K)/\(t≠w->K gU)):=by simp[aA,gv]
theorem wM {ds:List D}{w:Bool}{A:(D->Prop)->Prop}:aA (.tup ds) w A K=K gU:=by simp[aA,gv]
theorem dD:vbin .add (.int k a) (.int k b) K=K (.int k (k.wrap (a+b))):=by simp[vbin]
theorem kM:vbin .sub (.int k a) (.int k b) K=K (.int k (k.wrap (a-b))):=by simp[vbin]
theorem Aw:vbin .mul (.int k a) (.int k b) K=K (.int k (k.wrap (a*b))):=by simp[vbin]
theorem Cm:vbin .quo (.int k a) (.int k b) K=(b≠0/\K (.int k (k.wrap (a.tdiv b)))):=by simp[vbin]
theorem cq:vbin .rem (.int k a) (.int k b) K=(b≠0/\K (.int k (a.tmod b))):=by simp[vbin]
theorem Mm:vbin .and (.int k a) (.int k b) K=K (.int k (ibits .and k a b)):=by simp[vbin]
theorem QI:vbin .or (.int k a) (.int k b) K=K (.int k (ibits .or k a b)):=by simp[vbin]
theorem OR:vbin .xor (.int k a) (.int k b) K=K (.int k (ibits .xor k a b)):=by simp[vbin]
theorem HS:vbin .andNot (.int k a) (.int k b) K=K (.int k (ibits .andNot k a b)):=by simp[vbin]
theorem OS {k':IntKind}:vbin .shl (.int k a) (.int k' b) K=(0<=b/\K (.int k (Lf k a b))):=rfl
theorem Mk {k':IntKind}:vbin .shr (.int k a) (.int k' b) K=(0<=b/\K (.int k (Bv k a b))):=rfl
theorem de:vbin .eql (.int k a) (.int k b) K=K (.bool (decide (a=b))):=by simp[vbin]
theorem xq:vbin .neq (.int k a) (.int k b) K=K (.bool (!decide (a=b))):=by simp[vbin]
theorem uS:vbin .lss (.int k a) (.int k b) K=K (.bool (decide (a<b))):=by simp[vbin]
theorem HQ:vbin .leq (.int k a) (.int k b) K=K (.bool (decide (a<=b))):=by simp[vbin]
theorem xr:vbin .gtr (.int k a) (.int k b) K=K (.bool (decide (b<a))):=by simp[vbin]
theorem yD:vbin .geq (.int k a) (.int k b) K=K (.bool (decide (b<=a))):=by simp[vbin]
theorem toList_inj {a b:ByteArray}:(a.toList == b.toList)=decide (a=b):=by
 by_cases h:a=b
 ·subst h;simp
 ·have:¬a.toList=b.toList:=fun e=>h (by
   have:=congrArg List.toArray e
   simp[ByteArray.toList_eq]at this
   cases a;cases b;simp_all)
  simp[h,this]
theorem MZ {s t:ByteArray}:vbin .eql (.str s) (.str t) K=K (.bool (decide (s=t))):=by simp[vbin,toList_inj]
theorem MY {s t:ByteArray}:vbin .neq (.str s) (.str t) K=K (.bool (!decide (s=t))):=by simp[vbin,toList_inj]
theorem Ml:vun .neg (.int k a) K=K (.int k (k.wrap (0-a))):=rfl
theorem ow {t:Bool}:vun .not (.bool t) K=K (.bool !t):=rfl
theorem OT:vun .xor (.int k a) K=K (.int k (ibits .xor k (if k.signed then -1 else k.max) a)):=rfl
theorem ox:aS .nil h K=K (.int .i64 0):=rfl
theorem eG {xs:List D}:aS (.sl xs) h K=K (.int .i64 xs.length):=rfl
theorem bo {n o l:Nat}:aS (.ms n o l) h K=((h n).live=true/\K (.int .i64 l)):=rfl
theorem nP {k':IntKind}:aa P (.conv k (.c (.int k' a))) h KH=KH (.int k (k.wrap a)) h:=rfl
theorem ur {t:Bool}{x y:D}:aa P (.pick (.c (.bool t)) (.c x) (.c y)) h KH=KH (if t then x else y) h:=rfl
theorem h_ext {ds:List D}{i:Nat}:aa P (.ext (.c (.tup ds)) i) h KH=(match ds[i]? with|some d=>KH d h|none=>False):=rfl
theorem Py {cs:List D}{o s:Nat}{g:Bool}:aa P (.fld (.c (.agg cs)) o s g) h KH=vpart cs o s g (KH · h):=rfl
theorem NM {s:ByteArray}:aa P (.slen (.c (.str s))) h KH=KH (.int .i64 s.size) h:=rfl
theorem BB {d:D}{j o:Nat}:aa P (.fadd (.c (.vp d j)) o) h KH=KH (.vp d (j+o)) h:=rfl
theorem xf {xs:List D}{s:Nat}:aa P (.iadd (.c (.sl xs)) (.c (.int k a)) s) h KH=(0<=a/\a<xs.length/\∀d,xs[a.toNat]?=some d->d.cells.length=s/\KH (.vp d 0) h):=rfl
theorem jT {n o l s:Nat}:aa P (.iadd (.c (.ms n o l)) (.c (.int k a)) s) h KH=(0<=a/\a<l/\(∃els,(h n).row=some (s,els))/\KH (.ptr n (o+a.toNat) 0) h):=rfl
theorem tB {d:D}{j s:Nat}{g:Bool}:aa P (.ld (.c (.vp d j)) s g) h KH=vpart d.cells j s g (KH · h):=rfl
theorem eg {cs:List D}{o s:Nat}:vpart cs o s false K=(match cs[o]? with|some d=>K d|none=>False):=rfl
theorem iu {cs:List D}{o s:Nat}:vpart cs o s true K=(o+s<=cs.length/\K (.agg ((cs.drop o).take s))):=rfl
theorem wrap64 {n:Int}(h1 : -9223372036854775808<=n) (h2:n<=9223372036854775807):IntKind.i64.wrap n=n:=by
 simp only[IntKind.wrap,IntKind.signed,IntKind.bits]
 first|omega|(simp;omega)
end Go.Am
namespace Go.Am
open Go
variable [bH]
abbrev LH:=List Slot
class LB where
 bs:Nat->bf
def Slot.wb (s:Slot) (B:bf):Slot:=match s with
 | .lp st _=>.lp st B
 | s=>s
def LH.h (l:LH):Heap:=fun n=>l.getD n .free
def LH.w [LB] (l:LH):Heap:=fun n=>(l.getD n .free).wb (LB.bs n)
theorem MO {s:Slot}{B:bf}:(s.wb B).row=s.row:=by cases s<;>rfl
theorem Kk {s:Slot}{B:bf}:(s.wb B).live=s.live:=by cases s<;>rfl
theorem Kl {s:Slot}{B:bf}(h:s.wb B=.free):s=.free:=by cases s<;>first|rfl|cases h
def Slot.IZ:Slot->Bool
 | .lp _ _=>true
 | _=>false
theorem HI {s:Slot}{B:bf}(h:s.IZ=false):s.wb B=s:=by cases s<;>first|rfl|cases h
theorem LH.kZ [LB] {l:LH}{n:Nat}{s:Slot}(hs:l.h n=s) (hne:s.IZ=false):l.w n=s:=by
 have:l.w n=(l.h n).wb (LB.bs n):=rfl
 rw[this,hs,HI hne]
theorem LH.D4 [LB] {l:LH}{n:Nat}{st:LSt}{B:bf}(hs:l.h n=.lp st B):l.w n=.lp st (LB.bs n):=by
 have:l.w n=(l.h n).wb (LB.bs n):=rfl
 rw[this,hs];rfl
theorem LH.Ao [LB] {l:LH}{n:Nat}:(l.w n).row=(l.h n).row:=MO
theorem Kj {s:Slot}{B:bf}:(s.wb B).used=s.used:=by cases s<;>rfl
theorem LH.MP [LB] {l:LH}{n:Nat}:(l.w n).used=(l.h n).used:=Kj
theorem LH.D5 [LB] {l:LH}{n:Nat}:(l.w n).live=(l.h n).live:=Kk
theorem Mz [LB] {l:LH}{d:D}:d.fzc l.h=d.fzc l.w:=by
 cases d<;>try rfl
 simp only[D.fzc,LH.Ao]
theorem Es [LB] {l:LH}{d:D}:d.fz l.h=d.fz l.w:=by
 cases d with
 | agg cs=>simp only[D.fz];exact congrArg D.agg (List.map_congr_left fun x _=>Mz)
 | ms a b c=>exact Mz (d:=.ms a b c)
 | _=>rfl
theorem FP [LB] {l:LH}{ds:List D}:ds.map (D.fz l.h)=ds.map (D.fz l.w):=List.map_congr_left fun x _=>Es
theorem My [LB] {l:LH}{d:D}:d.fzt l.h=d.fzt l.w:=by
 cases d with
 | tup ds=>simp only[D.fzt];exact congrArg D.tup FP
 | ms a b c=>exact Es (d:=.ms a b c)
 | agg cs=>exact Es (d:=.agg cs)
 | _=>rfl
def LH.nf (l:LH):Prop:=∀s∈l,s≠.free
def fi {α:Type}(n:Int) (k:Int->α):α:=match n with
 | .ofNat m=>Nat.rec (k 0) (fun p _=>k (.ofNat (p+1))) m
 | .negSucc m=>Nat.rec (k (.negSucc 0)) (fun p _=>k (.negSucc (p+1))) m
theorem PL {α:Type}{n:Int}{k:Int->α}:fi n k=k n:=by
 cases n with
 | ofNat m=>cases m<;>rfl
 | negSucc m=>cases m<;>rfl
def Ln {α:Type}(n:Nat) (k:Nat->α):α:=Nat.rec (k 0) (fun p _=>k (p+1)) n
theorem FR {α:Type}{n:Nat}{k:Nat->α}:Ln n k=k n:=by cases n<;>rfl
def fb {α:Type}(b:Bool) (k:Bool->α):α:=match b with
 | true=>k true
 | false=>k false
theorem PN {α:Type}{b:Bool}{k:Bool->α}:fb b k=k b:=by cases b<;>rfl
def fl {α β:Type}:List α->(List α->β)->β
 | [],k=>k []
 | a::r,k=>fl r fun r'=>k (a::r')
theorem MB {α β:Type}:∀{l:List α}{k:List α->β},fl l k=k l
 | [],_=>rfl
 | a::r,k=>by rw[fl,MB]
mutual
def fD {α:Type}:D->(D->α)->α
 | .undef,k=>k .undef
 | .nil,k=>k .nil
 | .nilfn,k=>k .nilfn
 | .nilmap,k=>k .nilmap
 | .nilp,k=>k .nilp
 | .int q n,k=>fi n fun n=>k (.int q n)
 | .bool b,k=>fb b fun b=>k (.bool b)
 | .str s,k=>k (.str s)
 | .sl xs,k=>fDL xs fun xs=>k (.sl xs)
 | .ms n o m,k=>Ln n fun n=>Ln o fun o=>Ln m fun m=>k (.ms n o m)
 | .ptr n i j,k=>Ln n fun n=>Ln i fun i=>Ln j fun j=>k (.ptr n i j)
 | .vp e j,k=>fD e fun e=>Ln j fun j=>k (.vp e j)
 | .agg cs,k=>fDL cs fun cs=>k (.agg cs)
 | .tup ds,k=>fDL ds fun ds=>k (.tup ds)
 | .fn f a b,k=>fDL a fun a=>fDL b fun b=>k (.fn f a b)
 | .yld n,k=>k (.yld n)
 | .mp n,k=>Ln n fun n=>k (.mp n)
def fDL {α:Type}:List D->(List D->α)->α
 | [],k=>k []
 | d::r,k=>fD d fun d=>fDL r fun r=>k (d::r)
end
mutual
theorem tG {α:Type}:∀(d:D) (k:D->α),fD d k=k d
 | .undef,_=>rfl
 | .nil,_=>rfl
 | .nilfn,_=>rfl
 | .nilmap,_=>rfl
 | .nilp,_=>rfl
 | .int q n,k=>by rw[fD,PL]
 | .bool b,k=>by rw[fD,PN]
 | .str s,_=>rfl
 | .sl xs,k=>by rw[fD,nT xs]
 | .ms n o m,k=>by simp only[fD,FR]
 | .ptr n i j,k=>by simp only[fD,FR]
 | .vp e j,k=>by rw[fD,tG e,FR]
 | .agg cs,k=>by rw[fD,nT cs]
 | .tup ds,k=>by rw[fD,nT ds]
 | .fn f a b,k=>by rw[fD,nT a,nT b]
 | .yld n,_=>rfl
 | .mp n,k=>by simp only[fD,FR]
theorem nT {α:Type}:∀(l:List D) (k:List D->α),fDL l k=k l
 | [],_=>rfl
 | d::r,k=>by rw[fDL,tG d,nT r]
end
def yK (a b:ByteArray):Bool:=a.data.toList == b.data.toList
theorem yJ {a b:ByteArray}:(a.toList == b.toList)=yK a b:=by simp[yK,ByteArray.toList_eq]
theorem C8 {a b:ByteArray}(h:yK a b=true):a=b:=by
 rw[<- yJ,toList_inj]at h;simpa using h
mutual
def D.same:D->D->Bool
 | .undef,.undef=>true
 | .nil,.nil=>true
 | .nilfn,.nilfn=>true
 | .nilmap,.nilmap=>true
 | .nilp,.nilp=>true
 | .int q n,.int q' n'=>decide (q=q')&&decide (n=n')
 | .bool b,.bool b'=>b == b'
 | .str s,.str s'=>yK s s'
 | .sl xs,.sl ys=>D.sameL xs ys
 | .ms n o m,.ms n' o' m'=>n == n'&&o == o'&&m == m'
 | .ptr n o m,.ptr n' o' m'=>n == n'&&o == o'&&m == m'
 | .vp e j,.vp e' j'=>D.same e e'&&j == j'
 | .agg xs,.agg ys=>D.sameL xs ys
 | .tup xs,.tup ys=>D.sameL xs ys
 | .fn f a b,.fn f' a' b'=>f == f'&&D.sameL a a'&&D.sameL b b'
 | .yld n,.yld n'=>n == n'
 | .mp n,.mp n'=>n == n'
 | _,_=>false
def D.sameL:List D->List D->Bool
 | [],[]=>true
 | d::r,e::s=>D.same d e&&D.sameL r s
 | _,_=>false
end
mutual
theorem D.pE:∀(a b:D),D.same a b=true->a=b
 | .undef,b,h=>by cases b<;>simp_all [D.same]
 | .nil,b,h=>by cases b<;>simp_all [D.same]
 | .nilfn,b,h=>by cases b<;>simp_all [D.same]
 | .nilmap,b,h=>by cases b<;>simp_all [D.same]
 | .nilp,b,h=>by cases b<;>simp_all [D.same]
 | .int q n,b,h=>by cases b<;>simp_all [D.same]
 | .bool x,b,h=>by cases b<;>simp_all [D.same]
 | .str s,b,h=>by
  cases b<;>simp_all [D.same]
  exact C8 h
 | .sl xs,b,h=>by
  cases b<;>simp only[D.same]at h<;>first|(cases h;done)|rw[D.cb xs _ h]
 | .ms n o m,b,h=>by cases b<;>simp_all [D.same]
 | .ptr n o m,b,h=>by cases b<;>simp_all [D.same]
 | .vp e j,b,h=>by
  cases b<;>simp only[D.same,Bool.and_eq_true,beq_iff_eq]at h<;>first|(cases h;done)|rw[D.pE e _ h.1,h.2]
 | .agg xs,b,h=>by
  cases b<;>simp only[D.same]at h<;>first|(cases h;done)|rw[D.cb xs _ h]
 | .tup xs,b,h=>by
  cases b<;>simp only[D.same]at h<;>first|(cases h;done)|rw[D.cb xs _ h]
 | .fn f x y,b,h=>by
  cases b<;>simp only[D.same,Bool.and_eq_true,beq_iff_eq]at h<;>first|(cases h;done)|rw[h.1.1,D.cb x _ h.1.2,D.cb y _ h.2]
 | .yld n,b,h=>by cases b<;>simp_all [D.same]
 | .mp n,b,h=>by cases b<;>simp_all [D.same]
theorem D.cb:∀(a b:List D),D.sameL a b=true->a=b
 | [],b,h=>by cases b<;>simp_all [D.sameL]
 | d::r,b,h=>by
  cases b with
  | nil=>simp[D.sameL]at h
  | cons e s =>
   simp only[D.sameL,Bool.and_eq_true]at h
   rw[D.pE d e h.1,D.cb r s h.2]
end
def ebin (op:BinOp) (x y:D):Option D :=
 match x,y with
 | .int k a,.int k' b =>
  match op with
  | .shl=>if 0<=b then some (.int k (Lf k a b)) else none
  | .shr=>if 0<=b then some (.int k (Bv k a b)) else none
  | .add=>if k=k' then some (.int k (k.wrap (a+b))) else none
  | .sub=>if k=k' then some (.int k (k.wrap (a-b))) else none
  | .mul=>if k=k' then some (.int k (k.wrap (a*b))) else none
  | .quo=>if k=k'/\b≠0 then some (.int k (k.wrap (a.tdiv b))) else none
  | .rem=>if k=k'/\b≠0 then some (.int k (a.tmod b)) else none
  | .and=>if k=k' then some (.int k (ibits .and k a b)) else none
  | .or=>if k=k' then some (.int k (ibits .or k a b)) else none
  | .xor=>if k=k' then some (.int k (ibits .xor k a b)) else none
  | .andNot=>if k=k' then some (.int k (ibits .andNot k a b)) else none
  | .eql=>if k=k' then some (.bool (decide (a=b))) else none
  | .neq=>if k=k' then some (.bool (!decide (a=b))) else none
  | .lss=>if k=k' then some (.bool (decide (a<b))) else none
  | .leq=>if k=k' then some (.bool (decide (a<=b))) else none
  | .gtr=>if k=k' then some (.bool (decide (b<a))) else none
  | .geq=>if k=k' then some (.bool (decide (b<=a))) else none
 | .str a,.str b =>
  match op with
  | .eql=>some (.bool (yK a b))
  | .neq=>some (.bool (!yK a b))
  | .add=>if a.size+b.size<=9223372036854775807 then some (.str (a++b)) else none
  | _=>none
 | _,_=>none
theorem Lx {op:BinOp}{x y d:D}(h:ebin op x y=some d){K:D->Prop}(hk:K d):vbin op x y K:=by
 unfold ebin at h
 split at h
 ·cases op<;>simp only at h<;>(try split at h)<;>simp only[Option.some.injEq,reduceCtorEq]at h<;>subst h<;>simp_all [vbin]
 ·cases op<;>simp only at h<;>(try split at h)<;>simp only[Option.some.injEq,reduceCtorEq]at h<;>subst h<;>simp_all [vbin,yJ]
 ·cases h
def eun (op:UnOp) (x:D):Option D :=
 match op,x with
 | .neg,.int k n=>some (.int k (k.wrap (0-n)))
 | .xor,.int k n=>some (.int k (ibits .xor k (if k.signed then -1 else k.max) n))
 | .not,.bool b=>some (.bool !b)
 | _,_=>none
theorem N7 {op:UnOp}{x d:D}(h:eun op x=some d){K:D->Prop}(hk:K d):vun op x K:=by
 unfold eun at h
 split at h<;>simp only[Option.some.injEq,reduceCtorEq]at h<;>subst h<;>exact hk
def eqCellsE:List CK->List D->List D->Option Bool
 | [],[],[]=>some true
 | .i::ks,.int k a::r,.int k' b::s=>if k=k' then(eqCellsE ks r s).map (fun t=>decide (a=b)&&t) else none
 | .b::ks,.bool a::r,.bool b::s=>(eqCellsE ks r s).map (fun t=>(a == b)&&t)
 | .s::ks,.str a::r,.str b::s=>(eqCellsE ks r s).map (fun t=>yK a b&&t)
 | _,_,_=>none
theorem Da:∀(ks:List CK) (x y:List D),eqCells ks x y=eqCellsE ks x y:=by
 intro ks x y
 induction ks,x,y using eqCells.induct<;>simp_all [eqCells,eqCellsE,yJ]
def vK (cs:List D) (off size:Nat) (agg:Bool):Option D :=
 if agg then if off+size<=cs.length then some (.agg ((cs.drop off).take size)) else none
 else cs[off]?
theorem rD {cs:List D}{off size:Nat}{agg:Bool}{d:D}(h:vK cs off size agg=some d){K:D->Prop}(hk:K d):vpart cs off size agg K:=by
 unfold vK at h
 unfold vpart
 cases agg
 ·simp only[Bool.false_eq_true,if_false]at h ⊢
  rw[h];exact hk
 ·simp only[if_true]at h ⊢
  split at h
  ·simp at h;subst h;exact⟨by assumption,hk⟩
  ·cases h
def eelems (esz:Nat) (x:D) (l:LH):Option (List D) :=
 match x with
 | .nil=>some []
 | .sl xs=>if xs.all (fun e=>e.cells.length == esz) then some xs else none
 | .ms n off len=>match (l.h n).row with
  | some (e,els)=>if e=esz/\off+len<=els.length then some ((els.drop off).take len) else none
  | none=>none
 | _=>none
theorem sN [LB] {esz:Nat}{x:D}{l:LH}{ys:List D}(h:eelems esz x l=some ys){K:List D->Prop}(hk:K ys):velems esz x l.w K:=by
 unfold eelems at h
 unfold velems
 split at h
 ·simp at h;subst h;exact hk
 ·split at h
  ·rename_i xs hx
   simp at h;subst h
   exact⟨fun e he=>by simpa using List.all_eq_true.1 hx e he,hk⟩
  ·cases h
 ·split at h
  ·rename_i e els hr
   split at h
   ·rename_i hc
    simp at h;subst h
    exact⟨els,by rw[LH.Ao,hr,hc.1],hc.2,hk⟩
   ·cases h
  ·cases h
 ·cases h
def eint:D->Option Int
 | .int _ i=>some i
 | _=>none
theorem gy {x:D}{i:Int}(h:eint x=some i){K:Int->Prop}(hk:K i):vint x K:=by
 unfold eint at h
 split at h<;>simp at h
 subst h;exact hk
def eopt (e:LEnv) (x:Option Arg) (dflt:Nat):Option Int :=
 match x with
 | none=>some dflt
 | some a=>eint (a.get e)
theorem iH {e:LEnv}{x:Option Arg}{dflt:Nat}{i:Int}(h:eopt e x dflt=some i){K:Int->Prop}(hk:K i):vopt e x dflt K:=by
 cases x with
 | none=>simp[eopt]at h;subst h;exact hk
 | some a=>exact gy h hk
def gB (d:D):Bool:=d.cells.all D.one
theorem cn {d:D}(h:gB d=true):aH d:=fun x hx=>List.all_eq_true.1 h x hx
def Ce (d:D):Bool:=d.cells.all D.vone
theorem uP {d:D}(h:Ce d=true):∀y∈d.cells,y.vone=true:=fun x hx=>List.all_eq_true.1 h x hx
def fzOkcB (l:LH):D->Bool
 | .ms n off len=>match (l.h n).row with
  | some (_,els)=>decide (off+len<=els.length)&&((els.drop off).take len).all Ce
  | none=>false
 | _=>true
def AJ (l:LH) (d:D):Bool:=d.cells.all (fzOkcB l)
theorem G3 [LB] {l:LH}{d:D}(h:fzOkcB l d=true):mo l.w d:=by
 cases d<;>try exact trivial
 rename_i n off len
 simp only[fzOkcB]at h
 split at h
 ·rename_i e els hr
  simp only[Bool.and_eq_true,decide_eq_true_eq,List.all_eq_true]at h
  exact⟨e,els,by rw[LH.Ao];exact hr,h.1,fun x hx=>uP (h.2 x hx)⟩
 ·cases h
theorem rh [LB] {l:LH}{d:D}(h:AJ l d=true):kG l.w d:=fun x hx=>G3 (List.all_eq_true.1 h x hx)
def DL:D->Bool
 | .tup ds=>ds.all gB
 | d=>gB d
def I9 (l:LH):D->Bool
 | .tup ds=>ds.all (AJ l)
 | d=>AJ l d
theorem DK {d:D}(h:DL d=true):jb d:=by
 cases d<;>first
  | exact cn h
  | exact fun x hx=>cn (List.all_eq_true.1 h x hx)
theorem G4 [LB] {l:LH}{d:D}(h:I9 l d=true):sg l.w d:=by
 cases d<;>first
  | exact rh h
  | exact fun x hx=>rh (List.all_eq_true.1 h x hx)
theorem LH.QH [LB] {l:LH}{n:Nat}(hn:n<l.length):l.w n=(l[n]).wb (LB.bs n):=by simp[LH.w,hn]
theorem LH.MQ [LB] {l:LH}{n:Nat}(hn:l.length<=n):l.w n=.free:=by simp[LH.w,hn,Slot.wb]
theorem LH.B8 [LB] {l:LH}(h:l.nf){n:Nat}(t:m8 l.w n):n=l.length:=by
 rcases Nat.lt_trichotomy n l.length with h1|h1|h1
 ·have:=t.free
  rw[LH.QH h1]at this
  exact absurd (Kl this) (h _ (List.getElem_mem h1))
 ·exact h1
 ·exfalso
  obtain⟨k,rfl⟩:∃k,n=k+1:=⟨n-1,by omega⟩
  exact t.2 k rfl (LH.MQ (by omega))
theorem LH.E8 [LB] (l:LH) (s:Slot):LH.w (l++[s])=aq l.w l.length (s.wb (LB.bs l.length)):=by
 funext n
 unfold LH.w aq
 by_cases h:n=l.length
 ·subst h;simp
 ·rw[if_neg h]
  rcases Nat.lt_or_ge n l.length with h1|h1
  ·simp[List.getD,List.getElem?_append_left h1]
  ·have:(l++[s]).length<=n:=by simp;omega
   simp[List.getD,List.getElem?_eq_none this,List.getElem?_eq_none h1]
theorem LH.A9 [LB] (l:LH) (s:Slot) (hs:s.IZ=false):LH.w (l++[s])=aq l.w l.length s:=by rw[LH.E8,HI hs]
theorem LH.HJ [LB] {l:LH}{n:Nat}(s:Slot) (hn:n<l.length):LH.w (l.set n s)=aq l.w n (s.wb (LB.bs n)):=by
 funext m
 unfold LH.w aq
 by_cases h:m=n
 ·subst h;simp[List.getD,hn]
 ·have:n≠m:=fun e=>h e.symm
  simp[List.getD,this,h]
theorem LH.tt [LB] {l:LH}{n:Nat}(s:Slot) (hs:s.IZ=false) (hn:n<l.length):LH.w (l.set n s)=aq l.w n s:=by rw[LH.HJ s hn,HI hs]
theorem LH.xU {l:LH}{n:Nat}(h:l.h n≠.free):n<l.length:=by
 rcases Nat.lt_or_ge n l.length with h1|h1
 ·exact h1
 ·exact absurd (by simp[LH.h,h1]) h
theorem LH.vt {l:LH}(h:l.nf){s:Slot}(hs:s≠.free):LH.nf (l++[s]):=by
 intro x hx
 rcases List.mem_append.1 hx with h1|h1
 ·exact h x h1
 ·simp at h1;subst h1;exact hs
theorem LH.iC {l:LH}(h:l.nf){n:Nat}{s:Slot}(hs:s≠.free):LH.nf (l.set n s):=by
 intro x hx
 rcases List.mem_or_eq_of_mem_set hx with h1|h1
 ·exact h x h1
 ·subst h1;exact hs
def LH.frz (l:LH) (n:Nat):LH:=match l.h n with
 | .arr e x=>l.set n (.frz e x)
 | _=>l
theorem LH.PI [LB] (l:LH) (n:Nat):(l.frz n).w=l.w.freeze n:=by
 unfold LH.frz Heap.freeze
 cases hn:l.h n with
 | arr e x =>
  rw[LH.kZ hn rfl]
  exact LH.tt _ rfl (LH.xU (by rw[hn];simp))
 | lp st B=>rw[LH.D4 hn]
 | free=>rw[LH.kZ hn rfl]
 | dead=>rw[LH.kZ hn rfl]
 | box v=>rw[LH.kZ hn rfl]
 | frz e x=>rw[LH.kZ hn rfl]
 | map k x=>rw[LH.kZ hn rfl]
theorem LH.NW {l:LH}(h:l.nf) (n:Nat):(l.frz n).nf:=by
 unfold LH.frz
 cases hn:l.h n<;>simp only<;>first|exact h|exact LH.iC h (by simp)
def LH.frzAll (l:LH):List Nat->LH
 | []=>l
 | n::r=>LH.frzAll (l.frz n) r
theorem LH.sI [LB]:∀(ns:List Nat){l:LH},l.nf->(l.frzAll ns).w=l.w.freezeAll ns/\(l.frzAll ns).nf
 | [],_,h=>⟨rfl,h⟩
 | n::r,l,h=>by
  have:=LH.sI r (LH.NW h n)
  simp only[LH.frzAll,Heap.freezeAll]
  rw[LH.PI]at this
  exact this
end Go.Am
namespace Go.Am
open Go
variable [bH]
abbrev Ag:=Nat->List D->LH->Option (D×LH)
structure gM where
 call:FuncId->List D->LH->Option (D×LH)
 vcall:FuncId->List D->Option D
 own:FuncId->Bool
 yld:Ag
 k:Nat
 callR:Nat->Ag->FuncId->List D->LH->Option (D×LH)
def sJ (n:Nat) (l:List (Nat×Nat×D)):Bool:=l.all fun p=>p.2.2.cells.length == p.2.1&&decide (p.1+p.2.1<=n)&&gB p.2.2
theorem pC {n:Nat}{l:List (Nat×Nat×D)}(h:sJ n l=true):iG n l:=by
 intro p hp
 have:=List.all_eq_true.1 h p hp
 simp only[Bool.and_eq_true,beq_iff_eq,decide_eq_true_eq]at this
 exact⟨this.1.1,this.1.2,cn this.2⟩
def EU (len esz:Nat) (l:List (Nat×D)):Bool:=l.all fun p=>decide (p.1<len)&&p.2.cells.length == esz&&gB p.2
theorem oP {len esz:Nat}{l:List (Nat×D)}(h:EU len esz l=true):Dy len esz l:=by
 intro p hp
 have:=List.all_eq_true.1 h p hp
 simp only[Bool.and_eq_true,beq_iff_eq,decide_eq_true_eq]at this
 exact⟨this.1.1,this.1.2,cn this.2⟩
def BP (l:LH) (ds:List D):Bool:=ds.all fun d=>gB d&&AJ l d&&(d.fz l.h).vd
theorem ux [LB] {l:LH}{ds:List D}(h:BP l ds=true):zt l.w ds:=by
 intro d hd
 have:=List.all_eq_true.1 h d hd
 simp only[Bool.and_eq_true]at this
 exact⟨cn this.1.1,rh this.1.2,by rw[<- Es];exact this.2⟩
def isFrz (l:LH) (n:Nat):Bool:=match l.h n with
 | .frz _ _=>true
 | _=>false
theorem CG [LB] {l:LH}{n:Nat}(h:isFrz l n=true):∃e x,l.w n=.frz e x:=by
 unfold isFrz at h
 split at h
 ·rename_i hn;exact⟨_,_,LH.kZ hn rfl⟩
 ·cases h
def evPure (C:gM) (f:FuncId) (ds:List D) (l:LH):Option D :=
 if C.own f then none else
 if BP l ds then
  fDL (ds.map (D.fz l.h)) fun vs=>match C.vcall f vs with
  | some r=>if r.flat||(ds.flatMap D.nm).all (isFrz l) then some r else none
  | none=>none
 else none
def BI (C:gM) (f:FuncId) (ds:List D) (l:LH):Option (D×LH) :=
 match evPure C f ds l with
 | some r=>some (r,l)
 | none=>C.call f ds l
def evLd (x:D) (size:Nat) (agg:Bool) (l:LH):Option D :=
 match x with
 | .vp d j=>vK d.cells j size agg
 | .ptr n i j=>match l.h n with
  | .box v=>if i=0 then vK v.cells j size agg else none
  | .arr _ els=>match els[i]? with|some d=>vK d.cells j size agg|none=>none
  | .frz _ els=>match els[i]? with|some d=>vK d.cells j size agg|none=>none
  | _=>none
 | _=>none
def evOp (P:Program) (C:gM) (op:AOp) (e:LEnv) (l:LH):Option (D×LH) :=
 match op with
 | .mov x=>some (x.get e,l)
 | .pick c a b=>match c.get e with
  | .bool t=>some (if t then a.get e else b.get e,l)
  | _=>none
 | .bin op x y=>(ebin op (x.get e) (y.get e)).map (·,l)
 | .eqv neg agg ks x y=>if(x.get e).isAgg=agg/\(y.get e).isAgg=agg then
   match eqCellsE ks (x.get e).cells (y.get e).cells with
   | some b=>some (.bool (if neg then !b else b),l)
   | none=>none
  else none
 | .un op x=>(eun op (x.get e)).map (·,l)
 | .conv k x=>match eint (x.get e) with
  | some i=>some (.int k (k.wrap i),l)
  | none=>none
 | .ext x i=>match x.get e with
  | .tup ds=>match ds[i]? with
   | some d=>some (d,l)
   | none=>none
  | _=>none
 | .fld x off size agg=>match x.get e with
  | .agg cs=>(vK cs off size agg).map (·,l)
  | _=>none
 | .bld zero parts=>if sJ zero.length (parts.map fun p=>(p.1,p.2.1,p.2.2.get e)) then some (.agg (fillD zero (parts.map fun p=>(p.1,p.2.1,(p.2.2.get e).cells))),l) else none
 | .bldS fz esz len zero parts =>
  let vs:=parts.map fun p=>(p.1,p.2.get e)
  if EU len esz vs&&(!fz||vs.all fun p=>AJ l p.2) then
   fDL (setEls (List.replicate len zero) (parts.map fun p=>(p.1,if fz then(p.2.get e).fz l.h else p.2.get e))) fun els =>
   fl ((if fz then l.frzAll (parts.flatMap fun p=>(p.2.get e).nm) else l)++[.arr esz els]) fun l'=>some (.ms l.length 0 len,l')
  else none
 | .len x=>match x.get e with
  | .nil=>some (.int .i64 0,l)
  | .sl xs=>some (.int .i64 xs.length,l)
  | .ms n _ len=>if(l.h n).live then some (.int .i64 len,l) else none
  | _=>none
 | .slen x=>match x.get e with
  | .str s=>some (.int .i64 s.size,l)
  | _=>none
 | .fadd x off=>match x.get e with
  | .ptr n i j=>if(l.h n).live then some (.ptr n i (j+off),l) else none
  | .vp d j=>some (.vp d (j+off),l)
  | _=>none
 | .iadd x i esz=>match eint (i.get e) with
  | none=>none
  | some i=>match x.get e with
   | .sl xs=>if 0<=i then match xs[i.toNat]? with
     | some d=>if d.cells.length=esz then some (.vp d 0,l) else none
     | none=>none
    else none
   | .ms n off len=>if 0<=i/\i<len then match (l.h n).row with
     | some (e',_)=>if e'=esz then some (.ptr n (off+i.toNat) 0,l) else none
     | none=>none
    else none
   | _=>none
 | .iadda x i len esz=>match eint (i.get e) with
  | none=>none
  | some i=>if 0<=i/\i<len then match x.get e with
   | .ptr n k j=>if(l.h n).live then some (.ptr n k (j+i.toNat*esz),l) else none
   | .vp d j=>some (.vp d (j+i.toNat*esz),l)
   | _=>none
   else none
 | .sidx x i len size agg=>match eint (i.get e) with
  | none=>none
  | some i=>match x.get e with
   | .agg cs=>if 0<len/\0<=i/\i<len then(vK cs (i.toNat*size) size agg).map (·,l) else none
   | .str s=>if len=0/\0<=i/\i<s.size then match s.data.toList[i.toNat]? with
    | some b=>some (.int .u8 b.toNat,l)
    | none=>none
    else none
   | _=>none
 | .ld x size agg=>(evLd (x.get e) size agg l).map (·,l)
 | .st x v size=>if(v.get e).cells.length=size/\gB (v.get e)=true then match x.get e with
   | .ptr n i j=>match l.h n with
    | .box d=>if i=0/\j+size<=d.cells.length then fD (setCells d j (v.get e).cells) fun d=>fl (l.set n (.box d)) fun l'=>some (.undef,l') else none
    | .arr esz els=>if j+size<=esz then match els[i]? with
      | some d=>fDL (els.set i (setCells d j (v.get e).cells)) fun els=>fl (l.set n (.arr esz els)) fun l'=>some (.undef,l')
      | none=>none
     else none
    | _=>none
   | _=>none
  else none
 | .alloc zero=>fl (l++[.box zero]) fun l'=>some (.ptr l.length 0 0,l')
 | .box x=>if gB (x.get e) then fD (x.get e) fun d=>fl (l++[.box d]) fun l'=>some (.ptr l.length 0 0,l') else none
 | .mk esz bytes zero len cap=>match eint (len.get e),eint (cap.get e) with
  | some n,some c=>if 0<=n/\n<=c/\c*bytes<=140737488355328/\c<=9223372036854775807 then
    fl (List.replicate n.toNat zero) fun els=>fl (l++[.arr esz els]) fun l'=>some (.ms l.length 0 n.toNat,l')
   else none
  | _,_=>none
 | .o8 x lo hi mx esz=>match x.get e with
  | .nil=>match eopt e lo 0,eopt e hi 0,eopt e mx 0 with
   | some a,some b,some m=>if a=0/\b=0/\m=0 then some (.nil,l) else none
   | _,_,_=>none
  | .sl xs=>match eopt e lo 0,eopt e hi xs.length,eopt e mx xs.length with
   | some a,some b,some m=>if 0<=a/\a<=b/\b<=m/\m<=xs.length/\(xs.all fun d=>d.cells.length == esz)=true then some (.sl ((xs.drop a.toNat).take (b-a).toNat),l) else none
   | _,_,_=>none
  | .ms n off len=>match eopt e lo 0,eopt e hi len,eopt e mx len with
   | some a,some b,some m=>match (l.h n).row with
    | some (e',_)=>if e'=esz/\0<=a/\a<=b/\b<=m/\m<=len then some (.ms n (off+a.toNat) (b-a).toNat,l) else none
    | none=>none
   | _,_,_=>none
  | _=>none
 | .nilq neg x=>match x.get e with
  | .nil=>some (.bool (!neg),l)
  | .sl (_::_)=>some (.bool neg,l)
  | _=>none
 | .slz x esz=>match x.get e with
  | .nil=>fl (l++[.arr esz []]) fun l'=>some (.ms l.length 0 0,l')
  | .sl _=>fl (l++[.arr esz []]) fun l'=>some (.ms l.length 0 0,l')
  | .ms m _ _=>match (l.h m).row with
   | some (e',_)=>if e'=esz then fl (l++[.arr esz []]) fun l'=>some (.ms l.length 0 0,l') else none
   | none=>none
  | _=>none
 | .Eb x n=>match x.get e with
  | .ptr m i j=>match l.h m with
   | .box (.agg cs)=>if i=0/\0<n/\n<=1000000/\j+n<=cs.length/\((cs.drop j).take n).all D.vone=true then fDL ((cs.drop j).take n) fun xs=>some (.sl xs,l.set m .dead) else none
   | _=>none
  | _=>none
 | .mkc bytes len cap=>match eint (len.get e),eint (cap.get e) with
  | some n,some c=>if 0<=n/\n<=c/\c*bytes<=140737488355328/\c<=9223372036854775807 then some (.undef,l) else none
  | _,_=>none
 | .b2s x=>match eelems 1 (x.get e) l with
  | some ys=>if ys.all gB then match u8L ys with
   | some ns=>some (.str (strOf ns),l)
   | none=>none
   else none
  | none=>none
 | .sslc x lo hi=>match x.get e with
  | .str s=>match eopt e lo 0,eopt e hi s.size with
   | some a,some b=>if 0<=a/\a<=b/\b<=s.size then some (.str (s.extract a.toNat b.toNat),l) else none
   | _,_=>none
  | _=>none
 | .app s x esz bytes _=>match eelems esz (x.get e) l with
  | none=>none
  | some ys=>if ys.all gB then match s.get e with
   | .nil=>if ys.length*bytes<=140737488355328/\ys.length<=9223372036854775807 then fDL ys fun ys'=>fl (l++[.arr esz ys']) fun l'=>some (.ms l.length 0 ys.length,l') else none
   | .ms m off len=>match l.h m with
    | .arr esz' els=>if esz'=esz/\off=0/\len<=els.length/\(len+ys.length)*bytes<=140737488355328/\len+ys.length<=9223372036854775807 then
      fDL (els.take len++ys) fun zs=>fl (l.set m .dead++[.arr esz zs]) fun l'=>some (.ms l.length 0 (len+ys.length),l') else none
    | _=>none
   | _=>none
   else none
 | .oo d s esz=>match eelems esz (s.get e) l with
  | none=>none
  | some ys=>if ys.all gB then match d.get e with
   | .ms m off len=>match l.h m with
    | .arr esz' els=>if esz'=esz/\off+len<=els.length then
      fDL (els.take off++ys.take len++els.drop (off+min ys.length len)) fun zs=>fl (l.set m (.arr esz zs)) fun l'=>some (.int .i64 (min ys.length len:Nat),l') else none
    | _=>none
   | _=>none
   else none
 | .call f args=>BI C f (args.map (·.get e)) l
 | .callv x args=>match x.get e with
  | .fn f a b=>if cv P f then BI C f (a++args.map (·.get e)++b) l else none
  | .yld n=>match l.h n with
   | .lp _ _=>C.yld n (args.map (·.get e)) l
   | _=>none
  | _=>none
 | .mkf f a b=>some (.fn f (a.map (·.get e)) (b.map (·.get e)),l)
 | .mn x y=>match x.get e,y.get e with
  | .int k a,.int k' b=>if k=k' then some (.int k (if b<a then b else a),l) else none
  | _,_=>none
 | .mx x y=>match x.get e,y.get e with
  | .int k a,.int k' b=>if k=k' then some (.int k (if a<b then b else a),l) else none
  | _,_=>none
 | .mn3 x y z=>match x.get e,y.get e,z.get e with
  | .int k a,.int k' b,.int k'' c=>if k=k'/\k=k'' then some (.int k (min (min a b) c),l) else none
  | _,_,_=>none
 | .mx3 x y z=>match x.get e,y.get e,z.get e with
  | .int k a,.int k' b,.int k'' c=>if k=k'/\k=k'' then some (.int k (max (max a b) c),l) else none
  | _,_,_=>none
 | .CA kt=>some (.mp l.length,l++[.map kt []])
 | .look kt x k z ok=>if kt.okB (k.get e) then match x.get e with
   | .mp n=>match l.h n with
    | .map kt' ents=>if kt'=kt then some (if ok then .tup [(mget ents (k.get e)).getD z,.bool (mget ents (k.get e)).isSome] else(mget ents (k.get e)).getD z,l) else none
    | _=>none
   | _=>none
  else none
 | .mupd kt x k v=>if kt.okB (k.get e)&&(v.get e).one then match x.get e with
   | .mp n=>match l.h n with
    | .map kt' ents=>if kt'=kt then some (.undef,l.set n (.map kt (mset ents (k.get e) (v.get e)))) else none
    | _=>none
   | _=>none
  else none
 | .dead=>none
structure jN [LB] (P:Program) (C:gM):Prop where
 call:∀f ds l d l',C.call f ds l=some (d,l')->l.nf->l'.nf/\∀K:HKq,K d l'.w->af P f ds l.w K
 yld:∀n ds l d l',C.yld n ds l=some (d,l')->l.nf->l'.nf/\∀K:HKq,K d l'.w->mG P n ds l.w K
 vcall:∀f ds r,C.vcall f ds=some r->aQ P f ds (· = r)
variable {P:Program}{C:gM}[LB]
theorem G6 (ok:jN P C){f:FuncId}{ds:List D}{l:LH}{r:D}(h:evPure C f ds l=some r) (K:HKq) (hk:K r l.w):af P f ds l.w K:=by
 unfold evPure at h
 split at h
 ·cases h
 ·split at h
  ·rename_i hc
   rw[nT,FP]at h
   split at h
   ·rename_i r' hv
    split at h
    ·rename_i hf
     simp at h;subst h
     refine af.mono ?_ (cL (ok.vcall _ _ _ hv) (ux hc))
     rintro r h' ⟨rfl,h1,h2⟩
     by_cases hc':r.flat=true\/ds.flatMap D.nm=[]
     ·rw[h1 hc'];exact hk
     ·rw[h2 hc']
      simp only[Bool.or_eq_true]at hf
      rcases hf with hf|hf
      ·exact absurd (Or.inl hf) hc'
      ·rw[lS _ fun n hn=>CG (List.all_eq_true.1 hf n hn)];exact hk
    ·cases h
   ·cases h
  ·cases h
theorem AO (ok:jN P C){f:FuncId}{ds:List D}{l:LH}{d:D}{l':LH}(h:BI C f ds l=some (d,l')) (hn:l.nf):l'.nf/\∀K:HKq,K d l'.w->af P f ds l.w K:=by
 unfold BI at h
 split at h
 ·rename_i r hr
  simp at h;obtain⟨rfl,rfl⟩:=h
  exact⟨hn,fun K hk=>G6 ok hr K hk⟩
 ·exact ok.call _ _ _ _ _ h hn
theorem F3 {x:D}{size:Nat}{agg:Bool}{l:LH}{d:D}(h:evLd x size agg l=some d){a:Arg}{e:LEnv}(ha:a.get e=x){K:HKq}(hk:K d l.w):vcOp P (.ld a size agg) K e l.w:=by
 subst ha
 simp only[evLd,vcOp]at h ⊢
 have one:∀(els:List D) (i j:Nat),(match els[i]? with|some d=>vK d.cells j size agg|none=>none)=some d->i<els.length/\∀d',els[i]?=some d'->vpart d'.cells j size agg fun x=>K x l.w:=by
  intro els i j h
  cases he:els[i]? with
  | none=>simp[he]at h
  | some d1 =>
   simp only[he]at h
   refine⟨(List.getElem?_eq_some_iff.1 he).1,fun d' hd'=>?_⟩
   cases hd'
   exact rD (K:=fun x=>K x l.w) h hk
 cases hx:a.get e<;>simp only[hx]at h ⊢<;>try (cases h;done)
 ·rename_i n i j
  cases hn:l.h n<;>simp only[hn]at h<;>try (cases h;done)
  ·rw[LH.kZ hn rfl]
   split at h
   ·exact⟨by assumption,rD (K:=fun x=>K x l.w) h hk⟩
   ·cases h
  ·rw[LH.kZ hn rfl];exact one _ _ _ h
  ·rw[LH.kZ hn rfl];exact one _ _ _ h
 ·exact rD (K:=fun x=>K x l.w) h hk
end Go.Am
namespace Go.Am
open Go
variable [bH]
variable {P:Program}{C:gM}[LB]
theorem F0 (ok:jN P C){op:AOp}{e:LEnv}{l:LH}{d:D}{l':LH}(h:evOp P C op e l=some (d,l')) (hn:l.nf) :
  l'.nf/\∀K:HKq,K d l'.w->vcOp P op K e l.w:=by
 have same:∀{x:Option D},x.map (fun y=>(y,l))=some (d,l')->x=some d/\l'=l:=by
  intro x h
  cases x<;>simp at h
  exact⟨by rw[h.1],h.2.symm⟩
 have new:∀(s:Slot) (hs:s≠.free) (hw:s.IZ=false),LH.nf (l++[s])/\∀K:Nat->Heap->Prop,K l.length (LH.w (l++[s]))->∀n,m8 l.w n->K n (aq l.w n s):=by
  intro s hs hw
  refine⟨LH.vt hn hs,fun K hk n t=>?_⟩
  have:=LH.B8 hn t
  subst this
  rw[<- LH.A9 _ _ hw]
  exact hk
 cases op<;>simp only[evOp,MB,nT,tG,Es]at h
 case mov x=>cases h;exact⟨hn,fun K hk=>hk⟩
 case pick c a b =>
  cases hc:c.get e<;>simp only[hc]at h<;>try (cases h;done)
  cases h
  exact⟨hn,fun K hk=>by simp only[vcOp,hc];exact hk⟩
 case bin op x y =>
  obtain⟨h1,rfl⟩:=same h
  exact⟨hn,fun K hk=>Lx (K:=fun d=>K d l'.w) h1 hk⟩
 case eqv neg agg ks x y =>
  split at h
  ·rename_i hc
   cases he:eqCellsE ks (x.get e).cells (y.get e).cells<;>simp only[he]at h<;>try (cases h;done)
   cases h
   refine⟨hn,fun K hk=>⟨hc.1,hc.2,?_⟩⟩
   simp only[veqv,Da,he]
   exact hk
  ·cases h
 case un op x =>
  obtain⟨h1,rfl⟩:=same h
  exact⟨hn,fun K hk=>N7 (K:=fun d=>K d l'.w) h1 hk⟩
 case conv k x =>
  cases hc:eint (x.get e)<;>simp only[hc]at h<;>try (cases h;done)
  cases h
  exact⟨hn,fun K hk=>gy (K:=fun i=>K (.int k (k.wrap i)) l.w) hc hk⟩
 case ext x i =>
  cases hc:x.get e<;>simp only[hc]at h<;>try (cases h;done)
  rename_i ds
  cases hd:ds[i]?<;>simp only[hd]at h<;>try (cases h;done)
  cases h
  exact⟨hn,fun K hk=>by simp only[vcOp,hc,hd];exact hk⟩
 case fld x off size agg =>
  cases hc:x.get e<;>simp only[hc]at h<;>try (cases h;done)
  obtain⟨h1,rfl⟩:=same h
  exact⟨hn,fun K hk=>by simp only[vcOp,hc];exact rD (K:=fun d=>K d l'.w) h1 hk⟩
 case bld zero parts =>
  split at h
  ·rename_i hc
   cases h
   exact⟨hn,fun K hk=>⟨pC hc,hk⟩⟩
  ·cases h
 case bldS fz esz len zero parts =>
  split at h
  ·rename_i hc
   simp only[Bool.and_eq_true,Bool.or_eq_true,Bool.not_eq_true']at hc
   cases h
   have hfz:fz=true->Gd l.w (parts.map fun p=>(p.1,p.2.get e)):=by
    intro hf
    rcases hc.2 with h1|h1
    ·rw[hf]at h1;cases h1
    ·exact fun p hp=>rh (List.all_eq_true.1 h1 p hp)
   let l1:LH:=if fz then l.frzAll (parts.flatMap fun p=>(p.2.get e).nm) else l
   have hl1:l1.w=(if fz then l.w.freezeAll (parts.flatMap fun p=>(p.2.get e).nm) else l.w)/\l1.nf/\l1.length=l.length:=by
    cases fz with
    | false=>exact⟨rfl,hn,rfl⟩
    | true =>
     obtain⟨a1,a2⟩:=LH.sI (parts.flatMap fun p=>(p.2.get e).nm) hn
     refine⟨a1,a2,?_⟩
     have:∀(ns:List Nat) (l:LH),(l.frzAll ns).length=l.length:=by
      intro ns
      induction ns with
      | nil=>intro l;rfl
      | cons n r ih =>
       intro l
       simp only[LH.frzAll]
       rw[ih]
       unfold LH.frz
       cases l.h n<;>simp
     exact this _ _
   refine⟨LH.vt hl1.2.1 (by simp),fun K hk=>⟨oP hc.1,hfz,fun n t=>?_⟩⟩
   have:=LH.B8 hn t
   subst this
   rw[LH.A9 _ _ rfl]at hk
   have h2:=hl1.2.2
   have h3:=hl1.1
   simp only[l1]at h2 h3
   rw[h2,h3]at hk
   exact hk
  ·cases h
 case len x =>
  cases hc:x.get e<;>simp only[hc]at h<;>try (cases h;done)
  ·cases h;exact⟨hn,fun K hk=>by simp only[vcOp,hc,aS];exact hk⟩
  ·cases h;exact⟨hn,fun K hk=>by simp only[vcOp,hc,aS];exact hk⟩
  ·split at h
   ·rename_i hlv
    cases h;exact⟨hn,fun K hk=>by simp only[vcOp,hc,aS];exact⟨by rw[LH.D5];exact hlv,hk⟩⟩
   ·cases h
 case slen x =>
  cases hc:x.get e<;>simp only[hc]at h<;>try (cases h;done)
  cases h;exact⟨hn,fun K hk=>by simp only[vcOp,hc];exact hk⟩
 case fadd x off =>
  cases hc:x.get e<;>simp only[hc]at h<;>try (cases h;done)
  ·split at h
   ·rename_i hlv
    cases h;exact⟨hn,fun K hk=>by simp only[vcOp,hc];exact⟨Slot.Bc (by intro h0;rw[<- LH.D5,h0]at hlv;cases hlv),hk⟩⟩
   ·cases h
  ·cases h;exact⟨hn,fun K hk=>by simp only[vcOp,hc];exact hk⟩
 case iadd x i esz =>
  cases hi:eint (i.get e)<;>simp only[hi]at h<;>try (cases h;done)
  rename_i n
  cases hc:x.get e<;>simp only[hc]at h<;>try (cases h;done)
  ·rename_i xs
   split at h
   ·rename_i h0
    cases hx:xs[n.toNat]?<;>simp only[hx]at h<;>try (cases h;done)
    rename_i d0
    split at h
    ·rename_i hs
     cases h
     refine⟨hn,fun K hk=>gy hi ?_⟩
     simp only[hc]
     have:=(List.getElem?_eq_some_iff.1 hx).1
     refine⟨h0,by omega,fun d hd=>?_⟩
     rw[hx]at hd;cases hd
     exact⟨hs,hk⟩
    ·cases h
   ·cases h
  ·rename_i m off len
   split at h
   ·rename_i h0
    cases hr:(l.h m).row<;>simp only[hr]at h<;>try (cases h;done)
    rename_i q
    obtain⟨e',els⟩:=q
    simp only at h
    split at h
    ·rename_i hs
     subst hs
     cases h
     refine⟨hn,fun K hk=>gy hi ?_⟩
     simp only[hc]
     exact⟨h0.1,h0.2,⟨els,by rw[LH.Ao];exact hr⟩,hk⟩
    ·cases h
   ·cases h
 case iadda x i len esz =>
  cases hi:eint (i.get e)<;>simp only[hi]at h<;>try (cases h;done)
  rename_i n
  split at h
  ·rename_i h0
   cases hc:x.get e<;>simp only[hc]at h<;>try (cases h;done)
   ·split at h
    ·rename_i hlv
     cases h
     exact⟨hn,fun K hk=>gy hi (by simp only[hc];exact⟨h0.1,h0.2,by rw[LH.D5];exact hlv,hk⟩)⟩
    ·cases h
   ·cases h
    exact⟨hn,fun K hk=>gy hi (by simp only[hc];exact⟨h0.1,h0.2,hk⟩)⟩
  ·cases h
 case sidx x i len size agg =>
  cases hi:eint (i.get e)<;>simp only[hi]at h<;>try (cases h;done)
  rename_i n
  cases hc:x.get e<;>simp only[hc]at h<;>try (cases h;done)
  rotate_left
  ·split at h
   ·rename_i h0
    obtain⟨h1,rfl⟩:=same h
    exact⟨hn,fun K hk=>gy hi (by simp only[hc];exact⟨h0.1,h0.2.1,h0.2.2,rD (K:=fun d=>K d l'.w) h1 hk⟩)⟩
   ·cases h
  rename_i s
  split at h
  ·rename_i h0
   cases hb:s.data.toList[n.toNat]?<;>simp only[hb]at h<;>try (cases h;done)
   rename_i b
   cases h
   refine⟨hn,fun K hk=>gy hi ?_⟩
   simp only[hc]
   refine⟨h0.1,h0.2.1,h0.2.2,fun b' hb'=>?_⟩
   have:b'=b:=by
    have e1:s.data.toList[n.toNat]?=some b':=by
     rw[<- hb']
     simp only[Array.getElem?_toList]
     rfl
    rw[hb]at e1
    exact(Option.some.inj e1).symm
   subst this
   exact hk
  ·cases h
 case ld x size agg =>
  obtain⟨h1,rfl⟩:=same h
  exact⟨hn,fun K hk=>F3 h1 rfl hk⟩
 case st x v size =>
  split at h
  ·rename_i h0
   cases hc:x.get e<;>simp only[hc]at h<;>try (cases h;done)
   rename_i n i j
   cases hs:l.h n<;>simp only[hs]at h<;>try (cases h;done)
   ·split at h
    ·rename_i h1
     cases h
     have hlt:n<l.length:=LH.xU (by rw[hs];simp)
     refine⟨LH.iC hn (by simp),fun K hk=>⟨h0.1,cn h0.2,?_⟩⟩
     simp only[hc,LH.kZ hs rfl]
     rw[LH.tt _ rfl hlt]at hk
     exact⟨h1.1,h1.2,hk⟩
    ·cases h
   ·rename_i esz els
    split at h
    ·rename_i h1
     cases hx:els[i]?<;>simp only[hx]at h<;>try (cases h;done)
     rename_i d0
     cases h
     have hlt:n<l.length:=LH.xU (by rw[hs];simp)
     refine⟨LH.iC hn (by simp),fun K hk=>⟨h0.1,cn h0.2,?_⟩⟩
     simp only[hc,LH.kZ hs rfl]
     rw[LH.tt _ rfl hlt]at hk
     refine⟨(List.getElem?_eq_some_iff.1 hx).1,h1,fun d hd=>?_⟩
     rw[hx]at hd;cases hd
     exact hk
    ·cases h
  ·cases h
 case alloc zero =>
  cases h
  obtain⟨a1,a2⟩:=new (.box zero) (by simp) rfl
  exact⟨a1,fun K hk=>a2 (fun n h=>K (.ptr n 0 0) h) hk⟩
 case box x =>
  split at h
  ·rename_i h0
   cases h
   obtain⟨a1,a2⟩:=new (.box (x.get e)) (by simp) rfl
   exact⟨a1,fun K hk=>⟨cn h0,a2 (fun n h=>K (.ptr n 0 0) h) hk⟩⟩
  ·cases h
 case mk esz bytes zero len cap =>
  cases h1:eint (len.get e)<;>simp only[h1]at h<;>try (cases h;done)
  rename_i n
  cases h2:eint (cap.get e)<;>simp only[h2]at h<;>try (cases h;done)
  rename_i c
  split at h
  ·rename_i h0
   cases h
   obtain⟨a1,a2⟩:=new (.arr esz (List.replicate n.toNat zero)) (by simp) rfl
   exact⟨a1,fun K hk=>gy h1 (gy h2 ⟨h0.1,h0.2.1,h0.2.2.1,h0.2.2.2,a2 (fun m h=>K (.ms m 0 n.toNat) h) hk⟩)⟩
  ·cases h
 case o8 x lo hi mx esz =>
  cases hc:x.get e<;>simp only[hc]at h<;>try (cases h;done)
  ·cases h1:eopt e lo 0<;>simp only[h1]at h<;>try (cases h;done)
   cases h2:eopt e hi 0<;>simp only[h2]at h<;>try (cases h;done)
   cases h3:eopt e mx 0<;>simp only[h3]at h<;>try (cases h;done)
   split at h
   ·rename_i h0
    cases h
    refine⟨hn,fun K hk=>?_⟩
    simp only[vcOp,hc]
    exact iH h1 (iH h2 (iH h3 ⟨h0.1,h0.2.1,h0.2.2,hk⟩))
   ·cases h
  ·rename_i xs
   cases h1:eopt e lo 0<;>simp only[h1]at h<;>try (cases h;done)
   cases h2:eopt e hi xs.length<;>simp only[h2]at h<;>try (cases h;done)
   cases h3:eopt e mx xs.length<;>simp only[h3]at h<;>try (cases h;done)
   split at h
   ·rename_i h0
    cases h
    refine⟨hn,fun K hk=>?_⟩
    simp only[vcOp,hc]
    exact iH h1 (iH h2 (iH h3 ⟨h0.1,h0.2.1,h0.2.2.1,h0.2.2.2.1,fun d hd=>by simpa using List.all_eq_true.1 h0.2.2.2.2 d hd,hk⟩))
   ·cases h
  ·rename_i n off len
   cases h1:eopt e lo 0<;>simp only[h1]at h<;>try (cases h;done)
   cases h2:eopt e hi len<;>simp only[h2]at h<;>try (cases h;done)
   cases h3:eopt e mx len<;>simp only[h3]at h<;>try (cases h;done)
   cases hr:(l.h n).row<;>simp only[hr]at h<;>try (cases h;done)
   rename_i q
   obtain⟨e',els⟩:=q
   simp only at h
   split at h
   ·rename_i h0
    obtain⟨rfl,h0⟩:=h0
    cases h
    refine⟨hn,fun K hk=>?_⟩
    simp only[vcOp,hc]
    exact iH h1 (iH h2 (iH h3 ⟨h0.1,h0.2.1,h0.2.2.1,h0.2.2.2,⟨els,by rw[LH.Ao];exact hr⟩,hk⟩))
   ·cases h
 case nilq neg x =>
  cases hc:x.get e<;>simp only[hc]at h<;>try (cases h;done)
  ·cases h
   exact⟨hn,fun K hk=>by simp only[vcOp,hc];exact hk⟩
  ·rename_i xs
   cases xs with
   | nil=>cases h
   | cons d r =>
    cases h
    exact⟨hn,fun K hk=>by simp only[vcOp,hc];exact hk⟩
 case slz x esz =>
  obtain⟨a1,a2⟩:=new (.arr esz []) (by simp) rfl
  cases hc:x.get e<;>simp only[hc]at h<;>try (cases h;done)
  ·cases h
   exact⟨a1,fun K hk=>by simp only[vcOp,hc];exact a2 (fun n h=>K (.ms n 0 0) h) hk⟩
  ·cases h
   exact⟨a1,fun K hk=>by simp only[vcOp,hc];exact a2 (fun n h=>K (.ms n 0 0) h) hk⟩
  ·rename_i m off len
   cases hr:(l.h m).row<;>simp only[hr]at h<;>try (cases h;done)
   rename_i q
   obtain⟨e',els⟩:=q
   simp only at h
   split at h
   ·rename_i h0
    subst h0
    cases h
    exact⟨a1,fun K hk=>by simp only[vcOp,hc];exact⟨⟨els,by rw[LH.Ao];exact hr⟩,a2 (fun n h=>K (.ms n 0 0) h) hk⟩⟩
   ·cases h
 case Eb x n =>
  cases hc:x.get e<;>simp only[hc]at h<;>try (cases h;done)
  rename_i m i j
  cases hs:l.h m<;>simp only[hs]at h<;>try (cases h;done)
  rename_i v
  cases v<;>simp only at h<;>try (cases h;done)
  split at h
  ·rename_i h0
   cases h
   refine⟨LH.iC hn (by simp),fun K hk=>?_⟩
   simp only[vcOp,hc,LH.kZ hs rfl]
   rw[LH.tt _ rfl (LH.xU (by rw[hs];simp))]at hk
   exact⟨h0.1,h0.2.1,h0.2.2.1,h0.2.2.2.1,fun d hd=>List.all_eq_true.1 h0.2.2.2.2 d hd,hk⟩
  ·cases h
 case mkc bytes len cap =>
  cases h1:eint (len.get e)<;>simp only[h1]at h<;>try (cases h;done)
  rename_i n
  cases h2:eint (cap.get e)<;>simp only[h2]at h<;>try (cases h;done)
  rename_i c
  split at h
  ·rename_i h0
   cases h
   exact⟨hn,fun K hk=>gy h1 (gy h2 ⟨h0.1,h0.2.1,h0.2.2.1,h0.2.2.2,hk⟩)⟩
  ·cases h
 case b2s x =>
  cases hx:eelems 1 (x.get e) l<;>simp only[hx]at h<;>try (cases h;done)
  rename_i ys
  split at h
  ·rename_i hall
   cases hu:u8L ys<;>simp only[hu]at h<;>try (cases h;done)
   cases h
   refine⟨hn,fun K hk=>?_⟩
   simp only[vcOp]
   exact sN hx ⟨fun y hy=>cn (List.all_eq_true.1 hall y hy),by simp only[hu];exact hk⟩
  ·cases h
 case sslc x lo hi =>
  cases hc:x.get e<;>simp only[hc]at h<;>try (cases h;done)
  rename_i s
  cases h1:eopt e lo 0<;>simp only[h1]at h<;>try (cases h;done)
  cases h2:eopt e hi s.size<;>simp only[h2]at h<;>try (cases h;done)
  split at h
  ·rename_i h0
   cases h
   refine⟨hn,fun K hk=>?_⟩
   simp only[vcOp,hc]
   exact iH h1 (iH h2 ⟨h0.1,h0.2.1,h0.2.2,hk⟩)
  ·cases h
 case app s x esz bytes zero =>
  cases hx:eelems esz (x.get e) l<;>simp only[hx]at h<;>try (cases h;done)
  rename_i ys
  split at h
  ·rename_i hall
   have hall':∀y∈ys,aH y:=fun y hy=>cn (List.all_eq_true.1 hall y hy)
   cases hs:s.get e<;>simp only[hs]at h<;>try (cases h;done)
   ·split at h
    ·rename_i h0
     cases h
     obtain⟨a1,a2⟩:=new (.arr esz ys) (by simp) rfl
     refine⟨a1,fun K hk=>?_⟩
     simp only[vcOp,hs]
     refine sN hx ⟨hall',?_⟩
     exact⟨h0,a2 (fun m h=>K (.ms m 0 ys.length) h) hk⟩
    ·cases h
   ·rename_i m off len
    cases hm:l.h m<;>simp only[hm]at h<;>try (cases h;done)
    rename_i esz' els
    split at h
    ·rename_i h0
     obtain⟨rfl,rfl,hle,h0⟩:=h0
     cases h
     have hlt:m<l.length:=LH.xU (by rw[hm];simp)
     refine⟨LH.vt (LH.iC hn (by simp)) (by simp),fun K hk=>?_⟩
     simp only[vcOp,hs]
     refine sN hx ⟨hall',?_⟩
     refine⟨els.take len,⟨els.drop len,by rw[List.take_append_drop];exact LH.kZ hm rfl⟩,by rw[List.length_take];omega,h0,fun n t=>⟨?_,fun h0=>absurd rfl h0⟩⟩
     have:=LH.B8 hn t
     subst this
     rw[LH.A9 _ _ rfl,LH.tt _ rfl hlt,List.length_set]at hk
     exact hk
    ·cases h
  ·cases h
 case oo d0 s esz =>
  cases hx:eelems esz (s.get e) l<;>simp only[hx]at h<;>try (cases h;done)
  rename_i ys
  split at h
  ·rename_i hall
   have hall':∀y∈ys,aH y:=fun y hy=>cn (List.all_eq_true.1 hall y hy)
   cases hs:d0.get e<;>simp only[hs]at h<;>try (cases h;done)
   rename_i m off len
   cases hm:l.h m<;>simp only[hm]at h<;>try (cases h;done)
   rename_i esz' els
   split at h
   ·rename_i h0
    obtain⟨rfl,h0⟩:=h0
    cases h
    have hlt:m<l.length:=LH.xU (by rw[hm];simp)
    refine⟨LH.iC hn (by simp),fun K hk=>?_⟩
    simp only[vcOp,hs]
    refine sN hx ⟨hall',?_⟩
    rw[LH.tt _ rfl hlt]at hk
    exact⟨els,LH.kZ hm rfl,h0,hk⟩
   ·cases h
  ·cases h
 case call f args=>exact AO ok h hn
 case callv x args =>
  cases hc:x.get e<;>simp only[hc]at h<;>try (cases h;done)
  ·split at h
   ·rename_i h0
    obtain⟨a1,a2⟩:=AO ok h hn
    refine⟨a1,fun K hk=>?_⟩
    simp only[vcOp,hc]
    exact⟨h0,a2 K hk⟩
   ·cases h
  ·rename_i n
   cases hs:l.h n<;>simp only[hs]at h<;>try (cases h;done)
   obtain⟨a1,a2⟩:=ok.yld _ _ _ _ _ h hn
   refine⟨a1,fun K hk=>?_⟩
   simp only[vcOp,hc]
   exact⟨⟨_,_,LH.D4 hs⟩,a2 K hk⟩
 case mkf f a b=>cases h;exact⟨hn,fun K hk=>hk⟩
 case mn x y =>
  cases hx:x.get e<;>simp only[hx]at h<;>try (cases h;done)
  cases hy:y.get e<;>simp only[hy]at h<;>try (cases h;done)
  split at h
  ·cases h;exact⟨hn,fun K hk=>by simp only[vcOp,hx,hy];exact⟨by assumption,hk⟩⟩
  ·cases h
 case mx x y =>
  cases hx:x.get e<;>simp only[hx]at h<;>try (cases h;done)
  cases hy:y.get e<;>simp only[hy]at h<;>try (cases h;done)
  split at h
  ·cases h;exact⟨hn,fun K hk=>by simp only[vcOp,hx,hy];exact⟨by assumption,hk⟩⟩
  ·cases h
 case mn3 x y z =>
  cases hx:x.get e<;>simp only[hx]at h<;>try (cases h;done)
  cases hy:y.get e<;>simp only[hy]at h<;>try (cases h;done)
  cases hz:z.get e<;>simp only[hz]at h<;>try (cases h;done)
  split at h
  ·rename_i h0
   cases h;exact⟨hn,fun K hk=>by simp only[vcOp,hx,hy,hz];exact⟨h0.1,h0.2,hk⟩⟩
  ·cases h
 case mx3 x y z =>
  cases hx:x.get e<;>simp only[hx]at h<;>try (cases h;done)
  cases hy:y.get e<;>simp only[hy]at h<;>try (cases h;done)
  cases hz:z.get e<;>simp only[hz]at h<;>try (cases h;done)
  split at h
  ·rename_i h0
   cases h;exact⟨hn,fun K hk=>by simp only[vcOp,hx,hy,hz];exact⟨h0.1,h0.2,hk⟩⟩
  ·cases h
 case dead=>cases h
 case CA kt =>
  cases h
  refine⟨LH.vt hn (by simp),fun K hk=>?_⟩
  simp only[vcOp]
  intro n t
  rw[LH.B8 hn t, <- LH.A9 _ _ rfl]
  exact hk
 case look kt x k z ok =>
  split at h
  ·rename_i hok
   cases hc:x.get e<;>simp only[hc]at h<;>try (cases h;done)
   rename_i n
   cases hs:l.h n<;>simp only[hs]at h<;>try (cases h;done)
   split at h
   ·rename_i hkt
    cases h
    exact⟨hn,fun K hk=>by simp only[vcOp,hc,LH.kZ hs rfl];exact⟨hok,hkt,hk⟩⟩
   ·cases h
  ·cases h
 case mupd kt x k v =>
  split at h
  ·rename_i hok
   simp only[Bool.and_eq_true]at hok
   cases hc:x.get e<;>simp only[hc]at h<;>try (cases h;done)
   rename_i n
   cases hs:l.h n<;>simp only[hs]at h<;>try (cases h;done)
   split at h
   ·rename_i hkt
    cases h
    refine⟨LH.iC hn (by simp),fun K hk=>?_⟩
    simp only[vcOp,hc,LH.kZ hs rfl]
    refine⟨hok.1,hok.2,hkt,?_⟩
    rw[<- LH.tt _ rfl (LH.xU (by rw[hs];simp))]
    exact hk
   ·cases h
  ·cases h
end Go.Am
namespace Go.Am
open Go
variable [bH]
variable {P:Program}{C:gM}[LB]
def evVal (P:Program) (C:gM) (op:AOp) (e:LEnv) (l:LH):Option D :=
 match op with
 | .bldS _ esz len zero parts =>
  if EU len esz (parts.map fun p=>(p.1,p.2.get e))&&(parts.map fun p=>(p.1,p.2.get e)).all (fun p=>Ce p.2)&&Ce zero then
   some (.sl (setEls (List.replicate len zero) (parts.map fun p=>(p.1,p.2.get e))))
  else none
 | .call f args=>evPure C f (args.map (·.get e)) l
 | .fadd x off=>match x.get e with
  | .ptr n i j=>if(l.h n).used then some (.ptr n i (j+off)) else none
  | .vp d j=>some (.vp d (j+off))
  | _=>none
 | .mk ..=>none
 | op=>(evOp P C op e l).map (·.1)
theorem Jn (ok:jN P C){f:FuncId}{ds:List D}{l:LH}{r:D}(h:evPure C f ds l=some r):aQ P f (ds.map (D.fz l.w)) (· = r)/\zt l.w ds/\(r.flat=true\/E6 l.w (ds.flatMap D.nm)):=by
 unfold evPure at h
 split at h
 ·cases h
 ·split at h
  ·rename_i hc
   rw[nT,FP]at h
   split at h
   ·rename_i r' hv
    split at h
    ·rename_i hf
     simp at h;subst h
     refine⟨ok.vcall _ _ _ hv,ux hc,?_⟩
     simp only[Bool.or_eq_true]at hf
     exact hf.imp id fun hz n hn=>CG (List.all_eq_true.1 hz n hn)
    ·cases h
   ·cases h
  ·cases h
theorem C5 (ok:jN P C){op:AOp}{e:LEnv}{l:LH}{d:D}(h:evVal P C op e l=some d) (hn:l.nf){K:D->Prop}(hk:K d):vcdOp P op K e l.w:=by
 have dflt:(evOp P C op e l).map (·.1)=some d->vcOp P op (fun d _=>K d) e l.w:=by
  intro h
  cases he:evOp P C op e l with
  | none=>rw[he]at h;cases h
  | some q =>
   rw[he]at h
   obtain⟨d',l'⟩:=q
   simp at h;subst h
   exact(F0 ok he hn).2 _ hk
 cases op
 case bldS fz esz len zero parts =>
  simp only[evVal]at h
  split at h
  ·rename_i hc
   simp only[Bool.and_eq_true]at hc
   cases h
   exact⟨oP hc.1.1,fun p hp=>uP (List.all_eq_true.1 hc.1.2 p hp),uP hc.2,hk⟩
  ·cases h
 case call f args =>
  simp only[evVal]at h
  obtain⟨h1,h2,h3⟩:=Jn ok h
  refine⟨d,by simpa[List.map_map,Function.comp_def] using h1,h2,by simpa[List.flatMap_map] using h3,hk⟩
 case fadd x off =>
  simp only[evVal,vcdOp]at h ⊢
  cases hx:x.get e<;>simp only[hx]at h ⊢<;>try (cases h;done)
  ·rename_i n i j
   split at h
   ·rename_i hu
    cases h
    exact⟨by rw[LH.MP];exact hu,hk⟩
   ·cases h
  ·cases h;exact hk
 case mk a b z x y=>simp only[evVal]at h;cases h
 case nilq neg x =>
  simp only[evVal,evOp,vcdOp]at h ⊢
  cases hx:x.get e<;>simp only[hx]at h ⊢<;>try (simp at h;done)
  ·simp at h;subst h;exact hk
  ·rename_i xs
   cases xs with
   | nil=>simp at h
   | cons y ys=>simp at h;subst h;exact hk
 all_goals exact dflt h
def evVals (P:Program) (C:gM):List AOper->LEnv->LH->Option LEnv
 | [],e,_=>some e
 | o::r,e,l=>match o.guard with
  | none=>match evVal P C o.op e l with
   | some d=>fD d fun d=>evVals P C r (e.put o.dst d) l
   | none=>none
  | some (j,want)=>match e.get j with
   | .bool b=>if b=want then match evVal P C o.op e l with
     | some d=>fD d fun d=>evVals P C r (e.put o.dst d) l
     | none=>none
    else evVals P C r (e.put o.dst gU) l
   | .tup _=>evVals P C r (e.put o.dst gU) l
   | _=>none
theorem sK (ok:jN P C):∀(os:List AOper) (e:LEnv) (l:LH) (e':LEnv),evVals P C os e l=some e'->l.nf->∀K:LEnv->Heap->Prop,K e' l.w->vcVals P os K e l.w
 | [],e,l,e',h,_,K,hk=>by simp[evVals]at h;subst h;exact hk
 | o::r,e,l,e',h,hn,K,hk=>by
  have go:(match evVal P C o.op e l with
   | some d=>fD d fun d=>evVals P C r (e.put o.dst d) l
   | none=>none)=some e'->vcdOp P o.op (fun d=>vcVals P r K (e.put o.dst d) l.w) e l.w:=by
   intro h
   cases hd:evVal P C o.op e l with
   | none=>rw[hd]at h;cases h
   | some d =>
    rw[hd]at h
    simp only[tG]at h
    exact C5 ok hd hn (sK ok r _ l e' h hn K hk)
  simp only[evVals,vcVals,lK]at h ⊢
  cases hg:o.guard with
  | none=>simp only[hg]at h ⊢;exact go h
  | some q =>
   obtain⟨j,want⟩:=q
   simp only[hg]at h ⊢
   cases hb:e.get j<;>simp only[hb]at h<;>try (cases h;done)
   ·rename_i b
    by_cases hbw:b=want
    ·rw[if_pos hbw]at h
     simp only[aA,gv]
     exact⟨fun _=>go h,fun hne=>absurd (congrArg some hbw) hne⟩
    ·rw[if_neg hbw]at h
     simp only[aA,gv]
     exact⟨fun he=>absurd (Option.some.inj he) hbw,fun _=>sK ok r _ l e' h hn K hk⟩
   ·simp only[aA,gv]
    exact⟨fun he=>(by cases he),fun _=>sK ok r _ l e' h hn K hk⟩
def evOps (P:Program) (C:gM):List AOper->LEnv->LH->Option (LEnv×LH)
 | [],e,l=>some (e,l)
 | o::r,e,l=>match o.guard with
  | none=>match evOp P C o.op e l with
   | some (d,l')=>fD d fun d=>evOps P C r (e.put o.dst d) l'
   | none=>none
  | some (j,want)=>match e.get j with
   | .bool b=>if b=want then match evOp P C o.op e l with
     | some (d,l')=>fD d fun d=>evOps P C r (e.put o.dst d) l'
     | none=>none
    else evOps P C r (e.put o.dst gU) l
   | .tup _=>evOps P C r (e.put o.dst gU) l
   | _=>none
theorem rC (ok:jN P C):∀(os:List AOper) (e:LEnv) (l:LH) (e':LEnv) (l':LH),evOps P C os e l=some (e',l')->l.nf->l'.nf/\∀K:LEnv->Heap->Prop,K e' l'.w->ot P os K e l.w
 | [],e,l,e',l',h,hn=>by simp[evOps]at h;obtain⟨rfl,rfl⟩:=h;exact⟨hn,fun K hk=>hk⟩
 | o::r,e,l,e',l',h,hn=>by
  have go:(match evOp P C o.op e l with
   | some (d,l')=>fD d fun d=>evOps P C r (e.put o.dst d) l'
   | none=>none)=some (e',l')->l'.nf/\∀K:LEnv->Heap->Prop,K e' l'.w->vcOp P o.op (fun d h'=>ot P r K (e.put o.dst d) h') e l.w:=by
   intro h
   cases hd:evOp P C o.op e l with
   | none=>rw[hd]at h;cases h
   | some q =>
    obtain⟨d,l1⟩:=q
    rw[hd]at h
    simp only[tG]at h
    obtain⟨a1,a2⟩:=F0 ok hd hn
    obtain⟨b1,b2⟩:=rC ok r _ l1 e' l' h a1
    exact⟨b1,fun K hk=>a2 _ (b2 K hk)⟩
  simp only[evOps,ot,cZ]at h ⊢
  cases hg:o.guard with
  | none=>simp only[hg]at h ⊢;exact go h
  | some q =>
   obtain⟨j,want⟩:=q
   simp only[hg]at h ⊢
   cases hb:e.get j<;>simp only[hb]at h<;>try (cases h;done)
   ·rename_i b
    by_cases hbw:b=want
    ·rw[if_pos hbw]at h
     obtain⟨g1,g2⟩:=go h
     simp only[vguard,gv]
     exact⟨g1,fun K hk=>⟨fun _=>g2 K hk,fun hne=>absurd (congrArg some hbw) hne⟩⟩
    ·rw[if_neg hbw]at h
     obtain⟨g1,g2⟩:=rC ok r _ l e' l' h hn
     simp only[vguard,gv]
     exact⟨g1,fun K hk=>⟨fun he=>absurd (Option.some.inj he) hbw,fun _=>g2 K hk⟩⟩
   ·obtain⟨g1,g2⟩:=rC ok r _ l e' l' h hn
    simp only[vguard,gv]
    exact⟨g1,fun K hk=>⟨fun he=>(by cases he),fun _=>g2 K hk⟩⟩
def Jl (P:Program) (C:gM) (e:LEnv) (l:LH) (b:AOper):Bool :=
 match b.dst with
 | some s=>(evVal P C b.op e l).any (D.same (e.get s))
 | none=>true
theorem C6 (ok:jN P C):∀{rev:List AOper}{e:LEnv}{l:LH},rev.all (Jl P C e l)=true->l.nf->qL P rev e l.w
 | [],_,_,_,_=>trivial
 | b::r,e,l,h,hn=>by
  simp only[List.all_cons,Bool.and_eq_true]at h
  refine⟨?_,C6 ok h.2 hn⟩
  have h1:=h.1
  unfold Jl at h1
  cases hd:b.dst with
  | none=>trivial
  | some s =>
   simp only[hd,uQ]at h1 ⊢
   cases hv:evVal P C b.op e l with
   | none=>rw[hv]at h1;cases h1
   | some d =>
    rw[hv]at h1
    simp only[Option.any_some]at h1
    refine C5 ok hv hn ?_
    have:=D.pE _ _ h1
    show [d]=[e.get s]
    rw[this]
def evTail (P:Program) (C:gM) (rev:List AOper):List AOper->LEnv->LH->Option (LEnv×LH)
 | [],e,l=>some (e,l)
 | o::r,e,l=>match evOps P C [o] e l with
  | some (e',l')=>if rev.all (Jl P C e' l') then evTail P C rev r e' l' else none
  | none=>none
theorem Ci {o:AOper}{K K':LEnv->Heap->Prop}(hk:∀e h,K e h->K' e h){e:LEnv}{h:Heap}(hv:lL P o K e h):lL P o K' e h:=by
 simp only[cZ]at hv ⊢
 cases hg:o.guard with
 | none=>simp only[hg]at hv ⊢;exact gN (fun d h' hh=>hk _ _ hh) hv
 | some q =>
  obtain⟨j,want⟩:=q
  simp only[hg,vguard]at hv ⊢
  cases hb:gv (e.get j)<;>simp only[hb]at hv ⊢
  exact⟨fun hb=>gN (fun d h' hh=>hk _ _ hh) (hv.1 hb),fun hb=>hk _ _ (hv.2 hb)⟩
theorem Cg {rev:List AOper}{o:AOper}{r:List AOper}{K:LEnv->Heap->Prop}{e:LEnv}{h:Heap}(hv:lL P o (fun e h=>qL P rev e h/\vcTail P rev r K e h) e h):vcTail P rev (o::r) K e h:=by
 cases rev with
 | nil=>exact Ci (fun e h hh=>hh.2) hv
 | cons b s=>exact hv
theorem AM (ok:jN P C){rev:List AOper}:∀(os:List AOper) (e:LEnv) (l:LH) (e':LEnv) (l':LH),evTail P C rev os e l=some (e',l')->l.nf->l'.nf/\∀K:LEnv->Heap->Prop,K e' l'.w->vcTail P rev os K e l.w
 | [],e,l,e',l',h,hn=>by
  simp[evTail]at h;obtain⟨rfl,rfl⟩:=h
  refine⟨hn,fun K hk=>?_⟩
  cases rev<;>exact hk
 | o::r,e,l,e',l',h,hn=>by
  simp only[evTail]at h
  cases h1:evOps P C [o] e l with
  | none=>rw[h1]at h;cases h
  | some q =>
   obtain⟨e1,l1⟩:=q
   rw[h1]at h
   simp only at h
   split at h
   ·rename_i hrv
    obtain⟨a1,a2⟩:=rC ok _ _ _ _ _ h1 hn
    obtain⟨b1,b2⟩:=AM ok r e1 l1 e' l' h a1
    exact⟨b1,fun K hk=>Cg (a2 (fun e h=>qL P rev e h/\vcTail P rev r K e h) ⟨C6 ok hrv a1,b2 K hk⟩)⟩
   ·cases h
def fE {α:Type}:List Nat->LEnv->(LEnv->α)->α
 | [],_,k=>k []
 | v::r,e,k=>fD (e.get v) fun d=>fE r e fun t=>k ((v,d)::t)
theorem zl {α:Type}:∀(vs:List Nat) (e:LEnv) (k:LEnv->α),fE vs e k=k (vs.map fun v=>(v,e.get v))
 | [],_,_=>rfl
 | v::r,e,k=>by rw[fE,tG,zl r];rfl
abbrev Out:=Option (Ex×LEnv×LH)
def evLoop (body:LEnv->LH->Out) (keep vars:List Nat) (e0:LEnv):Nat->LEnv->LH->Out
 | 0,_,_=>none
 | n+1,e,l=>fE vars e fun ev=>fE keep e0 fun ek=>match body (ev++ek) l with
  | some (.normal,e',l')=>if D.sameL (keep.map e'.get) (keep.map e0.get) then evLoop body keep vars e0 n e' l' else none
  | r=>r
def evScope (body:LEnv->LH->Out) (t:Nat) (keep vars:List Nat) (e0:LEnv):Nat->LEnv->LH->Out
 | 0,_,_=>none
 | n+1,e,l=>fE vars e fun ev=>fE keep e0 fun ek=>match body (ev++ek) l with
  | some (.jump t',e',l')=>if t'=t/\D.sameL (keep.map e'.get) (keep.map e0.get)=true then evScope body t keep vars e0 n e' l' else none
  | r=>r
def QT (l:LH):Bool:=l.all fun s=>match s with
 | .free=>false
 | _=>true
theorem NA {l:LH}(h:QT l=true):l.nf:=by
 intro s hs h0
 have:=List.all_eq_true.1 h s hs
 rw[h0]at this;cases this
def FF:bf:=⟨0,0,fun _=>.undef,[],.skip,.skip⟩
def Ct (x:Ex) (n:Nat) (l:LH):Option (D×LH):=match x with
 | .normal=>some (.bool true,l.set n (.lp .ready FF))
 | .exit id=>some (.bool false,l.set n (.lp (.done (.exit id)) FF))
 | .ret=>some (.bool false,l.set n (.lp (.done .ret) FF))
 | _=>none
def yldR (A B:LEnv->LH->Out) (n:Nat) (ps:List Nat) (ke:LEnv) (HD:Ag):Ag:=fun m ds l =>
 if m=n then
  if ds.length=ps.length then match l.h n with
   | .lp .ready _=>match A (ps.zip ds++ke) l with
    | some (.normal,e1,l1)=>match l1.h n with
     | .lp .ready _=>match B e1 (l1.set n (.lp .busy FF)) with
      | some (x,_,l2)=>match l2.h n with
       | .lp .busy _=>Ct x n l2
       | _=>none
      | none=>none
     | _=>none
    | _=>none
   | _=>none
  else none
 else HD m ds l
def rangeOut (s:Slot) (exs:List Nat) (ke:LEnv) (l:LH):Out:=match s with
 | .lp .ready _=>some (.normal,ke,l)
 | .lp (.done (.exit id)) _=>if exs.contains id then some (.exit id,ke,l) else none
 | .lp (.done .ret) _=>if exs.contains 1000000 then some (.ret,ke,l) else none
 | _=>none
def evC (P:Program) (C:gM) (N:Nat):ACode->LEnv->LH->Out
 | .skip,e,l=>some (.normal,e,l)
 | .seq a b,e,l=>match evC P C N a e l with
  | some (.normal,e',l')=>evC P C N b e' l'
  | r=>r
 | .seqj keep vars a b,e,l=>match evC P C N a e l with
  | some (.normal,e',l')=>if D.sameL (keep.map e'.get) (keep.map e.get) then fE vars e' fun ev=>fE keep e fun ek=>evC P C N b (ev++ek) l' else none
  | r=>r
 | .cond c a b,e,l=>match c.get e with
  | .bool t=>match t with
   | true=>evC P C N a e l
   | false=>evC P C N b e l
  | _=>none
 | .block id a,e,l=>match evC P C N a e l with
  | some (.exit id',e',l')=>if id'=id then some (.normal,e',l') else some (.exit id',e',l')
  | r=>r
 | .exit id,e,l=>some (.exit id,e,l)
 | .ret,e,l=>some (.ret,e,l)
 | .loop keep vars a,e,l=>evLoop (evC P C N a) keep vars e N e l
 | .reg os,e,l=>match evOps P C os e l with
  | some (e',l')=>some (.normal,e',l')
  | none=>none
 | .dreg vals tail rev,e,l=>match evVals P C vals e l with
  | some e1=>match evTail P C rev tail e1 l with
   | some (e',l')=>some (.normal,e',l')
   | none=>none
  | none=>none
 | .range g ps keep exs a b,e,l=>match g.get e with
  | .fn f [] cs=>if cv P f&&decide (C.k<=l.length)&&decide (ps.Nodup) then fE keep e fun ke =>
    match C.callR (l.length+1) (yldR (evC P C N a) (evC P C N b) l.length ps ke C.yld) f (.yld l.length::cs) (l++[.lp .ready FF]) with
    | some (_,l')=>if QT l' then rangeOut (l'.h l.length) exs ke (l'.set l.length .dead) else none
    | none=>none
   else none
  | _=>none
 | .frz a,e,l=>match evC P C N a e l with
  | some r=>some r
  | none=>evC P C N a e (l.frzAll (List.range l.length))
 | .regx _,_,_=>none
 | .panr,_,_=>none
 | .label _,e,l=>some (.normal,e,l)
 | .goto t,e,l=>some (.jump t,e,l)
 | .scope t keep vars a b,e,l=>match evC P C N a e l with
  | some (.jump t',e',l')=>if t'=t/\D.sameL (keep.map e'.get) (keep.map e.get)=true then evScope (evC P C N b) t keep vars e N e' l' else none
  | r=>r
def xo (P:Program) (a:ACode) (body:LEnv->LH->Out):Prop :=
 ∀e l x e' l',body e l=some (x,e',l')->l.nf->l'.nf/\∀Q:LPost,Q x e' l'.w->vcC P a Q e l.w
theorem G8 {a:ACode}{body:LEnv->LH->Out}(hb:xo P a body){keep vars:List Nat}{e0:LEnv}:∀(n:Nat) (e:LEnv) (l:LH) (x:Ex) (e':LEnv) (l':LH),evLoop body keep vars e0 n e l=some (x,e',l')->l.nf->l'.nf:=by
 intro n
 induction n with
 | zero=>intro e l x e' l' h;cases h
 | succ n ih =>
  intro e l x e' l' h hn
  simp only[evLoop,zl]at h
  cases hr:body (vars.map (fun v=>(v,e.get v))++keep.map fun v=>(v,e0.get v)) l with
  | none=>rw[hr]at h;cases h
  | some q =>
   obtain⟨x1,e1,l1⟩:=q
   rw[hr]at h
   have h1:=(hb _ _ _ _ _ hr hn).1
   cases x1<;>simp only at h
   ·split at h
    ·exact ih _ _ _ _ _ h h1
    ·cases h
   ·cases h;exact h1
   ·cases h;exact h1
   ·cases h;exact h1
   ·cases h;exact h1
theorem G7 {a:ACode}{body:LEnv->LH->Out}(hb:xo P a body){keep vars:List Nat}{N:Nat}{e:LEnv}{l:LH}{x:Ex}{e':LEnv}{l':LH}(h:evLoop body keep vars e N e l=some (x,e',l')) (hn:l.nf) :
  ∀Q:LPost,Q x e' l'.w->vcC P (.loop keep vars a) Q e l.w:=by
 intro Q hq
 refine⟨fun n ds h'=>∃e1 l1,ds=vars.map e1.get/\h'=LH.w l1/\l1.nf/\evLoop body keep vars e n e1 l1=some (x,e',l'),N,⟨e,l,rfl,rfl,hn,h⟩,?_⟩
 rintro n f h' ⟨e1,l1,hf,rfl,hn1,he⟩
 cases n with
 | zero=>cases he
 | succ n =>
  simp only[evLoop,zl]at he
  have hv:vars.map (fun v=>(v,f v))=vars.map (fun v=>(v,e1.get v)):=by
   have:=List.map_inj_left.1 hf
   exact List.map_inj_left.2 fun v hv=>by rw[this v hv]
  rw[hv]
  cases hr:body (vars.map (fun v=>(v,e1.get v))++keep.map fun v=>(v,e.get v)) l1 with
  | none=>rw[hr]at he;cases he
  | some q =>
   obtain⟨x2,e2,l2⟩:=q
   rw[hr]at he
   obtain⟨h1,h2⟩:=hb _ _ _ _ _ hr hn1
   refine h2 _ ?_
   cases x2<;>simp only at he
   ·split at he
    ·rename_i hs
     exact⟨D.cb _ _ hs,n,Nat.lt_succ_self n,e2,l2,rfl,rfl,h1,he⟩
    ·cases he
   ·cases he;exact hq
   ·cases he;exact hq
   ·cases he;exact hq
   ·cases he;exact hq
abbrev LH.wb (b:Nat->bf) (l:LH):Heap:=letI:LB:=⟨b⟩;l.w
def Kh (k:Nat) (b b':Nat->bf):Prop:=∀m,m<k->b m=b' m
def MJ (P:Program) (Y:Ag) (k:Nat) (b0:Nat->bf):Prop:=∀b,Kh k b b0->∀n ds l d l',Y n ds l=some (d,l')->l.nf->l'.nf/\∀K:HKq,K d (LH.wb (b) l')->mG P n ds (LH.wb (b) l) K
structure Kg (P:Program) (C:gM) (b0:Nat->bf):Prop where
 ok:∀b,Kh C.k b b0->(letI:LB:=⟨b⟩;jN P C)
 callR:∀b,Kh C.k b b0->∀k Y,C.k<=k->MJ P Y k b->∀f ds l d l',C.callR k Y f ds l=some (d,l')->l.nf->l'.nf/\∀K:HKq,K d (LH.wb (b) l')->af P f ds (LH.wb (b) l) K
theorem Ez {b:ACode}{body:LEnv->LH->Out}(hb:xo P b body){t:Nat}{keep vars:List Nat}{e:LEnv}(N:Nat):∀(e1:LEnv) (l1:LH) (x:Ex) (e':LEnv) (l':LH),evScope body t keep vars e N e1 l1=some (x,e',l')->l1.nf ->
  l'.nf/\∀Q:LPost,Q x e' l'.w->∃I:Nat->HJq,I N (vars.map e1.get) l1.w/\∀n (f:Nat->D) h',I n (vars.map f) h' ->
    vcC P b (LPost.jump t (fun e' h''=>keep.map (LEnv.get e')=keep.map e.get/\∃m,m<n/\I m (vars.map (LEnv.get e')) h'') Q) (vars.map (fun v=>(v,f v))++keep.map (fun k=>(k,e.get k))) h':=by
 intro e1 l1 x e' l' h hn
 have nf:∀(n:Nat) (e1:LEnv) (l1:LH),evScope body t keep vars e n e1 l1=some (x,e',l')->l1.nf->l'.nf:=by
  intro n
  induction n with
  | zero=>intro e1 l1 h;cases h
  | succ n ih =>
   intro e1 l1 h hn
   simp only[evScope,zl]at h
   cases hr:body (vars.map (fun v=>(v,e1.get v))++keep.map fun v=>(v,e.get v)) l1 with
   | none=>rw[hr]at h;cases h
   | some q =>
    obtain⟨x1,e2,l2⟩:=q
    rw[hr]at h
    have h1:=(hb _ _ _ _ _ hr hn).1
    cases x1 with
    | jump t' =>
     simp only at h
     split at h
     ·exact ih _ _ h h1
     ·cases h
    | normal=>cases h;exact h1
    | ret=>cases h;exact h1
    | exit id=>cases h;exact h1
    | pan=>cases h;exact h1
 refine⟨nf N e1 l1 h hn,fun Q hq=>⟨fun n ds h'=>∃e1 l1,ds=vars.map e1.get/\h'=LH.w l1/\l1.nf/\evScope body t keep vars e n e1 l1=some (x,e',l'),⟨e1,l1,rfl,rfl,hn,h⟩,?_⟩⟩
 rintro n f h' ⟨e1,l1,hf,rfl,hn1,he⟩
 cases n with
 | zero=>cases he
 | succ n =>
  simp only[evScope,zl]at he
  have hv:vars.map (fun v=>(v,f v))=vars.map (fun v=>(v,e1.get v)):=by
   have:=List.map_inj_left.1 hf
   exact List.map_inj_left.2 fun v hv=>by rw[this v hv]
  rw[hv]
  cases hr:body (vars.map (fun v=>(v,e1.get v))++keep.map fun v=>(v,e.get v)) l1 with
  | none=>rw[hr]at he;cases he
  | some q =>
   obtain⟨x2,e2,l2⟩:=q
   rw[hr]at he
   obtain⟨h1,h2⟩:=hb _ _ _ _ _ hr hn1
   refine h2 _ ?_
   cases x2 with
   | jump t' =>
    simp only at he
    split at he
    ·rename_i hc
     exact⟨hc.1,D.cb _ _ hc.2,n,Nat.lt_succ_self n,e2,l2,rfl,rfl,h1,he⟩
    ·cases he
   | normal=>cases he;exact hq
   | ret=>cases he;exact hq
   | exit id=>cases he;exact hq
   | pan=>cases he;exact hq
theorem tx {id:Nat}{K:Nat->Prop}:∀{l:List Nat},id∈l->K id->o9 id K l
 | [],h,_=>(List.not_mem_nil h).elim
 | i::r,h,hk=>by
  by_cases hi:id=i
  ·exact Or.inl ⟨hi,hi ▸ hk⟩
  ·exact Or.inr (tx (by simpa[hi] using h) hk)
theorem vk {K:Prop}:∀{l:List Nat},1000000∈l->K->sF K l
 | [],h,_=>(List.not_mem_nil h).elim
 | i::r,h,hk=>by
  by_cases hi:1000000=i
  ·exact Or.inl ⟨hi.symm,hk⟩
  ·exact Or.inr (vk (by simpa[hi] using h) hk)
theorem PB {b b':Nat->bf}{l:LH}(h:Kh l.length b b'):LH.wb (b) l=LH.wb (b') l:=by
 funext n
 rcases Nat.lt_or_ge n l.length with h1|h1
 ·show(l.getD n .free).wb (b n)=(l.getD n .free).wb (b' n)
  rw[h n h1]
 ·have e1:LH.wb b l n=.free:=(letI:LB:=⟨b⟩;LH.MQ h1)
  have e2:LH.wb b' l n=.free:=(letI:LB:=⟨b'⟩;LH.MQ h1)
  rw[e1,e2]
theorem GH {b0 bb:Nat->bf}(all:Kg P C b0) (hb:Kh C.k bb b0){N:Nat}{a b:ACode}{l l1:LH}{ps:List Nat}{ke:LEnv}{f:FuncId}{cs:List D}{d:D}(hk:C.k<=l.length)
  (iha:∀b,Kh C.k b b0->(letI:LB:=⟨b⟩;xo P a (evC P C N a))) (ihb:∀b',Kh C.k b' b0->(letI:LB:=⟨b'⟩;xo P b (evC P C N b))) (hnd:ps.Nodup)
  (hr:C.callR (l.length+1) (yldR (evC P C N a) (evC P C N b) l.length ps ke C.yld) f (.yld l.length::cs) (l++[.lp .ready FF])=some (d,l1)) (hn:l.nf) (hnf:QT l1=true) :
  l1.nf/\∀B:bf,B.env=LEnv.get ke->B.ps=ps->(∀p∈ps,p<B.nt)->tp P a B.nt B.assign->tp P b B.nt B.body ->
   ∀K:HKq,K d (LH.wb (fun m=>if m=l.length then B else bb m) l1)->af P f (.yld l.length::cs) (aq (LH.wb (bb) l) l.length (.lp .ready B)) K:=by
 have go:∀B:bf,B.env=LEnv.get ke->B.ps=ps->(∀p∈ps,p<B.nt)->tp P a B.nt B.assign->tp P b B.nt B.body->MJ P (yldR (evC P C N a) (evC P C N b) l.length ps ke C.yld) (l.length+1) (fun m=>if m=l.length then B else bb m):=by
  intro B h1 h2 h3 h4 h5 b1 hb1 m ds l2 d2 l3 h hn2
  have hB:b1 l.length=B:=by have:=hb1 l.length (Nat.lt_succ_self _);simpa using this
  have hA:Kh C.k b1 b0:=fun m hm=>by
   have:=hb1 m (by omega)
   rw[this]
   simp only
   rw[if_neg (by omega)]
   exact hb m hm
  letI:LB:=⟨b1⟩
  have ok:=all.ok b1 hA
  unfold yldR at h
  split at h
  ·rename_i hm
   subst hm
   split at h
   case isFalse=>cases h
   rename_i hlen
   cases hs:l2.h l.length<;>simp only[hs]at h<;>try (cases h;done)
   rename_i st Bx
   cases st<;>simp only at h<;>try (cases h;done)
   have hh2:(LH.w l2) l.length=.lp .ready B:=by rw[LH.D4 hs];exact congrArg _ hB
   cases ha:evC P C N a (ps.zip ds++ke) l2 with
   | none=>rw[ha]at h;cases h
   | some q =>
   obtain⟨x1,e1,l4⟩:=q
   rw[ha]at h
   cases x1<;>simp only at h<;>try (cases h;done)
   obtain⟨n4,s4⟩:=iha b1 hA _ _ _ _ _ ha hn2
   cases hs4:l4.h l.length<;>simp only[hs4]at h<;>try (cases h;done)
   rename_i st4 Bx4
   cases st4<;>simp only at h<;>try (cases h;done)
   have hlt4:l.length<l4.length:=LH.xU (by rw[hs4];simp)
   have hh4:(LH.w l4) l.length=.lp .ready B:=by rw[LH.D4 hs4];exact congrArg _ hB
   cases hbq:evC P C N b e1 (l4.set l.length (.lp .busy FF)) with
   | none=>rw[hbq]at h;cases h
   | some q =>
   obtain⟨x2,e2,l5⟩:=q
   rw[hbq]at h
   simp only at h
   obtain⟨n5,s5⟩:=ihb b1 hA _ _ _ _ _ hbq (LH.iC n4 (by simp))
   cases hs5:l5.h l.length<;>simp only[hs5]at h<;>try (cases h;done)
   rename_i st5 Bx5
   cases st5<;>simp only at h<;>try (cases h;done)
   have hlt5:l.length<l5.length:=LH.xU (by rw[hs5];simp)
   have hh5:(LH.w l5) l.length=.lp .busy B:=by rw[LH.D4 hs5];exact congrArg _ hB
   have hset:∀(l6:LH) (st:LSt),l.length<l6.length->LH.w (l6.set l.length (.lp st FF))=aq (LH.w l6) l.length (.lp st B):=by
    intro l6 st h6
    rw[LH.HJ _ h6]
    exact congrArg (fun B=>aq (LH.w l6) l.length (.lp st B)) hB
   have fin:∀K:HKq,roundEnd x2 l.length B K (LH.w l5)->mG P l.length ds (LH.w l2) K:=by
    intro K hK
    refine lz hh2 h2 h4 h5 hnd h3 hlen h1 ?_
    refine s4 _ ⟨rfl,hh4,?_⟩
    rw[<- hset l4 .busy hlt4]
    exact s5 _ ⟨hh5,hK⟩
   unfold Ct at h
   cases x2<;>simp only at h<;>try (cases h;done)
   ·cases h
    exact⟨LH.iC n5 (by simp),fun K hK=>fin K (by simp only[roundEnd];rw[<- hset l5 _ hlt5];exact hK)⟩
   ·cases h
    exact⟨LH.iC n5 (by simp),fun K hK=>fin K (by simp only[roundEnd];rw[<- hset l5 _ hlt5];exact hK)⟩
   ·cases h
    exact⟨LH.iC n5 (by simp),fun K hK=>fin K (by simp only[roundEnd];rw[<- hset l5 _ hlt5];exact hK)⟩
  ·exact ok.yld _ _ _ _ _ h hn2
 have hpush:∀B:bf,LH.wb (fun m=>if m=l.length then B else bb m) (l++[.lp .ready FF])=aq (LH.wb (bb) l) l.length (.lp .ready B):=by
  intro B
  letI:LB:=⟨fun m=>if m=l.length then B else bb m⟩
  have h1:LH.wb (fun m=>if m=l.length then B else bb m) l=LH.wb (bb) l:=PB fun m hm=>if_neg (by omega)
  show LH.w (l++[.lp .ready FF])=_
  rw[LH.E8]
  show aq (LH.wb (fun m=>if m=l.length then B else bb m) l) l.length (.lp .ready (if l.length=l.length then B else bb l.length))=_
  rw[h1,if_pos rfl]
 have hag:∀B:bf,Kh C.k (fun m=>if m=l.length then B else bb m) b0:=fun B m hm=>by
  show(if m=l.length then B else bb m)=b0 m
  rw[if_neg (by omega)]
  exact hb m hm
 refine⟨?_,fun B h1 h2 h3 h4 h5 K hK=>?_⟩
 ·exact NA hnf
 ·have:=(all.callR _ (hag B) (l.length+1) _ (by omega) (go B h1 h2 h3 h4 h5) f _ _ _ _ hr (LH.vt hn (by simp))).2 K hK
  rwa [hpush B]at this
theorem GI {bb:Nat->bf}{a b:ACode}{g:Arg}{ps keep exs:List Nat}{e ke:LEnv}{l l1:LH}{f:FuncId}{cs:List D}{d:D}{x:Ex}{e':LEnv}{l':LH}(hg:g.get e=.fn f [] cs) (hcal:cv P f=true) (hke:ke=keep.map fun v=>(v,e.get v)) (hn:l.nf)
  (key:l1.nf/\∀B:bf,B.env=LEnv.get ke->B.ps=ps->(∀p∈ps,p<B.nt)->tp P a B.nt B.assign->tp P b B.nt B.body ->
   ∀K:HKq,K d (LH.wb (fun m=>if m=l.length then B else bb m) l1)->af P f (.yld l.length::cs) (aq (LH.wb (bb) l) l.length (.lp .ready B)) K)
  (h:rangeOut (l1.h l.length) exs ke (l1.set l.length .dead)=some (x,e',l')):l'.nf/\∀Q:LPost,Q x e' (LH.wb (bb) l')->vcC P (.range g ps keep exs a b) Q e (LH.wb (bb) l):=by
 obtain⟨k1,k2⟩:=key
 letI:LB:=⟨bb⟩
 have hdead:l1.h l.length≠.free->LH.nf (l1.set l.length .dead)/\∀B:bf,aq (LH.wb (fun m=>if m=l.length then B else bb m) l1) l.length .dead=LH.w (l1.set l.length .dead):=by
  intro hne
  refine⟨LH.iC k1 (by simp),fun B=>?_⟩
  rw[LH.tt _ rfl (LH.xU hne)]
  funext m
  by_cases hm:m=l.length
  ·subst hm;rw[aj,aj]
  ·rw[ag _ _ hm,ag _ _ hm]
   show(l1.getD m .free).wb (if m=l.length then B else bb m)=(l1.getD m .free).wb (bb m)
   rw[if_neg hm]
 have main:∀(st:LSt) (B0:bf),l1.h l.length=.lp st B0->∀(hx:l'=l1.set l.length .dead/\e'=ke) (Q:LPost),Q x e' (LH.w l')->(∀(KN:Heap->Prop) (KE:Nat->Heap->Prop) (KR:Heap->Prop) (B:bf) (h':Heap),h' l.length=.lp st B ->
   (match x with|.normal=>KN (aq h' l.length .dead)|.exit id=>KE id (aq h' l.length .dead)|.ret=>KR (aq h' l.length .dead)|_=>False)->rangeEnd l.length exs KN KE KR h') ->
   (x=.normal\/(∃id,x=.exit id)\/x=.ret)->vcC P (.range g ps keep exs a b) Q e (LH.w l):=by
  rintro st B0 hs ⟨rfl,rfl⟩ Q hq hend hx
  simp only[vcC,hg]
  refine⟨trivial,hcal,fun n B t h1 h2 h3 h4 h5 h6=>?_⟩
  have:=LH.B8 hn t
  subst this
  refine k2 B (by rw[h1,hke]) h2 h4 h5 h6 _ ?_
  refine hend _ _ _ B _ ((show LH.wb (fun m=>if m=l.length then B else bb m) l1 l.length=.lp st (if l.length=l.length then B else bb l.length) from(letI:LB:=⟨fun m=>if m=l.length then B else bb m⟩;LH.D4 hs)).trans (by rw[if_pos rfl])) ?_
  have hd:=(hdead (by rw[hs];simp)).2 B
  rw[hke]at hq
  rcases hx with rfl|⟨id,rfl⟩|rfl<;>simp only<;>rw[hd]<;>exact hq
 cases hs:l1.h l.length<;>simp only[hs,rangeOut]at h<;>try (cases h;done)
 rename_i st B0
 have hnf:=(hdead (by rw[hs];simp)).1
 cases st with
 | ready =>
  cases h
  exact⟨hnf,fun Q hq=>main _ _ hs ⟨rfl,rfl⟩ Q hq (fun KN KE KR B h' hh hx=>by simp only[rangeEnd,hh];exact hx) (Or.inl rfl)⟩
 | busy=>cases h
 | over p=>cases h
 | done y =>
  cases y<;>simp only at h<;>try (cases h;done)
  ·rename_i id
   split at h
   case isFalse=>cases h
   rename_i hc
   cases h
   refine⟨hnf,fun Q hq=>main _ _ hs ⟨rfl,rfl⟩ Q hq (fun KN KE KR B h' hh hx=>?_) (Or.inr (Or.inl ⟨id,rfl⟩))⟩
   simp only[rangeEnd,hh]
   exact tx (by simpa using hc) hx
  ·split at h
   case isFalse=>cases h
   rename_i hc
   cases h
   refine⟨hnf,fun Q hq=>main _ _ hs ⟨rfl,rfl⟩ Q hq (fun KN KE KR B h' hh hx=>?_) (Or.inr (Or.inr rfl))⟩
   simp only[rangeEnd,hh]
   exact vk (by simpa using hc) hx
theorem N6 {b0:Nat->bf}(all:Kg P C b0) (N:Nat):∀(a:ACode) (b:Nat->bf),Kh C.k b b0->(letI:LB:=⟨b⟩;xo P a (evC P C N a)):=by
 intro a
 induction a with
 | skip=>intro bb hb;letI:LB:=⟨bb⟩;have ok:=all.ok bb hb;intro e l x e' l' h hn;cases h;exact⟨hn,fun Q hq=>hq⟩
 | exit id=>intro bb hb;letI:LB:=⟨bb⟩;have ok:=all.ok bb hb;intro e l x e' l' h hn;cases h;exact⟨hn,fun Q hq=>hq⟩
 | ret=>intro bb hb;letI:LB:=⟨bb⟩;have ok:=all.ok bb hb;intro e l x e' l' h hn;cases h;exact⟨hn,fun Q hq=>hq⟩
 | seq a b iha ihb =>
  intro bb hb;letI:LB:=⟨bb⟩;have ok:=all.ok bb hb;intro e l x e' l' h hn
  simp only[evC]at h
  cases hr:evC P C N a e l with
  | none=>rw[hr]at h;cases h
  | some q =>
   obtain⟨x1,e1,l1⟩:=q
   rw[hr]at h
   obtain⟨h1,h2⟩:=(iha bb hb) _ _ _ _ _ hr hn
   cases x1<;>simp only at h
   ·obtain⟨g1,g2⟩:=(ihb bb hb) _ _ _ _ _ h h1
    exact⟨g1,fun Q hq=>h2 _ (g2 Q hq)⟩
   ·cases h;exact⟨h1,fun Q hq=>h2 _ hq⟩
   ·cases h;exact⟨h1,fun Q hq=>h2 _ hq⟩
   ·cases h;exact⟨h1,fun Q hq=>h2 _ hq⟩
   ·cases h;exact⟨h1,fun Q hq=>h2 _ hq⟩
 | seqj keep vars a b iha ihb =>
  intro bb hb;letI:LB:=⟨bb⟩;have ok:=all.ok bb hb;intro e l x e' l' h hn
  simp only[evC,zl]at h
  cases hr:evC P C N a e l with
  | none=>rw[hr]at h;cases h
  | some q =>
   obtain⟨x1,e1,l1⟩:=q
   rw[hr]at h
   obtain⟨h1,h2⟩:=(iha bb hb) _ _ _ _ _ hr hn
   cases x1<;>simp only at h
   ·split at h
    ·rename_i hs
     obtain⟨g1,g2⟩:=(ihb bb hb) _ _ _ _ _ h h1
     refine⟨g1,fun Q hq=>⟨fun ds h'=>ds=vars.map e1.get/\h'=l1.w,?_,h2 _ ⟨D.cb _ _ hs,rfl,rfl⟩⟩⟩
     rintro f h' ⟨hf,rfl⟩
     have hv:vars.map (fun v=>(v,f v))=vars.map (fun v=>(v,e1.get v)):=by
      have:=List.map_inj_left.1 hf
      exact List.map_inj_left.2 fun v hv=>by rw[this v hv]
     rw[hv]
     exact g2 Q hq
    ·cases h
   ·cases h;exact⟨h1,fun Q hq=>⟨fun _ _=>False,fun _ _ h=>h.elim,h2 _ hq⟩⟩
   ·cases h;exact⟨h1,fun Q hq=>⟨fun _ _=>False,fun _ _ h=>h.elim,h2 _ hq⟩⟩
   ·cases h;exact⟨h1,fun Q hq=>⟨fun _ _=>False,fun _ _ h=>h.elim,h2 _ hq⟩⟩
   ·cases h;exact⟨h1,fun Q hq=>⟨fun _ _=>False,fun _ _ h=>h.elim,h2 _ hq⟩⟩
 | cond c a b iha ihb =>
  intro bb hb;letI:LB:=⟨bb⟩;have ok:=all.ok bb hb;intro e l x e' l' h hn
  simp only[evC]at h
  cases hc:c.get e<;>simp only[hc]at h<;>try (cases h;done)
  rename_i t
  cases t
  ·obtain⟨g1,g2⟩:=(ihb bb hb) _ _ _ _ _ h hn
   exact⟨g1,fun Q hq=>by simp only[vcC,hc];exact⟨fun h=>(by cases h),fun _=>g2 Q hq⟩⟩
  ·obtain⟨g1,g2⟩:=(iha bb hb) _ _ _ _ _ h hn
   exact⟨g1,fun Q hq=>by simp only[vcC,hc];exact⟨fun _=>g2 Q hq,fun h=>(by cases h)⟩⟩
 | block id a iha =>
  intro bb hb;letI:LB:=⟨bb⟩;have ok:=all.ok bb hb;intro e l x e' l' h hn
  simp only[evC]at h
  cases hr:evC P C N a e l with
  | none=>rw[hr]at h;cases h
  | some q =>
   obtain⟨x1,e1,l1⟩:=q
   rw[hr]at h
   obtain⟨h1,h2⟩:=(iha bb hb) _ _ _ _ _ hr hn
   cases x1<;>simp only at h
   ·cases h;exact⟨h1,fun Q hq=>h2 _ hq⟩
   ·split at h
    ·rename_i hid
     cases h
     exact⟨h1,fun Q hq=>h2 _ (by simp only[LPost.block,if_pos hid];exact hq)⟩
    ·rename_i hid
     cases h
     exact⟨h1,fun Q hq=>h2 _ (by simp only[LPost.block,if_neg hid];exact hq)⟩
   ·cases h;exact⟨h1,fun Q hq=>h2 _ hq⟩
   ·cases h;exact⟨h1,fun Q hq=>h2 _ hq⟩
   ·cases h;exact⟨h1,fun Q hq=>h2 _ hq⟩
 | loop keep vars a iha =>
  intro bb hb;letI:LB:=⟨bb⟩;have ok:=all.ok bb hb;intro e l x e' l' h hn
  exact⟨G8 (iha bb hb) _ _ _ _ _ _ h hn,G7 (iha bb hb) h hn⟩
 | reg os =>
  intro bb hb;letI:LB:=⟨bb⟩;have ok:=all.ok bb hb;intro e l x e' l' h hn
  simp only[evC]at h
  cases hr:evOps P C os e l with
  | none=>rw[hr]at h;cases h
  | some q =>
   obtain⟨e1,l1⟩:=q
   rw[hr]at h
   cases h
   obtain⟨g1,g2⟩:=rC ok _ _ _ _ _ hr hn
   exact⟨g1,fun Q hq=>g2 _ hq⟩
 | dreg vals tail rev =>
  intro bb hb;letI:LB:=⟨bb⟩;have ok:=all.ok bb hb;intro e l x e' l' h hn
  simp only[evC]at h
  cases hv:evVals P C vals e l with
  | none=>rw[hv]at h;cases h
  | some e1 =>
   rw[hv]at h
   simp only at h
   cases hr:evTail P C rev tail e1 l with
   | none=>rw[hr]at h;cases h
   | some q =>
    obtain⟨e2,l2⟩:=q
    rw[hr]at h
    cases h
    obtain⟨g1,g2⟩:=AM ok _ _ _ _ _ hr hn
    exact⟨g1,fun Q hq=>sK ok _ _ _ _ hv hn _ (g2 _ hq)⟩
 | label t=>intro bb hb;letI:LB:=⟨bb⟩;intro e l x e' l' h hn;cases h;exact⟨hn,fun Q hq=>hq⟩
 | goto t=>intro bb hb;letI:LB:=⟨bb⟩;intro e l x e' l' h hn;cases h;exact⟨hn,fun Q hq=>hq⟩
 | scope t keep vars a b iha ihb =>
  intro bb hb;letI:LB:=⟨bb⟩
  intro e l x e' l' h hn
  simp only[evC]at h
  cases hr:evC P C N a e l with
  | none=>rw[hr]at h;cases h
  | some q =>
   obtain⟨x1,e1,l1⟩:=q
   rw[hr]at h
   obtain⟨h1,h2⟩:=(iha bb hb) _ _ _ _ _ hr hn
   cases x1 with
   | jump t' =>
    simp only at h
    split at h
    ·rename_i hc
     obtain⟨g1,g2⟩:=Ez (ihb bb hb) N e1 l1 x e' l' h h1
     refine⟨g1,fun Q hq=>?_⟩
     obtain⟨I,i1,i2⟩:=g2 Q hq
     refine⟨I,h2 _ ⟨hc.1,D.cb _ _ hc.2,N,i1⟩,i2⟩
    ·cases h
   | normal=>cases h;exact⟨h1,fun Q hq=>⟨fun _ _ _=>False,h2 _ hq,fun _ _ _ h=>h.elim⟩⟩
   | ret=>cases h;exact⟨h1,fun Q hq=>⟨fun _ _ _=>False,h2 _ hq,fun _ _ _ h=>h.elim⟩⟩
   | exit id=>cases h;exact⟨h1,fun Q hq=>⟨fun _ _ _=>False,h2 _ hq,fun _ _ _ h=>h.elim⟩⟩
   | pan=>cases h;exact⟨h1,fun Q hq=>⟨fun _ _ _=>False,h2 _ hq,fun _ _ _ h=>h.elim⟩⟩
 | range g ps keep exs a b iha ihb =>
  intro bb hb;letI:LB:=⟨bb⟩
  intro e l x e' l' h hn
  simp only[evC,zl]at h
  cases hg:g.get e<;>simp only[hg]at h<;>try (cases h;done)
  rename_i f fs cs
  cases fs with
  | cons y ys=>cases h
  | nil =>
  simp only at h
  split at h
  case isFalse=>cases h
  rename_i hc
  simp only[Bool.and_eq_true,decide_eq_true_eq]at hc
  obtain⟨⟨hcal,hk⟩,hnd⟩:=hc
  obtain⟨ke,hke⟩:∃ke:LEnv,ke=keep.map fun v=>(v,e.get v):=⟨_,rfl⟩
  rw[<- hke]at h
  cases hr:C.callR (l.length+1) (yldR (evC P C N a) (evC P C N b) l.length ps ke C.yld) f (.yld l.length::cs) (l++[.lp .ready FF]) with
  | none=>rw[hr]at h;cases h
  | some q =>
   obtain⟨d,l1⟩:=q
   rw[hr]at h
   simp only at h
   split at h
   case isFalse=>cases h
   rename_i hnf
   have key:=GH all hb hk iha ihb hnd hr hn hnf
   exact GI hg hcal hke hn key h
 | regx l=>intro bb hb;letI:LB:=⟨bb⟩;intro e l x e' l' h;cases h
 | panr=>intro bb hb;letI:LB:=⟨bb⟩;intro e l x e' l' h;cases h
 | frz a iha =>
  intro bb hb;letI:LB:=⟨bb⟩;have ok:=all.ok bb hb;intro e l x e' l' h hn
  simp only[evC]at h
  cases hr:evC P C N a e l with
  | some q =>
   rw[hr]at h
   cases h
   obtain⟨g1,g2⟩:=(iha bb hb) _ _ _ _ _ hr hn
   exact⟨g1,fun Q hq=>⟨[],g2 Q hq⟩⟩
  | none =>
   rw[hr]at h
   obtain⟨f1,f2⟩:=LH.sI (List.range l.length) hn
   obtain⟨g1,g2⟩:=(iha bb hb) _ _ _ _ _ h f2
   exact⟨g1,fun Q hq=>⟨_,by rw[<- f1];exact g2 Q hq⟩⟩
def FZ (r:RV) (e:LEnv) (l:LH):Option D :=
 match r with
 | .t i=>some (e.get i)
 | .cell i size agg=>evLd (e.get i) size agg l
def evRess:List RV->LEnv->LH->Option (List D)
 | [],_,_=>some []
 | r::s,e,l=>match FZ r e l with
  | some d=>match evRess s e l with
   | some ds=>some (d::ds)
   | none=>none
  | none=>none
def FY (rs:List RV) (e:LEnv) (l:LH):Option D :=
 match rs with
 | [r]=>FZ r e l
 | rs=>match evRess rs e l with
  | some ds=>some (.tup ds)
  | none=>none
theorem C7 {r:RV}{e:LEnv}{l:LH}{d:D}(h:FZ r e l=some d){K:D->Prop}(hk:K d):Ff P r e l.w K:=by
 cases r with
 | t i=>cases h;exact hk
 | cell i n g=>exact F3 (P:=P) (K:=fun d _=>K d) h rfl hk
theorem AN:∀(rs:List RV){e:LEnv}{l:LH}{ds:List D},evRess rs e l=some ds->∀{K:List D->Prop},K ds->vcRess P rs e l.w K
 | [],e,l,ds,h,K,hk=>by cases h;exact hk
 | r::s,e,l,ds,h,K,hk=>by
  simp only[evRess]at h
  cases hr:FZ r e l with
  | none=>rw[hr]at h;cases h
  | some d =>
   rw[hr]at h
   simp only at h
   cases hs:evRess s e l with
   | none=>rw[hs]at h;cases h
   | some ds' =>
    rw[hs]at h
    cases h
    exact C7 hr (AN s hs hk)
theorem Jm {rs:List RV}{e:LEnv}{l:LH}{d:D}(h:FY rs e l=some d){K:HKq}(hk:K d l.w):yB P rs K e l.w:=by
 have many:(match evRess rs e l with|some ds=>some (D.tup ds)|none=>none)=some d->vcRess P rs e l.w fun ds=>K (.tup ds) l.w:=by
  intro h
  cases hs:evRess rs e l with
  | none=>rw[hs]at h;cases h
  | some ds =>
   rw[hs]at h
   cases h
   exact AN rs hs hk
 match rs,h with
 | [r],h=>exact C7 (K:=fun d=>K d l.w) h hk
 | [],h=>exact many h
 | r::s::q,h=>exact many h
end Go.Am
namespace Go.Am
open Go
variable [bH]
variable {P:Program}{l:LH}{KH:HKq}{K:D->Prop}
theorem LH.Pw {l:LH}{n:Nat}(hn:n<l.length):l.h n=l[n]:=by simp[LH.h,hn]
theorem LH.Px {l:LH}{n:Nat}(hn:l.length<=n):l.h n=.free:=by simp[LH.h,hn]
theorem LH.top {l:LH}(h:l.nf){n:Nat}(t:m8 l.h n):n=l.length:=by
 rcases Nat.lt_trichotomy n l.length with h1|h1|h1
 ·have:=t.free
  rw[LH.Pw h1]at this
  exact absurd this (h _ (List.getElem_mem h1))
 ·exact h1
 ·exfalso
  obtain⟨k,rfl⟩:∃k,n=k+1:=⟨n-1,by omega⟩
  exact t.2 k rfl (LH.Px (by omega))
theorem LH.NN (l:LH) (s:Slot):LH.h (l++[s])=aq l.h l.length s:=by
 funext n
 unfold LH.h aq
 by_cases h:n=l.length
 ·subst h;simp
 ·rw[if_neg h]
  rcases Nat.lt_or_ge n l.length with h1|h1
  ·simp[List.getD,List.getElem?_append_left h1]
  ·have:(l++[s]).length<=n:=by simp;omega
   simp[List.getD,List.getElem?_eq_none this,List.getElem?_eq_none h1]
theorem LH.Pu {l:LH}{n:Nat}(s:Slot) (hn:n<l.length):LH.h (l.set n s)=aq l.h n s:=by
 funext m
 unfold LH.h aq
 by_cases h:m=n
 ·subst h;simp[List.getD,hn]
 ·have:n≠m:=fun e=>h e.symm
  simp[List.getD,this,h]
theorem AA:fQ=LH.h []:=by funext n;simp[fQ,LH.h]
theorem KA (hn:l.nf):m8 l.h l.length:=by
 refine⟨fun m hm=>LH.Px hm,fun k hk=>?_⟩
 have:k<l.length:=by omega
 rw[LH.Pw this]
 exact hn _ (List.getElem_mem this)
theorem Ma (hn:l.nf){Q:Nat->Prop}:(∀n,m8 l.h n->Q n)=Q l.length:=by
 apply propext
 constructor
 ·exact fun h=>h _ (KA hn)
 ·intro h n t
  rw[LH.top hn t];exact h
theorem Nz:LH.nf []:=fun _ h=>by cases h
theorem K6 {s:Slot}{l:LH}:LH.nf (s::l)=(s≠.free/\LH.nf l):=by
 apply propext
 constructor
 ·exact fun h=>⟨h s (by simp),fun x hx=>h x (by simp[hx])⟩
 ·rintro⟨h1,h2⟩ x hx
  rcases List.mem_cons.1 hx with rfl|hx
  ·exact h1
  ·exact h2 x hx
theorem FG {d:D}(hn:l.nf):aa P (.alloc d) l.h KH=KH (.ptr l.length 0 0) (LH.h (l++[.box d])):=by
 simp only[aa,vcOp]
 rw[Ma hn,LH.NN]
theorem h_ldp {n i j s:Nat}{g:Bool}:aa P (.ld (.c (.ptr n i j)) s g) l.h KH=(match l.h n with
   | .box v=>i=0/\vpart v.cells j s g (KH · l.h)
   | .arr _ els=>i<els.length/\∀d,els[i]?=some d->vpart d.cells j s g (KH · l.h)
   | .frz _ els=>i<els.length/\∀d,els[i]?=some d->vpart d.cells j s g (KH · l.h)
   | _=>False):=rfl
theorem Mw {n i j s:Nat}{v:D}:aa P (.st (.c (.ptr n i j)) (.c v) s) l.h KH=(v.cells.length=s/\aH v/\match l.h n with
   | .box d=>i=0/\j+s<=d.cells.length/\KH .undef (aq l.h n (.box (setCells d j v.cells)))
   | .arr esz els=>i<els.length/\j+s<=esz/\∀d,els[i]?=some d->KH .undef (aq l.h n (.arr esz (els.set i (setCells d j v.cells))))
   | _=>False):=rfl
theorem NC {n:Nat}:LH.h [] n=.free:=by simp[LH.h]
theorem Bt {s:Slot}{l:LH}:LH.h (s::l) 0=s:=rfl
theorem Bu {s:Slot}{l:LH}{n:Nat}:LH.h (s::l) (n+1)=LH.h l n:=rfl
theorem HU {n:Nat}{s:Slot}(hn:n<l.length):aq l.h n s=LH.h (l.set n s):=(LH.Pu s hn).symm
theorem CP {f:FuncId}{a b:List Arg}{h:Heap}:aa P (.mkf f a b) h KH=KH (.fn f (a.map (·.get [])) (b.map (·.get []))) h:=rfl
theorem Lj {f:FuncId}{a b:List D}{as:List Arg}{h:Heap}:aa P (.callv (.c (.fn f a b)) as) h KH=(cv P f=true/\af P f (a++as.map (·.get [])++b) h KH):=rfl
theorem oK {z:List D}{ps:List (Nat×Nat×Arg)}{h:Heap}:aa P (.bld z ps) h KH=(iG z.length (ps.map fun p=>(p.1,p.2.1,p.2.2.get []))/\KH (.agg (fillD z (ps.map fun p=>(p.1,p.2.1,(p.2.2.get []).cells)))) h):=rfl
theorem Pz {neg agg:Bool}{ks:List CK}{x y:D}{h:Heap}:aa P (.eqv neg agg ks (.c x) (.c y)) h KH=(x.isAgg=agg/\y.isAgg=agg/\veqv neg ks x y (KH · h)):=rfl
theorem AI {d:D}{h:Heap}:aa P (.box (.c d)) h KH=(aH d/\∀n,m8 h n->KH (.ptr n 0 0) (aq h n (.box d))):=rfl
theorem fH {d:D}{h:Heap}:aa P (.alloc d) h KH=∀n,m8 h n->KH (.ptr n 0 0) (aq h n (.box d)):=rfl
theorem PF {esz bytes:Nat}{z:D}{k k':IntKind}{a b:Int}{h:Heap}:aa P (.mk esz bytes z (.c (.int k a)) (.c (.int k' b))) h KH =
  (0<=a/\a<=b/\b*bytes<=140737488355328/\b<=9223372036854775807/\∀n,m8 h n->KH (.ms n 0 a.toNat) (aq h n (.arr esz (List.replicate a.toNat z)))):=rfl
theorem jy {n i j o:Nat}{h:Heap}:aa P (.fadd (.c (.ptr n i j)) o) h KH=((h n).used=true/\KH (.ptr n i (j+o)) h):=rfl
theorem rf {n i j s:Nat}{g:Bool}{h:Heap}:aa P (.ld (.c (.ptr n i j)) s g) h KH=(match h n with
   | .box v=>i=0/\vpart v.cells j s g (KH · h)
   | .arr _ els=>i<els.length/\∀d,els[i]?=some d->vpart d.cells j s g (KH · h)
   | .frz _ els=>i<els.length/\∀d,els[i]?=some d->vpart d.cells j s g (KH · h)
   | _=>False):=rfl
theorem nQ {n i j s:Nat}{v:D}{h:Heap}:aa P (.st (.c (.ptr n i j)) (.c v) s) h KH=(v.cells.length=s/\aH v/\match h n with
   | .box d=>i=0/\j+s<=d.cells.length/\KH .undef (aq h n (.box (setCells d j v.cells)))
   | .arr esz els=>i<els.length/\j+s<=esz/\∀d,els[i]?=some d->KH .undef (aq h n (.arr esz (els.set i (setCells d j v.cells))))
   | _=>False):=rfl
theorem m8.ne {h:Heap}{n m:Nat}(t:m8 h n) (hm:h m≠.free):m≠n:=by rintro rfl;exact hm t.free
theorem Ext.refl {h:Heap}:Ext h h:=fun _ _=>rfl
theorem Ext.trans {a b c:Heap}(h:Ext a b) (k:Ext b c):Ext a c:=fun n hn=>by rw[k n (by rw[h n hn];exact hn),h n hn]
theorem Ext.new {h:Heap}{n:Nat}(t:m8 h n) (s:Slot):Ext h (aq h n s):=mS t.free s
theorem fv {f:FuncId}{ds:List D}{h:Heap}{KH:HKq}{R:D->Prop}(hv:aQ P f ds R) (hds:∀d∈ds,d.vd=true/\aH d) (hk:∀r,R r->KH r h):af P f ds h KH:=by
 have w7:∀(x:D),x.vone=true->x.fzc h=x/\x.jc=[]/\mo h x:=by
  intro x hx
  cases x<;>simp_all [D.vone,D.fzc,D.jc,mo]
 have hfz:∀d∈ds,d.fz h=d/\d.nm=[]/\kG h d:=by
  intro d hd
  obtain⟨h1,h2⟩:=hds d hd
  rcases yy h1 with hv|⟨cs,rfl,hcs⟩
  ·have:=w7 d hv
   cases d<;>simp_all [D.fz,D.nm,D.vone,kG,D.cells]
  ·refine⟨?_,?_,fun x hx=>(w7 x (hcs x hx)).2.2⟩
   ·simp only[D.fz]
    congr 1
    rw[List.map_congr_left (fun x hx=>(w7 x (hcs x hx)).1)]
    simp
   ·simp only[D.nm]
    rw[List.flatMap_eq_nil_iff]
    exact fun x hx=>(w7 x (hcs x hx)).2.1
 have e1:ds.map (D.fz h)=ds:=by
  rw[List.map_congr_left (fun d hd=>(hfz d hd).1)]
  simp
 have e2:ds.flatMap D.nm=[]:=by
  rw[List.flatMap_eq_nil_iff]
  exact fun d hd=>(hfz d hd).2.1
 refine af.mono ?_ (cL (K:=R) (by rw[e1];exact hv) (fun d hd=>⟨(hds d hd).2,(hfz d hd).2.2,by rw[(hfz d hd).1];exact(hds d hd).1⟩))
 rintro r h' ⟨k1,k2,_⟩
 rw[k2 (Or.inr e2)]
 exact hk r k1
theorem xz {d:D}(h:d.one=true):aH d=True:=by
 apply propext;refine⟨fun _=>trivial,fun _ x hx=>?_⟩
 cases d<;>simp_all [D.cells,D.one]
theorem Iv {cs:List D}:aH (.agg cs)=∀x∈cs,x.one=true:=rfl
theorem ai {A B:Prop}:vcond (.bool true) A B=A:=by simp[vcond]
theorem ah {A B:Prop}:vcond (.bool false) A B=B:=by simp[vcond]
theorem yP {d:D}{h:Heap}{K:D->Prop}(hd:d.vd=true) (ho:aH d) (hk:K d):jb d/\sg h d/\(d.fzt h).DV=true/\K (d.fzt h):=by
 have w7:∀(x:D),x.vone=true->x.fzc h=x/\mo h x:=by
  intro x hx
  cases x<;>simp_all [D.vone,D.fzc,mo]
 have e:d.fzt h=d/\sg h d/\jb d/\d.DV=true:=by
  rcases yy hd with hv|⟨cs,rfl,hcs⟩
  ·have:=w7 d hv
   have hc:d.cells=[d]:=by cases d<;>simp_all [D.vone,D.cells]
   refine⟨?_,?_,?_,?_⟩
   ·cases d<;>simp_all [D.fzt,D.fz,D.vone]
   ·cases d<;>simp_all [sg,kG,D.vone]
   ·cases d<;>simp_all [jb,D.vone]
   ·cases d<;>simp_all [D.DV,D.vone]
  ·refine⟨?_,fun x hx=>(w7 x (hcs x hx)).2,ho,hd⟩
   simp only[D.fzt,D.fz]
   congr 1
   rw[List.map_congr_left (fun x hx=>(w7 x (hcs x hx)).1)]
   simp
 exact⟨e.2.2.1,e.2.1,by rw[e.1];exact e.2.2.2,by rw[e.1];exact hk⟩
def wL (K:D->Prop) (r:D) (h:Heap):Prop:=jb r/\sg h r/\(r.fzt h).DV=true/\K (r.fzt h)
theorem il {k:IntKind}{n:Int}{h:Heap}{K:D->Prop}:wL K (.int k n) h=K (.int k n):=by
 apply propext;exact⟨fun h=>h.2.2.2,fun hk=>yP rfl (fun x hx=>by simp[D.cells]at hx;subst hx;rfl) hk⟩
theorem lD {b:Bool}{h:Heap}{K:D->Prop}:wL K (.bool b) h=K (.bool b):=by
 apply propext;exact⟨fun h=>h.2.2.2,fun hk=>yP rfl (fun x hx=>by simp[D.cells]at hx;subst hx;rfl) hk⟩
theorem Fb {xs:List D}{h:Heap}{K:D->Prop}:wL K (.sl xs) h=K (.sl xs):=by
 apply propext;exact⟨fun h=>h.2.2.2,fun hk=>yP rfl (fun x hx=>by simp[D.cells]at hx;subst hx;rfl) hk⟩
theorem yw {h:Heap}{K:D->Prop}:wL K .nil h=K .nil:=by
 apply propext;exact⟨fun h=>h.2.2.2,fun hk=>yP rfl (fun x hx=>by simp[D.cells]at hx;subst hx;rfl) hk⟩
theorem Km {d:D}{h:Heap}{K:D->Prop}(hd:d.vd=true/\aH d) (hk:K d):wL K d h:=yP hd.1 hd.2 hk
theorem Fc {n esz:Nat}{els:List D}{h:Heap}{K:D->Prop}(hn:(h n).row=some (esz,els)) (hv:∀x∈els,∀y∈x.cells,y.vone=true) (hk:K (.sl els)):wL K (.ms n 0 els.length) h:=by
 refine⟨fun x hx=>by simp[D.cells]at hx;subst hx;rfl,fun x hx=>?_,?_,?_⟩
 ·simp only[D.cells,List.mem_singleton]at hx
  subst hx
  exact⟨esz,els,hn,by simp,fun x hx y hy=>hv x (by simpa using hx) y hy⟩
 ·simp[D.fzt,D.fz,D.fzc,hn,D.DV,D.vd,D.vone]
 ·simpa[D.fzt,D.fz,D.fzc,hn] using hk
theorem dE {fz:Bool}{f:FuncId}{loops:TL}{dr:Nat->Array Oper->Option ACode}{F:aJ}(hc:cFn P fz f loops dr=some F) (hdr:wJ P F.nt dr)
  {ds:List D}{K:D->Prop}(hlen:Nat.ble ds.length F.nt=true) {V:(HKq)->Prop}(hV:∀K,V K=vcC P F.code (fun x e h'=>match x with|.exit _=>False|.pan=>False|.jump _=>False|_=>yB P F.res K e h') (params ds 0) fQ)
  (hv:V (wL K)):aQ P f ds K :=
 HP hc hdr ⟨Nat.le_of_ble_eq_true hlen,Eq.mp (hV _) hv⟩
theorem aR {fz:Bool}{f:FuncId}{loops:TL}{dr:Nat->Array Oper->Option ACode}{F:aJ}(hc:cFn P fz f loops dr=some F) (hdr:wJ P F.nt dr)
  {ds:List D}{h:Heap}{K:HKq}(hlen:Nat.ble ds.length F.nt=true) {V:(HKq)->Prop}(hV:∀K,V K=vcC P F.code (fun x e h'=>match x with|.exit _=>False|.pan=>False|.jump _=>False|_=>yB P F.res K e h') (params ds 0) h)
  (hv:V K):af P f ds h K :=
 zA hc hdr ⟨Nat.le_of_ble_eq_true hlen,Eq.mp (hV _) hv⟩
def vR:=And.intro @M0 (And.intro @Kt (And.intro @Ku (And.intro @ai (And.intro @ah (And.intro @o4 (And.intro (And.intro @iw (And.intro @yC @wM)) (And.intro @dD (And.intro @kM (And.intro @Aw (And.intro @Cm (And.intro @cq (And.intro @Mm (And.intro @QI (And.intro @OR (And.intro @HS (And.intro @OS (And.intro @Mk (And.intro @de (And.intro @xq (And.intro @uS (And.intro @HQ (And.intro @xr (And.intro @yD (And.intro @MZ (And.intro @MY (And.intro @Ml (And.intro @ow (And.intro @OT (And.intro @ox (And.intro @eG (And.intro @bo (And.intro @nP (And.intro @ur (And.intro @h_ext (And.intro @Py (And.intro @NM (And.intro @xf (And.intro @jT (And.intro @tB (And.intro @eg (And.intro @iu (And.intro @CP (And.intro @Lj (And.intro @oK (And.intro @Pz (And.intro @NC (And.intro @Bt (And.intro @Bu (And.intro @il (And.intro @lD (And.intro @Fb (@yw))))))))))))))))))))))))))))))))))))))))))))))))))))
theorem jz {cs:List D}:(D.agg cs).cells=cs:=rfl
theorem AS {k:IntKind}{n:Int}:(D.int k n).cells=[.int k n]:=rfl
theorem EK {b:Bool}:(D.bool b).cells=[.bool b]:=rfl
theorem Hg {s:ByteArray}:(D.str s).cells=[.str s]:=rfl
theorem JB {xs:List D}:(D.sl xs).cells=[.sl xs]:=rfl
theorem Hi:D.nil.cells=[.nil]:=rfl
theorem Dl:D.nilfn.cells=[.nilfn]:=rfl
theorem BN:D.nilmap.cells=[.nilmap]:=rfl
theorem EI:D.nilp.cells=[.nilp]:=rfl
theorem JD {n:Nat}:(D.mp n).cells=[.mp n]:=rfl
theorem Ee:D.nilmap.one=true:=rfl
theorem ID:D.nilp.one=true:=rfl
theorem Nu {n:Nat}:(D.mp n).one=true:=rfl
theorem JC {n o l:Nat}:(D.ms n o l).cells=[.ms n o l]:=rfl
theorem Hh {n o l:Nat}:(D.ptr n o l).cells=[.ptr n o l]:=rfl
theorem JE {f:FuncId}{a b:List D}:(D.fn f a b).cells=[.fn f a b]:=rfl
theorem ae {a:List D}:aG a a=True:=by simp[aG]
theorem KZ {k:IntKind}{n:Int}:aH (.int k n)=True:=xz rfl
theorem IE {b:Bool}:aH (.bool b)=True:=xz rfl
theorem KW {s:ByteArray}:aH (.str s)=True:=xz rfl
theorem Ns {xs:List D}:aH (.sl xs)=True:=xz rfl
theorem KY:aH .nil=True:=xz rfl
theorem Nt {n o l:Nat}:aH (.ms n o l)=True:=xz rfl
theorem KX {n o l:Nat}:aH (.ptr n o l)=True:=xz rfl
theorem Nw {f:FuncId}{a b:List D}:aH (.fn f a b)=True:=xz rfl
theorem PE {e:LEnv}{d:D}:Arg.get e (.c d)=d:=rfl
theorem H8 {cs new:List D}{j:Nat}:setCells (.agg cs) j new=.agg (cs.take j++new++cs.drop (j+new.length)):=rfl
theorem H7 {k:IntKind}{n:Int}{j:Nat}{x:D}:setCells (.int k n) j [x]=x:=rfl
theorem GC {b:Bool}{j:Nat}{x:D}:setCells (.bool b) j [x]=x:=rfl
theorem KD {xs:List D}{j:Nat}{x:D}:setCells (.sl xs) j [x]=x:=rfl
theorem H6 {j:Nat}{x:D}:setCells .nil j [x]=x:=rfl
attribute [simp] H8 H7 GC KD H6
def gR:=And.intro @AI (And.intro @fH (And.intro @PF (And.intro @jy (And.intro @rf (@nQ)))))
theorem Cd {k:IntKind}{n:Int}:(D.int k n).vone=true:=rfl
theorem Gn {b:Bool}:(D.bool b).vone=true:=rfl
theorem HL {s:ByteArray}:(D.str s).vone=true:=rfl
theorem Fe {xs:List D}:(D.sl xs).vone=true:=rfl
theorem HM:D.nil.vone=true:=rfl
theorem II {k:IntKind}{n:Int}:(D.int k n).one=true:=rfl
theorem GL {b:Bool}:(D.bool b).one=true:=rfl
theorem IF {s:ByteArray}:(D.str s).one=true:=rfl
theorem K0 {xs:List D}:(D.sl xs).one=true:=rfl
theorem IH:D.nil.one=true:=rfl
theorem K1 {n o l:Nat}:(D.ms n o l).one=true:=rfl
theorem IG {n o l:Nat}:(D.ptr n o l).one=true:=rfl
theorem K3 {f:FuncId}{a b:List D}:(D.fn f a b).one=true:=rfl
theorem MX {cs:List D}:(D.agg cs).vd=cs.all D.vone:=rfl
theorem MW {k:IntKind}{n:Int}:(D.int k n).vd=true:=rfl
theorem Kq {b:Bool}:(D.bool b).vd=true:=rfl
theorem MU {s:ByteArray}:(D.str s).vd=true:=rfl
theorem OQ {xs:List D}:(D.sl xs).vd=true:=rfl
theorem MV:D.nil.vd=true:=rfl
theorem GX {cs:List D}:(D.agg cs).isAgg=true:=rfl
theorem GW {k:IntKind}{n:Int}:(D.int k n).isAgg=false:=rfl
theorem Em {b:Bool}:(D.bool b).isAgg=false:=rfl
theorem GV {s:ByteArray}:(D.str s).isAgg=false:=rfl
attribute [simp] Cd Gn HL Fe HM II GL IF K0 IH K1 IG K3 MX MW Kq MU OQ MV GX GW Em GV
attribute [simp] Nz K6 Slot.live Slot.used jz AS EK Hg JB Hi Dl BN EI JD Ee ID Nu JC Hh JE ae KZ IE KW Ns KY Nt KX Nw Iv aj PE
end Go.Am
namespace Go.Am
open Go
variable [bH]
variable {P:Program}{KH:HKq}{h:Heap}
def Own (esz:Nat) (h:Heap) (v:D) (els:List D):Prop:=(v=.nil/\els=[])\/∃n,v=.ms n 0 els.length/\h n=.arr esz els
theorem w7 {x:D}(hx:x.vone=true):x.fzc h=x/\x.jc=[]/\mo h x:=by
 cases x<;>simp_all [D.vone,D.fzc,D.jc,mo]
theorem As {d:D}(h1:d.vd=true):d.fz h=d/\d.nm=[]/\kG h d:=by
 rcases yy h1 with hv|⟨cs,rfl,hcs⟩
 ·have:=w7 (h:=h) hv
  cases d<;>simp_all [D.fz,D.nm,D.vone,kG,D.cells]
 ·refine⟨?_,?_,fun x hx=>(w7 (hcs x hx)).2.2⟩
  ·simp only[D.fz]
   congr 1
   rw[List.map_congr_left (fun x hx=>(w7 (h:=h) (hcs x hx)).1)]
   simp
  ·simp only[D.nm]
   rw[List.flatMap_eq_nil_iff]
   exact fun x hx=>(w7 (h:=h) (hcs x hx)).2.1
theorem Ep {esz:Nat}{z d:D}(h1:d.vd=true) (h2:aH d) (h3:d.cells.length=esz) (hk:∀n,m8 h n->KH (.ms n 0 1) (aq h n (.arr esz [d]))):aa P (.bldS true esz 1 z [(0,.c d)]) h KH:=by
 obtain⟨a1,a2,a3⟩:=As (h:=h) h1
 refine⟨fun p hp=>by simp[Arg.get]at hp;subst hp;exact⟨Nat.one_pos,h3,h2⟩,fun _ p hp=>by simp[Arg.get]at hp;subst hp;exact a3,fun n t=>?_⟩
 have:=hk n t
 simpa[Arg.get,a1,a2,Heap.freezeAll,setEls] using this
theorem NQ {esz:Nat}{z:D}{fz:Bool}(hk:∀n,m8 h n->KH (.ms n 0 0) (aq h n (.arr esz []))):aa P (.bldS fz esz 0 z []) h KH:=by
 refine⟨fun p hp=>by simp at hp,fun _ p hp=>by simp at hp,fun n t=>?_⟩
 have:=hk n t
 cases fz<;>simpa[Heap.freezeAll,setEls] using this
end Go.Am
namespace Go.Am
open Go
variable [bH]
variable {P:Program}{KH:HKq}{K:D->Prop}{h:Heap}
theorem nY {x:Arg}{s:Nat}{g:Bool}:ab P (.ld x s g) h K=aa P (.ld x s g) h fun d _=>K d:=rfl
theorem Jw {x:Arg}{a b c:Option Arg}{n:Nat}:ab P (.o8 x a b c n) h K=aa P (.o8 x a b c n) h fun d _=>K d:=rfl
theorem Oc {x:Arg}{a b:Option Arg}:ab P (.sslc x a b) h K=aa P (.sslc x a b) h fun d _=>K d:=rfl
theorem Rh {x y:Arg}:ab P (.mn x y) h K=aa P (.mn x y) h fun d _=>K d:=rfl
theorem Rg {x y:Arg}:ab P (.mx x y) h K=aa P (.mx x y) h fun d _=>K d:=rfl
theorem nZ {x y:Arg}{n:Nat}:ab P (.iadd x y n) h K=aa P (.iadd x y n) h fun d _=>K d:=rfl
theorem LK {x y:Arg}{l n:Nat}:ab P (.iadda x y l n) h K=aa P (.iadda x y l n) h fun d _=>K d:=rfl
theorem Oe {x y:Arg}{len size:Nat}{agg:Bool}:ab P (.sidx x y len size agg) h K=aa P (.sidx x y len size agg) h fun d _=>K d:=rfl
theorem ED {k:IntKind}{x:Arg}:ab P (.conv k x) h K=aa P (.conv k x) h fun d _=>K d:=rfl
theorem pF {c x y:Arg}:ab P (.pick c x y) h K=aa P (.pick c x y) h fun d _=>K d:=rfl
theorem PX {x:Arg}{i:Nat}:ab P (.ext x i) h K=aa P (.ext x i) h fun d _=>K d:=rfl
theorem PW {x:Arg}{o s:Nat}{g:Bool}:ab P (.fld x o s g) h K=aa P (.fld x o s g) h fun d _=>K d:=rfl
theorem Dd {z:List D}{ps:List (Nat×Nat×Arg)}:ab P (.bld z ps) h K=aa P (.bld z ps) h fun d _=>K d:=rfl
theorem PY {n g:Bool}{ks:List CK}{x y:Arg}:ab P (.eqv n g ks x y) h K=aa P (.eqv n g ks x y) h fun d _=>K d:=rfl
theorem Od {x:Arg}:ab P (.slen x) h K=aa P (.slen x) h fun d _=>K d:=rfl
theorem PV {f:FuncId}{a b:List Arg}:ab P (.mkf f a b) h K=aa P (.mkf f a b) h fun d _=>K d:=rfl
theorem LL {d:D}{j o:Nat}:ab P (.fadd (.c (.vp d j)) o) h K=K (.vp d (j+o)):=rfl
theorem yt {n i j o:Nat}:ab P (.fadd (.c (.ptr n i j)) o) h K=((h n).used=true/\K (.ptr n i (j+o))):=rfl
theorem FM {xs:List D}{a b c:Option Arg}{n:Nat}:aa P (.o8 (.c (.sl xs)) a b c n) h KH=vopt [] a 0 fun l=>vopt [] b xs.length fun r=>vopt [] c xs.length fun m=>0<=l/\l<=r/\r<=m/\m<=xs.length/\(∀d∈xs,d.cells.length=n) /\
    KH (.sl ((xs.drop l.toNat).take (r-l).toNat)) h:=rfl
theorem BA {m off len:Nat}{a b c:Option Arg}{n:Nat}:aa P (.o8 (.c (.ms m off len)) a b c n) h KH=vopt [] a 0 fun l=>vopt [] b len fun r=>vopt [] c len fun q=>0<=l/\l<=r/\r<=q/\q<=len/\(∃els,(h m).row=some (n,els)) /\
    KH (.ms m (off+l.toNat) (r-l).toNat) h:=rfl
theorem Aq {n:Nat}{Q:Int->Prop}:vopt [] none n Q=Q n:=rfl
theorem Ap {k:IntKind}{i:Int}{n:Nat}{Q:Int->Prop}:vopt [] (some (.c (.int k i))) n Q=Q i:=rfl
theorem Q4 {k:IntKind}{a b:Int}:aa P (.mn (.c (.int k a)) (.c (.int k b))) h KH=KH (.int k (if b<a then b else a)) h:=by simp[aa,vcOp,Arg.get]
theorem Q3 {k:IntKind}{a b:Int}:aa P (.mx (.c (.int k a)) (.c (.int k b))) h KH=KH (.int k (if a<b then b else a)) h:=by simp[aa,vcOp,Arg.get]
theorem FL {n:Nat}{as:List Arg}:aa P (.callv (.c (.yld n)) as) h KH=((∃st B,h n=.lp st B)/\mG P n (as.map (·.get [])) h KH):=rfl
theorem Of {f:FuncId}{as:List Arg}{r:D}(hv:aQ P f (as.map (·.get [])) (· = r)) (hds:∀d,d∈as.map (·.get [])->d.vd=true/\aH d) (hk:K r):ab P (.call f as) h K:=by
 have hz:∀d,d∈as.map (·.get [])->d.fz h=d/\d.nm=[]/\kG h d:=fun d hd=>As (hds d hd).1
 have e:(as.map fun x=>(x.get []).fz h)=as.map (·.get []):=by
  refine List.map_congr_left fun x hx=>(hz _ (List.mem_map.2 ⟨x,hx,rfl⟩)).1
 refine⟨r,by rw[e];exact hv,fun d hd=>⟨(hds d hd).2,(hz d hd).2.2,by rw[(hz d hd).1];exact(hds d hd).1⟩,Or.inr ?_,hk⟩
 have en:(as.flatMap fun x=>(x.get []).nm)=[]:=by
  rw[List.flatMap_eq_nil_iff]
  exact fun x hx=>(hz _ (List.mem_map.2 ⟨x,hx,rfl⟩)).2.1
 rw[en]
 exact fun n hn=>by cases hn
theorem Li {cs:List D}{k:IntKind}{a:Int}{len size:Nat}{agg:Bool}:aa P (.sidx (.c (.agg cs)) (.c (.int k a)) len size agg) h KH=(0<len/\0<=a/\a<len/\vpart cs (a.toNat*size) size agg (KH · h)):=rfl
def dR:=And.intro @Li<|And.intro @nY (And.intro @Jw (And.intro @Oc (And.intro @Rh (And.intro @Rg (And.intro @nZ (And.intro @LK (And.intro @Oe (And.intro @ED (And.intro @pF (And.intro @PX (And.intro @PW (And.intro @Dd (And.intro @PY (And.intro @Od (And.intro @PV (And.intro @LL (And.intro @yt (And.intro @FM (And.intro @BA (And.intro @Aq (And.intro @Ap (And.intro @Q4 (And.intro @Q3 (@FL))))))))))))))))))))))))
def Ro:=And.intro vR (And.intro gR dR)
end Go.Am
namespace Go.Am
open Go
variable [bH]
variable {P:Program}
theorem J9 {c:Ctx}(hr:an c){M esz:Nat}{els els':List D}(hM:c.h M=.arr esz els) (hl:els'.length=els.length) (hc:∀e,e∈els'->e.cells.length=esz) (ho:ko els')
  (hv:∀i j d',aF els' i j=some d'->∃d,aF els i j=some d/\∀v,ar c d v->ar c d' v) :
  c.le ⟨c.ρ,c.X,aq c.h M (.arr esz els'),c.hp⟩/\an ⟨c.ρ,c.X,aq c.h M (.arr esz els'),c.hp⟩:=by
 have sub:∀k,(aq c.h M (.arr esz els') k).mine->(c.h k).mine:=by
  intro k hk
  by_cases h:k=M
  ·subst h;rw[hM];trivial
  ·simpa[aq,h] using hk
 have hle:c.le ⟨c.ρ,c.X,aq c.h M (.arr esz els'),c.hp⟩:=by
  refine⟨Nat.le_refl _,rfl,fun _ _ _=>rfl,fun _ cur _ _ h=>⟨cur,h,rfl⟩,fun _ r h=>⟨r,h,rfl⟩,fun _ _=>rfl,fun k=>?_,fun k g hm hρ _=>⟨k,sub k hm,hρ⟩⟩
  by_cases h:k=M
  ·subst h;simp only[aj];rw[hM];exact .arrArr _ _ _ (Nat.le_of_eq hl.symm)
  ·simp only[ag _ _ h];exact Trans.refl _
 refine⟨hle,fun k=>?_,fun k1 k2 g m1 m2 r1 r2=>hr.inj k1 k2 g (sub k1 m1) (sub k2 m2) r1 r2,fun k g hm hρ=>hr.apart k g (sub k hm) hρ,hr.xlt,?_,hr.glob.mono hle,hr.lo⟩
 ·by_cases h:k=M
  ·subst h
   simp only[aj]
   have hs:=hr.slot k
   rw[hM]at hs
   obtain⟨h1,h2,h3,h4⟩:=hs
   refine⟨h1,hc,ho,?_⟩
   rcases h4 with⟨q,q'⟩|⟨g,cur,ty,q1,q2,q3,q4⟩
   ·refine Or.inl ⟨q,?_⟩
    subst q'
    exact List.length_eq_zero_iff.1 hl
   ·refine Or.inr ⟨g,cur,ty,q1,q2,by rw[hl];exact q3,fun i j d' hd'=>?_⟩
    obtain⟨d,hd,hrel⟩:=hv i j d' hd'
    exact(hrel _ (q4 i j d hd)).mono hle
  ·simp only[ag _ _ h]
   exact gP hle (hr.slot k) (fun _ _=>rfl) (fun _ _ _=>rfl)
 ·obtain⟨N,hN⟩:=hr.fin
  refine⟨N+M+1,fun k hk=>?_⟩
  simp only[ag _ _ (show k≠M by omega)]
  exact hN k (by omega)
theorem BG {h:Heap}{n m:Nat}(hne:m≠n):h.freeze n m=h m:=by
 unfold Heap.freeze
 cases h n<;>simp only<;>try rfl
 exact ag _ _ hne
theorem eK {m:Nat}:∀(ns:List Nat){h:Heap},m∉ns->h.freezeAll ns m=h m
 | [],_,_=>rfl
 | n::r,h,hm=>by
  simp only[List.mem_cons,not_or]at hm
  show(h.freeze n).freezeAll r m=h m
  rw[eK r hm.2,BG hm.1]
theorem BF {h:Heap}{m:Nat}(n:Nat):(h.freeze m n).row=(h n).row:=by
 unfold Heap.freeze
 cases hm:h m<;>simp only<;>try rfl
 by_cases he:n=m
 ·subst he;rw[aj,hm];rfl
 ·rw[ag _ _ he]
theorem pZ:∀(ns:List Nat){h:Heap}(n:Nat),(h.freezeAll ns n).row=(h n).row
 | [],_,_=>rfl
 | m::r,h,n=>by
  show((h.freeze m).freezeAll r n).row=_
  rw[pZ r,BF]
theorem G2 {h h':Heap}(hr:∀n,(h' n).row=(h n).row) (d:D):d.fzc h'=d.fzc h:=by
 cases d<;>simp[D.fzc,hr]
theorem I1 {h h':Heap}(hr:∀n,(h' n).row=(h n).row) (d:D):d.fz h'=d.fz h:=by
 have e:D.fzc h'=D.fzc h:=funext (G2 hr)
 cases d<;>simp only[D.fz,e]
theorem Eu {h h':Heap}(hr:∀n,(h' n).row=(h n).row){d:D}(hd:kG h d):kG h' d:=by
 intro x hx
 have:=hd x hx
 cases x<;>simp only[mo,hr]at this ⊢
 exact this
structure Deep (h:Heap) (M:Nat) (els:List D):Prop where
 out:M∉els.flatMap D.nm
 el:∀e∈els,e.cells=[e]/\kG h e/\(e.fz h).vone=true/\e.one=true
end Go.Am
namespace Go.Am
open Go
section keep
variable {H:Type}{enc:TypeId×Value->H}{P:Program}{w w':World}{base:Nat}{spare:Nat->Bool}{held:Bool}
theorem jv {α β:Type}{f g:α->Option β}(hk:∀a b,f a=some b->g a=some b):∀{l:List α}{r:List β},l.mapM f=some r->l.mapM g=some r
 | [],r,h=>by simpa using h
 | a::l,r,h=>by
  simp only[List.mapM_cons,Option.bind_eq_bind,Option.bind_eq_some_iff,Option.pure_def,Option.some.injEq]at h ⊢
  obtain⟨b,hb,r',hr',rfl⟩:=h
  exact⟨b,hk a b hb,r',jv hk hr',rfl⟩
theorem Hj (hk:∀b,b<w.heap.size->w'.heap[b]?=w.heap[b]?){a:Addr}{v:Value}(h:w.cell? a=some v):w'.cell? a=some v:=by
 unfold World.cell? at h ⊢
 have hlt:a.block<w.heap.size:=by
  rcases Nat.lt_or_ge a.block w.heap.size with h1|h1
  ·exact h1
  ·simp[Array.getElem?_eq_none h1]at h
 rw[hk _ hlt];exact h
theorem EJ (hk:∀b,b<w.heap.size->w'.heap[b]?=w.heap[b]?){a:Addr}{n:Nat}{cs:List Value}(h:w.cells? base a n=some cs):w'.cells? base a n=some cs:=by
 unfold World.cells? at h ⊢
 split at h
 ·rename_i hb
  rw[if_pos hb]
  exact jv (fun i v hv=>Hj hk hv) h
 ·cases h
theorem Gv (hk:∀b,b<w.heap.size->w'.heap[b]?=w.heap[b]?):∀(n:Nat) (t:TypeId) (cs:List Value) (x:DataW H×List MemPlace),DataW.trod enc P w base spare held n t cs=some x->DataW.trod enc P w' base spare held n t cs=some x:=by
 intro n
 induction n with
 | zero=>intro t cs x h;simp[DataW.trod]at h
 | succ n ih =>
  intro t cs x h
  have el:∀(a:Addr) (k:Nat) (e:TypeId) y,(w.cells? base a k).bind (DataW.trod enc P w base spare held n e)=some y->(w'.cells? base a k).bind (DataW.trod enc P w' base spare held n e)=some y:=by
   intro a k e y hy
   rw[Option.bind_eq_some_iff]at hy ⊢
   obtain⟨cs,h1,h2⟩:=hy
   exact⟨cs,EJ hk h1,ih _ _ _ h2⟩
  unfold DataW.trod at h ⊢
  generalize P.underlying t=ut at h ⊢
  split at h
  case h_6 e a =>
   rw[Option.map_eq_some_iff]at h ⊢
   obtain⟨y,hy,rfl⟩:=h
   exact⟨y,el _ _ _ _ hy,rfl⟩
  case h_8 e a len cap =>
   simp only at h ⊢
   split at h
   ·rename_i hc
    rw[if_pos hc]
    rw[Option.bind_eq_some_iff]at h ⊢
    obtain⟨elems,h1,h2⟩:=h
    refine⟨elems,jv (fun i y hy=>el _ _ _ _ hy) h1,?_⟩
    rw[Option.map_eq_some_iff]at h2 ⊢
    obtain⟨rest,h3,rfl⟩:=h2
    refine⟨rest,?_,rfl⟩
    split at h3
    ·rename_i hs;rw[if_pos hs];exact jv (fun i y hy=>el _ _ _ _ hy) h3
    ·rename_i hs;rw[if_neg hs];exact h3
   ·cases h
  case h_9 fs =>
   split at h
   ·rename_i hc
    rw[if_pos hc]
    rw[Option.map_eq_some_iff]at h ⊢
    obtain⟨y,hy,rfl⟩:=h
    exact⟨y,jv (fun i y hy=>ih _ _ _ hy) hy,rfl⟩
   ·cases h
  case h_10 m e =>
   split at h
   ·rename_i hc
    rw[if_pos hc]
    rw[Option.map_eq_some_iff]at h ⊢
    obtain⟨y,hy,rfl⟩:=h
    exact⟨y,jv (fun i y hy=>ih _ _ _ hy) hy,rfl⟩
   ·cases h
  case h_12 u v =>
   split at h
   ·exact h
   ·rw[Option.map_eq_some_iff]at h ⊢
    obtain⟨y,hy,rfl⟩:=h
    exact⟨y,ih _ _ _ hy,rfl⟩
   ·cases h
  case h_14 k e b =>
   cases hb:w.heap[b]? with
   | none=>simp[hb]at h
   | some o =>
    have hlt:=(Array.getElem?_eq_some_iff.1 hb).1
    rw[hk b hlt]
    rw[hb]at h ⊢
    cases o<;>simp only at h ⊢<;>try (cases h;done)
    split at h
    ·rename_i hc
     rw[if_pos hc]
     rw[Option.bind_eq_some_iff]at h ⊢
     obtain⟨es,h1,h2⟩:=h
     refine⟨es,jv (fun i y hy=>?_) h1,h2⟩
     rw[Option.bind_eq_some_iff]at hy ⊢
     obtain⟨key,h3,h4⟩:=hy
     refine⟨key,h3,?_⟩
     split at h4
     ·rename_i hf
      rw[if_pos hf]
      rw[Option.map_eq_some_iff]at h4 ⊢
      obtain⟨z,hz,rfl⟩:=h4
      exact⟨z,ih _ _ _ hz,rfl⟩
     ·cases h4
    ·cases h
  all_goals first|exact h|(cases h;done)
theorem uT (hk:∀b,b<w.heap.size->w'.heap[b]?=w.heap[b]?):∀{ts:List TypeId}{vs:List Value}{ds:List (DataW H)}{ps:List MemPlace},DataW.TrodAll enc P w base spare held ts vs ds ps->DataW.TrodAll enc P w' base spare held ts vs ds ps
 | [],[],[],_,h=>h
 | _::_,_::_,_::_,_,⟨p,q,⟨n,h1⟩,h2,e⟩=>⟨p,q,⟨n,Gv hk n _ _ _ h1⟩,uT hk h2,e⟩
end keep
end Go.Am
namespace Go.Am
open Go
variable [bH]
variable {H:Type}{enc:TypeId×Value->H}{P:Program}
def mkElem (P:Program) (e:TypeId) (cs:List D):D :=
 match P.underlying e with
 | some (.struct _)=>.agg cs
 | some (.array _ _)=>.agg cs
 | _=>cs.headD .undef
def HasTy (P:Program):Nat->TypeId->List D->Prop
 | 0,_,_=>False
 | n+1,t,ds=>match P.underlying t with
  | some .bool=>∃b,ds=[.bool b]
  | some (.int k)=>∃i,ds=[.int k i]/\(Lit.int k i).wf=true
  | some .string=>∃s:ByteArray,ds=[.str s]/\s.size<=maxLen
  | some (.slice e)=>∃xs:List (List D),ds=[.sl (xs.map (mkElem P e))]/\xs.length<=maxLen/\∀x∈xs,HasTy P n e x
  | some (.struct fs)=>ds.length=P.cellsOf t/\∀f∈fs.toList,HasTy P n f.type ((ds.drop f.offset).take (P.cellsOf f.type))
  | some (.array m e)=>ds.length=P.cellsOf t/\∀i,i<m->HasTy P n e ((ds.drop (i*P.cellsOf e)).take (P.cellsOf e))
  | _=>False
def contig (P:Program) (total:Nat):List (TypeId×Nat)->Nat->Bool
 | [],o=>o == total
 | f::r,o=>f.2 == o&&contig P total r (o+P.cellsOf f.1)
def plainT (P:Program):Nat->TypeId->Bool
 | 0,_=>false
 | n+1,t=>match P.underlying t with
  | some .bool=>P.cellsOf t == 1
  | some (.int _)=>P.cellsOf t == 1
  | some .string=>P.cellsOf t == 1
  | some (.slice e)=>P.cellsOf t == 1&&decide (0<P.cellsOf e)&&plainT P n e
  | some (.struct fs)=>fs.toList.all (fun f=>plainT P n f.type)&&contig P (P.cellsOf t) (fs.toList.map fun f=>(f.type,f.offset)) 0
  | some (.array m e)=>plainT P n e&&contig P (P.cellsOf t) ((List.range m).map fun i=>(e,i*P.cellsOf e)) 0
  | _=>false
theorem pz {cs:List D}(h1:cs.length=1) (hv:∀(i:Nat) (x:D),cs[i]?=some x->x.vone=true):(cs.headD .undef).cells=cs:=by
 cases cs with
 | nil=>simp at h1
 | cons d r =>
  have:r=[]:=List.eq_nil_of_length_eq_zero (by simpa using h1)
  subst this
  have:=hv 0 d rfl
  cases d<;>simp_all [D.vone,D.cells]
theorem Bo {n:Nat}{e:TypeId}{cs:List D}(hp:plainT P n e=true) (hl:cs.length=P.cellsOf e) (hv:∀(i:Nat) (x:D),cs[i]?=some x->x.vone=true):(mkElem P e cs).cells=cs:=by
 unfold mkElem
 split
 ·rfl
 ·rfl
 ·cases n with
  | zero=>simp[plainT]at hp
  | succ n =>
   unfold plainT at hp
   split at hp
   ·exact pz (by rw[hl];simpa using hp) hv
   ·exact pz (by rw[hl];simpa using hp) hv
   ·exact pz (by rw[hl];simpa using hp) hv
   ·simp only[Bool.and_eq_true]at hp
    exact pz (by rw[hl];simpa using hp.1.1) hv
   ·rename_i h1 h1' _ fs h2;first|exact absurd h2 (h1 _)|exact absurd h2 (h1' _)
   ·rename_i h1 h1' _ m e' h2;first|exact absurd h2 (h1' _ _)|exact absurd h2 (h1 _ _)
   ·cases hp
theorem parts {c:Ctx}{m:Nat}{total:Nat}(cs:List Value) (hcs:cs.length=total):∀(l:List (TypeId×Nat)) (o:Nat),contig P total l o=true ->
  (∀f∈l,∃ds:List D,HasTy P m f.1 ds/\ds.length=P.cellsOf f.1/\∀(i:Nat) (d:D),ds[i]?=some d->d.vone=true/\ar c d (((cs.drop f.2).take (P.cellsOf f.1)).getD i Go.undef)) ->
  ∃ds:List D,ds.length=cs.length-o/\(∀f∈l,HasTy P m f.1 ((ds.drop (f.2-o)).take (P.cellsOf f.1))/\o<=f.2)/\∀(i:Nat) (d:D),ds[i]?=some d->d.vone=true/\ar c d (cs.getD (o+i) Go.undef)
 | [],o,hc,_=>by
  simp only[contig,beq_iff_eq]at hc
  exact⟨[],by simp;omega,by simp,by simp⟩
 | f::r,o,hc,hf=>by
  simp only[contig,Bool.and_eq_true,beq_iff_eq]at hc
  obtain⟨hfo,hcr⟩:=hc
  obtain⟨d1,a1,a2,a3⟩:=hf f (by simp)
  obtain⟨d2,b1,b2,b3⟩:=parts cs hcs r (o+P.cellsOf f.1) hcr (fun g hg=>hf g (by simp[hg]))
  have hle:o+P.cellsOf f.1<=total:=by
   have:∀(l:List (TypeId×Nat)) (o:Nat),contig P total l o=true->o<=total:=by
    intro l
    induction l with
    | nil=>intro o h;simp[contig]at h;omega
    | cons g s ih=>intro o h;simp only[contig,Bool.and_eq_true,beq_iff_eq]at h;have:=ih _ h.2;omega
   exact this _ _ hcr
  refine⟨d1++d2,by simp;omega,fun g hg=>?_,fun i d hd=>?_⟩
  ·rcases List.mem_cons.1 hg with rfl|hg
   ·refine⟨?_,by omega⟩
    rw[hfo,Nat.sub_self,List.drop_zero,List.take_append_of_le_length (by omega),List.take_of_length_le (by omega)]
    exact a1
   ·obtain⟨k1,k2⟩:=b2 g hg
    refine⟨?_,by omega⟩
    rw[show g.2-o=d1.length+(g.2-(o+P.cellsOf f.1)) by omega,List.drop_append,List.drop_eq_nil_of_le (by omega),List.nil_append,Nat.add_sub_cancel_left]
    exact k1
  ·by_cases hi:i<d1.length
   ·rw[List.getElem?_append_left hi]at hd
    obtain⟨k1,k2⟩:=a3 i d hd
    refine⟨k1,?_⟩
    have e1:((cs.drop f.2).take (P.cellsOf f.1)).getD i Go.undef=cs.getD (o+i) Go.undef:=by
     simp only[List.getD,List.getElem?_take,List.getElem?_drop]
     rw[if_pos (by omega),hfo]
    rw[e1]at k2;exact k2
   ·rw[List.getElem?_append_right (by omega)]at hd
    obtain⟨k1,k2⟩:=b3 _ d hd
    refine⟨k1,?_⟩
    rw[show o+P.cellsOf f.1+(i-d1.length)=o+i by omega]at k2
    exact k2
theorem HZ {W:World}{sp:Nat->Bool}{c:Ctx}(hp:c.hp=W.heap) (hown:∀g,¬c.own g):∀(m:Nat) (t:TypeId),plainT P m t=true->∀(n:Nat) (cs:List Value) (x:DataW H×List MemPlace),DataW.trod enc P W 0 sp true n t cs=some x ->
  cs.length=P.cellsOf t/\∃ds:List D,HasTy P m t ds/\ds.length=cs.length/\∀(i:Nat) (d:D),ds[i]?=some d->d.vone=true/\ar c d (cs.getD i Go.undef):=by
 intro m
 induction m with
 | zero=>intro t h;simp[plainT]at h
 | succ m ih =>
  intro t hpt n cs x h
  unfold plainT at hpt
  have one:∀(d:D) (v:Value),cs=[v]->d.vone=true->ar c d v->([d]:List D).length=cs.length/\∀(i:Nat) (d':D),[d][i]?=some d'->d'.vone=true/\ar c d' (cs.getD i Go.undef):=by
   rintro d v rfl h1 h2
   refine⟨rfl,fun i d' hd=>?_⟩
   cases i with
   | zero=>simp at hd;subst hd;exact⟨h1,by simpa using h2⟩
   | succ i=>simp at hd
  split at hpt
  ·
   rename_i hu
   cases n with
   | zero=>simp[DataW.trod]at h
   | succ n =>
    unfold DataW.trod at h
    rw[hu]at h
    split at h<;>simp_all
    rename_i b
    exact⟨[.bool b],by unfold HasTy;rw[hu];exact⟨b,rfl⟩,by simp,fun i d hd=>by
     cases i with
     | zero=>simp at hd;subst hd;exact⟨rfl,by simpa using ar.bool (c:=c) b⟩
     | succ i=>simp at hd⟩
  ·rename_i k hu
   cases n with
   | zero=>simp[DataW.trod]at h
   | succ n =>
    unfold DataW.trod at h
    rw[hu]at h
    split at h<;>simp_all
    rename_i kq kq' i' hq
    have hkk:=h.1.1
    subst hkk
    exact⟨[.int kq' i'],by unfold HasTy;rw[hu];exact⟨i',rfl,h.1.2⟩,by simp,fun i d hd=>by
     cases i with
     | zero=>simp at hd;subst hd;exact⟨rfl,by simpa using ar.int (c:=c) kq' i'⟩
     | succ i=>simp at hd⟩
  ·rename_i hu
   cases n with
   | zero=>simp[DataW.trod]at h
   | succ n =>
    unfold DataW.trod at h
    rw[hu]at h
    split at h<;>simp_all
    rename_i s
    exact⟨[.str s],by unfold HasTy;rw[hu];exact⟨s,rfl,h.1⟩,by simp,fun i d hd=>by
     cases i with
     | zero=>simp at hd;subst hd;exact⟨rfl,by simpa using ar.str (c:=c) s⟩
     | succ i=>simp at hd⟩
  ·
   rename_i e hu
   simp only[Bool.and_eq_true,beq_iff_eq,decide_eq_true_eq]at hpt
   obtain⟨⟨hc1,hpos⟩,hpe⟩:=hpt
   rcases DataW.trod_slice hu h with⟨rfl,_⟩|⟨a,len,cap,elems,rest,n',rfl,rfl,_,hb,hl,hm,hlen,hel,_,_⟩
   ·refine⟨by rw[hc1];rfl,[.sl []],?_,one (.sl []) _ rfl rfl (.mM none 0 (by simp[maxLen]))⟩
    unfold HasTy;rw[hu]
    exact⟨[],rfl,by simp[maxLen],by simp⟩
   ·
    have each:∀i,i<len->∃(vs:List Value) (ds:List D),W.cells? 0 (a.add (i*P.cellsOf e)) (P.cellsOf e)=some vs/\HasTy P m e ds/\ds.length=P.cellsOf e/\vs.length=P.cellsOf e/\∀(j:Nat) (d:D),ds[j]?=some d->d.vone=true/\ar c d (vs.getD j Go.undef):=by
     intro i hi
     have h1:=hel i hi
     have h2:elems[i]?=some (elems[i]'(by omega)):=by simp[show i<elems.length by omega]
     rw[h2,Option.bind_eq_some_iff]at h1
     obtain⟨vs,h3,h4⟩:=h1
     obtain⟨k1,ds,k2,k3,k4⟩:=ih e hpe n' vs _ h4
     exact⟨vs,ds,h3,k2,k3.trans k1,k1,k4⟩
    let vf:Nat->List Value:=fun i=>if h:i<len then(each i h).choose else []
    let df:Nat->List D:=fun i=>if h:i<len then(each i h).choose_spec.choose else []
    have spec:∀i,i<len->W.cells? 0 (a.add (i*P.cellsOf e)) (P.cellsOf e)=some (vf i)/\HasTy P m e (df i)/\(df i).length=P.cellsOf e/\(vf i).length=P.cellsOf e/\∀(j:Nat) (d:D),(df i)[j]?=some d->d.vone=true/\ar c d ((vf i).getD j Go.undef):=by
     intro i hi
     simp only[vf,df,dif_pos hi]
     exact(each i hi).choose_spec.choose_spec
    let xs:List (List D):=(List.range len).map df
    have hxl:xs.length=len:=by simp[xs]
    have hxi:∀i,i<len->xs[i]?=some (df i):=by intro i hi;simp[xs,hi]
    have hcellsE:∀i,i<len->(mkElem P e (df i)).cells=df i:=fun i hi=>Bo hpe (spec i hi).2.2.1 (fun j x hx=>((spec i hi).2.2.2.2 j x hx).1)
    refine⟨by rw[hc1];rfl,[.sl (xs.map (mkElem P e))],?_,?_⟩
    ·unfold HasTy;rw[hu]
     refine⟨xs,rfl,by rw[hxl];omega,fun x hx=>?_⟩
     obtain⟨i,hi,rfl⟩:=List.mem_map.1 hx
     exact(spec i (by simpa using hi)).2.1
    ·have hl0:len=(xs.map (mkElem P e)).length:=by simp[hxl]
     refine one _ _ rfl rfl ?_
     by_cases h0:len=0
     ·subst h0
      have:xs=[]:=List.eq_nil_of_length_eq_zero hxl
      rw[this]
      exact .mM _ cap hm
     ·have hz:=(World.cells?_some (spec 0 (by omega)).1).2.2 0 (by omega)
      have hcell0:∃v,W.cell? a=some v:=by
       have e0:(a.add (0*P.cellsOf e)).add 0=a:=by simp[Addr.add]
       rw[e0]at hz
       have:0<(vf 0).length:=by rw[(spec 0 (by omega)).2.2.2.1];exact hpos
       exact⟨(vf 0)[0],by rw[hz];simp[this]⟩
      obtain⟨v0,hv0⟩:=hcell0
      have hspot:a=⟨a.block,a.off,none⟩:=by
       unfold World.cell? at hv0
       split at hv0
       ·split at hv0
        ·cases hv0
        ·rename_i hs
         obtain⟨b,o,s⟩:=a
         cases s with
         | none=>rfl
         | some s=>simp at hs
       ·cases hv0
      have hci:∀i j d,aF (xs.map (mkElem P e)) i j=some d->i<len/\(df i)[j]?=some d:=by
       intro i j d hd
       unfold aF at hd
       rw[List.getElem?_map]at hd
       by_cases hi:i<len
       ·rw[hxi i hi]at hd
        simp only[Option.map_some,Option.bind_some]at hd
        rw[hcellsE i hi]at hd
        exact⟨hi,hd⟩
       ·have:xs[i]?=none:=List.getElem?_eq_none (by omega)
        rw[this]at hd;simp at hd
      have:=ar.sl (c:=c) (xs.map (mkElem P e)) a.block a.off cap (P.cellsOf e) (fun i j=>(vf i).getD j Go.undef) (by intro he;rw[he]at hl0;simp at hl0;omega) (by rw[<- hl0];exact hl) hm hpos
       (fun x hx=>by
        obtain⟨y,hy,rfl⟩:=List.mem_map.1 hx
        obtain⟨i,hi,rfl⟩:=List.mem_map.1 hy
        rw[hcellsE i (by simpa using hi)]
        exact(spec i (by simpa using hi)).2.2.1)
       (fun i j d hd=>by
        obtain⟨hi,hj⟩:=hci i j d hd
        exact((spec i hi).2.2.2.2 j d hj).1)
       (fun i j d hd=>by
        obtain⟨hi,hj⟩:=hci i j d hd
        have hjl:=(List.getElem?_eq_some_iff.1 hj).1
        rw[(spec i hi).2.2.1]at hjl
        have hz:=(World.cells?_some (spec i hi).1).2.2 j hjl
        have e1:(a.add (i*P.cellsOf e)).add j=⟨a.block,a.off+(i*P.cellsOf e+j),none⟩:=by
         have hadd:∀(b o x:Nat),((⟨b,o,none⟩:Addr).add x).add j=⟨b,o+(x+j),none⟩:=by
          intro b o x
          rw[Addr.add_lit,Addr.add_lit,Nat.add_assoc]
         have:=hadd a.block a.off (i*P.cellsOf e)
         rw[<- hspot]at this
         exact this
        rw[e1,oN]at hz
        rw[hp,hz]
        have hjv:j<(vf i).length:=by rw[(spec i hi).2.2.2.1];exact hjl
        simp[List.getD,hjv])
       (hown _) (fun i j d hd=>by
        obtain⟨hi,hj⟩:=hci i j d hd
        exact((spec i hi).2.2.2.2 j d hj).2)
      rw[<- hl0]at this
      rw[hspot]
      exact this
  ·
   rename_i fs hu
   simp only[Bool.and_eq_true,List.all_eq_true]at hpt
   obtain⟨hpf,hcov⟩:=hpt
   obtain⟨xs,n',rfl,_,hcl,hxl,hf⟩:=DataW.trod_struct hu h
   obtain⟨ds,q1,q2,q3⟩:=parts (c:=c) (m:=m) cs (by rw[hcl]) _ 0 hcov (fun f hfm=>by
    simp only[List.mem_map]at hfm
    obtain⟨f',hf',rfl⟩:=hfm
    obtain⟨i,hi⟩:=List.getElem?_of_mem hf'
    have h1:=hf i f' (by simpa using hi)
    have hix:i<xs.length:=by
     have:=(List.getElem?_eq_some_iff.1 hi).1
     rw[hxl];simpa using this
    have h2:xs[i]?=some xs[i]:=by simp[hix]
    rw[h2]at h1
    obtain⟨k1,ds,k2,k3,k4⟩:=ih f'.type (hpf f' hf') n' _ _ h1
    exact⟨ds,k2,k3.trans k1,k4⟩)
   refine⟨hcl,ds,?_,by simpa using q1,fun i d hd=>by simpa using q3 i d hd⟩
   unfold HasTy;rw[hu]
   exact⟨by rw[q1,hcl];rfl,fun f hf=>by simpa using (q2 (f.type,f.offset) (List.mem_map.2 ⟨f,hf,rfl⟩)).1⟩
  ·
   rename_i k e hu
   simp only[Bool.and_eq_true]at hpt
   obtain⟨hpe,hcov⟩:=hpt
   obtain⟨xs,n',rfl,_,hcl,hxl,hf⟩:=DataW.trod_array hu h
   obtain⟨ds,q1,q2,q3⟩:=parts (c:=c) (m:=m) cs (by rw[hcl]) _ 0 hcov (fun f hfm=>by
    simp only[List.mem_map,List.mem_range]at hfm
    obtain⟨i,hi,rfl⟩:=hfm
    have h1:=hf i hi
    have h2:xs[i]?=some (xs[i]'(by omega)):=by simp[show i<xs.length by omega]
    rw[h2]at h1
    obtain⟨k1,ds,k2,k3,k4⟩:=ih e hpe n' _ _ h1
    exact⟨ds,k2,k3.trans k1,k4⟩)
   refine⟨hcl,ds,?_,by simpa using q1,fun i d hd=>by simpa using q3 i d hd⟩
   unfold HasTy;rw[hu]
   exact⟨by rw[q1,hcl];rfl,fun i hi=>by simpa using (q2 (e,i*P.cellsOf e) (List.mem_map.2 ⟨i,by simpa using hi,rfl⟩)).1⟩
  ·cases hpt
end Go.Am
namespace Go.Am
open Go
variable [bH]
variable {H:Type}{enc:TypeId×Value->H}{P:Program}
theorem Nx {W:World}{r:Reach}{b:Nat}{t:TypeId}{cs:Array Value}(h:Cell.okWide P W r b t (.agg cs)):False:=by
 unfold Cell.okWide at h
 split at h<;>first
  | (rename_i h2;cases h2;done)
  | (rename_i h2 _;cases h2;done)
  | skip
 unfold Cell.ok at h
 split at h<;>first
  | exact h
  | (rename_i h2;cases h2;done)
theorem L8 {W:World}{sp:Nat->Bool}{c:Ctx}(hp:c.hp=W.heap) (hown:∀g,¬c.own g){m:Nat}{t:TypeId}(hpt:plainT P m t=true){base:Nat}{v:Value}{d:DataW H}{ps:List MemPlace}
    (hval:Value.okWide P W .any base t v) (hd:DataW.Trod enc P W 0 sp true t v d ps):∃ds:List D,HasTy P m t ds/\ar c (mkElem P t ds) v:=by
  obtain⟨n,hn⟩:=hd
  obtain⟨hl,ds,h1,h2,h3⟩:=HZ hp hown m t hpt n _ _ hn
  refine⟨ds,h1,?_⟩
  have one:(∀cs,v≠.agg cs)->ds.length=1->ar c (ds.headD .undef) v:=by
    intro hna h1'
    have hc:v.cells = #[v]:=by cases v<;>first|rfl|exact absurd rfl (hna _)
    obtain⟨x,hx⟩:∃x,ds[0]?=some x:=⟨ds[0]'(by omega),by simp[show 0<ds.length by omega]⟩
    have:=(h3 0 x hx).2
    rw[hc]at this
    have e:ds.headD .undef=x:=by
      cases ds with
      | nil=>simp at hx
      | cons a r=>simpa using hx
    rw[e];simpa using this
  have agg:∀cs,v=.agg cs->ar c (.agg ds) v:=by
    rintro cs rfl
    refine .agg ds cs (by simpa[Value.cells] using h2.symm) (fun i x hx=>D.iq (h3 i x hx).1) (fun i x hx=>?_)
    have:=(h3 i x hx).2
    rw[<- aB]
    exact this
  unfold Value.okWide at hval
  unfold mkElem
  cases m with
  | zero=>simp[plainT]at hpt
  | succ m =>
    unfold plainT at hpt
    cases hu:P.underlying t with
    | none=>rw[hu]at hpt;simp at hpt
    | some u =>
      rw[hu]at hval hpt
      cases u<;>simp only at hval hpt ⊢<;>first
        | (obtain⟨cs,rfl,_⟩:=hval;exact agg cs rfl)
        | (refine one (fun cs hc=>?_) ?_
           · subst hc;exact Nx hval
           · rw[h2,hl];simp only[Bool.and_eq_true,beq_iff_eq]at hpt;first|exact hpt.1.1|exact hpt)
        | cases hpt
def zP (P:Program) (m:Nat):List TypeId->List D->Prop
 | [],ds=>ds=[]
 | t::ts,ds=>∃cs r,ds=mkElem P t cs::r/\HasTy P m t cs/\zP P m ts r
theorem DH {W:World}{sp:Nat->Bool}{c:Ctx}(hp:c.hp=W.heap) (hown:∀g,¬c.own g){m base:Nat}:∀(ts:List TypeId) (vs:List Value) (ds:List (DataW H)) (ps:List MemPlace),ts.all (plainT P m)=true ->
  (∀(j:Nat) t v,ts[j]?=some t->vs[j]?=some v->Value.okWide P W .any base t v)->DataW.TrodAll enc P W 0 sp true ts vs ds ps->vs.length=ts.length/\ds.length=ts.length /\
   ∃xs:List D,zP P m ts xs/\xs.length=ts.length/\∀(i:Nat) (x:D),xs[i]?=some x->ar c x (vs.getD i Go.undef)
 | [],vs,ds,ps,_,_,h=>by
  obtain⟨rfl,rfl,rfl⟩:=trodAll_nil' h
  exact⟨rfl,rfl,[],rfl,rfl,by simp⟩
 | t::ts,vs,ds,ps,hpt,hval,h=>by
  simp only[List.all_cons,Bool.and_eq_true]at hpt
  obtain⟨v,vs',d,ds',p,q,rfl,rfl,rfl,h1,h2⟩:=ChangeShapes.trodAll_cons h
  obtain⟨cs,k1,k2⟩:=L8 hp hown hpt.1 (hval 0 t v rfl rfl) h1
  obtain⟨l1,l2,xs,k3,k4,k5⟩:=DH hp hown ts vs' ds' q hpt.2 (fun j t v ht hv=>hval (j+1) t v (by simpa using ht) (by simpa using hv)) h2
  refine⟨by simp[l1],by simp[l2],mkElem P t cs::xs,⟨cs,xs,rfl,k1,k3⟩,by simp[k4],fun i x hx=>?_⟩
  cases i with
  | zero=>simp at hx;subst hx;simpa using k2
  | succ i=>simp at hx;simpa using k5 i x hx
where
 trodAll_nil' {vs:List Value}{ds:List (DataW H)}{ps:List MemPlace}(h:DataW.TrodAll enc P W 0 sp true [] vs ds ps):vs=[]/\ds=[]/\ps=[]:=ChangeShapes.trodAll_nil h
theorem GR {f:FuncId}{fn:Func}{s:ChangeSpec}{m:Nat}{tb:TypeId}(hpl:fn.params.toList.all (plainT P m)=true) (hrt:fn.resultTypes = #[tb]) (htb:P.underlying tb=some .bool)
  (hvars:s.vars=[]) (hspec:∀ds:List (DataW H),ds.length=fn.params.size->s.fn H (ds++[])={ results:=[.lit (.bool true)],args:=ds })
  (hl:laidOutB P=true) (hm:mapsRowed P=true) (hfull:((List.range P.types.size).all fun t=>match P.underlying t with|some (.slice e)=>decide (0<P.cellsOf e)|_=>true)=true)
  (hin:∀t∈fn.params.toList,t<P.types.size)
  (hv:∀xs,zP P m fn.params.toList xs->aQ P f xs (· = .bool true))
  (W:World) (base:Nat) (args:Array Value) (ds gs:List (DataW H)) (before:List MemPlace)
  (hval:∀(j:Nat) t v,fn.params[j]?=some t->args[j]?=some v->Value.okWide P W .any base t v)
  (hW:DataW.Whole enc P fn.params.toList s.vars false W args.toList ds gs before)
  (htab:∀g vs,bH.tab g=some vs->g<W.heap.size/\∀(k:Nat) (v:Value),vs[k]?=some v->cellOf W.heap g k=some v) :
  Calls P f args W fun e W'=>∃v,e=.returned v/\s.post enc P fn false true false false W args v W':=by
 have hW':=hW
 obtain⟨p,q,hA,hV,rfl,hfz,hnd⟩:=hW
 rw[hvars]at hV
 obtain⟨rfl,rfl⟩:=ChangeShapes.trodVars_none hV
 let c:Ctx:=⟨fun _=>none,⟨fun _=>False,0,[]⟩,fQ,W.heap⟩
 have hown:∀g,¬c.own g:=by
  rintro g (h|⟨n,h,_⟩)
  ·exact h
  ·cases h
 have hr:an c:=⟨fun n=>trivial,fun n m' g h=>(by cases h),fun n g h=>(by cases h),fun g h=>h.elim,⟨0,fun n _=>rfl⟩,fun g vs hg=>⟨(htab g vs hg).2,hown g,(htab g vs hg).1⟩,Nat.zero_le _⟩
 obtain⟨l1,l2,xs,h1,h2,h3⟩:=DH (c:=c) rfl hown fn.params.toList args.toList ds p hpl (fun j t v ht hv=>hval j t v (by simpa using ht) (by simpa using hv)) hA
 refine(hv xs h1 c W args (fun _=>rfl) rfl hr (by rw[h2, <- l1];simp) (fun i x hx=>by rw[<- aB];exact h3 i x hx)).mono ?_
 rintro e W' ⟨v,r,rfl,hle,hws,hrel,_,rfl⟩
 have hvt:v=.bool true:=by cases hrel;rfl
 subst hvt
 have hk:∀b,b<W.heap.size->W'.heap[b]?=W.heap[b]?:=fun b hb=>hle.keep b hb (fun n hn=>by cases hn)
 have hdl:ds.length=fn.params.size:=by rw[l2];simp
 have hsp:=hspec ds hdl
 refine⟨_,rfl,ds,[],p++[],[],p,[],hW',?_,?_,?_,?_,fun h=>by cases h⟩
 ·rw[hsp,hrt]
  exact ChangeShapes.trodAll_mk1 (RowKit.shut_bool htb true)
 ·rw[hsp]
  refine uT hk ?_
  exact DataW.TrodAll.respare (kids_rows hl hm) (slices_full_of P hfull) hin hA (fun x hx=>by simpa using hW'.lt x (by simpa using hx))
 ·rw[hvars,hsp];rfl
 ·refine⟨hws.os,hws.output,fun i hi=>?_⟩
  rw[hk i hi]
  cases hb:W.heap[i]? with
  | none=>rfl
  | some o=>cases o<;>simp
end Go.Am
namespace Go.Am
open Go
theorem NL (a b:Nat) (ha:a<18446744073709551616) (hb:b<18446744073709551616):ibits .and .u64 (a:Int) (b:Int)=((a &&& b:Nat):Int):=by
 have hx:a &&& b<2 ^ 64:=Nat.and_lt_two_pow _ (by omega)
 have h1:(BitVec.ofInt 64 (a:Int)).toNat=a:=by
  rw[BitVec.ofInt_natCast,BitVec.toNat_ofNat];exact Nat.mod_eq_of_lt (by omega)
 have h2:(BitVec.ofInt 64 (b:Int)).toNat=b:=by
  rw[BitVec.ofInt_natCast,BitVec.toNat_ofNat];exact Nat.mod_eq_of_lt (by omega)
 show IntKind.u64.wrap ((BitVec.ofInt 64 (a:Int) &&& BitVec.ofInt 64 (b:Int)).toNat:Int)=_
 rw[BitVec.toNat_and,h1,h2]
 simp only[IntKind.wrap,IntKind.signed,IntKind.bits]
 simp
 omega
theorem NJ (a b:Nat) (hb:b<=64):Bv .u64 (a:Int) (b:Int)=((a / 2 ^ b:Nat):Int):=by
 unfold Bv
 have e:min ((b:Int).toNat) IntKind.u64.bits=b:=by
  simp only[IntKind.bits,Int.toNat_natCast];omega
 rw[e]
 have:((2:Int) ^ b)=((2 ^ b:Nat):Int):=by simp
 rw[this]
 rw[Int.fdiv_eq_ediv_of_nonneg _ (Int.natCast_nonneg _)]
 exact(Int.natCast_ediv a (2 ^ b)).symm
theorem HH (n:Nat):IntKind.u64.wrap (n:Int)=((n % 18446744073709551616:Nat):Int):=by
 simp only[IntKind.wrap,IntKind.signed,IntKind.bits]
 simp
variable {P:Program}{m:Nat}{t e:TypeId}{k:IntKind}{ds:List D}
theorem AG (h:P.underlying t=some (.int k)) (hd:HasTy P (m+1) t ds):∃i,ds=[.int k i]/\k.min<=i/\i<=k.max:=by
 unfold HasTy at hd
 rw[h]at hd
 obtain⟨i,h1,h2⟩:=hd
 simp[Lit.wf]at h2
 exact⟨i,h1,h2.1,h2.2⟩
theorem CM (h:P.underlying t=some (.slice e)) (hd:HasTy P (m+1) t ds):∃xs:List (List D),ds=[.sl (xs.map (mkElem P e))]/\xs.length<=maxLen/\∀x∈xs,HasTy P m e x:=by
 unfold HasTy at hd
 rw[h]at hd
 exact hd
def structL (P:Program) (t:TypeId):Option (List (TypeId×Nat)):=match P.underlying t with
 | some (.struct fs)=>some (fs.toList.map fun f=>(f.type,f.offset))
 | _=>none
theorem Bz {l:List (TypeId×Nat)}(h:structL P t=some l) (hd:HasTy P (m+1) t ds):ds.length=P.cellsOf t/\∀q∈l,HasTy P m q.1 ((ds.drop q.2).take (P.cellsOf q.1)):=by
 unfold HasTy at hd
 unfold structL at h
 split at h
 ·rename_i fs hu
  rw[hu]at hd
  cases h
  refine⟨hd.1,fun q hq=>?_⟩
  obtain⟨f,hf,rfl⟩:=List.mem_map.1 hq
  exact hd.2 f hf
 ·cases h
theorem GM {l:List (TypeId×Nat)}(h:structL P t=some l) (cs:List D):mkElem P t cs=.agg cs:=by
 unfold structL at h
 unfold mkElem
 split at h
 ·rename_i hu;rw[hu]
 ·cases h
theorem IP (h:P.underlying t=some (.int k)) (d:D):mkElem P t [d]=d:=by unfold mkElem;rw[h];rfl
theorem Eo (h:P.underlying t=some (.slice e)) (he:P.underlying e=some (.int k)) (hd:HasTy P (m+2) t ds):∃xs:List Int,ds=[.sl (xs.map (.int k))]/\xs.length<=maxLen/\∀x∈xs,k.min<=x/\x<=k.max:=by
 obtain⟨xs,h1,h2,h3⟩:=CM h hd
 have:∃ys:List Int,xs.map (mkElem P e)=ys.map (.int k)/\ys.length=xs.length/\∀x∈ys,k.min<=x/\x<=k.max:=by
  clear h1 h2
  induction xs with
  | nil=>exact⟨[],rfl,rfl,fun x hx=>by cases hx⟩
  | cons x r ih =>
   obtain⟨ys,g1,g2,g3⟩:=ih fun x hx=>h3 x (List.mem_cons_of_mem _ hx)
   obtain⟨i,hi,hi1,hi2⟩:=AG he (h3 x List.mem_cons_self)
   refine⟨i::ys,?_,by simp[g2],fun y hy=>?_⟩
   ·simp only[List.map_cons,g1,hi,IP he]
   ·rcases List.mem_cons.1 hy with rfl|hy
    ·exact⟨hi1,hi2⟩
    ·exact g3 y hy
 obtain⟨ys,g1,g2,g3⟩:=this
 exact⟨ys,by rw[h1,g1],by omega,g3⟩
end Go.Am
namespace Go.Am
open Go
variable [bH]
variable {P:Program}
structure Gl (h:Heap) (M esz:Nat) (els:List D):Prop where
 out:M∉els.flatMap D.nm
 el:∀e∈els,aH e/\kG h e/\∀y,y∈(e.fz h).cells->y.vone=true
def CJ (h:Heap) (M esz:Nat) (els:List D):Heap:=aq (h.freezeAll (els.flatMap D.nm)) M (.arr esz (els.map (D.fz h)))
theorem GY {h:Heap}{M esz:Nat}{els:List D}:CJ h M esz els M=.arr esz (els.map (D.fz h)):=aj _ _ _
theorem En {h:Heap}{M esz k:Nat}{els:List D}(h1:k≠M) (h2:k∉els.flatMap D.nm):CJ h M esz els k=h k:=by
 unfold CJ;rw[ag _ _ h1,eK _ h2]
theorem BE {h:Heap}{e:D}:(e.fz h).cells.length=e.cells.length:=by
 cases e with
 | ms n off len =>
  simp only[D.fz,D.fzc]
  cases hr:(h n).row with
  | none=>rfl
  | some p=>obtain⟨a,b⟩:=p;rfl
 | agg cs=>simp[D.fz,D.cells]
 | _=>rfl
theorem Lk {h:Heap}{e:D}{j:Nat}:(e.fz h).cells[j]?=(e.cells[j]?).map (D.fzc h):=by
 cases e with
 | agg cs=>simp[D.fz,D.cells]
 | ms n off len =>
  simp only[D.fz,D.cells,D.fzc]
  cases j with
  | zero =>
   cases hr:(h n).row with
   | none=>simp[D.fzc,hr]
   | some p=>obtain⟨a,b⟩:=p;simp[D.fzc,hr]
  | succ j =>
   cases hr:(h n).row with
   | none=>simp
   | some p=>obtain⟨a,b⟩:=p;simp
 | _=>cases j<;>simp[D.fz,D.fzc,D.cells]
theorem CI {c:Ctx}(hr:an c){M esz:Nat}{els:List D}(hM:c.h M=.arr esz els) (hd:Gl c.h M esz els) :
  c.le ⟨c.ρ,c.X,CJ c.h M esz els,c.hp⟩/\an ⟨c.ρ,c.X,CJ c.h M esz els,c.hp⟩:=by
 obtain⟨g1,g2⟩:=dO hr (els.flatMap D.nm)
 have hM1:(c.h.freezeAll (els.flatMap D.nm)) M=.arr esz els:=by rw[eK _ hd.out,hM]
 have hlen:∀e∈els,e.cells.length=esz:=by
  have:=hr.slot M
  rw[hM]at this
  exact this.2.1
 have key:=J9 (c:=⟨c.ρ,c.X,c.h.freezeAll (els.flatMap D.nm),c.hp⟩) g2 (els':=els.map (D.fz c.h)) hM1 (by simp) (fun e he=>?_) (fun i j d h=>?_) (fun i j d' h=>?_)
 ·exact⟨g1.trans key.1,key.2⟩
 ·simp only[List.mem_map]at he
  obtain⟨x,hx,rfl⟩:=he
  rw[BE];exact hlen x hx
 ·simp only[aF,List.getElem?_map,Option.bind_eq_some_iff,Option.map_eq_some_iff]at h
  obtain⟨e,⟨x,hx,rfl⟩,h2⟩:=h
  exact D.iq ((hd.el x (List.mem_of_getElem? hx)).2.2 d (List.mem_of_getElem? h2))
 ·simp only[aF,List.getElem?_map,Option.bind_eq_some_iff,Option.map_eq_some_iff]at h
  obtain⟨e,⟨x,hx,rfl⟩,h2⟩:=h
  obtain⟨q1,q2,q3⟩:=hd.el x (List.mem_of_getElem? hx)
  rw[Lk,Option.map_eq_some_iff]at h2
  obtain⟨y,hy,rfl⟩:=h2
  refine⟨y,by simp[aF,hx,hy],fun v hv=>?_⟩
  have hym:=List.mem_of_getElem? hy
  have hre:∀n,((c.h.freezeAll (els.flatMap D.nm)) n).row=(c.h n).row:=fun n=>pZ _ n
  have hy1:=q1 y hym
  have hyc:y.cells=[y]:=by cases y<;>first|rfl|cases hy1
  have hfz:y.fz c.h=y.fzc c.h:=by cases y<;>first|rfl|cases hy1
  have hnm:y.nm=y.jc:=by cases y<;>first|rfl|cases hy1
  have:=(zi (Ctx.le.refl _) g2 hv (fun z hz=>by rw[hyc]at hz;simp at hz;subst hz;exact hy1) (Eu hre (fun z hz=>by rw[hyc]at hz;simp at hz;subst hz;exact q2 z hym)) (fun n esz' es hn hrow=>?_)).1
  ·rw[I1 hre,hfz]at this;exact this
  ·rw[hre n]at hrow
   refine b8 _ hrow (List.mem_flatMap.2 ⟨x,List.mem_of_getElem? hx,?_⟩)
   rw[hnm]at hn
   cases x with
   | agg cs=>exact List.mem_flatMap.2 ⟨y,hym,hn⟩
   | _=>simp only[D.cells,List.mem_singleton]at hym;subst hym;exact hn
inductive Gj:Heap->Heap->Prop where
 | refl (h:Heap):Gj h h
 | step {h h':Heap}{M esz:Nat}{els:List D}(hM:h M=.arr esz els) (hd:Gl h M esz els) (k:Gj (CJ h M esz els) h'):Gj h h'
theorem AF {h h':Heap}(k:Gj h h'):∀{c:Ctx},c.h=h->an c->c.le ⟨c.ρ,c.X,h',c.hp⟩/\an ⟨c.ρ,c.X,h',c.hp⟩:=by
 induction k with
 | refl h=>intro c hc hr;subst hc;exact⟨Ctx.le.refl c,hr⟩
 | step hM hd _ ih =>
  intro c hc hr
  subst hc
  obtain⟨g1,g2⟩:=CI hr hM hd
  obtain⟨g3,g4⟩:=ih (c:=⟨c.ρ,c.X,_,c.hp⟩) rfl g2
  exact⟨g1.trans g3,g4⟩
theorem Au {f:FuncId}{ds:List D}{K:D->Prop}(ha:af P f ds fQ (fun r h'=>∃h'',Gj h' h''/\jb r/\sg h'' r/\(r.fzt h'').DV=true/\K (r.fzt h''))):aQ P f ds K:=by
 intro c w vals hh hp hr hs hrel
 have fL:c.h=fQ:=funext hh
 have:=ha c w vals fL hp hr hs hrel
 refine this.mono ?_
 rintro e w' ⟨v,r,ρ,h',rfl,h1,h2,h3,h4,h'',hi,h5,h6,h7,h8⟩
 obtain⟨k1,k2⟩:=AF hi (c:=⟨ρ,c.X,h',w'.heap⟩) rfl h2
 obtain⟨g1,g2⟩:=dO k2 r.nmt
 have hz:=FO g1 g2 (h4.mono k1) h5 h6 (fun n esz els hn hrow=>b8 _ hrow hn)
 have hown:∀g,¬(⟨ρ,c.X,h''.freezeAll r.nmt,w'.heap⟩:Ctx).own g->¬(⟨c.ρ,c.X,c.h,w'.heap⟩:Ctx).own g:=by
  rintro g hn (hX|⟨n,hm,_⟩)
  ·exact hn (Or.inl hX)
  ·simp only[hh n]at hm;cases hm
 refine⟨v,r.fzt h'',rfl,?_,h3,ar.yj (c:=⟨ρ,c.X,h''.freezeAll r.nmt,w'.heap⟩) (c':=⟨c.ρ,c.X,c.h,w'.heap⟩) rfl hown hz h7,h7,h8⟩
 refine⟨h1.size,rfl,h1.keep,h1.shape,h1.loop,fun _ _=>rfl,fun _=>Trans.refl _,fun n g hm hρ _=>⟨n,hm,hρ⟩⟩
end Go.Am
namespace Go.Am
open Go
variable [bH]
variable {P:Program}
def EC (l:LH) (M:Nat) (els:List D):Bool:= !(els.flatMap D.nm).contains M&&els.all fun e=>gB e&&AJ l e&&Ce (e.fz l.h)
theorem He [LB] {l:LH}{M esz:Nat}{els:List D}(h:EC l M els=true):Gl l.w M esz els:=by
 simp only[EC,Bool.and_eq_true,Bool.not_eq_true',List.all_eq_true]at h
 refine⟨fun hm=>?_,fun e he=>?_⟩
 ·have:(els.flatMap D.nm).contains M=true:=List.contains_iff_mem.2 hm
  rw[this]at h;exact absurd h.1 (by simp)
 ·have:=h.2 e he
  exact⟨cn this.1.1,rh this.1.2,uP (by rw[<- Es];exact this.2)⟩
def innL (l:LH) (M:Nat):LH:=match l.h M with
 | .arr esz els=>if EC l M els then fDL (els.map (D.fz l.h)) fun els'=>(l.frzAll (els.flatMap D.nm)).set M (.arr esz els') else l
 | _=>l
theorem tE:∀(ns:List Nat) (l:LH),(l.frzAll ns).length=l.length
 | [],_=>rfl
 | n::r,l=>by
  show((l.frz n).frzAll r).length=_
  rw[tE r]
  unfold LH.frz
  split<;>simp
theorem Lh [LB] {l:LH}(hn:l.nf) (M:Nat):(innL l M).nf/\Gj l.w (innL l M).w:=by
 unfold innL
 split
 ·rename_i esz els hM
  split
  ·rename_i hd
   rw[nT,FP]
   obtain⟨a1,a2⟩:=LH.sI (els.flatMap D.nm) hn
   have hlt:M<(l.frzAll (els.flatMap D.nm)).length:=by rw[tE];exact LH.xU (by rw[hM];simp)
   refine⟨LH.iC a2 (by simp),?_⟩
   rw[LH.tt _ rfl hlt,a1]
   exact .step (LH.kZ hM rfl) (He hd) (.refl _)
  ·exact⟨hn,.refl _⟩
 ·exact⟨hn,.refl _⟩
theorem Gj.trans {a b c:Heap}(h:Gj a b) (k:Gj b c):Gj a c:=by
 induction h with
 | refl _=>exact k
 | step hM hd _ ih=>exact .step hM hd (ih k)
def zc:List Nat->LH->LH
 | [],l=>l
 | M::r,l=>zc r (innL l M)
theorem xe [LB]:∀(ns:List Nat){l:LH},l.nf->(zc ns l).nf/\Gj l.w (zc ns l).w
 | [],_,hn=>⟨hn,.refl _⟩
 | M::r,l,hn=>by
  obtain⟨a1,a2⟩:=Lh hn M
  obtain⟨b1,b2⟩:=xe r a1
  exact⟨b1,a2.trans b2⟩
def LI (l:LH):LH:=zc ((List.range l.length).reverse++(List.range l.length).reverse) l
structure A8 (P:Program) (fs:FuncId->Option aJ) where
 a:∀f F,fs f=some F->∀ds K h,Kr P F ds K h->af P f ds h K
 spec:FuncId->Option (List D->Option D)
 sp:∀f s,spec f=some s->∀ds r,s ds=some r->aQ P f ds (· = r)
abbrev Qq:=Nat->Ag->FuncId->List D->LH->Option (D×LH)
def Pm:Ag:=fun _ _ _=>none
def vJ:List Nat->LH->LH
 | [],l=>l
 | n::r,l=>vJ r (match l.h n with|.arr e els=>l.set n (.frz e els)|_=>l)
theorem zj [LB]:∀(ns:List Nat){l:LH},l.nf->(vJ ns l).nf/\(vJ ns l).w=l.w.freezeAll ns
 | [],l,h=>⟨h,rfl⟩
 | n::r,l,h=>by
  have key:(LH.nf (match l.h n with|.arr e els=>l.set n (.frz e els)|_=>l))/\LH.w (match l.h n with|.arr e els=>l.set n (.frz e els)|_=>l)=l.w.freeze n:=by
   cases hs:l.h n with
   | arr e els =>
    have hw:=LH.kZ hs rfl
    exact⟨LH.iC h (by simp),by rw[LH.tt _ rfl (LH.xU (by rw[hs];simp))];simp[Heap.freeze,hw]⟩
   | lp st B=>exact⟨h,by simp[Heap.freeze,LH.D4 hs]⟩
   | free=>exact⟨h,by simp[Heap.freeze,LH.kZ hs rfl]⟩
   | dead=>exact⟨h,by simp[Heap.freeze,LH.kZ hs rfl]⟩
   | box v=>exact⟨h,by simp[Heap.freeze,LH.kZ hs rfl]⟩
   | frz e els=>exact⟨h,by simp[Heap.freeze,LH.kZ hs rfl]⟩
   | map kt es=>exact⟨h,by simp[Heap.freeze,LH.kZ hs rfl]⟩
  obtain⟨g1,g2⟩:=zj r key.1
  exact⟨g1,by show LH.w (vJ r _)=_;rw[g2,key.2];rfl⟩
def evZ (s:List D->Option D) (ds:List D) (l:LH):Option (D×LH) :=
 if BP l ds then match s (ds.map (D.fz l.h)) with
  | some r=>if r.flat then none else fD r fun d=>some (d,vJ (ds.flatMap D.nm) l)
  | none=>none
 else none
theorem Jk [LB] {P:Program}{f:FuncId}{s:List D->Option D}(hs:∀ds r,s ds=some r->aQ P f ds (· = r)){ds:List D}{l l':LH}{d:D}(h:evZ s ds l=some (d,l')) (hn:l.nf):l'.nf/\∀K:HKq,K d l'.w->af P f ds l.w K:=by
 unfold evZ at h
 split at h
 ·rename_i hc
  have hok:=ux hc
  split at h
  ·rename_i r hr
   split at h
   ·cases h
   ·rename_i hfl
    simp only[tG,Option.some.injEq,Prod.mk.injEq]at h
    obtain⟨rfl,rfl⟩:=h
    obtain⟨g1,g2⟩:=zj (ds.flatMap D.nm) hn
    refine⟨g1,fun K hk=>?_⟩
    have e:ds.map (D.fz l.h)=ds.map (D.fz l.w):=List.map_congr_left fun x _=>Es
    rw[e]at hr
    refine af.mono ?_ (cL (hs _ _ hr) hok)
    rintro r' h' ⟨hr',k1,k2⟩
    rw[hr']at k1 k2 ⊢
    rw[g2]at hk
    by_cases hnm:r.flat=true\/ds.flatMap D.nm=[]
    ·have hnil:ds.flatMap D.nm=[]:=by rcases hnm with h0|h0;exact absurd h0 hfl;exact h0
     rw[k1 hnm];rw[hnil]at hk;exact hk
    ·rw[k2 hnm];exact hk
  ·cases h
 ·cases h
theorem E3 {P:Program}{f:FuncId}{ds:List D}{h h'':Heap}{K:HKq}(hi:Gj h h'') (hc:af P f ds h'' K):af P f ds h K:=by
 intro c w vals hh hp hr hs hrel
 obtain⟨g1,g2⟩:=AF hi hh hr
 refine(hc ⟨c.ρ,c.X,h'',c.hp⟩ w vals rfl hp g2 hs (fun i d hi=>(hrel i d hi).mono g1)).mono ?_
 rintro e w' ⟨v,r,ρ,h',r1,r2,r3,r4,r5,r6⟩
 exact⟨v,r,ρ,h',r1,g1.trans r2,r3,r4,r5,r6⟩
def evZ2 (s:List D->Option D) (ds:List D) (l:LH):Option (D×LH):=match evZ s ds l with
 | some q=>some q
 | none=>evZ s ds (zc (ds.flatMap D.nm) l)
theorem Ls [LB] {P:Program}{f:FuncId}{s:List D->Option D}(hs:∀ds r,s ds=some r->aQ P f ds (· = r)){ds:List D}{l l':LH}{d:D}(h:evZ2 s ds l=some (d,l')) (hn:l.nf):l'.nf/\∀K:HKq,K d l'.w->af P f ds l.w K:=by
 unfold evZ2 at h
 split at h
 ·rename_i q hq
  cases h
  exact Jk hs hq hn
 ·obtain⟨a1,a2⟩:=xe (ds.flatMap D.nm) hn
  obtain⟨b1,b2⟩:=Jk hs h a1
  exact⟨b1,fun K hk=>E3 a2 (b2 K hk)⟩
def evPures2 (spec:FuncId->Option (List D->Option D)) (own:FuncId->Bool) (run:Qq) (k:Nat) (Y:Ag):gM where
 call f ds l:=match spec f with
  | none=>run k Y f ds l
  | some s=>match evZ2 s ds l with
   | some q=>some q
   | none=>run k Y f ds l
 vcall f ds:=match spec f with
  | some s=>match s ds with
   | some r=>fD r fun d=>some d
   | none=>none
  | none=>match run 0 Pm f ds [] with
   | some (r,l)=>match LI l with
    | l'=>if DL r&&I9 l' r&&(r.fzt l'.h).DV then fD (r.fzt l'.h) fun d=>some d else none
   | none=>none
 own:=own
 yld:=Y
 k:=k
 callR:=run
def evF2 (P:Program) (fs:FuncId->Option aJ) (spec:FuncId->Option (List D->Option D)) (own:FuncId->Bool) (N:Nat):Nat->Qq
 | 0,_,_,_,_,_=>none
 | n+1,k,Y,f,ds,l=>match fs f with
   | none=>none
   | some F=>if ds.length<=F.nt then
     match evC P (evPures2 spec own (evF2 P fs spec own N n) k Y) N F.code (params ds 0) l with
     | some (x,e,l')=>match x with
      | .exit _=>none
      | .pan=>none
      | .jump _=>none
      | .normal=>match FY F.res e l' with
       | some d=>fD d fun d=>some (d,l')
       | none=>none
      | .ret=>match FY F.res e l' with
       | some d=>fD d fun d=>some (d,l')
       | none=>none
     | none=>none
    else none
def MK (P:Program) (run:Qq):Prop:=∀k Y b,MJ P Y k b->∀f ds l d l',run k Y f ds l=some (d,l')->l.nf->l'.nf/\∀K:HKq,K d (LH.wb b l')->af P f ds (LH.wb b l) K
theorem MJ.Rp {Y:Ag}{k:Nat}{b b':Nat->bf}(h:MJ P Y k b) (ha:Kh k b' b):MJ P Y k b':=fun b1 h1=>h b1 fun m hm=>(h1 m hm).trans (ha m hm)
theorem IJ {k:Nat}{b:Nat->bf}:MJ P Pm k b:=fun _ _ _ _ _ _ _ h=>by cases h
theorem xE {fs:FuncId->Option aJ}(tab:A8 P fs){own:FuncId->Bool}{run:Qq}(hr:MK P run){k:Nat}{Y:Ag}{b0:Nat->bf}(hY:MJ P Y k b0):Kg P (evPures2 tab.spec own run k Y) b0:=by
 have sp:∀f ds r s,tab.spec f=some s->(evPures2 tab.spec own run k Y).vcall f ds=some r->aQ P f ds (· = r):=by
  intro f ds r s hs h
  simp only[evPures2,hs]at h
  cases hr:s ds with
  | none=>rw[hr]at h;cases h
  | some d =>
   rw[hr]at h
   simp only[tG]at h
   cases h
   exact tab.sp f s hs ds r hr
 refine⟨fun b hb=>?_,fun b hb k' Y' hk hY'=>hr k' Y' b hY'⟩
 letI:LB:=⟨b⟩
 refine⟨fun f ds l d l' h hn=>?_,fun n ds l d l' h hn=>(hY.Rp hb) b (fun _ _=>rfl) n ds l d l' h hn,fun f ds r h=>?_⟩
 ·cases hs:tab.spec f with
  | none =>
   simp only[evPures2,hs]at h
   exact hr k Y b (hY.Rp hb) f ds l d l' h hn
  | some s =>
   simp only[evPures2,hs]at h
   cases hz:evZ2 s ds l with
   | none=>rw[hz]at h;exact hr k Y b (hY.Rp hb) f ds l d l' h hn
   | some q =>
    rw[hz]at h
    cases h
    exact Ls (fun ds r h=>tab.sp f s hs ds r h) hz hn
 cases hs:tab.spec f with
 | some s=>exact sp f ds r s hs h
 | none =>
  simp only[evPures2,hs]at h
  cases hq:run 0 Pm f ds [] with
  | none=>rw[hq]at h;cases h
  | some q =>
   obtain⟨d,l'⟩:=q
   rw[hq]at h
   simp only[tG]at h
   split at h
   ·rename_i hc
    simp only[Bool.and_eq_true]at hc
    cases h
    obtain⟨g1,g2⟩:=hr 0 Pm b IJ f ds [] d l' hq (fun s hs=>by cases hs)
    obtain⟨d1,d2⟩:=xe ((List.range l'.length).reverse++(List.range l'.length).reverse) g1
    refine Au ?_
    have e0:(fQ:Heap)=LH.wb b []:=by funext n;simp[fQ,LH.wb,LH.w,Slot.wb]
    rw[e0]
    refine g2 _ ⟨_,d2,DK hc.1.1,G4 hc.1.2,?_,?_⟩
    ·have:=hc.2;rw[My]at this;exact this
    ·rw[My];rfl
   ·cases h
theorem Lt {fs:FuncId->Option aJ}(tab:A8 P fs) (own:FuncId->Bool) (N:Nat):∀n,MK P (evF2 P fs tab.spec own N n):=by
 intro n
 induction n with
 | zero=>intro k Y b hY f ds l d l' h;cases h
 | succ n ih =>
  intro k Y b hY f ds l d l' h hn
  simp only[evF2]at h
  cases hf:fs f with
  | none=>rw[hf]at h;cases h
  | some F =>
   rw[hf]at h
   simp only at h
   split at h
   ·rename_i hlen
    cases hr:evC P (evPures2 tab.spec own (evF2 P fs tab.spec own N n) k Y) N F.code (params ds 0) l with
    | none=>rw[hr]at h;cases h
    | some q =>
     obtain⟨x,e,l1⟩:=q
     rw[hr]at h
     letI:LB:=⟨b⟩
     obtain⟨g1,g2⟩:=N6 (xE tab ih hY) N F.code b (fun _ _=>rfl) _ _ _ _ _ hr hn
     cases x<;>simp only at h<;>try (cases h;done)
     all_goals
      cases hq:FY F.res e l1 with
      | none=>rw[hq]at h;cases h
      | some d1 =>
       rw[hq]at h
       simp only[tG]at h
       cases h
       exact⟨g1,fun K hk=>tab.a f F hf ds K _ ⟨hlen,g2 _ (Jm hq hk)⟩⟩
   ·cases h
def Re {fs:FuncId->Option aJ}(tab:A8 P fs) (own:FuncId->Bool) (N n:Nat) (f:FuncId) (ds:List D):Option D:=(evPures2 tab.spec own (evF2 P fs tab.spec own N n) 0 Pm).vcall f ds
theorem Av {fs:FuncId->Option aJ}(tab:A8 P fs) (own:FuncId->Bool) (N n:Nat){f:FuncId}{ds:List D}{r:D}
  (h:(Re tab own N n f ds).any (D.same r)=true):aQ P f ds (· = r):=by
 cases hv:Re tab own N n f ds with
 | none=>rw[hv]at h;cases h
 | some r' =>
  rw[hv]at h
  simp only[Option.any_some]at h
  rw[D.pE _ _ h]
  letI:LB:=⟨fun _=>FF⟩
  exact((xE tab (own:=own) (Lt tab own N n) (b0:=fun _=>FF) IJ).ok (fun _=>FF) (fun _ _=>rfl)).vcall f ds r' hv
end Go.Am
namespace Go.Am
open Go
variable [bH]
variable {P:Program}
inductive Wk:D->D->Prop where
 | refl (d:D):Wk d d
 | nil:Wk .nil (.sl [])
 | sl (xs ys:List D) (hl:xs.length=ys.length) (h:∀(i:Nat) (x y:D),xs[i]?=some x->ys[i]?=some y->Wk x y):Wk (.sl xs) (.sl ys)
 | agg (xs ys:List D) (hl:xs.length=ys.length) (h:∀(i:Nat) (x y:D),xs[i]?=some x->ys[i]?=some y->Wk x y):Wk (.agg xs) (.agg ys)
 | tup (xs ys:List D) (hl:xs.length=ys.length) (h:∀(i:Nat) (x y:D),xs[i]?=some x->ys[i]?=some y->Wk x y):Wk (.tup xs) (.tup ys)
theorem Wk.one {d d':D}(h:Wk d d'):d'.one=d.one:=by cases h<;>rfl
theorem Wk.vone {d d':D}(h:Wk d d'):d'.vone=d.vone:=by cases h<;>rfl
theorem Wk.Ow {xs:List D}{y:D}(h:Wk (.agg xs) y):∃ys,y=.agg ys/\xs.length=ys.length/\∀(i:Nat) (x y:D),xs[i]?=some x->ys[i]?=some y->Wk x y:=by
 cases h with
 | refl=>exact⟨xs,rfl,rfl,fun i x y h1 h2=>by rw[h1]at h2;cases h2;exact .refl _⟩
 | agg _ ys hl h=>exact⟨ys,rfl,hl,h⟩
theorem Wk.cells {e e':D}(h:Wk e e'):e.cells.length=e'.cells.length:=by
 cases h with
 | agg xs ys hl h=>exact hl
 | _=>rfl
theorem Wk.isAgg {e e':D}(h:Wk e e'):e'.isAgg=e.isAgg:=by cases h<;>rfl
theorem vP {e:D}(h:e.isAgg=false):e.cells=[e]:=by cases e<;>first|rfl|cases h
theorem mR {α:Type}{xs ys:List α}(hl:xs.length=ys.length){i:Nat}{y:α}(hy:ys[i]?=some y):∃x,xs[i]?=some x:=by
 have:=(List.getElem?_eq_some_iff.1 hy).1
 exact⟨xs[i]'(by omega),List.getElem?_eq_getElem (by omega)⟩
theorem D3 {c:Ctx}{d d':D}(h:Wk d d'):∀v,ar c d v->ar c d' v:=by
 induction h with
 | refl d=>exact fun v hv=>hv
 | nil=>intro v hv;cases hv;exact .mM none 0 (by simp[maxLen])
 | agg xs ys hl h ih =>
  intro v hv
  cases hv with
  | agg _ vs hsz hone hrel =>
   refine .agg ys vs (by omega) (fun i d hd=>?_) (fun i d hd=>?_)
   ·obtain⟨x,hx⟩:=mR hl hd
    rw[(h i x d hx hd).one];exact hone i x hx
   ·obtain⟨x,hx⟩:=mR hl hd
    exact ih i x d hx hd _ (hrel i x hx)
 | tup xs ys hl h ih =>
  intro v hv
  cases hv with
  | tup _ vs hsz hrel =>
   refine .tup ys vs (by omega) (fun i d hd=>?_)
   obtain⟨x,hx⟩:=mR hl hd
   exact ih i x d hx hd _ (hrel i x hx)
 | sl xs ys hl h ih =>
  intro v hv
  cases hv with
  | mM p cap hm =>
   have:ys=[]:=List.length_eq_zero_iff.1 hl.symm
   subst this
   exact .mM p cap hm
  | sl _ b o cap esz f hne hc hm he hlen hone hcell hown hrel =>
   have key:∀i j d',aF ys i j=some d'->∃d,aF xs i j=some d/\d'.vone=true/\ar c d' (f i j):=by
    intro i j d' hd'
    simp only[aF,Option.bind_eq_some_iff]at hd'
    obtain⟨y,hy,hj⟩:=hd'
    obtain⟨x,hx⟩:=mR hl hy
    have hw:=h i x y hx hy
    by_cases ha:x.isAgg=true
    ·cases x with
     | agg cs =>
      obtain⟨cs',rfl,hcl,hcw⟩:=hw.Ow
      simp only[D.cells]at hj
      obtain⟨a,haj⟩:=mR hcl hj
      have hin:∀k z,cs[k]?=some z->aF xs i k=some z:=fun k z hz=>by simp[aF,hx,D.cells,hz]
      have hr:ar c (.agg cs) (.agg ((List.range cs.length).map (f i)).toArray):=by
       refine .agg _ _ (by simp) (fun k z hz=>D.iq (hone i k z (hin k z hz))) (fun k z hz=>?_)
       have hk:=(List.getElem?_eq_some_iff.1 hz).1
       have:((List.range cs.length).map (f i)).toArray.getD k Go.undef=f i k:=by simp[Array.getD,hk]
       rw[this];exact hrel i k z (hin k z hz)
      have hr':=ih i _ _ hx hy _ hr
      refine⟨a,hin j a haj,?_,?_⟩
      ·rw[(hcw j a d' haj hj).vone];exact hone i j a (hin j a haj)
      ·cases hr' with
       | agg _ _ _ _ hrel' =>
        have hk:=(List.getElem?_eq_some_iff.1 hj).1
        have:=hrel' j d' hj
        have e:((List.range cs.length).map (f i)).toArray.getD j Go.undef=f i j:=by simp[Array.getD,show j<cs.length by omega]
        rw[e]at this;exact this
     | _=>cases ha
    ·have ha:x.isAgg=false:=by simpa using ha
     have hc1:=vP ha
     have hc2:=vP (hw.isAgg.trans ha)
     rw[hc2]at hj
     cases j with
     | succ j=>simp at hj
     | zero =>
      simp at hj;subst hj
      have hin:aF xs i 0=some x:=by simp[aF,hx,hc1]
      exact⟨x,hin,by rw[hw.vone];exact hone i 0 x hin,ih i x y hx hy _ (hrel i 0 x hin)⟩
   rw[hl]
   refine .sl ys b o cap esz f (fun e=>hne (by subst e;exact List.length_eq_zero_iff.1 hl)) (by omega) hm he (fun y hy=>?_) (fun i j d' hd'=>(key i j d' hd').choose_spec.2.1) (fun i j d' hd'=>?_) hown (fun i j d' hd'=>(key i j d' hd').choose_spec.2.2)
   ·obtain⟨i,hi⟩:=List.getElem?_of_mem hy
    obtain⟨x,hx⟩:=mR hl hi
    rw[<- (h i x y hx hi).cells];exact hlen x (List.mem_of_getElem? hx)
   ·obtain⟨d,hd,-⟩:=key i j d' hd'
    exact hcell i j d hd
theorem aQ.wk {f:FuncId}{ds:List D}{K K':D->Prop}(hc:aQ P f ds K) (hk:∀r,K r->∃r',Wk r r'/\r'.DV=true/\K' r'):aQ P f ds K':=by
 intro c w vals hh hp hr hs hv
 refine(hc c w vals hh hp hr hs hv).mono ?_
 rintro e w' ⟨v,r,r1,r2,r3,r4,r5,r6⟩
 obtain⟨r',h1,h2,h3⟩:=hk r r6
 exact⟨v,r',r1,r2,r3,D3 h1 v r4,h2,h3⟩
inductive HE:List D->List D->Prop where
 | nil:HE [] []
 | cons {x y:D}{xs ys:List D}(h:Wk x y) (k:HE xs ys):HE (x::xs) (y::ys)
theorem HE.get {xs ys:List D}(h:HE xs ys):xs.length=ys.length/\∀(i:Nat) (x y:D),xs[i]?=some x->ys[i]?=some y->Wk x y:=by
 induction h with
 | nil=>exact⟨rfl,fun i x y h=>by simp at h⟩
 | cons h k ih =>
  refine⟨by simp[ih.1],fun i x y h1 h2=>?_⟩
  cases i with
  | zero=>simp at h1 h2;subst h1 h2;exact h
  | succ i=>exact ih.2 i x y (by simpa using h1) (by simpa using h2)
theorem aQ.arg {f:FuncId}{ds ds':List D}{K:D->Prop}(hw:HE ds ds') (hc:aQ P f ds' K):aQ P f ds K:=by
 intro c w vals hh hp hr hs hv
 obtain⟨hl,hw⟩:=hw.get
 refine hc c w vals hh hp hr (by omega) fun i d hd=>?_
 obtain⟨x,hx⟩:=mR hl hd
 exact D3 (hw i x d hx hd) _ (hv i x hx)
theorem af.arg {f:FuncId}{ds ds':List D}{h:Heap}{K:HKq}(hw:HE ds ds') (hc:af P f ds' h K):af P f ds h K:=by
 intro c w vals hh hp hr hs hv
 obtain⟨hl,hw⟩:=hw.get
 refine hc c w vals hh hp hr (by omega) fun i d hd=>?_
 obtain⟨x,hx⟩:=mR hl hd
 exact D3 (hw i x d hx hd) _ (hv i x hx)
theorem Wk.Mb {xs ys:List D}(h:HE xs ys):Wk (.agg xs) (.agg ys):=.agg _ _ h.get.1 h.get.2
theorem HE.rfl:∀{xs:List D},HE xs xs
 | []=>.nil
 | x::r=>.cons (.refl x) HE.rfl
end Go.Am
namespace Go.Am
open Go
variable [bH]
structure cy where
 kind:Int
 n:Int
 v:Int
deriving DecidableEq,Inhabited
structure aP where
 op:Int
 sub:Int
 n:Int
 d:cy
 a:cy
 b:cy
 c:cy
deriving DecidableEq,Inhabited
structure Term where
 kind:Int
 sub:Int
 d:cy
 a:cy
 b:cy
 to0:Int
 to1:Int
deriving DecidableEq,Inhabited
structure Block where
 i:List aP
 t:Term
deriving DecidableEq,Inhabited
structure qJ where
 name:ByteArray
 space:Int
 type:Int
 len:Int
structure Loop where
 head:Int
 reg:Int
 bound:Int
deriving DecidableEq,Inhabited
structure Code where
 group:Int
 sub:Int
 regs:Int
 slots:Int
 params:Int
 arrays:List qJ
 loops:List Loop
 b:List Block
def au:cy:=⟨0,0,0⟩
def jr:Term:=⟨0,0,au,au,au,0,0⟩
def ik (n:Int):cy:=⟨2,n,0⟩
def Const (v:Int):cy:=⟨1,0,v⟩
def cy.cs (o:cy):List D:=[.int .i64 o.kind,.int .i64 o.n,.int .i32 o.v]
def cy.e (o:cy):D:=.agg o.cs
def aP.cs (x:aP):List D :=
  [.int .i64 x.op,.int .i64 x.sub,.int .i64 x.n,.int .i64 x.d.kind,.int .i64 x.d.n,.int .i32 x.d.v,.int .i64 x.a.kind,.int .i64 x.a.n,.int .i32 x.a.v,
   .int .i64 x.b.kind,.int .i64 x.b.n,.int .i32 x.b.v,.int .i64 x.c.kind,.int .i64 x.c.n,.int .i32 x.c.v]
def aP.e (x:aP):D:=.agg x.cs
def Term.cs (t:Term):List D :=
  [.int .i64 t.kind,.int .i64 t.sub,.int .i64 t.d.kind,.int .i64 t.d.n,.int .i32 t.d.v,.int .i64 t.a.kind,.int .i64 t.a.n,.int .i32 t.a.v,
   .int .i64 t.b.kind,.int .i64 t.b.n,.int .i32 t.b.v,.int .i64 t.to0,.int .i64 t.to1]
def Term.e (t:Term):D:=.agg t.cs
def Block.e (x:Block):D:=.agg (.sl (x.i.map aP.e)::x.t.cs)
def qJ.e (x:qJ):D:=.agg [.str x.name,.int .i64 x.space,.int .i64 x.type,.int .i64 x.len]
def Loop.e (x:Loop):D:=.agg [.int .i64 x.head,.int .i64 x.reg,.int .i64 x.bound]
def Code.e (c:Code):D :=
 .agg [.int .i64 c.group,.int .i64 c.sub,.int .i64 c.regs,.int .i64 c.slots,.int .i64 c.params,.sl (c.arrays.map qJ.e),.sl (c.loops.map Loop.e),.sl (c.b.map Block.e)]
structure uL (d:D):Prop where
 vd:d.vd=true
 one:aH d
theorem uL.pair {d:D}(h:uL d):d.vd=true/\aH d:=⟨h.vd,h.one⟩
theorem aV {k:IntKind}{n:Int}:uL (.int k n):=⟨rfl,by simp⟩
theorem Dc {b:Bool}:uL (.bool b):=⟨rfl,by simp⟩
theorem Ju {xs:List D}:uL (.sl xs):=⟨rfl,by simp⟩
theorem LJ:uL .nil:=⟨rfl,by simp⟩
theorem gz {cs:List D}(h:∀x∈cs,x.vone=true):uL (.agg cs):=⟨by simpa[D.vd] using h,fun x hx=>D.iq (h x hx)⟩
theorem cy.gg (o:cy):uL o.e:=gz (by simp[cy.cs])
theorem aP.gg (o:aP):uL o.e:=gz (by simp[aP.cs])
theorem Term.gg (o:Term):uL o.e:=gz (by simp[Term.cs])
theorem Block.gg (o:Block):uL o.e:=gz (by simp[Term.cs])
theorem qJ.gg (o:qJ):uL o.e:=gz (by simp)
theorem Loop.gg (o:Loop):uL o.e:=gz (by simp)
theorem Code.gg (o:Code):uL o.e:=gz (by simp)
def HB:List D->Prop
 | []=>True
 | d::r=>uL d/\HB r
theorem HB.all:∀{ds:List D},HB ds->∀d∈ds,d.vd=true/\aH d
 | [],_,d,h=>by cases h
 | x::r,hd,d,h=>by
  rcases List.mem_cons.1 h with rfl|h
  ·exact hd.1.pair
  ·exact HB.all hd.2 d h
theorem eY {P:Program}{f:FuncId}{ds:List D}{h:Heap}{KH:HKq}{r:D}(hv:aQ P f ds (· = r)) (hds:HB ds) (hk:KH r h):af P f ds h KH:=fv hv hds.all (by rintro _ rfl;exact hk)
theorem Bg {P:Program}{f:FuncId}{as:List Arg}{h:Heap}{K:D->Prop}{r:D}(hv:aQ P f (as.map (·.get [])) (· = r)) (hds:HB (as.map (·.get []))) (hk:K r):ab P (.call f as) h K:=Of hv hds.all hk
theorem Ca {d:D}{h:Heap}{K:D->Prop}(hd:uL d) (hk:K d):wL K d h:=Km hd.pair hk
end Go.Am
namespace Go.Am
open Go
variable [bH]
variable {P:Program}{KH:HKq}{K:D->Prop}{h:Heap}
theorem Q6 {A:(HKq)->Prop}:vguard (.bool true) true A h KH=A KH:=by rw[o4];simp
theorem Q9 {A:(HKq)->Prop}:vguard (.bool false) false A h KH=A KH:=by rw[o4];simp
theorem Q7 {A:(HKq)->Prop}:vguard (.bool true) false A h KH=KH gU h:=by rw[o4];simp
theorem Q8 {A:(HKq)->Prop}:vguard (.bool false) true A h KH=KH gU h:=by rw[o4];simp
theorem PG {A:(D->Prop)->Prop}:aA (.bool true) true A K=A K:=by rw[iw];simp
theorem Rb {A:(D->Prop)->Prop}:aA (.bool false) false A K=A K:=by rw[iw];simp
theorem Ra {A:(D->Prop)->Prop}:aA (.bool true) false A K=K gU:=by rw[iw];simp
theorem PH {A:(D->Prop)->Prop}:aA (.bool false) true A K=K gU:=by rw[iw];simp
theorem Cw {x y:D}:aa P (.pick (.c (.bool true)) (.c x) (.c y)) h KH=KH x h:=rfl
theorem Iz {x y:D}:aa P (.pick (.c (.bool false)) (.c x) (.c y)) h KH=KH y h:=rfl
theorem Pk {KK:D->Prop}:vun .not (.bool true) KK=KK (.bool false):=rfl
theorem Pl {KK:D->Prop}:vun .not (.bool false) KK=KK (.bool true):=rfl
theorem GQ {n j s:Nat}{cs:List D}{d:D}(a:h n=.box (.agg cs)) (hj:cs[j]?=some d):aa P (.ld (.c (.ptr n 0 j)) s false) h KH=KH d h:=by
 rw[rf,a];simp[eg,hj]
theorem rG {n j s:Nat}{cs:List D}{d:D}(a:h n=.box (.agg cs)) (hj:cs[j]?=some d):ab P (.ld (.c (.ptr n 0 j)) s false) h K=K d:=by
 rw[nY,GQ a hj]
theorem re {n:Nat}{cs:List D}(a:h n=.box (.agg cs)):aa P (.ld (.c (.ptr n 0 0)) cs.length true) h KH=KH (.agg cs) h:=by
 rw[rf,a];simp[iu]
theorem Ld {n j s:Nat}{cs:List D}(a:h n=.box (.agg cs)) (hj:j+s<=cs.length):aa P (.ld (.c (.ptr n 0 j)) s true) h KH=KH (.agg ((cs.drop j).take s)) h:=by
 rw[rf,a];simp[iu,hj]
theorem Mo {n:Nat}{x y z p q r:D}(a:h n=.box (.agg [x,y,z])) (h1:p.one=true) (h2:q.one=true) (h3:r.one=true) :
  aa P (.st (.c (.ptr n 0 0)) (.c (.agg [p,q,r])) 3) h KH=KH .undef (aq h n (.box (.agg [p,q,r]))):=by
 rw[nQ,a]
 apply propext
 constructor
 ·exact fun hh=>by simpa using hh.2.2
 ·intro hk
  refine⟨rfl,fun w hw=>?_,rfl,by simp,by simpa using hk⟩
  simp at hw;rcases hw with rfl|rfl|rfl<;>assumption
theorem QN {n:Nat}{x y z:D}{k1 k2 k3:IntKind}{p q r:Int}(a:h n=.box (.agg [x,y,z])) :
  aa P (.st (.c (.ptr n 0 0)) (.c (.agg [.int k1 p,.int k2 q,.int k3 r])) 3) h KH=KH .undef (aq h n (.box (.agg [.int k1 p,.int k2 q,.int k3 r]))):=Mo a rfl rfl rfl
theorem Rm {x y:D}{p q:Int}:aa P (.bld [x,y] [(0,1,(.c (.int .i64 p))),(1,1,(.c (.int .i64 q)))]) h KH=KH (.agg [.int .i64 p,.int .i64 q]) h:=by
 rw[oK]
 simp[iG,fillD]
theorem P6 {x y z:D}{p q:Int}:aa P (.bld [x,y,z] [(0,1,(.c (.int .i64 p))),(1,1,(.c (.int .i64 q)))]) h KH=KH (.agg [.int .i64 p,.int .i64 q,z]) h:=by
 rw[oK]
 simp[iG,fillD]
theorem Rl {x y z:D}{p q r:Int}:aa P (.bld [x,y,z] [(0,1,(.c (.int .i64 p))),(1,1,(.c (.int .i64 q))),(2,1,(.c (.int .i64 r)))]) h KH=KH (.agg [.int .i64 p,.int .i64 q,.int .i64 r]) h:=by
 rw[oK]
 simp[iG,fillD]
theorem Rj {z:List D}:aa P (.bld z []) h KH=KH (.agg z) h:=by
 rw[oK]
 simp[iG,fillD]
theorem N0 {x:D}{r:List D}:aa P (.ext (.c (.tup (x::r))) 0) h KH=KH x h:=rfl
theorem NZ {x y:D}{r:List D}:aa P (.ext (.c (.tup (x::y::r))) 1) h KH=KH y h:=rfl
theorem Rc {x y z:D}{r:List D}:aa P (.ext (.c (.tup (x::y::z::r))) 2) h KH=KH z h:=rfl
theorem PS {x:D}{r:List D}:ab P (.ext (.c (.tup (x::r))) 0) h K=K x:=rfl
theorem PR {x y:D}{r:List D}:ab P (.ext (.c (.tup (x::y::r))) 1) h K=K y:=rfl
theorem B9 {ds:List D}{h:Heap}{K:D->Prop}(hd:∀d∈ds,d.vd=true/\aH d) (hk:K (.tup ds)):wL K (.tup ds) h:=by
 have one:∀d∈ds,d.fz h=d/\kG h d:=by
  intro d hdm
  obtain⟨h1,h2⟩:=hd d hdm
  obtain⟨a1,a2,a3⟩:=As (h:=h) h1
  exact⟨a1,a3⟩
 have e:(D.tup ds).fzt h=.tup ds:=by
  simp only[D.fzt]
  rw[List.map_congr_left (fun d hdm=>(one d hdm).1)]
  simp
 refine⟨fun d hdm=>(hd d hdm).2,fun d hdm=>(one d hdm).2,?_,by rw[e];exact hk⟩
 rw[e]
 simp only[D.DV,List.all_eq_true]
 exact fun d hdm=>(hd d hdm).1
section
variable {k:IntKind}{a b:Int}
theorem RK (h0:a<=b):vbin .leq (.int k a) (.int k b) K=K (.bool true):=by rw[HQ];simp[h0]
theorem RL (h0:b<a):vbin .leq (.int k a) (.int k b) K=K (.bool false):=by rw[HQ];simp[show ¬a<=b by omega]
theorem sZ (h0:a<b):vbin .lss (.int k a) (.int k b) K=K (.bool true):=by rw[uS];simp[h0]
theorem sG (h0:b<=a):vbin .lss (.int k a) (.int k b) K=K (.bool false):=by rw[uS];simp[show ¬a<b by omega]
theorem RB (h0:b<a):vbin .gtr (.int k a) (.int k b) K=K (.bool true):=by rw[xr];simp[h0]
theorem Qm (h0:a<=b):vbin .gtr (.int k a) (.int k b) K=K (.bool false):=by rw[xr];simp[show ¬b<a by omega]
theorem RP (h0:b<=a):vbin .geq (.int k a) (.int k b) K=K (.bool true):=by rw[yD];simp[h0]
theorem RQ (h0:a<b):vbin .geq (.int k a) (.int k b) K=K (.bool false):=by rw[yD];simp[show ¬b<=a by omega]
theorem RT (h0:a=b):vbin .eql (.int k a) (.int k b) K=K (.bool true):=by rw[de];simp[h0]
theorem RU (h0:a≠b):vbin .eql (.int k a) (.int k b) K=K (.bool false):=by rw[de];simp[h0]
theorem QW (h0:a≠b):vbin .neq (.int k a) (.int k b) K=K (.bool true):=by rw[xq];simp[h0]
theorem IL (h0:a=b):vbin .neq (.int k a) (.int k b) K=K (.bool false):=by rw[xq];simp[h0]
theorem gE (h1 : -9223372036854775808<=a+b) (h2:a+b<=9223372036854775807):vbin .add (.int .i64 a) (.int .i64 b) K=K (.int .i64 (a+b)):=by rw[dD,wrap64 h1 h2]
theorem D9 (h1 : -9223372036854775808<=a-b) (h2:a-b<=9223372036854775807):vbin .sub (.int .i64 a) (.int .i64 b) K=K (.int .i64 (a-b)):=by rw[kM,wrap64 h1 h2]
theorem QX (h1 : -9223372036854775808<=a*b) (h2:a*b<=9223372036854775807):vbin .mul (.int .i64 a) (.int .i64 b) K=K (.int .i64 (a*b)):=by rw[Aw,wrap64 h1 h2]
theorem QS (h1:b≠0):vbin .rem (.int k a) (.int k b) K=K (.int k (a.tmod b)):=by rw[cq];simp[h1]
theorem QU (h1 : -9223372036854775808<=0-a) (h2:0-a<=9223372036854775807):vun .neg (.int .i64 a) K=K (.int .i64 (0-a)):=by rw[Ml,wrap64 h1 h2]
end
def gS:=And.intro @Q6<|And.intro @Q9<|And.intro @Q7<|And.intro @Q8<|And.intro @yC<|And.intro @PG<|And.intro @Rb<|And.intro @Ra<|And.intro @PH<|And.intro @wM<|And.intro @Cw<|And.intro @Iz<|And.intro @Pk<|And.intro @Pl<|And.intro @ai<|And.intro @ah<|And.intro @N0<|And.intro @NZ<|And.intro @Rc<|And.intro @Rm<|And.intro @Rl<|And.intro @P6<|And.intro @Rj<|And.intro @PS @PR
def cS:=And.intro @RK<|And.intro @RL<|And.intro @sZ<|And.intro @sG<|And.intro @RB<|And.intro @Qm<|And.intro @RP<|And.intro @RQ<|And.intro @RT<|And.intro @RU<|And.intro @QW<|And.intro @IL<|And.intro @gE<|And.intro @D9<|And.intro @QX<|And.intro @QS @QU
end Go.Am
namespace Go.Am
open Go
variable [bH]
variable {P:Program}{KH:HKq}{K:D->Prop}{h:Heap}{L:LSq}
structure Vs (h:Heap) (L:LSq):Prop where
 get:∀(i n:Nat) (s:Slot),L[i]?=some (n,s)->h n=s
 ne:∀(i j n m:Nat) (s s':Slot),L[i]?=some (n,s)->L[j]?=some (m,s')->i≠j->n≠m
 lv:∀(i n:Nat) (s:Slot),L[i]?=some (n,s)->s≠.free
theorem Vs.nil:Vs h []:=⟨fun i n s h=>by simp at h,fun i j n m s s' h=>by simp at h,fun i n s h=>by simp at h⟩
theorem Vs.push (V:Vs h L){n:Nat}(hn:h n=.free){s:Slot}(hs:s≠.free):Vs (aq h n s) ((n,s)::L):=by
 have HD:∀(i m:Nat) (t:Slot),L[i]?=some (m,t)->m≠n:=by
  rintro i m t hi rfl
  exact V.lv i m t hi ((V.get i m t hi).symm.trans hn)
 refine⟨fun i m t hi=>?_,fun i j m m' t t' hi hj hij=>?_,fun i m t hi=>?_⟩
 ·cases i with
  | zero=>simp at hi;obtain⟨rfl,rfl⟩:=hi;exact aj _ _ _
  | succ i=>simp at hi;rw[ag _ _ (HD i m t hi)];exact V.get i m t hi
 ·cases i with
  | zero =>
   cases j with
   | zero=>exact absurd rfl hij
   | succ j=>simp at hi hj;obtain⟨rfl,rfl⟩:=hi;exact(HD j m' t' hj).symm
  | succ i =>
   cases j with
   | zero=>simp at hi hj;obtain⟨rfl,rfl⟩:=hj;exact HD i m t hi
   | succ j=>simp at hi hj;exact V.ne i j m m' t t' hi hj (by omega)
 ·cases i with
  | zero=>simp at hi;obtain⟨rfl,rfl⟩:=hi;exact hs
  | succ i=>simp at hi;exact V.lv i m t hi
theorem Vs.bO (V:Vs h L) (i:Nat){n:Nat}{s:Slot}(hi:L[i]?=some (n,s)){s':Slot}(hs:s'≠.free):Vs (aq h n s') (L.set i (n,s')):=by
 have hil:=(List.getElem?_eq_some_iff.1 hi).1
 have key:∀(j m:Nat) (t:Slot),(L.set i (n,s'))[j]?=some (m,t)->(j=i/\m=n/\t=s')\/(j≠i/\L[j]?=some (m,t)):=by
  intro j m t hj
  rw[List.getElem?_set]at hj
  by_cases e:i=j
  ·subst e;rw[if_pos rfl]at hj;simp[hil]at hj;exact Or.inl ⟨rfl,hj.1.symm,hj.2.symm⟩
  ·rw[if_neg e]at hj;exact Or.inr ⟨fun q=>e q.symm,hj⟩
 refine⟨fun j m t hj=>?_,fun j k m m' t t' hj hk hjk=>?_,fun j m t hj=>?_⟩
 ·rcases key j m t hj with⟨-,rfl,rfl⟩|⟨h1,h2⟩
  ·exact aj _ _ _
  ·rw[ag _ _ (V.ne j i m n t s h2 hi h1)];exact V.get j m t h2
 ·rcases key j m t hj with⟨rfl,rfl,rfl⟩|⟨h1,h2⟩<;>rcases key k m' t' hk with⟨rfl,rfl,rfl⟩|⟨g1,g2⟩
  ·exact absurd rfl hjk
  ·exact(V.ne k j m' m t' s g2 hi g1).symm
  ·exact V.ne j k m m' t s h2 hi h1
  ·exact V.ne j k m m' t t' h2 g2 hjk
 ·rcases key j m t hj with⟨-,-,rfl⟩|⟨-,h2⟩
  ·exact hs
  ·exact V.lv j m t h2
theorem Vs.keep (V:Vs h L){h':Heap}(hk:∀k,h k≠.free->h' k=h k):Vs h' L :=
 ⟨fun i n s hi=>by have:=V.get i n s hi;rw[hk n (by rw[this];exact V.lv i n s hi)];exact this,V.ne,V.lv⟩
theorem Vs.y8 (V:Vs h L){h':Heap}(hk:∀(k:Nat) (s:Slot),(∃i:Nat,L[i]?=some (k,s))->h' k=h k):Vs h' L :=
 ⟨fun i n s hi=>by rw[hk n s ⟨i,hi⟩];exact V.get i n s hi,V.ne,V.lv⟩
theorem Vs.pop {x:Nat×Slot}(V:Vs h (x::L)):Vs h L :=
 ⟨fun i n s hi=>V.get (i+1) n s (by simpa using hi),fun i j n m s s' hi hj hij=>V.ne (i+1) (j+1) n m s s' (by simpa using hi) (by simpa using hj) (by omega),fun i n s hi=>V.lv (i+1) n s (by simpa using hi)⟩
theorem Vs.box (V:Vs h L){d:D}(ho:aH d) (hK:∀n h',Vs h' ((n,.box d)::L)->KH (.ptr n 0 0) h'):aa P (.box (.c d)) h KH:=by
 rw[AI]
 exact⟨ho,fun n t=>hK n _ (V.push t.free (by simp))⟩
theorem Vs.alloc (V:Vs h L){d:D}(hK:∀n h',Vs h' ((n,.box d)::L)->KH (.ptr n 0 0) h'):aa P (.alloc d) h KH:=by
 rw[fH]
 exact fun n t=>hK n _ (V.push t.free (by simp))
theorem Vs.Mu (V:Vs h L){esz bytes l:Nat}{z:D}(hb:l*bytes<=140737488355328) (hl:l<=9223372036854775807) (hK:∀n h',Vs h' ((n,.arr esz (List.replicate l z))::L)->KH (.ms n 0 l) h'):aa P (.mk esz bytes z (.c (.int .i64 (l:Int))) (.c (.int .i64 (l:Int)))) h KH:=by
 rw[PF]
 refine⟨by omega,by omega,by have:=Int.ofNat_le.2 hb;simpa using this,by omega,fun n t=>?_⟩
 rw[Int.toNat_natCast]
 exact hK n _ (V.push t.free (by simp))
theorem Vs.xt (V:Vs h L) (i:Nat){n s:Nat}{cs cs':List D}(hi:L[i]?=some (n,.box (.agg cs))) (hl:cs.length=s) (hl':cs'.length=s) (ho:∀x,x∈cs'->x.one=true)
  (hK:∀h',Vs h' (L.set i (n,.box (.agg cs')))->KH .undef h'):aa P (.st (.c (.ptr n 0 0)) (.c (.agg cs')) s) h KH:=by
 rw[nQ,V.get i _ _ hi]
 refine⟨hl',ho,rfl,by simp[hl],?_⟩
 have e:setCells (.agg cs) 0 (D.agg cs').cells=.agg cs':=by
  show D.agg (cs.take 0++cs'++cs.drop (0+cs'.length))=_
  rw[List.take_zero,List.nil_append,Nat.zero_add,List.drop_of_length_le (by omega),List.append_nil]
 rw[e]
 exact hK _ (V.bO i hi (by simp))
theorem Vs.OV (V:Vs h L) (i:Nat){n j:Nat}{cs:List D}{d:D}(hi:L[i]?=some (n,.box (.agg cs))) (hj:j<cs.length) (ho:d.one=true)
  (hK:∀h',Vs h' (L.set i (n,.box (.agg (cs.set j d))))->KH .undef h'):aa P (.st (.c (.ptr n 0 j)) (.c d) 1) h KH:=by
 rw[nQ,V.get i _ _ hi]
 have hc:d.cells=[d]:=by cases d<;>first|rfl|cases ho
 refine⟨by rw[hc];rfl,fun x hx=>by rw[hc]at hx;simp at hx;subst hx;exact ho,rfl,by simp;omega,?_⟩
 have e:setCells (.agg cs) j d.cells=.agg (cs.set j d):=by
  rw[hc]
  show D.agg (cs.take j++[d]++cs.drop (j+1))=_
  rw[List.set_eq_take_append_cons_drop,if_pos hj]
  simp
 rw[e]
 exact hK _ (V.bO i hi (by simp))
theorem Vs.Bk (V:Vs h L) (i:Nat){n j:Nat}{els:List D}{d:D}(hi:L[i]?=some (n,.arr 1 els)) (hj:j<els.length) (ho:d.one=true) (h1:∀x∈els,x.one=true)
  (hK:∀h',Vs h' (L.set i (n,.arr 1 (els.set j d)))->KH .undef h'):aa P (.st (.c (.ptr n j 0)) (.c d) 1) h KH:=by
 rw[nQ,V.get i _ _ hi]
 have hc:∀d:D,d.one=true->d.cells=[d]:=fun d ho=>by cases d<;>first|rfl|cases ho
 refine⟨by rw[hc d ho];rfl,fun x hx=>by rw[hc d ho]at hx;simp at hx;subst hx;exact ho,hj,by omega,fun y hy=>?_⟩
 have hy1:=h1 y (List.mem_of_getElem? hy)
 have e:setCells y 0 d.cells=d:=by rw[hc d ho];cases y<;>first|rfl|cases hy1
 rw[e]
 exact hK _ (V.bO i hi (by simp))
theorem Vs.fa (V:Vs h L) (i:Nat){n o:Nat}{s:Slot}(hi:L[i]?=some (n,s)):aa P (.fadd (.c (.ptr n 0 0)) o) h KH=KH (.ptr n 0 o) h:=by
 have:=V.get i n s hi
 rw[jy,this]
 have hu:s.used=true:=Slot.Bc (V.lv i n s hi)
 apply propext
 exact⟨fun hh=>by simpa using hh.2,fun hk=>⟨hu,by simpa using hk⟩⟩
theorem Vs.fe (V:Vs h L) (i:Nat){n j:Nat}{cs:List D}{e:D}(hi:L[i]?=some (n,.box (.agg cs))) (he:cs[j]?=some e):aa P (.ld (.c (.ptr n 0 j)) 1 false) h KH=KH e h:=GQ (V.get i _ _ hi) he
theorem Vs.re (V:Vs h L) (i:Nat){n s:Nat}{cs:List D}(hi:L[i]?=some (n,.box (.agg cs))) (hl:cs.length=s):aa P (.ld (.c (.ptr n 0 0)) s true) h KH=KH (.agg cs) h:=by rw[<- hl,Go.Am.re (V.get i _ _ hi)]
theorem Vs.LF (V:Vs h L) (i:Nat){n s:Nat}{cs:List D}(hi:L[i]?=some (n,.box (.agg cs))) (hl:cs.length=s):ab P (.ld (.c (.ptr n 0 0)) s true) h K=K (.agg cs):=by rw[nY,V.re i hi hl]
theorem Vs.ia (V:Vs h L) (i:Nat){n l esz:Nat}{els:List D}{a:Int}(hi:L[i]?=some (n,.arr esz els)) (h0:0<=a) (h1:a<l):aa P (.iadd (.c (.ms n 0 l)) (.c (.int .i64 a)) esz) h KH=KH (.ptr n a.toNat 0) h:=by
 rw[jT]
 apply propext
 constructor
 ·exact fun hh=>by simpa using hh.2.2.2
 ·exact fun hk=>⟨h0,h1,⟨els,by rw[V.get i _ _ hi];rfl⟩,by simpa using hk⟩
theorem Vs.Hc (V:Vs h L) (i:Nat){n l esz:Nat}{els:List D}{a:Int}(hi:L[i]?=some (n,.arr esz els)) (h0:0<=a) (h1:a<l):ab P (.iadd (.c (.ms n 0 l)) (.c (.int .i64 a)) esz) h K=K (.ptr n a.toNat 0):=by rw[nZ,V.ia i hi h0 h1]
theorem Vs.zR (V:Vs h L) (i:Nat){n j:Nat}{els:List D}{d:D}(hi:L[i]?=some (n,.arr 1 els)) (hd:els[j]?=some d) (h1:d.one=true):aa P (.ld (.c (.ptr n j 0)) 1 false) h KH=KH d h:=by
 rw[rf,V.get i _ _ hi]
 obtain⟨hl,he⟩:=List.getElem?_eq_some_iff.1 hd
 have hc:d.cells=[d]:=by cases d<;>first|rfl|cases h1
 simp[eg,hl,he,hc]
theorem Vs.EB (V:Vs h L) (i:Nat){n j:Nat}{els:List D}{d:D}(hi:L[i]?=some (n,.arr 1 els)) (hd:els[j]?=some d) (h1:d.one=true):ab P (.ld (.c (.ptr n j 0)) 1 false) h K=K d:=by rw[nY,V.zR i hi hd h1]
theorem mM {xs:List D}{a:Int}{esz:Nat}{d:D}(h0:0<=a) (hd:xs[a.toNat]?=some d) (hc:d.cells.length=esz):aa P (.iadd (.c (.sl xs)) (.c (.int .i64 a)) esz) h KH=KH (.vp d 0) h:=by
 rw[xf]
 have hl:=(List.getElem?_eq_some_iff.1 hd).1
 apply propext
 constructor
 ·exact fun hh=>(hh.2.2 d hd).2
 ·exact fun hk=>⟨h0,by omega,fun d' hd'=>by rw[hd]at hd';cases hd';exact⟨hc,hk⟩⟩
theorem PO {d:D}{o:Nat}:aa P (.fadd (.c (.vp d 0)) o) h KH=KH (.vp d o) h:=by rw[BB,Nat.zero_add]
theorem Po {cs:List D}{j:Nat}{e:D}(he:cs[j]?=some e):aa P (.ld (.c (.vp (.agg cs) j)) 1 false) h KH=KH e h:=by rw[tB,eg];simp[he]
theorem Ei {cs:List D}{s:Nat}(hl:cs.length=s):aa P (.ld (.c (.vp (.agg cs) 0)) s true) h KH=KH (.agg cs) h:=by
 subst hl
 rw[tB,iu];simp
theorem Ac {d:D}(h1:d.one=true):aa P (.ld (.c (.vp d 0)) 1 false) h KH=KH d h:=by
 have hc:d.cells=[d]:=by cases d<;>first|rfl|cases h1
 rw[tB,eg,hc];rfl
end Go.Am
