/- The abstract machine: what the operations of the program do, on plain data. No condition. -/
import Derived.OpenShut
import Derived.ReadAgain
import Derived.RowKit
import Derived.Test.YtanejooghcppjaaGreatA2
set_option linter.unnecessarySimpa false
set_option linter.defProp false
set_option linter.unusedSectionVars false
set_option linter.unusedSimpArgs false
set_option linter.unusedVariables false
namespace Go.Am
open Go
variable [ck]
variable {P:Program}{KH:HKq}{K:D->Prop}{h:Heap}
theorem fB {x:Arg}{s:Nat}{g:Bool}:an P (.ld x s g) h K=ab P (.ld x s g) h λ d _=>K d:=rfl
theorem VA {x:Arg}{a b c:Option Arg}{n:Nat}:an P (.GQ x a b c n) h K=ab P (.GQ x a b c n) h λ d _=>K d:=rfl
theorem aaQ {x:Arg}{a b:Option Arg}:an P (.sslc x a b) h K=ab P (.sslc x a b) h λ d _=>K d:=rfl
theorem acB {x y:Arg}:an P (.mn x y) h K=ab P (.mn x y) h λ d _=>K d:=rfl
theorem acA {x y:Arg}:an P (.mx x y) h K=ab P (.mx x y) h λ d _=>K d:=rfl
theorem eD {x y:Arg}{n:Nat}:an P (.iadd x y n) h K=ab P (.iadd x y n) h λ d _=>K d:=rfl
theorem jC {x y:Arg}{l n:Nat}:an P (.iadda x y l n) h K=ab P (.iadda x y l n) h λ d _=>K d:=rfl
theorem aaS {x y:Arg}{len size:Nat}{agg:Bool}:an P (.sidx x y len size agg) h K=ab P (.sidx x y len size agg) h λ d _=>K d:=rfl
theorem Ag {k:IntKind}{x:Arg}:an P (.conv k x) h K=ab P (.conv k x) h λ d _=>K d:=rfl
theorem qV {c x y:Arg}:an P (.pick c x y) h K=ab P (.pick c x y) h λ d _=>K d:=rfl
theorem xy {x:Arg}{i:Nat}:an P (.ext x i) h K=ab P (.ext x i) h λ d _=>K d:=rfl
theorem Zf {x:Arg}{o s:Nat}{g:Bool}:an P (.fld x o s g) h K=ab P (.fld x o s g) h λ d _=>K d:=rfl
theorem RF {z:List D}{ps:List (Nat×Nat×Arg)}:an P (.bld z ps) h K=ab P (.bld z ps) h λ d _=>K d:=rfl
theorem acD {n g:Bool}{ks:List CK}{x y:Arg}:an P (.eqv n g ks x y) h K=ab P (.eqv n g ks x y) h λ d _=>K d:=rfl
theorem aaR {x:Arg}:an P (.slen x) h K=ab P (.slen x) h λ d _=>K d:=rfl
theorem acC {f:FuncId}{a b:List Arg}:an P (.mkf f a b) h K=ab P (.mkf f a b) h λ d _=>K d:=rfl
theorem qo {d:D}{j o:Nat}:an P (.fadd (.c (.vp d j)) o) h K=K (.vp d (j+o)):=rfl
theorem bw {n i j o:Nat}:an P (.fadd (.c (.ptr n i j)) o) h K=((h n).used=true/\K (.ptr n i (j+o))):=rfl
theorem X3 {xs:List D}{a b c:Option Arg}{n:Nat}:ab P (.GQ (.c (.sl xs)) a b c n) h KH=vopt [] a 0 λ l=>vopt [] b xs.length λ r=>vopt [] c xs.length λ m=>0<=l/\l<=r/\r<=m/\m<=xs.length/\(∀d∈xs,d.cells.length=n) /\
    KH (.sl ((xs.drop l.toNat).take (r-l).toNat)) h:=rfl
theorem BW {m off len:Nat}{a b c:Option Arg}{n:Nat}:ab P (.GQ (.c (.ms m off len)) a b c n) h KH=vopt [] a 0 λ l=>vopt [] b len λ r=>vopt [] c len λ q=>0<=l/\l<=r/\r<=q/\q<=len/\(∃els,(h m).row=some (n,els)) /\
    KH (.ms m (off+l.toNat) (r-l).toNat) h:=rfl
theorem qA {n:Nat}{Q:Int->Prop}:vopt [] none n Q=Q n:=rfl
theorem nJ {k:IntKind}{i:Int}{n:Nat}{Q:Int->Prop}:vopt [] (some (.c (.int k i))) n Q=Q i:=rfl
theorem SR {k:IntKind}{a b:Int}:ab P (.mn (.c (.int k a)) (.c (.int k b))) h KH=KH (.int k (if b<a then b else a)) h:=by simp[ab,vcOp,Arg.get]
theorem Yb {k:IntKind}{a b:Int}:ab P (.mx (.c (.int k a)) (.c (.int k b))) h KH=KH (.int k (if a<b then b else a)) h:=by simp[ab,vcOp,Arg.get]
theorem Mz {n:Nat}{as:List Arg}:ab P (.callv (.c (.yld n)) as) h KH=((∃st B,h n=.lp st B)/\uq P n (as.map (·.get [])) h KH):=rfl
theorem ud {f:FuncId}{as:List Arg}{r:D}(hv:aV P f (as.map (·.get [])) (· = r)) (hds:∀d,d∈as.map (·.get [])->d.vd=true/\aD d) (hk:K r):an P (.call f as) h K:=by
 have u:∀d,d∈as.map (·.get [])->d.fz h=d/\d.nm=[]/\pD h d:=λ d hd=>zt (hds d hd).1
 have e:(as.map λ x=>(x.get []).fz h)=as.map (·.get []):=by
  grind [List.map_congr_left]
 refine⟨r,by rw[e];exact hv,λ d hd=>⟨(hds d hd).2,(u d hd).2.2,by grind⟩,Or.inr ?_,hk⟩
 have E:(as.flatMap λ x=>(x.get []).nm)=[]:=by
  grind [List.flatMap_eq_nil_iff]
 rw[E];exact λ n hn=>by cases hn
theorem Ya {cs:List D}{k:IntKind}{a:Int}{len size:Nat}{agg:Bool}:ab P (.sidx (.c (.agg cs)) (.c (.int k a)) len size agg) h KH=(0<len/\0<=a/\a<len/\vpart cs (a.toNat*size) size agg (KH · h)):=rfl
def dR:=And.intro @Ya<|And.intro @fB (And.intro @VA (And.intro @aaQ (And.intro @acB (And.intro @acA (And.intro @eD (And.intro @jC (And.intro @aaS (And.intro @Ag (And.intro @qV (And.intro @xy (And.intro @Zf (And.intro @RF (And.intro @acD (And.intro @aaR (And.intro @acC (And.intro @qo (And.intro @bw (And.intro @X3 (And.intro @BW (And.intro @qA (And.intro @nJ (And.intro @SR (And.intro @Yb (@Mz))))))))))))))))))))))))
def TA:=And.intro vR (And.intro gR dR)
end Go.Am
namespace Go.Am
open Go
variable [ck]
variable {P:Program}
theorem Po {c:Ctx}(hr:au c){M esz:Nat}{els els':List D}(hM:c.h M=.arr esz els) (hl:els'.length=els.length) (hc:∀e,e∈els'->e.cells.length=esz) (ho:pe els')
  (hv:∀i j d',aP els' i j=some d'->∃d,aP els i j=some d/\∀v,aA c d v->aA c d' v) :
  c.le ⟨c.ρ,c.X,ak c.h M (.arr esz els'),c.hp⟩/\au ⟨c.ρ,c.X,ak c.h M (.arr esz els'),c.hp⟩:=by
 have sub:∀k,(ak c.h M (.arr esz els') k).mine->(c.h k).mine:=by
  intro k hk;by_cases h:k=M
  ·subst h;rw[hM];trivial
  ·simpa[ak,h] using hk
 have hle:c.le ⟨c.ρ,c.X,ak c.h M (.arr esz els'),c.hp⟩:=by
  refine⟨Nat.le_refl _,rfl,λ _ _ _=>rfl,λ _ cur _ _ h=>⟨cur,h,rfl⟩,λ _ r h=>⟨r,h,rfl⟩,λ _ _=>rfl,λ k=>?_,λ k g hm hρ _=>⟨k,sub k hm,hρ⟩⟩;by_cases h:k=M
  ·subst h;simp only[af];rw[hM];exact .arrArr _ _ _ (Nat.le_of_eq hl.symm)
  grind [aa,Trans.refl]
 refine⟨hle,λ k=>?_,λ G E g W V O I=>hr.inj G E g (sub G W) (sub E V) O I,λ k g hm hρ=>hr.apart k g (sub k hm) hρ,hr.xlt,?_,hr.glob.mono hle,hr.lo⟩
 ·by_cases h:k=M
  ·subst h;simp only[af];have hs:=hr.slot k;rw[hM]at hs;obtain⟨h1,h2,h3,h4⟩:=hs;refine⟨h1,hc,ho,?_⟩;rcases h4 with⟨q,Z⟩|⟨g,cur,ty,U,T,S,Q⟩
   ·grind
   ·refine Or.inr ⟨g,cur,ty,U,T,by rw[hl];exact S,λ i j d' u=>?_⟩;obtain⟨d,hd,hrel⟩:=hv i j d' u;exact(hrel _ (Q i j d hd)).mono hle
  ·simp only[aa _ _ h];exact kr hle (hr.slot k) (λ _ _=>rfl) (λ _ _ _=>rfl)
 ·obtain⟨N,hN⟩:=hr.fin;refine⟨N+M+1,λ k hk=>?_⟩;grind [aa]
theorem Ny {h:Heap}{n m:Nat}(hne:m≠n):h.freeze n m=h m:=by
 unfold Heap.freeze;cases h n<;>simp only<;>try rfl
 exact aa _ _ hne
theorem cx {m:Nat}:∀(ns:List Nat){h:Heap},m∉ns->h.freezeAll ns m=h m
 | [],_,_=>rfl
 | n::r,h,hm=>by
  simp only[List.mem_cons,not_or]at hm;show(h.freeze n).freezeAll r m=h m
  rw[cx r hm.2,Ny hm.1]
theorem Nx {h:Heap}{m:Nat}(n:Nat):(h.freeze m n).row=(h n).row:=by
 unfold Heap.freeze;cases hm:h m<;>simp only<;>try rfl
 by_cases he:n=m
 ·subst he;rw[af,hm];rfl
 ·rw[aa _ _ he]
theorem pr:∀(ns:List Nat){h:Heap}(n:Nat),(h.freezeAll ns n).row=(h n).row
 | [],_,_=>rfl
 | m::r,h,n=>by
  show((h.freeze m).freezeAll r n).row=_
  rw[pr r,Nx]
theorem SW {h h':Heap}(hr:∀n,(h' n).row=(h n).row) (d:D):d.fzc h'=d.fzc h:=by
 cases d<;>simp[D.fzc,hr]
theorem OO {h h':Heap}(hr:∀n,(h' n).row=(h n).row) (d:D):d.fz h'=d.fz h:=by
 have e:D.fzc h'=D.fzc h:=funext (SW hr);cases d<;>simp only[D.fz,e]
theorem KM {h h':Heap}(hr:∀n,(h' n).row=(h n).row){d:D}(hd:pD h d):pD h' d:=by
 intro x hx;have:=hd x hx;cases x<;>simp only[rM,hr]at this ⊢;exact this
structure Deep (h:Heap) (M:Nat) (els:List D):Prop where
 out:M∉els.flatMap D.nm
 el:∀e∈els,e.cells=[e]/\pD h e/\(e.fz h).vone=true/\e.one=true
def SQ (h:Heap) (M:Nat) (els:List D):Heap:=ak (h.freezeAll (els.flatMap D.nm)) M (.arr 1 (els.map (D.fz h)))
theorem U0 {h:Heap}{M:Nat}{els:List D}:SQ h M els M=.arr 1 (els.map (D.fz h)):=af _ _ _
theorem wg {d:D}(h:d.vone=true):d.cells=[d]:=by cases d<;>first|rfl|cases h
theorem Qc {c:Ctx}(hr:au c){M:Nat}{els:List D}(hM:c.h M=.arr 1 els) (hd:Deep c.h M els) :
  c.le ⟨c.ρ,c.X,SQ c.h M els,c.hp⟩/\au ⟨c.ρ,c.X,SQ c.h M els,c.hp⟩:=by
 obtain⟨W,Q⟩:=dU hr (els.flatMap D.nm);have I:(c.h.freezeAll (els.flatMap D.nm)) M=.arr 1 els:=by rw[cx _ hd.out,hM]
 have key:=Po (c:=⟨c.ρ,c.X,c.h.freezeAll (els.flatMap D.nm),c.hp⟩) Q (els':=els.map (D.fz c.h)) I (by simp) (λ e he=>?_) (λ i j d h=>?_) (λ i j d' h=>?_)
 ·exact⟨W.trans key.1,key.2⟩
 ·simp only[List.mem_map]at he;obtain⟨x,hx,rfl⟩:=he;rw[wg (hd.el x hx).2.2.1];rfl
 ·simp only[aP,List.getElem?_map,Option.bind_eq_some_iff,Option.map_eq_some_iff]at h;obtain⟨e,⟨x,hx,rfl⟩,h2⟩:=h;have G:=(hd.el x (aK hx)).2.2.1;rw[wg G]at h2
  have:d=x.fz c.h:=by
   cases j with
   | zero=>simpa using h2.symm
   | succ j=>simp at h2
  subst this;exact D.cu G
 ·simp only[aP,List.getElem?_map,Option.bind_eq_some_iff,Option.map_eq_some_iff]at h;obtain⟨e,⟨x,hx,rfl⟩,h2⟩:=h;obtain⟨O,U,T,S⟩:=hd.el x (aK hx);rw[wg T]at h2
  have V:j=0/\d'=x.fz c.h:=by
   cases j with
   | zero=>exact⟨rfl,by simpa using h2.symm⟩
   | succ j=>simp at h2
  obtain⟨rfl,rfl⟩:=V;refine⟨x,by simp[aP,hx,O],λ v G=>?_⟩;have h1:aD x:=λ y hy=>by rw[O]at hy;simp at hy;subst hy;exact S
  have E:∀n,((c.h.freezeAll (els.flatMap D.nm)) n).row=(c.h n).row:=λ n=>pr _ n
  have:=(Ed (Ctx.le.refl _) Q G h1 (KM E U) (λ n esz es hn u=>?_)).1
  ·rw[OO E]at this;exact this
  ·rw[E n]at u;exact ft _ u (List.mem_flatMap.2 ⟨x,aK hx,hn⟩)
theorem PK {f:FuncId}{ds:List D}{K:D->Prop}(ha:ag P f ds bP (λ r h'=>∃M els,r=.ms M 0 els.length/\h' M=.arr 1 els/\Deep h' M els/\K (.sl (els.map (D.fz h'))))):aV P f ds K:=by
 intro c w vals S hp hr hs hrel;have kS:c.h=bP:=funext S;have:=ha c w vals kS hp hr hs hrel;refine this.mono ?_;rintro e w' ⟨v,r,ρ,h',rfl,h1,h2,h3,h4,M,els,rfl,hM,hd,hk⟩;obtain⟨U,T⟩:=Qc h2 hM hd;have O:(SQ h' M els) M=.arr 1 (els.map (D.fz h')):=U0;have u:((SQ h' M els) M).row=some (1,els.map (D.fz h')):=by rw[O];rfl
 obtain⟨Z,W⟩:=dU T [M]
 have e0:(D.ms M 0 els.length).fz (SQ h' M els)=.sl (els.map (D.fz h')):=by
  simp only[D.fz,D.fzc,u,List.drop_zero];rw[List.take_of_length_le (by simp)]
 have E:=(Ed Z W (h4.mono U) (λ y hy=>by simp[D.cells]at hy;subst hy;rfl) (λ y hy=>by
   simp only[D.cells,List.mem_singleton]at hy;subst hy;refine⟨1,_,u,by simp,λ x hx z E=>?_⟩;have G:x∈els.map (D.fz h'):=List.mem_of_mem_drop (List.mem_of_mem_take hx);simp only[List.mem_map]at G;obtain⟨a,ha,rfl⟩:=G;have Q:=(hd.el a ha).2.2.1
   rw[wg Q]at E;simp at E;subst E;exact Q) (λ n esz es hn I=>ft _ I (by simpa[D.nm,D.nR] using hn))).1
 rw[e0]at E
 have hown:∀g,¬(⟨ρ,c.X,(SQ h' M els).freezeAll [M],w'.heap⟩:Ctx).own g->¬(⟨c.ρ,c.X,c.h,w'.heap⟩:Ctx).own g:=by
  rintro g hn (V|⟨n,hm,_⟩)
  ·exact hn (Or.inl V)
  ·simp only[S n]at hm;cases hm
 refine⟨v,_,rfl,?_,h3,aA.E3 (c:=⟨ρ,c.X,(SQ h' M els).freezeAll [M],w'.heap⟩) (c':=⟨c.ρ,c.X,c.h,w'.heap⟩) rfl hown E rfl,rfl,hk⟩;refine⟨h1.size,rfl,h1.aS,h1.shape,h1.loop,λ _ _=>rfl,λ _=>Trans.refl _,λ n g hm hρ _=>⟨n,hm,hρ⟩⟩
end Go.Am
namespace Go.Am
open Go
section aS
variable {H:Type}{enc:TypeId×Value->H}{P:Program}{w w':World}{base:Nat}{spare:Nat->Bool}{held:Bool}
theorem qC {α β:Type}{f g:α->Option β}(hk:∀a b,f a=some b->g a=some b):∀{l:List α}{r:List β},l.mapM f=some r->l.mapM g=some r
 | [],r,h=>by simpa using h
 | a::l,r,h=>by
  simp only[List.mapM_cons,Option.bind_eq_bind,Option.bind_eq_some_iff,Option.pure_def,Option.some.injEq]at h ⊢;obtain⟨b,hb,r',u,rfl⟩:=h;exact⟨b,hk a b hb,r',qC hk u,rfl⟩
theorem S6 (hk:∀b,b<w.heap.size->w'.heap[b]?=w.heap[b]?){a:Addr}{v:Value}(h:w.cell? a=some v):w'.cell? a=some v:=by
 grind [World.cell?]
theorem Qt (hk:∀b,b<w.heap.size->w'.heap[b]?=w.heap[b]?){a:Addr}{n:Nat}{cs:List Value}(h:w.cells? base a n=some cs):w'.cells? base a n=some cs:=by
 grind [World.cells?,qC,S6]
theorem Sl (hk:∀b,b<w.heap.size->w'.heap[b]?=w.heap[b]?):∀(n:Nat) (t:TypeId) (cs:List Value) (x:DataW H×List MemPlace),DataW.trod enc P w base spare held n t cs=some x->DataW.trod enc P w' base spare held n t cs=some x:=by
 intro n
 induction n with
 | zero=>intro t cs x h;simp[DataW.trod]at h
 | succ n G =>
  intro t cs x h
  have el:∀(a:Addr) (k:Nat) (e:TypeId) y,(w.cells? base a k).bind (DataW.trod enc P w base spare held n e)=some y->(w'.cells? base a k).bind (DataW.trod enc P w' base spare held n e)=some y:=by
   grind [Option.bind_eq_some_iff,Qt]
  unfold DataW.trod at h ⊢;generalize P.underlying t=ut at h ⊢;split at h
  case h_6 e a =>
   grind [Option.map_eq_some_iff]
  case h_8 e a len cap =>
   simp only at h ⊢;split at h
   ·rename_i hc;rw[if_pos hc];rw[Option.bind_eq_some_iff]at h ⊢;grind [qC,Option.map_eq_some_iff]
   ·cases h
  case h_9 fs =>
   grind [Option.map_eq_some_iff,qC]
  case h_10 m e =>
   grind [Option.map_eq_some_iff,qC]
  case h_12 u v =>
   grind [Option.map_eq_some_iff]
  case h_14 k e b =>
   cases hb:w.heap[b]? with
   | none=>simp[hb]at h
   | some o =>
    have E:=(Array.getElem?_eq_some_iff.1 hb).1;rw[hk b E];rw[hb]at h ⊢;cases o<;>simp only at h ⊢<;>try (cases h;done)
    grind [Option.bind_eq_some_iff,qC,Option.map_eq_some_iff]
  all_goals grind
theorem EM (hk:∀b,b<w.heap.size->w'.heap[b]?=w.heap[b]?):∀{ts:List TypeId}{vs:List Value}{ds:List (DataW H)}{ps:List MemPlace},DataW.TrodAll enc P w base spare held ts vs ds ps->DataW.TrodAll enc P w' base spare held ts vs ds ps
 | [],[],[],_,h=>h
 | _::_,_::_,_::_,_,⟨p,q,⟨n,h1⟩,h2,e⟩=>⟨p,q,⟨n,Sl hk n _ _ _ h1⟩,EM hk h2,e⟩
end aS
end Go.Am
namespace Go.Am
open Go
variable [ck]
variable {H:Type}{enc:TypeId×Value->H}{P:Program}
def mkElem (P:Program) (e:TypeId) (cs:List D):D :=
 match P.underlying e with
 | some (.struct _)=>.agg cs
 | some (.array _ _)=>.agg cs
 | _=>cs.headD .undef
def HasTy (P:Program):Nat->TypeId->List D->Prop
 | 0,_,_=>False
 | n+1,t,ds=>match P.underlying t with
  | some .bool=>∃b,ds=[.bool b]
  | some (.int k)=>∃i,ds=[.int k i]/\(Lit.int k i).wf=true
  | some .string=>∃s:ByteArray,ds=[.str s]/\s.size<=maxLen
  | some (.slice e)=>∃xs:List (List D),ds=[.sl (xs.map (mkElem P e))]/\xs.length<=maxLen/\∀x∈xs,HasTy P n e x
  | some (.struct fs)=>ds.length=P.cellsOf t/\∀f∈fs.toList,HasTy P n f.type ((ds.drop f.offset).take (P.cellsOf f.type))
  | some (.array m e)=>ds.length=P.cellsOf t/\∀i,i<m->HasTy P n e ((ds.drop (i*P.cellsOf e)).take (P.cellsOf e))
  | _=>False
def contig (P:Program) (total:Nat):List (TypeId×Nat)->Nat->Bool
 | [],o=>o == total
 | f::r,o=>f.2 == o&&contig P total r (o+P.cellsOf f.1)
def plainT (P:Program):Nat->TypeId->Bool
 | 0,_=>false
 | n+1,t=>match P.underlying t with
  | some .bool=>P.cellsOf t == 1
  | some (.int _)=>P.cellsOf t == 1
  | some .string=>P.cellsOf t == 1
  | some (.slice e)=>P.cellsOf t == 1&&decide (0<P.cellsOf e)&&plainT P n e
  | some (.struct fs)=>fs.toList.all (λ f=>plainT P n f.type)&&contig P (P.cellsOf t) (fs.toList.map λ f=>(f.type,f.offset)) 0
  | some (.array m e)=>plainT P n e&&contig P (P.cellsOf t) ((List.range m).map λ i=>(e,i*P.cellsOf e)) 0
  | _=>false
theorem Qf {cs:List D}(h1:cs.length=1) (hv:∀(i:Nat) (x:D),cs[i]?=some x->x.vone=true):(cs.headD .undef).cells=cs:=by
 cases cs with
 | nil=>simp at h1
 | cons d r =>
  have:r=[]:=List.eq_nil_of_length_eq_zero (by simpa using h1);subst this;have:=hv 0 d rfl;cases d<;>simp_all [D.vone,D.cells]
theorem Nk {n:Nat}{e:TypeId}{cs:List D}(hp:plainT P n e=true) (hl:cs.length=P.cellsOf e) (hv:∀(i:Nat) (x:D),cs[i]?=some x->x.vone=true):(mkElem P e cs).cells=cs:=by
 unfold mkElem;split
 ·rfl
 ·rfl
 ·cases n with
  | zero=>simp[plainT]at hp
  | succ n =>
   grind [plainT,Qf]
theorem parts {c:Ctx}{m:Nat}{total:Nat}(cs:List Value) (hcs:cs.length=total):∀(l:List (TypeId×Nat)) (o:Nat),contig P total l o=true ->
  (∀f∈l,∃ds:List D,HasTy P m f.1 ds/\ds.length=P.cellsOf f.1/\∀(i:Nat) (d:D),ds[i]?=some d->d.vone=true/\aA c d (((cs.drop f.2).take (P.cellsOf f.1)).getD i Go.undef)) ->
  ∃ds:List D,ds.length=cs.length-o/\(∀f∈l,HasTy P m f.1 ((ds.drop (f.2-o)).take (P.cellsOf f.1))/\o<=f.2)/\∀(i:Nat) (d:D),ds[i]?=some d->d.vone=true/\aA c d (cs.getD (o+i) Go.undef)
 | [],o,hc,_=>by
  simp only[contig,beq_iff_eq]at hc;exact⟨[],by simp;omega,by simp,by simp⟩
 | f::r,o,hc,E=>by
  simp only[contig,Bool.and_eq_true,beq_iff_eq]at hc;obtain⟨G,u⟩:=hc;obtain⟨d1,Q,O,a3⟩:=E f (by simp);obtain⟨d2,b1,b2,b3⟩:=parts cs hcs r (o+P.cellsOf f.1) u (λ g hg=>E g (by simp[hg]))
  have hle:o+P.cellsOf f.1<=total:=by
   have:∀(l:List (TypeId×Nat)) (o:Nat),contig P total l o=true->o<=total:=by
    intro l
    induction l with
    | nil=>grind [contig]
    | cons g s I=>grind [contig]
   exact this _ _ u
  refine⟨d1++d2,by simp;omega,λ g hg=>?_,λ i d hd=>?_⟩
  ·grind [List.drop_append,List.drop_eq_nil_of_le,Nat.add_sub_cancel_left]
  grind
theorem TT {W:World}{sp:Nat->Bool}{c:Ctx}(hp:c.hp=W.heap) (hown:∀g,¬c.own g):∀(m:Nat) (t:TypeId),plainT P m t=true->∀(n:Nat) (cs:List Value) (x:DataW H×List MemPlace),DataW.trod enc P W 0 sp true n t cs=some x ->
  cs.length=P.cellsOf t/\∃ds:List D,HasTy P m t ds/\ds.length=cs.length/\∀(i:Nat) (d:D),ds[i]?=some d->d.vone=true/\aA c d (cs.getD i Go.undef):=by
 intro m
 induction m with
 | zero=>intro t h;simp[plainT]at h
 | succ m ih =>
  intro t u n cs x h;unfold plainT at u
  have one:∀(d:D) (v:Value),cs=[v]->d.vone=true->aA c d v->([d]:List D).length=cs.length/\∀(i:Nat) (d':D),[d][i]?=some d'->d'.vone=true/\aA c d' (cs.getD i Go.undef):=by
   rintro d v rfl h1 h2;refine⟨rfl,λ i d' hd=>?_⟩
   cases i with
   | zero=>simp at hd;subst hd;exact⟨h1,by simpa using h2⟩
   | succ i=>simp at hd
  split at u
  ·
   rename_i hu
   cases n with
   | zero=>simp[DataW.trod]at h
   | succ n =>
    unfold DataW.trod at h;rw[hu]at h;split at h<;>simp_all;rename_i b
    exact⟨[.bool b],by unfold HasTy;rw[hu];exact⟨b,rfl⟩,by simp,λ i d hd=>by
     cases i with
     | zero=>simp at hd;subst hd;exact⟨rfl,by simpa using aA.bool (c:=c) b⟩
     | succ i=>simp at hd⟩
  ·rename_i k hu
   cases n with
   | zero=>simp[DataW.trod]at h
   | succ n =>
    unfold DataW.trod at h;rw[hu]at h;split at h<;>simp_all;rename_i kq a6 i' hq;have c4:=h.1.1;subst c4
    exact⟨[.int a6 i'],by unfold HasTy;rw[hu];exact⟨i',rfl,h.1.2⟩,by simp,λ i d hd=>by
     cases i with
     | zero=>simp at hd;subst hd;exact⟨rfl,by simpa using aA.int (c:=c) a6 i'⟩
     | succ i=>simp at hd⟩
  ·rename_i hu
   cases n with
   | zero=>simp[DataW.trod]at h
   | succ n =>
    unfold DataW.trod at h;rw[hu]at h;split at h<;>simp_all;rename_i s
    exact⟨[.str s],by unfold HasTy;rw[hu];exact⟨s,rfl,h.1⟩,by simp,λ i d hd=>by
     cases i with
     | zero=>simp at hd;subst hd;exact⟨rfl,by simpa using aA.str (c:=c) s⟩
     | succ i=>simp at hd⟩
  ·
   rename_i e hu;simp only[Bool.and_eq_true,beq_iff_eq,decide_eq_true_eq]at u;obtain⟨⟨a8,a1⟩,U⟩:=u;rcases DataW.trod_slice hu h with⟨rfl,_⟩|⟨a,len,cap,elems,rest,n',rfl,rfl,_,hb,hl,hm,hlen,c7,_,_⟩
   ·refine⟨by rw[a8];rfl,[.sl []],?_,one (.sl []) _ rfl rfl (.yA none 0 (by simp[maxLen]))⟩;unfold HasTy;rw[hu];exact⟨[],rfl,by simp[maxLen],by simp⟩
   ·
    have each:∀i,i<len->∃(vs:List Value) (ds:List D),W.cells? 0 (a.add (i*P.cellsOf e)) (P.cellsOf e)=some vs/\HasTy P m e ds/\ds.length=P.cellsOf e/\vs.length=P.cellsOf e/\∀(j:Nat) (d:D),ds[j]?=some d->d.vone=true/\aA c d (vs.getD j Go.undef):=by
     intro i hi;have h1:=c7 i hi;have h2:elems[i]?=some (elems[i]'(by omega)):=by simp[show i<elems.length by omega]
     rw[h2,Option.bind_eq_some_iff]at h1;obtain⟨vs,h3,h4⟩:=h1;obtain⟨k1,ds,k2,k3,k4⟩:=ih e U n' vs _ h4;exact⟨vs,ds,h3,k2,k3.trans k1,k1,k4⟩
    let vf:Nat->List Value:=λ i=>if h:i<len then(each i h).choose else []
    let df:Nat->List D:=λ i=>if h:i<len then(each i h).choose_spec.choose else []
    have spec:∀i,i<len->W.cells? 0 (a.add (i*P.cellsOf e)) (P.cellsOf e)=some (vf i)/\HasTy P m e (df i)/\(df i).length=P.cellsOf e/\(vf i).length=P.cellsOf e/\∀(j:Nat) (d:D),(df i)[j]?=some d->d.vone=true/\aA c d ((vf i).getD j Go.undef):=by
     intro i hi;simp only[vf,df,dif_pos hi];exact(each i hi).choose_spec.choose_spec
    let xs:List (List D):=(List.range len).map df
    have I:xs.length=len:=by simp[xs]
    have c2:∀i,i<len->xs[i]?=some (df i):=by intro i hi;simp[xs,hi]
    have E:∀i,i<len->(mkElem P e (df i)).cells=df i:=λ i hi=>Nk U (spec i hi).2.2.1 (λ j x hx=>((spec i hi).2.2.2.2 j x hx).1)
    refine⟨by rw[a8];rfl,[.sl (xs.map (mkElem P e))],?_,?_⟩
    ·unfold HasTy;rw[hu];refine⟨xs,rfl,by rw[I];omega,λ x hx=>?_⟩;obtain⟨i,hi,rfl⟩:=List.mem_map.1 hx;exact(spec i (by simpa using hi)).2.1
    ·have V:len=(xs.map (mkElem P e)).length:=by simp[I]
     refine one _ _ rfl rfl ?_;by_cases h0:len=0
     ·subst h0;have:xs=[]:=List.eq_nil_of_length_eq_zero I;rw[this];exact .yA _ cap hm
     ·have hz:=(World.cells?_some (spec 0 (by omega)).1).2.2 0 (by omega)
      have Z:∃v,W.cell? a=some v:=by
       have e0:(a.add (0*P.cellsOf e)).add 0=a:=by simp[Addr.add]
       rw[e0]at hz;have:0<(vf 0).length:=by rw[(spec 0 (by omega)).2.2.2.1];exact a1
       exact⟨(vf 0)[0],by rw[hz];simp[this]⟩
      obtain⟨v0,O⟩:=Z
      have Q:a=⟨a.block,a.off,none⟩:=by
       unfold World.cell? at O;split at O
       ·split at O
        ·cases O
        ·rename_i hs;obtain⟨b,o,s⟩:=a
         cases s with
         | none=>rfl
         | some s=>simp at hs
       ·cases O
      have a5:∀i j d,aP (xs.map (mkElem P e)) i j=some d->i<len/\(df i)[j]?=some d:=by
       intro i j d hd;unfold aP at hd;rw[List.getElem?_map]at hd;by_cases hi:i<len
       ·rw[c2 i hi]at hd;simp only[Option.map_some,Option.bind_some]at hd;rw[E i hi]at hd;exact⟨hi,hd⟩
       ·have:xs[i]?=none:=List.getElem?_eq_none (by omega);rw[this]at hd;simp at hd
      have:=aA.sl (c:=c) (xs.map (mkElem P e)) a.block a.off cap (P.cellsOf e) (λ i j=>(vf i).getD j Go.undef) (by intro he;rw[he]at V;simp at V;omega) (by rw[<- V];exact hl) hm a1
       (λ x hx=>by
        obtain⟨y,hy,rfl⟩:=List.mem_map.1 hx;obtain⟨i,hi,rfl⟩:=List.mem_map.1 hy;rw[E i (by simpa using hi)]
        exact(spec i (by simpa using hi)).2.2.1)
       (λ i j d hd=>by
        obtain⟨hi,hj⟩:=a5 i j d hd
        exact((spec i hi).2.2.2.2 j d hj).1)
       (λ i j d hd=>by
        obtain⟨hi,hj⟩:=a5 i j d hd;have a2:=(aq.1 hj).1;rw[(spec i hi).2.2.1]at a2;have hz:=(World.cells?_some (spec i hi).1).2.2 j a2
        have e1:(a.add (i*P.cellsOf e)).add j=⟨a.block,a.off+(i*P.cellsOf e+j),none⟩:=by
         have c1:∀(b o x:Nat),((⟨b,o,none⟩:Addr).add x).add j=⟨b,o+(x+j),none⟩:=by
          intro b o x;rw[Addr.add_lit,Addr.add_lit,Nat.add_assoc]
         have:=c1 a.block a.off (i*P.cellsOf e);rw[<- Q]at this;exact this
        rw[e1,Al]at hz;rw[hp,hz];have c5:j<(vf i).length:=by rw[(spec i hi).2.2.2.1];exact a2
        simp[List.getD,c5])
       (hown _) (λ i j d hd=>by
        obtain⟨hi,hj⟩:=a5 i j d hd
        exact((spec i hi).2.2.2.2 j d hj).2)
      rw[<- V]at this;rw[Q];exact this
  ·
   rename_i fs hu;simp only[Bool.and_eq_true,List.all_eq_true]at u;obtain⟨c3,T⟩:=u;obtain⟨xs,n',rfl,_,G,I,hf⟩:=DataW.trod_struct hu h
   obtain⟨ds,q1,q2,q3⟩:=parts (c:=c) (m:=m) cs (by rw[G]) _ 0 T (λ f S=>by
    simp only[List.mem_map]at S;obtain⟨f',a7,rfl⟩:=S;obtain⟨i,hi⟩:=db a7;have h1:=hf i f' (by simpa using hi)
    have c6:i<xs.length:=by
     have:=(aq.1 hi).1;rw[I];simpa using this
    have h2:xs[i]?=some xs[i]:=by simp[c6]
    rw[h2]at h1;obtain⟨k1,ds,k2,k3,k4⟩:=ih f'.type (c3 f' a7) n' _ _ h1
    exact⟨ds,k2,k3.trans k1,k4⟩)
   refine⟨G,ds,?_,by simpa using q1,λ i d hd=>by simpa using q3 i d hd⟩;unfold HasTy;rw[hu];exact⟨by rw[q1,G];rfl,λ f hf=>by simpa using (q2 (f.type,f.offset) (List.mem_map.2 ⟨f,hf,rfl⟩)).1⟩
  ·
   rename_i k e hu;simp only[Bool.and_eq_true]at u;obtain⟨U,T⟩:=u;obtain⟨xs,n',rfl,_,G,I,hf⟩:=DataW.trod_array hu h
   obtain⟨ds,q1,q2,q3⟩:=parts (c:=c) (m:=m) cs (by rw[G]) _ 0 T (λ f S=>by
    simp only[List.mem_map,List.mem_range]at S;obtain⟨i,hi,rfl⟩:=S;have h1:=hf i hi;have h2:xs[i]?=some (xs[i]'(by omega)):=by simp[show i<xs.length by omega]
    rw[h2]at h1;obtain⟨k1,ds,k2,k3,k4⟩:=ih e U n' _ _ h1
    exact⟨ds,k2,k3.trans k1,k4⟩)
   refine⟨G,ds,?_,by simpa using q1,λ i d hd=>by simpa using q3 i d hd⟩;unfold HasTy;rw[hu];exact⟨by rw[q1,G];rfl,λ i hi=>by simpa using (q2 (e,i*P.cellsOf e) (List.mem_map.2 ⟨i,by simpa using hi,rfl⟩)).1⟩
  ·cases u
end Go.Am
namespace Go.Am
open Go
variable [ck]
variable {H:Type}{enc:TypeId×Value->H}{P:Program}
theorem aaj {W:World}{r:Reach}{b:Nat}{t:TypeId}{cs:Array Value}(h:Cell.okWide P W r b t (.agg cs)):False:=by
 unfold Cell.okWide at h
 split at h<;>first
  | (rename_i h2;cases h2;done)
  | (rename_i h2 _;cases h2;done)
  | skip
 unfold Cell.ok at h;grind
theorem YB {W:World}{sp:Nat->Bool}{c:Ctx}(hp:c.hp=W.heap) (hown:∀g,¬c.own g){m:Nat}{t:TypeId}(hpt:plainT P m t=true){base:Nat}{v:Value}{d:DataW H}{ps:List MemPlace}
  (hval:Value.okWide P W .any base t v) (hd:DataW.Trod enc P W 0 sp true t v d ps):∃ds:List D,HasTy P m t ds/\aA c (mkElem P t ds) v:=by
 obtain⟨n,hn⟩:=hd;obtain⟨hl,ds,h1,h2,h3⟩:=TT hp hown m t hpt n _ _ hn;refine⟨ds,h1,?_⟩
 have one:(∀cs,v≠.agg cs)->ds.length=1->aA c (ds.headD .undef) v:=by
  intro u E;have hc:v.cells = #[v]:=by cases v<;>first|rfl|exact absurd rfl (u _)
  obtain⟨x,hx⟩:∃x,ds[0]?=some x:=⟨ds[0]'(by omega),by grind⟩;have:=(h3 0 x hx).2;rw[hc]at this
  have e:ds.headD .undef=x:=by
   cases ds with
   | nil=>simp at hx
   | cons a r=>simpa using hx
  rw[e];simpa using this
 have agg:∀cs,v=.agg cs->aA c (.agg ds) v:=by
  rintro cs rfl;refine .agg ds cs (by grind [Value.cells]) (λ i x hx=>D.cu (h3 i x hx).1) (λ i x hx=>?_);have:=(h3 i x hx).2;rw[<- aO];exact this
 unfold Value.okWide at hval;unfold mkElem
 cases m with
 | zero=>simp[plainT]at hpt
 | succ m =>
  grind [plainT,aaj]
def Ly (P:Program) (m:Nat):List TypeId->List D->Prop
 | [],ds=>ds=[]
 | t::ts,ds=>∃cs r,ds=mkElem P t cs::r/\HasTy P m t cs/\Ly P m ts r
theorem Pp {W:World}{sp:Nat->Bool}{c:Ctx}(hp:c.hp=W.heap) (hown:∀g,¬c.own g){m base:Nat}:∀(ts:List TypeId) (vs:List Value) (ds:List (DataW H)) (ps:List MemPlace),ts.all (plainT P m)=true ->
  (∀(j:Nat) t v,ts[j]?=some t->vs[j]?=some v->Value.okWide P W .any base t v)->DataW.TrodAll enc P W 0 sp true ts vs ds ps->vs.length=ts.length/\ds.length=ts.length /\
   ∃xs:List D,Ly P m ts xs/\xs.length=ts.length/\∀(i:Nat) (x:D),xs[i]?=some x->aA c x (vs.getD i Go.undef)
 | [],vs,ds,ps,_,_,h=>by
  obtain⟨rfl,rfl,rfl⟩:=trodAll_nil' h;exact⟨rfl,rfl,[],rfl,rfl,by simp⟩
 | t::ts,vs,ds,ps,E,u,h=>by
  simp only[List.all_cons,Bool.and_eq_true]at E;obtain⟨v,G,d,I,p,q,rfl,rfl,rfl,h1,h2⟩:=ChangeShapes.trodAll_cons h;obtain⟨cs,T,Z⟩:=YB hp hown E.1 (u 0 t v rfl rfl) h1;obtain⟨l1,O,xs,S,Q,V⟩:=Pp hp hown ts G I q E.2 (λ j t v ht U=>u (j+1) t v (by simpa using ht) (by simpa using U)) h2;refine⟨by simp[l1],by simp[O],mkElem P t cs::xs,⟨cs,xs,rfl,T,S⟩,by simp[Q],λ i x hx=>?_⟩;grind
where
 trodAll_nil' {vs:List Value}{ds:List (DataW H)}{ps:List MemPlace}(h:DataW.TrodAll enc P W 0 sp true [] vs ds ps):vs=[]/\ds=[]/\ps=[]:=ChangeShapes.trodAll_nil h
theorem law_calls {f:FuncId}{fn:Func}{s:ChangeSpec}{m:Nat}{tb:TypeId}(hpl:fn.params.toList.all (plainT P m)=true) (hrt:fn.resultTypes = #[tb]) (htb:P.underlying tb=some .bool)
  (hvars:s.vars=[]) (hspec:∀ds:List (DataW H),ds.length=fn.params.size->s.fn H (ds++[])={ results:=[.lit (.bool true)],args:=ds })
  (hl:laidOutB P=true) (hm:mapsRowed P=true) (hfull:((List.range P.types.size).all λ t=>match P.underlying t with|some (.slice e)=>decide (0<P.cellsOf e)|_=>true)=true)
  (hin:∀t∈fn.params.toList,t<P.types.size)
  (hv:∀xs,Ly P m fn.params.toList xs->aV P f xs (· = .bool true))
  (W:World) (base:Nat) (args:Array Value) (ds gs:List (DataW H)) (before:List MemPlace)
  (hval:∀(j:Nat) t v,fn.params[j]?=some t->args[j]?=some v->Value.okWide P W .any base t v)
  (hW:DataW.Whole enc P fn.params.toList s.vars false W args.toList ds gs before)
  (htab:∀g vs,ck.tab g=some vs->g<W.heap.size/\∀(k:Nat) (v:Value),vs[k]?=some v->cellOf W.heap g k=some v) :
  Calls P f args W λ e W'=>∃v,e=.returned v/\s.post enc P fn false true false false W args v W':=by
 have G:=hW;obtain⟨p,q,S,Q,rfl,V,U⟩:=hW;rw[hvars]at Q;obtain⟨rfl,rfl⟩:=ChangeShapes.trodVars_none Q
 let c:Ctx:=⟨λ _=>none,⟨λ _=>False,0,[]⟩,bP,W.heap⟩
 have hown:∀g,¬c.own g:=by
  rintro g (h|⟨n,h,_⟩)
  ·exact h
  ·cases h
 have hr:au c:=⟨λ n=>trivial,λ n Z g h=>(by cases h),λ n g h=>(by cases h),λ g h=>h.elim,⟨0,λ n _=>rfl⟩,λ g vs hg=>⟨(htab g vs hg).2,hown g,(htab g vs hg).1⟩,Nat.zero_le _⟩;obtain⟨l1,T,xs,h1,h2,h3⟩:=Pp (c:=c) rfl hown fn.params.toList args.toList ds p hpl (λ j t v ht hv=>hval j t v (by simpa using ht) (by simpa using hv)) S;refine(hv xs h1 c W args (λ _=>rfl) rfl hr (by rw[h2, <- l1];simp) (λ i x hx=>by grind [aO])).mono ?_;rintro e W' ⟨v,r,rfl,hle,E,hrel,_,rfl⟩;have I:v=.bool true:=by cases hrel;rfl
 subst I;have hk:∀b,b<W.heap.size->W'.heap[b]?=W.heap[b]?:=λ b hb=>hle.aS b hb (λ n hn=>by cases hn)
 have O:ds.length=fn.params.size:=by rw[T];simp
 have u:=hspec ds O;refine⟨_,rfl,ds,[],p++[],[],p,[],G,?_,?_,?_,?_,λ h=>by cases h⟩
 ·rw[u,hrt];exact ChangeShapes.trodAll_mk1 (RowKit.shut_bool htb true)
 ·rw[u];refine EM hk ?_;exact DataW.TrodAll.respare (kids_rows hl hm) (slices_full_of P hfull) hin S (λ x hx=>by simpa using G.lt x (by simpa using hx))
 ·rw[hvars,u];rfl
 ·refine⟨E.os,E.output,λ i hi=>?_⟩;grind
end Go.Am
namespace Go.Am
open Go
theorem aax (a b:Nat) (ha:a<18446744073709551616) (hb:b<18446744073709551616):ibits .and .u64 (a:Int) (b:Int)=((a &&& b:Nat):Int):=by
 grind [IntKind.wrap,IntKind.signed,IntKind.bits,ibits]
theorem aau (a b:Nat) (hb:b<=64):Ky .u64 (a:Int) (b:Int)=((a / 2 ^ b:Nat):Int):=by
 grind [Ky,IntKind.bits]
theorem TE (n:Nat):IntKind.u64.wrap (n:Int)=((n % 18446744073709551616:Nat):Int):=by
 grind [IntKind.wrap,IntKind.signed,IntKind.bits]
variable {P:Program}{m:Nat}{t e:TypeId}{k:IntKind}{ds:List D}
theorem qD (h:P.underlying t=some (.int k)) (hd:HasTy P (m+1) t ds):∃i,ds=[.int k i]/\k.min<=i/\i<=k.max:=by
 grind [HasTy,Lit.wf]
theorem OM (h:P.underlying t=some (.slice e)) (hd:HasTy P (m+1) t ds):∃xs:List (List D),ds=[.sl (xs.map (mkElem P e))]/\xs.length<=maxLen/\∀x∈xs,HasTy P m e x:=by
 grind [HasTy]
def structL (P:Program) (t:TypeId):Option (List (TypeId×Nat)):=match P.underlying t with
 | some (.struct fs)=>some (fs.toList.map λ f=>(f.type,f.offset))
 | _=>none
theorem Fs {l:List (TypeId×Nat)}(h:structL P t=some l) (hd:HasTy P (m+1) t ds):ds.length=P.cellsOf t/\∀q∈l,HasTy P m q.1 ((ds.drop q.2).take (P.cellsOf q.1)):=by
 grind [HasTy,structL]
theorem H0 {n:Nat}(h:P.underlying t=some (.array n e)) (hd:HasTy P (m+1) t ds):ds.length=P.cellsOf t/\∀i,i<n->HasTy P m e ((ds.drop (i*P.cellsOf e)).take (P.cellsOf e)):=by
 grind [HasTy]
theorem Mt {l:List (TypeId×Nat)}(h:structL P t=some l) (cs:List D):mkElem P t cs=.agg cs:=by
 grind [structL,mkElem]
theorem UJ {n:Nat}(h:P.underlying t=some (.array n e)) (cs:List D):mkElem P t cs=.agg cs:=by unfold mkElem;rw[h]
theorem aan (h:P.underlying t=some (.int k)) (d:D):mkElem P t [d]=d:=by unfold mkElem;rw[h];rfl
theorem Qg (h:P.underlying t=some (.slice e)) (he:P.underlying e=some (.int k)) (hd:HasTy P (m+2) t ds):∃xs:List Int,ds=[.sl (xs.map (.int k))]/\xs.length<=maxLen/\∀x∈xs,k.min<=x/\x<=k.max:=by
 obtain⟨xs,h1,h2,h3⟩:=OM h hd
 have:∃ys:List Int,xs.map (mkElem P e)=ys.map (.int k)/\ys.length=xs.length/\∀x∈ys,k.min<=x/\x<=k.max:=by
  clear h1 h2
  induction xs with
  | nil=>exact⟨[],rfl,rfl,λ x hx=>by cases hx⟩
  | cons x r u =>
   obtain⟨ys,Q,I,O⟩:=u λ x hx=>h3 x (List.mem_cons_of_mem _ hx)
   obtain⟨i,hi,G,E⟩:=qD he (h3 x List.mem_cons_self);refine⟨i::ys,?_,by simp[I],λ y hy=>?_⟩
   ·grind [aan]
   grind
 grind
end Go.Am
namespace Go.Am
open Go
variable [ck]
variable {P:Program}
structure Sd (h:Heap) (M esz:Nat) (els:List D):Prop where
 out:M∉els.flatMap D.nm
 el:∀e∈els,aD e/\pD h e/\∀y,y∈(e.fz h).cells->y.vone=true
def iP (h:Heap) (M esz:Nat) (els:List D):Heap:=ak (h.freezeAll (els.flatMap D.nm)) M (.arr esz (els.map (D.fz h)))
theorem uV {h:Heap}{M esz:Nat}{els:List D}:iP h M esz els M=.arr esz (els.map (D.fz h)):=af _ _ _
theorem KB {h:Heap}{M esz k:Nat}{els:List D}(h1:k≠M) (h2:k∉els.flatMap D.nm):iP h M esz els k=h k:=by
 unfold iP;rw[aa _ _ h1,cx _ h2]
theorem Nw {h:Heap}{e:D}:(e.fz h).cells.length=e.cells.length:=by
 cases e with
 | ms n off len =>
  simp only[D.fz,D.fzc]
  cases hr:(h n).row with
  | none=>rfl
  | some p=>obtain⟨a,b⟩:=p;rfl
 | agg cs=>simp[D.fz,D.cells]
 | _=>rfl
theorem Ye {h:Heap}{e:D}{j:Nat}:(e.fz h).cells[j]?=(e.cells[j]?).map (D.fzc h):=by
 cases e with
 | agg cs=>simp[D.fz,D.cells]
 | ms n off len =>
  simp only[D.fz,D.cells,D.fzc]
  cases j with
  | zero =>
   cases hr:(h n).row with
   | none=>simp[D.fzc,hr]
   | some p=>obtain⟨a,b⟩:=p;simp[D.fzc,hr]
  | succ j =>
   cases hr:(h n).row with
   | none=>simp
   | some p=>obtain⟨a,b⟩:=p;simp
 | _=>cases j<;>simp[D.fz,D.fzc,D.cells]
theorem OJ {c:Ctx}(hr:au c){M esz:Nat}{els:List D}(hM:c.h M=.arr esz els) (hd:Sd c.h M esz els) :
  c.le ⟨c.ρ,c.X,iP c.h M esz els,c.hp⟩/\au ⟨c.ρ,c.X,iP c.h M esz els,c.hp⟩:=by
 obtain⟨g1,V⟩:=dU hr (els.flatMap D.nm);have U:(c.h.freezeAll (els.flatMap D.nm)) M=.arr esz els:=by rw[cx _ hd.out,hM]
 have hlen:∀e∈els,e.cells.length=esz:=by
  have:=hr.slot M;rw[hM]at this;exact this.2.1
 have key:=Po (c:=⟨c.ρ,c.X,c.h.freezeAll (els.flatMap D.nm),c.hp⟩) V (els':=els.map (D.fz c.h)) U (by simp) (λ e he=>?_) (λ i j d h=>?_) (λ i j d' h=>?_)
 ·exact⟨g1.trans key.1,key.2⟩
 ·simp only[List.mem_map]at he;obtain⟨x,hx,rfl⟩:=he;rw[Nw];exact hlen x hx
 ·simp only[aP,List.getElem?_map,Option.bind_eq_some_iff,Option.map_eq_some_iff]at h;obtain⟨e,⟨x,hx,rfl⟩,h2⟩:=h;exact D.cu ((hd.el x (aK hx)).2.2 d (aK h2))
 ·simp only[aP,List.getElem?_map,Option.bind_eq_some_iff,Option.map_eq_some_iff]at h;obtain⟨e,⟨x,hx,rfl⟩,h2⟩:=h;obtain⟨q1,Z,q3⟩:=hd.el x (aK hx);rw[Ye,Option.map_eq_some_iff]at h2;obtain⟨y,hy,rfl⟩:=h2;refine⟨y,by simp[aP,hx,hy],λ v hv=>?_⟩;have u:=aK hy;have O:∀n,((c.h.freezeAll (els.flatMap D.nm)) n).row=(c.h n).row:=λ n=>pr _ n
  have E:=q1 y u;have Q:y.cells=[y]:=by cases y<;>first|rfl|cases E
  have T:y.fz c.h=y.fzc c.h:=by cases y<;>first|rfl|cases E
  have S:y.nm=y.nR:=by cases y<;>first|rfl|cases E
  have:=(Ed (Ctx.le.refl _) V hv (λ z I=>by rw[Q]at I;simp at I;subst I;exact E) (KM O (λ z I=>by rw[Q]at I;simp at I;subst I;exact Z z u)) (λ n W es hn G=>?_)).1
  ·rw[OO O,T]at this;exact this
  ·rw[O n]at G;refine ft _ G (List.mem_flatMap.2 ⟨x,aK hx,?_⟩);rw[S]at hn
   cases x with
   | agg cs=>exact List.mem_flatMap.2 ⟨y,u,hn⟩
   | _=>simp only[D.cells,List.mem_singleton]at u;subst u;exact hn
inductive NT:Heap->Heap->Prop where
 | refl (h:Heap):NT h h
 | step {h h':Heap}{M esz:Nat}{els:List D}(hM:h M=.arr esz els) (hd:Sd h M esz els) (k:NT (iP h M esz els) h'):NT h h'
theorem My {h h':Heap}(k:NT h h'):∀{c:Ctx},c.h=h->au c->c.le ⟨c.ρ,c.X,h',c.hp⟩/\au ⟨c.ρ,c.X,h',c.hp⟩:=by
 induction k with
 | refl h=>intro c hc hr;subst hc;exact⟨Ctx.le.refl c,hr⟩
 | step hM hd _ u =>
  intro c hc hr;subst hc;obtain⟨O,I⟩:=OJ hr hM hd;obtain⟨G,E⟩:=u (c:=⟨c.ρ,c.X,_,c.hp⟩) rfl I;exact⟨O.trans G,E⟩
theorem MT {f:FuncId}{ds:List D}{h h':Heap}{K:HKq}(k:NT h h') (hc:ag P f ds h' K):ag P f ds h K:=by
 intro c w vals U hp hr hs hrel;obtain⟨E,V⟩:=My k U hr;refine(hc ⟨c.ρ,c.X,h',c.hp⟩ w vals rfl hp V hs (λ i d hi=>(hrel i d hi).mono E)).mono ?_;rintro e w' ⟨v,r,ρ,u,T,S,Q,O,I,G⟩;exact⟨v,r,ρ,u,T,E.trans S,Q,O,I,G⟩
theorem Mi {f:FuncId}{ds:List D}{K:D->Prop}(ha:ag P f ds bP (λ r h'=>∃h'',NT h' h''/\lD r/\yb h'' r/\(r.fzt h'').JR=true/\K (r.fzt h''))):aV P f ds K:=by
 intro c w vals E hp hr hs hrel;have kS:c.h=bP:=funext E;have:=ha c w vals kS hp hr hs hrel;refine this.mono ?_;rintro e w' ⟨v,r,ρ,h',rfl,h1,h2,h3,h4,h'',hi,V,U,G,T⟩;obtain⟨O,I⟩:=My hi (c:=⟨ρ,c.X,h',w'.heap⟩) rfl h2;obtain⟨Z,W⟩:=dU I r.nmt;have Q:=Rt Z W (h4.mono O) V U (λ n esz els hn u=>ft _ u hn)
 have hown:∀g,¬(⟨ρ,c.X,h''.freezeAll r.nmt,w'.heap⟩:Ctx).own g->¬(⟨c.ρ,c.X,c.h,w'.heap⟩:Ctx).own g:=by
  rintro g hn (S|⟨n,hm,_⟩)
  ·exact hn (Or.inl S)
  ·simp only[E n]at hm;cases hm
 refine⟨v,r.fzt h'',rfl,?_,h3,aA.E3 (c:=⟨ρ,c.X,h''.freezeAll r.nmt,w'.heap⟩) (c':=⟨c.ρ,c.X,c.h,w'.heap⟩) rfl hown Q G,G,T⟩;refine⟨h1.size,rfl,h1.aS,h1.shape,h1.loop,λ _ _=>rfl,λ _=>Trans.refl _,λ n g hm hρ _=>⟨n,hm,hρ⟩⟩
end Go.Am
namespace Go.Am
open Go
variable [ck]
variable {P:Program}
theorem NT.trans {a b c:Heap}(h:NT a b) (k:NT b c):NT a c:=by
 induction h with
 | refl _=>exact k
 | step hM hd _ u=>exact .step hM hd (u k)
structure ad7 (P:Program) (fs:FuncId->Option aJ) where
 a:∀f F,fs f=some F->∀ds K h,vcFn P F ds K h->ag P f ds h K
 spec:FuncId->Option (List D->Option D)
 sp:∀f s,spec f=some s->∀ds r,s ds=some r->aV P f ds (· = r)
end Go.Am
namespace Go.Am
open Go
variable [ck]
variable {P:Program}
inductive Wk:D->D->Prop where
 | refl (d:D):Wk d d
 | nil:Wk .nil (.sl [])
 | sl (xs ys:List D) (hl:xs.length=ys.length) (h:∀(i:Nat) (x y:D),xs[i]?=some x->ys[i]?=some y->Wk x y):Wk (.sl xs) (.sl ys)
 | agg (xs ys:List D) (hl:xs.length=ys.length) (h:∀(i:Nat) (x y:D),xs[i]?=some x->ys[i]?=some y->Wk x y):Wk (.agg xs) (.agg ys)
 | tup (xs ys:List D) (hl:xs.length=ys.length) (h:∀(i:Nat) (x y:D),xs[i]?=some x->ys[i]?=some y->Wk x y):Wk (.tup xs) (.tup ys)
theorem Wk.one {d d':D}(h:Wk d d'):d'.one=d.one:=by cases h<;>rfl
theorem Wk.vone {d d':D}(h:Wk d d'):d'.vone=d.vone:=by cases h<;>rfl
theorem Wk.abd {xs:List D}{y:D}(h:Wk (.agg xs) y):∃ys,y=.agg ys/\xs.length=ys.length/\∀(i:Nat) (x y:D),xs[i]?=some x->ys[i]?=some y->Wk x y:=by
 cases h with
 | refl=>exact⟨xs,rfl,rfl,λ i x y h1 h2=>by rw[h1]at h2;cases h2;exact .refl _⟩
 | agg _ ys hl h=>exact⟨ys,rfl,hl,h⟩
theorem Wk.cells {e e':D}(h:Wk e e'):e.cells.length=e'.cells.length:=by
 cases h with
 | agg xs ys hl h=>exact hl
 | _=>rfl
theorem Wk.isAgg {e e':D}(h:Wk e e'):e'.isAgg=e.isAgg:=by cases h<;>rfl
theorem Fx {e:D}(h:e.isAgg=false):e.cells=[e]:=by cases e<;>first|rfl|cases h
theorem sD {α:Type}{xs ys:List α}(hl:xs.length=ys.length){i:Nat}{y:α}(hy:ys[i]?=some y):∃x,xs[i]?=some x:=by
 have:=(aq.1 hy).1;exact⟨xs[i]'(by omega),aG (by omega)⟩
theorem PI {c:Ctx}{d d':D}(h:Wk d d'):∀v,aA c d v->aA c d' v:=by
 induction h with
 | refl d=>exact λ v G=>G
 | nil=>intro v G;cases G;exact .yA none 0 (by simp[maxLen])
 | agg xs ys hl h S =>
  intro v G
  cases G with
  | agg _ vs hsz hone hrel =>
   refine .agg ys vs (by omega) (λ i d hd=>?_) (λ i d hd=>?_)
   ·obtain⟨x,hx⟩:=sD hl hd;rw[(h i x d hx hd).one];exact hone i x hx
   ·obtain⟨x,hx⟩:=sD hl hd;exact S i x d hx hd _ (hrel i x hx)
 | tup xs ys hl h S =>
  intro v G
  cases G with
  | tup _ vs hsz hrel =>
   refine .tup ys vs (by omega) (λ i d hd=>?_);obtain⟨x,hx⟩:=sD hl hd;exact S i x d hx hd _ (hrel i x hx)
 | sl xs ys hl h S =>
  intro v G
  cases G with
  | yA p cap hm =>
   have:ys=[]:=List.length_eq_zero_iff.1 hl.symm;subst this;exact .yA p cap hm
  | sl _ b o cap esz f hne hc hm he hlen hone hcell hown hrel =>
   have key:∀i j d',aP ys i j=some d'->∃d,aP xs i j=some d/\d'.vone=true/\aA c d' (f i j):=by
    intro i j d' E;simp only[aP,Option.bind_eq_some_iff]at E;obtain⟨y,hy,I⟩:=E;obtain⟨x,hx⟩:=sD hl hy;have hw:=h i x y hx hy;by_cases ha:x.isAgg=true
    ·cases x with
     | agg cs =>
      obtain⟨a2,rfl,W,V⟩:=hw.abd;simp only[D.cells]at I;obtain⟨a,Q⟩:=sD W I;have u:∀k z,cs[k]?=some z->aP xs i k=some z:=λ k z T=>by simp[aP,hx,D.cells,T]
      have hr:aA c (.agg cs) (.agg ((List.range cs.length).map (f i)).toArray):=by
       refine .agg _ _ (by simp) (λ k z T=>D.cu (hone i k z (u k z T))) (λ k z T=>?_);have hk:=(aq.1 T).1;have:((List.range cs.length).map (f i)).toArray.getD k Go.undef=f i k:=by simp[Array.getD,hk]
       rw[this];exact hrel i k z (u k z T)
      have U:=S i _ _ hx hy _ hr;refine⟨a,u j a Q,?_,?_⟩
      ·rw[(V j a d' Q I).vone];exact hone i j a (u j a Q)
      ·cases U with
       | agg _ _ _ _ O =>
        have hk:=(aq.1 I).1;have:=O j d' I;have e:((List.range cs.length).map (f i)).toArray.getD j Go.undef=f i j:=by simp[Array.getD,show j<cs.length by omega]
        rw[e]at this;exact this
     | _=>cases ha
    ·have ha:x.isAgg=false:=by simpa using ha
     have a1:=Fx ha;have Z:=Fx (hw.isAgg.trans ha);rw[Z]at I
     cases j with
     | succ j=>simp at I
     | zero =>
      simp at I;subst I;have u:aP xs i 0=some x:=by simp[aP,hx,a1]
      exact⟨x,u,by rw[hw.vone];exact hone i 0 x u,S i x y hx hy _ (hrel i 0 x u)⟩
   rw[hl];refine .sl ys b o cap esz f (λ e=>hne (by subst e;exact List.length_eq_zero_iff.1 hl)) (by omega) hm he (λ y hy=>?_) (λ i j d' E=>(key i j d' E).choose_spec.2.1) (λ i j d' E=>?_) hown (λ i j d' E=>(key i j d' E).choose_spec.2.2)
   ·obtain⟨i,hi⟩:=db hy;obtain⟨x,hx⟩:=sD hl hi;rw[<- (h i x y hx hi).cells];exact hlen x (aK hx)
   ·obtain⟨d,hd,-⟩:=key i j d' E;exact hcell i j d hd
theorem aV.wk {f:FuncId}{ds:List D}{K K':D->Prop}(hc:aV P f ds K) (hk:∀r,K r->∃r',Wk r r'/\r'.JR=true/\K' r'):aV P f ds K':=by
 intro c w vals S hp hr hs Q;refine(hc c w vals S hp hr hs Q).mono ?_;rintro e w' ⟨v,r,O,I,G,E,T,u⟩;obtain⟨r',h1,h2,h3⟩:=hk r u;exact⟨v,r',O,I,G,PI h1 v E,h2,h3⟩
inductive Sb:List D->List D->Prop where
 | nil:Sb [] []
 | cons {x y:D}{xs ys:List D}(h:Wk x y) (k:Sb xs ys):Sb (x::xs) (y::ys)
theorem Sb.get {xs ys:List D}(h:Sb xs ys):xs.length=ys.length/\∀(i:Nat) (x y:D),xs[i]?=some x->ys[i]?=some y->Wk x y:=by
 induction h with
 | nil=>exact⟨rfl,λ i x y h=>by simp at h⟩
 | cons h k u =>
  refine⟨by simp[u.1],λ i x y h1 h2=>?_⟩
  cases i with
  | zero=>simp at h1 h2;subst h1 h2;exact h
  | succ i=>exact u.2 i x y (by simpa using h1) (by simpa using h2)
theorem aV.arg {f:FuncId}{ds ds':List D}{K:D->Prop}(hw:Sb ds ds') (hc:aV P f ds' K):aV P f ds K:=by
 intro c w vals E hp hr hs u;obtain⟨hl,hw⟩:=hw.get;refine hc c w vals E hp hr (by omega) λ i d hd=>?_
 obtain⟨x,hx⟩:=sD hl hd;exact PI (hw i x d hx hd) _ (u i x hx)
theorem ag.arg {f:FuncId}{ds ds':List D}{h:Heap}{K:HKq}(hw:Sb ds ds') (hc:ag P f ds' h K):ag P f ds h K:=by
 intro c w vals E hp hr hs u;obtain⟨hl,hw⟩:=hw.get;refine hc c w vals E hp hr (by omega) λ i d hd=>?_
 obtain⟨x,hx⟩:=sD hl hd;exact PI (hw i x d hx hd) _ (u i x hx)
theorem Wk.abc {xs ys:List D}(h:Sb xs ys):Wk (.agg xs) (.agg ys):=.agg _ _ h.get.1 h.get.2
theorem Sb.rfl:∀{xs:List D},Sb xs xs
 | []=>.nil
 | x::r=>.cons (.refl x) Sb.rfl
end Go.Am
namespace Go.Am
open Go
variable [ck]
structure fQ where
 kind:Int
 n:Int
 v:Int
deriving DecidableEq,Inhabited
structure aW where
 op:Int
 sub:Int
 n:Int
 d:fQ
 a:fQ
 b:fQ
 c:fQ
deriving DecidableEq,Inhabited
structure Term where
 kind:Int
 sub:Int
 d:fQ
 a:fQ
 b:fQ
 to0:Int
 to1:Int
deriving DecidableEq,Inhabited
structure Block where
 i:List aW
 t:Term
deriving DecidableEq,Inhabited
structure fv where
 name:ByteArray
 space:Int
 type:Int
 len:Int
structure Loop where
 head:Int
 tT:Int
 bound:Int
deriving DecidableEq,Inhabited
structure Code where
 group:Int
 sub:Int
 regs:Int
 slots:Int
 params:Int
 arrays:List fv
 loops:List Loop
 b:List Block
def aF:fQ:=⟨0,0,0⟩
def mH:Term:=⟨0,0,aF,aF,aF,0,0⟩
def kG (n:Int):fQ:=⟨2,n,0⟩
def Const (v:Int):fQ:=⟨1,0,v⟩
def fQ.cs (o:fQ):List D:=[.int .i64 o.kind,.int .i64 o.n,.int .i32 o.v]
def fQ.e (o:fQ):D:=.agg o.cs
def aW.cs (x:aW):List D :=
  [.int .i64 x.op,.int .i64 x.sub,.int .i64 x.n,.int .i64 x.d.kind,.int .i64 x.d.n,.int .i32 x.d.v,.int .i64 x.a.kind,.int .i64 x.a.n,.int .i32 x.a.v,
   .int .i64 x.b.kind,.int .i64 x.b.n,.int .i32 x.b.v,.int .i64 x.c.kind,.int .i64 x.c.n,.int .i32 x.c.v]
def aW.e (x:aW):D:=.agg x.cs
def Term.cs (t:Term):List D :=
  [.int .i64 t.kind,.int .i64 t.sub,.int .i64 t.d.kind,.int .i64 t.d.n,.int .i32 t.d.v,.int .i64 t.a.kind,.int .i64 t.a.n,.int .i32 t.a.v,
   .int .i64 t.b.kind,.int .i64 t.b.n,.int .i32 t.b.v,.int .i64 t.to0,.int .i64 t.to1]
def Term.e (t:Term):D:=.agg t.cs
def Block.e (x:Block):D:=.agg (.sl (x.i.map aW.e)::x.t.cs)
def fv.e (x:fv):D:=.agg [.str x.name,.int .i64 x.space,.int .i64 x.type,.int .i64 x.len]
def Loop.e (x:Loop):D:=.agg [.int .i64 x.head,.int .i64 x.tT,.int .i64 x.bound]
def Code.e (c:Code):D :=
 .agg [.int .i64 c.group,.int .i64 c.sub,.int .i64 c.regs,.int .i64 c.slots,.int .i64 c.params,.sl (c.arrays.map fv.e),.sl (c.loops.map Loop.e),.sl (c.b.map Block.e)]
def words (l:List Int):D:=.sl (l.map (.int .i32))
structure xt (d:D):Prop where
 vd:d.vd=true
 one:aD d
theorem xt.pair {d:D}(h:xt d):d.vd=true/\aD d:=⟨h.vd,h.one⟩
theorem bh {k:IntKind}{n:Int}:xt (.int k n):=⟨rfl,by simp⟩
theorem aaN {xs:List D}:xt (.sl xs):=⟨rfl,by simp⟩
theorem cF {cs:List D}(h:∀x∈cs,x.vone=true):xt (.agg cs):=⟨by simpa[D.vd] using h,λ x hx=>D.cu (h x hx)⟩
theorem fQ.bR (o:fQ):xt o.e:=cF (by simp[fQ.cs])
theorem aW.bR (o:aW):xt o.e:=cF (by simp[aW.cs])
theorem Term.bR (o:Term):xt o.e:=cF (by simp[Term.cs])
theorem Block.bR (o:Block):xt o.e:=cF (by simp[Term.cs])
theorem fv.bR (o:fv):xt o.e:=cF (by simp)
theorem Loop.bR (o:Loop):xt o.e:=cF (by simp)
theorem Code.bR (o:Code):xt o.e:=cF (by simp)
def Tw:List D->Prop
 | []=>True
 | d::r=>xt d/\Tw r
theorem Tw.all:∀{ds:List D},Tw ds->∀d∈ds,d.vd=true/\aD d
 | [],_,d,h=>by cases h
 | x::r,hd,d,h=>by
  rcases List.mem_cons.1 h with rfl|h
  ·exact hd.1.pair
  ·exact Tw.all hd.2 d h
theorem gN {P:Program}{f:FuncId}{ds:List D}{h:Heap}{KH:HKq}{r:D}(hv:aV P f ds (· = r)) (hds:Tw ds) (hk:KH r h):ag P f ds h KH:=bk hv hds.all (by rintro _ rfl;exact hk)
theorem M6 {P:Program}{f:FuncId}{as:List Arg}{h:Heap}{K:D->Prop}{r:D}(hv:aV P f (as.map (·.get [])) (· = r)) (hds:Tw (as.map (·.get []))) (hk:K r):an P (.call f as) h K:=ud hv hds.all hk
theorem JQ {d:D}{h:Heap}{K:D->Prop}(hd:xt d) (hk:K d):yn K d h:=so hd.pair hk
end Go.Am
namespace Go.Am
open Go
variable [ck]
variable {P:Program}{KH:HKq}{K:D->Prop}{h:Heap}
theorem gtt {A:(HKq)->Prop}:vguard (.bool true) true A h KH=A KH:=by rw[nQ];simp
theorem gff {A:(HKq)->Prop}:vguard (.bool false) false A h KH=A KH:=by rw[nQ];simp
theorem gtf {A:(HKq)->Prop}:vguard (.bool true) false A h KH=KH gU h:=by rw[nQ];simp
theorem gft {A:(HKq)->Prop}:vguard (.bool false) true A h KH=KH gU h:=by rw[nQ];simp
theorem aaH {A:(D->Prop)->Prop}:aj (.bool true) true A K=A K:=by rw[zx];simp
theorem adH {A:(D->Prop)->Prop}:aj (.bool false) false A K=A K:=by rw[zx];simp
theorem adG {A:(D->Prop)->Prop}:aj (.bool true) false A K=K gU:=by rw[zx];simp
theorem aaI {A:(D->Prop)->Prop}:aj (.bool false) true A K=K gU:=by rw[zx];simp
theorem zN {x y:D}:ab P (.pick (.c (.bool true)) (.c x) (.c y)) h KH=KH x h:=rfl
theorem C2 {x y:D}:ab P (.pick (.c (.bool false)) (.c x) (.c y)) h KH=KH y h:=rfl
theorem XF {KK:D->Prop}:vun .not (.bool true) KK=KK (.bool false):=rfl
theorem aai {KK:D->Prop}:vun .not (.bool false) KK=KK (.bool true):=rfl
theorem kn {n o:Nat}{d:D}(a:h n=.box d):ab P (.fadd (.c (.ptr n 0 0)) o) h KH=KH (.ptr n 0 o) h:=by
 rw[wU,a];simp
theorem et {n o:Nat}{d:D}(a:h n=.box d):an P (.fadd (.c (.ptr n 0 0)) o) h K=K (.ptr n 0 o):=by
 rw[bw,a];simp
theorem cT {n j s:Nat}{cs:List D}{d:D}(a:h n=.box (.agg cs)) (hj:cs[j]?=some d):ab P (.ld (.c (.ptr n 0 j)) s false) h KH=KH d h:=by
 rw[kT,a];simp[bg,hj]
theorem aX {n j s:Nat}{cs:List D}{d:D}(a:h n=.box (.agg cs)) (hj:cs[j]?=some d):an P (.ld (.c (.ptr n 0 j)) s false) h K=K d:=by
 rw[fB,cT a hj]
theorem eR {n:Nat}{cs:List D}(a:h n=.box (.agg cs)):ab P (.ld (.c (.ptr n 0 0)) cs.length true) h KH=KH (.agg cs) h:=by
 rw[kT,a];simp[iJ]
theorem SJ {n j s:Nat}{cs:List D}(a:h n=.box (.agg cs)) (hj:j+s<=cs.length):ab P (.ld (.c (.ptr n 0 j)) s true) h KH=KH (.agg ((cs.drop j).take s)) h:=by
 rw[kT,a];simp[iJ,hj]
theorem YS {n:Nat}{x y z p q r:D}(a:h n=.box (.agg [x,y,z])) (h1:p.one=true) (h2:q.one=true) (h3:r.one=true) :
  ab P (.st (.c (.ptr n 0 0)) (.c (.agg [p,q,r])) 3) h KH=KH .undef (ak h n (.box (.agg [p,q,r]))):=by
 rw[fG,a];apply propext;constructor
 ·exact λ u=>by simpa using u.2.2
 ·intro hk;refine⟨rfl,λ w hw=>?_,rfl,by simp,by simpa using hk⟩;simp at hw;grind
theorem adk {n:Nat}{x y z:D}{k1 k2 k3:IntKind}{p q r:Int}(a:h n=.box (.agg [x,y,z])) :
  ab P (.st (.c (.ptr n 0 0)) (.c (.agg [.int k1 p,.int k2 q,.int k3 r])) 3) h KH=KH .undef (ak h n (.box (.agg [.int k1 p,.int k2 q,.int k3 r]))):=YS a rfl rfl rfl
theorem acL {x y:D}{p q:Int}:ab P (.bld [x,y] [(0,1,(.c (.int .i64 p))),(1,1,(.c (.int .i64 q)))]) h KH=KH (.agg [.int .i64 p,.int .i64 q]) h:=by
 rw[Ab];simp[mR,fillD]
theorem acK {x y z:D}{p q:Int}:ab P (.bld [x,y,z] [(0,1,(.c (.int .i64 p))),(1,1,(.c (.int .i64 q)))]) h KH=KH (.agg [.int .i64 p,.int .i64 q,z]) h:=by
 rw[Ab];simp[mR,fillD]
theorem adP {x y z:D}{p q r:Int}:ab P (.bld [x,y,z] [(0,1,(.c (.int .i64 p))),(1,1,(.c (.int .i64 q))),(2,1,(.c (.int .i64 r)))]) h KH=KH (.agg [.int .i64 p,.int .i64 q,.int .i64 r]) h:=by
 rw[Ab];simp[mR,fillD]
theorem aa3 {z:List D}:ab P (.bld z []) h KH=KH (.agg z) h:=by
 rw[Ab];simp[mR,fillD]
theorem Vr {x:D}{r:List D}:ab P (.ext (.c (.tup (x::r))) 0) h KH=KH x h:=rfl
theorem Vp {x y:D}{r:List D}:ab P (.ext (.c (.tup (x::y::r))) 1) h KH=KH y h:=rfl
theorem adJ {x y z:D}{r:List D}:ab P (.ext (.c (.tup (x::y::z::r))) 2) h KH=KH z h:=rfl
theorem Vw {x:D}{r:List D}:an P (.ext (.c (.tup (x::r))) 0) h K=K x:=rfl
theorem Vv {x y:D}{r:List D}:an P (.ext (.c (.tup (x::y::r))) 1) h K=K y:=rfl
theorem EJ {ds:List D}{h:Heap}{K:D->Prop}(hd:∀d∈ds,d.vd=true/\aD d) (hk:K (.tup ds)):yn K (.tup ds) h:=by
 have one:∀d∈ds,d.fz h=d/\pD h d:=by
  grind [zt]
 have e:(D.tup ds).fzt h=.tup ds:=by
  simp only[D.fzt];rw[List.map_congr_left (λ d u=>(one d u).1)];simp
 refine⟨λ d u=>(hd d u).2,λ d u=>(one d u).2,?_,by rw[e];exact hk⟩;grind [D.JR]
section
variable {k:IntKind}{a b:Int}
theorem leT (h0:a<=b):vbin .leq (.int k a) (.int k b) K=K (.bool true):=by rw[Oe];simp[h0]
theorem leF (h0:b<a):vbin .leq (.int k a) (.int k b) K=K (.bool false):=by grind [Oe]
theorem DY (h0:a<b):vbin .lss (.int k a) (.int k b) K=K (.bool true):=by rw[fK];simp[h0]
theorem HZ (h0:b<=a):vbin .lss (.int k a) (.int k b) K=K (.bool false):=by grind [fK]
theorem gtT (h0:b<a):vbin .gtr (.int k a) (.int k b) K=K (.bool true):=by rw[zy];simp[h0]
theorem gtF (h0:a<=b):vbin .gtr (.int k a) (.int k b) K=K (.bool false):=by grind [zy]
theorem geT (h0:b<=a):vbin .geq (.int k a) (.int k b) K=K (.bool true):=by rw[EL];simp[h0]
theorem geF (h0:a<b):vbin .geq (.int k a) (.int k b) K=K (.bool false):=by grind [EL]
theorem eqT (h0:a=b):vbin .eql (.int k a) (.int k b) K=K (.bool true):=by rw[bZ];simp[h0]
theorem eqF (h0:a≠b):vbin .eql (.int k a) (.int k b) K=K (.bool false):=by rw[bZ];simp[h0]
theorem neT (h0:a≠b):vbin .neq (.int k a) (.int k b) K=K (.bool true):=by rw[mA];simp[h0]
theorem neF (h0:a=b):vbin .neq (.int k a) (.int k b) K=K (.bool false):=by rw[mA];simp[h0]
theorem acO (h1 : -9223372036854775808<=a+b) (h2:a+b<=9223372036854775807):vbin .add (.int .i64 a) (.int .i64 b) K=K (.int .i64 (a+b)):=by rw[ca,wrap64 h1 h2]
theorem adg (h1 : -9223372036854775808<=a-b) (h2:a-b<=9223372036854775807):vbin .sub (.int .i64 a) (.int .i64 b) K=K (.int .i64 (a-b)):=by rw[mz,wrap64 h1 h2]
theorem adw (h1 : -9223372036854775808<=a*b) (h2:a*b<=9223372036854775807):vbin .mul (.int .i64 a) (.int .i64 b) K=K (.int .i64 (a*b)):=by rw[CY,wrap64 h1 h2]
theorem adp (h1:b≠0):vbin .rem (.int k a) (.int k b) K=K (.int k (a.tmod b)):=by rw[cy];simp[h1]
theorem adv (h1 : -9223372036854775808<=0-a) (h2:0-a<=9223372036854775807):vun .neg (.int .i64 a) K=K (.int .i64 (0-a)):=by rw[TO,wrap64 h1 h2]
end
def gS:=And.intro @gtt<|And.intro @gff<|And.intro @gtf<|And.intro @gft<|And.intro @JW<|And.intro @aaH<|And.intro @adH<|And.intro @adG<|And.intro @aaI<|And.intro @BO<|And.intro @zN<|And.intro @C2<|And.intro @XF<|And.intro @aai<|And.intro @ai<|And.intro @ah<|And.intro @Vr<|And.intro @Vp<|And.intro @adJ<|And.intro @acL<|And.intro @adP<|And.intro @acK<|And.intro @aa3<|And.intro @Vw @Vv
def cS:=And.intro @leT<|And.intro @leF<|And.intro @DY<|And.intro @HZ<|And.intro @gtT<|And.intro @gtF<|And.intro @geT<|And.intro @geF<|And.intro @eqT<|And.intro @eqF<|And.intro @neT<|And.intro @neF<|And.intro @acO<|And.intro @adg<|And.intro @adw<|And.intro @adp @adv
end Go.Am
namespace Go.Am
open Go
variable [ck]
variable {P:Program}{KH:HKq}{K:D->Prop}{h:Heap}{L:LSq}
structure Vs (h:Heap) (L:LSq):Prop where
 get:∀(i n:Nat) (s:Slot),L[i]?=some (n,s)->h n=s
 ne:∀(i j n m:Nat) (s s':Slot),L[i]?=some (n,s)->L[j]?=some (m,s')->i≠j->n≠m
 lv:∀(i n:Nat) (s:Slot),L[i]?=some (n,s)->s≠.free
theorem Vs.nil:Vs h []:=⟨λ i n s h=>by simp at h,λ i j n m s s' h=>by simp at h,λ i n s h=>by simp at h⟩
theorem Vs.push (V:Vs h L){n:Nat}(hn:h n=.free){s:Slot}(hs:s≠.free):Vs (ak h n s) ((n,s)::L):=by
 have old:∀(i m:Nat) (t:Slot),L[i]?=some (m,t)->m≠n:=by
  rintro i m t hi rfl;exact V.lv i m t hi ((V.get i m t hi).symm.trans hn)
 refine⟨λ i m t hi=>?_,λ i j m G t E hi u I=>?_,λ i m t hi=>?_⟩
 ·cases i with
  | zero=>grind [af]
  | succ i=>simp at hi;rw[aa _ _ (old i m t hi)];exact V.get i m t hi
 ·cases i with
  | zero =>
   grind
  | succ i =>
   cases j with
   | zero=>grind
   | succ j=>simp at hi u;exact V.ne i j m G t E hi u (by omega)
 ·cases i with
  | zero=>grind
  | succ i=>simp at hi;exact V.lv i m t hi
theorem Vs.aM (V:Vs h L) (i:Nat){n:Nat}{s:Slot}(hi:L[i]?=some (n,s)){s':Slot}(hs:s'≠.free):Vs (ak h n s') (L.set i (n,s')):=by
 have Q:=(aq.1 hi).1
 have key:∀(j m:Nat) (t:Slot),(L.set i (n,s'))[j]?=some (m,t)->(j=i/\m=n/\t=s')\/(j≠i/\L[j]?=some (m,t)):=by
  grind
 refine⟨λ j m t E=>?_,λ j k m G t I E hk u=>?_,λ j m t E=>?_⟩
 ·rcases key j m t E with⟨-,rfl,rfl⟩|⟨h1,h2⟩
  ·exact af _ _ _
  ·rw[aa _ _ (V.ne j i m n t s h2 hi h1)];exact V.get j m t h2
 ·rcases key j m t E with⟨rfl,rfl,rfl⟩|⟨h1,h2⟩<;>rcases key k G I hk with⟨rfl,rfl,rfl⟩|⟨S,O⟩
  ·exact absurd rfl u
  ·exact(V.ne k j G m I s O hi S).symm
  ·exact V.ne j k m G t s h2 hi h1
  ·exact V.ne j k m G t I h2 O u
 ·rcases key j m t E with⟨-,-,rfl⟩|⟨-,h2⟩
  ·exact hs
  ·exact V.lv j m t h2
theorem Vs.aS (V:Vs h L){h':Heap}(hk:∀k,h k≠.free->h' k=h k):Vs h' L :=
 ⟨λ i n s hi=>by have:=V.get i n s hi;rw[hk n (by rw[this];exact V.lv i n s hi)];exact this,V.ne,V.lv⟩
theorem Vs.Rq (V:Vs h L){h':Heap}(hk:∀(k:Nat) (s:Slot),(∃i:Nat,L[i]?=some (k,s))->h' k=h k):Vs h' L :=
 ⟨λ i n s hi=>by rw[hk n s ⟨i,hi⟩];exact V.get i n s hi,V.ne,V.lv⟩
theorem Vs.pop {x:Nat×Slot}(V:Vs h (x::L)):Vs h L :=
 ⟨λ i n s hi=>V.get (i+1) n s (by simpa using hi),λ i j n m s s' hi u E=>V.ne (i+1) (j+1) n m s s' (by simpa using hi) (by simpa using u) (by omega),λ i n s hi=>V.lv (i+1) n s (by simpa using hi)⟩
theorem Vs.box (V:Vs h L){d:D}(ho:aD d) (hK:∀n h',Vs h' ((n,.box d)::L)->KH (.ptr n 0 0) h'):ab P (.box (.c d)) h KH:=by
 rw[jX];exact⟨ho,λ n t=>hK n _ (V.push t.free (by simp))⟩
theorem Vs.alloc (V:Vs h L){d:D}(hK:∀n h',Vs h' ((n,.box d)::L)->KH (.ptr n 0 0) h'):ab P (.alloc d) h KH:=by
 rw[fc];exact λ n t=>hK n _ (V.push t.free (by simp))
theorem Vs.mkr (V:Vs h L){esz bytes l:Nat}{z:D}(hb:l*bytes<=140737488355328) (hl:l<=9223372036854775807) (hK:∀n h',Vs h' ((n,.arr esz (List.replicate l z))::L)->KH (.ms n 0 l) h'):ab P (.mk esz bytes z (.c (.int .i64 (l:Int))) (.c (.int .i64 (l:Int)))) h KH:=by
 rw[SU];refine⟨by omega,by omega,by grind,by omega,λ n t=>?_⟩;rw[aT];exact hK n _ (V.push t.free (by simp))
theorem Vs.eU (V:Vs h L) (i:Nat){n s:Nat}{cs cs':List D}(hi:L[i]?=some (n,.box (.agg cs))) (hl:cs.length=s) (hl':cs'.length=s) (ho:∀x,x∈cs'->x.one=true)
  (hK:∀h',Vs h' (L.set i (n,.box (.agg cs')))->KH .undef h'):ab P (.st (.c (.ptr n 0 0)) (.c (.agg cs')) s) h KH:=by
 rw[fG,V.get i _ _ hi];refine⟨hl',ho,rfl,by simp[hl],?_⟩
 have e:setCells (.agg cs) 0 (D.agg cs').cells=.agg cs':=by
  show D.agg (cs.take 0++cs'++cs.drop (0+cs'.length))=_
  grind
 rw[e];exact hK _ (V.aM i hi (by simp))
theorem Vs.DO (V:Vs h L) (i:Nat){n j:Nat}{cs:List D}{d:D}(hi:L[i]?=some (n,.box (.agg cs))) (hj:j<cs.length) (ho:d.one=true)
  (hK:∀h',Vs h' (L.set i (n,.box (.agg (cs.set j d))))->KH .undef h'):ab P (.st (.c (.ptr n 0 j)) (.c d) 1) h KH:=by
 rw[fG,V.get i _ _ hi];have hc:d.cells=[d]:=by cases d<;>first|rfl|cases ho
 refine⟨by rw[hc];rfl,λ x hx=>by grind,rfl,by simp;omega,?_⟩
 have e:setCells (.agg cs) j d.cells=.agg (cs.set j d):=by
  rw[hc];show D.agg (cs.take j++[d]++cs.drop (j+1))=_
  grind [List.set_eq_take_append_cons_drop]
 rw[e];exact hK _ (V.aM i hi (by simp))
theorem Vs.ZK (V:Vs h L) (i:Nat){n j:Nat}{els:List D}{d:D}(hi:L[i]?=some (n,.arr 1 els)) (hj:j<els.length) (ho:d.one=true) (h1:∀x∈els,x.one=true)
  (hK:∀h',Vs h' (L.set i (n,.arr 1 (els.set j d)))->KH .undef h'):ab P (.st (.c (.ptr n j 0)) (.c d) 1) h KH:=by
 rw[fG,V.get i _ _ hi];have hc:∀d:D,d.one=true->d.cells=[d]:=λ d ho=>by cases d<;>first|rfl|cases ho
 refine⟨by rw[hc d ho];rfl,λ x hx=>by grind,hj,by omega,λ y hy=>?_⟩;have u:=h1 y (aK hy);have e:setCells y 0 d.cells=d:=by rw[hc d ho];cases y<;>first|rfl|cases u
 rw[e];exact hK _ (V.aM i hi (by simp))
theorem Vs.fa (V:Vs h L) (i:Nat){n o:Nat}{s:Slot}(hi:L[i]?=some (n,s)):ab P (.fadd (.c (.ptr n 0 0)) o) h KH=KH (.ptr n 0 o) h:=by
 have:=V.get i n s hi;rw[wU,this];have hu:s.used=true:=Slot.M4 (V.lv i n s hi);grind
theorem Vs.zp (V:Vs h L) (i:Nat){n j:Nat}{cs:List D}{e:D}(hi:L[i]?=some (n,.box (.agg cs))) (he:cs[j]?=some e):ab P (.ld (.c (.ptr n 0 j)) 1 false) h KH=KH e h:=cT (V.get i _ _ hi) he
theorem Vs.eR (V:Vs h L) (i:Nat){n s:Nat}{cs:List D}(hi:L[i]?=some (n,.box (.agg cs))) (hl:cs.length=s):ab P (.ld (.c (.ptr n 0 0)) s true) h KH=KH (.agg cs) h:=by rw[<- hl,Go.Am.eR (V.get i _ _ hi)]
theorem Vs.yY (V:Vs h L) (i:Nat){n s:Nat}{cs:List D}(hi:L[i]?=some (n,.box (.agg cs))) (hl:cs.length=s):an P (.ld (.c (.ptr n 0 0)) s true) h K=K (.agg cs):=by rw[fB,V.eR i hi hl]
theorem Vs.lde (V:Vs h L) (i:Nat){n j:Nat}{els:List D}{d:D}(hi:L[i]?=some (n,.arr 1 els)) (hd:els[j]?=some d) (h1:d.one=true):ab P (.ld (.c (.ptr n j 0)) 1 false) h KH=KH d h:=by
 rw[kT,V.get i _ _ hi];obtain⟨hl,he⟩:=aq.1 hd;have hc:d.cells=[d]:=by cases d<;>first|rfl|cases h1
 simp[bg,hl,he,hc]
theorem yA {xs:List D}{a:Int}{esz:Nat}{d:D}(h0:0<=a) (hd:xs[a.toNat]?=some d) (hc:d.cells.length=esz):ab P (.iadd (.c (.sl xs)) (.c (.int .i64 a)) esz) h KH=KH (.vp d 0) h:=by
 grind [jq]
theorem adL {xs:List D}{a:Int}{esz:Nat}{d:D}(h0:0<=a) (hd:xs[a.toNat]?=some d) (hc:d.cells.length=esz):an P (.iadd (.c (.sl xs)) (.c (.int .i64 a)) esz) h K=K (.vp d 0):=by rw[eD,yA h0 hd hc]
theorem fav {d:D}{o:Nat}:ab P (.fadd (.c (.vp d 0)) o) h KH=KH (.vp d o) h:=by rw[BY,Nat.zero_add]
theorem L8 {cs:List D}{j:Nat}{e:D}(he:cs[j]?=some e):ab P (.ld (.c (.vp (.agg cs) j)) 1 false) h KH=KH e h:=by rw[kH,bg];simp[he]
theorem SI {cs:List D}{s:Nat}(hl:cs.length=s):ab P (.ld (.c (.vp (.agg cs) 0)) s true) h KH=KH (.agg cs) h:=by
 subst hl;rw[kH,iJ];simp
end Go.Am
