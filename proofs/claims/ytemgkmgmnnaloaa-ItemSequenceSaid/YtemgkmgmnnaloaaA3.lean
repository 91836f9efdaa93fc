/- The abstract machine: what the operations of the program do, on plain data. No condition. -/
import Derived.OpenShut
import Derived.ReadAgain
import Derived.RowKit
import Derived.Test.YtemgkmgmnnaloaaA2
set_option linter.unnecessarySimpa false
set_option linter.defProp false
set_option linter.unusedSectionVars false
set_option linter.unusedSimpArgs false
set_option linter.unusedVariables false
namespace Go.Am
open Go
variable [bV]
variable {P:Program}{KH:HK}{K:D->Prop}{h:Heap}
theorem bL {x:Arg}{s:Nat}{g:Bool}:aq P (.ld x s g) h K=ab P (.ld x s g) h fun d _=>K d:=rfl
theorem Oh {x:Arg}{a b c:Option Arg}{n:Nat}:aq P (.slc x a b c n) h K=ab P (.slc x a b c n) h fun d _=>K d:=rfl
theorem SC {x:Arg}{a b:Option Arg}:aq P (.sslc x a b) h K=ab P (.sslc x a b) h fun d _=>K d:=rfl
theorem UW {x y:Arg}:aq P (.mn x y) h K=ab P (.mn x y) h fun d _=>K d:=rfl
theorem TY {x y:Arg}:aq P (.mx x y) h K=ab P (.mx x y) h fun d _=>K d:=rfl
theorem fh {x y:Arg}{n:Nat}:aq P (.iadd x y n) h K=ab P (.iadd x y n) h fun d _=>K d:=rfl
theorem DD {x y:Arg}{l n:Nat}:aq P (.iadda x y l n) h K=ab P (.iadda x y l n) h fun d _=>K d:=rfl
theorem SE {x y:Arg}{len size:Nat}{agg:Bool}:aq P (.sidx x y len size agg) h K=ab P (.sidx x y len size agg) h fun d _=>K d:=rfl
theorem pj {k:IntKind}{x:Arg}:aq P (.conv k x) h K=ab P (.conv k x) h fun d _=>K d:=rfl
theorem m7 {c x y:Arg}:aq P (.pick c x y) h K=ab P (.pick c x y) h fun d _=>K d:=rfl
theorem T0 {x:Arg}{i:Nat}:aq P (.ext x i) h K=ab P (.ext x i) h fun d _=>K d:=rfl
theorem Oi {x:Arg}{o s:Nat}{g:Bool}:aq P (.fld x o s g) h K=ab P (.fld x o s g) h fun d _=>K d:=rfl
theorem Iu {z:List D}{ps:List (Nat×Nat×Arg)}:aq P (.bld z ps) h K=ab P (.bld z ps) h fun d _=>K d:=rfl
theorem Oj {n g:Bool}{ks:List CK}{x y:Arg}:aq P (.eqv n g ks x y) h K=ab P (.eqv n g ks x y) h fun d _=>K d:=rfl
theorem SD {x:Arg}:aq P (.slen x) h K=ab P (.slen x) h fun d _=>K d:=rfl
theorem TZ {f:FuncId}{a b:List Arg}:aq P (.mkf f a b) h K=ab P (.mkf f a b) h fun d _=>K d:=rfl
theorem He {d:D}{j o:Nat}:aq P (.fadd (.c (.vp d j)) o) h K=K (.vp d (j+o)):=rfl
theorem aE {n i j o:Nat}:aq P (.fadd (.c (.ptr n i j)) o) h K=((h n).used=true/\K (.ptr n i (j+o))):=rfl
theorem G2 {xs:List D}{a b c:Option Arg}{n:Nat}:ab P (.slc (.c (.sl xs)) a b c n) h KH=vopt [] a 0 fun l=>vopt [] b xs.length fun r=>vopt [] c xs.length fun m=>0<=l/\l<=r/\r<=m/\m<=xs.length/\(∀d∈xs,d.cells.length=n) /\
    KH (.sl ((xs.drop l.toNat).take (r-l).toNat)) h:=rfl
theorem P0 {m off len:Nat}{a b c:Option Arg}{n:Nat}:ab P (.slc (.c (.ms m off len)) a b c n) h KH=vopt [] a 0 fun l=>vopt [] b len fun r=>vopt [] c len fun q=>0<=l/\l<=r/\r<=q/\q<=len/\(∃els,(h m).row=some (n,els)) /\
    KH (.ms m (off+l.toNat) (r-l).toNat) h:=rfl
theorem zu {n:Nat}{Q:Int->Prop}:vopt [] none n Q=Q n:=rfl
theorem zt {k:IntKind}{i:Int}{n:Nat}{Q:Int->Prop}:vopt [] (some (.c (.int k i))) n Q=Q i:=rfl
theorem P3 {k:IntKind}{a b:Int}:ab P (.mn (.c (.int k a)) (.c (.int k b))) h KH=KH (.int k (if b<a then b else a)) h:=by simp[ab,vcOp,Arg.get]
theorem Jp {k:IntKind}{a b:Int}:ab P (.mx (.c (.int k a)) (.c (.int k b))) h KH=KH (.int k (if a<b then b else a)) h:=by simp[ab,vcOp,Arg.get]
theorem TH {n:Nat}{as:List Arg}:ab P (.callv (.c (.yld n)) as) h KH=((∃st B,h n=.lp st B)/\A9 P n (as.map (·.get [])) h KH):=rfl
theorem pk {f:FuncId}{as:List Arg}{r:D}(hv:aF P f (as.map (·.get [])) (· = r)) (hds:∀d,d∈as.map (·.get [])->d.vd=true/\aw d) (hk:K r):aq P (.call f as) h K:=by
 have hz:∀d,d∈as.map (·.get [])->d.fz h=d/\d.nm=[]/\jP h d:=fun d hd=>DL (hds d hd).1
 have e:(as.map fun x=>(x.get []).fz h)=as.map (·.get []):=by
  refine List.map_congr_left fun x hx=>(hz _ (List.mem_map.2 ⟨x,hx,rfl⟩)).1
 refine⟨r,by rw[e];exact hv,fun d hd=>⟨(hds d hd).2,(hz d hd).2.2,by rw[(hz d hd).1];exact(hds d hd).1⟩,Or.inr ?_,hk⟩
 have en:(as.flatMap fun x=>(x.get []).nm)=[]:=by
  rw[List.flatMap_eq_nil_iff]
  exact fun x hx=>(hz _ (List.mem_map.2 ⟨x,hx,rfl⟩)).2.1
 rw[en]
 exact fun n hn=>by cases hn
theorem P1 {cs:List D}{k:IntKind}{a:Int}{len size:Nat}{agg:Bool}:ab P (.sidx (.c (.agg cs)) (.c (.int k a)) len size agg) h KH=(0<len/\0<=a/\a<len/\vpart cs (a.toNat*size) size agg (KH · h)):=rfl
def dR:=And.intro @P1<|And.intro @bL (And.intro @Oh (And.intro @SC (And.intro @UW (And.intro @TY (And.intro @fh (And.intro @DD (And.intro @SE (And.intro @pj (And.intro @m7 (And.intro @T0 (And.intro @Oi (And.intro @Iu (And.intro @Oj (And.intro @SD (And.intro @TZ (And.intro @He (And.intro @aE (And.intro @G2 (And.intro @P0 (And.intro @zu (And.intro @zt (And.intro @P3 (And.intro @Jp (@TH))))))))))))))))))))))))
end Go.Am
namespace Go.Am
open Go
variable [bV]
variable {P:Program}
theorem IJ {c:Ctx}(hr:aj c){M esz:Nat}{els els':List D}(hM:c.h M=.arr esz els) (hl:els'.length=els.length) (hc:∀e,e∈els'->e.cells.length=esz) (ho:ow els')
  (hv:∀i j d',aU els' i j=some d'->∃d,aU els i j=some d/\∀v,au c d v->au c d' v) :
  c.le ⟨c.ρ,c.X,ah c.h M (.arr esz els'),c.hp⟩/\aj ⟨c.ρ,c.X,ah c.h M (.arr esz els'),c.hp⟩:=by
 have sub:∀k,(ah c.h M (.arr esz els') k).mine->(c.h k).mine:=by
  intro k hk
  by_cases h:k=M
  ·subst h;rw[hM];trivial
  ·simpa[ah,h] using hk
 have hle:c.le ⟨c.ρ,c.X,ah c.h M (.arr esz els'),c.hp⟩:=by
  refine⟨Nat.le_refl _,rfl,fun _ _ _=>rfl,fun _ cur _ _ h=>⟨cur,h,rfl⟩,fun _ r h=>⟨r,h,rfl⟩,fun _ _=>rfl,fun k=>?_,fun k g hm hρ _=>⟨k,sub k hm,hρ⟩⟩
  by_cases h:k=M
  ·subst h;simp only[ad];rw[hM];exact .arrArr _ _ _ (Nat.le_of_eq hl.symm)
  ·simp only[aa _ _ h];exact Trans.refl _
 refine⟨hle,fun k=>?_,fun k1 k2 g m1 m2 r1 r2=>hr.inj k1 k2 g (sub k1 m1) (sub k2 m2) r1 r2,fun k g hm hρ=>hr.apart k g (sub k hm) hρ,hr.xlt,?_,hr.glob.mono hle,hr.lo⟩
 ·by_cases h:k=M
  ·subst h
   simp only[ad]
   have hs:=hr.slot k
   rw[hM]at hs
   obtain⟨h1,h2,h3,h4⟩:=hs
   refine⟨h1,hc,ho,?_⟩
   rcases h4 with⟨q,q'⟩|⟨g,cur,ty,q1,q2,q3,q4⟩
   ·refine Or.inl ⟨q,?_⟩
    subst q'
    exact List.length_eq_zero_iff.1 hl
   ·refine Or.inr ⟨g,cur,ty,q1,q2,by rw[hl];exact q3,fun i j d' hd'=>?_⟩
    obtain⟨d,hd,hrel⟩:=hv i j d' hd'
    exact(hrel _ (q4 i j d hd)).mono hle
  ·simp only[aa _ _ h]
   exact gC hle (hr.slot k) (fun _ _=>rfl) (fun _ _ _=>rfl)
 ·obtain⟨N,hN⟩:=hr.fin
  refine⟨N+M+1,fun k hk=>?_⟩
  simp only[aa _ _ (show k≠M by omega)]
  exact hN k (by omega)
theorem Ha {h:Heap}{n m:Nat}(hne:m≠n):h.freeze n m=h m:=by
 unfold Heap.freeze
 cases h n<;>simp only<;>try rfl
 exact aa _ _ hne
theorem fO {m:Nat}:∀(ns:List Nat){h:Heap},m∉ns->h.freezeAll ns m=h m
 | [],_,_=>rfl
 | n::r,h,hm=>by
  simp only[List.mem_cons,not_or]at hm
  show(h.freeze n).freezeAll r m=h m
  rw[fO r hm.2,Ha hm.1]
theorem G8 {h:Heap}{m:Nat}(n:Nat):(h.freeze m n).row=(h n).row:=by
 unfold Heap.freeze
 cases hm:h m<;>simp only<;>try rfl
 by_cases he:n=m
 ·subst he;rw[ad,hm];rfl
 ·rw[aa _ _ he]
theorem ij:∀(ns:List Nat){h:Heap}(n:Nat),(h.freezeAll ns n).row=(h n).row
 | [],_,_=>rfl
 | m::r,h,n=>by
  show((h.freeze m).freezeAll r n).row=_
  rw[ij r,G8]
theorem LB {h h':Heap}(hr:∀n,(h' n).row=(h n).row) (d:D):d.fzc h'=d.fzc h:=by
 cases d<;>simp[D.fzc,hr]
theorem Ii {h h':Heap}(hr:∀n,(h' n).row=(h n).row) (d:D):d.fz h'=d.fz h:=by
 have e:D.fzc h'=D.fzc h:=funext (LB hr)
 cases d<;>simp only[D.fz,e]
theorem EM {h h':Heap}(hr:∀n,(h' n).row=(h n).row){d:D}(hd:jP h d):jP h' d:=by
 intro x hx
 have:=hd x hx
 cases x<;>simp only[lQ,hr]at this ⊢
 exact this
structure Deep (h:Heap) (M:Nat) (els:List D):Prop where
 out:M∉els.flatMap D.nm
 el:∀e∈els,e.cells=[e]/\jP h e/\(e.fz h).vone=true/\e.one=true
def Ko (h:Heap) (M:Nat) (els:List D):Heap:=ah (h.freezeAll (els.flatMap D.nm)) M (.arr 1 (els.map (D.fz h)))
theorem NI {h:Heap}{M:Nat}{els:List D}:Ko h M els M=.arr 1 (els.map (D.fz h)):=ad _ _ _
theorem oz {d:D}(h:d.vone=true):d.cells=[d]:=by cases d<;>first|rfl|cases h
theorem Jn {c:Ctx}(hr:aj c){M:Nat}{els:List D}(hM:c.h M=.arr 1 els) (hd:Deep c.h M els) :
  c.le ⟨c.ρ,c.X,Ko c.h M els,c.hp⟩/\aj ⟨c.ρ,c.X,Ko c.h M els,c.hp⟩:=by
 obtain⟨g1,g2⟩:=cV hr (els.flatMap D.nm)
 have hM1:(c.h.freezeAll (els.flatMap D.nm)) M=.arr 1 els:=by rw[fO _ hd.out,hM]
 have key:=IJ (c:=⟨c.ρ,c.X,c.h.freezeAll (els.flatMap D.nm),c.hp⟩) g2 (els':=els.map (D.fz c.h)) hM1 (by simp) (fun e he=>?_) (fun i j d h=>?_) (fun i j d' h=>?_)
 ·exact⟨g1.trans key.1,key.2⟩
 ·simp only[List.mem_map]at he
  obtain⟨x,hx,rfl⟩:=he
  rw[oz (hd.el x hx).2.2.1];rfl
 ·simp only[aU,List.getElem?_map,Option.bind_eq_some_iff,Option.map_eq_some_iff]at h
  obtain⟨e,⟨x,hx,rfl⟩,h2⟩:=h
  have hv:=(hd.el x (List.mem_of_getElem? hx)).2.2.1
  rw[oz hv]at h2
  have:d=x.fz c.h:=by
   cases j with
   | zero=>simpa using h2.symm
   | succ j=>simp at h2
  subst this
  exact D.de hv
 ·simp only[aU,List.getElem?_map,Option.bind_eq_some_iff,Option.map_eq_some_iff]at h
  obtain⟨e,⟨x,hx,rfl⟩,h2⟩:=h
  obtain⟨q1,q2,q3,q4⟩:=hd.el x (List.mem_of_getElem? hx)
  rw[oz q3]at h2
  have hj:j=0/\d'=x.fz c.h:=by
   cases j with
   | zero=>exact⟨rfl,by simpa using h2.symm⟩
   | succ j=>simp at h2
  obtain⟨rfl,rfl⟩:=hj
  refine⟨x,by simp[aU,hx,q1],fun v hv=>?_⟩
  have h1:aw x:=fun y hy=>by rw[q1]at hy;simp at hy;subst hy;exact q4
  have hre:∀n,((c.h.freezeAll (els.flatMap D.nm)) n).row=(c.h n).row:=fun n=>ij _ n
  have:=(vY (Ctx.le.refl _) g2 hv h1 (EM hre q2) (fun n esz es hn hrow=>?_)).1
  ·rw[Ii hre]at this;exact this
  ·rw[hre n]at hrow
   exact dA _ hrow (List.mem_flatMap.2 ⟨x,List.mem_of_getElem? hx,hn⟩)
theorem IX {f:FuncId}{ds:List D}{K:D->Prop}(ha:ag P f ds aC (fun r h'=>∃M els,r=.ms M 0 els.length/\h' M=.arr 1 els/\Deep h' M els/\K (.sl (els.map (D.fz h'))))):aF P f ds K:=by
 intro c w vals hh hp hr hs hrel
 have gQ:c.h=aC:=funext hh
 have:=ha c w vals gQ hp hr hs hrel
 refine this.mono ?_
 rintro e w' ⟨v,r,ρ,h',rfl,h1,h2,h3,h4,M,els,rfl,hM,hd,hk⟩
 obtain⟨k1,k2⟩:=Jn h2 hM hd
 have hM2:(Ko h' M els) M=.arr 1 (els.map (D.fz h')):=NI
 have hrow2:((Ko h' M els) M).row=some (1,els.map (D.fz h')):=by rw[hM2];rfl
 obtain⟨g1,g2⟩:=cV k2 [M]
 have e0:(D.ms M 0 els.length).fz (Ko h' M els)=.sl (els.map (D.fz h')):=by
  simp only[D.fz,D.fzc,hrow2,List.drop_zero]
  rw[List.take_of_length_le (by simp)]
 have hz:=(vY g1 g2 (h4.mono k1) (fun y hy=>by simp[D.cells]at hy;subst hy;rfl) (fun y hy=>by
   simp only[D.cells,List.mem_singleton]at hy
   subst hy
   refine⟨1,_,hrow2,by simp,fun x hx z hz=>?_⟩
   have hx':x∈els.map (D.fz h'):=List.mem_of_mem_drop (List.mem_of_mem_take hx)
   simp only[List.mem_map]at hx'
   obtain⟨a,ha,rfl⟩:=hx'
   have hv:=(hd.el a ha).2.2.1
   rw[oz hv]at hz;simp at hz;subst hz;exact hv) (fun n esz es hn hrow=>dA _ hrow (by simpa[D.nm,D.jA] using hn))).1
 rw[e0]at hz
 have hown:∀g,¬(⟨ρ,c.X,(Ko h' M els).freezeAll [M],w'.heap⟩:Ctx).own g->¬(⟨c.ρ,c.X,c.h,w'.heap⟩:Ctx).own g:=by
  rintro g hn (hX|⟨n,hm,_⟩)
  ·exact hn (Or.inl hX)
  ·simp only[hh n]at hm;cases hm
 refine⟨v,_,rfl,?_,h3,au.w7 (c:=⟨ρ,c.X,(Ko h' M els).freezeAll [M],w'.heap⟩) (c':=⟨c.ρ,c.X,c.h,w'.heap⟩) rfl hown hz rfl,rfl,hk⟩
 refine⟨h1.size,rfl,h1.aD,h1.shape,h1.loop,fun _ _=>rfl,fun _=>Trans.refl _,fun n g hm hρ _=>⟨n,hm,hρ⟩⟩
end Go.Am
namespace Go.Am
open Go
section aD
variable {H:Type}{enc:TypeId×Value->H}{P:Program}{w w':World}{base:Nat}{spare:Nat->Bool}{held:Bool}
theorem jn {α β:Type}{f g:α->Option β}(hk:∀a b,f a=some b->g a=some b):∀{l:List α}{r:List β},l.mapM f=some r->l.mapM g=some r
 | [],r,h=>by simpa using h
 | a::l,r,h=>by
  simp only[List.mapM_cons,Option.bind_eq_bind,Option.bind_eq_some_iff,Option.pure_def,Option.some.injEq]at h ⊢
  obtain⟨b,hb,r',hr',rfl⟩:=h
  exact⟨b,hk a b hb,r',jn hk hr',rfl⟩
theorem LK (hk:∀b,b<w.heap.size->w'.heap[b]?=w.heap[b]?){a:Addr}{v:Value}(h:w.cell? a=some v):w'.cell? a=some v:=by
 unfold World.cell? at h ⊢
 have hlt:a.block<w.heap.size:=by
  rcases Nat.lt_or_ge a.block w.heap.size with h1|h1
  ·exact h1
  ·simp[Array.getElem?_eq_none h1]at h
 rw[hk _ hlt];exact h
theorem Jy (hk:∀b,b<w.heap.size->w'.heap[b]?=w.heap[b]?){a:Addr}{n:Nat}{cs:List Value}(h:w.cells? base a n=some cs):w'.cells? base a n=some cs:=by
 unfold World.cells? at h ⊢
 split at h
 ·rename_i hb
  rw[if_pos hb]
  exact jn (fun i v hv=>LK hk hv) h
 ·cases h
theorem KY (hk:∀b,b<w.heap.size->w'.heap[b]?=w.heap[b]?):∀(n:Nat) (t:TypeId) (cs:List Value) (x:DataW H×List MemPlace),DataW.trod enc P w base spare held n t cs=some x->DataW.trod enc P w' base spare held n t cs=some x:=by
 intro n
 induction n with
 | zero=>intro t cs x h;simp[DataW.trod]at h
 | succ n ih =>
  intro t cs x h
  have el:∀(a:Addr) (k:Nat) (e:TypeId) y,(w.cells? base a k).bind (DataW.trod enc P w base spare held n e)=some y->(w'.cells? base a k).bind (DataW.trod enc P w' base spare held n e)=some y:=by
   intro a k e y hy
   rw[Option.bind_eq_some_iff]at hy ⊢
   obtain⟨cs,h1,h2⟩:=hy
   exact⟨cs,Jy hk h1,ih _ _ _ h2⟩
  unfold DataW.trod at h ⊢
  generalize P.underlying t=ut at h ⊢
  split at h
  case h_6 e a =>
   rw[Option.map_eq_some_iff]at h ⊢
   obtain⟨y,hy,rfl⟩:=h
   exact⟨y,el _ _ _ _ hy,rfl⟩
  case h_8 e a len cap =>
   simp only at h ⊢
   split at h
   ·rename_i hc
    rw[if_pos hc]
    rw[Option.bind_eq_some_iff]at h ⊢
    obtain⟨elems,h1,h2⟩:=h
    refine⟨elems,jn (fun i y hy=>el _ _ _ _ hy) h1,?_⟩
    rw[Option.map_eq_some_iff]at h2 ⊢
    obtain⟨rest,h3,rfl⟩:=h2
    refine⟨rest,?_,rfl⟩
    split at h3
    ·rename_i hs;rw[if_pos hs];exact jn (fun i y hy=>el _ _ _ _ hy) h3
    ·rename_i hs;rw[if_neg hs];exact h3
   ·cases h
  case h_9 fs =>
   split at h
   ·rename_i hc
    rw[if_pos hc]
    rw[Option.map_eq_some_iff]at h ⊢
    obtain⟨y,hy,rfl⟩:=h
    exact⟨y,jn (fun i y hy=>ih _ _ _ hy) hy,rfl⟩
   ·cases h
  case h_10 m e =>
   split at h
   ·rename_i hc
    rw[if_pos hc]
    rw[Option.map_eq_some_iff]at h ⊢
    obtain⟨y,hy,rfl⟩:=h
    exact⟨y,jn (fun i y hy=>ih _ _ _ hy) hy,rfl⟩
   ·cases h
  case h_12 u v =>
   split at h
   ·exact h
   ·rw[Option.map_eq_some_iff]at h ⊢
    obtain⟨y,hy,rfl⟩:=h
    exact⟨y,ih _ _ _ hy,rfl⟩
   ·cases h
  case h_14 k e b =>
   cases hb:w.heap[b]? with
   | none=>simp[hb]at h
   | some o =>
    have hlt:=(Array.getElem?_eq_some_iff.1 hb).1
    rw[hk b hlt]
    rw[hb]at h ⊢
    cases o<;>simp only at h ⊢<;>try (cases h;done)
    split at h
    ·rename_i hc
     rw[if_pos hc]
     rw[Option.bind_eq_some_iff]at h ⊢
     obtain⟨es,h1,h2⟩:=h
     refine⟨es,jn (fun i y hy=>?_) h1,h2⟩
     rw[Option.bind_eq_some_iff]at hy ⊢
     obtain⟨key,h3,h4⟩:=hy
     refine⟨key,h3,?_⟩
     split at h4
     ·rename_i hf
      rw[if_pos hf]
      rw[Option.map_eq_some_iff]at h4 ⊢
      obtain⟨z,hz,rfl⟩:=h4
      exact⟨z,ih _ _ _ hz,rfl⟩
     ·cases h4
    ·cases h
  all_goals first|exact h|(cases h;done)
theorem wN (hk:∀b,b<w.heap.size->w'.heap[b]?=w.heap[b]?):∀{ts:List TypeId}{vs:List Value}{ds:List (DataW H)}{ps:List MemPlace},DataW.TrodAll enc P w base spare held ts vs ds ps->DataW.TrodAll enc P w' base spare held ts vs ds ps
 | [],[],[],_,h=>h
 | _::_,_::_,_::_,_,⟨p,q,⟨n,h1⟩,h2,e⟩=>⟨p,q,⟨n,KY hk n _ _ _ h1⟩,wN hk h2,e⟩
end aD
end Go.Am
namespace Go.Am
open Go
variable [bV]
variable {H:Type}{enc:TypeId×Value->H}{P:Program}
def mkElem (P:Program) (e:TypeId) (cs:List D):D :=
 match P.underlying e with
 | some (.struct _)=>.agg cs
 | some (.array _ _)=>.agg cs
 | _=>cs.headD .undef
def HasTy (P:Program):Nat->TypeId->List D->Prop
 | 0,_,_=>False
 | n+1,t,ds=>match P.underlying t with
  | some .bool=>∃b,ds=[.bool b]
  | some (.int k)=>∃i,ds=[.int k i]/\(Lit.int k i).wf=true
  | some .string=>∃s:ByteArray,ds=[.str s]/\s.size<=maxLen
  | some (.slice e)=>∃xs:List (List D),ds=[.sl (xs.map (mkElem P e))]/\xs.length<=maxLen/\∀x∈xs,HasTy P n e x
  | some (.struct fs)=>ds.length=P.cellsOf t/\∀f∈fs.toList,HasTy P n f.type ((ds.drop f.offset).take (P.cellsOf f.type))
  | some (.array m e)=>ds.length=P.cellsOf t/\∀i,i<m->HasTy P n e ((ds.drop (i*P.cellsOf e)).take (P.cellsOf e))
  | _=>False
def contig (P:Program) (total:Nat):List (TypeId×Nat)->Nat->Bool
 | [],o=>o == total
 | f::r,o=>f.2 == o&&contig P total r (o+P.cellsOf f.1)
def plainT (P:Program):Nat->TypeId->Bool
 | 0,_=>false
 | n+1,t=>match P.underlying t with
  | some .bool=>P.cellsOf t == 1
  | some (.int _)=>P.cellsOf t == 1
  | some .string=>P.cellsOf t == 1
  | some (.slice e)=>P.cellsOf t == 1&&decide (0<P.cellsOf e)&&plainT P n e
  | some (.struct fs)=>fs.toList.all (fun f=>plainT P n f.type)&&contig P (P.cellsOf t) (fs.toList.map fun f=>(f.type,f.offset)) 0
  | some (.array m e)=>plainT P n e&&contig P (P.cellsOf t) ((List.range m).map fun i=>(e,i*P.cellsOf e)) 0
  | _=>false
theorem pg {cs:List D}(h1:cs.length=1) (hv:∀(i:Nat) (x:D),cs[i]?=some x->x.vone=true):(cs.headD .undef).cells=cs:=by
 cases cs with
 | nil=>simp at h1
 | cons d r =>
  have:r=[]:=List.eq_nil_of_length_eq_zero (by simpa using h1)
  subst this
  have:=hv 0 d rfl
  cases d<;>simp_all [D.vone,D.cells]
theorem GR {n:Nat}{e:TypeId}{cs:List D}(hp:plainT P n e=true) (hl:cs.length=P.cellsOf e) (hv:∀(i:Nat) (x:D),cs[i]?=some x->x.vone=true):(mkElem P e cs).cells=cs:=by
 unfold mkElem
 split
 ·rfl
 ·rfl
 ·cases n with
  | zero=>simp[plainT]at hp
  | succ n =>
   unfold plainT at hp
   split at hp
   ·exact pg (by rw[hl];simpa using hp) hv
   ·exact pg (by rw[hl];simpa using hp) hv
   ·exact pg (by rw[hl];simpa using hp) hv
   ·simp only[Bool.and_eq_true]at hp
    exact pg (by rw[hl];simpa using hp.1.1) hv
   ·rename_i h1 h1' _ fs h2;first|exact absurd h2 (h1 _)|exact absurd h2 (h1' _)
   ·rename_i h1 h1' _ m e' h2;first|exact absurd h2 (h1' _ _)|exact absurd h2 (h1 _ _)
   ·cases hp
theorem parts {c:Ctx}{m:Nat}{total:Nat}(cs:List Value) (hcs:cs.length=total):∀(l:List (TypeId×Nat)) (o:Nat),contig P total l o=true ->
  (∀f∈l,∃ds:List D,HasTy P m f.1 ds/\ds.length=P.cellsOf f.1/\∀(i:Nat) (d:D),ds[i]?=some d->d.vone=true/\au c d (((cs.drop f.2).take (P.cellsOf f.1)).getD i Go.undef)) ->
  ∃ds:List D,ds.length=cs.length-o/\(∀f∈l,HasTy P m f.1 ((ds.drop (f.2-o)).take (P.cellsOf f.1))/\o<=f.2)/\∀(i:Nat) (d:D),ds[i]?=some d->d.vone=true/\au c d (cs.getD (o+i) Go.undef)
 | [],o,hc,_=>by
  simp only[contig,beq_iff_eq]at hc
  exact⟨[],by simp;omega,by simp,by simp⟩
 | f::r,o,hc,hf=>by
  simp only[contig,Bool.and_eq_true,beq_iff_eq]at hc
  obtain⟨hfo,hcr⟩:=hc
  obtain⟨d1,a1,a2,a3⟩:=hf f (by simp)
  obtain⟨d2,b1,b2,b3⟩:=parts cs hcs r (o+P.cellsOf f.1) hcr (fun g hg=>hf g (by simp[hg]))
  have hle:o+P.cellsOf f.1<=total:=by
   have:∀(l:List (TypeId×Nat)) (o:Nat),contig P total l o=true->o<=total:=by
    intro l
    induction l with
    | nil=>intro o h;simp[contig]at h;omega
    | cons g s ih=>intro o h;simp only[contig,Bool.and_eq_true,beq_iff_eq]at h;have:=ih _ h.2;omega
   exact this _ _ hcr
  refine⟨d1++d2,by simp;omega,fun g hg=>?_,fun i d hd=>?_⟩
  ·rcases List.mem_cons.1 hg with rfl|hg
   ·refine⟨?_,by omega⟩
    rw[hfo,Nat.sub_self,List.drop_zero,List.take_append_of_le_length (by omega),List.take_of_length_le (by omega)]
    exact a1
   ·obtain⟨k1,k2⟩:=b2 g hg
    refine⟨?_,by omega⟩
    rw[show g.2-o=d1.length+(g.2-(o+P.cellsOf f.1)) by omega,List.drop_append,List.drop_eq_nil_of_le (by omega),List.nil_append,Nat.add_sub_cancel_left]
    exact k1
  ·by_cases hi:i<d1.length
   ·rw[List.getElem?_append_left hi]at hd
    obtain⟨k1,k2⟩:=a3 i d hd
    refine⟨k1,?_⟩
    have e1:((cs.drop f.2).take (P.cellsOf f.1)).getD i Go.undef=cs.getD (o+i) Go.undef:=by
     simp only[List.getD,List.getElem?_take,List.getElem?_drop]
     rw[if_pos (by omega),hfo]
    rw[e1]at k2;exact k2
   ·rw[List.getElem?_append_right (by omega)]at hd
    obtain⟨k1,k2⟩:=b3 _ d hd
    refine⟨k1,?_⟩
    rw[show o+P.cellsOf f.1+(i-d1.length)=o+i by omega]at k2
    exact k2
theorem Ms {W:World}{sp:Nat->Bool}{c:Ctx}(hp:c.hp=W.heap) (hown:∀g,¬c.own g):∀(m:Nat) (t:TypeId),plainT P m t=true->∀(n:Nat) (cs:List Value) (x:DataW H×List MemPlace),DataW.trod enc P W 0 sp true n t cs=some x ->
  cs.length=P.cellsOf t/\∃ds:List D,HasTy P m t ds/\ds.length=cs.length/\∀(i:Nat) (d:D),ds[i]?=some d->d.vone=true/\au c d (cs.getD i Go.undef):=by
 intro m
 induction m with
 | zero=>intro t h;simp[plainT]at h
 | succ m ih =>
  intro t hpt n cs x h
  unfold plainT at hpt
  have one:∀(d:D) (v:Value),cs=[v]->d.vone=true->au c d v->([d]:List D).length=cs.length/\∀(i:Nat) (d':D),[d][i]?=some d'->d'.vone=true/\au c d' (cs.getD i Go.undef):=by
   rintro d v rfl h1 h2
   refine⟨rfl,fun i d' hd=>?_⟩
   cases i with
   | zero=>simp at hd;subst hd;exact⟨h1,by simpa using h2⟩
   | succ i=>simp at hd
  split at hpt
  ·
   rename_i hu
   cases n with
   | zero=>simp[DataW.trod]at h
   | succ n =>
    unfold DataW.trod at h
    rw[hu]at h
    split at h<;>simp_all
    rename_i b
    exact⟨[.bool b],by unfold HasTy;rw[hu];exact⟨b,rfl⟩,by simp,fun i d hd=>by
     cases i with
     | zero=>simp at hd;subst hd;exact⟨rfl,by simpa using au.bool (c:=c) b⟩
     | succ i=>simp at hd⟩
  ·rename_i k hu
   cases n with
   | zero=>simp[DataW.trod]at h
   | succ n =>
    unfold DataW.trod at h
    rw[hu]at h
    split at h<;>simp_all
    rename_i kq kq' i' hq
    have hkk:=h.1.1
    subst hkk
    exact⟨[.int kq' i'],by unfold HasTy;rw[hu];exact⟨i',rfl,h.1.2⟩,by simp,fun i d hd=>by
     cases i with
     | zero=>simp at hd;subst hd;exact⟨rfl,by simpa using au.int (c:=c) kq' i'⟩
     | succ i=>simp at hd⟩
  ·rename_i hu
   cases n with
   | zero=>simp[DataW.trod]at h
   | succ n =>
    unfold DataW.trod at h
    rw[hu]at h
    split at h<;>simp_all
    rename_i s
    exact⟨[.str s],by unfold HasTy;rw[hu];exact⟨s,rfl,h.1⟩,by simp,fun i d hd=>by
     cases i with
     | zero=>simp at hd;subst hd;exact⟨rfl,by simpa using au.str (c:=c) s⟩
     | succ i=>simp at hd⟩
  ·
   rename_i e hu
   simp only[Bool.and_eq_true,beq_iff_eq,decide_eq_true_eq]at hpt
   obtain⟨⟨hc1,hpos⟩,hpe⟩:=hpt
   rcases DataW.trod_slice hu h with⟨rfl,_⟩|⟨a,len,cap,elems,rest,n',rfl,rfl,_,hb,hl,hm,hlen,hel,_,_⟩
   ·refine⟨by rw[hc1];rfl,[.sl []],?_,one (.sl []) _ rfl rfl (.slE none 0 (by simp[maxLen]))⟩
    unfold HasTy;rw[hu]
    exact⟨[],rfl,by simp[maxLen],by simp⟩
   ·
    have each:∀i,i<len->∃(vs:List Value) (ds:List D),W.cells? 0 (a.add (i*P.cellsOf e)) (P.cellsOf e)=some vs/\HasTy P m e ds/\ds.length=P.cellsOf e/\vs.length=P.cellsOf e/\∀(j:Nat) (d:D),ds[j]?=some d->d.vone=true/\au c d (vs.getD j Go.undef):=by
     intro i hi
     have h1:=hel i hi
     have h2:elems[i]?=some (elems[i]'(by omega)):=by simp[show i<elems.length by omega]
     rw[h2,Option.bind_eq_some_iff]at h1
     obtain⟨vs,h3,h4⟩:=h1
     obtain⟨k1,ds,k2,k3,k4⟩:=ih e hpe n' vs _ h4
     exact⟨vs,ds,h3,k2,k3.trans k1,k1,k4⟩
    let vf:Nat->List Value:=fun i=>if h:i<len then(each i h).choose else []
    let df:Nat->List D:=fun i=>if h:i<len then(each i h).choose_spec.choose else []
    have spec:∀i,i<len->W.cells? 0 (a.add (i*P.cellsOf e)) (P.cellsOf e)=some (vf i)/\HasTy P m e (df i)/\(df i).length=P.cellsOf e/\(vf i).length=P.cellsOf e/\∀(j:Nat) (d:D),(df i)[j]?=some d->d.vone=true/\au c d ((vf i).getD j Go.undef):=by
     intro i hi
     simp only[vf,df,dif_pos hi]
     exact(each i hi).choose_spec.choose_spec
    let xs:List (List D):=(List.range len).map df
    have hxl:xs.length=len:=by simp[xs]
    have hxi:∀i,i<len->xs[i]?=some (df i):=by intro i hi;simp[xs,hi]
    have hcellsE:∀i,i<len->(mkElem P e (df i)).cells=df i:=fun i hi=>GR hpe (spec i hi).2.2.1 (fun j x hx=>((spec i hi).2.2.2.2 j x hx).1)
    refine⟨by rw[hc1];rfl,[.sl (xs.map (mkElem P e))],?_,?_⟩
    ·unfold HasTy;rw[hu]
     refine⟨xs,rfl,by rw[hxl];omega,fun x hx=>?_⟩
     obtain⟨i,hi,rfl⟩:=List.mem_map.1 hx
     exact(spec i (by simpa using hi)).2.1
    ·have hl0:len=(xs.map (mkElem P e)).length:=by simp[hxl]
     refine one _ _ rfl rfl ?_
     by_cases h0:len=0
     ·subst h0
      have:xs=[]:=List.eq_nil_of_length_eq_zero hxl
      rw[this]
      exact .slE _ cap hm
     ·have hz:=(World.cells?_some (spec 0 (by omega)).1).2.2 0 (by omega)
      have hcell0:∃v,W.cell? a=some v:=by
       have e0:(a.add (0*P.cellsOf e)).add 0=a:=by simp[Addr.add]
       rw[e0]at hz
       have:0<(vf 0).length:=by rw[(spec 0 (by omega)).2.2.2.1];exact hpos
       exact⟨(vf 0)[0],by rw[hz];simp[this]⟩
      obtain⟨v0,hv0⟩:=hcell0
      have hspot:a=⟨a.block,a.off,none⟩:=by
       unfold World.cell? at hv0
       split at hv0
       ·split at hv0
        ·cases hv0
        ·rename_i hs
         obtain⟨b,o,s⟩:=a
         cases s with
         | none=>rfl
         | some s=>simp at hs
       ·cases hv0
      have hci:∀i j d,aU (xs.map (mkElem P e)) i j=some d->i<len/\(df i)[j]?=some d:=by
       intro i j d hd
       unfold aU at hd
       rw[List.getElem?_map]at hd
       by_cases hi:i<len
       ·rw[hxi i hi]at hd
        simp only[Option.map_some,Option.bind_some]at hd
        rw[hcellsE i hi]at hd
        exact⟨hi,hd⟩
       ·have:xs[i]?=none:=List.getElem?_eq_none (by omega)
        rw[this]at hd;simp at hd
      have:=au.sl (c:=c) (xs.map (mkElem P e)) a.block a.off cap (P.cellsOf e) (fun i j=>(vf i).getD j Go.undef) (by intro he;rw[he]at hl0;simp at hl0;omega) (by rw[<- hl0];exact hl) hm hpos
       (fun x hx=>by
        obtain⟨y,hy,rfl⟩:=List.mem_map.1 hx
        obtain⟨i,hi,rfl⟩:=List.mem_map.1 hy
        rw[hcellsE i (by simpa using hi)]
        exact(spec i (by simpa using hi)).2.2.1)
       (fun i j d hd=>by
        obtain⟨hi,hj⟩:=hci i j d hd
        exact((spec i hi).2.2.2.2 j d hj).1)
       (fun i j d hd=>by
        obtain⟨hi,hj⟩:=hci i j d hd
        have hjl:=(List.getElem?_eq_some_iff.1 hj).1
        rw[(spec i hi).2.2.1]at hjl
        have hz:=(World.cells?_some (spec i hi).1).2.2 j hjl
        have e1:(a.add (i*P.cellsOf e)).add j=⟨a.block,a.off+(i*P.cellsOf e+j),none⟩:=by
         have hadd:∀(b o x:Nat),((⟨b,o,none⟩:Addr).add x).add j=⟨b,o+(x+j),none⟩:=by
          intro b o x
          rw[Addr.add_lit,Addr.add_lit,Nat.add_assoc]
         have:=hadd a.block a.off (i*P.cellsOf e)
         rw[<- hspot]at this
         exact this
        rw[e1,rO]at hz
        rw[hp,hz]
        have hjv:j<(vf i).length:=by rw[(spec i hi).2.2.2.1];exact hjl
        simp[List.getD,hjv])
       (hown _) (fun i j d hd=>by
        obtain⟨hi,hj⟩:=hci i j d hd
        exact((spec i hi).2.2.2.2 j d hj).2)
      rw[<- hl0]at this
      rw[hspot]
      exact this
  ·
   rename_i fs hu
   simp only[Bool.and_eq_true,List.all_eq_true]at hpt
   obtain⟨hpf,hcov⟩:=hpt
   obtain⟨xs,n',rfl,_,hcl,hxl,hf⟩:=DataW.trod_struct hu h
   obtain⟨ds,q1,q2,q3⟩:=parts (c:=c) (m:=m) cs (by rw[hcl]) _ 0 hcov (fun f hfm=>by
    simp only[List.mem_map]at hfm
    obtain⟨f',hf',rfl⟩:=hfm
    obtain⟨i,hi⟩:=List.getElem?_of_mem hf'
    have h1:=hf i f' (by simpa using hi)
    have hix:i<xs.length:=by
     have:=(List.getElem?_eq_some_iff.1 hi).1
     rw[hxl];simpa using this
    have h2:xs[i]?=some xs[i]:=by simp[hix]
    rw[h2]at h1
    obtain⟨k1,ds,k2,k3,k4⟩:=ih f'.type (hpf f' hf') n' _ _ h1
    exact⟨ds,k2,k3.trans k1,k4⟩)
   refine⟨hcl,ds,?_,by simpa using q1,fun i d hd=>by simpa using q3 i d hd⟩
   unfold HasTy;rw[hu]
   exact⟨by rw[q1,hcl];rfl,fun f hf=>by simpa using (q2 (f.type,f.offset) (List.mem_map.2 ⟨f,hf,rfl⟩)).1⟩
  ·
   rename_i k e hu
   simp only[Bool.and_eq_true]at hpt
   obtain⟨hpe,hcov⟩:=hpt
   obtain⟨xs,n',rfl,_,hcl,hxl,hf⟩:=DataW.trod_array hu h
   obtain⟨ds,q1,q2,q3⟩:=parts (c:=c) (m:=m) cs (by rw[hcl]) _ 0 hcov (fun f hfm=>by
    simp only[List.mem_map,List.mem_range]at hfm
    obtain⟨i,hi,rfl⟩:=hfm
    have h1:=hf i hi
    have h2:xs[i]?=some (xs[i]'(by omega)):=by simp[show i<xs.length by omega]
    rw[h2]at h1
    obtain⟨k1,ds,k2,k3,k4⟩:=ih e hpe n' _ _ h1
    exact⟨ds,k2,k3.trans k1,k4⟩)
   refine⟨hcl,ds,?_,by simpa using q1,fun i d hd=>by simpa using q3 i d hd⟩
   unfold HasTy;rw[hu]
   exact⟨by rw[q1,hcl];rfl,fun i hi=>by simpa using (q2 (e,i*P.cellsOf e) (List.mem_map.2 ⟨i,by simpa using hi,rfl⟩)).1⟩
  ·cases hpt
end Go.Am
namespace Go.Am
open Go
variable [bV]
variable {H:Type}{enc:TypeId×Value->H}{P:Program}
theorem Sc {W:World}{r:Reach}{b:Nat}{t:TypeId}{cs:Array Value}(h:Cell.okWide P W r b t (.agg cs)):False:=by
 unfold Cell.okWide at h
 split at h<;>first
  | (rename_i h2;cases h2;done)
  | (rename_i h2 _;cases h2;done)
  | skip
 unfold Cell.ok at h
 split at h<;>first
  | exact h
  | (rename_i h2;cases h2;done)
theorem Qv {W:World}{sp:Nat->Bool}{c:Ctx}(hp:c.hp=W.heap) (hown:∀g,¬c.own g){m:Nat}{t:TypeId}(hpt:plainT P m t=true){base:Nat}{v:Value}{d:DataW H}{ps:List MemPlace}
    (hval:Value.okWide P W .any base t v) (hd:DataW.Trod enc P W 0 sp true t v d ps):∃ds:List D,HasTy P m t ds/\au c (mkElem P t ds) v:=by
  obtain⟨n,hn⟩:=hd
  obtain⟨hl,ds,h1,h2,h3⟩:=Ms hp hown m t hpt n _ _ hn
  refine⟨ds,h1,?_⟩
  have one:(∀cs,v≠.agg cs)->ds.length=1->au c (ds.headD .undef) v:=by
    intro hna h1'
    have hc:v.cells = #[v]:=by cases v<;>first|rfl|exact absurd rfl (hna _)
    obtain⟨x,hx⟩:∃x,ds[0]?=some x:=⟨ds[0]'(by omega),by simp[show 0<ds.length by omega]⟩
    have:=(h3 0 x hx).2
    rw[hc]at this
    have e:ds.headD .undef=x:=by
      cases ds with
      | nil=>simp at hx
      | cons a r=>simpa using hx
    rw[e];simpa using this
  have agg:∀cs,v=.agg cs->au c (.agg ds) v:=by
    rintro cs rfl
    refine .agg ds cs (by simpa[Value.cells] using h2.symm) (fun i x hx=>D.de (h3 i x hx).1) (fun i x hx=>?_)
    have:=(h3 i x hx).2
    rw[<- aI]
    exact this
  unfold Value.okWide at hval
  unfold mkElem
  cases m with
  | zero=>simp[plainT]at hpt
  | succ m =>
    unfold plainT at hpt
    cases hu:P.underlying t with
    | none=>rw[hu]at hpt;simp at hpt
    | some u =>
      rw[hu]at hval hpt
      cases u<;>simp only at hval hpt ⊢<;>first
        | (obtain⟨cs,rfl,_⟩:=hval;exact agg cs rfl)
        | (refine one (fun cs hc=>?_) ?_
           · subst hc;exact Sc hval
           · rw[h2,hl];simp only[Bool.and_eq_true,beq_iff_eq]at hpt;first|exact hpt.1.1|exact hpt)
        | cases hpt
def Fl (P:Program) (m:Nat):List TypeId->List D->Prop
 | [],ds=>ds=[]
 | t::ts,ds=>∃cs r,ds=mkElem P t cs::r/\HasTy P m t cs/\Fl P m ts r
theorem IK {W:World}{sp:Nat->Bool}{c:Ctx}(hp:c.hp=W.heap) (hown:∀g,¬c.own g){m base:Nat}:∀(ts:List TypeId) (vs:List Value) (ds:List (DataW H)) (ps:List MemPlace),ts.all (plainT P m)=true ->
  (∀(j:Nat) t v,ts[j]?=some t->vs[j]?=some v->Value.okWide P W .any base t v)->DataW.TrodAll enc P W 0 sp true ts vs ds ps->vs.length=ts.length/\ds.length=ts.length /\
   ∃xs:List D,Fl P m ts xs/\xs.length=ts.length/\∀(i:Nat) (x:D),xs[i]?=some x->au c x (vs.getD i Go.undef)
 | [],vs,ds,ps,_,_,h=>by
  obtain⟨rfl,rfl,rfl⟩:=trodAll_nil' h
  exact⟨rfl,rfl,[],rfl,rfl,by simp⟩
 | t::ts,vs,ds,ps,hpt,hval,h=>by
  simp only[List.all_cons,Bool.and_eq_true]at hpt
  obtain⟨v,vs',d,ds',p,q,rfl,rfl,rfl,h1,h2⟩:=ChangeShapes.trodAll_cons h
  obtain⟨cs,k1,k2⟩:=Qv hp hown hpt.1 (hval 0 t v rfl rfl) h1
  obtain⟨l1,l2,xs,k3,k4,k5⟩:=IK hp hown ts vs' ds' q hpt.2 (fun j t v ht hv=>hval (j+1) t v (by simpa using ht) (by simpa using hv)) h2
  refine⟨by simp[l1],by simp[l2],mkElem P t cs::xs,⟨cs,xs,rfl,k1,k3⟩,by simp[k4],fun i x hx=>?_⟩
  cases i with
  | zero=>simp at hx;subst hx;simpa using k2
  | succ i=>simp at hx;simpa using k5 i x hx
where
 trodAll_nil' {vs:List Value}{ds:List (DataW H)}{ps:List MemPlace}(h:DataW.TrodAll enc P W 0 sp true [] vs ds ps):vs=[]/\ds=[]/\ps=[]:=ChangeShapes.trodAll_nil h
theorem Lr {f:FuncId}{fn:Func}{s:ChangeSpec}{m:Nat}{tb:TypeId}(hpl:fn.params.toList.all (plainT P m)=true) (hrt:fn.resultTypes = #[tb]) (htb:P.underlying tb=some .bool)
  (hvars:s.vars=[]) (hspec:∀ds:List (DataW H),ds.length=fn.params.size->s.fn H (ds++[])={ results:=[.lit (.bool true)],args:=ds })
  (hl:laidOutB P=true) (hm:mapsRowed P=true) (hfull:((List.range P.types.size).all fun t=>match P.underlying t with|some (.slice e)=>decide (0<P.cellsOf e)|_=>true)=true)
  (hin:∀t∈fn.params.toList,t<P.types.size)
  (hv:∀xs,Fl P m fn.params.toList xs->aF P f xs (· = .bool true))
  (W:World) (base:Nat) (args:Array Value) (ds gs:List (DataW H)) (before:List MemPlace)
  (hval:∀(j:Nat) t v,fn.params[j]?=some t->args[j]?=some v->Value.okWide P W .any base t v)
  (hW:DataW.Whole enc P fn.params.toList s.vars false W args.toList ds gs before)
  (htab:∀g vs,bV.tab g=some vs->g<W.heap.size/\∀(k:Nat) (v:Value),vs[k]?=some v->cellOf W.heap g k=some v) :
  Calls P f args W fun e W'=>∃v,e=.returned v/\s.post enc P fn false true false false W args v W':=by
 have hW':=hW
 obtain⟨p,q,hA,hV,rfl,hfz,hnd⟩:=hW
 rw[hvars]at hV
 obtain⟨rfl,rfl⟩:=ChangeShapes.trodVars_none hV
 let c:Ctx:=⟨fun _=>none,⟨fun _=>False,0,[]⟩,aC,W.heap⟩
 have hown:∀g,¬c.own g:=by
  rintro g (h|⟨n,h,_⟩)
  ·exact h
  ·cases h
 have hr:aj c:=⟨fun n=>trivial,fun n m' g h=>(by cases h),fun n g h=>(by cases h),fun g h=>h.elim,⟨0,fun n _=>rfl⟩,fun g vs hg=>⟨(htab g vs hg).2,hown g,(htab g vs hg).1⟩,Nat.zero_le _⟩
 obtain⟨l1,l2,xs,h1,h2,h3⟩:=IK (c:=c) rfl hown fn.params.toList args.toList ds p hpl (fun j t v ht hv=>hval j t v (by simpa using ht) (by simpa using hv)) hA
 refine(hv xs h1 c W args (fun _=>rfl) rfl hr (by rw[h2, <- l1];simp) (fun i x hx=>by rw[<- aI];exact h3 i x hx)).mono ?_
 rintro e W' ⟨v,r,rfl,hle,hws,hrel,_,rfl⟩
 have hvt:v=.bool true:=by cases hrel;rfl
 subst hvt
 have hk:∀b,b<W.heap.size->W'.heap[b]?=W.heap[b]?:=fun b hb=>hle.aD b hb (fun n hn=>by cases hn)
 have hdl:ds.length=fn.params.size:=by rw[l2];simp
 have hsp:=hspec ds hdl
 refine⟨_,rfl,ds,[],p++[],[],p,[],hW',?_,?_,?_,?_,fun h=>by cases h⟩
 ·rw[hsp,hrt]
  exact ChangeShapes.trodAll_mk1 (RowKit.shut_bool htb true)
 ·rw[hsp]
  refine wN hk ?_
  exact DataW.TrodAll.respare (kids_rows hl hm) (slices_full_of P hfull) hin hA (fun x hx=>by simpa using hW'.lt x (by simpa using hx))
 ·rw[hvars,hsp];rfl
 ·refine⟨hws.os,hws.output,fun i hi=>?_⟩
  rw[hk i hi]
  cases hb:W.heap[i]? with
  | none=>rfl
  | some o=>cases o<;>simp
end Go.Am
namespace Go.Am
open Go
variable {P:Program}{m:Nat}{t e:TypeId}{k:IntKind}{ds:List D}
theorem Ao (h:P.underlying t=some (.int k)) (hd:HasTy P (m+1) t ds):∃i,ds=[.int k i]/\k.min<=i/\i<=k.max:=by
 unfold HasTy at hd
 rw[h]at hd
 obtain⟨i,h1,h2⟩:=hd
 simp[Lit.wf]at h2
 exact⟨i,h1,h2.1,h2.2⟩
theorem Ia (h:P.underlying t=some (.slice e)) (hd:HasTy P (m+1) t ds):∃xs:List (List D),ds=[.sl (xs.map (mkElem P e))]/\xs.length<=maxLen/\∀x∈xs,HasTy P m e x:=by
 unfold HasTy at hd
 rw[h]at hd
 exact hd
def structL (P:Program) (t:TypeId):Option (List (TypeId×Nat)):=match P.underlying t with
 | some (.struct fs)=>some (fs.toList.map fun f=>(f.type,f.offset))
 | _=>none
theorem ph {l:List (TypeId×Nat)}(h:structL P t=some l) (hd:HasTy P (m+1) t ds):ds.length=P.cellsOf t/\∀q∈l,HasTy P m q.1 ((ds.drop q.2).take (P.cellsOf q.1)):=by
 unfold HasTy at hd
 unfold structL at h
 split at h
 ·rename_i fs hu
  rw[hu]at hd
  cases h
  refine⟨hd.1,fun q hq=>?_⟩
  obtain⟨f,hf,rfl⟩:=List.mem_map.1 hq
  exact hd.2 f hf
 ·cases h
theorem Ic {n:Nat}(h:P.underlying t=some (.array n e)) (hd:HasTy P (m+1) t ds):ds.length=P.cellsOf t/\∀i,i<n->HasTy P m e ((ds.drop (i*P.cellsOf e)).take (P.cellsOf e)):=by
 unfold HasTy at hd
 rw[h]at hd
 exact hd
theorem Gg {l:List (TypeId×Nat)}(h:structL P t=some l) (cs:List D):mkElem P t cs=.agg cs:=by
 unfold structL at h
 unfold mkElem
 split at h
 ·rename_i hu;rw[hu]
 ·cases h
theorem Nv (h:P.underlying t=some (.int k)) (d:D):mkElem P t [d]=d:=by unfold mkElem;rw[h];rfl
theorem Jo (h:P.underlying t=some (.slice e)) (he:P.underlying e=some (.int k)) (hd:HasTy P (m+2) t ds):∃xs:List Int,ds=[.sl (xs.map (.int k))]/\xs.length<=maxLen/\∀x∈xs,k.min<=x/\x<=k.max:=by
 obtain⟨xs,h1,h2,h3⟩:=Ia h hd
 have:∃ys:List Int,xs.map (mkElem P e)=ys.map (.int k)/\ys.length=xs.length/\∀x∈ys,k.min<=x/\x<=k.max:=by
  clear h1 h2
  induction xs with
  | nil=>exact⟨[],rfl,rfl,fun x hx=>by cases hx⟩
  | cons x r ih =>
   obtain⟨ys,g1,g2,g3⟩:=ih fun x hx=>h3 x (List.mem_cons_of_mem _ hx)
   obtain⟨i,hi,hi1,hi2⟩:=Ao he (h3 x List.mem_cons_self)
   refine⟨i::ys,?_,by simp[g2],fun y hy=>?_⟩
   ·simp only[List.map_cons,g1,hi,Nv he]
   ·rcases List.mem_cons.1 hy with rfl|hy
    ·exact⟨hi1,hi2⟩
    ·exact g3 y hy
 obtain⟨ys,g1,g2,g3⟩:=this
 exact⟨ys,by rw[h1,g1],by omega,g3⟩
end Go.Am
namespace Go.Am
open Go
variable [bV]
variable {P:Program}
structure KL (h:Heap) (M esz:Nat) (els:List D):Prop where
 out:M∉els.flatMap D.nm
 el:∀e∈els,aw e/\jP h e/\∀y,y∈(e.fz h).cells->y.vone=true
def eM (h:Heap) (M esz:Nat) (els:List D):Heap:=ah (h.freezeAll (els.flatMap D.nm)) M (.arr esz (els.map (D.fz h)))
theorem kZ {h:Heap}{M esz:Nat}{els:List D}:eM h M esz els M=.arr esz (els.map (D.fz h)):=ad _ _ _
theorem EG {h:Heap}{M esz k:Nat}{els:List D}(h1:k≠M) (h2:k∉els.flatMap D.nm):eM h M esz els k=h k:=by
 unfold eM;rw[aa _ _ h1,fO _ h2]
theorem G4 {h:Heap}{e:D}:(e.fz h).cells.length=e.cells.length:=by
 cases e with
 | ms n off len =>
  simp only[D.fz,D.fzc]
  cases hr:(h n).row with
  | none=>rfl
  | some p=>obtain⟨a,b⟩:=p;rfl
 | agg cs=>simp[D.fz,D.cells]
 | _=>rfl
theorem Qa {h:Heap}{e:D}{j:Nat}:(e.fz h).cells[j]?=(e.cells[j]?).map (D.fzc h):=by
 cases e with
 | agg cs=>simp[D.fz,D.cells]
 | ms n off len =>
  simp only[D.fz,D.cells,D.fzc]
  cases j with
  | zero =>
   cases hr:(h n).row with
   | none=>simp[D.fzc,hr]
   | some p=>obtain⟨a,b⟩:=p;simp[D.fzc,hr]
  | succ j =>
   cases hr:(h n).row with
   | none=>simp
   | some p=>obtain⟨a,b⟩:=p;simp
 | _=>cases j<;>simp[D.fz,D.fzc,D.cells]
theorem H8 {c:Ctx}(hr:aj c){M esz:Nat}{els:List D}(hM:c.h M=.arr esz els) (hd:KL c.h M esz els) :
  c.le ⟨c.ρ,c.X,eM c.h M esz els,c.hp⟩/\aj ⟨c.ρ,c.X,eM c.h M esz els,c.hp⟩:=by
 obtain⟨g1,g2⟩:=cV hr (els.flatMap D.nm)
 have hM1:(c.h.freezeAll (els.flatMap D.nm)) M=.arr esz els:=by rw[fO _ hd.out,hM]
 have hlen:∀e∈els,e.cells.length=esz:=by
  have:=hr.slot M
  rw[hM]at this
  exact this.2.1
 have key:=IJ (c:=⟨c.ρ,c.X,c.h.freezeAll (els.flatMap D.nm),c.hp⟩) g2 (els':=els.map (D.fz c.h)) hM1 (by simp) (fun e he=>?_) (fun i j d h=>?_) (fun i j d' h=>?_)
 ·exact⟨g1.trans key.1,key.2⟩
 ·simp only[List.mem_map]at he
  obtain⟨x,hx,rfl⟩:=he
  rw[G4];exact hlen x hx
 ·simp only[aU,List.getElem?_map,Option.bind_eq_some_iff,Option.map_eq_some_iff]at h
  obtain⟨e,⟨x,hx,rfl⟩,h2⟩:=h
  exact D.de ((hd.el x (List.mem_of_getElem? hx)).2.2 d (List.mem_of_getElem? h2))
 ·simp only[aU,List.getElem?_map,Option.bind_eq_some_iff,Option.map_eq_some_iff]at h
  obtain⟨e,⟨x,hx,rfl⟩,h2⟩:=h
  obtain⟨q1,q2,q3⟩:=hd.el x (List.mem_of_getElem? hx)
  rw[Qa,Option.map_eq_some_iff]at h2
  obtain⟨y,hy,rfl⟩:=h2
  refine⟨y,by simp[aU,hx,hy],fun v hv=>?_⟩
  have hym:=List.mem_of_getElem? hy
  have hre:∀n,((c.h.freezeAll (els.flatMap D.nm)) n).row=(c.h n).row:=fun n=>ij _ n
  have hy1:=q1 y hym
  have hyc:y.cells=[y]:=by cases y<;>first|rfl|cases hy1
  have hfz:y.fz c.h=y.fzc c.h:=by cases y<;>first|rfl|cases hy1
  have hnm:y.nm=y.jA:=by cases y<;>first|rfl|cases hy1
  have:=(vY (Ctx.le.refl _) g2 hv (fun z hz=>by rw[hyc]at hz;simp at hz;subst hz;exact hy1) (EM hre (fun z hz=>by rw[hyc]at hz;simp at hz;subst hz;exact q2 z hym)) (fun n esz' es hn hrow=>?_)).1
  ·rw[Ii hre,hfz]at this;exact this
  ·rw[hre n]at hrow
   refine dA _ hrow (List.mem_flatMap.2 ⟨x,List.mem_of_getElem? hx,?_⟩)
   rw[hnm]at hn
   cases x with
   | agg cs=>exact List.mem_flatMap.2 ⟨y,hym,hn⟩
   | _=>simp only[D.cells,List.mem_singleton]at hym;subst hym;exact hn
inductive Gy:Heap->Heap->Prop where
 | refl (h:Heap):Gy h h
 | step {h h':Heap}{M esz:Nat}{els:List D}(hM:h M=.arr esz els) (hd:KL h M esz els) (k:Gy (eM h M esz els) h'):Gy h h'
theorem Gj {h h':Heap}(k:Gy h h'):∀{c:Ctx},c.h=h->aj c->c.le ⟨c.ρ,c.X,h',c.hp⟩/\aj ⟨c.ρ,c.X,h',c.hp⟩:=by
 induction k with
 | refl h=>intro c hc hr;subst hc;exact⟨Ctx.le.refl c,hr⟩
 | step hM hd _ ih =>
  intro c hc hr
  subst hc
  obtain⟨g1,g2⟩:=H8 hr hM hd
  obtain⟨g3,g4⟩:=ih (c:=⟨c.ρ,c.X,_,c.hp⟩) rfl g2
  exact⟨g1.trans g3,g4⟩
theorem LW {f:FuncId}{ds:List D}{h h':Heap}{K:HK}(k:Gy h h') (hc:ag P f ds h' K):ag P f ds h K:=by
 intro c w vals hh hp hr hs hrel
 obtain⟨g1,g2⟩:=Gj k hh hr
 refine(hc ⟨c.ρ,c.X,h',c.hp⟩ w vals rfl hp g2 hs (fun i d hi=>(hrel i d hi).mono g1)).mono ?_
 rintro e w' ⟨v,r,ρ,h'',r1,r2,r3,r4,r5,r6⟩
 exact⟨v,r,ρ,h'',r1,g1.trans r2,r3,r4,r5,r6⟩
theorem F3 {f:FuncId}{ds:List D}{K:D->Prop}(ha:ag P f ds aC (fun r h'=>∃h'',Gy h' h''/\ik r/\p8 h'' r/\(r.fzt h'').FB=true/\K (r.fzt h''))):aF P f ds K:=by
 intro c w vals hh hp hr hs hrel
 have gQ:c.h=aC:=funext hh
 have:=ha c w vals gQ hp hr hs hrel
 refine this.mono ?_
 rintro e w' ⟨v,r,ρ,h',rfl,h1,h2,h3,h4,h'',hi,h5,h6,h7,h8⟩
 obtain⟨k1,k2⟩:=Gj hi (c:=⟨ρ,c.X,h',w'.heap⟩) rfl h2
 obtain⟨g1,g2⟩:=cV k2 r.nmt
 have hz:=Kq g1 g2 (h4.mono k1) h5 h6 (fun n esz els hn hrow=>dA _ hrow hn)
 have hown:∀g,¬(⟨ρ,c.X,h''.freezeAll r.nmt,w'.heap⟩:Ctx).own g->¬(⟨c.ρ,c.X,c.h,w'.heap⟩:Ctx).own g:=by
  rintro g hn (hX|⟨n,hm,_⟩)
  ·exact hn (Or.inl hX)
  ·simp only[hh n]at hm;cases hm
 refine⟨v,r.fzt h'',rfl,?_,h3,au.w7 (c:=⟨ρ,c.X,h''.freezeAll r.nmt,w'.heap⟩) (c':=⟨c.ρ,c.X,c.h,w'.heap⟩) rfl hown hz h7,h7,h8⟩
 refine⟨h1.size,rfl,h1.aD,h1.shape,h1.loop,fun _ _=>rfl,fun _=>Trans.refl _,fun n g hm hρ _=>⟨n,hm,hρ⟩⟩
end Go.Am
namespace Go.Am
open Go
variable [bV]
variable {P:Program}
theorem Gy.trans {a b c:Heap}(h:Gy a b) (k:Gy b c):Gy a c:=by
 induction h with
 | refl _=>exact k
 | step hM hd _ ih=>exact .step hM hd (ih k)
structure U9 (P:Program) (fs:FuncId->Option aK) where
 a:∀f F,fs f=some F->∀ds K h,Ml P F ds K h->ag P f ds h K
 spec:FuncId->Option (List D->Option D)
 sp:∀f s,spec f=some s->∀ds r,s ds=some r->aF P f ds (· = r)
 hspec:FuncId->Option (List D->LH->Option (D×LH))
 hsp:∀f s,hspec f=some s->∀ds l d l',s ds l=some (d,l')->l.nf->l'.nf/\∀K:HK,K d l'.h->ag P f ds l.h K
end Go.Am
namespace Go.Am
open Go
variable [bV]
variable {P:Program}
inductive Wk:D->D->Prop where
 | refl (d:D):Wk d d
 | nil:Wk .nil (.sl [])
 | sl (xs ys:List D) (hl:xs.length=ys.length) (h:∀(i:Nat) (x y:D),xs[i]?=some x->ys[i]?=some y->Wk x y):Wk (.sl xs) (.sl ys)
 | agg (xs ys:List D) (hl:xs.length=ys.length) (h:∀(i:Nat) (x y:D),xs[i]?=some x->ys[i]?=some y->Wk x y):Wk (.agg xs) (.agg ys)
 | tup (xs ys:List D) (hl:xs.length=ys.length) (h:∀(i:Nat) (x y:D),xs[i]?=some x->ys[i]?=some y->Wk x y):Wk (.tup xs) (.tup ys)
theorem Wk.one {d d':D}(h:Wk d d'):d'.one=d.one:=by cases h<;>rfl
theorem Wk.vone {d d':D}(h:Wk d d'):d'.vone=d.vone:=by cases h<;>rfl
theorem Wk.SR {xs:List D}{y:D}(h:Wk (.agg xs) y):∃ys,y=.agg ys/\xs.length=ys.length/\∀(i:Nat) (x y:D),xs[i]?=some x->ys[i]?=some y->Wk x y:=by
 cases h with
 | refl=>exact⟨xs,rfl,rfl,fun i x y h1 h2=>by rw[h1]at h2;cases h2;exact .refl _⟩
 | agg _ ys hl h=>exact⟨ys,rfl,hl,h⟩
theorem Wk.cells {e e':D}(h:Wk e e'):e.cells.length=e'.cells.length:=by
 cases h with
 | agg xs ys hl h=>exact hl
 | _=>rfl
theorem Wk.isAgg {e e':D}(h:Wk e e'):e'.isAgg=e.isAgg:=by cases h<;>rfl
theorem xE {e:D}(h:e.isAgg=false):e.cells=[e]:=by cases e<;>first|rfl|cases h
theorem mf {α:Type}{xs ys:List α}(hl:xs.length=ys.length){i:Nat}{y:α}(hy:ys[i]?=some y):∃x,xs[i]?=some x:=by
 have:=(List.getElem?_eq_some_iff.1 hy).1
 exact⟨xs[i]'(by omega),List.getElem?_eq_getElem (by omega)⟩
theorem IW {c:Ctx}{d d':D}(h:Wk d d'):∀v,au c d v->au c d' v:=by
 induction h with
 | refl d=>exact fun v hv=>hv
 | nil=>intro v hv;cases hv;exact .slE none 0 (by simp[maxLen])
 | agg xs ys hl h ih =>
  intro v hv
  cases hv with
  | agg _ vs hsz hone hrel =>
   refine .agg ys vs (by omega) (fun i d hd=>?_) (fun i d hd=>?_)
   ·obtain⟨x,hx⟩:=mf hl hd
    rw[(h i x d hx hd).one];exact hone i x hx
   ·obtain⟨x,hx⟩:=mf hl hd
    exact ih i x d hx hd _ (hrel i x hx)
 | tup xs ys hl h ih =>
  intro v hv
  cases hv with
  | tup _ vs hsz hrel =>
   refine .tup ys vs (by omega) (fun i d hd=>?_)
   obtain⟨x,hx⟩:=mf hl hd
   exact ih i x d hx hd _ (hrel i x hx)
 | sl xs ys hl h ih =>
  intro v hv
  cases hv with
  | slE p cap hm =>
   have:ys=[]:=List.length_eq_zero_iff.1 hl.symm
   subst this
   exact .slE p cap hm
  | sl _ b o cap esz f hne hc hm he hlen hone hcell hown hrel =>
   have key:∀i j d',aU ys i j=some d'->∃d,aU xs i j=some d/\d'.vone=true/\au c d' (f i j):=by
    intro i j d' hd'
    simp only[aU,Option.bind_eq_some_iff]at hd'
    obtain⟨y,hy,hj⟩:=hd'
    obtain⟨x,hx⟩:=mf hl hy
    have hw:=h i x y hx hy
    by_cases ha:x.isAgg=true
    ·cases x with
     | agg cs =>
      obtain⟨cs',rfl,hcl,hcw⟩:=hw.SR
      simp only[D.cells]at hj
      obtain⟨a,haj⟩:=mf hcl hj
      have hin:∀k z,cs[k]?=some z->aU xs i k=some z:=fun k z hz=>by simp[aU,hx,D.cells,hz]
      have hr:au c (.agg cs) (.agg ((List.range cs.length).map (f i)).toArray):=by
       refine .agg _ _ (by simp) (fun k z hz=>D.de (hone i k z (hin k z hz))) (fun k z hz=>?_)
       have hk:=(List.getElem?_eq_some_iff.1 hz).1
       have:((List.range cs.length).map (f i)).toArray.getD k Go.undef=f i k:=by simp[Array.getD,hk]
       rw[this];exact hrel i k z (hin k z hz)
      have hr':=ih i _ _ hx hy _ hr
      refine⟨a,hin j a haj,?_,?_⟩
      ·rw[(hcw j a d' haj hj).vone];exact hone i j a (hin j a haj)
      ·cases hr' with
       | agg _ _ _ _ hrel' =>
        have hk:=(List.getElem?_eq_some_iff.1 hj).1
        have:=hrel' j d' hj
        have e:((List.range cs.length).map (f i)).toArray.getD j Go.undef=f i j:=by simp[Array.getD,show j<cs.length by omega]
        rw[e]at this;exact this
     | _=>cases ha
    ·have ha:x.isAgg=false:=by simpa using ha
     have hc1:=xE ha
     have hc2:=xE (hw.isAgg.trans ha)
     rw[hc2]at hj
     cases j with
     | succ j=>simp at hj
     | zero =>
      simp at hj;subst hj
      have hin:aU xs i 0=some x:=by simp[aU,hx,hc1]
      exact⟨x,hin,by rw[hw.vone];exact hone i 0 x hin,ih i x y hx hy _ (hrel i 0 x hin)⟩
   rw[hl]
   refine .sl ys b o cap esz f (fun e=>hne (by subst e;exact List.length_eq_zero_iff.1 hl)) (by omega) hm he (fun y hy=>?_) (fun i j d' hd'=>(key i j d' hd').choose_spec.2.1) (fun i j d' hd'=>?_) hown (fun i j d' hd'=>(key i j d' hd').choose_spec.2.2)
   ·obtain⟨i,hi⟩:=List.getElem?_of_mem hy
    obtain⟨x,hx⟩:=mf hl hi
    rw[<- (h i x y hx hi).cells];exact hlen x (List.mem_of_getElem? hx)
   ·obtain⟨d,hd,-⟩:=key i j d' hd'
    exact hcell i j d hd
theorem aF.wk {f:FuncId}{ds:List D}{K K':D->Prop}(hc:aF P f ds K) (hk:∀r,K r->∃r',Wk r r'/\r'.FB=true/\K' r'):aF P f ds K':=by
 intro c w vals hh hp hr hs hv
 refine(hc c w vals hh hp hr hs hv).mono ?_
 rintro e w' ⟨v,r,r1,r2,r3,r4,r5,r6⟩
 obtain⟨r',h1,h2,h3⟩:=hk r r6
 exact⟨v,r',r1,r2,r3,IW h1 v r4,h2,h3⟩
inductive FX:List D->List D->Prop where
 | nil:FX [] []
 | cons {x y:D}{xs ys:List D}(h:Wk x y) (k:FX xs ys):FX (x::xs) (y::ys)
theorem FX.get {xs ys:List D}(h:FX xs ys):xs.length=ys.length/\∀(i:Nat) (x y:D),xs[i]?=some x->ys[i]?=some y->Wk x y:=by
 induction h with
 | nil=>exact⟨rfl,fun i x y h=>by simp at h⟩
 | cons h k ih =>
  refine⟨by simp[ih.1],fun i x y h1 h2=>?_⟩
  cases i with
  | zero=>simp at h1 h2;subst h1 h2;exact h
  | succ i=>exact ih.2 i x y (by simpa using h1) (by simpa using h2)
theorem aF.arg {f:FuncId}{ds ds':List D}{K:D->Prop}(hw:FX ds ds') (hc:aF P f ds' K):aF P f ds K:=by
 intro c w vals hh hp hr hs hv
 obtain⟨hl,hw⟩:=hw.get
 refine hc c w vals hh hp hr (by omega) fun i d hd=>?_
 obtain⟨x,hx⟩:=mf hl hd
 exact IW (hw i x d hx hd) _ (hv i x hx)
theorem ag.arg {f:FuncId}{ds ds':List D}{h:Heap}{K:HK}(hw:FX ds ds') (hc:ag P f ds' h K):ag P f ds h K:=by
 intro c w vals hh hp hr hs hv
 obtain⟨hl,hw⟩:=hw.get
 refine hc c w vals hh hp hr (by omega) fun i d hd=>?_
 obtain⟨x,hx⟩:=mf hl hd
 exact IW (hw i x d hx hd) _ (hv i x hx)
theorem Wk.OK {xs ys:List D}(h:FX xs ys):Wk (.agg xs) (.agg ys):=.agg _ _ h.get.1 h.get.2
theorem FX.rfl:∀{xs:List D},FX xs xs
 | []=>.nil
 | x::r=>.cons (.refl x) FX.rfl
end Go.Am
namespace Go.Am
open Go
variable [bV]
structure dX where
 kind:Int
 n:Int
 v:Int
deriving DecidableEq,Inhabited
structure aN where
 op:Int
 sub:Int
 n:Int
 d:dX
 a:dX
 b:dX
 c:dX
deriving DecidableEq,Inhabited
structure Term where
 kind:Int
 sub:Int
 d:dX
 a:dX
 b:dX
 to0:Int
 to1:Int
deriving DecidableEq,Inhabited
structure Block where
 i:List aN
 t:Term
deriving DecidableEq,Inhabited
structure bO where
 name:ByteArray
 space:Int
 type:Int
 len:Int
structure Loop where
 head:Int
 ox:Int
 bound:Int
deriving DecidableEq,Inhabited
structure Code where
 group:Int
 sub:Int
 regs:Int
 slots:Int
 params:Int
 arrays:List bO
 loops:List Loop
 b:List Block
def an:dX:=⟨0,0,0⟩
def iO:Term:=⟨0,0,an,an,an,0,0⟩
def fX (n:Int):dX:=⟨2,n,0⟩
def Const (v:Int):dX:=⟨1,0,v⟩
def dX.cs (o:dX):List D:=[.int .i64 o.kind,.int .i64 o.n,.int .i32 o.v]
def dX.e (o:dX):D:=.agg o.cs
def aN.cs (x:aN):List D :=
  [.int .i64 x.op,.int .i64 x.sub,.int .i64 x.n,.int .i64 x.d.kind,.int .i64 x.d.n,.int .i32 x.d.v,.int .i64 x.a.kind,.int .i64 x.a.n,.int .i32 x.a.v,
   .int .i64 x.b.kind,.int .i64 x.b.n,.int .i32 x.b.v,.int .i64 x.c.kind,.int .i64 x.c.n,.int .i32 x.c.v]
def aN.e (x:aN):D:=.agg x.cs
def Term.cs (t:Term):List D :=
  [.int .i64 t.kind,.int .i64 t.sub,.int .i64 t.d.kind,.int .i64 t.d.n,.int .i32 t.d.v,.int .i64 t.a.kind,.int .i64 t.a.n,.int .i32 t.a.v,
   .int .i64 t.b.kind,.int .i64 t.b.n,.int .i32 t.b.v,.int .i64 t.to0,.int .i64 t.to1]
def Term.e (t:Term):D:=.agg t.cs
def Block.e (x:Block):D:=.agg (.sl (x.i.map aN.e)::x.t.cs)
def bO.e (x:bO):D:=.agg [.str x.name,.int .i64 x.space,.int .i64 x.type,.int .i64 x.len]
def Loop.e (x:Loop):D:=.agg [.int .i64 x.head,.int .i64 x.ox,.int .i64 x.bound]
def Code.e (c:Code):D :=
 .agg [.int .i64 c.group,.int .i64 c.sub,.int .i64 c.regs,.int .i64 c.slots,.int .i64 c.params,.sl (c.arrays.map bO.e),.sl (c.loops.map Loop.e),.sl (c.b.map Block.e)]
def words (l:List Int):D:=.sl (l.map (.int .i32))
structure wE (d:D):Prop where
 vd:d.vd=true
 one:aw d
theorem wE.pair {d:D}(h:wE d):d.vd=true/\aw d:=⟨h.vd,h.one⟩
theorem bf {k:IntKind}{n:Int}:wE (.int k n):=⟨rfl,by simp⟩
theorem eg {xs:List D}:wE (.sl xs):=⟨rfl,by simp⟩
theorem cT {cs:List D}(h:∀x∈cs,x.vone=true):wE (.agg cs):=⟨by simpa[D.vd] using h,fun x hx=>D.de (h x hx)⟩
theorem dX.bZ (o:dX):wE o.e:=cT (by simp[dX.cs])
theorem aN.bZ (o:aN):wE o.e:=cT (by simp[aN.cs])
theorem Term.bZ (o:Term):wE o.e:=cT (by simp[Term.cs])
theorem Block.bZ (o:Block):wE o.e:=cT (by simp[Term.cs])
theorem bO.bZ (o:bO):wE o.e:=cT (by simp)
theorem Loop.bZ (o:Loop):wE o.e:=cT (by simp)
theorem Code.bZ (o:Code):wE o.e:=cT (by simp)
theorem F1 {l:List Int}:wE (words l):=eg
def L1:List D->Prop
 | []=>True
 | d::r=>wE d/\L1 r
theorem L1.all:∀{ds:List D},L1 ds->∀d∈ds,d.vd=true/\aw d
 | [],_,d,h=>by cases h
 | x::r,hd,d,h=>by
  rcases List.mem_cons.1 h with rfl|h
  ·exact hd.1.pair
  ·exact L1.all hd.2 d h
theorem bc {P:Program}{f:FuncId}{ds:List D}{h:Heap}{KH:HK}{r:D}(hv:aF P f ds (· = r)) (hds:L1 ds) (hk:KH r h):ag P f ds h KH:=bE hv hds.all (by rintro _ rfl;exact hk)
theorem iK {P:Program}{f:FuncId}{as:List Arg}{h:Heap}{K:D->Prop}{r:D}(hv:aF P f (as.map (·.get [])) (· = r)) (hds:L1 (as.map (·.get []))) (hk:K r):aq P (.call f as) h K:=pk hv hds.all hk
theorem iG {d:D}{h:Heap}{K:D->Prop}(hd:wE d) (hk:K d):qH K d h:=JT hd.pair hk
end Go.Am
namespace Go.Am
open Go
variable [bV]
variable {P:Program}{KH:HK}{K:D->Prop}{h:Heap}
theorem Hv {A:(HK)->Prop}:vguard (.bool true) true A h KH=A KH:=by rw[Dq];simp
theorem G3 {A:(HK)->Prop}:vguard (.bool false) false A h KH=A KH:=by rw[Dq];simp
theorem L2 {A:(HK)->Prop}:vguard (.bool true) false A h KH=KH gU h:=by rw[Dq];simp
theorem SY {A:(HK)->Prop}:vguard (.bool false) true A h KH=KH gU h:=by rw[Dq];simp
theorem EL {A:(D->Prop)->Prop}:aQ (.bool true) true A K=A K:=by rw[wL];simp
theorem UQ {A:(D->Prop)->Prop}:aQ (.bool false) false A K=A K:=by rw[wL];simp
theorem UP {A:(D->Prop)->Prop}:aQ (.bool true) false A K=K gU:=by rw[wL];simp
theorem Ss {A:(D->Prop)->Prop}:aQ (.bool false) true A K=K gU:=by rw[wL];simp
theorem dh {x y:D}:ab P (.pick (.c (.bool true)) (.c x) (.c y)) h KH=KH x h:=rfl
theorem gP {x y:D}:ab P (.pick (.c (.bool false)) (.c x) (.c y)) h KH=KH y h:=rfl
theorem HZ {KK:D->Prop}:vun .not (.bool true) KK=KK (.bool false):=rfl
theorem Np {KK:D->Prop}:vun .not (.bool false) KK=KK (.bool true):=rfl
theorem Uf {n o:Nat}{d:D}(a:h n=.box d):ab P (.fadd (.c (.ptr n 0 0)) o) h KH=KH (.ptr n 0 o) h:=by
 rw[rG,a];simp
theorem eR {n j s:Nat}{cs:List D}{d:D}(a:h n=.box (.agg cs)) (hj:cs[j]?=some d):ab P (.ld (.c (.ptr n 0 j)) s false) h KH=KH d h:=by
 rw[jE,a];simp[bk,hj]
theorem cj {n j s:Nat}{cs:List D}{d:D}(a:h n=.box (.agg cs)) (hj:cs[j]?=some d):aq P (.ld (.c (.ptr n 0 j)) s false) h K=K d:=by
 rw[bL,eR a hj]
theorem db {n:Nat}{cs:List D}(a:h n=.box (.agg cs)):ab P (.ld (.c (.ptr n 0 0)) cs.length true) h KH=KH (.agg cs) h:=by
 rw[jE,a];simp[cn]
theorem rD {n j s:Nat}{cs:List D}(a:h n=.box (.agg cs)) (hj:j+s<=cs.length):ab P (.ld (.c (.ptr n 0 j)) s true) h KH=KH (.agg ((cs.drop j).take s)) h:=by
 rw[jE,a];simp[cn,hj]
theorem QI {n:Nat}{x y z p q r:D}(a:h n=.box (.agg [x,y,z])) (h1:p.one=true) (h2:q.one=true) (h3:r.one=true) :
  ab P (.st (.c (.ptr n 0 0)) (.c (.agg [p,q,r])) 3) h KH=KH .undef (ah h n (.box (.agg [p,q,r]))):=by
 rw[dq,a]
 apply propext
 constructor
 ·exact fun hh=>by simpa using hh.2.2
 ·intro hk
  refine⟨rfl,fun w hw=>?_,rfl,by simp,by simpa using hk⟩
  simp at hw;rcases hw with rfl|rfl|rfl<;>assumption
theorem Ut {n:Nat}{x y z:D}{k1 k2 k3:IntKind}{p q r:Int}(a:h n=.box (.agg [x,y,z])) :
  ab P (.st (.c (.ptr n 0 0)) (.c (.agg [.int k1 p,.int k2 q,.int k3 r])) 3) h KH=KH .undef (ah h n (.box (.agg [.int k1 p,.int k2 q,.int k3 r]))):=QI a rfl rfl rfl
theorem T3 {x y:D}{p q:Int}:ab P (.bld [x,y] [(0,1,(.c (.int .i64 p))),(1,1,(.c (.int .i64 q)))]) h KH=KH (.agg [.int .i64 p,.int .i64 q]) h:=by
 rw[ku]
 simp[fF,fillD]
theorem T2 {x y z:D}{p q:Int}:ab P (.bld [x,y,z] [(0,1,(.c (.int .i64 p))),(1,1,(.c (.int .i64 q)))]) h KH=KH (.agg [.int .i64 p,.int .i64 q,z]) h:=by
 rw[ku]
 simp[fF,fillD]
theorem UZ {x y z:D}{p q r:Int}:ab P (.bld [x,y,z] [(0,1,(.c (.int .i64 p))),(1,1,(.c (.int .i64 q))),(2,1,(.c (.int .i64 r)))]) h KH=KH (.agg [.int .i64 p,.int .i64 q,.int .i64 r]) h:=by
 rw[ku]
 simp[fF,fillD]
theorem UY {z:List D}:ab P (.bld z []) h KH=KH (.agg z) h:=by
 rw[ku]
 simp[fF,fillD]
theorem NZ {x:D}{r:List D}:ab P (.ext (.c (.tup (x::r))) 0) h KH=KH x h:=rfl
theorem NY {x y:D}{r:List D}:ab P (.ext (.c (.tup (x::y::r))) 1) h KH=KH y h:=rfl
theorem US {x y z:D}{r:List D}:ab P (.ext (.c (.tup (x::y::z::r))) 2) h KH=KH z h:=rfl
theorem Of {x:D}{r:List D}:aq P (.ext (.c (.tup (x::r))) 0) h K=K x:=rfl
theorem Oe {x y:D}{r:List D}:aq P (.ext (.c (.tup (x::y::r))) 1) h K=K y:=rfl
section
variable {k:IntKind}{a b:Int}
theorem Vm (h0:a<=b):vbin .leq (.int k a) (.int k b) K=K (.bool true):=by rw[JV];simp[h0]
theorem Vn (h0:b<a):vbin .leq (.int k a) (.int k b) K=K (.bool false):=by rw[JV];simp[show ¬a<=b by omega]
theorem Vk (h0:a<b):vbin .lss (.int k a) (.int k b) K=K (.bool true):=by rw[bK];simp[h0]
theorem Vl (h0:b<=a):vbin .lss (.int k a) (.int k b) K=K (.bool false):=by rw[bK];simp[show ¬a<b by omega]
theorem Vp (h0:b<a):vbin .gtr (.int k a) (.int k b) K=K (.bool true):=by rw[qK];simp[h0]
theorem Vq (h0:a<=b):vbin .gtr (.int k a) (.int k b) K=K (.bool false):=by rw[qK];simp[show ¬b<a by omega]
theorem Vr (h0:b<=a):vbin .geq (.int k a) (.int k b) K=K (.bool true):=by rw[iz];simp[h0]
theorem Vs (h0:a<b):vbin .geq (.int k a) (.int k b) K=K (.bool false):=by rw[iz];simp[show ¬b<=a by omega]
theorem Vv (h0:a=b):vbin .eql (.int k a) (.int k b) K=K (.bool true):=by rw[aM];simp[h0]
theorem Vx (h0:a≠b):vbin .eql (.int k a) (.int k b) K=K (.bool false):=by rw[aM];simp[h0]
theorem Vi (h0:a≠b):vbin .neq (.int k a) (.int k b) K=K (.bool true):=by rw[cq];simp[h0]
theorem Vj (h0:a=b):vbin .neq (.int k a) (.int k b) K=K (.bool false):=by rw[cq];simp[h0]
theorem U0 (h1 : -9223372036854775808<=a+b) (h2:a+b<=9223372036854775807):vbin .add (.int .i64 a) (.int .i64 b) K=K (.int .i64 (a+b)):=by rw[bp,wrap64 h1 h2]
theorem Us (h1 : -9223372036854775808<=a-b) (h2:a-b<=9223372036854775807):vbin .sub (.int .i64 a) (.int .i64 b) K=K (.int .i64 (a-b)):=by rw[gO,wrap64 h1 h2]
theorem UI (h1 : -9223372036854775808<=a*b) (h2:a*b<=9223372036854775807):vbin .mul (.int .i64 a) (.int .i64 b) K=K (.int .i64 (a*b)):=by rw[gb,wrap64 h1 h2]
theorem Uy (h1:b≠0):vbin .rem (.int k a) (.int k b) K=K (.int k (a.tmod b)):=by rw[bJ];simp[h1]
theorem UH (h1 : -9223372036854775808<=0-a) (h2:0-a<=9223372036854775807):vun .neg (.int .i64 a) K=K (.int .i64 (0-a)):=by rw[F7,wrap64 h1 h2]
end
def gS:=And.intro @Hv<|And.intro @G3<|And.intro @L2<|And.intro @SY<|And.intro @wK<|And.intro @EL<|And.intro @UQ<|And.intro @UP<|And.intro @Ss<|And.intro @zw<|And.intro @dh<|And.intro @gP<|And.intro @HZ<|And.intro @Np<|And.intro @af<|And.intro @ae<|And.intro @NZ<|And.intro @NY<|And.intro @US<|And.intro @T3<|And.intro @UZ<|And.intro @T2<|And.intro @UY<|And.intro @Of @Oe
def cS:=And.intro @Vm<|And.intro @Vn<|And.intro @Vk<|And.intro @Vl<|And.intro @Vp<|And.intro @Vq<|And.intro @Vr<|And.intro @Vs<|And.intro @Vv<|And.intro @Vx<|And.intro @Vi<|And.intro @Vj<|And.intro @U0<|And.intro @Us<|And.intro @UI<|And.intro @Uy @UH
end Go.Am
