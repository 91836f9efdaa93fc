/- What the functions of this chapter give, on plain data. No condition. -/
import Derived.Shelf.Spec.SlicesGrow
import Derived.Test.YtanejooghcppjaaGreatP2
set_option linter.unnecessarySimpa false
set_option linter.defProp false
set_option linter.unusedSectionVars false
set_option linter.unusedSimpArgs false
set_option linter.unusedVariables false
namespace Go.Am
open Go
structure RW (c:Code) (l:bG) (k:Int) (s:lz):Prop where
 n:(s.items.length:Int)=c.group
 it:∀(i:Nat) (x:It),s.items[i]?=some x->PC c l x/\x.id=k*c.group+(i:Int)
 g:cq c.arrays 1 s.g
 sh:cq c.arrays 2 s.sh
 tn:s.turns.length=s.items.length
 tv:∀v∈s.turns,0<=v/\v<=(s.bl:Int)
 bl:s.bl<=200000
 ev:s.ev.length<=20*s.bl
theorem kJ {l:List It}{i:Nat}{x:It}(h:l[i]?=some x):lO l i=x:=by simp[lO,List.getD_eq_getElem?_getD,h]
theorem RW.at {c:Code}{l:bG}{k:Int}{s:lz}(w:RW c l k s){i:Nat}(hi:i<s.items.length):s.items[i]?=some (lO s.items i)/\PC c l (lO s.items i)/\(lO s.items i).id=k*c.group+(i:Int):=by
 have h:=aG hi;rw[kJ h];exact⟨h,w.it i _ h⟩
theorem RW.aM {c:Code}{l:bG}{k:Int}{s:lz}(w:RW c l k s){i:Nat}(hi:i<s.items.length):s.turns[i]?=some (s.turns.getD i 0)/\0<=s.turns.getD i 0/\s.turns.getD i 0<=(s.bl:Int):=by
 have h:s.turns[i]?=some (s.turns[i]'(by rw[w.tn];exact hi)):=aG _;rw[List.getD_eq_getElem?_getD,h];exact⟨rfl,w.tv _ (aK h)⟩
theorem Jv {c:Code}{l:bG}{it:It}{g s:Mm}{aM:Int}:(stepP c l it g s aM).it.id=it.id:=by
 unfold stepP;split
 ·rfl
 ·split
  ·rfl
  ·simp only[cb];split
   ·rfl
   split
   ·rfl
   split<;>rfl
theorem Xt {c:Code}{it:It}{v:Int}:(pF c it v).1.id=it.id:=by
 unfold pF;split<;>rfl
theorem RW.step {c:Code}{l:bG}{k:Int}{s:lz}(hc:ba c) (hl:bY c l) (w:RW c l k s){i:Nat}(hi:i<s.items.length) (hb:s.bl<200000):RW c l k (s.step i (stepP c l (lO s.items i) s.g s.sh (s.turns.getD i 0))):=by
 obtain⟨h1,h2,h3⟩:=w.at hi;obtain⟨t1,t2,t3⟩:=w.aM hi;obtain⟨⟨O,I,a3⟩,a4⟩:=PR (aM:=s.turns.getD i 0) hc hl h2 w.g w.sh;generalize hr:stepP c l (lO s.items i) s.g s.sh (s.turns.getD i 0)=r at O I a3 a4;have H:r.it.id=(lO s.items i).id:=by rw[<- hr];exact Jv
 refine⟨by simpa[lz.step] using w.n,λ j x u=>?_,I,a3,by simpa[lz.step] using w.tn,λ v G=>?_,by simp only[lz.step];omega,?_⟩
 ·simp only[lz.step]at u;by_cases E:i=j
  ·subst E;rw[List.getElem?_set_self hi]at u;cases u;exact⟨O,by rw[H];exact h3⟩
  ·rw[List.getElem?_set_ne E]at u;exact w.it j x u
 ·simp only[lz.step]at G ⊢;rcases List.mem_or_eq_of_mem_set G with G|rfl
  ·have:=w.tv v G;omega
  ·omega
 ·have:=w.ev;simp only[lz.step,List.length_append];omega
theorem zz {c:Code}{l:bG}{k:Int}(hc:ba c) (hl:bY c l){i:Nat}:∀(f:Nat) (s:lz),RW c l k s->i<s.items.length->s.bl+f=200000 ->
  RW c l k (turnI c l i f s).1/\(turnI c l i f s).1.items.length=s.items.length/\s.bl<=(turnI c l i f s).1.bl
 | 0,s,w,hi,E=>⟨w,rfl,Nat.le_refl _⟩
 | f+1,s,w,hi,E=>by
  unfold turnI;split
  ·split
   ·have u:=w.step hc hl hi (by omega);have:=zz hc hl f _ u (by simpa[lz.step] using hi) (by simp only[lz.step];omega);have hb:(s.step i (stepP c l (lO s.items i) s.g s.sh (s.turns.getD i 0))).bl=s.bl+1:=rfl;exact⟨this.1,by rw[this.2.1];simp[lz.step],by have:=this.2.2;omega⟩
   ·exact⟨w,rfl,Nat.le_refl _⟩
  ·exact⟨w,rfl,Nat.le_refl _⟩
theorem JZ {c:Code}{l:bG}{k:Int}(hc:ba c) (hl:bY c l):∀(m i:Nat) (s:lz),RW c l k s->i+m<=s.items.length ->
  RW c l k (turnF c l m i s).1/\(turnF c l m i s).1.items.length=s.items.length/\s.bl<=(turnF c l m i s).1.bl
 | 0,i,s,w,hi=>⟨w,rfl,Nat.le_refl _⟩
 | m+1,i,s,w,hi=>by
  have hb:=w.bl;obtain⟨h1,h2,h3⟩:=zz hc hl (i:=i) (200000-s.bl) s w (by omega) (by omega);unfold turnF;split
  ·obtain⟨E,u,G⟩:=JZ hc hl m (i+1) _ h1 (by omega);exact⟨E,by rw[u,h2],by omega⟩
  ·exact⟨h1,h2,h3⟩
theorem JX {c:Code}{l:bG}{k:Int}{s:lz}(hc:ba c) (hl:bY c l) (w:RW c l k s):RW c l k (iW c l s).1/\(iW c l s).1.items.length=s.items.length/\s.bl<=(iW c l s).1.bl :=
 JZ hc hl _ 0 s w (by omega)
theorem TS {c:Code}{l:bG}{k:Int}(hc:ba c) (hl:bY c l){i:Nat}{f:Nat}{s:lz}(w:RW c l k s) (hi:i<s.items.length) (hf:s.bl+f=200000) (h1:(lO s.items i).at_=1) (he:(turnI c l i f s).2=0):s.bl<(turnI c l i f s).1.bl:=by
 cases f with
 | zero=>simp[turnI,h1]at he
 | succ f =>
  unfold turnI at he ⊢;simp only[h1,if_true]at he ⊢;split at he
  ·rename_i h0;rw[if_pos h0];have u:=w.step hc hl hi (by omega);have:=(zz hc hl f _ u (by simpa[lz.step] using hi) (by simp only[lz.step];omega)).2.2;have hb:(s.step i (stepP c l (lO s.items i) s.g s.sh (s.turns.getD i 0))).bl=s.bl+1:=rfl;omega
  ·rename_i h0;exact absurd he h0
theorem JY {c:Code}{l:bG}{i j:Nat}(hij:i≠j):∀(f:Nat) (s:lz),(turnI c l i f s).1.items[j]?=s.items[j]?
 | 0,s=>rfl
 | f+1,s=>by
  unfold turnI;split
  ·split
   ·rw[JY hij f];simp only[lz.step];rw[List.getElem?_set_ne hij]
   ·rfl
  ·rfl
theorem Oh {c:Code}{l:bG}{k:Int}(hc:ba c) (hl:bY c l):∀(m i:Nat) (s:lz),RW c l k s->i+m<=s.items.length->(∃j,i<=j/\j<i+m/\(lO s.items j).at_=1)->(turnF c l m i s).2=0->s.bl<(turnF c l m i s).1.bl
 | 0,i,s,w,hi,⟨j,h1,h2,_⟩,_=>by omega
 | m+1,i,s,w,hi,⟨j,h1,h2,h3⟩,he=>by
  have hb:=w.bl;obtain⟨E,H,G⟩:=zz hc hl (i:=i) (200000-s.bl) s w (by omega) (by omega);unfold turnF at he ⊢;split at he
  ·rename_i h0;rw[if_pos h0];have q:=(JZ hc hl m (i+1) _ E (by omega)).2.2;by_cases u:i=j
   ·subst u;have:=TS hc hl w (by omega) (by omega) h3 h0;omega
   ·have hk:=JY (c:=c) (l:=l) u (200000-s.bl) s;have:=Oh hc hl m (i+1) _ E (by omega) ⟨j,by omega,by omega,by rw[lO,List.getD_eq_getElem?_getD,hk, <- List.getD_eq_getElem?_getD];exact h3⟩ he;omega
  ·rename_i h0;exact absurd he h0
def E8 (c:Code) (l:List It) (k:Nat):List It:=(l.drop (k*c.sub.toNat)).take c.sub.toNat
def KY (c:Code) (own:List It):List Int :=
 mS (hU c (lO own 0).block).sub (own.map λ it=>bN it.regs (hU c (lO own 0).block).a) (own.map λ it=>bN it.regs (hU c (lO own 0).block).b)
def passAt (c:Code) (off:Nat) (v:List Int) (l:List It):Nat->List It
 | 0=>l
 | i+1=>(passAt c off v l i).set (off+i) (pF c (lO (passAt c off v l i) (off+i)) (v.getD i 0)).1
def ny (c:Code) (l:List It) (k:Nat):List It×Bool:=if uK c (E8 c l k) 4 then(passAt c (k*c.sub.toNat) (KY c (E8 c l k)) l c.sub.toNat,true) else(l,false)
def bH (c:Code) (l:List It):Nat->List It×Bool
 | 0=>(l,false)
 | n+1=>((ny c (bH c l n).1 n).1,(ny c (bH c l n).1 n).2||(bH c l n).2)
def P1 (c:Code):Nat:=(c.group / c.sub).toNat
def allP (c:Code) (l:bG):Nat->lz->lz×Int
  | 0,s=>(s,0)
  | f+1,s =>
    if(iW c l s).2=0 then
      (if(bH c (iW c l s).1.items (P1 c)).2 then allP c l f { (iW c l s).1 with items:=(bH c (iW c l s).1.items (P1 c)).1 }
       else({ (iW c l s).1 with items:=(bH c (iW c l s).1.items (P1 c)).1 },0))
    else iW c l s
structure Zl where
 g:Mm
 x:Gr
 ev:List Ev
 e:Int
def Mo (g:Mm) (x:Gr):lz:=⟨g,x.items,x.sh,[],List.replicate x.items.length 0,0⟩
def cY (c:Code) (l:bG) (g:Mm) (x:Gr):Zl :=
  if x.items.length=0\/iq x.items=true then ⟨g,x,[],1⟩
  else if(allP c l 200002 (Mo g x)).2=0 then
    (let s:=(allP c l 200002 (Mo g x)).1
     if iq s.items then ⟨s.g,⟨x.id,s.items,s.sh⟩,s.ev,0⟩
     else if uK c s.items 3 then ⟨s.g,⟨x.id,passAt c 0 (List.replicate x.items.length 0) s.items x.items.length,s.sh⟩,s.ev,0⟩
     else ⟨g,x,[],90⟩)
  else ⟨g,x,[],(allP c l 200002 (Mo g x)).2⟩
section
variable {P:Program}{KH:HKq}{K:D->Prop}{h:Heap}{L:LSq}
theorem uX {n i j o:Nat}(a:(h n).used=true):an P (.fadd (.c (.ptr n i j)) o) h K=K (.ptr n i (j+o)):=by rw[bw,a];simp
theorem aca {n i j e:Nat}{els cs:List D}{d:D}(a:h n=.arr e els) (hi:els[i]?=some (.agg cs)) (hj:cs[j]?=some d):ab P (.ld (.c (.ptr n i j)) 1 false) h KH=KH d h:=by
 have u:=(aq.1 hi).1;rw[kT,a];apply propext;simp only[hi,Option.some.injEq,forall_eq',bg,fZ,hj,u,true_and]
theorem UW {n i e s:Nat}{els cs:List D}(a:h n=.arr e els) (hi:els[i]?=some (.agg cs)) (hl:cs.length=s):ab P (.ld (.c (.ptr n i 0)) s true) h KH=KH (.agg cs) h:=by
 have u:=(aq.1 hi).1;subst hl;rw[kT,a];apply propext;simp only[hi,Option.some.injEq,forall_eq',iJ,fZ,u,true_and,Nat.zero_add,Nat.le_refl,List.drop_zero,List.take_length]
theorem UX {n i e:Nat}{els:List D}{d:D}(a:h n=.arr e els) (hi:els[i]?=some d) (h1:d.one=true):ab P (.ld (.c (.ptr n i 0)) 1 false) h KH=KH d h:=by
 have u:=(aq.1 hi).1;rw[kT,a];apply propext;simp only[hi,Option.some.injEq,forall_eq',bg,jk h1,List.getElem?_cons_zero,u,true_and]
theorem Tz {n off l e esz:Nat}{els:List D}{k:Int}(a:h n=.arr e els) (he:e=esz) (h0:0<=k) (h1:k<l):ab P (.iadd (.c (.ms n off l)) (.c (.int .i64 k)) esz) h KH=KH (.ptr n (off+k.toNat) 0) h:=by
 rw[cv];apply propext;constructor
 ·grind
 ·intro hk;exact⟨h0,h1,⟨els,by rw[a,he];rfl⟩,hk⟩
theorem Zd {n i e s:Nat}{els cs:List D}(a:h n=.arr e els) (hi:els[i]?=some (.agg cs)) (hl:cs.length=s):an P (.ld (.c (.ptr n i 0)) s true) h K=K (.agg cs):=by rw[fB,UW a hi hl]
theorem Zc {n i j e:Nat}{els cs:List D}{d:D}(a:h n=.arr e els) (hi:els[i]?=some (.agg cs)) (hj:cs[j]?=some d):an P (.ld (.c (.ptr n i j)) 1 false) h K=K d:=by rw[fB,aca a hi hj]
theorem Ze {n i e:Nat}{els:List D}{d:D}(a:h n=.arr e els) (hi:els[i]?=some d) (h1:d.one=true):an P (.ld (.c (.ptr n i 0)) 1 false) h K=K d:=by rw[fB,UX a hi h1]
theorem O4 {n off l e esz:Nat}{els:List D}{k:Int}(a:h n=.arr e els) (he:e=esz) (h0:0<=k) (h1:k<l):an P (.iadd (.c (.ms n off l)) (.c (.int .i64 k)) esz) h K=K (.ptr n (off+k.toNat) 0):=by rw[eD,Tz a he h0 h1]
theorem I1 {n off l e:Nat}{els:List D}(a:h n=.arr e els):bq (.ms n off l) h K=K (.int .i64 (l:Int)):=by rw[ko,a];simp[Slot.live]
theorem ml {n off len:Nat}{cs:List D}{d:D}(a:h n=.box (.agg cs)) (hl:off+len<=cs.length) (hd:.agg ((cs.drop off).take len)=d):ab P (.ld (.c (.ptr n 0 off)) len true) h KH=KH d h:=by
 rw[SJ a hl,hd]
theorem gI {n off len:Nat}{cs:List D}{d:D}(a:h n=.box (.agg cs)) (hl:off+len<=cs.length) (hd:.agg ((cs.drop off).take len)=d):an P (.ld (.c (.ptr n 0 off)) len true) h K=K d:=by
 rw[fB,ml a hl hd]
theorem RE {f:FuncId}{d1 d2 d3 d4 d5 d6 r:D}(hv:aV P f [d1,d2,d3,d4,d5,d6] (· = r)) (hds:∀d,d∈[d1,d2,d3,d4,d5,d6]->d.vd=true/\aD d) (hk:K r):an P (.call f [.c d1,.c d2,.c d3,.c d4,.c d5,.c d6]) h K:=ud hv hds hk
theorem Ah {f:FuncId}{d1 d2 d3 r:D}(hv:aV P f [d1,d2,d3] (· = r)) (hds:∀d,d∈[d1,d2,d3]->d.vd=true/\aD d) (hk:K r):an P (.call f [.c d1,.c d2,.c d3]) h K:=ud hv hds hk
theorem Vs.sub {h:Heap}{L L':LSq}(s:L'.Sublist L) (V:Vs h L):Vs h L':=by
 grind [Vs.iff]
theorem Vs.stR (V:Vs h L) (k:Nat){n i e:Nat}{els cs cs':List D}(hk:L[k]?=some (n,.arr e els)) (hi:els[i]?=some (.agg cs)) (hl:cs.length=e) (hl':cs'.length=e) (ho:∀x,x∈cs'->x.one=true)
  (hK:∀h',Vs h' (L.set k (n,.arr e (els.set i (.agg cs'))))->KH .undef h'):ab P (.st (.c (.ptr n i 0)) (.c (.agg cs')) e) h KH:=by
 have u:=(aq.1 hi).1;rw[fG,V.get k _ _ hk];refine⟨hl',ho,u,by omega,λ d hd=>?_⟩;rw[hi]at hd;cases hd
 have E:setCells (.agg cs) 0 (D.agg cs').cells=.agg cs':=by
  show D.agg (cs.take 0++cs'++cs.drop (0+cs'.length))=_
  grind
 rw[E];exact hK _ (V.aM k hk (by simp))
end
theorem QG.stR {e:Nat}{h:Heap}{L:LSq}{v:D}{T:List D}(q:QG e h L v T) (k:Nat){n i s:Nat}{els cs cs':List D}{KH:HKq}(hk:L[k]?=some (n,.arr s els)) (hi:els[i]?=some (.agg cs)) (hl:cs.length=s) (hl':cs'.length=s) (ho:∀x,x∈cs'->x.one=true)
  (hK:∀h',QG e h' (L.set k (n,.arr s (els.set i (.agg cs')))) v T->KH .undef h'):ab PP (.st (.c (.ptr n i 0)) (.c (.agg cs')) s) h KH:=by
 rcases q with⟨rfl,rfl,V⟩|⟨m,rfl,V⟩
 ·exact V.stR k hk hi hl hl' ho λ h' u=>hK h' (Or.inl ⟨rfl,rfl,u⟩)
 ·exact V.stR (k+1) hk hi hl hl' ho λ h' u=>hK h' (Or.inr ⟨m,rfl,u⟩)
theorem QG.eU {e:Nat}{h:Heap}{L:LSq}{v:D}{T:List D}(q:QG e h L v T) (i:Nat){n s:Nat}{cs cs':List D}{KH:HKq}(hi:L[i]?=some (n,.box (.agg cs))) (hl:cs.length=s) (hl':cs'.length=s) (ho:∀x,x∈cs'->x.one=true)
  (hK:∀h',QG e h' (L.set i (n,.box (.agg cs'))) v T->KH .undef h'):ab PP (.st (.c (.ptr n 0 0)) (.c (.agg cs')) s) h KH:=by
 rcases q with⟨rfl,rfl,V⟩|⟨m,rfl,V⟩
 ·exact V.eU i hi hl hl' ho λ h' u=>hK h' (Or.inl ⟨rfl,rfl,u⟩)
 ·exact V.eU (i+1) hi hl hl' ho λ h' u=>hK h' (Or.inr ⟨m,rfl,u⟩)
theorem QG.ZK {e:Nat}{h:Heap}{L:LSq}{v:D}{T:List D}(q:QG e h L v T) (k:Nat){n i:Nat}{els:List D}{d:D}{KH:HKq}(hk:L[k]?=some (n,.arr 1 els)) (hi:i<els.length) (ho:d.one=true) (h1:∀x∈els,x.one=true)
  (hK:∀h',QG e h' (L.set k (n,.arr 1 (els.set i d))) v T->KH .undef h'):ab PP (.st (.c (.ptr n i 0)) (.c d) 1) h KH:=by
 rcases q with⟨rfl,rfl,V⟩|⟨m,rfl,V⟩
 ·exact V.ZK k hk hi ho h1 λ h' u=>hK h' (Or.inl ⟨rfl,rfl,u⟩)
 ·exact V.ZK (k+1) hk hi ho h1 λ h' u=>hK h' (Or.inr ⟨m,rfl,u⟩)
def KC (l:List Int):List D:=l.map (.int .i64)
def rC (c:Code) (l:bG) (k:Int) (s:lz) (mi mt:Nat) (dev:D):List D :=
  [.int .i64 c.group,.int .i64 c.sub,.int .i64 c.regs,.int .i64 c.slots,.int .i64 c.params,.sl (c.arrays.map fv.e),.sl (c.loops.map Loop.e),.sl (c.b.map Block.e),.int .i64 l.groups,words l.args,
   aZ s.g,.int .i64 k,.ms mi 0 s.items.length,aZ s.sh,dev,.ms mt 0 s.turns.length,.int .i64 (s.bl:Int)]
def RB (c:Code) (l:bG) (k:Int) (nr mi mt:Nat) (h:Heap) (L:LSq) (s:lz):Prop :=
 ∃dev,QG 9 h ((nr,.box (.agg (rC c l k s mi mt dev)))::(mi,.arr 7 (s.items.map It.e))::(mt,.arr 1 (KC s.turns))::L) dev (s.ev.map Ev.e)
end Go.Am
namespace Go.Am
open Go
section
variable {c:Code}{l:bG}{k:Int}{nr mi mt:Nat}{h:Heap}{L:LSq}{s:lz}{KH:HKq}
theorem RB.push {x:Nat×Slot}(rb:RB c l k nr mi mt h (x::L) s):RB c l k nr mi mt h L s:=by
 obtain⟨dev,q⟩:=rb;rcases q with⟨rfl,u,V⟩|⟨m,rfl,V⟩
 ·refine⟨.nil,Or.inl ⟨rfl,u,V.sub ?_⟩⟩;grind
 ·refine⟨_,Or.inr ⟨m,rfl,V.sub ?_⟩⟩;grind
theorem Fv {l:List Ev}:∀y,y∈l.map Ev.e->aD y/\y.cells.length=9:=λ y hy=>by
 obtain⟨e,-,rfl⟩:=List.mem_map.1 hy;exact⟨e.bR.one,rfl⟩
theorem U5 {l:List Int}:∀x,x∈KC l->x.one=true:=λ x hx=>by
 simp only[KC,List.mem_map]at hx;obtain⟨y,-,rfl⟩:=hx;rfl
theorem OL {l:List Int}{i:Nat}{v:Int}(h:l[i]?=some v):(KC l)[i]?=some (.int .i64 v):=by simp[KC,h]
theorem Bh {l:List It}{i:Nat}{x:It}(h:l[i]?=some x):(l.map It.e)[i]?=some (.agg x.cs):=by simp[h,It.e]
theorem RB.Y1 (rb:RB c l k nr mi mt h L s){KH:HKq}{d:D}(hK:∀n h',RB c l k nr mi mt h' ((n,.box d)::L) s->KH (.ptr n 0 0) h'):ab PP (.alloc d) h KH:=by
 obtain⟨dev,q⟩:=rb;rcases q with⟨rfl,E,V⟩|⟨m,rfl,V⟩
 ·refine V.alloc λ n h' u=>hK n h' ⟨.nil,Or.inl ⟨rfl,E,u.perm ?_⟩⟩
  exact(List.perm_middle (l₁:=[_,_,_])).symm
 ·refine V.alloc λ n h' u=>hK n h' ⟨_,Or.inr ⟨m,rfl,u.perm ?_⟩⟩
  exact(List.perm_middle (l₁:=[_,_,_,_])).symm
theorem abf (hc:ba c) (hl:bY c l) (w:RW c l k s) (rb:RB c l k nr mi mt h L s)
  (hK:∀h',RB c l k nr mi mt h' L (iW c l s).1->KH (.int .i64 (iW c l s).2) h'):ag PP mM [.ptr nr 0 0] h KH:=by
 have hg:=hc.group;have hn:=w.n;refine aI BK (aC _ _ _) rfl (AW _ _) ?_;dsimp only[sW,xF,xL];refine⟨λ _ h'=>(iW c l s).2=0/\RB c l k nr mi mt h' L (iW c l s).1,?_,?_⟩
 ·grind
 obtain⟨dev,q⟩:=id rb;have V:=q.vs;have a0:=V.get 0 _ _ rfl;have G:=V.get 1 _ _ rfl;have u:=Slot.M4 (V.lv 0 _ _ rfl);rw[<- V.get 0 _ _ rfl]at u;simp only[↓jc u,↓cT a0 (j:=12) rfl,↓I1 G];clear u G a0 V q dev;unfold oF;refine⟨λ m x h'=>∃(i:Nat) (s':lz),x=[.int .i64 (i:Int)]/\m+i=s.items.length/\RW c l k s'/\RB c l k nr mi mt h' L s'/\s'.items.length=s.items.length/\turnF c l m i s'=iW c l s,s.items.length,⟨0,s,rfl,by omega,w,rb,rfl,rfl⟩,?_⟩;rintro m f h1 ⟨i,s1,hx,e5,W,S,a7,hR⟩;simp only[av,and_true]at hx;simp only[hx];by_cases hi:i<s.items.length
 case neg =>
  simp (disch:=omega) only[↓cS,↓ah,ae,true_and];have:m=0:=by omega
  subst this;rw[<- hR];exact⟨rfl,S⟩
 obtain⟨m,rfl⟩:∃m',m=m'+1:=⟨m-1,by omega⟩;simp (disch:=omega) only[↓cS,↓ai];obtain⟨R,O⟩:∃R,R=turnI c l i (200000-s1.bl) s1:=⟨_,rfl⟩;obtain⟨o1,o2,o3⟩:=zz hc hl (i:=i) (200000-s1.bl) s1 W (by omega) (by have:=W.bl;omega);rw[<- O]at o1 o2 o3;rw[turnF, <- O]at hR;refine⟨λ _ h'=>R.2=0/\RB c l k nr mi mt h' L R.1,?_,?_⟩
 ·grind [ae]
 have a8:∀h',R.2≠0->RB c l k nr mi mt h' L R.1->KH (.int .i64 R.2) h':=λ h' e r=>by
  grind
 clear hR hK;dsimp only[oG,xF,xI,xL,xS,yF,yI,yL];refine⟨λ b x h'=>∃s2:lz,x=[]/\b+s2.bl=200000/\RW c l k s2/\RB c l k nr mi mt h' L s2/\s2.items.length=s.items.length/\turnI c l i b s2=R,200000-s1.bl,⟨s1,rfl,by have:=W.bl;omega,W,S,a7,O.symm⟩,?_⟩;clear S O o1 o2 o3 W a7 rb w;rintro b f2 h2 ⟨s2,-,hb,H,a5,c9,E⟩;simp only[hx];obtain⟨g1,g2,g3⟩:=H.at (i:=i) (by omega);obtain⟨t1,t2,t3⟩:=H.aM (i:=i) (by omega);have c8:=a5;obtain⟨dev,q⟩:=a5;have V:=q.vs;have a0:=V.get 0 _ _ rfl;have G:=V.get 1 _ _ rfl;have Q:=V.get 2 _ _ rfl;have u:(h2 nr).used=true:=by rw[a0];rfl
 have u1:(h2 mi).used=true:=by rw[G];rfl
 have u2:(h2 mt).used=true:=by rw[Q];rfl
 simp only[↓jc u,↓cT a0 (j:=12) rfl,Nat.zero_add,Nat.reduceAdd];rw[Tz G rfl (by omega) (by omega)];simp only[↓jc u1,aT,Nat.zero_add];rw[aca G (Bh g1) (j:=1) rfl];by_cases ha:(lO s2.items i).at_=1
 case neg =>
  simp (disch:=omega) only[↓cS,↓ah,ae,true_and];have:turnI c l i b s2=(s2,0):=by cases b<;>simp[turnI,ha]
  grind
 simp (disch:=omega) only[↓cS,↓ai,↓jc u,↓cT a0 (j:=16) rfl,Nat.zero_add,Nat.reduceAdd];by_cases e7:s2.bl=200000
 ·have:b=0:=by omega
  subst this;have e:turnI c l i 0 s2=(s2,2):=by simp[turnI,ha]
  rw[e]at E;simp (disch:=omega) only[↓cS,↓ai];grind
 obtain⟨b,rfl⟩:∃b',b=b'+1:=⟨b-1,by omega⟩;obtain⟨r,hr⟩:∃r,r=stepP c l (lO s2.items i) s2.g s2.sh (s2.turns.getD i 0):=⟨_,rfl⟩;rw[turnI,if_pos ha, <- hr]at E;have c7:∀{K:D->Prop},an PP (.ld (.c (.ptr nr 0 0)) 8 true) h2 K=K c.e:=gI a0 (by show 0+8<=17;omega) rfl;have c6:∀{K:D->Prop},an PP (.ld (.c (.ptr nr 0 8)) 2 true) h2 K=K l.e:=gI a0 (by show 8+2<=17;omega) rfl;simp (disch:=omega) only[↓cS,↓ah,↓uX u,↓aX a0 (j:=10) rfl,↓aX a0 (j:=12) rfl,↓aX a0 (j:=13) rfl,↓aX a0 (j:=15) rfl,Nat.zero_add,Nat.reduceAdd,c7,c6];rw[O4 G rfl (by omega) (by omega),aT,Nat.zero_add,Zd G (s:=7) (Bh g1) rfl];rw[O4 Q rfl (by omega) (by rw[H.tn];omega),aT,Nat.zero_add,Ze Q (OL t1) rfl];refine RE (Um hc hl g2.toItW H.g H.sh (aM:=s2.turns.getD i 0)) (λ d hd=>?_) ?_
 ·simp at hd;rcases hd with rfl|rfl|rfl|rfl|rfl|rfl
  ·exact kL c
  ·exact⟨rfl,jA l⟩
  ·exact⟨(It.bR _).vd,(It.bR _).one⟩
  ·exact mO _
  ·exact mO _
  ·exact dT
 rw[<- hr];unfold WQ;simp only[↓xy,↓h_ext,List.getElem?_cons_zero,List.getElem?_cons_succ];refine c8.Y1 λ a6 g0 Z=>?_
 clear c7 c6 a0 G Q u u1 u2 V q dev;obtain⟨dev,q⟩:=Z;change QG _ _ _ _ _ at q;refine q.eU 3 rfl rfl rfl r.it.bR.one λ U q=>?_
 simp only[List.set_cons_succ,List.set_cons_zero]at q;by_cases he:r.e=0
 case neg =>
  simp (disch:=omega) only[↓cS,↓ai];rw[if_neg he]at E;have:=a8 U (by rw[<- E];exact he) (by rw[<- E];exact RB.push ⟨dev,q⟩)
  rwa [<- E]at this
 rw[if_pos he]at E;have V:=q.vs;have a0:=V.get 0 _ _ rfl;have G:=V.get 1 _ _ rfl;have a3:=V.get 3 _ _ rfl;have u:(U nr).used=true:=by rw[a0];rfl
 simp (disch:=omega) only[↓cS,↓ah,↓uX u,↓aX a0 (j:=12) rfl,Nat.zero_add,Nat.reduceAdd];rw[show an PP (.ld (.c (.ptr a6 0 0)) 7 true) U=λ K=>K r.it.e from funext λ K=>gI a3 (by show 0+7<=7;omega) rfl];simp only[];rw[O4 G rfl (by omega) (by omega)];simp only[↓uX u,Nat.zero_add,Nat.reduceAdd,aT];clear u a0 G a3 V;refine q.stR 1 rfl (Bh g1) rfl rfl r.it.bR.one λ e9 q=>?_
 simp only[List.set_cons_succ,List.set_cons_zero]at q;refine q.DO 0 rfl (by show 10<17;omega) rfl λ e8 q=>?_
 simp only[List.set_cons_succ,List.set_cons_zero]at q;refine q.DO 0 rfl (by show 13<17;omega) rfl λ c5 q=>?_
 simp only[List.set_cons_succ,List.set_cons_zero]at q;have V:=q.vs;have a0:=V.get 0 _ _ rfl;have u:(c5 nr).used=true:=by rw[a0];rfl
 simp only[↓jc u,↓cT a0 (j:=14) rfl,Nat.zero_add,Nat.reduceAdd];have e6:=H.ev;have e0:r.ev.length<=20:=by rw[hr];exact(PR hc hl g2 H.g H.sh).2
 refine q.app Fv (by grind) (by grind) λ I c4 q=>?_
 clear u a0 V;have V:=q.vs;have a0:=V.get 0 _ _ rfl;have u:(c4 nr).used=true:=by rw[a0];rfl
 simp only[↓jc u,Nat.zero_add,Nat.reduceAdd];clear u a0 V;refine q.DO 0 rfl (by show 14<17;omega) q.one λ c3 q=>?_
 simp only[List.set_cons_succ,List.set_cons_zero]at q;have V:=q.vs;have a0:=V.get 0 _ _ rfl;have Q:=V.get 2 _ _ rfl;have u:(c3 nr).used=true:=by rw[a0];rfl
 simp only[↓jc u,↓cT a0 (j:=15) rfl,Nat.zero_add,Nat.reduceAdd];rw[Tz Q rfl (by omega) (by rw[H.tn];omega),aT,Nat.zero_add,UX Q (OL t1) rfl];simp (disch:=omega) only[↓cS];rw[Tz Q rfl (by omega) (by rw[H.tn];omega),aT,Nat.zero_add];clear u a0 Q V;refine q.ZK 2 rfl (by grind [KC]) rfl U5 λ c2 q=>?_
 simp only[List.set_cons_succ,List.set_cons_zero]at q;have V:=q.vs;have a0:=V.get 0 _ _ rfl;have u:(c2 nr).used=true:=by rw[a0];rfl
 simp only[↓jc u,↓cT a0 (j:=16) rfl,Nat.zero_add,Nat.reduceAdd];simp (disch:=omega) only[↓cS];clear u a0 V;refine q.DO 0 rfl (by show 16<17;omega) rfl λ c1 q=>?_
 simp only[List.set_cons_succ,List.set_cons_zero]at q;simp only[ae,true_and];refine⟨b,by omega,s2.step i r,by simp only[lz.step];omega,?_,?_,by simpa[lz.step] using c9,by simpa using E⟩
 ·rw[hr];exact H.step hc hl (by omega) (by omega)
 ·suffices hq:RB c l k nr mi mt c1 ((a6,.box r.it.e)::L) (s2.step i r) from hq.push
  refine⟨I,?_⟩;have e1:(s2.step i r).items.map It.e=(s2.items.map It.e).set i (.agg r.it.cs):=by simp[lz.step,List.map_set,It.e]
  have e2:KC (s2.step i r).turns=(KC s2.turns).set i (.int .i64 (s2.turns.getD i 0+1)):=by simp[lz.step,KC,List.map_set]
  have e3:(s2.step i r).ev.map Ev.e=s2.ev.map Ev.e++r.ev.map Ev.e:=by simp[lz.step]
  rw[e1,e2,e3]
  have e4:rC c l k (s2.step i r) mi mt I=((((rC c l k s2 mi mt dev).set 10 (aZ r.g)).set 13 (aZ r.s)).set 14 I).set 16 (.int .i64 ((s2.bl:Int)+1)):=by
   simp[rC,lz.step]
  rw[e4];exact q
end
end Go.Am
namespace Go.Am
open Go
theorem qK {c:Code}{off:Nat}{v:List Int}{l:List It}:∀n,(passAt c off v l n).length=l.length
 | 0=>rfl
 | n+1=>by rw[passAt,List.length_set,qK n]
theorem wC {c:Code}{off:Nat}{v:List Int}{l:List It}:∀(n j:Nat),(passAt c off v l n)[j]?=if off<=j/\j<off+n then(l[j]?).map λ x=>(pF c x (v.getD (j-off) 0)).1 else l[j]?
 | 0,j=>by rw[if_neg (by omega)];rfl
 | n+1,j=>by
  have u:=wC (c:=c) (off:=off) (v:=v) (l:=l) n;rw[passAt];by_cases E:off+n=j
  ·subst E;rw[if_pos (by omega),show off+n-off=n by omega];have h1:=u (off+n);rw[if_neg (by omega)]at h1
   cases h:l[off+n]? with
   | none =>
    rw[List.getElem?_eq_none_iff]at h;simp only[Option.map_none];rw[List.getElem?_eq_none_iff,List.length_set,qK];exact h
   | some x =>
    rw[h]at h1;rw[List.getElem?_set_self (aq.1 h1).1,kJ h1];rfl
  ·rw[List.getElem?_set_ne E,u j];by_cases h1:off<=j/\j<off+n
   ·rw[if_pos h1,if_pos (by omega)]
   ·rw[if_neg h1,if_neg (by omega)]
theorem RW.items {c:Code}{l:bG}{k:Int}{s:lz}(w:RW c l k s){its:List It}(h1:its.length=s.items.length) (h2:∀(i:Nat) (x:It),its[i]?=some x->PC c l x/\x.id=k*c.group+(i:Int)):RW c l k { s with items:=its } :=
 ⟨by show(its.length:Int)=_;rw[h1];exact w.n,h2,w.g,w.sh,by show s.turns.length=its.length;rw[h1];exact w.tn,w.tv,w.bl,w.ev⟩
theorem RW.pass {c:Code}{l:bG}{k:Int}{s:lz}(hc:ba c) (w:RW c l k s){off n:Nat}{v:List Int}(hv:∀x∈v,mm x):RW c l k { s with items:=passAt c off v s.items n }:=by
 refine w.items (qK n) λ i x hx=>?_
 rw[wC]at hx;split at hx
 ·cases h:s.items[i]? with
  | none=>rw[h]at hx;cases hx
  | some y =>
   rw[h]at hx;cases hx;obtain⟨h1,h2⟩:=w.it i y h;exact⟨Z9 hc h1 (JE hv _),by rw[Xt];exact h2⟩
 ·exact w.it i x hx
theorem Q4 {c:Code}(hc:cE c):∃S n:Nat,c.sub=(S:Int)/\1<=S/\S<=8/\c.group=((n*S:Nat):Int)/\P1 c=n:=by
 have h1:=hc.group;have h2:=hc.sub;obtain⟨S,hS⟩:∃S:Nat,c.sub=(S:Int):=⟨c.sub.toNat,by omega⟩;obtain⟨G,u⟩:∃G:Nat,c.group=(G:Int):=⟨c.group.toNat,by omega⟩;have hd:=hc.dvd;rw[u,hS]at hd
 have E:G % S=0:=by
  have:((G % S:Nat):Int)=0:=by rw[<- hd,Int.ofNat_tmod]
  omega
 have hm:=Nat.div_add_mod G S;refine⟨S,G / S,hS,by omega,by omega,?_,?_⟩
 ·rw[u,Nat.mul_comm];congr 1;omega
 ·unfold P1;rw[u,hS, <- Int.natCast_ediv,aT]
theorem E7 {c:Code}{S n k:Nat}{l:List It}(hS:c.sub=(S:Int)) (hl:l.length=n*S) (hk:k<n):(E8 c l k).length=S/\k*S+S<=l.length:=by
 have:k*S+S<=n*S:=by
  have:=Nat.mul_le_mul_right S (show k+1<=n by omega);rw[Nat.add_mul,Nat.one_mul]at this;exact this
 unfold E8;rw[hS,aT,List.length_take,List.length_drop];omega
theorem Ox {c:Code}{S k i:Nat}{l:List It}(hS:c.sub=(S:Int)) (hi:i<S):(E8 c l k)[i]?=l[k*S+i]?:=by
 unfold E8;rw[hS,aT,List.getElem?_take,if_pos hi,List.getElem?_drop]
theorem Rl {c:Code}{l:List It}{q:Int}(h:uK c l q=true){i:Nat}{x:It}(hx:l[i]?=some x):x.at_=2/\x.block=(lO l 0).block/\(hU c x.block).kind=q:=by
 unfold uK at h;rw[Bool.not_eq_true',List.any_eq_false]at h;have:=h x (aK hx);simpa[and_assoc] using this
theorem KX {op:Int}{v x:List Int}(hv:∀a∈v,mm a):∀a,a∈mS op v x->mm a:=by
 intro a ha;simp only[mS,List.mem_map]at ha;obtain⟨i,-,rfl⟩:=ha
 have:∀j,mm (nA v j):=λ j=>by
  unfold nA
  cases e:v[j]? with
  | none=>exact⟨by simp,by simp⟩
  | some z=>exact hv z (aK e)
 unfold Kp;split
 ·exact dW _
 split
 ·split<;>exact⟨by omega,by omega⟩
 split
 ·split<;>exact⟨by omega,by omega⟩
 split
 ·exact dW _
 split
 ·exact dW _
 ·exact this _
structure Zm (c:Code) (own:List It):Prop where
 sub:1<=(hU c (lO own 0).block).sub/\(hU c (lO own 0).block).sub<=6
 a:jH c.regs (hU c (lO own 0).block).a
 b:jH c.regs (hU c (lO own 0).block).b
theorem Y3 {c:Code}{l:bG}(hc:ba c){own:List It}(hn:0<own.length) (hw:∀(i:Nat) (x:It),own[i]?=some x->PC c l x) (hm:uK c own 4=true):Zm c own:=by
 have h0:=aG hn;obtain⟨h1,h2,h3⟩:=Rl hm h0;obtain⟨k,Q,O,S,E,ht,-⟩:=hc.RL (hw 0 _ h0).block;obtain⟨-,-,u⟩:=hc.xs Q E;rw[ht]at h3;rw[<- kJ h0]at ht
 have key:∀t:Term,NO c.b.length c.regs t->t.kind=4->(1<=t.sub/\t.sub<=6)/\jH c.regs t.a/\jH c.regs t.b:=by
  intro t u h3
  cases u with
  | collect s d a b t hs hd ha hb h=>exact⟨hs,ha,hb⟩
  | _=>simp at h3
 obtain⟨I,H,G⟩:=key _ u h3;exact⟨by rw[ht];exact I,by rw[ht];exact H,by rw[ht];exact G⟩
theorem S2 {c:Code}{l:bG}{own:List It}(m:Zm c own) (hw:∀(i:Nat) (x:It),own[i]?=some x->PC c l x):∀a,a∈KY c own->mm a:=by
 refine KX λ a ha=>?_
 obtain⟨it,u,rfl⟩:=List.mem_map.1 ha;obtain⟨i,hi⟩:=db u;exact oh (hw i it hi).regs m.a
theorem RW.own {c:Code}{l:bG}{k:Int}{s:lz}(w:RW c l k s){S j:Nat}(hS:c.sub=(S:Int)):∀(i:Nat) (x:It),(E8 c s.items j)[i]?=some x->PC c l x:=by
 intro i x hx;by_cases hi:i<S
 ·rw[Ox hS hi]at hx;exact(w.it _ x hx).1
 ·have:=(aq.1 hx).1;unfold E8 at this;rw[hS,aT,List.length_take]at this;omega
theorem RW.adM {c:Code}{l:bG}{k:Int}{s:lz}(hc:cE c) (w:RW c l k s){n S j:Nat}(hS:c.sub=(S:Int)) (h1:1<=S) (hn:s.items.length=n*S) (hj:j<n):RW c l k { s with items:=(ny c s.items j).1 }/\(ny c s.items j).1.length=s.items.length:=by
 unfold ny;split
 ·rename_i hm;have hl:=(E7 hS hn hj).1;exact⟨w.pass hc.toba (S2 (Y3 hc.toba (by omega) (w.own hS) hm) (w.own hS)),qK _⟩
 ·exact⟨w,rfl⟩
theorem RW.chunks {c:Code}{l:bG}{k:Int}{s:lz}(hc:cE c) (w:RW c l k s){n S:Nat}(hS:c.sub=(S:Int)) (h1:1<=S) (hn:s.items.length=n*S):∀m,m<=n->RW c l k { s with items:=(bH c s.items m).1 }/\(bH c s.items m).1.length=s.items.length
 | 0,_=>⟨w,rfl⟩
 | m+1,hm=>by
  obtain⟨E,u⟩:=RW.chunks hc w hS h1 hn m (by omega);have:=E.adM hc hS h1 (by show(bH c s.items m).1.length=_;rw[u];exact hn) (show m<n by omega);exact⟨this.1,by rw[bH];exact this.2.trans u⟩
theorem Yo {c:Code}{l:List It}{S n j:Nat}(hS:c.sub=(S:Int)) (h1:1<=S) (hn:l.length=n*S) (hj:j<n) (h:(ny c l j).2=true):(lO (ny c l j).1 (j*S)).at_=1:=by
 unfold ny at h ⊢;split at h
 ·rename_i hm;rw[if_pos hm];obtain⟨E,u⟩:=E7 hS hn hj;have hx:l[j*S]?=some (l[j*S]'(by omega)):=aG _;have hg:=wC (c:=c) (off:=j*S) (v:=KY c (E8 c l j)) (l:=l) S (j*S);rw[if_pos (by omega),hx]at hg;have ho:(E8 c l j)[0]?=some (l[j*S]'(by omega)):=by rw[Ox hS (by omega),Nat.add_zero];exact hx
  have h2:=(Rl hm ho).1;rw[hS,aT];rw[kJ hg];show(pF c _ _).1.at_=1
  rw[BS h2]
 ·cases h
theorem S1 {c:Code}{l:List It}{j i:Nat}{x:It}(hx:l[i]?=some x) (h1:x.at_=1):(lO (ny c l j).1 i).at_=1:=by
 unfold ny;split
 ·have hg:=wC (c:=c) (off:=j*c.sub.toNat) (v:=KY c (E8 c l j)) (l:=l) c.sub.toNat i;rw[hx]at hg;split at hg
  ·rw[kJ hg];show(pF c x _).1.at_=1
   rw[Kn (by omega)];exact h1
  ·rw[kJ hg];exact h1
 ·rw[kJ hx];exact h1
theorem ML {c:Code}{l:bG}{k:Int}{s:lz}(hc:cE c) (w:RW c l k s){n S:Nat}(hS:c.sub=(S:Int)) (h1:1<=S) (hn:s.items.length=n*S):∀m,m<=n->(bH c s.items m).2=true->∃i,i<s.items.length/\(lO (bH c s.items m).1 i).at_=1
 | 0,_,h=>by cases h
 | m+1,hm,h=>by
  obtain⟨E,u⟩:=w.chunks hc hS h1 hn m (by omega);rw[bH]at h ⊢;simp only[Bool.or_eq_true]at h;by_cases h3:(ny c (bH c s.items m).1 m).2=true
  ·have:=Yo hS h1 (by rw[u];exact hn) (show m<n by omega) h3;have q:=(E7 (l:=(bH c s.items m).1) hS (by rw[u];exact hn) (show m<n by omega)).2;exact⟨m*S,by omega,this⟩
  ·obtain⟨i,hi,ha⟩:=ML hc w hS h1 hn m (by omega) (by rcases h with h|h;exact absurd h h3;exact h)
   have hx:(bH c s.items m).1[i]?=some (lO (bH c s.items m).1 i):=by
    have:=aG (l:=(bH c s.items m).1) (i:=i) (by omega);rw[this,kJ this]
   exact⟨i,hi,S1 hx ha⟩
theorem Ti {c:Code}{l:bG}{k:Int}{s:lz}(hc:cE c) (hl:bY c l) (w:RW c l k s){n S f:Nat}(hS:c.sub=(S:Int)) (h1:1<=S) (hn:s.items.length=n*S) (hf:200000-s.bl<f+1/\((∀i,i<s.items.length->(lO s.items i).at_≠1)->200001-s.bl<f+1)) (he:(iW c l s).2=0) (hp:(bH c (iW c l s).1.items n).2=true) :
  200000-(iW c l s).1.bl<f/\∃i,i<s.items.length/\(lO (bH c (iW c l s).1.items n).1 i).at_=1:=by
 obtain⟨E,G,I⟩:=JX hc.toba hl w;have hb:=E.bl;obtain⟨i,hi,ha⟩:=ML hc E hS h1 (by rw[G];exact hn) n (Nat.le_refl _) hp;refine⟨?_,i,by omega,ha⟩;by_cases hx:∃i,i<s.items.length/\(lO s.items i).at_=1
 ·obtain⟨j,H,u⟩:=hx;have:=Oh hc.toba hl s.items.length 0 s w (by omega) ⟨j,by omega,by omega,u⟩ he;have:s.bl<(iW c l s).1.bl:=this;omega
 ·have:=hf.2 λ i hi h=>hx ⟨i,hi,h⟩
  omega
theorem NK {c:Code}{l:bG}{k:Int}(hc:cE c) (hl:bY c l){n S:Nat}(hS:c.sub=(S:Int)) (h1:1<=S):∀(f:Nat) (s:lz),RW c l k s->s.items.length=n*S->P1 c=n->RW c l k (allP c l f s).1
 | 0,s,w,hn,u=>w
 | f+1,s,w,hn,u=>by
  obtain⟨H,G,O⟩:=JX hc.toba hl w;unfold allP;split
  ·obtain⟨E,I⟩:=H.chunks hc hS h1 (by rw[G];exact hn) n (Nat.le_refl _);rw[u];split
   ·exact NK hc hl hS h1 f _ E (by show(bH c (iW c l s).1.items n).1.length=_;rw[I,G];exact hn) u
   ·exact E
  ·exact H
section
variable {c:Code}{l:bG}{k:Int}{nr mi mt:Nat}{h:Heap}{L:LSq}{s:lz}{KH:HKq}
theorem Ma {P:Program}{h:Heap}{K:D->Prop}{x y:D}:an P (.pick (.c (.bool true)) (.c x) (.c y)) h K=K x:=rfl
theorem O1 {P:Program}{h:Heap}{K:D->Prop}{x y:D}:an P (.pick (.c (.bool false)) (.c x) (.c y)) h K=K y:=rfl
theorem QG.ext {e:Nat}{h h':Heap}{L:LSq}{v:D}{T:List D}(x:Ext h h') (q:QG e h L v T):QG e h' L v T:=by
 rcases q with⟨rfl,u,V⟩|⟨m,rfl,V⟩
 ·exact Or.inl ⟨rfl,u,V.aS x⟩
 ·exact Or.inr ⟨m,rfl,V.aS x⟩
theorem QG.perm {e:Nat}{h:Heap}{L L':LSq}{v:D}{T:List D}(p:L.Perm L') (q:QG e h L v T):QG e h L' v T:=by
 rcases q with⟨rfl,u,V⟩|⟨m,rfl,V⟩
 ·exact Or.inl ⟨rfl,u,V.perm p⟩
 ·exact Or.inr ⟨m,rfl,V.perm (p.cons _)⟩
theorem RB.ext {h':Heap}(x:Ext h h') (rb:RB c l k nr mi mt h L s):RB c l k nr mi mt h' L s:=by
 obtain⟨dev,q⟩:=rb;exact⟨dev,q.ext x⟩
theorem RB.perm {L':LSq}(p:L.Perm L') (rb:RB c l k nr mi mt h L s):RB c l k nr mi mt h L' s:=by
 obtain⟨dev,q⟩:=rb;exact⟨dev,q.perm (((p.cons _).cons _).cons _)⟩
structure RVr (c:Code) (l:bG) (k:Int) (nr mi mt:Nat) (h:Heap) (s:lz) (dev:D):Prop where
 r:h nr=.box (.agg (rC c l k s mi mt dev))
 i:h mi=.arr 7 (s.items.map It.e)
theorem RB.rv (rb:RB c l k nr mi mt h L s):∃dev,RVr c l k nr mi mt h s dev:=by
 obtain⟨dev,q⟩:=rb;exact⟨dev,q.vs.get 0 _ _ rfl,q.vs.get 1 _ _ rfl⟩
theorem RVr.ext {h':Heap}{dev:D}(x:Ext h h') (v:RVr c l k nr mi mt h s dev):RVr c l k nr mi mt h' s dev:=⟨by rw[x nr (by rw[v.r];simp)];exact v.r,by rw[x mi (by rw[v.i];simp)];exact v.i⟩
def meetB (c:Code) (b q:Int) (d:D):Bool:=match d with
 | .agg (_::.int _ a::.int _ b'::_)=> !(decide (a=2)&&decide (b'=b)&&decide ((hU c b').kind=q))
 | _=>false
theorem YD {dev:D}{it SM:It}{b1 b2 b3 n off:Nat}{q:Int}(hc:ba c) (v:RVr c l k nr mi mt h s dev) (h1:h b1=.box (.ms mi off n)) (h2:h b2=.box (.ptr nr 0 0)) (h3:h b3=.box (.int .i64 q)) (h0:0<n) (ho:s.items[off]?=some SM) (hb:0<=it.block/\it.block<(c.b.length:Int))
  (hK:∀h',Ext h h'->KH (.bool (meetB c SM.block q it.e)) h'):ab PP (.callv (.c (.fn gl [] [.ptr b1 0 0,.ptr b2 0 0,.ptr b3 0 0])) [.c it.e]) h KH:=by
 refine⟨by kernel_rfl,?_⟩;show ag PP gl [it.e,.ptr b1 0 0,.ptr b2 0 0,.ptr b3 0 0] h KH
 refine aI vY (aC _ _ _) rfl (vz _ _ _ _ _) ?_;dsimp only[oJ,xB,yF,yI,yL,yP];rw[jX];refine⟨it.bR.one,λ u t=>?_⟩;have x:Ext h (ak h u (.box it.e)):=Ext.new t _;have hK:=hK _ x;have G:(ak h u (.box it.e)) u=.box (.agg it.cs):=af _ _ _;have v:=v.ext x;have h1:(ak h u (.box it.e)) b1=.box (.ms mi off n):=by rw[x b1 (by rw[h1];simp)];exact h1
 have h2:(ak h u (.box it.e)) b2=.box (.ptr nr 0 0):=by rw[x b2 (by rw[h2];simp)];exact h2
 have h3:(ak h u (.box it.e)) b3=.box (.int .i64 q):=by rw[x b3 (by rw[h3];simp)];exact h3
 generalize ak h u (.box it.e)=H at *;clear t x;have I:(H u).used=true:=by rw[G];rfl
 have S:(H nr).used=true:=by rw[v.r];rfl
 have U:(H mi).used=true:=by rw[v.i];rfl
 simp only[↓uX I,↓aX G (j:=1) rfl,Nat.zero_add,Nat.reduceAdd];by_cases ha:it.at_=2
 case neg =>
  have e:meetB c SM.block q it.e=true:=by simp[meetB,It.e,It.cs,ha]
  rw[e]at hK;simp (disch:=omega) only[↓cS,↓gS,↓Ma,↓O1];exact hK
 simp (disch:=omega) only[↓cS,↓gS,↓uX I,↓aX G (j:=2) rfl,Nat.zero_add,Nat.reduceAdd,↓sj h1 rfl];rw[O4 v.i rfl (by omega) (by omega)];simp only[↓uX U,Int.toNat_zero,Nat.add_zero,Nat.zero_add];rw[Zc v.i (Bh ho) (j:=2) rfl];by_cases E:it.block=SM.block
 case neg =>
  have e:meetB c SM.block q it.e=true:=by simp[meetB,It.e,It.cs,E]
  rw[e]at hK;simp (disch:=omega) only[↓cS,↓gS,↓Ma,↓O1];exact hK
 obtain⟨kb,Q,O,W,V,ht,-⟩:=hc.RL hb;simp (disch:=omega) only[↓cS,↓gS,↓O1,↓sj h2 rfl,↓uX S,↓aX v.r (j:=7) rfl,↓uX I,↓aX G (j:=2) rfl,Nat.zero_add,Nat.reduceAdd,O];rw[eD,K8 W]
 have Z:∀{K:D->Prop},an PP (.ld (.c (.vp Q.e 1)) 1 false) H K=K (.int .i64 Q.t.kind):=by
  intro K;rw[fB,kH,bg];rfl
 simp only[↓qo,Nat.zero_add,Nat.add_zero,Z,↓sj h3 rfl];rw[E]at ht;by_cases hq:Q.t.kind=q
 ·have e:meetB c SM.block q it.e=false:=by grind [meetB,It.e,It.cs]
  rw[e]at hK;simp (disch:=omega) only[↓cS,↓gS,↓Ma,↓O1];exact hK
 ·have e:meetB c SM.block q it.e=true:=by grind [meetB,It.e,It.cs]
  rw[e]at hK;simp (disch:=omega) only[↓cS,↓gS,↓Ma,↓O1];exact hK
theorem Wm {off n:Nat}{q:Int}(hc:ba c) (w:RW c l k s) (rb:RB c l k nr mi mt h L s) (hn:off+n<=s.items.length)
  (hK:∀h',RB c l k nr mi mt h' L s->KH (.bool (uK c ((s.items.drop off).take n) q)) h'):ag PP jz [.ptr nr 0 0,.ms mi off n,.int .i64 q] h KH:=by
 have hg:=hc.group;have a1:=w.n;refine aI BM (aC _ _ _) rfl (AY _ _ _ _) ?_;dsimp only[sY,xB,xL];obtain⟨own,hown⟩:∃own,own=(s.items.drop off).take n:=⟨_,rfl⟩;have G:own.length=n:=by grind
 have Z:∀i,i<n->own[i]?=s.items[off+i]?:=λ i hi=>by grind
 rw[<- hown]at hK;rw[jX];refine⟨by simp,λ b2 t2=>?_⟩;have x1:=Ext.new t2 (Slot.box (.ptr nr 0 0));have e2:(ak h b2 (Slot.box (.ptr nr 0 0))) b2=Slot.box (.ptr nr 0 0):=af _ _ _;generalize ak h b2 (Slot.box (.ptr nr 0 0))=H1 at *;rw[jX];refine⟨by simp,λ b1 t1=>?_⟩;have U:=Ext.new t1 (Slot.box (.ms mi off n));have u:(ak H1 b1 (Slot.box (.ms mi off n))) b1=Slot.box (.ms mi off n):=af _ _ _;have e2:(ak H1 b1 (Slot.box (.ms mi off n))) b2=Slot.box (.ptr nr 0 0):=by rw[U b2 (by rw[e2];simp)];exact e2
 have x3:=x1.trans U;generalize ak H1 b1 (Slot.box (.ms mi off n))=Q at *;rw[jX];refine⟨by simp,λ b3 t3=>?_⟩;have S:=Ext.new t3 (Slot.box (.int .i64 q));have e3:(ak Q b3 (Slot.box (.int .i64 q))) b3=Slot.box (.int .i64 q):=af _ _ _;have u:(ak Q b3 (Slot.box (.int .i64 q))) b1=Slot.box (.ms mi off n):=by rw[S b1 (by rw[u];simp)];exact u
 have e2:(ak Q b3 (Slot.box (.int .i64 q))) b2=Slot.box (.ptr nr 0 0):=by rw[S b2 (by rw[e2];simp)];exact e2
 have W:=x3.trans S;generalize ak Q b3 (Slot.box (.int .i64 q))=H at *;rw[ub u rfl];simp only[↓xv,List.map_nil,List.map_cons,xw];obtain⟨dev,v⟩:=rb.rv;have v:=v.ext W;have hK:=λ h' (x:Ext H h')=>hK h' (rb.ext (W.trans x))
 have rd:Wy 7 H (.ms mi off n) (own.map It.e):=⟨λ x hx=>by
  obtain⟨it,-,rfl⟩:=List.mem_map.1 hx
  exact it.agg,Or.inr ⟨mi,off,_,by rw[aE,G],v.i,by rw[aE,G,hown,List.map_take,List.map_drop]⟩⟩
 have hm:(own.map It.e).any (meetB c (lO own 0).block q) = !uK c own q:=by
  rw[List.any_map];unfold uK;rw[Bool.not_not];rfl
 refine FA (p:=meetB c (lO own 0).block q) rd (by rw[aE];omega) (λ x hx h' E KH hK=>?_) λ h' E=>?_
 ·obtain⟨it,V,rfl⟩:=List.mem_map.1 hx;obtain⟨i,hi⟩:=db V;have a2:=(aq.1 hi).1;have h0:own[0]?=some (own[0]'(by omega)):=aG _;have I:=hi;rw[Z i (by omega)]at I;have O:=h0;rw[Z 0 (by omega),Nat.add_zero]at O;refine YD hc (v.ext E) (by rw[E b1 (by rw[u];simp)];exact u) (by rw[E b2 (by rw[e2];simp)];exact e2) (by rw[E b3 (by rw[e3];simp)];exact e3) (by omega) O (w.it _ _ I).1.block λ a5 U=>?_
  grind [kJ]
 grind [Od]
theorem aaT {it:It}{v:Int}{K:D->Prop}(hc:ba c) (hi:PC c l it) (hk:K (.tup [(pF c it v).1.e,.int .i64 (pF c it v).2])):an PP (.call sB [.c c.e,.c it.e,.c (.int .i32 v)]) h K :=
 Ah (Z7 hc hi.toItW) (λ d hd=>by
  simp at hd;rcases hd with rfl|rfl|rfl
  ·exact kL c
  ·exact it.bR.pair
  ·exact dT) hk
def WdR (L:LSq) (d:D) (v:List Int):Prop:=d=words v\/∃(q j:Nat),d=.ms q 0 v.length/\L[j]?=some (q,.arr 1 (v.map (.int .i32)))
theorem Wl {off n:Nat}{d:D}{v:List Int}(hc:ba c) (w:RW c l k s) (rb:RB c l k nr mi mt h L s) (hn:off+n<=s.items.length) (hv:v.length=n) (wd:WdR L d v) (hi32:∀x∈v,mm x)
  (hK:∀h',RB c l k nr mi mt h' L { s with items:=passAt c off v s.items n }->KH (.tup []) h'):ag PP jy [.ptr nr 0 0,.ms mi off n,d] h KH:=by
 have hg:=hc.group;have Z:=w.n;refine aI BL (aC _ _ _) rfl (AX _ _ _ _) ?_;unfold sX;obtain⟨dev,v0⟩:=rb.rv;rw[I1 v0.i];clear v0 dev;dsimp only[oH,xS,yF,yI,yL];refine⟨λ m x h'=>∃i:Nat,x=[.int .i64 (i:Int)]/\m+i=n/\RB c l k nr mi mt h' L { s with items:=passAt c off v s.items i },n,⟨0,rfl,by omega,rb⟩,?_⟩;rintro m f h1 ⟨i,hx,a2,E⟩;simp only[av,and_true]at hx;simp only[hx];by_cases hi:i<n
 case neg =>
  simp (disch:=omega) only[↓cS,↓ah];grind
 have Q:=w.pass hc (off:=off) (n:=i) hi32;obtain⟨dev,q⟩:=E;have V:=q.vs;have a0:=V.get 0 _ _ rfl;have O:=V.get 1 _ _ rfl;have S:(h1 nr).used=true:=by rw[a0];rfl
 have a5:(passAt c off v s.items i).length=s.items.length:=qK i;obtain⟨x,u,W⟩:∃x,(passAt c off v s.items i)[off+i]?=some x/\lO (passAt c off v s.items i) (off+i)=x:=⟨_,aG (by omega),kJ (aG (by omega))⟩;have G:=(Q.it _ x u).1
 have H:v[i]?=some (v.getD i 0):=by
  grind
 have I:∀{K:D->Prop},an PP (.ld (.c (.ptr nr 0 0)) 8 true) h1 K=K c.e:=gI a0 (by show 0+8<=17;omega) rfl;simp (disch:=omega) only[↓cS,↓ai,↓uX S,Nat.zero_add,I];rw[O4 O rfl (by omega) (by omega),aT,Zd O (s:=7) (Bh u) rfl]
 have rest:∀{K:D->Prop},(an PP (.iadd (.c d) (.c (.int .i64 (i:Int))) 1) h1 λ a=>an PP (.ld (.c a) 1 false) h1 K)=K (.int .i32 (v.getD i 0)):=by
  intro K;rcases wd with rfl|⟨qq,j,rfl,hj⟩
  ·rw[eD,Zs H,fB,Qa]
  ·have a3:=V.get (j+3) _ _ hj;rw[O4 a3 rfl (by omega) (by omega),aT,Nat.zero_add,Ze a3 (d:=.int .i32 (v.getD i 0)) (by grind) rfl]
 rw[rest];refine aaT hc G ?_;simp only[↓xy,↓h_ext,List.getElem?_cons_zero,List.getElem?_cons_succ];rw[O4 O rfl (by omega) (by omega),aT];refine q.stR 1 rfl (Bh u) rfl rfl (pF c x (v.getD i 0)).1.bR.one λ h2 U=>?_
 simp only[List.set_cons_succ,List.set_cons_zero]at U;simp (disch:=omega) only[↓cS,ae,true_and];refine⟨n-(i+1),by omega,i+1,by simp,by omega,dev,?_⟩;grind [passAt,It.e,List.map_set,rC]
end
end Go.Am
namespace Go.Am
open Go
theorem UO (a:Nat) (ha:a<18446744073709551616):ibits .and .u64 (a:Int) 4294967295=((a % 4294967296:Nat):Int):=by
 rw[show ibits .and .u64 (a:Int) 4294967295=((a &&& 4294967295:Nat):Int) from aax a 4294967295 ha (by decide)];rw[show a &&& 4294967295=a % 4294967296 from Nat.and_two_pow_sub_one_eq_mod a 32]
theorem abF (a:Nat):Ky .u64 (a:Int) 32=((a / 4294967296:Nat):Int):=aau a 32 (by decide)
theorem Yt (a b:Nat) (ha:a<32768) (hb:b<32768):aV PP mJ [.int .u64 (a:Int),.int .u64 (b:Int)] (· = .tup [.int .u64 0,.int .u64 ((a*b:Nat):Int)]):=by
 refine bt Bs (aC _ _ _) rfl (AA _ _ _) ?_;unfold sL
 have I:a*b<1073741824:=by
  have:=Nat.mul_lt_mul'' ha hb;omega
 have ma:ibits .and .u64 (a:Int) 4294967295=(a:Int):=by grind [UO]
 have G:ibits .and .u64 (b:Int) 4294967295=(b:Int):=by grind [UO]
 have s1:∀x:Nat,x<4294967296->Ky .u64 (x:Int) 32=0:=by
  grind [abF]
 have sa:=s1 a (by omega);have sb:=s1 b (by omega)
 have hp:IntKind.u64.wrap ((a:Int)*(b:Int))=((a*b:Nat):Int):=by
  rw[show((a:Int)*(b:Int))=((a*b:Nat):Int) by simp,TE,Nat.mod_eq_of_lt (by omega)]
 have sp:=s1 (a*b) (by omega);have w0:IntKind.u64.wrap 0=0:=by decide
 have H:ibits .and .u64 0 4294967295=0:=by decide
 have E:Ky .u64 0 32=0:=by decide
 have u:(0:Int)<=32:=by omega
 simp only[↓Mj,↓QZ,↓CY,↓ca,ma,G,sa,sb,u,true_and,hp,Int.zero_mul,Int.mul_zero,w0,sp,Int.add_zero,H,E];refine EJ (λ d hd=>?_) rfl;simp only[List.mem_cons,List.not_mem_nil,or_false]at hd;rcases hd with rfl|rfl<;>exact bh.pair
theorem acG (a b:Nat) (ha:a<32768) (hb:b<32768):aV PP ph [.int .u64 (a:Int),.int .u64 (b:Int)] (· = .tup [.int .u64 0,.int .u64 ((a*b:Nat):Int)]):=by
 refine bt Ew (aC _ _ _) rfl (Ej _ _ _) ?_;dsimp only[xA,xC];rw[ah];refine bk (Yt a b ha hb) (by simp[↓TA]) ?_;rintro r rfl;simp only[h_ext];exact EJ (by simp[↓TA]) rfl
theorem Ud {d:D}{els:List D}{n c:Nat}(hl:els.length=c) (hn:n<=c) (ht:els.take n=List.replicate n d) :
  (els.take n++(els.take n).take (c-n)++els.drop (n+min n (c-n))).take (n+min n (c-n))=List.replicate (n+min n (c-n)) d /\
   (els.take n++(els.take n).take (c-n)++els.drop (n+min n (c-n))).length=c:=by
 grind [List.replicate_append_replicate]
theorem Vs.MK {h:Heap}{L:LSq}{KH:HKq}{m off len:Nat}{x:D}{els ys:List D}(V:Vs h ((m,.arr 1 els)::L)) (hx:∀{K:List D->Prop},K ys->velems 1 x h K) (h1:∀y∈ys,aD y) (hl:off+len<=els.length)
  (hK:∀h',Vs h' ((m,.arr 1 (els.take off++ys.take len++els.drop (off+min ys.length len)))::L)->KH (.int .i64 (min ys.length len:Nat)) h'):ab PP (.MK (.c (.ms m off len)) (.c x) 1) h KH:=by
 rw[Y8];refine hx ⟨h1,els,V.get 0 _ _ rfl,hl,?_⟩;have:=V.aM 0 rfl (s':=.arr 1 (els.take off++ys.take len++els.drop (off+min ys.length len))) (by simp);exact hK _ this
theorem Mh {h:Heap}{m off len:Nat}{els:List D}{K:List D->Prop}(hm:h m=.arr 1 els) (hl:off+len<=els.length) (hK:K ((els.drop off).take len)):velems 1 (.ms m off len) h K:=⟨els,by rw[hm];rfl,hl,hK⟩
theorem Wo {h:Heap}{L:LSq}{KH:HKq}(V:Vs h L){n:Nat}(hn1:1<=n) (hn:n<=30000){k:Int}{d:D}(hd:d=.sl [.int .i32 k]\/∃(m i:Nat),d=.ms m 0 1/\L[i]?=some (m,Slot.arr 1 [.int .i32 k]))
  (hK:∀m h',Vs h' ((m,.arr 1 (List.replicate n (.int .i32 k)))::L)->KH (.ms m 0 n) h'):ag PP er [d,.int .i64 (n:Int)] h KH:=by
 refine aI nv (aC _ _ _) rfl (nu _ _ _) ?_;dsimp only[jf,xC,xP]
 have Z:∀{K:D->Prop},bq d h K=K (.int .i64 ((1:Nat):Int)):=by
  intro K;rcases hd with rfl|⟨m,i,rfl,hi⟩
  ·rfl
  ·rw[ko,V.get i _ _ hi];apply propext;exact⟨λ hh=>hh.2,λ hk=>⟨rfl,hk⟩⟩
 refine⟨λ _ h'=>h'=h,?_,?_⟩
 ·rintro _ h5 rfl;rw[Z,eZ,eZ];have W:IntKind.u64.wrap ((1:Nat):Int)=((1:Nat):Int):=by rw[TE]
  have U:IntKind.u64.wrap (n:Int)=(n:Int):=by rw[TE,Nat.mod_eq_of_lt (by omega)]
  rw[W,U];refine bk (acG 1 n (by omega) (by omega)) (by simp[↓TA]) ?_;rintro r rfl;simp only[h_ext,List.getElem?_cons_zero,List.getElem?_cons_succ];refine⟨λ _ h'=>h'=h5,?_,?_⟩
  ·rintro _ h6 rfl;rw[eZ,Nat.one_mul,wrap64 (by omega) (by omega)];refine V.mkr (by omega) (by omega) λ m h7 S=>?_
   refine S.MK (ys:=[.int .i32 k]) (λ {K} hk=>?_) (λ y hy=>by simp at hy;subst hy;exact bh.one) (by simp) λ h8 V2=>?_
   ·rcases hd with rfl|⟨m',i,rfl,hi⟩
    ·exact⟨λ e he=>by simp at he;subst he;rfl,hk⟩
    ·exact Mh (els:=[.int .i32 k]) (S.get (i+1) _ _ (by simpa using hi)) (by simp) hk
   refine⟨λ _ h'=>Vs h' ((m,.arr 1 (List.replicate n (.int .i32 k)))::L),λ _ I u=>hK m I u,?_⟩;unfold gJ;refine⟨λ q l h'=>∃(j:Nat) (els:List D),l=[.int .i64 (j:Int)]/\q=n-j/\1<=j/\j<=n/\Vs h' ((m,.arr 1 els)::L)/\els.length=n/\els.take j=List.replicate j (.int .i32 k),_,⟨1,_,?_,rfl,by omega,hn1,V2,?_,?_⟩,?_⟩
   ·grind
   ·simp;omega
   ·grind
   rintro q f I ⟨j,els,O,hq,a2,G,u,hl,ht⟩;simp only[av,and_true]at O;simp only[O];rw[ko,u.get 0 _ _ rfl];refine⟨rfl,?_⟩;by_cases a1:j<n
   ·rw[DY (by omega),ai];simp only[VA,BW];simp only[vopt,vint,Arg.get];have row:∃E,(I m).row=some (1,E):=⟨els,by rw[u.get 0 _ _ rfl];rfl⟩;refine⟨by omega,by omega,by omega,by omega,row,by omega,by omega,by omega,by omega,row,?_⟩;have e1:0+(j:Int).toNat=j:=by omega
    have e2:((n:Int)-(j:Int)).toNat=n-j:=by omega
    have e4:((j:Int)-((0:Nat):Int)).toNat=j:=by omega
    simp only[e1,e2,e4];refine u.MK (ys:=els.take j) (λ {K} hk=>Mh (u.get 0 _ _ rfl) (by simp;omega) (by simpa using hk)) (λ y hy=>by rw[ht]at hy;obtain⟨-,rfl⟩:=List.mem_replicate.1 hy;exact bh.one) (by omega) λ a5 Q=>?_
    have H:(els.take j).length=j:=by simp;omega
    simp only[H]at Q ⊢;rw[acO (by omega) (by omega)];simp only[ae,true_and];have rs:=Ud hl G ht;exact⟨_,by omega,j+min j (n-j),_,by congr 2,rfl,by omega,by omega,Q,rs.2,rs.1⟩
   grind [HZ,ah,ae]
  grind [gtF,nQ,Hg,ah,ae]
 grind [HZ,ah,ae]
theorem HN {esz:Nat}{v:D}{els:List D}{h:Heap}{K:D->Prop}(ho:Own esz h v els) (hv:∀x∈els,∀y∈x.cells,y.vone=true) (hne:els=[]->False) (hk:K (.tup [.sl els,.int .i64 0])):yn K (.tup [v,.int .i64 0]) h:=by
 rcases ho with⟨-,he⟩|⟨n,rfl,hn⟩
 ·exact absurd he hne
 ·have u:(h n).row=some (esz,els):=by rw[hn];rfl
  refine⟨λ d hd=>?_,λ d hd=>?_,?_,?_⟩
  ·simp[↓TA]at hd;rcases hd with rfl|rfl<;>simp[↓TA]
  ·simp[↓TA]at hd;rcases hd with rfl|rfl
   ·intro x hx;simp only[D.cells,List.mem_singleton]at hx;subst hx;exact⟨esz,els,u,by simp[↓TA],λ x hx y hy=>hv x (by simpa using hx) y hy⟩
   ·intro x hx;simp only[D.cells,List.mem_singleton]at hx;subst hx;trivial
  ·grind [D.fzt,D.fz,D.fzc,D.JR,D.vd,D.vone]
  grind [D.fzt,D.fz,D.fzc]
theorem Xu {esz:Nat}{h:Heap}{v:D}{els:List D}(ho:Own esz h v els){k:Nat}{d:D}(hb:h k=.box d):∀l,v≠.ms k 0 l:=by
 rintro l rfl;rcases ho with⟨hc,-⟩|⟨q,hc,hq⟩
 ·cases hc
 grind
theorem im (xs:List Int):(words xs).cells=[words xs]:=rfl
theorem nZ (v:List Int):words v=.sl (v.map (.int .i32)):=rfl
theorem a45 (g:Nat->Int->Int) (v:List Int) (start:Int) (fid:FuncId) (m:Nat) (h:Heap) (K:HKq) (hlen:v.length<=30000) (h1v:1<=v.length) (hcc:de PP fid=true)
  (hstep:∀(k:Nat) (s:Int) (K:HKq),k<v.length->K (.int .i32 (g k s)) h->ag PP fid [.int .i32 s,.int .i64 k,.ptr m 0 0] h K)
  (hk:∀n h',h' n=.arr 1 (List.replicate v.length (.int .i32 (qU g start v.length)))->K (.ms n 0 v.length) h') :
  ag PP fX [words v,.int .i32 start,.fn fid [] [.ptr m 0 0]] h K:=by
 refine aI Ey (aC _ _ _) rfl (Ek _ _ _ _) ?_;unfold xD;rw[nZ];refine⟨λ l h'=>l=[.int .i32 (qU g start v.length)]/\h'=h,?_,?_⟩
 ·rintro f h' ⟨u,rfl⟩;simp only[av,and_true]at u;rw[u];refine Qm rfl (by simp) rfl λ n t=>?_
  simp only[↓gd,aE];refine Wo (L:=[(n,.arr 1 [.int .i32 (qU g start v.length)])]) (Vs.nil.push t.free (by simp)) h1v hlen (Or.inr ⟨n,0,rfl,rfl⟩) λ O H V=>?_
  exact hk O H (V.get 0 _ _ rfl)
 ·simp only[↓gd,aE];unfold rj;refine⟨λ k l h'=>∃j:Nat,l=[.int .i32 (qU g start j),.int .i64 j]/\k+j=v.length/\h'=h,v.length,⟨0,rfl,by omega,rfl⟩,?_⟩;rintro k f h' ⟨j,u,Q,U⟩;subst U;simp only[av,and_true]at u;obtain⟨G,E⟩:=u;rw[G,E];by_cases S:j<v.length
  ·have h1:(j:Int)<(v.length:Int):=by omega
   have I:IntKind.i64.wrap ((j:Int)+1)=((j+1:Nat):Int):=by grind [wrap64]
   simp only[↓fK,h1,decide_true,ai,↓Nt,hcc,true_and,List.map_cons,List.map_nil,xw,List.nil_append,List.cons_append,↓ca,I,ae];exact hstep j _ _ S ⟨k-1,by omega,j+1,rfl,by omega,rfl⟩
  grind [fK,ah,ae]
theorem c47 (b:Bool):aV PP jS [.bool b] (· = .int .i32 (if b then 1 else 0)):=by
 refine bt Gp (aC _ _ _) rfl (FN _ _) ?_;unfold AG;cases b<;>simp[↓TA]
theorem TN (b:Bool):∀d,d∈[D.bool b]->d.vd=true/\aD d:=λ d hd=>by simp at hd;subst hd;exact⟨rfl,by simp⟩
section
variable {v:List Int}{m:Nat}{h:Heap}(hm:h m=.box (words v)){k:Nat}(hk:k<v.length) (s:Int) (K:HKq)
include hm hk
theorem a46 (hK:K (.int .i32 (ibits .or .i32 s (Kz .i32 (if nA v k=0 then 0 else 1) k))) h):ag PP gX [.int .i32 s,.int .i64 k,.ptr m 0 0] h K:=by
 refine aI xp (aC _ _ _) rfl (xd _ _ _ _) ?_;dsimp only[pN,xI,xL];have hg:v[k]?=some (nA v k):=by rw[nA,aG hk];rfl
 have u:v[k]=nA v k:=by grind
 simp only[↓kT,hm,im,↓bg,List.getElem?_cons_zero,true_and,nZ,↓JI,aT,hg];simp[↓TA,hk];refine bk (c47 _) (TN _) ?_;grind [Oc,WK]
theorem a48 (hK:K (.int .i32 (ibits .or .i32 s (if nA v k=0 then 0 else 1))) h):ag PP gW [.int .i32 s,.int .i64 k,.ptr m 0 0] h K:=by
 refine aI xo (aC _ _ _) rfl (xc _ _ _ _) ?_;dsimp only[pM,xI,xL];have hg:v[k]?=some (nA v k):=by rw[nA,aG hk];rfl
 have u:v[k]=nA v k:=by grind
 simp only[↓kT,hm,im,↓bg,List.getElem?_cons_zero,true_and,nZ,↓JI,aT,hg];simp[↓TA,hk];refine bk (c47 _) (TN _) ?_;grind [WK]
theorem a49 (hK:K (.int .i32 (ibits .and .i32 s (if nA v k=0 then 0 else 1))) h):ag PP gV [.int .i32 s,.int .i64 k,.ptr m 0 0] h K:=by
 refine aI xn (aC _ _ _) rfl (xb _ _ _ _) ?_;dsimp only[pL,xI,xL];have hg:v[k]?=some (nA v k):=by rw[nA,aG hk];rfl
 have u:v[k]=nA v k:=by grind
 simp only[↓kT,hm,im,↓bg,List.getElem?_cons_zero,true_and,nZ,↓JI,aT,hg];simp[↓TA,hk];refine bk (c47 _) (TN _) ?_;grind [Mj]
theorem a50 (hK:K (.int .i32 (IntKind.i32.wrap (s+nA v k))) h):ag PP gT [.int .i32 s,.int .i64 k,.ptr m 0 0] h K:=by
 refine aI xm (aC _ _ _) rfl (xa _ _ _ _) ?_;dsimp only[pK,xI,xL];have hg:v[k]?=some (nA v k):=by rw[nA,aG hk];rfl
 have u:v[k]=nA v k:=by grind
 simp only[↓kT,hm,im,↓bg,List.getElem?_cons_zero,true_and,nZ,↓JI,aT,hg];simp[↓TA,hk];rw[u];exact hK
end
def H6 (op:Int) (v x:List Int):D:=if gw op v x then .tup [.nil,.int .i64 1] else .tup [words (mS op v x),.int .i64 0]
theorem XS (v:List Int):(words v).vd=true/\aD (words v):=⟨rfl,λ x hx=>by rw[im]at hx;simp at hx;subst hx;rfl⟩
theorem Rr (xs:List Int):∀x,x∈xs.map (D.int .i32)->∀y∈x.cells,y.vone=true:=by
 intro x hx y hy;simp only[List.mem_map]at hx;obtain⟨z,-,rfl⟩:=hx;simp at hy;subst hy;rfl
theorem BR {n len:Nat}{c:Int}{h:Heap}{op:Int}{v x:List Int}(hb:¬gw op v x) (hlen:len=v.length) (hn:h n=.arr 1 (List.replicate len (.int .i32 c))) (hc:∀i,Kp op v x i=c) :
  yn (· = H6 op v x) (.tup [.ms n 0 len,.int .i64 0]) h:=by
 subst hlen;have hl:1<=v.length:=by unfold gw at hb;omega
 have e:List.replicate v.length (D.int .i32 c)=(mS op v x).map (.int .i32):=by
  unfold mS;rw[List.map_congr_left (g:=λ _=>c) (λ i _=>hc i)];simp[Function.comp_def,List.map_const']
 have el:D.ms n 0 v.length=.ms n 0 ((mS op v x).map (D.int .i32)).length:=by grind
 rw[el];refine HN (esz:=1) (els:=(mS op v x).map (.int .i32)) (Or.inr ⟨n,rfl,by rw[hn,e]⟩) (Rr _) (λ hn=>?_) ?_
 ·grind
 ·unfold H6;rw[if_neg hb];rfl
theorem c34 {op:Int}{v x:List Int}(hv:v.length<=1000000) (hxr:∀a∈x,-2147483648<=a/\a<=2147483647):aV PP kB [.int .i64 op,words v,words x] (· = H6 op v x):=by
 refine bt CT (aC _ _ _) rfl (CI _ _ _ _) ?_;dsimp only[vq,xB,xL,xP];rw[jX];refine⟨(XS v).2,λ m t=>?_⟩;obtain⟨G,eA⟩:∃G,G=ak bP m (.box (words v)):=⟨_,rfl⟩;rw[<- eA];have a0:G m=.box (words v):=by rw[eA,af]
 have c3:bq (words v) G=λ K=>K (.int .i64 (v.length:Int)):=by funext K;rw[nZ,gd,aE]
 have c2:bq (words x) G=λ K=>K (.int .i64 (x.length:Int)):=by funext K;rw[nZ,gd,aE]
 simp only[↓kT,a0,im,↓bg,List.getElem?_cons_zero,true_and,c3,c2];have e0:∀{h:Heap},gw op v x->yn (· = H6 op v x) (.tup [.nil,.int .i64 1]) h:=λ hb=>EJ (by simp) (by unfold H6;rw[if_pos hb])
 by_cases h1:v.length=x.length
 case neg =>
  have E:¬(v.length:Int)=(x.length:Int):=by omega
  simp only[↓mA,E,decide_false,Bool.not_false,↓nQ,ne_eq,Bool.true_eq_false,false_implies,true_and,not_false_eq_true,true_implies,↓Hg,if_true,ai];grind [gw]
 have E:(v.length:Int)=(x.length:Int):=by omega
 by_cases h2:v.length<1
 ·have I:(v.length:Int)<1:=by omega
  simp only[↓mA, <- E,I,decide_true,Bool.not_true,↓nQ,ne_eq,not_true_eq_false,dj,Bool.true_eq_false,false_implies,true_and,and_true,not_false_eq_true,true_implies,↓fK,↓Hg,if_true,if_false,ai];grind [gw]
 have I:¬(v.length:Int)<1:=by omega
 by_cases h3:32<v.length
 ·have S:32<(v.length:Int):=by omega
  simp only[↓mA, <- E,I,S,decide_true,decide_false,Bool.not_true,↓nQ,ne_eq,not_true_eq_false,dj,Bool.true_eq_false,false_implies,true_and,and_true,not_false_eq_true,true_implies,↓fK,↓zy,↓Hg,if_true,if_false,ai];grind [gw]
 have S:¬32<(v.length:Int):=by omega
 simp only[↓mA, <- E,I,S,decide_true,decide_false,Bool.not_true,↓nQ,ne_eq,not_true_eq_false,dj,Bool.true_eq_false,false_implies,true_and,and_true,not_false_eq_true,true_implies,↓fK,↓zy,↓Hg,if_true,if_false,ah,↓bZ];by_cases e1:op=1
 ·subst e1;simp only[decide_true,ai,↓xv,List.map_nil,List.map_cons,xw];simp only[a0,im,List.getElem?_cons_zero,true_and];refine a45 _ v 0 gX m G _ (by omega) (by omega) (by kernel_rfl) (λ k s K hk Q=>a46 a0 hk s K Q) λ n h' u=>?_
  rw[OT v _ (by omega)]at u;exact BR (by unfold gw;omega) rfl u λ i=>rfl
 by_cases e2:op=2
 ·subst e2;simp only[e1,decide_false,ah,decide_true,ai,↓xv,List.map_nil,List.map_cons,xw];simp only[a0,im,List.getElem?_cons_zero,true_and];refine a45 _ v 0 gW m G _ (by omega) (by omega) (by kernel_rfl) (λ k s K hk Q=>a48 a0 hk s K Q) λ n h' u=>?_
  rw[OU v]at u;exact BR (by unfold gw;omega) rfl u λ i=>rfl
 by_cases e3:op=3
 ·subst e3;simp only[e1,e2,decide_false,ah,decide_true,ai,↓xv,List.map_nil,List.map_cons,xw];simp only[a0,im,List.getElem?_cons_zero,true_and];refine a45 _ v 1 gV m G _ (by omega) (by omega) (by kernel_rfl) (λ k s K hk Q=>a49 a0 hk s K Q) λ n h' u=>?_
  rw[OV v]at u;exact BR (by unfold gw;omega) rfl u λ i=>rfl
 by_cases e6:op=6
 ·subst e6;simp only[e1,e2,e3,decide_false,ah,decide_true,ai,↓xv,List.map_nil,List.map_cons,xw];simp only[a0,im,List.getElem?_cons_zero,true_and];refine a45 _ v 0 gT m G _ (by omega) (by omega) (by kernel_rfl) (λ k s K hk Q=>a50 a0 hk s K Q) λ n h' u=>?_
  rw[OR v]at u;exact BR (by unfold gw;omega) rfl u λ i=>rfl
 simp only[e1,e2,e3,e6,decide_false,ah,ae,true_and];refine⟨λ l h'=>l=[.bool (decide (op=5\/op=4))]/\h'=G,?_,?_⟩
 case refine_2 =>
  by_cases e5:op=5
  ·simp[e5,ai]
  grind [ah]
 rintro f h' ⟨hf,hh⟩;subst hh;simp only[av,and_true]at hf;rw[hf];by_cases a8:op=5\/op=4
 case neg =>
  simp only[a8,decide_false,ah];grind [gw]
 simp only[a8,decide_true,ai];have O:¬gw op v x:=by unfold gw;omega
 have e8:1<=v.length:=by omega
 refine⟨λ l h'=>∃out,l=[out]/\Own 1 h' out ((mS op v x).map (.int .i32)),?_,?_⟩
 ·rintro f2 h2 ⟨out,a6,ho⟩;simp only[av,and_true]at a6;rw[a6];refine HN ho (Rr _) (λ hn=>?_) ?_
  ·grind [List.map_eq_nil_iff,KW]
  ·unfold H6;rw[if_neg O];rfl
 have W:∀h:Heap,bq (words v) h=λ K=>K (.int .i64 (v.length:Int)):=λ h=>by funext K;rw[nZ,gd,aE]
 simp only[a0,im,List.getElem?_cons_zero,true_and,W];dsimp only[pJ,xC,xI,xL]
 refine⟨λ k l h'=>∃(j:Nat) (out:D),l=[out,.int .i32 (qF (EY v j)),.int .i64 j]/\k+j=v.length/\h' m=.box (words v)/\Own 1 h' out (((List.range j).map (Kp op v x)).map (.int .i32)),v.length,
  ⟨0,.nil,by simp[EY,JO],by omega,a0,Or.inl ⟨rfl,rfl⟩⟩,?_⟩
 rintro k f3 h3 ⟨j,out,a5,e9,b0,ho⟩;simp only[av,and_true]at a5;obtain⟨g1,g2,g3⟩:=a5;rw[g1,g2,g3];by_cases hj:j<v.length
 case neg =>
  have H:¬(j:Int)<(v.length:Int):=by omega
  have c4:j=v.length:=by omega
  simp only[↓fK,H,decide_false,ah,ae,true_and];exact⟨out,rfl,by rw[c4]at ho;exact ho⟩
 have H:(j:Int)<(v.length:Int):=by omega
 have w1:IntKind.i64.wrap ((j:Int)+1)=((j+1:Nat):Int):=by grind [wrap64]
 have hg:v[j]?=some (nA v j):=by rw[nA,aG hj];rfl
 have Z:x[j]?=some (nA x j):=by grind [nA]
 have hs:IntKind.i32.wrap (qF (EY v j)+nA v j)=qF (EY v (j+1)):=by rw[EY];exact QU _ _
 have hr:∀c,(List.range (j+1)).map (Kp op v x)=(List.range j).map (Kp op v x)++[c]↔Kp op v x j=c:=λ c=>by rw[List.range_succ,List.map_append];simp
 simp only[↓fK,H,decide_true,ai];refine⟨λ l h'=>∃out,l=[out,.int .i32 (qF (EY v (j+1)))]/\h' m=.box (words v)/\Own 1 h' out (((List.range (j+1)).map (Kp op v x)).map (.int .i32)),?_,?_⟩
 ·rintro f4 h4 ⟨U,a2,b4,c1⟩;simp only[av,and_true]at a2;obtain⟨q1,u⟩:=a2;rw[q1,u];simp only[↓ca,w1,ae,true_and];exact⟨k-1,by omega,j+1,U,rfl,by omega,b4,c1⟩
 have app:∀c:Int,Kp op v x j=c->∀(z z':D),ab PP (.bldS true 1 1 z [(0,.c (.int .i32 c))]) h3 λ c9 c7 =>
   ab PP (.app (.c out) (.c c9) 1 4 z') c7 λ c8 a7=>∃out,[c8,D.int .i32 (qF (EY v (j+1)))]=[out,.int .i32 (qF (EY v (j+1)))]/\a7 m=.box (words v)/\Own 1 a7 out (((List.range (j+1)).map (Kp op v x)).map (.int .i32)):=by
  intro c hc z z';have hl:(((List.range j).map (Kp op v x)).map (D.int .i32)).length=j:=by simp
  refine Vc ho rfl (by simp) rfl (by rw[hl];omega) (by rw[hl];omega) λ v' h' q1 u=>⟨v',rfl,?_,?_⟩
  ·rw[u m (by rw[b0];simp) (Xu ho b0),b0]
  ·rw[(hr c).2 hc,List.map_append];exact q1
 simp only[↓kT,b0,im,↓bg,List.getElem?_cons_zero,true_and];simp only[nZ];simp only[↓jq,aE,aT,List.getElem?_map,hg,Option.map_some];refine⟨by omega,H,λ d hd=>?_⟩;cases hd;refine⟨rfl,?_⟩;simp only[↓kH,lV,↓bg,List.getElem?_cons_zero,↓ca,hs,↓bZ];by_cases e5:op=5
 ·subst e5;simp only[decide_true,ai,ae,true_and];exact app _ rfl _ _
 ·have e4:op=4:=by omega
  subst e4;simp only[e5,decide_false,ah];simp only[↓jq,aE,aT,List.getElem?_map,Z,Option.map_some];refine⟨by omega,by omega,λ d hd=>?_⟩;cases hd;refine⟨rfl,?_⟩;have e7:=hxr (nA x j) (aK Z);have wx:IntKind.i64.wrap (nA x j)=nA x j:=wrap64 (by omega) (by omega);simp only[↓kH,lV,↓bg,List.getElem?_cons_zero,↓eZ,wx,↓cy];refine⟨by omega,?_⟩;have m1:0<=nA x j % (v.length:Int):=Int.emod_nonneg _ (by omega);have m2:nA x j % (v.length:Int)<v.length:=Int.emod_lt_of_pos _ (by omega)
  have V:(nA x j).tmod (v.length:Int)=nA x j % (v.length:Int)\/(nA x j).tmod (v.length:Int)=nA x j % (v.length:Int)-v.length:=by
   grind
  refine⟨λ l h'=>l=[.int .i64 (nA x j % (v.length:Int))]/\h'=h3,?_,?_⟩
  ·rintro f5 h5 ⟨a1,c5⟩;subst c5;simp only[av,and_true]at a1;rw[a1];have c6:=YA (v:=v) (show(nA x j % (v.length:Int)).toNat<v.length by omega);simp only[↓kT,b0,im,↓bg,List.getElem?_cons_zero,true_and];simp only[nZ];simp only[↓jq,aE,List.getElem?_map,c6,Option.map_some];refine⟨m1,m2,λ d hd=>?_⟩;cases hd;refine⟨rfl,?_⟩;simp only[↓kH,lV,↓bg,List.getElem?_cons_zero,ae,true_and];exact app _ rfl _ _
  ·rcases V with V|V
   ·have:¬nA x j % (v.length:Int)<0:=by omega
    simp only[V,↓fK,this,decide_false,ah,ae,true_and]
   ·have:nA x j % (v.length:Int)-(v.length:Int)<0:=by omega
    have w5:IntKind.i64.wrap (nA x j % (v.length:Int)-(v.length:Int)+(v.length:Int))=nA x j % (v.length:Int):=by grind [wrap64]
    simp only[V,↓fK,this,decide_true,ai,↓ca,w5,ae,true_and]
end Go.Am
namespace Go.Am
open Go
def Tv (v:D) (T:List D) (A:LSq):Prop:=(v=.nil/\T=[]/\A=[])\/∃m,v=.ms m 0 T.length/\A=[(m,.arr 1 T)]
section
variable {h:Heap}{M:LSq}{KH:HKq}
theorem Tv.app {v z:D}{T:List D}{A:LSq}{y:Int}(b:Tv v T A) (V:Vs h (A++M)) (hb:T.length+1<=1000000)
  (hK:∀v' A' h',Tv v' (T++[.int .i32 y]) A'->Vs h' (A'++M)->KH v' h'):ab PP (.app (.c v) (.c (.sl [.int .i32 y])) 1 4 z) h KH:=by
 refine⟨λ d hd=>?_,λ d hd=>?_,?_⟩
 ·simp at hd;subst hd;rfl
 ·simp at hd;subst hd;exact(bh).one
 rcases b with⟨rfl,rfl,rfl⟩|⟨m,rfl,rfl⟩
 ·refine⟨⟨by simp,by simp⟩,λ n t=>?_⟩;exact hK _ _ _ (Or.inr ⟨n,rfl,rfl⟩) (V.push t.free (by simp))
 ·refine⟨T,.of (V.get 0 _ _ rfl),by simp,⟨by simp;omega,by simp;omega⟩,λ n t=>⟨?_,λ h0=>absurd rfl h0⟩⟩;have hn:=t.free;have H:=V.aM 0 rfl (s':=.dead) (by simp)
  have u:(ak h m .dead) n=.free:=by
   have:n≠m:=by rintro rfl;rw[V.get 0 _ _ rfl]at hn;cases hn
   grind [aa]
  have G:=H.push u (s:=.arr 1 (T++[.int .i32 y])) (by simp);have E:=(G.perm (List.Perm.swap _ _ _)).pop;refine hK _ [(n,.arr 1 (T++[.int .i32 y]))] _ (Or.inr ⟨n,by simp,rfl⟩) ?_;simpa using E
end
section
variable {c:Code}{l:bG}{k:Int}{nr mi mt:Nat}{h:Heap}{L M:LSq}{s:lz}{KH:HKq}
theorem RB.lift (rb:RB c l k nr mi mt h L s):∃X,Vs h (X++L)/\∀h' L',Vs h' (X++L')->RB c l k nr mi mt h' L' s:=by
 obtain⟨dev,q⟩:=rb;rcases q with⟨rfl,E,V⟩|⟨m,rfl,V⟩
 ·exact⟨[_,_,_],V,λ h' L' u=>⟨.nil,Or.inl ⟨rfl,E,u⟩⟩⟩
 ·exact⟨[_,_,_,_],V,λ h' L' u=>⟨_,Or.inr ⟨m,rfl,u⟩⟩⟩
theorem RB.vs (rb:RB c l k nr mi mt h L s):Vs h L:=by
 obtain⟨X,V,-⟩:=rb.lift;exact V.iw
theorem RB.app {v z:D}{T:List D}{A:LSq}{y:Int}(b:Tv v T A) (rb:RB c l k nr mi mt h (A++M) s) (hb:T.length+1<=1000000)
  (hK:∀v' A' h',Tv v' (T++[.int .i32 y]) A'->RB c l k nr mi mt h' (A'++M) s->KH v' h'):ab PP (.app (.c v) (.c (.sl [.int .i32 y])) 1 4 z) h KH:=by
 obtain⟨X,V,lift⟩:=rb.lift
 have p:∀A:LSq,(X++(A++M)).Perm (A++(M++X)):=λ A=>by
  grind [List.perm_append_comm]
 exact b.app (M:=M++X) (V.perm (p A)) hb λ v' A' h' u E=>hK v' A' h' u (lift h' _ (E.perm (p A').symm))
theorem RB.alloc {d:D}(rb:RB c l k nr mi mt h L s) (hK:∀n h',RB c l k nr mi mt h' ((n,.box d)::L) s->KH (.ptr n 0 0) h'):ab PP (.alloc d) h KH:=rb.Y1 hK
theorem RB.eU (rb:RB c l k nr mi mt h L s) (i:Nat){n e:Nat}{cs cs':List D}(hi:L[i]?=some (n,.box (.agg cs))) (hl:cs.length=e) (hl':cs'.length=e) (ho:∀x,x∈cs'->x.one=true)
  (hK:∀h',RB c l k nr mi mt h' (L.set i (n,.box (.agg cs'))) s->KH .undef h'):ab PP (.st (.c (.ptr n 0 0)) (.c (.agg cs')) e) h KH:=by
 obtain⟨dev,q⟩:=rb;exact q.eU (i+3) hi hl hl' ho λ h' u=>hK h' ⟨dev,u⟩
theorem RB.sub {L':LSq}(p:L'.Sublist L) (rb:RB c l k nr mi mt h L s):RB c l k nr mi mt h L' s:=by
 obtain⟨X,V,lift⟩:=rb.lift;exact lift h L' (V.sub (p.append_left X))
theorem BV {P:Program}{f:FuncId}{h h'':Heap}{ds ds':List D}{r:D}{KH:HKq}(i:NT h h'') (k:PD h'' ds ds') (hv:aV P f ds' (· = r)) (hK:KH r h''/\KH r (h''.freezeAll (ds.flatMap D.nm))):ag P f ds h KH:=by
 obtain⟨O,I,H,-,G⟩:=k.all;refine MT i (ag.mono ?_ (mW (K:=(· = r)) (aV.arg G hv) λ d hd=>⟨O d hd,I d hd,H _ (List.mem_map.2 ⟨d,hd,rfl⟩)⟩));rintro r' h' ⟨rfl,E,u⟩;by_cases hb:r'.flat=true\/ds.flatMap D.nm=[]
 ·rw[E hb];exact hK.1
 ·rw[u hb];exact hK.2
theorem aay (v:List Int):∀x,x∈v.map (D.int .i32)->∀y∈x.cells,y.vone=true:=λ x hx y hy=>by
 obtain⟨z,-,rfl⟩:=List.mem_map.1 hx;simp[D.cells]at hy;subst hy;rfl
theorem Tv.fz {v:D}{w:List Int}{A:LSq}(b:Tv v (w.map (.int .i32)) A) (hw:w≠[]) (V:∀n s,(n,s)∈A->h n=s):LN h v (words w)/\v.nm=A.map Prod.fst:=by
 rcases b with⟨-,h0,-⟩|⟨m,rfl,rfl⟩
 ·grind [List.map_eq_nil_iff]
 ·exact⟨fT (e:=1) (V m _ (by simp)) (aay w),rfl⟩
theorem Tr {op:Int}{dv dx:D}{v x:List Int}{A B:LSq}(hv:1<=v.length/\v.length<=32) (hl:v.length=x.length) (ho:1<=op/\op<=6) (hx:∀a∈x,mm a)
  (a:Tv dv (v.map (.int .i32)) A) (b:Tv dx (x.map (.int .i32)) B) (rb:RB c l k nr mi mt h (A++(B++M)) s)
  (hK:∀h',RB c l k nr mi mt h' M s->KH (.tup [words (mS op v x),.int .i64 0]) h'):ag PP kB [.int .i64 op,dv,dx] h KH:=by
 obtain⟨X,V,lift⟩:=rb.lift
 have u:Vs h (A++(B++(M++X))):=V.perm (by
  refine List.perm_append_comm.trans ?_
  rw[List.append_assoc,List.append_assoc])
 have g:=Vs.iff.1 u;obtain⟨fa,E⟩:=a.fz (h:=h) (by rintro rfl;simp at hv) (λ n s hm=>(g.1 n s (by simp[hm])).1);obtain⟨fb,nb⟩:=b.fz (h:=h) (by grind) (λ n s hm=>(g.1 n s (by simp[hm])).1)
 have hc:H6 op v x=.tup [words (mS op v x),.int .i64 0]:=by
  grind [gw,H6]
 have hM:∀h',(∀n,n∉A.map Prod.fst->n∉B.map Prod.fst->h' n=h n)->RB c l k nr mi mt h' M s:=λ h' hk=>by
  refine lift h' M (Vs.perm List.perm_append_comm ?_);refine(u.iw.iw).Rq λ n s hi=>?_
  grind
 refine BV (ds':=[.int .i64 op,words v,words x]) (.refl h) (.cons (bD rfl).d (.cons fa.d (.cons fb.d .nil))) (c34 (v:=v) (x:=x) (by omega) hx) ?_;grind [cx,D.nm,D.nR]
theorem Sa {it:It}{o:fQ}(ho:CP it.regs.length o) (hK:KH (.int .i32 (bN it.regs o)) h):ag PP cP [it.e,o.e] h KH:=by
 refine bk (Z6 ho) (λ d hd=>by
  simp at hd;rcases hd with rfl|rfl
  ·exact it.bR.pair
  ·exact⟨rfl,o.bR.one⟩) ?_
 rintro _ rfl;exact hK
theorem Tn {S n j:Nat}(hc:cE c) (w:RW c l k s) (rb:RB c l k nr mi mt h L s) (hS:c.sub=(S:Int)) (h1:1<=S/\S<=8) (hn:s.items.length=n*S) (hj:j<n)
  (hK:∀h',RB c l k nr mi mt h' L { s with items:=(ny c s.items j).1 }->KH (.bool (ny c s.items j).2) h'):ag PP gr [.ptr nr 0 0,.ms mi (j*S) S] h KH:=by
 have hg:=hc.group;have g6:=w.n;obtain⟨e9,hle⟩:=E7 hS hn hj;refine aI vZ (aC _ _ _) rfl (vA _ _ _) ?_;dsimp only[oK,xF,xL,xS,yF,yI,yL];refine Wm hc.toba w rb hle λ h4 a1=>?_
 have eo:(s.items.drop (j*S)).take S=E8 c s.items j:=by unfold E8;rw[hS,aT]
 rw[eo];obtain⟨own,hown⟩:∃own,own=E8 c s.items j:=⟨_,rfl⟩
 have c6:ny c s.items j=if uK c own 4 then(passAt c (j*S) (KY c own) s.items S,true) else(s.items,false):=by
  grind [ny]
 rw[c6]at hK;have og:∀i,i<S->own[i]?=s.items[j*S+i]?:=λ i hi=>by grind
 have U:∀(i:Nat) (x:It),own[i]?=some x->PC c l x:=by rw[hown];exact w.own hS
 rw[<- hown]at e9 ⊢;cases hm:uK c own 4
 ·rw[hm]at hK;simp only[↓gS];exact hK h4 a1
 rw[hm]at hK;simp only[if_true]at hK;simp only[↓gS];have ms:=Y3 hc.toba (by omega) U hm;have h0:own[0]?=some (own[0]'(by omega)):=aG _;have c7:=h0;rw[og 0 (by omega),Nat.add_zero]at c7;obtain⟨kb,Q,c1,hQ,g0,ht,-⟩:=hc.toba.RL (U 0 _ h0).block;rw[<- kJ h0]at ht c1;obtain⟨dev,v⟩:=a1.rv;have ur:(h4 nr).used=true:=by rw[v.r];rfl
 have ui:(h4 mi).used=true:=by rw[v.i];rfl
 simp only[↓uX ur,↓aX v.r (j:=7) rfl,Nat.zero_add,Nat.reduceAdd];rw[O4 v.i rfl (by omega) (by omega)];simp only[↓uX ui,Int.toNat_zero,Nat.add_zero,Nat.zero_add];rw[Zc v.i (Bh c7) (j:=2) (d:=.int .i64 (kb:Int)) (by rw[<- c1,kJ h0];rfl),eD,K8 hQ];simp only[↓qo,Nat.zero_add];rw[fB,VZ];have g8:=ht;obtain⟨T,hT⟩:∃T,T=Q.t:=⟨_,rfl⟩;obtain⟨m1,m2,m3⟩:=ms;rw[ht, <- hT]at m1 m2 m3;rw[<- hT];obtain⟨va,e8⟩:∃va,va=own.map λ it=>bN it.regs T.a:=⟨_,rfl⟩
 obtain⟨vb,e7⟩:∃vb,vb=own.map λ it=>bN it.regs T.b:=⟨_,rfl⟩
 have g7:KY c own=mS T.sub va vb:=by grind [KY]
 have la:va.length=S:=by grind
 have lb:vb.length=S:=by grind
 have ib:∀a∈vb,mm a:=λ a ha=>by
  rw[e7]at ha;obtain⟨it,a8,rfl⟩:=List.mem_map.1 ha;obtain⟨i,hi⟩:=db a8;exact oh (U i it hi).regs m3
 have ia:∀a∈va,mm a:=λ a ha=>by
  rw[e8]at ha;obtain⟨it,a8,rfl⟩:=List.mem_map.1 ha;obtain⟨i,hi⟩:=db a8;exact oh (U i it hi).regs m2
 clear v ur ui dev hT ht hQ g0 c1 rb;refine a1.alloc λ u h8 Z=>?_
 refine Z.eU 0 rfl rfl (cs':=T.cs) rfl T.bR.one λ h7 G=>?_
 simp only[List.set_cons_zero]at G;refine⟨λ x h'=>∃dv dx A B,x=[dv,dx]/\Tv dv (va.map (.int .i32)) A/\Tv dx (vb.map (.int .i32)) B/\RB c l k nr mi mt h' (A++(B++(u,.box (.agg T.cs))::L)) s,?_,?_⟩
 ·rintro f h' ⟨dv,dx,A,B,hx,a,b,O⟩;simp only[av,and_true]at hx;obtain⟨a7,a6⟩:=hx;rw[a7,a6];have c8:=((Vs.iff.1 O.vs).1 u (.box (.agg T.cs)) (by simp)).1;simp only[↓kn c8,↓cT c8 (j:=1) rfl];refine Tr (by omega) (by omega) m1 ib a b O λ h2 e4=>?_
  simp only[↓h_ext,List.getElem?_cons_zero,List.getElem?_cons_succ];have e0:=e4.push;refine Wl hc.toba w e0 hle (by rw[KW];exact la) (Or.inl rfl) (KX ia) λ h3 g5=>?_
  grind
 obtain⟨dev,v⟩:=G.rv;rw[I1 v.i];clear v dev;dsimp only[l7,xI,xL,xS,yF,yL]
 refine⟨λ m x h'=>∃(i:Nat) (dv dx:D) (A B:LSq),x=[dv,dx,.int .i64 (i:Int)]/\m+i=S/\Tv dv ((va.take i).map (.int .i32)) A/\Tv dx ((vb.take i).map (.int .i32)) B/\RB c l k nr mi mt h' (A++(B++(u,.box (.agg T.cs))::L)) s,
  S,⟨0,.nil,.nil,[],[],rfl,by omega,Or.inl ⟨rfl,by simp,rfl⟩,Or.inl ⟨rfl,by simp,rfl⟩,G⟩,?_⟩
 clear hK G Z;rintro m f h1 ⟨i,dv,dx,A,B,hx,g9,a,b,a5⟩;simp only[av,and_true]at hx;obtain⟨a7,a6,e6⟩:=hx;simp only[a7,a6,e6];by_cases hi:i<S
 case neg =>
  simp (disch:=omega) only[↓cS,↓ah,ae,true_and];grind
 obtain⟨x,c5⟩:∃x,own[i]?=some x:=⟨_,aG (by omega)⟩;have c4:=c5;rw[og i hi]at c4;have e5:=U i x c5;have ga:va[i]?=some (bN x.regs T.a):=by grind
 have gb:vb[i]?=some (bN x.regs T.b):=by grind
 simp (disch:=omega) only[↓cS,↓ai];obtain⟨dev,v⟩:=a5.rv;rw[Tz v.i rfl (by omega) (by omega),aT,UW v.i (s:=7) (Bh c4) rfl];clear v dev;refine a5.alloc λ E h6 W=>?_
 refine W.eU 0 rfl rfl (cs':=x.cs) rfl x.bR.one λ g2 I=>?_
 simp only[List.set_cons_zero]at I
 have fx:∀{h':Heap}{M:LSq},RB c l k nr mi mt h' M s->(E,Slot.box (.agg x.cs))∈M->(u,Slot.box (.agg T.cs))∈M ->
   h' E=.box (.agg x.cs)/\h' u=.box (.agg T.cs):=λ O e1 e2 =>
  ⟨((Vs.iff.1 O.vs).1 _ _ e1).1,((Vs.iff.1 O.vs).1 _ _ e2).1⟩
 have lx:∀{h':Heap}{K:D->Prop},h' E=.box (.agg x.cs)->an PP (.ld (.c (.ptr E 0 0)) 7 true) h' K=K x.e:=λ e=>gI e (by show 0+7<=7;omega) rfl
 have l5:∀{h':Heap}{K:D->Prop},h' u=.box (.agg T.cs)->an PP (.ld (.c (.ptr u 0 5)) 3 true) h' K=K T.a.e:=λ e=>gI e (by show 5+3<=13;omega) rfl
 have l8:∀{h':Heap}{K:D->Prop},h' u=.box (.agg T.cs)->an PP (.ld (.c (.ptr u 0 8)) 3 true) h' K=K T.b.e:=λ e=>gI e (by show 8+3<=13;omega) rfl
 have H:∀{A B:LSq},(E,Slot.box (.agg x.cs))∈A++(B++(E,.box (.agg x.cs))::(u,.box (.agg T.cs))::L)/\(u,Slot.box (.agg T.cs))∈A++(B++(E,.box (.agg x.cs))::(u,.box (.agg T.cs))::L):=λ {A B}=>⟨by simp,by simp⟩
 have c2:RB c l k nr mi mt g2 (A++(B++(E,.box (.agg x.cs))::(u,.box (.agg T.cs))::L)) s:=I.perm (by
  refine List.Perm.trans ?_ (List.perm_middle.symm.append_left A)
  exact List.perm_middle.symm)
 clear a5 W I;obtain⟨f1,f2⟩:=fx c2 H.1 H.2;have hra:=(m2.r:CP c.regs T.a);have hrb:=(m3.r:CP c.regs T.b);rw[<- e5.len]at hra hrb;simp only[↓lx f1,↓l5 f2,↓l8 f2,↓et f2];refine Sa hra ?_;simp only[↓lx f1,↓l5 f2,↓l8 f2,↓et f2,ae,true_and];refine KU (bh).one rfl (λ y hy=>by simp[D.cells]at hy;subst hy;rfl) (λ y hy=>by simp[D.cells]at hy;subst hy;rfl) ?_;refine RB.app a c2 (by simp;omega) λ g4 A2 g1 a2 V=>?_
 obtain⟨f1,f2⟩:=fx V H.1 H.2;simp only[↓lx f1,↓l5 f2,↓l8 f2,↓et f2,ae,true_and];refine Sa hrb ?_;refine KU (bh).one rfl (λ y hy=>by simp[D.cells]at hy;subst hy;rfl) (λ y hy=>by simp[D.cells]at hy;subst hy;rfl) ?_;have c9:RB c l k nr mi mt g1 (B++(A2++(E,.box (.agg x.cs))::(u,.box (.agg T.cs))::L)) s:=V.perm (List.perm_append_comm_assoc _ _ _);refine RB.app b c9 (by simp;omega) λ g3 B2 h5 b2 c3=>?_
 refine⟨S-(i+1),by omega,i+1,g4,g3,A2,B2,by simp,by omega,?_,?_,?_⟩
 ·grind [List.take_add_one]
 ·grind [List.take_add_one]
 ·refine RB.sub ?_ (c3.perm (List.perm_append_comm_assoc _ _ _));grind
end
end Go.Am
namespace Go.Am
open Go
section
variable {c:Code}{l:bG}{k:Int}{nr mi mt:Nat}{h:Heap}{L M:LSq}{s:lz}{KH:HKq}
theorem RB.get (rb:RB c l k nr mi mt h L s) (i:Nat){n:Nat}{t:Slot}(hi:L[i]?=some (n,t)):h n=t:=rb.vs.get i n t hi
theorem RB.aM (rb:RB c l k nr mi mt h L s) (i:Nat){n:Nat}{t t':Slot}(hi:L[i]?=some (n,t)) (ht:t'≠.free):RB c l k nr mi mt (ak h n t') (L.set i (n,t')) s:=by
 obtain⟨dev,q⟩:=rb;exact⟨dev,q.aM (i+3) (n:=n) (s:=t) hi ht⟩
theorem RB.Ur (rb:RB c l k nr mi mt h L s){n:Nat}(hn:h n=.free){t:Slot}(ht:t≠.free):RB c l k nr mi mt (ak h n t) ((n,t)::L) s:=by
 obtain⟨X,V,lift⟩:=rb.lift;exact lift _ _ ((V.push hn ht).perm List.perm_middle.symm)
theorem RB.zo (rb:RB c l k nr mi mt h L s) (i:Nat){n:Nat}{d d':D}(hi:L[i]?=some (n,.box d)) (h1:d.one=true) (h1':d'.one=true) (hK:∀h',RB c l k nr mi mt h' (L.set i (n,.box d')) s->KH .undef h'):ab PP (.st (.c (.ptr n 0 0)) (.c d') 1) h KH:=by
 rw[Go.Am.zo (rb.get i hi) (jk h1) (jk h1') h1'];exact hK _ (rb.aM i hi (by simp))
theorem RB.box {d:D}(rb:RB c l k nr mi mt h L s) (ho:aD d) (hK:∀n h',RB c l k nr mi mt h' ((n,.box d)::L) s->KH (.ptr n 0 0) h'):ab PP (.box (.c d)) h KH:=by
 rw[jX];exact⟨ho,λ n t=>hK n _ (rb.Ur t.free (by simp))⟩
def ckL (nk bn bs p mi S len:Nat) (st:LSt) (B:fu) (b:Bool) (L:LSq):LSq :=
 (nk,.lp st B)::(bn,.box (.int .i64 (S:Int)))::(bs,.box (.ms mi 0 len))::(p,.box (.bool b))::L
theorem S8:de PP bj=true:=by kernel_rfl
theorem Wn {S n nk bn bs p i0 b0:Nat}{B:fu}{a0:D}(hc:cE c) (w:RW c l k s) (hS:c.sub=(S:Int)) (h1:1<=S/\S<=8) (hn:s.items.length=n*S) (hb0:L[i0]?=some (b0,.box (.ptr nr 0 0)))
  (rb:RB c l k nr mi mt h (ckL nk bn bs p mi S s.items.length .ready B false L) s)
  (hps:B.ps=[22]) (hlt:∀p,p∈[22]->p<B.nt) (he:B.env=LEnv.get [(0,a0),(1,.ptr b0 0 0),(3,.ptr p 0 0)]) (hAs:Tu PP iV B.nt B.assign) (hBs:Tu PP iU B.nt B.body)
  (hK:∀h',RB c l k nr mi mt h' (ckL nk bn bs p mi S s.items.length .ready B (bH c s.items n).2 L) { s with items:=(bH c s.items n).1 }->KH (.tup []) h') :
  ag PP bj [.yld nk,.ptr bs 0 0,.ptr bn 0 0] h KH:=by
 have hg:=hc.group;have a5:=w.n;refine aI jL (aC _ _ _) rfl (jJ _ _ _ _) ?_;dsimp only[eM,dK,xL,yL];refine⟨λ m x h'=>∃j:Nat,x=[.int .i64 ((j*S:Nat):Int)]/\m+j=n/\RB c l k nr mi mt h' (ckL nk bn bs p mi S s.items.length .ready B (bH c s.items j).2 L) { s with items:=(bH c s.items j).1 },n,⟨0,by simp,by omega,rb⟩,?_⟩;rintro m f h2 ⟨j,hx,a6,u⟩;simp only[av,and_true]at hx;simp only[hx];have g2:h2 bs=.box (.ms mi 0 s.items.length):=u.get 2 rfl;have g1:h2 bn=.box (.int .i64 (S:Int)):=u.get 1 rfl;obtain⟨dev,v⟩:=u.rv;have E:(h2 mi).row=some (7,(bH c s.items j).1.map It.e):=by rw[v.i];rfl
 rw[ub g2 rfl,I1 v.i];by_cases hj:j<n
 case neg =>
  grind [HZ,ah]
 obtain⟨w2,V⟩:=w.chunks hc hS h1.1 hn j (by omega)
 have a7:j*S+S<=n*S:=by
  have:=Nat.mul_le_mul_right S (show j+1<=n by omega);grind
 rw[DY (by omega),ai]
 have G:∀{K:D->Prop},an PP (.GQ (.c (.ms mi 0 s.items.length)) (some (.c (.int .i64 ((j*S:Nat):Int)))) none none 7) h2 K=K (.ms mi (j*S) (s.items.length-j*S)):=by
  grind [VA,BW,nJ,qA]
 rw[show an PP (.ld (.c (.ptr bn 0 0)) 1 false) h2=λ K=>K (.int .i64 (S:Int)) from funext λ K=>sj g1 rfl];simp only[↓sj g2 rfl,G];rw[I1 v.i,acB,SR,if_neg (by omega),ub g2 rfl];simp (disch:=omega) only[↓cS];rw[BW,nJ,nJ,nJ];have e1:0+((j*S:Nat):Int).toNat=j*S:=by omega
 have e2:(((j*S:Nat):Int)+(S:Int)-((j*S:Nat):Int)).toNat=S:=by omega
 refine⟨by omega,by omega,by omega,by omega,⟨_,E⟩,?_⟩;rw[e1,e2];clear G e1 e2 v E dev;rw[Mz];refine⟨⟨_,_,u.get 0 rfl⟩,?_⟩;refine mU (e:=[(0,a0),(1,.ptr b0 0 0),(3,.ptr p 0 0)]) (u.get 0 rfl) hps hAs hBs (by simp) hlt rfl he ?_;rw[show([Arg.c (D.ms mi (j*S) S)].map λ x=>x.get [])=[.ms mi (j*S) S] from rfl, <- sk];dsimp only[ng,xL,xP,xS];refine⟨rfl,u.get 0 rfl,?_⟩;have Q:=u.aM 0 (t':=.lp .busy B) rfl (by simp);simp only[ckL,List.set_cons_zero]at Q;rw[ub (Q.get (i0+4) hb0) rfl];refine Tn hc w2 Q hS h1 (by rw[<- hn];exact V) hj λ h4 O=>?_
 have fin:∀h',RB c l k nr mi mt h' ((nk,.lp .busy B)::(bn,.box (.int .i64 (S:Int)))::(bs,.box (.ms mi 0 s.items.length))::(p,.box (.bool ((ny c (bH c s.items j).1 j).2||(bH c s.items j).2)))::L) { s with items:=(ny c (bH c s.items j).1 j).1 } ->
   h' nk=.lp .busy B/\(
    ab PP (.ld (.c (.ptr bn 0 0)) 1 false) (ak h' nk (.lp .ready B)) λ a2 Z=>vbin .add (.int .i64 ((j*S:Nat):Int)) a2 λ a1=>aB [.yld nk,.ptr bs 0 0,.ptr bn 0 0] [.yld nk,.ptr bs 0 0,.ptr bn 0 0]/\∃m',m'<m /\
     ∃j:Nat,[a1]=[.int .i64 ((j*S:Nat):Int)]/\m'+j=n/\RB c l k nr mi mt Z (ckL nk bn bs p mi S s.items.length .ready B (bH c s.items j).2 L) { s with items:=(bH c s.items j).1 }):=by
  intro h' U;refine⟨U.get 0 rfl,?_⟩;have H:=U.aM 0 (t':=.lp .ready B) rfl (by simp);simp only[List.set_cons_zero]at H;rw[ub (H.get 1 rfl) rfl];simp (disch:=omega) only[↓cS,ae,true_and];refine⟨n-(j+1),by omega,j+1,?_,by omega,H⟩;grind
 cases hb:(ny c (bH c s.items j).1 j).2
 ·rw[hb]at fin;simp only[↓gS];rw[ub (O.get 3 rfl) rfl];refine O.zo 3 rfl rfl rfl λ W I=>?_
  exact fin W I
 ·rw[hb]at fin;simp only[↓gS];refine O.zo 3 rfl rfl rfl λ W I=>?_
  exact fin W I
end
end Go.Am
namespace Go.Am
open Go
section
variable {c:Code}{l:bG}{k:Int}{nr mi mt:Nat}{h:Heap}{L M:LSq}{s:lz}{KH:HKq}
theorem YF {len S:Nat}(h1:1<=S) (rb:RB c l k nr mi mt h L s) (hK:∀bs bn h',RB c l k nr mi mt h' ((bn,.box (.int .i64 (S:Int)))::(bs,.box (.ms mi 0 len))::L) s->KH (.fn bj [] [.ptr bs 0 0,.ptr bn 0 0]) h') :
  ag PP cH [.ms mi 0 len,.int .i64 (S:Int)] h KH:=by
 refine aI kP (aC _ _ _) rfl (kN _ _ _) ?_;dsimp only[fN,xB,xL];refine rb.box (by simp) λ bs h4 E=>?_
 refine E.box (by simp) λ bn G u=>?_
 refine⟨λ _ h'=>RB c l k nr mi mt h' ((bn,.box (.int .i64 (S:Int)))::(bs,.box (.ms mi 0 len))::L) s,?_,?_⟩
 ·grind [xv,xw]
 rw[ub (u.get 0 rfl) rfl];simp (disch:=omega) only[↓cS,↓ah,ae,true_and];exact u
def YG (f:Nat) (s:lz):Prop:=200000-s.bl<f/\((∀i,i<s.items.length->(lO s.items i).at_≠1)->200001-s.bl<f)
theorem YE {n S nk b0 i0 f:Nat}{Lr:LSq}{Le:Int->LSq}(hc:cE c) (hl:bY c l) (w:RW c l k s) (hS:c.sub=(S:Int)) (h1:1<=S/\S<=8) (hn:s.items.length=n*S) (hns:P1 c=n)
  (hb0:Lr[i0]?=some (b0,.box (.ptr nr 0 0))) (rb:RB c l k nr mi mt h Lr s) (hf:YG f s)
  (hY0:∀(N:LSq) (h':Heap) (s':lz) (KH':HKq),RB c l k nr mi mt h' (N++Lr) s'->(∀h'',RB c l k nr mi mt h'' (N++Lr) s'->KH' (.bool true) h'')->ab PP (.callv (.c (.yld nk)) [.c (.int .i64 0)]) h' KH')
  (hYe:∀(N:LSq) (e:Int) (h':Heap) (s':lz) (KH':HKq),e≠0->RB c l k nr mi mt h' (N++Lr) s'->(∀h'',RB c l k nr mi mt h'' (N++Le e) s'->KH' (.bool false) h'')->ab PP (.callv (.c (.yld nk)) [.c (.int .i64 e)]) h' KH')
  (hK0:∀h',(allP c l f s).2=0->RB c l k nr mi mt h' Lr (allP c l f s).1->KH (.tup []) h')
  (hKe:∀h' s',(allP c l f s).2≠0->RB c l k nr mi mt h' (Le (allP c l f s).2) s'->KH (.tup []) h'):ag PP gY [.yld nk,.ptr b0 0 0] h KH:=by
 refine aI xr (aC _ _ _) rfl (xg _ _ _) ?_;dsimp only[pP,xS];refine rb.alloc λ p0 h4 U=>?_
 refine U.zo 0 rfl rfl rfl λ h6 Q=>?_
 simp only[List.set_cons_zero]at Q;obtain⟨R,G⟩:∃R,R=allP c l f s:=⟨_,rfl⟩;rw[<- G]at hK0 hKe;clear rb U;dsimp only[nh,xL,xS,yF,yL]
 refine⟨λ m x h'=>∃(p:Nat) (b:Bool) (s':lz),x=[.ptr p 0 0]/\RB c l k nr mi mt h' ((p,.box (.bool b))::Lr) s'/\RW c l k s'/\s'.items.length=n*S/\(b=true->YG m s'/\allP c l m s'=R)/\(b=false->R=(s',0)),f,
  ⟨p0,true,s,rfl,Q,w,hn,λ _=>⟨hf,G.symm⟩,λ h=>(by cases h)⟩,?_⟩
 clear Q hf G w;rintro m g h2 ⟨p,b,s1,hx,H,w1,a1,ht,a2⟩;simp only[av,and_true]at hx;simp only[hx];rw[ub (H.get 0 rfl) rfl];cases b
 ·have a5:=a2 rfl;rw[ah];exact hK0 h2 (by rw[a5]) (by rw[a5];exact H.push)
 obtain⟨hb,G⟩:=ht rfl;rw[ai];clear ht a2;obtain⟨m,rfl⟩:∃m',m=m'+1:=⟨m-1,by have:=hb.1;omega⟩;rw[allP,hns]at G;refine⟨λ _ h'=>∃(b:Bool) (s':lz),RB c l k nr mi mt h' ((p,.box (.bool b))::Lr) s'/\RW c l k s'/\s'.items.length=n*S/\(b=true->YG m s'/\allP c l m s'=R)/\(b=false->R=(s',0)),?_,?_⟩
 ·rintro _ h' ⟨b,s',W,w',c2,q1,q2⟩;rw[ub (W.get 0 rfl) rfl];refine W.alloc λ p2 h5 E=>?_
  refine E.zo 0 rfl rfl rfl λ h7 u=>?_
  simp only[List.set_cons_zero]at u;simp only[ae,true_and];exact⟨m,by omega,p2,b,s',rfl,u.sub (.cons_cons _ (List.sublist_cons_self _ _)),w',c2,q1,q2⟩
 rw[ub (H.get (i0+1) hb0) rfl];refine abf hc.toba hl w1 H λ h3 V=>?_
 obtain⟨w3,c4,-⟩:=JX hc.toba hl w1;by_cases he:(iW c l s1).2=0
 case neg =>
  rw[if_neg he]at G;refine hYe [_] _ h3 _ _ he V λ h5 E=>?_
  simp only[↓gS];refine hKe h5 (iW c l s1).1 (by rw[<- G];exact he) ?_;rw[<- G];exact E.push
 rw[if_pos he]at G;rw[he];refine hY0 [_] h3 _ _ V λ h5 E=>?_
 simp only[↓gS];refine E.zo 0 rfl rfl rfl λ h7 u=>?_
 simp only[List.cons_append,List.nil_append,List.set_cons_zero]at u;have gb:=u.get (i0+1) hb0;obtain⟨dev,v⟩:=u.rv;have ur:(h7 nr).used=true:=by rw[v.r];rfl
 simp only[↓sj gb rfl,↓uX ur,↓aX v.r (j:=12) rfl,↓aX v.r (j:=1) rfl,Nat.zero_add,Nat.reduceAdd];rw[hS];refine YF h1.1 u λ bs bn h8 a7=>?_
 refine⟨rfl,S8,λ c8 B a8 hB c1 _ c3 c6 c5=>?_⟩;have a6:=a7.Ur (t:=.lp .ready B) a8.free (by simp);have Z:(iW c l s1).1.items.length=n*S:=by rw[c4];exact a1
 refine Wn hc w3 hS h1 Z hb0 a6 c1 c3 hB c6 c5 λ e0 O=>?_
 show ct _ _ _ _ _
 unfold ct;rw[O.get 0 rfl];simp only[ae,true_and];have I:=O.aM 0 (t':=.dead) rfl (by simp);simp only[ckL,List.set_cons_zero]at I;obtain⟨w4,c9⟩:=w3.chunks hc hS h1.1 Z n (Nat.le_refl _);refine⟨(bH c (iW c l s1).1.items n).2,_,I.push.push.push,w4,by grind,λ hp=>?_,λ hp=>?_⟩
 ·rw[if_pos hp]at G;refine⟨?_,G⟩;obtain⟨q1,i,q2,q3⟩:=Ti hc hl w1 hS h1.1 a1 hb he hp;refine⟨q1,λ c7=>?_⟩;grind
 grind
end
end Go.Am
namespace Go.Am
open Go
def Su (r:Zl):D:=.tup [aZ r.g,r.x.e,.sl (r.ev.map Ev.e),.int .i64 r.e]
structure PE (c:Code) (l:bG) (x:Gr):Prop where
 n:(x.items.length:Int)=c.group
 it:∀(i:Nat) (y:It),x.items[i]?=some y->PC c l y/\y.id=x.id*c.group+(i:Int)
 sh:cq c.arrays 2 x.sh
theorem PE.rw {c:Code}{l:bG}{x:Gr}{g:Mm}(w:PE c l x) (hg:cq c.arrays 1 g):RW c l x.id (Mo g x) :=
 ⟨w.n,w.it,hg,w.sh,by simp[Mo],λ v u=>by
  obtain⟨-,rfl⟩:=List.mem_replicate.1 u
  grind,by show 0<=200000;omega,by simp[Mo]⟩
theorem U1 {P:Program}{f:FuncId}{h h'':Heap}{ds ds':List D}{r:D}{KH:HKq}(i:NT h h'') (k:PD h'' ds ds') (hv:aV P f ds' (· = r)) (hfl:r.flat=true) (hK:KH r h''):ag P f ds h KH:=by
 obtain⟨H,G,E,-,u⟩:=k.all;refine MT i (ag.mono ?_ (mW (K:=(· = r)) (aV.arg u hv) λ d hd=>⟨H d hd,G d hd,E _ (List.mem_map.2 ⟨d,hd,rfl⟩)⟩));grind
theorem ace (l:List It):∀x,x∈l.map It.e->∀y∈x.cells,y.vone=true:=λ x hx y hy=>by
 obtain⟨it,-,rfl⟩:=List.mem_map.1 hx;have:=it.bR.vd;simp only[It.e,D.vd,List.all_eq_true]at this;exact this y hy
theorem Vt (l:List Ev):∀x,x∈l.map Ev.e->∀y∈x.cells,y.vone=true:=λ x hx y hy=>by
 obtain⟨it,-,rfl⟩:=List.mem_map.1 hx;have:=it.bR.vd;simp only[Ev.e,D.vd,List.all_eq_true]at this;exact this y hy
section
variable {h:Heap}{L:LSq}{KH:HKq}
theorem Ts {xs:List It}(V:Vs h L) (hx:xs≠[]) (hl:xs.length<=1000) (hK:∀m h',Vs h' ((m,.arr 7 (xs.map It.e))::L)->KH (.ms m 0 xs.length) h'):ag PP cG [.sl (xs.map It.e)] h KH:=by
 refine aI kO (aC _ _ _) rfl (kM _ _) ?_;unfold fM
 have hq:∀{KH:HKq},ab PP (.nilq false (.c (.sl (xs.map It.e)))) h KH=KH (.bool false) h:=by
  intro KH
  cases xs with
  | nil=>exact absurd rfl hx
  | cons x r=>rfl
 rw[hq,ah];refine KL λ n t=>?_
 have H:=V.push t.free (s:=.arr 7 []) (by simp);refine⟨λ d hd=>?_,λ y hy=>?_,[],.of (af _ _ _),rfl,⟨by simp;omega,by simp;omega⟩,λ m t2=>⟨?_,λ h0=>absurd rfl h0⟩⟩
 ·obtain⟨it,-,rfl⟩:=List.mem_map.1 hd;rfl
 ·obtain⟨it,-,rfl⟩:=List.mem_map.1 hy;exact it.bR.one
 ·have hn:=t2.free;have G:=H.aM 0 rfl (s':=.dead) (by simp)
  have u:(ak (ak h n (.arr 7 [])) n .dead) m=.free:=by
   grind [af,aa]
  have E:=G.push u (s:=.arr 7 (xs.map It.e)) (by simp);have:=hK m _ (E.perm (List.Perm.swap _ _ _)).pop;simpa using this
end
section
variable {c:Code}{l:bG}{k:Int}{nr mi mt:Nat}{h:Heap}{L M:LSq}{s:lz}{KH:HKq}
def T9 (n19 n17 n15 n13 n11 n9 n7 n5:Nat) (c:Code) (l:bG) (g:Mm) (x:Gr) (e ev:D) (cs:List D) (m:D):LSq :=
 [(n19,.box e),(n17,.box ev),(n15,.box (.agg cs)),(n13,.box m),(n11,.box (.agg x.cs)),(n9,.box (aZ g)),(n7,.box l.e),(n5,.box c.e)]
theorem Vs.zo (V:Vs h L) (i:Nat){n:Nat}{d d':D}(hi:L[i]?=some (n,.box d)) (h1:d.one=true) (h1':d'.one=true) (hK:∀h',Vs h' (L.set i (n,.box d'))->KH .undef h'):ab PP (.st (.c (.ptr n 0 0)) (.c d') 1) h KH:=by
 rw[Go.Am.zo (V.get i _ _ hi) (jk h1) (jk h1') h1'];exact hK _ (V.aM i hi (by simp))
theorem Vs.ub (V:Vs h L) (i:Nat){n:Nat}{d:D}(hi:L[i]?=some (n,.box d)) (h1:d.one=true):ab PP (.ld (.c (.ptr n 0 0)) 1 false) h KH=KH d h:=Go.Am.ub (V.get i _ _ hi) (jk h1)
theorem QG.zo {e:Nat}{h:Heap}{L:LSq}{v:D}{T:List D}(q:QG e h L v T) (i:Nat){n:Nat}{d d':D}{KH:HKq}(hi:L[i]?=some (n,.box d)) (h1:d.one=true) (h1':d'.one=true)
  (hK:∀h',QG e h' (L.set i (n,.box d')) v T->KH .undef h'):ab PP (.st (.c (.ptr n 0 0)) (.c d') 1) h KH:=by
 rcases q with⟨rfl,rfl,V⟩|⟨m,rfl,V⟩
 ·exact V.zo i hi h1 h1' λ h' u=>hK h' (Or.inl ⟨rfl,rfl,u⟩)
 ·exact V.zo (i+1) hi h1 h1' λ h' u=>hK h' (Or.inr ⟨m,rfl,u⟩)
theorem Vs.sj {K:D->Prop}(V:Vs h L) (i:Nat){n:Nat}{d:D}(hi:L[i]?=some (n,.box d)) (h1:d.one=true):an PP (.ld (.c (.ptr n 0 0)) 1 false) h K=K d:=Go.Am.sj (V.get i _ _ hi) (jk h1)
theorem Gr.P0 (x:Gr):∀y∈x.cs,y.one=true:=λ y hy=>x.bR.one y hy
theorem Jy {x:Gr}{n19 n17 n15 n13 n11 n9 n7 n5:Nat}{g:Mm}{e:Int}{r:Zl}{R:LSq}(hr:r=⟨g,x,[],e⟩) (V:Vs h (T9 n19 n17 n15 n13 n11 n9 n7 n5 c l g x (.int .i64 e) .nil x.cs (aZ g)++R)) :
  ab PP (.ld (.c (.ptr n13 0 0)) 1 false) h λ a _=>ab PP (.ld (.c (.ptr n15 0 0)) 3 true) h λ b _=>ab PP (.ld (.c (.ptr n17 0 0)) 1 false) h λ d _=>ab PP (.ld (.c (.ptr n19 0 0)) 1 false) h λ e _=>HA (· = Su r) (.tup [a,b,d,e]) h:=by
 unfold T9 at V;simp only[List.cons_append,List.nil_append]at V;rw[V.ub 3 rfl rfl,V.eR 2 (s:=3) rfl rfl,V.ub 1 rfl rfl,V.ub 0 rfl rfl];refine eE (.refl _) (.cons (bD rfl).d (.cons (Ca x.bR) (.cons jB.d (.cons (bD rfl).d .nil)))) ?_;rw[hr];rfl
theorem M9 {x:Gr}{n19 n17 n15 n13 n11 n9 n7 n5:Nat}{g:Mm}{e:Int}{R:LSq}{G:Heap->Prop}(V:Vs h (T9 n19 n17 n15 n13 n11 n9 n7 n5 c l g x (.int .i64 0) .nil [.int .i64 0,.nil,.nil] .nil++R))
  (hK:∀h',Vs h' (T9 n19 n17 n15 n13 n11 n9 n7 n5 c l g x (.int .i64 e) .nil x.cs (aZ g)++R)->G h') :
  an PP (.ld (.c (.ptr n9 0 0)) 1 false) h λ a39=>an PP (.ld (.c (.ptr n11 0 0)) 3 true) h λ a40 =>
  ab PP (.st (.c (.ptr n13 0 0)) (.c a39) 1) h λ _ h42=>((an PP (.ld (.c (.ptr n11 0 0)) 3 true) h42 λ a43=>aB [a43] [a40])/\True) /\
  ab PP (.st (.c (.ptr n15 0 0)) (.c a40) 3) h42 λ _ h45=>((an PP (.ld (.c (.ptr n11 0 0)) 3 true) h45 λ a46=>aB [a46] [a40])/\True) /\
  ab PP (.st (.c (.ptr n17 0 0)) (.c .nil) 1) h45 λ _ h48=>((an PP (.ld (.c (.ptr n11 0 0)) 3 true) h48 λ a49=>aB [a49] [a40])/\True) /\
  ab PP (.st (.c (.ptr n19 0 0)) (.c (.int .i64 e)) 1) h48 λ _ h51=>((an PP (.ld (.c (.ptr n11 0 0)) 3 true) h51 λ a52=>aB [a52] [a40])/\True)/\G h51:=by
 unfold T9 at V hK;simp only[List.cons_append,List.nil_append]at V hK;rw[V.sj 5 rfl rfl,V.yY 4 (s:=3) rfl rfl];refine V.zo 3 rfl rfl rfl λ h1 I=>?_
 simp only[List.set_cons_succ,List.set_cons_zero]at I;rw[I.yY 4 (s:=3) rfl rfl];refine⟨⟨by simp,trivial⟩,?_⟩;refine I.eU 2 rfl rfl rfl x.P0 λ h2 H=>?_
 simp only[List.set_cons_succ,List.set_cons_zero]at H;rw[H.yY 4 (s:=3) rfl rfl];refine⟨⟨by simp,trivial⟩,?_⟩;refine H.zo 1 rfl rfl rfl λ h3 E=>?_
 simp only[List.set_cons_succ,List.set_cons_zero]at E;rw[E.yY 4 (s:=3) rfl rfl];refine⟨⟨by simp,trivial⟩,?_⟩;refine E.zo 0 rfl rfl rfl λ h4 u=>?_
 simp only[List.set_cons_zero]at u;rw[u.yY 4 (s:=3) rfl rfl];exact⟨⟨by simp,trivial⟩,hK h4 u⟩
theorem Yq:de PP gY=true:=by kernel_rfl
theorem gd2 {x:Gr}:∀d,d∈[x.e]->d.vd=true/\aD d:=λ d hd=>by
 simp at hd;subst hd;exact x.bR.pair
theorem RB.ended (hn:s.items≠[]) (hl:s.items.length<=1000) (rb:RB c l k nr mi mt h L s) (hK:KH (.bool (iq s.items)) h):ag PP gu [.agg [.int .i64 k,.ms mi 0 s.items.length,aZ s.sh]] h KH:=by
 obtain⟨dev,v⟩:=rb.rv;refine U1 (ds':=[(⟨k,s.items,s.sh⟩:Gr).e]) (.refl h) (.cons (Iv.agg (.cons (bD rfl) (.cons ?_ (.cons (bD rfl) .nil)))) .nil) (Nd (g:=⟨k,s.items,s.sh⟩) (by grind)) rfl hK;have:=fT (h:=h) v.i (ace s.items)
 rwa [aE]at this
theorem Z0 {x:Gr}{n19 n17 n15 n13 n11 n9 n7 n5:Nat}{g:Mm}{r:Zl}{R:LSq}(hr:r=⟨s.g,⟨k,s.items,s.sh⟩,s.ev,0⟩)
  (rb:RB c l k nr mi mt h (T9 n19 n17 n15 n13 n11 n9 n7 n5 c l g x (.int .i64 0) .nil [.int .i64 0,.nil,.nil] .nil++R) s) :
  an PP (.fadd (.c (.ptr nr 0 0)) 0) h λ a90=>an PP (.fadd (.c a90) 10) h λ a91=>an PP (.ld (.c a91) 1 false) h λ a92 =>
  an PP (.fadd (.c (.ptr nr 0 0)) 0) h λ a93=>an PP (.fadd (.c a93) 11) h λ a94=>an PP (.ld (.c a94) 3 true) h λ a95 =>
  an PP (.fadd (.c (.ptr nr 0 0)) 0) h λ a96=>an PP (.fadd (.c a96) 14) h λ a97=>an PP (.ld (.c a97) 1 false) h λ a98 =>
  ab PP (.st (.c (.ptr n13 0 0)) (.c a92) 1) h λ _ h100=>((an PP (.ld (.c a94) 3 true) h100 λ a101=>aB [a101] [a95])/\(an PP (.ld (.c a97) 1 false) h100 λ a102=>aB [a102] [a98])/\True) /\
  ab PP (.st (.c (.ptr n15 0 0)) (.c a95) 3) h100 λ _ h104=>((an PP (.ld (.c a94) 3 true) h104 λ a105=>aB [a105] [a95])/\(an PP (.ld (.c a97) 1 false) h104 λ a106=>aB [a106] [a98])/\True) /\
  ab PP (.st (.c (.ptr n17 0 0)) (.c a98) 1) h104 λ _ h108=>((an PP (.ld (.c a94) 3 true) h108 λ a109=>aB [a109] [a95])/\(an PP (.ld (.c a97) 1 false) h108 λ a110=>aB [a110] [a98])/\True) /\
  ab PP (.st (.c (.ptr n19 0 0)) (.c (.int .i64 0)) 1) h108 λ _ h112=>((an PP (.ld (.c a94) 3 true) h112 λ a113=>aB [a113] [a95])/\(an PP (.ld (.c a97) 1 false) h112 λ a114=>aB [a114] [a98])/\True) /\
  ab PP (.ld (.c (.ptr n13 0 0)) 1 false) h112 λ a115 _=>ab PP (.ld (.c (.ptr n15 0 0)) 3 true) h112 λ a116 _=>ab PP (.ld (.c (.ptr n17 0 0)) 1 false) h112 λ a117 _=>ab PP (.ld (.c (.ptr n19 0 0)) 1 false) h112 λ a118 _ =>
  HA (· = Su r) (.tup [a115,a116,a117,a118]) h112:=by
 obtain⟨dev,q⟩:=rb;unfold T9 at q;simp only[List.cons_append,List.nil_append]at q
 have go:∀{L:LSq}{h:Heap},QG 9 h ((nr,.box (.agg (rC c l k s mi mt dev)))::L) dev (s.ev.map Ev.e) ->
   (h nr).used=true/\(∀{K:D->Prop},an PP (.ld (.c (.ptr nr 0 11)) 3 true) h K=K (.agg [.int .i64 k,.ms mi 0 s.items.length,aZ s.sh]))/\(∀{K:D->Prop},an PP (.ld (.c (.ptr nr 0 14)) 1 false) h K=K dev)/\(∀{K:D->Prop},an PP (.ld (.c (.ptr nr 0 10)) 1 false) h K=K (aZ s.g)):=by
  intro L h q;have a0:=q.vs.get 0 _ _ rfl;exact⟨by rw[a0];rfl,λ {K}=>gI a0 (by show 11+3<=17;omega) rfl,λ {K}=>aX a0 rfl,λ {K}=>aX a0 rfl⟩
 obtain⟨u,E,e2,e3⟩:=go q;simp only[↓uX u,Nat.zero_add,E,e2,e3];refine q.zo 6 rfl rfl rfl λ h1 O=>?_
 simp only[List.set_cons_succ,List.set_cons_zero]at O;obtain⟨u,E,e2,-⟩:=go O;simp only[E,e2];refine⟨⟨by simp,by simp,trivial⟩,?_⟩;refine O.eU 5 rfl rfl rfl (λ y hy=>by simp at hy;rcases hy with rfl|rfl|rfl<;>rfl) λ h2 I=>?_
 simp only[List.set_cons_succ,List.set_cons_zero]at I;obtain⟨u,E,e2,-⟩:=go I;simp only[E,e2];refine⟨⟨by simp,by simp,trivial⟩,?_⟩;refine I.zo 4 rfl rfl q.one λ h3 H=>?_
 simp only[List.set_cons_succ,List.set_cons_zero]at H;obtain⟨u,E,e2,-⟩:=go H;simp only[E,e2];refine⟨⟨by simp,by simp,trivial⟩,?_⟩;refine H.zo 3 rfl rfl rfl λ h4 G=>?_
 simp only[List.set_cons_succ,List.set_cons_zero]at G;obtain⟨u,E,e2,-⟩:=go G;simp only[E,e2];refine⟨⟨by simp,by simp,trivial⟩,?_⟩;have V:=G.vs;rw[V.ub 6 rfl rfl,V.eR 5 (s:=3) rfl rfl,V.ub 4 rfl q.one,V.ub 3 rfl rfl];have fi:=fT (h:=h4) (V.get 1 _ _ rfl) (ace s.items);rw[aE]at fi
 have Q:LN h4 dev (.sl (s.ev.map Ev.e)):=by
  rcases G with⟨rfl,h0,-⟩|⟨m,rfl,S⟩
  ·rw[h0];exact jB
  ·exact fT (S.get 0 _ _ rfl) (Vt s.ev)
 refine eE (.refl _) (.cons (bD rfl).d (.cons (Iv.agg (.cons (bD rfl) (.cons fi (.cons (bD rfl) .nil)))) (.cons Q.d (.cons (bD rfl).d .nil)))) ?_;rw[hr];rfl
end
end Go.Am
namespace Go.Am
open Go
theorem Mp {c:Code}{l:bG}{g:Mm}{x:Gr}(h:x.items.length=0\/iq x.items=true):cY c l g x=⟨g,x,[],1⟩:=by
 unfold cY;rw[if_pos h]
section
variable {c:Code}{l:bG}{x:Gr}{g:Mm}
theorem Rh {c:Code}{l:bG}{x:Gr}{g:Mm}(hc:cE c) (hl:bY c l) (hg:cq c.arrays 1 g) (hx:x.items=[]\/PE c l x):aV PP mN [c.e,l.e,aZ g,x.e] (· = Su (cY c l g x)):=by
  have j4:=hc.group;refine ju (aI Jn (aC _ _ _) rfl (Jb _ _ _ _ _) ?_);dsimp only[FW,xB,xF,xL,xP,xS,yF,yL];refine Vs.nil.box (kL c).2 λ n5 h1 V=>?_
  refine V.box (jA l) λ n7 h2 V=>?_
  refine V.box (mO g).2 λ n9 h3 V=>?_
  refine V.box x.bR.one λ I h4 V=>?_
  refine V.alloc λ a1 h5 V=>?_
  refine V.alloc λ Z h6 V=>?_
  refine V.alloc λ W h7 V=>?_
  refine V.alloc λ U h8 V=>?_
  have V8:Vs h8 (T9 U W Z a1 I n9 n7 n5 c l g x (.int .i64 0) .nil [.int .i64 0,.nil,.nil] .nil++[]):=by rw[List.append_nil];exact V
  have hlen:x.items.length<=1000:=by
    rcases hx with h|h
    · rw[h];simp
    · have:=h.n;omega
  rw[V.fa 4 rfl,V.zp 4 (j:=1) (e:=.sl (x.items.map It.e)) rfl rfl,(PV x.items).len,aE];by_cases h0:x.items.length=0
  · simp (disch:=omega) only[↓cS,↓gS]
    exact M9 V8 λ h' V'=>Jy (Mp (Or.inl h0)) V'
  have hx:=hx.resolve_left (by grind);simp (disch:=omega) only[↓cS,↓gS];rw[V.eR 4 (s:=3) rfl rfl];refine bk (Nd (g:=x) (by omega)) gd2 ?_;rintro _ rfl;by_cases he:iq x.items=true
  · rw[he]
    simp only[↓gS];exact M9 V8 λ h' V'=>Jy (Mp (Or.inr he)) V'
  have he:iq x.items=false:=by simpa using he
  rw[he];simp only[↓gS];have a8:=V.get 4 _ _ rfl;have c4:(h8 I).used=true:=by rw[a8];rfl
  rw[V.yY 7 (s:=8) rfl rfl,V.yY 6 (s:=2) rfl rfl,V.sj 5 rfl rfl,V.yY 4 (s:=3) rfl rfl];simp only[↓uX c4,Nat.zero_add,↓aX a8 (j:=1) rfl];rw[(PV x.items).len,aE];refine V.mkr (by omega) (by omega) λ mt j1 g2=>?_
  rw[fF rfl]
  change ab PP (.box (.c (.agg [.int .i64 c.group,.int .i64 c.sub,.int .i64 c.regs,.int .i64 c.slots,.int .i64 c.params,.sl (c.arrays.map fv.e),.sl (c.loops.map Loop.e),.sl (c.b.map Block.e),.int .i64 l.groups,words l.args,
        aZ g,.int .i64 x.id,.sl (x.items.map It.e),aZ x.sh,.nil,.ms mt 0 x.items.length,.int .i64 0]))) j1 _
  refine g2.box (λ y hy=>?_) λ nr j7 c2=>?_
  · simp at hy
    rcases hy with rfl|rfl|rfl|rfl|rfl|rfl|rfl|rfl|rfl|rfl|rfl|rfl|rfl|rfl|rfl|rfl|rfl<;>rfl
  rw[c2.fa 6 rfl,c2.zp 6 (j:=1) (e:=.sl (x.items.map It.e)) rfl rfl];refine Ts c2 (by grind) hlen λ mi j0 c7=>?_
  have g0:=c7.get 1 _ _ rfl;have G:(j0 nr).used=true:=by rw[g0];rfl
  simp only[↓jc G,Nat.zero_add,Nat.reduceAdd];refine c7.DO 1 (j:=12) rfl (by show 12<17;omega) rfl λ h9 c6=>?_
  simp only[List.set_cons_succ,List.set_cons_zero]at c6;obtain⟨L0,a5⟩:∃L0,L0=T9 U W Z a1 I n9 n7 n5 c l g x (.int .i64 0) .nil [.int .i64 0,.nil,.nil] .nil:=⟨_,rfl⟩
  have rb:RB c l x.id nr mi mt h9 L0 (Mo g x):=by
    refine⟨.nil,Or.inl ⟨rfl,rfl,?_⟩⟩
    have e1:rC c l x.id (Mo g x) mi mt .nil=[.int .i64 c.group,.int .i64 c.sub,.int .i64 c.regs,.int .i64 c.slots,.int .i64 c.params,.sl (c.arrays.map fv.e),.sl (c.loops.map Loop.e),.sl (c.b.map Block.e),.int .i64 l.groups,words l.args,
        aZ g,.int .i64 x.id,.ms mi 0 x.items.length,aZ x.sh,.nil,.ms mt 0 x.items.length,.int .i64 0]:=by
      simp[rC,Mo]
    have e2:KC (Mo g x).turns=List.replicate x.items.length (.int .i64 0):=by simp[KC,Mo]
    rw[e1,e2,a5];exact c6.perm (List.Perm.swap _ _ _)
  clear c6 c7 c2 g2 g0 G V8 V;obtain⟨S,n,hS,e6,g7,j5,e4⟩:=Q4 hc
  have hn:(Mo g x).items.length=n*S:=by
    have:=hx.n;show x.items.length=_
    omega
  have w:=hx.rw hg;have wA:=NK hc hl hS e6 200002 (Mo g x) w hn e4;obtain⟨R,hR⟩:∃R,R=allP c l 200002 (Mo g x):=⟨_,rfl⟩
  have u:cY c l g x=if R.2=0 then(if iq R.1.items then ⟨R.1.g,⟨x.id,R.1.items,R.1.sh⟩,R.1.ev,0⟩
     else if uK c R.1.items 3 then ⟨R.1.g,⟨x.id,passAt c 0 (List.replicate x.items.length 0) R.1.items x.items.length,R.1.sh⟩,R.1.ev,0⟩
     else ⟨g,x,[],90⟩) else ⟨g,x,[],R.2⟩:=by
    grind [cY]
  rw[<- hR]at wA
  have g8:R.1.items.length=x.items.length:=by
    have h1:=wA.n;have h2:=hx.n;omega
  refine⟨λ _ h'=>R.2=0/\∃b0,RB c l x.id nr mi mt h' ((b0,.box (.ptr nr 0 0))::L0) R.1,?_,?_⟩
  · rintro _ a6 ⟨g9,b0,O⟩
    rw[if_pos g9]at u;refine⟨λ _ h'=>∃s',RB c l x.id nr mi mt h' L0 s'/\cY c l g x=⟨s'.g,⟨x.id,s'.items,s'.sh⟩,s'.ev,0⟩,?_,?_⟩
    · rintro _ j6 ⟨s',E,g6⟩
      exact Z0 (R:=[]) g6 (by rw[List.append_nil, <- a5];exact E)
    have O:=O.push
    have gE:∀{K:HKq},ab PP (.ld (.c (.ptr nr 0 11)) 3 true) a6 K=K (.agg [.int .i64 x.id,.ms mi 0 R.1.items.length,aZ R.1.sh]) a6:=by
      intro K;obtain⟨dev,v⟩:=O.rv;exact ml v.r (by show 11+3<=17;omega) rfl
    have G:(a6 nr).used=true:=by
      obtain⟨dev,v⟩:=O.rv;rw[v.r];rfl
    simp only[↓jc G,Nat.zero_add,gE];refine RB.ended (by grind) (by omega) O ?_;by_cases hE:iq R.1.items=true
    · rw[if_pos hE]at u
      rw[hE];simp only[↓gS,ae,true_and];exact⟨R.1,O,u⟩
    rw[if_neg hE]at u;have hE:iq R.1.items=false:=by simpa using hE
    rw[hE];simp only[↓gS,↓jc G,Nat.zero_add,Nat.reduceAdd]
    have g1:∀{K:HKq},ab PP (.ld (.c (.ptr nr 0 12)) 1 false) a6 K=K (.ms mi 0 R.1.items.length) a6:=by
      intro K;obtain⟨dev,v⟩:=O.rv;exact cT v.r rfl
    rw[g1];refine Wm (n:=R.1.items.length) hc.toba wA O (by omega) λ a7 c1=>?_
    rw[List.drop_zero,List.take_of_length_le (Nat.le_refl _)];clear gE G g1;by_cases hM:uK c R.1.items 3=true
    · rw[if_pos hM]at u
      rw[hM];obtain⟨dev,v⟩:=c1.rv;have G:(a7 nr).used=true:=by rw[v.r];rfl
      have a8:a7 I=.box (.agg x.cs):=c1.get 4 (by rw[a5];rfl);have c4:(a7 I).used=true:=by rw[a8];rfl
      simp only[↓gS,↓uX G,Nat.zero_add,Nat.reduceAdd,↓aX v.r (j:=12) rfl,↓uX c4,↓aX a8 (j:=1) rfl];rw[(PV x.items).len,aE];obtain⟨X,V,lift⟩:=c1.lift;refine V.mkr (by omega) (by omega) λ q c3 g3=>?_
      have c8:=lift c3 ((q,.arr 1 (List.replicate x.items.length (.int .i32 0)))::L0) (g3.perm List.perm_middle.symm);obtain⟨dev,v⟩:=c8.rv;have G:(c3 nr).used=true:=by rw[v.r];rfl
      simp only[↓uX G,Nat.zero_add,Nat.reduceAdd,↓aX v.r (j:=12) rfl,ae,true_and]
      refine Wl (v:=List.replicate x.items.length 0) hc.toba wA c8 (by omega) (by grind) (Or.inr ⟨q,0,by rw[List.length_replicate],by simp⟩) (λ y hy=>by
        grind) λ j3 c9=>?_
      rw[g8]at c9;exact⟨_,c9.push,u⟩
    · rw[if_neg hM]at u
      have hM:uK c R.1.items 3=false:=by simpa using hM
      rw[hM];simp only[↓gS];obtain⟨X,V,lift⟩:=c1.lift;rw[a5]at V;exact M9 (R:=X) (V.perm List.perm_append_comm) λ h' V'=>Jy u V'
  refine aI CW (aC _ _ _) rfl (CO _ _) ?_;dsimp only[vC,xB];refine rb.box (by simp) λ b0 h3 c5=>?_
  simp only[↓xv,List.map_nil,List.map_cons,xw];refine⟨rfl,Yq,λ nk B ht hB e0 _ e5 e9 e8=>?_⟩;have g5:=c5.Ur (t:=.lp .ready B) ht.free (by simp);have e7:YG 200002 (Mo g x):=⟨by simp only[Mo];omega,λ _=>by simp only[Mo];omega⟩;refine YE (Le:=λ e=>(nk,.lp (.done .ret) B)::(b0,.box (.ptr nr 0 0))::T9 U W Z a1 I n9 n7 n5 c l g x (.int .i64 e) .nil x.cs (aZ g)) (i0:=1) hc hl w hS ⟨e6,g7⟩ hn e4 rfl g5 e7 ?_ ?_ ?_ ?_
  · intro N h' s' j2 E hK
    have H:=E.perm List.perm_append_comm;rw[Mz];refine⟨⟨_,_,H.get 0 rfl⟩,?_⟩;refine mU (e:=[(6,.ptr n9 0 0),(7,.ptr I 0 0),(8,.ptr a1 0 0),(9,.ptr Z 0 0),(10,.ptr W 0 0),(11,.ptr U 0 0),(12,.ptr nr 0 0)]) (H.get 0 rfl) e0 e9 e8 (by simp) e5 rfl hB ?_;rw[show([Arg.c (D.int .i64 0)].map λ x=>x.get [])=[.int .i64 0] from rfl, <- rE];dsimp only[pA,xS,yL];refine⟨rfl,H.get 0 rfl,?_⟩;have a2:=H.aM 0 (t':=.lp .busy B) rfl (by simp);simp (disch:=omega) only[↓cS,↓ah];refine⟨a2.get 0 rfl,hK _ ?_⟩;have c5:=a2.aM 0 (t':=.lp .ready B) rfl (by simp);exact c5.perm List.perm_append_comm
  · intro N e h' s' j2 hne E hK
    have H:=E.perm List.perm_append_comm;rw[Mz];refine⟨⟨_,_,H.get 0 rfl⟩,?_⟩;refine mU (e:=[(6,.ptr n9 0 0),(7,.ptr I 0 0),(8,.ptr a1 0 0),(9,.ptr Z 0 0),(10,.ptr W 0 0),(11,.ptr U 0 0),(12,.ptr nr 0 0)]) (H.get 0 rfl) e0 e9 e8 (by simp) e5 rfl hB ?_;rw[show([Arg.c (D.int .i64 e)].map λ x=>x.get [])=[.int .i64 e] from rfl, <- rE];dsimp only[pA,xS,yL];refine⟨rfl,H.get 0 rfl,?_⟩;have a2:=H.aM 0 (t':=.lp .busy B) rfl (by simp);simp (disch:=omega) only[↓cS,↓ai];simp only[List.cons_append,List.set_cons_zero]at a2;obtain⟨X,V,lift⟩:=a2.lift;rw[a5]at V;obtain⟨Y,hY⟩:∃Y,Y=X++[(nk,Slot.lp .busy B),(b0,.box (.ptr nr 0 0))]:=⟨_,rfl⟩
    have p:∀L1:LSq,(X++(nk,Slot.lp .busy B)::(b0,.box (.ptr nr 0 0))::(L1++N)).Perm (L1++(N++Y)):=λ L1=>by
      rw[hY];have e1:X++(nk,Slot.lp .busy B)::(b0,.box (.ptr nr 0 0))::(L1++N)=(X++[(nk,Slot.lp .busy B),(b0,.box (.ptr nr 0 0))])++(L1++N):=by simp
      grind [List.perm_append_comm]
    refine M9 (V.perm (p _)) λ h2 V2=>?_
    have Q:=lift h2 _ (V2.perm (p _).symm);refine⟨Q.get 0 rfl,hK _ ?_⟩;have g4:=Q.aM 0 (t':=.lp (.done .ret) B) rfl (by simp);exact g4.perm (List.perm_append_comm (l₁:=(nk,Slot.lp (.done .ret) B)::(b0,.box (.ptr nr 0 0))::T9 U W Z a1 I n9 n7 n5 c l g x (.int .i64 e) .nil x.cs (aZ g)))
  · intro h' h2 E
    rw[<- hR]at h2 E;show ct _ _ _ _ _
    unfold ct;rw[E.get 0 rfl];simp only[ae,true_and];have Q:=E.aM 0 (t':=.dead) rfl (by simp);exact⟨h2,b0,Q.push⟩
  · intro h' s' h2 E
    rw[<- hR]at h2 E;show ct _ _ _ _ _
    unfold ct;rw[E.get 0 rfl];refine Or.inl ⟨trivial,?_⟩;have Q:=(E.aM 0 (t':=.dead) rfl (by simp)).push.push;obtain⟨X,V,lift⟩:=Q.lift;rw[if_neg h2]at u;exact Jy (R:=X) u (V.perm List.perm_append_comm)
end
end Go.Am
namespace Go.Am
open Go
def bU (e:Ev):Bool:=decide (e.kind=1)||decide (e.kind=2)||decide (e.kind=3)
def KV (a b:Ev):Bool:=if a.kind=1 then !decide (b.kind=1) else if a.kind=3 then !decide (b.kind=3) || !decide (a.op=b.op) else true
structure Et where
 it:It
 g:Mm
 sh:Mm
 ev:List Ev
structure pC where
 g:Mm
 gs:List Gr
 made:Int->Int
structure fU where
 l:bG
 g:Mm
 i0:Int
 i1:Int
 n0:Int
 n1:Int
 ar:Int
 ix:Int
def aaM:It:=⟨0,0,0,0,[],[]⟩
def Ec (id:Int) (g:Gr):Bool:=decide ((lO g.items 0).id<=id)&&decide (id<(lO g.items 0).id+(g.items.length:Int))
def gf (s:pC) (id:Int):Et :=
 match s.gs.find? (Ec id) with
 | some g=>⟨lO g.items (id-(lO g.items 0).id).toNat,s.g,g.sh,[]⟩
 | none=>⟨aaM,[],[],[]⟩
def kU (ev:List Ev) (made nth:Int):Option Ev:=if nth<made then none else(ev.filter bU)[(nth-made).toNat]?
def goP (c:Code) (l:bG) (en:List Ev->Bool):Nat->Int->Et->Et×Bool
  | 0,_,r=>(r,false)
  | f+1,n,r =>
    if r.it.at_=1 then
      (if(stepP c l r.it r.g r.sh n).e=0 then
        (if en (r.ev++(stepP c l r.it r.g r.sh n).ev) then(⟨(stepP c l r.it r.g r.sh n).it,(stepP c l r.it r.g r.sh n).g,(stepP c l r.it r.g r.sh n).s,r.ev++(stepP c l r.it r.g r.sh n).ev⟩,true)
         else goP c l en f (n+1) ⟨(stepP c l r.it r.g r.sh n).it,(stepP c l r.it r.g r.sh n).g,(stepP c l r.it r.g r.sh n).s,r.ev++(stepP c l r.it r.g r.sh n).ev⟩)
       else(r,false))
    else(r,false)
def J0 (c:Code) (l:bG) (s:pC) (r:Et) (nth:Int):Et×Bool:=goP c l (λ ev=>(kU ev (s.made r.it.id) nth).isSome) 200 0 r
def fU.it (w:fU) (a:Bool):Int:=if a then w.i1 else w.i0
def fU.nth (w:fU) (a:Bool):Int:=if a then w.n1 else w.n0
def mD (w:fU) (e:Ev):Bool:=decide (e.arr=w.ar)&&decide (e.i=w.ix)
def Tl (s:pC) (r:Et) (nth:Int):Ev:=(kU r.ev (s.made r.it.id) nth).getD ⟨0,0,0,0,0,0,0,0,0⟩
def Cw (c:Code) (l:bG) (s:pC) (w:fU) (a:Bool):Et×Bool:=J0 c l s (gf s (w.it a)) (w.nth a)
def OA (c:Code) (l:bG) (s:pC) (w:fU) (a:Bool):Et :=
 { gf s (w.it !a) with g:=(Cw c l s w a).1.g,sh:=if s.gs.length=1 then(Cw c l s w a).1.sh else(gf s (w.it !a)).sh }
def GY (c:Code) (l:bG) (s:pC) (w:fU) (a:Bool):Et×Bool:=J0 c l s (OA c l s w a) (w.nth !a)
def qM (c:Code) (l:bG) (s:pC) (w:fU) (a:Bool):Option (List Ev) :=
 if(Cw c l s w a).2=true/\(GY c l s w a).2=true/\mD w (Tl s (Cw c l s w a).1 (w.nth a))=true/\mD w (Tl s (GY c l s w a).1 (w.nth !a))=true /\
  KV (Tl s (Cw c l s w a).1 (w.nth a)) (Tl s (GY c l s w a).1 (w.nth !a))=true
 then some ((Cw c l s w a).1.ev++(GY c l s w a).1.ev) else none
def worksP (c:Code) (l:bG) (s:pC) (w:fU):Option (List Ev×List Ev) :=
 match qM c l s w false with
 | none=>none
 | some a=>match qM c l s w true with
  | none=>none
  | some b=>some (a,b)
def endP (c:Code) (l:bG):Nat->Mm->Gr->Option Mm
 | 0,m,x=>if iq x.items then some m else none
 | f+1,m,x=>if iq x.items then some m else if(cY c l m x).e=0 then endP c l f (cY c l m x).g (cY c l m x).x else none
def preP (c:Code) (l:bG) (m:Mm):Nat->Option Mm
 | 0=>some m
 | k+1=>match preP c l m k with
  | none=>none
  | some m'=>endP c l 1000 m' (cw c (k:Int))
def cntP (made:Int->Int):List Ev->Int->Int
 | []=>made
 | e::r=>cntP (if bU e then(λ i=>if i=e.item then made i+1 else made i) else made) r
def stgsP (c:Code) (l:bG):Nat->Mm->Gr->(Int->Int)->List pC
 | 0,_,_,_=>[]
 | f+1,m,x,made=>⟨m,[x],made⟩::(if(cY c l m x).e=0/\iq (cY c l m x).x.items=false then stgsP c l f (cY c l m x).g (cY c l m x).x (cntP made (cY c l m x).ev) else [])
def fI (c:Code) (l:bG) (m:Mm) (g:Nat):List pC :=
 match preP c l m g with
 | none=>[]
 | some m'=>stgsP c l 100 m' (cw c (g:Int)) λ _=>0
def iQ (c:Code) (m:Mm) (g h:Int):pC:=⟨m,[cw c g,cw c h],λ _=>0⟩
def iz (c:Code) (l:bG) (s:pC) (id:Int):List Ev:=(goP c l (λ _=>false) 200 0 (gf s id)).1.ev.filter bU
def LZ (c:Code) (n:Int):Int:=((c.arrays[n.toNat]?).map fv.space).getD 0
def yp (c:Code) (l:bG) (s:pC) (w:fU) (a b:Int) (n m:Nat) (p q:Ev):Option fU :=
 if p.arr≠q.arr\/p.i≠q.i\/(s.gs.length=2/\LZ c p.arr≠1) then none
 else
  let w':fU:={ w with i0:=a,i1:=b,n0:=s.made a+(n:Int),n1:=s.made b+(m:Int),ar:=p.arr,ix:=p.i }
  if(worksP c l s w').isSome then some w' else none
def jQ (c:Code) (l:bG) (s:pC) (w:fU) (one two:List Int):Option fU :=
 one.findSome? λ a=>two.findSome? λ b=>if b<=a then none else
  (iz c l s a).zipIdx.findSome? λ p=>(iz c l s b).zipIdx.findSome? λ q=>yp c l s w a b p.2 q.2 p.1 q.1
def bQ (c:Code) (g:Nat):List Int:=(List.range c.group.toNat).map λ(i:Nat)=>(g:Int)*c.group+(i:Int)
def v8 (l:bG) (m:Mm):fU:=⟨l,m,0,0,0,0,0,0⟩
def huntP (c:Code) (l:bG) (m:Mm):Option fU :=
 match (List.range l.groups.toNat).findSome? λ g=>(fI c l m g).findSome? λ s=>jQ c l s (v8 l m) (bQ c g) (bQ c g) with
 | some w=>some w
 | none=>(List.range l.groups.toNat).findSome? λ(g:Nat)=>((List.range l.groups.toNat).drop (g+1)).findSome? λ(h:Nat)=>jQ c l (iQ c m g h) (v8 l m) (bQ c g) (bQ c h)
def mE (c:Code) (w:fU):Option (List Ev×List Ev) :=
 if w.i0.tdiv c.group=w.i1.tdiv c.group then(fI c w.l w.g (w.i0.tdiv c.group).toNat).findSome? λ s=>worksP c w.l s w
 else worksP c w.l (iQ c w.g (w.i0.tdiv c.group) (w.i1.tdiv c.group)) w
theorem acy {e:Ev}:∀d,d∈[e.e]->d.vd=true/\aD d:=λ d hd=>by
 simp at hd;subst hd;exact e.bR.pair
theorem VU {e:Ev}:aV PP jl [e.e] (· = .bool (bU e)):=by
 refine bt HK (aC _ _ _) rfl (Hx _ _) ?_;dsimp only[Dh,xB,xF,xL,xP];refine Vs.nil.box e.bR.one λ n h V=>?_
 have a0:h n=.box (.agg e.cs):=V.get 0 _ _ rfl;rw[V.fa 0 rfl,cT a0 (j:=0) rfl];by_cases h1:e.kind=1
 ·simp (disch:=omega) only[↓cS,↓gS];grind [bO,bU]
 by_cases h2:e.kind=2
 ·simp (disch:=omega) only[↓cS,↓gS,↓kn a0,↓cT a0 (j:=0) rfl];grind [bO,bU]
 by_cases h3:e.kind=3
 ·simp (disch:=omega) only[↓cS,↓gS,↓kn a0,↓cT a0 (j:=0) rfl];grind [bO,bU]
 simp (disch:=omega) only[↓cS,↓gS,↓kn a0,↓cT a0 (j:=0) rfl];grind [bO,bU]
theorem Ll {e:Ev}{h:Heap}{KH:HKq}(hK:KH (.bool (bU e)) h):ag PP jl [e.e] h KH:=by
 refine bk VU acy ?_;rintro _ rfl;exact hK
theorem QA {a b:Ev}:aV PP pn [a.e,b.e] (· = .bool (KV a b)):=by
 refine bt EE (aC _ _ _) rfl (Er _ _ _) ?_;dsimp only[xN,xB,xF,xL,xP];refine Vs.nil.box a.bR.one λ n h V=>?_
 refine V.box b.bR.one λ m h2 V=>?_
 have u:h2 n=.box (.agg a.cs):=V.get 1 _ _ rfl;have a0:h2 m=.box (.agg b.cs):=V.get 0 _ _ rfl;rw[V.fa 1 rfl,cT u (j:=0) rfl];unfold KV;by_cases h1:a.kind=1
 ·simp (disch:=omega) only[↓cS,↓gS,↓kn a0,↓cT a0 (j:=0) rfl,h1,if_true];by_cases h2:b.kind=1
  ·simp (disch:=omega) only[↓cS];grind [bO]
  ·simp (disch:=omega) only[↓cS];grind [bO]
 by_cases h3:a.kind=3
 ·simp (disch:=omega) only[↓cS,↓gS,↓kn u,↓cT u (j:=0) rfl,↓kn a0,↓cT a0 (j:=0) rfl];by_cases h2:b.kind=3
  ·simp (disch:=omega) only[↓cS,↓gS,↓kn u,↓cT u (j:=1) rfl,↓kn a0,↓cT a0 (j:=1) rfl];by_cases h4:a.op=b.op
   ·simp (disch:=omega) only[↓cS,↓gS];grind [bO]
   ·simp (disch:=omega) only[↓cS,↓gS];grind [bO]
  ·simp (disch:=omega) only[↓cS,↓gS];grind [bO]
 ·simp (disch:=omega) only[↓cS,↓gS,↓kn u,↓cT u (j:=0) rfl];grind [bO]
def EH (L:LSq) (md:D) (made:Int->Int):Prop :=
 (md=.nilmap/\∀k,made k=0)\/∃n ents,md=.mp n/\(n,Slot.map (.int .i64) ents)∈L/\∀k,(mget ents (.int .i64 k)).getD (.int .i64 0)=.int .i64 (made k)
def lE (s:pC) (md:D):List D:=[aZ s.g,.sl (s.gs.map Gr.e),md]
theorem EH.one {L:LSq}{md:D}{made:Int->Int}(m:EH L md made):md.one=true:=by
 rcases m with⟨rfl,-⟩|⟨n,ents,rfl,-⟩<;>rfl
theorem EH.mono {L L':LSq}{md:D}{made:Int->Int}(hs:∀x∈L,x∈L') (m:EH L md made):EH L' md made:=by
 rcases m with h|⟨n,ents,h1,h2,h3⟩
 ·exact Or.inl h
 ·exact Or.inr ⟨n,ents,h1,hs _ h2,h3⟩
theorem su {s:pC}{L:LSq}{md:D}{made:Int->Int}(m:EH L md made):∀x,x∈lE s md->x.one=true:=λ x hx=>by
 simp[lE]at hx;rcases hx with rfl|rfl|rfl
 ·rfl
 ·rfl
 ·exact m.one
theorem Vs.mem {h:Heap}{L:LSq}(V:Vs h L){n:Nat}{s:Slot}(hm:(n,s)∈L):h n=s:=((Vs.iff.1 V).1 n s hm).1
def GU (r:Et) (dev:D):List D:=r.it.cs++[aZ r.g,aZ r.sh,dev]
structure Wp (c:Code) (l:bG) (s:pC):Prop where
 g:cq c.arrays 1 s.g
 gs:∀x∈s.gs,PE c l x
theorem PE.first {c:Code}{l:bG}{x:Gr}(hc:ba c) (w:PE c l x):(lO x.items 0).id=x.id*c.group/\0<x.items.length/\x.items[0]?=some (lO x.items 0):=by
 have hg:=hc.group;have hn:=w.n;have h0:x.items[0]?=some (x.items[0]'(by omega)):=aG _;refine⟨?_,by omega,by rw[kJ h0];exact h0⟩;rw[kJ h0,(w.it 0 _ h0).2];omega
theorem Yg {α:Type}{p:α->Bool}{l:List α}{i:Nat}{x:α}(h0:(l.take i).find? p=none) (hx:l[i]?=some x) (hp:p x=true):l.find? p=some x:=by
 grind [List.take_append_drop,List.drop_eq_getElem_cons]
theorem Rw {α:Type}{p:α->Bool}{l:List α}{i:Nat}{x:α}(h0:(l.take i).find? p=none) (hx:l[i]?=some x) (hp:p x=false):(l.take (i+1)).find? p=none:=by
 grind [List.take_add_one]
theorem acp {P:Program}{l:List Gr}{k:Nat}{r:Gr}(hr:l[k]?=some r){h:Heap}{KH:HKq}:ab P (.iadd (.c (.sl (l.map Gr.e))) (.c (.int .i64 (k:Int))) 3) h KH=KH (.vp r.e 0) h :=
 yA (by omega) (by grind) rfl
theorem Y5 {P:Program}{l:List It}{k:Nat}{r:It}(hr:l[k]?=some r){h:Heap}{KH:HKq}:ab P (.iadd (.c (.sl (l.map It.e))) (.c (.int .i64 (k:Int))) 7) h KH=KH (.vp r.e 0) h :=
 yA (by omega) (by grind) rfl
theorem Lk {c:Code}{l:bG}{s:pC}{md:D}{id:Int}{h:Heap}{L:LSq}{KH:HKq}(hc:ba c) (hl:bY c l) (w:Wp c l s) (V:Vs h L) (m:EH L md s.made) (hf:(s.gs.find? (Ec id)).isSome=true) (hgl:s.gs.length<=1000)
  (hK:∀h',Vs h' L->KH (.agg (GU (gf s id) .nil)) h'):ag PP eH [.agg (lE s md),.int .i64 id] h KH:=by
 have hg:=hc.group;have hm:=(Nu hc hl).2;refine aI xq (aC _ _ _) rfl (xf _ _ _) ?_;dsimp only[pO,xB,xF,xL,xS];refine V.box (su m) λ n3 h4 V4=>?_
 refine V4.alloc λ n5 h6 W=>?_
 refine⟨λ _ _=>False,λ _ _ h=>h.elim,?_⟩;rw[W.fa 1 rfl,W.zp 1 (j:=1) (e:=.sl (s.gs.map Gr.e)) rfl rfl,gd,aE];dsimp only[nc,xF,xI,xL,xP,xS,yF,yI,yL]
 refine⟨λ b x h'=>∃(i:Nat),x=[.int .i64 (i:Int)]/\b+i=s.gs.length/\(s.gs.take i).find? (Ec id)=none/\Vs h' ((n5,.box (.agg [.int .i64 0,.int .i64 0,.int .i64 0,.int .i64 0,.nil,.nil,.nil,.nil,.nil,.nil]))::(n3,.box (.agg (lE s md)))::L),s.gs.length,
  ⟨0,rfl,by omega,rfl,W⟩,?_⟩
 rintro b f h7 ⟨i,hx,a1,H,V7⟩;simp only[av,and_true]at hx;simp only[hx];by_cases hi:i<s.gs.length
 case neg =>
  grind [List.take_of_length_le]
 obtain⟨x,E⟩:∃x,s.gs[i]?=some x:=⟨_,aG hi⟩;have O:=w.gs x (aK E);obtain⟨q1,q2,q3⟩:=O.first hc;have wn:=O.n;have w0:=(O.it 0 _ q3).1.id;rw[DY (by omega),ai,acp E,show x.e=.agg x.cs from rfl,SI (s:=3) rfl];refine V7.alloc λ Q a5 Z=>?_
 refine Z.eU 0 rfl rfl (cs':=x.cs) rfl x.P0 λ I u=>?_
 simp only[List.set_cons_zero]at u;have a0:I Q=.box (.agg x.cs):=u.get 0 _ _ rfl;rw[u.fa 0 rfl,cT a0 (j:=1) rfl,show(D.int .i64 0)=.int .i64 ((0:Nat):Int) from rfl,Y5 q3,fav,show(lO x.items 0).e=.agg (lO x.items 0).cs from rfl,L8 (e:=.int .i64 (lO x.items 0).id) rfl];by_cases h1:(lO x.items 0).id<=id
 case neg =>
  simp (disch:=omega) only[↓cS,↓gS,ae,true_and];exact⟨s.gs.length-(i+1),by omega,i+1,by simp,by omega,Rw H E (by simp[Ec,h1]),u.pop⟩
 by_cases h2:id<(lO x.items 0).id+(x.items.length:Int)
 case neg =>
  simp (disch:=omega) only[↓cS,↓gS,↓kn a0,↓cT a0 (j:=1) rfl,(PV x.items).len,aE,ae,true_and];exact⟨s.gs.length-(i+1),by omega,i+1,by simp,by omega,Rw H E (by simp[Ec,h1,h2]),u.pop⟩
 simp (disch:=omega) only[↓cS,↓gS,↓kn a0,↓cT a0 (j:=1) rfl,(PV x.items).len,aE];obtain⟨j,hj⟩:∃j:Nat,id-(lO x.items 0).id=(j:Int):=⟨(id-(lO x.items 0).id).toNat,by omega⟩
 have S:x.items[j]?=some (lO x.items j):=by
  grind [kJ]
 have hr:gf s id=⟨lO x.items j,s.g,x.sh,[]⟩:=by
  grind [gf,Yg,Ec]
 simp only[hj,↓et a0,↓aX a0 (j:=1) rfl];have a2:I n3=.box (.agg (lE s md)):=u.get 2 _ _ rfl;rw[eD,Y5 S,fB,show(lO x.items j).e=.agg (lO x.items j).cs from rfl,SI (s:=7) rfl];simp only[↓et a2,↓aX a2 (j:=0) rfl,↓et a0,↓aX a0 (j:=2) rfl];rw[lS rfl];rw[hr]at hK;refine u.eU 1 (cs':=GU ⟨lO x.items j,s.g,x.sh,[]⟩ .nil) rfl rfl rfl (λ y hy=>?_) λ U G=>?_
 ·simp only[GU,List.mem_append]at hy;rcases hy with hy|hy
  ·exact(It.bR _).one y hy
  ·simp at hy;rcases hy with rfl|rfl|rfl<;>rfl
 simp only[List.set_cons_succ,List.set_cons_zero]at G;rw[G.eR 1 (s:=10) rfl rfl];exact hK U G.pop.pop.pop
section
variable {e:Nat}{h:Heap}{L M:LSq}{v:D}{T:List D}{KH:HKq}{K:D->Prop}
theorem QG.len (q:QG e h L v T):bq v h K=K (.int .i64 (T.length:Int)):=by
 rcases q with⟨rfl,rfl,V⟩|⟨m,rfl,V⟩
 ·rw[zw];rfl
 ·exact I1 (V.get 0 _ _ rfl)
theorem QG.ldE (q:QG e h L v T){i:Nat}{cs:List D}(hi:T[i]?=some (.agg cs)) (hc:cs.length=e) (hK:KH (.agg cs) h):ab PP (.iadd (.c v) (.c (.int .i64 (i:Int))) e) h λ a h1=>ab PP (.ld (.c a) e true) h1 KH:=by
 have hl:=(aq.1 hi).1;rcases q with⟨rfl,rfl,V⟩|⟨m,rfl,V⟩
 ·simp at hl
 ·rw[Tz (V.get 0 _ _ rfl) rfl (by omega) (by omega),aT,Nat.zero_add,UW (V.get 0 _ _ rfl) hi hc];exact hK
theorem QG.alloc {d:D}(q:QG e h L v T) (hK:∀n h',QG e h' ((n,.box d)::L) v T->KH (.ptr n 0 0) h'):ab PP (.alloc d) h KH:=by
 rcases q with⟨rfl,rfl,V⟩|⟨m,rfl,V⟩
 ·exact V.alloc λ n h' u=>hK n h' (Or.inl ⟨rfl,rfl,u⟩)
 ·exact V.alloc λ n h' u=>hK n h' (Or.inr ⟨m,rfl,u.perm (List.Perm.swap _ _ _)⟩)
theorem QG.box {d:D}(q:QG e h L v T) (ho:aD d) (hK:∀n h',QG e h' ((n,.box d)::L) v T->KH (.ptr n 0 0) h'):ab PP (.box (.c d)) h KH:=by
 rcases q with⟨rfl,rfl,V⟩|⟨m,rfl,V⟩
 ·exact V.box ho λ n h' u=>hK n h' (Or.inl ⟨rfl,rfl,u⟩)
 ·exact V.box ho λ n h' u=>hK n h' (Or.inr ⟨m,rfl,u.perm (List.Perm.swap _ _ _)⟩)
theorem QG.sub {L':LSq}(p:L'.Sublist L) (q:QG e h L v T):QG e h L' v T:=by
 rcases q with⟨rfl,u,V⟩|⟨m,rfl,V⟩
 ·exact Or.inl ⟨rfl,u,V.sub p⟩
 ·exact Or.inr ⟨m,rfl,V.sub (p.cons_cons _)⟩
end
theorem NU {l:List Ev}{i:Nat}{x:Ev}(h:l[i]?=some x):(l.map Ev.e)[i]?=some (.agg x.cs):=by simp[h,Ev.e]
def Fw:Ev:=⟨0,0,0,0,0,0,0,0,0⟩
def qE (r:Et) (nx:Nat) (h:Heap) (L:LSq):Prop:=∃dev,QG 9 h ((nx,.box (.agg (GU r dev)))::L) dev (r.ev.map Ev.e)
section
variable {r:Et}{nx:Nat}{h:Heap}{L:LSq}{KH:HKq}
theorem qE.lift (rr:qE r nx h L):∃X,Vs h (X++L)/\∀h' L',Vs h' (X++L')->qE r nx h' L':=by
 obtain⟨dev,q⟩:=rr;rcases q with⟨rfl,E,V⟩|⟨m,rfl,V⟩
 ·exact⟨[_],V,λ h' L' u=>⟨.nil,Or.inl ⟨rfl,E,u⟩⟩⟩
 ·exact⟨[_,_],V,λ h' L' u=>⟨_,Or.inr ⟨m,rfl,u⟩⟩⟩
theorem qE.vs (rr:qE r nx h L):Vs h L:=by
 obtain⟨X,V,-⟩:=rr.lift;exact V.iw
theorem qE.sub {L':LSq}(p:L'.Sublist L) (rr:qE r nx h L):qE r nx h L':=by
 obtain⟨X,V,lift⟩:=rr.lift;exact lift h L' (V.sub (p.append_left X))
theorem qE.perm {L':LSq}(p:L.Perm L') (rr:qE r nx h L):qE r nx h L':=by
 obtain⟨X,V,lift⟩:=rr.lift;exact lift h L' (V.perm (p.append_left X))
theorem qE.new (V:Vs h ((nx,.box (.agg (GU r .nil)))::L)) (h0:r.ev=[]):qE r nx h L:=⟨.nil,Or.inl ⟨rfl,by rw[h0];rfl,V⟩⟩
def ir (l:List Ev):Nat:=(l.filter bU).length
theorem RH (l:List Ev):ir l<=l.length:=List.length_filter_le _ _
theorem uY {l:List Ev}{i:Nat}{e:Ev}(he:l[i]?=some e):ir (l.take (i+1))=ir (l.take i)+if bU e then 1 else 0:=by
 grind [ir,List.take_add_one]
theorem Vm {l:List Ev}{i:Nat}{e:Ev}{made nth:Int}(he:l[i]?=some e) (ha:bU e=true) (hm:made+(ir (l.take i):Int)=nth):kU l made nth=some e:=by
 have hi:=(aq.1 he).1
 have u:l=l.take i++e::l.drop (i+1):=by
  grind [List.take_append_drop,List.drop_eq_getElem_cons]
 grind [kU,ir]
theorem SY {l:List Ev}{made nth:Int}(h:nth<made\/made+(ir l:Int)<=nth):kU l made nth=none:=by
 grind [kU,ir]
theorem abg {made nth:Int}(rr:qE r nx h L) (hb : -1000000000<=made/\made<=1000000000) (hl:r.ev.length<=1000000000)
  (hK:∀h',qE r nx h' L->KH (.tup [((kU r.ev made nth).getD Fw).e,.bool (kU r.ev made nth).isSome]) h'):ag PP lG [.ptr nx 0 0,.int .i64 made,.int .i64 nth] h KH:=by
 refine aI zn (aC _ _ _) rfl (ze _ _ _ _) ?_;dsimp only[rD,xF,xL,xS];obtain⟨dev,q⟩:=rr;refine q.alloc λ n4 h5 I=>?_
 refine⟨λ _ h'=>kU r.ev made nth=none/\QG 9 h' ((n4,.box (.agg Fw.cs))::(nx,.box (.agg (GU r dev)))::L) dev (r.ev.map Ev.e),?_,?_⟩
 ·rintro _ h8 ⟨H,q8⟩;rw[aa3];refine q8.eU 0 rfl rfl (cs':=Fw.cs) rfl Fw.bR.one λ W G=>?_
  simp only[List.set_cons_zero]at G;rw[G.vs.eR 0 (s:=9) rfl rfl];have:=hK W ⟨dev,G.pop⟩
  rwa [H]at this
 have Z:h5 nx=.box (.agg (GU r dev)):=I.vs.get 1 _ _ rfl;rw[I.vs.fa 1 rfl];have u1:(h5 nx).used=true:=by rw[Z];rfl
 simp only[↓jc u1,Nat.zero_add];rw[cT Z (j:=9) (d:=dev) rfl,I.len,aE];dsimp only[nE,xI,xL,xS]
 refine⟨λ b x h'=>∃(i:Nat),x=[.int .i64 (made+(ir (r.ev.take i):Int)),.int .i64 (i:Int)]/\b+i=r.ev.length/\(nth<made\/made+(ir (r.ev.take i):Int)<=nth)/\QG 9 h' ((n4,.box (.agg Fw.cs))::(nx,.box (.agg (GU r dev)))::L) dev (r.ev.map Ev.e),r.ev.length,
  ⟨0,by simp[ir],by omega,by simp[ir];omega,I⟩,?_⟩
 clear Z u1 I q;rintro b f h7 ⟨i,hx,a5,H,q7⟩;simp only[av,and_true]at hx;obtain⟨U,S⟩:=hx;simp only[U,S];have hc:=RH (r.ev.take i);rw[List.length_take]at hc;by_cases hi:i<r.ev.length
 case neg =>
  grind [HZ,ah,ae,SY]
 obtain⟨e,he⟩:∃e,r.ev[i]?=some e:=⟨_,aG hi⟩;rw[DY (by omega),ai];refine⟨λ x h'=>x=[.int .i64 (made+(ir (r.ev.take (i+1)):Int))]/\(nth<made\/made+(ir (r.ev.take (i+1)):Int)<=nth)/\QG 9 h' ((n4,.box (.agg Fw.cs))::(nx,.box (.agg (GU r dev)))::L) dev (r.ev.map Ev.e),?_,?_⟩
 ·rintro f2 h2 ⟨hx,O,q2⟩;simp only[av,and_true]at hx;rw[hx];simp (disch:=omega) only[↓cS,ae,true_and];exact⟨r.ev.length-(i+1),by omega,i+1,by simp,by omega,O,q2⟩
 refine q7.ldE (NU he) rfl ?_;refine q7.alloc λ a2 a7 Q=>?_
 refine Q.eU 0 rfl rfl (cs':=e.cs) rfl e.bR.one λ a6 u=>?_
 simp only[List.set_cons_zero]at u;rw[u.vs.eR 0 (s:=9) rfl rfl];refine Ll ?_;have ht:=uY he;cases ha:bU e
 ·rw[ha]at ht;simp only[↓gS,ae,true_and];refine⟨?_,?_,u.pop⟩
  ·rw[ht];simp
  ·rw[ht];simpa using H
 ·rw[ha]at ht;simp only[↓gS];by_cases hm:made+(ir (r.ev.take i):Int)=nth
  ·rw[eqT hm,ai,u.vs.eR 0 (s:=9) rfl rfl];refine u.eU 1 rfl rfl (cs':=e.cs) rfl e.bR.one λ V E=>?_
   simp only[List.set_cons_zero,List.set_cons_succ]at E;rw[E.vs.eR 1 (s:=9) rfl rfl];have:=hK V ⟨dev,E.pop.pop⟩;rw[Vm he ha hm]at this;exact this
  ·rw[eqF hm,ah];simp (disch:=omega) only[↓cS,ae,true_and];refine⟨?_,?_,u.pop⟩
   ·rw[ht];simp;omega
   ·rw[ht];simp;omega
end
end Go.Am
namespace Go.Am
open Go
def gM (c:Code) (l:bG):List D:=[.int .i64 c.group,.int .i64 c.sub,.int .i64 c.regs,.int .i64 c.slots,.int .i64 c.params,.sl (c.arrays.map fv.e),.sl (c.loops.map Loop.e),.sl (c.b.map Block.e),.int .i64 l.groups,words l.args]
theorem lh {c:Code}{l:bG}:∀x,x∈gM c l->x.one=true:=λ x hx=>by
 simp only[gM,List.mem_cons,List.not_mem_nil,or_false]at hx;rcases hx with rfl|rfl|rfl|rfl|rfl|rfl|rfl|rfl|rfl|rfl<;>rfl
structure QP (c:Code) (l:bG) (r:Et):Prop where
 it:PC c l r.it
 g:cq c.arrays 1 r.g
 sh:cq c.arrays 2 r.sh
def Et.next (r:Et) (s:Stp):Et:=⟨s.it,s.g,s.s,r.ev++s.ev⟩
section
variable {c:Code}{l:bG}{r:Et}{nx:Nat}{h:Heap}{L:LSq}{KH:HKq}
theorem QP.next {n:Int}(hc:ba c) (hl:bY c l) (w:QP c l r):QP c l (r.next (stepP c l r.it r.g r.sh n))/\(stepP c l r.it r.g r.sh n).ev.length<=20:=by
 obtain⟨⟨E,u,a3⟩,a4⟩:=PR (aM:=n) hc hl w.it w.g w.sh;exact⟨⟨E,u,a3⟩,a4⟩
theorem Ac {en:List Ev->Bool}{f:Nat}{n:Int}:goP c l en (f+1) n r=if r.it.at_=1 then(if(stepP c l r.it r.g r.sh n).e=0 then(if en (r.next (stepP c l r.it r.g r.sh n)).ev then(r.next (stepP c l r.it r.g r.sh n),true) else goP c l en f (n+1) (r.next (stepP c l r.it r.g r.sh n))) else(r,false)) else(r,false):=rfl
theorem Zk {en:List Ev->Bool}{cl:D}{Lf:Option (List Ev)->LSq}(hc:ba c) (hl:bY c l) (w:QP c l r) (h0:r.ev=[]) (rr:qE r nx h (Lf none))
  (hcl:∀(N:LSq) (o:Option (List Ev)) (r':Et) (h':Heap) (KH':HKq),qE r' nx h' (N++Lf o)->r'.it.id=r.it.id->r'.ev.length<=4000->(∀h'',qE r' nx h'' (N++Lf (some r'.ev))->KH' (.bool (en r'.ev)) h'')->ab PP (.callv (.c cl) []) h' KH')
  (hK:∀h' o,qE (goP c l en 200 0 r).1 nx h' (Lf o)->((goP c l en 200 0 r).2=true->o=some (goP c l en 200 0 r).1.ev)->KH (.bool (goP c l en 200 0 r).2) h') :
  ag PP lj [.agg (gM c l),.ptr nx 0 0,cl] h KH:=by
 refine aI EC (aC _ _ _) rfl (Eo _ _ _ _) ?_;dsimp only[xK,xB]
 have box:∀{L:LSq}{h:Heap}{r:Et}{d:D}{KH:HKq},qE r nx h L->aD d->(∀n h',qE r nx h' ((n,.box d)::L)->KH (.ptr n 0 0) h')->ab PP (.box (.c d)) h KH:=by
  intro L h r d KH rr ho hK;obtain⟨X,V,lift⟩:=rr.lift;exact V.box ho λ n h' V'=>hK n h' (lift h' _ (V'.perm List.perm_middle.symm))
 refine box rr (λ x hx=>lh x hx) λ n4 h5 S=>?_
 obtain⟨R,hR⟩:∃R,R=goP c l en 200 0 r:=⟨_,rfl⟩;rw[<- hR]at hK;refine⟨λ _ h'=>R.2=false/\∃o,qE R.1 nx h' (Lf o),?_,?_⟩
 ·grind
 dsimp only[ru,xF,xL,xP,xS,yF,yL]
 refine⟨λ b x h'=>∃(k:Nat) (r':Et) (o:Option (List Ev)),x=[.int .i64 (k:Int)]/\b+k=200/\QP c l r'/\r'.it.id=r.it.id/\r'.ev.length<=20*k/\qE r' nx h' ((n4,.box (.agg (gM c l)))::Lf o)/\goP c l en b (k:Int) r'=R,200,
  ⟨0,r,none,rfl,by omega,w,rfl,by rw[h0];simp,S,hR.symm⟩,?_⟩
 clear S rr hR w box;rintro b f h1 ⟨k,u,o,hx,c4,w1,c2,c3,Q,hg⟩;simp only[av,and_true]at hx;simp only[hx];by_cases hk:k<200
 case neg =>
  have:b=0:=by omega
  subst this;rw[goP]at hg;simp (disch:=omega) only[↓cS,↓gS,ae,true_and];rw[<- hg];exact⟨rfl,o,Q.sub (List.sublist_cons_self _ _)⟩
 obtain⟨b,rfl⟩:∃b',b=b'+1:=⟨b-1,by omega⟩;rw[Ac]at hg;have a8:=Q;obtain⟨dev,q⟩:=Q;have a0:h1 nx=.box (.agg (GU u dev)):=q.vs.get 0 _ _ rfl;have a1:h1 n4=.box (.agg (gM c l)):=q.vs.get 1 _ _ rfl;have E:(h1 nx).used=true:=by rw[a0];rfl
 have u1:(h1 n4).used=true:=by rw[a1];rfl
 simp (disch:=omega) only[↓cS,↓gS,↓jc E,Nat.zero_add];rw[cT a0 (j:=1) (d:=.int .i64 u.it.at_) rfl];by_cases ha:u.it.at_=1
 case neg =>
  rw[if_neg ha]at hg;simp (disch:=omega) only[↓cS,↓gS,ae,true_and];rw[<- hg];exact⟨rfl,o,a8.sub (List.sublist_cons_self _ _)⟩
 rw[if_pos ha]at hg;obtain⟨s,hs⟩:∃s,s=stepP c l u.it u.g u.sh (k:Int):=⟨_,rfl⟩;obtain⟨w3,W⟩:=w1.next (n:=(k:Int)) hc hl;rw[<- hs]at hg w3 W;have e1:∀{K:D->Prop},an PP (.ld (.c (.ptr n4 0 0)) 8 true) h1 K=K c.e:=gI a1 (by show 0+8<=10;omega) rfl;have e2:∀{K:D->Prop},an PP (.ld (.c (.ptr n4 0 8)) 2 true) h1 K=K l.e:=gI a1 (by show 8+2<=10;omega) rfl;have e3:∀{K:D->Prop},an PP (.ld (.c (.ptr nx 0 0)) 7 true) h1 K=K u.it.e:=gI a0 (by show 0+7<=10;omega) rfl;have e4:∀{K:D->Prop},an PP (.ld (.c (.ptr nx 0 7)) 1 false) h1 K=K (aZ u.g):=aX a0 rfl;have e5:∀{K:D->Prop},an PP (.ld (.c (.ptr nx 0 8)) 1 false) h1 K=K (aZ u.sh):=aX a0 rfl;simp (disch:=omega) only[↓cS,↓gS,↓uX E,↓uX u1,Nat.zero_add,e1,e2,e3,e4,e5];refine RE (Um hc hl w1.it.toItW w1.g w1.sh (aM:=(k:Int))) (λ d hd=>?_) ?_
 ·simp at hd;rcases hd with rfl|rfl|rfl|rfl|rfl|rfl
  ·exact kL c
  ·exact⟨rfl,jA l⟩
  ·exact(It.bR _).pair
  ·exact mO _
  ·exact mO _
  ·exact dT
 rw[<- hs];unfold WQ;simp only[↓xy,↓h_ext,List.getElem?_cons_zero,List.getElem?_cons_succ];clear e1 e2 e3 e4 e5 E u1 a0 a1;refine q.alloc λ c1 c9 q=>?_
 refine q.eU 0 rfl rfl (cs':=s.it.cs) rfl s.it.bR.one λ H q=>?_
 simp only[List.set_cons_zero]at q;by_cases he:s.e=0
 case neg =>
  rw[if_neg he]at hg;simp (disch:=omega) only[↓cS,↓ai];have:=hK H o (by rw[<- hg];exact qE.sub (List.sublist_cons_self _ _) ⟨dev,q.pop⟩) (by rw[<- hg];simp)
  rwa [<- hg]at this
 rw[if_pos he]at hg;simp (disch:=omega) only[↓cS,↓ah];rw[q.vs.eR 0 (s:=7) rfl rfl];have go:∀{L:LSq}{h:Heap}{cs:List D},Vs h ((c1,.box (.agg s.it.cs))::(nx,.box (.agg cs))::L)->(h nx).used=true:=λ V=>by rw[V.get 1 _ _ rfl];rfl
 have E:=go q.vs;simp only[↓jc E,Nat.zero_add]
 have a6:ab PP (.st (.c (.ptr nx 0 0)) (.c (.agg s.it.cs)) 7) H=λ KH=>KH .undef (ak H nx (.box (.agg (s.it.cs++[aZ u.g,aZ u.sh,dev])))):=by
  funext KH;have a0:H nx=.box (.agg (GU u dev)):=q.vs.get 1 _ _ rfl;rw[fG,a0];apply propext;constructor
  ·intro hh;exact hh.2.2.2.2
  ·intro hk;exact⟨rfl,s.it.bR.one,rfl,by show 0+7<=10;omega,hk⟩
 rw[a6];simp only[];have q:=q.aM 1 (n:=nx) (s':=.box (.agg (s.it.cs++[aZ u.g,aZ u.sh,dev]))) rfl (by simp);simp only[List.set_cons_succ,List.set_cons_zero]at q;generalize ak H nx (.box (.agg (s.it.cs++[aZ u.g,aZ u.sh,dev])))=c8 at q;have E:=go q.vs;simp only[↓jc E,Nat.zero_add];refine q.DO 1 (j:=7) rfl (by show 7<10;omega) rfl λ c7 q=>?_
 simp only[List.set_cons_succ,List.set_cons_zero]at q;have E:=go q.vs;simp only[↓jc E,Nat.zero_add];refine q.DO 1 (j:=8) rfl (by show 8<10;omega) rfl λ c6 q=>?_
 simp only[List.set_cons_succ,List.set_cons_zero]at q;have E:=go q.vs;simp only[↓jc E,Nat.zero_add];rw[q.vs.zp 1 (j:=9) (e:=dev) rfl rfl];refine q.app Fv (by grind) (by grind) λ a5 c5 q=>?_
 have E:=go q.vs;simp only[↓jc E,Nat.zero_add];refine q.DO 1 (j:=9) rfl (by show 9<10;omega) q.one λ O q=>?_
 simp only[List.set_cons_succ,List.set_cons_zero]at q
 have a7:qE (u.next s) nx O ([(n4,.box (.agg (gM c l)))]++Lf o):=by
  refine⟨a5,?_⟩;have e3:(u.next s).ev.map Ev.e=u.ev.map Ev.e++s.ev.map Ev.e:=by simp[Et.next]
  rw[e3];exact q.pop
 have I:(u.next s).it.id=r.it.id:=by
  have:s.it.id=u.it.id:=by rw[hs];exact Jv
  show s.it.id=_
  rw[this,c2]
 have Z:(u.next s).ev.length<=20*(k+1):=by
  show(u.ev++s.ev).length<=_
  grind
 refine hcl _ o (u.next s) O _ a7 I (by omega) λ a2 U=>?_
 by_cases G:en (u.next s).ev=true
 ·rw[if_pos G]at hg;rw[G,ai];have:=hK a2 (some (u.next s).ev) (by rw[<- hg];exact U.sub (List.sublist_cons_self _ _)) (by grind)
  rwa [<- hg]at this
 ·rw[if_neg G]at hg;have G:en (u.next s).ev=false:=by simpa using G
  rw[G,ah];simp (disch:=omega) only[↓cS,ae,true_and];exact⟨b,by omega,k+1,u.next s,some (u.next s).ev,by simp,by omega,w3,I,Z,U,hg⟩
end
end Go.Am
namespace Go.Am
open Go Go.Proofs Go.Shelf
def lH:Ren where
 f:=λ x=>match x with
  | 4=>66
  | n=>n
 t:=λ x=>match x with
  | 22=>92
  | 25=>3
  | n=>n
 g:=λ n=>n
theorem Va:Lays8.n4 Tryz.prog lH where
 mixed:=by kernel_rfl
 f4:=⟨ "slices.Grow[[]int,int]",by decide,by kernel_rfl⟩
 t0:=Tryz.underlying0
 a0:=Tryz.isAgg0
 z0:=Tryz.sizeOf0
 v0:=Tryz.zeroValue0
 t3:=Tryz.underlying3
 a3:=Tryz.isAgg3
 z3:=Tryz.sizeOf3
 v3:=Tryz.zeroValue3
 t4:=Tryz.underlying4
 a4:=Tryz.isAgg4
 z4:=Tryz.sizeOf4
 v4:=Tryz.zeroValue4
 t9:=Tryz.underlying9
 a9:=Tryz.isAgg9
 z9:=Tryz.sizeOf9
 v9:=Tryz.zeroValue9
 t20:=Tryz.underlying20
 a20:=Tryz.isAgg20
 z20:=Tryz.sizeOf20
 v20:=Tryz.zeroValue20
 t22:=Tryz.underlying92
 a22:=Tryz.isAgg92
 z22:=Tryz.sizeOf92
 v22:=Tryz.zeroValue92
theorem Qh:∃i0:TypeInfo,PP.info? (lH.t 25)=some i0/\i0.zero=some (.int .i64 0)/\i0.size=1/\i0.bytes=8:=by
 have hs:(PP.info? (lH.t 25)).map (·.size)=some 1:=by kernel_rfl
 have hb:(PP.info? (lH.t 25)).map (·.bytes)=some 8:=by kernel_rfl
 have u:(PP.info? (lH.t 25)).bind (·.zero)=some (Value.int .i64 0):=by kernel_rfl
 cases e:PP.info? (lH.t 25) with
 | none=>rw[e]at hs;cases hs
 | some i0 =>
  rw[e]at hs hb u;exact⟨i0,rfl,by simpa using u,by simpa using hs,by simpa using hb⟩
theorem Yc:lH.f 4=iM:=by kernel_rfl
theorem Xp {n:Nat}{h:Heap}{KH:HKq}(hn:n<=1000000) (h0:n=0->KH .nil h) (hk:∀q,pB h q->KH (.ms q 0 0) (ak h q (.arr 1 []))):ag PP iM [.nil,.int .i64 (n:Int)] h KH:=by
 intro c w vals W hp hr hs hrel;obtain⟨i0,hi,Z,hsz,hb⟩:=Qh
 have e0:vals = #[.slice none 0 0,.int .i64 (n:Int)]:=by
  have S:=hrel 0 .nil rfl;have Q:=hrel 1 (.int .i64 (n:Int)) rfl;apply Array.ext
  ·simpa using hs
  ·intro i h1 h2;have:i=0\/i=1:=by simp at h2;omega
   rcases this with rfl|rfl
   ·have e:vals.getD 0 Go.undef=vals[0]:=by simp[Array.getD,h1]
    rw[e]at S;show vals[0]=Value.slice none 0 0;generalize vals[0]=v at S;cases S;rfl
   ·have e:vals.getD 1 Go.undef=vals[1]:=by simp[Array.getD,h1]
    rw[e]at Q;show vals[1]=Value.int .i64 (n:Int);generalize vals[1]=v at Q;cases Q;rfl
 rw[e0, <- Yc];by_cases V:n=0
 ·subst V;refine(Any8.slices_Grow_room Va none 0 0 0 w (Nat.le_refl _) (by omega) (by omega) (Nat.le_refl _)).mono ?_;rintro e w' ⟨rfl,rfl⟩;refine⟨_,.nil,c.ρ,c.h,rfl,?_,?_,WS.refl _,.nil,by rw[W];exact h0 rfl⟩
  ·rw[<- hp];exact Ctx.le.refl _
  ·rw[<- hp];exact hr
 refine(Any8.slices_Grow_grow Va i0 _ hi Z (by omega) none 0 0 n [] w (Nat.le_refl _) (by omega) (by rw[hb];omega) (by omega) (by simp) (λ _=>rfl) (λ a ha=>by cases ha)).mono ?_;rintro e w' ⟨rfl,rfl⟩;obtain⟨q,E⟩:=dC hr;have hq:=E.free;have hG:=grownCap_ge w (0+n) 0 (lH.t 25);have O:=grownCap_le_maxLen w (0+n) 0 (lH.t 25) (by unfold maxLen;omega);generalize grownCap w (0+n) 0 (lH.t 25)=G at hG O ⊢;obtain⟨cells,u⟩:∃cells:Array Value,cells=([]:List Value).toArray++Builtin.zeroCells (Value.int .i64 0).cells (0+n-0)++Builtin.zeroCells (Value.int .i64 0).cells (G-(0+n)):=⟨_,rfl⟩;rw[<- u]
 have H:cells.size=G:=by
  have h1:(Value.int .i64 0).cells.size=1:=rfl;rw[u];simp[Builtin.zeroCells,h1];omega
 have I:=kI.new (c:=c) (s:=.arr 1 []) hq trivial (.cells cells (lH.t 25)) (hp':=(w.drew.alloc (.cells cells (lH.t 25))).heap) (by rw[hp];rfl)
 have U:dg ⟨ak c.ρ q (some c.hp.size),c.X,ak c.h q (.arr 1 []),(w.drew.alloc (.cells cells (lH.t 25))).heap⟩ q (.arr 1 []) :=
  Ar (hp:=w.heap) rfl (by simp[ak,hp]) (by omega) (by simp) (by simp) (λ i j d hd=>by simp[aP]at hd)
 refine⟨_,.ms q 0 0,ak c.ρ q (some c.hp.size),ak c.h q (.arr 1 []),rfl,I.le,I.heap hr (by simpa using U),⟨rfl,rfl,rfl⟩,?_,by rw[W];exact hk q (by rw[<- W];exact E)⟩
 have:=aA.ms (c:=⟨ak c.ρ q (some c.hp.size),c.X,ak c.h q (.arr 1 []),(w.drew.alloc (.cells cells (lH.t 25))).heap⟩) q 0 0 w.heap.size 1 G [] cells (lH.t 25) (0,0) (by simp[ak,Slot.row]) (by simp[ak,hp])
  (by simp) (mF _ _) (by simp[H]) (by omega) O
 simpa using this
end Go.Am
namespace Go.Am
open Go Go.Proofs Go.Shelf
def lI:Ren where
 f:=λ x=>match x with
  | 4=>89
  | n=>n
 t:=λ x=>match x with
  | 22=>52
  | 25=>59
  | n=>n
 g:=λ n=>n
theorem Vb:Lays8.n4 Tryz.prog lI where
 mixed:=by kernel_rfl
 f4:=⟨ "slices.Grow[[]warpwright/api.Event,warpwright/api.Event]",by decide,by kernel_rfl⟩
 t0:=Tryz.underlying0
 a0:=Tryz.isAgg0
 z0:=Tryz.sizeOf0
 v0:=Tryz.zeroValue0
 t3:=Tryz.underlying3
 a3:=Tryz.isAgg3
 z3:=Tryz.sizeOf3
 v3:=Tryz.zeroValue3
 t4:=Tryz.underlying4
 a4:=Tryz.isAgg4
 z4:=Tryz.sizeOf4
 v4:=Tryz.zeroValue4
 t9:=Tryz.underlying9
 a9:=Tryz.isAgg9
 z9:=Tryz.sizeOf9
 v9:=Tryz.zeroValue9
 t20:=Tryz.underlying20
 a20:=Tryz.isAgg20
 z20:=Tryz.sizeOf20
 v20:=Tryz.zeroValue20
 t22:=Tryz.underlying52
 a22:=Tryz.isAgg52
 z22:=Tryz.sizeOf52
 v22:=Tryz.zeroValue52
theorem Qi:∃i0:TypeInfo,∃z:Value,PP.info? (lI.t 25)=some i0/\i0.zero=some z/\z.cells.size=9/\i0.size=9/\i0.bytes=72:=by
 have hs:(PP.info? (lI.t 25)).map (·.size)=some 9:=by kernel_rfl
 have hb:(PP.info? (lI.t 25)).map (·.bytes)=some 72:=by kernel_rfl
 have u:((PP.info? (lI.t 25)).bind (·.zero)).map (·.cells.size)=some 9:=by kernel_rfl
 cases e:PP.info? (lI.t 25) with
 | none=>rw[e]at hs;cases hs
 | some i0 =>
  rw[e]at hs hb u;simp only[Option.bind_some]at u
  cases E:i0.zero with
  | none=>rw[E]at u;cases u
  | some z =>
   rw[E]at u;exact⟨i0,z,rfl,E,by simpa using u,by simpa using hs,by simpa using hb⟩
theorem Yd:lI.f 4=cB:=by kernel_rfl
theorem Xq {n:Nat}{h:Heap}{KH:HKq}(hn:n<=1000000) (h0:n=0->KH .nil h) (hk:∀q,pB h q->KH (.ms q 0 0) (ak h q (.arr 9 []))):ag PP cB [.nil,.int .i64 (n:Int)] h KH:=by
 intro c w vals Z hp hr hs hrel;obtain⟨i0,z,hi,hz,U,hsz,hb⟩:=Qi
 have e0:vals = #[.slice none 0 0,.int .i64 (n:Int)]:=by
  have S:=hrel 0 .nil rfl;have Q:=hrel 1 (.int .i64 (n:Int)) rfl;apply Array.ext
  ·simpa using hs
  ·intro i h1 h2;have:i=0\/i=1:=by simp at h2;omega
   rcases this with rfl|rfl
   ·have e:vals.getD 0 Go.undef=vals[0]:=by simp[Array.getD,h1]
    rw[e]at S;show vals[0]=Value.slice none 0 0;generalize vals[0]=v at S;cases S;rfl
   ·have e:vals.getD 1 Go.undef=vals[1]:=by simp[Array.getD,h1]
    rw[e]at Q;show vals[1]=Value.int .i64 (n:Int);generalize vals[1]=v at Q;cases Q;rfl
 rw[e0, <- Yd];by_cases W:n=0
 ·subst W;refine(Any8.slices_Grow_room Vb none 0 0 0 w (Nat.le_refl _) (by omega) (by omega) (Nat.le_refl _)).mono ?_;rintro e w' ⟨rfl,rfl⟩;refine⟨_,.nil,c.ρ,c.h,rfl,?_,?_,WS.refl _,.nil,by rw[Z];exact h0 rfl⟩
  ·rw[<- hp];exact Ctx.le.refl _
  ·rw[<- hp];exact hr
 refine(Any8.slices_Grow_grow Vb i0 _ hi hz (by omega) none 0 0 n [] w (Nat.le_refl _) (by omega) (by rw[hb];omega) (by omega) (by simp) (λ _=>rfl) (λ a ha=>by cases ha)).mono ?_;rintro e w' ⟨rfl,rfl⟩;obtain⟨q,E⟩:=dC hr;have hq:=E.free;have hG:=grownCap_ge w (0+n) 0 (lI.t 25);have O:=grownCap_le_maxLen w (0+n) 0 (lI.t 25) (by unfold maxLen;omega);generalize grownCap w (0+n) 0 (lI.t 25)=G at hG O ⊢;obtain⟨cells,u⟩:∃cells:Array Value,cells=([]:List Value).toArray++Builtin.zeroCells z.cells (0+n-0)++Builtin.zeroCells z.cells (G-(0+n)):=⟨_,rfl⟩;rw[<- u]
 have H:cells.size=9*G:=by
  have h1:z.cells.size=9:=U;rw[u];simp[Builtin.zeroCells,h1];omega
 have I:=kI.new (c:=c) (s:=.arr 9 []) hq trivial (.cells cells (lI.t 25)) (hp':=(w.drew.alloc (.cells cells (lI.t 25))).heap) (by rw[hp];rfl)
 have V:dg ⟨ak c.ρ q (some c.hp.size),c.X,ak c.h q (.arr 9 []),(w.drew.alloc (.cells cells (lI.t 25))).heap⟩ q (.arr 9 []) :=
  Ar (hp:=w.heap) rfl (by simp[ak,hp]) (by omega) (by simp) (by simp) (λ i j d hd=>by simp[aP]at hd)
 refine⟨_,.ms q 0 0,ak c.ρ q (some c.hp.size),ak c.h q (.arr 9 []),rfl,I.le,I.heap hr (by simpa using V),⟨rfl,rfl,rfl⟩,?_,by rw[Z];exact hk q (by rw[<- Z];exact E)⟩
 have:=aA.ms (c:=⟨ak c.ρ q (some c.hp.size),c.X,ak c.h q (.arr 9 []),(w.drew.alloc (.cells cells (lI.t 25))).heap⟩) q 0 0 w.heap.size 9 G [] cells (lI.t 25) (0,0) (by simp[ak,Slot.row]) (by simp[ak,hp])
  (by simp) (mF _ _) (by simp[H];omega) (by omega) O
 simpa using this
theorem Tq {h:Heap}{L:LSq}{KH:HKq}{n:Nat}{xs ys:List D}(V:Vs h L) (hn:(n,Slot.arr 1 [.sl xs,.sl ys])∈L) (hl:xs.length+ys.length<=1000000)
  (hxs:∀y∈xs,aD y/\y.cells.length=9) (hys:∀y∈ys,aD y/\y.cells.length=9) (hK:∀v h',QG 9 h' L v (xs++ys)->KH v h'):ag PP cn [.ms n 0 2] h KH:=by
 refine aI jK (aC _ _ _) rfl (jI _ _) ?_;unfold eK
 have rd:∀{h':Heap}{L':LSq}(V':Vs h' L') (hm:(n,Slot.arr 1 [.sl xs,.sl ys])∈L') (i:Nat) (H:List D) (hi:([.sl xs,.sl ys]:List D)[i]?=some (.sl H)) {KH:HKq},KH (.sl H) h' ->
   ab PP (.iadd (.c (.ms n 0 2)) (.c (.int .i64 (i:Int))) 1) h' λ a h1=>ab PP (.ld (.c a) 1 false) h1 KH:=by
  intro h' L' V' hm i H hi KH hk;have E:=(aq.1 hi).1;simp at E;rw[Tz (V'.mem hm) rfl (by omega) (by omega),aT,Nat.zero_add,UX (V'.mem hm) hi rfl];exact hk
 refine⟨λ x h'=>x=[.int .i64 ((xs.length+ys.length:Nat):Int)]/\Vs h' L,?_,?_⟩
 ·rintro f h4 ⟨hx,V4⟩;simp only[av,and_true]at hx;rw[hx]
  have fin:∀(v:D) (h6:Heap),QG 9 h6 L v []->∃(J7:HJq),(∀(f8:Nat->D) (Z:Heap),J7 [f8 6] Z->KH (f8 6) Z)/\bq (.ms n 0 2) h6 λ c3=>bW v h6 c3 (.ms n 0 2) J7:=by
   intro v h6 q6;refine⟨λ x h'=>∃v,x=[v]/\QG 9 h' L v (xs++ys),?_,?_⟩
   ·rintro f8 Z ⟨v,hx,q9⟩;simp only[av,and_true]at hx;rw[hx];exact hK v Z q9
   rw[I1 (q6.vs.mem hn)];dsimp only[bW,xI,xL];refine⟨λ b x h'=>∃(i:Nat) (v:D),x=[v,.int .i64 (i:Int)]/\b+i=2/\QG 9 h' L v (([xs,ys].take i).flatten),2,⟨0,v,rfl,rfl,q6⟩,?_⟩;rintro b f h7 ⟨i,v,hx,u,G⟩;simp only[av,and_true]at hx;obtain⟨O,I⟩:=hx;simp only[O,I]
   match i,u,G with
   | 0,u,G =>
    rw[DY (by omega),ai];refine rd G.vs hn 0 xs rfl ?_;refine G.app hxs (by simp;omega) (by simp;omega) λ v' h8 q8=>?_
    simp (disch:=omega) only[↓cS,ae,true_and];exact⟨1,by omega,1,v',rfl,rfl,by simpa using q8⟩
   | 1,u,G =>
    rw[DY (by omega),ai];refine rd G.vs hn 1 ys rfl ?_;refine G.app hys (by simp;omega) (by simp;omega) λ v' h8 q8=>?_
    simp (disch:=omega) only[↓cS,ae,true_and];exact⟨0,by omega,2,v',rfl,rfl,by simpa using q8⟩
   | 2,u,G =>
    rw[HZ (by omega),ah];simp only[ae,true_and];exact⟨v,rfl,by simpa using G⟩
  refine Xq hl (λ _=>fin _ _ (Or.inl ⟨rfl,rfl,V4⟩)) λ q t=>fin _ _ (Or.inr ⟨q,rfl,V4.push t.free (by simp)⟩)
 rw[I1 (V.mem hn)];dsimp only[dJ,xI,xL];refine⟨λ b x h'=>∃(i:Nat),x=[.int .i64 ((([xs,ys].take i).flatten.length:Nat):Int),.int .i64 (i:Int)]/\b+i=2/\Vs h' L,2,⟨0,rfl,rfl,V⟩,?_⟩;rintro b f h7 ⟨i,hx,u,V7⟩;simp only[av,and_true]at hx;obtain⟨O,I⟩:=hx;simp only[O,I]
 have step:∀(i:Nat) (H:List D) (hi:[xs,ys][i]?=some H) (hb:b+i=2),∃(W:HJq),(∀(f30:Nat->D) (S:Heap),W [f30 3] S ->
   vbin .add (.int .i64 (i:Int)) (.int .i64 1) λ c2=>aB [D.ms n 0 2,.ms n 0 2,.int .i64 ((2:Nat):Int)] [D.ms n 0 2,.ms n 0 2,.int .i64 ((2:Nat):Int)]/\∃m,m<b/\∃i:Nat,[(f30 3),c2]=[.int .i64 ((([xs,ys].take i).flatten.length:Nat):Int),.int .i64 (i:Int)]/\m+i=2/\Vs S L) /\
   (ab PP (.iadd (.c (.ms n 0 2)) (.c (.int .i64 (i:Int))) 1) h7 λ c1 a5=>ab PP (.ld (.c c1) 1 false) a5 λ a8 Q=>bq a8 Q λ a7 =>
    vbin .add (.int .i64 ((([xs,ys].take i).flatten.length:Nat):Int)) a7 λ U=>vbin .lss U (.int .i64 0) λ a6=>vcond a6 (ab PP (.dead) Q λ c6 a2=>ab PP (.dead) a2 λ c5 a1 =>
    aB [D.ms n 0 2,.ms n 0 2,.int .i64 ((2:Nat):Int),.int .i64 (i:Int)] [D.ms n 0 2,.ms n 0 2,.int .i64 ((2:Nat):Int),.int .i64 (i:Int)]/\W [U] a1) (aB [D.ms n 0 2,.ms n 0 2,.int .i64 ((2:Nat):Int),.int .i64 (i:Int)] [D.ms n 0 2,.ms n 0 2,.int .i64 ((2:Nat):Int),.int .i64 (i:Int)]/\W [U] Q)):=by
  intro i H hi hb;have E:=(aq.1 hi).1;simp at E
  have ht:([xs,ys].take (i+1)).flatten.length=([xs,ys].take i).flatten.length+H.length:=by
   rw[List.take_add_one,hi];simp
  have hle:([xs,ys].take (i+1)).flatten.length<=xs.length+ys.length:=by
   match i,E with
   | 0,_=>simp
   | 1,_=>simp
  refine⟨λ x h'=>x=[.int .i64 ((([xs,ys].take (i+1)).flatten.length:Nat):Int)]/\Vs h' L,?_,?_⟩
  ·rintro f30 S ⟨hx,c4⟩;simp only[av,and_true]at hx;rw[hx];simp (disch:=omega) only[↓cS,ae,true_and];exact⟨b-1,by omega,i+1,by simp,by omega,c4⟩
  refine rd V7 hn i H ?_ ?_
  ·match i,hi,E with
   | 0,hi,_=>cases hi;rfl
   | 1,hi,_=>cases hi;rfl
  rw[gd];rw[ht]at hle ⊢;simp (disch:=omega) only[↓cS,↓ah,ae,true_and];exact⟨by simp,V7⟩
 match i,u with
 | 0,u =>
  rw[DY (by omega),ai];exact step 0 xs rfl u
 | 1,u =>
  rw[DY (by omega),ai];exact step 1 ys rfl u
 | 2,u =>
  rw[HZ (by omega),ah];simp only[ae,true_and];exact⟨by simp,V7⟩
theorem Tp {h:Heap}{L:LSq}{KH:HKq}{n:Nat}{xs ys:List D}(V:Vs h L) (hn:(n,Slot.arr 1 [.sl xs,.sl ys])∈L) (hl:xs.length+ys.length<=1000000)
  (hxs:∀y∈xs,aD y/\y.cells.length=1) (hys:∀y∈ys,aD y/\y.cells.length=1) (hK:∀v h',QG 1 h' L v (xs++ys)->KH v h'):ag PP gA [.ms n 0 2] h KH:=by
 refine aI qv (aC _ _ _) rfl (qu _ _) ?_;unfold kW
 have rd:∀{h':Heap}{L':LSq}(V':Vs h' L') (hm:(n,Slot.arr 1 [.sl xs,.sl ys])∈L') (i:Nat) (H:List D) (hi:([.sl xs,.sl ys]:List D)[i]?=some (.sl H)) {KH:HKq},KH (.sl H) h' ->
   ab PP (.iadd (.c (.ms n 0 2)) (.c (.int .i64 (i:Int))) 1) h' λ a h1=>ab PP (.ld (.c a) 1 false) h1 KH:=by
  intro h' L' V' hm i H hi KH hk;have E:=(aq.1 hi).1;simp at E;rw[Tz (V'.mem hm) rfl (by omega) (by omega),aT,Nat.zero_add,UX (V'.mem hm) hi rfl];exact hk
 refine⟨λ x h'=>x=[.int .i64 ((xs.length+ys.length:Nat):Int)]/\Vs h' L,?_,?_⟩
 ·rintro f h4 ⟨hx,V4⟩;simp only[av,and_true]at hx;rw[hx]
  have fin:∀(v:D) (h6:Heap),QG 1 h6 L v []->∃(J7:HJq),(∀(f8:Nat->D) (Z:Heap),J7 [f8 6] Z->KH (f8 6) Z)/\bq (.ms n 0 2) h6 λ c3=>ff v h6 c3 (.ms n 0 2) J7:=by
   intro v h6 q6;refine⟨λ x h'=>∃v,x=[v]/\QG 1 h' L v (xs++ys),?_,?_⟩
   ·rintro f8 Z ⟨v,hx,q9⟩;simp only[av,and_true]at hx;rw[hx];exact hK v Z q9
   rw[I1 (q6.vs.mem hn)];dsimp only[ff,xI,xL];refine⟨λ b x h'=>∃(i:Nat) (v:D),x=[v,.int .i64 (i:Int)]/\b+i=2/\QG 1 h' L v (([xs,ys].take i).flatten),2,⟨0,v,rfl,rfl,q6⟩,?_⟩;rintro b f h7 ⟨i,v,hx,u,G⟩;simp only[av,and_true]at hx;obtain⟨O,I⟩:=hx;simp only[O,I]
   match i,u,G with
   | 0,u,G =>
    rw[DY (by omega),ai];refine rd G.vs hn 0 xs rfl ?_;refine G.app hxs (by simp;omega) (by simp;omega) λ v' h8 q8=>?_
    simp (disch:=omega) only[↓cS,ae,true_and];exact⟨1,by omega,1,v',rfl,rfl,by simpa using q8⟩
   | 1,u,G =>
    rw[DY (by omega),ai];refine rd G.vs hn 1 ys rfl ?_;refine G.app hys (by simp;omega) (by simp;omega) λ v' h8 q8=>?_
    simp (disch:=omega) only[↓cS,ae,true_and];exact⟨0,by omega,2,v',rfl,rfl,by simpa using q8⟩
   | 2,u,G =>
    rw[HZ (by omega),ah];simp only[ae,true_and];exact⟨v,rfl,by simpa using G⟩
  refine Xp hl (λ _=>fin _ _ (Or.inl ⟨rfl,rfl,V4⟩)) λ q t=>fin _ _ (Or.inr ⟨q,rfl,V4.push t.free (by simp)⟩)
 rw[I1 (V.mem hn)];dsimp only[jD,xI,xL];refine⟨λ b x h'=>∃(i:Nat),x=[.int .i64 ((([xs,ys].take i).flatten.length:Nat):Int),.int .i64 (i:Int)]/\b+i=2/\Vs h' L,2,⟨0,rfl,rfl,V⟩,?_⟩;rintro b f h7 ⟨i,hx,u,V7⟩;simp only[av,and_true]at hx;obtain⟨O,I⟩:=hx;simp only[O,I]
 have step:∀(i:Nat) (H:List D) (hi:[xs,ys][i]?=some H) (hb:b+i=2),∃(W:HJq),(∀(f30:Nat->D) (S:Heap),W [f30 3] S ->
   vbin .add (.int .i64 (i:Int)) (.int .i64 1) λ c2=>aB [D.ms n 0 2,.ms n 0 2,.int .i64 ((2:Nat):Int)] [D.ms n 0 2,.ms n 0 2,.int .i64 ((2:Nat):Int)]/\∃m,m<b/\∃i:Nat,[(f30 3),c2]=[.int .i64 ((([xs,ys].take i).flatten.length:Nat):Int),.int .i64 (i:Int)]/\m+i=2/\Vs S L) /\
   (ab PP (.iadd (.c (.ms n 0 2)) (.c (.int .i64 (i:Int))) 1) h7 λ c1 a5=>ab PP (.ld (.c c1) 1 false) a5 λ a8 Q=>bq a8 Q λ a7 =>
    vbin .add (.int .i64 ((([xs,ys].take i).flatten.length:Nat):Int)) a7 λ U=>vbin .lss U (.int .i64 0) λ a6=>vcond a6 (ab PP (.dead) Q λ c6 a2=>ab PP (.dead) a2 λ c5 a1 =>
    aB [D.ms n 0 2,.ms n 0 2,.int .i64 ((2:Nat):Int),.int .i64 (i:Int)] [D.ms n 0 2,.ms n 0 2,.int .i64 ((2:Nat):Int),.int .i64 (i:Int)]/\W [U] a1) (aB [D.ms n 0 2,.ms n 0 2,.int .i64 ((2:Nat):Int),.int .i64 (i:Int)] [D.ms n 0 2,.ms n 0 2,.int .i64 ((2:Nat):Int),.int .i64 (i:Int)]/\W [U] Q)):=by
  intro i H hi hb;have E:=(aq.1 hi).1;simp at E
  have ht:([xs,ys].take (i+1)).flatten.length=([xs,ys].take i).flatten.length+H.length:=by
   rw[List.take_add_one,hi];simp
  have hle:([xs,ys].take (i+1)).flatten.length<=xs.length+ys.length:=by
   match i,E with
   | 0,_=>simp
   | 1,_=>simp
  refine⟨λ x h'=>x=[.int .i64 ((([xs,ys].take (i+1)).flatten.length:Nat):Int)]/\Vs h' L,?_,?_⟩
  ·rintro f30 S ⟨hx,c4⟩;simp only[av,and_true]at hx;rw[hx];simp (disch:=omega) only[↓cS,ae,true_and];exact⟨b-1,by omega,i+1,by simp,by omega,c4⟩
  refine rd V7 hn i H ?_ ?_
  ·match i,hi,E with
   | 0,hi,_=>cases hi;rfl
   | 1,hi,_=>cases hi;rfl
  rw[gd];rw[ht]at hle ⊢;simp (disch:=omega) only[↓cS,↓ah,ae,true_and];exact⟨by simp,V7⟩
 match i,u with
 | 0,u =>
  rw[DY (by omega),ai];exact step 0 xs rfl u
 | 1,u =>
  rw[DY (by omega),ai];exact step 1 ys rfl u
 | 2,u =>
  rw[HZ (by omega),ah];simp only[ae,true_and];exact⟨by simp,V7⟩
theorem Qk {c:Code}{l:bG}{en:List Ev->Bool}:∀(f:Nat) (n:Int) (r:Et),(goP c l en f n r).1.it.id=r.it.id
 | 0,n,r=>rfl
 | f+1,n,r=>by
  rw[Ac];have:(r.next (stepP c l r.it r.g r.sh n)).it.id=r.it.id:=Jv;split
  ·split
   ·split
    ·exact this
    ·rw[Qk f];exact this
   ·rfl
  ·rfl
theorem EH.look {h:Heap}{L:LSq}{md:D}{made:Int->Int}{k:Int}{KH:HKq}(V:Vs h L) (m:EH L md made):ab PP (.look (.int .i64) (.c md) (.c (.int .i64 k)) (.int .i64 0) false) h KH=KH (.int .i64 (made k)) h:=by
 rcases m with⟨rfl,h0⟩|⟨n,ents,rfl,hm,hk⟩
 ·rw[h0];apply propext;exact⟨λ E=>E.2,λ hk=>⟨rfl,hk⟩⟩
 ·have e:ab PP (.look (.int .i64) (.c (.mp n)) (.c (.int .i64 k)) (.int .i64 0) false) h KH=((KeyT.int .i64).okB (.int .i64 k)=true/\match h n with
   | .map u ents=>u=.int .i64/\KH ((mget ents (.int .i64 k)).getD (.int .i64 0)) h
   | _=>False):=rfl
  rw[e,V.mem hm];show(_/\_/\KH ((mget ents (.int .i64 k)).getD (.int .i64 0)) h)=_
  rw[hk k];apply propext;exact⟨λ E=>E.2.2,λ hk=>⟨rfl,rfl,hk⟩⟩
theorem EH.Zb {h:Heap}{L:LSq}{md:D}{made:Int->Int}{k:Int}{K:D->Prop}(V:Vs h L) (m:EH L md made):an PP (.look (.int .i64) (.c md) (.c (.int .i64 k)) (.int .i64 0) false) h K=K (.int .i64 (made k)):=by rw[VB,m.look V]
section
variable {c:Code}{l:bG}{s:pC}{md:D}{r:Et}{nx:Nat}{h:Heap}{L:LSq}{KH:HKq}
theorem qE.box {d:D}(rr:qE r nx h L) (ho:aD d) (hK:∀n h',qE r nx h' ((n,.box d)::L)->KH (.ptr n 0 0) h'):ab PP (.box (.c d)) h KH:=by
 obtain⟨X,V,lift⟩:=rr.lift;exact V.box ho λ n h' u=>hK n h' (lift h' _ (u.perm List.perm_middle.symm))
theorem qE.alloc {d:D}(rr:qE r nx h L) (hK:∀n h',qE r nx h' ((n,.box d)::L)->KH (.ptr n 0 0) h'):ab PP (.alloc d) h KH:=by
 obtain⟨X,V,lift⟩:=rr.lift;exact V.alloc λ n h' u=>hK n h' (lift h' _ (u.perm List.perm_middle.symm))
theorem qE.eU (rr:qE r nx h L) (i:Nat){n e:Nat}{cs cs':List D}(hi:L[i]?=some (n,.box (.agg cs))) (hl:cs.length=e) (hl':cs'.length=e) (ho:∀x,x∈cs'->x.one=true)
  (hK:∀h',qE r nx h' (L.set i (n,.box (.agg cs')))->KH .undef h'):ab PP (.st (.c (.ptr n 0 0)) (.c (.agg cs')) e) h KH:=by
 obtain⟨dev,q⟩:=rr;exact q.eU (i+1) hi hl hl' ho λ h' u=>hK h' ⟨dev,u⟩
theorem qE.zo (rr:qE r nx h L) (i:Nat){n:Nat}{d d':D}(hi:L[i]?=some (n,.box d)) (h1:d.one=true) (h1':d'.one=true) (hK:∀h',qE r nx h' (L.set i (n,.box d'))->KH .undef h'):ab PP (.st (.c (.ptr n 0 0)) (.c d') 1) h KH:=by
 obtain⟨dev,q⟩:=rr;exact q.zo (i+1) hi h1 h1' λ h' u=>hK h' ⟨dev,u⟩
theorem qE.get (rr:qE r nx h L) (i:Nat){n:Nat}{t:Slot}(hi:L[i]?=some (n,t)):h n=t:=rr.vs.get i n t hi
def PY (made nth:Int) (o:Option (List Ev)):Ev:=match o with
 | none=>Fw
 | some ev=>(kU ev made nth).getD Fw
theorem acQ {n9 n23 n11 n27:Nat}{made nth:Int}{N M:LSq}{o:Option (List Ev)}(rr:qE r nx h (N++(n27,.box (.agg (PY made nth o).cs))::(n23,.box (.int .i64 made))::(n11,.box (.int .i64 nth))::(n9,.box (.ptr nx 0 0))::M))
  (hb : -1000000000<=made/\made<=1000000000) (hl:r.ev.length<=4000)
  (hK:∀h',qE r nx h' (N++(n27,.box (.agg (PY made nth (some r.ev)).cs))::(n23,.box (.int .i64 made))::(n11,.box (.int .i64 nth))::(n9,.box (.ptr nx 0 0))::M)->KH (.bool (kU r.ev made nth).isSome) h') :
  ab PP (.callv (.c (.fn jw [] [.ptr n9 0 0,.ptr n23 0 0,.ptr n11 0 0,.ptr n27 0 0])) []) h KH:=by
 refine⟨by kernel_rfl,?_⟩;show ag PP jw [.ptr n9 0 0,.ptr n23 0 0,.ptr n11 0 0,.ptr n27 0 0] h KH
 refine aI BB (aC _ _ _) rfl (AL _ _ _ _ _) ?_;dsimp only[sQ,xL,xS];have rr:=rr.perm List.perm_append_comm;rw[ub (rr.get 3 rfl) rfl,ub (rr.get 1 rfl) rfl,ub (rr.get 2 rfl) rfl];refine abg rr hb (by omega) λ h2 H=>?_
 simp only[↓h_ext,List.getElem?_cons_zero,List.getElem?_cons_succ];refine H.alloc λ I h3 G=>?_
 refine G.eU 0 rfl rfl (cs':=((kU r.ev made nth).getD Fw).cs) rfl (Ev.bR _).one λ h4 u=>?_
 simp only[List.set_cons_zero]at u;rw[u.vs.eR 0 (s:=9) rfl rfl];refine u.eU 1 rfl rfl (cs':=((kU r.ev made nth).getD Fw).cs) rfl (Ev.bR _).one λ O E=>?_
 simp only[List.cons_append,List.set_cons_succ,List.set_cons_zero]at E;refine hK O ((E.sub (List.sublist_cons_self _ _)).perm ?_);exact List.perm_append_comm (l₁:=_::_::_::_::M)
theorem acR {nth:Int}(hc:ba c) (hl:bY c l) (w:QP c l r) (h0:r.ev=[]) (m:EH L md s.made) (hb : -1000000000<=s.made r.it.id/\s.made r.it.id<=1000000000) (rr:qE r nx h L)
  (hK:∀h' (e:Ev),((J0 c l s r nth).2=true->e=Tl s (J0 c l s r nth).1 nth)->qE (J0 c l s r nth).1 nx h' L->KH (.tup [e.e,.bool (J0 c l s r nth).2]) h'):ag PP mK [.agg (gM c l),.agg (lE s md),.ptr nx 0 0,.int .i64 nth] h KH:=by
 refine aI Gw (aC _ _ _) rfl (FU _ _ _ _ _) ?_;dsimp only[AM,xB,xL,xS,yF,yL];refine rr.box (λ x hx=>lh x hx) λ n5 h6 a6=>?_
 refine a6.box (λ x hx=>su m x hx) λ n7 h8 a5=>?_
 refine a5.box (by simp) λ n9 c6 Z=>?_
 refine Z.box (by simp) λ Q c5 W=>?_
 refine W.alloc λ U O u=>?_
 have m14:EH ((U,Slot.box (.agg Fw.cs))::(Q,.box (.int .i64 nth))::(n9,.box (.ptr nx 0 0))::(n7,.box (.agg (lE s md)))::(n5,.box (.agg (gM c l)))::L) md s.made:=m.mono λ x hx=>by simp[hx]
 have g7:O n7=.box (.agg (lE s md)):=u.get 3 rfl;have g9:O n9=.box (.ptr nx 0 0):=u.get 2 rfl;obtain⟨dev,q⟩:=id u;have gx:O nx=.box (.agg (GU r dev)):=q.vs.get 0 _ _ rfl;have ux:(O nx).used=true:=by rw[gx];rfl
 simp only[↓et g7,↓aX g7 (j:=2) rfl,↓sj g9 rfl,↓uX ux,Nat.zero_add];rw[aX gx (j:=0) (d:=.int .i64 r.it.id) rfl];rw[show an PP (.look (.int .i64) (.c md) (.c (.int .i64 r.it.id)) (.int .i64 0) false) O=λ K=>K (.int .i64 (s.made r.it.id)) from funext λ K=>m14.Zb u.vs];simp only[];clear gx ux q g7 g9;obtain⟨made,E⟩:∃made,made=s.made r.it.id:=⟨_,rfl⟩;rw[<- E]at hb ⊢;refine u.alloc λ a2 c4 V=>?_
 refine V.zo 0 rfl rfl rfl λ c3 S=>?_
 simp only[List.set_cons_zero]at S;refine S.alloc λ a1 c2 I=>?_
 rw[I.vs.eR 6 (s:=10) rfl rfl,ub (I.get 4 rfl) rfl];simp only[↓xv,List.map_nil,List.map_cons,xw];obtain⟨M,hM⟩:∃M,M=(U,Slot.box (.agg Fw.cs))::(n7,.box (.agg (lE s md)))::(n5,.box (.agg (gM c l)))::L:=⟨_,rfl⟩;have en:J0 c l s r nth=goP c l (λ ev=>(kU ev made nth).isSome) 200 0 r:=by unfold J0;rw[E]
 refine Zk (en:=λ ev=>(kU ev made nth).isSome) (Lf:=λ o=>(a1,.box (.agg (PY made nth o).cs))::(a2,.box (.int .i64 made))::(Q,.box (.int .i64 nth))::(n9,.box (.ptr nx 0 0))::M) hc hl w h0 ?_ ?_ ?_
 ·rw[hM];refine I.perm ?_;refine .cons _ (.cons _ ?_);exact(List.perm_middle (l₁:=[(Q,Slot.box (.int .i64 nth)),(n9,.box (.ptr nx 0 0))])).symm
 ·grind [acQ]
 ·intro c1 o H ho;rw[<- en]at H ho ⊢;rw[H.vs.eR 0 (s:=9) rfl rfl];have i13:((a1,Slot.box (.agg (PY made nth o).cs))::(a2,.box (.int .i64 made))::(Q,.box (.int .i64 nth))::(n9,.box (.ptr nx 0 0))::M)[4]?=some (U,.box (.agg Fw.cs)):=by rw[hM];rfl
  refine H.eU 4 i13 rfl (cs':=(PY made nth o).cs) rfl (Ev.bR _).one λ a8 G=>?_
  simp only[hM,List.set_cons_succ,List.set_cons_zero]at G;rw[G.vs.eR 4 (s:=9) rfl rfl];refine hK a8 (PY made nth o) (λ a7=>?_) ?_
  ·rw[ho a7];unfold Tl PY;have:(J0 c l s r nth).1.it.id=r.it.id:=Qk _ _ _;rw[this, <- E];rfl
  ·refine G.sub ?_;grind
end
def fU.cs (w:fU):List D:=[.int .i64 w.l.groups,words w.l.args,aZ w.g,.int .i64 w.i0,.int .i64 w.i1,.int .i64 w.n0,.int .i64 w.n1,.int .i64 w.ar,.int .i64 w.ix]
theorem fU.bR (w:fU):xt (.agg w.cs):=cF (by simp[fU.cs,words,aZ])
theorem RU {w:fU}{e:Ev}{n9:Nat}{h:Heap}{L:LSq}{KH:HKq}(V:Vs h L) (hm:(n9,Slot.box (.agg w.cs))∈L) (hK:∀h',Vs h' L->KH (.bool (mD w e)) h') :
  ab PP (.callv (.c (.fn gk [] [.ptr n9 0 0])) [.c e.e]) h KH:=by
 refine⟨by kernel_rfl,?_⟩;show ag PP gk [e.e,.ptr n9 0 0] h KH
 refine aI vU (aC _ _ _) rfl (vu _ _ _) ?_;dsimp only[oC,xB,xF,xL,xP];refine V.box e.bR.one λ E h4 u=>?_
 have a0:h4 E=.box (.agg e.cs):=u.get 0 _ _ rfl;have a9:h4 n9=.box (.agg w.cs):=u.mem (List.mem_cons_of_mem _ hm);simp only[↓kn a0,↓cT a0 (j:=6) rfl,↓kn a9,↓cT a9 (j:=7) rfl];have hK:=hK h4 u.pop;unfold mD at hK;by_cases h1:e.arr=w.ar
 ·simp (disch:=omega) only[↓cS,↓gS,↓kn a0,↓cT a0 (j:=7) rfl,↓kn a9,↓cT a9 (j:=8) rfl];by_cases h2:e.i=w.ix
  ·simp (disch:=omega) only[↓cS,↓gS];simpa[h1,h2] using hK
  ·simp (disch:=omega) only[↓cS,↓gS];simpa[h1,h2] using hK
 ·simp (disch:=omega) only[↓cS,↓gS];simpa[h1] using hK
end Go.Am
namespace Go.Am
open Go
theorem Qj {c:Code}{l:bG}{en:List Ev->Bool}:∀(f:Nat) (n:Int) (r:Et),(goP c l en f n r).2=true->en (goP c l en f n r).1.ev=true
 | 0,n,r,h=>by cases h
 | f+1,n,r,h=>by
  rw[Ac]at h ⊢;by_cases h1:r.it.at_=1
  ·rw[if_pos h1]at h ⊢;by_cases h2:(stepP c l r.it r.g r.sh n).e=0
   ·rw[if_pos h2]at h ⊢;by_cases h3:en (r.next (stepP c l r.it r.g r.sh n)).ev=true
    ·rw[if_pos h3];exact h3
    ·rw[if_neg h3]at h ⊢;exact Qj f _ _ h
   grind
  grind
theorem KG {c:Code}{l:bG}{en:List Ev->Bool}(hc:ba c) (hl:bY c l):∀(f:Nat) (n:Int) (r:Et),QP c l r->QP c l (goP c l en f n r).1/\(goP c l en f n r).1.ev.length<=r.ev.length+20*f
 | 0,n,r,w=>⟨w,by simp[goP]⟩
 | f+1,n,r,w=>by
  obtain⟨u,E⟩:=w.next (n:=n) hc hl
  have hlen:(r.next (stepP c l r.it r.g r.sh n)).ev.length<=r.ev.length+20:=by
   show(r.ev++_).length<=_
   grind
  rw[Ac];split
  ·split
   ·split
    ·grind
    ·have:=KG (en:=en) hc hl f (n+1) _ u;exact⟨this.1,by omega⟩
   grind
  grind
theorem TU {c:Code}{l:bG}{s:pC}{r:Et}{nth:Int}(h:(J0 c l s r nth).2=true):(J0 c l s r nth).1.ev≠[]:=by
 grind [Qj,kU,J0]
theorem aa7 {e w1 w2:Nat}{z:D}{e1 e2:List D}{h:Heap}{KH:HKq}(h1:h w1=.arr e e1) (h2:h w2=.arr e e2) (v1:∀x∈e1,∀y∈x.cells,y.vone=true) (v2:∀x∈e2,∀y∈x.cells,y.vone=true)
  (hk:∀n,pB h n->KH (.ms n 0 2) (ak (h.freezeAll [w1,w2]) n (.arr 1 [.sl e1,.sl e2]))):ab PP (.bldS true 1 2 z [(0,.c (.ms w1 0 e1.length)),(1,.c (.ms w2 0 e2.length))]) h KH:=by
 have E:(h w1).row=some (e,e1):=by rw[h1];rfl
 have u:(h w2).row=some (e,e2):=by rw[h2];rfl
 refine⟨λ p hp=>?_,λ _ p hp=>?_,λ n t=>?_⟩
 ·simp[Arg.get]at hp;rcases hp with rfl|rfl<;>exact⟨by simp,rfl,by simp⟩
 ·simp[Arg.get]at hp;rcases hp with rfl|rfl
  ·intro x hx;simp only[D.cells,List.mem_singleton]at hx;subst hx;exact⟨e,e1,E,by simp,λ x hx y hy=>v1 x (by simpa using hx) y hy⟩
  ·intro x hx;simp only[D.cells,List.mem_singleton]at hx;subst hx;exact⟨e,e2,u,by simp,λ x hx y hy=>v2 x (by simpa using hx) y hy⟩
 grind [Arg.get,setEls,D.fz,D.fzc,D.nm,D.nR]
def bI (a:Bool):Int:=if a then 1 else 0
theorem aa9 (a:Bool):1-bI a=bI !a:=by cases a<;>rfl
theorem Wc (a:Bool):0<=bI a/\bI a<2:=by cases a<;>simp[bI]
section
variable {c:Code}{l:bG}{s:pC}{w:fU}{md:D}{h:Heap}{L:LSq}{KH:HKq}{K:D->Prop}
theorem qE.ms {r:Et}{nx:Nat}(rr:qE r nx h L) (hne:r.ev≠[]):∃m,Vs h ((m,.arr 9 (r.ev.map Ev.e))::(nx,.box (.agg (GU r (.ms m 0 r.ev.length))))::L):=by
 obtain⟨dev,q⟩:=rr;rcases q with⟨-,h0,-⟩|⟨m,rfl,V⟩
 ·grind [List.map_eq_nil_iff]
 grind
theorem Jt {n9:Nat}{a:Bool}(g:h n9=.box (.agg w.cs)):an PP (.ld (.c (.ptr n9 0 (3+(bI a).toNat))) 1 false) h K=K (.int .i64 (w.it a)):=by
 rw[aX g (d:=.int .i64 (w.it a)) (by cases a<;>rfl)]
theorem Js {n9:Nat}{a:Bool}(g:h n9=.box (.agg w.cs)):an PP (.ld (.c (.ptr n9 0 (5+(bI a).toNat))) 1 false) h K=K (.int .i64 (w.nth a)):=by
 rw[aX g (d:=.int .i64 (w.nth a)) (by cases a<;>rfl)]
theorem zq {n9 j:Nat}{a:Bool}(g:h n9=.box (.agg w.cs)):an PP (.iadda (.c (.ptr n9 0 j)) (.c (.int .i64 (bI a))) 2 1) h K=K (.ptr n9 0 (j+(bI a).toNat)):=lT g (Wc a).1 (by have:=(Wc a).2;omega)
structure zf (c:Code) (l:bG) (s:pC):Prop extends Wp c l s where
 made:∀k,0<=s.made k/\s.made k<=1000000000
 n:1<=s.gs.length/\s.gs.length<=2
theorem uE {id:Int}(hs:zf c l s) (hc:ba c) (hf:(s.gs.find? (Ec id)).isSome=true):QP c l (gf s id)/\(gf s id).it.id=id/\(gf s id).ev=[]:=by
 unfold gf
 cases e:s.gs.find? (Ec id) with
 | none=>rw[e]at hf;cases hf
 | some x =>
  have hx:=List.mem_of_find?_eq_some e;have u:=hs.gs x hx;obtain⟨Q,O,I⟩:=u.first hc;have hp:=List.find?_some e;simp only[Ec,Bool.and_eq_true,decide_eq_true_eq]at hp;obtain⟨j,H⟩:∃j:Nat,id-(lO x.items 0).id=(j:Int):=⟨(id-(lO x.items 0).id).toNat,by omega⟩
  have E:x.items[j]?=some (lO x.items j):=by
   grind [kJ]
  obtain⟨G,S⟩:=u.it j _ E;simp only[H,aT];exact⟨⟨G,hs.g,u.sh⟩,by grind,trivial⟩
theorem Na {r:Et}{dev:D}(hd:dev.one=true):∀y,y∈GU r dev->y.one=true:=λ y hy=>by
 simp only[GU,List.mem_append]at hy;rcases hy with hy|hy
 ·exact r.it.bR.one y hy
 ·simp at hy;rcases hy with rfl|rfl|rfl
  ·rfl
  ·rfl
  ·exact hd
theorem RY {a:Bool}(hc:ba c) (hl:bY c l) (hs:zf c l s) (V:Vs h L) (m:EH L md s.made) (hf:∀b,(s.gs.find? (Ec (w.it b))).isSome=true)
  (hN:qM c l s w a=none->∀h',Vs h' L->KH (.tup [.nil,.bool false]) h')
  (hS:∀evs,qM c l s w a=some evs->∀v h',QG 9 h' L v (evs.map Ev.e)->KH (.tup [v,.bool true]) h'):ag PP mL [.agg (gM c l),.agg (lE s md),.agg w.cs,.int .i64 (bI a)] h KH:=by
 refine aI BE (aC _ _ _) rfl (AO _ _ _ _ _) ?_;dsimp only[sS,xB,xF,xL,xP,xS,yF,yJ,yL];refine V.box (lh) λ n5 h6 V6=>?_
 refine V6.box (su m) λ n7 h8 V8=>?_
 refine V8.box w.bR.one λ n9 o5 c5=>?_
 obtain⟨B,hB⟩:∃B,B=(n9,Slot.box (.agg w.cs))::(n7,.box (.agg (lE s md)))::(n5,.box (.agg (gM c l)))::L:=⟨_,rfl⟩;have m9:(n9,Slot.box (.agg w.cs))∈B:=by rw[hB];simp
 have m7:(n7,Slot.box (.agg (lE s md)))∈B:=by rw[hB];simp
 have m5:(n5,Slot.box (.agg (gM c l)))∈B:=by rw[hB];simp
 have mB:EH B md s.made:=m.mono λ x hx=>by rw[hB];simp[hx]
 have a5:L.Sublist B:=by grind
 rw[<- hB]at c5;clear V V6 V8 hB
 have rd:∀{h':Heap},(h' n9=.box (.agg w.cs)/\h' n7=.box (.agg (lE s md))/\h' n5=.box (.agg (gM c l))) ->
   (∀{K:D->Prop},an PP (.ld (.c (.ptr n7 0 0)) 3 true) h' K=K (.agg (lE s md)))/\(∀{K:D->Prop},an PP (.ld (.c (.ptr n5 0 0)) 10 true) h' K=K (.agg (gM c l))):=λ g =>
  ⟨λ {K}=>gI g.2.1 (by show 0+3<=3;omega) rfl,λ {K}=>gI g.2.2 (by show 0+10<=10;omega) rfl⟩
 have gs:∀{h':Heap}{X:LSq},Vs h' (X++B)->h' n9=.box (.agg w.cs)/\h' n7=.box (.agg (lE s md))/\h' n5=.box (.agg (gM c l)):=λ V' =>
  ⟨V'.mem (List.mem_append_right _ m9),V'.mem (List.mem_append_right _ m7),V'.mem (List.mem_append_right _ m5)⟩
 have g:=gs (X:=[]) c5;obtain⟨H,r5⟩:=rd g;simp only[↓H,↓et g.1,↓zq g.1,↓Jt g.1];refine Lk hc hl hs.toWp c5 mB (hf a) (by have:=hs.n;omega) λ o4 j8=>?_
 obtain⟨x0,h9⟩:∃x0,x0=gf s (w.it a):=⟨_,rfl⟩;obtain⟨e4,k6,c3⟩:=uE hs hc (hf a);rw[<- h9]at e4 k6 c3 ⊢;refine j8.alloc λ c1 o3 g2=>?_
 have g:=gs (X:=[_]) g2;obtain⟨H,r5⟩:=rd g;simp only[↓H,↓et g.1,↓zq g.1,↓Jt g.1,ae,true_and];refine g2.eU 0 rfl rfl (cs':=GU x0 .nil) rfl (Na rfl) λ o2 c4=>?_
 simp only[List.set_cons_zero]at c4;have g:=gs (X:=[_]) c4;obtain⟨H,r5⟩:=rd g;simp only[↓H,↓r5,↓et g.1,↓zq g.1,↓Js g.1];refine acR hc hl e4 c3 mB (by have:=hs.made x0.it.id;omega) (qE.new c4 c3) λ o1 p hp e5=>?_
 have eX:Cw c l s w a=J0 c l s x0 (w.nth a):=by unfold Cw;rw[h9]
 rw[<- eX]at hp e5 ⊢;simp only[↓xy,↓h_ext,List.getElem?_cons_zero,List.getElem?_cons_succ];refine e5.alloc λ e7 o0 a2=>?_
 have g:=gs (X:=[_]) a2.vs;obtain⟨H,r5⟩:=rd g;simp only[↓H,↓r5,↓et g.1,↓zq g.1,↓Js g.1,ae,true_and];refine a2.eU 0 rfl rfl (cs':=p.cs) rfl p.bR.one λ j1 E=>?_
 simp only[List.set_cons_zero]at E;cases j0:(Cw c l s w a).2
 ·simp only[↓gS];exact hN (by grind [qM]) j1 ((E.vs.sub (List.sublist_cons_self _ _)).sub a5)
 have hp:=hp j0;obtain⟨u,c2⟩:∃u,u=(Cw c l s w a).1:=⟨_,rfl⟩;have k0:u.ev≠[]:=by grind [TU]
 obtain⟨g3,l2⟩:QP c l u/\u.ev.length<=4000:=by
  have:=KG (en:=λ ev=>(kU ev (s.made x0.it.id) (w.nth a)).isSome) hc hl 200 0 x0 e4;rw[c3]at this;rw[c2,eX];exact⟨this.1,by have:=this.2;simp at this;exact this⟩
 rw[<- c2]at E hp;obtain⟨mx,a7⟩:=E.ms k0;obtain⟨W,a6⟩:∃W,W=[(mx,Slot.arr 9 (u.ev.map Ev.e)),(c1,.box (.agg (GU u (.ms mx 0 u.ev.length)))),(e7,.box (.agg p.cs))]:=⟨_,rfl⟩;have a7:Vs j1 (W++B):=by rw[a6];exact a7
 have g:=gs a7;obtain⟨H,r5⟩:=rd g;simp (disch:=omega) only[↓gS,↓H,↓et g.1];have bn:(1:Int)-bI a=bI !a:=aa9 a;have bd:=Wc a;simp (disch:=omega) only[↓cS,bn];simp only[↓et g.1,↓zq g.1,↓Jt g.1];refine Lk hc hl hs.toWp a7 (mB.mono λ x hx=>List.mem_append_right _ hx) (hf !a) (by have:=hs.n;omega) λ n3 j7=>?_
 obtain⟨y0,e9⟩:∃y0,y0=gf s (w.it !a):=⟨_,rfl⟩;obtain⟨c9,k5,j5⟩:=uE hs hc (hf !a);rw[<- e9]at c9 k5 j5 ⊢;refine j7.alloc λ a8 n2 g1=>?_
 have g:=gs (X:=_::W) g1;obtain⟨H,r5⟩:=rd g;simp only[↓H,↓et g.1,↓zq g.1,↓Jt g.1,ae,true_and];refine g1.eU 0 rfl rfl (cs':=GU y0 .nil) rfl (Na rfl) λ m4 S=>?_
 simp only[List.set_cons_zero]at S;have i17:∀{d:Nat×Slot},(d::(W++B))[2]?=some (c1,Slot.box (.agg (GU u (.ms mx 0 u.ev.length)))):=by intro d;rw[a6];rfl
 rw[S.fa 2 i17,S.zp 2 (j:=7) (e:=aZ u.g) i17 rfl,S.fa 0 rfl];refine S.DO 0 (j:=7) rfl (by show 7<10;omega) rfl λ m3 G=>?_
 simp only[List.set_cons_zero]at G;obtain⟨Z,e8⟩:∃Z,Z=OA c l s w a:=⟨_,rfl⟩
 have a1:QP c l Z/\Z.it=y0.it/\Z.ev=[]:=by
  rw[e8];unfold OA;rw[<- e9, <- c2];refine⟨⟨c9.it,g3.g,?_⟩,rfl,j5⟩;show cq c.arrays 2 (if s.gs.length=1 then u.sh else y0.sh)
  split
  ·exact g3.sh
  ·exact c9.sh
 refine⟨λ _ h'=>Vs h' ((a8,.box (.agg (GU Z .nil)))::(W++B)),?_,?_⟩
 case refine_2 =>
  have g7:=(gs (X:=_::W) G).2.1;simp only[↓kn g7,↓cT g7 (j:=1) rfl];rw[gd,aE]
  have e1:GU Z .nil=(y0.it.cs++[aZ u.g,aZ (if s.gs.length=1 then u.sh else y0.sh),.nil]):=by
   rw[e8];unfold OA;rw[<- e9, <- c2];rfl
  have e0:(GU y0 .nil).set 7 (aZ u.g)=y0.it.cs++[aZ u.g,aZ y0.sh,.nil]:=rfl;rw[e0]at G;by_cases h1:s.gs.length=1
  ·simp (disch:=omega) only[↓cS,↓ai];rw[G.fa 2 i17,G.zp 2 (j:=8) (e:=aZ u.sh) i17 rfl,G.fa 0 rfl];refine G.DO 0 (j:=8) rfl (by show 8<10;omega) rfl λ k9 c8=>?_
   simp only[List.set_cons_zero]at c8;rw[e1,if_pos h1];exact c8
  ·simp (disch:=omega) only[↓cS,↓ah,ae,true_and];grind
 rintro _ m2 j6;clear G S g1 j7 a7 E a2 e5 c4 g2 j8 c5;have g:=gs (X:=_::W) j6;obtain⟨H,r5⟩:=rd g;simp only[↓H,↓r5,↓et g.1];simp only[↓et g.1,↓zq g.1,↓Js g.1];refine acR hc hl a1.1 a1.2.2 (mB.mono λ x hx=>List.mem_append_right W hx) (by have:=hs.made Z.it.id;omega) (qE.new j6 a1.2.2) λ m1 q hq g4=>?_
 have eY:GY c l s w a=J0 c l s Z (w.nth !a):=by unfold GY;rw[e8]
 rw[<- eY]at hq g4 ⊢;simp only[↓xy,↓h_ext,List.getElem?_cons_zero,List.getElem?_cons_succ];refine g4.alloc λ e6 m0 c6=>?_
 have g:=gs (X:=_::W) c6.vs;obtain⟨H,r5⟩:=rd g;simp only[↓H,↓r5,↓et g.1];simp only[↓et g.1,↓zq g.1,↓Js g.1,ae,true_and];refine c6.eU 0 rfl rfl (cs':=q.cs) rfl q.bR.one λ k8 O=>?_
 simp only[List.set_cons_zero]at O;simp only[↓xv,List.map_nil,List.map_cons,xw]
 have bad:∀{h':Heap}{X:LSq},Vs h' (X++(W++B))->¬((Cw c l s w a).2=true/\(GY c l s w a).2=true/\mD w (Tl s (Cw c l s w a).1 (w.nth a))=true/\mD w (Tl s (GY c l s w a).1 (w.nth !a))=true /\
  KV (Tl s (Cw c l s w a).1 (w.nth a)) (Tl s (GY c l s w a).1 (w.nth !a))=true)->KH (.tup [.nil,.bool false]) h':=λ V' hb =>
  hN (by unfold qM;rw[if_neg hb]) _ ((V'.iw.iw).sub a5)
 cases c7:(GY c l s w a).2
 ·simp only[↓gS];exact bad (X:=[_]) O.vs (by rw[c7];simp)
 have hq:=hq c7;simp only[↓gS];obtain⟨I,h7⟩:∃I,I=(GY c l s w a).1:=⟨_,rfl⟩;have j9:I.ev≠[]:=by grind [TU]
 have lY:I.ev.length<=4000:=by
  have:=(KG (en:=λ ev=>(kU ev (s.made Z.it.id) (w.nth !a)).isSome) hc hl 200 0 Z a1.1).2;rw[a1.2.2]at this;rw[h7,eY];simp at this;exact this
 rw[<- h7]at O hq;obtain⟨my,g0⟩:=O.ms j9;obtain⟨U,Q⟩:∃U,U=[(my,Slot.arr 9 (I.ev.map Ev.e)),(a8,.box (.agg (GU I (.ms my 0 I.ev.length)))),(e6,.box (.agg q.cs))]++W:=⟨_,rfl⟩;have g0:Vs k8 (U++B):=by grind
 have k3:(e7,Slot.box (.agg p.cs))∈U:=by rw[Q,a6];simp
 have k1:(e6,Slot.box (.agg q.cs))∈U:=by rw[Q];simp
 have k4:(c1,Slot.box (.agg (GU u (.ms mx 0 u.ev.length))))∈U:=by rw[Q,a6];simp
 have k2:(a8,Slot.box (.agg (GU I (.ms my 0 I.ev.length))))∈U:=by rw[Q];simp
 have g8:(mx,Slot.arr 9 (u.ev.map Ev.e))∈U:=by rw[Q,a6];simp
 have g6:(my,Slot.arr 9 (I.ev.map Ev.e))∈U:=by rw[Q];simp
 have bad:∀{h':Heap},Vs h' (U++B)->¬((Cw c l s w a).2=true/\(GY c l s w a).2=true/\mD w p=true/\mD w q=true/\KV p q=true)->KH (.tup [.nil,.bool false]) h':=λ {h'} V' hb =>
  hN (by grind [qM]) _ (V'.iw.sub a5)
 have h5:∀{h':Heap}{KH:HKq},Vs h' (U++B)->ab PP (.ld (.c (.ptr e7 0 0)) 9 true) h' KH=KH p.e h':=λ V'=>ml (V'.mem (List.mem_append_left _ k3)) (by show 0+9<=9;omega) rfl
 have g9:∀{h':Heap}{KH:HKq},Vs h' (U++B)->ab PP (.ld (.c (.ptr e6 0 0)) 9 true) h' KH=KH q.e h':=λ V'=>ml (V'.mem (List.mem_append_left _ k1)) (by show 0+9<=9;omega) rfl
 rw[h5 g0];refine RU g0 (List.mem_append_right _ m9) λ h2 V2=>?_
 cases l8:mD w p
 ·simp only[↓gS];grind
 simp only[↓gS];rw[g9 V2];refine RU V2 (List.mem_append_right _ m9) λ h3 V3=>?_
 cases l4:mD w q
 ·simp only[↓gS];grind
 simp only[↓gS];rw[h5 V3,g9 V3]
 refine bk QA (λ d hd=>by
  simp at hd;rcases hd with rfl|rfl
  ·exact p.bR.pair
  ·exact q.bR.pair) ?_
 rintro _ rfl;cases l3:KV p q
 ·simp only[↓gS];grind
 simp only[↓gS];have j4:h3 c1=_:=V3.mem (List.mem_append_left _ k4);have j3:h3 a8=_:=V3.mem (List.mem_append_left _ k2);rw[kn j4,cT j4 (j:=9) rfl,kn j3,cT j3 (j:=9) rfl];have lx:u.ev.length=(u.ev.map Ev.e).length:=by rw[aE]
 have ly:I.ev.length=(I.ev.map Ev.e).length:=by rw[aE]
 rw[lx,ly];refine aa7 (V3.mem (List.mem_append_left _ g8)) (V3.mem (List.mem_append_left _ g6)) (Vt _) (Vt _) λ n t=>?_
 have VL:Vs (h3.freezeAll [mx,my]) L:=by
  have nd:=(Vs.iff.1 V3).2;rw[List.map_append]at nd;have l0:=(List.nodup_append.1 nd).2.2;refine(V3.iw.sub a5).Rq λ k sl hi=>?_
  obtain⟨i,hi⟩:=hi;have l9:k∈B.map Prod.fst:=List.mem_map.2 ⟨_,a5.subset (aK hi),rfl⟩;grind [cx]
 have k7:(h3.freezeAll [mx,my]) n=.free:=by
  rw[cx _ (λ hk=>?_)]
  ·exact t.free
  ·simp only[List.mem_cons,List.not_mem_nil,or_false]at hk;rcases hk with rfl|rfl
   ·have:=V3.mem (List.mem_append_left _ g8);rw[t.free]at this;cases this
   ·have:=V3.mem (List.mem_append_left _ g6);rw[t.free]at this;cases this
 have VN:=VL.push k7 (s:=.arr 1 [.sl (u.ev.map Ev.e),.sl (I.ev.map Ev.e)]) (by simp);refine Tq VN List.mem_cons_self (by rw[<- lx, <- ly];omega) Fv Fv λ v j2 g5=>?_
 refine hS (u.ev++I.ev) ?_ v j2 (by rw[List.map_append];exact g5.pop);grind [qM]
end
end Go.Am
namespace Go.Am
open Go
def NX (e:Nat) (v:D) (T:List D) (A:LSq):Prop:=(v=.nil/\T=[]/\A=[])\/∃m,v=.ms m 0 T.length/\A=[(m,.arr e T)]
theorem QG.RL {e:Nat}{h:Heap}{L:LSq}{v:D}{T:List D}(q:QG e h L v T):∃A,NX e v T A/\Vs h (A++L):=by
 rcases q with⟨rfl,rfl,V⟩|⟨m,rfl,V⟩
 ·exact⟨[],Or.inl ⟨rfl,rfl,rfl⟩,V⟩
 ·exact⟨_,Or.inr ⟨m,rfl,rfl⟩,V⟩
theorem NX.one {e:Nat}{v:D}{T:List D}{A:LSq}(b:NX e v T A):v.one=true:=by
 rcases b with⟨rfl,-⟩|⟨m,rfl,-⟩<;>rfl
section
variable {c:Code}{l:bG}{s:pC}{w:fU}{md:D}{h:Heap}{L:LSq}{KH:HKq}{K:D->Prop}
theorem NN (hc:ba c) (hl:bY c l) (hs:zf c l s) (V:Vs h L) (m:EH L md s.made) (hf:∀b,(s.gs.find? (Ec (w.it b))).isSome=true)
  (hN:worksP c l s w=none->∀h',Vs h' L->KH (.tup [.agg [.nil,.nil],.bool false]) h')
  (hS:∀e0 e1,worksP c l s w=some (e0,e1)->∀v0 v1 A0 A1 h',NX 9 v0 (e0.map Ev.e) A0->NX 9 v1 (e1.map Ev.e) A1->Vs h' (A0++(A1++L))->KH (.tup [.agg [v0,v1],.bool true]) h') :
  ag PP cQ [.agg (gM c l),.agg (lE s md),.agg w.cs] h KH:=by
 refine aI BA (aC _ _ _) rfl (AK _ _ _ _) ?_;dsimp only[sO,xB,xL,xS];refine V.box (lh) λ n4 h5 V5=>?_
 refine V5.box (su m) λ n6 h7 V7=>?_
 refine V7.box w.bR.one λ n8 h9 V9=>?_
 refine V9.alloc λ u c2 I=>?_
 obtain⟨B,Q⟩:∃B,B=(n8,Slot.box (.agg w.cs))::(n6,.box (.agg (lE s md)))::(n4,.box (.agg (gM c l)))::L:=⟨_,rfl⟩;have m8:(n8,Slot.box (.agg w.cs))∈B:=by rw[Q];simp
 have m6:(n6,Slot.box (.agg (lE s md)))∈B:=by rw[Q];simp
 have m4:(n4,Slot.box (.agg (gM c l)))∈B:=by rw[Q];simp
 have mB:EH B md s.made:=m.mono λ x hx=>by rw[Q];simp[hx]
 have a5:L.Sublist B:=by grind
 rw[<- Q]at I;clear V V5 V7 V9 Q;refine⟨λ _ h'=>∃e0 e1 v0 v1 A0 A1,worksP c l s w=some (e0,e1)/\NX 9 v0 (e0.map Ev.e) A0/\NX 9 v1 (e1.map Ev.e) A1/\Vs h' ((u,.box (.agg [v0,v1]))::(A0++(A1++B))),?_,?_⟩
 ·rintro _ c1 ⟨e0,e1,v0,v1,A0,A1,hw,b0,b1,a7⟩;rw[a7.eR 0 (s:=2) rfl rfl];refine a7.eU 0 rfl rfl rfl (λ x hx=>by simp at hx;rcases hx with rfl|rfl;exact b0.one;exact b1.one) λ a8 H=>?_
  simp only[List.set_cons_zero]at H;rw[H.eR 0 (s:=2) rfl rfl];exact hS e0 e1 hw v0 v1 A0 A1 a8 b0 b1 (H.pop.sub ((a5.append_left A1).append_left A0))
 dsimp only[oy,xJ,xL,xS]
 refine⟨λ b x h'=>(b=2/\x=[.int .i64 0]/\Vs h' ((u,.box (.agg [.nil,.nil]))::B)) \/
  (b=1/\x=[.int .i64 1]/\∃e0 v0 A0,qM c l s w false=some e0/\NX 9 v0 (e0.map Ev.e) A0/\Vs h' ((u,.box (.agg [v0,.nil]))::(A0++B))) \/
  (b=0/\x=[.int .i64 2]/\∃e0 e1 v0 v1 A0 A1,worksP c l s w=some (e0,e1)/\NX 9 v0 (e0.map Ev.e) A0/\NX 9 v1 (e1.map Ev.e) A1/\Vs h' ((u,.box (.agg [v0,v1]))::(A0++(A1++B)))),2,Or.inl ⟨rfl,rfl,I⟩,?_⟩
 clear I
 have a1:∀{h':Heap}{X:LSq},Vs h' (X++B)->(∀{KH:HKq},ab PP (.ld (.c (.ptr n4 0 0)) 10 true) h' KH=KH (.agg (gM c l)) h')/\(∀{KH:HKq},ab PP (.ld (.c (.ptr n6 0 0)) 3 true) h' KH=KH (.agg (lE s md)) h') /\
   (∀{KH:HKq},ab PP (.ld (.c (.ptr n8 0 0)) 9 true) h' KH=KH (.agg w.cs) h'):=λ O =>
  ⟨λ {KH}=>ml (O.mem (List.mem_append_right _ m4)) (by show 0+10<=10;omega) rfl,λ {KH}=>ml (O.mem (List.mem_append_right _ m6)) (by show 0+3<=3;omega) rfl,λ {KH}=>ml (O.mem (List.mem_append_right _ m8)) (by show 0+9<=9;omega) rfl⟩
 have fail:∀{h':Heap}{Z W:D}{X:LSq},Vs h' ((u,.box (.agg [Z,W]))::(X++B))->worksP c l s w=none ->
   ab PP (.st (.c (.ptr u 0 0)) (.c (.agg [.nil,.nil])) 2) h' λ c3 a6=>ab PP (.ld (.c (.ptr u 0 0)) 2 true) a6 λ a46 _=>KH (.tup [a46,(.bool false)]) a6:=by
  intro h' Z W X O hw;refine O.eU 0 rfl rfl rfl (λ x hx=>by simp at hx;rcases hx with rfl|rfl<;>rfl) λ h2 E=>?_
  simp only[List.set_cons_zero]at E;rw[E.eR 0 (s:=2) rfl rfl];exact hN hw h2 (E.pop.iw.sub a5)
 have ad:∀{h':Heap}{Z W:D}{X:LSq}{i:Int}{KH:HKq},Vs h' ((u,.box (.agg [Z,W]))::X)->0<=i->i<2->ab PP (.iadda (.c (.ptr u 0 0)) (.c (.int .i64 i)) 2 1) h' KH=KH (.ptr u 0 i.toNat) h':=by
  intro h' Z W X i KH O h0 h1;rw[Aa,O.get 0 _ _ rfl];apply propext;constructor
  ·grind
  ·intro hk;exact⟨h0,h1,rfl,by simpa using hk⟩
 rintro b f h1 (⟨rfl,hx,U⟩|⟨rfl,hx,e0,v0,A0,ho,b0,U⟩|⟨rfl,hx,e0,e1,v0,v1,A0,A1,hw,b0,b1,U⟩)
 ·simp only[av,and_true]at hx;simp only[hx];obtain⟨q1,q2,q3⟩:=a1 (X:=[_]) U;rw[DY (by omega),ai,q1,q2,q3];refine RY (a:=false) hc hl hs U (mB.mono λ x hx=>List.mem_cons_of_mem _ hx) hf (λ ho h2 E=>?_) λ G ho v h2 q=>?_
  ·simp only[↓h_ext,List.getElem?_cons_zero,List.getElem?_cons_succ];rw[ad E (by omega) (by omega)];refine E.DO 0 (j:=0) rfl (by simp) rfl λ h3 S=>?_
   simp only[↓gS];exact fail (X:=[]) S (by unfold worksP;rw[ho])
  ·obtain⟨A,bA,E⟩:=q.RL;have E:=E.perm List.perm_middle;simp only[↓h_ext,List.getElem?_cons_zero,List.getElem?_cons_succ];rw[ad E (by omega) (by omega)];refine E.DO 0 (j:=0) rfl (by simp) bA.one λ h3 S=>?_
   simp only[↓gS];simp (disch:=omega) only[↓cS,ae,true_and];exact⟨1,by omega,Or.inr (Or.inl ⟨rfl,rfl,G,v,A,ho,bA,S⟩)⟩
 ·simp only[av,and_true]at hx;simp only[hx];obtain⟨q1,q2,q3⟩:=a1 (X:=_::A0) U;rw[DY (by omega),ai,q1,q2,q3];refine RY (a:=true) hc hl hs U (mB.mono λ x hx=>by simp[hx]) hf (λ a2 h2 E=>?_) λ G a2 v h2 q=>?_
  ·simp only[↓h_ext,List.getElem?_cons_zero,List.getElem?_cons_succ];rw[ad E (by omega) (by omega)];refine E.DO 0 (j:=1) rfl (by simp) rfl λ h3 S=>?_
   simp only[↓gS];grind [worksP]
  ·obtain⟨A,bA,E⟩:=q.RL;have E:=E.perm List.perm_middle;simp only[↓h_ext,List.getElem?_cons_zero,List.getElem?_cons_succ];rw[ad E (by omega) (by omega)];refine E.DO 0 (j:=1) rfl (by simp) bA.one λ h3 S=>?_
   simp only[↓gS];simp (disch:=omega) only[↓cS,ae,true_and];refine⟨0,by omega,Or.inr (Or.inr ⟨rfl,rfl,e0,G,v0,v,A0,A,by unfold worksP;rw[ho,a2],b0,bA,?_⟩)⟩;exact S.perm (.cons _ (List.perm_append_comm_assoc _ _ _))
 grind [HZ,ah,ae]
theorem Ai {P:Program}{f:FuncId}{d1 d2 r:D}(hv:aV P f [d1,d2] (· = r)) (hds:∀d,d∈[d1,d2]->d.vd=true/\aD d) (hk:K r):an P (.call f [.c d1,.c d2]) h K:=ud hv hds hk
theorem GC:xt (.agg (gM c l)):=cF (by simp[gM,words])
theorem NF {k:Int}(hc:cE c) (hl:bY c l) (h0:pv c l=0) (hk:0<=k/\k<l.groups):aV PP cR [.agg (gM c l),.int .i64 k] (· = (cw c k).e):=by
 refine bt BH (aC _ _ _) rfl (AR _ _ _) ?_;dsimp only[sV,xB,xF,xL,xS];refine Vs.nil.box lh λ O h4 Z=>?_
 refine Z.alloc λ n5 H E=>?_
 have W:∀{KH:HKq},ab PP (.ld (.c (.ptr O 0 0)) 8 true) H KH=KH c.e H:=ml (E.get 1 _ _ rfl) (by show 0+8<=10;omega) rfl;have e2:∀{KH:HKq},ab PP (.ld (.c (.ptr O 0 8)) 2 true) H KH=KH l.e H:=ml (E.get 1 _ _ rfl) (by show 8+2<=10;omega) rfl;rw[E.fa 1 rfl,W,E.fa 1 rfl,e2]
 refine bk (Xs hc hl h0 hk) (λ d hd=>by
  simp at hd;rcases hd with rfl|rfl|rfl
  ·exact kL c
  ·exact⟨rfl,jA l⟩
  ·exact dT) ?_
 rintro _ rfl;simp only[↓h_ext,List.getElem?_cons_zero,List.getElem?_cons_succ];refine E.alloc λ Q V I=>?_
 refine I.eU 0 rfl rfl (cs':=(cw c k).cs) rfl (Gr.P0 _) λ U u=>?_
 simp only[List.set_cons_zero]at u;rw[u.eR 0 (s:=3) rfl rfl];refine u.eU 1 rfl rfl (cs':=(cw c k).cs) rfl (Gr.P0 _) λ S G=>?_
 simp only[List.set_cons_zero,List.set_cons_succ]at G;rw[G.eR 1 (s:=3) rfl rfl];exact so (Gr.bR (cw c k)).pair rfl
theorem Yn {fz:Bool}{z:D}{x y:Gr}(hz:∀a∈z.cells,a.vone=true) (hk:K (.sl [x.e,y.e])):an PP (.bldS false 3 2 z [(0,.c x.e),(1,.c y.e)]) h K:=by
 have u:∀g:Gr,∀a∈g.e.cells,a.vone=true:=λ g a ha=>by
  have:=g.bR.vd;simp only[Gr.e,D.vd,List.all_eq_true]at this;exact this a ha
 refine⟨λ p hp=>?_,λ p hp=>?_,hz,?_⟩
 ·simp[Arg.get]at hp;rcases hp with rfl|rfl
  ·exact⟨by show 0<2;omega,rfl,x.bR.one⟩
  ·exact⟨by show 1<2;omega,rfl,y.bR.one⟩
 ·grind [Arg.get]
 grind [Arg.get,setEls]
theorem RK {m:Mm}{g k:Int}(hc:cE c) (hl:bY c l) (h0:pv c l=0) (hg:0<=g/\g<l.groups) (hk:0<=k/\k<l.groups):aV PP jx [.agg (gM c l),aZ m,.int .i64 g,.int .i64 k] (· = .agg (lE (iQ c m g k) .nilmap)):=by
 refine bt BG (aC _ _ _) rfl (AQ _ _ _ _ _) ?_;dsimp only[sU,xB,xL,xS,yL];refine Vs.nil.box lh λ I V S=>?_
 refine S.alloc λ U O H=>?_
 have G:∀{K:D->Prop},an PP (.ld (.c (.ptr I 0 0)) 10 true) O K=K (.agg (gM c l)):=gI (H.get 1 _ _ rfl) (by show 0+10<=10;omega) rfl
 have u:∀{k:Int},∀d,d∈[D.agg (gM c l),.int .i64 k]->d.vd=true/\aD d:=λ d hd=>by
  simp at hd;rcases hd with rfl|rfl
  ·exact GC.pair
  ·exact dT
 simp only[G];refine Ai (NF hc hl h0 hg) u ?_;refine Ai (NF hc hl h0 hk) u ?_;refine Yn (fz:=false) (λ a ha=>by simp[D.cells]at ha;rcases ha with rfl|rfl|rfl<;>rfl) ?_;rw[lS rfl];refine H.eU 0 rfl rfl (cs':=lE (iQ c m g k) .nilmap) rfl (λ x hx=>by simp[lE]at hx;rcases hx with rfl|rfl|rfl<;>rfl) λ Q E=>?_
 simp only[List.set_cons_zero]at E;rw[E.eR 0 (s:=3) rfl rfl];exact so (cF (by simp[lE,aZ,D.vone])).pair rfl
end
end Go.Am
namespace Go.Am
open Go
def NR (e:Nat) (L:LSq) (v:D) (T:List D):Prop:=(v=.nil/\T=[])\/∃m els,v=.ms m 0 T.length/\(m,Slot.arr e els)∈L/\els.take T.length=T
theorem NX.rd {e:Nat}{v:D}{T:List D}{A:LSq}(b:NX e v T A):NR e A v T:=by
 rcases b with⟨h1,h2,-⟩|⟨m,h1,rfl⟩
 ·exact Or.inl ⟨h1,h2⟩
 ·exact Or.inr ⟨m,T,h1,List.mem_cons_self,List.take_length⟩
theorem NR.mono {e:Nat}{v:D}{T:List D}{L L':LSq}(hs:∀x∈L,x∈L') (b:NR e L v T):NR e L' v T:=by
 rcases b with h|⟨m,els,h1,h2,h3⟩
 ·exact Or.inl h
 ·exact Or.inr ⟨m,els,h1,hs _ h2,h3⟩
theorem NR.one {e:Nat}{v:D}{T:List D}{L:LSq}(b:NR e L v T):v.one=true:=by
 rcases b with⟨rfl,-⟩|⟨m,els,rfl,-⟩<;>rfl
theorem NR.len {e:Nat}{v:D}{T:List D}{L:LSq}{h:Heap}{K:D->Prop}(V:Vs h L) (b:NR e L v T):bq v h K=K (.int .i64 (T.length:Int)):=by
 rcases b with⟨rfl,rfl⟩|⟨m,els,rfl,hm,-⟩
 ·rw[zw];rfl
 ·exact I1 (V.mem hm)
theorem NR.ld {e i:Nat}{v:D}{T cs:List D}{L:LSq}{h:Heap}{KH:HKq}(V:Vs h L) (b:NR e L v T) (hi:T[i]?=some (.agg cs)) (hc:cs.length=e) (hK:KH (.agg cs) h) :
  ab PP (.iadd (.c v) (.c (.int .i64 (i:Int))) e) h λ a h1=>ab PP (.ld (.c a) e true) h1 KH:=by
 have hl:=(aq.1 hi).1;rcases b with⟨rfl,rfl⟩|⟨m,els,rfl,hm,ht⟩
 ·simp at hl
 ·have he:els[i]?=some (.agg cs):=by
   rw[<- ht,List.getElem?_take,if_pos hl]at hi;exact hi
  rw[Tz (V.mem hm) rfl (by omega) (by omega),aT,Nat.zero_add,UW (V.mem hm) he hc];exact hK
section
variable {h:Heap}{L:LSq}{KH:HKq}
theorem PA {e:Ev}(V:Vs h L) (hK:∀h',Vs h' L->KH (.bool (!bU e)) h'):ab PP (.callv (.c (.fn bX [] [])) [.c e.e]) h KH:=by
 refine⟨by kernel_rfl,?_⟩;show ag PP bX [e.e] h KH
 refine aI rT (aC _ _ _) rfl (rA _ _) ?_;dsimp only[lZ,xB,xL];refine V.box e.bR.one λ E h3 u=>?_
 rw[ml (d:=e.e) (u.get 0 _ _ rfl) (by show 0+9<=9;omega) rfl];refine Ll ?_;rw[Od];exact hK h3 u.pop
theorem QG.vsL {e:Nat}{v:D}{T:List D}(q:QG e h L v T):∃X,Vs h (X++L)/\∀h' L',Vs h' (X++L')->QG e h' L' v T:=by
 rcases q with⟨rfl,E,V⟩|⟨m,rfl,V⟩
 ·exact⟨[],V,λ h' L' u=>Or.inl ⟨rfl,E,u⟩⟩
 ·exact⟨[_],V,λ h' L' u=>Or.inr ⟨m,rfl,u⟩⟩
theorem To {v:D}{evs:List Ev}(q:QG 9 h L v (evs.map Ev.e)) (hl:evs.length<=1000000)
  (h1:(∀e∈evs,bU e=true)->∀h',QG 9 h' L v (evs.map Ev.e)->KH (.int .i64 (-1)) h')
  (h2:∀(i:Nat) (e:Ev),evs[i]?=some e->bU e=false->(∀x,x∈evs.take i->bU x=true)->∀h',QG 9 h' L v (evs.map Ev.e)->KH (.int .i64 (i:Int)) h') :
  ag PP bV [v,.fn bX [] []] h KH:=by
 refine aI iT (aC _ _ _) rfl (iR _ _ _) ?_;unfold dF;refine⟨λ _ h'=>(∀e∈evs,bU e=true)/\QG 9 h' L v (evs.map Ev.e),λ _ h' G=>h1 G.1 h' G.2,?_⟩;rw[q.len,aE];dsimp only[cU,xI,xL];refine⟨λ b x h'=>∃i:Nat,x=[.int .i64 (i:Int)]/\b+i=evs.length/\(∀x,x∈evs.take i->bU x=true)/\QG 9 h' L v (evs.map Ev.e),evs.length,⟨0,rfl,by omega,by simp,q⟩,?_⟩;rintro b f h' ⟨i,hx,H,ha,u⟩;simp only[av,and_true]at hx;simp only[hx];by_cases hi:i<evs.length
 case neg =>
  rw[HZ (by omega),ah];rw[List.take_of_length_le (by omega)]at ha;simp only[ae,true_and];exact⟨ha,u⟩
 obtain⟨e,he⟩:∃e,evs[i]?=some e:=⟨_,aG hi⟩;rw[DY (by omega),ai];refine u.ldE (NU he) rfl ?_;obtain⟨X,V,lift⟩:=u.vsL;refine PA V λ h3 I=>?_
 have E:=lift h3 L I;cases hb:bU e
 ·simp only[↓gS,Bool.not_false];exact h2 i e he hb ha h3 E
 ·simp only[↓gS,Bool.not_true];simp (disch:=omega) only[↓cS,ae,true_and];refine⟨evs.length-(i+1),by omega,i+1,by simp,by omega,λ x hx=>?_,E⟩;rw[List.take_add_one,he,List.mem_append]at hx;rcases hx with hx|hx
  ·exact ha x hx
  ·simp at hx;rw[hx];exact hb
theorem KS {l:List Ev}(h:∀x∈l,bU x=true):l.filter bU=l:=List.filter_eq_self.2 h
theorem QM {v:D}{evs:List Ev}(q:QG 9 h L v (evs.map Ev.e)) (hl:evs.length<=1000000)
  (hK:∀v' A h',Vs h' (A++L)->NR 9 A v' ((evs.filter bU).map Ev.e)->KH v' h'):ag PP bS [v,.fn bX [] []] h KH:=by
 refine aI iG (aC _ _ _) rfl (iD _ _ _) ?_;unfold dp;refine To q hl (λ ha h' q'=>?_) λ i0 e0 E I a2 h4 q4=>?_
 ·rw[eqT rfl,ai];obtain⟨A,bA,V⟩:=q'.RL;exact hK v A h' V (by rw[KS ha];exact bA.rd)
 have U:=(aq.1 E).1;rw[eqF (by omega),ah]
 obtain⟨m,rfl,V4⟩:∃m,v=.ms m 0 evs.length/\Vs h4 ((m,.arr 9 (evs.map Ev.e))::L):=by
  rcases q4 with⟨-,h0,-⟩|⟨m,h0,V⟩
  ·rw[List.map_eq_nil_iff]at h0;rw[h0]at U;simp at U
  ·rw[aE]at h0;exact⟨m,h0,V⟩
 have Q:ir (evs.take i0)=i0:=by
  unfold ir;rw[KS a2,List.length_take];omega
 have hle:ir evs<=evs.length:=RH evs;refine⟨λ x h'=>x=[.int .i64 ((ir evs:Nat):Int)]/\∃els,Vs h' ((m,.arr 9 els)::L)/\els.length=evs.length/\els.take (ir evs)=(evs.filter bU).map Ev.e,?_,?_⟩
 ·rintro f h8 ⟨hx,els,V8,H,ht⟩;simp only[av,and_true]at hx;rw[hx];have hm:=V8.get 0 _ _ rfl;have row:∃a6,(h8 m).row=some (9,a6):=⟨els,by rw[hm];rfl⟩;rw[BW,nJ,qA,qA];refine⟨by omega,by omega,by omega,by omega,row,?_⟩;have e1:0+((ir evs:Nat):Int).toNat=ir evs:=by omega
  have e2:((evs.length:Int)-((ir evs:Nat):Int)).toNat=evs.length-ir evs:=by omega
  rw[e1,e2];refine⟨els,hm,by omega,?_⟩;have V9:=V8.aM 0 rfl (s':=.arr 9 (els.take (ir evs)++List.replicate (evs.length-ir evs) (.agg Fw.cs)++els.drop (ir evs+(evs.length-ir evs)))) (by simp);simp only[List.set_cons_zero]at V9;change ab PP (.GQ (.c (.ms m 0 evs.length)) none (some (.c (.int .i64 ((ir evs:Nat):Int)))) none 9) _ KH;rw[BW,qA,nJ,qA];refine⟨by omega,by omega,by omega,by omega,⟨_,by rw[af];rfl⟩,?_⟩;have e3:0+((0:Nat):Int).toNat=0:=rfl;have e4:(((ir evs:Nat):Int)-((0:Nat):Int)).toNat=ir evs:=by omega
  rw[e3,e4];have W:((evs.filter bU).map Ev.e).length=ir evs:=by rw[aE];rfl
  refine hK _ [_] _ V9 (Or.inr ⟨m,_,by rw[W],List.mem_cons_self,?_⟩);rw[W,List.append_assoc,List.take_append_of_le_length (by rw[List.length_take];omega),List.take_take,Nat.min_self];exact ht
 simp (disch:=omega) only[↓cS];dsimp only[cK,xI,xL,xS]
 refine⟨λ b x h'=>∃(j:Nat) (els:List D),x=[.int .i64 ((ir (evs.take j):Nat):Int),.int .i64 (j:Int)]/\b+j=evs.length/\ir (evs.take j)<=j/\Vs h' ((m,.arr 9 els)::L)/\els.length=evs.length/\els.take (ir (evs.take j))=((evs.take j).filter bU).map Ev.e/\els.drop j=(evs.drop j).map Ev.e/\(∀y∈els,∃cs,y=.agg cs/\cs.length=9),evs.length-(i0+1),
  ⟨i0+1,evs.map Ev.e,?_,by omega,?_,V4,by simp,?_,by rw[List.map_drop],λ y hy=>?_⟩,?_⟩
 ·rw[uY E,I,Q];simp
 ·rw[uY E,I,Q];simp
 ·rw[uY E,I,Q,List.take_add_one,E,List.filter_append,KS a2];simp[I,List.map_take]
 ·obtain⟨z,-,rfl⟩:=List.mem_map.1 hy;exact⟨_,rfl,rfl⟩
 rintro b f h7 ⟨j,els,hx,c7,c6,V7,H,ht,hd,h9⟩;simp only[av,and_true]at hx;obtain⟨c2,c1⟩:=hx;simp only[c2,c1];have hm:=V7.get 0 _ _ rfl;rw[I1 hm];by_cases hj:j<evs.length
 case neg =>
  rw[HZ (by omega),ah];rw[List.take_of_length_le (show evs.length<=j by omega)]at ht ⊢;simp only[ae,true_and];exact⟨els,V7,H,ht⟩
 obtain⟨e,he⟩:∃e,evs[j]?=some e:=⟨_,aG hj⟩
 have c3:els[j]?=some (.agg e.cs):=by
  have h1:(els.drop j)[0]?=((evs.drop j).map Ev.e)[0]?:=by rw[hd]
  rw[List.getElem?_drop,List.getElem?_map,List.getElem?_drop,Nat.add_zero,he]at h1;exact h1
 rw[DY (by omega),ai];refine⟨λ x h'=>∃els,x=[.int .i64 ((ir (evs.take (j+1)):Nat):Int)]/\ir (evs.take (j+1))<=j+1/\Vs h' ((m,.arr 9 els)::L)/\els.length=evs.length/\els.take (ir (evs.take (j+1)))=((evs.take (j+1)).filter bU).map Ev.e/\els.drop (j+1)=(evs.drop (j+1)).map Ev.e/\(∀y∈els,∃cs,y=.agg cs/\cs.length=9),?_,?_⟩
 ·rintro f2 h2 ⟨a5,hx,q1,q2,q3,q4,q5,q6⟩;simp only[av,and_true]at hx;rw[hx];simp (disch:=omega) only[↓cS,ae,true_and];exact⟨evs.length-(j+1),by omega,j+1,a5,by simp,by omega,q1,q2,q3,q4,q5,q6⟩
 rw[Tz hm rfl (by omega) (by omega),aT,Nat.zero_add,UW (s:=9) hm c3 rfl];refine V7.alloc λ c5 e6 c4=>?_
 refine c4.eU 0 rfl rfl (cs':=e.cs) rfl e.bR.one λ e5 S=>?_
 simp only[List.set_cons_zero]at S;rw[S.eR 0 (s:=9) rfl rfl];refine PA S λ c9 O=>?_
 have u:=uY he
 have Z:els.drop (j+1)=(evs.drop (j+1)).map Ev.e:=by
  rw[<- List.drop_drop,hd, <- List.map_drop,List.drop_drop]
 have G:(evs.take (j+1)).filter bU=(evs.take j).filter bU++if bU e then [e] else []:=by
  rw[List.take_add_one,he,List.filter_append];cases hb:bU e<;>simp[hb]
 cases hb:bU e
 ·rw[hb]at u G;simp only[↓gS,Bool.not_false,ae,true_and];refine⟨els,?_,?_,O.pop,H,?_,Z,h9⟩
  ·rw[u];simp
  ·rw[u];simp;omega
  ·rw[u,G];simpa using ht
 ·rw[hb]at u G;simp only[↓gS,Bool.not_true];rw[O.eR 0 (s:=9) rfl rfl,Tz (O.get 1 _ _ rfl) rfl (by omega) (by omega),aT,Nat.zero_add];have a1:ir (evs.take j)<els.length:=by omega
  obtain⟨y,hy⟩:∃y,els[ir (evs.take j)]?=some y:=⟨_,aG a1⟩;obtain⟨ys,rfl,a8⟩:=h9 y (aK hy);refine O.stR 1 rfl hy a8 rfl e.bR.one λ c8 a7=>?_
  simp only[List.set_cons_zero,List.set_cons_succ]at a7;simp (disch:=omega) only[↓cS,ae,true_and];refine⟨els.set (ir (evs.take j)) (.agg e.cs),?_,?_,a7.pop,by simpa using H,?_,?_,λ y hy=>?_⟩
  ·rw[u];simp
  ·rw[u];simp;omega
  ·rw[u,G];simp only[if_true,List.map_append];rw[List.take_add_one,List.getElem?_set_self a1,List.take_set_of_le (Nat.le_refl _),ht];rfl
  ·rw[List.drop_set_of_lt (by omega)];exact Z
  ·rcases List.mem_or_eq_of_mem_set hy with hy|rfl
   ·exact h9 y hy
   ·exact⟨_,rfl,rfl⟩
theorem QL {c:Code}{l:bG}{s:pC}{md:D}{id:Int}(hc:ba c) (hl:bY c l) (hs:zf c l s) (V:Vs h L) (m:EH L md s.made) (hf:(s.gs.find? (Ec id)).isSome=true)
  (hK:∀v A h',Vs h' (A++L)->NR 9 A v ((iz c l s id).map Ev.e)->KH v h'):ag PP jV [.agg (gM c l),.agg (lE s md),.int .i64 id] h KH:=by
 refine aI vV (aC _ _ _) rfl (vv _ _ _ _) ?_;dsimp only[oE,xB,xF,xL,xS];refine V.box (lh) λ n4 h5 V5=>?_
 refine V5.box (su m) λ n6 h7 V7=>?_
 rw[V7.eR 0 (s:=3) rfl rfl];refine Lk hc hl hs.toWp V7 (m.mono λ x hx=>by simp[hx]) hf (by have:=hs.n;omega) λ h9 V9=>?_
 obtain⟨I,O⟩:∃I,I=gf s id:=⟨_,rfl⟩;obtain⟨G,Z,u⟩:=uE hs hc hf;rw[<- O]at G Z u ⊢;refine V9.alloc λ W c3 a5=>?_
 refine a5.eU 0 rfl rfl (cs':=GU I .nil) rfl (Na rfl) λ c2 H=>?_
 simp only[List.set_cons_zero]at H;rw[H.eR 2 (s:=10) rfl rfl];refine Zk (en:=λ _=>false) (Lf:=λ _=>(n6,.box (.agg (lE s md)))::(n4,.box (.agg (gM c l)))::L) hc hl G u (qE.new H u) ?_ ?_
 ·intro N o r' h' a6 U a7 a8 a1;refine⟨by kernel_rfl,?_⟩;show ag PP ij [] h' a6
  refine aI rU (aC _ _ _) rfl (rB _) ?_;unfold l6;exact a1 h' U
 intro a2 o E ho;obtain⟨R,hR⟩:∃R,R=(goP c l (λ _=>false) 200 0 I).1:=⟨_,rfl⟩
 have c1:R.ev.length<=4000:=by
  have:=(KG (en:=λ _=>false) hc hl 200 0 I G).2;rw[u]at this;rw[hR];simp at this;exact this
 have Q:iz c l s id=R.ev.filter bU:=by unfold iz;rw[hR,O]
 rw[<- hR]at E;obtain⟨dev,q⟩:=E;have S:a2 W=.box (.agg (GU R dev)):=q.vs.get 0 _ _ rfl;rw[kn S,cT S (j:=9) (d:=dev) rfl];refine QM q (by omega) λ v A h' V' r=>?_
 refine hK v A h' (V'.sub ?_) (by rw[Q];exact r);exact((((List.Sublist.refl L).cons _).cons _).cons _).append_left A
end
end Go.Am
namespace Go.Am
open Go
theorem J2 {st:St}{c:Code}{e v:Ev}(h:v∈(st.tell c e).ev):v∈st.ev\/(v=e/\(e.kind≠4->dV c e.arr.toNat≠3)):=by
 grind [St.tell]
def EvX (c:Code) (v:Ev):Prop:=bU v=true->0<=v.i/\v.i<kg c v.arr.toNat/\dV c v.arr.toNat≠3
theorem U4 {c:Code}{l:bG}{id:Int}{x:aW}{e:Ev}{st st':St}(h:lP c l id x e st=some st'):∀v,v∈st'.ev->v∈st.ev\/(v.item=e.item/\(bU v=true->v.arr=x.n/\(x.op=7\/x.op=8\/x.op=9))/\EvX c v):=by
 intro v u;unfold lP at h;simp only at h;split at h
 ·rename_i H;split at h
  ·rename_i hb;cases h;rcases J2 (show v∈(St.tell _ _ _).ev from u) with h1|⟨rfl,h2⟩
   ·exact Or.inl h1
   ·exact Or.inr ⟨rfl,λ _=>⟨rfl,Or.inl H⟩,λ _=>⟨hb.1,hb.2,h2 (by simp[evL])⟩⟩
  ·cases h
 split at h
 ·rename_i G;split at h
  ·rename_i hb;cases h;rcases J2 (show v∈(St.tell _ _ _).ev from u) with h1|⟨rfl,h2⟩
   ·exact Or.inl h1
   ·exact Or.inr ⟨rfl,λ _=>⟨rfl,Or.inr (Or.inl G)⟩,λ _=>⟨hb.1,hb.2,h2 (by simp[Ww])⟩⟩
  ·cases h
 split at h
 ·rename_i E;split at h
  ·rename_i hb;cases h;rcases J2 (show v∈(St.tell _ _ _).ev from u) with h1|⟨rfl,h2⟩
   ·exact Or.inl h1
   ·exact Or.inr ⟨rfl,λ _=>⟨rfl,Or.inr (Or.inr E)⟩,λ _=>⟨hb.1,hb.2,h2 (by simp[Yi])⟩⟩
  ·cases h
 split at h
 ·grind [St.tell,bU,Yh,EvX]
 ·cases h;exact Or.inl u
structure QR (c:Code) (id:Int) (v:Ev):Prop where
 item:v.item=id
 arr:bU v=true->∃k:Nat,v.arr=(k:Int)/\k<c.arrays.length
 x:EvX c v
theorem Q9 {c:Code}{l:bG}{id aM block:Int}:∀(xs:List aW) (k:Nat) (st st':St),(∀x∈xs,Bi c x)->(∀v∈st.ev,QR c id v)->runP c l id aM block xs k st=some st'->∀v,v∈st'.ev->QR c id v
 | [],k,st,st',hx,h0,h=>by
  cases h;exact h0
 | x::r,k,st,st',hx,h0,h=>by
  unfold runP at h
  cases h1:lP c l id x (ev0 id aM block k) st with
  | none=>rw[h1]at h;cases h
  | some zo =>
   rw[h1]at h;refine Q9 r (k+1) zo st' (λ y hy=>hx y (by simp[hy])) (λ v E=>?_) h;rcases U4 h1 v E with h2|⟨h2,h3,h4⟩
   ·exact h0 v h2
   ·refine⟨h2,λ ha=>?_,h4⟩;obtain⟨G,u⟩:=h3 ha;obtain⟨n,I,H⟩:=(hx x (by simp)).n u;grind
theorem WR {c:Code}{l:bG}{it:It}{g s:Mm}{aM:Int}(hc:ba c) (h:ItW c l it):∀v,v∈(stepP c l it g s aM).ev->QR c it.id v:=by
 intro v u;unfold stepP at u;split at u
 ·cases u
 ·obtain⟨k,Q,I,O,E,ht,G⟩:=hc.RL h.block;obtain⟨H,-,-⟩:=hc.xs Q E;grind [Q5,Q9]
theorem Ql {c:Code}{l:bG}{en:List Ev->Bool}(hc:ba c) (hl:bY c l){id:Int}:∀(f:Nat) (n:Int) (r:Et),QP c l r->r.it.id=id->(∀v∈r.ev,QR c id v)->∀v,v∈(goP c l en f n r).1.ev->QR c id v
 | 0,n,r,w,hi,h0=>h0
 | f+1,n,r,w,hi,h0=>by
  have u:=(w.next (n:=n) hc hl).1
  have h2:∀v,v∈(r.next (stepP c l r.it r.g r.sh n)).ev->QR c id v:=λ v E=>by
   have:v∈r.ev++(stepP c l r.it r.g r.sh n).ev:=E;rw[List.mem_append]at this;rcases this with h|h
   ·exact h0 v h
   ·rw[<- hi];exact WR hc w.it.toItW v h
  have i2:(r.next (stepP c l r.it r.g r.sh n)).it.id=id:=by
   have:(r.next (stepP c l r.it r.g r.sh n)).it.id=r.it.id:=Jv;rw[this,hi]
  rw[Ac];split
  ·split
   ·split
    ·exact h2
    ·exact Ql hc hl f (n+1) _ u i2 h2
   ·exact h0
  ·exact h0
theorem NM {c:Code}{l:bG}{s:pC}{id:Int}(hc:ba c) (hl:bY c l) (hs:zf c l s) (hf:(s.gs.find? (Ec id)).isSome=true):(∀v,v∈iz c l s id->QR c id v/\bU v=true)/\(iz c l s id).length<=4000:=by
 grind [uE,iz,Ql,KG]
theorem Rk {k:Int}{k':Int}{v:D}:∀(ents:List (D×D)),(∀p∈ents,∃a,p.1=.int .i64 a)->mget (mset ents (.int .i64 k) v) (.int .i64 k')=if k'=k then some v else mget ents (.int .i64 k')
 | [],_=>by
  grind [mset,mget,keySame]
 | (a,b)::r,h=>by
  obtain⟨x,rfl⟩:=h (a,b) (by simp);have u:=Rk (k:=k) (k':=k') (v:=v) r λ p hp=>h p (by simp[hp])
  grind [mset,mget,keySame]
theorem UI {k:Int}{v:D}:∀(ents:List (D×D)),(∀p∈ents,∃a,p.1=.int .i64 a)->∀p,p∈mset ents (.int .i64 k) v->∃a,p.1=.int .i64 a
 | [],_,p,hp=>by
  grind [mset]
 | (a,b)::r,h,p,hp=>by
  obtain⟨x,hx⟩:=h (a,b) (by simp);simp only at hx;subst hx;simp only[mset,keySame,decide_eq_true_eq]at hp;split at hp
  ·grind
  ·simp only[List.mem_cons]at hp;rcases hp with rfl|hp
   ·exact⟨x,rfl⟩
   ·exact UI r (λ q hq=>h q (by simp[hq])) p hp
theorem JH {P:Program}{n:Nat}{k:Int}{z:D}{ok:Bool}{h:Heap}{ents:List (D×D)}(hm:h n=.map (.int .i64) ents){K:HKq} :
  ab P (.look (.int .i64) (.c (.mp n)) (.c (.int .i64 k)) z ok) h K=K (if ok then .tup [(mget ents (.int .i64 k)).getD z,.bool (mget ents (.int .i64 k)).isSome] else(mget ents (.int .i64 k)).getD z) h:=by
 have e:ab P (.look (.int .i64) (.c (.mp n)) (.c (.int .i64 k)) z ok) h K=((KeyT.int .i64).okB (.int .i64 k)=true/\match h n with
   | .map u ents=>u=.int .i64/\K (if ok then .tup [(mget ents (.int .i64 k)).getD z,.bool (mget ents (.int .i64 k)).isSome] else(mget ents (.int .i64 k)).getD z) h
   | _=>False):=rfl
 rw[e,hm];apply propext;exact⟨λ E=>E.2.2,λ hk=>⟨rfl,rfl,hk⟩⟩
theorem Rs {P:Program}{n:Nat}{k:Int}{v:D}{h:Heap}{ents:List (D×D)}(hm:h n=.map (.int .i64) ents) (hv:v.one=true){K:HKq} :
  ab P (.mupd (.int .i64) (.c (.mp n)) (.c (.int .i64 k)) (.c v)) h K=K .undef (ak h n (.map (.int .i64) (mset ents (.int .i64 k) v))):=by
 have e:ab P (.mupd (.int .i64) (.c (.mp n)) (.c (.int .i64 k)) (.c v)) h K=((KeyT.int .i64).okB (.int .i64 k)=true/\v.one=true/\match h n with
   | .map u ents=>u=.int .i64/\K .undef (ak h n (.map (.int .i64) (mset ents (.int .i64 k) v)))
   | _=>False):=rfl
 rw[e,hm];apply propext;exact⟨λ E=>E.2.2.2,λ hk=>⟨rfl,hv,rfl,hk⟩⟩
def kK (ids:List Int):List D:=ids.map (.int .i64)
theorem U3 {ids:List Int}:∀y,y∈kK ids->aD y/\y.cells.length=1:=λ y hy=>by
 obtain⟨z,-,rfl⟩:=List.mem_map.1 hy;exact⟨(bh).one,rfl⟩
theorem acg {ids:List Int}:∀x,x∈kK ids->∀y∈x.cells,y.vone=true:=λ x hx y hy=>by
 obtain⟨z,-,rfl⟩:=List.mem_map.1 hx;simp[D.cells]at hy;subst hy;rfl
structure MA (c:Code) (l:bG) (s:pC) (A:LSq) (ents:List (D×D)):Prop where
 keys:∀p∈ents,∃a,p.1=.int .i64 a
 el:∀(k:Int) (v:D),mget ents (.int .i64 k)=some v->NR 9 A v ((iz c l s k).map Ev.e)
theorem MA.mono {c:Code}{l:bG}{s:pC}{A A':LSq}{ents:List (D×D)}(hs:∀x∈A,x∈A') (m:MA c l s A ents):MA c l s A' ents:=⟨m.keys,λ k v h=>(m.el k v h).mono hs⟩
section
variable {c:Code}{l:bG}{s:pC}{w:fU}{md:D}{h:Heap}{L:LSq}{KH:HKq}{K:D->Prop}
theorem aa6 {z:D}{xs ys:List D}(V:Vs h L) (hK:∀n h',Vs h' ((n,.arr 1 [.sl xs,.sl ys])::L)->KH (.ms n 0 2) h'):ab PP (.bldS true 1 2 z [(0,.c (.sl xs)),(1,.c (.sl ys))]) h KH:=by
 refine⟨λ p hp=>?_,λ _ p hp=>?_,λ n t=>?_⟩
 ·simp[Arg.get]at hp;rcases hp with rfl|rfl<;>exact⟨by simp,rfl,by simp⟩
 ·simp[Arg.get]at hp;rcases hp with rfl|rfl
  ·intro x hx;simp only[D.cells,List.mem_singleton]at hx;subst hx;trivial
  ·intro x hx;simp only[D.cells,List.mem_singleton]at hx;subst hx;trivial
 have:=hK n _ (V.push t.free (s:=.arr 1 [.sl xs,.sl ys]) (by simp));grind [Arg.get,setEls,D.fz,D.fzc,D.nm,D.nR,Heap.freezeAll]
def wz:List D:=[.int .i64 0,.nil,.nil,.int .i64 0,.int .i64 0,.int .i64 0,.int .i64 0,.int .i64 0,.int .i64 0]
theorem SB {n6 n8 n14:Nat}{ids:List Int}{d10 d12:D}{B:LSq}{J16:HJq}{a3 a4:D}(hc:ba c) (hl:bY c l) (hs:zf c l s) (hf:∀id∈ids,(s.gs.find? (Ec id)).isSome=true) (hil:ids.length<=1000)
  (m6:(n6,Slot.box (.agg (gM c l)))∈B) (m8:(n8,Slot.box (.agg (lE s md)))∈B) (mB:EH B md s.made) {v:D}(q:QG 1 h ((n14,.map (.int .i64) [])::B) v (kK ids))
  (hJ:∀A ents h',MA c l s A ents->(∀id∈ids,(mget ents (.int .i64 id)).isSome=true)->Vs h' ((n14,.map (.int .i64) ents)::(A++B))->J16 [] h') :
  kh h (.int .i64 (ids.length:Int)) a3 a4 (.ptr n6 0 0) (.ptr n8 0 0) d10 d12 (.mp n14) v J16:=by
 dsimp only[kh,xI,xL]
 refine⟨λ b x h'=>∃(i:Nat) (A:LSq) (ents:List (D×D)),x=[.int .i64 (i:Int)]/\b+i=ids.length/\MA c l s A ents/\(∀id,id∈ids.take i->(mget ents (.int .i64 id)).isSome=true)/\QG 1 h' ((n14,.map (.int .i64) ents)::(A++B)) v (kK ids),ids.length,
  ⟨0,[],[],rfl,by omega,⟨λ p hp=>(by cases hp),λ k v hk=>(by cases hk)⟩,λ id G=>(by cases G),q⟩,?_⟩
 clear q;rintro b f h1 ⟨i,A,ents,hx,a5,ma,E,q⟩;simp only[av,and_true]at hx;simp only[hx];by_cases hi:i<ids.length
 case neg =>
  rw[HZ (by omega),ah];rw[List.take_of_length_le (by omega)]at E;simp only[ae,true_and];exact hJ A ents h1 ma E q.vs
 obtain⟨id,G⟩:∃id,ids[i]?=some id:=⟨_,aG hi⟩;have I:=aK G;rw[DY (by omega),ai];refine⟨λ _ h'=>∃(A:LSq) (ents:List (D×D)),MA c l s A ents/\(∀id,id∈ids.take (i+1)->(mget ents (.int .i64 id)).isSome=true)/\QG 1 h' ((n14,.map (.int .i64) ents)::(A++B)) v (kK ids),?_,?_⟩
 ·rintro _ h2 ⟨Q,H,S,U,q2⟩;simp (disch:=omega) only[↓cS,ae,true_and];exact⟨ids.length-(i+1),by omega,i+1,Q,H,by simp,by omega,S,U,q2⟩
 have rd:∀{KH:HKq},KH (.int .i64 id) h1->ab PP (.iadd (.c v) (.c (.int .i64 (i:Int))) 1) h1 λ a h2=>ab PP (.ld (.c a) 1 false) h2 KH:=by
  intro KH hk;have hg:(kK ids)[i]?=some (.int .i64 id):=by grind [kK]
  rcases q with⟨-,h0,-⟩|⟨m,rfl,V⟩
  ·rw[h0]at hg;cases hg
  ·rw[Tz (V.get 0 _ _ rfl) rfl (by omega) (by grind),aT,Nat.zero_add,UX (V.get 0 _ _ rfl) hg rfl];exact hk
 refine rd ?_;clear rd;have W:=q.vs.get 0 _ _ rfl;rw[JH W];simp only[if_true,↓h_ext,List.getElem?_cons_zero,List.getElem?_cons_succ];have a1:ids.take (i+1)=ids.take i++[id]:=by rw[List.take_add_one,G];rfl
 cases a2:(mget ents (.int .i64 id)).isSome
 ·simp only[↓gS];obtain⟨X,V,lift⟩:=q.vsL;have e6:∀{KH:HKq},ab PP (.ld (.c (.ptr n6 0 0)) 10 true) h1 KH=KH (.agg (gM c l)) h1:=ml (cs:=gM c l) (V.mem (by simp[m6])) (by show 0+10<=10;omega) rfl;have e8:∀{KH:HKq},ab PP (.ld (.c (.ptr n8 0 0)) 3 true) h1 KH=KH (.agg (lE s md)) h1:=ml (cs:=lE s md) (V.mem (by simp[m8])) (by show 0+3<=3;omega) rfl;rw[e6,e8];refine QL hc hl hs V (mB.mono λ x hx=>by simp[hx]) (hf id I) λ u Q h3 V3 r=>?_
  have V4:Vs h3 (X++(n14,.map (.int .i64) ents)::((Q++A)++B)):=by
   refine V3.perm ?_;refine(List.perm_append_comm_assoc Q X _).trans (List.Perm.append_left X ?_);rw[List.append_assoc];exact List.perm_middle
  have q4:=lift h3 _ V4;have O:=q4.vs.get 0 _ _ rfl;rw[Rs O r.one];have Z:=q4.aM 0 rfl (s':=.map (.int .i64) (mset ents (.int .i64 id) u)) (by simp);simp only[List.set_cons_zero]at Z;simp only[ae,true_and];refine⟨Q++A,mset ents (.int .i64 id) u,⟨UI ents ma.keys,λ k v' hk=>?_⟩,λ k hk=>?_,Z⟩
  ·rw[Rk ents ma.keys]at hk;split at hk
   ·rename_i he;cases hk;subst he;exact r.mono λ x hx=>by simp[hx]
   ·exact(ma.el k v' hk).mono λ x hx=>by simp[hx]
  ·rw[Rk ents ma.keys];grind
 ·simp only[↓gS,ae,true_and];grind
end
end Go.Am
namespace Go.Am
open Go
section
variable {α β:Type}{f:α->Option β}{l:List α}{i:Nat}{x:α}{y:β}
theorem MC (h0:(l.take i).findSome? f=none) (hx:l[i]?=some x) (hy:f x=some y):l.findSome? f=some y:=by
 grind [List.take_append_drop,List.drop_eq_getElem_cons]
theorem KO (h0:(l.take i).findSome? f=none) (hx:l[i]?=some x) (hy:f x=none):(l.take (i+1)).findSome? f=none:=by
 grind [List.take_add_one]
theorem TD {l:List α}(hx:l[i]?=some x):l.zipIdx[i]?=some (x,i):=by
 grind
end
section
variable {c:Code}{l:bG}{s:pC}{w:fU}{md:D}{h:Heap}{L:LSq}{KH:HKq}{K:D->Prop}
theorem Vs.stP (V:Vs h L) (i:Nat){n j s:Nat}{cs new cs':List D}(hi:L[i]?=some (n,.box (.agg cs))) (hl:new.length=s) (hj:j+s<=cs.length) (ho:∀x∈new,x.one=true) (he:cs.take j++new++cs.drop (j+new.length)=cs')
  (hK:∀h',Vs h' (L.set i (n,.box (.agg cs')))->KH .undef h'):ab PP (.st (.c (.ptr n 0 j)) (.c (.agg new)) s) h KH:=by
 rw[fG,V.get i _ _ hi];refine⟨hl,ho,rfl,hj,?_⟩
 have u:setCells (.agg cs) j (D.agg new).cells=.agg cs':=by
  show D.agg (cs.take j++new++cs.drop (j+new.length))=_
  rw[he]
 rw[u];exact hK _ (V.aM i hi (by simp))
def fU.put (w:fU) (a b n0 n1 ar ix:Int):fU:={ w with i0:=a,i1:=b,n0:=n0,n1:=n1,ar:=ar,ix:=ix }
theorem YT {k:Nat}(hk:k<c.arrays.length):∃r,c.arrays[k]?=some r/\LZ c (k:Int)=r.space:=by
 refine⟨c.arrays[k],aG hk,?_⟩;grind [LZ]
theorem Uv {n6 n8 n10 n12 np:Nat}{C:LSq}{a b:Int}{n:Nat}{p:Ev}{qs:List Ev}{v2:D}{J64:HJq}{a3 a4 a14 a27 a41 a56 a58:D}{f30 f44 f61:Nat->D}(hc:ba c) (hl:bY c l) (hs:zf c l s)
  (jc:(s.gs.find? (Ec a)).isSome=true) (hfb:(s.gs.find? (Ec b)).isSome=true) (m6:(n6,Slot.box (.agg (gM c l)))∈C) (m8:(n8,Slot.box (.agg (lE s md)))∈C) (mp:(np,Slot.box (.agg p.cs))∈C) (mC:EH C md s.made) (hn:n<=100000) (h71:f61 71=.int .i64 (n:Int))
  (hpa:∃k:Nat,p.arr=(k:Int)/\k<c.arrays.length) (hql:qs.length<=100000) (r2:NR 9 C v2 (qs.map Ev.e))
  (hJ:(qs.zipIdx.findSome? λ q=>yp c l s w a b n q.2 p q.1)=none->∀(h':Heap) (w':fU),w'.l=w.l->w'.g=w.g->Vs h' ((n10,.box (.agg w'.cs))::(n12,.box (.agg wz))::C)->J64 [] h')
  (hK:∀w2,(qs.zipIdx.findSome? λ q=>yp c l s w a b n q.2 p q.1)=some w2->∀h',Vs h' C->KH (.tup [.agg w2.cs,.bool true]) h')
  {w0:fU}(hw0:w0.l=w.l/\w0.g=w.g) (V:Vs h ((n10,.box (.agg w0.cs))::(n12,.box (.agg wz))::C)) :
  km h (.int .i64 (qs.length:Int)) a4 (.ptr n6 0 0) (.ptr n8 0 0) (.ptr n10 0 0) (.ptr n12 0 0) a14 (.int .i64 a) (.int .i64 b) f61 (.ptr np 0 0) a3 a27 f30 a41 f44 a56 a58 v2 J64 KH:=by
 dsimp only[km,xF,xI,xL,xP,xS,yF,yL];simp only[h71]
 refine⟨λ bb x h'=>∃(i:Nat) (w':fU),x=[.int .i64 (i:Int)]/\bb+i=qs.length/\((qs.zipIdx.take i).findSome? λ q=>yp c l s w a b n q.2 p q.1)=none/\w'.l=w.l/\w'.g=w.g/\Vs h' ((n10,.box (.agg w'.cs))::(n12,.box (.agg wz))::C),qs.length,
  ⟨0,w0,rfl,by omega,rfl,hw0.1,hw0.2,V⟩,?_⟩
 clear V hw0;rintro bb f h1 ⟨i,w',hx,j2,c5,c3,c4,V⟩;simp only[av,and_true]at hx;simp only[hx];have h5:qs.zipIdx.length=qs.length:=List.length_zipIdx;by_cases hi:i<qs.length
 case neg =>
  rw[HZ (by omega),ah];grind [List.take_of_length_le,ae]
 obtain⟨q,hq⟩:∃q,qs[i]?=some q:=⟨_,aG hi⟩;have hz:=TD hq;rw[DY (by omega),ai];refine⟨λ _ h'=>yp c l s w a b n i p q=none/\∃w':fU,w'.l=w.l/\w'.g=w.g/\Vs h' ((n10,.box (.agg w'.cs))::(n12,.box (.agg wz))::C),?_,?_⟩
 ·rintro _ h2 ⟨ht,w2,q1,q2,V2⟩;simp (disch:=omega) only[↓cS,ae,true_and];exact⟨qs.length-(i+1),by omega,i+1,w2,by simp,by omega,KO c5 hz ht,q1,q2,V2⟩
 have g9:∀{x:Nat×Slot}{X:LSq},x∈C->x∈X++C:=λ hx=>List.mem_append_right _ hx
 refine NR.ld V (r2.mono λ x hx=>by simp[hx]) (NU hq) rfl ?_;refine V.alloc λ a7 j3 g3=>?_
 refine g3.eU 0 rfl rfl (cs':=q.cs) rfl q.bR.one λ u G=>?_
 simp only[List.set_cons_zero]at G;have O:u np=.box (.agg p.cs):=G.mem (by simp[mp]);have gq:u a7=.box (.agg q.cs):=G.get 0 _ _ rfl;have g8:u n8=.box (.agg (lE s md)):=G.mem (by simp[m8]);have g6:u n6=.box (.agg (gM c l)):=G.mem (by simp[m6]);have skip:yp c l s w a b n i p q=none->∃w':fU,w'.l=w.l/\w'.g=w.g/\Vs u ((n10,.box (.agg w'.cs))::(n12,.box (.agg wz))::C):=λ _=>⟨w',c3,c4,G.pop⟩
 simp only[↓kn O,↓cT O (j:=6) rfl,↓kn gq,↓cT gq (j:=6) rfl];by_cases c1:p.arr=q.arr
 case neg =>
  have ht:yp c l s w a b n i p q=none:=by grind [yp]
  simp (disch:=omega) only[↓cS,↓gS,ae,true_and];exact⟨ht,skip ht⟩
 simp (disch:=omega) only[↓cS,↓gS,↓kn O,↓cT O (j:=7) rfl,↓kn gq,↓cT gq (j:=7) rfl];by_cases c2:p.i=q.i
 case neg =>
  have ht:yp c l s w a b n i p q=none:=by grind [yp]
  simp (disch:=omega) only[↓cS,↓gS,ae,true_and];exact⟨ht,skip ht⟩
 simp (disch:=omega) only[↓cS,↓gS,↓kn g8,↓cT g8 (j:=1) rfl];rw[gd,aE];obtain⟨kp,e7,e9⟩:=hpa;obtain⟨r,hr,h6⟩:=YT e9
 have a6:s.gs.length=2->r.space≠1->yp c l s w a b n i p q=none:=λ g1 g2=>by
  grind [yp]
 have eS:∀{KH:HKq},ab PP (.ld (.c (.vp r.e 1)) 1 false) u KH=KH (.int .i64 r.space) u:=λ {KH}=>L8 rfl
 have eV:∀{KH:HKq},ab PP (.fadd (.c (.vp r.e 0)) 1) u KH=KH (.vp r.e 1) u:=λ {KH}=>fav
 have eA:∀{KH:HKq},ab PP (.iadd (.c (.sl (c.arrays.map fv.e))) (.c (.int .i64 p.arr)) 4) u KH=KH (.vp r.e 0) u:=λ {KH}=>by rw[e7,JL hr]
 have j4:=O
 have go:¬(s.gs.length=2/\r.space≠1)->yp c l s w a b n i p q=if(worksP c l s (w.put a b (s.made a+(n:Int)) (s.made b+(i:Int)) p.arr p.i)).isSome then some (w.put a b (s.made a+(n:Int)) (s.made b+(i:Int)) p.arr p.i) else none:=λ h8=>by
  unfold yp;rw[if_neg (by grind)];rfl
 by_cases S:s.gs.length=2/\r.space≠1
 ·have ht:=a6 S.1 S.2;have j1:(s.gs.length:Int)=2:=by rw[S.1];rfl
  have h7:=S.2;simp (disch:=omega) only[↓cS,↓gS,↓kn g6,↓cT g6 (j:=5) rfl,↓kn O,↓cT O (j:=6) rfl,eA,eV,eS,ae,true_and];exact⟨ht,skip ht⟩
 have go:=go S
 rcases (show s.gs.length≠2\/(s.gs.length=2/\r.space=1) by
  grind) with hA|⟨hA,hB⟩
 simp (disch:=omega) only[↓cS,↓gS]
 rotate_left
 simp (disch:=omega) only[↓cS,↓gS,↓kn g6,↓cT g6 (j:=5) rfl,↓kn O,↓cT O (j:=6) rfl,eA,eV,eS]
 all_goals
  have g0:u n10=.box (.agg w'.cs):=G.get 1 _ _ rfl;rw[lS rfl];have mV:∀{h':Heap}{X:LSq}{k:Int}{K:D->Prop},Vs h' (X++C)->an PP (.look (.int .i64) (.c md) (.c (.int .i64 k)) (.int .i64 0) false) h' K=K (.int .i64 (s.made k)):=λ V'=>(mC.mono λ x hx=>List.mem_append_right _ hx).Zb V'
  have j0:=hs.made a;have h9:=hs.made b;have m1:∀{k:Int}{K:D->Prop},an PP (.look (.int .i64) (.c md) (.c (.int .i64 k)) (.int .i64 0) false) u K=K (.int .i64 (s.made k)):=mV (X:=[_,_,_]) G;simp only[↓et g8,↓aX g8 (j:=2) rfl,↓m1];simp (disch:=omega) only[↓cS];rw[lS rfl];simp only[↓et O,↓aX O (j:=6) rfl,↓aX O (j:=7) rfl,↓et g0]
  have kq:∀{h':Heap}{d0:Slot}{wc:List D},Vs h' ((a7,d0)::(n10,.box (.agg wc))::(n12,.box (.agg wz))::C) ->
    ((∀{K:D->Prop},an PP (.ld (.c (.ptr n8 0 2)) 1 false) h' K=K md)/\(∀{k:Int}{K:D->Prop},an PP (.look (.int .i64) (.c md) (.c (.int .i64 k)) (.int .i64 0) false) h' K=K (.int .i64 (s.made k))) /\
    (∀{K:D->Prop},an PP (.ld (.c (.ptr np 0 6)) 1 false) h' K=K (.int .i64 p.arr))/\(∀{K:D->Prop},an PP (.ld (.c (.ptr np 0 7)) 1 false) h' K=K (.int .i64 p.i))):=λ V' =>
   ⟨λ {K}=>aX (V'.mem (show(n8,Slot.box (.agg (lE s md)))∈_ by simp[m8])) rfl,λ {k K}=>mV (X:=[_,_,_]) V',λ {K}=>aX (V'.mem (show(np,Slot.box (.agg p.cs))∈_ by simp[mp])) rfl,λ {K}=>aX (V'.mem (show(np,Slot.box (.agg p.cs))∈_ by simp[mp])) rfl⟩
  refine G.stP 1 (new:=[.int .i64 a,.int .i64 b]) rfl rfl (by show 3+2<=9;omega) (λ x hx=>by simp at hx;rcases hx with rfl|rfl<;>rfl) rfl λ g7 a5=>?_
  simp only[List.set_cons_succ,List.set_cons_zero]at a5;obtain⟨k1,k2,k3,k4⟩:=kq a5;refine⟨by grind [ae],?_⟩;refine a5.stP 1 (new:=[.int .i64 (s.made a+(n:Int)),.int .i64 (s.made b+(i:Int))]) rfl rfl (by show 5+2<=9;omega) (λ x hx=>by simp at hx;rcases hx with rfl|rfl<;>rfl) rfl λ g5 a2=>?_
  simp only[List.set_cons_succ,List.set_cons_zero]at a2;obtain⟨k1,k2,k3,k4⟩:=kq a2;refine⟨by grind [ae],?_⟩;refine a2.DO 1 (j:=7) rfl (by show 7<9;omega) rfl λ g4 a1=>?_
  simp only[List.set_cons_succ,List.set_cons_zero]at a1;obtain⟨k1,k2,k3,k4⟩:=kq a1;refine⟨by grind [ae],?_⟩;refine a1.DO 1 (j:=8) rfl (by show 8<9;omega) rfl λ H E=>?_
  simp only[List.set_cons_succ,List.set_cons_zero]at E;obtain⟨k1,k2,k3,k4⟩:=kq E;refine⟨by grind [ae],?_⟩;obtain⟨w2,Q⟩:∃w2,w2=w.put a b (s.made a+(n:Int)) (s.made b+(i:Int)) p.arr p.i:=⟨_,rfl⟩
  have E:Vs H ((a7,.box (.agg q.cs))::(n10,.box (.agg w2.cs))::(n12,.box (.agg wz))::C):=by
   have e:w2.cs=[.int .i64 w'.l.groups,words w'.l.args,aZ w'.g,.int .i64 a,.int .i64 b,.int .i64 (s.made a+(n:Int)),.int .i64 (s.made b+(i:Int)),.int .i64 p.arr,.int .i64 p.i]:=by
    rw[Q,c3,c4];rfl
   rw[e];exact E
  rw[<- Q]at go;have e6:∀{KH:HKq},ab PP (.ld (.c (.ptr n6 0 0)) 10 true) H KH=KH (.agg (gM c l)) H:=ml (cs:=gM c l) (E.mem (by simp[m6])) (by show 0+10<=10;omega) rfl;have e8:∀{KH:HKq},ab PP (.ld (.c (.ptr n8 0 0)) 3 true) H KH=KH (.agg (lE s md)) H:=ml (cs:=lE s md) (E.mem (by simp[m8])) (by show 0+3<=3;omega) rfl;rw[e6,e8,E.eR 1 (s:=9) rfl rfl]
  refine NN hc hl hs E (mC.mono λ x hx=>by simp[hx]) (λ bo=>by
   rw[Q];cases bo
   ·exact jc
   ·exact hfb) (λ e5 c9 Z=>?_) λ e0 e1 e4 v0 v1 A0 A1 c9 b0 b1 Z=>?_
  ·simp only[↓h_ext,List.getElem?_cons_zero,List.getElem?_cons_succ];refine Z.alloc λ a8 c8 W=>?_
   refine W.eU 0 rfl rfl (cs':=[.nil,.nil]) rfl (λ x hx=>by simp at hx;rcases hx with rfl|rfl<;>rfl) λ c7 I=>?_
   simp only[List.set_cons_zero]at I;simp only[↓gS,ae,true_and];rw[e5]at go;exact⟨go,w2,by rw[Q];rfl,by rw[Q];rfl,I.pop.pop⟩
  ·simp only[↓h_ext,List.getElem?_cons_zero,List.getElem?_cons_succ];refine Z.alloc λ a8 c8 W=>?_
   refine W.eU 0 rfl rfl (cs':=[v0,v1]) rfl (λ x hx=>by simp at hx;rcases hx with rfl|rfl;exact b0.one;exact b1.one) λ c7 I=>?_
   simp only[List.set_cons_zero]at I;simp only[↓gS];have V9:=I.pop.iw.iw.pop;rw[V9.eR 0 (s:=9) rfl rfl];refine V9.eU 1 rfl rfl (cs':=w2.cs) rfl w2.bR.one λ c6 U=>?_
   simp only[List.set_cons_succ,List.set_cons_zero]at U;rw[U.eR 1 (s:=9) rfl rfl];rw[e4]at go;exact hK w2 (MC c5 hz go) c6 U.pop.pop
end
end Go.Am
namespace Go.Am
open Go
section
variable {c:Code}{l:bG}{s:pC}{w:fU}{md:D}{h:Heap}{L:LSq}{KH:HKq}{K:D->Prop}
def Ns (c:Code) (l:bG) (s:pC) (w:fU) (a b:Int):Option fU:=(iz c l s a).zipIdx.findSome? λ p=>(iz c l s b).zipIdx.findSome? λ q=>yp c l s w a b p.2 q.2 p.1 q.1
structure PrC (c:Code) (l:bG) (s:pC) (md:D) (n6 n8 n14:Nat) (ents:List (D×D)) (C:LSq):Prop where
 m6:(n6,Slot.box (.agg (gM c l)))∈C
 m8:(n8,Slot.box (.agg (lE s md)))∈C
 m14:(n14,Slot.map (.int .i64) ents)∈C
 ma:MA c l s C ents
 mC:EH C md s.made
theorem PrC.mono {n6 n8 n14:Nat}{ents:List (D×D)}{C C':LSq}(hs:∀x∈C,x∈C') (x:PrC c l s md n6 n8 n14 ents C):PrC c l s md n6 n8 n14 ents C' :=
 ⟨hs _ x.m6,hs _ x.m8,hs _ x.m14,x.ma.mono hs,x.mC.mono hs⟩
theorem Uu {n6 n8 n10 n12 n14:Nat}{ents:List (D×D)}{C:LSq}{a b:Int}{v1:D}{J47:HJq}{a3 a4 a27 a41:D}{f30 f44:Nat->D}(hc:ba c) (hl:bY c l) (hs:zf c l s)
  (jc:(s.gs.find? (Ec a)).isSome=true) (hfb:(s.gs.find? (Ec b)).isSome=true) (pc:PrC c l s md n6 n8 n14 ents C) (hb:(mget ents (.int .i64 b)).isSome=true) (r1:NR 9 C v1 ((iz c l s a).map Ev.e))
  (hJ:Ns c l s w a b=none->∀(h':Heap) (w':fU),w'.l=w.l->w'.g=w.g->Vs h' ((n10,.box (.agg w'.cs))::(n12,.box (.agg wz))::C)->J47 [] h')
  (hK:∀w2,Ns c l s w a b=some w2->∀h',Vs h' C->KH (.tup [.agg w2.cs,.bool true]) h')
  {w0:fU}(hw0:w0.l=w.l/\w0.g=w.g) (V:Vs h ((n10,.box (.agg w0.cs))::(n12,.box (.agg wz))::C)) :
  kj h (.int .i64 ((iz c l s a).length:Int)) a4 (.ptr n6 0 0) (.ptr n8 0 0) (.ptr n10 0 0) (.ptr n12 0 0) (.mp n14) (.int .i64 a) (.int .i64 b) a3 a27 f30 a41 f44 v1 J47 KH:=by
 obtain⟨a2,lA⟩:=NM hc hl hs jc;obtain⟨okB,lB⟩:=NM hc hl hs hfb;dsimp only[kj,xI,xL,xS]
 refine⟨λ bb x h'=>∃(i:Nat) (w':fU),x=[.int .i64 (i:Int)]/\bb+i=(iz c l s a).length/\(((iz c l s a).zipIdx.take i).findSome? λ p=>(iz c l s b).zipIdx.findSome? λ q=>yp c l s w a b p.2 q.2 p.1 q.1)=none/\w'.l=w.l/\w'.g=w.g/\Vs h' ((n10,.box (.agg w'.cs))::(n12,.box (.agg wz))::C),(iz c l s a).length,
  ⟨0,w0,rfl,by omega,rfl,hw0.1,hw0.2,V⟩,?_⟩
 clear V hw0;rintro bb f h1 ⟨i,w',hx,c2,u,I,O,V⟩;simp only[av,and_true]at hx;have c1:(iz c l s a).zipIdx.length=(iz c l s a).length:=List.length_zipIdx;simp only[hx];by_cases hi:i<(iz c l s a).length
 case neg =>
  rw[HZ (by omega),ah];rw[List.take_of_length_le (by omega)]at u;simp only[ae,true_and];exact hJ u h1 w' I O V
 obtain⟨p,hp⟩:∃p,(iz c l s a)[i]?=some p:=⟨_,aG hi⟩;have hz:=TD hp;obtain⟨a1,S⟩:=a2 p (aK hp);rw[DY (by omega),ai];refine⟨λ _ h'=>((iz c l s b).zipIdx.findSome? λ q=>yp c l s w a b i q.2 p q.1)=none/\∃w':fU,w'.l=w.l/\w'.g=w.g/\Vs h' ((n10,.box (.agg w'.cs))::(n12,.box (.agg wz))::C),?_,?_⟩
 ·rintro _ h2 ⟨ht,w2,Z,W,U⟩;simp (disch:=omega) only[↓cS,ae,true_and];exact⟨(iz c l s a).length-(i+1),by omega,i+1,w2,by simp,by omega,KO u hz ht,Z,W,U⟩
 refine NR.ld V (r1.mono λ x hx=>by simp[hx]) (NU hp) rfl ?_;refine V.alloc λ H c3 a8=>?_
 refine a8.eU 0 rfl rfl (cs':=p.cs) rfl p.bR.one λ a6 E=>?_
 simp only[List.set_cons_zero]at E;rw[JH (E.mem (show(n14,Slot.map (.int .i64) ents)∈_ by simp[pc.m14]))];obtain⟨v2,Q⟩:=Option.isSome_iff_exists.1 hb;rw[Q];simp only[dj,if_false,Option.getD_some];have r2:=pc.ma.el b v2 Q;rw[NR.len E (r2.mono λ x hx=>by simp[hx]),aE];have G:PrC c l s md n6 n8 n14 ents ((H,.box (.agg p.cs))::C):=pc.mono λ x hx=>List.mem_cons_of_mem _ hx
 have a7:Vs a6 ((n10,.box (.agg w'.cs))::(n12,.box (.agg wz))::(H,.box (.agg p.cs))::C):=E.perm ((List.Perm.swap _ _ _).trans (.cons _ (List.Perm.swap _ _ _)));refine Uv (w:=w) (p:=p) (qs:=iz c l s b) (n:=i) hc hl hs jc hfb G.m6 G.m8 List.mem_cons_self G.mC (by omega) hx (a1.arr S) (by omega) (r2.mono λ x hx=>List.mem_cons_of_mem _ hx) (λ ht h' w2 Z W U=>?_) (λ w2 a5 h' U=>?_) (w0:=w') ⟨I,O⟩ a7
 ·exact⟨ht,w2,Z,W,U.sub (((List.sublist_cons_self _ _).cons_cons _).cons_cons _)⟩
 ·exact hK w2 (MC u hz a5) h' U.pop
theorem Ut {n6 n8 n10 n12 n14:Nat}{ents:List (D×D)}{C:LSq}{a:Int}{two:List Int}{J33:HJq}{a3 a27:D}{f30:Nat->D}(hc:ba c) (hl:bY c l) (hs:zf c l s)
  (jc:(s.gs.find? (Ec a)).isSome=true) (hfb:∀b∈two,(s.gs.find? (Ec b)).isSome=true) (pc:PrC c l s md n6 n8 n14 ents C) (ha:(mget ents (.int .i64 a)).isSome=true) (hb:∀b∈two,(mget ents (.int .i64 b)).isSome=true) (htl:two.length<=1000)
  (hJ:(two.findSome? λ b=>if b<=a then none else Ns c l s w a b)=none->∀(h':Heap) (w':fU),w'.l=w.l->w'.g=w.g->Vs h' ((n10,.box (.agg w'.cs))::(n12,.box (.agg wz))::C)->J33 [] h')
  (hK:∀w2,(two.findSome? λ b=>if b<=a then none else Ns c l s w a b)=some w2->∀h',Vs h' C->KH (.tup [.agg w2.cs,.bool true]) h')
  {w0:fU}(hw0:w0.l=w.l/\w0.g=w.g) (V:Vs h ((n10,.box (.agg w0.cs))::(n12,.box (.agg wz))::C)) :
  ki h (.int .i64 (two.length:Int)) (.sl (kK two)) (.ptr n6 0 0) (.ptr n8 0 0) (.ptr n10 0 0) (.ptr n12 0 0) (.mp n14) (.int .i64 a) a3 a27 f30 J33 KH:=by
 dsimp only[ki,xI,xL]
 refine⟨λ bb x h'=>∃(i:Nat) (w':fU),x=[.int .i64 (i:Int)]/\bb+i=two.length/\((two.take i).findSome? λ b=>if b<=a then none else Ns c l s w a b)=none/\w'.l=w.l/\w'.g=w.g/\Vs h' ((n10,.box (.agg w'.cs))::(n12,.box (.agg wz))::C),two.length,
  ⟨0,w0,rfl,by omega,rfl,hw0.1,hw0.2,V⟩,?_⟩
 clear V hw0;rintro bb f h1 ⟨i,w',hx,a2,O,H,I,V⟩;simp only[av,and_true]at hx;simp only[hx];by_cases hi:i<two.length
 case neg =>
  grind [HZ,ah,List.take_of_length_le,ae]
 obtain⟨b,E⟩:∃b,two[i]?=some b:=⟨_,aG hi⟩;have G:=aK E;rw[DY (by omega),ai];refine⟨λ _ h'=>(if b<=a then none else Ns c l s w a b)=none/\∃w':fU,w'.l=w.l/\w'.g=w.g/\Vs h' ((n10,.box (.agg w'.cs))::(n12,.box (.agg wz))::C),?_,?_⟩
 ·rintro _ h2 ⟨ht,w2,Z,W,S⟩;simp (disch:=omega) only[↓cS,ae,true_and];exact⟨two.length-(i+1),by omega,i+1,w2,by simp,by omega,KO O E ht,Z,W,S⟩
 rw[yA (esz:=1) (d:=.int .i64 b) (by omega) (by grind [Int.toNat_natCast,kK]) rfl,Qa];by_cases Q:b<=a
 ·simp (disch:=omega) only[↓cS,↓ai,ae,true_and];grind
 simp (disch:=omega) only[↓cS,↓ah];rw[if_neg Q];rw[JH (V.mem (show(n14,Slot.map (.int .i64) ents)∈_ by simp[pc.m14]))];obtain⟨v1,u⟩:=Option.isSome_iff_exists.1 ha;rw[u];simp only[dj,if_false,Option.getD_some];have U:=pc.ma.el a v1 u;rw[NR.len V (U.mono λ x hx=>by simp[hx]),aE];refine Uu (w:=w) hc hl hs jc (hfb b G) pc (hb b G) U (λ ht h' w2 Z W S=>?_) (λ w2 a1 h' S=>?_) (w0:=w') ⟨H,I⟩ V
 ·grind
 grind [MC]
theorem RX {one two:List Int}(hc:ba c) (hl:bY c l) (hs:zf c l s) (V:Vs h L) (m:EH L md s.made) (hf:∀id,id∈one++two->(s.gs.find? (Ec id)).isSome=true) (hn:one.length<=100/\two.length<=100)
  (hN:jQ c l s w one two=none->∀h',Vs h' L->KH (.tup [.agg wz,.bool false]) h')
  (hS:∀w2,jQ c l s w one two=some w2->∀h',Vs h' L->KH (.tup [.agg w2.cs,.bool true]) h') :
  ag PP gj [.agg (gM c l),.agg (lE s md),.agg w.cs,.sl (kK one),.sl (kK two)] h KH:=by
 refine aI BD (aC _ _ _) rfl (AN _ _ _ _ _ _) ?_;dsimp only[sR,xB,xL,xS];refine V.box lh λ n6 h7 V7=>?_
 refine V7.box (su m) λ n8 h9 V9=>?_
 refine V9.box w.bR.one λ E e4 c3=>?_
 refine c3.alloc λ u W c2=>?_
 show ∀n,pB W n->_
 intro n14 t14;have a2:=c2.push t14.free (s:=.map (.int .i64) []) (by simp);have c7:jQ c l s w one two=one.findSome? λ a=>two.findSome? λ b=>if b<=a then none else Ns c l s w a b:=rfl
 generalize ak W n14 (Slot.map (.int .i64) [])=e1 at a2;refine⟨λ _ h'=>∃A ents,MA c l s A ents/\(∀id,id∈one++two->(mget ents (.int .i64 id)).isSome=true)/\Vs h' ((E,.box (.agg w.cs))::(u,.box (.agg wz))::(n14,.map (.int .i64) ents)::(A++(n8,.box (.agg (lE s md)))::(n6,.box (.agg (gM c l)))::L)),?_,?_⟩
 ·rintro _ e0 ⟨A,ents,ma,G,O⟩;obtain⟨C,hC⟩:∃C,C=(n14,Slot.map (.int .i64) ents)::(A++(n8,.box (.agg (lE s md)))::(n6,.box (.agg (gM c l)))::L):=⟨_,rfl⟩
  have pc:PrC c l s md n6 n8 n14 ents C:=by
   rw[hC];exact⟨by simp,by simp,by simp,ma.mono λ x hx=>by simp[hx],m.mono λ x hx=>by simp[hx]⟩
  have U:L.Sublist C:=by grind
  rw[<- hC]at O;refine⟨λ _ h'=>jQ c l s w one two=none/\∃w':fU,Vs h' ((E,.box (.agg w'.cs))::(u,.box (.agg wz))::C),?_,?_⟩
  ·rintro _ c9 ⟨H,w',c1⟩;rw[aa3];refine c1.eU 1 rfl rfl (cs':=wz) rfl (λ x hx=>by simp[wz]at hx;rcases hx with rfl|rfl|rfl<;>rfl) λ a8 I=>?_
   simp only[List.set_cons_succ,List.set_cons_zero]at I;rw[I.eR 1 (s:=9) rfl rfl];exact hN H a8 (I.pop.pop.sub U)
  rw[gd,show(kK one).length=one.length by unfold kK;rw[aE]];dsimp only[oz,xI,xL]
  refine⟨λ bb x h'=>∃(i:Nat) (w':fU),x=[.int .i64 (i:Int)]/\bb+i=one.length/\((one.take i).findSome? λ a=>two.findSome? λ b=>if b<=a then none else Ns c l s w a b)=none/\w'.l=w.l/\w'.g=w.g/\Vs h' ((E,.box (.agg w'.cs))::(u,.box (.agg wz))::C),one.length,
   ⟨0,w,rfl,by omega,rfl,rfl,rfl,O⟩,?_⟩
  clear O;rintro bb f h1 ⟨i,w',hx,c8,H,a5,a6,V1⟩;simp only[av,and_true]at hx;simp only[hx];by_cases hi:i<one.length
  case neg =>
   grind [HZ,ah,List.take_of_length_le,ae]
  obtain⟨a,Q⟩:∃a,one[i]?=some a:=⟨_,aG hi⟩;have S:=aK Q;rw[DY (by omega),ai];refine⟨λ _ h'=>(two.findSome? λ b=>if b<=a then none else Ns c l s w a b)=none/\∃w':fU,w'.l=w.l/\w'.g=w.g/\Vs h' ((E,.box (.agg w'.cs))::(u,.box (.agg wz))::C),?_,?_⟩
  ·rintro _ h2 ⟨ht,w2,q1,q2,V2⟩;simp (disch:=omega) only[↓cS,ae,true_and];exact⟨one.length-(i+1),by omega,i+1,w2,by simp,by omega,KO H Q ht,q1,q2,V2⟩
  rw[yA (esz:=1) (d:=.int .i64 a) (by omega) (by grind [Int.toNat_natCast,kK]) rfl,Qa,gd,show(kK two).length=two.length by unfold kK;rw[aE]];refine Ut (w:=w) hc hl hs (hf a (by simp[S])) (λ b hb=>hf b (by simp[hb])) pc (G a (by simp[S])) (λ b hb=>G b (by simp[hb])) (by omega) (λ ht h' w2 q1 q2 V2=>?_) (λ w2 c6 h' V2=>?_) (w0:=w') ⟨a5,a6⟩ V1
  ·grind
  ·exact hS w2 (by grind [MC]) h' (V2.sub U)
 refine aa6 a2 λ n c5 a1=>?_
 have a7:(kK one).length+(kK two).length<=1000000:=by grind [kK]
 refine Tp a1 List.mem_cons_self a7 U3 U3 λ v c4 q=>?_
 have Z:kK one++kK two=kK (one++two):=by unfold kK;rw[List.map_append]
 rw[Z]at q;rw[q.len,show(kK (one++two)).length=(one++two).length by unfold kK;rw[aE]];refine SB (ids:=one++two) (B:=(E,.box (.agg w.cs))::(u,.box (.agg wz))::(n8,.box (.agg (lE s md)))::(n6,.box (.agg (gM c l)))::L) hc hl hs hf (by grind) (by simp) (by simp) (m.mono λ x hx=>by simp[hx]) ?_ λ A ents h' ma G V'=>?_
 ·refine q.pop.perm (.cons _ ?_);exact(List.Perm.swap _ _ _)
 ·refine⟨A,ents,ma,G,V'.perm ?_⟩
  have p1:(A++(E,Slot.box (.agg w.cs))::(u,.box (.agg wz))::(n8,.box (.agg (lE s md)))::(n6,.box (.agg (gM c l)))::L).Perm ((E,Slot.box (.agg w.cs))::(u,.box (.agg wz))::(A++(n8,.box (.agg (lE s md)))::(n6,.box (.agg (gM c l)))::L)) :=
   List.perm_middle.trans (.cons _ List.perm_middle)
  exact((p1.cons _).trans (List.Perm.swap _ _ _)).trans (.cons _ (List.Perm.swap _ _ _))
end
end Go.Am
namespace Go.Am
open Go
theorem Cc {c:Code}{l:bG}{k:Int}(hc:ba c) (hl:bY c l) (hk:0<=k/\k<l.groups):PE c l (cw c k)/\(cw c k).id=k:=by
 have hg:=hc.group;obtain⟨G,u⟩:∃G:Nat,c.group=(G:Int):=⟨c.group.toNat,by omega⟩;refine⟨⟨by simp[cw,u],λ i y hy=>?_,Jr 2⟩,rfl⟩
 have hi:i<G:=by
  grind [cw]
 have e:y=cC c (k*c.group+(i:Int)) 0 1:=by
  grind [cw]
 have H:0<=k*(G:Int):=Int.mul_nonneg hk.1 (by omega);have E:(k+1)*(G:Int)<=l.groups*G:=Int.mul_le_mul_of_nonneg_right (by omega) (by omega);rw[Int.add_mul,Int.one_mul]at E;subst e;exact⟨RM hc (by rw[u];omega) (by omega) (Or.inl rfl),rfl⟩
theorem BQ {c:Code}{l:bG}{g:Mm}{x:Gr}(hc:cE c) (hl:bY c l) (hg:cq c.arrays 1 g) (hx:PE c l x) :
  PE c l (cY c l g x).x/\cq c.arrays 1 (cY c l g x).g/\(cY c l g x).ev.length<=4000000/\(cY c l g x).x.id=x.id:=by
 obtain⟨S,n,hS,O,U,Q,I⟩:=Q4 hc
 have hn:(Mo g x).items.length=n*S:=by
  have:=hx.n;show x.items.length=_
  omega
 have E:=NK hc hl hS O 200002 (Mo g x) (hx.rw hg) hn I;have u:∀e,PE c l (⟨g,x,[],e⟩:Zl).x/\cq c.arrays 1 (⟨g,x,[],e⟩:Zl).g/\(⟨g,x,[],e⟩:Zl).ev.length<=4000000/\(⟨g,x,[],e⟩:Zl).x.id=x.id:=λ e=>⟨hx,hg,by simp,rfl⟩
 have G:(allP c l 200002 (Mo g x)).1.ev.length<=4000000:=by
  have h1:=E.ev;have h2:=E.bl;omega
 unfold cY;split
 ·exact u _
 split
 ·simp only;split
  ·exact⟨⟨E.n,E.it,E.sh⟩,E.g,G,rfl⟩
  split
  ·have H:=E.pass (n:=x.items.length) (off:=0) hc.toba (v:=List.replicate x.items.length 0) λ y hy=>by
    grind
   exact⟨⟨H.n,H.it,H.sh⟩,E.g,G,rfl⟩
  ·exact u _
 ·exact u _
theorem RC {c:Code}{l:bG}(hc:cE c) (hl:bY c l):∀(f:Nat) (m:Mm) (x:Gr) (m':Mm),cq c.arrays 1 m->PE c l x->endP c l f m x=some m'->cq c.arrays 1 m'
 | 0,m,x,m',hm,hx,h=>by
  grind [endP]
 | f+1,m,x,m',hm,hx,h=>by
  unfold endP at h;obtain⟨E,u,-,-⟩:=BQ hc hl hm hx;split at h
  ·cases h;exact hm
  split at h
  ·exact RC hc hl f _ _ m' u E h
  ·cases h
theorem JB {c:Code}{l:bG}{m:Mm}(hc:cE c) (hl:bY c l) (hm:cq c.arrays 1 m):∀(k:Nat) (m':Mm),(k:Int)<=l.groups->preP c l m k=some m'->cq c.arrays 1 m'
 | 0,m',_,h=>by cases h;exact hm
 | k+1,m',hk,h=>by
  unfold preP at h
  cases e:preP c l m k with
  | none=>rw[e]at h;cases h
  | some u =>
   rw[e]at h;exact RC hc hl 1000 u _ m' (JB hc hl hm k u (by omega) e) (Cc hc.toba hl ⟨by omega,by omega⟩).1 h
theorem Mr {c:Code}{l:bG}{m:Mm}{k:Nat}(h:preP c l m k=none):∀j,preP c l m (k+j)=none
 | 0=>h
 | j+1=>by
  show preP c l m ((k+j)+1)=none
  unfold preP;rw[Mr h j]
theorem NA {made:Int->Int}:∀(ev:List Ev) (k:Int),made k<=cntP made ev k/\cntP made ev k<=made k+ev.length:=by
 intro ev
 induction ev generalizing made with
 | nil=>intro k;exact⟨Int.le_refl _,by simp[cntP]⟩
 | cons e r u =>
  intro k;unfold cntP;grind
theorem VG {made:Int->Int}:∀(a b:List Ev),cntP made (a++b)=cntP (cntP made a) b:=by
 intro a
 induction a generalizing made with
 | nil=>intro b;rfl
 | cons e r u=>grind [cntP]
theorem Oj {c:Code}{l:bG}(hc:cE c) (hl:bY c l):∀(f:Nat) (m:Mm) (x:Gr) (made:Int->Int) (B:Int),cq c.arrays 1 m->PE c l x->(∀k,0<=made k/\made k<=B)->B+4000000*(f:Int)<=1000000000->∀s,s∈stgsP c l f m x made->zf c l s/\∃y,s.gs=[y]/\y.id=x.id
 | 0,m,x,made,B,hm,hx,hb,G,s,h=>by cases h
 | f+1,m,x,made,B,hm,hx,hb,G,s,h=>by
  unfold stgsP at h;rw[List.mem_cons]at h;rcases h with rfl|h
  ·exact⟨⟨⟨hm,λ y hy=>by grind⟩,λ k=>⟨(hb k).1,by grind⟩,by simp⟩,x,rfl,rfl⟩
  ·split at h
   ·obtain⟨E,u,I,H⟩:=BQ hc hl hm hx
    obtain⟨S,y,Q,O⟩:=Oj hc hl f _ _ _ (B+4000000) u E (λ k=>by
     have h1:=NA (made:=made) (cY c l m x).ev k
     grind) (by omega) s h
    grind
   ·cases h
theorem BP {c:Code}{l:bG}{m:Mm}{g:Nat}(hc:cE c) (hl:bY c l) (hm:cq c.arrays 1 m) (hg:(g:Int)<l.groups):∀s,s∈fI c l m g->zf c l s/\∃y,s.gs=[y]/\y.id=(g:Int):=by
 intro s hs;unfold fI at hs
 cases e:preP c l m g with
 | none=>rw[e]at hs;cases hs
 | some u =>
  rw[e]at hs;obtain⟨b1,b2⟩:=Cc hc.toba hl (k:=(g:Int)) ⟨by omega,hg⟩;obtain⟨H,y,G,E⟩:=Oj hc hl 100 u _ _ 0 (JB hc hl hm g u (by omega) e) b1 (λ k=>⟨Int.le_refl _,Int.le_refl _⟩) (by omega) s hs;grind
theorem Ft {c:Code}{l:bG}{m:Mm}{g k:Int}(hc:cE c) (hl:bY c l) (hm:cq c.arrays 1 m) (hg:0<=g/\g<l.groups) (hk:0<=k/\k<l.groups):zf c l (iQ c m g k) :=
 ⟨⟨hm,λ y hy=>by
  simp only[iQ,List.mem_cons,List.not_mem_nil,or_false]at hy;rcases hy with rfl|rfl
  ·exact(Cc hc.toba hl hg).1
  ·exact(Cc hc.toba hl hk).1⟩,λ k=>⟨Int.le_refl _,by simp[iQ]⟩,by simp[iQ]⟩
theorem U2 {c:Code}{l:bG}{s:pC}{x:Gr}{id:Int}(hc:ba c) (hs:Wp c l s) (hx:x∈s.gs) (h:x.id*c.group<=id/\id<x.id*c.group+c.group):(s.gs.find? (Ec id)).isSome=true:=by
 have u:=hs.gs x hx;obtain⟨H,G,E⟩:=u.first hc;have hn:=u.n;grind [Ec]
structure Wq (ents:List (D×D)) (made:Int->Int):Prop where
 keys:∀p∈ents,∃a,p.1=.int .i64 a
 el:∀k,(mget ents (.int .i64 k)).getD (.int .i64 0)=.int .i64 (made k)
theorem Wq.r {ents:List (D×D)}{made:Int->Int}{n:Nat}{L:LSq}(m:Wq ents made) (hm:(n,Slot.map (.int .i64) ents)∈L):EH L (.mp n) made:=Or.inr ⟨n,ents,rfl,hm,m.el⟩
theorem Wq.add {ents:List (D×D)}{made:Int->Int}{k:Int}(m:Wq ents made):Wq (mset ents (.int .i64 k) (.int .i64 (made k+1))) (λ i=>if i=k then made i+1 else made i):=by
 refine⟨UI ents m.keys,λ i=>?_⟩;rw[Rk ents m.keys];by_cases h:i=k
 ·grind
 ·rw[if_neg h,if_neg h];exact m.el i
section
variable {c:Code}{l:bG}{s:pC}{w:fU}{md:D}{h:Heap}{L:LSq}{KH:HKq}{K:D->Prop}
theorem RZ {k:Int}(hc:cE c) (hl:bY c l) (h0:pv c l=0) (hk:0<=k/\k<l.groups) (hK:KH (cw c k).e h):ag PP cR [.agg (gM c l),.int .i64 k] h KH:=by
 refine bk (NF hc hl h0 hk) (λ d hd=>by
  simp at hd;rcases hd with rfl|rfl
  ·exact GC.pair
  ·exact dT) ?_
 rintro _ rfl;exact hK
theorem Ua {x:Gr}{g:Mm}(hc:cE c) (hl:bY c l) (hg:cq c.arrays 1 g) (hx:PE c l x) (hK:KH (Su (cY c l g x)) h):ag PP mN [c.e,l.e,aZ g,x.e] h KH:=by
 refine bk (Rh hc hl hg (Or.inr hx)) (λ d hd=>by
  simp at hd;rcases hd with rfl|rfl|rfl|rfl
  ·exact kL c
  ·exact⟨rfl,jA l⟩
  ·exact mO _
  ·exact x.bR.pair) ?_
 rintro _ rfl;exact hK
theorem O0 {x:Gr}(hl:x.items.length<=1000000) (hK:KH (.bool (iq x.items)) h):ag PP gu [x.e] h KH:=by
 refine bk (Nd hl) gd2 ?_;rintro _ rfl;exact hK
theorem ZH {n1 n2 n3:Nat}{m0:Mm}{k:Nat}{g:Nat}{L:LSq}{m1:Mm}{n134:Nat}{x0:Gr}{a0 a119:D}{f123:Nat->D}{J126:HJq}(hc:cE c) (hl:bY c l) (hm:cq c.arrays 1 m1) (hx:PE c l x0)
  (V:Vs h ((n134,.box (.agg x0.cs))::(n3,.box (aZ m1))::(n2,.box (.agg (gM c l)))::(n1,.box (.int .i64 (g:Int)))::L))
  (hJ:∀m2,endP c l 1000 m1 x0=some m2->∀h',Vs h' ((n3,.box (aZ m2))::(n2,.box (.agg (gM c l)))::(n1,.box (.int .i64 (g:Int)))::L)->J126 [] h')
  (hK:endP c l 1000 m1 x0=none->∀h' m2,Vs h' ((n3,.box (aZ m2))::(n2,.box (.agg (gM c l)))::(n1,.box (.int .i64 (g:Int)))::L)->KH (.tup []) h') :
  gD h (.ptr n134 0 0) (.ptr n2 0 0) (.ptr n3 0 0) a0 (.ptr n1 0 0) a119 f123 J126 KH:=by
 have a2:=hc.group;dsimp only[gD,xF,xL,xP,xS];obtain⟨R,O⟩:∃R,R=endP c l 1000 m1 x0:=⟨_,rfl⟩;rw[<- O]at hJ hK
 refine⟨λ b x h'=>∃(n:Nat) (m2:Mm) (E:Gr),x=[.int .i64 (n:Int)]/\b=1000-n/\n<=1000/\cq c.arrays 1 m2/\PE c l E/\endP c l (1000-n) m2 E=R/\Vs h' ((n134,.box (.agg E.cs))::(n3,.box (aZ m2))::(n2,.box (.agg (gM c l)))::(n1,.box (.int .i64 (g:Int)))::L),1000,
  ⟨0,m1,x0,rfl,rfl,by omega,hm,hx,O.symm,V⟩,?_⟩
 clear V hm hx O;rintro b f h1 ⟨n,m2,E,Q,hb,hn,hm,hx,O,V⟩;simp only[av,and_true]at Q;simp only[Q];have a1:=hx.n;rw[V.eR 0 (s:=3) rfl rfl,show D.agg E.cs=E.e from rfl];refine O0 (by omega) ?_;cases he:iq E.items
 case true =>
  simp only[↓gS,ae,true_and]
  have:R=some m2:=by
   rw[<- O];cases 1000-n<;>(unfold endP;rw[if_pos he])
  exact hJ m2 this h1 V.pop
 simp only[↓gS];have e8:∀{KH:HKq},ab PP (.ld (.c (.ptr n2 0 0)) 8 true) h1 KH=KH c.e h1:=ml (V.get 2 _ _ rfl) (by show 0+8<=10;omega) rfl;have e2:∀{KH:HKq},ab PP (.ld (.c (.ptr n2 0 8)) 2 true) h1 KH=KH l.e h1:=ml (V.get 2 _ _ rfl) (by show 8+2<=10;omega) rfl;rw[V.fa 2 rfl,e8,V.fa 2 rfl,e2,ub (V.get 1 _ _ rfl) rfl,V.eR 0 (s:=3) rfl rfl,show D.agg E.cs=E.e from rfl];refine Ua hc hl hm hx ?_;obtain⟨W,U,-,-⟩:=BQ hc hl hm hx;obtain⟨r,hr⟩:∃r,r=cY c l m2 E:=⟨_,rfl⟩;rw[<- hr]at W U ⊢;unfold Su;simp only[↓h_ext,List.getElem?_cons_zero,List.getElem?_cons_succ];refine V.zo 1 rfl rfl rfl λ Z H=>?_
 simp only[List.set_cons_zero,List.set_cons_succ]at H;refine H.eU 0 rfl rfl (cs':=r.x.cs) rfl (Gr.P0 _) λ G u=>?_
 simp only[List.set_cons_zero,List.set_cons_succ]at u
 have I:∀q,1000-n=q+1->R=if r.e=0 then endP c l q r.g r.x else none:=λ q hq=>by
  grind [endP]
 by_cases h0:r.e=0
 case neg =>
  simp (disch:=omega) only[↓cS,↓gS];refine hK ?_ G r.g u.pop;rcases Nat.eq_zero_or_pos (1000-n) with hz|hz
  ·grind [endP]
  ·rw[I (1000-n-1) (by omega),if_neg h0]
 by_cases S:n=1000
 ·simp (disch:=omega) only[↓cS,↓gS];refine hK ?_ G r.g u.pop;rw[<- O,show 1000-n=0 by omega];grind [endP]
 simp (disch:=omega) only[↓cS,↓gS,ae,true_and];refine⟨1000-(n+1),by omega,n+1,r.g,r.x,by simp,rfl,by omega,U,W,?_,u⟩;grind
theorem ZI {n21 n53 n15:Nat}{evs:List Ev}{ents0:List (D×D)}{made:Int->Int}{sm sg:D}{L:LSq}{a0 a2 a49:D}{f30:Nat->D}{J70:HJq}(hm:Wq ents0 made) (hb:∀k,0<=made k/\made k+4000000<=2000000000) (hl:evs.length<=4000000)
  (V:Vs h ((n15,.map (.int .i64) ents0)::(n21,.box (.agg [sm,sg,.mp n15]))::L))
  (hJ:∀ents h',Wq ents (cntP made evs)->Vs h' ((n15,.map (.int .i64) ents)::(n21,.box (.agg [sm,sg,.mp n15]))::L)->J70 [] h') :
  gG h (.int .i64 (evs.length:Int)) a0 a2 (.ptr n21 0 0) a49 (.ptr n53 0 0) f30 (.sl (evs.map Ev.e)) J70:=by
 dsimp only[gG,xF,xI,xL,xS]
 refine⟨λ b x h'=>∃(i:Nat) (ents:List (D×D)),x=[.int .i64 (i:Int)]/\b+i=evs.length/\Wq ents (cntP made (evs.take i))/\Vs h' ((n15,.map (.int .i64) ents)::(n21,.box (.agg [sm,sg,.mp n15]))::L),evs.length,
  ⟨0,ents0,rfl,by omega,hm,V⟩,?_⟩
 clear V hm;rintro b f h1 ⟨i,ents,hx,W,hm,V⟩;simp only[av,and_true]at hx;simp only[hx];by_cases hi:i<evs.length
 case neg =>
  grind [HZ,ah,List.take_of_length_le,ae]
 obtain⟨e,he⟩:∃e,evs[i]?=some e:=⟨_,aG hi⟩;have G:evs.take (i+1)=evs.take i++[e]:=by rw[List.take_add_one,he];rfl
 rw[DY (by omega),ai];refine⟨λ _ h'=>∃ents,Wq ents (cntP made (evs.take (i+1)))/\Vs h' ((n15,.map (.int .i64) ents)::(n21,.box (.agg [sm,sg,.mp n15]))::L),?_,?_⟩
 ·rintro _ h2 ⟨E,H,V2⟩;simp (disch:=omega) only[↓cS,ae,true_and];exact⟨evs.length-(i+1),by omega,i+1,E,by simp,by omega,H,V2⟩
 rw[yA (esz:=9) (d:=e.e) (by omega) (by grind) rfl,show e.e=.agg e.cs from rfl,SI (s:=9) rfl];refine V.alloc λ S a1 I=>?_
 refine I.eU 0 rfl rfl (cs':=e.cs) rfl e.bR.one λ O u=>?_
 simp only[List.set_cons_zero]at u;rw[u.eR 0 (s:=9) rfl rfl,show D.agg e.cs=e.e from rfl];refine Ll ?_;rw[G,VG];cases ha:bU e
 ·simp only[↓gS,ae,true_and];refine⟨ents,?_,u.pop⟩;grind [cntP]
 ·simp only[↓gS];rw[u.fa 2 rfl,u.zp 2 (j:=2) (e:=.mp n15) rfl rfl,u.fa 0 rfl,u.zp 0 (j:=2) (e:=.int .i64 e.item) rfl rfl,JH (u.get 1 _ _ rfl)];simp only[dj,if_false];have hle:=NA (made:=made) (evs.take i) e.item;have Z:=hb e.item;have U:(evs.take i).length<=4000000:=by rw[List.length_take];omega
  rw[hm.el];simp (disch:=omega) only[↓cS];rw[Rs (u.get 1 _ _ rfl) rfl];simp only[ae,true_and];have Q:=u.aM 1 rfl (s':=.map (.int .i64) (mset ents (.int .i64 e.item) (.int .i64 (cntP made (evs.take i) e.item+1)))) (by simp);simp only[List.set_cons_zero,List.set_cons_succ]at Q;refine⟨_,?_,Q.pop⟩;have:cntP (cntP made (evs.take i)) [e]=λ j=>if j=e.item then cntP made (evs.take i) j+1 else cntP made (evs.take i) j:=by simp[cntP,ha]
  rw[this];exact hm.add
end
end Go.Am
namespace Go.Am
open Go
theorem PQ {c:Code}{l:bG}{f:Nat}{m:Mm}{x:Gr}{made:Int->Int}:stgsP c l (f+1) m x made=⟨m,[x],made⟩::(if(cY c l m x).e=0/\iq (cY c l m x).x.items=false then stgsP c l f (cY c l m x).g (cY c l m x).x (cntP made (cY c l m x).ev) else []):=rfl
section
variable {c:Code}{l:bG}{s:pC}{w:fU}{md:D}{h:Heap}{L:LSq}{KH:HKq}{K:D->Prop}
theorem O6 {P:Program}{f:FuncId}{d1 d2 d3 d4 r:D}(hv:aV P f [d1,d2,d3,d4] (· = r)) (hds:∀d,d∈[d1,d2,d3,d4]->d.vd=true/\aD d) (hk:K r):an P (.call f [.c d1,.c d2,.c d3,.c d4]) h K:=ud hv hds hk
theorem VD {z:D}{x:Gr}(hz:∀a∈z.cells,a.vone=true) (hk:K (.sl [x.e])):an PP (.bldS false 3 1 z [(0,.c x.e)]) h K:=by
 refine KU x.bR.one rfl (λ a ha=>?_) hz hk;have:=x.bR.vd;simp only[Gr.e,D.vd,List.all_eq_true]at this;exact this a ha
theorem WV {β:Type}{fq:pC->Option β}{nk n2 n15 n21:Nat}{m2:Mm}{g:Nat}{Lr B:LSq}{Lq:β->Heap->Prop}{SS:List pC}(hc:cE c) (hl:bY c l) (hm2:cq c.arrays 1 m2)
  (hg:(g:Int)<l.groups) (hB:∃X,B=X++Lr) (mt:(n2,Slot.box (.agg (gM c l)))∈B) (hSS:stgsP c l 100 m2 (cw c (g:Int)) (λ _=>0)=SS)
  (V:Vs h ((n15,.map (.int .i64) [])::(n21,.box (.agg [aZ m2,.sl [(cw c (g:Int)).e],.mp n15]))::B))
  (hY0:∀(N:LSq) (s:pC) (md:D) (h':Heap) (KH':HKq),s∈SS->EH N md s.made->Vs h' (N++Lr)->fq s=none->(∀h'',Vs h'' (N++Lr)->KH' (.bool true) h'')->ab PP (.callv (.c (.yld nk)) [.c (.agg (lE s md))]) h' KH')
  (hYs:∀(N:LSq) (s:pC) (md:D) (y:β) (h':Heap) (KH':HKq),s∈SS->EH N md s.made->Vs h' (N++Lr)->fq s=some y->(∀h'',Lq y h''->KH' (.bool false) h'')->ab PP (.callv (.c (.yld nk)) [.c (.agg (lE s md))]) h' KH')
  (hK0:SS.findSome? fq=none->∀h',Vs h' Lr->KH (.tup []) h') (hKs:∀y,SS.findSome? fq=some y->∀h',Lq y h'->KH (.tup []) h') :
  gF h (.ptr n21 0 0) (.yld nk) (.ptr n2 0 0) KH:=by
 obtain⟨b1,b2⟩:=Cc hc.toba hl (k:=(g:Int)) ⟨by omega,hg⟩;obtain⟨BX,a6⟩:=hB;have e0:=hc.group;dsimp only[gF,xL,xP,xS,yF,yI,yL]
 refine⟨λ b x h'=>∃(i:Nat) (m:Mm) (u:Gr) (made:Int->Int) (ents:List (D×D)),x=[.int .i64 (i:Int)]/\b+i=100/\cq c.arrays 1 m/\PE c l u/\Wq ents made/\(∀k,0<=made k/\made k<=4000000*(i:Int)) /\
   (SS.findSome? fq=(stgsP c l b m u made).findSome? fq)/\(∀s,s∈stgsP c l b m u made->s∈SS)/\Vs h' ((n15,.map (.int .i64) ents)::(n21,.box (.agg [aZ m,.sl [u.e],.mp n15]))::B),100,
  ⟨0,m2,_,λ _=>0,[],rfl,rfl,hm2,b1,⟨λ p hp=>(by cases hp),λ k=>rfl⟩,λ k=>⟨Int.le_refl _,by grind⟩,by rw[hSS],λ s hs=>by rw[<- hSS];exact hs,V⟩,?_⟩
 clear V b1 b2 hSS hm2;rintro b f h1 ⟨i,m,u,made,ents,hx,e1,hm,c3,c4,c6,a5,U,V⟩;simp only[av,and_true]at hx;simp only[hx]
 have a1:∀{h':Heap}{A:LSq},Vs h' (A++B)->Vs h' Lr:=λ V'=>by
  rw[a6]at V';exact V'.iw.iw
 by_cases hi:i<100
 case neg =>
  have:b=0:=by omega
  subst this;rw[HZ (by omega),ah];exact hK0 (by rw[a5];rfl) h1 (a1 (A:=[_,_]) V)
 obtain⟨b,rfl⟩:∃b',b=b'+1:=⟨b-1,by omega⟩;obtain⟨H,a2⟩:∃H:pC,H=⟨m,[u],made⟩:=⟨_,rfl⟩;obtain⟨r,hr⟩:∃r,r=cY c l m u:=⟨_,rfl⟩;rw[PQ, <- a2, <- hr]at a5 U;have Z:H∈SS:=U H (by simp);have S:lE H (.mp n15)=[aZ m,.sl [u.e],.mp n15]:=by rw[a2];rfl
 rw[DY (by omega),ai,V.eR 1 (s:=3) rfl rfl, <- S];rw[<- S]at V
 have V':Vs h1 (((n15,.map (.int .i64) ents)::(n21,.box (.agg (lE H (.mp n15))))::BX)++Lr):=by
  rw[a6]at V;exact V
 have c2:EH ((n15,.map (.int .i64) ents)::(n21,.box (.agg (lE H (.mp n15))))::BX) (.mp n15) H.made:=by
  rw[a2];exact c4.r List.mem_cons_self
 cases c5:fq H with
 | some y =>
  refine hYs _ H (.mp n15) y h1 _ Z c2 V' c5 λ h2 V2=>?_
  simp only[↓gS];grind
 | none =>
  refine hY0 _ H (.mp n15) h1 _ Z c2 V' c5 λ E Q=>?_
  have Q:Vs E ((n15,.map (.int .i64) ents)::(n21,.box (.agg (lE H (.mp n15))))::B):=by
   rw[a6];exact Q
  simp only[↓gS];have gt:E n2=.box (.agg (gM c l)):=Q.mem (by simp[mt]);have e8:∀{K:D->Prop},an PP (.ld (.c (.ptr n2 0 0)) 8 true) E K=K c.e:=gI gt (by show 0+8<=10;omega) rfl;have e2:∀{K:D->Prop},an PP (.ld (.c (.ptr n2 0 8)) 2 true) E K=K l.e:=gI gt (by show 8+2<=10;omega) rfl;have gs:E n21=.box (.agg (lE H (.mp n15))):=Q.get 1 _ _ rfl;rw[S]at gs;have eI:∀{K:D->Prop},an PP (.iadd (.c (.sl [u.e])) (.c (.int .i64 0)) 3) E K=K (.vp u.e 0):=λ {K}=>adL (by omega) rfl rfl
  have eL:∀{K:D->Prop},an PP (.ld (.c (.vp u.e 0)) 3 true) E K=K u.e:=λ {K}=>by rw[fB];exact SI (cs:=u.cs) rfl
  simp only[↓et gt,e8,e2,↓et gs,↓aX gs (j:=0) rfl,↓aX gs (j:=1) rfl,eI,eL]
  refine O6 (Rh hc hl hm (Or.inr c3)) (λ d hd=>by
   simp at hd;rcases hd with rfl|rfl|rfl|rfl
   ·exact kL c
   ·exact⟨rfl,jA l⟩
   ·exact mO _
   ·exact u.bR.pair) ?_
  obtain⟨w1,w2,w3,w4⟩:=BQ hc hl hm c3;rw[<- hr]at w1 w2 w3 w4 ⊢;unfold Su;simp only[↓xy,↓h_ext,List.getElem?_cons_zero,List.getElem?_cons_succ];refine Q.alloc λ c1 e7 c9=>?_
  refine c9.eU 0 rfl rfl (cs':=r.x.cs) rfl (Gr.P0 _) λ c7 I=>?_
  simp only[List.set_cons_zero]at I
  have O:¬(r.e=0/\iq r.x.items=false)->SS.findSome? fq=none:=λ hn=>by
   grind
  by_cases h0:r.e=0
  case neg =>
   simp (disch:=omega) only[↓cS,↓gS];exact hK0 (O (by rintro⟨h,-⟩;exact h0 h)) c7 (a1 (A:=[_,_,_]) I)
  simp (disch:=omega) only[↓cS,↓gS];rw[I.eR 0 (s:=3) rfl rfl,show D.agg r.x.cs=r.x.e from rfl];refine O0 (by have:=w1.n;omega) ?_;cases he:iq r.x.items
  case true =>
   simp only[↓gS];exact hK0 (O (by grind)) c7 (a1 (A:=[_,_,_]) I)
  simp only[↓gS];rw[if_pos ⟨h0,he⟩]at a5 U;refine⟨λ _ h'=>∃ents,Wq ents (cntP made r.ev)/\Vs h' ((n15,.map (.int .i64) ents)::(n21,.box (.agg [aZ m,.sl [u.e],.mp n15]))::(c1,.box (.agg r.x.cs))::B),?_,?_⟩
  ·rintro _ e6 ⟨G,hm2,W⟩;have e9:=W;rw[W.yY 2 (s:=3) rfl rfl,show D.agg r.x.cs=r.x.e from rfl];refine VD (λ a ha=>by simp[D.cells]at ha;rcases ha with rfl|rfl|rfl<;>rfl) ?_;have c8:=W.get 1 _ _ rfl;simp only[↓et c8];refine W.DO 1 (j:=0) rfl (by simp) rfl λ e5 a8=>?_
   simp only[List.set_cons_zero,List.set_cons_succ]at a8;rw[a8.yY 2 (s:=3) rfl rfl];refine⟨⟨by show aB [r.x.e] [r.x.e];rw[ae];trivial,trivial⟩,?_⟩;refine a8.DO 1 (j:=1) rfl (by simp) rfl λ e4 a7=>?_
   simp only[List.set_cons_zero,List.set_cons_succ]at a7;rw[a7.yY 2 (s:=3) rfl rfl];refine⟨⟨by show aB [r.x.e] [r.x.e];rw[ae];trivial,trivial⟩,?_⟩;simp (disch:=omega) only[↓cS,ae,true_and];refine⟨b,by omega,i+1,r.g,r.x,cntP made r.ev,G,by simp,by omega,w2,w1,hm2,λ k=>?_,?_,λ s hs=>U s (by simp[hs]),a7.sub (((List.sublist_cons_self _ _).cons_cons _).cons_cons _)⟩
   ·have h1:=NA (made:=made) r.ev k;grind
   grind
  ·rw[gd,aE];refine ZI (n15:=n15) (ents0:=ents) (made:=made) (L:=(c1,.box (.agg r.x.cs))::B) c4 (λ k=>⟨(c6 k).1,by have:=(c6 k).2;omega⟩) w3 ?_ λ G h' hm2 V2=>⟨G,hm2,V2⟩
   rw[S]at I;exact I.perm ((List.Perm.swap _ _ _).trans (.cons _ (List.Perm.swap _ _ _)))
theorem Lj {β:Type}{fq:pC->Option β}{nk n1 n2 n3:Nat}{m:Mm}{g:Nat}{Lr:LSq}{Lq:β->Heap->Prop}(hc:cE c) (hl:bY c l) (h0:pv c l=0) (hm:cq c.arrays 1 m)
  (hg:(g:Int)<l.groups) (V:Vs h ((n3,.box (aZ m))::(n2,.box (.agg (gM c l)))::(n1,.box (.int .i64 (g:Int)))::Lr))
  (hY0:∀(N:LSq) (s:pC) (md:D) (h':Heap) (KH':HKq),s∈fI c l m g->EH N md s.made->Vs h' (N++Lr)->fq s=none->(∀h'',Vs h'' (N++Lr)->KH' (.bool true) h'')->ab PP (.callv (.c (.yld nk)) [.c (.agg (lE s md))]) h' KH')
  (hYs:∀(N:LSq) (s:pC) (md:D) (y:β) (h':Heap) (KH':HKq),s∈fI c l m g->EH N md s.made->Vs h' (N++Lr)->fq s=some y->(∀h'',Lq y h''->KH' (.bool false) h'')->ab PP (.callv (.c (.yld nk)) [.c (.agg (lE s md))]) h' KH')
  (hK0:(fI c l m g).findSome? fq=none->∀h',Vs h' Lr->KH (.tup []) h') (hKs:∀y,(fI c l m g).findSome? fq=some y->∀h',Lq y h'->KH (.tup []) h') :
  ag PP dk [.yld nk,.ptr n1 0 0,.ptr n2 0 0,.ptr n3 0 0] h KH:=by
 have c7:=hc.group;have c6:=hl.n;refine aI uo (aC _ _ _) rfl (ug _ _ _ _ _) ?_;dsimp only[nC,xL,xS,yL];have a8:∀{h':Heap}{a b:Nat×Slot}{K:D->Prop},Vs h' (a::(n2,.box (.agg (gM c l)))::b::Lr)->an PP (.ld (.c (.ptr n2 0 0)) 10 true) h' K=K (.agg (gM c l)):=λ H=>gI (H.get 1 _ _ rfl) (by show 0+10<=10;omega) rfl
 refine⟨λ _ h'=>∃u,preP c l m g=some u/\Vs h' ((n3,.box (aZ u))::(n2,.box (.agg (gM c l)))::(n1,.box (.int .i64 (g:Int)))::Lr),?_,?_⟩
 ·rintro _ h7 ⟨u,hp,V7⟩;have a7:fI c l m g=stgsP c l 100 u (cw c (g:Int)) λ _=>0:=by unfold fI;rw[hp]
  have a6:=JB hc hl hm g u (by omega) hp;rw[V7.sj 0 rfl rfl,a8 V7,V7.sj 2 rfl rfl];refine RZ hc hl h0 ⟨by omega,hg⟩ ?_;rw[V7.sj 0 rfl rfl];refine⟨⟨by simp,trivial⟩,?_⟩;refine VD (λ a ha=>by simp[D.cells]at ha;rcases ha with rfl|rfl|rfl<;>rfl) ?_;show ∀n,pB h7 n->_
  intro Z t15;have G:=V7.push t15.free (s:=.map (.int .i64) []) (by simp);generalize ak h7 Z (Slot.map (.int .i64) [])=e1 at G
  have S:∀{h':Heap}{X:LSq}{K:D->Prop},Vs h' (X++(n3,.box (aZ u))::(n2,.box (.agg (gM c l)))::(n1,.box (.int .i64 (g:Int)))::Lr) ->
    an PP (.ld (.c (.ptr n3 0 0)) 1 false) h' K=K (aZ u):=λ H=>sj (H.mem (by simp)) rfl
  have Q:∀{h':Heap}{X:LSq}{K:D->Prop},Vs h' (X++(n3,.box (aZ u))::(n2,.box (.agg (gM c l)))::(n1,.box (.int .i64 (g:Int)))::Lr) ->
    an PP (.ld (.c (.ptr n2 0 0)) 10 true) h' K=K (.agg (gM c l)):=λ H=>gI (cs:=gM c l) (H.mem (by simp)) (by show 0+10<=10;omega) rfl
  have O:∀{h':Heap}{X:LSq}{K:D->Prop},Vs h' (X++(n3,.box (aZ u))::(n2,.box (.agg (gM c l)))::(n1,.box (.int .i64 (g:Int)))::Lr) ->
    an PP (.ld (.c (.ptr n1 0 0)) 1 false) h' K=K (.int .i64 (g:Int)):=λ H=>sj (H.mem (by simp)) rfl
  rw[S (X:=[_]) G,Q (X:=[_]) G,O (X:=[_]) G];refine⟨⟨by simp,by simp,by simp,trivial⟩,?_⟩;rw[lS rfl];refine G.alloc λ c4 e0 I=>?_
  rw[S (X:=[_,_]) I,Q (X:=[_,_]) I,O (X:=[_,_]) I];refine⟨⟨by simp,by simp,by simp,trivial⟩,?_⟩;refine I.eU 0 rfl rfl (cs':=[aZ u,.sl [(cw c (g:Int)).e],.mp Z]) rfl (λ x hx=>by simp at hx;rcases hx with rfl|rfl|rfl<;>rfl) λ c9 a1=>?_
  simp only[List.set_cons_zero]at a1;exact WV (B:=(n3,.box (aZ u))::(n2,.box (.agg (gM c l)))::(n1,.box (.int .i64 (g:Int)))::Lr) hc hl a6 hg ⟨[_,_,_],rfl⟩ (by simp) a7.symm (a1.perm (List.Perm.swap _ _ _)) hY0 hYs hK0 hKs
 rw[ub (V.get 2 _ _ rfl) rfl];dsimp only[kX,xL,xS];refine⟨λ b x h'=>∃(k:Nat) (u:Mm),x=[.int .i64 (k:Int)]/\b+k=g/\preP c l m k=some u/\Vs h' ((n3,.box (aZ u))::(n2,.box (.agg (gM c l)))::(n1,.box (.int .i64 (g:Int)))::Lr),g,⟨0,m,rfl,by omega,rfl,V⟩,?_⟩;clear V;rintro b f h1 ⟨k,u,hx,c8,hp,V⟩;simp only[av,and_true]at hx;simp only[hx];by_cases hk:k<g
 case neg =>
  grind [HZ,ah,ae]
 rw[DY (by omega),ai];refine⟨λ _ h'=>∃W,preP c l m (k+1)=some W/\Vs h' ((n3,.box (aZ W))::(n2,.box (.agg (gM c l)))::(n1,.box (.int .i64 (g:Int)))::Lr),?_,?_⟩
 ·rintro _ h2 ⟨W,a5,V3⟩;simp (disch:=omega) only[↓cS,ae,true_and];exact⟨g-(k+1),by omega,k+1,W,by simp,by omega,a5,V3⟩
 rw[V.eR 1 (s:=10) rfl rfl];refine RZ hc hl h0 ⟨by omega,by omega⟩ ?_;refine V.alloc λ c1 c3 a2=>?_
 refine a2.eU 0 rfl rfl (cs':=(cw c (k:Int)).cs) rfl (Gr.P0 _) λ c2 U=>?_
 simp only[List.set_cons_zero]at U
 have E:preP c l m (k+1)=endP c l 1000 u (cw c (k:Int)):=by
  grind [preP]
 refine ZH (k:=k) (m0:=m) hc hl (JB hc hl hm k u (by omega) hp) (Cc hc.toba hl ⟨by omega,by omega⟩).1 U (λ W he h' H=>⟨W,by rw[E];exact he,H⟩) λ he h' W H=>?_
 refine hK0 ?_ h' H.pop.pop.pop
 have c5:preP c l m g=none:=by
  have:=Mr (c:=c) (l:=l) (m:=m) (k:=k+1) (by rw[E];exact he) (g-(k+1));grind
 grind [fI]
end
end Go.Am
namespace Go.Am
open Go
def IS (c:Code) (w:fU):Prop:=(0<=w.i0/\0<=w.i1/\w.i0<w.l.groups*c.group/\w.i1<w.l.groups*c.group/\w.i0≠w.i1)/\(0<=w.n0/\0<=w.n1/\0<=w.ar/\w.ar<(c.arrays.length:Int))/\(0<=w.ix/\w.ix<kg c w.ar.toNat) /\
 (LZ c w.ar=1\/(LZ c w.ar=2/\w.i0.tdiv c.group=w.i1.tdiv c.group))
instance (c:Code) (w:fU):Decidable (IS c w):=by unfold IS;infer_instance
theorem Rv {ar:List fv}{m:Mm}(hp:∀a∈ar,1<=a.len) (h:cq ar 1 m):fitsM 1 ar m=true:=by
 rw[Cb h.len.symm];intro i a w ha hw;have h1:=(h.w i a w ha hw).1;grind [PH,fv.sz]
theorem Y2 (a b:Int):∃m,(if b<a then b else a)=m/\m<=a/\m<=b/\(m=a\/m=b):=⟨_,rfl,by split<;>omega,by split<;>omega,by split<;>omega⟩
theorem ab7 (a b:Int):∃m,(if a<b then b else a)=m/\a<=m/\b<=m/\(m=a\/m=b):=⟨_,rfl,by split<;>omega,by split<;>omega,by split<;>omega⟩
section
variable {c:Code}{w:fU}
theorem Qz (hc:cE c) (hl:bY c w.l) (h0:pv c w.l=0) (hm:cq c.arrays 1 w.g):aV PP pk [c.e,.agg w.cs] (· = .int .i64 (if IS c w then 0 else 1)):=by
 have hg:=hc.group;have hn:=hl.n;have hmul:=Nu hc.toba hl;refine bt ED (aC _ _ _) rfl (Ep _ _ _) ?_;dsimp only[xM,xB,xF,xI,xJ,xL,xP,yF,yI,yJ,yL,yP];refine Vs.nil.box (kL c).2 λ n3 h4 V4=>?_
 refine V4.box w.bR.one λ I G V6=>?_
 have u:G I=.box (.agg w.cs):=V6.get 0 _ _ rfl;have E:G n3=.box c.e:=V6.get 1 _ _ rfl;unfold Code.e at E;rw[ml (d:=c.e) E (by show 0+8<=8;omega) rfl,kn u,ml (d:=w.l.e) u (by show 0+2<=9;omega) rfl];refine bk (Ng hc) VI ?_;rintro _ rfl;rw[h0];have u5:(G I).used=true:=by rw[u];rfl
 have ad:∀{j:Nat}{i:Int}{K:D->Prop},0<=i->i<2->an PP (.iadda (.c (.ptr I 0 j)) (.c (.int .i64 i)) 2 1) G K=K (.ptr I 0 (j+i.toNat)):=λ {j i K} p q=>lT u p (by omega)
 have a5:∀{j:Nat}{i:Int}{KH:HKq},0<=i->i<2->ab PP (.iadda (.c (.ptr I 0 j)) (.c (.int .i64 i)) 2 1) G KH=KH (.ptr I 0 (j+i.toNat)) G:=λ {j i KH} p q=>ad (K:=λ d=>KH d G) p q
 simp (disch:=omega) only[↓cS,↓gS,↓et u,↓kn u,↓jc u5,↓kn E,ad,Int.toNat_zero,Int.toNat_one,Nat.add_zero,Nat.reduceAdd,↓aX u (j:=3) rfl,↓aX u (j:=4) rfl,↓cT u (j:=0) rfl,↓cT E (j:=0) rfl];refine⟨λ _ _=>¬IS c w,λ _ a8 a6=>by grind [jM],?_⟩;simp (disch:=omega) only[↓kn E,↓cT E (j:=5) rfl,↓kn u,↓cT u (j:=2) rfl]
 refine bk (Un (ms:=w.g) (by have:=hc.nar;omega) 1) (λ d hd=>by
  simp at hd;rcases hd with rfl|rfl|rfl
  ·exact bd3 rfl
  ·exact dT
  ·exact mO _) ?_
 rintro _ rfl;rw[Rv (λ a ha=>(hc.ar a ha).2.1) hm];simp (disch:=omega) only[↓gS,↓SR];obtain⟨mn,e1,p1,p2,p3⟩:=Y2 w.i0 w.i1;rw[e1];by_cases c1:mn<0
 ·simp (disch:=omega) only[↓cS,↓gS,ae,true_and];rintro⟨h,-⟩;omega
 simp (disch:=omega) only[↓cS,↓gS,↓Yb];obtain⟨mx,e2,q1,q2,q3⟩:=ab7 w.i0 w.i1;rw[e2];by_cases c2:w.l.groups*c.group<=mx
 ·simp (disch:=omega) only[↓cS,↓gS,ae,true_and];rintro⟨h,-⟩;omega
 simp (disch:=omega) only[↓cS,↓gS];by_cases c3:w.i0=w.i1
 ·simp (disch:=omega) only[↓cS,↓gS,ae,true_and];rintro⟨h,-⟩;omega
 simp (disch:=omega) only[↓cS,↓gS,↓kn u,a5,Int.toNat_zero,Int.toNat_one,Nat.add_zero,Nat.reduceAdd,↓cT u (j:=5) rfl,↓cT u (j:=6) rfl,↓SR];obtain⟨mq,e3,r1,r2,r3⟩:=Y2 w.n0 w.n1;rw[e3];by_cases c4:mq<0
 ·simp (disch:=omega) only[↓cS,↓gS,ae,true_and];rintro⟨-,h,-⟩;omega
 simp (disch:=omega) only[↓cS,↓gS,↓kn u,↓cT u (j:=7) rfl];by_cases c5:w.ar<0
 ·simp (disch:=omega) only[↓cS,↓gS,ae,true_and];rintro⟨-,h,-⟩;omega
 simp (disch:=omega) only[↓cS,↓gS,↓kn u,↓cT u (j:=7) rfl,↓kn E,↓cT E (j:=5) rfl];rw[gd,aE];by_cases c6:(c.arrays.length:Int)<=w.ar
 ·simp (disch:=omega) only[↓cS,↓gS,ae,true_and];rintro⟨-,h,-⟩;omega
 obtain⟨k,hk⟩:∃k:Nat,w.ar=(k:Int):=⟨w.ar.toNat,by omega⟩;obtain⟨r,hr,S⟩:=YT (c:=c) (k:=k) (by omega)
 have a7:kg c w.ar.toNat=r.len:=by
  grind [kg]
 have H:LZ c w.ar=r.space:=by rw[hk,S]
 simp (disch:=omega) only[↓cS,↓gS,↓et u,↓aX u (j:=8) rfl];have eA:∀{K:D->Prop},an PP (.iadd (.c (.sl (c.arrays.map fv.e))) (.c (.int .i64 w.ar)) 4) G K=K (.vp r.e 0):=λ {K}=>by rw[eD,hk,JL hr]
 have a1:∀{KH:HKq},ab PP (.iadd (.c (.sl (c.arrays.map fv.e))) (.c (.int .i64 w.ar)) 4) G KH=KH (.vp r.e 0) G:=λ {KH}=>by rw[hk,JL hr]
 have eF:∀{j:Nat}{K:D->Prop},an PP (.fadd (.c (.vp r.e 0)) j) G K=K (.vp r.e j):=λ {j K}=>by rw[qo,Nat.zero_add]
 have Z:∀{j:Nat}{KH:HKq},ab PP (.fadd (.c (.vp r.e 0)) j) G KH=KH (.vp r.e j) G:=λ {j KH}=>fav
 have V:∀{K:D->Prop},an PP (.ld (.c (.vp r.e 3)) 1 false) G K=K (.int .i64 r.len):=λ {K}=>by rw[fB];exact L8 rfl
 have W:∀{K:D->Prop},an PP (.ld (.c (.vp r.e 1)) 1 false) G K=K (.int .i64 r.space):=λ {K}=>by rw[fB];exact L8 rfl
 have O:∀{KH:HKq},ab PP (.ld (.c (.vp r.e 1)) 1 false) G KH=KH (.int .i64 r.space) G:=λ {KH}=>L8 rfl
 by_cases c7:w.ix<0
 ·simp (disch:=omega) only[↓cS,↓gS,↓Ma,ae,true_and];rintro⟨-,-,h,-⟩;omega
 simp (disch:=omega) only[↓cS,↓gS,↓et u,↓aX u (j:=8) rfl,↓et E,↓aX E (j:=5) rfl,↓aX u (j:=7) rfl,eA,eF,V,↓O1];by_cases c8:r.len<=w.ix
 ·simp (disch:=omega) only[↓cS,↓gS,ae,true_and];rintro⟨-,-,h,-⟩;omega
 simp (disch:=omega) only[↓cS,↓gS];refine⟨λ x _=>(x=[.bool true]/\IS c w)\/(x=[.bool false]/\¬IS c w),?_,?_⟩
 ·grind [ai,jM,ah,ae]
 have base:(0<=w.i0/\0<=w.i1/\w.i0<w.l.groups*c.group/\w.i1<w.l.groups*c.group/\w.i0≠w.i1)/\(0<=w.n0/\0<=w.n1/\0<=w.ar/\w.ar<(c.arrays.length:Int))/\(0<=w.ix/\w.ix<kg c w.ar.toNat):=by omega
 simp (disch:=omega) only[↓kn E,↓cT E (j:=5) rfl,↓kn u,↓cT u (j:=7) rfl,a1,Z,O];by_cases c9:r.space=1
 ·simp (disch:=omega) only[↓cS,↓gS,ae,true_and];exact Or.inl ⟨base.1,base.2.1,base.2.2,Or.inl (by rw[H];exact c9)⟩
 simp (disch:=omega) only[↓cS,↓gS,↓et E,↓aX E (j:=5) rfl,↓et u,↓aX u (j:=7) rfl,eA,eF,W];by_cases a2:r.space=2
 ·simp (disch:=omega) only[↓cS,↓gS,↓et E,↓aX E (j:=0) rfl,↓ss,ne_eq]
  have w0:IntKind.i64.wrap (w.i0.tdiv c.group)=w.i0.tdiv c.group:=by
   have:=Int.tdiv_nonneg (show 0<=w.i0 by omega) (show 0<=c.group by omega);have:=Int.tdiv_le_self c.group (show 0<=w.i0 by omega);grind [wrap64]
  have w1:IntKind.i64.wrap (w.i1.tdiv c.group)=w.i1.tdiv c.group:=by
   have:=Int.tdiv_nonneg (show 0<=w.i1 by omega) (show 0<=c.group by omega);have:=Int.tdiv_le_self c.group (show 0<=w.i1 by omega);grind [wrap64]
  have U:¬c.group=0:=by omega
  simp (disch:=omega) only[U,not_false_eq_true,true_and,w0,w1,↓et E,↓aX E (j:=0) rfl,↓ss,ne_eq];by_cases Q:w.i0.tdiv c.group=w.i1.tdiv c.group
  ·simp (disch:=omega) only[↓cS,↓gS,↓Ma,ae,true_and];exact Or.inl ⟨base.1,base.2.1,base.2.2,Or.inr ⟨by rw[H];exact a2,Q⟩⟩
  ·simp (disch:=omega) only[↓cS,↓gS,↓Ma,ae,true_and];refine Or.inr ?_;rintro⟨-,-,-,h|⟨-,h⟩⟩
   ·rw[H]at h;exact c9 h
   ·exact Q h
 ·simp (disch:=omega) only[↓cS,↓gS,↓O1,ae,true_and];refine Or.inr ?_;rintro⟨-,-,-,h|⟨h,-⟩⟩
  ·rw[H]at h;exact c9 h
  grind
theorem Yr {l:bG}{g:Nat}(hc:ba c) (hg:g<=1000):aV PP bT [.agg (gM c l),.int .i64 (g:Int)] (· = .sl (kK (bQ c g))):=by
 have Z:=hc.group;obtain⟨G,hG⟩:∃G:Nat,c.group=(G:Int):=⟨c.group.toNat,by omega⟩
 have a1:0<=(g:Int)*(G:Int)/\(g:Int)*(G:Int)<=8000:=by
  have h1:g*G<=1000*8:=Nat.mul_le_mul hg (by omega);grind
 refine ju (aI BF (aC _ _ _) rfl (AP _ _ _) ?_);dsimp only[sT,xB,xF,xL];refine Vs.nil.box lh λ u h4 U=>?_
 refine⟨λ x h'=>∃v,x=[v]/\QG 1 h' [(u,.box (.agg (gM c l)))] v (kK (bQ c g)),?_,?_⟩
 ·rintro f h7 ⟨v,hx,q⟩;simp only[av,and_true]at hx;rw[hx];rcases q with⟨-,h0,-⟩|⟨m,rfl,V⟩
  ·grind [bQ,kK,List.length_map]
  ·exact uF (by simp) (by simp) (.refl _) (fT (V.get 0 _ _ rfl) acg).d rfl
 have S:∀{h':Heap}{L:LSq}{KH:HKq},Vs h' ((u,.box (.agg (gM c l)))::L)->(ab PP (.fadd (.c (.ptr u 0 0)) 0) h' λ a8 h9=>ab PP (.fadd (.c a8) 0) h9 λ O I=>ab PP (.ld (.c O) 1 false) I KH)=KH (.int .i64 c.group) h':=λ Q=>by
  rw[Q.fa 0 rfl,Q.fa 0 rfl];exact Q.zp 0 (j:=0) rfl rfl
 rw[S U];dsimp only[oD,xF,xL];refine⟨λ b x h'=>∃(i:Nat) (v:D),x=[v,.int .i64 (i:Int)]/\b+i=G/\QG 1 h' [(u,.box (.agg (gM c l)))] v (kK ((bQ c g).take i)),G,⟨0,.nil,rfl,by omega,Or.inl ⟨rfl,rfl,U⟩⟩,?_⟩;rintro b f h1 ⟨i,v,hx,a2,q⟩;simp only[av,and_true]at hx;obtain⟨H,E⟩:=hx;simp only[H,E];have W:(bQ c g).length=G:=by grind [bQ]
 by_cases hi:i<G
 case neg =>
  grind [HZ,ah,List.take_of_length_le,ae]
 rw[DY (by omega),ai,S q.vs,hG];simp (disch:=omega) only[↓cS];refine q.push bh rfl (by grind [kK]) (by grind [kK]) λ v2 h2 q2=>?_
 simp (disch:=omega) only[↓cS,ae,true_and];refine⟨G-(i+1),by omega,i+1,v2,by simp,by omega,?_⟩;grind [bQ,kK,List.take_add_one]
end
end Go.Am
namespace Go.Am
open Go
def rpD (o:Option (List Ev×List Ev)):D:=match o with
 | none=>.agg [.nil,.nil]
 | some (a,b)=>.agg [.sl (a.map Ev.e),.sl (b.map Ev.e)]
theorem NX.f1 {v:D}{evs:List Ev}{A:LSq}{h:Heap}(b:NX 9 v (evs.map Ev.e) A) (hA:∀n s,(n,s)∈A->h n=s):LN h v (.sl (evs.map Ev.e)):=by
 rcases b with⟨rfl,h0,-⟩|⟨m,rfl,rfl⟩
 ·rw[h0];exact jB
 grind [fT,Vt]
theorem VO:de PP dk=true:=by kernel_rfl
section
variable {c:Code}{l:bG}{s:pC}{w:fU}{md:D}{h:Heap}{L:LSq}{KH:HKq}{K:D->Prop}
theorem W3 {h:Heap}{e:Int}{K:D->Prop}(hk:K (.tup [rpD none,.int .i64 e])):HA K (.tup [.agg [.nil,.nil],.int .i64 e]) h :=
 eE (.refl _) (.cons (Iv.agg (.cons (bD rfl) (.cons (bD rfl) .nil))) (.cons (bD rfl).d .nil)) hk
theorem VP (hc:ba c) (hl:bY c l) (hs:zf c l s) (h0:∀k,s.made k=0) (hf:∀b,(s.gs.find? (Ec (w.it b))).isSome=true) :
  aV PP cQ [.agg (gM c l),.agg (lE s .nilmap),.agg w.cs] (· = .tup [rpD (worksP c l s w),.bool (worksP c l s w).isSome]):=by
 refine ju ?_;refine NN (L:=[]) hc hl hs Vs.nil (Or.inl ⟨rfl,h0⟩) hf (λ hw h' u=>?_) λ G E hw v0 v1 I H h' b0 b1 u=>?_
 ·rw[hw];exact eE (.refl _) (.cons (Iv.agg (.cons (bD rfl) (.cons (bD rfl) .nil))) (.cons (bD rfl).d .nil)) rfl
 ·rw[hw];refine eE (.refl _) (.cons (Iv.agg (.cons (b0.f1 λ n s hm=>u.mem (by simp[hm])) (.cons (b1.f1 λ n s hm=>u.mem (by simp[hm])) .nil))) (.cons (bD rfl).d .nil)) rfl
theorem Px {m:Mm}{g:Int}(V:Vs h L) (hK:∀n4 n6 n8 h',Vs h' ((n6,.box (aZ m))::(n4,.box (.agg (gM c l)))::(n8,.box (.int .i64 g))::L)->KH (.fn dk [] [.ptr n8 0 0,.ptr n4 0 0,.ptr n6 0 0]) h') :
  ag PP iO [.agg (gM c l),aZ m,.int .i64 g] h KH:=by
 refine aI zm (aC _ _ _) rfl (zc _ _ _ _) ?_;dsimp only[rl,xB];refine V.box lh λ n4 O H=>?_
 refine H.box (mO m).2 λ n6 I G=>?_
 refine G.box (by simp) λ n8 u E=>?_
 simp only[↓xv,List.map_nil,List.map_cons,xw];exact hK n4 n6 n8 u (E.perm ((List.Perm.swap _ _ _).trans (.cons _ (List.Perm.swap _ _ _))))
def oj (c:Code) (w:fU):Int:=if IS c w then(if(mE c w).isSome then 0 else 4) else 1
def nw (c:Code) (w:fU):Option (List Ev×List Ev):=if IS c w then mE c w else none
theorem ot {x:Gr}{id:Int}(hc:ba c) (hs:Wp c l s) (hx:x∈s.gs) (hid:0<=id) (hxg:x.id=id.tdiv c.group):(s.gs.find? (Ec id)).isSome=true:=by
 have hg:=hc.group;refine U2 hc hs hx ?_;rw[hxg];have h1:=Int.mul_tdiv_add_tmod id c.group;have h2:=Int.tmod_nonneg c.group hid;have h3:=Int.tmod_lt_of_pos id (show 0<c.group by omega);grind
theorem VV (hc:cE c) (hl:bY c w.l) (h0:pv c w.l=0) (hm:cq c.arrays 1 w.g):aV PP tV [c.e,.agg w.cs] (· = .tup [rpD (nw c w),.int .i64 (oj c w)]):=by
 have hg:=hc.group;have hn:=hl.n;refine ju (aI HL (aC _ _ _) rfl (Hy _ _ _) ?_);dsimp only[Di,xB,xF,xL,xS,yF,yJ,yL];refine Vs.nil.box (kL c).2 λ n3 h4 V4=>?_
 refine V4.box w.bR.one λ n5 h6 V6=>?_
 refine V6.alloc λ S h8 V8=>?_
 refine V8.alloc λ Q c7 u=>?_
 have U:c7 n5=.box (.agg w.cs):=u.get 2 _ _ rfl;have g3:c7 n3=.box c.e:=u.get 3 _ _ rfl;unfold Code.e at g3;rw[ml (d:=c.e) g3 (by show 0+8<=8;omega) rfl,u.eR 2 (s:=9) rfl rfl]
 refine bk (Qz hc hl h0 hm) (λ d hd=>by
  simp at hd;rcases hd with rfl|rfl
  ·exact kL c
  ·exact w.bR.pair) ?_
 rintro _ rfl
 have fail:∀{h':Heap}{X:LSq}{e:Int},Vs h' ((Q,.box (.int .i64 0))::(S,.box (.agg [.nil,.nil]))::X)->nw c w=none->oj c w=e ->
   ab PP (.st (.c (.ptr S 0 0)) (.c (.agg [.nil,.nil])) 2) h' λ a20 j6=>ab PP (.st (.c (.ptr Q 0 0)) (.c (.int .i64 e)) 1) j6 λ a22 c6=>ab PP (.ld (.c (.ptr S 0 0)) 2 true) c6 λ j9 _=>ab PP (.ld (.c (.ptr Q 0 0)) 1 false) c6 λ j8 _ =>
   HA (· = .tup [rpD (nw c w),.int .i64 (oj c w)]) (.tup [j9,j8]) c6:=by
  intro h' X e W h1 h2;refine W.eU 1 rfl rfl rfl (λ x hx=>by simp at hx;rcases hx with rfl|rfl<;>rfl) λ h3 V3=>?_
  simp only[List.set_cons_zero,List.set_cons_succ]at V3;refine V3.zo 0 rfl rfl rfl λ h5 V5=>?_
  simp only[List.set_cons_zero]at V5;rw[V5.eR 1 (s:=2) rfl rfl,ub (V5.get 0 _ _ rfl) rfl,h1,h2];exact W3 rfl
 by_cases hp:IS c w
 case neg =>
  rw[if_neg hp];simp (disch:=omega) only[↓cS,↓gS];exact fail u (by unfold nw;rw[if_neg hp]) (by unfold oj;rw[if_neg hp])
 rw[if_pos hp];have hR:nw c w=mE c w:=by unfold nw;rw[if_pos hp]
 have hE:oj c w=if(mE c w).isSome then 0 else 4:=by unfold oj;rw[if_pos hp]
 obtain⟨⟨p1,p2,p3,p4,p5⟩,-⟩:=id hp;simp (disch:=omega) only[↓cS,↓gS];rw[ml (d:=c.e) g3 (by show 0+8<=8;omega) rfl,kn U,ml (d:=w.l.e) U (by show 0+2<=9;omega) rfl,fF rfl];refine u.alloc λ a5 k8 g4=>?_
 refine g4.eU 0 rfl rfl (cs':=gM c w.l) rfl lh λ V G=>?_
 simp only[List.set_cons_zero]at G;have U:V n5=.box (.agg w.cs):=G.get 3 _ _ rfl;have g3:V n3=.box c.e:=G.get 4 _ _ rfl;unfold Code.e at g3;have ad:∀{j:Nat}{i:Int}{K:D->Prop},0<=i->i<2->an PP (.iadda (.c (.ptr n5 0 j)) (.c (.int .i64 i)) 2 1) V K=K (.ptr n5 0 (j+i.toNat)):=λ {j i K} p q=>lT U p (by omega)
 have hq:∀{a:Int},0<=a->a<w.l.groups*c.group->0<=a.tdiv c.group/\a.tdiv c.group<w.l.groups/\IntKind.i64.wrap (a.tdiv c.group)=a.tdiv c.group:=by
  intro a ha hb;have q1:=Int.tdiv_nonneg ha (show 0<=c.group by omega)
  have q2:a.tdiv c.group<w.l.groups:=by
   have h1:=Int.mul_tdiv_add_tmod a c.group;have h2:=Int.tmod_nonneg c.group ha;by_cases c3:a.tdiv c.group<w.l.groups
   ·exact c3
   ·have:w.l.groups*c.group<=a.tdiv c.group*c.group:=Int.mul_le_mul_of_nonneg_right (by omega) (by omega);grind
  grind [wrap64]
 obtain⟨a1,a2,a3⟩:=hq p1 p3;obtain⟨b1,b2,b3⟩:=hq p2 p4;have j2:¬c.group=0:=by omega
 simp (disch:=omega) only[↓et U,↓et g3,ad,Int.toNat_zero,Int.toNat_one,Nat.add_zero,Nat.reduceAdd,↓aX U (j:=3) rfl,↓aX U (j:=4) rfl,↓aX g3 (j:=0) rfl,↓ss,a3,b3,ne_eq,j2,not_false_eq_true,true_and];by_cases e6:w.i0.tdiv c.group=w.i1.tdiv c.group
 case neg =>
  have I:mE c w=worksP c w.l (iQ c w.g (w.i0.tdiv c.group) (w.i1.tdiv c.group)) w:=by unfold mE;rw[if_neg e6]
  have j7:∀{K:D->Prop},an PP (.ld (.c (.ptr a5 0 0)) 10 true) V K=K (.agg (gM c w.l)):=gI (G.get 0 _ _ rfl) (by show 0+10<=10;omega) rfl;have e5:∀{K:D->Prop},an PP (.ld (.c (.ptr n5 0 0)) 9 true) V K=K (.agg w.cs):=gI U (by show 0+9<=9;omega) rfl;simp (disch:=omega) only[↓cS,↓gS,j7,↓et U,↓aX U (j:=2) rfl,e5]
  refine O6 (RK (m:=w.g) hc hl h0 ⟨a1,a2⟩ ⟨b1,b2⟩) (λ d hd=>by
   simp at hd;rcases hd with rfl|rfl|rfl|rfl
   ·exact GC.pair
   ·exact mO _
   ·exact dT
   ·exact dT) ?_
  have c2:=Ft hc hl hm ⟨a1,a2⟩ ⟨b1,b2⟩
  refine Ah (VP hc.toba hl c2 (λ k=>rfl) (λ b=>?_)) (λ d hd=>by
   simp at hd;rcases hd with rfl|rfl|rfl
   ·exact GC.pair
   ·exact(cF (by simp[lE,aZ,D.vone])).pair
   ·exact w.bR.pair) ?_
  ·cases b
   ·exact ot (x:=cw c (w.i0.tdiv c.group)) hc.toba c2.toWp (by simp[iQ]) p1 rfl
   ·exact ot (x:=cw c (w.i1.tdiv c.group)) hc.toba c2.toWp (by simp[iQ]) p2 rfl
  rw[<- I];simp only[↓xy,↓h_ext,List.getElem?_cons_zero,List.getElem?_cons_succ];refine G.alloc λ k2 k7 k1=>?_
  have j0:∃cs,rpD (mE c w)=.agg cs/\cs.length=2/\(∀x∈cs,x.vone=true):=by
   cases mE c w with
   | none=>exact⟨_,rfl,rfl,λ x hx=>by simp at hx;rcases hx with rfl|rfl<;>rfl⟩
   | some q=>exact⟨_,rfl,rfl,λ x hx=>by simp at hx;rcases hx with rfl|rfl<;>rfl⟩
  obtain⟨cs,e8,a7,e7⟩:=j0;have e9:∀x∈cs,x.one=true:=λ x hx=>D.cu (e7 x hx)
  rw[e8];refine k1.eU 0 rfl rfl a7 e9 λ k6 a8=>?_
  simp only[List.set_cons_zero]at a8;cases hs:(mE c w).isSome
  ·simp only[↓gS];have E:mE c w=none:=by simpa using hs
   exact fail a8.pop.pop (by rw[hR,E]) (by rw[hE,E];rfl)
  ·simp only[↓gS];rw[a8.eR 0 (s:=2) rfl a7];refine a8.eU 3 rfl rfl a7 e9 λ k5 g2=>?_
   simp only[List.set_cons_succ,List.set_cons_zero]at g2;refine g2.zo 2 rfl rfl rfl λ k4 c8=>?_
   simp only[List.set_cons_succ,List.set_cons_zero]at c8;rw[c8.eR 3 (s:=2) rfl a7,ub (c8.get 2 _ _ rfl) rfl,hE,hs,hR,e8];exact eE (.refl _) (.cons (Iv.XE e7).agg (.cons (bD rfl).d .nil)) rfl
 obtain⟨g,c4⟩:∃g:Nat,w.i0.tdiv c.group=(g:Int):=⟨(w.i0.tdiv c.group).toNat,by omega⟩;have I:mE c w=(fI c w.l w.g g).findSome? λ s=>worksP c w.l s w:=by grind [mE]
 simp (disch:=omega) only[↓cS,↓gS];refine⟨λ _ h'=>mE c w=none/\∃X,Vs h' ((Q,.box (.int .i64 0))::(S,.box (.agg [.nil,.nil]))::X),?_,?_⟩
 ·rintro _ k3 ⟨E,X,k0⟩;exact fail k0 (by rw[hR,E]) (by rw[hE,E];rfl)
 rw[ml (G.get 0 _ _ rfl) (by show 0+10<=10;omega) rfl,kn U,cT U (j:=2) rfl,c4];refine Px (c:=c) (l:=w.l) (m:=w.g) (g:=(g:Int)) G λ m4 m6 m8 j5 g1=>?_
 refine⟨rfl,VO,λ nk B ht hB j1 _ c3 j4 j3=>?_⟩;have g0:=g1.push ht.free (s:=.lp .ready B) (by simp);obtain⟨R0,c5⟩:∃R0,R0=[(a5,Slot.box (.agg (gM c w.l))),(n5,.box (.agg w.cs)),(n3,.box c.e)]:=⟨_,rfl⟩;have g8:(a5,Slot.box (.agg (gM c w.l)))∈R0:=by rw[c5];simp
 have r5:(n5,Slot.box (.agg w.cs))∈R0:=by rw[c5];simp
 have g7:Vs (ak j5 nk (.lp .ready B)) ((m6,.box (aZ w.g))::(m4,.box (.agg (gM c w.l)))::(m8,.box (.int .i64 (g:Int)))::((nk,.lp .ready B)::(Q,.box (.int .i64 0))::(S,.box (.agg [.nil,.nil]))::R0)):=by
  have p1:=g0.perm ((List.perm_middle (l₁:=[_,_,_])).symm:List.Perm _ _);rw[c5];refine p1.perm (.cons _ (.cons _ (.cons _ (.cons _ ?_))));exact(List.perm_middle (l₁:=[(Q,Slot.box (.int .i64 0)),(S,.box (.agg [.nil,.nil]))])).symm
 clear g0 g1 G g4 u V8 V6 V4;have c1:=BP hc hl hm (g:=g) (by omega)
 have e4:∀s,s∈fI c w.l w.g g->∀b,(s.gs.find? (Ec (w.it b))).isSome=true:=by
  intro s hs b;obtain⟨q1,y,q2,q3⟩:=c1 s hs;cases b
  ·exact ot (x:=y) hc.toba q1.toWp (by rw[q2];simp) p1 (by rw[q3];exact c4.symm)
  ·exact ot (x:=y) hc.toba q1.toWp (by rw[q2];simp) p2 (by rw[q3, <- c4];exact e6)
 have round:∀(N:LSq) (s:pC) (md:D) (h':Heap) (O:HKq),s∈fI c w.l w.g g->EH N md s.made->Vs h' (N++((nk,.lp .ready B)::(Q,.box (.int .i64 0))::(S,.box (.agg [.nil,.nil]))::R0)) ->
   (worksP c w.l s w=none->∀H,Vs H ((nk,.lp .ready B)::(Q,.box (.int .i64 0))::(S,.box (.agg [.nil,.nil]))::(R0++N))->O (.bool true) H) ->
   (∀e0 e1,worksP c w.l s w=some (e0,e1)->∀v0 v1 A0 A1 H,NX 9 v0 (e0.map Ev.e) A0->NX 9 v1 (e1.map Ev.e) A1->Vs H ((nk,.lp (.done .ret) B)::(Q,.box (.int .i64 0))::(S,.box (.agg [v0,v1]))::(A0++A1))->O (.bool false) H) ->
   ab PP (.callv (.c (.yld nk)) [.c (.agg (lE s md))]) h' O:=by
  intro N s md h' O hs a6 W hN hS;obtain⟨q1,-⟩:=c1 s hs;have V1:=W.perm List.perm_append_comm;simp only[List.cons_append]at V1;rw[Mz];refine⟨⟨_,_,V1.get 0 _ _ rfl⟩,?_⟩;refine mU (e:=[(3,.ptr n5 0 0),(4,.ptr S 0 0),(5,.ptr Q 0 0),(7,.ptr a5 0 0)]) (V1.get 0 _ _ rfl) j1 j4 j3 (by simp) c3 rfl hB ?_;rw[show([Arg.c (D.agg (lE s md))].map λ x=>x.get [])=[.agg (lE s md)] from rfl, <- CN];dsimp only[vw,xL,xS];refine V1.alloc λ n1 h2 Z=>?_
  refine Z.eU 0 rfl rfl (cs':=lE s md) rfl (su a6) λ h3 V3=>?_
  simp only[List.set_cons_zero]at V3;refine⟨rfl,V3.get 1 _ _ rfl,?_⟩;have V4:=V3.aM 1 rfl (s':=.lp .busy B) (by simp);simp only[List.set_cons_zero,List.set_cons_succ]at V4;generalize ak h3 nk (Slot.lp .busy B)=h4 at V4;rw[ml (cs:=gM c w.l) (d:=.agg (gM c w.l)) (V4.mem (by simp[g8])) (by show 0+10<=10;omega) rfl,V4.eR 0 (s:=3) rfl rfl,ml (cs:=w.cs) (d:=.agg w.cs) (V4.mem (by simp[r5])) (by show 0+9<=9;omega) rfl];refine NN hc.toba hl q1 V4 (a6.mono λ x hx=>by simp[hx]) (e4 s hs) (λ hw h5 V5=>?_) λ e0 e1 hw v0 v1 A0 A1 h5 b0 b1 V5=>?_
  ·simp only[↓h_ext,List.getElem?_cons_zero,List.getElem?_cons_succ];refine V5.alloc λ g9 h6 V6=>?_
   refine V6.eU 0 rfl rfl (cs':=[.nil,.nil]) rfl (λ x hx=>by simp at hx;rcases hx with rfl|rfl<;>rfl) λ h7 V7=>?_
   simp only[List.set_cons_zero]at V7;simp only[↓gS];have V8:=V7.pop.pop;refine⟨V8.get 0 _ _ rfl,hN hw _ ?_⟩;have V9:=V8.aM 0 rfl (s':=.lp .ready B) (by simp);exact V9
  ·simp only[↓h_ext,List.getElem?_cons_zero,List.getElem?_cons_succ];refine V5.alloc λ g9 h6 V6=>?_
   refine V6.eU 0 rfl rfl (cs':=[v0,v1]) rfl (λ x hx=>by simp at hx;rcases hx with rfl|rfl;exact b0.one;exact b1.one) λ h7 V7=>?_
   simp only[List.set_cons_zero]at V7;simp only[↓gS];rw[V7.eR 0 (s:=2) rfl rfl]
   have V8:Vs h7 ((n1,.box (.agg (lE s md)))::(nk,.lp .busy B)::(Q,.box (.int .i64 0))::(S,.box (.agg [.nil,.nil]))::((R0++N)++(A0++A1))):=by
    refine V7.pop.perm ?_;grind [List.perm_append_comm]
   refine V8.eU 3 rfl rfl (cs':=[v0,v1]) rfl (λ x hx=>by simp at hx;rcases hx with rfl|rfl;exact b0.one;exact b1.one) λ h9 V9=>?_
   simp only[List.set_cons_zero,List.set_cons_succ]at V9;refine V9.zo 2 rfl rfl rfl λ c7 u=>?_
   simp only[List.set_cons_zero,List.set_cons_succ]at u;refine⟨u.get 1 _ _ rfl,hS e0 e1 hw v0 v1 A0 A1 _ b0 b1 ?_⟩;have g6:=u.aM 1 rfl (s':=.lp (.done .ret) B) (by simp);simp only[List.set_cons_zero,List.set_cons_succ]at g6;exact g6.pop.sub ((((List.sublist_append_right _ _).cons_cons _).cons_cons _).cons_cons _)
 refine Lj (fq:=λ s=>worksP c w.l s w) (Lq:=λ y h'=>∃v0 v1 A0 A1,NX 9 v0 (y.1.map Ev.e) A0/\NX 9 v1 (y.2.map Ev.e) A1/\Vs h' ((nk,.lp (.done .ret) B)::(Q,.box (.int .i64 0))::(S,.box (.agg [v0,v1]))::(A0++A1))) hc hl h0 hm (by omega) g7 ?_ ?_ ?_ ?_
 ·intro N s md h' O hs a6 W hw hk;refine round N s md h' O hs a6 W (λ _ H Z=>hk H (Z.perm ?_)) λ e0 e1 c9=>?_
  ·grind [List.perm_append_comm]
  ·rw[hw]at c9;cases c9
 ·grind
 ·intro E h' W;rw[<- I]at E;show ct _ _ _ _ _
  unfold ct;rw[W.get 0 _ _ rfl];simp only[ae,true_and];have Z:=W.aM 0 rfl (s':=.dead) (by simp);exact⟨E,R0,Z.pop⟩
 ·rintro⟨e0,e1⟩ hy h' ⟨v0,v1,A0,A1,b0,b1,W⟩;rw[<- I]at hy;show ct _ _ _ _ _
  unfold ct;rw[W.get 0 _ _ rfl];refine Or.inl ?_;have Z:=(W.aM 0 rfl (s':=.dead) (by simp)).pop;rw[Z.eR 1 (s:=2) rfl rfl,ub (Z.get 0 _ _ rfl) rfl,hE,hR,hy];refine eE (.refl _) (.cons (Iv.agg (.cons (b0.f1 λ n s hm=>Z.mem (by simp[hm])) (.cons (b1.f1 λ n s hm=>Z.mem (by simp[hm])) .nil))) (.cons (bD rfl).d .nil)) rfl
end
end Go.Am
