/- What the functions of this chapter give, on plain data. No condition. -/
import Derived.Test.YtemgkmgmnnaloaaP2
set_option linter.unnecessarySimpa false
set_option linter.defProp false
set_option linter.unusedSectionVars false
set_option linter.unusedSimpArgs false
set_option linter.unusedVariables false
namespace Go.Am
open Go
def Ui (a b:Ev):Prop:=a.kind=b.kind/\a.op=b.op/\a.item=b.item/\a.arr=b.arr/\a.i=b.i/\a.v=b.v
inductive nh:List Ev->List Ev->Prop where
 | nil:nh [] []
 | cons {a b:Ev}{r s:List Ev}(h:Ui a b) (k:nh r s):nh (a::r) (b::s)
theorem nh.app:∀{a b c d:List Ev},nh a b->nh c d->nh (a++c) (b++d)
 | _,_,_,_,.nil,k=>k
 | _,_,_,_,.cons h r,k=>.cons h (r.app k)
theorem nh.rfl:∀{a:List Ev},nh a a
 | []=>.nil
 | _::_=>.cons ⟨Eq.refl _,Eq.refl _,Eq.refl _,Eq.refl _,Eq.refl _,Eq.refl _⟩ nh.rfl
theorem nh.len {a b:List Ev}(h:nh a b):a.length=b.length:=by
 induction h with
 | nil=>exact Eq.refl _
 | cons _ _ ih=>simp[ih]
theorem nh.get {a b:List Ev}(h:nh a b):∀{i:Nat}{x y:Ev},a[i]?=some x->b[i]?=some y->Ui x y:=by
 induction h with
 | nil=>intro i x y h;simp at h
 | cons h k ih =>
  intro i x y h1 h2
  cases i with
  | zero=>simp at h1 h2;subst h1 h2;exact h
  | succ i=>exact ih (by simpa using h1) (by simpa using h2)
structure JP (a b:St):Prop where
 regs:a.regs=b.regs
 mem:∀s,1<=s->s<=3->a.mem s=b.mem s
def HG (c:Code) (e:Ev):List Ev:=if e.kind≠4/\bh c e.arr.toNat=3 then [] else [e]
theorem lY {c:Code}{st:St}{e:Ev}:st.tell c e={ st with ev:=st.ev++HG c e }:=by
 unfold St.tell HG
 split<;>simp
theorem Ds {c:Code}{e f:Ev}(h:Ui e f):nh (HG c e) (HG c f):=by
 obtain⟨h1,h2,h3,h4,h5,h6⟩:=h
 unfold HG
 rw[h1,h4]
 split
 ·exact .nil
 ·exact .cons ⟨h1,h2,h3,h4,h5,h6⟩ .nil
theorem JP.put {a b:St}(h:JP a b){s k i:Nat}(hs:1<=s/\s<=3){v:Int}:JP (a.put s k i v) (b.put s k i v):=by
 refine⟨h.regs,fun s' h1 h2=>?_⟩
 show ah a.mem s (FT (a.mem s) k i v) s'=ah b.mem s (FT (b.mem s) k i v) s'
 rw[h.mem s hs.1 hs.2]
 by_cases e:s'=s
 ·subst e;rw[ad,ad]
 ·rw[aa _ _ e,aa _ _ e];exact h.mem s' h1 h2
section
variable {c:Code}{l:dk}{id:Int}
def Ua (a b:St) (x y:Option St):Prop:=(x=none/\y=none)\/∃a' b' es fs,x=some a'/\y=some b'/\JP a' b'/\a'.ev=a.ev++es/\b'.ev=b.ev++fs/\nh es fs
theorem Lz {x:aN}{a b:St}{e f:Ev}(hc:bj c) (hx:lP c x) (h:JP a b) (he:e.item=f.item) (he2:e.op=f.op/\e.arr=f.arr/\e.i=f.i/\e.v=f.v):Ua a b (cH c l id x e a) (cH c l id x f b):=by
 obtain⟨o1,o2,o3,o4⟩:=he2
 unfold cH
 rw[h.regs]
 by_cases h7:x.op=7
 ·rw[if_pos h7,if_pos h7]
  split
  ·obtain⟨k,hk1,hk2,-,-⟩:=hx.acc (Or.inl h7)
   rw[hk1,Int.toNat_natCast]
   obtain⟨s1,s2⟩:=fQ hc hk2
   have ew:a.word (bh c k) k (aX b.regs x.a).toNat=b.word (bh c k) k (aX b.regs x.a).toNat:=by unfold St.word;rw[h.mem _ s1 s2]
   rw[ew]
   dsimp only
   rw[lY,lY]
   refine Or.inr ⟨_,_,_,_,rfl,rfl,⟨by show a.regs.set _ _=b.regs.set _ _;rw[h.regs],h.mem⟩,rfl,rfl,Ds ⟨rfl,o1,he,rfl,rfl,rfl⟩⟩
  ·exact Or.inl ⟨rfl,rfl⟩
 rw[if_neg h7,if_neg h7]
 by_cases h8:x.op=8
 ·rw[if_pos h8,if_pos h8]
  split
  ·obtain⟨k,hk1,hk2,-,-⟩:=hx.acc (Or.inr (Or.inl h8))
   rw[hk1,Int.toNat_natCast]
   have p:=h.put (fQ hc hk2) (k:=k) (i:=(aX b.regs x.a).toNat) (v:=aX b.regs x.b)
   rw[lY,lY]
   exact Or.inr ⟨_,_,_,_,rfl,rfl,⟨p.regs,p.mem⟩,rfl,rfl,Ds ⟨rfl,o1,he,rfl,rfl,rfl⟩⟩
  ·exact Or.inl ⟨rfl,rfl⟩
 rw[if_neg h8,if_neg h8]
 by_cases h9:x.op=9
 ·rw[if_pos h9,if_pos h9]
  split
  ·obtain⟨k,hk1,hk2,-,-⟩:=hx.acc (Or.inr (Or.inr h9))
   rw[hk1,Int.toNat_natCast]
   obtain⟨s1,s2⟩:=fQ hc hk2
   have ew:a.word (bh c k) k (aX b.regs x.a).toNat=b.word (bh c k) k (aX b.regs x.a).toNat:=by unfold St.word;rw[h.mem _ s1 s2]
   rw[ew]
   have p:=h.put (fQ hc hk2) (k:=k) (i:=(aX b.regs x.a).toNat) (v:=jZ x.sub (b.word (bh c k) k (aX b.regs x.a).toNat) (aX b.regs x.b))
   rw[lY,lY]
   exact Or.inr ⟨_,_,_,_,rfl,rfl,⟨p.regs,p.mem⟩,rfl,rfl,Ds ⟨rfl,rfl,he,rfl,rfl,rfl⟩⟩
  ·exact Or.inl ⟨rfl,rfl⟩
 rw[if_neg h9,if_neg h9]
 by_cases h10:x.op=10
 ·rw[if_pos h10,if_pos h10,lY,lY]
  exact Or.inr ⟨_,_,_,_,rfl,rfl,⟨h.regs,h.mem⟩,rfl,rfl,Ds ⟨rfl,rfl,he,o2,o3,o4⟩⟩
 rw[if_neg h10,if_neg h10]
 exact Or.inr ⟨_,_,[],[],rfl,rfl,⟨by show a.regs.set _ _=b.regs.set _ _;rw[h.regs],h.mem⟩,by simp[St.ox],by simp[St.ox],.nil⟩
theorem HN {t1 t2 b1 b2:Int}(hc:bj c):∀(xs:List aN) (k1 k2:Nat) (a b:St),(∀x∈xs,lP c x)->JP a b->Ua a b (runP c l id t1 b1 xs k1 a) (runP c l id t2 b2 xs k2 b)
 | [],_,_,a,b,_,h=>Or.inr ⟨a,b,[],[],rfl,rfl,h,by simp,by simp,.nil⟩
 | x::r,k1,k2,a,b,hx,h=>by
  simp only[runP]
  rcases Lz (l:=l) (id:=id) (e:=QV id t1 b1 k1) (f:=QV id t2 b2 k2) hc (hx x (by simp)) h rfl ⟨rfl,rfl,rfl,rfl⟩ with⟨e1,e2⟩|⟨a',b',es,fs,e1,e2,h',e3,e4,e5⟩
  ·rw[e1,e2];exact Or.inl ⟨rfl,rfl⟩
  ·rw[e1,e2]
   simp only[Option.bind_some]
   rcases HN hc r (k1+1) (k2+1) a' b' (fun y hy=>hx y (by simp[hy])) h' with⟨g1,g2⟩|⟨a2,b2',es2,fs2,g1,g2,g3,g4,g5,g6⟩
   ·exact Or.inl ⟨g1,g2⟩
   ·exact Or.inr ⟨a2,b2',es++es2,fs++fs2,g1,g2,g3,by rw[g4,e3,List.append_assoc],by rw[g5,e4,List.append_assoc],e5.app g6⟩
theorem HO {t b:Int}:∀(xs ys:List aN) (k:Nat) (st:St),runP c l id t b (xs++ys) k st=(runP c l id t b xs k st).bind (runP c l id t b ys (k+xs.length))
 | [],ys,k,st=>rfl
 | x::r,ys,k,st=>by
  simp only[List.cons_append,runP,List.length_cons]
  cases cH c l id x (QV id t b k) st with
  | none=>rfl
  | some s1 =>
   simp only[Option.bind_some]
   rw[HO r ys (k+1) s1,show k+1+r.length=k+(r.length+1) by omega]
def ED (n:Nat):Term:=⟨1,0,an,an,an,(n:Int),0⟩
def fI (c:Code) (b k:Nat) (Q:Block):Code:={ c with b:=c.b.set b ⟨Q.i.take k,ED c.b.length⟩++[⟨Q.i.drop k,Q.t⟩] }
theorem Ly {b k:Nat}{Q:Block}{x:aN}{e:Ev}{st:St}:cH (fI c b k Q) l id x e st=cH c l id x e st:=rfl
theorem Ei {b k:Nat}{Q:Block}{t bb:Int}:∀(xs:List aN) (n:Nat) (st:St),runP (fI c b k Q) l id t bb xs n st=runP c l id t bb xs n st
 | [],_,_=>rfl
 | x::r,n,st=>by
  simp only[runP,Ly]
  congr 1
  funext s
  exact Ei r (n+1) s
theorem Dr {b k:Nat}{Q:Block}:(fI c b k Q).b.length=c.b.length+1:=by simp[fI]
theorem Mq {b k:Nat}{Q:Block}(hb:b<c.b.length):(fI c b k Q).b[b]?=some ⟨Q.i.take k,ED c.b.length⟩:=by
 show(c.b.set b _++[_])[b]?=_
 rw[List.getElem?_append_left (by simpa using hb),List.getElem?_set_self hb]
theorem JY {b k:Nat}{Q:Block}:(fI c b k Q).b[c.b.length]?=some ⟨Q.i.drop k,Q.t⟩:=by
 show(c.b.set b _++[_])[c.b.length]?=_
 rw[List.getElem?_append_right (by simp)];simp
theorem S7 {b k:Nat}{Q:Block}(hc:bj c) (hb:b<c.b.length) (hn:c.b.length<=99) (hQ:Q∈c.b):bj (fI c b k Q) where
 group:=hc.group
 sub:=hc.sub
 regs:=hc.regs
 slots:=hc.slots
 params:=hc.params
 nar:=hc.nar
 ar:=hc.ar
 nb:=by rw[Dr];omega
 xs:=by
  intro B hB
  rw[Dr]
  have ok:∀x,lP c x->lP (fI c b k Q) x:=fun x h=>⟨h.ok,h.n,h.p⟩
  obtain⟨q1,q2,q3⟩:=hc.xs Q hQ
  rcases List.mem_append.1 hB with hB|hB
  ·rcases List.mem_or_eq_of_mem_set hB with hB|rfl
   ·obtain⟨h1,h2,h3⟩:=hc.xs B hB
    exact⟨fun x hx=>ok x (h1 x hx),h2,h3.mono (by omega) (Int.le_refl _)⟩
   ·refine⟨fun x hx=>ok x (q1 x (List.mem_of_mem_take hx)),by simp;omega,?_⟩
    exact .jump c.b.length (by omega)
  ·simp at hB;subst hB
   exact⟨fun x hx=>ok x (q1 x (List.mem_of_mem_drop hx)),by simp;omega,q3.mono (by omega) (Int.le_refl _)⟩
def FV (b:Int) (N:Nat) (it:It):It:=if it.at_=2/\it.block=(N:Int) then { it with block:=b } else it
theorem Pd {it:It}{g s:Mm}{b k:Nat}{Q:Block}(hc:bj c) (hl:js c l) (h:Q9 c l it) (hg:fY c.arrays 1 g) (hs:fY c.arrays 2 s) (ha:it.at_=1) (hb:it.block=(b:Int)) (hQ:c.b[b]?=some Q){f:pE}(hf:f=bS (fI c b k Q) l it g s 0) :
  (f.e≠0->(bS c l it g s 0).e=f.e)/\(f.e=0->L0 (fI c b k Q) l f.it/\(fY c.arrays 1 f.g/\fY c.arrays 2 f.s) /\
   let q:=bS (fI c b k Q) l f.it f.g f.s 0
   (q.e≠0->(bS c l it g s 0).e=q.e/\(bS c l it g s 0).g=g) /\
   (q.e=0->(bS c l it g s 0).e=0/\nh (f.ev++q.ev) (bS c l it g s 0).ev/\FV it.block c.b.length q.it=(bS c l it g s 0).it/\q.g=(bS c l it g s 0).g/\q.s=(bS c l it g s 0).s)):=by
 have hbl:b<c.b.length:=(List.getElem?_eq_some_iff.1 hQ).1
 have hQm:Q∈c.b:=List.mem_of_getElem? hQ
 obtain⟨hxs,hxl,hT⟩:=hc.xs Q hQm
 have in1:m4 c it.block=Q.i:=by rw[hb];simp[m4,hQ]
 have tm1:dg c it.block=Q.t:=by rw[hb];simp[dg,hQ]
 have in2:m4 (fI c b k Q) it.block=Q.i.take k:=by rw[hb];simp[m4,Mq hbl]
 have tm2:dg (fI c b k Q) it.block=ED c.b.length:=by rw[hb];simp[dg,Mq hbl]
 have in3:m4 (fI c b k Q) (c.b.length:Int)=Q.i.drop k:=by simp[m4,JY]
 have tm3:dg (fI c b k Q) (c.b.length:Int)=Q.t:=by simp[dg,JY]
 have w0:qA c (wF it g s):=GH h.toL0 hg hs
 have whole:runP c l it.id 0 it.block Q.i 0 (wF it g s)=(runP c l it.id 0 it.block (Q.i.take k) 0 (wF it g s)).bind (runP c l it.id 0 it.block (Q.i.drop k) (0+(Q.i.take k).length)):=by
  rw[<- HO,List.take_append_drop]
 have ef:f=match runP c l it.id 0 it.block (Q.i.take k) 0 (wF it g s) with
   | none=>⟨it,g,s,[],70⟩
   | some st=>⟨aP (fI c b k Q) { it with regs:=st.regs,priv:=st.mem 3 },st.mem 1,st.mem 2,st.ev,0⟩:=by
  rw[hf];unfold bS;rw[if_neg (by omega),in2,Ei];rfl
 have ew:bS c l it g s 0=match (runP c l it.id 0 it.block (Q.i.take k) 0 (wF it g s)).bind (runP c l it.id 0 it.block (Q.i.drop k) (0+(Q.i.take k).length)) with
   | none=>⟨it,g,s,[],70⟩
   | some st=>⟨aP c { it with regs:=st.regs,priv:=st.mem 3 },st.mem 1,st.mem 2,st.ev,0⟩:=by
  unfold bS;rw[if_neg (by omega),in1,whole];rfl
 cases e1:runP c l it.id 0 it.block (Q.i.take k) 0 (wF it g s) with
 | none =>
  rw[e1]at ef ew
  refine⟨fun _=>?_,fun h0=>?_⟩
  ·rw[ew,ef];rfl
  ·rw[ef]at h0;cases h0
 | some st =>
  rw[e1]at ef ew
  obtain⟨w1,-⟩:=GJ hc hl _ _ _ _ (fun x hx=>hxs x (List.mem_of_mem_take hx)) w0 e1
  simp only[Option.bind_some]at ew
  have lv:aP (fI c b k Q) { it with regs:=st.regs,priv:=st.mem 3 }=⟨it.id,it.at_,(c.b.length:Int),it.epoch,st.regs,st.mem 3⟩:=by
   unfold aP;rw[show({ it with regs:=st.regs,priv:=st.mem 3 }:It).block=it.block from rfl,tm2];rfl
  simp only[lv]at ef
  refine⟨fun h0=>?_,fun _=>?_⟩
  ·rw[ef]at h0;simp at h0
  refine⟨?_,by rw[ef];exact⟨w1.mem 1 (by omega) (by omega),w1.mem 2 (by omega) (by omega)⟩,?_⟩
  ·rw[ef]
   exact⟨h.id,Or.inl ha,⟨by show(0:Int)<=(c.b.length:Int);omega,by rw[Dr];show(c.b.length:Int)<_;omega⟩,w1.len,w1.regs,w1.mem 3 (by omega) (by omega)⟩
  have sim:JP st (wF ⟨it.id,it.at_,(c.b.length:Int),it.epoch,st.regs,st.mem 3⟩ (st.mem 1) (st.mem 2)):=⟨rfl,fun s' h1 h2=>by
   have:s'=1\/s'=2\/s'=3:=by omega
   rcases this with rfl|rfl|rfl<;>rfl⟩
  have eq2:bS (fI c b k Q) l f.it f.g f.s 0=match runP c l it.id 0 (c.b.length:Int) (Q.i.drop k) 0 (wF ⟨it.id,it.at_,(c.b.length:Int),it.epoch,st.regs,st.mem 3⟩ (st.mem 1) (st.mem 2)) with
    | none=>⟨f.it,f.g,f.s,[],70⟩
    | some st'=>⟨aP (fI c b k Q) { f.it with regs:=st'.regs,priv:=st'.mem 3 },st'.mem 1,st'.mem 2,st'.ev,0⟩:=by
   rw[ef];unfold bS;rw[if_neg (by show ¬it.at_≠1;omega)]
   show(match runP (fI c b k Q) l it.id 0 (c.b.length:Int) (m4 (fI c b k Q) (c.b.length:Int)) 0 _ with|none=>_|some st=>_)=_
   rw[in3,Ei]
  rcases HN (l:=l) (id:=it.id) (t1:=0) (t2:=0) (b1:=it.block) (b2:=(c.b.length:Int)) hc (Q.i.drop k) (0+(Q.i.take k).length) 0 st _ (fun x hx=>hxs x (List.mem_of_mem_drop hx)) sim with⟨g1,g2⟩|⟨a',b',es,fs,g1,g2,g3,g4,g5,g6⟩
  ·rw[g1]at ew
   rw[g2]at eq2
   show(_->_)/\(_->_)
   rw[eq2,ew]
   exact⟨fun _=>⟨rfl,rfl⟩,fun h0=>by cases h0⟩
  ·rw[g1]at ew
   rw[g2]at eq2
   show(_->_)/\(_->_)
   rw[eq2,ew]
   refine⟨fun h0=>absurd rfl h0,fun _=>⟨rfl,?_,?_,(g3.mem 1 (by omega) (by omega)).symm,(g3.mem 2 (by omega) (by omega)).symm⟩⟩
   ·show nh (f.ev++b'.ev) a'.ev
    rw[ef,g4,g5]
    have ev0':(wF (⟨it.id,it.at_,(c.b.length:Int),it.epoch,st.regs,st.mem 3⟩:It) (st.mem 1) (st.mem 2)).ev=[]:=rfl
    rw[ev0',List.nil_append]
    have sy:∀{a b:List Ev},nh a b->nh b a:=fun {a b} h=>by
     induction h with
     | nil=>exact .nil
     | cons h k ih=>exact .cons ⟨h.1.symm,h.2.1.symm,h.2.2.1.symm,h.2.2.2.1.symm,h.2.2.2.2.1.symm,h.2.2.2.2.2.symm⟩ ih
    exact nh.rfl.app (sy g6)
   ·show FV it.block c.b.length (aP (fI c b k Q) { f.it with regs:=b'.regs,priv:=b'.mem 3 })=aP c { it with regs:=a'.regs,priv:=a'.mem 3 }
    rw[ef, <- g3.regs, <- g3.mem 3 (by omega) (by omega)]
    unfold aP
    show FV it.block c.b.length (let t:=dg (fI c b k Q) (c.b.length:Int);_)=(let t:=dg c it.block;_)
    rw[tm3,tm1]
    simp only
    split
    ·unfold FV;rw[if_neg (by rintro⟨h,-⟩;have:it.at_=2:=h;omega)]
    split
    ·unfold FV;rw[if_neg (by rintro⟨h,-⟩;have:it.at_=2:=h;omega)]
    split
    ·unfold FV;rw[if_neg (by rintro⟨h,-⟩;have:(3:Int)=2:=h;omega)];rfl
    ·unfold FV;rw[if_pos ⟨rfl,rfl⟩]
end
end Go.Am
namespace Go.Am
open Go
theorem DF {P:Program}{h:Heap}{ro:Ro}{KH:HK}{z:D}{n esz bytes:Nat}{els xs:List D}(hn:h n=.arr esz els) (rn:ro n=.ev) (hc:∀d∈xs,d.cells.length=esz) (ho:∀d∈xs,aw d)
  (hb:(els.length+xs.length)*bytes<=140737488355328/\els.length+xs.length<=9223372036854775807)
  (hk:∀q h' ro',h' q=.arr esz (els++xs)->ro' q=.ev->Fr ro h ro' h'->KH (.ms q 0 (els++xs).length) h'):ab P (.app (.c (.ms n 0 els.length)) (.c (.sl xs)) esz bytes z) h KH:=by
 refine⟨hc,ho,els,hn,rfl,rfl,hb,fun q t=>?_⟩
 have hn0:h n≠.free:=bU hn
 have:=hk q (ah (ah h n .dead) q (.arr esz (els++xs))) (ah ro q .ev) (ad _ _ _) (ad _ _ _) (fun k hk'=>by
  have kq:=t.ne hk'
  refine⟨aa _ _ kq,?_,fun hr=>?_⟩
  ·rw[aa _ _ kq]
   by_cases e:k=n
   ·subst e;rw[ad];simp
   ·rw[aa _ _ e];exact hk'
  ·rw[aa _ _ kq,aa _ _ (by rintro rfl;rw[rn]at hr;cases hr)])
 simpa using this
theorem Mv {P:Program}{h:Heap}{KH:HK}{xs:List D}{k n:Nat}(hk:k<=xs.length) (hc:∀d∈xs,d.cells.length=n):ab P (.slc (.c (.sl xs)) none (some (.c (.int .i64 (k:Int)))) none n) h KH=KH (.sl (xs.take k)) h:=by
 simp only[G2,zu,zt]
 apply propext
 constructor
 ·rintro⟨-,-,-,-,-,h⟩;simpa using h
 ·intro h;exact⟨by omega,by omega,by omega,by omega,hc,by simpa using h⟩
theorem Mw {P:Program}{h:Heap}{KH:HK}{xs:List D}{k n:Nat}(hk:k<=xs.length) (hc:∀d∈xs,d.cells.length=n):ab P (.slc (.c (.sl xs)) (some (.c (.int .i64 (k:Int)))) none none n) h KH=KH (.sl (xs.drop k)) h:=by
 simp only[G2,zu,zt]
 have e:(xs.drop ((k:Int)).toNat).take (((xs.length:Int))-(k:Int)).toNat=xs.drop k:=by
  rw[Int.toNat_natCast];exact List.take_of_length_le (by simp)
 rw[e]
 apply propext
 constructor
 ·rintro⟨-,-,-,-,-,h⟩;exact h
 ·intro h;exact⟨by omega,by omega,by omega,by omega,hc,h⟩
theorem SG {P:Program}{h:Heap}{K:D->Prop}{fz:Bool}{esz:Nat}{z d:D}(h1:∀y∈d.cells,y.vone=true) (h2:aw d) (h3:d.cells.length=esz) (hz:∀y∈z.cells,y.vone=true) (hK:K (.sl [d])):aq P (.bldS fz esz 1 z [(0,.c d)]) h K:=by
 refine⟨fun p hp=>?_,fun p hp=>?_,hz,by simpa[setEls,Arg.get] using hK⟩
 ·simp[Arg.get]at hp;subst hp;exact⟨Nat.one_pos,h3,h2⟩
 ·simp[Arg.get]at hp;subst hp;exact h1
theorem Oz {P:Program}{Q:Block}{g:Heap}{K:HK}:ab P (.ld (.c (.vp Q.e 0)) 14 true) g K=K Q.e g:=by
 rw[gY,cn]
 exact propext ⟨fun h=>h.2,fun h=>⟨Nat.le_of_ble_eq_true rfl,h⟩⟩
theorem Qc {h:Heap}{n e:Nat}{els:List D}(hr:(h n).row=some (e,els)) (hv:∀x∈els,∀y∈x.cells,y.vone=true):wG h (.ms n 0 els.length) (.sl els):=by
 refine⟨rfl,⟨e,els,hr,by simp,fun x hx=>hv x (List.mem_of_mem_drop (List.mem_of_mem_take hx))⟩,?_,?_⟩
 ·simp[D.fzc,hr,D.vone]
 ·simp only[D.fzc,hr,List.drop_zero]
  rw[List.take_of_length_le (Nat.le_refl _)]
  exact .refl _
theorem Oy (bs:List Block):∀x,x∈bs.map Block.e->∀y∈x.cells,y.vone=true:=fun x hx y hy=>by
 obtain⟨B,-,rfl⟩:=List.mem_map.1 hx
 simp[Block.e,Term.cs]at hy
 rcases hy with rfl|rfl|rfl|rfl|rfl|rfl|rfl|rfl|rfl|rfl|rfl|rfl|rfl|rfl<;>rfl
theorem QY (bs:List Block):∀x,x∈bs.map Block.e->x.cells.length=14:=fun x hx=>by
 obtain⟨B,-,rfl⟩:=List.mem_map.1 hx;rfl
theorem QW (bs:List Block):∀x,x∈bs.map Block.e->aw x:=fun x hx y hy=>D.de (Oy bs x hx y hy)
theorem QQ (is:List aN):∀x,x∈is.map aN.e->x.cells.length=15:=fun x hx=>by
 obtain⟨B,-,rfl⟩:=List.mem_map.1 hx;rfl
theorem TX (l:List Ev):∀x,x∈l.map Ev.e->x.cells.length=9:=fun x hx=>by
 obtain⟨B,-,rfl⟩:=List.mem_map.1 hx;rfl
theorem TW (l:List Ev):∀x,x∈l.map Ev.e->aw x:=fun x hx=>by
 obtain⟨B,-,rfl⟩:=List.mem_map.1 hx;exact B.bZ.one
theorem SA {P:Program}{h:Heap}{q i:Nat}{l:List Ev}(hq:h q=.arr 9 (l.map Ev.e)) (hi:i<l.length){K:HK}:ab P (.iadd (.c (.ms q 0 (l.map Ev.e).length)) (.c (.int .i64 (i:Int))) 9) h K=K (.ptr q i 0) h:=by
 simp only[↓bF,hq,Slot.row,List.length_map]
 apply propext
 constructor
 ·rintro⟨-,-,-,h⟩;simpa using h
 ·intro h;exact⟨by omega,by omega,⟨_,rfl⟩,by simpa using h⟩
theorem Sz {P:Program}{h:Heap}{q i:Nat}{l:List Ev}{e:Ev}(hq:h q=.arr 9 (l.map Ev.e)) (hv:l[i]?=some e){K:HK}:ab P (.ld (.c (.ptr q i 0)) 9 true) h K=K e.e h:=by
 have he:(l.map Ev.e)[i]?=some e.e:=by rw[List.getElem?_map,hv];rfl
 have hl:=(List.getElem?_eq_some_iff.1 he).1
 rw[jE,hq]
 apply propext
 constructor
 ·rintro⟨-,h⟩;exact(h _ he).2
 ·intro h;refine⟨hl,fun d hd=>?_⟩
  rw[he]at hd;cases hd;exact⟨Nat.le_of_ble_eq_true rfl,h⟩
theorem iL {h h':Heap}{ro ro':Ro}{q e:Nat}{els:List D}(kp:cv h ro h' ro') (hq:h q=.arr e els) (r:ro q=.ev):h' q=.arr e els/\ro' q=.ev:=by
 obtain⟨a,b⟩:=kp q (bU hq) (by rw[r];rfl)
 exact⟨a.trans hq,b.trans r⟩
theorem Gc {h h':Heap}{ro ro':Ro}{q:Nat}{x:Nat×List D}(kp:cv h ro h' ro') (hq:(h q).row=some x) (r:ro q=.ev):(h' q).row=some x/\ro' q=.ev:=by
 have nf:h q≠.free:=by intro e;rw[e]at hq;cases hq
 obtain⟨a,b⟩:=kp q nf (by rw[r];rfl)
 exact⟨by rw[a];exact hq,b.trans r⟩
theorem Rr {P:Program}{h:Heap}{q i esz:Nat}{els cs:List D}{o:List D}(hq:h q=.arr esz els) (ho:els[i]?=some (.agg o)) (hl:o.length=esz) (hl':cs.length=esz) (h1:aw (.agg cs)){K:HK}(hK:K .undef (ah h q (.arr esz (els.set i (.agg cs))))) :
  ab P (.st (.c (.ptr q i 0)) (.c (.agg cs)) esz) h K:=by
 have hi:=(List.getElem?_eq_some_iff.1 ho).1
 rw[dq,hq]
 refine⟨hl',h1,hi,by omega,fun d hd=>?_⟩
 rw[ho]at hd;cases hd
 have e:setCells (.agg o) 0 (D.agg cs).cells=.agg cs:=by
  simp[setCells,D.cells];omega
 rw[e];exact hK
theorem UR {P:Program}{r:pE}{h:Heap}{K:HK}:ab P (.fld (.c (eH r)) 10 1 false) h K=K (.int .i64 r.e) h:=rfl
theorem SB {x y:Ev}(h:Ui x y):({ x with av:=y.av,block:=y.block,at_:=y.at_ }:Ev)=y:=by
 obtain⟨h1,h2,h3,h4,h5,h6⟩:=h
 cases x;cases y;simp_all
abbrev m8 (c:Code) (d:D):List D:=[.int .i64 c.group,.int .i64 c.sub,.int .i64 c.regs,.int .i64 c.slots,.int .i64 c.params,.sl (c.arrays.map bO.e),.sl (c.loops.map Loop.e),d]
theorem O8 {c:Code}{l:dk}{b k:Nat}{Q:Block}(hl:js c l):js (fI c b k Q) l:=⟨hl.n,hl.a,hl.w⟩
set_option maxRecDepth 100000 in
theorem GY {bs:List Nat}{g:Int}{zs:List Int}{id st ct:Int}(hb:∀b∈bs,b<=255) (hbl:bs.length<=9223372036854775807) (hp:Ho g zs id st) (hct:0<=ct/\ct<=255) :
  aF PP jB [mP bs,eJ g zs id st,.int .u8 ct] (· = .bool true):=by
 refine bg oo (aA _ _ _) rfl (nO _ _ _ _) ?_
 (unfold jM;try dsimp only[xL,yL,xF,yF,xI,yI,xS,zI,zJ])
 have hz:=hp.z
 refine bH.start.box (Kb bs).one fun n1 h1 ro1 B=>?_
 refine B.box (Er g zs id st) fun n2 h2 ro2 B=>?_
 refine bc Iz trivial ?_
 simp only[↓HZ,↓ae]
 rw[B.db (s:=1) 1 rfl rfl rfl,B.db (s:=15) 0 rfl rfl (by simp[eJ,hz])]
 refine bE (Ls hb hbl hp) (fun d hd=>by simp at hd;rcases hd with rfl|rfl;exact(Kb bs).pair;exact(Lf g zs id st).pair) ?_
 rintro _ ⟨c,l,s,hc,hnb,hl,V,rfl⟩
 refine B.alloc fun n3 h3 ro3 B=>?_
 refine B.Rs 0 (d':=Es c l s) rfl rfl rfl rfl rfl (Kh c l s) fun h4 B=>?_
 have B:bH aC kY h4 ro3 [(n3,Es c l s),(n2,eJ g zs id st),(n1,mP bs)]:=B
 have yes:∀{h:Heap},qH (· = .bool true) (.bool true) h:=bM.mpr rfl
 simp only[↓ba (B.used 0 rfl),Nat.zero_add,Nat.add_zero,Nat.reduceAdd,B.bY 0 (j:=11) rfl rfl rfl,↓cq]
 by_cases ha:s.it.at_=1
 case neg =>
  simp only[ha,decide_false,Bool.not_false,↓af,↓ba (B.used 0 rfl),Nat.zero_add,B.UF 0 rfl,B.Ud 0 rfl,B.UE 0 rfl]
  refine bc (An hc hl V.it.toL0 V.g V.s) ⟨Code.bZ c,dk.bZ l,pE.bZ s,bf,trivial⟩ ?_
  have e1:(bS c l s.it s.g s.s 0).e=1:=by unfold bS;rw[if_pos ha]
  simp only[UR,e1,↓aM,decide_true,↓Hv,↓dh]
  exact yes
 obtain⟨b,Q,hbk,hQ,hQm,ht,-⟩:=hc.OA V.it.block
 obtain⟨hxs,hxl,-⟩:=hc.xs Q hQm
 have hblt:b<c.b.length:=(List.getElem?_eq_some_iff.1 hQ).1
 simp only[ha,decide_true,Bool.not_true,↓ae]
 obtain⟨L3,hL3⟩:∃L3:List (Nat×D),L3=[(n3,Es c l s),(n2,eJ g zs id st),(n1,mP bs)]:=⟨_,rfl⟩
 rw[<- hL3]at B
 have y3:L3[0]?=some (n3,Es c l s):=by rw[hL3];rfl
 refine⟨fun qs h'=>∃n4 ro',qs=[.int .u8 ct,.bool true,.ptr n3 0 0,.ptr n4 0 0]/\bH aC kY h' ro' ((n4,Q.e)::L3),?_,?_⟩
 rotate_left
 ·have hb12:(Es c l s).cells[12]?=some (.int .i64 (b:Int)):=by rw[<- hbk];rfl
  simp only[↓ba (B.used 0 y3),Nat.zero_add,Nat.add_zero,Nat.reduceAdd,B.bY 0 (j:=7) y3 rfl rfl,B.bY 0 (j:=12) y3 hb12 rfl,↓rR hQ,↓Oz]
  refine B.alloc fun n4 h5 ro5 B=>?_
  refine B.lf 0 (cs':=.sl (Q.i.map aN.e)::Q.t.cs) rfl rfl rfl (fun x hx=>(Block.bZ Q).one x hx) fun h6 B=>?_
  exact⟨rfl,n4,ro5,rfl,B⟩
 clear B
 rintro f h5 ⟨n4,ro5,hf,B⟩
 simp only[List.cons.injEq,and_true]at hf
 obtain⟨e2,e7,e8,e9⟩:=hf
 simp only[e2,e7,e8,e9]
 clear e2 e7 e8 e9 f
 have y4:∀{d:D},((n4,d)::L3)[1]?=some (n3,Es c l s):=y3
 obtain⟨k,hk,hkl⟩:=S8 (z:=ct) (n:=Q.i.length+1) hct.1 (by omega)
 have hk':ct.tmod ((Q.i.length:Int)+1)=(k:Int):=hk
 simp only[↓cu,wrap64 (n:=ct) (by omega) (by omega),↓ba (B.used 0 rfl),Nat.zero_add,B.bY 0 (j:=0) rfl rfl rfl,↓jf,List.length_map,↓bp,wrap64 (n:=(Q.i.length:Int)+1) (by omega) (by omega),↓bJ,
  show((Q.i.length:Int)+1≠0)=True from eq_true (by omega),true_and,hk',↓ba (B.used 1 y4),B.UF 1 y4]
 refine B.alloc fun n5 h6 ro6 B=>?_
 refine B.lf 0 (cs':=m8 c (.sl (c.b.map Block.e))) rfl rfl rfl (fun x hx=>(Code.bZ c).one x hx) fun h7 B=>?_
 have y5:∀{d:D},((n5,d)::(n4,Q.e)::L3)[2]?=some (n3,Es c l s):=y3
 have B:bH aC kY h7 ro6 ((n5,.agg (m8 c (.sl (c.b.map Block.e))))::(n4,Q.e)::L3):=B
 refine m6 fun m0 t0=>?_
 have B:=B.step (Fr.new t0.free .ev (s:=.arr 14 []))
 have hm0:ah h7 m0 (.arr 14 []) m0=.arr 14 []:=ad _ _ _
 have rm0:ah ro6 m0 .ev m0=.ev:=ad _ _ _
 generalize ah h7 m0 (.arr 14 [])=h8 at B hm0
 generalize ah ro6 m0 .ev=ro8 at B rm0
 simp only[↓ba (B.used 2 y5),Nat.zero_add,B.bY 2 (j:=7) y5 rfl rfl]
 refine DF (els:=[]) hm0 rm0 (QY c.b) (QW c.b) ⟨by simp;omega,by simp;omega⟩ fun nB h9 ro9 hB rB fr=>?_
 rw[List.nil_append]at hB
 have B:=B.step fr
 simp only[List.nil_append,↓ba (B.used 0 rfl),Nat.zero_add]
 refine B.FN 0 (j:=7) rfl (by simp) rfl fun h10 kp B=>?_
 obtain⟨hB,rB⟩:=iL kp hB rB
 obtain⟨dB,hdB⟩:∃dB,dB=D.ms nB 0 (c.b.map Block.e).length:=⟨_,rfl⟩
 rw[<- hdB]at B
 have B:bH aC kY h10 ro9 ((n5,.agg (m8 c dB))::(n4,Q.e)::L3):=B
 refine⟨fun qs h'=>qs=[.bool true,.ptr n3 0 0,.ptr n4 0 0,.int .i64 (k:Int),.ptr n5 0 0]/\bH aC kY h' ro9 ((n5,.agg (m8 c dB))::(n4,Q.e)::L3) /\
  h' nB=.arr 14 ((c.b.set b ⟨Q.i.take k,ED c.b.length⟩).map Block.e),?_,?_⟩
 rotate_left
 ·have hb12:(Es c l s).cells[12]?=some (.int .i64 (b:Int)):=by rw[<- hbk];rfl
  have at1:∀{K:HK},ab PP (.iadd (.c dB) (.c (.int .i64 (b:Int))) 14) h10 K=K (.ptr nB b 0) h10:=fun {K}=>by
   rw[hdB,bF,hB]
   apply propext
   constructor
   ·rintro⟨-,-,-,h⟩;simpa using h
   ·intro h;exact⟨by omega,by simp;omega,⟨_,rfl⟩,by simpa using h⟩
  simp only[↓aE,B.used 0 rfl,B.used 1 rfl,B.used 2 y5,Nat.zero_add,Nat.add_zero,Nat.reduceAdd,true_and,↓bL,B.bY 0 (j:=7) rfl rfl rfl,B.bY 2 (j:=12) y5 hb12 rfl,B.bY 1 (j:=0) rfl rfl rfl,B.bY 2 (j:=7) y5 rfl rfl,↓Oh,
   ↓Mv (xs:=Q.i.map aN.e) (k:=k) (by simp;omega) (QQ Q.i),↓jf,List.length_map]
  rw[gZ rfl,gZ rfl,gZ rfl]
  rw[<- List.map_take,fh,at1]
  have ho:(c.b.map Block.e)[b]?=some (.agg (.sl (Q.i.map aN.e)::Q.t.cs)):=by rw[List.getElem?_map,hQ];rfl
  refine Rr (cs:=.sl ((Q.i.take k).map aN.e)::(ED c.b.length).cs) hB ho rfl rfl (fun x hx=>(Block.bZ ⟨Q.i.take k,ED c.b.length⟩).one x hx) ?_
  have F:bH aC kY (ah h10 nB (.arr 14 ((c.b.map Block.e).set b (.agg (.sl ((Q.i.take k).map aN.e)::(ED c.b.length).cs))))) ro9 ((n5,.agg (m8 c dB))::(n4,Q.e)::L3) /\
    ah h10 nB (.arr 14 ((c.b.map Block.e).set b (.agg (.sl ((Q.i.take k).map aN.e)::(ED c.b.length).cs)))) nB=.arr 14 ((c.b.set b ⟨Q.i.take k,ED c.b.length⟩).map Block.e) :=
   ⟨B.step (Fr.av (by rw[rB];simp) (by simp)),by rw[ad,List.map_set];rfl⟩
  simp only[ai,true_and,and_true]
  exact F
 clear B hB kp
 rintro f h11 ⟨hf,B,hB⟩
 simp only[List.cons.injEq,and_true]at hf
 obtain⟨e7,e8,e9,e10,e11⟩:=hf
 simp only[e7,e8,e9,e10,e11]
 clear e7 e8 e9 e10 e11 f
 simp only[↓aE,B.used 0 rfl,B.used 1 rfl,Nat.zero_add,true_and,↓bL,B.bY 0 (j:=7) rfl rfl rfl,B.bY 1 (j:=0) rfl rfl rfl,↓Oh,↓Mw (xs:=Q.i.map aN.e) (k:=k) (by simp;omega) (QQ Q.i),
  B.rD 1 (j:=1) (s:=13) (e:=Q.t.e) rfl rfl rfl (Nat.le_of_ble_eq_true rfl)]
 rw[gZ rfl, <- List.map_drop]
 refine SG (d:=(⟨Q.i.drop k,Q.t⟩:Block).e) (fun y hy=>Oy [⟨Q.i.drop k,Q.t⟩] _ (by simp) y hy) (Block.bZ ⟨Q.i.drop k,Q.t⟩).one rfl (by simp) ?_
 try simp only[↓aE,B.used 0 rfl,Nat.zero_add,true_and]
 have hlen:(c.b.map Block.e).length=((c.b.set b ⟨Q.i.take k,ED c.b.length⟩).map Block.e).length:=by simp
 rw[hdB,hlen]
 refine DF (xs:=[(⟨Q.i.drop k,Q.t⟩:Block).e]) hB rB (fun d hd=>QY [⟨Q.i.drop k,Q.t⟩] d (by simpa using hd)) (fun d hd=>QW [⟨Q.i.drop k,Q.t⟩] d (by simpa using hd)) ⟨by simp;omega,by simp;omega⟩ fun nN h12 ro12 hN rN fr=>?_
 have B:=B.step fr
 have eN:(c.b.set b ⟨Q.i.take k,ED c.b.length⟩).map Block.e++[(⟨Q.i.drop k,Q.t⟩:Block).e]=(fI c b k Q).b.map Block.e:=by simp[fI]
 rw[eN]at hN ⊢
 refine B.FN 0 (j:=7) rfl (by simp) rfl fun h13 kp B=>?_
 obtain⟨hN,rN⟩:=iL kp hN rN
 obtain⟨dN,hdN⟩:∃dN,dN=D.ms nN 0 ((fI c b k Q).b.map Block.e).length:=⟨_,rfl⟩
 rw[<- hdN]at B
 have B:bH aC kY h13 ro12 ((n5,.agg (m8 c dN))::(n4,Q.e)::L3):=B
 clear hdB hlen hB rB fr kp
 simp only[↓ba (B.used 2 y5),Nat.zero_add,B.UF 2 y5,B.Ud 2 y5,B.UE 2 y5]
 refine bc (An hc hl V.it.toL0 V.g V.s) ⟨Code.bZ c,dk.bZ l,pE.bZ s,bf,trivial⟩ ?_
 obtain⟨Vw,hev⟩:=I2 (av:=0) hc hl V.it V.g V.s
 obtain⟨p,hpf⟩:∃p,p=bS (fI c b k Q) l s.it s.g s.s 0:=⟨_,rfl⟩
 have sq:=Pd (k:=k) hc hl V.it V.g V.s ha hbk hQ hpf
 obtain⟨w,hw⟩:∃w,w=bS c l s.it s.g s.s 0:=⟨_,rfl⟩
 rw[<- hw]at Vw hev sq ⊢
 refine B.EZ fun n6 h14 ro14 kp B=>?_
 obtain⟨hN,rN⟩:=iL kp hN rN
 refine B.HI 0 (cs':=F9 w) rfl rfl rfl (lZ w) fun h15 kp B=>?_
 obtain⟨hN,rN⟩:=iL kp hN rN
 have B:bH aC kY h15 ro14 ((n6,eH w)::(n5,.agg (m8 c dN))::(n4,Q.e)::L3):=B
 have y6:∀{d d':D},((n6,d')::(n5,d)::(n4,Q.e)::L3)[3]?=some (n3,Es c l s):=y3
 have hc2:bj (fI c b k Q):=S7 hc hblt (by omega) hQm
 have hl2:js (fI c b k Q) l:=O8 hl
 have hi2:L0 (fI c b k Q) l s.it:=⟨V.it.id,V.it.at_,⟨V.it.block.1,by rw[Dr];have:=V.it.block.2;omega⟩,V.it.len,V.it.regs,V.it.priv⟩
 have rowN:(h15 nN).row=some (14,(fI c b k Q).b.map Block.e):=by rw[hN];rfl
 simp only[B.db (s:=8) 1 rfl rfl rfl,↓ba (B.used 3 y6),Nat.zero_add,B.Ud 3 y6,B.UE 3 y6]
 have fzc:∀{h:Heap},(h nN).row=some (14,(fI c b k Q).b.map Block.e)->OS h (.agg (m8 c dN)) (fI c b k Q).e:=fun {h} hr=>by
  rw[hdN]
  exact BP.agg (.cons (aH rfl) (.cons (aH rfl) (.cons (aH rfl) (.cons (aH rfl) (.cons (aH rfl) (.cons (aH rfl) (.cons (aH rfl) (.cons (Qc hr (Oy _)) .nil))))))))
 refine Gk (ds':=[(fI c b k Q).e,l.e,eH s,.int .i64 0]) (.refl _) (.cons (fzc rowN) (.cons (gg (dk.bZ l)) (.cons (gg (pE.bZ s)) (.cons (aH rfl).d .nil)))) (An hc2 hl2 hi2 V.g V.s) fun h16 hbx hrw=>?_
 have B:=B.bx hbx
 have rowN:(h16 nN).row=some (14,(fI c b k Q).b.map Block.e):=by rw[hrw];exact rowN
 clear hN hbx hrw
 rw[<- hpf]
 refine B.EZ fun n7 h17 ro17 kp B=>?_
 obtain⟨rowN,rN⟩:=Gc kp rowN rN
 refine B.HI 0 (cs':=F9 p) rfl rfl rfl (lZ p) fun h18 kp B=>?_
 obtain⟨rowN,rN⟩:=Gc kp rowN rN
 have B:bH aC kY h18 ro17 ((n7,eH p)::(n6,eH w)::(n5,.agg (m8 c dN))::(n4,Q.e)::L3):=B
 have y7:∀{d d' d'':D},((n7,d'')::(n6,d')::(n5,d)::(n4,Q.e)::L3)[4]?=some (n3,Es c l s):=y3
 refine⟨fun qs h'=>qs=[.bool true,.ptr n3 0 0,.ptr n5 0 0,.ptr n6 0 0,.ptr n7 0 0]/\h'=h18/\p.e=0,?_,?_⟩
 rotate_left
 ·simp only[↓ba (B.used 0 rfl),Nat.zero_add,B.bY 0 (j:=10) rfl rfl rfl,↓cq]
  by_cases hp0:p.e=0
  case neg =>
   simp only[hp0,decide_false,Bool.not_false,↓af,↓ba (B.used 1 rfl),↓ba (B.used 0 rfl),Nat.zero_add,B.bY 1 (j:=10) rfl rfl rfl,B.bY 0 (j:=10) rfl rfl rfl,↓aM,sq.1 hp0,decide_true,↓Hv,↓dh]
   exact yes
  simp only[hp0,decide_true,Bool.not_true,↓ae,ai,true_and]
 rintro f h' ⟨hf,hh,hp0⟩
 rw[hh]
 clear hh h'
 simp only[List.cons.injEq,and_true]at hf
 obtain⟨e7,e8,e11,e12,e13⟩:=hf
 simp only[e7,e8,e11,e12,e13]
 clear e7 e8 e11 e12 e13 f
 obtain⟨fi,⟨fg,fs⟩,sq1,sq2⟩:=sq.2 hp0
 simp only[B.db (s:=8) 2 rfl rfl rfl,↓ba (B.used 4 y7),Nat.zero_add,B.Ud 4 y7,B.db (s:=11) 0 rfl rfl rfl]
 refine Gk (ds':=[(fI c b k Q).e,l.e,eH p,.int .i64 0]) (.refl _) (.cons (fzc rowN) (.cons (gg (dk.bZ l)) (.cons (gg (pE.bZ p)) (.cons (aH rfl).d .nil)))) (An hc2 hl2 fi fg fs) fun h19 hbx hrw=>?_
 have B:=B.bx hbx
 clear hbx hrw rowN rN
 obtain⟨q2,hq2⟩:∃q2,q2=bS (fI c b k Q) l p.it p.g p.s 0:=⟨_,rfl⟩
 rw[<- hq2]at sq1 sq2 ⊢
 refine B.alloc fun n8 h20 ro20 B=>?_
 refine B.lf 0 (cs':=F9 q2) rfl rfl rfl (lZ q2) fun h21 B=>?_
 obtain⟨LL,hLL⟩:∃LL:List (Nat×D),LL=(n8,eH q2)::(n7,eH p)::(n6,eH w)::(n5,.agg (m8 c dN))::(n4,Q.e)::L3:=⟨_,rfl⟩
 have B:bH aC kY h21 ro20 LL:=by rw[hLL];exact B
 have x8:LL[0]?=some (n8,eH q2):=by rw[hLL];rfl
 have x7:LL[1]?=some (n7,eH p):=by rw[hLL];rfl
 have x6:LL[2]?=some (n6,eH w):=by rw[hLL];rfl
 have x3:LL[5]?=some (n3,Es c l s):=by rw[hLL];exact y3
 simp only[↓ba (B.used 0 x8),Nat.zero_add,B.bY 0 (j:=10) x8 rfl rfl,↓cq]
 by_cases hq0:q2.e=0
 case neg =>
  obtain⟨w1,w2⟩:=sq1 hq0
  simp only[hq0,decide_false,Bool.not_false,↓L2,↓wK,↓dh,↓af,↓ba (B.used 0 x8),↓ba (B.used 2 x6),↓ba (B.used 5 x3),Nat.zero_add,Nat.reduceAdd,B.bY 0 (j:=10) x8 rfl rfl,B.bY 2 (j:=10) x6 rfl rfl,w1,↓aM,decide_true,↓Hv,
   B.bY 2 (j:=7) x6 rfl rfl,B.bY 5 (j:=17) x3 rfl rfl,w2]
  refine bc (Ga (V.g.b hc)) ⟨eg,eg,trivial⟩ ?_
  simp only[↓Hv,↓dh]
  exact yes
 obtain⟨w1,wev,wit,wg,ws⟩:=sq2 hq0
 simp only[hq0,decide_true,Bool.not_true,↓G3,↓ba (B.used 2 x6),Nat.zero_add,B.bY 2 (j:=10) x6 rfl rfl,w1,↓cq,↓gP,↓ae]
 have wl:=wev.len
 rw[List.length_append]at wl
 refine⟨fun qs h'=>∃m2 ro',qs=[.bool true,.ptr n3 0 0,.ptr n6 0 0,.ptr n8 0 0,.ms m2 0 ((p.ev++q2.ev).map Ev.e).length]/\bH aC kY h' ro' LL/\h' m2=.arr 9 ((p.ev++q2.ev).map Ev.e)/\ro' m2=.ev,?_,?_⟩
 rotate_left
 ·simp only[↓aE,B.used 0 x8,B.used 1 x7,Nat.zero_add,true_and,↓bL,B.bY 0 (j:=9) x8 rfl rfl,B.bY 1 (j:=9) x7 rfl rfl]
  refine m6 fun m0 t0=>?_
  have B:=B.step (Fr.new t0.free .ev (s:=.arr 9 []))
  have hm0:ah h21 m0 (.arr 9 []) m0=.arr 9 []:=ad _ _ _
  have rm0:ah ro20 m0 .ev m0=.ev:=ad _ _ _
  generalize ah h21 m0 (.arr 9 [])=h22 at B hm0
  generalize ah ro20 m0 .ev=ro22 at B rm0
  simp only[↓aE,B.used 0 x8,B.used 1 x7,Nat.zero_add,true_and,and_true,↓bL,B.bY 0 (j:=9) x8 rfl rfl,B.bY 1 (j:=9) x7 rfl rfl,ai]
  refine DF (els:=[]) hm0 rm0 (TX p.ev) (TW p.ev) ⟨by simp;omega,by simp;omega⟩ fun m1 h23 ro23 hm1 rm1 fr=>?_
  have B:=B.step fr
  simp only[↓aE,B.used 0 x8,Nat.zero_add,true_and,and_true,↓bL,B.bY 0 (j:=9) x8 rfl rfl,ai]
  refine DF hm1 rm1 (TX q2.ev) (TW q2.ev) ⟨by simp;omega,by simp;omega⟩ fun m2 h24 ro24 hm2 rm2 fr=>?_
  have em:[]++p.ev.map Ev.e++q2.ev.map Ev.e=(p.ev++q2.ev).map Ev.e:=by simp
  rw[em]at hm2 ⊢
  exact⟨m2,ro24,rfl,B.step fr,hm2,rm2⟩
 clear B
 rintro f h25 ⟨m2,ro25,hf,B,hm2,rm2⟩
 simp only[List.cons.injEq,and_true]at hf
 obtain⟨e7,e8,e12,e14,e15⟩:=hf
 (unfold iD;try dsimp only[xL,yL,xF,yF,xI,yI,xS,zI,zJ])
 simp only[e7,e8,e12,e14,e15]
 clear e7 e8 e12 e14 e15
 have lenm:∀{h:Heap}{K:D->Prop},h m2=.arr 9 ((p.ev++q2.ev).map Ev.e)->bR (.ms m2 0 ((p.ev++q2.ev).map Ev.e).length) h K=K (.int .i64 ((p.ev++q2.ev).length:Int)):=fun {h K} hm=>by
  rw[iJ,hm,List.length_map];exact propext ⟨fun h=>h.2,fun h=>⟨rfl,h⟩⟩
 have wl2:(p.ev++q2.ev).length=w.ev.length:=by rw[List.length_append];exact wl
 rw[lenm hm2]
 simp only[↓ba (B.used 2 x6),Nat.zero_add,B.bY 2 (j:=9) x6 rfl rfl,↓jf,List.length_map,wl2,↓cq,decide_true,Bool.not_true,↓ae]
 refine⟨fun _ h'=>∃ro',bH aC kY h' ro' LL,?_,?_⟩
 ·clear B hm2 rm2
  rintro _ h26 ⟨ro26,B⟩
  simp only[↓ba (B.used 0 x8),Nat.zero_add,B.UN 0 x8]
  refine B.alloc fun n9 h27 ro27 B=>?_
  refine B.lf 0 (cs':=q2.it.cs) rfl rfl rfl (It.bZ _).one fun h28 B=>?_
  have B:bH aC kY h28 ro27 ((n9,q2.it.e)::LL):=B
  have z8:∀{d:D},((n9,d)::LL)[1]?=some (n8,eH q2):=x8
  have z6:∀{d:D},((n9,d)::LL)[3]?=some (n6,eH w):=x6
  have z3:∀{d:D},((n9,d)::LL)[6]?=some (n3,Es c l s):=x3
  refine⟨fun _ h'=>∃ro',bH aC kY h' ro' ((n9,w.it.e)::LL),?_,?_⟩
  ·clear B
   rintro _ h29 ⟨ro29,B⟩
   simp only[B.db (s:=7) 0 rfl rfl rfl,↓ba (B.used 3 z6),Nat.zero_add,B.UN 3 z6]
   refine bc (RB (Sg hc Vw.it.toL0)) ⟨It.bZ _,It.bZ _,trivial⟩ ?_
   simp only[↓Hv,↓ba (B.used 1 z8),↓ba (B.used 3 z6),Nat.zero_add,B.bY 1 (j:=7) z8 rfl rfl,B.bY 3 (j:=7) z6 rfl rfl,wg]
   refine bc (Ga (Vw.g.b hc)) ⟨eg,eg,trivial⟩ ?_
   simp only[↓Hv,↓dh,↓ba (B.used 1 z8),↓ba (B.used 3 z6),Nat.zero_add,B.bY 1 (j:=8) z8 rfl rfl,B.bY 3 (j:=8) z6 rfl rfl,ws]
   refine bc (Ga (Vw.s.b hc)) ⟨eg,eg,trivial⟩ ?_
   simp only[↓Hv,↓dh]
   exact yes
  simp only[↓ba (B.used 0 rfl),Nat.zero_add,B.bY 0 (j:=1) rfl rfl rfl,↓aM]
  by_cases a2:q2.it.at_=2
  case neg =>
   have e:q2.it=w.it:=by rw[<- wit];unfold FV;rw[if_neg (fun h=>a2 h.1)]
   simp only[a2,decide_false,↓SY,↓wK,↓gP,↓ae,ai,true_and]
   exact⟨ro27,by rw[<- e];exact B⟩
  simp only[a2,decide_true,↓Hv,↓ba (B.used 0 rfl),↓ba (B.used 6 z3),Nat.zero_add,B.bY 0 (j:=2) rfl rfl rfl,B.bY 6 (j:=7) z3 rfl rfl,↓jf,List.length_map,↓aM,↓dh]
  by_cases b2:q2.it.block=(c.b.length:Int)
  case neg =>
   have e:q2.it=w.it:=by rw[<- wit];unfold FV;rw[if_neg (fun h=>b2 h.2)]
   simp only[b2,decide_false,↓ae,ai,true_and]
   exact⟨ro27,by rw[<- e];exact B⟩
  simp only[b2,decide_true,↓af,↓ba (B.used 0 rfl),↓ba (B.used 6 z3),Nat.zero_add,Nat.add_zero,Nat.reduceAdd,B.bY 6 (j:=12) z3 rfl rfl]
  refine B.HH 0 (cs:=q2.it.cs) (j:=2) rfl (by simp[It.cs]) rfl fun h29 B=>?_
  have e:w.it.e=.agg (q2.it.cs.set 2 (.int .i64 s.it.block)):=by rw[<- wit];unfold FV;rw[if_pos ⟨a2,b2⟩];rfl
  exact⟨ai.symm ▸ trivial,ro27,by rw[e];exact B⟩
 refine⟨fun n qs h'=>∃(i:Nat) (ro':Ro),qs=[.int .i64 (i:Int)]/\n+i=w.ev.length/\bH aC kY h' ro' LL/\h' m2=.arr 9 ((p.ev++q2.ev).map Ev.e)/\ro' m2=.ev,w.ev.length,⟨0,ro25,rfl,rfl,B,hm2,rm2⟩,?_⟩
 clear B hm2 rm2 f
 rintro n f h26 ⟨i,ro26,hf,hni,B,hm2,rm2⟩
 simp only[List.cons.injEq,and_true]at hf
 have ew:((p.ev++q2.ev).map Ev.e).length=w.ev.length:=by rw[List.length_map];exact wl2
 have lenw:=@lenm h26
 rw[ew,wl2]at lenw
 simp only[hf]
 rw[lenw hm2]
 simp only[↓bK]
 by_cases hi:i<w.ev.length
 case neg =>
  simp only[show ¬((i:Int)<(w.ev.length:Int)) by omega,decide_false,↓ae,ai,true_and]
  exact⟨ro26,B⟩
 have hi2':i<(p.ev++q2.ev).length:=by omega
 have vx:(p.ev++q2.ev)[i]?=some (p.ev++q2.ev)[i]:=List.getElem?_eq_getElem hi2'
 have vy:w.ev[i]?=some w.ev[i]:=List.getElem?_eq_getElem hi
 have es:=wev.get vx vy
 generalize (p.ev++q2.ev)[i]=x at vx es
 generalize w.ev[i]=y at vy es
 have ati:∀{K:HK},ab PP (.iadd (.c (.ms m2 0 w.ev.length)) (.c (.int .i64 (i:Int))) 9) h26 K=K (.ptr m2 i 0) h26:=fun {K}=>by rw[<- ew];exact SA hm2 hi2'
 simp only[show((i:Int)<(w.ev.length:Int)) by omega,decide_true,↓af,↓ati,↓Sz hm2 vx]
 refine B.EZ fun n9 h27 ro27 kp B=>?_
 obtain⟨hm2,rm2⟩:=iL kp hm2 rm2
 refine B.HI 0 (cs':=x.cs) rfl rfl rfl (Ev.bZ x).one fun h28 kp B=>?_
 obtain⟨hm2,rm2⟩:=iL kp hm2 rm2
 have z6:∀{d:D},((n9,d)::LL)[3]?=some (n6,eH w):=x6
 have ldy:∀{o:Nat}{d:D}{g:Heap}{K:HK},y.cs[o]?=some d->ab PP (.ld (.c (.vp y.e o)) 1 false) g K=K d g:=fun {o d g K} ho=>by
  rw[gY,bk];show(match y.cs[o]? with|some d=>K d g|none=>False)=_;rw[ho]
 have B:bH aC kY h28 ro27 ((n9,.agg x.cs)::LL):=B
 rw[ba (B.used 3 z6),Nat.zero_add,B.bY 3 (j:=9) z6 rfl rfl,ER vy,ig,Nat.zero_add,ldy (o:=3) rfl,ba (B.used 0 rfl),Nat.zero_add]
 refine B.FN 0 (cs:=x.cs) (j:=3) rfl (by simp[Ev.cs]) rfl fun h29 kp B=>?_
 obtain⟨hm2,rm2⟩:=iL kp hm2 rm2
 have B:bH aC kY h29 ro27 ((n9,.agg ({ x with av:=y.av }:Ev).cs)::LL):=B
 rw[ba (B.used 3 z6),Nat.zero_add,B.bY 3 (j:=9) z6 rfl rfl,ER vy,ig,Nat.zero_add,ldy (o:=4) rfl,ba (B.used 0 rfl),Nat.zero_add]
 refine B.FN 0 (cs:=({ x with av:=y.av }:Ev).cs) (j:=4) rfl (by simp[Ev.cs]) rfl fun h30 kp B=>?_
 obtain⟨hm2,rm2⟩:=iL kp hm2 rm2
 have B:bH aC kY h30 ro27 ((n9,.agg ({ x with av:=y.av,block:=y.block }:Ev).cs)::LL):=B
 rw[ba (B.used 3 z6),Nat.zero_add,B.bY 3 (j:=9) z6 rfl rfl,ER vy,ig,Nat.zero_add,ldy (o:=5) rfl,ba (B.used 0 rfl),Nat.zero_add]
 refine B.FN 0 (cs:=({ x with av:=y.av,block:=y.block }:Ev).cs) (j:=5) rfl (by simp[Ev.cs]) rfl fun h31 kp B=>?_
 obtain⟨hm2,rm2⟩:=iL kp hm2 rm2
 have B:bH aC kY h31 ro27 ((n9,({ x with av:=y.av,block:=y.block,at_:=y.at_ }:Ev).e)::LL):=B
 rw[SB es]at B
 simp only[↓aE,B.used 3 z6,Nat.zero_add,true_and,↓bL,B.db (s:=9) 0 rfl rfl rfl,B.bY 3 (j:=9) z6 rfl rfl,↓fh,↓ER vy,↓QU,↓Oj,↓Ob,decide_true,Bool.not_true,↓ae,↓bp]
 rw[GB (i:=i) (by omega)]
 exact⟨ai.symm ▸ trivial,n-1,by omega,i+1,ro27,rfl,by omega,B.tail,hm2,rm2⟩
end Go.Am
namespace Go.Am
open Go Go.Proofs
set_option maxRecDepth 100000
end Go.Am
namespace Go.Am
open Go Go.Proofs
set_option maxRecDepth 100000
theorem TD (xs:List D) (h:Fl Try.prog 12 Try.f7.params.toList xs):aF Try.prog 7 xs (· = .bool true):=by
 have hp:Try.f7.params.toList=[24,31,5]:=by kernel_rfl
 rw[hp]at h
 obtain⟨c1,r1,rfl,h1,c2,r2,rfl,h2,c3,r3,rfl,h3,rfl⟩:=h
 obtain⟨bs,e1,b1,b2⟩:=RK h1
 obtain⟨g,zs,id,st,e2,P⟩:=Nd h2
 obtain⟨v,rfl,v1,v2⟩:=JX h3
 show aF Try.prog 7 [mkElem Try.prog 24 c1,mkElem Try.prog 31 c2,mkElem Try.prog 5 [.int .u8 v]] _
 rw[e1,e2,Nv Un]
 exact GY b1 b2 P ⟨v1,v2⟩
end Go.Am
