/- What the functions of this chapter give, on plain data. No condition. -/
import Derived.Test.YtemgkmgmnnaloaaP2
set_option linter.unnecessarySimpa false
set_option linter.defProp false
set_option linter.unusedSectionVars false
set_option linter.unusedSimpArgs false
set_option linter.unusedVariables false
namespace Go.Am
open Go
inductive Tr (c:Code) (id av block:Int):Int->Mm->Mm->List Ev->Mm->Mm->Prop where
 | nil (last:Int) (g s:Mm):Tr c id av block last g s [] g s
 | cons {last:Int}{g s:Mm}{e:Ev}{r:List Ev}{g' s':Mm}(h1:e.item=id) (h2:e.av=av) (h3:e.block=block) (h4:last<e.at_) (ok:Oc c e g s)
   (t:Tr c id av block e.at_ (lN c e g s).1 (lN c e g s).2 r g' s'):Tr c id av block last g s (e::r) g' s'
section
variable {c:Code}{l:dO}{id av block:Int}
theorem Tr.snoc {last k:Int}{g s g1 s1:Mm}{es:List Ev}{e:Ev}(t:Tr c id av block last g s es g1 s1) (hl:last<k) (ha:∀x∈es,x.at_<k) (h1:e.item=id) (h2:e.av=av) (h3:e.block=block) (h4:e.at_=k) (ok:Oc c e g1 s1) :
  Tr c id av block last g s (es++[e]) (lN c e g1 s1).1 (lN c e g1 s1).2:=by
 induction t with
 | nil last g s=>exact .cons h1 h2 h3 (by omega) ok (.nil _ _ _)
 | cons a1 a2 a3 a4 ok' t ih=>exact .cons a1 a2 a3 a4 ok' (ih (ha _ (List.mem_cons_self ..)) (fun x hx=>ha x (List.mem_cons_of_mem _ hx)) ok)
theorem Qj {e:Ev}{m:Mm}(h:e.kind=1):Nv e m=m:=if_pos h
theorem RL {e:Ev}{g s:Mm}(h:e.kind=1):lN c e g s=(g,s):=by unfold lN;rw[Qj h,Qj h];split<;>(try split)<;>rfl
theorem Hu {x:aQ}{e0:Ev}{st st':St}(hc:bh c) (hw:oX c st) (hx:mT c x) (h:cY c l id x e0 st=some st') :
  (st'.ev=st.ev/\st'.mem 1=st.mem 1/\st'.mem 2=st.mem 2) \/
  ∃e,st'.ev=st.ev++[e]/\e.item=e0.item/\e.av=e0.av/\e.block=e0.block/\e.at_=e0.at_/\Oc c e (st.mem 1) (st.mem 2)/\lN c e (st.mem 1) (st.mem 2)=(st'.mem 1,st'.mem 2):=by
 unfold cY at h
 have put:∀(k i:Nat) (r:bM) (e:Ev) (v:Int),c.arrays[k]?=some r->e.arr=(k:Int)->e.i=(i:Int)->e.kind≠4->e.kind≠1->v=Nu e (st.word (bg c k) k i)->(r.space=1\/r.space=2) ->
   lN c e (st.mem 1) (st.mem 2)=((st.put (bg c k) k i v).mem 1,(st.put (bg c k) k i v).mem 2):=fun k i r e v hr e1 e2 k4 k1 hv hs=>by
  unfold lN Nv
  rw[if_neg k4,e1,e2,if_neg k1,if_neg k1,Int.toNat_natCast,Int.toNat_natCast,cE hr]
  rw[cE hr]at hv
  rcases hs with hs|hs
  ·rw[hs,if_neg (by decide)]
   rw[hs]at hv
   simp[St.put,AU,St.word,hv,ah]
  ·rw[hs,if_pos (by decide)]
   rw[hs]at hv
   simp[St.put,AU,St.word,hv,ah]
 have tell3:∀(s1:St) (e:Ev) (k:Nat) (r:bM),c.arrays[k]?=some r->e.arr=(k:Int)->e.kind≠4->r.space=3->s1.tell c e=s1:=fun s1 e k r hr e1 k4 hs=>by
  unfold St.tell;rw[if_pos ⟨k4,by rw[e1,Int.toNat_natCast,cE hr,hs];rfl⟩]
 have tell1:∀(s1:St) (e:Ev) (k:Nat) (r:bM),c.arrays[k]?=some r->e.arr=(k:Int)->r.space=1\/r.space=2->(s1.tell c e)={ s1 with ev:=s1.ev++[e] }:=fun s1 e k r hr e1 hs=>by
  unfold St.tell
  rw[if_neg]
  rintro⟨-,h⟩
  rw[e1,Int.toNat_natCast,cE hr]at h
  omega
 by_cases h7:x.op=7
 ·rw[if_pos h7]at h
  split at h
  ·rename_i hin
   obtain⟨k,h1,h2,h3,-⟩:=hx.acc (Or.inl h7)
   obtain⟨r,hr,ho⟩:=hc.at h2
   cases h
   rw[h1,Int.toNat_natCast]at hin ⊢
   rw[kP hr]at hin
   by_cases s3:r.space=3
   ·left
    rw[tell3 _ _ k r hr h1 (by show(1:Int)≠4;omega) s3]
    exact⟨rfl,rfl,rfl⟩
   right
   have hs:r.space=1\/r.space=2:=by rcases ho.1 with h|h|h<;>omega
   rw[tell1 _ _ k r hr h1 hs]
   refine⟨_,rfl,rfl,rfl,rfl,rfl,Or.inr ⟨k,(aX st.regs x.a).toNat,r,h1,(by show aX st.regs x.a=_;omega),hr,by omega,hs,?_,Or.inl ⟨rfl,?_⟩⟩,RL rfl⟩
   ·exact St.mW hw (iI hc h2) hc _
   ·show St.word st (bg c k) k _=_
    rw[cE hr]
    rcases hs with hs|hs
    ·rw[if_neg (by omega),hs];rfl
    ·rw[if_pos hs,hs];rfl
  ·cases h
 rw[if_neg h7]at h
 by_cases h8:x.op=8
 ·rw[if_pos h8]at h
  split at h
  ·rename_i hin
   obtain⟨k,h1,h2,h3,h4⟩:=hx.acc (Or.inr (Or.inl h8))
   obtain⟨r,hr,ho⟩:=hc.at h2
   cases h
   rw[h1,Int.toNat_natCast]at hin ⊢
   rw[kP hr]at hin
   by_cases s3:r.space=3
   ·left
    rw[tell3 _ _ k r hr h1 (by show(2:Int)≠4;omega) s3,cE hr,s3]
    exact⟨rfl,by simp[St.put,ah],by simp[St.put,ah]⟩
   right
   have hs:r.space=1\/r.space=2:=by rcases ho.1 with h|h|h<;>omega
   rw[tell1 _ _ k r hr h1 hs]
   refine⟨_,rfl,rfl,rfl,rfl,rfl,Or.inr ⟨k,(aX st.regs x.a).toNat,r,h1,(by show aX st.regs x.a=_;omega),hr,by omega,hs,?_,Or.inr (Or.inl rfl)⟩,?_⟩
   ·exact gP hw.regs (h4 h7)
   ·exact put k _ r _ _ hr h1 (by show aX st.regs x.a=_;omega) (by show(2:Int)≠4;omega) (by show(2:Int)≠1;omega) rfl hs
  ·cases h
 rw[if_neg h8]at h
 by_cases h9:x.op=9
 ·rw[if_pos h9]at h
  split at h
  ·rename_i hin
   obtain⟨k,h1,h2,h3,h4⟩:=hx.acc (Or.inr (Or.inr h9))
   obtain⟨r,hr,ho⟩:=hc.at h2
   cases h
   rw[h1,Int.toNat_natCast]at hin ⊢
   rw[kP hr]at hin
   by_cases s3:r.space=3
   ·left
    rw[tell3 _ _ k r hr h1 (by show(3:Int)≠4;omega) s3,cE hr,s3]
    exact⟨rfl,by simp[St.put,ah],by simp[St.put,ah]⟩
   right
   have hs:r.space=1\/r.space=2:=by rcases ho.1 with h|h|h<;>omega
   rw[tell1 _ _ k r hr h1 hs]
   refine⟨_,rfl,rfl,rfl,rfl,rfl,Or.inr ⟨k,(aX st.regs x.a).toNat,r,h1,(by show aX st.regs x.a=_;omega),hr,by omega,hs,?_,Or.inr (Or.inr ⟨rfl,hx.F0 h9⟩)⟩,?_⟩
   ·exact gP hw.regs (h4 h7)
   ·exact put k _ r _ _ hr h1 (by show aX st.regs x.a=_;omega) (by show(3:Int)≠4;omega) (by show(3:Int)≠1;omega) rfl hs
  ·cases h
 rw[if_neg h9]at h
 by_cases h10:x.op=10
 ·rw[if_pos h10]at h
  cases h
  right
  have e:st.tell c (Eu e0 x)={ st with ev:=st.ev++[Eu e0 x] }:=by unfold St.tell;rw[if_neg (fun h=>h.1 rfl)]
  rw[e]
  exact⟨_,rfl,rfl,rfl,rfl,rfl,Or.inl rfl,by unfold lN;rw[if_pos (show(Eu e0 x).kind=4 from rfl)]⟩
 rw[if_neg h10]at h
 cases h
 exact Or.inl ⟨rfl,rfl,rfl⟩
theorem Jt (hc:bh c) (hl:jR c l){last:Int}{g s:Mm}:∀(xs:List aQ) (k:Nat) (st st':St),(∀x∈xs,mT c x)->oX c st->runP c l id av block xs k st=some st' ->
  last<(k:Int)->(∀e∈st.ev,e.at_<(k:Int))->Tr c id av block last g s st.ev (st.mem 1) (st.mem 2)->Tr c id av block last g s st'.ev (st'.mem 1) (st'.mem 2)
 | [],k,st,st',_,_,h,_,_,t=>by cases h;exact t
 | x::r,k,st,st',hx,hw,h,hk,ha,t=>by
  simp only[runP,Option.bind_eq_some_iff]at h
  obtain⟨s1,h1,h2⟩:=h
  obtain⟨w1,-⟩:=xq hc hl hw (hx x (by simp)) h1
  refine Jt hc hl r (k+1) s1 st' (fun y hy=>hx y (by simp[hy])) w1 h2 (by omega) ?_ ?_
  ·rcases Hu hc hw (hx x (by simp)) h1 with⟨e1,-,-⟩|⟨e,e1,-,-,-,e5,-⟩
   ·rw[e1];intro e he;have:=ha e he;omega
   ·rw[e1];intro y hy
    rcases List.mem_append.1 hy with hy|hy
    ·have:=ha y hy;omega
    ·simp at hy;subst hy;rw[e5];show(k:Int)<_;omega
  ·rcases Hu hc hw (hx x (by simp)) h1 with⟨e1,e2,e3⟩|⟨e,e1,a1,a2,a3,a4,ok,e6⟩
   ·rw[e1,e2,e3];exact t
   ·have:=t.snoc hk ha a1 a2 a3 a4 ok
    rw[e6]at this
    rw[e1];exact this
theorem Ou {it:It}{g s:Mm}(hc:bh c) (hl:jR c l) (h:Qr c l it) (hg:dF c.arrays 1 g) (hs:dF c.arrays 2 s):Tr c it.id av it.block (-1) g s (eG c l it g s av).ev (eG c l it g s av).g (eG c l it g s av).s:=by
 unfold eG
 split
 ·exact .nil _ _ _
 obtain⟨k,Q,hbk,hQ,hQm,ht,hins⟩:=hc.NN h.block
 obtain⟨hxs,hxl,-⟩:=hc.xs Q hQm
 rw[hins]
 have w0:oX c (Dd it g s):=Gg h.toOh hg hs
 cases e:runP c l it.id av it.block Q.i 0 (Dd it g s) with
 | none=>exact .nil _ _ _
 | some st=>exact Jt hc hl Q.i 0 (Dd it g s) st hxs w0 e (by omega) (fun e he=>by cases he) (.nil _ _ _)
theorem RK {e:Ev}{g s:Mm}(hc:bh c) (hg:dF c.arrays 1 g) (hs:dF c.arrays 2 s) (ok:Oc c e g s):dF c.arrays 1 (lN c e g s).1/\dF c.arrays 2 (lN c e g s).2:=by
 rcases ok with h4|⟨n,i,r,A⟩
 ·unfold lN;rw[if_pos h4];exact⟨hg,hs⟩
 have wi:∀{sp:Nat}{m:Mm},dF c.arrays sp m->fZ (AU m n i):=fun {sp m} w=>by
  unfold AU
  rw[List.getD_eq_getElem?_getD (l:=m)]
  cases e:m[n]? with
  | none=>exact⟨by simp,by simp⟩
  | some u =>
   have hn:=(List.getElem?_eq_some_iff.1 e).1
   rw[w.len]at hn
   exact Dj (w.w n _ u (List.getElem?_eq_getElem hn) e).2 _
 have ew:∀{z:Int},fZ z->fZ (Nu e z):=fun {z} hz=>by
  unfold Nu
  split
  ·rename_i k3
   rcases A.k with⟨h,-⟩|h|⟨-,h⟩
   ·omega
   ·omega
   ·exact Ds h hz A.v
  ·exact A.v
 have em:∀{sp:Nat}{m:Mm},dF c.arrays sp m->dF c.arrays sp (Nv e m):=fun {sp m} w=>by
  unfold Nv
  split
  ·exact w
  ·refine Iz w (ew ?_)
   rw[A.ea,A.ei];exact wi w
 unfold lN
 split
 ·exact⟨hg,hs⟩
 split
 ·exact⟨hg,em hs⟩
 ·exact⟨em hg,hs⟩
end
end Go.Am
namespace Go.Am
open Go
theorem eh.KT {h:Heap}{ro:Ro}{s:Nat}{d:D}{m:Mm}(x:eh h ro s d m):∃h'',F7 h h''/\wo h'' d (aO m)/\∀j,ro j≠.mem s->(∀i,ro j≠.row s i)->h'' j=h j:=by
 obtain⟨k,els,rfl,y,-⟩:=x
 obtain⟨p1,p2,p3⟩:=y.IP
 refine⟨dV h k 1 els,.step y.hk p1 (.refl _),?_,fun j h1 h2=>p3 j h2 (by rintro rfl;exact h1 y.rk)⟩
 have:=cW (h:=dV h k 1 els) (n:=k) (e:=1) (els:=m.map words) (by rw[je,p2]) (Rm m)
 rw[List.length_map]at this
 exact this
theorem IH {bs:List Nat}{g:Int}{zs:List Int}{id st av:Int}(hb:∀b∈bs,b<=255) (hbl:bs.length<=9223372036854775807) (hp:GN g zs id st) :
  aF PP lf [lM bs,dU g zs id st,.int .i64 av] (· = .bool true):=by
 refine bb qi (aB _ _ _) rfl (qc _ _ _ _) ?_
 (unfold lA;try dsimp only[xL,yL,xF,yF,xI,yI,xS,zI,zJ])
 have hz:=hp.z
 refine bI.start.box (Jz bs).one fun n1 h1 ro1 B=>?_
 refine B.box (Ea g zs id st) fun n2 h2 ro2 B=>?_
 refine bj HQ trivial ?_
 simp only[↓Gq,↓ae]
 rw[B.dh (s:=1) 1 rfl rfl rfl,B.dh (s:=15) 0 rfl rfl (by simp[dU,hz])]
 refine bD (MT hb hbl hp) (fun d hd=>by simp at hd;rcases hd with rfl|rfl;exact(Jz bs).pair;exact(Ks g zs id st).pair) ?_
 rintro _ ⟨c,l,s,hc,hl,V,rfl⟩
 refine B.alloc fun n3 h3 ro3 B=>?_
 refine B.P0 0 (d':=Hf c l s) rfl rfl rfl rfl rfl (JE c l s) fun h4 B=>?_
 have B:bI aM qD h4 ro3 [(n3,Hf c l s),(n2,dU g zs id st),(n1,lM bs)]:=B
 simp only[↓bc (B.used 0 rfl),Nat.zero_add,B.Ug 0 rfl,B.Us 0 rfl,B.Ur 0 rfl]
 refine bj (II hc hl V.it.toOh V.g V.s) ⟨Code.cB c,dO.cB l,sR.cB s,ba,trivial⟩ ?_
 obtain⟨V2,hev⟩:=Io (av:=av) hc hl V.it V.g V.s
 have tr:=Ou (av:=av) hc hl V.it V.g V.s
 obtain⟨q,hq⟩:∃q,q=eG c l s.it s.g s.s av:=⟨_,rfl⟩
 rw[<- hq]at V2 hev tr ⊢
 refine B.alloc fun n4 h5 ro5 B=>?_
 refine B.P0 0 (d':=gM q) rfl rfl rfl rfl rfl (sI q) fun h6 B=>?_
 have B:bI aM qD h6 ro5 [(n4,gM q),(n3,Hf c l s),(n2,dU g zs id st),(n1,lM bs)]:=B
 have gb:=V.g.b hc
 have sb:=V.s.b hc
 simp only[↓aE,B.used 1 rfl,Nat.zero_add,Nat.reduceAdd,true_and,↓bK,B.bV 1 (j:=17) rfl rfl rfl,B.bV 1 (j:=18) rfl rfl rfl]
 refine D7 (ro:=ro5) gb 1 fun dG h7 ro7 x7 G=>?_
 have B:=B.step x7.fr
 simp only[↓aE,B.used 1 rfl,Nat.zero_add,Nat.reduceAdd,true_and,↓bK,B.bV 1 (j:=18) rfl rfl rfl,ai]
 refine D7 (ro:=ro7) sb 2 fun dS h8 ro8 x8 S=>?_
 have B:=B.step x8.fr
 have G:=G.aC x8.aC
 obtain⟨L0,hL0⟩:∃L0:List (Nat×D),L0=[(n4,gM q),(n3,Hf c l s),(n2,dU g zs id st),(n1,lM bs)]:=⟨_,rfl⟩
 rw[<- hL0]at B
 have e0:L0[0]?=some (n4,gM q):=by rw[hL0];rfl
 have e1:L0[1]?=some (n3,Hf c l s):=by rw[hL0];rfl
 refine⟨fun _ h'=>∃ro',bI aM qD h' ro' L0/\eh h' ro' 1 dG q.g/\eh h' ro' 2 dS q.s,?_,?_⟩
 ·rintro _ h' ⟨ro',B,G,S⟩
  simp only[↓bc (B.used 0 e0),Nat.zero_add,B.bV 0 (j:=7) e0 rfl rfl]
  obtain⟨h2,i2,f2,KT⟩:=G.KT
  have B2:=B.re (h0:=aM) (h':=h2) fun x hx=>KT x.1 (by rw[(B.at_ x hx).2.1];simp) (by rw[(B.at_ x hx).2.1];simp)
  have S2:eh h2 ro' 2 dS q.s:=S.cI (E:=fun r=>r≠.mem 1/\∀i,r≠.row 1 i) (fun k _ hr=>⟨KT k hr.1 hr.2,rfl⟩) (by simp) (by simp)
  refine Hs (ds':=[aO q.g,aO q.g]) i2 (.cons (aP rfl).d (.cons f2.d .nil)) (Jp (V2.g.b hc)) rfl ?_
  simp only[↓Pt,↓bc (B2.used 0 e0),Nat.zero_add,B2.bV 0 (j:=8) e0 rfl rfl]
  obtain⟨h3,i3,f3,-⟩:=S2.KT
  refine Hs (ds':=[aO q.s,aO q.s]) i3 (.cons (aP rfl).d (.cons f3.d .nil)) (Jp (V2.s.b hc)) rfl ?_
  simp only[↓Pt,↓fB]
  exact bN.mpr rfl
 (unfold iV;try dsimp only[xL,yL,xF,yF,xI,yI,xS,zI,zJ])
 refine⟨fun k qs h'=>∃(i:Nat) (last:Int) (ro':Ro) (gi si:Mm),qs=[.int .i64 last,.int .i64 (i:Int)]/\k+i=q.ev.length/\bI aM qD h' ro' L0/\eh h' ro' 1 dG gi/\eh h' ro' 2 dS si/\dF c.arrays 1 gi/\dF c.arrays 2 si /\
  Tr c s.it.id av s.it.block last gi si (q.ev.drop i) q.g q.s,q.ev.length,⟨0,-1,ro8,s.g,s.s,rfl,rfl,B,G,S,V.g,V.s,tr⟩,?_⟩
 rintro k f h' ⟨i,last,ro',gi,si,hf,hki,B,G,S,wg,ws,t⟩
 simp only[List.cons.injEq,and_true]at hf
 obtain⟨hf1,hf2⟩:=hf
 simp only[hf1,hf2,↓bc (B.used 0 e0),Nat.zero_add,B.bV 0 (j:=9) e0 rfl rfl,↓jV,List.length_map,↓bH]
 by_cases hi:i<q.ev.length
 case neg =>
  rw[List.drop_eq_nil_of_le (by omega)]at t
  simp only[show ¬((i:Int)<(q.ev.length:Int)) by omega,decide_false,↓ae,ai,true_and]
  cases t
  exact⟨ro',B,G,S⟩
 have hv:q.ev[i]?=some q.ev[i]:=List.getElem?_eq_getElem hi
 rw[List.drop_eq_getElem_cons hi]at t
 obtain⟨e,he⟩:∃e,e=q.ev[i]:=⟨_,rfl⟩
 rw[<- he]at t hv
 cases t with
 | cons a1 a2 a3 a4 ok t =>
 simp only[show((i:Int)<(q.ev.length:Int)) by omega,decide_true,↓af,↓bc (B.used 0 e0),Nat.zero_add,B.bV 0 (j:=9) e0 rfl rfl,↓Ns hv,↓Qi]
 refine B.Jc fun n5 h9 ro9 kp B=>?_
 have G:=G.aC kp
 have S:=S.aC kp
 refine B.Km 0 (cs':=e.cs) rfl rfl rfl (by simp[Ev.cs]) fun h10 kp B=>?_
 have G:=G.aC kp
 have S:=S.aC kp
 have B:bI aM qD h10 ro9 ((n5,e.e)::L0):=B
 have x0:((n5,e.e)::L0)[1]?=some (n4,gM q):=e0
 have x1:((n5,e.e)::L0)[2]?=some (n3,Hf c l s):=e1
 simp only[↓bc (B.used 0 rfl),↓bc (B.used 2 x1),Nat.zero_add,Nat.add_zero,Nat.reduceAdd,B.bV 0 (j:=2) rfl rfl rfl,B.bV 0 (j:=3) rfl rfl rfl,B.bV 0 (j:=4) rfl rfl rfl,B.bV 0 (j:=5) rfl rfl rfl,B.bV 2 (j:=10) x1 rfl rfl,B.bV 2 (j:=12) x1 rfl rfl,
  ↓cQ,a1,a2,a3,decide_true,Bool.not_true,↓FA,↓fU,↓G0,show ¬(e.at_<=last) by omega,decide_false,B.Ug 2 x1,B.dh (s:=9) 0 rfl rfl rfl]
 refine QX (ro:=ro9) hc G S wg ws ok fun h11 ro11 fr G S=>?_
 have B:=(B.step fr).tail
 have B3:=B.step Fr.refl
 obtain⟨w1,w2⟩:=RK hc wg ws ok
 have B5:=bI.step ‹bI aM qD h10 ro9 ((n5,e.e)::L0)› fr
 simp only[↓Gq,↓FA,↓fU,↓ae,↓bc (B5.used 0 rfl),Nat.zero_add,B5.bV 0 (j:=5) rfl rfl rfl,↓br]
 rw[Gb (i:=i) (by omega)]
 exact⟨ai.symm ▸ trivial,k-1,by omega,i+1,e.at_,ro11,_,_,rfl,by omega,B,G,S,w1,w2,t⟩
end Go.Am
namespace Go.Am
open Go Go.Proofs
set_option maxRecDepth 100000
theorem SP (xs:List D) (h:EZ Try.prog 12 Try.f5.params.toList xs):aF Try.prog 5 xs (· = .bool true):=by
 have hp:Try.f5.params.toList=[24,31,3]:=by kernel_rfl
 rw[hp]at h
 obtain⟨c1,r1,rfl,h1,c2,r2,rfl,h2,c3,r3,rfl,h3,rfl⟩:=h
 obtain⟨bs,e1,b1,b2⟩:=QW h1
 obtain⟨g,zs,id,st,e2,P⟩:=Ms h2
 obtain⟨v,rfl,-,-⟩:=sK Ue h3
 show aF Try.prog 5 [mkElem Try.prog 24 c1,mkElem Try.prog 31 c2,mkElem Try.prog 3 [.int .i64 v]] _
 rw[e1,e2,MI Ue]
 exact IH b1 b2 P
end Go.Am
