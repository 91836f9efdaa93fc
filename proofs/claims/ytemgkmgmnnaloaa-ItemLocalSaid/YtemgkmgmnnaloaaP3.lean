/- What the functions of this chapter give, on plain data. No condition. -/
import Derived.Test.YtemgkmgmnnaloaaP2
set_option linter.unnecessarySimpa false
set_option linter.defProp false
set_option linter.unusedSectionVars false
set_option linter.unusedSimpArgs false
set_option linter.unusedVariables false
namespace Go.Am
open Go
theorem me.at {h:Heap}{ro:Ro}{s:Nat}{d:D}{m:Mm}(x:me h ro s d m){k:Nat}{w:List Int}(hk:m[k]?=some w) :
  ∃kk e,(∀(K:HK),ab PP (.iadd (.c d) (.c (.int .i64 (k:Int))) 1) h K=K (.ptr kk k 0) h)/\(∀(K:HK),ab PP (.ld (.c (.ptr kk k 0)) 1 false) h K=K e h)/\nu h ro (.row s k) e w:=by
 obtain⟨kk,els,rfl,y⟩:=x
 have hlt:=(List.getElem?_eq_some_iff.1 hk).1
 have hl:=y.len
 have he:els[k]?=some (els[k]'(by omega)):=List.getElem?_eq_getElem (by omega)
 have hr:=y.el k _ w he hk
 have hc:(els[k]'(by omega)).cells=[els[k]'(by omega)]:=by
  rcases hr with e|⟨q,e,-⟩<;>rw[e]<;>rfl
 refine⟨kk,els[k]'(by omega),fun K=>?_,fun K=>?_,hr⟩
 ·simp only[↓bG,y.hk,Slot.row]
  apply propext
  constructor
  ·rintro⟨-,-,-,h⟩;simpa using h
  ·intro h;exact⟨by omega,by omega,⟨_,rfl⟩,by simpa using h⟩
 ·rw[jH,y.hk]
  apply propext
  constructor
  ·rintro⟨-,h⟩
   have:=h _ he
   simpa only[↓bj,hc,List.getElem?_cons_zero] using this
  ·intro h
   refine⟨by first|omega|(simp;omega),fun e he'=>?_⟩
   rw[he]at he';cases he'
   simpa only[↓bj,hc,List.getElem?_cons_zero] using h
theorem me.len {h:Heap}{ro:Ro}{s:Nat}{d:D}{m:Mm}(x:me h ro s d m){K:D->Prop}:bP d h K=K (.int .i64 (m.length:Int)):=by
 obtain⟨kk,els,rfl,y⟩:=x
 rw[il,y.hk]
 exact propext ⟨fun h=>h.2,fun h=>⟨rfl,h⟩⟩
theorem nu.len {h:Heap}{ro:Ro}{r:mc}{d:D}{w:List Int}(x:nu h ro r d w){K:D->Prop}:bP d h K=K (.int .i64 (w.length:Int)):=by
 rcases x with rfl|⟨q,rfl,h2,-⟩
 ·exact kQ
 ·rw[il,h2]
  exact propext ⟨fun h=>h.2,fun h=>⟨rfl,h⟩⟩
theorem ME {h:Heap}{ro:Ro}{s:Nat}{d:D}{m:Mm}(x:me h ro s d m) (hm:OO m){KH:HK}(hK:KH (.bool true) h):ag PP dp [d,aP m] h KH:=by
 refine aU qg (aC _ _ _) rfl (pQ _ _ _) ?_
 (unfold pH;try dsimp only[xL,yL,xF,yF,xI,yI,xS,zI,zJ])
 have hml:=hm.len
 simp only[x.len,iX,↓ck,decide_true,Bool.not_true,↓ae]
 refine⟨fun _ h'=>h'=h,fun _ h' e=>by rw[e];exact hK,?_⟩
 (unfold ko;try dsimp only[xL,yL,xF,yF,xI,yI,xS,zI,zJ])
 refine⟨fun k qs h'=>h'=h/\∃i:Nat,qs=[.int .i64 (i:Int)]/\k+i=m.length,m.length,⟨rfl,0,rfl,by omega⟩,?_⟩
 rintro k f h' ⟨rfl,i,hf,hki⟩
 simp only[List.cons.injEq,and_true]at hf
 rw[hf,x.len,bM]
 by_cases hi:i<m.length
 case neg=>simp only[show ¬((i:Int)<(m.length:Int)) by omega,decide_false,↓ae,ai,true_and]
 have hv:=List.getElem?_eq_getElem hi
 obtain⟨kk,e,a1,a2,R⟩:=x.at hv
 simp only[show((i:Int)<(m.length:Int)) by omega,decide_true,↓af,↓dW,↓bL,a1,a2,↓my hv,↓jB]
 refine Qn (ds':=[words m[i],words m[i]]) (.cons R.f1.d (.cons (aG rfl).d .nil)) (DE (by have:=hm.w _ (List.getElem_mem hi);omega)) rfl ?_
 simp only[↓Ae,↓ae]
 rw[bm,Gc (i:=i) (by omega)]
 exact⟨by simp,k-1,by omega,trivial,i+1,rfl,by omega⟩
theorem LB {P:Program}{f:FuncId}{h h'':Heap}{ds ds':List D}{r:D}{KH:HK}(i:Fs h h'') (k:Fu h'' ds ds') (hv:aF P f ds' (· = r)) (hK:KH r h''/\KH r (h''.freezeAll (ds.flatMap D.nm))):ag P f ds h KH:=by
 obtain⟨k1,k2,k3,-,k4⟩:=k.all
 refine GD i (ag.mono ?_ (fx (K:=(· = r)) (aF.arg k4 hv) fun d hd=>⟨k1 d hd,k2 d hd,k3 _ (List.mem_map.2 ⟨d,hd,rfl⟩)⟩))
 rintro r' h' ⟨rfl,q2,q3⟩
 by_cases hb:r'.flat=true\/ds.flatMap D.nm=[]
 ·rw[q2 hb];exact hK.1
 ·rw[q3 hb];exact hK.2
def dQ (evs:List Ev) (n i:Int):Bool:=evs.any fun e=>decide (e.kind≠4)&&decide (e.arr=n)&&decide (e.i=i)
theorem Lv {evs:List Ev}{n i:Int}(hl:evs.length<=1000000):aF PP jZ [.sl (evs.map Ev.e),.int .i64 n,.int .i64 i] (· = .bool (dQ evs n i)):=by
 refine bb wM (aC _ _ _) rfl (wD _ _ _ _) ?_
 (unfold pT;try dsimp only[xL,yL,xF,yF,xI,yI,xS,zI,zJ])
 refine⟨fun _ _=>dQ evs n i=false,fun _ h' he=>bH.mpr (by rw[he]),?_⟩
 (unfold lU;try dsimp only[xL,yL,xF,yF,xI,yI,xS,zI,zJ])
 refine⟨fun k qs h'=>∃(j:Nat),qs=[.int .i64 (j:Int)]/\k+j=evs.length/\dQ (evs.take j) n i=false,evs.length,⟨0,rfl,rfl,rfl⟩,?_⟩
 rintro k f h' ⟨j,hf,hki,hall⟩
 simp only[List.cons.injEq,and_true]at hf
 rw[hf,lz,List.length_map,bM]
 by_cases hj:j<evs.length
 case neg =>
  simp only[show ¬((j:Int)<(evs.length:Int)) by omega,decide_false,↓ae,ai,true_and]
  rw[List.take_of_length_le (by omega)]at hall
  exact hall
 have hv:evs[j]?=some evs[j]:=List.getElem?_eq_getElem hj
 obtain⟨e,he⟩:∃e,e=evs[j]:=⟨_,rfl⟩
 rw[<- he]at hv
 have mem:e∈evs:=List.mem_of_getElem? hv
 have ld:∀{o:Nat}{d:D}{g:Heap}{K:HK},e.cs[o]?=some d->ab PP (.ld (.c (.vp e.e o)) 1 false) g K=K d g:=fun {o d g K} ho=>by
  rw[iI,bj];show(match e.cs[o]? with|some d=>K d g|none=>False)=_;rw[ho]
 simp only[show((j:Int)<(evs.length:Int)) by omega,decide_true,↓af,↓Hk hv,↓iu,Nat.zero_add,ld (o:=0) rfl,↓ck]
 have nxt:(e.kind=4\/e.arr≠n\/e.i≠i)->dQ (evs.take (j+1)) n i=false:=fun h=>by
  rw[List.take_add_one,hv,Option.toList_some,dQ,List.any_append]
  rw[dQ]at hall
  rw[hall]
  simp only[List.any_cons,List.any_nil,Bool.or_false,Bool.false_or]
  rcases h with h|h|h<;>simp[h]
 have go:dQ (evs.take (j+1)) n i=false->∃m,m<k/\∃(j':Nat),[D.int .i64 (IntKind.i64.wrap ((j:Int)+1))]=[.int .i64 (j':Int)]/\m+j'=evs.length/\dQ (evs.take j') n i=false:=fun h =>
  ⟨k-1,by omega,j+1,by rw[Gc (i:=j) (by omega)],by omega,h⟩
 by_cases k4:e.kind=4
 ·simp only[k4,decide_true,Bool.not_true,↓Sr,↓qQ,↓fF,↓ae,↓bm,ai,true_and]
  exact go (nxt (Or.inl k4))
 simp only[k4,decide_false,Bool.not_false,↓Kp,↓Hk hv,↓iu,Nat.zero_add,ld (o:=6) rfl,↓aN,↓eD]
 by_cases ka:e.arr=n
 case neg =>
  simp only[ka,decide_false,↓Sr,↓qQ,↓fF,↓ae,↓bm,ai,true_and]
  exact go (nxt (Or.inr (Or.inl ka)))
 simp only[ka,decide_true,↓Kp,↓Hk hv,↓iu,Nat.zero_add,ld (o:=7) rfl,↓aN,↓eD]
 by_cases ki:e.i=i
 case neg =>
  simp only[ki,decide_false,↓ae,↓bm,ai,true_and]
  exact go (nxt (Or.inr (Or.inr ki)))
 simp only[ki,decide_true,↓af]
 refine bH.mpr ?_
 have:dQ evs n i=true:=by
  rw[dQ,List.any_eq_true]
  exact⟨e,mem,by simp[k4,ka,ki]⟩
 rw[this]
theorem Nf {m:Mm}{n i k j:Nat}{v:Int}(h:¬(k=n/\j=i)):qM (iy m n i v) k j=qM m k j:=by
 unfold qM iy
 by_cases hk:k=n
 ·subst hk
  have hj:j≠i:=fun e=>h ⟨rfl,e⟩
  simp only[List.getD_eq_getElem?_getD]
  by_cases hl:k<m.length
  ·rw[List.getElem?_set_self hl]
   simp only[Option.getD_some]
   rw[List.getElem?_set_ne (Ne.symm hj)]
  ·rw[List.set_eq_of_length_le (by omega)]
 ·simp only[List.getD_eq_getElem?_getD]
  rw[List.getElem?_set_ne (Ne.symm hk)]
theorem Lg {m:Mm}{n i k j:Nat}{v w:Int}(h:¬(k=n/\j=i)):iy (iy m n i v) k j w=iy (iy m k j w) n i v:=by
 unfold iy
 by_cases hk:k=n
 ·subst hk
  have hj:j≠i:=fun e=>h ⟨rfl,e⟩
  simp only[List.getD_eq_getElem?_getD]
  by_cases hl:k<m.length
  ·rw[List.getElem?_set_self hl,List.getElem?_set_self hl,List.set_set,List.set_set]
   simp only[Option.getD_some]
   rw[List.set_comm _ _ (Ne.symm hj)]
  ·rw[List.set_eq_of_length_le (l:=m) (by omega),List.set_eq_of_length_le (l:=m) (by omega),List.set_eq_of_length_le (l:=m) (by omega)]
 ·simp only[List.getD_eq_getElem?_getD]
  rw[List.getElem?_set_ne (Ne.symm hk),List.getElem?_set_ne hk,List.set_comm _ _ (Ne.symm hk)]
theorem Mx {a b:St}(h1:a.regs=b.regs) (h2:a.mem=b.mem) (h3:a.ev=b.ev):a=b:=by cases a;cases b;simp_all
section
variable {c:Code}{l:dA}{id aw block:Int}
theorem HV {st:St}{n i s k j:Nat}{v:Int}(h:s=1->¬(k=n/\j=i)):(st.put 1 n i v).word s k j=st.word s k j:=by
 show qM ((st.put 1 n i v).mem s) k j=qM (st.mem s) k j
 by_cases hs:s=1
 ·subst hs
  show qM (ah st.mem 1 _ 1) k j=_
  rw[ad];exact Nf (h rfl)
 ·show qM (ah st.mem 1 _ s) k j=_
  rw[aa _ _ hs]
theorem put_comm {st:St}{n i s k j:Nat}{v w:Int}(h:s=1->¬(k=n/\j=i)):(st.put 1 n i v).put s k j w=(st.put s k j w).put 1 n i v:=by
 refine Mx rfl ?_ rfl
 show ah (ah st.mem 1 (iy (st.mem 1) n i v)) s (iy (ah st.mem 1 (iy (st.mem 1) n i v) s) k j w)=ah (ah st.mem s (iy (st.mem s) k j w)) 1 (iy (ah st.mem s (iy (st.mem s) k j w) 1) n i v)
 by_cases hs:s=1
 ·subst hs
  rw[ad,ad,gk,gk,Lg (h rfl)]
 ·rw[aa _ _ hs,aa _ _ (Ne.symm hs)]
  funext q
  by_cases h1:q=1
  ·subst h1;rw[aa _ _ (Ne.symm hs),ad,ad]
  ·rw[aa (ah st.mem s _) _ h1]
   by_cases h2:q=s
   ·subst h2;rw[ad,ad]
   ·rw[aa _ _ h2,aa _ _ h2,aa _ _ h1]
theorem Gh {es fs:List Ev}{n i:Int}:dQ (es++fs) n i=(dQ es n i||dQ fs n i):=by simp[dQ]
theorem LF {x:aQ}{e0:Ev}{st st':St}{n i:Nat}{v:Int}{rn:bO}(hc:bh c) (hx:lZ c x) (hn:c.arrays[n]?=some rn) (h1:rn.space=1) (h:cO c l id x e0 st=some st') (ht:dQ st'.ev n i=false) :
  cO c l id x e0 (st.put 1 n i v)=some (st'.put 1 n i v):=by
 have pr:(st.put 1 n i v).regs=st.regs:=rfl
 have key:∀(s1:St) (k:Nat) (r:bO) (e:Ev) (a:Int),c.arrays[k]?=some r->e.arr=(k:Int)->e.i=a->0<=a->e.kind≠4->dQ (s1.tell c e).ev n i=false->bg c k=1->¬(k=n/\a.toNat=i):=by
  rintro s1 k r e a hr e1 e2 ha k4 ht hs ⟨rfl,rfl⟩
  have:(s1.tell c e).ev=s1.ev++[e]:=by
   unfold St.tell;rw[if_neg]
   rintro⟨-,h⟩
   rw[e1,Int.toNat_natCast,hs]at h;omega
  rw[this,Gh]at ht
  have:dQ [e] (k:Int) (a.toNat:Int)=true:=by
   simp only[dQ,List.any_cons,List.any_nil,Bool.or_false,Bool.and_eq_true,decide_eq_true_eq]
   exact⟨⟨k4,e1⟩,by rw[e2];omega⟩
  rw[this]at ht
  simp at ht
 unfold cO at h ⊢
 rw[pr]
 by_cases h7:x.op=7
 ·rw[if_pos h7]at h ⊢
  split at h
  ·rename_i hin
   obtain⟨k,hk1,hk2,-,-⟩:=hx.acc (Or.inl h7)
   obtain⟨r,hr,ho⟩:=hc.at hk2
   rw[if_pos hin]
   cases h
   rw[hk1,Int.toNat_natCast]at hin ht ⊢
   have kk:bg c k=1->¬(k=n/\(aV st.regs x.a).toNat=i):=fun hs=>key _ k r _ _ hr hk1 rfl hin.1 (by show(1:Int)≠4;omega) ht hs
   rw[HV kk]
   rfl
  ·cases h
 rw[if_neg h7]at h ⊢
 by_cases h8:x.op=8
 ·rw[if_pos h8]at h ⊢
  split at h
  ·rename_i hin
   obtain⟨k,hk1,hk2,-,-⟩:=hx.acc (Or.inr (Or.inl h8))
   obtain⟨r,hr,ho⟩:=hc.at hk2
   rw[if_pos hin]
   cases h
   rw[hk1,Int.toNat_natCast]at hin ht ⊢
   have kk:bg c k=1->¬(k=n/\(aV st.regs x.a).toNat=i):=fun hs=>key _ k r _ _ hr hk1 rfl hin.1 (by show(2:Int)≠4;omega) ht hs
   rw[put_comm kk]
   rfl
  ·cases h
 rw[if_neg h8]at h ⊢
 by_cases h9:x.op=9
 ·rw[if_pos h9]at h ⊢
  split at h
  ·rename_i hin
   obtain⟨k,hk1,hk2,-,-⟩:=hx.acc (Or.inr (Or.inr h9))
   obtain⟨r,hr,ho⟩:=hc.at hk2
   rw[if_pos hin]
   cases h
   rw[hk1,Int.toNat_natCast]at hin ht ⊢
   have kk:bg c k=1->¬(k=n/\(aV st.regs x.a).toNat=i):=fun hs=>key _ k r _ _ hr hk1 rfl hin.1 (by show(3:Int)≠4;omega) ht hs
   rw[HV kk,put_comm kk]
   rfl
  ·cases h
 rw[if_neg h9]at h ⊢
 by_cases h10:x.op=10
 ·rw[if_pos h10]at h ⊢
  cases h;rfl
 rw[if_neg h10]at h ⊢
 cases h;rfl
theorem HO (hc:bh c) (hl:jw c l):∀(xs:List aQ) (k:Nat) (st st':St),(∀x∈xs,lZ c x)->oC c st->runP c l id aw block xs k st=some st'->∃es,st'.ev=st.ev++es
 | [],k,st,st',_,_,h=>by cases h;exact⟨[],by simp⟩
 | x::r,k,st,st',hx,hw,h=>by
  simp only[runP,Option.bind_eq_some_iff]at h
  obtain⟨s1,h1,h2⟩:=h
  obtain⟨w1,-⟩:=rN hc hl hw (hx x (by simp)) h1
  obtain⟨es,he⟩:=HO hc hl r (k+1) s1 st' (fun y hy=>hx y (by simp[hy])) w1 h2
  rcases NO hc hw (hx x (by simp)) h1 with⟨e1,-⟩|⟨e,e1,-⟩
  ·exact⟨es,by rw[he,e1]⟩
  ·exact⟨e::es,by rw[he,e1];simp⟩
theorem HP {n i:Nat}{v:Int}{rn:bO}(hc:bh c) (hl:jw c l) (hn:c.arrays[n]?=some rn) (hn1:rn.space=1):∀(xs:List aQ) (k:Nat) (st st':St),(∀x∈xs,lZ c x)->oC c st->runP c l id aw block xs k st=some st' ->
  dQ st'.ev n i=false->runP c l id aw block xs k (st.put 1 n i v)=some (st'.put 1 n i v)
 | [],k,st,st',_,_,h,_=>by cases h;rfl
 | x::r,k,st,st',hx,hw,h,ht=>by
  simp only[runP,Option.bind_eq_some_iff]at h ⊢
  obtain⟨s1,h1,h2⟩:=h
  obtain⟨w1,-⟩:=rN hc hl hw (hx x (by simp)) h1
  have hr:=fun y (hy:y∈r)=>hx y (List.mem_cons_of_mem _ hy)
  obtain⟨es,he⟩:=HO hc hl r (k+1) s1 st' hr w1 h2
  have t1:dQ s1.ev n i=false:=by
   rw[he,Gh]at ht
   cases e:dQ s1.ev n i with
   | false=>rfl
   | true=>rw[e]at ht;cases ht
  exact⟨s1.put 1 n i v,LF hc (hx x (by simp)) hn hn1 h1 t1,HP hc hl hn hn1 r (k+1) s1 st' hr w1 h2 ht⟩
theorem Mw {it:It}{g s:Mm}{n i:Nat}{v:Int}{rn:bO}(hc:bh c) (hl:jw c l) (h:Q9 c l it) (hg:gg c.arrays 1 g) (hs:gg c.arrays 2 s) (hn:c.arrays[n]?=some rn) (hn1:rn.space=1)
  (he:(dC c l it g s aw).e=0) (ht:dQ (dC c l it g s aw).ev n i=false) :
  dC c l it (iy g n i v) s aw=⟨(dC c l it g s aw).it,iy (dC c l it g s aw).g n i v,(dC c l it g s aw).s,(dC c l it g s aw).ev,0⟩:=by
 unfold dC at he ht ⊢
 by_cases ha:it.at_≠1
 ·rw[if_pos ha]at he;simp at he
 rw[if_neg ha]at he ht ⊢
 obtain⟨k,Q,hbk,hQ,hQm,-,hins⟩:=hc.OB h.block
 obtain⟨hxs,hxl,-⟩:=hc.xs Q hQm
 rw[hins]at he ht ⊢
 have w0:oC c (zY it g s):=GO h.toOU hg hs
 have e0:zY it (iy g n i v) s=(zY it g s).put 1 n i v:=by
  refine Mx rfl ?_ rfl
  funext q
  show(if q=1 then iy g n i v else if q=2 then s else it.priv)=ah (zY it g s).mem 1 _ q
  by_cases h1:q=1
  ·subst h1;rw[ad];rfl
  ·rw[aa _ _ h1,if_neg h1];simp[zY,h1]
 cases e:runP c l it.id aw it.block Q.i 0 (zY it g s) with
 | none=>rw[e]at he;simp at he
 | some st =>
  rw[e]at ht
  have r2:=HP (v:=v) hc hl hn hn1 Q.i 0 _ _ hxs w0 e ht
  rw[if_neg ha,e0,r2]
  rfl
end
end Go.Am
namespace Go.Am
open Go
theorem Sk {a:Int}:ibits .and .i64 a 15=a % 16:=by
 have h:(BitVec.ofInt 64 15).toNat=15:=by decide
 show IntKind.i64.wrap ((BitVec.ofInt 64 a &&& BitVec.ofInt 64 15).toNat:Int)=_
 rw[BitVec.toNat_and,BitVec.toNat_ofInt,h,show(15:Nat)=2 ^ 4-1 by decide,Nat.and_two_pow_sub_one_eq_mod]
 have hb:=Nat.mod_lt (a % ((2 ^ 64:Nat):Int)).toNat (show 0<2 ^ 4 by decide)
 rw[wrap64 (by omega) (by omega)]
 simp only[Nat.reducePow]
 omega
theorem LD {a:Int}:ibits .and .i64 a 65535=a % 65536:=by
 have h:(BitVec.ofInt 64 65535).toNat=65535:=by decide
 show IntKind.i64.wrap ((BitVec.ofInt 64 a &&& BitVec.ofInt 64 65535).toNat:Int)=_
 rw[BitVec.toNat_and,BitVec.toNat_ofInt,h,show(65535:Nat)=2 ^ 16-1 by decide,Nat.and_two_pow_sub_one_eq_mod]
 have hb:=Nat.mod_lt (a % ((2 ^ 64:Nat):Int)).toNat (show 0<2 ^ 16 by decide)
 rw[wrap64 (by omega) (by omega)]
 simp only[Nat.reducePow]
 omega
theorem QK {z:Int}{n:Nat}(hz:0<=z) (hn:0<n):∃k:Nat,z.tmod (n:Int)=(k:Int)/\k<n:=by
 refine⟨(z.tmod (n:Int)).toNat,?_,?_⟩
 ·have:=Int.tmod_nonneg (n:Int) hz;omega
 ·have:=Int.tmod_lt_of_pos z (show 0<(n:Int) by omega)
  have:=Int.tmod_nonneg (n:Int) hz;omega
theorem bN.Ud {h0 h:Heap}{ro0 ro:Ro}{L:List (Nat×D)}{KH:HK}(B:bN h0 ro0 h ro L) (i:Nat){n j:Nat}{a:Int}{d:D}(hi:L[i]?=some (n,d)) (ha:0<=a/\a<3):ab PP (.iadda (.c (.ptr n 0 j)) (.c (.int .i64 a)) 3 1) h KH=KH (.ptr n 0 (j+a.toNat)) h:=by
 rw[EN,B.get i hi]
 apply propext
 constructor
 ·rintro⟨-,-,-,h⟩;simpa using h
 ·intro h;exact⟨ha.1,ha.2,rfl,by simpa using h⟩
theorem Qg {h:Heap}{n m:Nat}{d:D}(hn:h n=.box d):h.freeze m n=.box d:=by
 unfold Heap.freeze
 cases hm:h m<;>simp only<;>try exact hn
 by_cases he:n=m
 ·subst he;rw[hm]at hn;cases hn
 ·rw[aa _ _ he];exact hn
theorem Ks {n:Nat}{d:D}:∀(ns:List Nat){h:Heap},h n=.box d->h.freezeAll ns n=.box d
 | [],_,hn=>hn
 | _::r,_,hn=>Ks r (Qg hn)
theorem RI {h:Heap}{k:Nat}{m:Mm}(hr:(h k).row=some (1,m.map words)){K:D->Prop}:bP (.ms k 0 m.length) h K=K (.int .i64 (m.length:Int)):=by
 rw[il]
 have:(h k).live=true:=by cases e:h k<;>rw[e]at hr<;>first|rfl|cases hr
 exact propext ⟨fun h=>h.2,fun h=>⟨this,h⟩⟩
theorem Tt {h:Heap}{k n:Nat}{m:Mm}(hr:(h k).row=some (1,m.map words)) (hn:n<m.length){K:HK}:ab PP (.iadd (.c (.ms k 0 m.length)) (.c (.int .i64 (n:Int))) 1) h K=K (.ptr k n 0) h:=by
 rw[bG]
 apply propext
 constructor
 ·rintro⟨-,-,-,h⟩;simpa using h
 ·intro h;exact⟨by omega,by omega,⟨_,hr⟩,by simpa using h⟩
theorem Ts {h:Heap}{k n:Nat}{m:Mm}{w:List Int}(hr:(h k).row=some (1,m.map words)) (hw:m[n]?=some w){K:HK}:ab PP (.ld (.c (.ptr k n 0)) 1 false) h K=K (words w) h:=by
 have he:(m.map words)[n]?=some (words w):=by rw[List.getElem?_map,hw];rfl
 have hl:=(List.getElem?_eq_some_iff.1 he).1
 have main:(n<(m.map words).length/\∀d,(m.map words)[n]?=some d->vpart d.cells 0 1 false (K · h))=K (words w) h:=by
  apply propext
  constructor
  ·rintro⟨-,h⟩;exact h _ he
  ·intro h;refine⟨hl,fun d hd=>?_⟩
   rw[he]at hd;cases hd;exact h
 rw[jH]
 cases e:h k with
 | arr a b=>rw[e]at hr;cases hr;exact main
 | frz a b=>rw[e]at hr;cases hr;exact main
 | _=>rw[e]at hr;cases hr
theorem Sg {h:Heap}{ro:Ro}{dR dP dL:D}{w:List Int}{m:Mm}(R:nv h ro dR w) (P:me h ro 3 dP m) (S:JO h ro dL):∃h'',Fs h h''/\uc h'' dR (words w)/\uc h'' dP (aP m)/\uc h'' dL (.sl [])/\∀k,ro k≠.mem 3->(∀i,ro k≠.row 3 i)->h'' k=h k:=by
 obtain⟨k,els,rfl,y⟩:=P
 obtain⟨p1,p2,p3⟩:=y.IQ
 have far:∀j,ro j≠.mem 3->(∀i,ro j≠.row 3 i)->dk h k 1 els j=h j:=fun j h1 h2=>p3 j h2 (by rintro rfl;exact h1 y.rk)
 refine⟨dk h k 1 els,.step y.hk p1 (.refl _),?_,?_,?_,far⟩
 ·obtain⟨q,rfl,g1,g2⟩:=R
  have:=cA (h:=dk h k 1 els) (n:=q) (e:=1) (els:=wr w) (by rw[far q (by rw[g2];simp) (by rw[g2];simp)];exact g1) (IT _)
  rw[ly]at this
  exact this
 ·have:=cA (h:=dk h k 1 els) (n:=k) (e:=1) (els:=m.map words) (by rw[iH,p2]) (PS m)
  rw[List.length_map]at this
  exact this
 ·rcases S with rfl|rfl|⟨q,rfl,g1,g2⟩
  ·exact fK
  ·exact aG rfl
  ·exact cA (els:=[]) (by rw[far q (by rw[g2];simp) (by rw[g2];simp)];exact g1) (by simp)
theorem LC {P:Program}{f:FuncId}{h h'':Heap}{ds ds':List D}{r:D}{KH:HK}(i:Fs h h'') (k:Fu h'' ds ds') (hv:aF P f ds' (· = r))
  (hK:∀h3,(∀p d,h'' p=.box d->h3 p=.box d)->(∀k,(h3 k).row=(h'' k).row)->KH r h3):ag P f ds h KH :=
 LB i k hv ⟨hK _ (fun _ _ h=>h) fun _=>rfl,hK _ (fun _ _ h=>Ks _ h) fun k=>iw _ k⟩
theorem gu.UO {h:Heap}{ro:Ro}{s:Nat}{d:D}{m:Mm}(x:gu h ro s d m):∃h'' k,Fs h h''/\d=.ms k 0 m.length/\ro k=.mem s/\(h'' k).row=some (1,m.map words)/\uc h'' d (aP m)/\∀j,ro j≠.mem s->(∀i,ro j≠.row s i)->h'' j=h j:=by
 obtain⟨k,els,rfl,y,-⟩:=x
 obtain⟨p1,p2,p3⟩:=y.IQ
 have e:dk h k 1 els k=.arr 1 (m.map words):=by rw[iH,p2]
 refine⟨dk h k 1 els,k,.step y.hk p1 (.refl _),rfl,y.rk,by rw[e];rfl,?_,fun j h1 h2=>p3 j h2 (by rintro rfl;exact h1 y.rk)⟩
 have:=cA (h:=dk h k 1 els) (n:=k) (e:=1) (els:=m.map words) e (PS m)
 rw[List.length_map]at this
 exact this
set_option maxRecDepth 100000 in
theorem Lt {bs:List Nat}{g:Int}{zs:List Int}{id st a0 a1 a2:Int}(hb:∀b∈bs,b<=255) (hbl:bs.length<=9223372036854775807) (hp:DO g zs id st) :
  aF PP mu [jX bs,dh g zs id st,.agg [.int .i64 a0,.int .i64 a1,.int .i64 a2]] (· = .bool true):=by
 refine bb ti (aC _ _ _) rfl (sC _ _ _ _) ?_
 (unfold mL;try dsimp only[xL,yL,xF,yF,xI,yI,xS,zI,zJ])
 have hz:=hp.z
 refine bN.start.box (Kb bs).one fun n1 h1 ro1 B=>?_
 refine B.box (EB g zs id st) fun n2 h2 ro2 B=>?_
 refine B.box (by simp) fun n3 h3 ro3 B=>?_
 refine bc Iw trivial ?_
 simp only[↓Ae,↓ae]
 rw[B.dt (s:=1) 2 rfl rfl rfl,B.dt (s:=15) 1 rfl rfl (by simp[dh,hz])]
 refine bF (NJ hb hbl hp) (fun d hd=>by simp at hd;rcases hd with rfl|rfl;exact(Kb bs).pair;exact(Li g zs id st).pair) ?_
 rintro _ ⟨c,l,s,hc,hl,V,rfl⟩
 refine B.alloc fun n4 h4 ro4 B=>?_
 refine B.Rr 0 (d':=GX c l s) rfl rfl rfl rfl rfl (Kh c l s) fun h5 B=>?_
 have B:bN aM tq h5 ro4 [(n4,GX c l s),(n3,.agg [.int .i64 a0,.int .i64 a1,.int .i64 a2]),(n2,dh g zs id st),(n1,jX bs)]:=B
 have gb:=V.g.b hc
 have hrl:=V.it.len
 have hcr:=hc.regs
 have hpb:=V.it.priv.b hc
 simp only[↓aE,B.used 0 rfl,Nat.zero_add,Nat.add_zero,Nat.reduceAdd,true_and,↓bL,B.cM 0 (j:=17) rfl rfl rfl,B.Uc 0 rfl]
 refine Ey (ro:=ro4) gb 1 fun dB h6 ro6 x6 G=>?_
 have B:=B.step x6.fr
 simp only[↓aE,B.used 0 rfl,Nat.zero_add,Nat.add_zero,Nat.reduceAdd,true_and,↓bL,B.cM 0 (j:=17) rfl rfl rfl,B.Uc 0 rfl,ai]
 refine Ew (ro:=ro6) (it:=s.it) (by omega) hpb fun dR dP dL h7 ro7 x7 R P L=>?_
 have B:=B.step x7.fr
 have G:=G.aA x7.aA
 have oR:=R.one
 have oP:=P.one
 have oL:=L.one
 refine B.AK fun n5 h8 ro8 kp B=>?_
 have G:=G.aA kp
 have R:=R.aA kp
 have P:=P.aA kp
 have L:=L.aA kp
 simp only[↓aE,B.used 1 rfl,Nat.zero_add,Nat.add_zero,Nat.reduceAdd,true_and,↓bL,B.cM 1 (j:=17) rfl rfl rfl,B.Uc 1 rfl,ai]
 refine B.GN 0 (cs':=lL s.it dR dP dL) rfl rfl rfl (by simp[oR,oP,oL]) fun h9 kp B=>?_
 have G:=G.aA kp
 have R:=R.aA kp
 have P:=P.aA kp
 have L:=L.aA kp
 simp only[↓bf (B.used 1 rfl),Nat.zero_add,Nat.add_zero,B.U7 1 rfl,B.U6 1 rfl,B.U5 1 rfl]
 refine bc (G8 hc hl V.it.toOU V.g V.s) ⟨Code.cu c,dA.cu l,qL.cu s,ba,trivial⟩ ?_
 obtain⟨V2,hev⟩:=I1 (aw:=0) hc hl V.it V.g V.s
 have loc:=fun(n i:Nat) (v:Int) (rn:bO) (h1:c.arrays[n]?=some rn) (h2:rn.space=1)=>Mw (aw:=0) (n:=n) (i:=i) (v:=v) hc hl V.it V.g V.s h1 h2
 obtain⟨q,hq⟩:∃q,q=dC c l s.it s.g s.s 0:=⟨_,rfl⟩
 rw[<- hq]at V2 hev loc ⊢
 refine B.AK fun n6 h10 ro10 kp B=>?_
 have G:=G.aA kp
 have R:=R.aA kp
 have P:=P.aA kp
 have L:=L.aA kp
 refine B.GN 0 (cs':=Br q) rfl rfl rfl (mg q) fun h11 kp B=>?_
 have G:=G.aA kp
 have R:=R.aA kp
 have P:=P.aA kp
 have L:=L.aA kp
 have B:bN aM tq h11 ro10 [(n6,gI q),(n5,.agg (lL s.it dR dP dL)),(n4,GX c l s),(n3,.agg [.int .i64 a0,.int .i64 a1,.int .i64 a2]),(n2,dh g zs id st),(n1,jX bs)]:=B
 have yes:∀{h:Heap},qN (· = .bool true) (.bool true) h:=bH.mpr rfl
 refine⟨fun qs h'=>qs=[.ptr n3 0 0,.bool true,.ptr n4 0 0,dB,.ptr n6 0 0]/\bN aM tq h' ro10 [(n6,gI q),(n5,.agg (lL s.it dR dP dL)),(n4,GX c l s),(n3,.agg [.int .i64 a0,.int .i64 a1,.int .i64 a2]),(n2,dh g zs id st),(n1,jX bs)]/\gu h' ro10 1 dB s.g,?_,?_⟩
 rotate_left
 ·simp only[↓bf (B.used 2 rfl),Nat.zero_add,Nat.add_zero,Nat.reduceAdd,B.cM 2 (j:=17) rfl rfl rfl]
  refine ME G.r gb ?_
  simp only[↓Ae,↓F0,↓bf (B.used 2 rfl),Nat.zero_add,Nat.add_zero,Nat.reduceAdd,B.dt (s:=7) 1 rfl rfl rfl,B.Uc 2 rfl]
  obtain⟨h12,i1,i2,i3,i4,far⟩:=Sg R P.r L
  have B:=B.re (h0:=aM) (h':=h12) fun x hx=>far x.1 (by rw[(B.at_ x hx).2.1];simp) (by rw[(B.at_ x hx).2.1];simp)
  have G:gu h12 ro10 1 dB s.g:=G.de (E:=fun r=>r≠.mem 3/\∀i,r≠.row 3 i) (fun k _ hr=>⟨far k hr.1 hr.2,rfl⟩) (by simp) (by simp)
  refine NN (ds':=[s.it.e,s.it.e]) i1 (.cons (A4.agg (.cons (aG rfl) (.cons (aG rfl) (.cons (aG rfl) (.cons (aG rfl) (.cons i2 (.cons i3 (.cons i4 .nil)))))))) (.cons (gT (It.cu _)) .nil)) (MF (NK hc V.it.toOU)) rfl ?_
  simp only[↓Ae,↓F0,↓fF,↓ae]
  simp only[ai,true_and,and_true]
  exact⟨B,G⟩
 clear B G R P L
 rintro f h12 ⟨hf,B,G⟩
 simp only[List.cons.injEq,and_true]at hf
 obtain⟨e5,e7,e8,e9,e11⟩:=hf
 simp only[e5,e7,e8,e9,e11]
 clear e5 e7 e8 e9 e11 f
 simp only[↓bf (B.used 0 rfl),Nat.zero_add,B.cM 0 (j:=10) rfl rfl rfl,↓ck]
 by_cases he:q.e=0
 case neg =>
  simp only[he,decide_false,Bool.not_false,↓L4,↓qQ,↓eD,↓af]
  exact yes
 simp only[he,decide_true,Bool.not_true,↓F0,G.r.len,↓aN,↓fF]
 by_cases hl0:s.g.length=0
 ·simp only[hl0,show(((0:Nat):Int))=0 from rfl,decide_true,↓af]
  exact yes
 obtain⟨n,hn,hnl⟩:=QK (z:=a0 % 16) (n:=s.g.length) (by omega) (by omega)
 have hw:s.g[n]?=some s.g[n]:=List.getElem?_eq_getElem hnl
 obtain⟨w,hwe⟩:∃w,w=s.g[n]:=⟨_,rfl⟩
 rw[<- hwe]at hw
 obtain⟨kk,q0,at1,at2,rq,rr,hput⟩:=G.at hw
 have wlen1:∀{K:D->Prop},bP (.ms q0 0 w.length) h12 K=K (.int .i64 (w.length:Int)):=fun {K}=>by
  rw[il,rq];exact propext ⟨fun h=>h.2,fun h=>⟨rfl,h⟩⟩
 simp only[show ¬((s.g.length:Int)=0) by omega,decide_false,↓ae,B.Ud 3 (a:=0) rfl ⟨by omega,by omega⟩,show((0:Int)).toNat=0 from rfl,Nat.add_zero,B.cM 3 (j:=0) rfl rfl rfl,↓Mo,Sk,G.r.len,↓bJ,ne_eq,not_false_eq_true,true_and,hn,at1,at2,wlen1,↓aN]
 by_cases hw0:w.length=0
 ·simp only[hw0,show(((0:Nat):Int))=0 from rfl,decide_true,↓af]
  exact yes
 obtain⟨i,hi,hil⟩:=QK (z:=a1 % 65536) (n:=w.length) (by omega) (by omega)
 simp only[show ¬((w.length:Int)=0) by omega,decide_false,↓ae,↓pn,B.Ud 3 (a:=1) rfl ⟨by omega,by omega⟩,show((1:Int)).toNat=1 from rfl,Nat.zero_add,↓bL,B.cM 3 (j:=1) rfl rfl rfl,↓Mo,LD,↓dW,at1,at2,wlen1,↓bJ,ne_eq,not_false_eq_true,true_and,hi,
  ↓bf (B.used 0 rfl),B.cM 0 (j:=9) rfl rfl rfl]
 refine bc (Lv (evs:=q.ev) (n:=(n:Int)) (i:=(i:Int)) (by omega)) ⟨eR,ba,ba,trivial⟩ ?_
 cases ht:dQ q.ev (n:Int) (i:Int) with
 | true =>
  simp only[↓af]
  exact yes
 | false =>
 simp only[↓ae,↓bf (B.used 2 rfl),Nat.zero_add,B.U5 2 rfl]
 refine B.AK fun n7 h13 ro13 kp B=>?_
 have G:=G.aA kp
 refine B.GN 0 (cs':=Br s) rfl rfl rfl (mg s) fun h14 kp B=>?_
 have G:=G.aA kp
 refine⟨fun qs h'=>qs=[.ptr n3 0 0,.bool true,.ptr n4 0 0,dB,.ptr n6 0 0,.int .i64 (n:Int),.int .i64 (i:Int),.ptr n7 0 0] /\
  bN aM tq h' ro13 [(n7,.agg ((Br s).set 7 dB)),(n6,gI q),(n5,.agg (lL s.it dR dP dL)),(n4,GX c l s),(n3,.agg [.int .i64 a0,.int .i64 a1,.int .i64 a2]),(n2,dh g zs id st),(n1,jX bs)]/\gu h' ro13 1 dB s.g,?_,?_⟩
 rotate_left
 ·simp only[↓bf (B.used 0 rfl),Nat.zero_add]
  refine B.K9 0 (j:=7) rfl (by simp) G.one fun h15 kp B=>?_
  simp only[ai,true_and,and_true]
  exact⟨B,G.aA kp⟩
 clear at1 at2 rq rr hput wlen1 B G
 rintro f h15 ⟨hf,B,G⟩
 simp only[List.cons.injEq,and_true]at hf
 obtain⟨e5,e7,e8,e9,e11,e12,e13,e14⟩:=hf
 simp only[e5,e7,e8,e9,e11,e12,e13,e14]
 clear e5 e7 e8 e9 e11 e12 e13 e14 f
 obtain⟨kk2,q2,bt1,bt2,bq,br,bput⟩:=G.at hw
 simp only[↓dW,↓bL,bt1,bt2,↓pn,B.Ud 4 (a:=2) rfl ⟨by omega,by omega⟩,show((2:Int)).toNat=2 from rfl,Nat.zero_add,B.cM 4 (j:=2) rfl rfl rfl,↓lP,↓bY,MN bq hil]
 obtain⟨v,hv⟩:∃v,v=oF a2:=⟨_,rfl⟩
 have hve:IntKind.i32.wrap a2=v:=hv.symm
 rw[hve]
 refine J4 bq hil ?_
 have G:=bput i v
 have B:=B.step (Fr.aw (n:=q2) (s:=.arr 1 (wr (w.set i v))) (by rw[br];simp) (by simp))
 have hgp:s.g.set n (w.set i v)=iy s.g n i v:=by simp[iy,List.getD_eq_getElem?_getD,hw]
 generalize ah h15 q2 (.arr 1 (wr (w.set i v)))=h16 at G B
 obtain⟨g2,hg2⟩:∃g2,g2=s.g.set n (w.set i v):=⟨_,rfl⟩
 rw[<- hg2]at G hgp
 have wg2:gg c.arrays 1 g2:=by rw[hgp];exact GV V.g (by rw[hv];exact cP a2)
 have hgl:=V.g.len
 have hrn:c.arrays[n]?=some (c.arrays[n]'(by omega)):=List.getElem?_eq_getElem (by omega)
 obtain⟨rn,hrne⟩:∃rn,rn=c.arrays[n]'(by omega):=⟨_,rfl⟩
 rw[<- hrne]at hrn
 obtain⟨wl,-⟩:=V.g.w n rn w hrn hw
 have hsp:rn.space=1:=by
  by_cases h:rn.space=1
  ·exact h
  ·exfalso;unfold zG at wl;rw[if_neg (by simpa using h)]at wl;exact hw0 (by simpa using wl)
 have lc:=loc n i v rn hrn hsp he ht
 rw[<- hgp]at lc
 obtain⟨q3,hq3⟩:∃q3:qL,q3=⟨q.it,iy q.g n i v,q.s,q.ev,0⟩:=⟨_,rfl⟩
 rw[<- hq3]at lc
 have c1:q3.it=q.it:=by rw[hq3]
 have c2:q3.s=q.s:=by rw[hq3]
 have c3:q3.ev=q.ev:=by rw[hq3]
 have c4:q3.e=q.e:=by rw[hq3,he]
 simp only[↓bf (B.used 3 rfl),Nat.zero_add,B.U7 3 rfl,B.U6 3 rfl,B.dt (s:=11) 0 rfl rfl rfl]
 obtain⟨h17,kB,i17,dBe,rB,row17,f17,far17⟩:=G.UO
 have ls:=G8 (r:=⟨s.it,g2,s.s,s.ev,s.e⟩) (aw:=0) hc hl V.it.toOU wg2 V.s
 rw[lc]at ls
 have B:=B.re (h0:=aM) (h':=h17) fun x hx=>far17 x.1 (by rw[(B.at_ x hx).2.1];simp) (by rw[(B.at_ x hx).2.1];simp)
 refine LC (ds':=[c.e,l.e,gI ⟨s.it,g2,s.s,s.ev,s.e⟩,.int .i64 0]) i17 (.cons (gT (Code.cu c)) (.cons (gT (dA.cu l)) (.cons (A4.agg (.cons (aG rfl) (.cons (aG rfl) (.cons (aG rfl) (.cons (aG rfl) (.cons (aG rfl) (.cons (aG rfl) (.cons (aG rfl) (.cons f17 (.cons (aG rfl) (.cons (aG rfl) (.cons (aG rfl) .nil)))))))))))) (.cons (aG rfl).d .nil)))) ls fun h18 hbx hrw=>?_
 have B:=B.bx hbx
 have row18:(h18 kB).row=some (1,g2.map words):=by rw[hrw];exact row17
 clear row17 f17 far17 i17 hrw hbx G
 refine B.AK fun n8 h19 ro19 kp B=>?_
 have nfB:h18 kB≠.free:=by intro e;rw[e]at row18;cases row18
 have row19:(h19 kB).row=some (1,g2.map words):=by rw[(kp kB nfB (by rw[rB];rfl)).1];exact row18
 have rB:ro19 kB=.mem 1:=by rw[(kp kB nfB (by rw[rB];rfl)).2];exact rB
 have nfB:h19 kB≠.free:=by intro e;rw[e]at row19;cases row19
 refine B.GN 0 (cs':=Br q3) rfl rfl rfl (mg q3) fun h20 kp B=>?_
 have row20:(h20 kB).row=some (1,g2.map words):=by rw[(kp kB nfB (by rw[rB];rfl)).1];exact row19
 have B:bN aM tq h20 ro19 [(n8,gI q3),(n7,.agg ((Br s).set 7 dB)),(n6,gI q),(n5,.agg (lL s.it dR dP dL)),(n4,GX c l s),(n3,.agg [.int .i64 a0,.int .i64 a1,.int .i64 a2]),(n2,dh g zs id st),(n1,jX bs)]:=B
 clear row18 row19
 have hql:=V2.g.len
 have hwq:q.g[n]?=some (q.g[n]'(by omega)):=List.getElem?_eq_getElem (by omega)
 obtain⟨wq,hwqe⟩:∃wq,wq=q.g[n]'(by omega):=⟨_,rfl⟩
 rw[<- hwqe]at hwq
 obtain⟨wql,-⟩:=V2.g.w n rn wq hrn hwq
 have q3g:q3.g=q.g.set n (wq.set i v):=by rw[hq3];simp[iy,List.getD_eq_getElem?_getD,hwq]
 have hw3:q3.g[n]?=some (wq.set i v):=by rw[q3g,List.getElem?_set_self (by omega)]
 have hv3:(wq.set i v)[i]?=some v:=List.getElem?_set_self (by omega)
 have hw2:g2[n]?=some (w.set i v):=by rw[hg2,List.getElem?_set_self (by omega)]
 have l3:q3.g.length=g2.length:=by rw[q3g,hg2,List.length_set,List.length_set];omega
 have l4:(wq.set i v).length=(w.set i v).length:=by rw[List.length_set,List.length_set];omega
 have hzi:wq[i]?=some (wq[i]'(by omega)):=List.getElem?_eq_getElem (by omega)
 have nl2:n<g2.length:=(List.getElem?_eq_some_iff.1 hw2).1
 have wg3:gg c.arrays 1 q3.g:=by rw[hq3];exact GV V2.g (by rw[hv];exact cP a2)
 have dl:∀{K:D->Prop},bP dB h20 K=K (.int .i64 (g2.length:Int)):=fun {K}=>by rw[dBe];exact RI row20
 have da:∀{K:HK},ab PP (.iadd (.c dB) (.c (.int .i64 (n:Int))) 1) h20 K=K (.ptr kB n 0) h20:=fun {K}=>by rw[dBe];exact Tt row20 nl2
 have dd:∀{K:HK},ab PP (.ld (.c (.ptr kB n 0)) 1 false) h20 K=K (words (w.set i v)) h20:=fun {K}=>Ts row20 hw2
 have u0:=B.used 0 rfl
 have u2:=B.used 2 rfl
 refine⟨fun qs h'=>qs=[.bool true,.ptr n6 0 0,.int .i64 (n:Int),.int .i64 (i:Int),.ptr n8 0 0]/\h'=h20,?_,?_⟩
 rotate_left
 ·simp only[↓aE,u0,u2,Nat.zero_add,true_and,↓bL,B.cM 0 (j:=10) rfl rfl rfl,B.cM 2 (j:=10) rfl rfl rfl,c4,↓ck,decide_true,Bool.not_true,↓Qc,B.UL 0 rfl,B.UL 2 rfl,c1]
  refine gH (MF (NK hc V2.it.toOU)) ⟨It.cu _,It.cu _,trivial⟩ ?_
  simp only[↓Ae,↓Qc,↓kj,↓fF,↓aE,u0,u2,Nat.zero_add,true_and,↓bL,B.cM 0 (j:=9) rfl rfl rfl,B.cM 2 (j:=9) rfl rfl rfl,c3]
  refine gH (HN (by omega)) ⟨eR,eR,trivial⟩ ?_
  simp only[↓Ae,↓Qc,↓kj,↓fF,↓aE,u0,u2,Nat.zero_add,true_and,↓bL,B.cM 0 (j:=7) rfl rfl rfl,iX,dl,l3,↓ck,decide_true,Bool.not_true,↓dW,↓my hw3,↓jB,↓kQ,da,dd,l4,↓GI hv3,↓Hc,
   ↓pn,B.Ud 5 (a:=2) rfl ⟨by omega,by omega⟩,show((2:Int)).toNat=2 from rfl,B.cM 5 (j:=2) rfl rfl rfl,↓lP,↓bY,hve,↓ae,ai,true_and]
 rintro f h' ⟨hf,hh⟩
 rw[hh]
 clear hh h'
 simp only[List.cons.injEq,and_true]at hf
 obtain⟨e7,e11,e12,e13,e15⟩:=hf
 simp only[e7,e11,e12,e13,e15]
 clear e7 e11 e12 e13 e15 f
 simp only[↓bf u0,Nat.zero_add,B.cM 0 (j:=7) rfl rfl rfl]
 refine Ey (ro:=ro19) (wg3.b hc) 1 fun dK h21 ro21 x21 K=>?_
 have B:=B.step x21.fr
 obtain⟨kk3,q4,ct1,ct2,cq,cr,cput⟩:=K.at hw3
 have hil3:i<(wq.set i v).length:=by rw[List.length_set];omega
 simp only[↓dW,↓bL,ct1,ct2,↓aE,B.used 2 rfl,Nat.zero_add,true_and,B.cM 2 (j:=7) rfl rfl rfl,↓my hwq,↓jB,↓GI hzi,↓Hc,MN cq hil3]
 refine J4 cq hil3 ?_
 have K:=cput i (wq[i]'(by omega))
 have B:=B.step (Fr.aw (n:=q4) (s:=.arr 1 (wr ((wq.set i v).set i (wq[i]'(by omega))))) (by rw[cr];simp) (by simp))
 have back:q3.g.set n ((wq.set i v).set i (wq[i]'(by omega)))=q.g:=by
  rw[q3g,List.set_set,List.set_set,List.set_getElem_self]
  have:wq=q.g[n]'(by omega):=hwqe
  rw[this,List.set_getElem_self]
 rw[back]at K
 generalize ah h21 q4 (.arr 1 (wr ((wq.set i v).set i (wq[i]'(by omega)))))=h22 at K B
 simp only[↓bf (B.used 2 rfl),Nat.zero_add,B.cM 2 (j:=7) rfl rfl rfl]
 refine ME K.r (V2.g.b hc) ?_
 simp only[↓Kp,↓bf (B.used 2 rfl),↓bf (B.used 0 rfl),Nat.zero_add,B.cM 2 (j:=8) rfl rfl rfl,B.cM 0 (j:=8) rfl rfl rfl,c2]
 refine bc (JZ (V2.s.b hc)) ⟨eR,eR,trivial⟩ ?_
 simp only[↓Kp,↓eD]
 exact yes
end Go.Am
namespace Go.Am
open Go
def Vb (a b:Ev):Prop:=a.kind=b.kind/\a.op=b.op/\a.item=b.item/\a.arr=b.arr/\a.i=b.i/\a.v=b.v
inductive zC:List Ev->List Ev->Prop where
 | nil:zC [] []
 | cons {a b:Ev}{r s:List Ev}(h:Vb a b) (k:zC r s):zC (a::r) (b::s)
theorem zC.app:∀{a b c d:List Ev},zC a b->zC c d->zC (a++c) (b++d)
 | _,_,_,_,.nil,k=>k
 | _,_,_,_,.cons h r,k=>.cons h (r.app k)
theorem zC.rfl:∀{a:List Ev},zC a a
 | []=>.nil
 | _::_=>.cons ⟨Eq.refl _,Eq.refl _,Eq.refl _,Eq.refl _,Eq.refl _,Eq.refl _⟩ zC.rfl
theorem zC.len {a b:List Ev}(h:zC a b):a.length=b.length:=by
 induction h with
 | nil=>exact Eq.refl _
 | cons _ _ ih=>simp[ih]
theorem zC.get {a b:List Ev}(h:zC a b):∀{i:Nat}{x y:Ev},a[i]?=some x->b[i]?=some y->Vb x y:=by
 induction h with
 | nil=>intro i x y h;simp at h
 | cons h k ih =>
  intro i x y h1 h2
  cases i with
  | zero=>simp at h1 h2;subst h1 h2;exact h
  | succ i=>exact ih (by simpa using h1) (by simpa using h2)
structure SV (a b:St):Prop where
 regs:a.regs=b.regs
 mem:∀s,1<=s->s<=3->a.mem s=b.mem s
theorem SV.put {a b:St}(h:SV a b){s k i:Nat}(hs:1<=s/\s<=3){v:Int}:SV (a.put s k i v) (b.put s k i v):=by
 refine⟨h.regs,fun s' h1 h2=>?_⟩
 show ah a.mem s (iy (a.mem s) k i v) s'=ah b.mem s (iy (b.mem s) k i v) s'
 rw[h.mem s hs.1 hs.2]
 by_cases e:s'=s
 ·subst e;rw[ad,ad]
 ·rw[aa _ _ e,aa _ _ e];exact h.mem s' h1 h2
section
variable {c:Code}{l:dA}{id:Int}
end
end Go.Am
namespace Go.Am
open Go Go.Proofs
set_option maxRecDepth 100000
theorem S7:Try.prog.underlying 76=some (.array 3 3):=by kernel_rfl
theorem Ve:Try.prog.cellsOf 76=3:=by kernel_rfl
theorem Pa {m:Nat}{ds:List D}(h:HasTy Try.prog (m+2) 76 ds):∃a b c:Int,mkElem Try.prog 76 ds=.agg [.int .i64 a,.int .i64 b,.int .i64 c]:=by
 obtain⟨k1,k2⟩:=BA S7 h
 rw[Ve]at k1
 simp only[z3,Nat.mul_one]at k2
 obtain⟨a,ha,-,-⟩:=lq Un (k2 0 (by omega))
 obtain⟨b,hb,-,-⟩:=lq Un (k2 1 (by omega))
 obtain⟨c,hc,-,-⟩:=lq Un (k2 2 (by omega))
 rw[Ny S7]
 match ds,k1 with
 | [d0,d1,d2],_ =>
  simp at ha hb hc
  exact⟨a,b,c,by rw[ha,hb,hc]⟩
theorem TD (xs:List D) (h:Ft Try.prog 12 Try.f6.params.toList xs):aF Try.prog 6 xs (· = .bool true):=by
 have hp:Try.f6.params.toList=[24,31,76]:=by kernel_rfl
 rw[hp]at h
 obtain⟨c1,r1,rfl,h1,c2,r2,rfl,h2,c3,r3,rfl,h3,rfl⟩:=h
 obtain⟨bs,e1,b1,b2⟩:=RJ h1
 obtain⟨g,zs,id,st,e2,P⟩:=Nh h2
 obtain⟨a,b,c,e3⟩:=Pa h3
 show aF Try.prog 6 [mkElem Try.prog 24 c1,mkElem Try.prog 31 c2,mkElem Try.prog 76 c3] _
 rw[e1,e2,e3]
 exact Lt b1 b2 P
end Go.Am
