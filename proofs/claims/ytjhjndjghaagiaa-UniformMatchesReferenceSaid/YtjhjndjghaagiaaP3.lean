/- What the functions of this chapter give, on plain data. No condition. -/
import Derived.Test.YtjhjndjghaagiaaP2
set_option linter.unnecessarySimpa false
set_option linter.defProp false
set_option linter.unusedSectionVars false
set_option linter.unusedSimpArgs false
set_option linter.unusedVariables false
namespace Go.Am
open Go Go.Proofs
section
variable {c:Code}{U R:List Bool}{n3 n5:Nat}{X L:LSq}{vD:D}{h:Heap}
theorem Ln (hc:dX c) (hul:U.length=c.b.length) (hrl:(R.length:Int)=c.regs) (h3:(n3,Slot.box c.e)∈L) (h5:(n5,Slot.box (uE U R))∈L) (wD:LR L vD (ji c)) (V:Vs h L){J:HJq}{K:HKq}
  (hJ:∀h',Vs h' L->uT c U R c.b.length->J [] h') (hK:∀h',Vs h' L->(iB c).all (cP U R)=false->K (.int .i64 100) h') :
  kB h (.ptr n5 0 0) (.ptr n3 0 0) (.sl (bL (da c))) vD J K:=by
 have hnb:=hc.g.nb
 unfold kB
 refine⟨fun m q h'=>∃i:Nat,q=[nD i]/\i<=c.b.length/\m=c.b.length-i/\uT c U R i/\Vs h' L,_,⟨0,rfl,by omega,rfl,fun b hb=>by omega,V⟩,?_⟩
 rintro m f h1 ⟨i,hq,hi,hm,ck,V1⟩
 simp only[aq,and_true]at hq
 have get0:∀{KH:HKq},aa PP (.fadd (.c (.ptr n5 0 0)) 0) h1 (fun a h2=>aa PP (.ld (.c a) 1 false) h2 KH)=KH (.sl (bL U)) h1:=fun {KH}=>by rw[V1.Lb h5,V1.Ai (cs:=[.sl (bL U),.sl (bL R)]) h5 rfl]
 rw[get0,bX,gX,hul,hq]
 by_cases hlt:¬i<c.b.length
 ·have:i=c.b.length:=by omega
  subst this
  rw[nD,jX (by omega),af]
  simp only[ab,true_and]
  exact hJ h1 V1 ck
 replace hlt:i<c.b.length:=Decidable.not_not.1 hlt
 have more:(hasB U i=true->L2 c (da c) (ji c) U R i=true)->uT c U R (i+1):=fun hh b hb hu=>by
  by_cases e:b=i
  ·subst e;exact hh hu
  ·exact ck b (by omega) hu
 rw[nD,jZ (by omega),ag,get0,lD (esz:=1) (d:=.bool (hasB U i)) (by omega) (by rw[aA];exact dq (bo (by omega))) rfl,uR rfl]
 cases g1:hasB U i
 ·simp only[gD,Bool.not_false,Bool.not_true,aE,if_true,if_false]
  rw[af,cU (by omega) (by omega)]
  simp only[ab,true_and]
  exact⟨_,by omega,i+1,rfl,by omega,rfl,more fun h=>by(rw[g1]at h;cases h),V1⟩
 simp only[gD,Bool.not_false,Bool.not_true,aE,if_true,if_false]
 rw[V1.IB (s:=8) (cs:=[.int .i64 c.group,.int .i64 c.sub,.int .i64 c.regs,.int .i64 c.slots,.int .i64 c.params,.sl (c.arrays.map vc.e),.sl (c.loops.map Loop.e),.sl (c.b.map Block.e)]) h3 rfl,V1.IB (s:=2) (cs:=[.sl (bL U),.sl (bL R)]) h5 rfl,show D.agg [.int .i64 c.group,.int .i64 c.sub,.int .i64 c.regs,.int .i64 c.slots,.int .i64 c.params,.sl (c.arrays.map vc.e),.sl (c.loops.map Loop.e),.sl (c.b.map Block.e)]=c.e from rfl]
 refine Ko hc (yz hc.g) tf V1 (Or.inl rfl) (Or.inl rfl) wD hul hrl hlt kV fun h2 V2=>?_
 rw[du]
 cases g2:L2 c (da c) (ji c) U R i
 ·rw[Bool.not_false,ag]
  refine hK h2 V2 ?_
  cases hh:(iB c).all (cP U R)
  ·rfl
  ·have:=((yp hc).1 hh).1 i hlt g1;rw[g2]at this;cases this
 ·rw[Bool.not_true,af,cU (by omega) (by omega)]
  simp only[ab,true_and]
  exact⟨_,by omega,i+1,rfl,by omega,rfl,more fun _=>g2,V2⟩
theorem PO (hc:dX c) (hul:U.length=c.b.length) (hrl:(R.length:Int)=c.regs) (h3:(n3,Slot.box c.e)∈L) (h5:(n5,Slot.box (uE U R))∈L) (cu:uT c U R c.b.length) (V:Vs h L){J:HJq}{K:HKq}
  (hJ:∀h',Vs h' L->(iB c).all (cP U R)=true->J [] h') (hK:∀h',Vs h' L->(iB c).all (cP U R)=false->K (.int .i64 100) h') :
  kC h (.ptr n5 0 0) (.ptr n3 0 0) (.sl (bL (da c))) J K:=by
 have hnb:=hc.g.nb
 have hrg:=hc.rg
 unfold kC
 refine⟨fun m q h'=>∃i:Nat,q=[nD i]/\i<=R.length/\m=R.length-i/\IV c U R i/\Vs h' L,_,⟨0,rfl,by omega,rfl,fun b hb=>by omega,V⟩,?_⟩
 rintro m f h1 ⟨i,hq,hi,hm,ck,V1⟩
 simp only[aq,and_true]at hq
 have get0:∀{KH:HKq},aa PP (.fadd (.c (.ptr n5 0 0)) 1) h1 (fun a h2=>aa PP (.ld (.c a) 1 false) h2 KH)=KH (.sl (bL R)) h1:=fun {KH}=>by rw[V1.Lb h5,V1.Ai (cs:=[.sl (bL U),.sl (bL R)]) h5 rfl]
 rw[get0,bX,gX,hq]
 by_cases hlt:¬i<R.length
 ·have:i=R.length:=by omega
  subst this
  rw[nD,jX (by omega),af]
  simp only[ab,true_and]
  exact hJ h1 V1 ((yp hc).2 ⟨cu,fun n hn hu=>ck n (by omega) hu⟩)
 replace hlt:i<R.length:=Decidable.not_not.1 hlt
 have more:(hasB R i=true->Ig c (da c) U R (i:Int)=true)->IV c U R (i+1):=fun hh b hb hu=>by
  by_cases e:b=i
  ·subst e;exact hh hu
  ·exact ck b (by omega) hu
 rw[nD,jZ (by omega),ag,get0,lD (esz:=1) (d:=.bool (hasB R i)) (by omega) (by rw[aA];exact dq (bo (by omega))) rfl,uR rfl]
 cases g1:hasB R i
 ·simp only[gD,Bool.not_false,Bool.not_true,aE,if_true,if_false]
  rw[af,cU (by omega) (by omega)]
  simp only[ab,true_and]
  exact⟨_,by omega,i+1,rfl,by omega,rfl,more fun h=>by(rw[g1]at h;cases h),V1⟩
 simp only[gD,Bool.not_false,Bool.not_true,aE,if_true,if_false]
 rw[V1.IB (s:=8) (cs:=[.int .i64 c.group,.int .i64 c.sub,.int .i64 c.regs,.int .i64 c.slots,.int .i64 c.params,.sl (c.arrays.map vc.e),.sl (c.loops.map Loop.e),.sl (c.b.map Block.e)]) h3 rfl,V1.IB (s:=2) (cs:=[.sl (bL U),.sl (bL R)]) h5 rfl,show D.agg [.int .i64 c.group,.int .i64 c.sub,.int .i64 c.regs,.int .i64 c.slots,.int .i64 c.params,.sl (c.arrays.map vc.e),.sl (c.loops.map Loop.e),.sl (c.b.map Block.e)]=c.e from rfl]
 refine DS hc V1 (Or.inl rfl) (Or.inl rfl) hul hrl kV ?_
 rw[du]
 cases g2:Ig c (da c) U R (i:Int)
 ·rw[Bool.not_false,ag]
  refine hK h1 V1 ?_
  cases hh:(iB c).all (cP U R)
  ·rfl
  ·have:=((yp hc).1 hh).2 i (by omega) g1;rw[g2]at this;cases this
 ·rw[Bool.not_true,af,cU (by omega) (by omega)]
  simp only[ab,true_and]
  exact⟨_,by omega,i+1,rfl,by omega,rfl,more fun _=>g2,V1⟩
end
theorem Lv {c:Code}(hc:dX c) (hD:Ed c){vU vR:D}{U R:List Bool}(wU:CD vU U) (wR:CD vR R):aY PP hZ [c.e,.agg [vU,vR]] (· = .int .i64 (if ky c U R then 0 else 100)):=by
 have hnb:=hc.g.nb
 have hrg:=hc.rg
 obtain⟨O,O',at',Uu,Dd⟩:=hD
 refine bx AI (aJ _ _ _) rfl (Ax _ _ _) ?_
 unfold vz
 refine Vs.nil.box c.dS.one fun n3 h4 V4=>?_
 refine V4.box (fun x hx=>by simp[D.cells]at hx;rcases hx with rfl|rfl;exact wU.one;exact wR.one) fun n5 h6 V6=>?_
 rw[V6.fa 0 rfl,V6.cx 0 (j:=0+0) rfl rfl,wU.len,V6.fa 1 rfl,V6.cx 1 (j:=0+7) rfl rfl,bX,aw,gK]
 unfold ky
 by_cases h1:¬U.length=c.b.length
 ·rw[decide_eq_false (p:=((U.length:Int)=c.b.length)) (by omega)]
  simp only[gD,Bool.not_false,Bool.not_true,aE,if_true,if_false]
  rw[ag,cH,decide_eq_false h1];rfl
 replace h1:U.length=c.b.length:=Decidable.not_not.1 h1
 rw[decide_eq_true (p:=((U.length:Int)=c.b.length)) (by omega)]
 simp only[gD,Bool.not_false,Bool.not_true,aE,if_true,if_false]
 rw[V6.fa 0 rfl,V6.cx 0 (j:=0+1) rfl rfl,wR.len,V6.fa 1 rfl,V6.cx 1 (j:=0+2) rfl rfl,gK]
 by_cases h2:¬(R.length:Int)=c.regs
 ·rw[decide_eq_false (p:=((R.length:Int)=c.regs)) h2]
  simp only[gD,Bool.not_false,Bool.not_true,aE,if_true,if_false]
  rw[ag,cH,Bool.and_false];rfl
 replace h2:(R.length:Int)=c.regs:=Decidable.not_not.1 h2
 rw[decide_eq_true (p:=((R.length:Int)=c.regs)) h2,decide_eq_true h1]
 have e1:=wU.sl (by omega)
 have e2:=wR.sl (by omega)
 subst e1;subst e2
 simp only[gD,Bool.not_false,Bool.not_true,aE,if_true,if_false]
 rw[af,V6.lI 1 (s:=8) rfl rfl]
 refine bO (HH hc.g) (fun d hd=>by simp at hd;subst hd;exact c.dS.pair) ?_
 rintro _ ⟨S,rfl,hS,hSk⟩
 have eS:=Cu hS hSk
 subst eS
 rw[V6.lI 1 (s:=8) rfl rfl]
 refine Ba hc.g Dd V6 fun v X h55 V55 wX=>?_
 have m3:(n3,Slot.box c.e)∈X++[(n5,Slot.box (uE U R)),(n3,.box c.e)]:=by simp
 have m5:(n5,Slot.box (uE U R))∈X++[(n5,Slot.box (uE U R)),(n3,.box c.e)]:=by simp
 refine⟨fun _ h'=>Vs h' (X++[(n5,Slot.box (uE U R)),(n3,.box c.e)])/\uT c U R c.b.length,?_,Ln hc h1 h2 m3 m5 (wX.mono fun x hx=>by simp[hx]) V55 (fun h' V' ck=>⟨V',ck⟩) fun h' V' hb=>?_⟩
 ·rintro f h58 ⟨V58,ck⟩
  refine⟨fun _ h'=>(iB c).all (cP U R)=true,?_,PO hc h1 h2 m3 m5 ck V58 (fun h' V' ha=>ha) fun h' V' hb=>?_⟩
  ·rintro f h61 ha;rw[cH,ha];rfl
  ·rw[cH,hb];rfl
 ·rw[cH,hb];rfl
end Go.Am
namespace Go.Am
open Go Go.Proofs
def xm:Block:=⟨[⟨5,2,0,fe 0,aj,aj,aj⟩,⟨5,3,0,fe 1,aj,aj,aj⟩],⟨2,0,aj,fe 0,aj,1,2⟩⟩
def Ar:Block:=⟨[⟨1,0,0,fe 2,Const 1,aj,aj⟩],⟨1,0,aj,aj,aj,2,0⟩⟩
def Aq:Block:=⟨[],⟨2,0,aj,fe 1,aj,3,4⟩⟩
def DF:Block:=⟨[⟨1,0,0,fe 3,fe 1,aj,aj⟩],⟨1,0,aj,aj,aj,4,0⟩⟩
def EE:Block:=⟨[],⟨5,0,aj,aj,aj,0,0⟩⟩
def ek:Code:=⟨4,1,5,0,0,[],[],[xm,Ar,Aq,DF,EE]⟩
theorem xl {n:Int}(h:0<=n/\n<5):mA 5 (fe n):=⟨n,h.1,h.2,rfl⟩
theorem Fe:dX ek:=by
 refine⟨⟨⟨by decide,by decide⟩,fun B hB=>?_⟩,fun B hB x hx=>?_,fun B hB=>?_,⟨by decide,by decide⟩⟩
 ·simp only[ek,List.mem_cons,List.not_mem_nil,or_false]at hB
  rcases hB with rfl|rfl|rfl|rfl|rfl
  ·exact .branch _ 1 2 (xl (by omega)) (by decide) (by decide)
  ·exact .jump 2 (by decide)
  ·exact .branch _ 3 4 (xl (by omega)) (by decide) (by decide)
  ·exact .jump 4 (by decide)
  ·exact .exit
 ·simp only[ek,List.mem_cons,List.not_mem_nil,or_false]at hB
  rcases hB with rfl|rfl|rfl|rfl|rfl
  ·simp only[xm,List.mem_cons,List.not_mem_nil,or_false]at hx
   rcases hx with rfl|rfl
   ·exact .id 2 _ (by omega) (xl (by omega))
   ·exact .id 3 _ (by omega) (xl (by omega))
  ·simp only[Ar,List.mem_cons,List.not_mem_nil,or_false]at hx
   subst hx
   exact .mov _ _ (xl (by omega)) (Or.inr ⟨1,by omega,by omega,rfl⟩)
  ·simp[Aq]at hx
  ·simp only[DF,List.mem_cons,List.not_mem_nil,or_false]at hx
   subst hx
   exact .mov _ _ (xl (by omega)) (xl (by omega)).val
  ·simp[EE]at hx
 ·simp only[ek,List.mem_cons,List.not_mem_nil,or_false]at hB
  rcases hB with rfl|rfl|rfl|rfl|rfl<;>decide
theorem NF:edg ek 0=[1,2]:=by decide
theorem TX:edg ek 1=[2]:=by decide
theorem Hv:edg ek 2=[3,4]:=by decide
theorem TW:edg ek 3=[4]:=by decide
theorem uy {b:Nat}(hb:b<5):Path (edg ek) 0 b:=by
 have p1:Path (edg ek) 0 1:=.step .refl (by rw[NF];simp)
 have p2:Path (edg ek) 0 2:=.step .refl (by rw[NF];simp)
 have p3:Path (edg ek) 0 3:=.step p2 (by rw[Hv];simp)
 have p4:Path (edg ek) 0 4:=.step p2 (by rw[Hv];simp)
 match b,hb with
 | 0,_=>exact .refl
 | 1,_=>exact p1
 | 2,_=>exact p2
 | 3,_=>exact p3
 | 4,_=>exact p4
theorem Sc {b:Nat}(hb:b<5):Path (edg ek) b 4:=by
 have p3:Path (edg ek) 3 4:=.step .refl (by rw[TW];simp)
 have p2:Path (edg ek) 2 4:=.step .refl (by rw[Hv];simp)
 have p1:Path (edg ek) 1 4:=.step (.step .refl (show 2∈edg ek 1 by rw[TX];simp)) (by rw[Hv];simp)
 have p0:Path (edg ek) 0 4:=.step (.step .refl (show 2∈edg ek 0 by rw[NF];simp)) (by rw[Hv];simp)
 match b,hb with
 | 0,_=>exact p0
 | 1,_=>exact p1
 | 2,_=>exact p2
 | 3,_=>exact p3
 | 4,_=>exact .refl
def T3:List (List Nat):=[[1,2],[2],[3,4],[4],[5],[]]
theorem PC {O O':List Nat}{at' U:List Int}(Dd:wC ek O O' at' U):cR ek (de ek O)=T3:=by
 have hc:=Fe.g
 have hp:=@wC.path ek O O' at' U hc Dd
 have h4:4∈O:=hp.2 (uy (by omega))
 have x4:qC ek 4=true:=by decide
 have hf:de ek O=O.filter (qC ek):=E9 fun y hy=>by
  have hy5:y<5:=Dd.b.lt y hy
  refine⟨4,List.mem_filter.2 ⟨h4,x4⟩,?_⟩
  have:gL (fS ek)=edg ek:=funext fun b=>jB
  rw[this];exact Sc hy5
 refine jA (by rw[bF];rfl) fun b hb=>?_
 have hb6:b<6:=by rw[bF]at hb;exact hb
 rw[fI,hf]
 have nx:∀b,qC ek b=false->¬b∈O.filter (qC ek):=fun b hx h=>by rw[(List.mem_filter.1 h).2]at hx;cases hx
 match b,hb6 with
 | 0,_=>rw[if_pos (by decide),if_neg (by decide),if_neg (nx 0 (by decide))];decide
 | 1,_=>rw[if_pos (by decide),if_neg (by decide),if_neg (nx 1 (by decide))];decide
 | 2,_=>rw[if_pos (by decide),if_neg (by decide),if_neg (nx 2 (by decide))];decide
 | 3,_=>rw[if_pos (by decide),if_neg (by decide),if_neg (nx 3 (by decide))];decide
 | 4,_=>rw[if_pos (by decide),if_pos (by decide)];decide
 | 5,_=>rw[if_neg (by decide)];decide
theorem QJ (hD:Ed ek){a b:Nat}(ha:a<5) (hb:b<5):Sd ek a b↔(decide ((edg ek a).length=2)&&(decide (a=b) || !o4 T3 a b)&&(edg ek a).any fun t=>o4 T3 t b)=true:=by
 obtain⟨O,O',at',U,Dd⟩:=hD
 rw[<- Hy Fe.g Dd ha hb]
 unfold uS
 rw[PC Dd,(cI (c:=ek) ha).2 (uy ha),(cI (c:=ek) hb).2 (uy hb)]
 rfl
def UJ (f:Fa):Prop:=(f.nZ=true/\(f.n=0\/f.n=2\/f.n=3\/f.n=4))\/(f.nZ=false/\(f.n=1\/f.n=3\/f.n=4))
theorem kx (hD:Ed ek):Gy (iB ek) UJ:=by
 intro r hr hs
 have hi:=kJ.1 hr
 cases hi with
 | @no b hb hp=>exact absurd (uy hb) hp
 | @dep b a A hb hp hd hA =>
  have ha:a<5:=(ah.1 hA).1
  have hb5:b<5:=hb
  rw[QJ hD ha hb5]at hd
  have key:∀a,a<5->∀b,b<5->(decide ((edg ek a).length=2)&&(decide (a=b) || !o4 T3 a b)&&(edg ek a).any fun t=>o4 T3 t b)=true->a=2\/b=1:=by decide
  rcases key a ha b hb5 hd with h|h
  ·subst h
   have:Aq=A:=by
    have:ek.b[2]?=some Aq:=rfl
    rw[this]at hA;exact Option.some.inj hA
   subst this
   refine⟨rfl,fun f hf=>?_⟩
   simp only[te,List.mem_append]at hf
   rcases hf with hf|hf
   ·simp[bD,Aq,fe]at hf;subst hf;exact Or.inr ⟨rfl,Or.inl rfl⟩
   ·simp[qI]at hf;subst hf;exact Or.inl ⟨rfl,Or.inr (Or.inl rfl)⟩
  ·subst h
   simp[UJ,te,qI]at hs
 | @inst b B x hB hp hx h0 =>
  have hb:b<5:=(ah.1 hB).1
  match b,hb with
  | 0,_ =>
   have:xm=B:=Option.some.inj ((rfl:ek.b[0]?=some xm).symm.trans hB)
   subst this
   simp only[xm,List.mem_cons,List.not_mem_nil,or_false]at hx
   rcases hx with rfl|rfl
   ·simp[UJ,ij,rS,dE,fe]at hs
   ·refine⟨by decide,fun f hf=>?_⟩
    simp[ij,bD,aj,qI]at hf
    subst hf;exact Or.inl ⟨rfl,Or.inl rfl⟩
  | 1,_ =>
   have:Ar=B:=Option.some.inj ((rfl:ek.b[1]?=some Ar).symm.trans hB)
   subst this
   simp only[Ar,List.mem_cons,List.not_mem_nil,or_false]at hx
   subst hx
   simp[UJ,ij,rS,dE,fe]at hs
  | 2,_ =>
   have:Aq=B:=Option.some.inj ((rfl:ek.b[2]?=some Aq).symm.trans hB)
   subst this
   simp[Aq]at hx
  | 3,_ =>
   have:DF=B:=Option.some.inj ((rfl:ek.b[3]?=some DF).symm.trans hB)
   subst this
   simp only[DF,List.mem_cons,List.not_mem_nil,or_false]at hx
   subst hx
   refine⟨by decide,fun f hf=>?_⟩
   simp[ij,bD,aj,qI,fe]at hf
   rcases hf with rfl|rfl
   ·exact Or.inr ⟨rfl,Or.inl rfl⟩
   ·exact Or.inl ⟨rfl,Or.inr (Or.inr (Or.inl rfl))⟩
  | 4,_ =>
   have:EE=B:=Option.some.inj ((rfl:ek.b[4]?=some EE).symm.trans hB)
   subst this
   simp[EE]at hx
 | @fin b B hB hp h0 =>
  have hm:=ak hB
  simp only[ek,List.mem_cons,List.not_mem_nil,or_false]at hm
  rcases hm with rfl|rfl|rfl|rfl|rfl<;>simp[dE,xm,Ar,Aq,DF,EE,aj]at h0
theorem Hu:∃r,r∈iB ek/\r.of=rS 0/\r.never=true :=
 ⟨_,kJ.2 (.inst (b:=0) (B:=xm) (x:=⟨5,2,0,fe 0,aj,aj,aj⟩) rfl .refl (by simp[xm]) (by decide)),rfl,by decide⟩
theorem QI:¬Gf (iB ek) (rS 0):=fun h=>by
 obtain⟨r,hr,ho,hv⟩:=Hu
 have:=(Gf.closed _ r hr (by rw[ho];exact h)).1
 rw[hv]at this;cases this
theorem QK (hD:Ed ek):¬Gf (iB ek) (qI 1):=fun h=>by
 have hd:Sd ek 0 1:=(QJ hD (by omega) (by omega)).2 (by decide)
 have:=(Gf.closed _ _ (kJ.2 (.dep (b:=1) (a:=0) (A:=xm) (by decide) (uy (by omega)) hd rfl)) h).2 (rS 0) (by simp[te,bD,xm,fe,rS])
 exact QI this
theorem TV (hD:Ed ek):¬Gf (iB ek) (rS 2):=fun h=>by
 have:=(Gf.closed _ _ (kJ.2 (.inst (b:=1) (B:=Ar) (x:=⟨1,0,0,fe 2,Const 1,aj,aj⟩) rfl (uy (by omega)) (by simp[Ar]) (by decide))) h).2 (qI 1) (by simp[ij])
 exact QK hD this
theorem TY (hD:Ed ek):ED ek (iB ek)=[true,false,true,true,true]:=by
 refine sY (by rw[yt];rfl) fun k hk=>?_
 rw[yt]at hk
 rw[FU hk]
 have hk5:k<5:=hk
 match k,hk5 with
 | 0,_=>exact⟨fun _=>rfl,fun _=>⟨_,kx hD,Or.inl ⟨rfl,by decide⟩⟩⟩
 | 1,_=>exact⟨fun h=>absurd h (QK hD),fun h=>(by cases h)⟩
 | 2,_=>exact⟨fun _=>rfl,fun _=>⟨_,kx hD,Or.inl ⟨rfl,by decide⟩⟩⟩
 | 3,_=>exact⟨fun _=>rfl,fun _=>⟨_,kx hD,Or.inl ⟨rfl,by decide⟩⟩⟩
 | 4,_=>exact⟨fun _=>rfl,fun _=>⟨_,kx hD,Or.inl ⟨rfl,by decide⟩⟩⟩
theorem TZ (hD:Ed ek):Er ek (iB ek)=[false,true,false,true,true]:=by
 refine sY (by rw[yu];rfl) fun k hk=>?_
 rw[yu]at hk
 rw[FV hk]
 have hk5:k<5:=hk
 match k,hk5 with
 | 0,_=>exact⟨fun h=>absurd h QI,fun h=>(by cases h)⟩
 | 1,_=>exact⟨fun _=>rfl,fun _=>⟨_,kx hD,Or.inr ⟨rfl,by decide⟩⟩⟩
 | 2,_=>exact⟨fun h=>absurd h (TV hD),fun h=>(by cases h)⟩
 | 3,_=>exact⟨fun _=>rfl,fun _=>⟨_,kx hD,Or.inr ⟨rfl,by decide⟩⟩⟩
 | 4,_=>exact⟨fun _=>rfl,fun _=>⟨_,kx hD,Or.inr ⟨rfl,by decide⟩⟩⟩
end Go.Am
