/- What the functions of this chapter give, on plain data. No condition. -/
import Derived.Test.YtjhjndjghaagiaaP2
set_option linter.unnecessarySimpa false
set_option linter.defProp false
set_option linter.unusedSectionVars false
set_option linter.unusedSimpArgs false
set_option linter.unusedVariables false
namespace Go.Am
open Go Go.Proofs
def lZ (t:Bool) (n i:Nat):List Bool:=(List.range n).map fun k=>decide (k<i)&&t
theorem GU {t:Bool}{n i:Nat}:(lZ t n i).length=n:=by simp[lZ]
theorem MY {t:Bool}{n:Nat}:lZ t n 0=List.replicate n false:=by
 apply List.ext_getElem (by simp[lZ]);intro i h1 h2;simp[lZ]
theorem MX {t:Bool}{n:Nat}:lZ t n n=List.replicate n t:=by
 apply List.ext_getElem (by simp[lZ]);intro i h1 h2;simp[lZ]at h1 ⊢;intro;omega
theorem GR {t:Bool}{n i:Nat}:(lZ t n i).set i t=lZ t n (i+1):=by
 apply List.ext_getElem (by simp[lZ])
 intro k h1 h2
 rw[List.getElem_set]
 simp only[lZ,List.getElem_map,List.getElem_range]
 by_cases h:i=k
 ·subst h;simp
 ·rw[if_neg h]
  congr 1
  exact decide_eq_decide.2 (by omega)
section
variable {c:Code}{nU nR nu n4 n2 nr:Nat}{U R:List Bool}{X:LSq}{h:Heap}{t:Bool}
theorem UN (hn:c.b.length<=1000) (V:Vs h (aS c nU nR nu n4 n2 nr (lZ t c.b.length 0) R X)){J:HJq}(hJ:∀h',Vs h' (aS c nU nR nu n4 n2 nr (lZ t c.b.length c.b.length) R X)->J [] h') :
  mF h (.ptr nu 0 0) (.bool t) (.ptr n4 0 0) J:=by
 unfold mF
 refine⟨fun m q h'=>∃i:Nat,q=[nD i]/\i<=c.b.length/\m=c.b.length-i/\Vs h' (aS c nU nR nu n4 n2 nr (lZ t c.b.length i) R X),_,⟨0,rfl,by omega,rfl,V⟩,?_⟩
 rintro m f h1 ⟨i,hq,hi,hm,V1⟩
 simp only[List.cons.injEq,and_true]at hq
 rw[hq,nD,V1.fa 0 rfl,V1.b9 0 (j:=0+0) rfl rfl,bb,V1.get 2 _ _ rfl]
 refine⟨rfl,?_⟩
 by_cases hlt:i<c.b.length
 ·rw[kN (by omega),ag,V1.fa 0 rfl,V1.b9 0 (j:=0+0) rfl rfl,V1.ia 2 rfl (by omega) (by omega),Int.toNat_natCast]
  refine V1.rG 2 rfl (by rw[bL,List.length_map,GU];exact hlt) rfl (dw _) fun h2 V2=>?_
  rw[du,GR]at V2
  rw[cw (by omega) (by omega)]
  simp only[ab,true_and]
  exact⟨_,by omega,i+1,rfl,by omega,rfl,V2⟩
 ·have:i=c.b.length:=by omega
  subst this
  rw[kp (by omega),af]
  simp only[ab,true_and]
  exact hJ h1 V1
theorem UO (hn:nr<=1000) (V:Vs h (aS c nU nR nu n4 n2 nr U (lZ t nr 0) X)){J:HJq}(hJ:∀h',Vs h' (aS c nU nR nu n4 n2 nr U (lZ t nr nr) X)->J [] h') :
  mG h (.ptr nu 0 0) (.bool t) (.ptr n4 0 0) J:=by
 unfold mG
 refine⟨fun m q h'=>∃i:Nat,q=[nD i]/\i<=nr/\m=nr-i/\Vs h' (aS c nU nR nu n4 n2 nr U (lZ t nr i) X),_,⟨0,rfl,by omega,rfl,V⟩,?_⟩
 rintro m f h1 ⟨i,hq,hi,hm,V1⟩
 simp only[List.cons.injEq,and_true]at hq
 rw[hq,nD,V1.fa 0 rfl,V1.b9 0 (j:=0+1) rfl rfl,bb,V1.get 1 _ _ rfl]
 refine⟨rfl,?_⟩
 by_cases hlt:i<nr
 ·rw[kN (by omega),ag,V1.fa 0 rfl,V1.b9 0 (j:=0+1) rfl rfl,V1.ia 1 rfl (by omega) (by omega),Int.toNat_natCast]
  refine V1.rG 1 rfl (by rw[bL,List.length_map,GU];exact hlt) rfl (dw _) fun h2 V2=>?_
  rw[du,GR]at V2
  rw[cw (by omega) (by omega)]
  simp only[ab,true_and]
  exact⟨_,by omega,i+1,rfl,by omega,rfl,V2⟩
 ·have:i=nr:=by omega
  subst this
  rw[kp (by omega),af]
  simp only[ab,true_and]
  exact hJ h1 V1
end
theorem PU {c:Code}{nr:Nat}(hr:c.regs=(nr:Int)) (hn:c.b.length<=1000/\nr<=1000){t:Bool}{h:Heap}{L:LSq}{KH:HKq}(V:Vs h L)
  (hK:∀nU nR h',Vs h' ((nR,.arr 1 (bL (List.replicate nr t)))::(nU,.arr 1 (bL (List.replicate c.b.length t)))::L)->KH (.agg [.ms nU 0 c.b.length,.ms nR 0 nr]) h'):tf c.e (.bool t) h KH:=by
 unfold tf
 refine V.box c.db.one fun n2 h3 V3=>?_
 refine V3.alloc fun n4 h5 V5=>?_
 rw[V5.mz 1 rfl,V5.gX 1 (j:=0+7) rfl rfl,br,List.length_map,V5.mz 1 rfl,V5.gX 1 (j:=0+2) rfl rfl,hr]
 refine Jv (by omega) (by omega) ?_
 refine Jv (by omega) (by omega) ?_
 refine V5.Jl (by omega) (by omega) fun nU h16 V16=>?_
 refine⟨by simp only[↓V16.mz 2 rfl,↓V16.gX 2 (j:=0+2) rfl rfl,hr,ab,and_self],?_⟩
 refine V16.Jl (by omega) (by omega) fun nR h20 V20=>?_
 refine⟨by simp only[↓V20.mz 3 rfl,↓V20.gX 3 (j:=0+7) rfl rfl,FM,br,List.length_map,ab,and_self],?_⟩
 rw[dq rfl]
 refine V20.alloc fun nu h26 V26=>?_
 refine⟨by simp only[↓V26.mz 4 rfl,↓V26.gX 4 (j:=0+7) rfl rfl,↓V26.gX 4 (j:=0+2) rfl rfl,FM,br,List.length_map,hr,ab,and_self],?_⟩
 refine V26.pV 0 (cs':=[.ms nU 0 c.b.length,.ms nR 0 nr]) rfl rfl rfl (fun x hx=>by simp at hx;rcases hx with rfl|rfl<;>rfl) fun h33 V33=>?_
 simp only[List.set_cons_zero]at V33
 have V33:Vs h33 (aS c nU nR nu n4 n2 nr (lZ t c.b.length 0) (lZ t nr 0) L):=by
  unfold aS;rw[MY,MY,FY,FY];exact V33
 refine⟨fun _ h'=>Vs h' (aS c nU nR nu n4 n2 nr (lZ t c.b.length c.b.length) (lZ t nr 0) L),?_,UN (by omega) V33 fun h' V'=>V'⟩
 rintro f h36 V36
 refine⟨fun _ h'=>Vs h' (aS c nU nR nu n4 n2 nr (lZ t c.b.length c.b.length) (lZ t nr nr) L),?_,UO (by omega) V36 fun h' V'=>V'⟩
 rintro f2 h48 V48
 rw[MX,MX]at V48
 rw[V48.lu 0 (s:=2) rfl rfl]
 refine V48.pV 3 rfl rfl rfl (fun x hx=>by simp at hx;rcases hx with rfl|rfl<;>rfl) fun h52 V52=>?_
 simp only[aS,List.set_cons_succ,List.set_cons_zero]at V52
 rw[V52.lu 3 (s:=2) rfl rfl]
 exact hK nU nR h52 (V52.sub (.cons _ (.cons_cons _ (.cons_cons _ (.cons _ (.cons _ (.refl _)))))))
theorem TO {c:Code}{nr:Nat}(hr:c.regs=(nr:Int)) (hn:c.b.length<=1000/\nr<=1000){t:Bool}{h:Heap}{L:LSq}{KH:HKq}(V:Vs h L)
  (hK:∀nU nR h',Vs h' ((nR,.arr 1 (bL (List.replicate nr t)))::(nU,.arr 1 (bL (List.replicate c.b.length t)))::L)->KH (.agg [.ms nU 0 c.b.length,.ms nR 0 nr]) h'):ah PP fR [c.e,.bool t] h KH :=
 aL tN (aD _ _ _) rfl (te _ _ _) (PU hr hn V hK)
theorem Dr.uv {c:Code}(hc:cU c):Dr c (UV c (fo c)):=fun U R r hu hr hp hrr hg hk=>(hp.drop hrr (zv hc r hrr) hk).2
theorem NR {c:Code}(hc:cU c) (hD:F6 c){nr:Nat}(hr:c.regs=(nr:Int)){h:Heap}{L:LSq}{KH:HKq}(V:Vs h L)
  (hK:∀nU nR X h',Vs h' ((nR,.arr 1 (bL (xr c (fo c))))::(nU,.arr 1 (bL (zg c (fo c))))::(X++L))->KH (.agg [.ms nU 0 c.b.length,.ms nR 0 nr]) h'):ah PP p9 [c.e] h KH:=by
 have hnb:=hc.g.nb
 have hrg:=hc.rg
 obtain⟨O,O',at',U,Dd⟩:=hD
 refine aL BJ (aD _ _ _) rfl (By _ _) ?_
 unfold yv
 refine V.box c.db.one fun n2 h3 V3=>?_
 refine V3.alloc fun n4 h5 V5=>?_
 have ldE:∀{KH:HKq}{h:Heap}{M:LSq},Vs h M->(n2,Slot.box c.e)∈M->aa PP (.ld (.c (.ptr n2 0 0)) 8 true) h KH=KH c.e h:=fun {KH h M} V hm=>V.Ft (cs:=[.int .i64 c.group,.int .i64 c.sub,.int .i64 c.regs,.int .i64 c.slots,.int .i64 c.params,.sl (c.arrays.map uQ.e),.sl (c.loops.map Loop.e),.sl (c.b.map Block.e)]) hm rfl
 rw[ldE V5 (by simp)]
 refine TO hr ⟨by omega,by omega⟩ V5 fun nU nR h9 V9=>?_
 refine V9.alloc fun nu h11 V11=>?_
 refine V11.pV 0 rfl rfl rfl (fun x hx=>by simp at hx;rcases hx with rfl|rfl<;>rfl) fun h13 V13=>?_
 simp only[List.set_cons_zero]at V13
 replace V13:Vs h13 (aS c nU nR nu n4 n2 nr (List.replicate c.b.length true) (List.replicate nr true) L):=V13
 rw[ldE V13 (by simp[aS])]
 refine bT (Hf hc.g) (fun d hd=>by simp at hd;subst hd;exact c.db.pair) ?_
 rintro _ ⟨S,rfl,hS,hSk⟩
 have eS:=B4 hS hSk
 subst eS
 rw[ldE V13 (by simp[aS])]
 refine AO hc.g Dd V13 fun v X h21 V21 wX=>?_
 have V22:Vs h21 (aS c nU nR nu n4 n2 nr (List.replicate c.b.length true) (List.replicate nr true) (X++L)):=by
  refine V21.perm ?_
  exact List.perm_append_comm_assoc X [(nu,.box (.agg [.ms nU 0 c.b.length,.ms nR 0 nr])),(nR,.arr 1 (bL (List.replicate nr true))),(nU,.arr 1 (bL (List.replicate c.b.length true))),(n4,.box (.agg [.nil,.nil])),(n2,.box c.e)] L
 have enr:nr=c.regs.toNat:=by omega
 refine⟨fun _ h'=>Vs h' (aS c nU nR nu n4 n2 nr (zg c (fo c)) (xr c (fo c)) (X++L)),?_,OX hc hr (Dr.uv hc) (wX.mono fun x hx=>by simp[hx]) (by simp) (by simp[hr]) (by rw[enr];exact UV.start (by omega)) V22 fun h' U' R' ul rl p ck V'=>?_⟩
 ·rintro f h24 V24
  rw[V24.lu 0 (s:=2) rfl rfl]
  refine V24.pV 3 rfl rfl rfl (fun x hx=>by simp at hx;rcases hx with rfl|rfl<;>rfl) fun h52 V52=>?_
  simp only[aS,List.set_cons_succ,List.set_cons_zero]at V52
  rw[V52.lu 3 (s:=2) rfl rfl]
  exact hK nU nR X h52 (V52.sub (.cons _ (.cons_cons _ (.cons_cons _ (.cons _ (.cons _ (.refl _)))))))
 ·obtain⟨e1,e2⟩:=p.fin (zv hc) (List.all_eq_true.1 ck)
  subst e1;subst e2
  exact V'
end Go.Am
namespace Go.Am
open Go Go.Proofs
section
variable {c:Code}{U R:List Bool}{n3 n5:Nat}{X L:LSq}{vD:D}{h:Heap}
end
end Go.Am
namespace Go.Am
open Go Go.Proofs
def w6:Block:=⟨[⟨5,2,0,eM 0,aj,aj,aj⟩,⟨5,3,0,eM 1,aj,aj,aj⟩],⟨2,0,aj,eM 0,aj,1,2⟩⟩
def zW:Block:=⟨[⟨1,0,0,eM 2,Const 1,aj,aj⟩],⟨1,0,aj,aj,aj,2,0⟩⟩
def zV:Block:=⟨[],⟨2,0,aj,eM 1,aj,3,4⟩⟩
def Da:Block:=⟨[⟨1,0,0,eM 3,eM 1,aj,aj⟩],⟨1,0,aj,aj,aj,4,0⟩⟩
def Ee:Block:=⟨[],⟨5,0,aj,aj,aj,0,0⟩⟩
def ek:Code:=⟨4,1,5,0,0,[],[],[w6,zW,zV,Da,Ee]⟩
theorem wZ {n:Int}(h:0<=n/\n<5):l8 5 (eM n):=⟨n,h.1,h.2,rfl⟩
theorem EM:cU ek:=by
 refine⟨⟨⟨by decide,by decide⟩,fun B hB=>?_⟩,fun B hB x hx=>?_,fun B hB=>?_,⟨by decide,by decide⟩⟩
 ·simp only[ek,List.mem_cons,List.not_mem_nil,or_false]at hB
  rcases hB with rfl|rfl|rfl|rfl|rfl
  ·exact .branch _ 1 2 (wZ (by omega)) (by decide) (by decide)
  ·exact .jump 2 (by decide)
  ·exact .branch _ 3 4 (wZ (by omega)) (by decide) (by decide)
  ·exact .jump 4 (by decide)
  ·exact .exit
 ·simp only[ek,List.mem_cons,List.not_mem_nil,or_false]at hB
  rcases hB with rfl|rfl|rfl|rfl|rfl
  ·simp only[w6,List.mem_cons,List.not_mem_nil,or_false]at hx
   rcases hx with rfl|rfl
   ·exact .id 2 _ (by omega) (wZ (by omega))
   ·exact .id 3 _ (by omega) (wZ (by omega))
  ·simp only[zW,List.mem_cons,List.not_mem_nil,or_false]at hx
   subst hx
   exact .mov _ _ (wZ (by omega)) (Or.inr ⟨1,by omega,by omega,rfl⟩)
  ·simp[zV]at hx
  ·simp only[Da,List.mem_cons,List.not_mem_nil,or_false]at hx
   subst hx
   exact .mov _ _ (wZ (by omega)) (wZ (by omega)).val
  ·simp[Ee]at hx
 ·simp only[ek,List.mem_cons,List.not_mem_nil,or_false]at hB
  rcases hB with rfl|rfl|rfl|rfl|rfl<;>decide
theorem M7:edg ek 0=[1,2]:=by decide
theorem Tn:edg ek 1=[2]:=by decide
theorem G0:edg ek 2=[3,4]:=by decide
theorem Tm:edg ek 3=[4]:=by decide
theorem uf {b:Nat}(hb:b<5):Path (edg ek) 0 b:=by
 have p1:Path (edg ek) 0 1:=.step .refl (by rw[M7];simp)
 have p2:Path (edg ek) 0 2:=.step .refl (by rw[M7];simp)
 have p3:Path (edg ek) 0 3:=.step p2 (by rw[G0];simp)
 have p4:Path (edg ek) 0 4:=.step p2 (by rw[G0];simp)
 match b,hb with
 | 0,_=>exact .refl
 | 1,_=>exact p1
 | 2,_=>exact p2
 | 3,_=>exact p3
 | 4,_=>exact p4
theorem RC {b:Nat}(hb:b<5):Path (edg ek) b 4:=by
 have p3:Path (edg ek) 3 4:=.step .refl (by rw[Tm];simp)
 have p2:Path (edg ek) 2 4:=.step .refl (by rw[G0];simp)
 have p1:Path (edg ek) 1 4:=.step (.step .refl (show 2∈edg ek 1 by rw[Tn];simp)) (by rw[G0];simp)
 have p0:Path (edg ek) 0 4:=.step (.step .refl (show 2∈edg ek 0 by rw[M7];simp)) (by rw[G0];simp)
 match b,hb with
 | 0,_=>exact p0
 | 1,_=>exact p1
 | 2,_=>exact p2
 | 3,_=>exact p3
 | 4,_=>exact .refl
def Tq:List (List Nat):=[[1,2],[2],[3,4],[4],[5],[]]
theorem O6 {O O':List Nat}{at' U:List Int}(Dd:vW ek O O' at' U):cB ek (cM ek O)=Tq:=by
 have hc:=EM.g
 have hp:=@vW.path ek O O' at' U hc Dd
 have h4:4∈O:=hp.2 (uf (by omega))
 have x4:qq ek 4=true:=by decide
 have hf:cM ek O=O.filter (qq ek):=EJ fun y hy=>by
  have hy5:y<5:=Dd.b.lt y hy
  refine⟨4,List.mem_filter.2 ⟨h4,x4⟩,?_⟩
  have:gL (fu ek)=edg ek:=funext fun b=>jc
  rw[this];exact RC hy5
 refine jb (by rw[bu];rfl) fun b hb=>?_
 have hb6:b<6:=by rw[bu]at hb;exact hb
 rw[ff,hf]
 have nx:∀b,qq ek b=false->¬b∈O.filter (qq ek):=fun b hx h=>by rw[(List.mem_filter.1 h).2]at hx;cases hx
 match b,hb6 with
 | 0,_=>rw[if_pos (by decide),if_neg (by decide),if_neg (nx 0 (by decide))];decide
 | 1,_=>rw[if_pos (by decide),if_neg (by decide),if_neg (nx 1 (by decide))];decide
 | 2,_=>rw[if_pos (by decide),if_neg (by decide),if_neg (nx 2 (by decide))];decide
 | 3,_=>rw[if_pos (by decide),if_neg (by decide),if_neg (nx 3 (by decide))];decide
 | 4,_=>rw[if_pos (by decide),if_pos (by decide)];decide
 | 5,_=>rw[if_neg (by decide)];decide
theorem Qe (hD:F6 ek){a b:Nat}(ha:a<5) (hb:b<5):RD ek a b↔(decide ((edg ek a).length=2)&&(decide (a=b) || !oN Tq a b)&&(edg ek a).any fun t=>oN Tq t b)=true:=by
 obtain⟨O,O',at',U,Dd⟩:=hD
 rw[<- G2 EM.g Dd ha hb]
 unfold uC
 rw[O6 Dd,(cr (c:=ek) ha).2 (uf ha),(cr (c:=ek) hb).2 (uf hb)]
 rfl
def T6 (f:Fa):Prop:=(f.nC=true/\(f.n=0\/f.n=2\/f.n=3\/f.n=4))\/(f.nC=false/\(f.n=1\/f.n=3\/f.n=4))
theorem jO (hD:F6 ek):F8 (fo ek) T6:=by
 intro r hr hs
 have hi:=jX.1 hr
 cases hi with
 | @no b hb hp=>exact absurd (uf hb) hp
 | @dep b a A hb hp hd hA =>
  have ha:a<5:=(List.getElem?_eq_some_iff.1 hA).1
  have hb5:b<5:=hb
  rw[Qe hD ha hb5]at hd
  have key:∀a,a<5->∀b,b<5->(decide ((edg ek a).length=2)&&(decide (a=b) || !oN Tq a b)&&(edg ek a).any fun t=>oN Tq t b)=true->a=2\/b=1:=by decide
  rcases key a ha b hb5 hd with h|h
  ·subst h
   have:zV=A:=by
    have:ek.b[2]?=some zV:=rfl
    rw[this]at hA;exact Option.some.inj hA
   subst this
   refine⟨rfl,fun f hf=>?_⟩
   simp only[sQ,List.mem_append]at hf
   rcases hf with hf|hf
   ·simp[bq,zV,eM]at hf;subst hf;exact Or.inr ⟨rfl,Or.inl rfl⟩
   ·simp[oS]at hf;subst hf;exact Or.inl ⟨rfl,Or.inr (Or.inl rfl)⟩
  ·subst h
   simp[T6,sQ,oS]at hs
 | @inst b B x hB hp hx h0 =>
  have hb:b<5:=(List.getElem?_eq_some_iff.1 hB).1
  match b,hb with
  | 0,_ =>
   have:w6=B:=Option.some.inj ((rfl:ek.b[0]?=some w6).symm.trans hB)
   subst this
   simp only[w6,List.mem_cons,List.not_mem_nil,or_false]at hx
   rcases hx with rfl|rfl
   ·simp[T6,gF,pW,cX,eM]at hs
   ·refine⟨by decide,fun f hf=>?_⟩
    simp[gF,bq,aj,oS]at hf
    subst hf;exact Or.inl ⟨rfl,Or.inl rfl⟩
  | 1,_ =>
   have:zW=B:=Option.some.inj ((rfl:ek.b[1]?=some zW).symm.trans hB)
   subst this
   simp only[zW,List.mem_cons,List.not_mem_nil,or_false]at hx
   subst hx
   simp[T6,gF,pW,cX,eM]at hs
  | 2,_ =>
   have:zV=B:=Option.some.inj ((rfl:ek.b[2]?=some zV).symm.trans hB)
   subst this
   simp[zV]at hx
  | 3,_ =>
   have:Da=B:=Option.some.inj ((rfl:ek.b[3]?=some Da).symm.trans hB)
   subst this
   simp only[Da,List.mem_cons,List.not_mem_nil,or_false]at hx
   subst hx
   refine⟨by decide,fun f hf=>?_⟩
   simp[gF,bq,aj,oS,eM]at hf
   rcases hf with rfl|rfl
   ·exact Or.inr ⟨rfl,Or.inl rfl⟩
   ·exact Or.inl ⟨rfl,Or.inr (Or.inr (Or.inl rfl))⟩
  | 4,_ =>
   have:Ee=B:=Option.some.inj ((rfl:ek.b[4]?=some Ee).symm.trans hB)
   subst this
   simp[Ee]at hx
 | @fin b B hB hp h0 =>
  have hm:=List.mem_of_getElem? hB
  simp only[ek,List.mem_cons,List.not_mem_nil,or_false]at hm
  rcases hm with rfl|rfl|rfl|rfl|rfl<;>simp[cX,w6,zW,zV,Da,Ee,aj]at h0
theorem GZ:∃r,r∈fo ek/\r.of=pW 0/\r.never=true :=
 ⟨_,jX.2 (.inst (b:=0) (B:=w6) (x:=⟨5,2,0,eM 0,aj,aj,aj⟩) rfl .refl (by simp[w6]) (by decide)),rfl,by decide⟩
theorem Qc:¬Gf (fo ek) (pW 0):=fun h=>by
 obtain⟨r,hr,ho,hv⟩:=GZ
 have:=(Gf.closed _ r hr (by rw[ho];exact h)).1
 rw[hv]at this;cases this
theorem Qf (hD:F6 ek):¬Gf (fo ek) (oS 1):=fun h=>by
 have hd:RD ek 0 1:=(Qe hD (by omega) (by omega)).2 (by decide)
 have:=(Gf.closed _ _ (jX.2 (.dep (b:=1) (a:=0) (A:=w6) (by decide) (uf (by omega)) hd rfl)) h).2 (pW 0) (by simp[sQ,bq,w6,eM,pW])
 exact Qc this
theorem Tl (hD:F6 ek):¬Gf (fo ek) (pW 2):=fun h=>by
 have:=(Gf.closed _ _ (jX.2 (.inst (b:=1) (B:=zW) (x:=⟨1,0,0,eM 2,Const 1,aj,aj⟩) rfl (uf (by omega)) (by simp[zW]) (by decide))) h).2 (oS 1) (by simp[gF])
 exact Qf hD this
theorem To (hD:F6 ek):zg ek (fo ek)=[true,false,true,true,true]:=by
 refine pf (by rw[lW];rfl) fun k hk=>?_
 rw[lW]at hk
 rw[B7 hk]
 have hk5:k<5:=hk
 match k,hk5 with
 | 0,_=>exact⟨fun _=>rfl,fun _=>⟨_,jO hD,Or.inl ⟨rfl,by decide⟩⟩⟩
 | 1,_=>exact⟨fun h=>absurd h (Qf hD),fun h=>(by cases h)⟩
 | 2,_=>exact⟨fun _=>rfl,fun _=>⟨_,jO hD,Or.inl ⟨rfl,by decide⟩⟩⟩
 | 3,_=>exact⟨fun _=>rfl,fun _=>⟨_,jO hD,Or.inl ⟨rfl,by decide⟩⟩⟩
 | 4,_=>exact⟨fun _=>rfl,fun _=>⟨_,jO hD,Or.inl ⟨rfl,by decide⟩⟩⟩
theorem Tp (hD:F6 ek):xr ek (fo ek)=[false,true,false,true,true]:=by
 refine pf (by rw[lX];rfl) fun k hk=>?_
 rw[lX]at hk
 rw[B8 hk]
 have hk5:k<5:=hk
 match k,hk5 with
 | 0,_=>exact⟨fun h=>absurd h Qc,fun h=>(by cases h)⟩
 | 1,_=>exact⟨fun _=>rfl,fun _=>⟨_,jO hD,Or.inr ⟨rfl,by decide⟩⟩⟩
 | 2,_=>exact⟨fun h=>absurd h (Tl hD),fun h=>(by cases h)⟩
 | 3,_=>exact⟨fun _=>rfl,fun _=>⟨_,jO hD,Or.inr ⟨rfl,by decide⟩⟩⟩
 | 4,_=>exact⟨fun _=>rfl,fun _=>⟨_,jO hD,Or.inr ⟨rfl,by decide⟩⟩⟩
end Go.Am
