/- What the functions of this chapter give, on plain data. No condition. -/
import Derived.Test.YtjhjndjghaagiaaP2
set_option linter.unnecessarySimpa false
set_option linter.defProp false
set_option linter.unusedSectionVars false
set_option linter.unusedSimpArgs false
set_option linter.unusedVariables false
namespace Go.Am
open Go Go.Proofs
def wP:Block:=⟨[⟨5,2,0,eQ 0,aj,aj,aj⟩,⟨5,3,0,eQ 1,aj,aj,aj⟩],⟨2,0,aj,eQ 0,aj,1,2⟩⟩
def zE:Block:=⟨[⟨1,0,0,eQ 2,Const 1,aj,aj⟩],⟨1,0,aj,aj,aj,2,0⟩⟩
def zD:Block:=⟨[],⟨2,0,aj,eQ 1,aj,3,4⟩⟩
def CM:Block:=⟨[⟨1,0,0,eQ 3,eQ 1,aj,aj⟩],⟨1,0,aj,aj,aj,4,0⟩⟩
def DR:Block:=⟨[],⟨5,0,aj,aj,aj,0,0⟩⟩
def ek:Code:=⟨4,1,5,0,0,[],[],[wP,zE,zD,CM,DR]⟩
theorem wO {n:Int}(h:0<=n/\n<5):lY 5 (eQ n):=⟨n,h.1,h.2,rfl⟩
theorem Ep:dQ ek:=by
 refine⟨⟨⟨by decide,by decide⟩,fun B hB=>?_⟩,fun B hB x hx=>?_,fun B hB=>?_,⟨by decide,by decide⟩⟩
 ·simp only[ek,List.mem_cons,List.not_mem_nil,or_false]at hB
  rcases hB with rfl|rfl|rfl|rfl|rfl
  ·exact .branch _ 1 2 (wO (by omega)) (by decide) (by decide)
  ·exact .jump 2 (by decide)
  ·exact .branch _ 3 4 (wO (by omega)) (by decide) (by decide)
  ·exact .jump 4 (by decide)
  ·exact .exit
 ·simp only[ek,List.mem_cons,List.not_mem_nil,or_false]at hB
  rcases hB with rfl|rfl|rfl|rfl|rfl
  ·simp only[wP,List.mem_cons,List.not_mem_nil,or_false]at hx
   rcases hx with rfl|rfl
   ·exact .id 2 _ (by omega) (wO (by omega))
   ·exact .id 3 _ (by omega) (wO (by omega))
  ·simp only[zE,List.mem_cons,List.not_mem_nil,or_false]at hx
   subst hx
   exact .mov _ _ (wO (by omega)) (Or.inr ⟨1,by omega,by omega,rfl⟩)
  ·simp[zD]at hx
  ·simp only[CM,List.mem_cons,List.not_mem_nil,or_false]at hx
   subst hx
   exact .mov _ _ (wO (by omega)) (wO (by omega)).val
  ·simp[DR]at hx
 ·simp only[ek,List.mem_cons,List.not_mem_nil,or_false]at hB
  rcases hB with rfl|rfl|rfl|rfl|rfl<;>decide
theorem MN:edg ek 0=[1,2]:=by decide
theorem SZ:edg ek 1=[2]:=by decide
theorem GC:edg ek 2=[3,4]:=by decide
theorem SY:edg ek 3=[4]:=by decide
theorem tW {b:Nat}(hb:b<5):Path (edg ek) 0 b:=by
 have p1:Path (edg ek) 0 1:=.step .refl (by rw[MN];simp)
 have p2:Path (edg ek) 0 2:=.step .refl (by rw[MN];simp)
 have p3:Path (edg ek) 0 3:=.step p2 (by rw[GC];simp)
 have p4:Path (edg ek) 0 4:=.step p2 (by rw[GC];simp)
 match b,hb with
 | 0,_=>exact .refl
 | 1,_=>exact p1
 | 2,_=>exact p2
 | 3,_=>exact p3
 | 4,_=>exact p4
theorem Re {b:Nat}(hb:b<5):Path (edg ek) b 4:=by
 have p3:Path (edg ek) 3 4:=.step .refl (by rw[SY];simp)
 have p2:Path (edg ek) 2 4:=.step .refl (by rw[GC];simp)
 have p1:Path (edg ek) 1 4:=.step (.step .refl (show 2∈edg ek 1 by rw[SZ];simp)) (by rw[GC];simp)
 have p0:Path (edg ek) 0 4:=.step (.step .refl (show 2∈edg ek 0 by rw[MN];simp)) (by rw[GC];simp)
 match b,hb with
 | 0,_=>exact p0
 | 1,_=>exact p1
 | 2,_=>exact p2
 | 3,_=>exact p3
 | 4,_=>exact .refl
def S5:List (List Nat):=[[1,2],[2],[3,4],[4],[5],[]]
theorem OO {O O':List Nat}{at' U:List Int}(Dd:vM ek O O' at' U):cB ek (cL ek O)=S5:=by
 have hc:=Ep.g
 have hp:=@vM.path ek O O' at' U hc Dd
 have h4:4∈O:=hp.2 (tW (by omega))
 have x4:qh ek 4=true:=by decide
 have hf:cL ek O=O.filter (qh ek):=Em fun y hy=>by
  have hy5:y<5:=Dd.b.lt y hy
  refine⟨4,List.mem_filter.2 ⟨h4,x4⟩,?_⟩
  have:gL (fv ek)=edg ek:=funext fun b=>iY
  rw[this];exact Re hy5
 refine iX (by rw[bu];rfl) fun b hb=>?_
 have hb6:b<6:=by rw[bu]at hb;exact hb
 rw[fh,hf]
 have nx:∀b,qh ek b=false->¬b∈O.filter (qh ek):=fun b hx h=>by rw[(List.mem_filter.1 h).2]at hx;cases hx
 match b,hb6 with
 | 0,_=>rw[if_pos (by decide),if_neg (by decide),if_neg (nx 0 (by decide))];decide
 | 1,_=>rw[if_pos (by decide),if_neg (by decide),if_neg (nx 1 (by decide))];decide
 | 2,_=>rw[if_pos (by decide),if_neg (by decide),if_neg (nx 2 (by decide))];decide
 | 3,_=>rw[if_pos (by decide),if_neg (by decide),if_neg (nx 3 (by decide))];decide
 | 4,_=>rw[if_pos (by decide),if_pos (by decide)];decide
 | 5,_=>rw[if_neg (by decide)];decide
theorem PV (hD:Ds ek){a b:Nat}(ha:a<5) (hb:b<5):Rf ek a b↔(decide ((edg ek a).length=2)&&(decide (a=b) || !oJ S5 a b)&&(edg ek a).any fun t=>oJ S5 t b)=true:=by
 obtain⟨O,O',at',U,Dd⟩:=hD
 rw[<- GF Ep.g Dd ha hb]
 unfold ur
 rw[OO Dd,(cr (c:=ek) ha).2 (tW ha),(cr (c:=ek) hb).2 (tW hb)]
 rfl
def TI (f:Fa):Prop:=(f.np=true/\(f.n=0\/f.n=2\/f.n=3\/f.n=4))\/(f.np=false/\(f.n=1\/f.n=3\/f.n=4))
theorem jJ (hD:Ds ek):FI (iD ek) TI:=by
 intro r hr hs
 have hi:=jS.1 hr
 cases hi with
 | @no b hb hp=>exact absurd (tW hb) hp
 | @dep b a A hb hp hd hA =>
  have ha:a<5:=(List.getElem?_eq_some_iff.1 hA).1
  have hb5:b<5:=hb
  rw[PV hD ha hb5]at hd
  have key:∀a,a<5->∀b,b<5->(decide ((edg ek a).length=2)&&(decide (a=b) || !oJ S5 a b)&&(edg ek a).any fun t=>oJ S5 t b)=true->a=2\/b=1:=by decide
  rcases key a ha b hb5 hd with h|h
  ·subst h
   have:zD=A:=by
    have:ek.b[2]?=some zD:=rfl
    rw[this]at hA;exact Option.some.inj hA
   subst this
   refine⟨rfl,fun f hf=>?_⟩
   simp only[sI,List.mem_append]at hf
   rcases hf with hf|hf
   ·simp[bp,zD,eQ]at hf;subst hf;exact Or.inr ⟨rfl,Or.inl rfl⟩
   ·simp[ql]at hf;subst hf;exact Or.inl ⟨rfl,Or.inr (Or.inl rfl)⟩
  ·subst h
   simp[TI,sI,ql]at hs
 | @inst b B x hB hp hx h0 =>
  have hb:b<5:=(List.getElem?_eq_some_iff.1 hB).1
  match b,hb with
  | 0,_ =>
   have:wP=B:=Option.some.inj ((rfl:ek.b[0]?=some wP).symm.trans hB)
   subst this
   simp only[wP,List.mem_cons,List.not_mem_nil,or_false]at hx
   rcases hx with rfl|rfl
   ·simp[TI,gE,rj,cW,eQ]at hs
   ·refine⟨by decide,fun f hf=>?_⟩
    simp[gE,bp,aj,ql]at hf
    subst hf;exact Or.inl ⟨rfl,Or.inl rfl⟩
  | 1,_ =>
   have:zE=B:=Option.some.inj ((rfl:ek.b[1]?=some zE).symm.trans hB)
   subst this
   simp only[zE,List.mem_cons,List.not_mem_nil,or_false]at hx
   subst hx
   simp[TI,gE,rj,cW,eQ]at hs
  | 2,_ =>
   have:zD=B:=Option.some.inj ((rfl:ek.b[2]?=some zD).symm.trans hB)
   subst this
   simp[zD]at hx
  | 3,_ =>
   have:CM=B:=Option.some.inj ((rfl:ek.b[3]?=some CM).symm.trans hB)
   subst this
   simp only[CM,List.mem_cons,List.not_mem_nil,or_false]at hx
   subst hx
   refine⟨by decide,fun f hf=>?_⟩
   simp[gE,bp,aj,ql,eQ]at hf
   rcases hf with rfl|rfl
   ·exact Or.inr ⟨rfl,Or.inl rfl⟩
   ·exact Or.inl ⟨rfl,Or.inr (Or.inr (Or.inl rfl))⟩
  | 4,_ =>
   have:DR=B:=Option.some.inj ((rfl:ek.b[4]?=some DR).symm.trans hB)
   subst this
   simp[DR]at hx
 | @fin b B hB hp h0 =>
  have hm:=List.mem_of_getElem? hB
  simp only[ek,List.mem_cons,List.not_mem_nil,or_false]at hm
  rcases hm with rfl|rfl|rfl|rfl|rfl<;>simp[cW,wP,zE,zD,CM,DR,aj]at h0
theorem GB:∃r,r∈iD ek/\r.of=rj 0/\r.never=true :=
 ⟨_,jS.2 (.inst (b:=0) (B:=wP) (x:=⟨5,2,0,eQ 0,aj,aj,aj⟩) rfl .refl (by simp[wP]) (by decide)),rfl,by decide⟩
theorem PU:¬Gf (iD ek) (rj 0):=fun h=>by
 obtain⟨r,hr,ho,hv⟩:=GB
 have:=(Gf.closed _ r hr (by rw[ho];exact h)).1
 rw[hv]at this;cases this
theorem PW (hD:Ds ek):¬Gf (iD ek) (ql 1):=fun h=>by
 have hd:Rf ek 0 1:=(PV hD (by omega) (by omega)).2 (by decide)
 have:=(Gf.closed _ _ (jS.2 (.dep (b:=1) (a:=0) (A:=wP) (by decide) (tW (by omega)) hd rfl)) h).2 (rj 0) (by simp[sI,bp,wP,eQ,rj])
 exact PU this
theorem SX (hD:Ds ek):¬Gf (iD ek) (rj 2):=fun h=>by
 have:=(Gf.closed _ _ (jS.2 (.inst (b:=1) (B:=zE) (x:=⟨1,0,0,eQ 2,Const 1,aj,aj⟩) rfl (tW (by omega)) (by simp[zE]) (by decide))) h).2 (ql 1) (by simp[gE])
 exact PW hD this
theorem S3 (hD:Ds ek):Ei ek (iD ek)=[true,false,true,true,true]:=by
 refine sD (by rw[xY];rfl) fun k hk=>?_
 rw[xY]at hk
 rw[E6 hk]
 have hk5:k<5:=hk
 match k,hk5 with
 | 0,_=>exact⟨fun _=>rfl,fun _=>⟨_,jJ hD,Or.inl ⟨rfl,by decide⟩⟩⟩
 | 1,_=>exact⟨fun h=>absurd h (PW hD),fun h=>(by cases h)⟩
 | 2,_=>exact⟨fun _=>rfl,fun _=>⟨_,jJ hD,Or.inl ⟨rfl,by decide⟩⟩⟩
 | 3,_=>exact⟨fun _=>rfl,fun _=>⟨_,jJ hD,Or.inl ⟨rfl,by decide⟩⟩⟩
 | 4,_=>exact⟨fun _=>rfl,fun _=>⟨_,jJ hD,Or.inl ⟨rfl,by decide⟩⟩⟩
theorem S4 (hD:Ds ek):DF ek (iD ek)=[false,true,false,true,true]:=by
 refine sD (by rw[xZ];rfl) fun k hk=>?_
 rw[xZ]at hk
 rw[E7 hk]
 have hk5:k<5:=hk
 match k,hk5 with
 | 0,_=>exact⟨fun h=>absurd h PU,fun h=>(by cases h)⟩
 | 1,_=>exact⟨fun _=>rfl,fun _=>⟨_,jJ hD,Or.inr ⟨rfl,by decide⟩⟩⟩
 | 2,_=>exact⟨fun h=>absurd h (SX hD),fun h=>(by cases h)⟩
 | 3,_=>exact⟨fun _=>rfl,fun _=>⟨_,jJ hD,Or.inr ⟨rfl,by decide⟩⟩⟩
 | 4,_=>exact⟨fun _=>rfl,fun _=>⟨_,jJ hD,Or.inr ⟨rfl,by decide⟩⟩⟩
end Go.Am
