/- What the functions of this chapter give, on plain data. No condition. -/
import Derived.Test.YtjhjndjghaagiaaP3
set_option linter.unnecessarySimpa false
set_option linter.defProp false
set_option linter.unusedSectionVars false
set_option linter.unusedSimpArgs false
set_option linter.unusedVariables false
namespace Go.Am
open Go Go.Proofs
section
variable {h:Heap}{F:LSq}{KH:HKq}{nB:Nat}{A:List (Nat×Block)}
theorem OB.TW:OB h nB A F↔Vs h (F++(nB,.arr 14 (A.map O5))::A.map Sk) :=
 ⟨fun V=>Vs.perm (List.perm_append_comm (l₁:=(nB,.arr 14 (A.map O5))::A.map Sk) (l₂:=F)) V,fun V=>V.perm (List.perm_append_comm (l₁:=F) (l₂:=(nB,.arr 14 (A.map O5))::A.map Sk))⟩
theorem OB.alloc (V:OB h nB A F){d:D}(hK:∀n h',OB h' nB A ((n,.box d)::F)->KH (.ptr n 0 0) h'):aa PP (.alloc d) h KH :=
 (OB.TW.1 V).alloc fun n h' V'=>hK n h' (OB.TW.2 V')
theorem OB.less {x:Nat×Slot}(V:OB h nB A (x::F)):OB h nB A F:=OB.TW.2 (OB.TW.1 V).pop
end
section
variable {c:Code}{h:Heap}{nA nL nB n13 n2:Nat}{bs:List Nat}{A:List (Nat×Block)}
end
end Go.Am
namespace Go.Am
open Go Go.Proofs
theorem Jg (bs:List Nat):xo (zy bs):=fJ (by simp[oY])
end Go.Am
namespace Go.Am
open Go Go.Proofs
section
variable {c:Code}{nU nR nu n4 n2 nr N:Nat}{U R:List Bool}{X:LSq}{vD:D}{P:List Bool->List Bool->Prop}{h:Heap}{t:Bool}
theorem Kw (hc:cU c) (hr:c.regs=(nr:Int)) (hP:Dr c P) (wD:LR X vD (gY c)) (s:Aj c P N U R false) (V:Vs h (aS c nU nR nu n4 n2 nr U R X)){J:HJq}
  (hJ:∀h' U' R' t,Aj c P N U' R' t->(t=false->na c U' R' c.b.length)->Vs h' (aS c nU nR nu n4 n2 nr U' R' X)->J [.bool t] h') :
  kZ h (.ptr nu 0 0) (.ptr n2 0 0) (.ptr n4 0 0) (.sl (bL (cH c))) vD J:=by
 have hnb:=hc.g.nb
 unfold kZ
 refine⟨fun m q h'=>∃(i:Nat) (U R:List Bool) (t:Bool),q=[.bool t,nD i]/\i<=c.b.length/\m=c.b.length-i/\Aj c P N U R t/\(t=false->na c U R i)/\Vs h' (aS c nU nR nu n4 n2 nr U R X),_,⟨0,U,R,false,rfl,by omega,rfl,s,fun _ b hb=>by omega,V⟩,?_⟩
 rintro m f h1 ⟨i,U1,R1,t1,hq,hi,hm,s1,ck,V1⟩
 simp only[List.cons.injEq,and_true]at hq
 obtain⟨q1,q2⟩:=hq
 have get0:∀{KH:HKq},aa PP (.fadd (.c (.ptr nu 0 0)) 0) h1 (fun a h2=>aa PP (.ld (.c a) 1 false) h2 KH)=KH (.ms nU 0 c.b.length) h1:=fun {KH}=>by rw[V1.fa 0 rfl,V1.b9 0 (j:=0+0) rfl rfl]
 have len0:∀{K:D->Prop},aG (.ms nU 0 c.b.length) h1 K=K (.int .i64 (c.b.length:Int)):=fun {K}=>by
  rw[bb,V1.get 2 _ _ rfl];exact propext ⟨fun hh=>hh.2,fun hk=>⟨rfl,hk⟩⟩
 rw[get0,len0,q1,q2]
 by_cases hlt:¬i<c.b.length
 ·have:i=c.b.length:=by omega
  subst this
  rw[nD,kp (by omega),af]
  simp only[ab,true_and]
  exact hJ h1 U1 R1 t1 s1 ck V1
 replace hlt:i<c.b.length:=Decidable.not_not.1 hlt
 rw[nD,kN (by omega),ag]
 refine⟨fun q h'=>∃(U R:List Bool) (t:Bool),q=[.bool t]/\Aj c P N U R t/\(t=false->na c U R (i+1))/\Vs h' (aS c nU nR nu n4 n2 nr U R X),?_,?_⟩
 ·rintro f' h' ⟨U2,R2,t2,hq,s2,ck2,V2⟩
  simp only[List.cons.injEq,and_true]at hq
  rw[hq,cw (by omega) (by omega)]
  simp only[ab,true_and]
  exact⟨_,by omega,i+1,U2,R2,t2,rfl,by omega,rfl,s2,ck2,V2⟩
 have more:(hasB U1 i=true->Ll c (cH c) (gY c) U1 R1 i=true)->(t1=false->na c U1 R1 (i+1)):=fun hh ht b hb hu=>by
  by_cases e:b=i
  ·subst e;exact hh hu
  ·exact ck ht b (by omega) hu
 rw[get0,V1.ia 2 rfl (by omega) (by omega),Int.toNat_natCast,V1.uV 2 rfl (ca (aR (by rw[s1.ul];exact hlt))) rfl]
 cases g1:hasB U1 i
 ·simp only[gD,Bool.not_false,Bool.not_true,Bool.false_eq_true,if_true,if_false]
  rw[af]
  simp only[ab,true_and]
  exact⟨U1,R1,t1,rfl,s1,more fun h=>by(rw[g1]at h;cases h),V1⟩
 simp only[gD,Bool.not_false,Bool.not_true,Bool.false_eq_true,if_true,if_false]
 rw[V1.lu 4 (s:=8) rfl rfl,V1.lu 0 (s:=2) rfl rfl,show D.agg [.int .i64 c.group,.int .i64 c.sub,.int .i64 c.regs,.int .i64 c.slots,.int .i64 c.params,.sl (c.arrays.map uQ.e),.sl (c.loops.map Loop.e),.sl (c.b.map Block.e)]=c.e from rfl]
 refine JM hc (ye hc.g) sR V1 (s1.bU fun x hx=>hx) (s1.bR hr fun x hx=>hx) (wD.mono fun x hx=>by simp[aS,hx]) s1.ul s1.rl hlt kn fun h2 V2=>?_
 rw[cD]
 cases g2:Ll c (cH c) (gY c) U1 R1 i
 ·rw[Bool.not_false,ag,V2.fa 0 rfl,V2.b9 0 (j:=0+0) rfl rfl,V2.ia 2 rfl (by omega) (by omega),Int.toNat_natCast]
  refine V2.rG 2 rfl (by simp[bL,s1.ul];exact hlt) rfl (dw _) fun h3 V3=>?_
  rw[du]at V3
  simp only[ab,true_and]
  obtain⟨r,hr1,hr2,hr3⟩:=ND hlt g2 g1
  have:=s1.drop hP hr1 (by rw[hr2];exact g1) hr3
  rw[hr2]at this
  exact⟨U1.set i false,R1,true,rfl,this,fun h=>(by cases h),V3⟩
 ·rw[Bool.not_true,af]
  simp only[ab,true_and]
  exact⟨U1,R1,t1,rfl,s1,more fun _=>g2,V2⟩
theorem OY (hc:cU c) (hr:c.regs=(nr:Int)) (hP:Dr c P) (s:Aj c P N U R t) (cb:t=false->na c U R c.b.length) (V:Vs h (aS c nU nR nu n4 n2 nr U R X)){f:Nat->D}(hf:f 7=.bool t){I:Nat->HJq}{n31:Nat}
  (hJ:∀h' U' R' t,Aj c P N U' R' t->(t=false->na c U' R' c.b.length/\Eg c U' R' nr)->Vs h' (aS c nU nR nu n4 n2 nr U' R' X)->∃m,m<n31/\I m [.bool t] h') :
  k0 f h (.ptr nu 0 0) (.ptr n2 0 0) (.ptr n4 0 0) (.sl (bL (cH c))) vD n31 I:=by
 have hnb:=hc.g.nb
 have hrg:=hc.rg
 unfold k0
 rw[hf]
 refine⟨fun m q h'=>∃(i:Nat) (U R:List Bool) (t:Bool),q=[.bool t,nD i]/\i<=nr/\m=nr-i/\Aj c P N U R t/\(t=false->na c U R c.b.length/\Eg c U R i)/\Vs h' (aS c nU nR nu n4 n2 nr U R X),_,⟨0,U,R,t,rfl,by omega,rfl,s,fun h=>⟨cb h,fun b hb=>by omega⟩,V⟩,?_⟩
 rintro m f h1 ⟨i,U1,R1,t1,hq,hi,hm,s1,ck,V1⟩
 simp only[List.cons.injEq,and_true]at hq
 obtain⟨q1,q2⟩:=hq
 have hRl:R1.length=nr:=by have:=s1.rl;omega
 have get0:∀{KH:HKq}{h1:Heap}{U1 R1:List Bool},Vs h1 (aS c nU nR nu n4 n2 nr U1 R1 X)->aa PP (.fadd (.c (.ptr nu 0 0)) 1) h1 (fun a h2=>aa PP (.ld (.c a) 1 false) h2 KH)=KH (.ms nR 0 nr) h1:=fun {KH h1 U1 R1} V1=>by rw[V1.fa 0 rfl,V1.b9 0 (j:=0+1) rfl rfl]
 have len0:∀{K:D->Prop},aG (.ms nR 0 nr) h1 K=K (.int .i64 (nr:Int)):=fun {K}=>by
  rw[bb,V1.get 1 _ _ rfl];exact propext ⟨fun hh=>hh.2,fun hk=>⟨rfl,hk⟩⟩
 rw[get0 V1,len0,q1,q2]
 by_cases hlt:¬i<nr
 ·have:i=nr:=by omega
  subst this
  rw[nD,kp (by omega),af]
  simp only[ab,true_and]
  exact hJ h1 U1 R1 t1 s1 ck V1
 replace hlt:i<nr:=Decidable.not_not.1 hlt
 rw[nD,kN (by omega),ag]
 refine⟨fun q h'=>∃(U R:List Bool) (t:Bool),q=[.bool t]/\Aj c P N U R t/\(t=false->na c U R c.b.length/\Eg c U R (i+1))/\Vs h' (aS c nU nR nu n4 n2 nr U R X),?_,?_⟩
 ·rintro f' h' ⟨U2,R2,t2,hq,s2,ck2,V2⟩
  simp only[List.cons.injEq,and_true]at hq
  rw[hq,cw (by omega) (by omega)]
  simp only[ab,true_and]
  exact⟨_,by omega,i+1,U2,R2,t2,rfl,by omega,rfl,s2,ck2,V2⟩
 have more:(hasB R1 i=true->HJ c (cH c) U1 R1 (i:Int)=true)->(t1=false->na c U1 R1 c.b.length/\Eg c U1 R1 (i+1)):=fun hh ht=>⟨(ck ht).1,fun b hb hu=>by
  by_cases e:b=i
  ·subst e;exact hh hu
  ·exact(ck ht).2 b (by omega) hu⟩
 rw[get0 V1,V1.ia 1 rfl (by omega) (by omega),Int.toNat_natCast,V1.uV 1 rfl (ca (aR (by rw[hRl];exact hlt))) rfl]
 cases g1:hasB R1 i
 ·simp only[gD,Bool.not_false,Bool.not_true,Bool.false_eq_true,if_true,if_false]
  rw[af]
  simp only[ab,true_and]
  exact⟨U1,R1,t1,rfl,s1,more fun h=>by(rw[g1]at h;cases h),V1⟩
 simp only[gD,Bool.not_false,Bool.not_true,Bool.false_eq_true,if_true,if_false]
 rw[V1.lu 4 (s:=8) rfl rfl,V1.lu 0 (s:=2) rfl rfl,show D.agg [.int .i64 c.group,.int .i64 c.sub,.int .i64 c.regs,.int .i64 c.slots,.int .i64 c.params,.sl (c.arrays.map uQ.e),.sl (c.loops.map Loop.e),.sl (c.b.map Block.e)]=c.e from rfl]
 refine Dv hc V1 (s1.bU fun x hx=>hx) (s1.bR hr fun x hx=>hx) s1.ul s1.rl kn ?_
 rw[cD]
 cases g2:HJ c (cH c) U1 R1 (i:Int)
 ·rw[Bool.not_false,ag,get0 V1,V1.ia 1 rfl (by omega) (by omega),Int.toNat_natCast]
  refine V1.rG 1 rfl (by simp[bL,hRl];exact hlt) rfl (dw _) fun h3 V3=>?_
  rw[du]at V3
  simp only[ab,true_and]
  obtain⟨r,hr1,hr2,hr3⟩:=Md g2 g1
  have:=s1.drop hP hr1 (by rw[hr2];exact g1) hr3
  rw[hr2]at this
  exact⟨U1,R1.set i false,true,rfl,this,fun h=>(by cases h),V3⟩
 ·rw[Bool.not_true,af]
  simp only[ab,true_and]
  exact⟨U1,R1,t1,rfl,s1,more fun _=>g2,V1⟩
theorem OZ (hc:cU c) (hr:c.regs=(nr:Int)) (hP:Dr c P) (wD:LR X vD (gY c)) (hul:U.length=c.b.length) (hrl:(R.length:Int)=c.regs) (hp:P U R) (ht:t=false->(fo c).all (cL U R)=true) (V:Vs h (aS c nU nR nu n4 n2 nr U R X)){J:HJq}
  (hJ:∀h' U' R',U'.length=c.b.length->(R'.length:Int)=c.regs->P U' R'->(fo c).all (cL U' R')=true->Vs h' (aS c nU nR nu n4 n2 nr U' R' X)->J [] h') :
  kY (.bool t) h (.ptr nu 0 0) (.ptr n2 0 0) (.ptr n4 0 0) (.sl (bL (cH c))) vD J:=by
 unfold kY
 refine⟨fun m q h'=>∃(U R:List Bool) (t:Bool),q=[.bool t]/\m=2*oK U R+(if t then 1 else 0)/\U.length=c.b.length/\(R.length:Int)=c.regs/\P U R/\(t=false->na c U R c.b.length/\Eg c U R nr)/\Vs h' (aS c nU nR nu n4 n2 nr U R X),_,⟨U,R,t,rfl,rfl,hul,hrl,hp,fun h=>⟨fun b hb hu=>((x6 hc).1 (ht h)).1 b hb hu,fun n hn hu=>((x6 hc).1 (ht h)).2 n (by omega) hu⟩,V⟩,?_⟩
 rintro m f h1 ⟨U1,R1,t1,hq,hm,ul,rl,p1,ck,V1⟩
 simp only[List.cons.injEq,and_true]at hq
 rw[hq]
 cases t1 with
 | false =>
  rw[af]
  simp only[ab,true_and]
  obtain⟨c1,c2⟩:=ck rfl
  exact hJ h1 U1 R1 ul rl p1 ((x6 hc).2 ⟨c1,fun n hn hu=>c2 n (by omega) hu⟩) V1
 | true =>
  rw[ag]
  refine⟨fun q h'=>∃(U R:List Bool) (t:Bool),q=[.bool t]/\Aj c P (oK U1 R1) U R t/\(t=false->na c U R c.b.length)/\Vs h' (aS c nU nR nu n4 n2 nr U R X),?_,?_⟩
  ·rintro f' h' ⟨U2,R2,t2,hq2,s2,ck2,V2⟩
   simp only[List.cons.injEq,and_true]at hq2
   refine OY hc hr hP s2 ck2 V2 hq2 fun h3 U3 R3 t3 s3 ck3 V3=>?_
   refine⟨_,?_,U3,R3,t3,rfl,rfl,s3.ul,s3.rl,s3.p,ck3,V3⟩
   have:=s3.n
   cases t3
   ·simp at this ⊢;simp at hm;omega
   ·simp at this ⊢;simp at hm;omega
  ·exact Kw hc hr hP wD ⟨ul,rl,p1,by simp⟩ V1 fun h' U' R' t s ck V=>⟨U',R',t,rfl,s,ck,V⟩
end
theorem PV {A:(D->Prop)->Prop}{K:D->Prop}:av (.bool true) true A K=A K:=by rw[ep];simp
theorem PW {A:(D->Prop)->Prop}{K:D->Prop}:av (.bool false) true A K=K gU:=by rw[ep];simp
def Le (A B:List Bool):Prop:=∀k,hasB A k=true->hasB B k=true
theorem Le.set {A B:List Bool}(h:Le A B){i:Nat}{b:Bool}(hb:b=true->hasB A i=true):Le (A.set i b) B:=fun k hk=>by
 unfold hasB at hk
 rw[List.getElem?_set]at hk
 split at hk
 ·rename_i e;subst e
  split at hk
  ·simp at hk;exact h i (hb hk)
  ·simp at hk
 ·exact h k hk
section
variable {c:Code}{nU nR nu n4 n2 nr:Nat}{U R:List Bool}{X:LSq}{h:Heap}{ms:List Nat}{vt:D}
theorem Un (hn:c.b.length<=1000) (hul:U.length=c.b.length) (hms:ms.length<=9223372036854775807) (V:Vs h (aS c nU nR nu n4 n2 nr U R X)){J:HJq}(hJ:∀(k:Nat) h' U',k<=1000->U'.length=c.b.length->Le U' U->(ms=[]->U'=U)->Vs h' (aS c nU nR nu n4 n2 nr U' R X)->J [nD k] h') :
  kW h (.ptr nu 0 0) (oY ms) (.ptr n2 0 0) (.ptr n4 0 0) vt J:=by
 unfold kW
 refine⟨fun m q h'=>∃(i:Nat) (U':List Bool),q=[nD i,nD i]/\i<=c.b.length/\m=c.b.length-i/\U'.length=c.b.length/\Le U' U/\(ms=[]->U'=U)/\Vs h' (aS c nU nR nu n4 n2 nr U' R X),_,⟨0,U,rfl,by omega,rfl,hul,fun k hk=>hk,fun _=>rfl,V⟩,?_⟩
 rintro m f h1 ⟨i,U1,hq,hi,hm,ul,le,emp,V1⟩
 simp only[List.cons.injEq,and_true]at hq
 obtain⟨q1,q2⟩:=hq
 rw[q1,q2,V1.fa 0 rfl,V1.b9 0 (j:=0+0) rfl rfl,bb,V1.get 2 _ _ rfl]
 refine⟨rfl,?_⟩
 by_cases hlt:¬i<c.b.length
 ·rw[nD,kp (by omega)]
  simp only[gD,Bool.not_false,Bool.not_true,Bool.false_eq_true,if_true,if_false]
  rw[af]
  simp only[ab,true_and]
  exact hJ i h1 U1 (by omega) ul le emp V1
 replace hlt:i<c.b.length:=Decidable.not_not.1 hlt
 rw[nD,kN (by omega)]
 simp only[gD,Bool.not_false,Bool.not_true,Bool.false_eq_true,if_true,if_false]
 rw[oY,br,List.length_map]
 by_cases hl:ms.length=0
 ·rw[Sn (by omega)]
  rw[af]
  simp only[ab,true_and]
  exact hJ i h1 U1 (by omega) ul le emp V1
 rw[T3 (by omega)]
 rw[ag]
 rw[V1.mz 0 rfl,V1.gX 0 (j:=0+0) rfl rfl,V1.mz 0 rfl,V1.gX 0 (j:=0+0) rfl rfl,V1.EO 2 rfl (by omega) (by omega),Int.toNat_natCast,V1.Bu 2 rfl (ca (aR (by omega))) rfl]
 have fin:∀(b:Bool),(b=true->hasB U1 i=true)->ae PP (.iadd (.c (.ms nU 0 c.b.length)) (.c (.int .i64 (i:Int))) 1) h1 fun a300=>aa PP (.st (.c a300) (.c (.bool b)) 1) h1 fun a301 h302=>vbin .add (.int .i64 (i:Int)) (.int .i64 1) fun a303=>vbin .add (.int .i64 (i:Int)) (.int .i64 1) fun a304=>∃m',m'<m/\∃(i:Nat) (U':List Bool),[a303,a304]=[nD i,nD i]/\i<=c.b.length/\m'=c.b.length-i/\U'.length=c.b.length/\Le U' U/\(ms=[]->U'=U)/\Vs h302 (aS c nU nR nu n4 n2 nr U' R X):=fun b hb=>by
  rw[V1.EO 2 rfl (by omega) (by omega),Int.toNat_natCast]
  refine V1.rG 2 rfl (by rw[dA];omega) rfl (dw _) fun h2 V2=>?_
  rw[du]at V2
  rw[cw (by omega) (by omega),cw (by omega) (by omega)]
  exact⟨_,by omega,i+1,U1.set i b,rfl,by omega,rfl,by simp[ul],le.set hb,fun e=>by simp[e]at hl,V2⟩
 cases g1:hasB U1 i
 ·simp only[PW,Qr]
  rw[fT,bE]
  simp only[Bool.false_eq_true,if_false,ab,true_and]
  exact fin false (fun h=>by cases h)
 simp only[PV]
 have em:((i:Int)).tmod (ms.length:Int)=((i % ms.length:Nat):Int):=rfl
 have hmod:i % ms.length<ms.length:=Nat.mod_lt _ (by omega)
 obtain⟨x,hx⟩:∃x,ms[i % ms.length]?=some x:=⟨ms[i % ms.length],List.getElem?_eq_getElem hmod⟩
 rw[br,List.length_map,Mg (by omega),em,KD (esz:=1) (d:=.int .u8 (x:Int)) (by omega) (by rw[Int.toNat_natCast,List.getElem?_map,hx];rfl) rfl,EN rfl,Mg (by omega),gj,fT,bE,if_pos rfl]
 simp only[ab,true_and]
 exact fin _ (fun _=>g1)
theorem Uo (hn:nr<=1000) (hrl:R.length=nr) (hms:ms.length<=9223372036854775807) (V:Vs h (aS c nU nR nu n4 n2 nr U R X)){n0:Nat}(h0:n0<=1000){f0:Nat->D}(hf:f0 6=nD n0){J:HJq}(hJ:∀h' R',R'.length=nr->Le R' R->(ms=[]->R'=R)->Vs h' (aS c nU nR nu n4 n2 nr U R' X)->J [] h') :
  kX f0 h (.ptr nu 0 0) (oY ms) (.ptr n2 0 0) (.ptr n4 0 0) vt J:=by
 unfold kX
 rw[hf]
 refine⟨fun m q h'=>∃(i:Nat) (R':List Bool),q=[nD (n0+i),nD i]/\i<=nr/\m=nr-i/\R'.length=nr/\Le R' R/\(ms=[]->R'=R)/\Vs h' (aS c nU nR nu n4 n2 nr U R' X),_,⟨0,R,rfl,by omega,rfl,hrl,fun k hk=>hk,fun _=>rfl,V⟩,?_⟩
 rintro m f h1 ⟨i,R1,hq,hi,hm,rl,le,emp,V1⟩
 simp only[List.cons.injEq,and_true]at hq
 obtain⟨q1,q2⟩:=hq
 rw[q1,q2,V1.fa 0 rfl,V1.b9 0 (j:=0+1) rfl rfl,bb,V1.get 1 _ _ rfl]
 refine⟨rfl,?_⟩
 by_cases hlt:¬i<nr
 ·rw[nD,nD,kp (by omega)]
  simp only[gD,Bool.not_false,Bool.not_true,Bool.false_eq_true,if_true,if_false]
  rw[af]
  simp only[ab,true_and]
  exact hJ h1 R1 rl le emp V1
 replace hlt:i<nr:=Decidable.not_not.1 hlt
 rw[nD,nD,kN (by omega)]
 simp only[gD,Bool.not_false,Bool.not_true,Bool.false_eq_true,if_true,if_false]
 rw[oY,br,List.length_map]
 by_cases hl:ms.length=0
 ·rw[Sn (by omega)]
  rw[af]
  simp only[ab,true_and]
  exact hJ h1 R1 rl le emp V1
 rw[T3 (by omega)]
 rw[ag]
 rw[V1.mz 0 rfl,V1.gX 0 (j:=0+1) rfl rfl,V1.mz 0 rfl,V1.gX 0 (j:=0+1) rfl rfl,V1.EO 1 rfl (by omega) (by omega),Int.toNat_natCast,V1.Bu 1 rfl (ca (aR (by omega))) rfl]
 have fin:∀(b:Bool),(b=true->hasB R1 i=true)->ae PP (.iadd (.c (.ms nR 0 nr)) (.c (.int .i64 (i:Int))) 1) h1 fun a300=>aa PP (.st (.c a300) (.c (.bool b)) 1) h1 fun a301 h302=>vbin .add (.int .i64 ((n0+i:Nat):Int)) (.int .i64 1) fun a303=>vbin .add (.int .i64 (i:Int)) (.int .i64 1) fun a304=>∃m',m'<m/\∃(i:Nat) (R':List Bool),[a303,a304]=[nD (n0+i),nD i]/\i<=nr/\m'=nr-i/\R'.length=nr/\Le R' R/\(ms=[]->R'=R)/\Vs h302 (aS c nU nR nu n4 n2 nr U R' X):=fun b hb=>by
  rw[V1.EO 1 rfl (by omega) (by omega),Int.toNat_natCast]
  refine V1.rG 1 rfl (by rw[dA];omega) rfl (dw _) fun h2 V2=>?_
  rw[du]at V2
  rw[cw (by omega) (by omega),cw (by omega) (by omega)]
  exact⟨_,by omega,i+1,R1.set i b,rfl,by omega,rfl,by simp[rl],le.set hb,fun e=>by simp[e]at hl,V2⟩
 cases g1:hasB R1 i
 ·simp only[PW,Qr]
  rw[fT,bE]
  simp only[Bool.false_eq_true,if_false,ab,true_and]
  exact fin false (fun h=>by cases h)
 simp only[PV]
 have em:(((n0+i:Nat):Int)).tmod (ms.length:Int)=(((n0+i) % ms.length:Nat):Int):=rfl
 have hmod:(n0+i) % ms.length<ms.length:=Nat.mod_lt _ (by omega)
 obtain⟨x,hx⟩:∃x,ms[(n0+i) % ms.length]?=some x:=⟨ms[(n0+i) % ms.length],List.getElem?_eq_getElem hmod⟩
 rw[br,List.length_map,Mg (by omega),em,KD (esz:=1) (d:=.int .u8 (x:Int)) (by omega) (by rw[Int.toNat_natCast,List.getElem?_map,hx];rfl) rfl,EN rfl,Mg (by omega),gj,fT,bE,if_pos rfl]
 simp only[ab,true_and]
 exact fin _ (fun _=>g1)
end
end Go.Am
namespace Go.Am
open Go Go.Proofs
theorem x8 {c:Code}(hc:cU c):(fo c).all (cL (zg c (fo c)) (xr c (fo c)))=true:=by
 rw[List.all_eq_true]
 intro r hr
 have ok:=zv hc r hr
 refine dM.2 fun hg=>?_
 have:=Gf.closed _ r hr ((ML ok.of).1 hg)
 exact⟨this.1,fun f hf=>(ML (ok.needs f hf)).2 (this.2 f hf)⟩
theorem Dr.le {c:Code}{U0 R0:List Bool}:Dr c fun U R=>Le U U0/\Le R R0:=fun U R r _ _ hp _ _ _=>by
 unfold ox
 split
 ·exact⟨hp.1.set fun h=>(by cases h),hp.2⟩
 ·exact⟨hp.1,hp.2.set fun h=>(by cases h)⟩
theorem Se {c:Code}(hc:cU c) (hD:F6 c){nr:Nat}(hr:c.regs=(nr:Int)){ms:List Nat}(hms:ms.length<=9223372036854775807){h:Heap}{L:LSq}{KH:HKq}(V:Vs h L)
  (hK:∀nU nR U R X h',U.length=c.b.length->R.length=nr->(fo c).all (cL U R)=true->Le U (zg c (fo c))->Le R (xr c (fo c))->Vs h' ((nR,.arr 1 (bL R))::(nU,.arr 1 (bL U))::(X++L))->KH (.agg [.ms nU 0 c.b.length,.ms nR 0 nr]) h'):ah PP p8 [c.e,oY ms] h KH:=by
 have hnb:=hc.g.nb
 have hrg:=hc.rg
 have hD0:=hD
 obtain⟨O,O',at',U,Dd⟩:=hD
 refine aL BI (aD _ _ _) rfl (Bx _ _ _) ?_
 unfold yu
 refine V.box c.db.one fun n3 h4 V4=>?_
 refine V4.alloc fun n5 h6 V6=>?_
 have ldE:∀{KH:HKq}{h:Heap}{M:LSq},Vs h M->(n3,Slot.box c.e)∈M->aa PP (.ld (.c (.ptr n3 0 0)) 8 true) h KH=KH c.e h:=fun {KH h M} V hm=>V.Ft (cs:=[.int .i64 c.group,.int .i64 c.sub,.int .i64 c.regs,.int .i64 c.slots,.int .i64 c.params,.sl (c.arrays.map uQ.e),.sl (c.loops.map Loop.e),.sl (c.b.map Block.e)]) hm rfl
 rw[ldE V6 (by simp)]
 refine NR hc hD0 hr V6 fun nU nR X1 h10 V10=>?_
 refine V10.alloc fun nu h12 V12=>?_
 refine V12.pV 0 rfl rfl rfl (fun x hx=>by simp at hx;rcases hx with rfl|rfl<;>rfl) fun h14 V14=>?_
 simp only[List.set_cons_zero]at V14
 replace V14:Vs h14 (aS c nU nR nu n5 n3 nr (zg c (fo c)) (xr c (fo c)) (X1++L)):=by
  refine V14.perm (.cons _ (.cons _ (.cons _ ?_)))
  exact List.perm_append_comm_assoc X1 [(n5,.box (.agg [.nil,.nil])),(n3,.box c.e)] L
 have lR:(xr c (fo c)).length=nr:=by rw[lX];omega
 rw[show ∀K:D->Prop,aG (oY ms) h14 K=K (.int .i64 (ms.length:Int)) from fun K=>by rw[oY,br,List.length_map],uS]
 refine⟨fun q h'=>∃(k:Nat) (U':List Bool),q=[nD k]/\k<=1000/\U'.length=c.b.length/\Le U' (zg c (fo c))/\(ms=[]->U'=zg c (fo c))/\Vs h' (aS c nU nR nu n5 n3 nr U' (xr c (fo c)) (X1++L)),?_,Un (by omega) lW hms V14 fun k h' U' hk ul le emp V'=>⟨k,U',rfl,hk,ul,le,emp,V'⟩⟩
 rintro f18 h19 ⟨k,U',hq,hk,ul,le,emp,V19⟩
 simp only[List.cons.injEq,and_true]at hq
 refine⟨fun _ h'=>∃(R':List Bool),R'.length=nr/\Le R' (xr c (fo c))/\(ms=[]->R'=xr c (fo c))/\Vs h' (aS c nU nR nu n5 n3 nr U' R' (X1++L)),?_,Uo (by omega) lR hms V19 hk hq fun h' R' rl le emp V'=>⟨R',rl,le,emp,V'⟩⟩
 rintro f21 h22 ⟨R',rl,leR,empR,V22⟩
 rw[ldE V22 (by simp[aS])]
 refine bT (Hf hc.g) (fun d hd=>by simp at hd;subst hd;exact c.db.pair) ?_
 rintro _ ⟨S,rfl,hS,hSk⟩
 have eS:=B4 hS hSk
 subst eS
 rw[ldE V22 (by simp[aS])]
 refine AO hc.g Dd V22 fun v X h30 V30 wX=>?_
 have V31:Vs h30 (aS c nU nR nu n5 n3 nr U' R' (X++(X1++L))):=by
  refine V30.perm ?_
  exact List.perm_append_comm_assoc X [(nu,.box (.agg [.ms nU 0 c.b.length,.ms nR 0 nr])),(nR,.arr 1 (bL R')),(nU,.arr 1 (bL U')),(n5,.box (.agg [.nil,.nil])),(n3,.box c.e)] (X1++L)
 refine⟨fun _ h'=>∃U2 R2,U2.length=c.b.length/\R2.length=nr/\(fo c).all (cL U2 R2)=true/\Le U2 (zg c (fo c))/\Le R2 (xr c (fo c))/\Vs h' (aS c nU nR nu n5 n3 nr U2 R2 (X++(X1++L))),?_,OZ hc hr Dr.le (wX.mono fun x hx=>by simp[hx]) ul (by omega) ⟨le,leR⟩ (fun ht=>?_) V31 fun h' U2 R2 ul2 rl2 p2 ck V'=>⟨U2,R2,ul2,by omega,ck,p2.1,p2.2,V'⟩⟩
 ·rintro f h24 ⟨U2,R2,ul2,rl2,ck,p1,p2,V24⟩
  rw[V24.lu 0 (s:=2) rfl rfl]
  refine V24.pV 3 rfl rfl rfl (fun x hx=>by simp at hx;rcases hx with rfl|rfl<;>rfl) fun h52 V52=>?_
  simp only[aS,List.set_cons_succ,List.set_cons_zero]at V52
  rw[V52.lu 3 (s:=2) rfl rfl]
  refine hK nU nR U2 R2 (X++X1) h52 ul2 rl2 ck p1 p2 ?_
  rw[List.append_assoc]
  exact V52.sub (.cons _ (.cons_cons _ (.cons_cons _ (.cons _ (.cons _ (.refl _))))))
 ·have e0:ms=[]:=by
   have:=of_decide_eq_false ht
   exact List.length_eq_zero_iff.1 (by omega)
  rw[emp e0,empR e0]
  exact x8 hc
end Go.Am
namespace Go.Am
open Go Go.Proofs
theorem PI {c:Code}{f:FuncId}{h:Heap}{L:LSq}{KH:HKq}{vU vR r:D}{U R:List Bool}(V:Vs h L) (wU:BW L vU U) (wR:BW L vR R) (hv:aU PP f [c.e,uE U R] (· = r)) (hf:r.flat=true) (hK:KH r h):ah PP f [c.e,.agg [vU,vR]] h KH:=by
 obtain⟨f1,f2,f3⟩:=T4 V wU wR
 obtain⟨g1,g2,g3⟩:=sj (h:=h) c.db.pair.1
 refine ah.mono ?_ (dB (K:=(· = r)) ?_ ?_)
 ·rintro d h' ⟨rfl,h2,-⟩
  rw[h2 (Or.inl hf)];exact hK
 ·simp only[List.map_cons,List.map_nil,f1,g1]
  exact hv
 ·intro d hd
  simp at hd
  rcases hd with rfl|rfl
  ·exact⟨c.db.pair.2,g3,by rw[g1];exact c.db.pair.1⟩
  ·exact⟨f2,f3,by rw[f1];exact FL.pair.1⟩
theorem Dx {c:Code}(hc:cU c){h:Heap}{L:LSq}{KH:HKq}{vU vR:D}{U R:List Bool}(V:Vs h L) (wU:BW L vU U) (wR:BW L vR R) (hK:KH (.int .i64 (if jh c U R then 0 else 100)) h):ah PP bn [c.e,.agg [vU,vR]] h KH :=
 PI V wU wR (FQ hc (Or.inl rfl) (Or.inl rfl)) rfl hK
theorem Dh {c:Code}{U R:List Bool}(h1:U.length=c.b.length) (h2:(R.length:Int)=c.regs) (h3:(fo c).all (cL U R)=true):jh c U R=true:=by
 unfold jh;rw[h3,decide_eq_true h1,decide_eq_true h2];rfl
structure Sh (A B C:List Bool) (i:Nat):Prop where
 len:C.length=A.length
 el:∀k,k<A.length->hasB C k=(hasB A k||(decide (k<i)&&hasB B k))
theorem Sh.zero {A B:List Bool}:Sh A B A 0:=⟨rfl,fun k hk=>by simp⟩
theorem Sh.set {A B C:List Bool}{i:Nat}(o:Sh A B C i) (hi:i<A.length):Sh A B (C.set i (hasB C i||hasB B i)) (i+1):=by
 refine⟨by rw[List.length_set,o.len],fun k hk=>?_⟩
 have e:hasB (C.set i (hasB C i||hasB B i)) k=if k=i then(hasB C i||hasB B i) else hasB C k:=by
  unfold hasB
  rw[List.getElem?_set]
  by_cases h:i=k
  ·subst h;simp[o.len,hi]
  ·rw[if_neg h,if_neg (Ne.symm h)]
 rw[e]
 by_cases h:k=i
 ·subst h;rw[if_pos rfl,o.el k hk];simp
 ·rw[if_neg h,o.el k hk]
  congr 2
  exact decide_eq_decide.2 (by omega)
theorem Sh.all {A B C:List Bool}(o:Sh A B C A.length) (hb:B.length=A.length) (k:Nat):hasB C k=true↔hasB A k=true\/hasB B k=true:=by
 by_cases hk:k<A.length
 ·rw[o.el k hk,decide_eq_true hk];simp
 ·have:∀{X:List Bool},X.length=A.length->hasB X k=false:=fun h=>by unfold hasB;rw[List.getElem?_eq_none (by omega)];rfl
  rw[this o.len,this rfl,this hb];simp
end Go.Am
namespace Go.Am
open Go Go.Proofs
set_option maxRecDepth 100000
theorem SV {h:Heap}{L:LSq}{U R:List Bool}{nU nR a b:Nat}{K:D->Prop}(ha:a=U.length) (hb:b=R.length) (V:Vs h ((nR,.arr 1 (bL R))::(nU,.arr 1 (bL U))::L)) (hK:K (uE U R)):sh K (.agg [.ms nU 0 a,.ms nR 0 b]) h:=by
 subst ha;subst hb
 have e1:(h nU).row=some (1,bL U):=by rw[V.get 1 _ _ rfl];rfl
 have e2:(h nR).row=some (1,bL R):=by rw[V.get 0 _ _ rfl];rfl
 have bv:∀(S:List Bool) x,x∈bL S->∀y∈x.cells,y.vone=true:=fun S x hx y hy=>by
  simp only[bL,List.mem_map]at hx;obtain⟨b,-,rfl⟩:=hx
  simp[D.cells]at hy;subst hy;rfl
 have ef:(D.agg [.ms nU 0 U.length,.ms nR 0 R.length]).fzt h=uE U R:=by
  simp only[D.fzt,D.fz,D.fzc,List.map_cons,List.map_nil,e1,e2,List.drop_zero]
  rw[List.take_of_length_le (by rw[dA];omega),List.take_of_length_le (by rw[dA];omega)];rfl
 refine⟨fun x hx=>?_,fun x hx=>?_,?_,?_⟩
 ·simp[D.cells]at hx;rcases hx with rfl|rfl<;>rfl
 ·simp[D.cells]at hx
  rcases hx with rfl|rfl
  ·exact⟨1,_,e1,by rw[dA];omega,fun x hx y hy=>bv _ x (List.mem_of_mem_drop (List.mem_of_mem_take hx)) y hy⟩
  ·exact⟨1,_,e2,by rw[dA];omega,fun x hx y hy=>bv _ x (List.mem_of_mem_drop (List.mem_of_mem_take hx)) y hy⟩
 ·rw[ef];rfl
 ·rw[ef];exact hK
theorem TE {c:Code}{nr:Nat}(hr:c.regs=(nr:Int)) (hn:c.b.length<=1000/\nr<=1000){t:Bool}:aU PP fR [c.e,.bool t] (· = uE (List.replicate c.b.length t) (List.replicate nr t)):=by
 refine bp tN (aD _ _ _) rfl (te _ _ _) (PU hr hn Vs.nil fun nU nR h' V=>?_)
 exact SV (by simp) (by simp) V rfl
def TJ (len esz:Nat) (ps:List (Nat×Arg)) (z:D):Bool:=(ps.all fun p=>decide (p.1<len)&&decide ((p.2.get []).cells.length=esz)&&((p.2.get []).cells.all fun y=>y.one&&y.vone))&&z.cells.all D.vone
theorem FN {fz:Bool}{esz len:Nat}{z r:D}{ps:List (Nat×Arg)}{h:Heap}{K:D->Prop}(hb:TJ len esz ps z=true) (hr:.sl (setEls (List.replicate len z) (ps.map fun p=>(p.1,p.2.get [])))=r) (hk:K r):ae PP (.bldS fz esz len z ps) h K:=by
 unfold TJ at hb
 simp only[Bool.and_eq_true,List.all_eq_true,decide_eq_true_eq]at hb
 obtain⟨h1,h2⟩:=hb
 refine⟨fun p hp=>?_,fun p hp=>?_,h2,by rw[hr];exact hk⟩
 ·simp only[List.mem_map]at hp
  obtain⟨q,hq,rfl⟩:=hp
  exact⟨(h1 q hq).1.1,(h1 q hq).1.2,fun y hy=>((h1 q hq).2 y hy).1⟩
 ·simp only[List.mem_map]at hp
  obtain⟨q,hq,rfl⟩:=hp
  exact fun y hy=>((h1 q hq).2 y hy).2
theorem Vs.TK {h:Heap}{L:LSq}{KH:HKq}(V:Vs h L){a b c d e:Bool}{z:D}(hK:∀n h',Vs h' ((n,.arr 1 (bL [a,b,c,d,e]))::L)->KH (.ms n 0 5) h'):aa PP (.bldS true 1 5 z [(0,.c (.bool a)),(1,.c (.bool b)),(2,.c (.bool c)),(3,.c (.bool d)),(4,.c (.bool e))]) h KH:=by
 refine⟨fun p hp=>?_,fun _ p hp=>?_,fun n t=>?_⟩
 ·simp[Arg.get]at hp
  rcases hp with rfl|rfl|rfl|rfl|rfl<;>exact⟨by simp,rfl,fun x hx=>by simp[D.cells]at hx;subst hx;rfl⟩
 ·simp[Arg.get]at hp
  rcases hp with rfl|rfl|rfl|rfl|rfl<;>exact fun x hx=>by simp[D.cells]at hx;subst hx;trivial
 ·have:=hK n _ (V.push t.free (s:=.arr 1 (bL [a,b,c,d,e])) (by simp))
  simpa[Arg.get,setEls,D.fz,D.fzc,D.nm,D.jA,Heap.freezeAll,bL,List.replicate] using this
theorem JN {h:Heap}{L:LSq}{KH:HKq}{A B:List Bool}{n k:Nat}(V:Vs h L) (hm:(n,Slot.arr 1 (bL B))∈L) (hk:k=B.length) (hl:A.length<=1000000) (hK:KH (.bool (decide (A=B))) h):ah PP dS [.sl (bL A),.ms n 0 k] h KH:=by
 subst hk
 have e2:(h n).row=some (1,bL B):=by rw[V.mem hm];rfl
 have f2:(D.ms n 0 B.length).fz h=.sl (bL B):=by
  simp only[D.fz,D.fzc,e2,List.drop_zero]
  rw[List.take_of_length_le (by rw[dA];omega)]
 obtain⟨g1,g2,g3⟩:=sj (h:=h) (d:=.sl (bL A)) kT.pair.1
 refine ah.mono ?_ (dB (K:=(· = .bool (decide (A=B)))) ?_ ?_)
 ·rintro d h' ⟨rfl,h2,-⟩
  rw[h2 (Or.inl rfl)];exact hK
 ·simp only[List.map_cons,List.map_nil,f2,g1]
  exact He hl
 ·intro d hd
  simp at hd
  rcases hd with rfl|rfl
  ·exact⟨kT.pair.2,g3,by rw[g1];exact kT.pair.1⟩
  ·refine⟨fun x hx=>by simp[D.cells]at hx;subst hx;rfl,fun x hx=>?_,by rw[f2];exact kT.pair.1⟩
   simp[D.cells]at hx;subst hx
   refine⟨1,_,e2,by rw[dA];omega,fun x hx y hy=>?_⟩
   have:=List.mem_of_mem_drop (List.mem_of_mem_take hx)
   simp only[bL,List.mem_map]at this
   obtain⟨b,-,rfl⟩:=this
   simp[D.cells]at hy;subst hy;rfl
def Qg (B:Block):D:=.agg (.nil::B.t.cs)
def O9:D:=.agg [.int .i64 4,.int .i64 1,.int .i64 5,.int .i64 0,.int .i64 0,.nil,.nil,.sl [w6.e,zW.e,Qg zV,Da.e,Qg Ee]]
theorem KU:aU PP kQ [] (· = O9):=by
 refine bp xm (aD _ _ _) rfl (xe _) ?_
 unfold qR
 have reg:∀{n:Int}{h:Heap}{K:D->Prop},K (eM n).e->ae PP (.call bm [.c (.int .i64 n)]) h K:=fun {n h K} hk=>zY (r:=(eM n).e) pn (fun d hd=>by simp[Arg.get]at hd;subst hd;exact aO.pair) hk
 have cst:∀{n:Int}{h:Heap}{K:D->Prop},K (Const n).e->ae PP (.call cu [.c (.int .i32 n)]) h K:=fun {n h K} hk=>zY (r:=(Const n).e) qu (fun d hd=>by simp[Arg.get]at hd;subst hd;exact aO.pair) hk
 refine Vs.nil.alloc fun n1 h2 V2=>?_
 rw[fS rfl,fS rfl]
 refine V2.alloc fun n7 h8 V8=>?_
 refine V8.pV (cs':=(⟨1,0,aj,aj,aj,2,0⟩:Term).cs) 0 rfl rfl rfl (fun y hy=>(⟨1,0,aj,aj,aj,2,0⟩:Term).db.one y hy) fun h10 V10=>?_
 simp only[List.set_cons_zero]at V10
 refine bT pn (fun d hd=>by simp at hd;subst hd;exact aO.pair) ?_
 rintro _ rfl
 rw[fS rfl]
 refine V10.alloc fun n15 h16 V16=>?_
 refine V16.pV (cs':=(⟨5,2,0,eM 0,aj,aj,aj⟩:aP).cs) 0 rfl rfl rfl (fun y hy=>(⟨5,2,0,eM 0,aj,aj,aj⟩:aP).db.one y hy) fun h18 V18=>?_
 simp only[List.set_cons_zero]at V18
 refine bT pn (fun d hd=>by simp at hd;subst hd;exact aO.pair) ?_
 rintro _ rfl
 rw[fS rfl]
 refine V18.alloc fun n23 h24 V24=>?_
 refine V24.pV (cs':=(⟨5,3,0,eM 1,aj,aj,aj⟩:aP).cs) 0 rfl rfl rfl (fun y hy=>(⟨5,3,0,eM 1,aj,aj,aj⟩:aP).db.one y hy) fun h26 V26=>?_
 simp only[List.set_cons_zero]at V26
 rw[V26.yd 1 (s:=15) rfl rfl,V26.yd 0 (s:=15) rfl rfl]
 refine FN (r:=.sl (w6.i.map aP.e)) rfl rfl ?_
 refine reg ?_
 rw[dq rfl,dq rfl,dq rfl]
 refine reg (cst ?_)
 rw[dq rfl]
 refine FN (r:=.sl (zW.i.map aP.e)) rfl rfl ?_
 rw[V26.yd 2 (s:=13) rfl rfl,dq rfl]
 refine reg ?_
 rw[dq rfl,dq rfl,dq rfl]
 refine reg (reg ?_)
 rw[dq rfl]
 refine FN (r:=.sl (Da.i.map aP.e)) rfl rfl ?_
 rw[dq rfl,dq rfl,dq rfl,dq rfl,dq rfl]
 refine FN (r:=.sl [w6.e,zW.e,Qg zV,Da.e,Qg Ee]) rfl rfl ?_
 rw[dq rfl]
 refine V26.pV (cs':=[.int .i64 4,.int .i64 1,.int .i64 5,.int .i64 0,.int .i64 0,.nil,.nil,.sl [w6.e,zW.e,Qg zV,Da.e,Qg Ee]]) 3 rfl rfl rfl (fun y hy=>by simp at hy;rcases hy with rfl|rfl|rfl|rfl|rfl|rfl|rfl<;>rfl) fun h56 V56=>?_
 simp only[List.set_cons_succ,List.set_cons_zero]at V56
 rw[V56.lu 3 (s:=8) rfl rfl]
 exact⟨fun y hy=>by simp[D.cells]at hy;rcases hy with rfl|rfl|rfl|rfl|rfl|rfl|rfl<;>rfl,fun y hy=>by simp[D.cells]at hy;rcases hy with rfl|rfl|rfl|rfl|rfl|rfl|rfl<;>trivial,rfl,rfl⟩
theorem Tk:La [O9] [ek.e]:=by
 have nb:∀t:Term,Wk (.agg (.nil::t.cs)) (.agg (.sl []::t.cs)):=fun t=>.agg _ _ rfl fun i x y h1 h2=>by
  cases i with
  | zero=>cases h1;cases h2;exact .nil
  | succ i=>rw[List.getElem?_cons_succ]at h1 h2;rw[h1]at h2;cases h2;exact .refl _
 refine .cons (.agg _ _ rfl fun i x y h1 h2=>?_) .nil
 match i with
 | 0|1|2|3|4=>cases h1;cases h2;exact .refl _
 | 5|6=>cases h1;cases h2;exact .nil
 | 7 =>
  cases h1;cases h2
  refine .sl _ _ rfl fun i x y h1 h2=>?_
  match i with
  | 0|1|3=>cases h1;cases h2;exact .refl _
  | 2|4=>cases h1;cases h2;exact nb _
  | i+5=>cases h1
 | i+8=>cases h1
theorem M6 {d:D}:La [O9,d] [ek.e,d]:=by
 have:=Tk
 cases this with
 | cons h k=>exact .cons h (.cons (.refl _) .nil)
theorem yc:xo O9:=fJ (by simp[D.vone])
theorem O7:jh ek [true,true,true,true,true] [true,true,true,true,true]=false:=by
 cases h:jh ek [true,true,true,true,true] [true,true,true,true,true]
 ·rfl
 ·exfalso
  unfold jh at h
  simp only[Bool.and_eq_true,List.all_eq_true]at h
  obtain⟨r,hr,ho,hv⟩:=GZ
  have:=(dM.1 (h.2 r hr) (by rw[ho];rfl)).1
  rw[hv]at this;cases this
theorem O8:jh ek [false,false,false,false,false] [false,false,false,false,false]=true:=by
 unfold jh
 have:(fo ek).all (cL [false,false,false,false,false] [false,false,false,false,false])=true:=by
  rw[List.all_eq_true]
  refine fun r hr=>dM.2 fun hg=>?_
  exfalso
  unfold fM xF at hg
  have key:∀k,hasB [false,false,false,false,false] k=false:=fun k=>by
   unfold hasB
   match k with
   | 0|1|2|3|4=>rfl
   | k+5=>rfl
  split at hg<;>rw[key]at hg<;>cases hg
 rw[this];rfl
theorem Hc:aU PP jK [] (· = .bool true):=by
 refine bp tS (aD _ _ _) rfl (tm _) ?_
 unfold nM
 refine bT KU (fun d hd=>by simp at hd) ?_
 rintro _ rfl
 refine Vs.nil.alloc fun n3 h4 V4=>?_
 refine V4.pV 0 rfl rfl rfl (fun y hy=>yc.one y hy) fun h6 V6=>?_
 simp only[List.set_cons_zero]at V6
 rw[V6.lu 0 (s:=8) rfl rfl,show D.agg [.int .i64 4,.int .i64 1,.int .i64 5,.int .i64 0,.int .i64 0,.nil,.nil,.sl [w6.e,zW.e,Qg zV,Da.e,Qg Ee]]=O9 from rfl]
 refine bT (aU.arg Tk (Nv EM)) (fun d hd=>by simp at hd;subst hd;exact yc.pair) ?_
 rintro _ ⟨rfl,hD⟩
 unfold uF
 rw[To hD,Tp hD]
 refine V6.alloc fun n11 h12 V12=>?_
 refine V12.pV 0 rfl rfl rfl (fun y hy=>FL.one y hy) fun h14 V14=>?_
 simp only[List.set_cons_zero]at V14
 have l3:∀{K:D->Prop},ae PP (.ld (.c (.ptr n3 0 0)) 8 true) h14 K=K O9:=fun {K}=>V14.yd 1 (s:=8) rfl rfl
 have chk:∀{U R:List Bool}{K:D->Prop},K (.int .i64 (if jh ek U R then 0 else 100))->ae PP (.call bn [.c O9,.c (uE U R)]) h14 K:=fun {U R K} hk =>
  zY (r:=.int .i64 (if jh ek U R then 0 else 100)) (aU.arg M6 (FQ EM (Or.inl rfl) (Or.inl rfl))) (fun d hd=>by simp[Arg.get]at hd;rcases hd with rfl|rfl;exact yc.pair;exact FL.pair) hk
 have chkN:∀{K:D->Prop},K (.int .i64 (if jh ek [] [] then 0 else 100))->ae PP (.call bn [.c O9,.c (.agg [.nil,.nil])]) h14 K:=fun {K} hk =>
  zY (r:=.int .i64 (if jh ek [] [] then 0 else 100)) (aU.arg M6 (FQ EM (Or.inr ⟨rfl,rfl⟩) (Or.inr ⟨rfl,rfl⟩))) (fun d hd=>by simp[Arg.get]at hd;rcases hd with rfl|rfl;exact yc.pair;exact(fJ (by simp[D.vone])).pair) hk
 have all:∀{t:Bool}{K:D->Prop},K (uE [t,t,t,t,t] [t,t,t,t,t])->ae PP (.call fR [.c O9,.c (.bool t)]) h14 K:=fun {t K} hk =>
  zY (r:=uE [t,t,t,t,t] [t,t,t,t,t]) (aU.arg M6 (TE (c:=ek) (nr:=5) rfl ⟨by decide,by decide⟩)) (fun d hd=>by simp[Arg.get]at hd;rcases hd with rfl|rfl;exact yc.pair;exact Nd.pair) hk
 have hk:=x8 EM
 rw[To hD,Tp hD]at hk
 rw[l3,V14.yd 0 (s:=2) rfl rfl]
 refine chk (U:=[true,false,true,true,true]) (R:=[false,true,false,true,true]) ?_
 rw[Dh rfl rfl hk,if_pos rfl,gj,decide_eq_true rfl]
 simp only[IQ,Bool.not_true]
 rw[l3,l3]
 refine all ?_
 refine chk ?_
 rw[O8,if_pos rfl,gj,decide_eq_true rfl,fT,bE]
 simp only[IQ,Bool.not_true,Bool.false_eq_true,if_false]
 rw[l3,l3]
 refine all ?_
 refine chk ?_
 rw[O7]
 simp only[Bool.false_eq_true,if_false]
 rw[gj,decide_eq_true rfl,fT,bE]
 simp only[IQ,Bool.not_true,Bool.false_eq_true,if_false]
 rw[l3,dq rfl]
 refine chkN ?_
 rw[show jh ek [] []=false from rfl]
 simp only[Bool.false_eq_true,if_false]
 rw[gj,decide_eq_true rfl,fT,bE]
 simp only[Bool.not_true,Bool.false_eq_true,if_false]
 rw[af,V14.fa 0 rfl,V14.b9 0 (j:=0+0) rfl rfl]
 refine V14.TK fun n82 h83 V83=>?_
 refine JN V83 (B:=[true,false,true,true,true]) (by simp) rfl (by decide) ?_
 rw[decide_eq_true rfl]
 simp only[gD,Bool.not_false,Bool.not_true,Bool.false_eq_true,if_true,if_false]
 rw[V83.fa 1 rfl,V83.b9 1 (j:=0+1) rfl rfl]
 refine V83.TK fun n99 h100 V100=>?_
 refine JN V100 (B:=[false,true,false,true,true]) (by simp) rfl (by decide) ?_
 rw[decide_eq_true rfl]
 first|rw[bo]|(simp only[gD,if_true];rw[bo])
end Go.Am
namespace Go.Am
open Go Go.Proofs
theorem Nt {A B:List Bool}(hle:Le A B) (hl:A.length=B.length) (hb:B.length<=1000000):aU PP fQ [.sl (bL A),.sl (bL B)] (· = .bool true):=by
 refine bp yW (aD _ _ _) rfl (yt _ _ _) ?_
 unfold s9
 refine⟨fun _ _=>True,?_,?_⟩
 ·rintro f h' -
  rw[br,br,dA,dA,hl,bY,decide_eq_true rfl,bo]
 unfold nH
 refine⟨fun m q _=>∃k:Nat,q=[nD k]/\k<=A.length/\m=A.length-k,_,⟨0,rfl,by omega,rfl⟩,?_⟩
 rintro m f h1 ⟨k,hq,hk,hm⟩
 simp only[List.cons.injEq,and_true]at hq
 rw[hq,br,dA]
 by_cases hlt:¬k<A.length
 ·rw[nD,kp (by omega),af]
  simp only[ab,true_and]
 replace hlt:k<A.length:=Decidable.not_not.1 hlt
 have go:∃m',m'<m/\∃k':Nat,[D.int .i64 ((k:Int)+1)]=[nD k']/\k'<=A.length/\m'=A.length-k':=⟨_,by omega,k+1,rfl,by omega,rfl⟩
 rw[nD,kN (by omega),ag,kM (esz:=1) (d:=.bool (hasB A k)) (by omega) (by rw[Int.toNat_natCast];exact ca (aR hlt)) rfl,rP rfl]
 cases g1:hasB A k
 ·simp only[gD,Bool.not_false,Bool.not_true,Bool.false_eq_true,if_true,if_false]
  rw[af,cw (by omega) (by omega)]
  simp only[ab,true_and]
  exact go
 simp only[gD,Bool.not_false,Bool.not_true,Bool.false_eq_true,if_true,if_false]
 rw[br,dA,Ax,decide_eq_false (by omega)]
 simp only[gD,Bool.not_false,Bool.not_true,Bool.false_eq_true,if_true,if_false]
 rw[kM (esz:=1) (d:=.bool (hasB B k)) (by omega) (by rw[Int.toNat_natCast];exact ca (aR (by omega))) rfl,rP rfl,hle k g1,cD]
 simp only[gD,Bool.not_false,Bool.not_true,Bool.false_eq_true,if_true,if_false]
 rw[af,cw (by omega) (by omega)]
 simp only[ab,true_and]
 exact go
theorem HD {h:Heap}{L:LSq}{KH:HKq}{A B:List Bool}{n k:Nat}(V:Vs h L) (hm:(n,Slot.arr 1 (bL A))∈L) (hk:k=A.length) (hle:Le A B) (hl:A.length=B.length) (hb:B.length<=1000000) (hK:KH (.bool true) h):ah PP fQ [.ms n 0 k,.sl (bL B)] h KH:=by
 subst hk
 have e2:(h n).row=some (1,bL A):=by rw[V.mem hm];rfl
 have f2:(D.ms n 0 A.length).fz h=.sl (bL A):=by
  simp only[D.fz,D.fzc,e2,List.drop_zero]
  rw[List.take_of_length_le (by rw[dA];omega)]
 obtain⟨g1,g2,g3⟩:=sj (h:=h) (d:=.sl (bL B)) kT.pair.1
 refine ah.mono ?_ (dB (K:=(· = .bool true)) ?_ ?_)
 ·rintro d h' ⟨rfl,h2,-⟩
  rw[h2 (Or.inl rfl)];exact hK
 ·simp only[List.map_cons,List.map_nil,f2,g1]
  exact Nt hle hl hb
 ·intro d hd
  simp at hd
  rcases hd with rfl|rfl
  ·refine⟨fun x hx=>by simp[D.cells]at hx;subst hx;rfl,fun x hx=>?_,by rw[f2];exact kT.pair.1⟩
   simp[D.cells]at hx;subst hx
   refine⟨1,_,e2,by rw[dA];omega,fun x hx y hy=>?_⟩
   have:=List.mem_of_mem_drop (List.mem_of_mem_take hx)
   simp only[bL,List.mem_map]at this
   obtain⟨b,-,rfl⟩:=this
   simp[D.cells]at hy;subst hy;rfl
  ·exact⟨kT.pair.2,g3,by rw[g1];exact kT.pair.1⟩
theorem Nf {c:Code}(hc:cU c){A B:List Bool}(h:jh c A B=true){f:Fa}(hf:Ak c.b.length c.regs f) (hg:fM A B f=true):Gf (fo c) f:=by
 unfold jh at h
 simp only[Bool.and_eq_true,List.all_eq_true]at h
 refine⟨fun f=>Ak c.b.length c.regs f/\fM A B f=true,fun r hr ⟨_,hg⟩=>?_,hf,hg⟩
 obtain⟨h1,h2⟩:=dM.1 (h.2 r hr) hg
 exact⟨h1,fun f hf=>⟨(zv hc r hr).needs f hf,h2 f hf⟩⟩
theorem Et {L:List Bool}{k:Nat}(h:hasB L k=true):L.set k true=L:=by
 refine pf (by simp) fun i hi=>?_
 rw[List.length_set]at hi
 have hk:k<L.length:=by
  unfold hasB at h
  by_cases hk:k<L.length
  ·exact hk
  ·rw[List.getElem?_eq_none (by omega)]at h;cases h
 rw[aT hk]
 by_cases e:i=k
 ·subst e;simp[h]
 ·simp[e]
theorem Ra {c:Code}(hc:cU c){k:Nat}(hk:k<c.b.length):jh c ((zg c (fo c)).set k true) (xr c (fo c))=hasB (zg c (fo c)) k:=by
 have hrg:=hc.rg
 cases h:hasB (zg c (fo c)) k
 ·cases h2:jh c ((zg c (fo c)).set k true) (xr c (fo c))
  ·rfl
  ·exfalso
   have:=Nf hc h2 (f:=oS k) ⟨by simp[oS],fun _=>by simp[oS];omega,fun h=>by cases h⟩ (by
    show hasB ((zg c (fo c)).set k true) ((k:Int)).toNat=true
    rw[Int.toNat_natCast,aT (by rw[lW];exact hk)];simp)
   rw[(B7 hk).2 this]at h;cases h
 ·rw[Et h]
  exact Dh lW (by rw[lX];omega) (x8 hc)
theorem Rb {c:Code}(hc:cU c){k:Nat}(hk:(k:Int)<c.regs):jh c (zg c (fo c)) ((xr c (fo c)).set k true)=hasB (xr c (fo c)) k:=by
 have hrg:=hc.rg
 cases h:hasB (xr c (fo c)) k
 ·cases h2:jh c (zg c (fo c)) ((xr c (fo c)).set k true)
  ·rfl
  ·exfalso
   have:=Nf hc h2 (f:=pW k) ⟨by simp[pW],fun h=>by(cases h),fun _=>by simp[pW];omega⟩ (by
    show hasB ((xr c (fo c)).set k true) ((k:Int)).toNat=true
    rw[Int.toNat_natCast,aT (by rw[lX];omega)];simp)
   rw[(B8 (by omega)).2 this]at h;cases h
 ·rw[Et h]
  exact Dh lW (by rw[lX];omega) (x8 hc)
theorem UD {P:Program}{b:Bool}{h:Heap}{KH:HKq}:aa P (.eqv false false [.b] (.c (.bool b)) (.c (.bool b))) h KH=KH (.bool true) h:=by
 rw[MK];cases b<;>simp[veqv,eqCells,D.cells,D.isAgg]
theorem Fu {bs xs:List Nat}(hb:∀b∈bs,b<=255) (hl:bs.length<=9223372036854775807) (hx:xs.length<=9223372036854775807){n:Nat}(hn:n<=255):aU PP iu [zy bs,oY xs,.int .u8 (n:Int)] (· = .bool true):=by
 refine bp m6 (aD _ _ _) rfl (mL _ _ _ _) ?_
 unfold iD
 refine Vs.nil.box (Jg bs).one fun n4 h5 V5=>?_
 refine bT Hc (fun d hd=>by simp at hd) ?_
 rintro _ rfl
 rw[cD,Bool.not_true,af,V5.lu 0 (s:=1) (cs:=[oY bs]) rfl rfl]
 refine bT (RT hb hl) (fun d hd=>by simp at hd;subst hd;exact(Jg bs).pair) ?_
 rintro _ ⟨c,hc,rfl⟩
 have hnb:=hc.nb
 have hrg:=hc.u.rg
 obtain⟨nr,hnr⟩:∃nr:Nat,c.regs=(nr:Int):=⟨c.regs.toNat,by omega⟩
 let cs:List D:=[.int .i64 c.group,.int .i64 c.sub,.int .i64 c.regs,.int .i64 c.slots,.int .i64 c.params,.sl (c.arrays.map uQ.e),.sl (c.loops.map Loop.e),.sl (c.b.map Block.e)]
 refine V5.alloc fun n13 h14 V14=>?_
 refine V14.pV (cs':=cs) 0 rfl rfl rfl (fun y hy=>c.db.one y hy) fun h16 V16=>?_
 simp only[List.set_cons_zero]at V16
 have ldE:∀{KH:HKq}{h:Heap}{M:LSq},Vs h M->(n13,Slot.box (.agg cs))∈M->aa PP (.ld (.c (.ptr n13 0 0)) 8 true) h KH=KH c.e h:=fun {KH h M} V hm=>V.Ft (cs:=cs) hm rfl
 rw[ldE V16 (by simp)]
 refine bT (Nv hc.u) (fun d hd=>by simp at hd;subst hd;exact c.db.pair) ?_
 rintro _ ⟨rfl,hD⟩
 obtain⟨U,eU⟩:∃U,U=zg c (fo c):=⟨_,rfl⟩
 obtain⟨R,eR⟩:∃R,R=xr c (fo c):=⟨_,rfl⟩
 have mU:=fun {k}=>Ra hc.u (k:=k)
 have mR:=fun {k}=>Rb hc.u (k:=k)
 have kU:=x8 hc.u
 have lU:U.length=c.b.length:=by rw[eU,lW]
 have lR:R.length=nr:=by rw[eR,lX];omega
 unfold uF
 rw[<- eU, <- eR]at mU mR kU ⊢
 refine V16.alloc fun n21 h22 V22=>?_
 refine V22.pV 0 rfl rfl rfl (fun y hy=>FL.one y hy) fun h24 V24=>?_
 simp only[List.set_cons_zero]at V24
 rw[ldE V24 (by simp)]
 refine Se hc.u hD hnr hx V24 fun nU nR U2 R2 X h28 ul rl ck le1 le2 V28=>?_
 rw[<- eU]at le1
 rw[<- eR]at le2
 refine V28.alloc fun n29 h30 V30=>?_
 refine V30.pV 0 rfl rfl rfl (fun x hx=>by simp at hx;rcases hx with rfl|rfl<;>rfl) fun h32 V32=>?_
 simp only[List.set_cons_zero]at V32
 obtain⟨L,hL⟩:∃L,L=(n29,Slot.box (.agg [.ms nU 0 c.b.length,.ms nR 0 nr]))::(nR,.arr 1 (bL R2))::(nU,.arr 1 (bL U2))::(X++[(n21,.box (.agg [.sl (bL U),.sl (bL R)])),(n13,.box (.agg cs)),(n4,.box (zy bs))]):=⟨_,rfl⟩
 have V33:Vs h32 L:=by rw[hL];exact V32
 have m13:(n13,Slot.box (.agg cs))∈L:=by simp[hL]
 have m21:(n21,Slot.box (.agg [.sl (bL U),.sl (bL R)]))∈L:=by simp[hL]
 have m29:(n29,Slot.box (.agg [.ms nU 0 c.b.length,.ms nR 0 nr]))∈L:=by simp[hL]
 have mnU:(nU,Slot.arr 1 (bL U2))∈L:=by simp[hL]
 have mnR:(nR,Slot.arr 1 (bL R2))∈L:=by simp[hL]
 rw[ldE V33 m13,V33.Ft (s:=2) m21 rfl]
 refine Dx hc.u V33 (U:=U) (R:=R) (Or.inl rfl) (Or.inl rfl) ?_
 rw[Dh lU (by omega) kU,if_pos rfl,gj,decide_eq_true rfl]
 simp only[gD,Bool.not_false,Bool.not_true,Bool.false_eq_true,if_true,if_false]
 rw[ldE V33 m13,V33.Ft (s:=2) m29 rfl]
 refine Dx hc.u V33 (U:=U2) (R:=R2) (Or.inr ⟨nU,by rw[ul],mnU⟩) (Or.inr ⟨nR,by rw[rl],mnR⟩) ?_
 rw[Dh ul (by omega) ck,if_pos rfl,gj,decide_eq_true rfl]
 simp only[gD,Bool.not_false,Bool.not_true,Bool.false_eq_true,if_true,if_false]
 rw[V33.EI m29,V33.pe (j:=0) m29 rfl,V33.EI m21,V33.pe (j:=0) m21 rfl]
 refine HD V33 mnU (by rw[ul]) le1 (by omega) (by omega) ?_
 rw[cD]
 simp only[gD,Bool.not_false,Bool.not_true,Bool.false_eq_true,if_true,if_false]
 rw[V33.EI m29,V33.pe (j:=1) m29 rfl,V33.EI m21,V33.pe (j:=1) m21 rfl]
 refine HD V33 mnR (by rw[rl]) le2 (by omega) (by omega) ?_
 rw[cD]
 simp only[gD,Bool.not_false,Bool.not_true,Bool.false_eq_true,if_true,if_false]
 rw[af,V33.Ft (s:=2) m21 rfl]
 refine PM V33 (U:=U) (R:=R) (Or.inl rfl) (Or.inl rfl) (by omega) (by omega) fun pU pR h126 V126=>?_
 rw[lU,lR]
 refine V126.alloc fun n127 h128 V128=>?_
 refine V128.pV 0 rfl rfl rfl (fun x hx=>by simp at hx;rcases hx with rfl|rfl<;>rfl) fun h130 V130=>?_
 simp only[List.set_cons_zero]at V130
 obtain⟨M,hM⟩:∃M:List Bool->List Bool->LSq,M=fun A B=>(n127,Slot.box (.agg [.ms pU 0 c.b.length,.ms pR 0 nr]))::(pR,.arr 1 (bL B))::(pU,.arr 1 (bL A))::L:=⟨_,rfl⟩
 have V131:Vs h130 (M U R):=by rw[hM];exact V130
 have hML:∀{A B:List Bool}{x},x∈L->x∈M A B:=fun hx=>by rw[hM];simp[hx]
 have m21':=fun {A B:List Bool}=>hML (A:=A) (B:=B) m21
 have wn:IntKind.i64.wrap (n:Int)=(n:Int):=wrap64 (by omega) (by omega)
 have len:∀{S:List Bool}{h:Heap}{K:D->Prop},aG (.sl (bL S)) h K=K (.int .i64 (S.length:Int)):=fun {S h K}=>by rw[br,dA]
 rw[oE,wn,V131.EI m21',V131.pe (j:=0) m21' rfl,len,V131.EI m21',V131.pe (j:=1) m21' rfl,len,cw (by omega) (by omega),cI]
 refine⟨by omega,?_⟩
 rw[show((U.length:Int)+(R.length:Int))=((c.b.length+nr:Nat):Int) by omega,bc]
 obtain⟨k,hk⟩:∃k,k=n % (c.b.length+nr):=⟨_,rfl⟩
 have hkl:k<c.b.length+nr:=by rw[hk];exact Nat.mod_lt _ (by omega)
 rw[<- hk]
 refine⟨fun q h'=>∃A B is,q=[.bool is]/\A.length=c.b.length/\B.length=nr/\jh c A B=is/\Vs h' (M A B),?_,?_⟩
 ·rintro f h147 ⟨A,B,is,hq,la,lb,hck,V147⟩
  simp only[List.cons.injEq,and_true]at hq
  have m127:(n127,Slot.box (.agg [.ms pU 0 c.b.length,.ms pR 0 nr]))∈M A B:=by rw[hM];simp
  rw[ldE V147 (hML m13),V147.Ft (s:=2) m127 rfl]
  refine Dx hc.u V147 (U:=A) (R:=B) (Or.inr ⟨pU,by rw[la],by rw[hM];simp⟩) (Or.inr ⟨pR,by rw[lb],by rw[hM];simp⟩) ?_
  rw[hck,hq,bY,show decide ((if is=true then(0:Int) else 100)=0)=is by cases is<;>rfl,UD]
  first|rw[bo]|(simp only[gD,if_true];rw[bo])
 rw[V131.EI m21',V131.pe (j:=0) m21' rfl,len]
 by_cases hkb:k<c.b.length
 ·rw[kN (by omega),ag,V131.EI m21',V131.pe (j:=0) m21' rfl,kM (esz:=1) (d:=.bool (hasB U k)) (by omega) (by rw[Int.toNat_natCast];exact ca (aR (by omega))) rfl,rP rfl]
  rw[hM]at V131
  rw[V131.fa 0 rfl,V131.b9 0 (j:=0+0) rfl rfl,V131.ia 2 rfl (by omega) (by omega),Int.toNat_natCast]
  refine V131.rG 2 rfl (by rw[dA];omega) rfl (dw _) fun h2 V2=>?_
  rw[du]at V2
  simp only[ab,true_and]
  exact⟨U.set k true,R,hasB U k,rfl,by simp[lU],lR,mU hkb,by rw[hM];exact V2⟩
 ·rw[kp (by omega),af,V131.EI m21',V131.pe (j:=1) m21' rfl,V131.EI m21',V131.pe (j:=0) m21' rfl,len,Ea (by omega) (by omega),show(k:Int)-(U.length:Int)=((k-c.b.length:Nat):Int) by omega,kM (esz:=1) (d:=.bool (hasB R (k-c.b.length))) (by omega) (by rw[Int.toNat_natCast];exact ca (aR (by omega))) rfl,rP rfl]
  have V132:=V131
  rw[hM]at V132
  rw[V132.fa 0 rfl,V132.b9 0 (j:=0+1) rfl rfl,V131.EI m21',V131.pe (j:=0) m21' rfl,len,Ea (by omega) (by omega),show(k:Int)-(U.length:Int)=((k-c.b.length:Nat):Int) by omega,V132.ia 1 rfl (by omega) (by omega),Int.toNat_natCast]
  refine V132.rG 1 rfl (by rw[dA];omega) rfl (dw _) fun h2 V2=>?_
  rw[du]at V2
  simp only[ab,true_and]
  exact⟨U,R.set (k-c.b.length) true,hasB R (k-c.b.length),rfl,lU,by simp[lR],mR (by omega),by rw[hM];exact V2⟩
end Go.Am
namespace Go.Am
open Go Go.Proofs
set_option maxRecDepth 100000
theorem Sx:Try.prog.underlying 22=some (.slice 5):=by kernel_rfl
theorem Uc:Try.prog.underlying 5=some (.int .u8):=by kernel_rfl
theorem t24:structL Try.prog 24=some [(22,0)]:=by kernel_rfl
theorem z24:Try.prog.cellsOf 24=1:=by kernel_rfl
theorem z22:Try.prog.cellsOf 22=1:=by kernel_rfl
theorem z5:Try.prog.cellsOf 5=1:=by kernel_rfl
theorem LG:IntKind.u8.min=0:=rfl
theorem P2:IntKind.u8.max=255:=rfl
theorem P3 {m:Nat}{ds:List D}(h:HasTy Try.prog (m+2) 22 ds):∃bs:List Nat,ds=[oY bs]/\(∀b∈bs,b<=255)/\bs.length<=9223372036854775807:=by
 obtain⟨xs,h1,h2,h3⟩:=H6 Sx Uc h
 refine⟨xs.map Int.toNat,?_,fun b hb=>?_,by unfold maxLen at h2;simp;omega⟩
 ·rw[h1,oY,List.map_map]
  congr 2
  refine List.map_congr_left fun x hx=>?_
  have:=h3 x hx
  rw[LG]at this
  show D.int .u8 x=D.int .u8 ((x.toNat:Nat):Int)
  rw[Int.toNat_of_nonneg this.1]
 ·simp only[List.mem_map]at hb
  obtain⟨x,hx,rfl⟩:=hb
  have:=h3 x hx
  rw[LG,P2]at this
  omega
theorem QZ {m:Nat}{ds:List D}(h:HasTy Try.prog (m+3) 24 ds):∃bs:List Nat,mkElem Try.prog 24 ds=zy bs/\(∀b∈bs,b<=255)/\bs.length<=9223372036854775807:=by
 obtain⟨k1,k2⟩:=Fx t24 h
 rw[z24]at k1
 have q:=k2 (22,0) (by simp)
 simp only[z22,List.drop_zero]at q
 match ds,k1 with
 | [d],_ =>
  obtain⟨bs,e1,hb,hbl⟩:=P3 q
  simp at e1
  subst e1
  exact⟨bs,by rw[Kh t24,zy],hb,hbl⟩
theorem QH {m:Nat}{ds:List D}(h:HasTy Try.prog (m+1) 5 ds):∃x:Nat,ds=[.int .u8 (x:Int)]/\x<=255:=by
 obtain⟨g,h1,h2,h3⟩:=EE Uc h
 rw[LG]at h2;rw[P2]at h3
 exact⟨g.toNat,by rw[h1,Int.toNat_of_nonneg h2],by omega⟩
end Go.Am
namespace Go.Am
open Go Go.Proofs
set_option maxRecDepth 100000
theorem Ri (xs:List D) (h:DN Try.prog 12 Try.f4.params.toList xs):aU Try.prog 4 xs (· = .bool true):=by
 have hp:Try.f4.params.toList=[24,22,5]:=by kernel_rfl
 rw[hp]at h
 obtain⟨c1,r1,rfl,h1,c2,r2,rfl,h2,c3,r3,rfl,h3,rfl⟩:=h
 obtain⟨bs,e1,b1,b2⟩:=QZ h1
 obtain⟨ys,rfl,-,hy⟩:=P3 h2
 obtain⟨n,rfl,hn⟩:=QH h3
 have e2:mkElem Try.prog 22 [oY ys]=oY ys:=Mz Sx _
 have e3:mkElem Try.prog 5 [.int .u8 (n:Int)]=.int .u8 (n:Int):=MA Uc _
 show aU Try.prog 4 [mkElem Try.prog 24 c1,mkElem Try.prog 22 [oY ys],mkElem Try.prog 5 [.int .u8 (n:Int)]] _
 rw[e1,e2,e3]
 exact Fu b1 b2 hy hn
end Go.Am
