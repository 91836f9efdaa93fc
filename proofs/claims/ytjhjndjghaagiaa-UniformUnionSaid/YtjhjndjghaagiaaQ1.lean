/- What the functions of this chapter give, on plain data. No condition. -/
import Derived.Test.YtjhjndjghaagiaaP3
set_option linter.unnecessarySimpa false
set_option linter.defProp false
set_option linter.unusedSectionVars false
set_option linter.unusedSimpArgs false
set_option linter.unusedVariables false
namespace Go.Am
open Go Go.Proofs
section
variable {h:Heap}{F:LSq}{KH:HKq}{nB:Nat}{A:List (Nat×Block)}
theorem OB.TB:OB h nB A F↔Vs h (F++(nB,.arr 14 (A.map ON))::A.map RQ) :=
 ⟨fun V=>Vs.perm (List.perm_append_comm (l₁:=(nB,.arr 14 (A.map ON))::A.map RQ) (l₂:=F)) V,fun V=>V.perm (List.perm_append_comm (l₁:=F) (l₂:=(nB,.arr 14 (A.map ON))::A.map RQ))⟩
theorem OB.alloc (V:OB h nB A F){d:D}(hK:∀n h',OB h' nB A ((n,.box d)::F)->KH (.ptr n 0 0) h'):aa PP (.alloc d) h KH :=
 (OB.TB.1 V).alloc fun n h' V'=>hK n h' (OB.TB.2 V')
theorem OB.less {x:Nat×Slot}(V:OB h nB A (x::F)):OB h nB A F:=OB.TB.2 (OB.TB.1 V).pop
end
section
variable {c:Code}{h:Heap}{nA nL nB n13 n2:Nat}{bs:List Nat}{A:List (Nat×Block)}
end
end Go.Am
namespace Go.Am
open Go Go.Proofs
theorem IM (bs:List Nat):xg (xD bs):=fL (by simp[oo])
end Go.Am
namespace Go.Am
open Go Go.Proofs
section
variable {c:Code}{nU nR nu n4 n2 nr N:Nat}{U R:List Bool}{X:LSq}{vD:D}{P:List Bool->List Bool->Prop}{h:Heap}{t:Bool}
theorem Kf (hc:dQ c) (hr:c.regs=(nr:Int)) (hP:Dr c P) (wD:LR X vD (gW c)) (s:zU c P N U R false) (V:Vs h (aS c nU nR nu n4 n2 nr U R X)){J:HJq}
  (hJ:∀h' U' R' t,zU c P N U' R' t->(t=false->m4 c U' R' c.b.length)->Vs h' (aS c nU nR nu n4 n2 nr U' R' X)->J [.bool t] h') :
  kW h (.ptr nu 0 0) (.ptr n2 0 0) (.ptr n4 0 0) (.sl (bL (cI c))) vD J:=by
 have hnb:=hc.g.nb
 unfold kW
 refine⟨fun m q h'=>∃(i:Nat) (U R:List Bool) (t:Bool),q=[.bool t,nD i]/\i<=c.b.length/\m=c.b.length-i/\zU c P N U R t/\(t=false->m4 c U R i)/\Vs h' (aS c nU nR nu n4 n2 nr U R X),_,⟨0,U,R,false,rfl,by omega,rfl,s,fun _ b hb=>by omega,V⟩,?_⟩
 rintro m f h1 ⟨i,U1,R1,t1,hq,hi,hm,s1,ck,V1⟩
 simp only[List.cons.injEq,and_true]at hq
 obtain⟨q1,q2⟩:=hq
 have get0:∀{KH:HKq},aa PP (.fadd (.c (.ptr nu 0 0)) 0) h1 (fun a h2=>aa PP (.ld (.c a) 1 false) h2 KH)=KH (.ms nU 0 c.b.length) h1:=fun {KH}=>by rw[V1.fa 0 rfl,V1.b9 0 (j:=0+0) rfl rfl]
 have len0:∀{K:D->Prop},aH (.ms nU 0 c.b.length) h1 K=K (.int .i64 (c.b.length:Int)):=fun {K}=>by
  rw[aU,V1.get 2 _ _ rfl];exact propext ⟨fun hh=>hh.2,fun hk=>⟨rfl,hk⟩⟩
 rw[get0,len0,q1,q2]
 by_cases hlt:¬i<c.b.length
 ·have:i=c.b.length:=by omega
  subst this
  rw[nD,kj (by omega),af]
  simp only[ab,true_and]
  exact hJ h1 U1 R1 t1 s1 ck V1
 replace hlt:i<c.b.length:=Decidable.not_not.1 hlt
 rw[nD,kL (by omega),ag]
 refine⟨fun q h'=>∃(U R:List Bool) (t:Bool),q=[.bool t]/\zU c P N U R t/\(t=false->m4 c U R (i+1))/\Vs h' (aS c nU nR nu n4 n2 nr U R X),?_,?_⟩
 ·rintro f' h' ⟨U2,R2,t2,hq,s2,ck2,V2⟩
  simp only[List.cons.injEq,and_true]at hq
  rw[hq,cC (by omega) (by omega)]
  simp only[ab,true_and]
  exact⟨_,by omega,i+1,U2,R2,t2,rfl,by omega,rfl,s2,ck2,V2⟩
 have more:(hasB U1 i=true->K0 c (cI c) (gW c) U1 R1 i=true)->(t1=false->m4 c U1 R1 (i+1)):=fun hh ht b hb hu=>by
  by_cases e:b=i
  ·subst e;exact hh hu
  ·exact ck ht b (by omega) hu
 rw[get0,V1.ia 2 rfl (by omega) (by omega),Int.toNat_natCast,V1.uO 2 rfl (ca (aR (by rw[s1.ul];exact hlt))) rfl]
 cases g1:hasB U1 i
 ·simp only[gD,Bool.not_false,Bool.not_true,Bool.false_eq_true,if_true,if_false]
  rw[af]
  simp only[ab,true_and]
  exact⟨U1,R1,t1,rfl,s1,more fun h=>by(rw[g1]at h;cases h),V1⟩
 simp only[gD,Bool.not_false,Bool.not_true,Bool.false_eq_true,if_true,if_false]
 rw[V1.kM 4 (s:=8) rfl rfl,V1.kM 0 (s:=2) rfl rfl,show D.agg [.int .i64 c.group,.int .i64 c.sub,.int .i64 c.regs,.int .i64 c.slots,.int .i64 c.params,.sl (c.arrays.map uI.e),.sl (c.loops.map Loop.e),.sl (c.b.map Block.e)]=c.e from rfl]
 refine Jq hc (x8 hc.g) sJ V1 (s1.bU fun x hx=>hx) (s1.bR hr fun x hx=>hx) (wD.mono fun x hx=>by simp[aS,hx]) s1.ul s1.rl hlt kg fun h2 V2=>?_
 rw[da]
 cases g2:K0 c (cI c) (gW c) U1 R1 i
 ·rw[Bool.not_false,ag,V2.fa 0 rfl,V2.b9 0 (j:=0+0) rfl rfl,V2.ia 2 rfl (by omega) (by omega),Int.toNat_natCast]
  refine V2.rh 2 rfl (by simp[bL,s1.ul];exact hlt) rfl (du _) fun h3 V3=>?_
  rw[dt]at V3
  simp only[ab,true_and]
  obtain⟨r,hr1,hr2,hr3⟩:=Ni hlt g2 g1
  have:=s1.drop hP hr1 (by rw[hr2];exact g1) hr3
  rw[hr2]at this
  exact⟨U1.set i false,R1,true,rfl,this,fun h=>(by cases h),V3⟩
 ·rw[Bool.not_true,af]
  simp only[ab,true_and]
  exact⟨U1,R1,t1,rfl,s1,more fun _=>g2,V2⟩
theorem OG (hc:dQ c) (hr:c.regs=(nr:Int)) (hP:Dr c P) (s:zU c P N U R t) (cb:t=false->m4 c U R c.b.length) (V:Vs h (aS c nU nR nu n4 n2 nr U R X)){f:Nat->D}(hf:f 7=.bool t){I:Nat->HJq}{n31:Nat}
  (hJ:∀h' U' R' t,zU c P N U' R' t->(t=false->m4 c U' R' c.b.length/\DT c U' R' nr)->Vs h' (aS c nU nR nu n4 n2 nr U' R' X)->∃m,m<n31/\I m [.bool t] h') :
  kX f h (.ptr nu 0 0) (.ptr n2 0 0) (.ptr n4 0 0) (.sl (bL (cI c))) vD n31 I:=by
 have hnb:=hc.g.nb
 have hrg:=hc.rg
 unfold kX
 rw[hf]
 refine⟨fun m q h'=>∃(i:Nat) (U R:List Bool) (t:Bool),q=[.bool t,nD i]/\i<=nr/\m=nr-i/\zU c P N U R t/\(t=false->m4 c U R c.b.length/\DT c U R i)/\Vs h' (aS c nU nR nu n4 n2 nr U R X),_,⟨0,U,R,t,rfl,by omega,rfl,s,fun h=>⟨cb h,fun b hb=>by omega⟩,V⟩,?_⟩
 rintro m f h1 ⟨i,U1,R1,t1,hq,hi,hm,s1,ck,V1⟩
 simp only[List.cons.injEq,and_true]at hq
 obtain⟨q1,q2⟩:=hq
 have hRl:R1.length=nr:=by have:=s1.rl;omega
 have get0:∀{KH:HKq}{h1:Heap}{U1 R1:List Bool},Vs h1 (aS c nU nR nu n4 n2 nr U1 R1 X)->aa PP (.fadd (.c (.ptr nu 0 0)) 1) h1 (fun a h2=>aa PP (.ld (.c a) 1 false) h2 KH)=KH (.ms nR 0 nr) h1:=fun {KH h1 U1 R1} V1=>by rw[V1.fa 0 rfl,V1.b9 0 (j:=0+1) rfl rfl]
 have len0:∀{K:D->Prop},aH (.ms nR 0 nr) h1 K=K (.int .i64 (nr:Int)):=fun {K}=>by
  rw[aU,V1.get 1 _ _ rfl];exact propext ⟨fun hh=>hh.2,fun hk=>⟨rfl,hk⟩⟩
 rw[get0 V1,len0,q1,q2]
 by_cases hlt:¬i<nr
 ·have:i=nr:=by omega
  subst this
  rw[nD,kj (by omega),af]
  simp only[ab,true_and]
  exact hJ h1 U1 R1 t1 s1 ck V1
 replace hlt:i<nr:=Decidable.not_not.1 hlt
 rw[nD,kL (by omega),ag]
 refine⟨fun q h'=>∃(U R:List Bool) (t:Bool),q=[.bool t]/\zU c P N U R t/\(t=false->m4 c U R c.b.length/\DT c U R (i+1))/\Vs h' (aS c nU nR nu n4 n2 nr U R X),?_,?_⟩
 ·rintro f' h' ⟨U2,R2,t2,hq,s2,ck2,V2⟩
  simp only[List.cons.injEq,and_true]at hq
  rw[hq,cC (by omega) (by omega)]
  simp only[ab,true_and]
  exact⟨_,by omega,i+1,U2,R2,t2,rfl,by omega,rfl,s2,ck2,V2⟩
 have more:(hasB R1 i=true->Ho c (cI c) U1 R1 (i:Int)=true)->(t1=false->m4 c U1 R1 c.b.length/\DT c U1 R1 (i+1)):=fun hh ht=>⟨(ck ht).1,fun b hb hu=>by
  by_cases e:b=i
  ·subst e;exact hh hu
  ·exact(ck ht).2 b (by omega) hu⟩
 rw[get0 V1,V1.ia 1 rfl (by omega) (by omega),Int.toNat_natCast,V1.uO 1 rfl (ca (aR (by rw[hRl];exact hlt))) rfl]
 cases g1:hasB R1 i
 ·simp only[gD,Bool.not_false,Bool.not_true,Bool.false_eq_true,if_true,if_false]
  rw[af]
  simp only[ab,true_and]
  exact⟨U1,R1,t1,rfl,s1,more fun h=>by(rw[g1]at h;cases h),V1⟩
 simp only[gD,Bool.not_false,Bool.not_true,Bool.false_eq_true,if_true,if_false]
 rw[V1.kM 4 (s:=8) rfl rfl,V1.kM 0 (s:=2) rfl rfl,show D.agg [.int .i64 c.group,.int .i64 c.sub,.int .i64 c.regs,.int .i64 c.slots,.int .i64 c.params,.sl (c.arrays.map uI.e),.sl (c.loops.map Loop.e),.sl (c.b.map Block.e)]=c.e from rfl]
 refine C2 hc V1 (s1.bU fun x hx=>hx) (s1.bR hr fun x hx=>hx) s1.ul s1.rl kg ?_
 rw[da]
 cases g2:Ho c (cI c) U1 R1 (i:Int)
 ·rw[Bool.not_false,ag,get0 V1,V1.ia 1 rfl (by omega) (by omega),Int.toNat_natCast]
  refine V1.rh 1 rfl (by simp[bL,hRl];exact hlt) rfl (du _) fun h3 V3=>?_
  rw[dt]at V3
  simp only[ab,true_and]
  obtain⟨r,hr1,hr2,hr3⟩:=LS g2 g1
  have:=s1.drop hP hr1 (by rw[hr2];exact g1) hr3
  rw[hr2]at this
  exact⟨U1,R1.set i false,true,rfl,this,fun h=>(by cases h),V3⟩
 ·rw[Bool.not_true,af]
  simp only[ab,true_and]
  exact⟨U1,R1,t1,rfl,s1,more fun _=>g2,V1⟩
theorem OH (hc:dQ c) (hr:c.regs=(nr:Int)) (hP:Dr c P) (wD:LR X vD (gW c)) (hul:U.length=c.b.length) (hrl:(R.length:Int)=c.regs) (hp:P U R) (ht:t=false->(iD c).all (ct U R)=true) (V:Vs h (aS c nU nR nu n4 n2 nr U R X)){J:HJq}
  (hJ:∀h' U' R',U'.length=c.b.length->(R'.length:Int)=c.regs->P U' R'->(iD c).all (ct U' R')=true->Vs h' (aS c nU nR nu n4 n2 nr U' R' X)->J [] h') :
  kV (.bool t) h (.ptr nu 0 0) (.ptr n2 0 0) (.ptr n4 0 0) (.sl (bL (cI c))) vD J:=by
 unfold kV
 refine⟨fun m q h'=>∃(U R:List Bool) (t:Bool),q=[.bool t]/\m=2*oF U R+(if t then 1 else 0)/\U.length=c.b.length/\(R.length:Int)=c.regs/\P U R/\(t=false->m4 c U R c.b.length/\DT c U R nr)/\Vs h' (aS c nU nR nu n4 n2 nr U R X),_,⟨U,R,t,rfl,rfl,hul,hrl,hp,fun h=>⟨fun b hb hu=>((xW hc).1 (ht h)).1 b hb hu,fun n hn hu=>((xW hc).1 (ht h)).2 n (by omega) hu⟩,V⟩,?_⟩
 rintro m f h1 ⟨U1,R1,t1,hq,hm,ul,rl,p1,ck,V1⟩
 simp only[List.cons.injEq,and_true]at hq
 rw[hq]
 cases t1 with
 | false =>
  rw[af]
  simp only[ab,true_and]
  obtain⟨c1,c2⟩:=ck rfl
  exact hJ h1 U1 R1 ul rl p1 ((xW hc).2 ⟨c1,fun n hn hu=>c2 n (by omega) hu⟩) V1
 | true =>
  rw[ag]
  refine⟨fun q h'=>∃(U R:List Bool) (t:Bool),q=[.bool t]/\zU c P (oF U1 R1) U R t/\(t=false->m4 c U R c.b.length)/\Vs h' (aS c nU nR nu n4 n2 nr U R X),?_,?_⟩
  ·rintro f' h' ⟨U2,R2,t2,hq2,s2,ck2,V2⟩
   simp only[List.cons.injEq,and_true]at hq2
   refine OG hc hr hP s2 ck2 V2 hq2 fun h3 U3 R3 t3 s3 ck3 V3=>?_
   refine⟨_,?_,U3,R3,t3,rfl,rfl,s3.ul,s3.rl,s3.p,ck3,V3⟩
   have:=s3.n
   cases t3
   ·simp at this ⊢;simp at hm;omega
   ·simp at this ⊢;simp at hm;omega
  ·exact Kf hc hr hP wD ⟨ul,rl,p1,by simp⟩ V1 fun h' U' R' t s ck V=>⟨U',R',t,rfl,s,ck,V⟩
end
theorem PC {A:(D->Prop)->Prop}{K:D->Prop}:an (.bool true) true A K=A K:=by rw[eo];simp
theorem PD {A:(D->Prop)->Prop}{K:D->Prop}:an (.bool false) true A K=K gU:=by rw[eo];simp
def Le (A B:List Bool):Prop:=∀k,hasB A k=true->hasB B k=true
theorem Le.set {A B:List Bool}(h:Le A B){i:Nat}{b:Bool}(hb:b=true->hasB A i=true):Le (A.set i b) B:=fun k hk=>by
 unfold hasB at hk
 rw[List.getElem?_set]at hk
 split at hk
 ·rename_i e;subst e
  split at hk
  ·simp at hk;exact h i (hb hk)
  ·simp at hk
 ·exact h k hk
section
variable {c:Code}{nU nR nu n4 n2 nr:Nat}{U R:List Bool}{X:LSq}{h:Heap}{ms:List Nat}{vt:D}
theorem T3 (hn:c.b.length<=1000) (hul:U.length=c.b.length) (hms:ms.length<=9223372036854775807) (V:Vs h (aS c nU nR nu n4 n2 nr U R X)){J:HJq}(hJ:∀(k:Nat) h' U',k<=1000->U'.length=c.b.length->Le U' U->(ms=[]->U'=U)->Vs h' (aS c nU nR nu n4 n2 nr U' R X)->J [nD k] h') :
  kT h (.ptr nu 0 0) (oo ms) (.ptr n2 0 0) (.ptr n4 0 0) vt J:=by
 unfold kT
 refine⟨fun m q h'=>∃(i:Nat) (U':List Bool),q=[nD i,nD i]/\i<=c.b.length/\m=c.b.length-i/\U'.length=c.b.length/\Le U' U/\(ms=[]->U'=U)/\Vs h' (aS c nU nR nu n4 n2 nr U' R X),_,⟨0,U,rfl,by omega,rfl,hul,fun k hk=>hk,fun _=>rfl,V⟩,?_⟩
 rintro m f h1 ⟨i,U1,hq,hi,hm,ul,le,emp,V1⟩
 simp only[List.cons.injEq,and_true]at hq
 obtain⟨q1,q2⟩:=hq
 rw[q1,q2,V1.fa 0 rfl,V1.b9 0 (j:=0+0) rfl rfl,aU,V1.get 2 _ _ rfl]
 refine⟨rfl,?_⟩
 by_cases hlt:¬i<c.b.length
 ·rw[nD,kj (by omega)]
  simp only[gD,Bool.not_false,Bool.not_true,Bool.false_eq_true,if_true,if_false]
  rw[af]
  simp only[ab,true_and]
  exact hJ i h1 U1 (by omega) ul le emp V1
 replace hlt:i<c.b.length:=Decidable.not_not.1 hlt
 rw[nD,kL (by omega)]
 simp only[gD,Bool.not_false,Bool.not_true,Bool.false_eq_true,if_true,if_false]
 rw[oo,bI,List.length_map]
 by_cases hl:ms.length=0
 ·rw[RU (by omega)]
  rw[af]
  simp only[ab,true_and]
  exact hJ i h1 U1 (by omega) ul le emp V1
 rw[TF (by omega)]
 rw[ag]
 rw[V1.me 0 rfl,V1.iF 0 (j:=0+0) rfl rfl,V1.me 0 rfl,V1.iF 0 (j:=0+0) rfl rfl,V1.Aq 2 rfl (by omega) (by omega),Int.toNat_natCast,V1.uq 2 rfl (ca (aR (by omega))) rfl]
 have fin:∀(b:Bool),(b=true->hasB U1 i=true)->ae PP (.iadd (.c (.ms nU 0 c.b.length)) (.c (.int .i64 (i:Int))) 1) h1 fun a300=>aa PP (.st (.c a300) (.c (.bool b)) 1) h1 fun a301 h302=>vbin .add (.int .i64 (i:Int)) (.int .i64 1) fun a303=>vbin .add (.int .i64 (i:Int)) (.int .i64 1) fun a304=>∃m',m'<m/\∃(i:Nat) (U':List Bool),[a303,a304]=[nD i,nD i]/\i<=c.b.length/\m'=c.b.length-i/\U'.length=c.b.length/\Le U' U/\(ms=[]->U'=U)/\Vs h302 (aS c nU nR nu n4 n2 nr U' R X):=fun b hb=>by
  rw[V1.Aq 2 rfl (by omega) (by omega),Int.toNat_natCast]
  refine V1.rh 2 rfl (by rw[oH];omega) rfl (du _) fun h2 V2=>?_
  rw[dt]at V2
  rw[cC (by omega) (by omega),cC (by omega) (by omega)]
  exact⟨_,by omega,i+1,U1.set i b,rfl,by omega,rfl,by simp[ul],le.set hb,fun e=>by simp[e]at hl,V2⟩
 cases g1:hasB U1 i
 ·simp only[PD,K8]
  rw[dT,bq]
  simp only[Bool.false_eq_true,if_false,ab,true_and]
  exact fin false (fun h=>by cases h)
 simp only[PC]
 have em:((i:Int)).tmod (ms.length:Int)=((i % ms.length:Nat):Int):=rfl
 have hmod:i % ms.length<ms.length:=Nat.mod_lt _ (by omega)
 obtain⟨x,hx⟩:∃x,ms[i % ms.length]?=some x:=⟨ms[i % ms.length],List.getElem?_eq_getElem hmod⟩
 rw[bI,List.length_map,LX (by omega),em,Km (esz:=1) (d:=.int .u8 (x:Int)) (by omega) (by rw[Int.toNat_natCast,List.getElem?_map,hx];rfl) rfl,Er rfl,LX (by omega),gh,dT,bq,if_pos rfl]
 simp only[ab,true_and]
 exact fin _ (fun _=>g1)
theorem T4 (hn:nr<=1000) (hrl:R.length=nr) (hms:ms.length<=9223372036854775807) (V:Vs h (aS c nU nR nu n4 n2 nr U R X)){n0:Nat}(h0:n0<=1000){f0:Nat->D}(hf:f0 6=nD n0){J:HJq}(hJ:∀h' R',R'.length=nr->Le R' R->(ms=[]->R'=R)->Vs h' (aS c nU nR nu n4 n2 nr U R' X)->J [] h') :
  kU f0 h (.ptr nu 0 0) (oo ms) (.ptr n2 0 0) (.ptr n4 0 0) vt J:=by
 unfold kU
 rw[hf]
 refine⟨fun m q h'=>∃(i:Nat) (R':List Bool),q=[nD (n0+i),nD i]/\i<=nr/\m=nr-i/\R'.length=nr/\Le R' R/\(ms=[]->R'=R)/\Vs h' (aS c nU nR nu n4 n2 nr U R' X),_,⟨0,R,rfl,by omega,rfl,hrl,fun k hk=>hk,fun _=>rfl,V⟩,?_⟩
 rintro m f h1 ⟨i,R1,hq,hi,hm,rl,le,emp,V1⟩
 simp only[List.cons.injEq,and_true]at hq
 obtain⟨q1,q2⟩:=hq
 rw[q1,q2,V1.fa 0 rfl,V1.b9 0 (j:=0+1) rfl rfl,aU,V1.get 1 _ _ rfl]
 refine⟨rfl,?_⟩
 by_cases hlt:¬i<nr
 ·rw[nD,nD,kj (by omega)]
  simp only[gD,Bool.not_false,Bool.not_true,Bool.false_eq_true,if_true,if_false]
  rw[af]
  simp only[ab,true_and]
  exact hJ h1 R1 rl le emp V1
 replace hlt:i<nr:=Decidable.not_not.1 hlt
 rw[nD,nD,kL (by omega)]
 simp only[gD,Bool.not_false,Bool.not_true,Bool.false_eq_true,if_true,if_false]
 rw[oo,bI,List.length_map]
 by_cases hl:ms.length=0
 ·rw[RU (by omega)]
  rw[af]
  simp only[ab,true_and]
  exact hJ h1 R1 rl le emp V1
 rw[TF (by omega)]
 rw[ag]
 rw[V1.me 0 rfl,V1.iF 0 (j:=0+1) rfl rfl,V1.me 0 rfl,V1.iF 0 (j:=0+1) rfl rfl,V1.Aq 1 rfl (by omega) (by omega),Int.toNat_natCast,V1.uq 1 rfl (ca (aR (by omega))) rfl]
 have fin:∀(b:Bool),(b=true->hasB R1 i=true)->ae PP (.iadd (.c (.ms nR 0 nr)) (.c (.int .i64 (i:Int))) 1) h1 fun a300=>aa PP (.st (.c a300) (.c (.bool b)) 1) h1 fun a301 h302=>vbin .add (.int .i64 ((n0+i:Nat):Int)) (.int .i64 1) fun a303=>vbin .add (.int .i64 (i:Int)) (.int .i64 1) fun a304=>∃m',m'<m/\∃(i:Nat) (R':List Bool),[a303,a304]=[nD (n0+i),nD i]/\i<=nr/\m'=nr-i/\R'.length=nr/\Le R' R/\(ms=[]->R'=R)/\Vs h302 (aS c nU nR nu n4 n2 nr U R' X):=fun b hb=>by
  rw[V1.Aq 1 rfl (by omega) (by omega),Int.toNat_natCast]
  refine V1.rh 1 rfl (by rw[oH];omega) rfl (du _) fun h2 V2=>?_
  rw[dt]at V2
  rw[cC (by omega) (by omega),cC (by omega) (by omega)]
  exact⟨_,by omega,i+1,R1.set i b,rfl,by omega,rfl,by simp[rl],le.set hb,fun e=>by simp[e]at hl,V2⟩
 cases g1:hasB R1 i
 ·simp only[PD,K8]
  rw[dT,bq]
  simp only[Bool.false_eq_true,if_false,ab,true_and]
  exact fin false (fun h=>by cases h)
 simp only[PC]
 have em:(((n0+i:Nat):Int)).tmod (ms.length:Int)=(((n0+i) % ms.length:Nat):Int):=rfl
 have hmod:(n0+i) % ms.length<ms.length:=Nat.mod_lt _ (by omega)
 obtain⟨x,hx⟩:∃x,ms[(n0+i) % ms.length]?=some x:=⟨ms[(n0+i) % ms.length],List.getElem?_eq_getElem hmod⟩
 rw[bI,List.length_map,LX (by omega),em,Km (esz:=1) (d:=.int .u8 (x:Int)) (by omega) (by rw[Int.toNat_natCast,List.getElem?_map,hx];rfl) rfl,Er rfl,LX (by omega),gh,dT,bq,if_pos rfl]
 simp only[ab,true_and]
 exact fin _ (fun _=>g1)
end
end Go.Am
namespace Go.Am
open Go Go.Proofs
theorem Jb {c:Code}(hc:dQ c):(iD c).all (ct (Ei c (iD c)) (DF c (iD c)))=true:=by
 rw[List.all_eq_true]
 intro r hr
 have ok:=Cd hc r hr
 refine cG.2 fun hg=>?_
 have:=Gf.closed _ r hr ((Mt ok.of).1 hg)
 exact⟨this.1,fun f hf=>(Mt (ok.needs f hf)).2 (this.2 f hf)⟩
theorem Dr.le {c:Code}{U0 R0:List Bool}:Dr c fun U R=>Le U U0/\Le R R0:=fun U R r _ _ hp _ _ _=>by
 unfold oq
 split
 ·exact⟨hp.1.set fun h=>(by cases h),hp.2⟩
 ·exact⟨hp.1,hp.2.set fun h=>(by cases h)⟩
theorem Nw {c:Code}(hc:dQ c) (hD:Ds c){nr:Nat}(hr:c.regs=(nr:Int)){ms:List Nat}(hms:ms.length<=9223372036854775807){h:Heap}{L:LSq}{KH:HKq}(V:Vs h L)
  (hK:∀nU nR U R X h',U.length=c.b.length->R.length=nr->(iD c).all (ct U R)=true->Le U (Ei c (iD c))->Le R (DF c (iD c))->Vs h' ((nR,.arr 1 (bL R))::(nU,.arr 1 (bL U))::(X++L))->KH (.agg [.ms nU 0 c.b.length,.ms nR 0 nr]) h'):ah PP lO [c.e,oo ms] h KH:=by
 have hnb:=hc.g.nb
 have hrg:=hc.rg
 have hD0:=hD
 obtain⟨O,O',at',U,Dd⟩:=hD
 refine aL Bo (aD _ _ _) rfl (Be _ _ _) ?_
 unfold ym
 refine V.box c.dn.one fun n3 h4 V4=>?_
 refine V4.alloc fun n5 h6 V6=>?_
 have ldE:∀{KH:HKq}{h:Heap}{M:LSq},Vs h M->(n3,Slot.box c.e)∈M->aa PP (.ld (.c (.ptr n3 0 0)) 8 true) h KH=KH c.e h:=fun {KH h M} V hm=>V.Mq (cs:=[.int .i64 c.group,.int .i64 c.sub,.int .i64 c.regs,.int .i64 c.slots,.int .i64 c.params,.sl (c.arrays.map uI.e),.sl (c.loops.map Loop.e),.sl (c.b.map Block.e)]) hm rfl
 rw[ldE V6 (by simp)]
 refine Nx hc hD0 hr V6 fun nU nR X1 h10 V10=>?_
 refine V10.alloc fun nu h12 V12=>?_
 refine V12.qB 0 rfl rfl rfl (fun x hx=>by simp at hx;rcases hx with rfl|rfl<;>rfl) fun h14 V14=>?_
 simp only[List.set_cons_zero]at V14
 replace V14:Vs h14 (aS c nU nR nu n5 n3 nr (Ei c (iD c)) (DF c (iD c)) (X1++L)):=by
  refine V14.perm (.cons _ (.cons _ (.cons _ ?_)))
  exact List.perm_append_comm_assoc X1 [(n5,.box (.agg [.nil,.nil])),(n3,.box c.e)] L
 have lR:(DF c (iD c)).length=nr:=by rw[xZ];omega
 rw[show ∀K:D->Prop,aH (oo ms) h14 K=K (.int .i64 (ms.length:Int)) from fun K=>by rw[oo,bI,List.length_map],uL]
 refine⟨fun q h'=>∃(k:Nat) (U':List Bool),q=[nD k]/\k<=1000/\U'.length=c.b.length/\Le U' (Ei c (iD c))/\(ms=[]->U'=Ei c (iD c))/\Vs h' (aS c nU nR nu n5 n3 nr U' (DF c (iD c)) (X1++L)),?_,T3 (by omega) xY hms V14 fun k h' U' hk ul le emp V'=>⟨k,U',rfl,hk,ul,le,emp,V'⟩⟩
 rintro f18 h19 ⟨k,U',hq,hk,ul,le,emp,V19⟩
 simp only[List.cons.injEq,and_true]at hq
 refine⟨fun _ h'=>∃(R':List Bool),R'.length=nr/\Le R' (DF c (iD c))/\(ms=[]->R'=DF c (iD c))/\Vs h' (aS c nU nR nu n5 n3 nr U' R' (X1++L)),?_,T4 (by omega) lR hms V19 hk hq fun h' R' rl le emp V'=>⟨R',rl,le,emp,V'⟩⟩
 rintro f21 h22 ⟨R',rl,leR,empR,V22⟩
 rw[ldE V22 (by simp[aS])]
 refine bX (GQ hc.g) (fun d hd=>by simp at hd;subst hd;exact c.dn.pair) ?_
 rintro _ ⟨S,rfl,hS,hSk⟩
 have eS:=BE hS hSk
 subst eS
 rw[ldE V22 (by simp[aS])]
 refine Aw hc.g Dd V22 fun v X h30 V30 wX=>?_
 have V31:Vs h30 (aS c nU nR nu n5 n3 nr U' R' (X++(X1++L))):=by
  refine V30.perm ?_
  exact List.perm_append_comm_assoc X [(nu,.box (.agg [.ms nU 0 c.b.length,.ms nR 0 nr])),(nR,.arr 1 (bL R')),(nU,.arr 1 (bL U')),(n5,.box (.agg [.nil,.nil])),(n3,.box c.e)] (X1++L)
 refine⟨fun _ h'=>∃U2 R2,U2.length=c.b.length/\R2.length=nr/\(iD c).all (ct U2 R2)=true/\Le U2 (Ei c (iD c))/\Le R2 (DF c (iD c))/\Vs h' (aS c nU nR nu n5 n3 nr U2 R2 (X++(X1++L))),?_,OH hc hr Dr.le (wX.mono fun x hx=>by simp[hx]) ul (by omega) ⟨le,leR⟩ (fun ht=>?_) V31 fun h' U2 R2 ul2 rl2 p2 ck V'=>⟨U2,R2,ul2,by omega,ck,p2.1,p2.2,V'⟩⟩
 ·rintro f h24 ⟨U2,R2,ul2,rl2,ck,p1,p2,V24⟩
  rw[V24.kM 0 (s:=2) rfl rfl]
  refine V24.qB 3 rfl rfl rfl (fun x hx=>by simp at hx;rcases hx with rfl|rfl<;>rfl) fun h52 V52=>?_
  simp only[aS,List.set_cons_succ,List.set_cons_zero]at V52
  rw[V52.kM 3 (s:=2) rfl rfl]
  refine hK nU nR U2 R2 (X++X1) h52 ul2 rl2 ck p1 p2 ?_
  rw[List.append_assoc]
  exact V52.sub (.cons _ (.cons_cons _ (.cons_cons _ (.cons _ (.cons _ (.refl _))))))
 ·have e0:ms=[]:=by
   have:=of_decide_eq_false ht
   exact List.length_eq_zero_iff.1 (by omega)
  rw[emp e0,empR e0]
  exact Jb hc
end Go.Am
namespace Go.Am
open Go Go.Proofs
theorem RG {c:Code}(hc:bE c){f:FuncId}{ds:List D}{h:Heap}{L:LSq}{K:HKq}(V:Vs h L) (hk:Ds c->ah PP f (c.e::ds) h K):ah PP f (c.e::ds) h K:=by
 intro x w vals hh hp hr hs hrel
 have hA:=EG hc V (KH:=fun _ _=>Ds c) fun v h' O O' at' U Dd _=>⟨O,O',at',U,Dd⟩
 have:=hA x w #[vals.getD 0 Go.undef] hh hp hr rfl fun i d hd=>by
  cases i with
  | zero=>simp at hd;subst hd;exact hrel 0 c.e rfl
  | succ i=>simp at hd
 obtain⟨e,w',fr,⟨v,r,ρ,h',-,-,-,-,-,hD⟩,-⟩:=this []
 exact hk hD x w vals hh hp hr hs hrel
theorem Pq {c:Code}{f:FuncId}{h:Heap}{L:LSq}{KH:HKq}{vU vR r:D}{U R:List Bool}(V:Vs h L) (wU:BW L vU U) (wR:BW L vR R) (hv:aV PP f [c.e,uE U R] (· = r)) (hf:r.flat=true) (hK:KH r h):ah PP f [c.e,.agg [vU,vR]] h KH:=by
 obtain⟨f1,f2,f3⟩:=TG V wU wR
 obtain⟨g1,g2,g3⟩:=uJ (h:=h) c.dn.pair.1
 refine ah.mono ?_ (eJ (K:=(· = r)) ?_ ?_)
 ·rintro d h' ⟨rfl,h2,-⟩
  rw[h2 (Or.inl hf)];exact hK
 ·simp only[List.map_cons,List.map_nil,f1,g1]
  exact hv
 ·intro d hd
  simp at hd
  rcases hd with rfl|rfl
  ·exact⟨c.dn.pair.2,g3,by rw[g1];exact c.dn.pair.1⟩
  ·exact⟨f2,f3,by rw[f1];exact GG.pair.1⟩
theorem C4 {c:Code}(hc:dQ c){h:Heap}{L:LSq}{KH:HKq}{vU vR:D}{U R:List Bool}(V:Vs h L) (wU:BW L vU U) (wR:BW L vR R) (hK:KH (.int .i64 (if m6 c U R then 0 else 100)) h):ah PP bn [c.e,.agg [vU,vR]] h KH :=
 Pq V wU wR (Fv hc (Or.inl rfl) (Or.inl rfl)) rfl hK
theorem Fs {c:Code}{U R:List Bool}(h1:U.length=c.b.length) (h2:(R.length:Int)=c.regs) (h3:(iD c).all (ct U R)=true):m6 c U R=true:=by
 unfold m6;rw[h3,decide_eq_true h1,decide_eq_true h2];rfl
structure Iq (A B C:List Bool) (i:Nat):Prop where
 len:C.length=A.length
 el:∀k,k<A.length->hasB C k=(hasB A k||(decide (k<i)&&hasB B k))
theorem Iq.zero {A B:List Bool}:Iq A B A 0:=⟨rfl,fun k hk=>by simp⟩
theorem Iq.set {A B C:List Bool}{i:Nat}(o:Iq A B C i) (hi:i<A.length):Iq A B (C.set i (hasB C i||hasB B i)) (i+1):=by
 refine⟨by rw[List.length_set,o.len],fun k hk=>?_⟩
 have e:hasB (C.set i (hasB C i||hasB B i)) k=if k=i then(hasB C i||hasB B i) else hasB C k:=by
  unfold hasB
  rw[List.getElem?_set]
  by_cases h:i=k
  ·subst h;simp[o.len,hi]
  ·rw[if_neg h,if_neg (Ne.symm h)]
 rw[e]
 by_cases h:k=i
 ·subst h;rw[if_pos rfl,o.el k hk];simp
 ·rw[if_neg h,o.el k hk]
  congr 2
  exact decide_eq_decide.2 (by omega)
theorem Iq.all {A B C:List Bool}(o:Iq A B C A.length) (hb:B.length=A.length) (k:Nat):hasB C k=true↔hasB A k=true\/hasB B k=true:=by
 by_cases hk:k<A.length
 ·rw[o.el k hk,decide_eq_true hk];simp
 ·have:∀{X:List Bool},X.length=A.length->hasB X k=false:=fun h=>by unfold hasB;rw[List.getElem?_eq_none (by omega)];rfl
  rw[this o.len,this rfl,this hb];simp
theorem N8 {rs:List Ru}{U1 R1 U2 R2 U R:List Bool}(hU:∀k,hasB U k=true↔hasB U1 k=true\/hasB U2 k=true) (hR:∀k,hasB R k=true↔hasB R1 k=true\/hasB R2 k=true) (h1:rs.all (ct U1 R1)=true) (h2:rs.all (ct U2 R2)=true):rs.all (ct U R)=true:=by
 have key:∀f,fF U R f=true↔fF U1 R1 f=true\/fF U2 R2 f=true:=fun f=>by
  obtain⟨b,n⟩:=f
  cases b
  ·exact hR n.toNat
  ·exact hU n.toNat
 rw[List.all_eq_true]at h1 h2 ⊢
 intro r hr
 refine cG.2 fun hg=>?_
 rcases (key _).1 hg with hg|hg
 ·obtain⟨g1,g2⟩:=cG.1 (h1 r hr) hg
  exact⟨g1,fun f hf=>(key f).2 (Or.inl (g2 f hf))⟩
 ·obtain⟨g1,g2⟩:=cG.1 (h2 r hr) hg
  exact⟨g1,fun f hf=>(key f).2 (Or.inr (g2 f hf))⟩
end Go.Am
namespace Go.Am
open Go Go.Proofs
set_option maxRecDepth 100000
theorem Sz {h:Heap}{L:LSq}{U R:List Bool}{nU nR a b:Nat}{K:D->Prop}(ha:a=U.length) (hb:b=R.length) (V:Vs h ((nR,.arr 1 (bL R))::(nU,.arr 1 (bL U))::L)) (hK:K (uE U R)):rV K (.agg [.ms nU 0 a,.ms nR 0 b]) h:=by
 subst ha;subst hb
 have e1:(h nU).row=some (1,bL U):=by rw[V.get 1 _ _ rfl];rfl
 have e2:(h nR).row=some (1,bL R):=by rw[V.get 0 _ _ rfl];rfl
 have bv:∀(S:List Bool) x,x∈bL S->∀y∈x.cells,y.vone=true:=fun S x hx y hy=>by
  simp only[bL,List.mem_map]at hx;obtain⟨b,-,rfl⟩:=hx
  simp[D.cells]at hy;subst hy;rfl
 have ef:(D.agg [.ms nU 0 U.length,.ms nR 0 R.length]).fzt h=uE U R:=by
  simp only[D.fzt,D.fz,D.fzc,List.map_cons,List.map_nil,e1,e2,List.drop_zero]
  rw[List.take_of_length_le (by rw[oH];omega),List.take_of_length_le (by rw[oH];omega)];rfl
 refine⟨fun x hx=>?_,fun x hx=>?_,?_,?_⟩
 ·simp[D.cells]at hx;rcases hx with rfl|rfl<;>rfl
 ·simp[D.cells]at hx
  rcases hx with rfl|rfl
  ·exact⟨1,_,e1,by rw[oH];omega,fun x hx y hy=>bv _ x (List.mem_of_mem_drop (List.mem_of_mem_take hx)) y hy⟩
  ·exact⟨1,_,e2,by rw[oH];omega,fun x hx y hy=>bv _ x (List.mem_of_mem_drop (List.mem_of_mem_take hx)) y hy⟩
 ·rw[ef];rfl
 ·rw[ef];exact hK
theorem Ti {c:Code}{nr:Nat}(hr:c.regs=(nr:Int)) (hn:c.b.length<=1000/\nr<=1000){t:Bool}:aV PP fR [c.e,.bool t] (· = uE (List.replicate c.b.length t) (List.replicate nr t)):=by
 refine br tE (aD _ _ _) rfl (sX _ _ _) (PB hr hn Vs.nil fun nU nR h' V=>?_)
 exact Sz (by simp) (by simp) V rfl
def Tn (len esz:Nat) (ps:List (Nat×Arg)) (z:D):Bool:=(ps.all fun p=>decide (p.1<len)&&decide ((p.2.get []).cells.length=esz)&&((p.2.get []).cells.all fun y=>y.one&&y.vone))&&z.cells.all D.vone
theorem Fq {fz:Bool}{esz len:Nat}{z r:D}{ps:List (Nat×Arg)}{h:Heap}{K:D->Prop}(hb:Tn len esz ps z=true) (hr:.sl (setEls (List.replicate len z) (ps.map fun p=>(p.1,p.2.get [])))=r) (hk:K r):ae PP (.bldS fz esz len z ps) h K:=by
 unfold Tn at hb
 simp only[Bool.and_eq_true,List.all_eq_true,decide_eq_true_eq]at hb
 obtain⟨h1,h2⟩:=hb
 refine⟨fun p hp=>?_,fun p hp=>?_,h2,by rw[hr];exact hk⟩
 ·simp only[List.mem_map]at hp
  obtain⟨q,hq,rfl⟩:=hp
  exact⟨(h1 q hq).1.1,(h1 q hq).1.2,fun y hy=>((h1 q hq).2 y hy).1⟩
 ·simp only[List.mem_map]at hp
  obtain⟨q,hq,rfl⟩:=hp
  exact fun y hy=>((h1 q hq).2 y hy).2
theorem Vs.To {h:Heap}{L:LSq}{KH:HKq}(V:Vs h L){a b c d e:Bool}{z:D}(hK:∀n h',Vs h' ((n,.arr 1 (bL [a,b,c,d,e]))::L)->KH (.ms n 0 5) h'):aa PP (.bldS true 1 5 z [(0,.c (.bool a)),(1,.c (.bool b)),(2,.c (.bool c)),(3,.c (.bool d)),(4,.c (.bool e))]) h KH:=by
 refine⟨fun p hp=>?_,fun _ p hp=>?_,fun n t=>?_⟩
 ·simp[Arg.get]at hp
  rcases hp with rfl|rfl|rfl|rfl|rfl<;>exact⟨by simp,rfl,fun x hx=>by simp[D.cells]at hx;subst hx;rfl⟩
 ·simp[Arg.get]at hp
  rcases hp with rfl|rfl|rfl|rfl|rfl<;>exact fun x hx=>by simp[D.cells]at hx;subst hx;trivial
 ·have:=hK n _ (V.push t.free (s:=.arr 1 (bL [a,b,c,d,e])) (by simp))
  simpa[Arg.get,setEls,D.fz,D.fzc,D.nm,D.ju,Heap.freezeAll,bL,List.replicate] using this
theorem Jr {h:Heap}{L:LSq}{KH:HKq}{A B:List Bool}{n k:Nat}(V:Vs h L) (hm:(n,Slot.arr 1 (bL B))∈L) (hk:k=B.length) (hl:A.length<=1000000) (hK:KH (.bool (decide (A=B))) h):ah PP dN [.sl (bL A),.ms n 0 k] h KH:=by
 subst hk
 have e2:(h n).row=some (1,bL B):=by rw[V.mem hm];rfl
 have f2:(D.ms n 0 B.length).fz h=.sl (bL B):=by
  simp only[D.fz,D.fzc,e2,List.drop_zero]
  rw[List.take_of_length_le (by rw[oH];omega)]
 obtain⟨g1,g2,g3⟩:=uJ (h:=h) (d:=.sl (bL A)) sK.pair.1
 refine ah.mono ?_ (eJ (K:=(· = .bool (decide (A=B)))) ?_ ?_)
 ·rintro d h' ⟨rfl,h2,-⟩
  rw[h2 (Or.inl rfl)];exact hK
 ·simp only[List.map_cons,List.map_nil,f2,g1]
  exact GP hl
 ·intro d hd
  simp at hd
  rcases hd with rfl|rfl
  ·exact⟨sK.pair.2,g3,by rw[g1];exact sK.pair.1⟩
  ·refine⟨fun x hx=>by simp[D.cells]at hx;subst hx;rfl,fun x hx=>?_,by rw[f2];exact sK.pair.1⟩
   simp[D.cells]at hx;subst hx
   refine⟨1,_,e2,by rw[oH];omega,fun x hx y hy=>?_⟩
   have:=List.mem_of_mem_drop (List.mem_of_mem_take hx)
   simp only[bL,List.mem_map]at this
   obtain⟨b,-,rfl⟩:=this
   simp[D.cells]at hy;subst hy;rfl
def PX (B:Block):D:=.agg (.nil::B.t.cs)
def OR:D:=.agg [.int .i64 4,.int .i64 1,.int .i64 5,.int .i64 0,.int .i64 0,.nil,.nil,.sl [wP.e,zE.e,PX zD,CM.e,PX DR]]
theorem Kx:aV PP kP [] (· = OR):=by
 refine br xe (aD _ _ _) rfl (w6 _) ?_
 unfold qK
 have reg:∀{n:Int}{h:Heap}{K:D->Prop},K (eQ n).e->ae PP (.call bm [.c (.int .i64 n)]) h K:=fun {n h K} hk=>zG (r:=(eQ n).e) o8 (fun d hd=>by simp[Arg.get]at hd;subst hd;exact aN.pair) hk
 have cst:∀{n:Int}{h:Heap}{K:D->Prop},K (Const n).e->ae PP (.call cv [.c (.int .i32 n)]) h K:=fun {n h K} hk=>zG (r:=(Const n).e) qj (fun d hd=>by simp[Arg.get]at hd;subst hd;exact aN.pair) hk
 refine Vs.nil.alloc fun n1 h2 V2=>?_
 rw[fS rfl,fS rfl]
 refine V2.alloc fun n7 h8 V8=>?_
 refine V8.qB (cs':=(⟨1,0,aj,aj,aj,2,0⟩:Term).cs) 0 rfl rfl rfl (fun y hy=>(⟨1,0,aj,aj,aj,2,0⟩:Term).dn.one y hy) fun h10 V10=>?_
 simp only[List.set_cons_zero]at V10
 refine bX o8 (fun d hd=>by simp at hd;subst hd;exact aN.pair) ?_
 rintro _ rfl
 rw[fS rfl]
 refine V10.alloc fun n15 h16 V16=>?_
 refine V16.qB (cs':=(⟨5,2,0,eQ 0,aj,aj,aj⟩:aO).cs) 0 rfl rfl rfl (fun y hy=>(⟨5,2,0,eQ 0,aj,aj,aj⟩:aO).dn.one y hy) fun h18 V18=>?_
 simp only[List.set_cons_zero]at V18
 refine bX o8 (fun d hd=>by simp at hd;subst hd;exact aN.pair) ?_
 rintro _ rfl
 rw[fS rfl]
 refine V18.alloc fun n23 h24 V24=>?_
 refine V24.qB (cs':=(⟨5,3,0,eQ 1,aj,aj,aj⟩:aO).cs) 0 rfl rfl rfl (fun y hy=>(⟨5,3,0,eQ 1,aj,aj,aj⟩:aO).dn.one y hy) fun h26 V26=>?_
 simp only[List.set_cons_zero]at V26
 rw[V26.x7 1 (s:=15) rfl rfl,V26.x7 0 (s:=15) rfl rfl]
 refine Fq (r:=.sl (wP.i.map aO.e)) rfl rfl ?_
 refine reg ?_
 rw[dD rfl,dD rfl,dD rfl]
 refine reg (cst ?_)
 rw[dD rfl]
 refine Fq (r:=.sl (zE.i.map aO.e)) rfl rfl ?_
 rw[V26.x7 2 (s:=13) rfl rfl,dD rfl]
 refine reg ?_
 rw[dD rfl,dD rfl,dD rfl]
 refine reg (reg ?_)
 rw[dD rfl]
 refine Fq (r:=.sl (CM.i.map aO.e)) rfl rfl ?_
 rw[dD rfl,dD rfl,dD rfl,dD rfl,dD rfl]
 refine Fq (r:=.sl [wP.e,zE.e,PX zD,CM.e,PX DR]) rfl rfl ?_
 rw[dD rfl]
 refine V26.qB (cs':=[.int .i64 4,.int .i64 1,.int .i64 5,.int .i64 0,.int .i64 0,.nil,.nil,.sl [wP.e,zE.e,PX zD,CM.e,PX DR]]) 3 rfl rfl rfl (fun y hy=>by simp at hy;rcases hy with rfl|rfl|rfl|rfl|rfl|rfl|rfl<;>rfl) fun h56 V56=>?_
 simp only[List.set_cons_succ,List.set_cons_zero]at V56
 rw[V56.kM 3 (s:=8) rfl rfl]
 exact⟨fun y hy=>by simp[D.cells]at hy;rcases hy with rfl|rfl|rfl|rfl|rfl|rfl|rfl<;>rfl,fun y hy=>by simp[D.cells]at hy;rcases hy with rfl|rfl|rfl|rfl|rfl|rfl|rfl<;>trivial,rfl,rfl⟩
theorem SW:KQ [OR] [ek.e]:=by
 have nb:∀t:Term,Wk (.agg (.nil::t.cs)) (.agg (.sl []::t.cs)):=fun t=>.agg _ _ rfl fun i x y h1 h2=>by
  cases i with
  | zero=>cases h1;cases h2;exact .nil
  | succ i=>rw[List.getElem?_cons_succ]at h1 h2;rw[h1]at h2;cases h2;exact .refl _
 refine .cons (.agg _ _ rfl fun i x y h1 h2=>?_) .nil
 match i with
 | 0|1|2|3|4=>cases h1;cases h2;exact .refl _
 | 5|6=>cases h1;cases h2;exact .nil
 | 7 =>
  cases h1;cases h2
  refine .sl _ _ rfl fun i x y h1 h2=>?_
  match i with
  | 0|1|3=>cases h1;cases h2;exact .refl _
  | 2|4=>cases h1;cases h2;exact nb _
  | i+5=>cases h1
 | i+8=>cases h1
theorem MM {d:D}:KQ [OR,d] [ek.e,d]:=by
 have:=SW
 cases this with
 | cons h k=>exact .cons h (.cons (.refl _) .nil)
theorem x6:xg OR:=fL (by simp[D.vone])
theorem OP:m6 ek [true,true,true,true,true] [true,true,true,true,true]=false:=by
 cases h:m6 ek [true,true,true,true,true] [true,true,true,true,true]
 ·rfl
 ·exfalso
  unfold m6 at h
  simp only[Bool.and_eq_true,List.all_eq_true]at h
  obtain⟨r,hr,ho,hv⟩:=GB
  have:=(cG.1 (h.2 r hr) (by rw[ho];rfl)).1
  rw[hv]at this;cases this
theorem OQ:m6 ek [false,false,false,false,false] [false,false,false,false,false]=true:=by
 unfold m6
 have:(iD ek).all (ct [false,false,false,false,false] [false,false,false,false,false])=true:=by
  rw[List.all_eq_true]
  refine fun r hr=>cG.2 fun hg=>?_
  exfalso
  unfold fF xw at hg
  have key:∀k,hasB [false,false,false,false,false] k=false:=fun k=>by
   unfold hasB
   match k with
   | 0|1|2|3|4=>rfl
   | k+5=>rfl
  split at hg<;>rw[key]at hg<;>cases hg
 rw[this];rfl
theorem GO:aV PP jF [] (· = .bool true):=by
 refine br tJ (aD _ _ _) rfl (tc _) ?_
 unfold nG
 refine bX Kx (fun d hd=>by simp at hd) ?_
 rintro _ rfl
 refine Vs.nil.alloc fun n3 h4 V4=>?_
 refine V4.qB 0 rfl rfl rfl (fun y hy=>x6.one y hy) fun h6 V6=>?_
 simp only[List.set_cons_zero]at V6
 rw[V6.kM 0 (s:=8) rfl rfl,show D.agg [.int .i64 4,.int .i64 1,.int .i64 5,.int .i64 0,.int .i64 0,.nil,.nil,.sl [wP.e,zE.e,PX zD,CM.e,PX DR]]=OR from rfl]
 refine bX (aV.arg SW (Rv Ep)) (fun d hd=>by simp at hd;subst hd;exact x6.pair) ?_
 rintro _ ⟨rfl,hD⟩
 unfold uF
 rw[S3 hD,S4 hD]
 refine V6.alloc fun n11 h12 V12=>?_
 refine V12.qB 0 rfl rfl rfl (fun y hy=>GG.one y hy) fun h14 V14=>?_
 simp only[List.set_cons_zero]at V14
 have l3:∀{K:D->Prop},ae PP (.ld (.c (.ptr n3 0 0)) 8 true) h14 K=K OR:=fun {K}=>V14.x7 1 (s:=8) rfl rfl
 have chk:∀{U R:List Bool}{K:D->Prop},K (.int .i64 (if m6 ek U R then 0 else 100))->ae PP (.call bn [.c OR,.c (uE U R)]) h14 K:=fun {U R K} hk =>
  zG (r:=.int .i64 (if m6 ek U R then 0 else 100)) (aV.arg MM (Fv Ep (Or.inl rfl) (Or.inl rfl))) (fun d hd=>by simp[Arg.get]at hd;rcases hd with rfl|rfl;exact x6.pair;exact GG.pair) hk
 have chkN:∀{K:D->Prop},K (.int .i64 (if m6 ek [] [] then 0 else 100))->ae PP (.call bn [.c OR,.c (.agg [.nil,.nil])]) h14 K:=fun {K} hk =>
  zG (r:=.int .i64 (if m6 ek [] [] then 0 else 100)) (aV.arg MM (Fv Ep (Or.inr ⟨rfl,rfl⟩) (Or.inr ⟨rfl,rfl⟩))) (fun d hd=>by simp[Arg.get]at hd;rcases hd with rfl|rfl;exact x6.pair;exact(fL (by simp[D.vone])).pair) hk
 have all:∀{t:Bool}{K:D->Prop},K (uE [t,t,t,t,t] [t,t,t,t,t])->ae PP (.call fR [.c OR,.c (.bool t)]) h14 K:=fun {t K} hk =>
  zG (r:=uE [t,t,t,t,t] [t,t,t,t,t]) (aV.arg MM (Ti (c:=ek) (nr:=5) rfl ⟨by decide,by decide⟩)) (fun d hd=>by simp[Arg.get]at hd;rcases hd with rfl|rfl;exact x6.pair;exact MU.pair) hk
 have hk:=Jb Ep
 rw[S3 hD,S4 hD]at hk
 rw[l3,V14.x7 0 (s:=2) rfl rfl]
 refine chk (U:=[true,false,true,true,true]) (R:=[false,true,false,true,true]) ?_
 rw[Fs rfl rfl hk,if_pos rfl,gh,decide_eq_true rfl]
 simp only[D5,Bool.not_true]
 rw[l3,l3]
 refine all ?_
 refine chk ?_
 rw[OQ,if_pos rfl,gh,decide_eq_true rfl,dT,bq]
 simp only[D5,Bool.not_true,Bool.false_eq_true,if_false]
 rw[l3,l3]
 refine all ?_
 refine chk ?_
 rw[OP]
 simp only[Bool.false_eq_true,if_false]
 rw[gh,decide_eq_true rfl,dT,bq]
 simp only[D5,Bool.not_true,Bool.false_eq_true,if_false]
 rw[l3,dD rfl]
 refine chkN ?_
 rw[show m6 ek [] []=false from rfl]
 simp only[Bool.false_eq_true,if_false]
 rw[gh,decide_eq_true rfl,dT,bq]
 simp only[Bool.not_true,Bool.false_eq_true,if_false]
 rw[af,V14.fa 0 rfl,V14.b9 0 (j:=0+0) rfl rfl]
 refine V14.To fun n82 h83 V83=>?_
 refine Jr V83 (B:=[true,false,true,true,true]) (by simp) rfl (by decide) ?_
 rw[decide_eq_true rfl]
 simp only[gD,Bool.not_false,Bool.not_true,Bool.false_eq_true,if_true,if_false]
 rw[V83.fa 1 rfl,V83.b9 1 (j:=0+1) rfl rfl]
 refine V83.To fun n99 h100 V100=>?_
 refine Jr V100 (B:=[false,true,false,true,true]) (by simp) rfl (by decide) ?_
 rw[decide_eq_true rfl]
 first|rw[bo]|(simp only[gD,if_true];rw[bo])
end Go.Am
namespace Go.Am
open Go Go.Proofs
def FE (c:Code) (nU nR nu mU mR mu nr:Nat) (U R U2 R2:List Bool) (Z:LSq):LSq :=
 (mu,.box (.agg [.ms mU 0 c.b.length,.ms mR 0 nr]))::(mR,.arr 1 (bL R2))::(mU,.arr 1 (bL U2))::(nu,.box (.agg [.ms nU 0 c.b.length,.ms nR 0 nr]))::(nR,.arr 1 (bL R))::(nU,.arr 1 (bL U))::Z
section
variable {c:Code}{nU nR nu mU mR mu nr:Nat}{U R U2 R2:List Bool}{Z:LSq}{h:Heap}
theorem TO (hn:c.b.length<=1000) (hU:U.length=c.b.length) (hU2:U2.length=c.b.length) (V:Vs h (FE c nU nR nu mU mR mu nr U R U2 R2 Z)){a6 a13:D}{J:HJq}(hJ:∀h' C,Iq U U2 C U.length->Vs h' (FE c nU nR nu mU mR mu nr C R U2 R2 Z)->J [] h') :
  eK h (.ptr nu 0 0) (.ptr mu 0 0) a6 a13 J:=by
 unfold eK
 refine⟨fun m q h'=>∃(i:Nat) (C:List Bool),q=[nD i]/\i<=c.b.length/\m=c.b.length-i/\Iq U U2 C i/\Vs h' (FE c nU nR nu mU mR mu nr C R U2 R2 Z),_,⟨0,U,rfl,by omega,rfl,.zero,V⟩,?_⟩
 rintro m f h1 ⟨i,C,hq,hi,hm,o,V1⟩
 simp only[List.cons.injEq,and_true]at hq
 have hC:C.length=c.b.length:=by rw[o.len,hU]
 rw[hq,V1.fa 3 rfl,V1.b9 3 (j:=0+0) rfl rfl,aU,V1.get 5 _ _ rfl]
 refine⟨rfl,?_⟩
 by_cases hlt:¬i<c.b.length
 ·have:i=U.length:=by omega
  subst this
  rw[nD,kj (by omega),af]
  simp only[ab,true_and]
  exact hJ h1 C o V1
 replace hlt:i<c.b.length:=Decidable.not_not.1 hlt
 rw[nD,kL (by omega),ag]
 rw[V1.me 3 rfl,V1.iF 3 (j:=0+0) rfl rfl,V1.me 3 rfl,V1.iF 3 (j:=0+0) rfl rfl,V1.Aq 5 rfl (by omega) (by omega),Int.toNat_natCast,V1.uq 5 rfl (ca (aR (by omega))) rfl]
 have fin:∀(b:Bool),b=(hasB C i||hasB U2 i)->ae PP (.iadd (.c (.ms nU 0 c.b.length)) (.c (.int .i64 (i:Int))) 1) h1 fun a300=>aa PP (.st (.c a300) (.c (.bool b)) 1) h1 fun a301 h302=>vbin .add (.int .i64 (i:Int)) (.int .i64 1) fun a303=>∃m',m'<m/\∃(i:Nat) (C:List Bool),[a303]=[nD i]/\i<=c.b.length/\m'=c.b.length-i/\Iq U U2 C i/\Vs h302 (FE c nU nR nu mU mR mu nr C R U2 R2 Z):=fun b hb=>by
  subst hb
  rw[V1.Aq 5 rfl (by omega) (by omega),Int.toNat_natCast]
  refine V1.rh 5 rfl (by rw[oH];omega) rfl (du _) fun h2 V2=>?_
  rw[dt]at V2
  rw[cC (by omega) (by omega)]
  exact⟨_,by omega,i+1,_,rfl,by omega,rfl,o.set (by omega),V2⟩
 cases g1:hasB C i
 ·simp only[D5]
  rw[V1.me 0 rfl,V1.iF 0 (j:=0+0) rfl rfl,V1.Aq 2 rfl (by omega) (by omega),Int.toNat_natCast,V1.uq 2 rfl (ca (aR (by omega))) rfl,dT,bq]
  simp only[Bool.false_eq_true,if_false,ab,true_and]
  exact fin _ (by rw[g1];rfl)
 ·simp only[Ht,K8]
  rw[dT,bq,if_pos rfl]
  simp only[ab,true_and]
  exact fin _ (by rw[g1];rfl)
theorem TP (hn:nr<=1000) (hR:R.length=nr) (hR2:R2.length=nr) (V:Vs h (FE c nU nR nu mU mR mu nr U R U2 R2 Z)){a6 a13:D}{J:HJq}(hJ:∀h' C,Iq R R2 C R.length->Vs h' (FE c nU nR nu mU mR mu nr U C U2 R2 Z)->J [] h') :
  eM h (.ptr nu 0 0) (.ptr mu 0 0) a6 a13 J:=by
 unfold eM
 refine⟨fun m q h'=>∃(i:Nat) (C:List Bool),q=[nD i]/\i<=nr/\m=nr-i/\Iq R R2 C i/\Vs h' (FE c nU nR nu mU mR mu nr U C U2 R2 Z),_,⟨0,R,rfl,by omega,rfl,.zero,V⟩,?_⟩
 rintro m f h1 ⟨i,C,hq,hi,hm,o,V1⟩
 simp only[List.cons.injEq,and_true]at hq
 have hC:C.length=nr:=by rw[o.len,hR]
 rw[hq,V1.fa 3 rfl,V1.b9 3 (j:=0+1) rfl rfl,aU,V1.get 4 _ _ rfl]
 refine⟨rfl,?_⟩
 by_cases hlt:¬i<nr
 ·have:i=R.length:=by omega
  subst this
  rw[nD,kj (by omega),af]
  simp only[ab,true_and]
  exact hJ h1 C o V1
 replace hlt:i<nr:=Decidable.not_not.1 hlt
 rw[nD,kL (by omega),ag]
 rw[V1.me 3 rfl,V1.iF 3 (j:=0+1) rfl rfl,V1.me 3 rfl,V1.iF 3 (j:=0+1) rfl rfl,V1.Aq 4 rfl (by omega) (by omega),Int.toNat_natCast,V1.uq 4 rfl (ca (aR (by omega))) rfl]
 have fin:∀(b:Bool),b=(hasB C i||hasB R2 i)->ae PP (.iadd (.c (.ms nR 0 nr)) (.c (.int .i64 (i:Int))) 1) h1 fun a300=>aa PP (.st (.c a300) (.c (.bool b)) 1) h1 fun a301 h302=>vbin .add (.int .i64 (i:Int)) (.int .i64 1) fun a303=>∃m',m'<m/\∃(i:Nat) (C:List Bool),[a303]=[nD i]/\i<=nr/\m'=nr-i/\Iq R R2 C i/\Vs h302 (FE c nU nR nu mU mR mu nr U C U2 R2 Z):=fun b hb=>by
  subst hb
  rw[V1.Aq 4 rfl (by omega) (by omega),Int.toNat_natCast]
  refine V1.rh 4 rfl (by rw[oH];omega) rfl (du _) fun h2 V2=>?_
  rw[dt]at V2
  rw[cC (by omega) (by omega)]
  exact⟨_,by omega,i+1,_,rfl,by omega,rfl,o.set (by omega),V2⟩
 cases g1:hasB C i
 ·simp only[D5]
  rw[V1.me 0 rfl,V1.iF 0 (j:=0+1) rfl rfl,V1.Aq 1 rfl (by omega) (by omega),Int.toNat_natCast,V1.uq 1 rfl (ca (aR (by omega))) rfl,dT,bq]
  simp only[Bool.false_eq_true,if_false,ab,true_and]
  exact fin _ (by rw[g1];rfl)
 ·simp only[Ht,K8]
  rw[dT,bq,if_pos rfl]
  simp only[ab,true_and]
  exact fin _ (by rw[g1];rfl)
end
theorem JV {bs xs ys:List Nat}(hb:∀b∈bs,b<=255) (hl:bs.length<=9223372036854775807) (hx:xs.length<=9223372036854775807) (hy:ys.length<=9223372036854775807):aV PP kh [xD bs,oo xs,oo ys] (· = .bool true):=by
 refine br pM (aD _ _ _) rfl (pC _ _ _ _) ?_
 unfold kA
 refine Vs.nil.box (IM bs).one fun n4 h5 V5=>?_
 refine bX GO (fun d hd=>by simp at hd) ?_
 rintro _ rfl
 rw[da,Bool.not_true,af,V5.kM 0 (s:=1) (cs:=[oo bs]) rfl rfl]
 refine bX (Rt hb hl) (fun d hd=>by simp at hd;subst hd;exact(IM bs).pair) ?_
 rintro _ ⟨c,hc,rfl⟩
 have hnb:=hc.nb
 have hrg:=hc.u.rg
 obtain⟨nr,hnr⟩:∃nr:Nat,c.regs=(nr:Int):=⟨c.regs.toNat,by omega⟩
 let cs:List D:=[.int .i64 c.group,.int .i64 c.sub,.int .i64 c.regs,.int .i64 c.slots,.int .i64 c.params,.sl (c.arrays.map uI.e),.sl (c.loops.map Loop.e),.sl (c.b.map Block.e)]
 refine V5.alloc fun n13 h14 V14=>?_
 refine V14.qB (cs':=cs) 0 rfl rfl rfl (fun y hy=>c.dn.one y hy) fun h16 V16=>?_
 simp only[List.set_cons_zero]at V16
 have ldE:∀{KH:HKq}{h:Heap}{M:LSq},Vs h M->(n13,Slot.box (.agg cs))∈M->aa PP (.ld (.c (.ptr n13 0 0)) 8 true) h KH=KH c.e h:=fun {KH h M} V hm=>V.Mq (cs:=cs) hm rfl
 rw[ldE V16 (by simp)]
 refine RG hc.u.g V16 fun hD=>?_
 refine Nw hc.u hD hnr hx V16 fun nU nR U R X h20 ul rl ck le1 le2 V20=>?_
 refine V20.alloc fun nu h22 V22=>?_
 refine V22.qB 0 rfl rfl rfl (fun x hx=>by simp at hx;rcases hx with rfl|rfl<;>rfl) fun h24 V24=>?_
 simp only[List.set_cons_zero]at V24
 rw[ldE V24 (by simp)]
 refine Nw hc.u hD hnr hy V24 fun mU mR U2 R2 X2 h28 ul2 rl2 ck2 le3 le4 V28=>?_
 refine V28.alloc fun mu h30 V30=>?_
 refine V30.qB 0 rfl rfl rfl (fun x hx=>by simp at hx;rcases hx with rfl|rfl<;>rfl) fun h32 V32=>?_
 simp only[List.set_cons_zero]at V32
 obtain⟨Z,hZ⟩:∃Z,Z=X2++(X++[(n13,Slot.box (.agg cs)),(n4,.box (xD bs))]):=⟨_,rfl⟩
 have V33:Vs h32 (FE c nU nR nu mU mR mu nr U R U2 R2 Z):=by
  refine V32.perm (.cons _ (.cons _ (.cons _ ?_)))
  rw[hZ]
  exact List.perm_append_comm_assoc X2 [(nu,.box (.agg [.ms nU 0 c.b.length,.ms nR 0 nr])),(nR,.arr 1 (bL R)),(nU,.arr 1 (bL U))] (X++[(n13,Slot.box (.agg cs)),(n4,.box (xD bs))])
 have m13:∀{U R:List Bool},(n13,Slot.box (.agg cs))∈FE c nU nR nu mU mR mu nr U R U2 R2 Z:=fun {U R}=>by simp[FE,hZ]
 rw[ldE V33 m13,V33.kM 3 (s:=2) rfl rfl]
 refine C4 hc.u V33 (U:=U) (R:=R) (Or.inr ⟨nU,by rw[ul],by simp[FE]⟩) (Or.inr ⟨nR,by rw[rl],by simp[FE]⟩) ?_
 rw[Fs ul (by omega) ck,if_pos rfl,gh,decide_eq_true rfl]
 simp only[gD,Bool.not_false,Bool.not_true,Bool.false_eq_true,if_true,if_false]
 rw[ldE V33 m13,V33.kM 0 (s:=2) rfl rfl]
 refine C4 hc.u V33 (U:=U2) (R:=R2) (Or.inr ⟨mU,by rw[ul2],by simp[FE]⟩) (Or.inr ⟨mR,by rw[rl2],by simp[FE]⟩) ?_
 rw[Fs ul2 (by omega) ck2,if_pos rfl,gh,decide_eq_true rfl]
 simp only[gD,Bool.not_false,Bool.not_true,Bool.false_eq_true,if_true,if_false]
 rw[af]
 refine⟨fun _ h'=>∃C,Iq U U2 C U.length/\Vs h' (FE c nU nR nu mU mR mu nr C R U2 R2 Z),?_,TO (by omega) ul ul2 V33 fun h' C o V'=>⟨C,o,V'⟩⟩
 rintro f h63 ⟨C,o,V63⟩
 refine⟨fun _ h'=>∃E,Iq R R2 E R.length/\Vs h' (FE c nU nR nu mU mR mu nr C E U2 R2 Z),?_,TP (by omega) rl rl2 V63 fun h' E o V'=>⟨E,o,V'⟩⟩
 rintro f2 h66 ⟨E,o2,V66⟩
 have lC:C.length=c.b.length:=by rw[o.len,ul]
 have lE:E.length=nr:=by rw[o2.len,rl]
 rw[ldE V66 m13,V66.kM 3 (s:=2) rfl rfl]
 refine C4 hc.u V66 (U:=C) (R:=E) (Or.inr ⟨nU,by rw[lC],by simp[FE]⟩) (Or.inr ⟨nR,by rw[lE],by simp[FE]⟩) ?_
 rw[Fs lC (by omega) (N8 (o.all (by omega)) (o2.all (by omega)) ck ck2),if_pos rfl,b6,decide_eq_true rfl]
 first|rw[bo]|(simp only[gD,Bool.not_false,Bool.not_true,Bool.false_eq_true,if_true,if_false];rw[bo])
end Go.Am
namespace Go.Am
open Go Go.Proofs
set_option maxRecDepth 100000
theorem Sa:Try.prog.underlying 22=some (.slice 5):=by kernel_rfl
theorem UL:Try.prog.underlying 5=some (.int .u8):=by kernel_rfl
theorem t24:structL Try.prog 24=some [(22,0)]:=by kernel_rfl
theorem z24:Try.prog.cellsOf 24=1:=by kernel_rfl
theorem z22:Try.prog.cellsOf 22=1:=by kernel_rfl
theorem z5:Try.prog.cellsOf 5=1:=by kernel_rfl
theorem PJ:IntKind.u8.min=0:=rfl
theorem R9:IntKind.u8.max=255:=rfl
theorem Ll {m:Nat}{ds:List D}(h:HasTy Try.prog (m+2) 22 ds):∃bs:List Nat,ds=[oo bs]/\(∀b∈bs,b<=255)/\bs.length<=9223372036854775807:=by
 obtain⟨xs,h1,h2,h3⟩:=HK Sa UL h
 refine⟨xs.map Int.toNat,?_,fun b hb=>?_,by unfold maxLen at h2;simp;omega⟩
 ·rw[h1,oo,List.map_map]
  congr 2
  refine List.map_congr_left fun x hx=>?_
  have:=h3 x hx
  rw[PJ]at this
  show D.int .u8 x=D.int .u8 ((x.toNat:Nat):Int)
  rw[Int.toNat_of_nonneg this.1]
 ·simp only[List.mem_map]at hb
  obtain⟨x,hx,rfl⟩:=hb
  have:=h3 x hx
  rw[PJ,R9]at this
  omega
theorem QA {m:Nat}{ds:List D}(h:HasTy Try.prog (m+3) 24 ds):∃bs:List Nat,mkElem Try.prog 24 ds=xD bs/\(∀b∈bs,b<=255)/\bs.length<=9223372036854775807:=by
 obtain⟨k1,k2⟩:=E5 t24 h
 rw[z24]at k1
 have q:=k2 (22,0) (by simp)
 simp only[z22,List.drop_zero]at q
 match ds,k1 with
 | [d],_ =>
  obtain⟨bs,e1,hb,hbl⟩:=Ll q
  simp at e1
  subst e1
  exact⟨bs,by rw[JR t24,xD],hb,hbl⟩
end Go.Am
namespace Go.Am
open Go Go.Proofs
set_option maxRecDepth 100000
theorem QQ (xs:List D) (h:Dq Try.prog 12 Try.f5.params.toList xs):aV Try.prog 5 xs (· = .bool true):=by
 have hp:Try.f5.params.toList=[24,22,22]:=by kernel_rfl
 rw[hp]at h
 obtain⟨c1,r1,rfl,h1,c2,r2,rfl,h2,c3,r3,rfl,h3,rfl⟩:=h
 obtain⟨bs,e1,b1,b2⟩:=QA h1
 obtain⟨ys,rfl,-,hy⟩:=Ll h2
 obtain⟨zs,rfl,-,hz⟩:=Ll h3
 have e2:∀ys:List Nat,mkElem Try.prog 22 [oo ys]=oo ys:=fun ys=>Mi Sa _
 show aV Try.prog 5 [mkElem Try.prog 24 c1,mkElem Try.prog 22 [oo ys],mkElem Try.prog 22 [oo zs]] _
 rw[e1,e2,e2]
 exact JV b1 b2 hy hz
end Go.Am
