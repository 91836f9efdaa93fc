/- What the functions of this chapter give, on plain data. No condition. -/
import Derived.Test.YtjhjndjghaagiaaZ1
set_option linter.unnecessarySimpa false
set_option linter.defProp false
set_option linter.unusedSectionVars false
set_option linter.unusedSimpArgs false
set_option linter.unusedVariables false
namespace Go.Am
open Go Go.Proofs
section
variable {h:Heap}{F:LSq}{KH:HKq}{nB:Nat}{A:List (Nat×Block)}
theorem OB.Ml:OB h nB A F↔Vs h (F++(nB,.arr 14 (A.map ko))::A.map sT) :=
 ⟨fun V=>Vs.perm (List.perm_append_comm (l₁:=(nB,.arr 14 (A.map ko))::A.map sT) (l₂:=F)) V,fun V=>V.perm (List.perm_append_comm (l₁:=F) (l₂:=(nB,.arr 14 (A.map ko))::A.map sT))⟩
theorem OB.L9 (V:OB h nB A F):Vs h F:=(OB.Ml.1 V).sub (List.sublist_append_left F _)
theorem OB.alloc (V:OB h nB A F){d:D}(hK:∀n h',OB h' nB A ((n,.box d)::F)->KH (.ptr n 0 0) h'):aa PP (.alloc d) h KH :=
 (OB.Ml.1 V).alloc fun n h' V'=>hK n h' (OB.Ml.2 V')
theorem OB.less {x:Nat×Slot}(V:OB h nB A (x::F)):OB h nB A F:=OB.Ml.2 (OB.Ml.1 V).pop
theorem OB.PT {n s:Nat}{cs cs':List D}(V:OB h nB A ((n,.box (.agg cs))::F)) (hl:cs.length=s) (hl':cs'.length=s) (ho:∀x,x∈cs'->x.one=true) (hK:∀h',OB h' nB A ((n,.box (.agg cs'))::F)->KH .undef h'):aa PP (.st (.c (.ptr n 0 0)) (.c (.agg cs')) s) h KH :=
 (OB.Ml.1 V).zE 0 rfl hl hl' ho fun h' V'=>hK h' (OB.Ml.2 V')
end
def p8 (l:List aH) (k:Nat):List aH:=(l.mapIdx kY).take k++l.drop k
theorem MP {l:List aH}:p8 l 0=l:=by simp[p8]
theorem FK {l:List aH}:p8 l l.length=l.mapIdx kY:=by
 unfold p8;rw[List.drop_length,List.append_nil,List.take_of_length_le (by simp)]
theorem HQ {l:List aH}{k:Nat}(h:k<=l.length):(p8 l k).length=l.length:=by simp[p8];omega
theorem HS {l:List aH}{k:Nat}{x:aH}(h:l[k]?=some x):(p8 l k)[k]?=some x:=by
 have hk:=(List.getElem?_eq_some_iff.1 h).1
 have h1:((l.mapIdx kY).take k).length=k:=by simp;omega
 unfold p8
 rw[List.getElem?_append_right (by omega),h1,Nat.sub_self,List.getElem?_drop,Nat.add_zero,h]
theorem BD {l:List aH}{k:Nat}{x:aH}(h:l[k]?=some x):(p8 l k).set k (kY k x)=p8 l (k+1):=by
 have hk:=(List.getElem?_eq_some_iff.1 h).1
 have h1:((l.mapIdx kY).take k).length=k:=by simp;omega
 have h2:l.drop k=x::l.drop (k+1):=by
  rw[List.drop_eq_getElem_cons hk,(List.getElem?_eq_some_iff.1 h).2]
 unfold p8
 rw[List.set_append_right _ _ (by omega),h1,Nat.sub_self,h2,List.set_cons_zero,List.take_add_one,List.getElem?_mapIdx,h]
 simp
abbrev u6 (c:Code) (nA nL nB n13 n2:Nat) (bs:List Nat):LSq:=[(n13,.box (sq c (.ms nA 0 c.arrays.length) (.ms nL 0 c.loops.length) (.ms nB 0 c.b.length))),(nL,.arr 3 (c.loops.map Loop.e)),(nA,.arr 4 (c.arrays.map sQ.e)),(n2,.box (qF bs))]
section
variable {c:Code}{h:Heap}{nA nL nB n13 n2:Nat}{bs:List Nat}{A:List (Nat×Block)}
theorem GZ {b w:Nat}{B:Block}(hA:A[b]?=some (w,B)) (hb:b<c.b.length) (hBl:B.i.length<=100) (V:OB h nB A (u6 c nA nL nB n13 n2 bs)){a4:D}{f:Nat->D}(hf:f 5=nD b){J:HJq}(hJ:∀h',OB h' nB (A.set b (w,{ B with i:=B.i.mapIdx kY })) (u6 c nA nL nB n13 n2 bs)->J [] h') :
  db h (.ptr n13 0 0) f a4 J:=by
 have hbA:=(List.getElem?_eq_some_iff.1 hA).1
 unfold db
 refine⟨fun m q h'=>∃k:Nat,q=[nD k]/\k<=B.i.length/\m=B.i.length-k/\OB h' nB (A.set b (w,{ B with i:=p8 B.i k })) (u6 c nA nL nB n13 n2 bs),_,⟨0,rfl,by omega,rfl,by rw[MP];rw[show(w,{ B with i:=B.i })=(w,B) from rfl,uy hA];exact V⟩,?_⟩
 rintro m g h1 ⟨k,hq,hk,hm,V1⟩
 simp only[List.cons.injEq,and_true]at hq
 have getb:∀{B':Block},(A.set b (w,B'))[b]?=some (w,B'):=fun {B'}=>by rw[List.getElem?_set,if_pos rfl,if_pos hbA]
 have setb:∀{B' B'':Block},(A.set b (w,B')).set b (w,B'')=A.set b (w,B''):=fun {B' B''}=>List.set_set ..
 have Vf1:=V1.L9
 have hml:=HQ hk
 simp only[hq,hf,nD]
 rw[Vf1.fa 0 rfl,Vf1.fV 0 (j:=0+7) rfl rfl,V1.ia hb,V1.fa,V1.Pw getb,V1.PL getb]
 simp only[hml]
 by_cases hlt:k<B.i.length
 ·rw[sf (by omega),ai]
  obtain⟨x,hx⟩:∃x,B.i[k]?=some x:=⟨B.i[k],List.getElem?_eq_getElem hlt⟩
  have hxm:=HS hx
  refine⟨fun _ h'=>OB h' nB (A.set b (w,{ B with i:=p8 B.i (k+1) })) (u6 c nA nL nB n13 n2 bs),?_,?_⟩
  ·rintro f' h' V'
   rw[gd (by omega) (by omega)]
   simp only[ab,true_and]
   exact⟨_,by omega,k+1,rfl,by omega,rfl,V'⟩
  rw[Vf1.fa 0 rfl,Vf1.fV 0 (j:=0+7) rfl rfl,V1.ia hb,V1.fa,V1.Pw getb,V1.PM getb (by simp only[hml];omega),V1.Q6 getb hxm]
  refine V1.alloc fun n182 h183 V183=>?_
  refine V183.PT (cs':=x.cs) rfl rfl (fun y hy=>x.gM.one y hy) fun h185 V185=>?_
  refine⟨fun _ h'=>OB h' nB (A.set b (w,{ B with i:=(p8 B.i k).set k (if x.op=5 then { x with sub:=3+((k % 3:Nat):Int) } else x) })) ((n182,.box x.e)::u6 c nA nL nB n13 n2 bs),?_,?_⟩
  ·rintro f2 h188 V188
   have Vf:=V188.L9
   rw[Vf.fa 0 rfl,Vf.fV 0 (j:=0+0) (cs:=x.cs) rfl rfl,cU]
   by_cases h7:x.op=7
   ·rw[decide_eq_true h7,ai]
    have h5:¬x.op=5:=by omega
    rw[if_neg h5,uy hxm]at V188
    have Vf:=V188.L9
    rw[Vf.qg 1 rfl,Vf.u5 1 (j:=0+7) rfl rfl,V188.C4 hb,V188.qg,V188.Qo getb]
    rw[cr]
    refine⟨by omega,?_⟩
    rw[show((k:Int).tmod 3)=((k % 3:Nat):Int) from aV k 3,Vf.qg 0 rfl,lT,LC (Vf.get 0 _ _ rfl),ly rfl,V188.Qm getb (by simp only[hml];omega)]
    refine V188.QY (x':=⟨6,0,((k % 3:Nat):Int),x.d,au,au,au⟩) getb hxm fun h205 V205=>?_
    simp only[ab,true_and]
    rw[setb]at V205
    have e:(p8 B.i k).set k ⟨6,0,((k % 3:Nat):Int),x.d,au,au,au⟩=p8 B.i (k+1):=by
     rw[<- BD hx];simp[kY,h7]
    simp only[e]at V205
    exact V205.less
   ·rw[decide_eq_false h7,ah]
    simp only[ab,true_and]
    have e:(p8 B.i k).set k (if x.op=5 then { x with sub:=3+((k % 3:Nat):Int) } else x)=p8 B.i (k+1):=by
     rw[<- BD hx];simp[kY,h7]
    rw[e]at V188
    exact V188.less
  have Vf:=V185.L9
  rw[Vf.fa 0 rfl,Vf.fV 0 (j:=0+0) rfl rfl,cU]
  by_cases h5:x.op=5
  ·rw[decide_eq_true h5,ai,Vf.fa 1 rfl,Vf.fV 1 (j:=0+7) rfl rfl,V185.ia hb,V185.fa,V185.Pw getb,cr]
   refine⟨by omega,?_⟩
   rw[show((k:Int).tmod 3)=((k % 3:Nat):Int) from aV k 3,gd (by omega) (by omega),V185.PM getb (by simp only[hml];omega),V185.QU getb]
   refine V185.Q0 getb hxm fun h228 V228=>?_
   simp only[ab,true_and]
   rw[setb]at V228
   rw[if_pos h5]
   exact V228
  ·rw[decide_eq_false h5,ah]
   simp only[ab,true_and]
   rw[if_neg h5,uy hxm]
   exact V185
 ·have:k=B.i.length:=by omega
  subst this
  rw[qK (by omega),ah]
  simp only[ab,true_and]
  rw[FK]at V1
  exact hJ h1 V1
def zo (l:List Block) (b:Nat):List Block:=(l.map p6).take b++l.drop b
theorem HU {l:List Block}{b:Nat}{B:Block}(h:l[b]?=some B):(zo l b)[b]?=some B:=by
 have hk:=(List.getElem?_eq_some_iff.1 h).1
 have h1:((l.map p6).take b).length=b:=by simp;omega
 unfold zo
 rw[List.getElem?_append_right (by omega),h1,Nat.sub_self,List.getElem?_drop,Nat.add_zero,h]
theorem HT {l:List Block}{b:Nat}{B:Block}(h:l[b]?=some B):(zo l b).set b (p6 B)=zo l (b+1):=by
 have hk:=(List.getElem?_eq_some_iff.1 h).1
 have h1:((l.map p6).take b).length=b:=by simp;omega
 have h2:l.drop b=B::l.drop (b+1):=by
  rw[List.drop_eq_getElem_cons hk,(List.getElem?_eq_some_iff.1 h).2]
 unfold zo
 rw[List.set_append_right _ _ (by omega),h1,Nat.sub_self,h2,List.set_cons_zero,List.take_add_one,List.getElem?_map,h]
 simp
theorem Fq (hc:kU c) (hA:A.map Prod.snd=c.b) (V:OB h nB A (u6 c nA nL nB n13 n2 bs)){a4:D}{J:HJq}(hJ:∀h' (A':List (Nat×Block)),A'.map Prod.snd=c.b.map p6->OB h' nB A' (u6 c nA nL nB n13 n2 bs)->J [] h') :
  da h (.ptr n13 0 0) a4 J:=by
 have hnb:=hc.g.nb
 unfold da
 refine⟨fun m q h'=>∃(b:Nat) (A:List (Nat×Block)),q=[nD b]/\b<=c.b.length/\m=c.b.length-b/\A.map Prod.snd=zo c.b b/\OB h' nB A (u6 c nA nL nB n13 n2 bs),_,⟨0,A,rfl,by omega,rfl,by simpa[zo] using hA,V⟩,?_⟩
 rintro m f h1 ⟨b,A1,hq,hb,hm,hA1,V1⟩
 simp only[List.cons.injEq,and_true]at hq
 have Vf1:=V1.L9
 rw[Vf1.fa 0 rfl,Vf1.fV 0 (j:=0+7) rfl rfl,V1.len]
 simp only[hq,nD]
 by_cases hlt:b<c.b.length
 ·rw[sf (by omega),ai]
  obtain⟨B,hB⟩:∃B,c.b[b]?=some B:=⟨c.b[b],List.getElem?_eq_getElem hlt⟩
  have hBm:=List.mem_of_getElem? hB
  obtain⟨w,hAb⟩:∃w,A1[b]?=some (w,B):=by
   have h1:=HU hB
   rw[<- hA1,List.getElem?_map,Option.map_eq_some_iff]at h1
   obtain⟨⟨w,B'⟩,h2,h3⟩:=h1
   simp only at h3;subst h3
   exact⟨w,h2⟩
  have hbA:=(List.getElem?_eq_some_iff.1 hAb).1
  have getb:∀{B':Block},(A1.set b (w,B'))[b]?=some (w,B'):=fun {B'}=>by rw[List.getElem?_set,if_pos rfl,if_pos hbA]
  have fin:∀h',OB h' nB (A1.set b (w,p6 B)) (u6 c nA nL nB n13 n2 bs)->∃A':List (Nat×Block),A'.map Prod.snd=zo c.b (b+1)/\OB h' nB A' (u6 c nA nL nB n13 n2 bs):=fun h' V'=>by
   refine⟨_,?_,V'⟩
   rw[List.map_set,hA1,HT hB]
  refine⟨fun _ h'=>∃A':List (Nat×Block),A'.map Prod.snd=zo c.b (b+1)/\OB h' nB A' (u6 c nA nL nB n13 n2 bs),?_,?_⟩
  ·rintro f' h' ⟨A',e,V'⟩
   rw[gd (by omega) (by omega)]
   simp only[ab,true_and]
   exact⟨_,by omega,b+1,A',rfl,by omega,rfl,e,V'⟩
  refine⟨fun _ h'=>OB h' nB (A1.set b (w,{ B with i:=B.i.mapIdx kY })) (u6 c nA nL nB n13 n2 bs),?_,GZ hAb hlt (hc.len B hBm) V1 hq fun h' V'=>V'⟩
  rintro f2 h121 V2
  have Vf:=V2.L9
  rw[Vf.fa 0 rfl,Vf.fV 0 (j:=0+7) rfl rfl,V2.ia hlt,V2.fa,V2.QO,V2.Q7 getb,cU]
  by_cases h4:B.t.kind=4
  ·rw[decide_eq_true h4,ai,Vf.qg 0 rfl,Vf.u5 0 (j:=0+7) rfl rfl,Vf.qg 0 rfl,Vf.u5 0 (j:=0+7) rfl rfl,V2.C4 hlt,V2.qg,V2.Qq]
   rw[lT,OA (d:=.agg [.int .i64 B.t.to0,.int .i64 B.t.to1]) V2.hB (OB.el getb) (by show 1+11+2<=14;omega) rfl,ly rfl,V2.C4 hlt,V2.qg]
   refine V2.QZ (t':=⟨3,0,au,au,au,B.t.to0,B.t.to1⟩) getb fun h147 V147=>?_
   simp only[ab,true_and]
   rw[List.set_set]at V147
   refine fin h147 ?_
   have e:p6 B={ { B with i:=B.i.mapIdx kY } with t:=⟨3,0,au,au,au,B.t.to0,B.t.to1⟩ }:=by simp[p6,Fx,h4]
   rw[e];exact V147
  ·rw[decide_eq_false h4,ah]
   simp only[ab,true_and]
   refine fin h121 ?_
   have e:p6 B={ B with i:=B.i.mapIdx kY }:=by simp[p6,Fx,h4]
   rw[e];exact V2
 ·have:b=c.b.length:=by omega
  subst this
  rw[qK (by omega),ah]
  simp only[ab,true_and]
  refine hJ h1 A1 ?_ V1
  rw[hA1];unfold zo;rw[List.drop_length,List.append_nil,List.take_of_length_le (by simp)]
end
end Go.Am
namespace Go.Am
open Go Go.Proofs
theorem IN {c:Code}(hc:dW c):aT PP fN [c.e] (· = .sl (bL (p7 c))) :=
 aT.mono (fun r hr=>by obtain⟨S,rfl,h1,h2⟩:=hr;rw[EB h1 h2]) (Fb hc)
theorem JU (bs:List Nat):vK (qF bs):=jb (by simp[tB])
theorem BG {bs:List Nat}(hb:∀b∈bs,b<=255) (hl:bs.length<=9223372036854775807):aT PP ec [qF bs] (· = .bool true):=by
 refine dB mQ (av _ _ _) rfl (mO _ _) ?_
 unfold jo
 refine Vs.nil.box (fun x hx=>by simp[qF,tB]at hx;subst hx;rfl) fun n2 h3 V3=>?_
 refine gg DS (fun d hd=>by simp at hd) ?_
 rintro _ rfl
 rw[pK,Bool.not_true,ah,show qF bs=.agg [tB bs] from rfl]at *
 rw[V3.wo 0 (s:=1) rfl rfl]
 refine gg (Nv hb hl) (fun d hd=>by simp at hd;subst hd;exact(JU bs).pair) ?_
 rintro _ ⟨c,hc,rfl⟩
 have hnb:=hc.nb
 refine Lh hc V3 fun h12 nA nL nB A hA V12=>?_
 refine V12.alloc fun n13 h14 V14=>?_
 refine V14.zE (cs':=[.int .i64 c.group,.int .i64 c.sub,.int .i64 c.regs,.int .i64 c.slots,.int .i64 c.params,.ms nA 0 c.arrays.length,.ms nL 0 c.loops.length,.ms nB 0 c.b.length]) 0 rfl rfl rfl (fun y hy=>by simp at hy;rcases hy with rfl|rfl|rfl|rfl|rfl|rfl|rfl|rfl<;>rfl) fun h16 V16=>?_
 simp only[List.set_cons_zero]at V16
 have V17:OB h16 nB A (u6 c nA nL nB n13 n2 bs):=V16.perm (List.perm_middle (l₁:=(nB,.arr 14 (A.map ko))::A.map sT)).symm
 refine⟨fun _ h'=>∃A':List (Nat×Block),A'.map Prod.snd=c.b.map p6/\OB h' nB A' (u6 c nA nL nB n13 n2 bs),?_,Fq hc.u hA V17 fun h' A' e V'=>⟨A',e,V'⟩⟩
 rintro f h19 ⟨A',hA',V19⟩
 have Vf:=V19.L9
 rw[Vf.wo 0 (s:=8) rfl rfl]
 obtain⟨h20,hin,V20⟩:=V19.Q9
 refine Gw hin ?_
 rw[hA']at V20
 have hcs:=Ep hc.u
 have O20:CO (fq c) nA nL nB (.arr 4 (c.arrays.map sQ.e)) (.arr 3 (c.loops.map Loop.e)) (.arr 14 ((c.b.map p6).map Block.e)):=⟨rfl,rfl,rfl⟩
 have V21:Vs h20 ((nB,.arr 14 ((c.b.map p6).map Block.e))::(nL,.arr 3 (c.loops.map Loop.e))::(nA,.arr 4 (c.arrays.map sQ.e))::[(n13,.box (sq c (.ms nA 0 c.arrays.length) (.ms nL 0 c.loops.length) (.ms nB 0 c.b.length))),(n2,.box (qF bs))]):=V20.perm (.cons _ ((List.Perm.swap _ _ _).trans (.cons _ (.swap _ _ _))))
 refine Ck (c:=fq c) O20 V21 (Nw hcs) rfl rfl (by simp[fq]) fun r h22 sA sL sB hr O22 V22=>?_
 obtain⟨rfl,-⟩:=hr
 refine V22.alloc fun n24 h25 V25=>?_
 refine V25.zE (cs':=[.sl (bL (FZ (fq c) (ug (fq c)))),.sl (bL (C2 (fq c) (ug (fq c))))]) 0 rfl rfl rfl (fun y hy=>by simp at hy;rcases hy with rfl|rfl<;>rfl) fun h27 V27=>?_
 simp only[List.set_cons_zero]at V27
 rw[V27.wo 4 (s:=8) rfl rfl]
 have V28:Vs h27 ((nB,sB)::(nL,sL)::(nA,sA)::[(n24,.box (.agg [.sl (bL (FZ (fq c) (ug (fq c)))),.sl (bL (C2 (fq c) (ug (fq c))))])),(n13,.box (sq c (.ms nA 0 c.arrays.length) (.ms nL 0 c.loops.length) (.ms nB 0 c.b.length))),(n2,.box (qF bs))]) :=
  V27.perm ((List.Perm.swap _ _ _).trans (.cons _ ((List.Perm.swap _ _ _).trans (.cons _ (.swap _ _ _)))))
 refine Ck (c:=fq c) O22 V28 (IN hcs.g) rfl rfl (by simp[fq]) fun r h31 sA2 sL2 sB2 hr O31 V31=>?_
 subst hr
 have hRl:(C2 (fq c) (ug (fq c))).length=c.regs.toNat:=AL
 have hregs:=hc.u.rg
 refine⟨fun _ h'=>h'=h31,?_,?_⟩
 ·rintro f2 _ rfl
  simp only[↓gS]
  rw[V31.fa 3 rfl,V31.fV 3 (j:=0+1) rfl rfl,Cz,V31.fa 4 rfl,V31.fV 4 (j:=0+2) rfl rfl,cU,hRl]
  rw[decide_eq_true (by omega)]
  simp only[↓gS]
  rw[V31.fa 3 rfl,V31.fV 3 (j:=0+0) rfl rfl]
  refine gg (Cm (by rw[uX];simp[fq];omega)) (fun d hd=>by simp at hd;rcases hd with rfl|rfl<;>exact DH.pair) ?_
  rintro _ rfl
  rw[N3 hc.u,decide_eq_true rfl]
  first|rw[eU]|(simp only[↓gS];rw[eU])
 unfold fX
 refine⟨fun m q h'=>h'=h31/\∃k:Nat,q=[nD k]/\k<=c.regs.toNat/\m=c.regs.toNat-k,_,⟨rfl,0,rfl,by omega,rfl⟩,?_⟩
 rintro m g h88 ⟨rfl,k,hq,hk,hm⟩
 simp only[List.cons.injEq,and_true]at hq
 rw[V31.fa 3 rfl,V31.fV 3 (j:=0+1) rfl rfl,Cz,hRl]
 simp only[hq,nD]
 by_cases hlt:k<c.regs.toNat
 ·rw[sf (by omega),ai,V31.fa 3 rfl,V31.fV 3 (j:=0+1) rfl rfl,oj (esz:=1) (d:=.bool (hasB (C2 (fq c) (ug (fq c))) k)) (by omega) (by rw[Int.toNat_natCast];exact tX (fC (by omega))) rfl,AD rfl]
  rw[N4 hc.u hlt]
  simp only[↓gS]
  rw[gd (by omega) (by omega)]
  simp only[ab,true_and]
  exact⟨_,by omega,k+1,rfl,by omega,rfl⟩
 ·have:k=c.regs.toNat:=by omega
  subst this
  rw[qK (by omega),ah]
  simp only[ab,true_and]
end Go.Am
namespace Go.Am
open Go Go.Proofs
set_option maxRecDepth 100000
theorem PR:Try.prog.underlying 22=some (.slice 5):=by kernel_rfl
theorem QW:Try.prog.underlying 5=some (.int .u8):=by kernel_rfl
theorem t24:structL Try.prog 24=some [(22,0)]:=by kernel_rfl
theorem z24:Try.prog.cellsOf 24=1:=by kernel_rfl
theorem z22:Try.prog.cellsOf 22=1:=by kernel_rfl
theorem z5:Try.prog.cellsOf 5=1:=by kernel_rfl
theorem Lr:IntKind.u8.min=0:=rfl
theorem NY:IntKind.u8.max=255:=rfl
theorem NZ {m:Nat}{ds:List D}(h:HasTy Try.prog (m+2) 22 ds):∃bs:List Nat,ds=[tB bs]/\(∀b∈bs,b<=255)/\bs.length<=9223372036854775807:=by
 obtain⟨xs,h1,h2,h3⟩:=Dt PR QW h
 refine⟨xs.map Int.toNat,?_,fun b hb=>?_,by unfold maxLen at h2;simp;omega⟩
 ·rw[h1,tB,List.map_map]
  congr 2
  refine List.map_congr_left fun x hx=>?_
  have:=h3 x hx
  rw[Lr]at this
  show D.int .u8 x=D.int .u8 ((x.toNat:Nat):Int)
  rw[Int.toNat_of_nonneg this.1]
 ·simp only[List.mem_map]at hb
  obtain⟨x,hx,rfl⟩:=hb
  have:=h3 x hx
  rw[Lr,NY]at this
  omega
theorem MD {m:Nat}{ds:List D}(h:HasTy Try.prog (m+3) 24 ds):∃bs:List Nat,mkElem Try.prog 24 ds=qF bs/\(∀b∈bs,b<=255)/\bs.length<=9223372036854775807:=by
 obtain⟨k1,k2⟩:=AI t24 h
 rw[z24]at k1
 have q:=k2 (22,0) (by simp)
 simp only[z22,List.drop_zero]at q
 match ds,k1 with
 | [d],_ =>
  obtain⟨bs,e1,hb,hbl⟩:=NZ q
  simp at e1
  subst e1
  exact⟨bs,by rw[FJ t24,qF],hb,hbl⟩
end Go.Am
namespace Go.Am
open Go Go.Proofs
set_option maxRecDepth 100000
theorem MV (xs:List D) (h:y5 Try.prog 12 Try.f6.params.toList xs):aT Try.prog 6 xs (· = .bool true):=by
 have hp:Try.f6.params.toList=[24]:=by kernel_rfl
 rw[hp]at h
 obtain⟨c1,r1,rfl,h1,rfl⟩:=h
 obtain⟨bs,e1,b1,b2⟩:=MD h1
 show aT Try.prog 6 [mkElem Try.prog 24 c1] _
 rw[e1]
 exact BG b1 b2
end Go.Am
