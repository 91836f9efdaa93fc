/- What the functions of this chapter give, on plain data. No condition. -/
import Derived.Test.YtllpdgfanfffnaaGreatP2
set_option linter.unnecessarySimpa false
set_option linter.defProp false
set_option linter.unusedSectionVars false
set_option linter.unusedSimpArgs false
set_option linter.unusedVariables false
namespace Go.Am
open Go Go.Proofs
def oO (t:Bool) (n i:Nat):List Bool:=(List.range n).map λ k=>decide (k<i)&&t
theorem N7 {t:Bool}{n i:Nat}:(oO t n i).length=n:=by simp[oO]
theorem ZK {t:Bool}{n:Nat}:oO t n 0=List.replicate n false:=by
 apply List.ext_getElem (by simp[oO]);intro i h1 h2;simp[oO]
theorem UD {t:Bool}{n:Nat}:oO t n n=List.replicate n t:=by
 apply List.ext_getElem (by simp[oO]);grind [oO]
theorem N6 {t:Bool}{n i:Nat}:(oO t n i).set i t=oO t n (i+1):=by
 apply List.ext_getElem (by simp[oO]);grind [oO]
section
variable {c:Code}{nU nR nu n4 n2 nr:Nat}{U R:List Bool}{X:LSq}{h:Heap}{t:Bool}
theorem adJ (hn:c.b.length<=1000) (V:Vs h (b6 c nU nR nu n4 n2 nr (oO t c.b.length 0) R X)){J:HJq}(hJ:∀h',Vs h' (b6 c nU nR nu n4 n2 nr (oO t c.b.length c.b.length) R X)->J [] h') :
  pK h (.ptr nu 0 0) (.bool t) (.ptr n4 0 0) J:=by
 dsimp only[pK,xF,xI,xL,xS];refine⟨λ m q h'=>∃i:Nat,q=[nD i]/\i<=c.b.length/\m=c.b.length-i/\Vs h' (b6 c nU nR nu n4 n2 nr (oO t c.b.length i) R X),_,⟨0,rfl,by omega,rfl,V⟩,?_⟩;rintro m f h1 ⟨i,I,hi,hm,G⟩;simp only[ah,and_true]at I;rw[I,nD,G.fa 0 rfl,G.bI 0 (j:=0+0) rfl rfl,bH,G.get 2 _ _ rfl];refine⟨rfl,?_⟩;by_cases H:i<c.b.length
 ·rw[fY (by omega),af,G.fa 0 rfl,G.bI 0 (j:=0+0) rfl rfl,G.ia 2 rfl (by omega) (by omega),aE];refine G.wA 2 rfl (by rw[bL,aH,N7];exact H) rfl (ic _) λ h2 Q=>?_
  rw[hZ,N6]at Q;rw[bB (by omega) (by omega)];simp only[aa,true_and];exact⟨_,by omega,i+1,rfl,by omega,rfl,Q⟩
 grind [fU,ae,aa]
theorem adK (hn:nr<=1000) (V:Vs h (b6 c nU nR nu n4 n2 nr U (oO t nr 0) X)){J:HJq}(hJ:∀h',Vs h' (b6 c nU nR nu n4 n2 nr U (oO t nr nr) X)->J [] h') :
  pL h (.ptr nu 0 0) (.bool t) (.ptr n4 0 0) J:=by
 dsimp only[pL,xF,xI,xL,xS];refine⟨λ m q h'=>∃i:Nat,q=[nD i]/\i<=nr/\m=nr-i/\Vs h' (b6 c nU nR nu n4 n2 nr U (oO t nr i) X),_,⟨0,rfl,by omega,rfl,V⟩,?_⟩;rintro m f h1 ⟨i,I,hi,hm,G⟩;simp only[ah,and_true]at I;rw[I,nD,G.fa 0 rfl,G.bI 0 (j:=0+1) rfl rfl,bH,G.get 1 _ _ rfl];refine⟨rfl,?_⟩;by_cases H:i<nr
 ·rw[fY (by omega),af,G.fa 0 rfl,G.bI 0 (j:=0+1) rfl rfl,G.ia 1 rfl (by omega) (by omega),aE];refine G.wA 1 rfl (by rw[bL,aH,N7];exact H) rfl (ic _) λ h2 Q=>?_
  rw[hZ,N6]at Q;rw[bB (by omega) (by omega)];simp only[aa,true_and];exact⟨_,by omega,i+1,rfl,by omega,rfl,Q⟩
 grind [fU,ae,aa]
end
theorem Ya {c:Code}{nr:Nat}(hr:c.regs=(nr:Int)) (hn:c.b.length<=1000/\nr<=1000){t:Bool}{h:Heap}{L:LSq}{KH:HKq}(V:Vs h L)
  (hK:∀nU nR h',Vs h' ((nR,.arr 1 (bL (List.replicate nr t)))::(nU,.arr 1 (bL (List.replicate c.b.length t)))::L)->KH (.agg [.ms nU 0 c.b.length,.ms nR 0 nr]) h'):xN c.e (.bool t) h KH:=by
 dsimp only[xN,xB,xL,xS,yF,yL];refine V.box c.b9.one λ n2 h3 V3=>?_
 refine V3.alloc λ n4 h5 V5=>?_
 rw[V5.lH 1 rfl,V5.gw 1 (j:=0+7) rfl rfl,bD,aH,V5.lH 1 rfl,V5.gw 1 (j:=0+2) rfl rfl,hr];refine Yu (by omega) (by omega) ?_;refine Yu (by omega) (by omega) ?_;refine V5.SQ (by omega) (by omega) λ nU b4 a1=>?_
 refine⟨by simp only[↓a1.lH 2 rfl,↓a1.gw 2 (j:=0+2) rfl rfl,hr,aa,and_self],?_⟩;refine a1.SQ (by omega) (by omega) λ nR b3 Z=>?_
 refine⟨by simp only[↓Z.lH 3 rfl,↓Z.gw 3 (j:=0+7) rfl rfl,UU,bD,aH,aa,and_self],?_⟩;rw[nY rfl];refine Z.alloc λ nu b2 G=>?_
 refine⟨by simp only[↓G.lH 4 rfl,↓G.gw 4 (j:=0+7) rfl rfl,↓G.gw 4 (j:=0+2) rfl rfl,UU,bD,aH,hr,aa,and_self],?_⟩;refine G.mY 0 (cs':=[.ms nU 0 c.b.length,.ms nR 0 nr]) rfl rfl rfl (λ x hx=>by simp at hx;rcases hx with rfl|rfl<;>rfl) λ a6 Q=>?_
 simp only[List.set_cons_zero]at Q
 have Q:Vs a6 (b6 c nU nR nu n4 n2 nr (oO t c.b.length 0) (oO t nr 0) L):=by
  grind [b6,ZK,aah]
 refine⟨λ _ h'=>Vs h' (b6 c nU nR nu n4 n2 nr (oO t c.b.length c.b.length) (oO t nr 0) L),?_,adJ (by omega) Q λ h' V'=>V'⟩;rintro f b1 a7;refine⟨λ _ h'=>Vs h' (b6 c nU nR nu n4 n2 nr (oO t c.b.length c.b.length) (oO t nr nr) L),?_,adK (by omega) a7 λ h' V'=>V'⟩;rintro f2 a8 I;rw[UD,UD]at I;rw[I.fV 0 (s:=2) rfl rfl];refine I.mY 3 rfl rfl rfl (λ x hx=>by simp at hx;rcases hx with rfl|rfl<;>rfl) λ a2 H=>?_
 simp only[b6,List.set_cons_succ,List.set_cons_zero]at H;rw[H.fV 3 (s:=2) rfl rfl];exact hK nU nR a2 (H.sub (.cons _ (.cons_cons _ (.cons_cons _ (.cons _ (.cons _ (.refl _)))))))
theorem acw {c:Code}{nr:Nat}(hr:c.regs=(nr:Int)) (hn:c.b.length<=1000/\nr<=1000){t:Bool}{h:Heap}{L:LSq}{KH:HKq}(V:Vs h L)
  (hK:∀nU nR h',Vs h' ((nR,.arr 1 (bL (List.replicate nr t)))::(nU,.arr 1 (bL (List.replicate c.b.length t)))::L)->KH (.agg [.ms nU 0 c.b.length,.ms nR 0 nr]) h'):ag PP gZ [c.e,.bool t] h KH :=
 aY yq (aG _ _ _) rfl (xM _ _ _) (Ya hr hn V hK)
theorem Dr.uv {c:Code}(hc:cR c):Dr c (UV c (iB c)):=λ U R r hu hr hp G hg H=>(hp.drop G (L9 hc r G) H).2
theorem J2 {c:Code}(hc:cR c) (hD:Kj c){nr:Nat}(hr:c.regs=(nr:Int)){h:Heap}{L:LSq}{KH:HKq}(V:Vs h L)
  (hK:∀nU nR X h',Vs h' ((nR,.arr 1 (bL (Gx c (iB c))))::(nU,.arr 1 (bL (Hy c (iB c))))::(X++L))->KH (.agg [.ms nU 0 c.b.length,.ms nR 0 nr]) h'):ag PP gg [c.e] h KH:=by
 have b3:=hc.g.nb;have b2:=hc.rg;obtain⟨O,O',at',U,Dd⟩:=hD;refine aY H0 (aG _ _ _) rfl (HG _ _) ?_;dsimp only[DB,xB,xL,xS];refine V.box c.b9.one λ n2 h3 V3=>?_
 refine V3.alloc λ n4 h5 V5=>?_
 have H:∀{KH:HKq}{h:Heap}{M:LSq},Vs h M->(n2,Slot.box c.e)∈M->ab PP (.ld (.c (.ptr n2 0 0)) 8 true) h KH=KH c.e h:=λ {KH h M} V hm=>V.Jr (cs:=[.int .i64 c.group,.int .i64 c.sub,.int .i64 c.regs,.int .i64 c.slots,.int .i64 c.params,.sl (c.arrays.map qV.e),.sl (c.loops.map Loop.e),.sl (c.b.map Block.e)]) hm rfl
 rw[H V5 (by simp)];refine acw hr ⟨by omega,by omega⟩ V5 λ nU nR h9 V9=>?_
 refine V9.alloc λ nu b5 b1=>?_
 refine b1.mY 0 rfl rfl rfl (λ x hx=>by simp at hx;rcases hx with rfl|rfl<;>rfl) λ a6 G=>?_
 simp only[List.set_cons_zero]at G;replace G:Vs a6 (b6 c nU nR nu n4 n2 nr (List.replicate c.b.length true) (List.replicate nr true) L):=G;rw[H G (by simp[b6])];refine aW (xt hc.g) (λ d hd=>by simp at hd;subst hd;exact c.b9.pair) ?_;rintro _ ⟨S,rfl,hS,Z⟩;have eS:=tI hS Z;subst eS;rw[H G (by simp[b6])];refine xz hc.g Dd G λ v X a2 a8 wX=>?_
 have a7:Vs a2 (b6 c nU nR nu n4 n2 nr (List.replicate c.b.length true) (List.replicate nr true) (X++L)):=by
  refine a8.perm ?_;exact List.perm_append_comm_assoc X [(nu,.box (.agg [.ms nU 0 c.b.length,.ms nR 0 nr])),(nR,.arr 1 (bL (List.replicate nr true))),(nU,.arr 1 (bL (List.replicate c.b.length true))),(n4,.box (.agg [.nil,.nil])),(n2,.box c.e)] L
 have b7:nr=c.regs.toNat:=by omega
 refine⟨λ _ h'=>Vs h' (b6 c nU nR nu n4 n2 nr (Hy c (iB c)) (Gx c (iB c)) (X++L)),?_,W7 hc hr (Dr.uv hc) (wX.mono λ x hx=>by simp[hx]) (by simp) (by simp[hr]) (by grind [UV.start]) a7 λ h' U' R' ul rl p ck V'=>?_⟩
 ·rintro f b4 Q;rw[Q.fV 0 (s:=2) rfl rfl];refine Q.mY 3 rfl rfl rfl (λ x hx=>by simp at hx;rcases hx with rfl|rfl<;>rfl) λ a1 I=>?_
  simp only[b6,List.set_cons_succ,List.set_cons_zero]at I;rw[I.fV 3 (s:=2) rfl rfl];exact hK nU nR X a1 (I.sub (.cons _ (.cons_cons _ (.cons_cons _ (.cons _ (.cons _ (.refl _)))))))
 ·obtain⟨e1,e2⟩:=p.fin (L9 hc) (List.all_eq_true.1 ck);grind
end Go.Am
namespace Go.Am
open Go Go.Proofs
section
variable {c:Code}{U R:List Bool}{n3 n5:Nat}{X L:LSq}{vD:D}{h:Heap}
theorem Sj (hc:cR c) (hul:U.length=c.b.length) (hrl:(R.length:Int)=c.regs) (h3:(n3,Slot.box c.e)∈L) (h5:(n5,Slot.box (uE U R))∈L) (wD:LR L vD (jc c)) (V:Vs h L){J:HJq}{K:HKq}
  (hJ:∀h',Vs h' L->me c U R c.b.length->J [] h') (hK:∀h',Vs h' L->(iB c).all (fe U R)=false->K (.int .i64 100) h') :
  mi h (.ptr n5 0 0) (.ptr n3 0 0) (.sl (bL (b8 c))) vD J K:=by
 have Z:=hc.g.nb;dsimp only[mi,xF,xI,xL,xP];refine⟨λ m q h'=>∃i:Nat,q=[nD i]/\i<=c.b.length/\m=c.b.length-i/\me c U R i/\Vs h' L,_,⟨0,rfl,by omega,rfl,λ b hb=>by omega,V⟩,?_⟩;rintro m f h1 ⟨i,Q,hi,hm,ck,I⟩;simp only[ah,and_true]at Q;have G:∀{KH:HKq},ab PP (.fadd (.c (.ptr n5 0 0)) 0) h1 (λ a h2=>ab PP (.ld (.c a) 1 false) h2 KH)=KH (.sl (bL U)) h1:=λ {KH}=>by rw[I.UE h5,I.Hw (cs:=[.sl (bL U),.sl (bL R)]) h5 rfl]
 rw[G,bD,xx,hul,Q];by_cases H:¬i<c.b.length
 ·have:i=c.b.length:=by omega
  subst this;rw[nD,fU (by omega),ae];grind [aa]
 replace H:i<c.b.length:=Decidable.not_not.1 H
 have more:(hasB U i=true->Q9 c (b8 c) (jc c) U R i=true)->me c U R (i+1):=λ hh b hb hu=>by
  by_cases e:b=i
  ·subst e;exact hh hu
  ·exact ck b (by omega) hu
 rw[nD,fY (by omega),af,G,iN (esz:=1) (d:=.bool (hasB U i)) (by omega) (by grind [cr,bo]) rfl,ni rfl];cases g1:hasB U i
 ·simp only[gD,Bool.not_false,Bool.not_true,aC,if_true,if_false];rw[ae,bB (by omega) (by omega)];simp only[aa,true_and];exact⟨_,by omega,i+1,rfl,by omega,rfl,more λ h=>by(rw[g1]at h;cases h),I⟩
 simp only[gD,Bool.not_false,Bool.not_true,aC,if_true,if_false];rw[I.Jr (s:=8) (cs:=[.int .i64 c.group,.int .i64 c.sub,.int .i64 c.regs,.int .i64 c.slots,.int .i64 c.params,.sl (c.arrays.map qV.e),.sl (c.loops.map Loop.e),.sl (c.b.map Block.e)]) h3 rfl,I.Jr (s:=2) (cs:=[.sl (bL U),.sl (bL R)]) h5 rfl,show D.agg [.int .i64 c.group,.int .i64 c.sub,.int .i64 c.regs,.int .i64 c.slots,.int .i64 c.params,.sl (c.arrays.map qV.e),.sl (c.loops.map Loop.e),.sl (c.b.map Block.e)]=c.e from rfl];refine M3 hc (Iu hc.g) xn I (Or.inl rfl) (Or.inl rfl) wD hul hrl H gV λ h2 V2=>?_
 rw[cw];cases g2:Q9 c (b8 c) (jc c) U R i
 ·grind [af,pt]
 ·rw[Bool.not_true,ae,bB (by omega) (by omega)];simp only[aa,true_and];exact⟨_,by omega,i+1,rfl,by omega,rfl,more λ _=>g2,V2⟩
theorem Xs (hc:cR c) (hul:U.length=c.b.length) (hrl:(R.length:Int)=c.regs) (h3:(n3,Slot.box c.e)∈L) (h5:(n5,Slot.box (uE U R))∈L) (cu:me c U R c.b.length) (V:Vs h L){J:HJq}{K:HKq}
  (hJ:∀h',Vs h' L->(iB c).all (fe U R)=true->J [] h') (hK:∀h',Vs h' L->(iB c).all (fe U R)=false->K (.int .i64 100) h') :
  mj h (.ptr n5 0 0) (.ptr n3 0 0) (.sl (bL (b8 c))) J K:=by
 have a2:=hc.g.nb;have a1:=hc.rg;dsimp only[mj,xF,xI,xL,xP];refine⟨λ m q h'=>∃i:Nat,q=[nD i]/\i<=R.length/\m=R.length-i/\Hz c U R i/\Vs h' L,_,⟨0,rfl,by omega,rfl,λ b hb=>by omega,V⟩,?_⟩;rintro m f h1 ⟨i,Q,hi,hm,Z,H⟩;simp only[ah,and_true]at Q;have G:∀{KH:HKq},ab PP (.fadd (.c (.ptr n5 0 0)) 1) h1 (λ a h2=>ab PP (.ld (.c a) 1 false) h2 KH)=KH (.sl (bL R)) h1:=λ {KH}=>by rw[H.UE h5,H.Hw (cs:=[.sl (bL U),.sl (bL R)]) h5 rfl]
 rw[G,bD,xx,Q];by_cases I:¬i<R.length
 ·have:i=R.length:=by omega
  subst this;rw[nD,fU (by omega),ae];simp only[aa,true_and];exact hJ h1 H ((pt hc).2 ⟨cu,λ n hn hu=>Z n (by omega) hu⟩)
 replace I:i<R.length:=Decidable.not_not.1 I
 have more:(hasB R i=true->Na c (b8 c) U R (i:Int)=true)->Hz c U R (i+1):=λ hh b hb hu=>by
  by_cases e:b=i
  ·subst e;exact hh hu
  ·exact Z b (by omega) hu
 rw[nD,fY (by omega),af,G,iN (esz:=1) (d:=.bool (hasB R i)) (by omega) (by grind [cr,bo]) rfl,ni rfl];cases g1:hasB R i
 ·simp only[gD,Bool.not_false,Bool.not_true,aC,if_true,if_false];rw[ae,bB (by omega) (by omega)];simp only[aa,true_and];exact⟨_,by omega,i+1,rfl,by omega,rfl,more λ h=>by(rw[g1]at h;cases h),H⟩
 simp only[gD,Bool.not_false,Bool.not_true,aC,if_true,if_false];rw[H.Jr (s:=8) (cs:=[.int .i64 c.group,.int .i64 c.sub,.int .i64 c.regs,.int .i64 c.slots,.int .i64 c.params,.sl (c.arrays.map qV.e),.sl (c.loops.map Loop.e),.sl (c.b.map Block.e)]) h3 rfl,H.Jr (s:=2) (cs:=[.sl (bL U),.sl (bL R)]) h5 rfl,show D.agg [.int .i64 c.group,.int .i64 c.sub,.int .i64 c.regs,.int .i64 c.slots,.int .i64 c.params,.sl (c.arrays.map qV.e),.sl (c.loops.map Loop.e),.sl (c.b.map Block.e)]=c.e from rfl];refine BD hc H (Or.inl rfl) (Or.inl rfl) hul hrl gV ?_;rw[cw];cases g2:Na c (b8 c) U R (i:Int)
 ·grind [af,pt]
 ·rw[Bool.not_true,ae,bB (by omega) (by omega)];simp only[aa,true_and];exact⟨_,by omega,i+1,rfl,by omega,rfl,more λ _=>g2,H⟩
end
theorem Sv {c:Code}(hc:cR c) (hD:Kj c){vU vR:D}{U R:List Bool}(wU:CD vU U) (wR:CD vR R):aK PP qY [c.e,.agg [vU,vR]] (· = .int .i64 (if rC c U R then 0 else 100)):=by
 have a2:=hc.g.nb;have a1:=hc.rg;obtain⟨O,O',at',Uu,Dd⟩:=hD;refine aZ F5 (aG _ _ _) rfl (FJ _ _ _) ?_;dsimp only[zU,xB,xF,xL,xP];refine Vs.nil.box c.b9.one λ n3 h4 V4=>?_
 refine V4.box (λ x hx=>by simp[D.cells]at hx;rcases hx with rfl|rfl;exact wU.one;exact wR.one) λ n5 h6 G=>?_
 rw[G.fa 0 rfl,G.bI 0 (j:=0+0) rfl rfl,wU.len,G.fa 1 rfl,G.bI 1 (j:=0+7) rfl rfl,bD,aH,kA];unfold rC;by_cases h1:¬U.length=c.b.length
 ·rw[decide_eq_false (p:=((U.length:Int)=c.b.length)) (by omega)];simp only[gD,Bool.not_false,Bool.not_true,aC,if_true,if_false];grind [af,bC]
 replace h1:U.length=c.b.length:=Decidable.not_not.1 h1;rw[decide_eq_true (p:=((U.length:Int)=c.b.length)) (by omega)];simp only[gD,Bool.not_false,Bool.not_true,aC,if_true,if_false];rw[G.fa 0 rfl,G.bI 0 (j:=0+1) rfl rfl,wR.len,G.fa 1 rfl,G.bI 1 (j:=0+2) rfl rfl,kA];by_cases h2:¬(R.length:Int)=c.regs
 ·grind [af,bC]
 replace h2:(R.length:Int)=c.regs:=Decidable.not_not.1 h2;rw[decide_eq_true (p:=((R.length:Int)=c.regs)) h2,decide_eq_true h1];have e1:=wU.sl (by omega);have e2:=wR.sl (by omega);subst e1;subst e2;simp only[gD,Bool.not_false,Bool.not_true,aC,if_true,if_false];rw[ae,G.fV 1 (s:=8) rfl rfl];refine aW (xt hc.g) (λ d hd=>by simp at hd;subst hd;exact c.b9.pair) ?_;rintro _ ⟨S,rfl,hS,I⟩;have eS:=tI hS I;subst eS;rw[G.fV 1 (s:=8) rfl rfl];refine xz hc.g Dd G λ v X a7 Z wX=>?_
 have m3:(n3,Slot.box c.e)∈X++[(n5,Slot.box (uE U R)),(n3,.box c.e)]:=by simp
 have m5:(n5,Slot.box (uE U R))∈X++[(n5,Slot.box (uE U R)),(n3,.box c.e)]:=by simp
 refine⟨λ _ h'=>Vs h' (X++[(n5,Slot.box (uE U R)),(n3,.box c.e)])/\me c U R c.b.length,?_,Sj hc h1 h2 m3 m5 (wX.mono λ x hx=>by simp[hx]) Z (λ h' H Q=>⟨H,Q⟩) λ h' H hb=>?_⟩
 ·rintro f a6 ⟨V,Q⟩;refine⟨λ _ h'=>(iB c).all (fe U R)=true,?_,Xs hc h1 h2 m3 m5 Q V (λ h' H ha=>ha) λ h' H hb=>?_⟩
  ·grind [bC]
  ·rw[bC,hb];rfl
 ·rw[bC,hb];rfl
end Go.Am
namespace Go.Am
open Go Go.Proofs
section
variable {c:Code}{nU nR nu n4 n2 nr N:Nat}{U R:List Bool}{X:LSq}{vD:D}{P:List Bool->List Bool->Prop}{h:Heap}{t:Bool}
theorem R6 (hc:cR c) (hr:c.regs=(nr:Int)) (hP:Dr c P) (wD:LR X vD (jc c)) (s:FY c P N U R false) (V:Vs h (b6 c nU nR nu n4 n2 nr U R X)){J:HJq}
  (hJ:∀h' U' R' t,FY c P N U' R' t->(t=false->me c U' R' c.b.length)->Vs h' (b6 c nU nR nu n4 n2 nr U' R' X)->J [.bool t] h') :
  nC h (.ptr nu 0 0) (.ptr n2 0 0) (.ptr n4 0 0) (.sl (bL (b8 c))) vD J:=by
 have b1:=hc.g.nb;dsimp only[nC,xF,xI,xL,xP,xS];refine⟨λ m q h'=>∃(i:Nat) (U R:List Bool) (t:Bool),q=[.bool t,nD i]/\i<=c.b.length/\m=c.b.length-i/\FY c P N U R t/\(t=false->me c U R i)/\Vs h' (b6 c nU nR nu n4 n2 nr U R X),_,⟨0,U,R,false,rfl,by omega,rfl,s,λ _ b hb=>by omega,V⟩,?_⟩;rintro m f h1 ⟨i,Z,R1,t1,hq,hi,hm,s1,ck,I⟩;simp only[ah,and_true]at hq;obtain⟨q1,q2⟩:=hq;have H:∀{KH:HKq},ab PP (.fadd (.c (.ptr nu 0 0)) 0) h1 (λ a h2=>ab PP (.ld (.c a) 1 false) h2 KH)=KH (.ms nU 0 c.b.length) h1:=λ {KH}=>by rw[I.fa 0 rfl,I.bI 0 (j:=0+0) rfl rfl]
 have a1:∀{K:D->Prop},aM (.ms nU 0 c.b.length) h1 K=K (.int .i64 (c.b.length:Int)):=λ {K}=>by
  rw[bH,I.get 2 _ _ rfl];exact propext ⟨λ hh=>hh.2,λ hk=>⟨rfl,hk⟩⟩
 rw[H,a1,q1,q2];by_cases G:¬i<c.b.length
 ·have:i=c.b.length:=by omega
  subst this;rw[nD,fU (by omega),ae];grind [aa]
 replace G:i<c.b.length:=Decidable.not_not.1 G;rw[nD,fY (by omega),af];refine⟨λ q h'=>∃(U R:List Bool) (t:Bool),q=[.bool t]/\FY c P N U R t/\(t=false->me c U R (i+1))/\Vs h' (b6 c nU nR nu n4 n2 nr U R X),?_,?_⟩
 ·rintro f' h' ⟨U2,R2,t2,hq,s2,a8,Q⟩;simp only[ah,and_true]at hq;rw[hq,bB (by omega) (by omega)];simp only[aa,true_and];exact⟨_,by omega,i+1,U2,R2,t2,rfl,by omega,rfl,s2,a8,Q⟩
 have more:(hasB Z i=true->Q9 c (b8 c) (jc c) Z R1 i=true)->(t1=false->me c Z R1 (i+1)):=λ hh ht b hb hu=>by
  by_cases e:b=i
  ·subst e;exact hh hu
  ·exact ck ht b (by omega) hu
 rw[H,I.ia 2 rfl (by omega) (by omega),aE,I.yQ 2 rfl (cr (bo (by rw[s1.ul];exact G))) rfl];cases g1:hasB Z i
 ·simp only[gD,Bool.not_false,Bool.not_true,aC,if_true,if_false];grind [ae,aa]
 simp only[gD,Bool.not_false,Bool.not_true,aC,if_true,if_false];rw[I.fV 4 (s:=8) rfl rfl,I.fV 0 (s:=2) rfl rfl,show D.agg [.int .i64 c.group,.int .i64 c.sub,.int .i64 c.regs,.int .i64 c.slots,.int .i64 c.params,.sl (c.arrays.map qV.e),.sl (c.loops.map Loop.e),.sl (c.b.map Block.e)]=c.e from rfl];refine M3 hc (Iu hc.g) xn I (s1.bU λ x hx=>hx) (s1.bR hr λ x hx=>hx) (wD.mono λ x hx=>by simp[b6,hx]) s1.ul s1.rl G gV λ h2 Q=>?_
 rw[cw];cases g2:Q9 c (b8 c) (jc c) Z R1 i
 ·rw[Bool.not_false,af,Q.fa 0 rfl,Q.bI 0 (j:=0+0) rfl rfl,Q.ia 2 rfl (by omega) (by omega),aE];refine Q.wA 2 rfl (by simp[bL,s1.ul];exact G) rfl (ic _) λ h3 V3=>?_
  rw[hZ]at V3;simp only[aa,true_and];obtain⟨r,a7,a2,a6⟩:=Vy G g2 g1;have:=s1.drop hP a7 (by rw[a2];exact g1) a6;rw[a2]at this;exact⟨Z.set i false,R1,true,rfl,this,λ h=>(by cases h),V3⟩
 grind [ae,aa]
theorem W8 (hc:cR c) (hr:c.regs=(nr:Int)) (hP:Dr c P) (s:FY c P N U R t) (cb:t=false->me c U R c.b.length) (V:Vs h (b6 c nU nR nu n4 n2 nr U R X)){f:Nat->D}(hf:f 7=.bool t){I:Nat->HJq}{n31:Nat}
  (hJ:∀h' U' R' t,FY c P N U' R' t->(t=false->me c U' R' c.b.length/\Hz c U' R' nr)->Vs h' (b6 c nU nR nu n4 n2 nr U' R' X)->∃m,m<n31/\I m [.bool t] h') :
  nF f h (.ptr nu 0 0) (.ptr n2 0 0) (.ptr n4 0 0) (.sl (bL (b8 c))) vD n31 I:=by
 have b3:=hc.g.nb;have b2:=hc.rg;dsimp only[nF,xF,xI,xL,xP,xS];rw[hf];refine⟨λ m q h'=>∃(i:Nat) (U R:List Bool) (t:Bool),q=[.bool t,nD i]/\i<=nr/\m=nr-i/\FY c P N U R t/\(t=false->me c U R c.b.length/\Hz c U R i)/\Vs h' (b6 c nU nR nu n4 n2 nr U R X),_,⟨0,U,R,t,rfl,by omega,rfl,s,λ h=>⟨cb h,λ b hb=>by omega⟩,V⟩,?_⟩;rintro m f h1 ⟨i,U1,Q,t1,hq,hi,hm,s1,ck,G⟩;simp only[ah,and_true]at hq;obtain⟨q1,q2⟩:=hq;have a6:Q.length=nr:=by have:=s1.rl;omega
 have H:∀{KH:HKq}{h1:Heap}{U1 Q:List Bool},Vs h1 (b6 c nU nR nu n4 n2 nr U1 Q X)->ab PP (.fadd (.c (.ptr nu 0 0)) 1) h1 (λ a h2=>ab PP (.ld (.c a) 1 false) h2 KH)=KH (.ms nR 0 nr) h1:=λ {KH h1 U1 Q} G=>by rw[G.fa 0 rfl,G.bI 0 (j:=0+1) rfl rfl]
 have a1:∀{K:D->Prop},aM (.ms nR 0 nr) h1 K=K (.int .i64 (nr:Int)):=λ {K}=>by
  rw[bH,G.get 1 _ _ rfl];exact propext ⟨λ hh=>hh.2,λ hk=>⟨rfl,hk⟩⟩
 rw[H G,a1,q1,q2];by_cases Z:¬i<nr
 ·have:i=nr:=by omega
  subst this;rw[nD,fU (by omega),ae];grind [aa]
 replace Z:i<nr:=Decidable.not_not.1 Z;rw[nD,fY (by omega),af];refine⟨λ q h'=>∃(U R:List Bool) (t:Bool),q=[.bool t]/\FY c P N U R t/\(t=false->me c U R c.b.length/\Hz c U R (i+1))/\Vs h' (b6 c nU nR nu n4 n2 nr U R X),?_,?_⟩
 ·rintro f' h' ⟨U2,R2,t2,hq,s2,b1,V2⟩;simp only[ah,and_true]at hq;rw[hq,bB (by omega) (by omega)];simp only[aa,true_and];exact⟨_,by omega,i+1,U2,R2,t2,rfl,by omega,rfl,s2,b1,V2⟩
 have more:(hasB Q i=true->Na c (b8 c) U1 Q (i:Int)=true)->(t1=false->me c U1 Q c.b.length/\Hz c U1 Q (i+1)):=λ hh ht=>⟨(ck ht).1,λ b hb hu=>by
  by_cases e:b=i
  ·subst e;exact hh hu
  ·exact(ck ht).2 b (by omega) hu⟩
 rw[H G,G.ia 1 rfl (by omega) (by omega),aE,G.yQ 1 rfl (cr (bo (by rw[a6];exact Z))) rfl];cases g1:hasB Q i
 ·simp only[gD,Bool.not_false,Bool.not_true,aC,if_true,if_false];grind [ae,aa]
 simp only[gD,Bool.not_false,Bool.not_true,aC,if_true,if_false];rw[G.fV 4 (s:=8) rfl rfl,G.fV 0 (s:=2) rfl rfl,show D.agg [.int .i64 c.group,.int .i64 c.sub,.int .i64 c.regs,.int .i64 c.slots,.int .i64 c.params,.sl (c.arrays.map qV.e),.sl (c.loops.map Loop.e),.sl (c.b.map Block.e)]=c.e from rfl];refine BD hc G (s1.bU λ x hx=>hx) (s1.bR hr λ x hx=>hx) s1.ul s1.rl gV ?_;rw[cw];cases g2:Na c (b8 c) U1 Q (i:Int)
 ·rw[Bool.not_false,af,H G,G.ia 1 rfl (by omega) (by omega),aE];refine G.wA 1 rfl (by simp[bL,a6];exact Z) rfl (ic _) λ h3 V3=>?_
  rw[hZ]at V3;simp only[aa,true_and];obtain⟨r,a8,a2,a7⟩:=TI g2 g1;have:=s1.drop hP a8 (by rw[a2];exact g1) a7;rw[a2]at this;exact⟨U1,Q.set i false,true,rfl,this,λ h=>(by cases h),V3⟩
 grind [ae,aa]
theorem W9 (hc:cR c) (hr:c.regs=(nr:Int)) (hP:Dr c P) (wD:LR X vD (jc c)) (hul:U.length=c.b.length) (hrl:(R.length:Int)=c.regs) (hp:P U R) (ht:t=false->(iB c).all (fe U R)=true) (V:Vs h (b6 c nU nR nu n4 n2 nr U R X)){J:HJq}
  (hJ:∀h' U' R',U'.length=c.b.length->(R'.length:Int)=c.regs->P U' R'->(iB c).all (fe U' R')=true->Vs h' (b6 c nU nR nu n4 n2 nr U' R' X)->J [] h') :
  ny (.bool t) h (.ptr nu 0 0) (.ptr n2 0 0) (.ptr n4 0 0) (.sl (bL (b8 c))) vD J:=by
 unfold ny;refine⟨λ m q h'=>∃(U R:List Bool) (t:Bool),q=[.bool t]/\m=2*JL U R+(if t then 1 else 0)/\U.length=c.b.length/\(R.length:Int)=c.regs/\P U R/\(t=false->me c U R c.b.length/\Hz c U R nr)/\Vs h' (b6 c nU nR nu n4 n2 nr U R X),_,⟨U,R,t,rfl,rfl,hul,hrl,hp,λ h=>⟨λ b hb hu=>((pt hc).1 (ht h)).1 b hb hu,λ n hn hu=>((pt hc).1 (ht h)).2 n (by omega) hu⟩,V⟩,?_⟩;rintro m f h1 ⟨U1,R1,t1,hq,hm,ul,rl,p1,Z,V1⟩;simp only[ah,and_true]at hq;rw[hq]
 cases t1 with
 | false =>
  rw[ae];simp only[aa,true_and];obtain⟨c1,c2⟩:=Z rfl;exact hJ h1 U1 R1 ul rl p1 ((pt hc).2 ⟨c1,λ n hn hu=>c2 n (by omega) hu⟩) V1
 | true =>
  rw[af];refine⟨λ q h'=>∃(U R:List Bool) (t:Bool),q=[.bool t]/\FY c P (JL U1 R1) U R t/\(t=false->me c U R c.b.length)/\Vs h' (b6 c nU nR nu n4 n2 nr U R X),?_,?_⟩
  ·rintro f' h' ⟨U2,R2,t2,G,s2,Q,V2⟩;simp only[ah,and_true]at G;refine W8 hc hr hP s2 Q V2 G λ h3 U3 R3 t3 H I V3=>?_
   refine⟨_,?_,U3,R3,t3,rfl,rfl,H.ul,H.rl,H.p,I,V3⟩;have:=H.n;grind
  ·exact R6 hc hr hP wD ⟨ul,rl,p1,by simp⟩ V1 λ h' U' R' t s Z V=>⟨U',R',t,rfl,s,Z,V⟩
end
theorem SZ {A:(D->Prop)->Prop}{K:D->Prop}:ai (.bool true) true A K=A K:=by rw[fI];simp
theorem S4 {A:(D->Prop)->Prop}{K:D->Prop}:ai (.bool false) true A K=K gU:=by rw[fI];simp
def Le (A B:List Bool):Prop:=∀k,hasB A k=true->hasB B k=true
theorem Le.set {A B:List Bool}(h:Le A B){i:Nat}{b:Bool}(hb:b=true->hasB A i=true):Le (A.set i b) B:=λ k G=>by
 grind [hasB,Le]
section
variable {c:Code}{nU nR nu n4 n2 nr:Nat}{U R:List Bool}{X:LSq}{h:Heap}{ms:List Nat}{vt:D}
theorem adb (hn:c.b.length<=1000) (hul:U.length=c.b.length) (hms:ms.length<=9223372036854775807) (V:Vs h (b6 c nU nR nu n4 n2 nr U R X)){J:HJq}(hJ:∀(k:Nat) h' U',k<=1000->U'.length=c.b.length->Le U' U->(ms=[]->U'=U)->Vs h' (b6 c nU nR nu n4 n2 nr U' R X)->J [nD k] h') :
  nv h (.ptr nu 0 0) (rW ms) (.ptr n2 0 0) (.ptr n4 0 0) vt J:=by
 dsimp only[nv,xF,xL,xP,xS,yF,yI,yL,yP];refine⟨λ m q h'=>∃(i:Nat) (U':List Bool),q=[nD i,nD i]/\i<=c.b.length/\m=c.b.length-i/\U'.length=c.b.length/\Le U' U/\(ms=[]->U'=U)/\Vs h' (b6 c nU nR nu n4 n2 nr U' R X),_,⟨0,U,rfl,by omega,rfl,hul,λ k hk=>hk,λ _=>rfl,V⟩,?_⟩;rintro m f h1 ⟨i,U1,hq,hi,hm,ul,le,emp,G⟩;simp only[ah,and_true]at hq;obtain⟨q1,q2⟩:=hq;rw[q1,q2,G.fa 0 rfl,G.bI 0 (j:=0+0) rfl rfl,bH,G.get 2 _ _ rfl];refine⟨rfl,?_⟩;by_cases I:¬i<c.b.length
 ·rw[nD,fU (by omega)];simp only[gD,Bool.not_false,Bool.not_true,aC,if_true,if_false];rw[ae];simp only[aa,true_and];exact hJ i h1 U1 (by omega) ul le emp G
 replace I:i<c.b.length:=Decidable.not_not.1 I;rw[nD,fY (by omega)];simp only[gD,Bool.not_false,Bool.not_true,aC,if_true,if_false];rw[rW,bD,aH];by_cases hl:ms.length=0
 ·rw[WZ (by omega)];rw[ae];simp only[aa,true_and];exact hJ i h1 U1 (by omega) ul le emp G
 rw[Yt (by omega)];rw[af];rw[G.lH 0 rfl,G.gw 0 (j:=0+0) rfl rfl,G.lH 0 rfl,G.gw 0 (j:=0+0) rfl rfl,G.Bw 2 rfl (by omega) (by omega),aE,G.Fy 2 rfl (cr (bo (by omega))) rfl]
 have fin:∀(b:Bool),(b=true->hasB U1 i=true)->au PP (.iadd (.c (.ms nU 0 c.b.length)) (.c (.int .i64 (i:Int))) 1) h1 λ a2=>ab PP (.st (.c a2) (.c (.bool b)) 1) h1 λ a6 Q=>vbin .add (.int .i64 (i:Int)) (.int .i64 1) λ a1=>vbin .add (.int .i64 (i:Int)) (.int .i64 1) λ Z=>∃m',m'<m/\∃(i:Nat) (U':List Bool),[a1,Z]=[nD i,nD i]/\i<=c.b.length/\m'=c.b.length-i/\U'.length=c.b.length/\Le U' U/\(ms=[]->U'=U)/\Vs Q (b6 c nU nR nu n4 n2 nr U' R X):=λ b hb=>by
  rw[G.Bw 2 rfl (by omega) (by omega),aE];refine G.wA 2 rfl (by rw[xx];omega) rfl (ic _) λ h2 V2=>?_
  rw[hZ]at V2;rw[bB (by omega) (by omega),bB (by omega) (by omega)];exact⟨_,by omega,i+1,U1.set i b,rfl,by omega,rfl,by simp[ul],le.set hb,λ e=>by simp[e]at hl,V2⟩
 cases g1:hasB U1 i
 ·simp only[S4,VT];rw[jL,cq];simp only[aC,if_false,aa,true_and];exact fin false (λ h=>by cases h)
 simp only[SZ];have em:((i:Int)).tmod (ms.length:Int)=((i % ms.length:Nat):Int):=rfl;have H:i % ms.length<ms.length:=Nat.mod_lt _ (by omega);obtain⟨x,hx⟩:∃x,ms[i % ms.length]?=some x:=⟨ms[i % ms.length],aq H⟩;rw[bD,aH,Hm (by omega),em,Ps (esz:=1) (d:=.int .u8 (x:Int)) (by omega) (by grind) rfl,sw rfl,Hm (by omega),kA,jL,cq,if_pos rfl];simp only[aa,true_and];exact fin _ (λ _=>g1)
theorem ade (hn:nr<=1000) (hrl:R.length=nr) (hms:ms.length<=9223372036854775807) (V:Vs h (b6 c nU nR nu n4 n2 nr U R X)){n0:Nat}(h0:n0<=1000){f0:Nat->D}(hf:f0 6=nD n0){J:HJq}(hJ:∀h' R',R'.length=nr->Le R' R->(ms=[]->R'=R)->Vs h' (b6 c nU nR nu n4 n2 nr U R' X)->J [] h') :
  nw f0 h (.ptr nu 0 0) (rW ms) (.ptr n2 0 0) (.ptr n4 0 0) vt J:=by
 dsimp only[nw,xF,xL,xP,xS,yF,yI,yL,yP];rw[hf];refine⟨λ m q h'=>∃(i:Nat) (R':List Bool),q=[nD (n0+i),nD i]/\i<=nr/\m=nr-i/\R'.length=nr/\Le R' R/\(ms=[]->R'=R)/\Vs h' (b6 c nU nR nu n4 n2 nr U R' X),_,⟨0,R,rfl,by omega,rfl,hrl,λ k hk=>hk,λ _=>rfl,V⟩,?_⟩;rintro m f h1 ⟨i,R1,hq,hi,hm,rl,le,emp,G⟩;simp only[ah,and_true]at hq;obtain⟨q1,q2⟩:=hq;rw[q1,q2,G.fa 0 rfl,G.bI 0 (j:=0+1) rfl rfl,bH,G.get 1 _ _ rfl];refine⟨rfl,?_⟩;by_cases I:¬i<nr
 ·rw[nD,nD,fU (by omega)];simp only[gD,Bool.not_false,Bool.not_true,aC,if_true,if_false];rw[ae];grind [aa]
 replace I:i<nr:=Decidable.not_not.1 I;rw[nD,nD,fY (by omega)];simp only[gD,Bool.not_false,Bool.not_true,aC,if_true,if_false];rw[rW,bD,aH];by_cases hl:ms.length=0
 ·rw[WZ (by omega)];rw[ae];grind [aa]
 rw[Yt (by omega)];rw[af];rw[G.lH 0 rfl,G.gw 0 (j:=0+1) rfl rfl,G.lH 0 rfl,G.gw 0 (j:=0+1) rfl rfl,G.Bw 1 rfl (by omega) (by omega),aE,G.Fy 1 rfl (cr (bo (by omega))) rfl]
 have fin:∀(b:Bool),(b=true->hasB R1 i=true)->au PP (.iadd (.c (.ms nR 0 nr)) (.c (.int .i64 (i:Int))) 1) h1 λ a2=>ab PP (.st (.c a2) (.c (.bool b)) 1) h1 λ a6 Q=>vbin .add (.int .i64 ((n0+i:Nat):Int)) (.int .i64 1) λ a1=>vbin .add (.int .i64 (i:Int)) (.int .i64 1) λ Z=>∃m',m'<m/\∃(i:Nat) (R':List Bool),[a1,Z]=[nD (n0+i),nD i]/\i<=nr/\m'=nr-i/\R'.length=nr/\Le R' R/\(ms=[]->R'=R)/\Vs Q (b6 c nU nR nu n4 n2 nr U R' X):=λ b hb=>by
  rw[G.Bw 1 rfl (by omega) (by omega),aE];refine G.wA 1 rfl (by rw[xx];omega) rfl (ic _) λ h2 V2=>?_
  rw[hZ]at V2;rw[bB (by omega) (by omega),bB (by omega) (by omega)];exact⟨_,by omega,i+1,R1.set i b,rfl,by omega,rfl,by simp[rl],le.set hb,λ e=>by simp[e]at hl,V2⟩
 cases g1:hasB R1 i
 ·simp only[S4,VT];rw[jL,cq];simp only[aC,if_false,aa,true_and];exact fin false (λ h=>by cases h)
 simp only[SZ];have em:(((n0+i:Nat):Int)).tmod (ms.length:Int)=(((n0+i) % ms.length:Nat):Int):=rfl;have H:(n0+i) % ms.length<ms.length:=Nat.mod_lt _ (by omega);obtain⟨x,hx⟩:∃x,ms[(n0+i) % ms.length]?=some x:=⟨ms[(n0+i) % ms.length],aq H⟩;rw[bD,aH,Hm (by omega),em,Ps (esz:=1) (d:=.int .u8 (x:Int)) (by omega) (by grind) rfl,sw rfl,Hm (by omega),kA,jL,cq,if_pos rfl];simp only[aa,true_and];exact fin _ (λ _=>g1)
end
end Go.Am
namespace Go.Am
open Go Go.Proofs
theorem QL {c:Code}(hc:cR c):(iB c).all (fe (Hy c (iB c)) (Gx c (iB c)))=true:=by
 rw[List.all_eq_true];intro r hr;have ok:=L9 hc r hr;refine iI.2 λ hg=>?_
 have:=Gf.closed _ r hr ((Ur ok.of).1 hg);exact⟨this.1,λ f G=>(Ur (ok.needs f G)).2 (this.2 f G)⟩
theorem Dr.le {c:Code}{U0 R0:List Bool}:Dr c λ U R=>Le U U0/\Le R R0:=λ U R r _ _ hp _ _ _=>by
 unfold vJ;split
 ·exact⟨hp.1.set λ h=>(by cases h),hp.2⟩
 ·exact⟨hp.1,hp.2.set λ h=>(by cases h)⟩
theorem aar {c:Code}(hc:cR c) (hD:Kj c){nr:Nat}(hr:c.regs=(nr:Int)){ms:List Nat}(hms:ms.length<=9223372036854775807){h:Heap}{L:LSq}{KH:HKq}(V:Vs h L)
  (hK:∀nU nR U R X h',U.length=c.b.length->R.length=nr->(iB c).all (fe U R)=true->Le U (Hy c (iB c))->Le R (Gx c (iB c))->Vs h' ((nR,.arr 1 (bL R))::(nU,.arr 1 (bL U))::(X++L))->KH (.agg [.ms nU 0 c.b.length,.ms nR 0 nr]) h'):ag PP oK [c.e,rW ms] h KH:=by
 have c8:=hc.g.nb;have c7:=hc.rg;have b5:=hD;obtain⟨O,O',at',U,Dd⟩:=hD;refine aY HZ (aG _ _ _) rfl (HF _ _ _) ?_;dsimp only[DA,xB,xL,xS];refine V.box c.b9.one λ n3 h4 V4=>?_
 refine V4.alloc λ n5 h6 V6=>?_
 have a2:∀{KH:HKq}{h:Heap}{M:LSq},Vs h M->(n3,Slot.box c.e)∈M->ab PP (.ld (.c (.ptr n3 0 0)) 8 true) h KH=KH c.e h:=λ {KH h M} V hm=>V.Jr (cs:=[.int .i64 c.group,.int .i64 c.sub,.int .i64 c.regs,.int .i64 c.slots,.int .i64 c.params,.sl (c.arrays.map qV.e),.sl (c.loops.map Loop.e),.sl (c.b.map Block.e)]) hm rfl
 rw[a2 V6 (by simp)];refine J2 hc b5 hr V6 λ nU nR Q e4 c5=>?_
 refine c5.alloc λ nu e3 c4=>?_
 refine c4.mY 0 rfl rfl rfl (λ x hx=>by simp at hx;rcases hx with rfl|rfl<;>rfl) λ b1 H=>?_
 simp only[List.set_cons_zero]at H
 replace H:Vs b1 (b6 c nU nR nu n5 n3 nr (Hy c (iB c)) (Gx c (iB c)) (Q++L)):=by
  refine H.perm (.cons _ (.cons _ (.cons _ ?_)));exact List.perm_append_comm_assoc Q [(n5,.box (.agg [.nil,.nil])),(n3,.box c.e)] L
 have lR:(Gx c (iB c)).length=nr:=by rw[CX];omega
 rw[show ∀K:D->Prop,aM (rW ms) b1 K=K (.int .i64 (ms.length:Int)) from λ K=>by rw[rW,bD,aH],rU];refine⟨λ q h'=>∃(k:Nat) (G:List Bool),q=[nD k]/\k<=1000/\G.length=c.b.length/\Le G (Hy c (iB c))/\(ms=[]->G=Hy c (iB c))/\Vs h' (b6 c nU nR nu n5 n3 nr G (Gx c (iB c)) (Q++L)),?_,adb (by omega) CW hms H λ k h' G hk ul le emp V'=>⟨k,G,rfl,hk,ul,le,emp,V'⟩⟩;rintro f18 e2 ⟨k,G,hq,hk,ul,le,emp,c3⟩;simp only[ah,and_true]at hq;refine⟨λ _ h'=>∃(I:List Bool),I.length=nr/\Le I (Gx c (iB c))/\(ms=[]->I=Gx c (iB c))/\Vs h' (b6 c nU nR nu n5 n3 nr G I (Q++L)),?_,ade (by omega) lR hms c3 hk hq λ h' I rl le emp V'=>⟨I,rl,le,emp,V'⟩⟩;rintro f21 e1 ⟨I,rl,b3,c6,a7⟩;rw[a2 a7 (by simp[b6])];refine aW (xt hc.g) (λ d hd=>by simp at hd;subst hd;exact c.b9.pair) ?_;rintro _ ⟨S,rfl,hS,b4⟩;have eS:=tI hS b4;subst eS;rw[a2 a7 (by simp[b6])];refine xz hc.g Dd a7 λ v X c0 c2 wX=>?_
 have c1:Vs c0 (b6 c nU nR nu n5 n3 nr G I (X++(Q++L))):=by
  refine c2.perm ?_;exact List.perm_append_comm_assoc X [(nu,.box (.agg [.ms nU 0 c.b.length,.ms nR 0 nr])),(nR,.arr 1 (bL I)),(nU,.arr 1 (bL G)),(n5,.box (.agg [.nil,.nil])),(n3,.box c.e)] (Q++L)
 refine⟨λ _ h'=>∃Z R2,Z.length=c.b.length/\R2.length=nr/\(iB c).all (fe Z R2)=true/\Le Z (Hy c (iB c))/\Le R2 (Gx c (iB c))/\Vs h' (b6 c nU nR nu n5 n3 nr Z R2 (X++(Q++L))),?_,W9 hc hr Dr.le (wX.mono λ x hx=>by simp[hx]) ul (by omega) ⟨le,b3⟩ (λ ht=>?_) c1 λ h' Z R2 a1 a8 p2 ck V'=>⟨Z,R2,a1,by omega,ck,p2.1,p2.2,V'⟩⟩
 ·rintro f e0 ⟨Z,R2,a1,a8,ck,p1,p2,b2⟩;rw[b2.fV 0 (s:=2) rfl rfl];refine b2.mY 3 rfl rfl rfl (λ x hx=>by simp at hx;rcases hx with rfl|rfl<;>rfl) λ b7 a6=>?_
  simp only[b6,List.set_cons_succ,List.set_cons_zero]at a6;rw[a6.fV 3 (s:=2) rfl rfl];refine hK nU nR Z R2 (X++Q) b7 a1 a8 ck p1 p2 ?_;rw[List.append_assoc];exact a6.sub (.cons _ (.cons_cons _ (.cons_cons _ (.cons _ (.cons _ (.refl _))))))
 grind [List.length_eq_zero_iff,QL]
end Go.Am
namespace Go.Am
open Go Go.Proofs
theorem PX {c:Code}(hc:bp c){f:FuncId}{ds:List D}{h:Heap}{L:LSq}{K:HKq}(V:Vs h L) (hk:Kj c->ag PP f (c.e::ds) h K):ag PP f (c.e::ds) h K:=by
 intro x w vals G hp hr hs hrel;have hA:=LQ hc V (KH:=λ _ _=>Kj c) λ v h' O O' at' U I _=>⟨O,O',at',U,I⟩
 have:=hA x w #[vals.getD 0 Go.undef] G hp hr rfl λ i d hd=>by
  cases i with
  | zero=>simp at hd;subst hd;exact hrel 0 c.e rfl
  | succ i=>simp at hd
 obtain⟨e,w',fr,⟨v,r,ρ,h',-,-,-,-,-,H⟩,-⟩:=this [];exact hk H x w vals G hp hr hs hrel
theorem Z2 {c:Code}{U R:List Bool}(h1:U.length=c.b.length) (h2:(R.length:Int)=c.regs) (h3:(iB c).all (fe U R)=true):rC c U R=true:=by
 grind [rC]
structure OrB (A B C:List Bool) (i:Nat):Prop where
 len:C.length=A.length
 el:∀k,k<A.length->hasB C k=(hasB A k||(decide (k<i)&&hasB B k))
theorem OrB.zero {A B:List Bool}:OrB A B A 0:=⟨rfl,λ k G=>by simp⟩
theorem OrB.set {A B C:List Bool}{i:Nat}(o:OrB A B C i) (hi:i<A.length):OrB A B (C.set i (hasB C i||hasB B i)) (i+1):=by
 refine⟨by rw[List.length_set,o.len],λ k G=>?_⟩
 have e:hasB (C.set i (hasB C i||hasB B i)) k=if k=i then(hasB C i||hasB B i) else hasB C k:=by
  unfold hasB;rw[List.getElem?_set];by_cases h:i=k
  ·subst h;simp[o.len,hi]
  grind
 rw[e];by_cases h:k=i
 ·subst h;rw[if_pos rfl,o.el k G];simp
 ·rw[if_neg h,o.el k G];grind
theorem OrB.all {A B C:List Bool}(o:OrB A B C A.length) (hb:B.length=A.length) (k:Nat):hasB C k=true↔hasB A k=true\/hasB B k=true:=by
 by_cases G:k<A.length
 ·rw[o.el k G,decide_eq_true G];simp
 ·have:∀{X:List Bool},X.length=A.length->hasB X k=false:=λ h=>by grind [hasB]
  rw[this o.len,this rfl,this hb];simp
end Go.Am
namespace Go.Am
open Go Go.Proofs
set_option maxRecDepth 100000
theorem abi {h:Heap}{L:LSq}{U R:List Bool}{nU nR a b:Nat}{K:D->Prop}(ha:a=U.length) (hb:b=R.length) (V:Vs h ((nR,.arr 1 (bL R))::(nU,.arr 1 (bL U))::L)) (hK:K (uE U R)):ky K (.agg [.ms nU 0 a,.ms nR 0 b]) h:=by
 subst ha;subst hb;have I:(h nU).row=some (1,bL U):=by rw[V.get 1 _ _ rfl];rfl
 have H:(h nR).row=some (1,bL R):=by rw[V.get 0 _ _ rfl];rfl
 have bv:∀(S:List Bool) x,x∈bL S->∀y∈x.cells,y.vone=true:=λ S x hx y hy=>by
  simp only[bL,List.mem_map]at hx;obtain⟨b,-,rfl⟩:=hx;simp[D.cells]at hy;subst hy;rfl
 have G:(D.agg [.ms nU 0 U.length,.ms nR 0 R.length]).fzt h=uE U R:=by
  simp only[D.fzt,D.fz,D.fzc,List.map_cons,List.map_nil,I,H,List.drop_zero];rw[List.take_of_length_le (by rw[xx];omega),List.take_of_length_le (by rw[xx];omega)];rfl
 refine⟨λ x hx=>?_,λ x hx=>?_,?_,?_⟩
 ·simp[D.cells]at hx;rcases hx with rfl|rfl<;>rfl
 ·simp[D.cells]at hx;rcases hx with rfl|rfl
  ·exact⟨1,_,I,by rw[xx];omega,λ x hx y hy=>bv _ x (List.mem_of_mem_drop (List.mem_of_mem_take hx)) y hy⟩
  ·exact⟨1,_,H,by rw[xx];omega,λ x hx y hy=>bv _ x (List.mem_of_mem_drop (List.mem_of_mem_take hx)) y hy⟩
 ·rw[G];rfl
 ·rw[G];exact hK
theorem acf {c:Code}{nr:Nat}(hr:c.regs=(nr:Int)) (hn:c.b.length<=1000/\nr<=1000){t:Bool}:aK PP gZ [c.e,.bool t] (· = uE (List.replicate c.b.length t) (List.replicate nr t)):=by
 refine aZ yq (aG _ _ _) rfl (xM _ _ _) (Ya hr hn Vs.nil λ nU nR h' V=>?_);exact abi (by simp) (by simp) V rfl
end Go.Am
namespace Go.Am
open Go Go.Proofs
set_option maxRecDepth 100000
def SO (p:Nat×Nat×Nat):D:=.agg [.int .u8 (p.1:Int),.int .u8 (p.2.1:Int),.int .u8 (p.2.2:Int)]
def Tp (xs:List (Nat×Nat×Nat)):D:=.sl (xs.map SO)
def bN (t:Term):D:=.agg (.nil::t.cs)
def cN (ts:List Term):D:=.agg [.int .i64 4,.int .i64 2,.int .i64 1,.int .i64 0,.int .i64 0,.nil,.nil,.sl (ts.map bN)]
def cT (ts:List Term):Code:=⟨4,2,1,0,0,[],[],ts.map λ t=>⟨[],t⟩⟩
theorem adC {ts:List Term}:Wk (cN ts) (cT ts).e:=by
 refine .agg _ _ rfl λ i x y h1 h2=>?_
 match i with
 | 0|1|2|3|4=>cases h1;cases h2;exact .refl _
 | 5|6=>cases h1;cases h2;exact .nil
 | 7 =>
  cases h1;cases h2;rw[show(cT ts).b.map Block.e=ts.map λ t=>Block.e ⟨[],t⟩ by simp[cT]];refine Wk.abp ts λ t _=>.agg _ _ rfl λ i x y h1 h2=>?_
  cases i with
  | zero=>cases h1;cases h2;exact .nil
  | succ i=>rw[List.getElem?_cons_succ]at h1 h2;rw[h1]at h2;cases h2;exact .refl _
 | i+8=>cases h1
theorem acg {ts:List Term}(h1:1<=ts.length/\ts.length<=8) (h:∀t∈ts,zr ts.length 1 t):cR (cT ts):=by
 refine⟨⟨⟨by simp[cT];omega,by simp[cT];omega⟩,λ B hB=>?_⟩,λ B hB x hx=>?_,λ B hB=>?_,by simp[cT]⟩
 ·grind [cT]
 ·grind [cT]
 grind [cT]
section
variable {esz:Nat}{h:Heap}{L:LSq}{v:D}{T:List D}{KH:HKq}
theorem QE.stN (q:QE esz h L v T) (i:Nat){n j s:Nat}{cs ds:List D}(hi:L[i]?=some (n,.box (.agg cs))) (hl:ds.length=s) (hj:j+s<=cs.length) (ho:∀x∈ds,x.one=true)
  (hK:∀h',QE esz h' (L.set i (n,.box (.agg (cs.take j++ds++cs.drop (j+ds.length))))) v T->KH .undef h'):ab PP (.st (.c (.ptr n 0 j)) (.c (.agg ds)) s) h KH:=by
 rw[kW,q.vs.get i _ _ hi];exact⟨hl,ho,rfl,hj,hK _ (q.bK i hi (by simp))⟩
theorem QE.M9 (q:QE esz h L v T) (i:Nat){n j:Nat}{cs:List D}{d:D}(hi:L[i]?=some (n,.box (.agg cs))) (hj:j<cs.length) (ho:d.one=true)
  (hK:∀h',QE esz h' (L.set i (n,.box (.agg (cs.set j d)))) v T->KH .undef h'):ab PP (.st (.c (.ptr n 0 j)) (.c d) 1) h KH:=by
 rw[kW,q.vs.get i _ _ hi];have hc:d.cells=[d]:=by cases d<;>first|rfl|cases ho
 refine⟨by rw[hc];rfl,λ x hx=>by grind,rfl,by show j+1<=cs.length;omega,?_⟩
 have e:setCells (.agg cs) j d.cells=.agg (cs.set j d):=by
  rw[hc];show D.agg (cs.take j++[d]++cs.drop (j+1))=_
  grind [List.set_eq_take_append_cons_drop]
 rw[e];exact hK _ (q.bK i hi (by simp))
end
theorem ado {d:D}{h:Heap}{KH:HKq}:ab PP (.iadda (.c (.vp d 0)) (.c (.int .i64 0)) 3 1) h KH=KH (.vp d 0) h:=by
 simp[ab,vcOp,Arg.get,vint]
theorem adn {d:D}{h:Heap}{KH:HKq}:ab PP (.iadda (.c (.vp d 0)) (.c (.int .i64 1)) 3 1) h KH=KH (.vp d 1) h:=by
 simp[ab,vcOp,Arg.get,vint]
theorem adm {d:D}{h:Heap}{KH:HKq}:ab PP (.iadda (.c (.vp d 0)) (.c (.int .i64 2)) 3 1) h KH=KH (.vp d 2) h:=by
 simp[ab,vcOp,Arg.get,vint]
def YQ (n6 n2:Nat) (v:D):LSq:=[(n6,.box (.agg [.int .i64 4,.int .i64 2,.int .i64 1,.int .i64 0,.int .i64 0,.nil,.nil,v])),(n2,.box (.agg [.int .i64 0,.int .i64 0,.int .i64 0,.int .i64 0,.int .i64 0,.nil,.nil,.nil]))]
theorem C6 {k k':IntKind}{a:Int}{h:Heap}{K:D->Prop}:au PP (.conv k (.c (.int k' a))) h K=K (.int k (k.wrap a)):=rfl
theorem Xu {xs:List (Nat×Nat×Nat)}(hb:∀p∈xs,p.1<=255/\p.2.1<=255/\p.2.2<=255){N n6 n2:Nat}(hN:1<=N/\N<=8) (hx:xs.length<=9223372036854775807){h:Heap}(q:QE 14 h (YQ n6 n2 .nil) .nil []){J:HJq}(hJ:∀h' v (ts:List Term),ts.length=N->(∀t∈ts,zr N 1 t)->QE 14 h' (YQ n6 n2 v) v (ts.map bN)->J [] h') :
  nJ h (.int .i64 (N:Int)) (.ptr n6 0 0) (Tp xs) (.ptr n2 0 0) J:=by
 dsimp only[nJ,xC,xF,xI,xJ,xL,xP,xS,yC,yF,yI,yJ,yL];refine⟨λ m l h'=>∃(i:Nat) (v:D) (ts:List Term),l=[nD i]/\i<=N/\m=N-i/\ts.length=i/\(∀t∈ts,zr N 1 t)/\QE 14 h' (YQ n6 n2 v) v (ts.map bN),_,⟨0,.nil,[],rfl,by omega,rfl,rfl,λ t ht=>(by cases ht),q⟩,?_⟩;rintro m f h1 ⟨i,v,ts,hq,hi,hm,g2,g7,q1⟩;simp only[ah,and_true]at hq;rw[hq];by_cases c1:¬i<N
 ·have:i=N:=by omega
  subst this;rw[nD,fU (by omega),ae];grind [aa]
 replace c1:i<N:=Decidable.not_not.1 c1;rw[nD,fY (by omega),af,cx rfl];refine q1.alloc λ n30 j2 g0=>?_
 refine g0.mY (cs':=(⟨5,0,aj,aj,aj,0,0⟩:Term).cs) rfl rfl (λ y hy=>(⟨5,0,aj,aj,aj,0,0⟩:Term).b9.one y hy) λ j1 a8=>?_
 refine⟨λ _ h'=>∃t:Term,zr N 1 t/\QE 14 h' ((n30,.box (.agg t.cs))::YQ n6 n2 v) v (ts.map bN),?_,?_⟩
 ·rintro f' j0 ⟨t,ht,b5⟩;have b4:=b5.vs;rw[b4.fa 1 rfl,b4.bI 1 (j:=0+7) rfl rfl,b4.fV 0 (s:=13) rfl rfl,cx rfl];refine b5.push (d:=bN t) (bw (by simp[Term.cs,D.vone])) rfl (by simp;omega) (by simp;omega) λ v' h9 a7=>?_
  have g5:=a7.vs;rw[g5.fa 1 rfl];refine a7.M9 1 rfl (by simp) a7.one λ h8 e9=>?_
  rw[bB (by omega) (by omega)];simp only[aa,true_and];refine⟨_,by omega,i+1,v',ts++[t],rfl,by omega,rfl,by simp[g2],λ u hu=>?_,?_⟩
  ·grind
  ·have:=e9.less;simpa[YQ] using this
 rw[Tp,bD,aH];by_cases b3:¬i<xs.length
 ·rw[fU (by omega),ae];simp only[aa,true_and];exact⟨_,.exit,a8⟩
 replace b3:i<xs.length:=Decidable.not_not.1 b3;obtain⟨p,hp⟩:∃p,xs[i]?=some p:=⟨xs[i],aq b3⟩;obtain⟨b0,b1,b2⟩:=hb p (ak hp);have H:(xs.map SO)[((i:Int)).toNat]?=some (SO p):=by grind
 obtain⟨k,hk⟩:∃k,k=p.1 % 8:=⟨_,rfl⟩;obtain⟨t0,c0⟩:∃t0,t0=p.2.1 % N:=⟨_,rfl⟩;obtain⟨t1,b7⟩:∃t1,t1=p.2.2 % N:=⟨_,rfl⟩;have g8:k<8:=by omega
 have h0:t0<N:=by rw[c0];exact Nat.mod_lt _ (by omega)
 have g4:t1<N:=by rw[b7];exact Nat.mod_lt _ (by omega)
 have w:∀a:Nat,a<=255->IntKind.i64.wrap (a:Int)=(a:Int):=λ a ha=>wrap64 (by omega) (by omega)
 rw[fY (by omega),af,iN (d:=SO p) (esz:=3) (by omega) H rfl,ado,SO,Fo (j:=0) rfl,Hm (by omega),show((p.1:Int)).tmod 8=((p.1 % 8:Nat):Int) from bm p.1 8, <- hk,jb,w k (by omega)];rw[Ps (d:=SO p) (esz:=3) (by omega) H rfl,MM,adn,SO,mc,Fo (j:=1) rfl,C6,w _ b1,Hm (by omega),bm, <- c0];rw[Ps (d:=SO p) (esz:=3) (by omega) H rfl,MM,adm,SO,mc,Fo (j:=2) rfl,C6,w _ b2,Hm (by omega),bm, <- b7,nY rfl];rw[a8.vs.lH 0 rfl];refine a8.stN 0 (ds:=[.int .i64 (t0:Int),.int .i64 (t1:Int)]) rfl rfl (by simp[Term.cs]) (λ x hx=>by simp at hx;rcases hx with rfl|rfl<;>rfl) λ g3 a1=>?_
 let I:Term->Heap->Prop:=λ t h'=>QE 14 h' ((n30,.box (.agg t.cs))::YQ n6 n2 v) v (ts.map bN)
 have a1:I ⟨5,0,aj,aj,aj,t0,t1⟩ g3:=a1
 let t79:Term:=if k<5 then ⟨2,0,aj,gT 0,aj,t0,t1⟩ else ⟨5,0,aj,aj,aj,t0,t1⟩
 let t82:Term:=if k=5 then ⟨1,0,aj,aj,aj,t0,t1⟩ else t79
 let t85:Term:=if k=6 then ⟨3,0,aj,aj,aj,t0,t1⟩ else t82
 let t88:Term:=if k=7 then ⟨5,0,aj,aj,aj,0,0⟩ else t85
 have kd:∀{t:Term}{h:Heap}{KH:HKq},I t h->ab PP (.fadd (.c (.ptr n30 0 0)) 0) h (λ a h1=>ab PP (.ld (.c a) 1 false) h1 KH)=KH (.int .i64 t.kind) h:=λ {t h KH} q=>by rw[q.vs.fa 0 rfl,q.vs.bI 0 (j:=0+0) rfl rfl]
 refine⟨λ _ h'=>I t79 h',?_,?_⟩
 ·rintro _ h7 a6;refine⟨λ _ h'=>I t82 h',?_,?_⟩
  ·rintro _ h6 a2;refine⟨λ _ h'=>I t85 h',?_,?_⟩
   ·rintro _ h5 Z;refine⟨λ _ h'=>I t88 h',?_,?_⟩
    ·rintro _ c2 G
     have Q:∀(kk:Int) (h:Heap),zr N 1 ⟨kk,0,aj,aj,aj,t0,0⟩->I ⟨kk,0,aj,aj,aj,t0,t1⟩ h->ab PP (.fadd (.c (.ptr n30 0 0)) 11) h λ e8 c8=>ab PP (.iadda (.c e8) (.c (.int .i64 0)) 2 1) c8 λ e7 c7=>ab PP (.ld (.c e7) 1 false) c7 λ e6 c6=>ab PP (.bld [(.int .i64 0),(.int .i64 0)] [(0,1,(.c e6)),(1,1,(.c (.int .i64 0)))]) c6 λ e4 c5=>ab PP (.fadd (.c (.ptr n30 0 0)) 11) c5 λ e0 c4=>ab PP (.st (.c e0) (.c e4) 2) c4 λ g6 c3=>∃t,zr N 1 t/\I t c3:=λ kk h hT q=>by
      have i0:∀{KH:HKq},ab PP (.iadda (.c (.ptr n30 0 11)) (.c (.int .i64 0)) 2 1) h KH=KH (.ptr n30 0 11) h:=λ {KH}=>q.vs.ZE 0 (a:=0) rfl (by omega)
      rw[q.vs.fa 0 rfl,i0,q.vs.bI 0 (j:=0+11) rfl rfl,cx rfl,q.vs.fa 0 rfl];exact q.stN 0 (ds:=[.int .i64 (t0:Int),.int .i64 0]) rfl rfl (by simp[Term.cs]) (λ x hx=>by simp at hx;rcases hx with rfl|rfl<;>rfl) λ h' V=>⟨⟨kk,0,aj,aj,aj,t0,0⟩,hT,V⟩
     rw[kd G,bq];by_cases k5:k=5
     ·have e:t88=⟨1,0,aj,aj,aj,t0,t1⟩:=by simp[t88,t85,t82,k5]
      rw[e]at G ⊢;rw[decide_eq_true rfl];simp only[gD,Bool.not_false,Bool.not_true,aC,if_true,if_false];rw[af];simp only[aa,true_and];exact Q 1 c2 (.jump t0 h0) G
     by_cases k6:k=6
     ·have e:t88=⟨3,0,aj,aj,aj,t0,t1⟩:=by simp[t88,t85,k6]
      rw[e]at G ⊢;rw[decide_eq_false (by simp)];simp only[gD,Bool.not_false,Bool.not_true,aC,if_true,if_false];rw[kd G,bq,decide_eq_true rfl,af];simp only[aa,true_and];exact Q 3 c2 (.barrier t0 h0) G
     have e:zr N 1 t88/\t88.kind≠1/\t88.kind≠3:=by
      by_cases k7:k=7
      ·have e:t88=⟨5,0,aj,aj,aj,0,0⟩:=by simp[t88,k7]
       rw[e];exact⟨.exit,by simp,by simp⟩
      ·have e:t88=⟨2,0,aj,gT 0,aj,t0,t1⟩:=by
        grind
       rw[e];exact⟨.branch _ t0 t1 ⟨0,by omega,by omega,rfl⟩ h0 g4,by simp,by simp⟩
     obtain⟨e1,e2,e3⟩:=e;rw[decide_eq_false e2];simp only[gD,Bool.not_false,Bool.not_true,aC,if_true,if_false];rw[kd G,bq,decide_eq_false e3,ae];grind [aa]
    ·rw[kd Z,bq];by_cases k7:k=7
     ·have e:t85=⟨5,0,aj,aj,aj,t0,t1⟩:=by simp[t85,t82,t79,k7]
      have e':t88=⟨5,0,aj,aj,aj,0,0⟩:=by simp[t88,k7]
      rw[e]at Z ⊢;rw[decide_eq_true rfl,af,cx rfl,Z.vs.fa 0 rfl,e'];simp only[aa,true_and];exact Z.stN 0 (ds:=[.int .i64 0,.int .i64 0]) rfl rfl (by simp[Term.cs]) (λ x hx=>by simp at hx;rcases hx with rfl|rfl<;>rfl) λ h' V=>V
     ·have e:t88=t85:=by simp[t88,k7]
      have e5:t85.kind≠5:=by
       grind
      grind [ae,aa]
   ·rw[bq];by_cases k6:k=6
    ·have e:t82=⟨5,0,aj,aj,aj,t0,t1⟩:=by simp[t82,t79,k6]
     have e':t85=⟨3,0,aj,aj,aj,t0,t1⟩:=by simp[t85,k6]
     rw[e]at a2;rw[decide_eq_true (by omega),af,a2.vs.fa 0 rfl,e'];simp only[aa,true_and];exact a2.M9 0 rfl (by simp[Term.cs]) rfl λ h' V=>V
    ·have e:t85=t82:=by simp[t85,k6]
     rw[decide_eq_false (by omega),ae,e];grind [aa]
  ·rw[bq];by_cases k5:k=5
   ·have e:t79=⟨5,0,aj,aj,aj,t0,t1⟩:=by simp[t79,k5]
    have e':t82=⟨1,0,aj,aj,aj,t0,t1⟩:=by simp[t82,k5]
    rw[e]at a6;rw[decide_eq_true (by omega),af,a6.vs.fa 0 rfl,e'];simp only[aa,true_and];exact a6.M9 0 rfl (by simp[Term.cs]) rfl λ h' V=>V
   ·have e:t82=t79:=by simp[t82,k5]
    rw[decide_eq_false (by omega),ae,e];grind [aa]
 ·by_cases k5:k<5
  ·have e':t79=⟨2,0,aj,gT 0,aj,t0,t1⟩:=by simp[t79,k5]
   rw[fY (by omega),af,a1.vs.fa 0 rfl,e'];simp only[aa,true_and];refine a1.M9 0 rfl (by simp[Term.cs]) rfl λ h' V=>?_
   rw[cx rfl,V.vs.fa 0 rfl];exact V.stN 0 (ds:=[.int .i64 2,.int .i64 0,.int .i32 0]) rfl rfl (by simp[Term.cs]) (λ x hx=>by simp at hx;rcases hx with rfl|rfl|rfl<;>rfl) λ j3 g1=>g1
  grind [fU,ae,aa]
theorem Vl {xs:List (Nat×Nat×Nat)}(hb:∀p∈xs,p.1<=255/\p.2.1<=255/\p.2.2<=255) (hx:xs.length<=9223372036854775807):aK PP tO [Tp xs] (λ r=>∃ts:List Term,cR (cT ts)/\r=cN ts):=by
 refine aZ H4 (aG _ _ _) rfl (HJ _ _) ?_;dsimp only[DF,xL,xS];refine Vs.nil.alloc λ n2 h3 V3=>?_
 rw[cx rfl];refine V3.alloc λ n6 h7 V7=>?_
 refine V7.mY (cs':=[.int .i64 4,.int .i64 2,.int .i64 1,.int .i64 0,.int .i64 0,.nil,.nil,.nil]) 0 rfl rfl rfl (λ x hx=>by simp at hx;rcases hx with rfl|rfl|rfl|rfl|rfl<;>rfl) λ h9 I=>?_
 simp only[List.set_cons_zero]at I;rw[show ∀K:D->Prop,aM (Tp xs) h9 K=K (.int .i64 (xs.length:Int)) from λ K=>by rw[Tp,bD,aH],abC,abB]
 obtain⟨N,Z,e⟩:∃N:Nat,(1<=N/\N<=8)/\(if(if(8:Int)<(xs.length:Int) then(8:Int) else(xs.length:Int))<1 then(1:Int) else(if(8:Int)<(xs.length:Int) then(8:Int) else(xs.length:Int)))=(N:Int):=by
  refine⟨max (min xs.length 8) 1,by omega,?_⟩;grind
 rw[e];refine⟨λ _ h'=>∃(v:D) (ts:List Term),ts.length=N/\(∀t∈ts,zr N 1 t)/\QE 14 h' (YQ n6 n2 v) v (ts.map bN),?_,Xu hb Z hx (Or.inl ⟨rfl,rfl,I⟩) λ h' v ts h1 h2 q=>⟨v,ts,h1,h2,q⟩⟩;rintro f a1 ⟨v,ts,hl,Q,q⟩;rcases q with⟨-,h0,-⟩|⟨m,rfl,V⟩
 ·have:=congrArg List.length h0;grind
 rw[V.fV 1 (s:=8) rfl rfl];refine V.mY 2 rfl rfl rfl (λ x hx=>by simp at hx;rcases hx with rfl|rfl|rfl|rfl|rfl|rfl<;>rfl) λ H G=>?_
 simp only[YQ,List.set_cons_succ,List.set_cons_zero]at G;rw[G.fV 2 (s:=8) rfl rfl];have hr:(H m).row=some (14,ts.map bN):=by rw[G.get 0 _ _ rfl];rfl
 have ef:(D.agg [.int .i64 4,.int .i64 2,.int .i64 1,.int .i64 0,.int .i64 0,.nil,.nil,.ms m 0 (ts.map bN).length]).fzt H=cN ts:=by
  simp only[D.fzt,D.fz,D.fzc,List.map_cons,List.map_nil,hr,List.drop_zero];rw[List.take_of_length_le (Nat.le_refl _)];rfl
 refine⟨λ x hx=>?_,λ x hx=>?_,?_,?_⟩
 ·simp[D.cells]at hx;rcases hx with rfl|rfl|rfl|rfl|rfl|rfl<;>rfl
 ·simp[D.cells]at hx
  rcases hx with rfl|rfl|rfl|rfl|rfl|rfl<;>first|trivial|exact⟨14,_,hr,by simp,λ x hx y hy=>by
   have:=List.mem_of_mem_drop (List.mem_of_mem_take hx);simp only[List.mem_map]at this;obtain⟨t,-,rfl⟩:=this
   exact(bw (cs:=.nil::t.cs) (by simp[Term.cs,D.vone])).vd ▸ by simp[bN,D.cells,Term.cs]at hy;rcases hy with rfl|rfl|rfl|rfl|rfl|rfl|rfl|rfl|rfl|rfl|rfl|rfl|rfl|rfl<;>rfl⟩
 ·rw[ef];rfl
 grind [acg]
end Go.Am
namespace Go.Am
open Go Go.Proofs
theorem Vs.acj {h:Heap}{L:LSq}{KH:HKq}(V:Vs h L){esz:Nat}{d e z:D}(hd:kx d) (he:kx e) (hcd:d.cells.length=esz) (hce:e.cells.length=esz) (hK:∀n h',Vs h' ((n,.arr esz [d,e])::L)->KH (.ms n 0 2) h'):ab PP (.bldS true esz 2 z [(0,.c d),(1,.c e)]) h KH:=by
 obtain⟨f1,G,I⟩:=jj (h:=h) hd.pair.1;obtain⟨f2,n2,H⟩:=jj (h:=h) he.pair.1;refine⟨λ p hp=>?_,λ _ p hp=>?_,λ n t=>?_⟩
 ·simp[Arg.get]at hp;rcases hp with rfl|rfl
  ·exact⟨by simp,hcd,hd.one⟩
  ·exact⟨by simp,hce,he.one⟩
 ·grind [Arg.get]
 ·have:=hK n _ (V.push t.free (s:=.arr esz [d,e]) (by simp));grind [Arg.get,setEls,Heap.freezeAll]
theorem Iw {f:FuncId}{d:D}{h:Heap}{L:LSq}{K:D->Prop}{vU vR r:D}{U R:List Bool}(hd:kx d) (V:Vs h L) (wU:BW L vU U) (wR:BW L vR R) (hv:aK PP f [d,uE U R] (· = r)) (hf:r.flat=true) (hK:K r):au PP (.call f [.c d,.c (.agg [vU,vR])]) h K:=by
 obtain⟨f1,f2,f3⟩:=fzU V wU wR;obtain⟨H,I,G⟩:=jj (h:=h) hd.pair.1;refine⟨r,?_,λ x hx=>?_,Or.inl hf,hK⟩
 ·grind [Arg.get]
 ·simp[Arg.get]at hx;rcases hx with rfl|rfl
  ·exact⟨hd.one,G,by rw[H];exact hd.pair.1⟩
  ·exact⟨f2,f3,by rw[f1];exact ML.pair.1⟩
theorem acU {d e x:D}(h:Wk d e):OS [d,x] [e,x]:=.cons h (.cons (.refl _) .nil)
end Go.Am
