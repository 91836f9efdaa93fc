/- What the functions of this chapter give, on plain data. No condition. -/
import Derived.Shelf.Spec.SlicesGrow
import Derived.Test.YtemgkmgmnnaloaaP1
set_option linter.unnecessarySimpa false
set_option linter.defProp false
set_option linter.unusedSectionVars false
set_option linter.unusedSimpArgs false
set_option linter.unusedVariables false
namespace Go.Am
open Go
structure eE (h:Heap) (c:Code) (l:dk) (it:It) (g s:Mm):Prop where
 b0:h 0=.box c.e
 b1:h 1=.box l.e
 b2:h 2=.box (.agg it.cs)
 b3:h 3=.box (aR g)
 b4:h 4=.box (aR s)
 b5:h 5=.box (.agg [.int .i64 0,.int .i64 0,.int .i64 0,.int .i64 0,.nil,.nil,.nil])
 b6:h 6=.box .nil
 b7:h 7=.box .nil
 b8:h 8=.box .nil
 b9:h 9=.box (.int .i64 0)
theorem eE.aD {h h':Heap}{c:Code}{l:dk}{it:It}{g s:Mm}(b:eE h c l it g s) (k:∀j,j<10->h' j=h j):eE h' c l it g s :=
  ⟨by rw[k 0 (by omega)];exact b.b0,by rw[k 1 (by omega)];exact b.b1,by rw[k 2 (by omega)];exact b.b2,by rw[k 3 (by omega)];exact b.b3,by rw[k 4 (by omega)];exact b.b4,
   by rw[k 5 (by omega)];exact b.b5,by rw[k 6 (by omega)];exact b.b6,by rw[k 7 (by omega)];exact b.b7,by rw[k 8 (by omega)];exact b.b8,by rw[k 9 (by omega)];exact b.b9⟩
theorem eE.nf {h:Heap}{c:Code}{l:dk}{it:It}{g s:Mm}(b:eE h c l it g s){j:Nat}(hj:j<10):h j≠.free:=by
 have:j=0\/j=1\/j=2\/j=3\/j=4\/j=5\/j=6\/j=7\/j=8\/j=9:=by omega
 rcases this with rfl|rfl|rfl|rfl|rfl|rfl|rfl|rfl|rfl|rfl
 ·rw[b.b0];simp
 ·rw[b.b1];simp
 ·rw[b.b2];simp
 ·rw[b.b3];simp
 ·rw[b.b4];simp
 ·rw[b.b5];simp
 ·rw[b.b6];simp
 ·rw[b.b7];simp
 ·rw[b.b8];simp
 ·rw[b.b9];simp
section
variable {h:Heap}{c:Code}{l:dk}{it:It}{g s:Mm}{K:D->Prop}
theorem eE.lc (b:eE h c l it g s):aq PP (.ld (.c (.ptr 0 0 0)) 8 true) h K=K c.e:=by rw[bL];exact db b.b0
theorem eE.ll (b:eE h c l it g s):aq PP (.ld (.c (.ptr 1 0 0)) 2 true) h K=K l.e:=by rw[bL];exact db b.b1
theorem eE.li (b:eE h c l it g s):aq PP (.ld (.c (.ptr 2 0 0)) 7 true) h K=K it.e:=by rw[bL];exact db b.b2
theorem Hu {n:Nat}{d:D}(a:h n=.box d) (hd:d.cells=[d]){KH:HK}:ab PP (.ld (.c (.ptr n 0 0)) 1 false) h KH=KH d h:=by
 rw[jE,a];simp[bk,hd]
theorem Qk {n:Nat}{d:D}(a:h n=.box d) (hd:d.cells=[d]):aq PP (.ld (.c (.ptr n 0 0)) 1 false) h K=K d:=by rw[bL,Hu a hd]
theorem eE.lg (b:eE h c l it g s):aq PP (.ld (.c (.ptr 3 0 0)) 1 false) h K=K (aR g):=Qk b.b3 rfl
theorem eE.ls (b:eE h c l it g s):aq PP (.ld (.c (.ptr 4 0 0)) 1 false) h K=K (aR s):=Qk b.b4 rfl
theorem SW {n:Nat}{d d':D}(a:h n=.box d) (hd:d.cells=[d]) (hd':d'.cells=[d']) (ho:d'.one=true){KH:HK}:ab PP (.st (.c (.ptr n 0 0)) (.c d') 1) h KH=KH .undef (ah h n (.box d')):=by
 have e:setCells d 0 d'.cells=d':=by
  rw[hd']
  cases d with
  | agg cs =>
   exfalso
   have h0:cs=[D.agg cs]:=hd
   have:=congrArg (fun x:List D=>SizeOf.sizeOf x) h0
   simp at this
   omega
  | _=>rfl
 rw[dq,a]
 apply propext
 constructor
 ·rintro⟨-,-,-,-,h⟩;rw[e]at h;exact h
 ·intro h;exact⟨by rw[hd'];rfl,fun x hx=>by rw[hd']at hx;simp at hx;subst hx;exact ho,rfl,by rw[hd];simp,by rw[e];exact h⟩
end
theorem NG (it:It):aw it.e:=it.bZ.one
theorem Sx {h:Heap}{dI dG dS dE:D}{cs:List D}(hI:dI=.agg cs) (hcs:cs.length=7) (oI:aw dI) (b5:h 5=.box (.agg [.int .i64 0,.int .i64 0,.int .i64 0,.int .i64 0,.nil,.nil,.nil])) (b6:h 6=.box .nil) (b7:h 7=.box .nil) (b8:h 8=.box .nil) (b9:h 9=.box (.int .i64 0))
  (hG:dG.cells=[dG]/\dG.one=true) (hS:dS.cells=[dS]/\dS.one=true) (hE:dE.cells=[dE]/\dE.one=true) {n:Int}{R1 R2 R3 R4 R5:Heap->Prop}
  (hR:∀h',(∀k,k≠5->k≠6->k≠7->k≠8->k≠9->h' k=h k)->R1 h'/\R2 h'/\R3 h'/\R4 h'/\R5 h') {KH:HK}
  (hK:∀h',(∀k,k≠5->k≠6->k≠7->k≠8->k≠9->h' k=h k)->KH (.tup [dI,dG,dS,dE,.int .i64 n]) h') :
  ab PP (.st (.c (.ptr 5 0 0)) (.c dI) 7) h fun _ h1=>R1 h1/\ab PP (.st (.c (.ptr 6 0 0)) (.c dG) 1) h1 fun _ h2=>R2 h2/\ab PP (.st (.c (.ptr 7 0 0)) (.c dS) 1) h2 fun _ h3=>R3 h3 /\
  ab PP (.st (.c (.ptr 8 0 0)) (.c dE) 1) h3 fun _ h4=>R4 h4/\ab PP (.st (.c (.ptr 9 0 0)) (.c (.int .i64 n)) 1) h4 fun _ h5=>R5 h5 /\
  ab PP (.ld (.c (.ptr 5 0 0)) 7 true) h5 fun a _=>ab PP (.ld (.c (.ptr 6 0 0)) 1 false) h5 fun b _=>ab PP (.ld (.c (.ptr 7 0 0)) 1 false) h5 fun c _=>ab PP (.ld (.c (.ptr 8 0 0)) 1 false) h5 fun d _ =>
  ab PP (.ld (.c (.ptr 9 0 0)) 1 false) h5 fun e _=>KH (.tup [a,b,c,d,e]) h5:=by
 subst hI
 rw[dq,b5]
 refine⟨hcs,oI,rfl,by simp[hcs],?_⟩
 have es:setCells (.agg [.int .i64 0,.int .i64 0,.int .i64 0,.int .i64 0,.nil,.nil,.nil]) 0 (D.agg cs).cells=.agg cs:=by
  simp only[setCells,ca,List.take_zero,List.nil_append,hcs];simp
 rw[es]
 obtain⟨h1,e1⟩:∃h1,h1=ah h 5 (.box (.agg cs)):=⟨_,rfl⟩
 rw[<- e1]
 have q1:∀k,k≠5->h1 k=h k:=fun k hk=>by rw[e1,aa _ _ hk]
 have p5:h1 5=.box (.agg cs):=by rw[e1,ad]
 refine⟨(hR h1 fun k a _ _ _ _=>q1 k a).1,?_⟩
 rw[SW (by rw[q1 6 (by omega)];exact b6) rfl hG.1 hG.2]
 obtain⟨h2,e2⟩:∃h2,h2=ah h1 6 (.box dG):=⟨_,rfl⟩
 rw[<- e2]
 have q2:∀k,k≠6->h2 k=h1 k:=fun k hk=>by rw[e2,aa _ _ hk]
 refine⟨(hR h2 fun k a b _ _ _=>by rw[q2 k b,q1 k a]).2.1,?_⟩
 rw[SW (by rw[q2 7 (by omega),q1 7 (by omega)];exact b7) rfl hS.1 hS.2]
 obtain⟨h3,e3⟩:∃h3,h3=ah h2 7 (.box dS):=⟨_,rfl⟩
 rw[<- e3]
 have q3:∀k,k≠7->h3 k=h2 k:=fun k hk=>by rw[e3,aa _ _ hk]
 refine⟨(hR h3 fun k a b c _ _=>by rw[q3 k c,q2 k b,q1 k a]).2.2.1,?_⟩
 rw[SW (by rw[q3 8 (by omega),q2 8 (by omega),q1 8 (by omega)];exact b8) rfl hE.1 hE.2]
 obtain⟨h4,e4⟩:∃h4,h4=ah h3 8 (.box dE):=⟨_,rfl⟩
 rw[<- e4]
 have q4:∀k,k≠8->h4 k=h3 k:=fun k hk=>by rw[e4,aa _ _ hk]
 refine⟨(hR h4 fun k a b c d _=>by rw[q4 k d,q3 k c,q2 k b,q1 k a]).2.2.2.1,?_⟩
 rw[SW (by rw[q4 9 (by omega),q3 9 (by omega),q2 9 (by omega),q1 9 (by omega)];exact b9) rfl rfl rfl]
 obtain⟨h5,e5⟩:∃h5,h5=ah h4 9 (.box (.int .i64 n)):=⟨_,rfl⟩
 rw[<- e5]
 have q5:∀k,k≠9->h5 k=h4 k:=fun k hk=>by rw[e5,aa _ _ hk]
 have al:∀k,k≠5->k≠6->k≠7->k≠8->k≠9->h5 k=h k:=fun k a b c d e=>by rw[q5 k e,q4 k d,q3 k c,q2 k b,q1 k a]
 refine⟨(hR h5 al).2.2.2.2,?_⟩
 have l5:∀{KH:HK},ab PP (.ld (.c (.ptr 5 0 0)) 7 true) h5 KH=KH (.agg cs) h5:=fun {KH}=>by
  rw[<- hcs];exact db (by rw[q5 5 (by omega),q4 5 (by omega),q3 5 (by omega),q2 5 (by omega)];exact p5)
 rw[l5,Hu (d:=dG) (by rw[q5 6 (by omega),q4 6 (by omega),q3 6 (by omega),e2,ad]) hG.1,Hu (d:=dS) (by rw[q5 7 (by omega),q4 7 (by omega),e3,ad]) hS.1,Hu (d:=dE) (by rw[q5 8 (by omega),e4,ad]) hE.1,
  Hu (d:=.int .i64 n) (by rw[e5,ad]) rfl]
 exact hK h5 al
end Go.Am
namespace Go.Am
open Go
def Rp (r:pE):D:=.tup [r.it.e,aR r.g,aR r.s,.sl (r.ev.map Ev.e),.int .i64 r.e]
theorem oW {m:Mm}:(aR m).cells=[aR m]/\(aR m).one=true:=⟨rfl,rfl⟩
theorem Sb {d:D}(h:d.one=true):d.cells=[d]/\d.one=true:=⟨gF h,h⟩
theorem Kn {P:Program}{xs:List aN}{k:Nat}{x:aN}(hx:xs[k]?=some x){h:Heap}{KH:HK}:ab P (.iadd (.c (.sl (xs.map aN.e))) (.c (.int .i64 (k:Int))) 15) h KH=KH (.vp x.e 0) h:=by
 have hk:=(List.getElem?_eq_some_iff.1 hx).1
 rw[im,Int.toNat_natCast,List.getElem?_map,hx,List.length_map]
 apply propext
 constructor
 ·rintro⟨-,-,h⟩;exact(h _ rfl).2
 ·intro hk';exact⟨by omega,by omega,fun d hd=>by cases hd;exact⟨rfl,hk'⟩⟩
theorem Km {P:Program}{x:aN}{h:Heap}{KH:HK}:ab P (.ld (.c (.vp x.e 0)) 15 true) h KH=KH x.e h:=by
 rw[gY,cn]
 have e:(x.e.cells.drop 0).take 15=x.cs:=rfl
 have l:x.e.cells.length=15:=rfl
 rw[e,l];simp[aN.e]
theorem HQ {c:Code}{l:dk}{it:It}{g s:Mm}{av n:Int}{h:Heap}(hs:bS c l it g s av=⟨it,g,s,[],n⟩):Fj (· = Rp (bS c l it g s av)) (.tup [it.e,aR g,aR s,.nil,.int .i64 n]) h:=by
 refine nr (.refl h) (.cons (gg it.bZ) (.cons (aH rfl).d (.cons (aH rfl).d (.cons gh.d (.cons (aH rfl).d .nil))))) ?_
 rw[hs];rfl
theorem TP {h:Heap}{dI dG dS dE:D}{cs:List D}(hI:dI=.agg cs) (hcs:cs.length=7) (oI:aw dI) (b5:h 5=.box (.agg [.int .i64 0,.int .i64 0,.int .i64 0,.int .i64 0,.nil,.nil,.nil])) (b6:h 6=.box .nil) (b7:h 7=.box .nil) (b8:h 8=.box .nil) (b9:h 9=.box (.int .i64 0))
  (hG:dG.cells=[dG]/\dG.one=true) (hS:dS.cells=[dS]/\dS.one=true) (hE:dE.cells=[dE]/\dE.one=true) {n:Int}{R1 R2 R3:Heap->Prop}
  (hR:∀h',(∀k,k≠5->k≠6->k≠7->k≠8->k≠9->h' k=h k)->R1 h'/\R2 h'/\R3 h') {KH:HK}
  (hK:∀h',(∀k,k≠5->k≠6->k≠7->k≠8->k≠9->h' k=h k)->KH (.tup [dI,dG,dS,dE,.int .i64 n]) h') :
  ab PP (.st (.c (.ptr 5 0 0)) (.c dI) 7) h fun _ h1=>R1 h1/\ab PP (.st (.c (.ptr 6 0 0)) (.c dG) 1) h1 fun _ h2=>R2 h2/\ab PP (.st (.c (.ptr 7 0 0)) (.c dS) 1) h2 fun _ h3=>R3 h3 /\
  ab PP (.st (.c (.ptr 8 0 0)) (.c dE) 1) h3 fun _ h4=>ab PP (.st (.c (.ptr 9 0 0)) (.c (.int .i64 n)) 1) h4 fun _ h5 =>
  ab PP (.ld (.c (.ptr 5 0 0)) 7 true) h5 fun a _=>ab PP (.ld (.c (.ptr 6 0 0)) 1 false) h5 fun b _=>ab PP (.ld (.c (.ptr 7 0 0)) 1 false) h5 fun c _=>ab PP (.ld (.c (.ptr 8 0 0)) 1 false) h5 fun d _ =>
  ab PP (.ld (.c (.ptr 9 0 0)) 1 false) h5 fun e _=>KH (.tup [a,b,c,d,e]) h5:=by
 have:=Sx (h:=h) (n:=n) (R1:=R1) (R2:=R2) (R3:=R3) (R4:=fun _=>True) (R5:=fun _=>True) hI hcs oI b5 b6 b7 b8 b9 hG hS hE (fun h' hk=>⟨(hR h' hk).1,(hR h' hk).2.1,(hR h' hk).2.2,trivial,trivial⟩) hK
 simp only[true_and]at this
 exact this
theorem TO {h:Heap}{dI dG dS dE:D}{cs:List D}(hI:dI=.agg cs) (hcs:cs.length=7) (oI:aw dI) (b5:h 5=.box (.agg [.int .i64 0,.int .i64 0,.int .i64 0,.int .i64 0,.nil,.nil,.nil])) (b6:h 6=.box .nil) (b7:h 7=.box .nil) (b8:h 8=.box .nil) (b9:h 9=.box (.int .i64 0))
  (hG:dG.cells=[dG]/\dG.one=true) (hS:dS.cells=[dS]/\dS.one=true) (hE:dE.cells=[dE]/\dE.one=true) {n:Int}{KH:HK}(hK:∀h',KH (.tup [dI,dG,dS,dE,.int .i64 n]) h') :
  ab PP (.st (.c (.ptr 5 0 0)) (.c dI) 7) h fun _ h1=>ab PP (.st (.c (.ptr 6 0 0)) (.c dG) 1) h1 fun _ h2=>ab PP (.st (.c (.ptr 7 0 0)) (.c dS) 1) h2 fun _ h3 =>
  ab PP (.st (.c (.ptr 8 0 0)) (.c dE) 1) h3 fun _ h4=>ab PP (.st (.c (.ptr 9 0 0)) (.c (.int .i64 n)) 1) h4 fun _ h5 =>
  ab PP (.ld (.c (.ptr 5 0 0)) 7 true) h5 fun a _=>ab PP (.ld (.c (.ptr 6 0 0)) 1 false) h5 fun b _=>ab PP (.ld (.c (.ptr 7 0 0)) 1 false) h5 fun c _=>ab PP (.ld (.c (.ptr 8 0 0)) 1 false) h5 fun d _ =>
  ab PP (.ld (.c (.ptr 9 0 0)) 1 false) h5 fun e _=>KH (.tup [a,b,c,d,e]) h5:=by
 have:=Sx (h:=h) (n:=n) (R1:=fun _=>True) (R2:=fun _=>True) (R3:=fun _=>True) (R4:=fun _=>True) (R5:=fun _=>True) hI hcs oI b5 b6 b7 b8 b9 hG hS hE (fun h' hk=>⟨trivial,trivial,trivial,trivial,trivial⟩) (fun h' _=>hK h')
 simp only[true_and]at this
 exact this
theorem RX {h:Heap}{c:Code}{it:It}{st:St}{dR dP dL:D}(hR:wG h dR (words st.regs)) (hP:wG h dP (aR (st.mem 3))) (hL:wG h dL (.sl [])) :
  OS h (zQ c { it with regs:=st.regs,priv:=st.mem 3 } dR dP dL) (aP c { it with regs:=st.regs,priv:=st.mem 3 }).e:=by
 obtain⟨it1,h1⟩:∃it1:It,it1={ it with regs:=st.regs,priv:=st.mem 3 }:=⟨_,rfl⟩
 rw[<- h1]
 have r1:it1.regs=st.regs:=by rw[h1]
 have p1:it1.priv=st.mem 3:=by rw[h1]
 unfold zQ
 by_cases h5:(dg c it1.block).kind=5
 ·rw[if_pos h5]
  have:aP c it1=bD c it1.id it1.epoch 3:=by simp[aP,h5]
  rw[this];exact gg (It.bZ _)
 ·rw[if_neg h5]
  have e:(aP c it1).regs=st.regs/\(aP c it1).priv=st.mem 3:=by
   rw[<- r1, <- p1]
   simp only[aP]
   split
   ·exact⟨rfl,rfl⟩
   ·split
    ·exact⟨rfl,rfl⟩
    ·first|exact⟨rfl,rfl⟩|(rw[if_neg h5];exact⟨rfl,rfl⟩)
  have:(aP c it1).e=.agg [.int .i64 (aP c it1).id,.int .i64 (aP c it1).at_,.int .i64 (aP c it1).block,.int .i64 (aP c it1).epoch,words st.regs,aR (st.mem 3),.sl []]:=by rw[<- e.1, <- e.2];rfl
  rw[this]
  exact(BP.cons (aH rfl) (.cons (aH rfl) (.cons (aH rfl) (.cons (aH rfl) (.cons hR (.cons hP (.cons hL .nil))))))).agg
theorem HX {c:Code}{it:It}{dR dP dL:D}(oR:dR.one=true) (oP:dP.one=true) (oL:dL.one=true):∃cs,zQ c it dR dP dL=.agg cs/\cs.length=7/\aw (zQ c it dR dP dL):=by
 unfold zQ
 split
 ·exact⟨_,rfl,rfl,(It.bZ _).one⟩
 ·refine⟨_,rfl,rfl,fun z hz=>?_⟩
  simp[rE]at hz
  rcases hz with rfl|rfl|rfl|rfl|rfl|rfl|rfl<;>first|rfl|assumption
theorem M7 {h:Heap}{ro:Ro}{KH:HK}(hK:∀(dL:D) (h':Heap) (ro':Ro),(∀k,h k≠.free->h' k=h k/\ro' k=ro k)->KI h' ro' dL->KH dL h'):ag PP aS [.sl []] h KH:=by
 refine Na (hK .nil h ro (fun k _=>⟨rfl,rfl⟩) (Or.inl rfl)) fun q h' hq hq2 hk=>?_
 refine hK (.ms q 0 0) h' (ah ro q .sl) (fun k hf=>⟨hk k hf,?_⟩) (Or.inr (Or.inr ⟨q,rfl,hq2,ad _ _ _⟩))
 rw[aa _ _ (by rintro rfl;exact hf hq)]
theorem RR {c:Code}{l:dk}{it:It}{g s:Mm}{av:Int}(hc:bj c) (hl:js c l) (hi:L0 c l it) (hg:fY c.arrays 1 g) (hs:fY c.arrays 2 s) :
  aF PP qZ [c.e,l.e,it.e,aR g,aR s,.int .i64 av] (· = Rp (bS c l it g s av)):=by
 refine fZ (OM Fy (aA _ _ _) K1 rfl (Fg _ _ _ _ _ _ _) ?_)
 (unfold BC;try dsimp only[xL,yL,xF,yF,xI,yI,xS,zI,zJ])
 rw[cX,kr OV (Code.on c),kr (by simp) (dk.on l),kr (by simp) (show it.e.cells.all D.one=true from rfl),kr (by simp) (show(aR g).cells.all D.one=true from rfl),kr (by simp) (show(aR s).cells.all D.one=true from rfl),
  ic (by simp),ic (by simp),ic (by simp),ic (by simp),ic (by simp)]
 simp only[List.nil_append,List.length_nil,List.length_singleton,List.cons_append,List.length_cons,Nat.zero_add,Nat.reduceAdd]
 obtain⟨H,hH⟩:∃H,H=LH.h [Slot.box c.e,.box l.e,.box it.e,.box (aR g),.box (aR s),.box (.agg [.int .i64 0,.int .i64 0,.int .i64 0,.int .i64 0,.nil,.nil,.nil]),.box .nil,.box .nil,.box .nil,.box (.int .i64 0)]:=⟨_,rfl⟩
 rw[<- hH]
 have B:eE H c l it g s:=by rw[hH];exact⟨rfl,rfl,rfl,rfl,rfl,rfl,rfl,rfl,rfl,rfl⟩
 have Hfree:∀k,10<=k->H k=.free:=fun k hk=>by rw[hH];exact LH.Sm (by simpa using hk)
 clear hH
 have u2:(H 2).used=true:=by rw[B.b2];rfl
 simp only[↓ba u2,Nat.zero_add,↓eR B.b2 (j:=1) rfl,↓cq,true_and]
 by_cases ha:it.at_=1
 case neg =>
  simp only[ha,decide_false,Bool.not_false,↓af,B.li,B.lg,B.ls]
  refine Sx (cs:=it.cs) rfl rfl (NG it) B.b5 B.b6 B.b7 B.b8 B.b9 oW oW ⟨rfl,rfl⟩ (fun h' hk=>?_) fun h' hk=>?_
  ·have e3:h' 3=.box (aR g):=by rw[hk 3 (by omega) (by omega) (by omega) (by omega) (by omega)];exact B.b3
   have e4:h' 4=.box (aR s):=by rw[hk 4 (by omega) (by omega) (by omega) (by omega) (by omega)];exact B.b4
   have:((aq PP (.ld (.c (.ptr 3 0 0)) 1 false) h' fun a=>aG [a] [aR g])/\(aq PP (.ld (.c (.ptr 4 0 0)) 1 false) h' fun a=>aG [a] [aR s])/\True):=⟨by rw[Qk e3 rfl];simp,by rw[Qk e4 rfl];simp,trivial⟩
   exact⟨this,this,this,this,this⟩
  ·exact HQ (by simp[bS,ha])
 simp only[ha,decide_true,Bool.not_true,↓ae,B.lc,B.ll,B.li,B.lg,B.ls]
 obtain⟨ro0,hro0⟩:∃ro0:Ro,ro0=fun _=>lV.no:=⟨_,rfl⟩
 have r0:∀k,ro0 k=.no:=fun k=>by rw[hro0]
 clear hro0 Hfree u2
 have mw:∀{m:Mm}{sp:Nat},fY c.arrays sp m->m.length<=8:=fun hm=>by rw[hm.len];exact hc.nar
 have mk:∀{h:Heap}{ro:Ro}{sp q:Nat}{m:Mm},h q=.arr 1 (m.map words)->ro q=.mem sp->og h ro sp m q (m.map words):=fun {h ro sp q m} h1 h2 =>
  ⟨h1,h2,by simp,fun i e w he hw=>by
   rw[List.getElem?_map,hw]at he
   cases he
   exact Or.inl rfl⟩
 refine GN (by have:=mw hg;omega) fun q1 f1=>?_
 have B1:eE (ah H q1 (.arr 1 (g.map words))) c l it g s:=B.aD fun j hj=>aa _ _ (by rintro rfl;exact B.nf hj f1)
 have R1:∀k,k<10->ah ro0 q1 (.mem 1) k=.no:=fun k hk=>by rw[aa _ _ (by rintro rfl;exact B.nf hk f1)];exact r0 k
 have M1:og (ah H q1 (.arr 1 (g.map words))) (ah ro0 q1 (.mem 1)) 1 g q1 (g.map words):=mk (ad _ _ _) (ad _ _ _)
 generalize ah H q1 (.arr 1 (g.map words))=h1 at B1 M1
 generalize ah ro0 q1 (.mem 1)=ro1 at R1 M1
 clear B r0
 simp only[B1.lc,B1.ll,B1.li,B1.ls,ai,true_and,and_true]
 refine GN (by have:=mw hs;omega) fun q2 f2=>?_
 have B2:eE (ah h1 q2 (.arr 1 (s.map words))) c l it g s:=B1.aD fun j hj=>aa _ _ (by rintro rfl;exact B1.nf hj f2)
 have R2:∀k,k<10->ah ro1 q2 (.mem 2) k=.no:=fun k hk=>by rw[aa _ _ (by rintro rfl;exact B1.nf hk f2)];exact R1 k hk
 have M12:=M1.aD (cv.new f2 (.mem 2) (s:=.arr 1 (s.map words)))
 have M2:og (ah h1 q2 (.arr 1 (s.map words))) (ah ro1 q2 (.mem 2)) 2 s q2 (s.map words):=mk (ad _ _ _) (ad _ _ _)
 generalize ah h1 q2 (.arr 1 (s.map words))=h2 at B2 M2 M12
 generalize ah ro1 q2 (.mem 2)=ro2 at R2 M2 M12
 clear B1 R1 M1
 simp only[B2.lc,B2.ll,B2.li,ai,true_and,and_true]
 show ∀nm,nT h2 nm->_
 intro nm t3
 have f3:=t3.free
 have B3:eE (ah h2 nm (.map (.pair .i64) [])) c l it g s:=B2.aD fun j hj=>aa _ _ (by rintro rfl;exact B2.nf hj f3)
 have R3:∀k,k<10->ah ro2 nm .map k=.no:=fun k hk=>by rw[aa _ _ (by rintro rfl;exact B2.nf hk f3)];exact R2 k hk
 have M13:=M12.aD (cv.new f3 .map (s:=.map (.pair .i64) []))
 have M23:=M2.aD (cv.new f3 .map (s:=.map (.pair .i64) []))
 have N3:ah h2 nm (.map (.pair .i64) []) nm=.map (.pair .i64) []:=ad _ _ _
 have N3r:ah ro2 nm .map nm=.map:=ad _ _ _
 generalize ah h2 nm (.map (.pair .i64) [])=h3 at B3 M13 M23 N3
 generalize ah ro2 nm .map=ro3 at R3 M13 M23 N3r
 clear B2 R2 M12 M2 t3
 simp only[B3.lc,B3.ll,B3.li,B3.lg,B3.ls,ai,true_and,and_true]
 rw[gZ rfl,cJ]
 have e21:D.agg (fillD [.int .i64 0,.int .i64 0,.int .i64 0,.int .i64 0,.int .i64 0,.nil,.nil,.nil,.int .i64 0,.nil,.int .i64 0,.int .i64 0,.int .i64 0,.int .i64 0,.nil,.nil,.nil,.nil,.nil,.nil,.nilmap]
   ([(0,8,Arg.c c.e),(8,2,.c l.e),(10,7,.c it.e),(17,1,.c (.ms q1 0 g.length)),(18,1,.c (.ms q2 0 s.length)),(20,1,.c (.mp nm))].map fun p=>(p.1,p.2.1,(p.2.2.get []).cells))) =
   .agg (jj c l it (words it.regs) (aR it.priv) (.sl []) (.ms q1 0 g.length) (.ms q2 0 s.length) .nil nm):=rfl
 rw[e21]
 refine⟨fun z hz=>?_,fun n t4=>?_⟩
 ·simp[jj]at hz
  rcases hz with rfl|rfl|rfl|rfl|rfl|rfl|rfl|rfl|rfl|rfl|rfl|rfl|rfl|rfl|rfl|rfl|rfl|rfl|rfl|rfl|rfl<;>rfl
 have f4:=t4.free
 obtain⟨bx,hbx⟩:∃bx,bx=Slot.box (.agg (jj c l it (words it.regs) (aR it.priv) (.sl []) (.ms q1 0 g.length) (.ms q2 0 s.length) .nil nm)):=⟨_,rfl⟩
 rw[<- hbx]
 have B4:eE (ah h3 n bx) c l it g s:=B3.aD fun j hj=>aa _ _ (by rintro rfl;exact B3.nf hj f4)
 have R4:∀k,k<10->ah ro3 n .box k=.no:=fun k hk=>by rw[aa _ _ (by rintro rfl;exact B3.nf hk f4)];exact R3 k hk
 have M14:=M13.aD (cv.new f4 .box (s:=bx))
 have M24:=M23.aD (cv.new f4 .box (s:=bx))
 have nn4:nm≠n:=t4.ne (by rw[N3];simp)
 have N4:ah h3 n bx nm=.map (.pair .i64) []:=by rw[aa _ _ nn4];exact N3
 have N4r:ah ro3 n .box nm=.map:=by rw[aa _ _ nn4];exact N3r
 have X4:ah h3 n bx n=bx:=ad _ _ _
 have X4r:ah ro3 n .box n=.box:=ad _ _ _
 generalize ah h3 n bx=h4 at B4 M14 M24 N4 X4
 generalize ah ro3 n .box=ro4 at R4 M14 M24 N4r X4r
 clear B3 R3 M13 M23 N3 N3r t4 e21
 have u24:(h4 2).used=true:=by rw[B4.b2];rfl
 simp only[↓aE,u24,Nat.zero_add,↓cj B4.b2 (j:=4) rfl,↓cj B4.b2 (j:=5) rfl,↓cj B4.b2 (j:=6) rfl,true_and]
 have hrl:=hi.len
 have hrr:=hc.regs
 refine GO (w:=it.regs) (by rintro h;rw[h]at hrl;simp at hrl;omega) (by omega) fun q5 h5 f5 a5 k5=>?_
 have B5:eE h5 c l it g s:=B4.aD fun j hj=>k5 j (B4.nf hj)
 have R5:∀k,k<10->ah ro4 q5 .regs k=.no:=fun k hk=>by rw[aa _ _ (by rintro rfl;exact B4.nf hk f5)];exact R4 k hk
 have K5:cv h4 ro4 h5 (ah ro4 q5 .regs):=cv.UG f5 k5 _
 have M15:=M14.aD K5
 have M25:=M24.aD K5
 have nq5:∀k,h4 k≠.free->k≠q5:=by rintro k hk rfl;exact hk f5
 have N5:h5 nm=.map (.pair .i64) []:=by rw[k5 nm (by rw[N4];simp)];exact N4
 have X5:h5 n=bx:=by rw[k5 n (by rw[X4,hbx];simp)];exact X4
 have N5r:ah ro4 q5 .regs nm=.map:=by rw[aa _ _ (nq5 nm (by rw[N4];simp))];exact N4r
 have X5r:ah ro4 q5 .regs n=.box:=by rw[aa _ _ (nq5 n (by rw[X4,hbx];simp))];exact X4r
 have G5:nU h5 (ah ro4 q5 .regs) (.ms q5 0 it.regs.length) it.regs:=⟨q5,rfl,a5,ad _ _ _⟩
 generalize ah ro4 q5 .regs=ro5 at R5 M15 M25 N5r X5r G5
 clear K5 B4 R4 M14 M24 N4 N4r X4 X4r u24 k5 a5 nq5
 have u25:(h5 2).used=true:=by rw[B5.b2];rfl
 simp only[↓aE,u25,Nat.zero_add,↓cj B5.b2 (j:=5) rfl,↓cj B5.b2 (j:=6) rfl,ai,true_and,and_true]
 refine M7 (ro:=ro5) fun dL h6 ro6 k6 L6=>?_
 have B6:eE h6 c l it g s:=B5.aD fun j hj=>(k6 j (B5.nf hj)).1
 have R6:∀k,k<10->ro6 k=.no:=fun k hk=>by rw[(k6 k (B5.nf hk)).2];exact R5 k hk
 have K6:cv h5 ro5 h6 ro6:=fun k hf _=>k6 k hf
 have M16:=M15.aD K6
 have M26:=M25.aD K6
 have G6:=G5.aD K6
 obtain⟨a6,b6⟩:=k6 nm (by rw[N5];simp)
 have N6:h6 nm=.map (.pair .i64) []:=by rw[a6];exact N5
 have N6r:ro6 nm=.map:=by rw[b6];exact N5r
 obtain⟨c6,d6⟩:=k6 n (by rw[X5,hbx];simp)
 have X6:h6 n=bx:=by rw[c6];exact X5
 have X6r:ro6 n=.box:=by rw[d6];exact X5r
 clear B5 R5 M15 M25 N5 N5r X5 X5r G5 K6 k6 a6 b6 c6 d6 u25
 have u26:(h6 2).used=true:=by rw[B6.b2];rfl
 simp only[u26,↓cj B6.b2 (j:=5) rfl,ai,true_and]
 refine GN (by have:=mw hi.priv;omega) fun q7 f7=>?_
 have B7:eE (ah h6 q7 (.arr 1 (it.priv.map words))) c l it g s:=B6.aD fun j hj=>aa _ _ (by rintro rfl;exact B6.nf hj f7)
 have R7:∀k,k<10->ah ro6 q7 (.mem 3) k=.no:=fun k hk=>by rw[aa _ _ (by rintro rfl;exact B6.nf hk f7)];exact R6 k hk
 have K7:cv h6 ro6 (ah h6 q7 (.arr 1 (it.priv.map words))) (ah ro6 q7 (.mem 3)):=cv.new f7 _
 have M17:=M16.aD K7
 have M27:=M26.aD K7
 have G7:=G6.aD K7
 have L7:=L6.aD K7
 have M37:og (ah h6 q7 (.arr 1 (it.priv.map words))) (ah ro6 q7 (.mem 3)) 3 it.priv q7 (it.priv.map words):=mk (ad _ _ _) (ad _ _ _)
 have nm7:nm≠q7:=by rintro rfl;rw[N6]at f7;cases f7
 have nn7:n≠q7:=by rintro rfl;rw[X6,hbx]at f7;cases f7
 have N7:ah h6 q7 (.arr 1 (it.priv.map words)) nm=.map (.pair .i64) []:=by rw[aa _ _ nm7];exact N6
 have X7:ah h6 q7 (.arr 1 (it.priv.map words)) n=bx:=by rw[aa _ _ nn7];exact X6
 have N7r:ah ro6 q7 (.mem 3) nm=.map:=by rw[aa _ _ nm7];exact N6r
 have X7r:ah ro6 q7 (.mem 3) n=.box:=by rw[aa _ _ nn7];exact X6r
 generalize ah h6 q7 (.arr 1 (it.priv.map words))=h7 at B7 M17 M27 M37 G7 L7 N7 X7
 generalize ah ro6 q7 (.mem 3)=ro7 at R7 M17 M27 M37 G7 L7 N7r X7r
 clear B6 R6 M16 M26 G6 L6 N6 X6 N6r X6r K7 u26
 rw[hbx]at X7
 have oL:=L7.one
 have u7:(h7 n).used=true:=by rw[X7];rfl
 have set3:∀{KH:HK},(∀h',dQ h' ro7 n c l it (.ms q5 0 it.regs.length) dL .nil (fun k=>if k=1 then .ms q1 0 g.length else if k=2 then .ms q2 0 s.length else .ms q7 0 it.priv.length) nm [] (wF it g s)->eE h' c l it g s->KH .undef h') ->
   (h7 n).used=true/\(h7 n).used=true/\(h7 n).used=true/\ab PP (.st (.c (.ptr n 0 (10+4))) (.c (.ms q5 0 it.regs.length)) 1) h7 fun _ h8=>(h8 n).used=true/\(h8 n).used=true/\(h8 n).used=true /\
    ab PP (.st (.c (.ptr n 0 (10+6))) (.c dL) 1) h8 fun _ h9=>(h9 n).used=true/\(h9 n).used=true/\(h9 n).used=true/\ab PP (.st (.c (.ptr n 0 (10+5))) (.c (.ms q7 0 it.priv.length)) 1) h9 KH:=by
  intro KH hK
  refine⟨u7,u7,u7,?_⟩
  rw[dq,X7]
  refine⟨rfl,by simp,rfl,by simp[jj],?_⟩
  refine⟨by rw[ad];rfl,by rw[ad];rfl,by rw[ad];rfl,?_⟩
  have cL:dL.cells=[dL]:=gF oL
  rw[dq,ad]
  refine⟨by rw[cL];rfl,fun z hz=>by rw[cL]at hz;simp at hz;subst hz;exact oL,rfl,by simp[jj,setCells],?_⟩
  refine⟨by rw[ad];rfl,by rw[ad];rfl,by rw[ad];rfl,?_⟩
  rw[dq,ad]
  refine⟨rfl,by simp,rfl,by simp[jj,setCells,cL],?_⟩
  rw[hU,hU,cL]
  have e:setCells (setCells (setCells (.agg (jj c l it (words it.regs) (aR it.priv) (.sl []) (.ms q1 0 g.length) (.ms q2 0 s.length) .nil nm)) (10+4) (D.ms q5 0 it.regs.length).cells) (10+6) [dL]) (10+5) (D.ms q7 0 it.priv.length).cells =
    .agg (jj c l it (.ms q5 0 it.regs.length) (.ms q7 0 it.priv.length) dL (.ms q1 0 g.length) (.ms q2 0 s.length) .nil nm):=rfl
  rw[e]
  have kb:(ro7 n).core=false:=by rw[X7r];rfl
  have nmn:nm≠n:=by rintro rfl;rw[N7r]at X7r;cases X7r
  have KK:cv h7 ro7 (ah h7 n (.box (.agg (jj c l it (.ms q5 0 it.regs.length) (.ms q7 0 it.priv.length) dL (.ms q1 0 g.length) (.ms q2 0 s.length) .nil nm)))) ro7:=cv.av kb
  refine hK _ ⟨ad _ _ _,X7r,⟨G7.aD KK,fun k k1 k2=>?_,Or.inl ⟨rfl,rfl⟩,L7.aD KK⟩,by rw[aa _ _ nmn];exact N7,N7r,by simp,by simp,fun sp i k els e w s1 s2 hd hk he hw=>?_⟩ (B7.aD fun j hj=>aa _ _ (by rintro rfl;rw[R7 j hj]at X7r;cases X7r))
  ·have:k=1\/k=2\/k=3:=by omega
   rcases this with rfl|rfl|rfl
   ·exact⟨q1,_,rfl,M17.aD KK⟩
   ·exact⟨q2,_,rfl,M27.aD KK⟩
   ·exact⟨q7,_,rfl,M37.aD KK⟩
  ·refine⟨fun _=>?_,fun hne=>absurd rfl hne⟩
   have:sp=1\/sp=2\/sp=3:=by omega
   rcases this with rfl|rfl|rfl
   ·simp only[if_true,D.ms.injEq,true_and]at hd
    obtain⟨rfl,-⟩:=hd
    rw[(M17.aD KK).hk]at hk
    simp only[Slot.arr.injEq,true_and]at hk
    subst hk
    have hw':g[i]?=some w:=hw
    rw[List.getElem?_map,hw']at he
    exact(by simpa using he.symm)
   ·simp only[show ¬(2:Nat)=1 by omega,if_true,if_false,D.ms.injEq,true_and]at hd
    obtain⟨rfl,-⟩:=hd
    rw[(M27.aD KK).hk]at hk
    simp only[Slot.arr.injEq,true_and]at hk
    subst hk
    have hw':s[i]?=some w:=hw
    rw[List.getElem?_map,hw']at he
    exact(by simpa using he.symm)
   ·simp only[show ¬(3:Nat)=1 by omega,show ¬(3:Nat)=2 by omega,if_false,D.ms.injEq,true_and]at hd
    obtain⟨rfl,-⟩:=hd
    rw[(M37.aD KK).hk]at hk
    simp only[Slot.arr.injEq,true_and]at hk
    subst hk
    have hw':it.priv[i]?=some w:=hw
    rw[List.getElem?_map,hw']at he
    exact(by simpa using he.symm)
 refine set3 fun h8 X8 B8=>?_
 clear set3 B7 M17 M27 M37 G7 L7 N7 X7 N7r X7r u7 mk
 generalize (fun k=>if k=1 then D.ms q1 0 g.length else if k=2 then .ms q2 0 s.length else .ms q7 0 it.priv.length)=dm0 at X8
 have R8:=R7
 obtain⟨k,B,hbk,hB,hBm,-,hins⟩:=hc.OA hi.block
 obtain⟨hxs,hxl,-⟩:=hc.xs B hBm
 have sP:bS c l it g s av=match runP c l it.id av it.block B.i 0 (wF it g s) with
   | none=>⟨it,g,s,[],70⟩
   | some st=>⟨aP c { it with regs:=st.regs,priv:=st.mem 3 },st.mem 1,st.mem 2,st.ev,0⟩:=by
  unfold bS
  rw[if_neg (by simp[ha]),hins]
  cases runP c l it.id av it.block B.i 0 (wF it g s)<;>rfl
 have w0:qA c (wF it g s):=GH hi hg hs
 have n10:∀{ro:Ro},(∀k,k<10->ro k=.no)->ro n=.box->n≠5/\n≠6/\n≠7/\n≠8/\n≠9:=fun {ro} hr hn=>by
  refine⟨?_,?_,?_,?_,?_⟩<;>rintro rfl<;>rw[hr _ (by omega)]at hn<;>cases hn
 refine⟨fun _ h'=>∃(ro':Ro) (st':St),eE h' c l it g s/\(∀k,k<10->ro' k=.no)/\JQ h' ro' n c l it st'/\qA c st'/\runP c l it.id av it.block B.i 0 (wF it g s)=some st',?_,?_⟩
 ·rintro _ h9 ⟨ro9,st9,B9,R9,⟨dR,dL9,dE,dm,nm9,ents,X9⟩,W9,P9⟩
  rw[P9]at sP
  simp only[X9.used,↓cj X9.box (j:=17) rfl,↓cj X9.box (j:=18) rfl,↓cj X9.box (j:=19) rfl,true_and]
  refine Px X9 hc W9 hi.block fun h' ro' it' F X=>?_
  have R':∀k,k<10->ro' k=.no:=fun k hk=>by rw[(F k (B9.nf hk)).1];exact R9 k hk
  have B':eE h' c l it g s:=B9.aD fun j hj=>(F j (B9.nf hj)).2.2 (R9 j hj)
  obtain⟨o5,o6,o7,o8,o9⟩:=n10 R' X.rb
  have o1:=(X.sr.mem 1 (by omega) (by omega)).one
  have o2:=(X.sr.mem 2 (by omega) (by omega)).one
  have o3:=(X.sr.mem 3 (by omega) (by omega)).one
  obtain⟨cs,e1,e2,e3⟩:=HX (c:=c) (it:={ it with regs:=st9.regs,priv:=st9.mem 3 }) X.sr.regs.one o3 X.sr.sl.one
  simp only[X.used,↓cj X.box (j:=17) rfl,↓cj X.box (j:=18) rfl,↓cj X.box (j:=19) rfl,ai,true_and,and_true]
  refine TP e1 e2 e3 B'.b5 B'.b6 B'.b7 B'.b8 B'.b9 (Sb o1) (Sb o2) (Sb X.sr.ev.one) (fun h'' hk=>?_) fun h'' hk=>?_
  ·have hb:h'' n=.box (.agg (jj c l it' dR (dm 3) dL9 (dm 1) (dm 2) dE nm9)):=by rw[hk n o5 o6 o7 o8 o9];exact X.box
   have hu:(h'' n).used=true:=by rw[hb];rfl
   simp only[hu,↓cj hb (j:=17) rfl,↓cj hb (j:=18) rfl,↓cj hb (j:=19) rfl,ai,true_and,and_true]
  ·have kk:cv h' ro' h'' ro':=fun k _ hcore=>by
    have ne:∀j,j<10->k≠j:=fun j hj=>by rintro rfl;rw[R' _ hj]at hcore;cases hcore
    exact⟨hk k (ne 5 (by omega)) (ne 6 (by omega)) (ne 7 (by omega)) (ne 8 (by omega)) (ne 9 (by omega)),rfl⟩
   obtain⟨h3,i1,i2,i3,i4,i5,-⟩:=(X.sr.aD kk).out
   refine nr i1 (.cons (RX i2 (i5 3 (by omega) (by omega)) i4) (.cons (i5 1 (by omega) (by omega)).d (.cons (i5 2 (by omega) (by omega)).d (.cons i3.d (.cons (aH rfl).d .nil))))) ?_
   rw[sP];rfl
 have u0:(h8 0).used=true:=by rw[B8.b0];rfl
 have u2:(h8 2).used=true:=by rw[B8.b2];rfl
 have eb:∀{K:HK},ab PP (.ld (.c (.ptr 0 0 7)) 1 false) h8 K=K (.sl (c.b.map Block.e)) h8:=fun {K}=>eR (cs:=[.int .i64 c.group,.int .i64 c.sub,.int .i64 c.regs,.int .i64 c.slots,.int .i64 c.params,.sl (c.arrays.map bO.e),.sl (c.loops.map Loop.e),.sl (c.b.map Block.e)]) B8.b0 rfl
 have hat:∀{K:HK},ab PP (.iadd (.c (.sl (c.b.map Block.e))) (.c (.int .i64 it.block)) 14) h8 K=K (.vp B.e 0) h8:=fun {K}=>by rw[hbk,rR hB]
 simp only[↓ba u0,↓ba u2,Nat.zero_add,eb,↓eR B8.b2 (j:=2) rfl,true_and,hat,↓ig,↓QX,↓jf,List.length_map]
 (unfold su;try dsimp only[xL,yL,xF,yF,xI,yI,xS,zI,zJ])
 refine⟨fun m qs h'=>∃(i:Nat) (ro':Ro) (st':St),qs=[.int .i64 (i:Int)]/\m+i=B.i.length/\eE h' c l it g s/\(∀k,k<10->ro' k=.no)/\JQ h' ro' n c l it st'/\qA c st'/\st'.ev.length<=i /\
   runP c l it.id av it.block (B.i.drop i) i st'=runP c l it.id av it.block B.i 0 (wF it g s),B.i.length,⟨0,ro7,wF it g s,rfl,by omega,B8,R8,⟨_,_,_,_,_,_,X8⟩,w0,by simp[wF],by simp⟩,?_⟩
 rintro m f h' ⟨i,ro',st',hf,hmi,B',R',X',W',E',P'⟩
 simp only[List.cons.injEq,and_true]at hf
 rw[hf,bK]
 by_cases hlt:i<B.i.length
 case neg =>
  simp only[show ¬((i:Int)<(B.i.length:Int)) by omega,decide_false,↓ae,ai,true_and]
  rw[List.drop_of_length_le (by omega)]at P'
  exact⟨ro',st',B',R',X',W',P'.symm⟩
 have hx:B.i[i]?=some B.i[i]:=List.getElem?_eq_getElem hlt
 simp only[show((i:Int)<(B.i.length:Int)) by omega,decide_true,↓af,↓Kn hx,↓Km]
 rw[bQ]
 intro p tp
 rw[dq,ad]
 refine⟨rfl,(aN.bZ _).one,rfl,Nat.le_refl _,?_⟩
 rw[hU]
 have es:setCells (.agg [(.int .i64 0),(.int .i64 0),(.int .i64 0),(.int .i64 0),(.int .i64 0),(.int .i32 0),(.int .i64 0),(.int .i64 0),(.int .i32 0),(.int .i64 0),(.int .i64 0),(.int .i32 0),(.int .i64 0),(.int .i64 0),(.int .i32 0)]) 0 (aN.e B.i[i]).cells=.agg (aN.cs B.i[i]):=rfl
 rw[es]
 obtain⟨dR,dL9,dE,dm,nm9,ents,X'⟩:=X'
 have Xn:=X'.new tp.free (.box (.agg (aN.cs B.i[i])))
 have fp:=tp.free
 have Bn:eE (ah h' p (.box (.agg (aN.cs B.i[i])))) c l it g s:=B'.aD fun j hj=>aa _ _ (by rintro rfl;exact B'.nf hj fp)
 have Rn:∀k,k<10->ah ro' p .no k=.no:=fun k hk=>by
  by_cases e:k=p
  ·rw[e,ad]
  ·rw[aa _ _ e];exact R' k hk
 have pb:ah h' p (.box (.agg (aN.cs B.i[i]))) p=.box (.agg (aN.cs B.i[i])):=ad _ _ _
 generalize ah h' p (.box (.agg (aN.cs B.i[i])))=hn at Xn Bn pb
 generalize ah ro' p .no=ron at Xn Rn
 clear X' B' R'
 have un2:(hn 2).used=true:=by rw[Bn.b2];rfl
 have l15:∀{K:HK},ab PP (.ld (.c (.ptr p 0 0)) 15 true) hn K=K (aN.e B.i[i]) hn:=fun {K}=>by rw[rD pb (by simp[aN.cs])];rfl
 simp only[l15,↓ba un2,Nat.zero_add,↓eR Bn.b2 (j:=0) rfl,↓eR Bn.b2 (j:=2) rfl,true_and]
 rw[cI rfl]
 have ee:D.agg (fillD [.int .i64 0,.int .i64 0,.int .i64 0,.int .i64 0,.int .i64 0,.int .i64 0,.int .i64 0,.int .i64 0,.int .i32 0]
   ([(2,1,Arg.c (.int .i64 it.id)),(3,1,.c (.int .i64 av)),(4,1,.c (.int .i64 it.block)),(5,1,.c (.int .i64 (i:Int)))].map fun p=>(p.1,p.2.1,(p.2.2.get []).cells)))=(QV it.id av it.block (i:Int)).e:=rfl
 rw[ee]
 have P2:runP c l it.id av it.block (B.i.drop i) i st'=(cH c l it.id B.i[i] (QV it.id av it.block i) st').bind (runP c l it.id av it.block (B.i.drop (i+1)) (i+1)):=by
  rw[List.drop_eq_getElem_cons hlt];rfl
 have iok:=hxs _ (List.getElem_mem hlt)
 refine UA ⟨_,_,_,_,_,_,Xn⟩ hc hl hi.id W' (by omega) iok (fun st2 h2 ro2 hst F2 X2=>?_) (fun h2 ro2 hst F2=>?_)
 ·obtain⟨w2,l2⟩:=EH hc hl W' iok hst
  rw[hst]at P2
  rw[bp,GB (i:=i) (by omega)]
  refine⟨by simp,m-1,by omega,i+1,ro2,st2,rfl,by omega,Bn.aD fun j hj=>(F2 j (Bn.nf hj)).2.2 (Rn j hj),fun k hk=>by rw[(F2 k (Bn.nf hk)).1];exact Rn k hk,X2,w2,by omega,?_⟩
  rw[<- P',P2];rfl
 ·have B2:eE h2 c l it g s:=Bn.aD fun j hj=>(F2 j (Bn.nf hj)).2.2 (Rn j hj)
  rw[hst]at P2
  rw[<- P',P2]at sP
  refine I3 ?_
  have i7:∀{K:HK},ab PP (.ld (.c (.ptr 2 0 0)) 7 true) h2 K=K it.e h2:=fun {K}=>db B2.b2
  rw[i7,Hu B2.b3 rfl,Hu B2.b4 rfl]
  refine TO (cs:=it.cs) rfl rfl (NG it) B2.b5 B2.b6 B2.b7 B2.b8 B2.b9 oW oW ⟨rfl,rfl⟩ fun h'=>?_
  exact HQ sP
def fw (h:Heap) (ro:Ro) (h':Heap) (ro':Ro):Prop:=∀k,h k≠.free->h' k=h k/\ro' k=ro k
theorem fw.refl {h:Heap}{ro:Ro}:fw h ro h ro:=fun _ _=>⟨rfl,rfl⟩
theorem fw.trans {h1 h2 h3:Heap}{r1 r2 r3:Ro}(a:fw h1 r1 h2 r2) (b:fw h2 r2 h3 r3):fw h1 r1 h3 r3:=fun k hk=>by
 obtain⟨a1,a2⟩:=a k hk
 obtain⟨b1,b2⟩:=b k (by rw[a1];exact hk)
 exact⟨b1.trans a1,b2.trans a2⟩
theorem fw.aD {h h':Heap}{ro ro':Ro}(a:fw h ro h' ro'):cv h ro h' ro':=fun k hk _=>a k hk
theorem fw.new {h:Heap}{ro:Ro}{n:Nat}(hn:h n=.free) (r:lV) (s:Slot):fw h ro (ah h n s) (ah ro n r):=fun k hk=>by
 have:k≠n:=by rintro rfl;exact hk hn
 rw[aa _ _ this,aa _ _ this];exact⟨rfl,rfl⟩
theorem fw.free {h h':Heap}{ro ro':Ro}(a:fw h ro h' ro'){k:Nat}(hk:h' k=.free):h k=.free:=by
 cases e:h k<;>first|rfl|(exfalso;have:=(a k (by rw[e];simp)).1;rw[hk,e]at this;cases this)
theorem fw.fr {h h':Heap}{ro ro':Ro}(a:fw h ro h' ro'):Fr ro h ro' h':=fun k hk=>⟨(a k hk).2,by rw[(a k hk).1];exact hk,fun _=>(a k hk).1⟩
theorem fw.box {h h':Heap}{ro ro':Ro}(a:fw h ro h' ro'){k:Nat}{d:D}(hk:h k=.box d):h' k=.box d:=by rw[(a k (by rw[hk];simp)).1];exact hk
theorem Gl {P:Program}{h:Heap}{KH:HK}{esz bytes m:Nat}{z z' d:D}{els:List D}(hm:h m=.arr esz els) (h2:aw d) (h3:d.cells.length=esz) (hb:(els.length+1)*bytes<=140737488355328) (hl:els.length+1<=9223372036854775807)
  (hk:∀n h',h n=.free->h' n=.arr esz (els++[d])->(∀k,h k≠.free->k≠m->h' k=h k)->KH (.ms n 0 (els.length+1)) h'):ab P (.bldS false esz 1 z [(0,.c d)]) h fun x h1=>ab P (.app (.c (.ms m 0 els.length)) (.c x) esz bytes z') h1 KH:=by
 refine⟨fun p hp=>by simp[Arg.get]at hp;subst hp;exact⟨Nat.one_pos,h3,h2⟩,fun h=>(by cases h),fun n1 t1=>?_⟩
 have hne:m≠n1:=t1.ne (by rw[hm];simp)
 have hse:setEls (List.replicate 1 z) ([(0,Arg.c d)].map fun p=>(p.1,if(false:Bool)=true then(p.2.get []).fz h else p.2.get []))=[d]:=rfl
 rw[hse]
 simp only[Bool.false_eq_true,if_false]
 have hx:((ah h n1 (.arr esz [d])) n1).row=some (esz,[d]):=by rw[ad];rfl
 refine⟨[d],hx,by simp,?_⟩
 simp only[List.drop_zero,List.take_succ_cons,List.take_zero]
 refine⟨fun y hy=>by simp at hy;subst hy;exact h2,?_⟩
 refine⟨els,by rw[aa _ _ hne];exact hm,rfl,rfl,⟨by simpa using hb,by simpa using hl⟩,fun n t=>?_⟩
 have hn:=t.free
 have hnm:n≠n1:=by rintro rfl;rw[ad]at hn;cases hn
 rw[aa _ _ hnm]at hn
 have:=hk n
 simp only[List.length_cons,List.length_nil,Nat.zero_add]
 refine this _ hn (ad _ _ _) fun k hk1 hk2=>?_
 have e1:k≠n:=by rintro rfl;exact hk1 hn
 have e2:k≠n1:=t1.ne hk1
 rw[aa _ _ e1,aa _ _ hk2,aa _ _ e2]
theorem OJ {P:Program}{h:Heap}{KH:HK}{z':D}{n:Nat}{w:List Int}(hl:w.length<=1000000) (hn:h n=.arr 1 [])
  (hk:∀m h',h m=.free->h' m=.arr 1 (wr w)->(∀k,h k≠.free->k≠n->h' k=h k)->KH (.ms m 0 w.length) h'):ab P (.app (.c (.ms n 0 0)) (.c (words w)) 1 4 z') h KH:=by
 refine⟨fun d hd=>?_,fun y hy=>?_,[],hn,rfl,rfl,⟨?_,?_⟩,fun m t2=>?_⟩
 ·simp only[words,List.mem_map]at hd;obtain⟨z,-,rfl⟩:=hd;rfl
 ·simp only[words,List.mem_map]at hy;obtain⟨z,-,rfl⟩:=hy;simp
 ·simp;omega
 ·simp;omega
 ·have:=hk m (ah (ah h n .dead) m (.arr 1 (wr w))) t2.free (ad _ _ _) fun k hk hkn=>by
   rw[aa _ _ (t2.ne hk),aa _ _ hkn]
  simpa[wr,words] using this
theorem LU {P:Program}{h:Heap}{KH:HK}{z z':D}{fz:Bool}{w:List Int}(hl:w.length<=1000000)
  (hk:∀n h',h n=.free->h' n=.arr 1 (wr w)->(∀k,h k≠.free->h' k=h k)->KH (.ms n 0 w.length) h'):ab P (.bldS fz 1 0 z []) h fun x h1=>ab P (.app (.c x) (.c (words w)) 1 4 z') h1 KH:=by
 refine m6 fun n t=>OJ hl (ad _ _ _) fun m h' hm hm2 hk2=>?_
 have hmn:m≠n:=by rintro rfl;rw[ad]at hm;cases hm
 refine hk m h' (by rw[aa _ _ hmn]at hm;exact hm) hm2 fun k hkf=>?_
 have hkn:=t.ne hkf
 rw[hk2 k (by rw[aa _ _ hkn];exact hkf) hkn,aa _ _ hkn]
theorem H3 {h0 h2 h4:Heap}{ro0:Ro}{s q n2 n4:Nat}{m:Mm}{w:List Int}{els:List D}(y:og h0 ro0 s m q els) (f2:h0 n2=.free) (a2:h2 n2=.arr 1 (wr w)) (k2:∀k,h0 k≠.free->h2 k=h0 k)
  (f4:h2 n4=.free) (a4:h4 n4=.arr 1 (els++[.ms n2 0 w.length])) (k4:∀k,h2 k≠.free->k≠q->h4 k=h2 k) :
  og h4 (ah (ah ro0 n2 (.row s m.length)) n4 (.mem s)) s (m++[w]) n4 (els++[.ms n2 0 w.length]):=by
 have n24:n2≠n4:=by rintro rfl;rw[a2]at f4;cases f4
 have n2q:n2≠q:=by rintro rfl;rw[y.hk]at f2;cases f2
 have n4f:h0 n4=.free:=by
  cases e:h0 n4<;>first|rfl|(exfalso;have:=k2 n4 (by rw[e];simp);rw[f4,e]at this;cases this)
 refine⟨a4,ad _ _ _,by simp[y.len],fun i e v he hv=>?_⟩
 rcases Nat.lt_or_ge i els.length with hi|hi
 ·rw[List.getElem?_append_left hi]at he
  rw[List.getElem?_append_left (by rw[<- y.len];exact hi)]at hv
  rcases y.el i e v he hv with g|⟨p,g1,g2,g3⟩
  ·exact Or.inl g
  ·have pf:h0 p≠.free:=bU g2
   have p2:p≠n2:=by rintro rfl;exact pf f2
   have p4:p≠n4:=by rintro rfl;exact pf n4f
   have pq:p≠q:=by rintro rfl;have:=y.rk;rw[g3]at this;cases this
   refine Or.inr ⟨p,g1,?_,by rw[aa _ _ p4,aa _ _ p2];exact g3⟩
   rw[k4 p (by rw[k2 p pf];exact pf) pq,k2 p pf];exact g2
 ·have hie:i=els.length:=by
   have:=(List.getElem?_eq_some_iff.1 he).1
   simp at this;omega
  subst hie
  rw[List.getElem?_append_right (Nat.le_refl _),Nat.sub_self]at he
  rw[y.len,List.getElem?_append_right (Nat.le_refl _),Nat.sub_self]at hv
  simp at he hv
  subst he hv
  exact Or.inr ⟨n2,rfl,by rw[k4 n2 (by rw[a2];simp) n2q];exact a2,by rw[aa _ _ n24,ad,y.len]⟩
theorem xe {h h0 h2 h4:Heap}{ro ro0:Ro}{q n2 n4:Nat}{r2 r4:lV}(x:fw h ro h0 ro0) (hq:h q=.free) (f2:h0 n2=.free) (k2:∀k,h0 k≠.free->h2 k=h0 k) (f4:h2 n4=.free) (k4:∀k,h2 k≠.free->k≠q->h4 k=h2 k) :
  fw h ro h4 (ah (ah ro0 n2 r2) n4 r4)/\h n4=.free:=by
 have n4f:h0 n4=.free:=by
  cases e:h0 n4<;>first|rfl|(exfalso;have:=k2 n4 (by rw[e];simp);rw[f4,e]at this;cases this)
 refine⟨fun k hk=>?_,x.free n4f⟩
 obtain⟨x1,x2⟩:=x k hk
 have kf:h0 k≠.free:=by rw[x1];exact hk
 have e2:k≠n2:=by rintro rfl;exact kf f2
 have e4:k≠n4:=by rintro rfl;exact kf n4f
 have eq:k≠q:=by rintro rfl;exact hk hq
 exact⟨by rw[k4 k (by rw[k2 k kf];exact kf) eq,k2 k kf,x1],by rw[aa _ _ e4,aa _ _ e2,x2]⟩
def C3 (els:List D):Prop:=∀e∈els,∃q l,e=D.ms q 0 l
theorem C3.nil:C3 []:=fun _ h=>by cases h
theorem C3.snoc {els:List D}(h:C3 els) (q l:Nat):C3 (els++[.ms q 0 l]):=fun e he=>by
 rcases List.mem_append.1 he with he|he
 ·exact h e he
 ·simp at he;exact⟨q,l,he⟩
def iw (h:Heap) (ro:Ro) (s:Nat) (d:D) (m:Mm):Prop:=∃k els,d=.ms k 0 m.length/\og h ro s m k els/\C3 els
theorem iw.r {h:Heap}{ro:Ro}{s:Nat}{d:D}{m:Mm}(x:iw h ro s d m):oe h ro s d m:=by
 obtain⟨k,els,h1,h2,-⟩:=x
 exact⟨k,els,h1,h2⟩
theorem iw.aD {h h':Heap}{ro ro':Ro}(k:cv h ro h' ro'){s:Nat}{d:D}{m:Mm}(x:iw h ro s d m):iw h' ro' s d m:=by
 obtain⟨q,els,h1,h2,h3⟩:=x
 exact⟨q,els,h1,h2.aD k,h3⟩
theorem iw.one {h:Heap}{ro:Ro}{s:Nat}{d:D}{m:Mm}(x:iw h ro s d m):d.one=true:=x.r.one
structure OY (m:Mm):Prop where
 len:m.length<=1000
 w:∀w∈m,w.length<=1000
theorem fY.b {c:Code}{s:Nat}{m:Mm}(hc:bj c) (h:fY c.arrays s m):OY m:=by
 refine⟨by have:=hc.nar;rw[h.len];omega,fun w hw=>?_⟩
 obtain⟨i,hi⟩:=List.getElem?_of_mem hw
 have hlt:=(List.getElem?_eq_some_iff.1 hi).1
 rw[h.len]at hlt
 have hg:=List.getElem?_eq_getElem hlt
 have:=(h.w i _ w hg hi).1
 have ho:=hc.ar _ (List.getElem_mem hlt)
 rw[this];unfold Cb
 have:=ho.2.2
 split<;>omega
theorem xg {P:Program}{m:Mm}{i:Nat}{w:List Int}(hw:m[i]?=some w){h:Heap}{KH:HK}:ab P (.iadd (.c (aR m)) (.c (.int .i64 (i:Int))) 1) h KH=KH (.vp (words w) 0) h:=by
 have hk:=(List.getElem?_eq_some_iff.1 hw).1
 rw[aR,im,Int.toNat_natCast,List.getElem?_map,hw,List.length_map]
 apply propext
 constructor
 ·rintro⟨-,-,h⟩;exact(h _ rfl).2
 ·intro hk';exact⟨by omega,by omega,fun d hd=>by cases hd;exact⟨rfl,hk'⟩⟩
theorem qF {P:Program}{w:List Int}{h:Heap}{KH:HK}:ab P (.ld (.c (.vp (words w) 0)) 1 false) h KH=KH (words w) h:=by rw[gY,bk];rfl
theorem Ja {h:Heap}{ro:Ro}{m:Mm}(hm:OY m) (s:Nat){KH:HK}(hK:∀d h' ro',fw h ro h' ro'->iw h' ro' s d m->KH d h'):ag PP iR [aR m] h KH:=by
 refine aW Db (aA _ _ _) rfl (CR _ _) ?_
 (unfold yc;try dsimp only[xL,yL,xF,yF,xI,yI,xS,zI,zJ])
 refine m6 fun n0 t0=>?_
 refine⟨fun qs h'=>∃d ro',qs=[d]/\fw h ro h' ro'/\iw h' ro' s d m,?_,?_⟩
 ·rintro f h' ⟨d,ro',hf,x,y⟩
  simp only[List.cons.injEq,and_true]at hf
  rw[hf];exact hK d h' ro' x y
 (unfold pO;try dsimp only[xL,yL,xF,yF,xI,yI,xS,zI,zJ])
 refine⟨fun k qs h'=>∃(i q:Nat) (els:List D) (ro':Ro),qs=[.ms q 0 i,.int .i64 (i:Int)]/\k+i=m.length/\fw h ro h' ro'/\h q=.free/\og h' ro' s (m.take i) q els/\C3 els,m.length,
  ⟨0,n0,[],ah ro n0 (.mem s),rfl,by omega,fw.new t0.free _ _,t0.free,⟨ad _ _ _,ad _ _ _,by simp,fun i e w he=>(by simp at he)⟩,C3.nil⟩,?_⟩
 rintro k f h' ⟨i,q,els,ro',hf,hki,x,hq,y,yo⟩
 simp only[List.cons.injEq,and_true]at hf
 obtain⟨hf1,hf2⟩:=hf
 rw[hf1,hf2,lD,bK]
 have hml:=hm.len
 by_cases hi:i<m.length
 case neg =>
  simp only[show ¬((i:Int)<(m.length:Int)) by omega,decide_false,↓ae,ai,true_and]
  rw[List.take_of_length_le (by omega)]at y
  have:i=m.length:=by omega
  subst this
  exact⟨_,ro',rfl,x,q,els,rfl,y,yo⟩
 have hw:m[i]?=some m[i]:=List.getElem?_eq_getElem hi
 simp only[show((i:Int)<(m.length:Int)) by omega,decide_true,↓af,↓xg hw,↓qF]
 refine LU (by have:=hm.w _ (List.getElem_mem hi);omega) fun n2 h2 f2 a2 k2=>?_
 have hel:els.length=i:=by have:=y.len;rw[List.length_take]at this;omega
 have hq2:h2 q=.arr 1 els:=by rw[k2 q (bU y.hk)];exact y.hk
 have app:=Gl (P:=PP) (esz:=1) (bytes:=24) (z:=.nil) (z':=.nil) (d:=.ms n2 0 (List.length m[i])) (KH:=fun a23 h24=>vbin .add (.int .i64 (i:Int)) (.int .i64 1) fun a25 =>
  aG [aR m] [aR m]/\∃m',m'<k/\∃(i q:Nat) (els:List D) (ro':Ro),[a23,a25]=[.ms q 0 i,.int .i64 (i:Int)]/\m'+i=m.length/\fw h ro h24 ro'/\h q=.free/\og h24 ro' s (m.take i) q els/\C3 els)
  hq2 (by simp) rfl (by omega) (by omega) fun n4 h4 f4 a4 k4=>?_
 ·rw[hel]at app
  exact app
 ·obtain⟨e1,e2⟩:=xe (r2:=.row s (m.take i).length) (r4:=.mem s) x hq f2 k2 f4 k4
  have ym:=H3 y f2 a2 k2 f4 a4 k4
  rw[bp,GB (i:=i) (by omega)]
  refine⟨by simp,k-1,by omega,i+1,n4,els++[.ms n2 0 (List.length m[i])],_,by rw[hel],by omega,e1,e2,?_,yo.snoc _ _⟩
  rw[List.take_add_one,hw]
  exact ym
theorem OX {P:Program}{h:Heap}{n:Nat}{cs:List D}(a:h n=.box (.agg cs)) (hl:cs.length=7){KH:HK}:ab P (.ld (.c (.ptr n 0 0)) 7 true) h KH=KH (.agg cs) h:=by rw[<- hl];exact db a
theorem Al {P:Program}{h:Heap}{n:Nat}{cs:List D}(a:h n=.box (.agg cs)) (hl:cs.length=11){KH:HK}:ab P (.ld (.c (.ptr n 0 0)) 11 true) h KH=KH (.agg cs) h:=by rw[<- hl];exact db a
theorem lf {P:Program}{h:Heap}{n s:Nat}{cs cs':List D}(a:h n=.box (.agg cs)) (hl:cs.length=s) (hl':cs'.length=s) (ho:∀x,x∈cs'->x.one=true){KH:HK} :
  ab P (.st (.c (.ptr n 0 0)) (.c (.agg cs')) s) h KH=KH .undef (ah h n (.box (.agg cs'))):=by
 have e:setCells (.agg cs) 0 (D.agg cs').cells=.agg cs':=by
  simp only[setCells,ca,List.take_zero,List.nil_append]
  rw[List.drop_of_length_le (by omega),List.append_nil]
 rw[dq,a]
 apply propext
 constructor
 ·rintro⟨-,-,-,-,h⟩;rw[e]at h;exact h
 ·intro h;exact⟨hl',ho,rfl,by simp[hl],by rw[e];exact h⟩
theorem HH {P:Program}{h:Heap}{n j:Nat}{cs:List D}{d:D}(a:h n=.box (.agg cs)) (hj:j<cs.length) (ho:d.one=true){KH:HK} :
  ab P (.st (.c (.ptr n 0 j)) (.c d) 1) h KH=KH .undef (ah h n (.box (.agg (cs.set j d)))):=by
 have hc:=gF ho
 have e:setCells (.agg cs) j d.cells=.agg (cs.set j d):=by
  rw[hc]
  simp only[setCells,List.length_singleton]
  rw[List.set_eq_take_append_cons_drop,if_pos hj]
  simp
 rw[dq,a]
 apply propext
 constructor
 ·rintro⟨-,-,-,-,h⟩;rw[e]at h;exact h
 ·intro h
  refine⟨by rw[hc];rfl,fun x hx=>?_,rfl,?_,by rw[e];exact h⟩
  ·rw[hc]at hx;simp at hx;subst hx;exact ho
  ·show j+1<=cs.length;omega
abbrev EE:List D:=[.int .i64 0,.int .i64 0,.int .i64 0,.int .i64 0,.nil,.nil,.nil]
def SU (h:Heap) (ro:Ro) (d:D):Prop:=∃k,d=.ms k 0 0/\h k=.arr 1 []/\ro k=.sl
theorem SU.aD {h h':Heap}{ro ro':Ro}(k:cv h ro h' ro'){d:D}(x:SU h ro d):SU h' ro' d:=by
 obtain⟨q,h1,h2,h3⟩:=x
 obtain⟨k1,k2⟩:=k q (bU h2) (by rw[h3];rfl)
 exact⟨q,h1,by rw[k1];exact h2,by rw[k2];exact h3⟩
theorem Le {h:Heap}{ro:Ro}{it:It}(hr:it.regs.length<=1000) (hp:OY it.priv){KH:HK}
  (hK:∀dR dP dL h' ro',fw h ro h' ro'->nU h' ro' dR it.regs->iw h' ro' 3 dP it.priv->SU h' ro' dL->KH (rE it dR dP dL) h'):ag PP iQ [it.e] h KH:=by
 refine aW C6 (aA _ _ _) rfl (CM _ _) ?_
 (unfold xW;try dsimp only[xL,yL,xF,yF,xI,yI,xS,zI,zJ])
 rw[cJ]
 refine⟨it.bZ.one,fun a ta=>?_⟩
 rw[bQ]
 intro b tb
 have hab:a≠b:=tb.ne (by rw[ad];simp)
 have x1:fw h ro (ah (ah h a (.box it.e)) b (.box (.agg EE))) (ah (ah ro a .no) b .no):=(fw.new ta.free .no _).trans (fw.new tb.free .no _)
 have a1:ah (ah h a (.box it.e)) b (.box (.agg EE)) a=.box (.agg it.cs):=by rw[aa _ _ hab,ad];rfl
 have b1:ah (ah h a (.box it.e)) b (.box (.agg EE)) b=.box (.agg EE):=ad _ _ _
 have haf:h a=.free:=ta.free
 have hbf:h b=.free:=by have:=tb.free;rw[aa _ _ hab.symm]at this;exact this
 generalize ah (ah h a (.box it.e)) b (.box (.agg EE))=h1 at x1 a1 b1
 have ra:ah (ah ro a .no) b .no a=.no:=by rw[aa _ _ hab,ad]
 have rb:ah (ah ro a .no) b .no b=.no:=ad _ _ _
 generalize ah (ah ro a .no) b .no=ro1 at x1 ra rb
 have bnf:∀{g:Heap}{n:Nat}{s:Slot},g b=.box (.agg EE)->g n=.free->ah g n s b=.box (.agg EE):=fun {g n s} h1 h2=>by rw[aa _ _ (by rintro rfl;rw[h1]at h2;cases h2)];exact h1
 refine m6 fun n2 t2=>?_
 have x2:fw h1 ro1 (ah h1 n2 (.arr 1 [])) (ah ro1 n2 .no):=fw.new t2.free .no _
 have a2:=x2.box a1
 have u2:(ah h1 n2 (.arr 1 []) a).used=true:=by rw[a2];rfl
 simp only[↓ba u2,Nat.zero_add,↓eR a2 (j:=4) rfl,true_and]
 refine OJ (w:=it.regs) (by omega) (ad _ _ _) fun q3 h3 f3 g3 k3=>?_
 have x3:fw h1 ro1 h3 (ah ro1 q3 .regs):=fun k hk=>by
  have hk2:=t2.ne hk
  have hq:k≠q3:=by rintro rfl;rw[aa _ _ hk2]at f3;exact hk f3
  exact⟨by rw[k3 k (by rw[aa _ _ hk2];exact hk) hk2,aa _ _ hk2],aa _ _ hq⟩
 have R3:nU h3 (ah ro1 q3 .regs) (.ms q3 0 it.regs.length) it.regs:=⟨q3,rfl,g3,ad _ _ _⟩
 have a3:=x3.box a1
 have b3:=x3.box b1
 have ra3:ah ro1 q3 .regs a=.no:=by rw[(x3 a (by rw[a1];simp)).2];exact ra
 have rb3:ah ro1 q3 .regs b=.no:=by rw[(x3 b (by rw[b1];simp)).2];exact rb
 have X3:=x1.trans x3
 generalize ah ro1 q3 .regs=ro3 at x3 R3 X3 ra3 rb3
 have u3:(h3 a).used=true:=by rw[a3];rfl
 simp only[↓ba u3,Nat.zero_add,true_and]
 rw[HH a3 (by simp[It.cs]) rfl]
 have fr4:fw h ro (ah h3 a (.box (.agg (it.cs.set 4 (.ms q3 0 it.regs.length))))) ro3:=fun k hk=>by
  have:k≠a:=by rintro rfl;exact hk haf
  rw[aa _ _ this];exact X3 k hk
 have R4:=R3.aD (cv.av (s:=.box (.agg (it.cs.set 4 (.ms q3 0 it.regs.length)))) (by rw[ra3];rfl))
 have a4:ah h3 a (.box (.agg (it.cs.set 4 (.ms q3 0 it.regs.length)))) a=.box (.agg [.int .i64 it.id,.int .i64 it.at_,.int .i64 it.block,.int .i64 it.epoch,.ms q3 0 it.regs.length,aR it.priv,.sl []]):=ad _ _ _
 have b4:ah h3 a (.box (.agg (it.cs.set 4 (.ms q3 0 it.regs.length)))) b=.box (.agg EE):=by rw[aa _ _ hab.symm];exact b3
 generalize ah h3 a (.box (.agg (it.cs.set 4 (.ms q3 0 it.regs.length))))=h4 at fr4 R4 a4 b4
 clear x1 a1 b1 ra rb x2 a2 u2 x3 a3 b3 X3 R3 u3 f3 g3 k3 t2
 have u4:(h4 a).used=true:=by rw[a4];rfl
 simp only[↓ba u4,Nat.zero_add,↓eR a4 (j:=5) rfl,true_and]
 refine Ja (ro:=ro3) hp 3 fun dP h5 ro5 x5 M5=>?_
 have a5:=x5.box a4
 have b5:=x5.box b4
 have ra5:ro5 a=.no:=by rw[(x5 a (by rw[a4];simp)).2];exact ra3
 have rb5:ro5 b=.no:=by rw[(x5 b (by rw[b4];simp)).2];exact rb3
 have fr5:=fr4.trans x5
 have R5:=R4.aD x5.aD
 have u5:(h5 a).used=true:=by rw[a5];rfl
 have oP:=M5.one
 simp only[↓ba u5,Nat.zero_add,true_and]
 rw[HH a5 (by simp) oP]
 have fr6:fw h ro (ah h5 a (.box (.agg ([.int .i64 it.id,.int .i64 it.at_,.int .i64 it.block,.int .i64 it.epoch,.ms q3 0 it.regs.length,aR it.priv,.sl []].set 5 dP)))) ro5:=fun k hk=>by
  have:k≠a:=by rintro rfl;exact hk haf
  rw[aa _ _ this];exact fr5 k hk
 have kt:cv h5 ro5 (ah h5 a (.box (.agg ([.int .i64 it.id,.int .i64 it.at_,.int .i64 it.block,.int .i64 it.epoch,.ms q3 0 it.regs.length,aR it.priv,.sl []].set 5 dP)))) ro5:=cv.av (by rw[ra5];rfl)
 have R6:=R5.aD kt
 have M6:=M5.aD kt
 have a6:ah h5 a (.box (.agg ([.int .i64 it.id,.int .i64 it.at_,.int .i64 it.block,.int .i64 it.epoch,.ms q3 0 it.regs.length,aR it.priv,.sl []].set 5 dP))) a=.box (.agg [.int .i64 it.id,.int .i64 it.at_,.int .i64 it.block,.int .i64 it.epoch,.ms q3 0 it.regs.length,dP,.sl []]):=ad _ _ _
 have b6:ah h5 a (.box (.agg ([.int .i64 it.id,.int .i64 it.at_,.int .i64 it.block,.int .i64 it.epoch,.ms q3 0 it.regs.length,aR it.priv,.sl []].set 5 dP))) b=.box (.agg EE):=by rw[aa _ _ hab.symm];exact b5
 generalize ah h5 a (.box (.agg ([.int .i64 it.id,.int .i64 it.at_,.int .i64 it.block,.int .i64 it.epoch,.ms q3 0 it.regs.length,aR it.priv,.sl []].set 5 dP)))=h6 at fr6 R6 M6 a6 b6
 clear fr4 R4 a4 b4 u4 x5 M5 a5 b5 fr5 R5 u5 kt ra3 rb3
 refine m6 fun n7 t7=>?_
 have f7:=t7.free
 have a7:ah h6 n7 (.arr 1 []) a=.box (.agg [.int .i64 it.id,.int .i64 it.at_,.int .i64 it.block,.int .i64 it.epoch,.ms q3 0 it.regs.length,dP,.sl []]):=by rw[aa _ _ (by rintro rfl;rw[a6]at f7;cases f7)];exact a6
 have u7:(ah h6 n7 (.arr 1 []) a).used=true:=by rw[a7];rfl
 simp only[↓ba u7,Nat.zero_add,↓eR a7 (j:=6) rfl,true_and]
 refine OJ (w:=[]) (by simp) (ad _ _ _) fun q8 h8 f8 g8 k8=>?_
 have x8:fw h6 ro5 h8 (ah ro5 q8 .sl):=fun k hk=>by
  have hk2:=t7.ne hk
  have hq:k≠q8:=by rintro rfl;rw[aa _ _ hk2]at f8;exact hk f8
  exact⟨by rw[k8 k (by rw[aa _ _ hk2];exact hk) hk2,aa _ _ hk2],aa _ _ hq⟩
 have L8:SU h8 (ah ro5 q8 .sl) (.ms q8 0 0):=⟨q8,rfl,g8,ad _ _ _⟩
 have R8:=R6.aD x8.aD
 have M8:=M6.aD x8.aD
 have a8:=x8.box a6
 have b8:=x8.box b6
 have fr8:=fr6.trans x8
 have ra8:ah ro5 q8 .sl a=.no:=by rw[(x8 a (by rw[a6];simp)).2];exact ra5
 have rb8:ah ro5 q8 .sl b=.no:=by rw[(x8 b (by rw[b6];simp)).2];exact rb5
 generalize ah ro5 q8 .sl=ro8 at x8 L8 R8 M8 fr8 ra8 rb8
 clear fr6 R6 M6 a6 b6 a7 u7 x8 ra5 rb5 f8 g8 k8 t7 f7
 have u8:(h8 a).used=true:=by rw[a8];rfl
 simp only[↓ba u8,Nat.zero_add,List.length_nil,true_and]
 rw[HH a8 (by simp) rfl]
 have b9:ah h8 a (.box (.agg ([.int .i64 it.id,.int .i64 it.at_,.int .i64 it.block,.int .i64 it.epoch,.ms q3 0 it.regs.length,dP,.sl []].set 6 (.ms q8 0 0)))) b=.box (.agg EE):=by rw[aa _ _ hab.symm];exact b8
 have a9:ah h8 a (.box (.agg ([.int .i64 it.id,.int .i64 it.at_,.int .i64 it.block,.int .i64 it.epoch,.ms q3 0 it.regs.length,dP,.sl []].set 6 (.ms q8 0 0)))) a=.box (.agg [.int .i64 it.id,.int .i64 it.at_,.int .i64 it.block,.int .i64 it.epoch,.ms q3 0 it.regs.length,dP,.ms q8 0 0]):=ad _ _ _
 have kt9:cv h8 ro8 (ah h8 a (.box (.agg ([.int .i64 it.id,.int .i64 it.at_,.int .i64 it.block,.int .i64 it.epoch,.ms q3 0 it.regs.length,dP,.sl []].set 6 (.ms q8 0 0))))) ro8:=cv.av (by rw[ra8];rfl)
 have fr9:fw h ro (ah h8 a (.box (.agg ([.int .i64 it.id,.int .i64 it.at_,.int .i64 it.block,.int .i64 it.epoch,.ms q3 0 it.regs.length,dP,.sl []].set 6 (.ms q8 0 0))))) ro8:=fun k hk=>by
  have:k≠a:=by rintro rfl;exact hk haf
  rw[aa _ _ this];exact fr8 k hk
 have R9:=R8.aD kt9
 have M9:=M8.aD kt9
 have L9:=L8.aD kt9
 generalize ah h8 a (.box (.agg ([.int .i64 it.id,.int .i64 it.at_,.int .i64 it.block,.int .i64 it.epoch,.ms q3 0 it.regs.length,dP,.sl []].set 6 (.ms q8 0 0))))=h9 at b9 a9 kt9 fr9 R9 M9 L9
 rw[OX a9 rfl,lf (s:=7) (cs':=[.int .i64 it.id,.int .i64 it.at_,.int .i64 it.block,.int .i64 it.epoch,.ms q3 0 it.regs.length,dP,.ms q8 0 0]) b9 rfl rfl (by simp[oP])]
 have kt10:cv h9 ro8 (ah h9 b (.box (.agg [.int .i64 it.id,.int .i64 it.at_,.int .i64 it.block,.int .i64 it.epoch,.ms q3 0 it.regs.length,dP,.ms q8 0 0]))) ro8:=cv.av (by rw[rb8];rfl)
 rw[OX (ad _ _ _) rfl]
 refine hK _ dP _ _ ro8 (fun k hk=>?_) (R9.aD kt10) (M9.aD kt10) (L9.aD kt10)
 have:k≠b:=by rintro rfl;exact hk hbf
 rw[aa _ _ this];exact fr9 k hk
theorem HT {h:Heap}{ro:Ro}{it:It}(hr:it.regs.length<=1000) (hp:OY it.priv){KH:HK}
  (hK:∀dR dP dL h' ro',fw h ro h' ro'->nU h' ro' dR it.regs->iw h' ro' 3 dP it.priv->KI h' ro' dL->KH (rE it dR dP dL) h'):ag PP iQ [it.e] h KH :=
 Le hr hp fun dR dP dL h' ro' a b c d=>hK dR dP dL h' ro' a b c (Or.inr (Or.inr d))
structure kj (h:Heap) (ro:Ro) (dR dE dL:D) (dm:Nat->D) (st:St):Prop where
 regs:nU h ro dR st.regs
 mem:∀s,1<=s->s<=3->iw h ro s (dm s) (st.mem s)
 ev:L5 h ro dE st.ev
 sl:KI h ro dL
section
variable {h:Heap}{ro:Ro}{dR dE dL:D}{dm:Nat->D}{st:St}
theorem kj.r (x:kj h ro dR dE dL dm st):JN h ro dR dE dL dm st:=⟨x.regs,fun s h1 h2=>(x.mem s h1 h2).r,x.ev,x.sl⟩
theorem kj.aD {h':Heap}{ro':Ro}(k:cv h ro h' ro') (x:kj h ro dR dE dL dm st):kj h' ro' dR dE dL dm st :=
 ⟨x.regs.aD k,fun s h1 h2=>(x.mem s h1 h2).aD k,x.ev.aD k,x.sl.aD k⟩
theorem iw.dj {E:lV->Prop}{h h':Heap}{ro ro':Ro}(k:kF E h ro h' ro'){s:Nat}(hr:E (.mem s)) (hr2:∀i,E (.row s i)){d:D}{m:Mm}(x:iw h ro s d m):iw h' ro' s d m:=by
 obtain⟨q,els,h1,h2,h3⟩:=x
 exact⟨q,els,h1,h2.dj k hr hr2,h3⟩
theorem kj.ext {h':Heap}(e:Ext h h') (x:kj h ro dR dE dL dm st):kj h' ro dR dE dL dm st:=x.aD (cv.ext e)
theorem kj.store (x:kj h ro dR dE dL dm st){s k i:Nat}(hs:1<=s/\s<=3){w:List Int}(hk:(st.mem s)[k]?=some w) (hi:i<w.length){v:Int}{kk':IntKind}{KH:HK}
  (hK:∀h',Fr ro h ro h'->kj h' ro dR dE dL dm (st.put s k i v)->KH .undef h') :
  ab PP (.iadd (.c (dm s)) (.c (.int .i64 (k:Int))) 1) h fun a h1=>ab PP (.ld (.c a) 1 false) h1 fun b h2=>ab PP (.iadd (.c b) (.c (.int kk' (i:Int))) 1) h2 fun e h3=>ab PP (.st (.c e) (.c (.int .i32 v)) 1) h3 KH:=by
 obtain⟨kk,els,hd,y,yo⟩:=x.mem s hs.1 hs.2
 have hlt:=(List.getElem?_eq_some_iff.1 hk).1
 have hl:=y.len
 have he:els[k]?=some (els[k]'(by omega)):=List.getElem?_eq_getElem (by omega)
 obtain⟨q,hq,hq1,hq2⟩:∃q,els[k]'(by omega)=.ms q 0 w.length/\h q=.arr 1 (wr w)/\ro q=.row s k:=by
  rcases y.el k _ w he hk with g|g
  ·obtain⟨q,l,e⟩:=yo _ (List.getElem_mem (h:=(by omega:k<els.length)))
   rw[e]at g;cases g
  ·exact g
 rw[hq]at he
 rw[hd]
 simp only[↓bF,y.hk,Slot.row]
 refine⟨by omega,by omega,⟨_,rfl⟩,?_⟩
 rw[jE,y.hk]
 refine⟨by simp;omega,fun e he'=>?_⟩
 rw[show 0+((k:Int)).toNat=k by omega,he]at he';cases he'
 simp only[↓bk,EU,List.getElem?_cons_zero,↓bF,hq1,Slot.row]
 refine⟨by omega,by omega,⟨_,rfl⟩,?_⟩
 rw[dq,hq1]
 refine⟨rfl,by simp,by simp[wr];omega,by simp,fun d hd'=>?_⟩
 have e:setCells d 0 (D.int .i32 v).cells=.int .i32 v:=by
  rw[DH,Option.map_eq_some_iff]at hd'
  obtain⟨z,-,rfl⟩:=hd'
  rfl
 rw[e,show 0+((i:Int)).toNat=i by omega,DG]
 have hp:st.put s k i v={ st with mem:=ah st.mem s ((st.mem s).set k (w.set i v)) }:=by
  simp only[St.put,FT,List.getD_eq_getElem?_getD,hk,Option.getD_some]
 have hne:∀k',ro k'≠.row s k->k'≠q:=by rintro k' hr rfl;exact hr hq2
 have X:=x.r.ML (w':=w.set i v) hs hd y.hk he hk hq1 hq2 (by simp)
 refine hK _ (Fr.av (by rw[hq2];simp) (by simp)) ?_
 rw[hp]
 refine⟨X.regs,fun s' s1 s2=>?_,X.ev,X.sl⟩
 obtain⟨k0,els0,g1,g2,g3⟩:=x.mem s' s1 s2
 have hk0:k0≠q:=hne k0 (by rw[g2.rk];simp)
 obtain⟨k1,els1,f1,f2⟩:=X.mem s' s1 s2
 have hlen:(ah st.mem s ((st.mem s).set k (w.set i v)) s').length=(st.mem s').length:=by
  by_cases es:s'=s
  ·subst es;simp
  ·simp[aa _ _ es]
 have f1':=f1
 rw[g1]at f1'
 simp only[D.ms.injEq,true_and]at f1'
 obtain⟨rfl,-⟩:=f1'
 refine⟨k0,els1,f1,f2,?_⟩
 have:=f2.hk
 rw[aa _ _ hk0,g2.hk]at this
 cases this
 exact g3
theorem kj.J8 (x:kj h ro dR dE dL dm st){i:Nat}{v:Int}(hi:i<st.regs.length){KH:HK}
  (hK:∀h',Fr ro h ro h'->kj h' ro dR dE dL dm (st.ox i v)->KH .undef h'):ab PP (.iadd (.c dR) (.c (.int .i64 (i:Int))) 1) h fun a h1=>ab PP (.st (.c a) (.c (.int .i32 v)) 1) h1 KH:=by
 refine MQ x.r hi fun q hq y=>hK _ (Fr.av (by rw[hq];simp) (by simp)) ?_
 refine⟨y.regs,fun s s1 s2=>(x.mem s s1 s2).dj (E:=fun r=>r≠.regs) (fun k _ hr=>?_) (by simp) (by simp),y.ev,y.sl⟩
 rw[aa _ _ (by rintro rfl;exact hr hq)];exact⟨rfl,rfl⟩
theorem Oc {evs:List Ev}{e:Ev}{z z':D}(x:L5 h ro dE evs) (hl:evs.length<=1000000){KH:HK}
  (hK:∀dE' h' ro',Fr ro h ro' h'->kF (fun r=>r≠.ev) h ro h' ro'->L5 h' ro' dE' (evs++[e])->KH dE' h') :
  ab PP (.bldS true 9 1 z [(0,.c e.e)]) h fun y h1=>ab PP (.app (.c dE) (.c y) 9 72 z') h1 KH:=by
 refine NO e.bZ.vd e.bZ.one rfl fun n5 t=>?_
 have hx:((ah h n5 (.arr 9 [e.e])) n5).row=some (9,[e.e]):=by rw[ad];rfl
 refine⟨[e.e],hx,by simp,?_⟩
 simp only[List.drop_zero,List.take_succ_cons,List.take_zero]
 refine⟨fun y hy=>by simp at hy;subst hy;exact e.bZ.one,?_⟩
 have fin:∀(q:Nat) (h':Heap),h q=.free->h' q=.arr 9 ((evs++[e]).map Ev.e)->(∀k,h k≠.free->ro k≠.ev->h' k=h k)->(∀k,h k≠.free->h' k≠.free)->KH (.ms q 0 (evs.length+1)) h':=by
  intro q h' hq hq2 hk hf
  have neq:∀k,h k≠.free->k≠q:=by rintro k hk rfl;exact hk hq
  refine hK _ h' (ah ro q .ev) (fun k hk'=>⟨aa _ _ (neq k hk'),hf k hk',fun hr=>hk k hk' (by rw[hr];simp)⟩) (fun k hk' hr=>⟨hk k hk' hr,aa _ _ (neq k hk')⟩) (Or.inr ⟨q,by simp,hq2,ad _ _ _⟩)
 rcases x with⟨rfl,rfl⟩|⟨q0,rfl,g1,g2⟩
 ·refine⟨⟨by simp,by simp⟩,fun q t2=>?_⟩
  have hf:=t2.free
  have hq5:q≠n5:=by rintro rfl;rw[ad]at hf;cases hf
  refine fin q _ (by rw[aa _ _ hq5]at hf;exact hf) (by rw[ad];rfl) (fun k hk _=>?_) fun k hk=>?_
  all_goals
   have h5:=t.ne hk
   have h6:k≠q:=t2.ne (by rw[aa _ _ h5];exact hk)
   rw[aa _ _ h6,aa _ _ h5]
  exact hk
 ·have hq05:q0≠n5:=t.ne (bU g1)
  refine⟨_,by rw[aa _ _ hq05];exact g1,rfl,by simp,⟨by simp;omega,by simp;omega⟩,fun q t2=>?_⟩
  have hf:=t2.free
  have hq5:q≠n5:=by rintro rfl;rw[ad]at hf;cases hf
  refine fin q _ (by rw[aa _ _ hq5]at hf;exact hf) (by rw[ad];simp) (fun k hk hr=>?_) fun k hk=>?_
  ·have h5:=t.ne hk
   have h6:k≠q:=t2.ne (by rw[aa _ _ h5];exact hk)
   have h0:k≠q0:=by rintro rfl;exact hr g2
   rw[aa _ _ h6,aa _ _ h0,aa _ _ h5]
  ·have h5:=t.ne hk
   have h6:k≠q:=t2.ne (by rw[aa _ _ h5];exact hk)
   rw[aa _ _ h6]
   by_cases e0:k=q0
   ·rw[e0,ad];simp
   ·rw[aa _ _ e0,aa _ _ h5];exact hk
abbrev dY (it:It) (dR dL dE:D) (dm:Nat->D) (e:Int):List D :=
 [.int .i64 it.id,.int .i64 it.at_,.int .i64 it.block,.int .i64 it.epoch,dR,dm 3,dL,dm 1,dm 2,dE,.int .i64 e]
theorem kj.dF (x:kj h ro dR dE dL dm st) (it:It) (e:Int):∀d,d∈dY it dR dL dE dm e->d.one=true:=by
 have o1:=(x.mem 1 (by omega) (by omega)).one
 have o2:=(x.mem 2 (by omega) (by omega)).one
 have o3:=(x.mem 3 (by omega) (by omega)).one
 have oR:=x.regs.one
 have oL:=x.sl.one
 have oE:=x.ev.one
 intro d hd
 simp at hd
 rcases hd with rfl|rfl|rfl|rfl|rfl|rfl|rfl|rfl|rfl|rfl|rfl<;>first|rfl|assumption
theorem Tt (x:kj h ro dR dE dL dm st){c:Code}{it:It}{e:Int}(hc:bj c) (hw:qA c st){k i:Nat}{r:bO}(hk:k<c.arrays.length) (hr:c.arrays[k]?=some r) (hi:(i:Int)<ir c k){KH:HK}
  (hK:∀h',Ext h h'->KH (.int .i32 (st.word (bh c k) k i)) h'):ag PP qW [.agg (dY it dR dL dE dm e),r.e,.int .i64 (k:Int),.int .i64 (i:Int)] h KH:=by
 refine aW Fp (aA _ _ _) rfl (E7 _ _ _ _ _) ?_
 (unfold Bu;try dsimp only[xL,yL,xF,yF,xI,yI,xS,zI,zJ])
 rw[cJ]
 refine⟨x.dF it e,fun a ta=>?_⟩
 rw[cJ]
 refine⟨(bO.bZ r).one,fun b tb=>?_⟩
 have hab:a≠b:=tb.ne (by rw[ad];simp)
 have ex:Ext h (ah (ah h a (.box (.agg (dY it dR dL dE dm e)))) b (.box r.e)):=(Ext.new ta _).trans (Ext.new tb _)
 have a1:ah (ah h a (.box (.agg (dY it dR dL dE dm e)))) b (.box r.e) a=.box (.agg (dY it dR dL dE dm e)):=by rw[aa _ _ hab,ad]
 have b1:ah (ah h a (.box (.agg (dY it dR dL dE dm e)))) b (.box r.e) b=.box (.agg [.str r.name,.int .i64 r.space,.int .i64 r.type,.int .i64 r.len]):=ad _ _ _
 generalize ah (ah h a (.box (.agg (dY it dR dL dE dm e)))) b (.box r.e)=h1 at ex a1 b1
 have y:=x.ext ex
 have ua:(h1 a).used=true:=by rw[a1];rfl
 have ub:(h1 b).used=true:=by rw[b1];rfl
 obtain⟨w,g1,g2,-⟩:=Dp hc hw hk hi
 obtain⟨r',hr',ho⟩:=hc.at hk
 rw[hr]at hr';cases hr'
 have hs:=iV hr
 simp only[↓ba ua,↓ba ub,Nat.zero_add,↓eR b1 (j:=1) rfl,↓aM,true_and]
 rcases ho.1 with h1'|h1'|h1'
 ·have e1:bh c k=1:=by rw[hs,h1'];rfl
  rw[e1]at g1 g2 hK
  simp only[h1',decide_true,↓af,↓eR a1 (j:=7) rfl]
  exact GS (y.mem 1 (by omega) (by omega)).r g1 g2 (hK h1 ex)
 ·have e1:bh c k=2:=by rw[hs,h1'];rfl
  rw[e1]at g1 g2 hK
  simp only[h1',Int.reduceEq,decide_false,decide_true,↓af,↓ae,↓eR a1 (j:=8) rfl]
  exact GS (y.mem 2 (by omega) (by omega)).r g1 g2 (hK h1 ex)
 ·have e1:bh c k=3:=by rw[hs,h1'];rfl
  rw[e1]at g1 g2 hK
  simp only[h1',Int.reduceEq,decide_false,↓ae,↓eR a1 (j:=5) rfl]
  exact GS (y.mem 3 (by omega) (by omega)).r g1 g2 (hK h1 ex)
theorem QM (x:kj h ro dR dE dL dm st){c:Code}{it:It}{e:Int}(hc:bj c) (hw:qA c st){k i:Nat}{r:bO}(hk:k<c.arrays.length) (hr:c.arrays[k]?=some r) (hi:(i:Int)<ir c k){v:Int}{KH:HK}
  (hK:∀h',Fr ro h ro h'->kj h' ro dR dE dL dm (st.put (bh c k) k i v)->KH (.tup []) h'):ag PP mb [.agg (dY it dR dL dE dm e),r.e,.int .i64 (k:Int),.int .i64 (i:Int),.int .i32 v] h KH:=by
 refine aW Fo (aA _ _ _) rfl (E6 _ _ _ _ _ _) ?_
 (unfold Bt;try dsimp only[xL,yL,xF,yF,xI,yI,xS,zI,zJ])
 rw[cJ]
 refine⟨x.dF it e,fun a ta=>?_⟩
 rw[cJ]
 refine⟨(bO.bZ r).one,fun b tb=>?_⟩
 have hab:a≠b:=tb.ne (by rw[ad];simp)
 have ex:Ext h (ah (ah h a (.box (.agg (dY it dR dL dE dm e)))) b (.box r.e)):=(Ext.new ta _).trans (Ext.new tb _)
 have a1:ah (ah h a (.box (.agg (dY it dR dL dE dm e)))) b (.box r.e) a=.box (.agg (dY it dR dL dE dm e)):=by rw[aa _ _ hab,ad]
 have b1:ah (ah h a (.box (.agg (dY it dR dL dE dm e)))) b (.box r.e) b=.box (.agg [.str r.name,.int .i64 r.space,.int .i64 r.type,.int .i64 r.len]):=ad _ _ _
 generalize ah (ah h a (.box (.agg (dY it dR dL dE dm e)))) b (.box r.e)=h1 at ex a1 b1
 have y:=x.ext ex
 have ua:(h1 a).used=true:=by rw[a1];rfl
 have ub:(h1 b).used=true:=by rw[b1];rfl
 obtain⟨w,g1,g2,g3⟩:=Dp hc hw hk hi
 obtain⟨r',hr',ho⟩:=hc.at hk
 rw[hr]at hr';cases hr'
 have hs:=iV hr
 simp only[↓ba ua,↓ba ub,Nat.zero_add,↓eR b1 (j:=1) rfl,↓aM,true_and]
 rcases ho.1 with h1'|h1'|h1'
 ·have e1:bh c k=1:=by rw[hs,h1'];rfl
  rw[e1]at g1 g2 hK
  simp only[h1',decide_true,↓af,↓eR a1 (j:=7) rfl]
  exact y.store (by omega) g1 g3 fun h' f z=>hK h' ((Fr.ext ex).trans f) z
 ·have e1:bh c k=2:=by rw[hs,h1'];rfl
  rw[e1]at g1 g2 hK
  simp only[h1',Int.reduceEq,decide_false,decide_true,↓af,↓ae,↓eR a1 (j:=8) rfl]
  exact y.store (by omega) g1 g3 fun h' f z=>hK h' ((Fr.ext ex).trans f) z
 ·have e1:bh c k=3:=by rw[hs,h1'];rfl
  rw[e1]at g1 g2 hK
  simp only[h1',Int.reduceEq,decide_false,↓ae,↓eR a1 (j:=5) rfl]
  exact y.store (by omega) g1 g3 fun h' f z=>hK h' ((Fr.ext ex).trans f) z
theorem zL (x:kj h ro dR dE dL dm st){it:It}{o:dX}(ho:wv st.regs.length o){KH:HK}(hK:∀h',Ext h h'->kj h' ro dR dE dL dm st->KH (.int .i32 (aX st.regs o)) h') :
  ag PP ck [rE it dR (dm 3) dL,o.e] h KH:=Ps (by simp[(x.mem 3 (by omega) (by omega)).one,x.sl.one]) x.regs.row ho fun h' e=>hK h' e (x.ext e)
theorem MR (x:kj h ro dR dE dL dm st){c:Code}{l:dk}{it:It}(hc:bj c) (hl:js c l) (hid:0<=it.id/\it.id<l.groups*c.group) (hw:qA c st){xi:aN}(hx:lP c xi) (hop:xi.op<=6){KH:HK}
  (hK:∀h',Ext h h'->KH (.int .i32 (gr c l it.id xi st.regs)) h'):ag PP ln [c.e,l.e,rE it dR (dm 3) dL,xi.e] h KH:=by
 refine aW yR (aA _ _ _) rfl (xP _ _ _ _ _) ?_
 (unfold rV;try dsimp only[xL,yL,xF,yF,xI,yI,xS,zI,zJ])
 have oI:∀d,d∈(rE it dR (dm 3) dL).cells->d.one=true:=fun d hd=>by
  simp[rE]at hd
  have o3:=(x.mem 3 (by omega) (by omega)).one
  have oR:=x.regs.one
  have oL:=x.sl.one
  rcases hd with rfl|rfl|rfl|rfl|rfl|rfl|rfl<;>first|rfl|assumption
 rw[cJ]
 refine⟨(jG c).2,fun n1 t1=>?_⟩
 rw[cJ]
 refine⟨List.all_eq_true.1 (dk.on l),fun n2 t2=>?_⟩
 rw[cJ]
 refine⟨oI,fun n3 t3=>?_⟩
 rw[cJ]
 refine⟨xi.bZ.one,fun n4 t4=>?_⟩
 have ne12:n1≠n2:=t2.ne (by rw[ad];simp)
 have ne13:n1≠n3:=t3.ne (by rw[aa _ _ ne12,ad];simp)
 have ne23:n2≠n3:=t3.ne (by rw[ad];simp)
 have ne14:n1≠n4:=t4.ne (by rw[aa _ _ ne13,aa _ _ ne12,ad];simp)
 have ne24:n2≠n4:=t4.ne (by rw[aa _ _ ne23,ad];simp)
 have ne34:n3≠n4:=t4.ne (by rw[ad];simp)
 obtain⟨h1,hh1⟩:∃h1,h1=ah (ah (ah (ah h n1 (.box c.e)) n2 (.box l.e)) n3 (.box (rE it dR (dm 3) dL))) n4 (.box xi.e):=⟨_,rfl⟩
 rw[<- hh1]
 have ex:Ext h h1:=by rw[hh1];exact((Ext.new t1 _).trans (Ext.new t2 _)).trans ((Ext.new t3 _).trans (Ext.new t4 _))
 have b1:h1 n1=.box c.e:=by rw[hh1,aa _ _ ne14,aa _ _ ne13,aa _ _ ne12,ad]
 have b2:h1 n2=.box (.agg [.int .i64 l.groups,words l.args]):=by rw[hh1,aa _ _ ne24,aa _ _ ne23,ad];rfl
 have b3:h1 n3=.box (.agg [.int .i64 it.id,.int .i64 it.at_,.int .i64 it.block,.int .i64 it.epoch,dR,dm 3,dL]):=by rw[hh1,aa _ _ ne34,ad];rfl
 have b4:h1 n4=.box (.agg xi.cs):=by rw[hh1,ad];rfl
 have y:=x.ext ex
 clear hh1 t1 t2 t3 t4
 obtain⟨oa,ob,oc⟩:=hx.ops
 have va:=fun {o:dX}(ho:iW c.regs o)=>jx hw.regs ho
 have i7:∀{g:Heap}{K:D->Prop},g n3=.box (.agg [.int .i64 it.id,.int .i64 it.at_,.int .i64 it.block,.int .i64 it.epoch,dR,dm 3,dL])->aq PP (.ld (.c (.ptr n3 0 0)) 7 true) g K=K (rE it dR (dm 3) dL):=fun {g K} hg=>by rw[bL];exact db hg
 have i7':∀{g:Heap}{K:HK},g n3=.box (.agg [.int .i64 it.id,.int .i64 it.at_,.int .i64 it.block,.int .i64 it.epoch,dR,dm 3,dL])->ab PP (.ld (.c (.ptr n3 0 0)) 7 true) g K=K (rE it dR (dm 3) dL) g:=fun {g K} hg=>db hg
 have i3:∀{g:Heap}{K:D->Prop}{j:Nat},g n4=.box (.agg xi.cs)->j+3<=15->aq PP (.ld (.c (.ptr n4 0 j)) 3 true) g K=K (.agg ((xi.cs.drop j).take 3)):=fun {g K j} hm hj=>by rw[bL,rD hm (by simp[aN.cs];omega)]
 have i3':∀{g:Heap}{K:HK}{j:Nat},g n4=.box (.agg xi.cs)->j+3<=15->ab PP (.ld (.c (.ptr n4 0 j)) 3 true) g K=K (.agg ((xi.cs.drop j).take 3)) g:=fun {g K j} hm hj=>by rw[rD hm (by simp[aN.cs];omega)]
 have u4:(h1 n4).used=true:=by rw[b4];rfl
 simp only[↓aE,u4,Nat.zero_add,i7 b3,↓i3 b4 (j:=6) (by omega),↓i3 b4 (j:=9) (by omega),true_and]
 refine zL y (o:=xi.a) (by rw[hw.len];exact oa) fun h2 e2 y2=>?_
 have c3:h2 n3=.box (.agg [.int .i64 it.id,.int .i64 it.at_,.int .i64 it.block,.int .i64 it.epoch,dR,dm 3,dL]):=by rw[e2 n3 (by rw[b3];simp)];exact b3
 have c4:h2 n4=.box (.agg xi.cs):=by rw[e2 n4 (by rw[b4];simp)];exact b4
 have u42:(h2 n4).used=true:=by rw[c4];rfl
 simp only[↓aE,u42,Nat.zero_add,i7 c3,↓i3 c4 (j:=9) (by omega),ai,true_and,and_true]
 refine zL y2 (o:=xi.b) (by rw[hw.len];exact ob) fun h3 e3 y3=>?_
 have ex3:=(ex.trans e2).trans e3
 have d1:h3 n1=.box c.e:=by rw[e3 n1 (by rw[e2 n1 (by rw[b1];simp),b1];simp),e2 n1 (by rw[b1];simp)];exact b1
 have d2:h3 n2=.box (.agg [.int .i64 l.groups,words l.args]):=by rw[e3 n2 (by rw[e2 n2 (by rw[b2];simp),b2];simp),e2 n2 (by rw[b2];simp)];exact b2
 have d3:h3 n3=.box (.agg [.int .i64 it.id,.int .i64 it.at_,.int .i64 it.block,.int .i64 it.epoch,dR,dm 3,dL]):=by rw[e3 n3 (by rw[c3];simp)];exact c3
 have d4:h3 n4=.box (.agg xi.cs):=by rw[e3 n4 (by rw[c4];simp)];exact c4
 have v4:(h3 n4).used=true:=by rw[d4];rfl
 have v3:(h3 n3).used=true:=by rw[d3];rfl
 have v2:(h3 n2).used=true:=by rw[d2];rfl
 clear b1 b2 b3 b4 c3 c4 u4 u42 y y2 e2 e3 ex
 have fl:∀{v e:Int}{g:Heap}{K:HK},ab PP (.fld (.c (nG v e)) 0 1 false) g K=K (.int .i32 v) g:=fun {v e g K}=>rfl
 simp only[↓ba v4,Nat.zero_add,↓eR d4 (j:=0) rfl,↓eR d4 (j:=1) rfl,↓aM,true_and]
 obtain⟨hx,-,hxp⟩:=hx
 cases hx with
 | mov d a h1' h2 =>
  simp only[Int.reduceEq,decide_false,↓ae]
  have:=hK h3 ex3
  simpa[gr] using this
 | un s d a h0 h1' h2 =>
  simp only[decide_true,↓af]
  refine bE (RM h0 (va h2)) (dF rfl) ?_
  rintro _ rfl
  rw[fl]
  have:=hK h3 ex3
  simpa[gr] using this
 | bin s d a b h0 h1' h2 h3' =>
  simp only[Int.reduceEq,decide_false,↓ae,decide_true,↓af]
  refine bE (Kd h0 (va h2) (va h3')) (dF rfl) ?_
  rintro _ rfl
  rw[fl]
  have:=hK h3 ex3
  simpa[gr] using this
 | sel d a b cc h1' h2 h3' h4 =>
  simp only[Int.reduceEq,decide_false,↓ae,decide_true,↓af,↓cq]
  by_cases hz:aX st.regs a=0
  ·simp only[hz,decide_true,Bool.not_true,↓ae,i7' d3,↓ba v4,Nat.zero_add,↓i3' d4 (j:=12) (by omega),true_and]
   refine zL y3 (o:=cc) (by rw[hw.len];exact h4.r) fun h' e _=>?_
   have:=hK h' (ex3.trans e)
   simpa[gr,hz] using this
  ·simp only[hz,decide_false,Bool.not_false,↓af]
   have:=hK h3 ex3
   simpa[gr,hz] using this
 | id s d h0 h1' =>
  simp only[Int.reduceEq,decide_false,↓ae,decide_true,↓af]
  have e8:∀{K:HK},ab PP (.ld (.c (.ptr n1 0 0)) 8 true) h3 K=K c.e h3:=fun {K}=>db d1
  have e2:∀{K:HK},ab PP (.ld (.c (.ptr n2 0 0)) 2 true) h3 K=K l.e h3:=fun {K}=>db d2
  simp only[e8,e2,↓ba v3,↓ba v4,Nat.zero_add,↓eR d3 (j:=0) rfl,↓eR d4 (j:=1) rfl,true_and]
  refine bE (RN (hc.l1 hl hid) h0) ?_ ?_
  ·intro z hz
   simp at hz
   rcases hz with rfl|rfl|rfl|rfl
   ·exact jG c
   ·exact⟨rfl,List.all_eq_true.1 (dk.on l)⟩
   ·exact jY
   ·exact jY
  ·rintro _ rfl
   rw[fl]
   have:=hK h3 ex3
   simpa[gr] using this
 | param k d h0 h1' =>
  simp only[Int.reduceEq,decide_false,↓ae,decide_true,↓af]
  simp only[↓ba v2,↓ba v4,Nat.zero_add,↓eR d2 (j:=1) rfl,↓eR d4 (j:=2) rfl,true_and]
  have hla:=hl.a
  have hxp:=hxp rfl
  simp only at hxp
  obtain⟨i,rfl⟩:∃i:Nat,k=(i:Int):=⟨k.toNat,by omega⟩
  have hi:l.args[i]?=some (l.args.getD i 0):=by rw[List.getD_eq_getElem?_getD,List.getElem?_eq_getElem (by omega)];rfl
  have:=I4 (P:=PP) (h:=h3) (Or.inl rfl) hi (KH:=fun a86 h87=>KH a86 h87) (by have:=hK h3 ex3;simpa[gr] using this)
  exact this
 | load _ _ _ _ _ _=>simp at hop
 | store _ _ _ _ _ _=>simp at hop
 | atom _ _ _ _ _ _ _ _=>simp at hop
 | fence _ _=>simp at hop
end
end Go.Am
namespace Go.Am
open Go
structure bH (h0:Heap) (ro0:Ro) (h:Heap) (ro:Ro) (L:List (Nat×D)):Prop where
 nd:(L.map Prod.fst).Nodup
 at_:∀p∈L,h p.1=.box p.2/\ro p.1=.no/\h0 p.1=.free
 fr:Fr ro0 h0 ro h
theorem bH.nil {h:Heap}{ro:Ro}:bH h ro h ro []:=⟨.nil,fun _ h=>(by cases h),Fr.refl⟩
section
variable {h0 h:Heap}{ro0 ro:Ro}{L:List (Nat×D)}
theorem bH.push (B:bH h0 ro0 h ro L){n:Nat}(hn:h n=.free) (d:D):bH h0 ro0 (ah h n (.box d)) (ah ro n .no) ((n,d)::L):=by
 have ne:∀p∈L,p.1≠n:=fun p hp e=>by have:=(B.at_ p hp).1;rw[e,hn]at this;cases this
 have f0:h0 n=.free:=by
  cases e:h0 n<;>first|rfl|(exfalso;have:=(B.fr n (by rw[e];simp)).2.1;exact this hn)
 refine⟨?_,fun p hp=>?_,B.fr.trans (Fr.new hn _)⟩
 ·simp only[List.map_cons,List.nodup_cons]
  refine⟨fun hm=>?_,B.nd⟩
  obtain⟨p,hp,e⟩:=List.mem_map.1 hm
  exact ne p hp e
 ·rcases List.mem_cons.1 hp with rfl|hp
  ·exact⟨ad _ _ _,ad _ _ _,f0⟩
  ·obtain⟨a,b,c⟩:=B.at_ p hp
   exact⟨by rw[aa _ _ (ne p hp)];exact a,by rw[aa _ _ (ne p hp)];exact b,c⟩
theorem bH.step (B:bH h0 ro0 h ro L){h':Heap}{ro':Ro}(F:Fr ro h ro' h'):bH h0 ro0 h' ro' L :=
 ⟨B.nd,fun p hp=>by
  obtain⟨a,b,c⟩:=B.at_ p hp
  obtain⟨f1,-,f3⟩:=F p.1 (by rw[a];simp)
  exact⟨by rw[f3 b];exact a,by rw[f1];exact b,c⟩,B.fr.trans F⟩
theorem bH.get (B:bH h0 ro0 h ro L) (i:Nat){n:Nat}{d:D}(hi:L[i]?=some (n,d)):h n=.box d:=(B.at_ _ (List.mem_of_getElem? hi)).1
theorem bH.rn (B:bH h0 ro0 h ro L) (i:Nat){n:Nat}{d:D}(hi:L[i]?=some (n,d)):ro n=.no:=(B.at_ _ (List.mem_of_getElem? hi)).2.1
theorem bH.used (B:bH h0 ro0 h ro L) (i:Nat){n:Nat}{d:D}(hi:L[i]?=some (n,d)):(h n).used=true:=by rw[B.get i hi];rfl
theorem bH.av (B:bH h0 ro0 h ro L) (i:Nat){n:Nat}{d:D}(hi:L[i]?=some (n,d)) (d':D):bH h0 ro0 (ah h n (.box d')) ro (L.set i (n,d')):=by
 have hlt:=(List.getElem?_eq_some_iff.1 hi).1
 have hm:(L.set i (n,d')).map Prod.fst=L.map Prod.fst:=by
  rw[List.map_set]
  refine List.ext_getElem? fun j=>?_
  rw[List.getElem?_set]
  split
  ·rename_i e
   subst e
   rw[List.getElem?_map,hi,if_pos (by simpa using hlt)];rfl
  ·rfl
 refine⟨by rw[hm];exact B.nd,fun p hp=>?_,B.fr.I0 (B.at_ _ (List.mem_of_getElem? hi)).2.2⟩
 obtain⟨j,hj⟩:=List.getElem?_of_mem hp
 by_cases e:j=i
 ·subst e
  rw[List.getElem?_set_self hlt]at hj
  cases hj
  exact⟨ad _ _ _,B.rn _ hi,(B.at_ _ (List.mem_of_getElem? hi)).2.2⟩
 ·rw[List.getElem?_set_ne (Ne.symm e)]at hj
  have hpl:=List.mem_of_getElem? hj
  obtain⟨a,b,c⟩:=B.at_ p hpl
  have:p.1≠n:=by
   intro hpn
   have g1:(L.map Prod.fst)[j]?=some n:=by rw[List.getElem?_map,hj];simp[hpn]
   have g2:(L.map Prod.fst)[i]?=some n:=by rw[List.getElem?_map,hi];rfl
   have hjl:j<(L.map Prod.fst).length:=(List.getElem?_eq_some_iff.1 g1).1
   exact e ((List.getElem?_inj hjl B.nd).1 (g1.trans g2.symm))
  exact⟨by rw[aa _ _ this];exact a,b,c⟩
end
theorem kj.new {h:Heap}{ro:Ro}{dR dE dL:D}{dm:Nat->D}{st:St}(x:kj h ro dR dE dL dm st){n:Nat}(hn:h n=.free) (s:Slot):kj (ah h n s) (ah ro n .no) dR dE dL dm st:=x.aD (cv.new hn _)
theorem kj.av {h:Heap}{ro:Ro}{dR dE dL:D}{dm:Nat->D}{st:St}(x:kj h ro dR dE dL dm st){n:Nat}(hn:ro n=.no) (s:Slot):kj (ah h n s) ro dR dE dL dm st:=x.aD (cv.av (by rw[hn];rfl))
abbrev tA:List D:=[.int .i64 0,.int .i64 0,.int .i64 0,.int .i64 0,.nil,.nil,.nil,.nil,.nil,.nil,.int .i64 0]
abbrev Ug:List D:=[.str ⟨#[]⟩,.int .i64 0,.int .i64 0,.int .i64 0]
theorem Pj {it:It}{dR dL dE:D}{dm:Nat->D}{e e':Int}:(dY it dR dL dE dm e).set 10 (.int .i64 e')=dY it dR dL dE dm e':=rfl
theorem bH.ev {h0 h:Heap}{ro0 ro:Ro}{L:List (Nat×D)}(B:bH h0 ro0 h ro L) (i:Nat){n:Nat}{e e':Ev}(hi:L[i]?=some (n,e.e)){j:Nat}{d:D}(hd:d.one=true) (hs:setCells e.e j d.cells=e'.e) (hj:j+1<=9){KH:HK}
  (hK:bH h0 ro0 (ah h n (.box e'.e)) ro (L.set i (n,e'.e))->KH .undef (ah h n (.box e'.e))):ab PP (.st (.c (.ptr n 0 j)) (.c d) 1) h KH :=
 U6 (B.get i hi) hd hs hj (gF hd) (hK (B.av i hi e'.e))
section
variable {h:Heap}{ro:Ro}{dR dE dL:D}{dm:Nat->D}{st:St}
theorem MU (x:kj h ro dR dE dL dm st){c:Code}{l:dk}{it:It}(hc:bj c) (hw:qA c st) (hev:st.ev.length<=900000){xi:aN}(hx:lP c xi) (hop:xi.op=7\/xi.op=8\/xi.op=9){e:Ev}{KH:HK}
  (hK:∀st' h' ro' dE',cH c l it.id xi e st=some st'->Fr ro h ro' h'->kj h' ro' dR dE' dL dm st'->KH (.agg (dY it dR dL dE' dm 0)) h')
  (hN:∀h' ro',cH c l it.id xi e st=none->Fr ro h ro' h'->kj h' ro' dR dE dL dm st->KH (.agg (dY it dR dL dE dm 70)) h') :
  ag PP lq [c.e,.agg (dY it dR dL dE dm 0),xi.e,e.e] h KH:=by
 refine aW yS (aA _ _ _) rfl (xQ _ _ _ _ _) ?_
 (unfold rW;try dsimp only[xL,yL,xF,yF,xI,yI,xS,zI,zJ])
 have B0:bH h ro h ro []:=bH.nil
 obtain⟨k,k1,k2,k3,k4⟩:=hx.acc hop
 obtain⟨r,hr,hro⟩:=hc.at k2
 have ha:=jx hw.regs k3
 have wa:IntKind.i64.wrap (aX st.regs xi.a)=aX st.regs xi.a:=vq ha
 have hlen:=Ax hr
 rw[cJ]
 refine⟨(jG c).2,fun n5 t=>?_⟩
 have x1:=x.new t.free (.box c.e)
 have B1:=B0.push t.free c.e
 generalize ah h n5 (.box c.e)=h1 at x1 B1
 generalize ah ro n5 .no=ro1 at x1 B1
 rw[cJ]
 refine⟨x1.dF it 0,fun n7 t=>?_⟩
 have x2:=x1.new t.free (.box (.agg (dY it dR dL dE dm 0)))
 have B2:=B1.push t.free (.agg (dY it dR dL dE dm 0))
 generalize ah h1 n7 (.box (.agg (dY it dR dL dE dm 0)))=h2 at x2 B2
 generalize ah ro1 n7 .no=ro2 at x2 B2
 rw[cJ]
 refine⟨xi.bZ.one,fun n9 t=>?_⟩
 have x3:=x2.new t.free (.box xi.e)
 have B3:=B2.push t.free xi.e
 generalize ah h2 n9 (.box xi.e)=h3 at x3 B3
 generalize ah ro2 n9 .no=ro3 at x3 B3
 rw[cJ]
 refine⟨e.bZ.one,fun n11 t=>?_⟩
 have x4:=x3.new t.free (.box e.e)
 have B4:=B3.push t.free e.e
 generalize ah h3 n11 (.box e.e)=h4 at x4 B4
 generalize ah ro3 n11 .no=ro4 at x4 B4
 rw[bQ]
 intro n13 t
 have x5:=x4.new t.free (.box (.agg tA))
 have B5:=B4.push t.free (.agg tA)
 generalize ah h4 n13 (.box (.agg tA))=h5 at x5 B5
 generalize ah ro4 n13 .no=ro5 at x5 B5
 have arrs:∀{g:Heap}{K:HK},g n5=.box c.e->ab PP (.ld (.c (.ptr n5 0 5)) 1 false) g K=K (.sl (c.arrays.map bO.e)) g:=fun {g K} hg=>eR (cs:=[.int .i64 c.group,.int .i64 c.sub,.int .i64 c.regs,.int .i64 c.slots,.int .i64 c.params,.sl (c.arrays.map bO.e),.sl (c.loops.map Loop.e),.sl (c.b.map Block.e)]) hg rfl
 have ld4:∀{g:Heap}{K:HK},ab PP (.ld (.c (.vp r.e 0)) 4 true) g K=K r.e g:=fun {g K}=>by
  rw[gY,cn]
  have e1:(r.e.cells.drop 0).take 4=[.str r.name,.int .i64 r.space,.int .i64 r.type,.int .i64 r.len]:=rfl
  have e2:r.e.cells.length=4:=rfl
  rw[e1,e2];simp[bO.e]
 simp only[↓ba (B5.used 4 rfl),Nat.zero_add,arrs (B5.get 4 rfl),↓ba (B5.used 2 rfl),↓eR (cs:=xi.cs) (B5.get 2 rfl) (j:=2) rfl,true_and]
 rw[k1]
 simp only[↓Aw hr,ld4]
 rw[bQ]
 intro n27 t
 have x6:=x5.new t.free (.box (.agg Ug))
 have B6:=B5.push t.free (.agg Ug)
 generalize ah h5 n27 (.box (.agg Ug))=h6 at x6 B6
 generalize ah ro5 n27 .no=ro6 at x6 B6
 clear x1 x2 x3 x4 x5 B0 B1 B2 B3 B4 B5
 have re:r.e=.agg [.str r.name,.int .i64 r.space,.int .i64 r.type,.int .i64 r.len]:=rfl
 rw[re,lf (s:=4) (cs':=[.str r.name,.int .i64 r.space,.int .i64 r.type,.int .i64 r.len]) (B6.get 0 rfl) rfl rfl (by simp), <- re]
 have x7:=x6.av (B6.rn 0 rfl) (.box r.e)
 have B7:=B6.av 0 rfl r.e
 generalize ah h6 n27 (.box r.e)=h7 at x7 B7
 clear x6 B6
 simp only[List.set_cons_zero]at B7
 have s7:∀{g:Heap}{dE':D}{K:HK},g n7=.box (.agg (dY it dR dL dE' dm 0))->ab PP (.ld (.c (.ptr n7 0 0)) 7 true) g K=K (rE it dR (dm 3) dL) g:=fun {g dE' K} hg=>by rw[rD hg (by simp)];rfl
 have s7d:∀{g:Heap}{K:D->Prop},g n7=.box (.agg (dY it dR dL dE dm 0))->aq PP (.ld (.c (.ptr n7 0 0)) 7 true) g K=K (rE it dR (dm 3) dL):=fun {g K} hg=>by rw[bL,s7 hg]
 have i3:∀{g:Heap}{K:HK}{j:Nat},g n9=.box xi.e->j+3<=15->ab PP (.ld (.c (.ptr n9 0 j)) 3 true) g K=K (.agg ((xi.cs.drop j).take 3)) g:=fun {g K j} hm hj=>by rw[rD (cs:=xi.cs) hm (by simp[aN.cs];omega)]
 have i3d:∀{g:Heap}{K:D->Prop}{j:Nat},g n9=.box xi.e->j+3<=15->aq PP (.ld (.c (.ptr n9 0 j)) 3 true) g K=K (.agg ((xi.cs.drop j).take 3)):=fun {g K j} hm hj=>by rw[bL,i3 hm hj]
 simp only[↓ba (B7.used 4 rfl),↓ba (B7.used 3 rfl),Nat.zero_add,s7 (B7.get 4 rfl),↓i3 (B7.get 3 rfl) (j:=6) (by omega),true_and]
 obtain⟨oa,ob,oc⟩:=hx.ops
 refine zL x7 (o:=xi.a) (by rw[hw.len];exact oa) fun h8 e8 x8=>?_
 have B8:=B7.step (Fr.ext (ro:=ro6) e8)
 clear x7 B7 e8
 simp only[↓cu,wa,↓bK]
 have l3:∀{g:Heap}{K:HK},g n27=.box r.e->ab PP (.ld (.c (.ptr n27 0 3)) 1 false) g K=K (.int .i64 r.len) g:=fun {g K} hg=>eR (cs:=[.str r.name,.int .i64 r.space,.int .i64 r.type,.int .i64 r.len]) hg rfl
 have out:cH c l it.id xi e st=none->ab PP (.fadd (.c (.ptr n7 0 0)) 10) h8 fun a63 h64=>ab PP (.st (.c a63) (.c (.int .i64 70)) 1) h64 fun a65 h66=>ab PP (.ld (.c (.ptr n7 0 0)) 11 true) h66 fun a67 h68 =>
   ab PP (.st (.c (.ptr n13 0 0)) (.c a67) 11) h68 fun a69 h70=>ab PP (.ld (.c (.ptr n13 0 0)) 11 true) h70 fun a71 _=>KH a71 h70:=by
  intro hnone
  simp only[↓ba (B8.used 4 rfl),Nat.zero_add,true_and]
  rw[HH (cs:=dY it dR dL dE dm 0) (B8.get 4 rfl) (by simp) rfl,Pj]
  have x9:=x8.av (B8.rn 4 rfl) (.box (.agg (dY it dR dL dE dm 70)))
  have B9:=B8.av 4 rfl (.agg (dY it dR dL dE dm 70))
  generalize ah h8 n7 (.box (.agg (dY it dR dL dE dm 70)))=h9 at x9 B9
  rw[Al (cs:=dY it dR dL dE dm 70) (B9.get 4 rfl) rfl,lf (s:=11) (cs:=tA) (cs':=dY it dR dL dE dm 70) (B9.get 1 rfl) rfl rfl (x8.dF it 70),Al (cs:=dY it dR dL dE dm 70) (ad _ _ _) rfl]
  have B10:=B9.av 1 rfl (.agg (dY it dR dL dE dm 70))
  exact hN _ ro6 hnone B10.fr (x9.av (B9.rn 1 rfl) _)
 have iN:¬(0<=aX st.regs xi.a/\aX st.regs xi.a<ir c k)->cH c l it.id xi e st=none:=by
  intro hout
  unfold cH
  rcases hop with h7|h8|h9
  ·rw[if_pos h7,k1];exact if_neg hout
  ·rw[if_neg (by omega),if_pos h8,k1];exact if_neg hout
  ·rw[if_neg (by omega),if_neg (by omega),if_pos h9,k1];exact if_neg hout
 by_cases h0:aX st.regs xi.a<0
 ·simp only[h0,decide_true,↓gS,↓dh]
  exact out (iN (by omega))
 simp only[h0,decide_false,↓G3,↓ba (B8.used 0 rfl),Nat.zero_add,l3 (B8.get 0 rfl),↓iz,true_and,↓gP]
 by_cases h1':r.len<=aX st.regs xi.a
 ·simp only[h1',decide_true,↓af]
  exact out (iN (by omega))
 simp only[h1',decide_false,↓ae]
 clear out iN
 have hin:0<=aX st.regs xi.a/\aX st.regs xi.a<ir c k:=⟨by omega,by omega⟩
 obtain⟨i,hi⟩:∃i:Nat,aX st.regs xi.a=(i:Int):=⟨(aX st.regs xi.a).toNat,by omega⟩
 have iS:cH c l it.id xi e st=if xi.op=7 then some ((st.tell c (Od e xi (aX st.regs xi.a) (st.word (bh c k) k i))).ox xi.d.n.toNat (st.word (bh c k) k i))
   else if xi.op=8 then some ((st.put (bh c k) k i (aX st.regs xi.b)).tell c (At e xi (aX st.regs xi.a) (aX st.regs xi.b)))
   else some ((st.put (bh c k) k i (jZ xi.sub (st.word (bh c k) k i) (aX st.regs xi.b))).tell c (LD e xi (aX st.regs xi.a) (aX st.regs xi.b))):=by
  unfold cH
  rcases hop with h7|h8|h9
  ·rw[if_pos h7,if_pos h7,k1,Int.toNat_natCast,if_pos hin,hi];rfl
  ·rw[if_neg (by omega),if_pos h8,k1,Int.toNat_natCast,if_pos hin,if_neg (by omega),if_pos h8,hi];rfl
  ·rw[if_neg (by omega),if_neg (by omega),if_pos h9,k1,Int.toNat_natCast,if_pos hin,if_neg (by omega),if_neg (by omega),hi];rfl
 have d11:∀{g:Heap}{K:D->Prop}{dE':D},g n7=.box (.agg (dY it dR dL dE' dm 0))->aq PP (.ld (.c (.ptr n7 0 0)) 11 true) g K=K (.agg (dY it dR dL dE' dm 0)):=fun {g K dE'} hg=>by rw[bL,Al hg rfl]
 have h11:∀{g:Heap}{K:HK}{dE':D},g n7=.box (.agg (dY it dR dL dE' dm 0))->ab PP (.ld (.c (.ptr n7 0 0)) 11 true) g K=K (.agg (dY it dR dL dE' dm 0)) g:=fun {g K dE'} hg=>Al hg rfl
 have d4:∀{g:Heap}{K:D->Prop},g n27=.box r.e->aq PP (.ld (.c (.ptr n27 0 0)) 4 true) g K=K r.e:=fun {g K} hg=>by rw[bL];exact db (cs:=[.str r.name,.int .i64 r.space,.int .i64 r.type,.int .i64 r.len]) hg
 have h4':∀{g:Heap}{K:HK},g n27=.box r.e->ab PP (.ld (.c (.ptr n27 0 0)) 4 true) g K=K r.e g:=fun {g K} hg=>db (cs:=[.str r.name,.int .i64 r.space,.int .i64 r.type,.int .i64 r.len]) hg
 have dx:∀{g:Heap}{K:D->Prop}{j:Nat}{d:D},g n9=.box xi.e->xi.cs[j]?=some d->aq PP (.ld (.c (.ptr n9 0 j)) 1 false) g K=K d:=fun {g K j d} hg hj=>OW (cs:=xi.cs) hg hj
 have hx1:∀{g:Heap}{K:HK}{j:Nat}{d:D},g n9=.box xi.e->xi.cs[j]?=some d->ab PP (.ld (.c (.ptr n9 0 j)) 1 false) g K=K d g:=fun {g K j d} hg hj=>eR (cs:=xi.cs) hg hj
 simp only[↓aE,B8.used 4 rfl,B8.used 3 rfl,Nat.zero_add,s7d (B8.get 4 rfl),↓i3d (B8.get 3 rfl) (j:=9) (by omega),d11 (B8.get 4 rfl),d4 (B8.get 0 rfl),dx (B8.get 3 rfl) (j:=2) rfl,true_and]
 refine zL x8 (o:=xi.b) (by rw[hw.len];exact ob) fun h9 e9 x9=>?_
 have B9:=B8.step (Fr.ext (ro:=ro6) e9)
 clear x8 B8 e9
 simp only[↓aE,B9.used 4 rfl,B9.used 3 rfl,Nat.zero_add,d11 (B9.get 4 rfl),d4 (B9.get 0 rfl),dx (B9.get 3 rfl) (j:=2) rfl,ai,true_and,and_true]
 rw[k1,hi]
 refine Tt x9 hc hw k2 hr (by rw[<- hi];exact hin.2) fun h10 e10=>?_
 have x10:=x9.ext e10
 have B10:=B9.step (Fr.ext (ro:=ro6) e10)
 clear x9 B9 e10
 simp only[↓ba (B10.used 2 rfl),Nat.zero_add,true_and]
 refine B10.ev 2 (e:=e) (e':={ e with kind:=2 }) rfl rfl rfl (by omega) fun B11=>?_
 have x11:=x10.av (B10.rn 2 rfl) (.box ({ e with kind:=2 }:Ev).e)
 generalize ah h10 n11 (.box ({ e with kind:=2 }:Ev).e)=h11x at x11 B11
 simp only[List.set_cons_zero,List.set_cons_succ]at B11
 clear x10 B10
 simp only[↓ba (B11.used 2 rfl),↓ba (B11.used 3 rfl),Nat.zero_add,hx1 (B11.get 3 rfl) (j:=2) rfl,true_and]
 refine B11.ev 2 (e:={ e with kind:=2 }) (e':={ e with kind:=2,arr:=xi.n }) rfl rfl rfl (by omega) fun B12=>?_
 have x12:=x11.av (B11.rn 2 rfl) (.box ({ e with kind:=2,arr:=xi.n }:Ev).e)
 generalize ah h11x n11 (.box ({ e with kind:=2,arr:=xi.n }:Ev).e)=h12 at x12 B12
 simp only[List.set_cons_zero,List.set_cons_succ]at B12
 clear x11 B11
 simp only[↓ba (B12.used 2 rfl),Nat.zero_add,true_and]
 refine B12.ev 2 (e:={ e with kind:=2,arr:=xi.n }) (e':={ e with kind:=2,arr:=xi.n,i:=(i:Int) }) rfl rfl rfl (by omega) fun B13=>?_
 have x13:=x12.av (B12.rn 2 rfl) (.box ({ e with kind:=2,arr:=xi.n,i:=(i:Int) }:Ev).e)
 generalize ah h12 n11 (.box ({ e with kind:=2,arr:=xi.n,i:=(i:Int) }:Ev).e)=h13 at x13 B13
 simp only[List.set_cons_zero,List.set_cons_succ]at B13
 clear x12 B12
 simp only[↓ba (B13.used 2 rfl),Nat.zero_add,true_and]
 refine B13.ev 2 (e:={ e with kind:=2,arr:=xi.n,i:=(i:Int) }) (e':=At e xi (i:Int) (aX st.regs xi.b)) rfl rfl rfl (by omega) fun B14=>?_
 have x14:=x13.av (B13.rn 2 rfl) (.box (At e xi (i:Int) (aX st.regs xi.b)).e)
 generalize ah h13 n11 (.box (At e xi (i:Int) (aX st.regs xi.b)).e)=h14 at x14 B14
 simp only[List.set_cons_zero,List.set_cons_succ]at B14
 clear x13 B13
 rw[hi]at iS
 have wI:gM (st.word (bh c k) k i):=St.qG hw (fQ hc k2) hc _
 obtain⟨Bx,hBx⟩:∃Bx:Heap->Ro->Ev->D->Prop,Bx=fun g ro' e' dE'=>bH h ro g ro' [(n27,r.e),(n13,.agg tA),(n11,e'.e),(n9,xi.e),(n7,.agg (dY it dR dL dE' dm 0)),(n5,c.e)]:=⟨_,rfl⟩
 refine⟨fun _ g=>∃ro' s1 e1,Bx g ro' e1 dE/\kj g ro' dR dE dL dm s1/\(xi.op=7->s1=st.ox xi.d.n.toNat (st.word (bh c k) k i)/\e1=Od e xi i (st.word (bh c k) k i))/\(xi.op≠7->s1=st/\e1=At e xi i (aX st.regs xi.b)),?_,?_⟩
 ·rintro _ g1 ⟨ro1',s1,e1,Y1,y1,p7,pn7⟩
  refine⟨fun _ g=>∃ro' s1 e1,Bx g ro' e1 dE/\kj g ro' dR dE dL dm s1/\(xi.op=7->s1=st.ox xi.d.n.toNat (st.word (bh c k) k i)/\e1=Od e xi i (st.word (bh c k) k i))/\(xi.op=8->s1=st.put (bh c k) k i (aX st.regs xi.b)/\e1=At e xi i (aX st.regs xi.b))/\(xi.op=9->s1=st/\e1=At e xi i (aX st.regs xi.b)),?_,?_⟩
  ·rintro _ g2 ⟨ro2',s2,e2,Y2,y2,q7,q8,q9⟩
   refine⟨fun _ g=>∃ro' s1 e1,Bx g ro' e1 dE/\kj g ro' dR dE dL dm s1/\cH c l it.id xi e st=some (s1.tell c e1)/\e1.kind≠4/\e1.arr=xi.n/\s1.ev=st.ev,?_,?_⟩
   ·rintro _ g3 ⟨ro3',s3,e3,Y3,y3,i3',kd3,ar3,ev3⟩
    rw[hBx]at Y3
    refine⟨fun _ g=>∃ro' dE' st',Bx g ro' e3 dE'/\kj g ro' dR dE' dL dm st'/\cH c l it.id xi e st=some st',?_,?_⟩
    ·rintro _ g4 ⟨ro4',dE4,st4,Y4,y4,i4⟩
     rw[hBx]at Y4
     rw[h11 (Y4.get 4 rfl),lf (s:=11) (cs:=tA) (cs':=dY it dR dL dE4 dm 0) (Y4.get 1 rfl) rfl rfl (y4.dF it 0),Al (cs:=dY it dR dL dE4 dm 0) (ad _ _ _) rfl]
     exact hK st4 _ ro4' dE4 i4 (Y4.av 1 rfl (.agg (dY it dR dL dE4 dm 0))).fr (y4.av (Y4.rn 1 rfl) _)
    ·have l1:∀{g:Heap}{K:HK},g n27=.box r.e->ab PP (.ld (.c (.ptr n27 0 1)) 1 false) g K=K (.int .i64 r.space) g:=fun {g K} hg=>eR (cs:=[.str r.name,.int .i64 r.space,.int .i64 r.type,.int .i64 r.len]) hg rfl
     simp only[↓ba (Y3.used 0 rfl),Nat.zero_add,l1 (Y3.get 0 rfl),↓cq,true_and]
     have hsp:(bh c e3.arr.toNat=3)↔r.space=3:=by
      rw[ar3,k1,Int.toNat_natCast,iV hr]
      rcases hro.1 with h|h|h<;>rw[h]<;>simp
     by_cases h3s:r.space=3
     ·simp only[h3s,decide_true,Bool.not_true,↓ae,ai,true_and]
      refine⟨ro3',dE,s3,by rw[hBx];exact Y3,y3,?_⟩
      rw[i3']
      simp only[St.tell]
      rw[if_pos ⟨kd3,hsp.2 h3s⟩]
     ·have l9:∀{g:Heap}{K:HK},g n11=.box e3.e->ab PP (.ld (.c (.ptr n11 0 0)) 9 true) g K=K e3.e g:=fun {g K} hg=>db (cs:=e3.cs) hg
      simp only[h3s,decide_false,Bool.not_false,↓af,↓ba (Y3.used 4 rfl),Nat.zero_add,↓eR (cs:=dY it dR dL dE dm 0) (Y3.get 4 rfl) (j:=9) rfl,l9 (Y3.get 2 rfl),true_and]
      refine Oc y3.ev (by rw[ev3];omega) fun dE' g4 ro4' F4 K4 E4=>?_
      have Y4:=Y3.step F4
      have y4:kj g4 ro4' dR dE' dL dm { s3 with ev:=s3.ev++[e3] }:=⟨y3.regs.dj K4 (by simp),fun s a b=>(y3.mem s a b).dj K4 (by simp) (by simp),E4,y3.sl.dj K4 (by simp)⟩
      simp only[↓ba (Y4.used 4 rfl),Nat.zero_add,true_and]
      have oE:=E4.one
      rw[HH (cs:=dY it dR dL dE dm 0) (Y4.get 4 rfl) (by simp) oE]
      have es:(dY it dR dL dE dm 0).set 9 dE'=dY it dR dL dE' dm 0:=rfl
      rw[es]
      refine⟨ro4',dE',_,?_,y4.av (Y4.rn 4 rfl) _,?_⟩
      ·rw[hBx];exact Y4.av 4 rfl (.agg (dY it dR dL dE' dm 0))
      ·rw[i3']
       simp only[St.tell]
       rw[if_neg (fun hh=>h3s (hsp.1 hh.2))]
   ·rw[hBx]at Y2
    simp only[↓ba (Y2.used 3 rfl),Nat.zero_add,hx1 (Y2.get 3 rfl) (j:=0) rfl,↓aM,true_and]
    by_cases h9:xi.op=9
    ·obtain⟨rfl,rfl⟩:=q9 h9
     have hs9:=hx.IG h9
     simp only[h9,decide_true,↓af,↓ba (Y2.used 2 rfl),Nat.zero_add,true_and]
     refine Y2.ev 2 (e:=At e xi i (aX s2.regs xi.b)) (e':={ (At e xi i (aX s2.regs xi.b)) with kind:=3 }) rfl rfl rfl (by omega) fun Y3=>?_
     have y3:=y2.av (Y2.rn 2 rfl) (.box ({ (At e xi i (aX s2.regs xi.b)) with kind:=3 }:Ev).e)
     generalize ah g2 n11 (.box ({ (At e xi i (aX s2.regs xi.b)) with kind:=3 }:Ev).e)=g3 at y3 Y3
     simp only[List.set_cons_zero,List.set_cons_succ]at Y3
     simp only[↓ba (Y3.used 2 rfl),↓ba (Y3.used 3 rfl),Nat.zero_add,hx1 (Y3.get 3 rfl) (j:=1) rfl,true_and]
     refine Y3.ev 2 (e:={ (At e xi i (aX s2.regs xi.b)) with kind:=3 }) (e':=LD e xi i (aX s2.regs xi.b)) rfl rfl rfl (by omega) fun Y4=>?_
     have y4:=y3.av (Y3.rn 2 rfl) (.box (LD e xi i (aX s2.regs xi.b)).e)
     generalize ah g3 n11 (.box (LD e xi i (aX s2.regs xi.b)).e)=g4 at y4 Y4
     simp only[List.set_cons_zero,List.set_cons_succ]at Y4
     simp only[↓aE,Y4.used 3 rfl,Nat.zero_add,d11 (Y4.get 4 rfl),d4 (Y4.get 0 rfl),dx (Y4.get 3 rfl) (j:=2) rfl,dx (Y4.get 3 rfl) (j:=1) rfl,true_and]
     refine bE (Kd hs9 wI (jx hw.regs (k4 (by omega)))) (dF rfl) ?_
     rintro _ rfl
     have fl:∀{v e:Int}{g:Heap}{K:D->Prop},aq PP (.fld (.c (nG v e)) 0 1 false) g K=K (.int .i32 v):=fun {v e g K}=>rfl
     simp only[↓aE,Y4.used 3 rfl,Nat.zero_add,d11 (Y4.get 4 rfl),d4 (Y4.get 0 rfl),dx (Y4.get 3 rfl) (j:=2) rfl,ai,true_and,and_true,fl]
     rw[k1]
     refine QM y4 hc hw k2 hr (by rw[<- hi];exact hin.2) fun g5 F5 y5=>?_
     refine⟨ro2',_,_,by rw[hBx];exact Y4.step F5,y5,?_,by simp[LD],k1,rfl⟩
     rw[iS,if_neg (by omega),if_neg (by omega)]
    ·simp only[h9,decide_false,↓ae,ai,true_and]
     refine⟨ro2',s2,e2,by rw[hBx];exact Y2,y2,?_⟩
     rcases hop with h7|h8|h9'
     ·obtain⟨rfl,rfl⟩:=q7 h7
      exact⟨by rw[iS,if_pos h7];rfl,by simp[Od],rfl,rfl⟩
     ·obtain⟨rfl,rfl⟩:=q8 h8
      exact⟨by rw[iS,if_neg (by omega),if_pos h8],by simp[At],rfl,rfl⟩
     ·exact absurd h9' h9
  ·rw[hBx]at Y1
   simp only[↓ba (Y1.used 3 rfl),Nat.zero_add,hx1 (Y1.get 3 rfl) (j:=0) rfl,↓aM,true_and]
   by_cases h8:xi.op=8
   ·obtain⟨rfl,rfl⟩:=pn7 (by omega)
    simp only[h8,decide_true,↓af,h11 (Y1.get 4 rfl),h4' (Y1.get 0 rfl),↓ba (Y1.used 3 rfl),Nat.zero_add,hx1 (Y1.get 3 rfl) (j:=2) rfl,true_and]
    rw[k1]
    refine QM y1 hc hw k2 hr (by rw[<- hi];exact hin.2) fun g2 F2 y2=>?_
    exact⟨ro1',_,_,by rw[hBx];exact Y1.step F2,y2,fun h=>by omega,fun _=>⟨rfl,rfl⟩,fun h=>by omega⟩
   ·simp only[h8,decide_false,↓ae,ai,true_and]
    exact⟨ro1',s1,e1,by rw[hBx];exact Y1,y1,p7,fun h=>h.elim,fun h=>pn7 (by omega)⟩
 ·simp only[↓ba (B14.used 3 rfl),Nat.zero_add,hx1 (B14.get 3 rfl) (j:=0) rfl,↓aM,true_and]
  by_cases h7:xi.op=7
  ·simp only[h7,decide_true,↓af,↓ba (B14.used 2 rfl),Nat.zero_add,true_and]
   refine B14.ev 2 (e:=At e xi i (aX st.regs xi.b)) (e':={ (At e xi i (aX st.regs xi.b)) with kind:=1 }) rfl rfl rfl (by omega) fun Y3=>?_
   have y3:=x14.av (B14.rn 2 rfl) (.box ({ (At e xi i (aX st.regs xi.b)) with kind:=1 }:Ev).e)
   generalize ah h14 n11 (.box ({ (At e xi i (aX st.regs xi.b)) with kind:=1 }:Ev).e)=g3 at y3 Y3
   simp only[List.set_cons_zero,List.set_cons_succ]at Y3
   simp only[↓ba (Y3.used 2 rfl),Nat.zero_add,true_and]
   refine Y3.ev 2 (e:={ (At e xi i (aX st.regs xi.b)) with kind:=1 }) (e':=Od e xi i (st.word (bh c k) k i)) rfl rfl rfl (by omega) fun Y4=>?_
   have y4:=y3.av (Y3.rn 2 rfl) (.box (Od e xi i (st.word (bh c k) k i)).e)
   generalize ah g3 n11 (.box (Od e xi i (st.word (bh c k) k i)).e)=g4 at y4 Y4
   simp only[List.set_cons_zero,List.set_cons_succ]at Y4
   obtain⟨q,q0,q1,hd⟩:=hx.ox (by omega)
   obtain⟨j,rfl⟩:∃j:Nat,q=(j:Int):=⟨q.toNat,by omega⟩
   have hdn:xi.cs[4]?=some (.int .i64 (j:Int)):=by simp[aN.cs,hd,fX]
   have e6:xi.d.n.toNat=j:=by rw[hd];rfl
   simp only[↓ba (Y4.used 4 rfl),↓ba (Y4.used 3 rfl),Nat.zero_add,Nat.reduceAdd,↓eR (cs:=dY it dR dL dE dm 0) (Y4.get 4 rfl) (j:=4) rfl,hx1 (Y4.get 3 rfl) hdn,true_and]
   refine y4.J8 (by have:=hw.len;omega) fun g5 F5 y5=>?_
   refine⟨ro6,_,_,by rw[hBx];exact Y4.step F5,y5,fun _=>⟨by rw[e6],rfl⟩,fun h=>absurd rfl h⟩
  ·simp only[h7,decide_false,↓ae,ai,true_and]
   exact⟨ro6,st,_,by rw[hBx];exact B14,x14,fun h=>h.elim,fun _=>⟨rfl,rfl⟩⟩
end
end Go.Am
namespace Go.Am
open Go
section
variable {h:Heap}{ro:Ro}{dR dE dL:D}{dm:Nat->D}{st:St}
theorem FR (x:kj h ro dR dE dL dm st){c:Code}{l:dk}{it:It}(hc:bj c) (hl:js c l) (hid:0<=it.id/\it.id<l.groups*c.group) (hw:qA c st) (hev:st.ev.length<=900000){xi:aN}(hx:lP c xi){e:Ev}{KH:HK}
  (hK:∀st' h' ro' dE',cH c l it.id xi e st=some st'->Fr ro h ro' h'->kj h' ro' dR dE' dL dm st'->KH (.agg (dY it dR dL dE' dm 0)) h')
  (hN:∀h' ro',cH c l it.id xi e st=none->Fr ro h ro' h'->kj h' ro' dR dE dL dm st->KH (.agg (dY it dR dL dE dm 70)) h') :
  ag PP gT [c.e,l.e,.agg (dY it dR dL dE dm 0),xi.e,e.e] h KH:=by
 refine aW pF (aA _ _ _) rfl (pA _ _ _ _ _ _) ?_
 (unfold kx;try dsimp only[xL,yL,xF,yF,xI,yI,xS,zI,zJ])
 have B0:bH h ro h ro []:=bH.nil
 rw[cJ]
 refine⟨(jG c).2,fun n6 t=>?_⟩
 have x1:=x.new t.free (.box c.e)
 have B1:=B0.push t.free c.e
 generalize ah h n6 (.box c.e)=h1 at x1 B1
 generalize ah ro n6 .no=ro1 at x1 B1
 rw[cJ]
 refine⟨List.all_eq_true.1 (dk.on l),fun n8 t=>?_⟩
 have x2:=x1.new t.free (.box l.e)
 have B2:=B1.push t.free l.e
 generalize ah h1 n8 (.box l.e)=h2 at x2 B2
 generalize ah ro1 n8 .no=ro2 at x2 B2
 rw[cJ]
 refine⟨x2.dF it 0,fun n10 t=>?_⟩
 have x3:=x2.new t.free (.box (.agg (dY it dR dL dE dm 0)))
 have B3:=B2.push t.free (.agg (dY it dR dL dE dm 0))
 generalize ah h2 n10 (.box (.agg (dY it dR dL dE dm 0)))=h3 at x3 B3
 generalize ah ro2 n10 .no=ro3 at x3 B3
 rw[cJ]
 refine⟨xi.bZ.one,fun n12 t=>?_⟩
 have x4:=x3.new t.free (.box xi.e)
 have B4:=B3.push t.free xi.e
 generalize ah h3 n12 (.box xi.e)=h4 at x4 B4
 generalize ah ro3 n12 .no=ro4 at x4 B4
 rw[cJ]
 refine⟨e.bZ.one,fun n14 t=>?_⟩
 have x5:=x4.new t.free (.box e.e)
 have B5:=B4.push t.free e.e
 generalize ah h4 n14 (.box e.e)=h5 at x5 B5
 generalize ah ro4 n14 .no=ro5 at x5 B5
 rw[bQ]
 intro n16 t
 have x6:=x5.new t.free (.box (.agg tA))
 have B6:=B5.push t.free (.agg tA)
 generalize ah h5 n16 (.box (.agg tA))=h6 at x6 B6
 generalize ah ro5 n16 .no=ro6 at x6 B6
 clear x1 x2 x3 x4 x5 B0 B1 B2 B3 B4 B5
 have h8:∀{g:Heap}{K:HK},g n6=.box c.e->ab PP (.ld (.c (.ptr n6 0 0)) 8 true) g K=K c.e g:=fun {g K} hg=>db hg
 have d8:∀{g:Heap}{K:D->Prop},g n6=.box c.e->aq PP (.ld (.c (.ptr n6 0 0)) 8 true) g K=K c.e:=fun {g K} hg=>by rw[bL];exact db hg
 have d2:∀{g:Heap}{K:D->Prop},g n8=.box l.e->aq PP (.ld (.c (.ptr n8 0 0)) 2 true) g K=K l.e:=fun {g K} hg=>by rw[bL];exact db hg
 have h11:∀{g:Heap}{K:HK}{dE':D},g n10=.box (.agg (dY it dR dL dE' dm 0))->ab PP (.ld (.c (.ptr n10 0 0)) 11 true) g K=K (.agg (dY it dR dL dE' dm 0)) g:=fun {g K dE'} hg=>Al hg rfl
 have d7:∀{g:Heap}{K:D->Prop},g n10=.box (.agg (dY it dR dL dE dm 0))->aq PP (.ld (.c (.ptr n10 0 0)) 7 true) g K=K (rE it dR (dm 3) dL):=fun {g K} hg=>by rw[bL,rD hg (by simp)];rfl
 have h15:∀{g:Heap}{K:HK},g n12=.box xi.e->ab PP (.ld (.c (.ptr n12 0 0)) 15 true) g K=K xi.e g:=fun {g K} hg=>db hg
 have d15:∀{g:Heap}{K:D->Prop},g n12=.box xi.e->aq PP (.ld (.c (.ptr n12 0 0)) 15 true) g K=K xi.e:=fun {g K} hg=>by rw[bL];exact db hg
 have hx1:∀{g:Heap}{K:HK}{j:Nat}{d:D},g n12=.box xi.e->xi.cs[j]?=some d->ab PP (.ld (.c (.ptr n12 0 j)) 1 false) g K=K d g:=fun {g K j d} hg hj=>eR (cs:=xi.cs) hg hj
 have dx1:∀{g:Heap}{K:D->Prop}{j:Nat}{d:D},g n12=.box xi.e->xi.cs[j]?=some d->aq PP (.ld (.c (.ptr n12 0 j)) 1 false) g K=K d:=fun {g K j d} hg hj=>cj (cs:=xi.cs) hg hj
 have h9:∀{g:Heap}{K:HK}{e':Ev},g n14=.box e'.e->ab PP (.ld (.c (.ptr n14 0 0)) 9 true) g K=K e'.e g:=fun {g K e'} hg=>db (cs:=e'.cs) hg
 have fin:∀{g:Heap}{ro':Ro}{dE':D}{e':Ev}{n:Int}{st':St},bH h ro g ro' [(n16,.agg tA),(n14,e'.e),(n12,xi.e),(n10,.agg (dY it dR dL dE' dm 0)),(n8,l.e),(n6,c.e)]->kj g ro' dR dE' dL dm st'->(∀h' ro',Fr ro h ro' h'->kj h' ro' dR dE' dL dm st'->KH (.agg (dY it dR dL dE' dm n)) h') ->
   ab PP (.st (.c (.ptr n16 0 0)) (.c (.agg (dY it dR dL dE' dm n))) 11) g fun _ h'=>ab PP (.ld (.c (.ptr n16 0 0)) 11 true) h' fun a _=>KH a h':=by
  intro g ro' dE' e' n st' Y y k
  rw[lf (s:=11) (cs:=tA) (cs':=dY it dR dL dE' dm n) (Y.get 0 rfl) rfl rfl (y.dF it n),Al (cs:=dY it dR dL dE' dm n) (ad _ _ _) rfl]
  exact k _ ro' (Y.av 0 rfl (.agg (dY it dR dL dE' dm n))).fr (y.av (Y.rn 0 rfl) _)
 simp only[↓ba (B6.used 2 rfl),Nat.zero_add,hx1 (B6.get 2 rfl) (j:=0) rfl,true_and]
 refine⟨fun qs g=>qs=[.bool (decide (xi.op=7\/xi.op=8\/xi.op=9))]/\g=h6,?_,?_⟩
 ·rintro f g ⟨hf,rfl⟩
  simp only[List.cons.injEq,and_true]at hf
  rw[hf]
  by_cases hop:xi.op=7\/xi.op=8\/xi.op=9
  ·simp only[hop,decide_true,↓af,h8 (B6.get 5 rfl),h11 (B6.get 3 rfl),h15 (B6.get 2 rfl),h9 (B6.get 1 rfl)]
   refine MU (l:=l) x6 hc hw hev hx hop (fun st' h' ro' dE' hst F y=>?_) (fun h' ro' hst F y=>?_)
   ·have Y:=B6.step F
    rw[lf (s:=11) (cs:=tA) (cs':=dY it dR dL dE' dm 0) (Y.get 0 rfl) rfl rfl (y.dF it 0),Al (cs:=dY it dR dL dE' dm 0) (ad _ _ _) rfl]
    exact hK st' _ ro' dE' hst (Y.av 0 rfl (.agg (dY it dR dL dE' dm 0))).fr (y.av (Y.rn 0 rfl) _)
   ·have Y:=B6.step F
    exact fin Y y fun h'' ro'' F' y'=>hN h'' ro'' hst F' y'
  simp only[hop,decide_false,↓ae,↓aM]
  by_cases h10:xi.op=10
  ·simp only[h10,decide_true,↓af,↓ba (B6.used 1 rfl),Nat.zero_add,true_and]
   refine B6.ev 1 (e:=e) (e':={ e with kind:=4 }) rfl rfl rfl (by omega) fun B7=>?_
   have x7:=x6.av (B6.rn 1 rfl) (.box ({ e with kind:=4 }:Ev).e)
   generalize ah g n14 (.box ({ e with kind:=4 }:Ev).e)=h7 at x7 B7
   simp only[List.set_cons_zero,List.set_cons_succ]at B7
   simp only[↓ba (B7.used 2 rfl),↓ba (B7.used 1 rfl),Nat.zero_add,hx1 (B7.get 2 rfl) (j:=1) rfl,true_and]
   refine B7.ev 1 (e:={ e with kind:=4 }) (e':=Ir e xi) rfl rfl rfl (by omega) fun B8=>?_
   have x8:=x7.av (B7.rn 1 rfl) (.box (Ir e xi).e)
   generalize ah h7 n14 (.box (Ir e xi).e)=h8x at x8 B8
   simp only[List.set_cons_zero,List.set_cons_succ]at B8
   simp only[↓ba (B8.used 3 rfl),Nat.zero_add,↓eR (cs:=dY it dR dL dE dm 0) (B8.get 3 rfl) (j:=9) rfl,h9 (B8.get 1 rfl),true_and]
   refine Oc x8.ev (by omega) fun dE' g4 ro4' F4 K4 E4=>?_
   have Y4:=B8.step F4
   have y4:kj g4 ro4' dR dE' dL dm { st with ev:=st.ev++[Ir e xi] }:=⟨x8.regs.dj K4 (by simp),fun s a b=>(x8.mem s a b).dj K4 (by simp) (by simp),E4,x8.sl.dj K4 (by simp)⟩
   simp only[↓ba (Y4.used 3 rfl),Nat.zero_add,true_and]
   rw[HH (cs:=dY it dR dL dE dm 0) (Y4.get 3 rfl) (by simp) E4.one]
   have es:(dY it dR dL dE dm 0).set 9 dE'=dY it dR dL dE' dm 0:=rfl
   rw[es]
   have Y5:=Y4.av 3 rfl (.agg (dY it dR dL dE' dm 0))
   have y5:=y4.av (Y4.rn 3 rfl) (.box (.agg (dY it dR dL dE' dm 0)))
   generalize ah g4 n10 (.box (.agg (dY it dR dL dE' dm 0)))=g5 at Y5 y5
   simp only[List.set_cons_zero,List.set_cons_succ]at Y5
   rw[h11 (Y5.get 3 rfl)]
   refine fin Y5 y5 fun h'' ro'' F' y'=>hK _ h'' ro'' dE' ?_ F' y'
   unfold cH
   rw[if_neg (by omega),if_neg (by omega),if_neg (by omega),if_pos h10]
   simp[St.tell,Ir]
  ·have h6o:xi.op<=6:=by have:=hx.Tx;omega
   obtain⟨q,q0,q1,hd⟩:=hx.ox (by omega)
   obtain⟨j,rfl⟩:∃j:Nat,q=(j:Int):=⟨q.toNat,by omega⟩
   have hdn:xi.cs[4]?=some (.int .i64 (j:Int)):=by simp[aN.cs,hd,fX]
   have e6:xi.d.n.toNat=j:=by rw[hd];rfl
   simp only[h10,decide_false,↓ae,show ¬xi.op=12 by omega,↓aE,B6.used 3 rfl,B6.used 2 rfl,Nat.zero_add,Nat.reduceAdd,↓cj (cs:=dY it dR dL dE dm 0) (B6.get 3 rfl) (j:=4) rfl,dx1 (B6.get 2 rfl) hdn,d8 (B6.get 5 rfl),d2 (B6.get 4 rfl),d7 (B6.get 3 rfl),d15 (B6.get 2 rfl),true_and]
   refine MR x6 hc hl hid hw hx h6o fun h7 e7=>?_
   have x7:=x6.ext e7
   have B7:=B6.step (Fr.ext (ro:=ro6) e7)
   simp only[↓aE,B7.used 3 rfl,B7.used 2 rfl,Nat.zero_add,Nat.reduceAdd,↓cj (cs:=dY it dR dL dE dm 0) (B7.get 3 rfl) (j:=4) rfl,dx1 (B7.get 2 rfl) hdn,ai,true_and,and_true]
   rw[fh]
   have rs:=x7.J8 (i:=j) (v:=gr c l it.id xi st.regs) (by have:=hw.len;omega) (KH:=fun _ h8=>ab PP (.ld (.c (.ptr n10 0 0)) 11 true) h8 fun a h9=>ab PP (.st (.c (.ptr n16 0 0)) (.c a) 11) h9 fun _ h10=>ab PP (.ld (.c (.ptr n16 0 0)) 11 true) h10 fun b _=>KH b h10) fun h8 F8 x8=>?_
   ·obtain⟨q,rfl,g2,g3⟩:=x7.regs
    rw[bF]at rs ⊢
    exact rs
   ·have B8:=B7.step F8
    rw[h11 (B8.get 3 rfl)]
    refine fin B8 x8 fun h'' ro'' F' y'=>hK _ h'' ro'' dE ?_ F' y'
    unfold cH
    rw[if_neg (by omega),if_neg (by omega),if_neg (by omega),if_neg (by omega),e6]
 ·by_cases h7:xi.op=7
  ·simp only[↓aM,h7,decide_true,↓af,ai,true_and]
   simp
  ·by_cases h8':xi.op=8
   ·simp only[↓aM,h7,h8',Int.reduceEq,decide_true,decide_false,↓af,↓ae,ai,true_and]
    simp
   ·simp only[↓aM,h7,h8',decide_false,↓ae,ai,true_and]
    simp
end
end Go.Am
namespace Go.Am
open Go
theorem KA {P:Program}{r:bO}{g:Heap}{K:HK}:ab P (.ld (.c (.vp r.e 0)) 4 true) g K=K r.e g:=by
 rw[gY,cn]
 have e1:(r.e.cells.drop 0).take 4=[.str r.name,.int .i64 r.space,.int .i64 r.type,.int .i64 r.len]:=rfl
 have e2:r.e.cells.length=4:=rfl
 rw[e1,e2];simp[bO.e]
theorem RI (n:Nat):List.replicate n (D.int .i32 0)=wr (List.replicate n 0):=by simp[wr]
theorem Kc {h:Heap}{ro:Ro}{c:Code}(hc:bj c) (sp:Int) (s:Nat){KH:HK}(hK:∀d h' ro',fw h ro h' ro'->iw h' ro' s d (iF c.arrays sp)->KH d h'):ag PP fC [.sl (c.arrays.map bO.e),.int .i64 sp] h KH:=by
 refine aW C8 (aA _ _ _) rfl (CO _ _ _) ?_
 (unfold xY;try dsimp only[xL,yL,xF,yF,xI,yI,xS,zI,zJ])
 obtain⟨m,hm⟩:∃m:Mm,m=iF c.arrays sp:=⟨_,rfl⟩
 have hml:m.length=c.arrays.length:=by rw[hm];simp[iF]
 have hna:=hc.nar
 rw[<- hm]at hK
 refine m6 fun n0 t0=>?_
 refine⟨fun qs h'=>∃d ro',qs=[d]/\fw h ro h' ro'/\iw h' ro' s d m,?_,?_⟩
 ·rintro f h' ⟨d,ro',hf,x,y⟩
  simp only[List.cons.injEq,and_true]at hf
  rw[hf];exact hK d h' ro' x y
 (unfold pM;try dsimp only[xL,yL,xF,yF,xI,yI,xS,zI,zJ])
 refine⟨fun k qs h'=>∃(i q:Nat) (els:List D) (ro':Ro),qs=[.ms q 0 i,.int .i64 (i:Int)]/\k+i=c.arrays.length/\fw h ro h' ro'/\h q=.free/\og h' ro' s (m.take i) q els/\C3 els,c.arrays.length,
  ⟨0,n0,[],ah ro n0 (.mem s),rfl,by omega,fw.new t0.free _ _,t0.free,⟨ad _ _ _,ad _ _ _,by simp,fun i e w he=>(by simp at he)⟩,C3.nil⟩,?_⟩
 rintro k f h' ⟨i,q,els,ro',hf,hki,x,hq,y,yo⟩
 simp only[List.cons.injEq,and_true]at hf
 obtain⟨hf1,hf2⟩:=hf
 rw[hf1,hf2,jf,List.length_map,bK]
 by_cases hi:i<c.arrays.length
 case neg =>
  simp only[show ¬((i:Int)<(c.arrays.length:Int)) by omega,decide_false,↓ae,ai,true_and]
  rw[List.take_of_length_le (by omega)]at y
  have:i=m.length:=by omega
  subst this
  exact⟨_,ro',rfl,x,q,els,rfl,y,yo⟩
 have ha:c.arrays[i]?=some c.arrays[i]:=List.getElem?_eq_getElem hi
 obtain⟨a,hae⟩:∃a,a=c.arrays[i]:=⟨_,rfl⟩
 rw[<- hae]at ha
 have hao:=hc.ar a (List.mem_of_getElem? ha)
 have hw:m[i]?=some (List.replicate (ni sp a) 0):=by rw[hm,iF,List.getElem?_map,ha];rfl
 have hz:a.sz sp=(ni sp a:Int)/\ni sp a<=8:=by
  have:=hao.2
  unfold bO.sz ni
  split<;>omega
 simp only[show((i:Int)<(c.arrays.length:Int)) by omega,decide_true,↓af,↓Aw ha,↓KA]
 refine bE (Pv a sp) (fun d hd=>?_) ?_
 ·simp only[List.mem_cons,List.not_mem_nil,or_false]at hd
  rcases hd with rfl|rfl
  ·exact bO.vd a
  ·exact jY
 rintro _ rfl
 rw[hz.1,P4]
 refine⟨by omega,by omega,by omega,by omega,fun n2 t2=>?_⟩
 have a2:ah h' n2 (.arr 1 (List.replicate ((ni sp a:Int)).toNat (D.int .i32 0))) n2=.arr 1 (wr (List.replicate (ni sp a) 0)):=by rw[ad,Int.toNat_natCast,RI]
 have f2:=t2.free
 have k2:∀k,h' k≠.free->ah h' n2 (.arr 1 (List.replicate ((ni sp a:Int)).toNat (D.int .i32 0))) k=h' k:=fun k hk=>aa _ _ (t2.ne hk)
 generalize ah h' n2 (.arr 1 (List.replicate ((ni sp a:Int)).toNat (D.int .i32 0)))=h2 at a2 k2
 have hel:els.length=i:=by have:=y.len;rw[List.length_take]at this;omega
 have hq2:h2 q=.arr 1 els:=by rw[k2 q (bU y.hk)];exact y.hk
 have app:=Gl (P:=PP) (esz:=1) (bytes:=24) (z:=.nil) (z':=.nil) (d:=.ms n2 0 (List.replicate (ni sp a) (0:Int)).length) (KH:=fun a23 h24=>vbin .add (.int .i64 (i:Int)) (.int .i64 1) fun a25 =>
  aG [.sl (c.arrays.map bO.e),.int .i64 sp] [.sl (c.arrays.map bO.e),.int .i64 sp]/\∃m',m'<k/\∃(i q:Nat) (els:List D) (ro':Ro),[a23,a25]=[.ms q 0 i,.int .i64 (i:Int)]/\m'+i=c.arrays.length/\fw h ro h24 ro'/\h q=.free/\og h24 ro' s (m.take i) q els/\C3 els)
  hq2 (by simp) rfl (by omega) (by omega) fun n4 h4 f4 a4 k4=>?_
 ·rw[hel]at app
  simp only[List.length_replicate]at app
  rw[Int.toNat_natCast]
  exact app
 ·obtain⟨e1,e2⟩:=xe (r2:=.row s (m.take i).length) (r4:=.mem s) x hq f2 k2 f4 k4
  have ym:=H3 y f2 a2 k2 f4 a4 k4
  rw[bp,GB (i:=i) (by omega)]
  refine⟨by simp,k-1,by omega,i+1,n4,els++[.ms n2 0 (List.replicate (ni sp a) (0:Int)).length],_,by rw[hel],by omega,e1,e2,?_,yo.snoc _ _⟩
  rw[List.take_add_one,hw]
  exact ym
theorem oe.out {h:Heap}{ro:Ro}{s:Nat}{d:D}{m:Mm}(x:oe h ro s d m):∃h'',Gy h h''/\wG h'' d (aR m):=by
 obtain⟨k,els,rfl,y⟩:=x
 obtain⟨p1,p2,-⟩:=y.Ko
 refine⟨eM h k 1 els,.step y.hk p1 (.refl _),?_⟩
 have:=dt (h:=eM h k 1 els) (n:=k) (e:=1) (els:=m.map words) (by rw[kZ,p2]) (fun z hz w hw=>by
  simp only[List.mem_map]at hz
  obtain⟨z,-,rfl⟩:=hz
  simp[words]at hw;subst hw;rfl)
 rw[List.length_map]at this
 exact this
theorem I9 {c:Code}(hc:bj c) (sp:Int):aF PP fC [.sl (c.arrays.map bO.e),.int .i64 sp] (· = aR (iF c.arrays sp)):=by
 refine fZ (Kc (ro:=fun _=>.no) hc sp 1 fun d h' ro' _ y=>?_)
 have ht:∀ds,d≠.tup ds:=by obtain⟨k,els,rfl,-⟩:=y;simp
 obtain⟨h'',i,z⟩:=y.r.out
 exact eh ht (by simp[aR]) i z.d rfl
section
variable {h:Heap}{ro:Ro}{dR dE dL:D}{dm:Nat->D}{st:St}
theorem G0 (x:kj h ro dR dE dL dm st) (it:It):∀d,d∈[D.int .i64 it.id,.int .i64 it.at_,.int .i64 it.block,.int .i64 it.epoch,dR,dm 3,dL]->d.one=true:=fun d hd=>by
 simp at hd
 have o3:=(x.mem 3 (by omega) (by omega)).one
 have oR:=x.regs.one
 have oL:=x.sl.one
 rcases hd with rfl|rfl|rfl|rfl|rfl|rfl|rfl<;>first|rfl|assumption
abbrev Ub:List D:=[(.int .i64 0),(.int .i64 0),(.int .i64 0),(.int .i64 0),(.int .i32 0),(.int .i64 0),(.int .i64 0),(.int .i32 0),(.int .i64 0),(.int .i64 0),(.int .i32 0),(.int .i64 0),(.int .i64 0)]
abbrev qt (it:It) (dR dP dL:D):List D:=[.int .i64 it.id,.int .i64 it.at_,.int .i64 it.block,.int .i64 it.epoch,dR,dP,dL]
theorem Ie {P:Program}{n i j l s:Nat}{k:IntKind}{a:Int}{h:Heap}{KH:HK}:ab P (.iadda (.c (.ptr n i j)) (.c (.int k a)) l s) h KH=(0<=a/\a<l/\(h n).live=true/\KH (.ptr n i (j+a.toNat*s)) h):=rfl
theorem H9 {P:Program}{n j i:Nat}{a:Int}{d:D}{h:Heap}(ha:a=(i:Int)) (hi:i<2) (hb:h n=.box d){KH:HK}:ab P (.iadda (.c (.ptr n 0 j)) (.c (.int .i64 a)) 2 1) h KH=KH (.ptr n 0 (j+i)) h:=by
 subst ha
 rw[Ie,hb]
 apply propext
 constructor
 ·rintro⟨-,-,-,h⟩;simpa using h
 ·intro h;exact⟨by omega,by omega,rfl,by simpa using h⟩
theorem Pq (x:kj h ro dR dE dL dm st){c:Code}{it:It}(hc:bj c) (hw:qA c st) (hb:0<=it.block/\it.block<(c.b.length:Int)){KH:HK}
  (hK:∀h' ro',Fr ro h ro' h'->kj h' ro' dR dE dL dm st->KH (zQ c { it with regs:=st.regs,priv:=st.mem 3 } dR (dm 3) dL) h'):ag PP mQ [c.e,rE it dR (dm 3) dL] h KH:=by
 refine aW AQ (aA _ _ _) rfl (Az _ _ _) ?_
 (unfold ug;try dsimp only[xL,yL,xF,yF,xI,yI,xS,zI,zJ])
 obtain⟨k,B,hbk,hB,hBm,ht,hi⟩:=hc.OA hb
 obtain⟨-,-,hT⟩:=hc.xs B hBm
 obtain⟨ho,hkd⟩:=hT.ops
 have B0:bH h ro h ro []:=bH.nil
 rw[cJ]
 refine⟨(jG c).2,fun n3 t=>?_⟩
 have x1:=x.new t.free (.box c.e)
 have B1:=B0.push t.free c.e
 generalize ah h n3 (.box c.e)=h1 at x1 B1
 generalize ah ro n3 .no=ro1 at x1 B1
 rw[cJ]
 refine⟨G0 x it,fun n5 t=>?_⟩
 have x2:=x1.new t.free (.box (rE it dR (dm 3) dL))
 have B2:=B1.push t.free (rE it dR (dm 3) dL)
 generalize ah h1 n5 (.box (rE it dR (dm 3) dL))=h2 at x2 B2
 generalize ah ro1 n5 .no=ro2 at x2 B2
 rw[bQ]
 intro n7 t
 have x3:=x2.new t.free (.box (.agg EE))
 have B3:=B2.push t.free (.agg EE)
 generalize ah h2 n7 (.box (.agg EE))=h3 at x3 B3
 generalize ah ro2 n7 .no=ro3 at x3 B3
 have eb:∀{g:Heap}{K:HK},g n3=.box c.e->ab PP (.ld (.c (.ptr n3 0 7)) 1 false) g K=K (.sl (c.b.map Block.e)) g:=fun {g K} hg=>eR (cs:=[.int .i64 c.group,.int .i64 c.sub,.int .i64 c.regs,.int .i64 c.slots,.int .i64 c.params,.sl (c.arrays.map bO.e),.sl (c.loops.map Loop.e),.sl (c.b.map Block.e)]) hg rfl
 have hat:∀{g:Heap}{K:HK},ab PP (.iadd (.c (.sl (c.b.map Block.e))) (.c (.int .i64 it.block)) 14) g K=K (.vp B.e 0) g:=fun {g K}=>by rw[hbk,rR hB]
 simp only[↓ba (B3.used 2 rfl),↓ba (B3.used 1 rfl),Nat.zero_add,eb (B3.get 2 rfl),↓eR (cs:=qt it dR (dm 3) dL) (B3.get 1 rfl) (j:=2) rfl,hat,↓ig,↓Ky,true_and]
 rw[bQ]
 intro n23 t
 have x4:=x3.new t.free (.box (.agg Ub))
 have B4:=B3.push t.free (.agg Ub)
 generalize ah h3 n23 (.box (.agg Ub))=h4 at x4 B4
 generalize ah ro3 n23 .no=ro4 at x4 B4
 have te:B.t.e=.agg B.t.cs:=rfl
 rw[te,lf (s:=13) (cs:=Ub) (cs':=B.t.cs) (B4.get 0 rfl) rfl rfl (by simp[Term.cs])]
 have x5:=x4.av (B4.rn 0 rfl) (.box (.agg B.t.cs))
 have B5:=B4.av 0 rfl (.agg B.t.cs)
 generalize ah h4 n23 (.box (.agg B.t.cs))=h5 at x5 B5
 simp only[List.set_cons_zero]at B5
 clear x1 x2 x3 x4 B0 B1 B2 B3 B4
 obtain⟨it1,hit1⟩:∃it1:It,it1={ it with regs:=st.regs,priv:=st.mem 3 }:=⟨_,rfl⟩
 rw[<- hit1]at hK
 have tt:dg c it1.block=B.t:=by rw[hit1];exact ht
 have ei:∀{b:Int},rE it dR (dm 3) dL=rE it1 dR (dm 3) dL:=fun {b}=>by rw[hit1];rfl
 refine⟨fun _ g=>(dg c it1.block).kind≠5/\∃ro',bH h ro g ro' [(n23,.agg B.t.cs),(n7,.agg EE),(n5,rE (aP c it1) dR (dm 3) dL),(n3,c.e)]/\kj g ro' dR dE dL dm st,?_,?_⟩
 ·rintro _ g ⟨h5',ro',Y,y⟩
  rw[OX (cs:=qt (aP c it1) dR (dm 3) dL) (Y.get 2 rfl) rfl,lf (s:=7) (cs:=EE) (cs':=qt (aP c it1) dR (dm 3) dL) (Y.get 1 rfl) rfl rfl (G0 x _),OX (cs:=qt (aP c it1) dR (dm 3) dL) (ad _ _ _) rfl]
  have:=hK _ ro' (Y.av 1 rfl (.agg (qt (aP c it1) dR (dm 3) dL))).fr (y.av (Y.rn 1 rfl) _)
  simp only[zQ,h5',if_false]at this
  exact this
 have Hu:∀{g:Heap}{j:Nat}{d:D}{K:HK},g n23=.box (.agg B.t.cs)->B.t.cs[j]?=some d->ab PP (.ld (.c (.ptr n23 0 j)) 1 false) g K=K d g:=fun a b=>eR a b
 have setc:∀{g:Heap}{ro':Ro}{cs:List D}{j:Nat}{d:D}{it':It}{Q:Heap->Prop},bH h ro g ro' [(n23,.agg B.t.cs),(n7,.agg EE),(n5,.agg cs),(n3,c.e)]->kj g ro' dR dE dL dm st->j<cs.length->d.one=true->cs.set j d=qt it' dR (dm 3) dL ->
   (∀g',bH h ro g' ro' [(n23,.agg B.t.cs),(n7,.agg EE),(n5,rE it' dR (dm 3) dL),(n3,c.e)]->kj g' ro' dR dE dL dm st->Q g')->ab PP (.st (.c (.ptr n5 0 j)) (.c d) 1) g fun _ g'=>Q g':=by
  intro g ro' cs j d it' Q Y y hj hd hs hQ
  rw[HH (cs:=cs) (Y.get 2 rfl) hj hd,hs]
  exact hQ _ (Y.av 2 rfl (.agg (qt it' dR (dm 3) dL))) (y.av (Y.rn 2 rfl) _)
 simp only[↓ba (B5.used 0 rfl),Nat.zero_add,Hu (B5.get 0 rfl) (j:=0) rfl,↓aM,true_and]
 rcases hkd with h0|h0|h0|h0|h0
 ·simp only[h0,decide_true,↓af,↓ba (B5.used 0 rfl),Nat.zero_add,true_and]
  rw[H9 (a:=0) (i:=0) rfl (by omega) (B5.get 0 rfl),Hu (B5.get 0 rfl) (j:=11) rfl]
  simp only[↓ba (B5.used 2 rfl),Nat.zero_add,ai,true_and]
  have el:aP c it1={ it1 with block:=B.t.to0 }:=by simp[aP,tt,h0]
  refine setc (cs:=qt it dR (dm 3) dL) (it':=aP c it1) B5 x5 (by simp) rfl (by rw[el,hit1];rfl) fun g' Y y=>⟨by rw[tt,h0];simp,ro4,Y,y⟩
 ·simp only[h0,Int.reduceEq,decide_false,decide_true,↓af,↓ae,↓ba (B5.used 0 rfl),Nat.zero_add,true_and]
  rw[H9 (a:=1) (i:=1) rfl (by omega) (B5.get 0 rfl),Hu (B5.get 0 rfl) (j:=12) rfl]
  simp only[↓ba (B5.used 2 rfl),Nat.zero_add,true_and]
  refine setc (cs:=qt it dR (dm 3) dL) (it':={ it with block:=B.t.to1 }) B5 x5 (by simp) rfl rfl fun g6 Y6 y6=>?_
  have l3:∀{g:Heap}{K:HK},g n23=.box (.agg B.t.cs)->ab PP (.ld (.c (.ptr n23 0 5)) 3 true) g K=K B.t.a.e g:=fun {g K} hg=>by rw[rD hg (by simp[Term.cs])];rfl
  rw[OX (cs:=qt { it with block:=B.t.to1 } dR (dm 3) dL) (Y6.get 2 rfl) rfl]
  simp only[↓ba (Y6.used 0 rfl),Nat.zero_add,l3 (Y6.get 0 rfl),true_and]
  refine zL y6 (it:={ it with block:=B.t.to1 }) (o:=B.t.a) (by rw[hw.len];exact ho) fun g7 e7 y7=>?_
  have Y7:=Y6.step (Fr.ext (ro:=ro4) e7)
  rw[cq]
  by_cases hz:aX st.regs B.t.a=0
  ·simp only[hz,decide_true,Bool.not_true,↓ae,ai,true_and]
   have el:aP c it1={ it1 with block:=B.t.to1 }:=by simp[aP,tt,h0];rw[hit1];simp[hz]
   refine⟨by rw[tt,h0];simp,ro4,?_,y7⟩
   rw[el,hit1];exact Y7
  ·simp only[hz,decide_false,Bool.not_false,↓af,↓ba (Y7.used 0 rfl),Nat.zero_add,true_and]
   rw[H9 (a:=0) (i:=0) rfl (by omega) (Y7.get 0 rfl),Hu (Y7.get 0 rfl) (j:=11) rfl]
   simp only[↓ba (Y7.used 2 rfl),Nat.zero_add,ai,true_and]
   have el:aP c it1={ it1 with block:=B.t.to0 }:=by simp[aP,tt,h0];rw[hit1];simp[hz]
   refine setc (cs:=qt { it with block:=B.t.to1 } dR (dm 3) dL) (it':=aP c it1) Y7 y7 (by simp) rfl (by rw[el,hit1];rfl) fun g' Y y=>⟨by rw[tt,h0];simp,ro4,Y,y⟩
 ·simp only[h0,Int.reduceEq,decide_false,↓ae,↓ba (B5.used 2 rfl),Nat.zero_add,ai,true_and]
  have el:aP c it1={ it1 with at_:=2 }:=by simp[aP,tt,h0]
  refine setc (cs:=qt it dR (dm 3) dL) (it':=aP c it1) B5 x5 (by simp) rfl (by rw[el,hit1];rfl) fun g' Y y=>⟨by rw[tt,h0];simp,ro4,Y,y⟩
 ·simp only[h0,Int.reduceEq,decide_false,↓ae,↓ba (B5.used 2 rfl),Nat.zero_add,ai,true_and]
  have el:aP c it1={ it1 with at_:=2 }:=by simp[aP,tt,h0]
  refine setc (cs:=qt it dR (dm 3) dL) (it':=aP c it1) B5 x5 (by simp) rfl (by rw[el,hit1];rfl) fun g' Y y=>⟨by rw[tt,h0];simp,ro4,Y,y⟩
 ·have c0:=B5.get 3 rfl
  have hr:=hc.regs
  have hs:=hc.slots
  have dcc:∀{K:D->Prop}{j:Nat}{d:D},([.int .i64 c.group,.int .i64 c.sub,.int .i64 c.regs,.int .i64 c.slots,.int .i64 c.params,.sl (c.arrays.map bO.e),.sl (c.loops.map Loop.e),.sl (c.b.map Block.e)]:List D)[j]?=some d->aq PP (.ld (.c (.ptr n3 0 j)) 1 false) h5 K=K d:=fun {K j d} hj=>cj (cs:=[.int .i64 c.group,.int .i64 c.sub,.int .i64 c.regs,.int .i64 c.slots,.int .i64 c.params,.sl (c.arrays.map bO.e),.sl (c.loops.map Loop.e),.sl (c.b.map Block.e)]) c0 hj
  have hmk:∀{K:D->Prop}{n:Int},0<=n->n<=1000->K (words (List.replicate n.toNat 0))->aq PP (.mk 1 4 (.int .i32 0) (.c (.int .i64 n)) (.c (.int .i64 n))) h5 K:=fun {K n} a1 a2 hk =>
   ⟨⟨a1,by omega,by omega,by omega⟩,⟨rfl,by simp⟩,by rw[zN];exact hk⟩
  simp only[h0,Int.reduceEq,decide_false,decide_true,↓af,↓ae,↓aE,B5.used 2 rfl,B5.used 3 rfl,Nat.zero_add,↓cj (cs:=qt it dR (dm 3) dL) (B5.get 2 rfl) (j:=0) rfl,↓cj (cs:=qt it dR (dm 3) dL) (B5.get 2 rfl) (j:=3) rfl,dcc (j:=2) rfl,true_and]
  refine hmk (by omega) (by omega) ?_
  simp only[↓aE,B5.used 3 rfl,Nat.zero_add,dcc (j:=5) rfl,true_and]
  refine pk (I9 hc 3) ?_ ?_
  ·intro z hz
   simp[Arg.get]at hz
   rcases hz with rfl|rfl
   ·exact T4 rfl
   ·exact jY
  simp only[↓aE,B5.used 3 rfl,Nat.zero_add,dcc (j:=3) rfl,true_and]
  refine hmk (by omega) (by omega) ?_
  rw[gZ rfl]
  have e:(D.agg (fillD [.int .i64 0,.int .i64 0,.int .i64 0,.int .i64 0,.nil,.nil,.nil] ([(0,1,Arg.c (D.int .i64 it.id)),(1,1,.c (.int .i64 3)),(3,1,.c (.int .i64 it.epoch)),(4,1,.c (words (List.replicate c.regs.toNat 0))),(5,1,.c (aR (iF c.arrays 3))),(6,1,.c (words (List.replicate c.slots.toNat 0)))].map fun p=>(p.1,p.2.1,(p.2.2.get []).cells))))=.agg (bD c it.id it.epoch 3).cs:=by
   rw[hs];rfl
  rw[e,lf (s:=7) (cs:=EE) (cs':=(bD c it.id it.epoch 3).cs) (B5.get 1 rfl) rfl rfl (by simp[It.cs,words,aR]),OX (cs:=(bD c it.id it.epoch 3).cs) (ad _ _ _) rfl]
  have:=hK _ ro4 (B5.av 1 rfl (.agg (bD c it.id it.epoch 3).cs)).fr (x5.av (B5.rn 1 rfl) _)
  simp only[zQ,tt,h0,if_true]at this
  rw[hit1]at this
  exact this
end
end Go.Am
namespace Go.Am
open Go
def eH (r:pE):D:=.agg [.int .i64 r.it.id,.int .i64 r.it.at_,.int .i64 r.it.block,.int .i64 r.it.epoch,words r.it.regs,aR r.it.priv,.sl [],aR r.g,aR r.s,.sl (r.ev.map Ev.e),.int .i64 r.e]
def xf (g s:Mm):D:=.agg [aR g,aR s]
theorem Jj {c:Code}{it1:It}(h5:(dg c it1.block).kind≠5):(aP c it1).regs=it1.regs/\(aP c it1).priv=it1.priv:=by
 simp only[aP]
 split
 ·exact⟨rfl,rfl⟩
 ·split
  ·exact⟨rfl,rfl⟩
  ·first|exact⟨rfl,rfl⟩|(rw[if_neg h5];exact⟨rfl,rfl⟩)
theorem Sv {h:Heap}{c:Code}{it:It}{st:St}{dR dP dL dG dS dE:D}{r:pE}(hr:r.it=aP c { it with regs:=st.regs,priv:=st.mem 3 }/\r.g=st.mem 1/\r.s=st.mem 2/\r.ev=st.ev/\r.e=0)
  (hR:wG h dR (words st.regs)) (hP:wG h dP (aR (st.mem 3))) (hL:wG h dL (.sl [])) (hG:wG h dG (aR (st.mem 1))) (hS:wG h dS (aR (st.mem 2))) (hE:wG h dE (.sl (st.ev.map Ev.e))) :
  OS h (.agg ((zQ c { it with regs:=st.regs,priv:=st.mem 3 } dR dP dL).cells++[dG,dS,dE,.int .i64 0])) (eH r):=by
 obtain⟨r1,r2,r3,r4,r5⟩:=hr
 obtain⟨it1,h1⟩:∃it1:It,it1={ it with regs:=st.regs,priv:=st.mem 3 }:=⟨_,rfl⟩
 rw[<- h1]at r1 ⊢
 have p1:it1.regs=st.regs:=by rw[h1]
 have p2:it1.priv=st.mem 3:=by rw[h1]
 have e:eH r=.agg [.int .i64 (aP c it1).id,.int .i64 (aP c it1).at_,.int .i64 (aP c it1).block,.int .i64 (aP c it1).epoch,words (aP c it1).regs,aR (aP c it1).priv,.sl [],aR (st.mem 1),aR (st.mem 2),.sl (st.ev.map Ev.e),.int .i64 0]:=by
  rw[eH,r1,r2,r3,r4,r5]
 rw[e]
 unfold zQ
 by_cases h5:(dg c it1.block).kind=5
 ·rw[if_pos h5]
  have el:aP c it1=bD c it1.id it1.epoch 3:=by simp[aP,h5]
  rw[el]
  exact(BP.cons (aH rfl) (.cons (aH rfl) (.cons (aH rfl) (.cons (aH rfl) (.cons (aH rfl) (.cons (aH rfl) (.cons (aH rfl) (.cons hG (.cons hS (.cons hE (.cons (aH rfl) .nil))))))))))).agg
 ·rw[if_neg h5]
  obtain⟨l1,l2⟩:=Jj h5
  rw[l1,l2,p1,p2]
  exact(BP.cons (aH rfl) (.cons (aH rfl) (.cons (aH rfl) (.cons (aH rfl) (.cons hR (.cons hP (.cons hL (.cons hG (.cons hS (.cons hE (.cons (aH rfl) .nil))))))))))).agg
theorem P5 {h:Heap}{it:It}{g s:Mm}{n:Int}{r:pE}(hr:r=⟨it,g,s,[],n⟩):OS h (.agg (it.cs++[aR g,aR s,.nil,.int .i64 n])) (eH r):=by
 subst hr
 exact(BP.cons (aH rfl) (.cons (aH rfl) (.cons (aH rfl) (.cons (aH rfl) (.cons (aH rfl) (.cons (aH rfl) (.cons (aH rfl) (.cons (aH rfl) (.cons (aH rfl) (.cons gh (.cons (aH rfl) .nil))))))))))).agg
theorem MV {c:Code}{l:dk}{it:It}{g s:Mm}{av:Int}(hc:bj c) (hl:js c l) (hi:L0 c l it) (hg:fY c.arrays 1 g) (hs:fY c.arrays 2 s) :
  aF PP lu [c.e,l.e,it.e,xf g s,.int .i64 av] (· = eH (bS c l it g s av)):=by
 refine fZ (aW yT (aA _ _ _) rfl (xR _ _ _ _ _ _) ?_)
 (unfold rX;try dsimp only[xL,yL,xF,yF,xI,yI,xS,zI,zJ])
 obtain⟨ro,hro⟩:∃ro:Ro,ro=fun _=>lV.no:=⟨_,rfl⟩
 have B0:bH aC ro aC ro []:=bH.nil
 rw[cJ]
 refine⟨(jG c).2,fun n6 t=>?_⟩
 have B1:=B0.push t.free c.e
 generalize ah aC n6 (.box c.e)=h1 at B1
 generalize ah ro n6 .no=ro1 at B1
 rw[cJ]
 refine⟨List.all_eq_true.1 (dk.on l),fun n8 t=>?_⟩
 have B2:=B1.push t.free l.e
 generalize ah h1 n8 (.box l.e)=h2 at B2
 generalize ah ro1 n8 .no=ro2 at B2
 rw[cJ]
 refine⟨it.bZ.one,fun n10 t=>?_⟩
 have B3:=B2.push t.free it.e
 generalize ah h2 n10 (.box it.e)=h3 at B3
 generalize ah ro2 n10 .no=ro3 at B3
 rw[cJ]
 refine⟨(by simp[xf,aR]:aw (xf g s)),fun n12 t=>?_⟩
 have B4:=B3.push t.free (xf g s)
 generalize ah h3 n12 (.box (xf g s))=h4 at B4
 generalize ah ro3 n12 .no=ro4 at B4
 rw[bQ]
 intro n14 t
 have B5:=B4.push t.free (.agg tA)
 generalize ah h4 n14 (.box (.agg tA))=h5 at B5
 generalize ah ro4 n14 .no=ro5 at B5
 clear B0 B1 B2 B3 B4
 have g7:∀{g':Heap}{K:HK},g' n10=.box it.e->ab PP (.ld (.c (.ptr n10 0 0)) 7 true) g' K=K it.e g':=fun {g' K} hg'=>OX (cs:=it.cs) hg' rfl
 have d7:∀{g':Heap}{K:D->Prop},g' n10=.box it.e->aq PP (.ld (.c (.ptr n10 0 0)) 7 true) g' K=K it.e:=fun {g' K} hg'=>by rw[bL];exact g7 hg'
 have ia:∀{g':Heap}{K:HK}{a:Int}{i:Nat},a=(i:Int)->i<2->g' n12=.box (xf g s)->ab PP (.iadda (.c (.ptr n12 0 0)) (.c (.int .i64 a)) 2 1) g' K=K (.ptr n12 0 i) g':=fun {g' K a i} ha hi' hb=>by rw[H9 ha hi' hb,Nat.zero_add]
 have dia:∀{g':Heap}{K:D->Prop}{a:Int}{i:Nat},a=(i:Int)->i<2->g' n12=.box (xf g s)->aq PP (.iadda (.c (.ptr n12 0 0)) (.c (.int .i64 a)) 2 1) g' K=K (.ptr n12 0 i):=fun {g' K a i} ha hi' hb=>by rw[DD,ia ha hi' hb]
 have m0:∀{g':Heap}{K:HK},g' n12=.box (xf g s)->ab PP (.ld (.c (.ptr n12 0 0)) 1 false) g' K=K (aR g) g':=fun {g' K} hg'=>eR (cs:=[aR g,aR s]) hg' rfl
 have m1:∀{g':Heap}{K:HK},g' n12=.box (xf g s)->ab PP (.ld (.c (.ptr n12 0 1)) 1 false) g' K=K (aR s) g':=fun {g' K} hg'=>eR (cs:=[aR g,aR s]) hg' rfl
 have dm0:∀{g':Heap}{K:D->Prop},g' n12=.box (xf g s)->aq PP (.ld (.c (.ptr n12 0 0)) 1 false) g' K=K (aR g):=fun {g' K} hg'=>cj (cs:=[aR g,aR s]) hg' rfl
 have dm1:∀{g':Heap}{K:D->Prop},g' n12=.box (xf g s)->aq PP (.ld (.c (.ptr n12 0 1)) 1 false) g' K=K (aR s):=fun {g' K} hg'=>cj (cs:=[aR g,aR s]) hg' rfl
 rw[g7 (B5.get 2 rfl),ia (a:=0) (i:=0) rfl (by omega) (B5.get 1 rfl),m0 (B5.get 1 rfl),ia (a:=1) (i:=1) rfl (by omega) (B5.get 1 rfl),m1 (B5.get 1 rfl),cI rfl]
 have e1:D.agg (fillD tA ([(0,7,Arg.c it.e),(7,1,.c (aR g)),(8,1,.c (aR s))].map fun p=>(p.1,p.2.1,(p.2.2.get []).cells)))=.agg (it.cs++[aR g,aR s,.nil,.int .i64 0]):=rfl
 rw[e1,bQ]
 intro n28 t
 have B6:=B5.push t.free (.agg tA)
 generalize ah h5 n28 (.box (.agg tA))=h6 at B6
 generalize ah ro5 n28 .no=ro6 at B6
 rw[lf (s:=11) (cs:=tA) (cs':=it.cs++[aR g,aR s,.nil,.int .i64 0]) (B6.get 0 rfl) rfl rfl (by simp[It.cs,words,aR])]
 have B7:=B6.av 0 rfl (.agg (it.cs++[aR g,aR s,.nil,.int .i64 0]))
 generalize ah h6 n28 (.box (.agg (it.cs++[aR g,aR s,.nil,.int .i64 0])))=h7 at B7
 simp only[List.set_cons_zero]at B7
 clear B5 B6
 have same:∀{g':Heap}{ro':Ro}{n:Int}{L:List (Nat×D)},bH aC ro g' ro' ((n28,.agg (it.cs++[aR g,aR s,.nil,.int .i64 0]))::(n14,.agg tA)::L)->bS c l it g s av=⟨it,g,s,[],n⟩ ->
   ab PP (.fadd (.c (.ptr n28 0 0)) 10) g' fun a37 h38=>ab PP (.st (.c a37) (.c (.int .i64 n)) 1) h38 fun _ h40=>ab PP (.ld (.c (.ptr n28 0 0)) 11 true) h40 fun a41 h42 =>
   ab PP (.st (.c (.ptr n14 0 0)) (.c a41) 11) h42 fun _ h44=>ab PP (.ld (.c (.ptr n14 0 0)) 11 true) h44 fun a45 _=>Fj (· = eH (bS c l it g s av)) a45 h44:=by
  intro g' ro' n L Y hst
  simp only[↓ba (Y.used 0 rfl),Nat.zero_add,true_and]
  rw[HH (cs:=it.cs++[aR g,aR s,.nil,.int .i64 0]) (Y.get 0 rfl) (by simp[It.cs]) rfl]
  have es:(it.cs++[aR g,aR s,.nil,.int .i64 0]).set 10 (.int .i64 n)=it.cs++[aR g,aR s,.nil,.int .i64 n]:=rfl
  rw[es]
  have Y2:=Y.av 0 rfl (.agg (it.cs++[aR g,aR s,.nil,.int .i64 n]))
  rw[Al (cs:=it.cs++[aR g,aR s,.nil,.int .i64 n]) (Y2.get 0 rfl) rfl,lf (s:=11) (cs:=tA) (cs':=it.cs++[aR g,aR s,.nil,.int .i64 n]) (Y2.get 1 rfl) rfl rfl (by simp[It.cs,words,aR]),Al (cs:=it.cs++[aR g,aR s,.nil,.int .i64 n]) (ad _ _ _) rfl]
  exact eh (by simp) (by simp[eH]) (.refl _) (P5 hst) rfl
 simp only[↓ba (B7.used 3 rfl),Nat.zero_add,↓eR (cs:=it.cs) (B7.get 3 rfl) (j:=1) rfl,↓cq,true_and]
 by_cases ha:it.at_=1
 case neg =>
  simp only[ha,decide_false,Bool.not_false,↓af]
  exact same B7 (by simp[bS,ha])
 simp only[ha,decide_true,Bool.not_true,↓ae,d7 (B7.get 3 rfl),dia (a:=0) (i:=0) rfl (by omega) (B7.get 2 rfl),dm0 (B7.get 2 rfl),dia (a:=1) (i:=1) rfl (by omega) (B7.get 2 rfl),dm1 (B7.get 2 rfl)]
 have hrl:=hi.len
 have hrr:=hc.regs
 refine HT (ro:=ro6) (it:=it) (by omega) (hi.priv.b hc) fun dR dP dL h8 ro8 x8 R8 P8 L8=>?_
 have B8:=B7.step x8.fr
 simp only[dia (a:=0) (i:=0) rfl (by omega) (B8.get 2 rfl),dm0 (B8.get 2 rfl),dia (a:=1) (i:=1) rfl (by omega) (B8.get 2 rfl),dm1 (B8.get 2 rfl),ai,true_and,and_true]
 refine Ja (ro:=ro8) (hg.b hc) 1 fun dG h9 ro9 x9 G9=>?_
 have B9:=B8.step x9.fr
 have R9:=R8.aD x9.aD
 have P9:=P8.aD x9.aD
 have L9:=L8.aD x9.aD
 simp only[dia (a:=1) (i:=1) rfl (by omega) (B9.get 2 rfl),dm1 (B9.get 2 rfl),ai,true_and,and_true]
 refine Ja (ro:=ro9) (hs.b hc) 2 fun dS h10 ro10 x10 S10=>?_
 have B10:=B9.step x10.fr
 have R10:=R9.aD x10.aD
 have P10:=P9.aD x10.aD
 have L10:=L9.aD x10.aD
 have G10:=G9.aD x10.aD
 clear B7 B8 B9 R8 P8 L8 R9 P9 L9 G9 x8 x9 x10
 obtain⟨dm,hdm1,hdm2,hdm3⟩:∃dm:Nat->D,dm 1=dG/\dm 2=dS/\dm 3=dP:=⟨fun k=>if k=1 then dG else if k=2 then dS else dP,rfl,rfl,rfl⟩
 subst hdm1 hdm2 hdm3
 have X10:kj h10 ro10 dR .nil dL dm (wF it g s):=⟨R10,fun k k1 k2=>by
  have:k=1\/k=2\/k=3:=by omega
  rcases this with rfl|rfl|rfl
  ·exact G10
  ·exact S10
  ·exact P10,Or.inl ⟨rfl,rfl⟩,L10⟩
 clear R10 P10 L10 G10 S10
 have cG:=gF (X10.mem 1 (by omega) (by omega)).one
 have cS:=gF (X10.mem 2 (by omega) (by omega)).one
 have oG:=(X10.mem 1 (by omega) (by omega)).one
 have oS:=(X10.mem 2 (by omega) (by omega)).one
 have oI:=G0 X10 it
 rw[Iu,ku]
 refine⟨fun p hp=>?_,?_⟩
 ·simp only[List.map_cons,List.map_nil,List.mem_cons,List.not_mem_nil,or_false,NM]at hp
  rcases hp with rfl|rfl|rfl
  ·exact⟨rfl,by simp,oI⟩
  ·exact⟨by simp only[cG];rfl,by simp,fun d hd=>by simp only[cG]at hd;simp at hd;subst hd;exact oG⟩
  ·exact⟨by simp only[cS];rfl,by simp,fun d hd=>by simp only[cS]at hd;simp at hd;subst hd;exact oS⟩
 have e2:D.agg (fillD tA ([(0,7,Arg.c (rE it dR (dm 3) dL)),(7,1,.c (dm 1)),(8,1,.c (dm 2))].map fun p=>(p.1,p.2.1,(p.2.2.get []).cells)))=.agg (dY it dR dL .nil dm 0):=by
  simp[fillD,cG,cS,rE]
 rw[e2,bQ]
 intro n64 t
 have B11:=B10.push t.free (.agg tA)
 have X11:=X10.new t.free (.box (.agg tA))
 generalize ah h10 n64 (.box (.agg tA))=h11 at B11 X11
 generalize ah ro10 n64 .no=ro11 at B11 X11
 clear B10 X10 e2
 simp only[d7 (B11.get 4 rfl),dia (a:=0) (i:=0) rfl (by omega) (B11.get 3 rfl),dm0 (B11.get 3 rfl),dia (a:=1) (i:=1) rfl (by omega) (B11.get 3 rfl),dm1 (B11.get 3 rfl),ai,true_and,and_true]
 rw[lf (s:=11) (cs:=tA) (cs':=dY it dR dL .nil dm 0) (B11.get 0 rfl) rfl rfl (X11.dF it 0)]
 have B12:=B11.av 0 rfl (.agg (dY it dR dL .nil dm 0))
 have X12:=X11.av (B11.rn 0 rfl) (.box (.agg (dY it dR dL .nil dm 0)))
 generalize ah h11 n64 (.box (.agg (dY it dR dL .nil dm 0)))=h12 at B12 X12
 simp only[List.set_cons_zero]at B12
 clear B11 X11
 obtain⟨k,B,hbk,hB,hBm,-,hins⟩:=hc.OA hi.block
 obtain⟨hxs,hxl,-⟩:=hc.xs B hBm
 have sP:bS c l it g s av=match runP c l it.id av it.block B.i 0 (wF it g s) with
   | none=>⟨it,g,s,[],70⟩
   | some st=>⟨aP c { it with regs:=st.regs,priv:=st.mem 3 },st.mem 1,st.mem 2,st.ev,0⟩:=by
  unfold bS
  rw[if_neg (by simp[ha]),hins]
  cases runP c l it.id av it.block B.i 0 (wF it g s)<;>rfl
 have w0:qA c (wF it g s):=GH hi hg hs
 have eb:∀{g':Heap}{K:HK},g' n6=.box c.e->ab PP (.ld (.c (.ptr n6 0 7)) 1 false) g' K=K (.sl (c.b.map Block.e)) g':=fun {g' K} hg'=>eR (cs:=[.int .i64 c.group,.int .i64 c.sub,.int .i64 c.regs,.int .i64 c.slots,.int .i64 c.params,.sl (c.arrays.map bO.e),.sl (c.loops.map Loop.e),.sl (c.b.map Block.e)]) hg' rfl
 have hat:∀{g':Heap}{K:HK},ab PP (.iadd (.c (.sl (c.b.map Block.e))) (.c (.int .i64 it.block)) 14) g' K=K (.vp B.e 0) g':=fun {g' K}=>by rw[hbk,rR hB]
 simp only[↓ba (B12.used 6 rfl),↓ba (B12.used 4 rfl),Nat.zero_add,eb (B12.get 6 rfl),↓eR (cs:=it.cs) (B12.get 4 rfl) (j:=2) rfl,hat,↓ig,↓QX,true_and]
 have h8:∀{g':Heap}{K:HK},g' n6=.box c.e->ab PP (.ld (.c (.ptr n6 0 0)) 8 true) g' K=K c.e g':=fun {g' K} hg'=>db hg'
 have d8:∀{g':Heap}{K:D->Prop},g' n6=.box c.e->aq PP (.ld (.c (.ptr n6 0 0)) 8 true) g' K=K c.e:=fun {g' K} hg'=>by rw[bL];exact db hg'
 have d2:∀{g':Heap}{K:D->Prop},g' n8=.box l.e->aq PP (.ld (.c (.ptr n8 0 0)) 2 true) g' K=K l.e:=fun {g' K} hg'=>by rw[bL];exact db hg'
 obtain⟨Lb,hLb⟩:∃Lb:List (Nat×D),Lb=[(n28,.agg (it.cs++[aR g,aR s,.nil,.int .i64 0])),(n14,.agg tA),(n12,xf g s),(n10,it.e),(n8,l.e),(n6,c.e)]:=⟨_,rfl⟩
 refine⟨fun _ g'=>∃(ro':Ro) (st':St) (dE:D),bH aC ro g' ro' ((n64,.agg (dY it dR dL dE dm 0))::Lb)/\kj g' ro' dR dE dL dm st'/\qA c st'/\runP c l it.id av it.block B.i 0 (wF it g s)=some st',?_,?_⟩
 ·rintro _ g' ⟨ro',st',dE,Y,y,W,P⟩
  rw[hLb]at Y
  rw[P]at sP
  have s7:∀{g':Heap}{K:HK},g' n64=.box (.agg (dY it dR dL dE dm 0))->ab PP (.ld (.c (.ptr n64 0 0)) 7 true) g' K=K (rE it dR (dm 3) dL) g':=fun {g' K} hg'=>by rw[rD hg' (by simp)];rfl
  simp only[h8 (Y.get 6 rfl),↓ba (Y.used 0 rfl),Nat.zero_add,s7 (Y.get 0 rfl),true_and]
  refine Pq y hc W hi.block fun g2 ro2 F z=>?_
  have Z:=Y.step F
  have o3:=(z.mem 3 (by omega) (by omega)).one
  have o1:=(z.mem 1 (by omega) (by omega)).one
  have o2:=(z.mem 2 (by omega) (by omega)).one
  have oE:=z.ev.one
  obtain⟨cs,q1,q2,q3⟩:=HX (c:=c) (it:={ it with regs:=st'.regs,priv:=st'.mem 3 }) z.regs.one o3 z.sl.one
  have fzo:=fun(h'':Heap)=>Sv (h:=h'') (c:=c) (it:=it) (st:=st') (dR:=dR) (dP:=dm 3) (dL:=dL) (dG:=dm 1) (dS:=dm 2) (dE:=dE) (r:=bS c l it g s av) (by rw[sP];exact⟨rfl,rfl,rfl,rfl,rfl⟩)
  rw[q1]at q3 fzo ⊢
  simp only[↓ba (Z.used 0 rfl),Nat.zero_add,true_and]
  rw[dq,Z.get 0 rfl]
  have es:setCells (.agg (dY it dR dL dE dm 0)) 0 (D.agg cs).cells=.agg (cs++[dm 1,dm 2,dE,.int .i64 0]):=by
   simp only[setCells,ca,List.take_zero,List.nil_append,q2];rfl
  refine⟨q2,q3,rfl,by simp,?_⟩
  rw[es]
  have Z2:=Z.av 0 rfl (.agg (cs++[dm 1,dm 2,dE,.int .i64 0]))
  have z2:=z.av (Z.rn 0 rfl) (.box (.agg (cs++[dm 1,dm 2,dE,.int .i64 0])))
  have l11:(cs++[dm 1,dm 2,dE,D.int .i64 0]).length=11:=by simp[q2]
  have oA:∀d,d∈cs++[dm 1,dm 2,dE,D.int .i64 0]->d.one=true:=fun d hd=>by
   rcases List.mem_append.1 hd with hd|hd
   ·exact q3 d hd
   ·simp at hd;rcases hd with rfl|rfl|rfl|rfl<;>first|rfl|assumption
  rw[Al (cs:=cs++[dm 1,dm 2,dE,.int .i64 0]) (Z2.get 0 rfl) l11,lf (s:=11) (cs:=tA) (cs':=cs++[dm 1,dm 2,dE,.int .i64 0]) (Z2.get 2 rfl) rfl l11 oA,Al (cs:=cs++[dm 1,dm 2,dE,.int .i64 0]) (ad _ _ _) l11]
  obtain⟨h3,i1,i2,i3,i4,i5,-⟩:=(z2.av (Z2.rn 2 rfl) (.box (.agg (cs++[dm 1,dm 2,dE,.int .i64 0])))).r.out
  exact eh (by simp) (by simp[eH]) i1 (fzo h3 i2 (i5 3 (by omega) (by omega)) i4 (i5 1 (by omega) (by omega)) (i5 2 (by omega) (by omega)) i3) rfl
 (unfold ml;try dsimp only[xL,yL,xF,yF,xI,yI,xS,zI,zJ])
 refine⟨fun m qs g'=>∃(i:Nat) (ro':Ro) (st':St) (dE:D),qs=[.int .i64 (i:Int)]/\m+i=B.i.length/\bH aC ro g' ro' ((n64,.agg (dY it dR dL dE dm 0))::Lb)/\kj g' ro' dR dE dL dm st'/\qA c st'/\st'.ev.length<=i /\
   runP c l it.id av it.block (B.i.drop i) i st'=runP c l it.id av it.block B.i 0 (wF it g s),B.i.length,⟨0,ro11,wF it g s,.nil,rfl,by omega,by rw[hLb];exact B12,X12,w0,by simp[wF],by simp⟩,?_⟩
 rintro m f g' ⟨i,ro',st',dE,hf,hmi,Y,y,W,E,P⟩
 rw[hLb]at Y
 simp only[List.cons.injEq,and_true]at hf
 rw[hf,jf,List.length_map,bK]
 by_cases hlt:i<B.i.length
 case neg =>
  simp only[show ¬((i:Int)<(B.i.length:Int)) by omega,decide_false,↓ae,ai,true_and]
  rw[List.drop_of_length_le (by omega)]at P
  exact⟨ro',st',dE,by rw[hLb];exact Y,y,W,P.symm⟩
 have hx:B.i[i]?=some B.i[i]:=List.getElem?_eq_getElem hlt
 have bZ:∀{K:D->Prop},aq PP (.iadd (.c (.sl (B.i.map aN.e))) (.c (.int .i64 (i:Int))) 15) g' K=K (.vp (aN.e B.i[i]) 0):=fun {K}=>by rw[fh,Kn hx]
 have dld:∀{K:D->Prop},aq PP (.ld (.c (.vp (aN.e B.i[i]) 0)) 15 true) g' K=K (aN.e B.i[i]):=fun {K}=>by rw[bL,Km]
 have d11:∀{K:D->Prop},aq PP (.ld (.c (.ptr n64 0 0)) 11 true) g' K=K (.agg (dY it dR dL dE dm 0)):=fun {K}=>by rw[bL,Al (Y.get 0 rfl) rfl]
 simp only[show((i:Int)<(B.i.length:Int)) by omega,decide_true,↓af,d8 (Y.get 6 rfl),d2 (Y.get 5 rfl),d11,bZ,dld,↓aE,Y.used 4 rfl,Nat.zero_add,↓cj (cs:=it.cs) (Y.get 4 rfl) (j:=0) rfl,↓cj (cs:=it.cs) (Y.get 4 rfl) (j:=2) rfl,true_and]
 rw[gZ rfl]
 have ee:D.agg (fillD [.int .i64 0,.int .i64 0,.int .i64 0,.int .i64 0,.int .i64 0,.int .i64 0,.int .i64 0,.int .i64 0,.int .i32 0]
   ([(2,1,Arg.c (.int .i64 it.id)),(3,1,.c (.int .i64 av)),(4,1,.c (.int .i64 it.block)),(5,1,.c (.int .i64 (i:Int)))].map fun p=>(p.1,p.2.1,(p.2.2.get []).cells)))=(QV it.id av it.block (i:Int)).e:=rfl
 rw[ee]
 have P2:runP c l it.id av it.block (B.i.drop i) i st'=(cH c l it.id B.i[i] (QV it.id av it.block i) st').bind (runP c l it.id av it.block (B.i.drop (i+1)) (i+1)):=by
  rw[List.drop_eq_getElem_cons hlt];rfl
 have iok:=hxs _ (List.getElem_mem hlt)
 refine FR y hc hl hi.id W (by omega) iok (fun st2 h2 ro2 dE2 hst F2 y2=>?_) (fun h2 ro2 hst F2 y2=>?_)
 ·obtain⟨w2,l2⟩:=EH hc hl W iok hst
  rw[hst]at P2
  have Y2:=Y.step F2
  rw[lf (s:=11) (cs:=dY it dR dL dE dm 0) (cs':=dY it dR dL dE2 dm 0) (Y2.get 0 rfl) rfl rfl (y2.dF it 0)]
  have Y3:=Y2.av 0 rfl (.agg (dY it dR dL dE2 dm 0))
  have y3:=y2.av (Y2.rn 0 rfl) (.box (.agg (dY it dR dL dE2 dm 0)))
  generalize ah h2 n64 (.box (.agg (dY it dR dL dE2 dm 0)))=h3 at Y3 y3
  simp only[List.set_cons_zero]at Y3
  simp only[↓ba (Y3.used 0 rfl),Nat.zero_add,↓eR (cs:=dY it dR dL dE2 dm 0) (Y3.get 0 rfl) (j:=10) rfl,↓cq,decide_true,Bool.not_true,↓ae,true_and]
  rw[bp,GB (i:=i) (by omega)]
  refine⟨by simp,m-1,by omega,i+1,ro2,st2,dE2,rfl,by omega,by rw[hLb];exact Y3,y3,w2,by omega,?_⟩
  rw[<- P,P2];rfl
 ·rw[hst]at P2
  rw[<- P,P2]at sP
  have Y2:=Y.step F2
  rw[lf (s:=11) (cs:=dY it dR dL dE dm 0) (cs':=dY it dR dL dE dm 70) (Y2.get 0 rfl) rfl rfl (y2.dF it 70)]
  have Y3:=Y2.av 0 rfl (.agg (dY it dR dL dE dm 70))
  generalize ah h2 n64 (.box (.agg (dY it dR dL dE dm 70)))=h3 at Y3
  simp only[List.set_cons_zero]at Y3
  simp only[↓ba (Y3.used 0 rfl),Nat.zero_add,↓eR (cs:=dY it dR dL dE dm 70) (Y3.get 0 rfl) (j:=10) rfl,↓cq,Int.reduceEq,decide_false,Bool.not_false,↓af,true_and]
  have Y4:bH aC ro h3 ro2 [(n28,.agg (it.cs++[aR g,aR s,.nil,.int .i64 0])),(n14,.agg tA),(n12,xf g s),(n10,it.e),(n8,l.e),(n6,c.e)]:=⟨(List.nodup_cons.1 Y3.nd).2,fun p hp=>Y3.at_ p (List.mem_cons_of_mem _ hp),Y3.fr⟩
  exact same Y4 sP
theorem Me {P:Program}{w:List Int}{i:Nat}{v:Int}(hv:w[i]?=some v){h:Heap}{KH:HK}:ab P (.iadd (.c (words w)) (.c (.int .i64 (i:Int))) 1) h KH=KH (.vp (.int .i32 v) 0) h:=by
 have hk:=(List.getElem?_eq_some_iff.1 hv).1
 rw[words,im,Int.toNat_natCast,List.getElem?_map,hv,List.length_map]
 apply propext
 constructor
 ·rintro⟨-,-,h⟩;exact(h _ rfl).2
 ·intro hk';exact⟨by omega,by omega,fun d hd=>by cases hd;exact⟨rfl,hk'⟩⟩
theorem lW {w:List Int}{h:Heap}{K:D->Prop}:bR (words w) h K=K (.int .i64 (w.length:Int)):=by simp[words,jf]
theorem NH {P:Program}{k:IntKind}{n:Int}{h:Heap}{KH:HK}:ab P (.ld (.c (.vp (.int k n) 0)) 1 false) h KH=KH (.int k n) h:=by rw[gY,bk];rfl
theorem Re (w:List Int):(words w).vd=true/\aw (words w):=T4 rfl
theorem GI {w:List Int}(hl:w.length<=1000000):aF PP et [words w,words w] (· = .bool true):=by
 refine bg sV (aA _ _ _) rfl (sg _ _ _) ?_
 (unfold mq;try dsimp only[xL,yL,xF,yF,xI,yI,xS,zI,zJ])
 simp only[lW,↓cq,decide_true,Bool.not_true,↓ae]
 refine⟨fun _ _=>True,fun _ _ _=>bM.mpr rfl,?_⟩
 (unfold jL;try dsimp only[xL,yL,xF,yF,xI,yI,xS,zI,zJ])
 refine⟨fun k qs _=>∃i:Nat,qs=[.int .i64 (i:Int)]/\k+i=w.length,w.length,⟨0,rfl,by omega⟩,?_⟩
 rintro k f h ⟨i,hf,hki⟩
 simp only[List.cons.injEq,and_true]at hf
 rw[hf,lW,bK]
 by_cases hi:i<w.length
 case neg=>simp only[show ¬((i:Int)<(w.length:Int)) by omega,decide_false,↓ae,ai,true_and]
 have hv:=List.getElem?_eq_getElem hi
 simp only[show((i:Int)<(w.length:Int)) by omega,decide_true,↓af,↓fh,↓bL,↓Me hv,↓NH,↓cq,Bool.not_true,↓ae]
 rw[bp,GB (i:=i) (by omega)]
 exact⟨by simp,k-1,by omega,i+1,rfl,by omega⟩
theorem Ga {m:Mm}(hm:OY m):aF PP ez [aR m,aR m] (· = .bool true):=by
 refine bg C9 (aA _ _ _) rfl (CP _ _ _) ?_
 (unfold xZ;try dsimp only[xL,yL,xF,yF,xI,yI,xS,zI,zJ])
 have hml:=hm.len
 simp only[lD,↓cq,decide_true,Bool.not_true,↓ae]
 refine⟨fun _ _=>True,fun _ _ _=>bM.mpr rfl,?_⟩
 (unfold pN;try dsimp only[xL,yL,xF,yF,xI,yI,xS,zI,zJ])
 refine⟨fun k qs _=>∃i:Nat,qs=[.int .i64 (i:Int)]/\k+i=m.length,m.length,⟨0,rfl,by omega⟩,?_⟩
 rintro k f h ⟨i,hf,hki⟩
 simp only[List.cons.injEq,and_true]at hf
 rw[hf,lD,bK]
 by_cases hi:i<m.length
 case neg=>simp only[show ¬((i:Int)<(m.length:Int)) by omega,decide_false,↓ae,ai,true_and]
 have hv:=List.getElem?_eq_getElem hi
 simp only[show((i:Int)<(m.length:Int)) by omega,decide_true,↓af,↓fh,↓bL,↓xg hv,↓qF]
 refine pk (GI (by have:=hm.w _ (List.getElem_mem hi);omega)) ?_ ?_
 ·intro z hz
  simp[Arg.get]at hz
  subst hz
  exact Re _
 simp only[↓HZ,↓ae]
 rw[bp,GB (i:=i) (by omega)]
 exact⟨by simp,k-1,by omega,i+1,rfl,by omega⟩
theorem ER {P:Program}{w:List Ev}{i:Nat}{v:Ev}(hv:w[i]?=some v){h:Heap}{KH:HK}:ab P (.iadd (.c (.sl (w.map Ev.e))) (.c (.int .i64 (i:Int))) 9) h KH=KH (.vp v.e 0) h:=by
 have hk:=(List.getElem?_eq_some_iff.1 hv).1
 rw[im,Int.toNat_natCast,List.getElem?_map,hv,List.length_map]
 apply propext
 constructor
 ·rintro⟨-,-,h⟩;exact(h _ rfl).2
 ·intro hk';exact⟨by omega,by omega,fun d hd=>by cases hd;exact⟨rfl,hk'⟩⟩
theorem QU {P:Program}{v:Ev}{h:Heap}{KH:HK}:ab P (.ld (.c (.vp v.e 0)) 9 true) h KH=KH v.e h:=by
 rw[gY,cn]
 have e1:(v.e.cells.drop 0).take 9=v.cs:=rfl
 have e2:v.e.cells.length=9:=rfl
 rw[e1,e2];simp[Ev.e]
theorem Ob {P:Program}{v w:Ev}{h:Heap}{KH:HK}:ab P (.eqv true true [.i,.i,.i,.i,.i,.i,.i,.i,.i] (.c v.e) (.c w.e)) h KH=KH (.bool (!decide (v=w))) h:=by
 rw[Ig]
 have e:eqCells [.i,.i,.i,.i,.i,.i,.i,.i,.i] v.e.cells w.e.cells=some (decide (v=w)):=by
  obtain⟨a1,a2,a3,a4,a5,a6,a7,a8,a9⟩:=v
  obtain⟨b1,b2,b3,b4,b5,b6,b7,b8,b9⟩:=w
  simp[eqCells,Ev.e,Ev.cs,Ev.mk.injEq]
 unfold veqv
 rw[e]
 simp[Ev.e]
theorem MD {w:List Ev}(hl:w.length<=1000000):aF PP fB [.sl (w.map Ev.e),.sl (w.map Ev.e)] (· = .bool true):=by
 refine bg qB (aA _ _ _) rfl (qu _ _ _) ?_
 (unfold lH;try dsimp only[xL,yL,xF,yF,xI,yI,xS,zI,zJ])
 simp only[jf,List.length_map,↓cq,decide_true,Bool.not_true,↓ae]
 refine⟨fun _ _=>True,fun _ _ _=>bM.mpr rfl,?_⟩
 (unfold jg;try dsimp only[xL,yL,xF,yF,xI,yI,xS,zI,zJ])
 refine⟨fun k qs _=>∃i:Nat,qs=[.int .i64 (i:Int)]/\k+i=w.length,w.length,⟨0,rfl,by omega⟩,?_⟩
 rintro k f h ⟨i,hf,hki⟩
 simp only[List.cons.injEq,and_true]at hf
 rw[hf,jf,List.length_map,bK]
 by_cases hi:i<w.length
 case neg=>simp only[show ¬((i:Int)<(w.length:Int)) by omega,decide_false,↓ae,ai,true_and]
 have hv:=List.getElem?_eq_getElem hi
 simp only[show((i:Int)<(w.length:Int)) by omega,decide_true,↓af,↓fh,↓bL,↓ER hv,↓QU,↓Oj,↓Ob,Bool.not_true,↓ae]
 rw[bp,GB (i:=i) (by omega)]
 exact⟨by simp,k-1,by omega,i+1,rfl,by omega⟩
structure U3 (it:It):Prop where
 r:it.regs.length<=1000
 p:OY it.priv
theorem RB {it:It}(hb:U3 it):aF PP oM [it.e,it.e] (· = .bool true):=by
 refine bg C5 (aA _ _ _) rfl (CL _ _ _) ?_
 (unfold xT;try dsimp only[xL,yL,xF,yF,xI,yI,xS,zI,zJ])
 rw[cX,kr OV (show it.e.cells.all D.one=true from rfl),kr (by simp) (show it.e.cells.all D.one=true from rfl)]
 obtain⟨H,hH⟩:∃H,H=LH.h ([]++[Slot.box it.e]++[.box it.e]):=⟨_,rfl⟩
 rw[<- hH]
 have b0:H 0=.box (.agg it.cs):=by rw[hH];rfl
 have b1:H 1=.box (.agg it.cs):=by rw[hH];rfl
 have u0:(H 0).used=true:=by rw[b0];rfl
 have u1:(H 1).used=true:=by rw[b1];rfl
 have hr:=hb.r
 simp only[List.length_nil,List.nil_append,List.length_singleton,↓ba u0,↓ba u1,Nat.zero_add,↓eR b0 (j:=0) rfl,↓eR b1 (j:=0) rfl,↓eR b0 (j:=1) rfl,↓eR b1 (j:=1) rfl,↓eR b0 (j:=2) rfl,↓eR b1 (j:=2) rfl,↓eR b0 (j:=3) rfl,↓eR b1 (j:=3) rfl,↓eR b0 (j:=4) rfl,↓eR b1 (j:=4) rfl,↓aM,decide_true,↓Hv,↓dh,true_and]
 refine bc (GI (by omega)) ⟨F1,F1,trivial⟩ ?_
 simp only[↓dh,↓Hv,↓ba u0,↓ba u1,Nat.zero_add,↓eR b0 (j:=5) rfl,↓eR b1 (j:=5) rfl,true_and]
 refine bc (Ga hb.p) ⟨eg,eg,trivial⟩ ?_
 simp only[↓dh,↓Hv,↓ba u0,↓ba u1,Nat.zero_add,↓eR b0 (j:=6) rfl,↓eR b1 (j:=6) rfl,true_and]
 refine bc (GI (w:=[]) (by simp)) ⟨eg,eg,trivial⟩ ?_
 exact bM.mpr rfl
structure Vy (r:pE):Prop where
 it:U3 r.it
 g:OY r.g
 s:OY r.s
 ev:r.ev.length<=1000000
abbrev F9 (r:pE):List D:=[.int .i64 r.it.id,.int .i64 r.it.at_,.int .i64 r.it.block,.int .i64 r.it.epoch,words r.it.regs,aR r.it.priv,.sl [],aR r.g,aR r.s,.sl (r.ev.map Ev.e),.int .i64 r.e]
theorem Rm (r:pE):(eH r).cells.all D.one=true:=rfl
theorem pE.bZ (r:pE):wE (eH r):=cT (by simp[words,aR])
theorem Ot {n:Int}:aF PP mc [.int .i64 n] (· = (fX n).e):=by
 refine bg Ft (aA _ _ _) rfl (Fa _ _) ?_
 (unfold Bw;try dsimp only[xL,yL,xF,yF,xI,yI,xS,zI,zJ])
 rw[cX]
 simp[ic,ku,h_stp,h_ldp,kS,xA,DU,fF,fillD,cn]
 exact iG (dX.bZ ⟨2,n,0⟩) rfl
theorem Ov {v:Int}:aF PP me [.int .i32 v] (· = (Const v).e):=by
 refine bg Fu (aA _ _ _) rfl (Fb _ _) ?_
 (unfold By;try dsimp only[xL,yL,xF,yF,xI,yI,xS,zI,zJ])
 rw[cX]
 simp[ic,ku,h_stp,h_ldp,kS,xA,DU,fF,fillD,cn]
 exact iG (dX.bZ ⟨1,0,v⟩) rfl
theorem RQ {it:It}{o:dX}(ho:wv it.regs.length o):aF PP cR [it.e,o.e] (· = .int .i32 (aX it.regs o)):=by
 refine fZ (Kg (KH:=Fj (· = .int .i32 (aX it.regs o))) (h:=aC) (dR:=words it.regs) (by rfl) (Or.inl rfl) ho fun h' _=>?_)
 exact eh (by simp) (by simp) (.refl _) (aH rfl).d rfl
section
variable {h0 h:Heap}{ro0 ro:Ro}{L:List (Nat×D)}{KH:HK}
theorem bH.box (B:bH h0 ro0 h ro L){d:D}(ho:aw d) (hK:∀n h' ro',bH h0 ro0 h' ro' ((n,d)::L)->KH (.ptr n 0 0) h'):ab PP (.box (.c d)) h KH:=by
 rw[cJ]
 exact⟨ho,fun n t=>hK n _ _ (B.push t.free d)⟩
theorem bH.alloc (B:bH h0 ro0 h ro L){d:D}(hK:∀n h' ro',bH h0 ro0 h' ro' ((n,d)::L)->KH (.ptr n 0 0) h'):ab PP (.alloc d) h KH:=by
 rw[bQ]
 exact fun n t=>hK n _ _ (B.push t.free d)
theorem bH.lf (B:bH h0 ro0 h ro L) (i:Nat){n s:Nat}{cs cs':List D}(hi:L[i]?=some (n,.agg cs)) (hl:cs.length=s) (hl':cs'.length=s) (ho:∀x,x∈cs'->x.one=true)
  (hK:∀h',bH h0 ro0 h' ro (L.set i (n,.agg cs'))->KH .undef h'):ab PP (.st (.c (.ptr n 0 0)) (.c (.agg cs')) s) h KH:=by
 rw[Go.Am.lf (B.get i hi) hl hl' ho]
 exact hK _ (B.av i hi _)
theorem bH.HH (B:bH h0 ro0 h ro L) (i:Nat){n j:Nat}{cs:List D}{d:D}(hi:L[i]?=some (n,.agg cs)) (hj:j<cs.length) (ho:d.one=true)
  (hK:∀h',bH h0 ro0 h' ro (L.set i (n,.agg (cs.set j d)))->KH .undef h'):ab PP (.st (.c (.ptr n 0 j)) (.c d) 1) h KH:=by
 rw[Go.Am.HH (B.get i hi) hj ho]
 exact hK _ (B.av i hi _)
theorem bH.db (B:bH h0 ro0 h ro L) (i:Nat){n s:Nat}{d:D}(hi:L[i]?=some (n,d)) (hd:d=.agg d.cells) (hl:d.cells.length=s):ab PP (.ld (.c (.ptr n 0 0)) s true) h KH=KH d h:=by
 have:=B.get i hi
 rw[hd]at this
 rw[<- hl,Go.Am.db this, <- hd]
theorem bH.rD (B:bH h0 ro0 h ro L) (i:Nat){n j s:Nat}{d e:D}(hi:L[i]?=some (n,d)) (he:D.agg ((d.cells.drop j).take s)=e) (hd:d=.agg d.cells) (hl:j+s<=d.cells.length):ab PP (.ld (.c (.ptr n 0 j)) s true) h KH=KH e h:=by
 have:=B.get i hi
 rw[hd]at this
 rw[Go.Am.rD this hl, <- he]
theorem bH.bY (B:bH h0 ro0 h ro L) (i:Nat){n j:Nat}{d e:D}(hi:L[i]?=some (n,d)) (he:d.cells[j]?=some e) (hd:d=.agg d.cells):ab PP (.ld (.c (.ptr n 0 j)) 1 false) h KH=KH e h:=by
 have:=B.get i hi
 rw[hd]at this
 exact eR this he
end
abbrev kY:Ro:=fun _=>lV.no
theorem bH.start:bH aC kY aC kY []:=bH.nil
theorem pc (l:dk):aw l.e:=List.all_eq_true.1 (dk.on l)
theorem dk.bZ (l:dk):wE l.e:=cT (by simp[words])
theorem lZ (r:pE):aw (eH r):=List.all_eq_true.1 (Rm r)
theorem An {c:Code}{l:dk}{r:pE}{av:Int}(hc:bj c) (hl:js c l) (hi:L0 c l r.it) (hg:fY c.arrays 1 r.g) (hs:fY c.arrays 2 r.s) :
  aF PP cQ [c.e,l.e,eH r,.int .i64 av] (· = eH (bS c l r.it r.g r.s av)):=by
 refine bg Df (aA _ _ _) rfl (CV _ _ _ _ _) ?_
 (unfold yh;try dsimp only[xL,yL,xF,yF,xI,yI,xS,zI,zJ])
 refine bH.start.box (jG c).2 fun n1 h1 ro1 B=>?_
 refine B.box (pc l) fun n2 h2 ro2 B=>?_
 refine B.box (lZ r) fun n3 h3 ro3 B=>?_
 refine B.alloc fun n4 h4 ro4 B=>?_
 have u:=B.used 1 rfl
 simp only[B.db (s:=8) 3 rfl rfl rfl,B.db (s:=2) 2 rfl rfl rfl,↓ba u,Nat.zero_add,B.rD 1 (j:=0) (s:=7) (e:=r.it.e) rfl rfl rfl (Nat.le_of_ble_eq_true rfl),B.bY 1 (j:=7) rfl rfl rfl,B.bY 1 (j:=8) rfl rfl rfl]
 refine bc (RR hc hl hi hg hs) ⟨Code.bZ c,dk.bZ l,It.bZ _,eg,eg,bf,trivial⟩ ?_
 simp only[Rp,h_ext,List.getElem?_cons_succ,List.getElem?_cons_zero]
 refine B.alloc fun n5 h5 ro5 B=>?_
 obtain⟨q,hq⟩:∃q,q=bS c l r.it r.g r.s av:=⟨_,rfl⟩
 rw[<- hq]
 refine B.lf 0 (cs':=q.it.cs) rfl rfl rfl (It.bZ _).one fun h6 B=>?_
 rw[B.db (s:=7) 0 rfl rfl rfl,cI rfl]
 refine B.lf 1 (cs':=F9 q) rfl rfl rfl (lZ q) fun h7 B=>?_
 rw[B.db (s:=11) 1 rfl rfl rfl]
 exact iG (pE.bZ q) rfl
def oy:It:=⟨0,0,0,0,[],[]⟩
def fV (c:Code) (l:dk) (id:Int):It×Int:=if id<0\/id≥l.groups*c.group then(oy,1) else(bD c id 0 1,0)
theorem zK {c:Code}{l:dk}{id:Int}(h:0<=id/\id<l.groups*c.group):fV c l id=(bD c id 0 1,0):=if_neg (by omega)
def tH (p:It×Int):D:=.agg (p.1.cs++[.int .i64 p.2])
theorem pe (p:It×Int):aw (tH p):=fun x hx=>by simp[tH,It.cs,words,aR]at hx;rcases hx with rfl|rfl|rfl|rfl|rfl|rfl|rfl|rfl<;>rfl
theorem Dy (p:It×Int):wE (tH p):=cT (by simp[It.cs,words,aR])
theorem DA {c:Code}{l:dk}(hc:bj c) (hl:js c l):IntKind.i64.wrap (l.groups*c.group)=l.groups*c.group/\1<=l.groups*c.group/\l.groups*c.group<=512:=by
 have h1:=hl.n
 have h2:=hc.group
 have p1:1*1<=l.groups*c.group:=Int.mul_le_mul h1.1 h2.1 (by omega) (by omega)
 have p2:l.groups*c.group<=64*8:=Int.mul_le_mul h1.2 h2.2 (by omega) (by omega)
 exact⟨wrap64 (by omega) (by omega),by omega,by omega⟩
abbrev PZ:List D:=[.int .i64 0,.int .i64 0,.int .i64 0,.int .i64 0,.nil,.nil,.nil,.int .i64 0]
theorem PA {c:Code}{l:dk}{id:Int}(hc:bj c) (hl:js c l):aF PP oT [c.e,l.e,.int .i64 id] (· = .tup [(fV c l id).1.e,.int .i64 (fV c l id).2]):=by
 refine fZ (aW Dm (aA _ _ _) rfl (C2 _ _ _ _) ?_)
 (unfold yq;try dsimp only[xL,yL,xF,yF,xI,yI,xS,zI,zJ])
 refine bH.start.box (jG c).2 fun n1 h1 ro1 B=>?_
 refine B.box (pc l) fun n2 h2 ro2 B=>?_
 refine B.alloc fun n3 h3 ro3 B=>?_
 have u1:=B.used 1 rfl
 have u2:=B.used 2 rfl
 obtain⟨g1,g2,g3⟩:=DA hc hl
 rw[bK]
 have bad:∀{L:List (Nat×D)}{ro:Ro},fV c l id=(oy,1)->bH aC kY h3 ro ((n3,.agg EE)::L) ->
   ab PP (.bld EE []) h3 fun a44 h45=>ab PP (.st (.c (.ptr n3 0 0)) (.c a44) 7) h45 fun _ h47=>ab PP (.ld (.c (.ptr n3 0 0)) 7 true) h47 fun a48 _ =>
    Fj (· = .tup [(fV c l id).1.e,.int .i64 (fV c l id).2]) (.tup [a48,.int .i64 1]) h47:=by
  intro L ro hp B
  rw[cI rfl]
  refine B.lf 0 (cs':=EE) rfl rfl rfl (by simp) fun h4 B=>?_
  rw[B.db (s:=7) 0 rfl rfl rfl]
  rw[hp]
  refine nr (.refl _) (.cons (BP.agg (.cons (aH rfl) (.cons (aH rfl) (.cons (aH rfl) (.cons (aH rfl) (.cons gh (.cons gh (.cons gh .nil)))))))) (.cons (aH rfl).d .nil)) rfl
 by_cases h1:id<0
 ·simp only[h1,decide_true,↓L2,↓dh,↓af]
  exact bad (by simp[fV,h1]) B
 simp only[h1,decide_false,↓G3,↓ba u1,↓ba u2,Nat.zero_add,B.bY 1 (j:=0) rfl rfl rfl,B.bY 2 (j:=0) rfl rfl rfl]
 simp only[↓gP]
 rw[gb,g1,iz]
 by_cases h2:id≥l.groups*c.group
 ·simp only[h2,decide_true,↓af]
  exact bad (by simp[fV,h2]) B
 simp only[h2,decide_false,↓ae,B.db (s:=8) 2 rfl rfl rfl]
 refine bc (Kf hc) ⟨Code.bZ c,bf,bf,bf,trivial⟩ ?_
 refine B.lf 0 (cs':=(bD c id 0 1).cs) rfl rfl rfl (It.bZ _).one fun h4 B=>?_
 rw[B.db (s:=7) 0 rfl rfl rfl]
 refine nr (.refl _) (.cons (gg (It.bZ _)) (.cons (aH rfl).d .nil)) ?_
 rw[zK ⟨by omega,by omega⟩];rfl
theorem Kl {c:Code}{l:dk}{id:Int}(hc:bj c) (hl:js c l):aF PP fU [c.e,l.e,.int .i64 id] (· = tH (fV c l id)):=by
 refine bg A3 (aA _ _ _) rfl (AL _ _ _ _) ?_
 (unfold uy;try dsimp only[xL,yL,xF,yF,xI,yI,xS,zI,zJ])
 refine bH.start.box (jG c).2 fun n1 h1 ro1 B=>?_
 refine B.box (pc l) fun n2 h2 ro2 B=>?_
 refine B.alloc fun n3 h3 ro3 B=>?_
 rw[B.db (s:=8) 2 rfl rfl rfl,B.db (s:=2) 1 rfl rfl rfl]
 refine bc (PA hc hl) ⟨Code.bZ c,dk.bZ l,bf,trivial⟩ ?_
 simp only[h_ext,List.getElem?_cons_succ,List.getElem?_cons_zero]
 generalize fV c l id=p
 refine B.alloc fun n5 h5 ro5 B=>?_
 refine B.lf 0 (cs':=p.1.cs) rfl rfl rfl (It.bZ _).one fun h6 B=>?_
 rw[B.db (s:=7) 0 rfl rfl rfl,cI rfl]
 refine B.lf 1 (cs':=p.1.cs++[.int .i64 p.2]) rfl rfl rfl (fun x hx=>pe p x hx) fun h7 B=>?_
 rw[B.db (s:=8) 1 rfl rfl rfl]
 exact iG (Dy p) rfl
theorem Ld {c:Code}{l:dk}{id:Int}(hc:bj c) (hl:js c l):aF PP jW [c.e,l.e,.int .i64 id] (· = tH (fV c l id)):=by
 refine fZ (aW wx (aA _ _ _) rfl (wh _ _ _ _) ?_)
 (unfold pL;try dsimp only[xL,yL,xF,yF,xI,yI,xS,zI,zJ])
 refine bH.start.box (jG c).2 fun n1 h1 ro1 B=>?_
 refine B.box (pc l) fun n2 h2 ro2 B=>?_
 refine B.alloc fun n3 h3 ro3 B=>?_
 have u1:=B.used 1 rfl
 have u2:=B.used 2 rfl
 obtain⟨g1,g2,g3⟩:=DA hc hl
 have hcr:=hc.regs
 have hcs:=hc.slots
 rw[bK]
 have bad:∀{L:List (Nat×D)}{ro:Ro},fV c l id=(oy,1)->bH aC kY h3 ro ((n3,.agg PZ)::L) ->
   ab PP (.bld PZ [(7,1,(.c (.int .i64 1)))]) h3 fun a44 h45=>ab PP (.st (.c (.ptr n3 0 0)) (.c a44) 8) h45 fun _ h47=>ab PP (.ld (.c (.ptr n3 0 0)) 8 true) h47 fun a48 _ =>
    Fj (· = tH (fV c l id)) a48 h47:=by
  intro L ro hp B
  rw[cI rfl]
  refine B.lf 0 (cs':=[.int .i64 0,.int .i64 0,.int .i64 0,.int .i64 0,.nil,.nil,.nil,.int .i64 1]) rfl rfl rfl (by simp) fun h4 B=>?_
  rw[B.db (s:=8) 0 rfl rfl rfl]
  rw[hp]
  exact eh (by simp) (by simp[tH]) (.refl _) (BP.agg (.cons (aH rfl) (.cons (aH rfl) (.cons (aH rfl) (.cons (aH rfl) (.cons gh (.cons gh (.cons gh (.cons (aH rfl) .nil))))))))) rfl
 by_cases h1:id<0
 ·simp only[h1,decide_true,↓L2,↓dh,↓af]
  exact bad (by simp[fV,h1]) B
 simp only[h1,decide_false,↓G3,↓ba u1,↓ba u2,Nat.zero_add,B.bY 1 (j:=0) rfl rfl rfl,B.bY 2 (j:=0) rfl rfl rfl]
 simp only[↓gP]
 rw[gb,g1,iz]
 by_cases h2:id≥l.groups*c.group
 ·simp only[h2,decide_true,↓af]
  exact bad (by simp[fV,h2]) B
 have hmk:∀{K:D->Prop}{n:Int},0<=n->n<=1000->K (words (List.replicate n.toNat 0))->aq PP (.mk 1 4 (.int .i32 0) (.c (.int .i64 n)) (.c (.int .i64 n))) h3 K:=fun {K n} a1 a2 hk =>
  ⟨⟨a1,by omega,by omega,by omega⟩,⟨rfl,by simp⟩,by rw[zN];exact hk⟩
 simp only[h2,decide_false,↓ae,↓aE,u2,Nat.zero_add,↓bL,B.bY 2 (j:=2) rfl rfl rfl,true_and]
 refine hmk (by omega) (by omega) ?_
 simp only[↓aE,u2,Nat.zero_add,↓bL,B.bY 2 (j:=5) rfl rfl rfl,true_and]
 refine iK (I9 hc 3) ⟨eg,bf,trivial⟩ ?_
 simp only[↓aE,u2,Nat.zero_add,↓bL,B.bY 2 (j:=3) rfl rfl rfl,true_and]
 refine hmk (by omega) (by omega) ?_
 rw[gZ rfl,gZ rfl]
 have e:∀d:D,d=tH (bD c id 0 1,0)->ab PP (.st (.c (.ptr n3 0 0)) (.c d) 8) h3 fun _ h61=>ab PP (.ld (.c (.ptr n3 0 0)) 8 true) h61 fun a62 _=>Fj (· = tH (fV c l id)) a62 h61:=by
  rintro _ rfl
  refine B.lf 0 (cs':=(bD c id 0 1).cs++[.int .i64 0]) rfl rfl rfl (fun x hx=>pe (bD c id 0 1,0) x hx) fun h4 B=>?_
  rw[B.db (s:=8) 0 rfl rfl rfl]
  refine eh (by simp) (by simp[tH]) (.refl _) (gg (Dy (bD c id 0 1,0))) ?_
  exact congrArg tH (zK ⟨by omega,by omega⟩).symm
 exact e _ (by rw[hcs];rfl)
end Go.Am
namespace Go.Am
open Go
section
variable {h0 h:Heap}{ro0 ro:Ro}{L:List (Nat×D)}{KH:HK}
theorem bH.EZ (B:bH h0 ro0 h ro L){d:D}(hK:∀n h' ro',cv h ro h' ro'->bH h0 ro0 h' ro' ((n,d)::L)->KH (.ptr n 0 0) h'):ab PP (.alloc d) h KH:=by
 rw[bQ]
 exact fun n t=>hK n _ _ (cv.new t.free _) (B.push t.free d)
theorem bH.HI (B:bH h0 ro0 h ro L) (i:Nat){n s:Nat}{cs cs':List D}(hi:L[i]?=some (n,.agg cs)) (hl:cs.length=s) (hl':cs'.length=s) (ho:∀x,x∈cs'->x.one=true)
  (hK:∀h',cv h ro h' ro->bH h0 ro0 h' ro (L.set i (n,.agg cs'))->KH .undef h'):ab PP (.st (.c (.ptr n 0 0)) (.c (.agg cs')) s) h KH:=by
 rw[Go.Am.lf (B.get i hi) hl hl' ho]
 exact hK _ (cv.av (by rw[B.rn i hi];rfl)) (B.av i hi _)
theorem bH.FN (B:bH h0 ro0 h ro L) (i:Nat){n j:Nat}{cs:List D}{d:D}(hi:L[i]?=some (n,.agg cs)) (hj:j<cs.length) (ho:d.one=true)
  (hK:∀h',cv h ro h' ro->bH h0 ro0 h' ro (L.set i (n,.agg (cs.set j d)))->KH .undef h'):ab PP (.st (.c (.ptr n 0 j)) (.c d) 1) h KH:=by
 rw[Go.Am.HH (B.get i hi) hj ho]
 exact hK _ (cv.av (by rw[B.rn i hi];rfl)) (B.av i hi _)
theorem bH.Ue (B:bH h0 ro0 h ro L) (i:Nat){n j:Nat}{a:Int}{d:D}(hi:L[i]?=some (n,d)) (ha:0<=a/\a<2):ab PP (.iadda (.c (.ptr n 0 j)) (.c (.int .i64 a)) 2 1) h KH=KH (.ptr n 0 (j+a.toNat)) h :=
 H9 (i:=a.toNat) (by omega) (by omega) (B.get i hi)
theorem MJ {q i:Nat}{w:List Int}{v:Int}(hq:h q=.arr 1 (wr w)) (hi:i<w.length) (hK:KH .undef (ah h q (.arr 1 (wr (w.set i v))))) :
  ab PP (.iadd (.c (.ms q 0 w.length)) (.c (.int .i64 (i:Int))) 1) h fun a h1=>ab PP (.st (.c a) (.c (.int .i32 v)) 1) h1 KH:=by
 simp only[↓bF,hq,Slot.row]
 refine⟨by omega,by omega,⟨_,rfl⟩,?_⟩
 rw[dq,hq]
 refine⟨rfl,by simp,by simp[wr];omega,by simp,fun d hd=>?_⟩
 have e:setCells d 0 (D.int .i32 v).cells=.int .i32 v:=by
  rw[DH,Option.map_eq_some_iff]at hd
  obtain⟨z,-,rfl⟩:=hd
  rfl
 rw[e,show 0+((i:Int)).toNat=i by omega,DG]
 exact hK
end
theorem na.f1 {h:Heap}{ro:Ro}{r:lV}{d:D}{w:List Int}(x:na h ro r d w):wG h d (words w):=by
 rcases x with rfl|⟨q,rfl,h2,-⟩
 ·exact aH rfl
 ·have:=dt h2 (KO w)
  rw[mO]at this;exact this
theorem na.one {h:Heap}{ro:Ro}{r:lV}{d:D}{w:List Int}(x:na h ro r d w):d.one=true:=by rcases x with rfl|⟨q,rfl,-,-⟩<;>rfl
theorem Hx.dst {N:Nat}{R:Int}{t:Term}(h:Hx N R t) (h4:t.kind=4):∃r:Nat,t.d.n=(r:Int)/\(r:Int)<R:=by
 cases h with
 | collect s d a b t hs hd ha hb h =>
  obtain⟨r,r1,r2,rfl⟩:=hd
  exact⟨r.toNat,(by show r=_;omega),by omega⟩
 | _=>simp at h4
theorem w9 {c:Code}{it:It}{v:Int}(h:it.at_≠2):l7 c it v=(it,1):=if_pos h
theorem nu {c:Code}{it:It}{v:Int}(h:it.at_=2):l7 c it v=(⟨it.id,1,(dg c it.block).to0,it.epoch,if(dg c it.block).kind=4 then it.regs.set (dg c it.block).d.n.toNat v else it.regs,it.priv⟩,0):=by
 unfold l7;rw[if_neg (by simp[h])]
theorem RS {c:Code}{l:dk}{it:It}{v:Int}(hc:bj c) (hi:L0 c l it):aF PP rf [c.e,it.e,.int .i32 v] (· = .tup [(l7 c it v).1.e,.int .i64 (l7 c it v).2]):=by
 refine fZ (aW Fz (aA _ _ _) rfl (Fh _ _ _ _) ?_)
 (unfold BD;try dsimp only[xL,yL,xF,yF,xI,yI,xS,zI,zJ])
 refine bH.start.box (jG c).2 fun n1 h1 ro1 B=>?_
 refine B.box it.bZ.one fun n2 h2 ro2 B=>?_
 refine B.alloc fun n3 h3 ro3 B=>?_
 have u1:=B.used 1 rfl
 have u2:=B.used 2 rfl
 simp only[↓ba u1,Nat.zero_add,B.bY 1 (j:=1) rfl rfl rfl,↓cq]
 by_cases ha:it.at_=2
 case neg =>
  simp only[ha,decide_false,Bool.not_false,↓af,B.db (s:=7) 1 rfl rfl rfl]
  refine B.lf 0 (cs':=it.cs) rfl rfl rfl (It.bZ _).one fun h4 B=>?_
  rw[B.db (s:=7) 0 rfl rfl rfl,w9 ha]
  exact nr (.refl _) (.cons (gg (It.bZ _)) (.cons (aH rfl).d .nil)) rfl
 obtain⟨k,Q,hbk,hQ,hQm,ht,-⟩:=hc.OA hi.block
 obtain⟨-,-,hT⟩:=hc.xs Q hQm
 have hat:∀{g':Heap}{K:HK},ab PP (.iadd (.c (.sl (c.b.map Block.e))) (.c (.int .i64 it.block)) 14) g' K=K (.vp Q.e 0) g':=fun {g' K}=>by rw[hbk,rR hQ]
 simp only[ha,decide_true,Bool.not_true,↓ae,↓ba u1,↓ba u2,Nat.zero_add,B.bY 2 (j:=7) rfl rfl rfl,B.bY 1 (j:=2) rfl rfl rfl,hat,↓ig,↓Ky]
 refine B.alloc fun n4 h4 ro4 B=>?_
 refine B.lf 0 (cs':=Q.t.cs) rfl rfl rfl (Term.bZ _).one fun h5 B=>?_
 have u1:=B.used 2 rfl
 have u0:=B.used 0 rfl
 simp only[↓aE,u1,u0,Nat.zero_add,Nat.add_zero,true_and,↓DD,B.Ue 0 (j:=11) (a:=0) rfl ⟨by omega,by omega⟩,↓bL,Int.toNat_zero,B.bY 0 (j:=11) rfl rfl rfl]
 refine B.HH 2 (cs:=it.cs) rfl (by simp[It.cs]) rfl fun h6 B=>?_
 simp only[B.Ue 0 (j:=11) (a:=0) rfl ⟨by omega,by omega⟩,↓bL,Int.toNat_zero,Nat.add_zero,B.bY 0 (j:=11) rfl rfl rfl,ai,true_and,and_true]
 refine B.HH 2 (cs:=it.cs.set 1 (.int .i64 1)) rfl (by simp[It.cs]) rfl fun h7 B=>?_
 simp only[B.Ue 0 (j:=11) (a:=0) rfl ⟨by omega,by omega⟩,↓bL,Int.toNat_zero,Nat.add_zero,B.bY 0 (j:=11) rfl rfl rfl,ai,true_and,and_true]
 have B:bH aC kY h7 ro4 [(n4,Q.t.e),(n3,.agg EE),(n2,.agg [.int .i64 it.id,.int .i64 1,.int .i64 Q.t.to0,.int .i64 it.epoch,words it.regs,aR it.priv,.sl []]),(n1,c.e)]:=B
 refine⟨fun _ h'=>∃(ro':Ro) (dR:D) (w:List Int),bH aC kY h' ro' [(n4,Q.t.e),(n3,.agg EE),(n2,.agg [.int .i64 it.id,.int .i64 1,.int .i64 Q.t.to0,.int .i64 it.epoch,dR,aR it.priv,.sl []]),(n1,c.e)]/\na h' ro' .regs dR w /\
  l7 c it v=(⟨it.id,1,Q.t.to0,it.epoch,w,it.priv⟩,0),?_,?_⟩
 ·rintro _ h' ⟨ro',dR,w,B,R,hp⟩
  have oR:=R.one
  rw[B.db (s:=7) 2 rfl rfl rfl]
  refine B.HI 1 (cs':=[.int .i64 it.id,.int .i64 1,.int .i64 Q.t.to0,.int .i64 it.epoch,dR,aR it.priv,.sl []]) rfl rfl rfl (by simp[oR,aR]) fun h8 kp B=>?_
  rw[B.db (s:=7) 1 rfl rfl rfl,hp]
  have R:=R.aD kp rfl
  exact nr (.refl _) (.cons (BP.agg (.cons (aH rfl) (.cons (aH rfl) (.cons (aH rfl) (.cons (aH rfl) (.cons R.f1 (.cons (aH rfl) (.cons (aH rfl) .nil)))))))) (.cons (aH rfl).d .nil)) rfl
 have u0:=B.used 0 rfl
 have u1:=B.used 2 rfl
 simp only[↓ba u0,Nat.zero_add,B.bY 0 (j:=0) rfl rfl rfl,↓aM]
 by_cases h4:Q.t.kind=4
 case neg =>
  simp only[h4,decide_false,↓ae,ai,true_and]
  exact⟨ro4,words it.regs,it.regs,B,Or.inl rfl,by rw[nu ha,ht,if_neg h4]⟩
 obtain⟨r,hr1,hr2⟩:=hT.dst h4
 have hrl:=hi.len
 have hcr:=hc.regs
 simp only[h4,decide_true,↓af,↓ba u1,Nat.zero_add,B.bY 2 (j:=4) rfl rfl rfl]
 refine GO (w:=it.regs) (by rintro e;rw[e]at hrl;simp at hrl;omega) (by omega) fun q h8 hq hq2 hk8=>?_
 have x8:fw h7 ro4 h8 (ah ro4 q .regs):=fun k hk=>⟨hk8 k hk,aa _ _ (by rintro rfl;exact hk hq)⟩
 have B:=B.step x8.fr
 have rq:ah ro4 q .regs q=.regs:=ad _ _ _
 generalize ah ro4 q .regs=ro8 at B rq x8
 simp only[↓ba (B.used 2 rfl),Nat.zero_add]
 refine B.FN 2 (j:=4) rfl (by simp) rfl fun h9 kp B=>?_
 have hq9:h9 q=.arr 1 (wr it.regs):=by rw[(kp q (by rw[hq2];simp) (by rw[rq];rfl)).1];exact hq2
 simp only[↓ba (B.used 2 rfl),↓ba (B.used 0 rfl),Nat.zero_add,Nat.reduceAdd,B.bY 2 (j:=4) rfl rfl rfl,B.bY 0 (j:=3) rfl rfl rfl,hr1]
 refine MJ (w:=it.regs) hq9 (by omega) ?_
 refine⟨ro8,.ms q 0 it.regs.length,it.regs.set r v,B.step (Fr.av (by rw[rq];simp) (by simp)),Or.inr ⟨q,by simp,ad _ _ _,rq⟩,?_⟩
 rw[nu ha,ht,if_pos h4,hr1];rfl
theorem Sf {c:Code}{l:dk}{it:It}{v:Int}(hc:bj c) (hi:L0 c l it):aF PP kO [c.e,it.e,.int .i32 v] (· = tH (l7 c it v)):=by
 refine bg Dg (aA _ _ _) rfl (CW _ _ _ _) ?_
 (unfold yj;try dsimp only[xL,yL,xF,yF,xI,yI,xS,zI,zJ])
 refine bH.start.box (jG c).2 fun n1 h1 ro1 B=>?_
 refine B.box it.bZ.one fun n2 h2 ro2 B=>?_
 refine B.alloc fun n3 h3 ro3 B=>?_
 rw[B.db (s:=8) 2 rfl rfl rfl,B.db (s:=7) 1 rfl rfl rfl]
 refine bc (RS hc hi) ⟨Code.bZ c,It.bZ it,bf,trivial⟩ ?_
 simp only[h_ext,List.getElem?_cons_succ,List.getElem?_cons_zero]
 generalize l7 c it v=p
 refine B.alloc fun n5 h5 ro5 B=>?_
 refine B.lf 0 (cs':=p.1.cs) rfl rfl rfl (It.bZ _).one fun h6 B=>?_
 rw[B.db (s:=7) 0 rfl rfl rfl,cI rfl]
 refine B.lf 1 (cs':=p.1.cs++[.int .i64 p.2]) rfl rfl rfl (fun x hx=>pe p x hx) fun h7 B=>?_
 rw[B.db (s:=8) 1 rfl rfl rfl]
 exact iG (Dy p) rfl
theorem TF {h:Heap}{ro:Ro}{dR dP dL:D}{w:List Int}{m:Mm}(R:nU h ro dR w) (P:oe h ro 3 dP m) (S:KI h ro dL):∃h'',Gy h h''/\wG h'' dR (words w)/\wG h'' dP (aR m)/\wG h'' dL (.sl []):=by
 obtain⟨k,els,rfl,y⟩:=P
 obtain⟨p1,p2,p3⟩:=y.Ko
 have far:∀j,(ro j=.regs\/ro j=.sl)->eM h k 1 els j=h j:=fun j hj=>p3 j (fun i e=>by rw[e]at hj;simp at hj) (by rintro rfl;rw[y.rk]at hj;simp at hj)
 refine⟨eM h k 1 els,.step y.hk p1 (.refl _),?_,?_,?_⟩
 ·obtain⟨q,rfl,g1,g2⟩:=R
  have:=dt (h:=eM h k 1 els) (n:=q) (e:=1) (els:=wr w) (by rw[far q (Or.inl g2)];exact g1) (KO _)
  rw[mO]at this
  exact this
 ·have:=dt (h:=eM h k 1 els) (n:=k) (e:=1) (els:=m.map words) (by rw[kZ,p2]) (fun z hz w hw=>by
   simp only[List.mem_map]at hz
   obtain⟨z,-,rfl⟩:=hz
   simp[words]at hw;subst hw;rfl)
  rw[List.length_map]at this
  exact this
 ·rcases S with rfl|rfl|⟨q,rfl,g1,g2⟩
  ·exact gh
  ·exact aH rfl
  ·exact dt (els:=[]) (by rw[far q (Or.inr g2)];exact g1) (by simp)
theorem MW {c:Code}{l:dk}{it:It}{v:Int}(hc:bj c) (hi:L0 c l it):aF PP lx [c.e,it.e,.int .i32 v] (· = tH (l7 c it v)):=by
 refine fZ (aW yV (aA _ _ _) rfl (xU _ _ _ _) ?_)
 (unfold rY;try dsimp only[xL,yL,xF,yF,xI,yI,xS,zI,zJ])
 refine bH.start.box (jG c).2 fun n1 h1 ro1 B=>?_
 refine B.box it.bZ.one fun n2 h2 ro2 B=>?_
 refine B.alloc fun n3 h3 ro3 B=>?_
 have u1:=B.used 1 rfl
 have u2:=B.used 2 rfl
 simp only[↓ba u1,Nat.zero_add,B.bY 1 (j:=1) rfl rfl rfl,↓cq]
 by_cases ha:it.at_=2
 case neg =>
  simp only[ha,decide_false,Bool.not_false,↓af,B.db (s:=7) 1 rfl rfl rfl]
  rw[cI rfl]
  refine B.lf 0 (cs':=it.cs++[.int .i64 1]) rfl rfl rfl (fun x hx=>pe (it,1) x hx) fun h4 B=>?_
  rw[B.db (s:=8) 0 rfl rfl rfl,w9 ha]
  exact eh (by simp) (by simp[tH]) (.refl _) (gg (Dy (it,1))) rfl
 obtain⟨k,Q,hbk,hQ,hQm,ht,-⟩:=hc.OA hi.block
 obtain⟨-,-,hT⟩:=hc.xs Q hQm
 have hat:∀{g':Heap}{K:HK},ab PP (.iadd (.c (.sl (c.b.map Block.e))) (.c (.int .i64 it.block)) 14) g' K=K (.vp Q.e 0) g':=fun {g' K}=>by rw[hbk,rR hQ]
 simp only[ha,decide_true,Bool.not_true,↓ae,↓ba u1,↓ba u2,Nat.zero_add,B.bY 2 (j:=7) rfl rfl rfl,B.bY 1 (j:=2) rfl rfl rfl,hat,↓ig,↓Ky]
 refine B.alloc fun n4 h4 ro4 B=>?_
 refine B.lf 0 (cs':=Q.t.cs) rfl rfl rfl (Term.bZ _).one fun h5 B=>?_
 rw[B.db (s:=7) 2 rfl rfl rfl]
 have hrl:=hi.len
 have hcr:=hc.regs
 refine HT (ro:=ro4) (it:=it) (by omega) (hi.priv.b hc) fun dR dP dL h6 ro6 x6 R6 P6 L6=>?_
 have B:=B.step x6.fr
 have oR:=R6.one
 have oP:=P6.one
 have oL:=L6.one
 refine B.EZ fun n5 h7 ro7 kp B=>?_
 have R7:=R6.aD kp
 have P7:=P6.aD kp
 have L7:=L6.aD kp
 refine B.HI 0 (cs':=qt it dR dP dL) rfl rfl rfl (by simp[oR,oP,oL]) fun h8 kp B=>?_
 have R8:=R7.aD kp
 have P8:=P7.aD kp
 have L8:=L7.aD kp
 have B:bH aC kY h8 ro7 [(n5,.agg (qt it dR dP dL)),(n4,Q.t.e),(n3,.agg PZ),(n2,it.e),(n1,c.e)]:=B
 refine⟨fun _ h'=>∃(ro':Ro) (w:List Int),bH aC kY h' ro' [(n5,.agg (qt it dR dP dL)),(n4,Q.t.e),(n3,.agg PZ),(n2,it.e),(n1,c.e)]/\nU h' ro' dR w/\oe h' ro' 3 dP it.priv/\KI h' ro' dL /\
  l7 c it v=(⟨it.id,1,Q.t.to0,it.epoch,w,it.priv⟩,0),?_,?_⟩
 ·rintro _ h' ⟨ro',w,B,R,P,S,hp⟩
  simp only[↓ba (B.used 0 rfl),Nat.zero_add]
  refine B.FN 0 (j:=1) rfl (by simp) rfl fun h9 kp B=>?_
  have R:=R.aD kp
  have P:=P.aD kp
  have S:=S.aD kp
  simp only[↓ba (B.used 1 rfl),Nat.zero_add,B.Ue 1 (j:=11) (a:=0) rfl ⟨by omega,by omega⟩,Int.toNat_zero,Nat.add_zero,B.bY 1 (j:=11) rfl rfl rfl,↓ba (B.used 0 rfl)]
  refine B.FN 0 (j:=2) rfl (by simp) rfl fun h10 kp B=>?_
  have R:=R.aD kp
  have P:=P.aD kp
  have S:=S.aD kp
  rw[B.db (s:=7) (d:=.agg [.int .i64 it.id,.int .i64 1,.int .i64 Q.t.to0,.int .i64 it.epoch,dR,dP,dL]) 0 rfl rfl rfl,ku]
  refine⟨fun p hp=>?_,?_⟩
  ·simp only[List.map_cons,List.map_nil,List.mem_cons,List.not_mem_nil,or_false,NM]at hp
   subst hp
   exact⟨rfl,by simp,by simp[oR,oP,oL]⟩
  refine B.HI 2 (cs':=[.int .i64 it.id,.int .i64 1,.int .i64 Q.t.to0,.int .i64 it.epoch,dR,dP,dL,.int .i64 0]) rfl rfl rfl (by simp[oR,oP,oL]) fun h11 kp B=>?_
  have R:=R.aD kp
  have P:=P.aD kp
  have S:=S.aD kp
  rw[B.db (s:=8) 2 rfl rfl rfl,hp]
  obtain⟨h12,i1,i2,i3,i4⟩:=TF R P S
  exact eh (by simp) (by simp[tH]) i1 (BP.agg (.cons (aH rfl) (.cons (aH rfl) (.cons (aH rfl) (.cons (aH rfl) (.cons i2 (.cons i3 (.cons i4 (.cons (aH rfl) .nil))))))))) rfl
 simp only[↓ba (B.used 1 rfl),Nat.zero_add,B.bY 1 (j:=0) rfl rfl rfl,↓aM]
 by_cases h4:Q.t.kind=4
 case neg =>
  simp only[h4,decide_false,↓ae,ai,true_and]
  exact⟨ro7,it.regs,B,R8,P8.r,L8,by rw[nu ha,ht,if_neg h4]⟩
 obtain⟨r,hr1,hr2⟩:=hT.dst h4
 simp only[h4,decide_true,↓af,↓ba (B.used 0 rfl),↓ba (B.used 1 rfl),Nat.zero_add,Nat.reduceAdd,B.bY 0 (j:=4) rfl rfl rfl,B.bY 1 (j:=3) rfl rfl rfl,hr1]
 obtain⟨q,rfl,hq2,rq⟩:=R8
 refine MJ (w:=it.regs) hq2 (by omega) ?_
 have kq:kF (fun r=>r≠.regs) h8 ro7 (ah h8 q (.arr 1 (wr (it.regs.set r v)))) ro7:=fun k _ hr=>by
  rw[aa _ _ (by rintro rfl;exact hr rq)];exact⟨rfl,rfl⟩
 refine⟨ai.symm ▸ trivial,ro7,it.regs.set r v,B.step (Fr.av (by rw[rq];simp) (by simp)),⟨q,by simp,ad _ _ _,rq⟩,(P8.dj kq (by simp) (by simp)).r,?_,?_⟩
 ·rcases L8 with rfl|rfl|⟨p,rfl,g1,g2⟩
  ·exact Or.inl rfl
  ·exact Or.inr (Or.inl rfl)
  ·exact Or.inr (Or.inr ⟨p,rfl,by rw[aa _ _ (by rintro rfl;rw[rq]at g2;cases g2)];exact g1,g2⟩)
 rw[nu ha,ht,if_pos h4,hr1];rfl
end Go.Am
namespace Go.Am
open Go
theorem bH.tail {h0 h:Heap}{ro0 ro:Ro}{L:List (Nat×D)}{p:Nat×D}(B:bH h0 ro0 h ro (p::L)):bH h0 ro0 h ro L :=
 ⟨(List.nodup_cons.1 B.nd).2,fun x hx=>B.at_ x (List.mem_cons_of_mem _ hx),B.fr⟩
def fA (a:bO):bO:={ a with len:=max (a.len / 2) 1 }
def ma (c:Code):Code:={ c with arrays:=c.arrays.map fA }
theorem Je {α:Type}(f:α->α) (l:List α) (i:Nat) (h:i<l.length):((l.take i).map f++l.drop i).set i (f l[i])=(l.take (i+1)).map f++l.drop (i+1):=by
 have e:(l.take i).length=i:=List.length_take_of_le (by omega)
 rw[List.drop_eq_getElem_cons h,List.set_append_right _ _ (by rw[List.length_map,e];exact Nat.le_refl _),List.length_map,e,Nat.sub_self,List.set_cons_zero,List.take_add_one,List.getElem?_eq_getElem h]
 simp only[Option.toList_some,List.map_append,List.map_cons,List.map_nil,List.append_assoc,List.singleton_append]
theorem Lm {α:Type}(f:α->α) (l:List α) (i:Nat) (h:i<l.length):((l.take i).map f++l.drop i)[i]?=some l[i]:=by
 have e:(l.take i).length=i:=List.length_take_of_le (by omega)
 rw[List.getElem?_append_right (by rw[List.length_map,e];exact Nat.le_refl _),List.length_map,e,Nat.sub_self,List.getElem?_drop]
 simp[List.getElem?_eq_getElem h]
theorem Jf {α:Type}(f:α->α) (l:List α) (i:Nat):((l.take i).map f++l.drop i).length=l.length:=by simp;omega
abbrev c0:List D:=[.int .i64 0,.int .i64 0,.int .i64 0,.int .i64 0,.int .i64 0,.nil,.nil,.nil]
theorem Q0 (l:List bO):∀x,x∈l.map bO.e->∀y∈x.cells,y.vone=true:=fun x hx y hy=>by
 simp only[List.mem_map]at hx
 obtain⟨z,-,rfl⟩:=hx
 simp[bO.e]at hy
 rcases hy with rfl|rfl|rfl|rfl<;>rfl
theorem Ll {h:Heap}{q i:Nat}{l:List bO}{a:bO}(hq:h q=.arr 4 (l.map bO.e)) (ha:l[i]?=some a){KH:HK} :
  ab PP (.iadd (.c (.ms q 0 l.length)) (.c (.int .i64 (i:Int))) 4) h (fun x h1=>ab PP (.ld (.c x) 4 true) h1 KH)=KH a.e h:=by
 have hi:=(List.getElem?_eq_some_iff.1 ha).1
 rw[bF,hq,jE,hq]
 apply propext
 constructor
 ·rintro⟨-,-,-,-,h⟩
  have:=h a.e (by rw[show 0+((i:Int)).toNat=i by omega,List.getElem?_map,ha];rfl)
  simpa[cn,bO.e] using this
 ·intro hk
  refine⟨by omega,by omega,⟨_,rfl⟩,by simp;omega,fun d hd=>?_⟩
  rw[show 0+((i:Int)).toNat=i by omega,List.getElem?_map,ha]at hd
  cases hd
  simpa[cn,bO.e] using hk
theorem Lk {h:Heap}{q i:Nat}{l:List bO}{a:bO}(hq:h q=.arr 4 (l.map bO.e)) (hi:i<l.length){KH:HK}(hK:KH .undef (ah h q (.arr 4 ((l.set i a).map bO.e)))) :
  ab PP (.iadd (.c (.ms q 0 l.length)) (.c (.int .i64 (i:Int))) 4) h (fun x h1=>ab PP (.st (.c x) (.c a.e) 4) h1 KH):=by
 simp only[↓bF,hq,Slot.row]
 refine⟨by omega,by omega,⟨_,rfl⟩,?_⟩
 rw[dq,hq]
 refine⟨rfl,(bO.bZ a).one,by simp;omega,by simp,fun d hd=>?_⟩
 rw[show 0+((i:Int)).toNat=i by omega]at hd ⊢
 rw[List.getElem?_map,Option.map_eq_some_iff]at hd
 obtain⟨b,-,rfl⟩:=hd
 have e:setCells b.e 0 a.e.cells=a.e:=rfl
 rw[e, <- List.map_set]
 exact hK
theorem MX {c:Code}(hc:bj c):aF PP ly [c.e] (· = (ma c).e):=by
 refine fZ (aW yW (aA _ _ _) rfl (xV _ _) ?_)
 (unfold rZ;try dsimp only[xL,yL,xF,yF,xI,yI,xS,zI,zJ])
 refine bH.start.box (jG c).2 fun n1 h1 ro1 B=>?_
 refine B.alloc fun n2 h2 ro2 B=>?_
 refine m6 fun n3 t3=>?_
 have hnf:=t3.free
 have B:=B.step (Fr.new (ro:=ro2) hnf .ev (s:=.arr 4 []))
 simp only[↓ba (B.used 1 rfl),Nat.zero_add,B.bY 1 (j:=5) rfl rfl rfl]
 have hna:=hc.nar
 have h3:ah h2 n3 (.arr 4 []) n3=.arr 4 []:=ad _ _ _
 have r3:ah ro2 n3 .ev n3=.ev:=ad _ _ _
 generalize ah h2 n3 (.arr 4 [])=hA at B h3
 generalize ah ro2 n3 .ev=roA at B r3
 refine⟨fun y hy=>?_,fun y hy=>?_,[],h3,rfl,rfl,⟨?_,?_⟩,fun q t=>?_⟩
 ·simp only[List.mem_map]at hy;obtain⟨z,-,rfl⟩:=hy;rfl
 ·simp only[List.mem_map]at hy;obtain⟨z,-,rfl⟩:=hy;exact(bO.bZ z).one
 ·simp;omega
 ·simp;omega
 have hqn:=t.free
 have nq:q≠n3:=by rintro rfl;rw[h3]at hqn;cases hqn
 have B:=(B.step (Fr.av (n:=n3) (s:=.dead) (by rw[r3];simp) (by simp))).step (Fr.new (by rw[aa _ _ nq];exact hqn) .ev (s:=.arr 4 ([]++c.arrays.map bO.e)))
 have hq:ah (ah hA n3 .dead) q (.arr 4 ([]++c.arrays.map bO.e)) q=.arr 4 (c.arrays.map bO.e):=ad _ _ _
 have rq:ah roA q .ev q=.ev:=ad _ _ _
 generalize ah (ah hA n3 .dead) q (.arr 4 ([]++c.arrays.map bO.e))=hB at B hq
 generalize ah roA q .ev=roB at B rq
 simp only[List.length_nil,List.length_map,Nat.zero_add]
 refine⟨fun _ h'=>∃ro',bH aC kY h' ro' [(n2,.agg c0),(n1,c.e)]/\h' q=.arr 4 ((c.arrays.map fA).map bO.e)/\ro' q=.ev,?_,?_⟩
 ·rintro _ h' ⟨ro',B,hq,rq⟩
  simp only[↓ba (B.used 1 rfl),Nat.zero_add]
  refine B.FN 1 (j:=5) rfl (by simp) rfl fun h4 kp B=>?_
  have hq:h4 q=.arr 4 ((c.arrays.map fA).map bO.e):=by rw[(kp q (by rw[hq];simp) (by rw[rq];rfl)).1];exact hq
  rw[B.db (s:=8) (d:=.agg [.int .i64 c.group,.int .i64 c.sub,.int .i64 c.regs,.int .i64 c.slots,.int .i64 c.params,.ms q 0 c.arrays.length,.sl (c.loops.map Loop.e),.sl (c.b.map Block.e)]) 1 rfl rfl rfl]
  refine B.HI 0 (cs':=[.int .i64 c.group,.int .i64 c.sub,.int .i64 c.regs,.int .i64 c.slots,.int .i64 c.params,.ms q 0 c.arrays.length,.sl (c.loops.map Loop.e),.sl (c.b.map Block.e)]) rfl rfl rfl (by simp) fun h5 kp B=>?_
  have hq:h5 q=.arr 4 ((c.arrays.map fA).map bO.e):=by rw[(kp q (by rw[hq];simp) (by rw[rq];rfl)).1];exact hq
  rw[B.db (s:=8) 0 rfl rfl rfl]
  have fq:=dt hq (Q0 _)
  simp only[List.length_map]at fq
  exact eh (by simp) (by simp[Code.e]) (.refl _) (BP.agg (.cons (aH rfl) (.cons (aH rfl) (.cons (aH rfl) (.cons (aH rfl) (.cons (aH rfl) (.cons fq (.cons (aH rfl) (.cons (aH rfl) .nil))))))))) rfl
 (unfold mm;try dsimp only[xL,yL,xF,yF,xI,yI,xS,zI,zJ])
 refine⟨fun k qs h'=>∃(i:Nat) (ro':Ro),qs=[.int .i64 (i:Int)]/\k+i=c.arrays.length/\bH aC kY h' ro' [(n2,.agg c0),(n1,c.e)]/\h' q=.arr 4 (((c.arrays.take i).map fA++c.arrays.drop i).map bO.e)/\ro' q=.ev,
  c.arrays.length,⟨0,roB,rfl,by omega,B,by simpa using hq,rq⟩,?_⟩
 rintro k f h' ⟨i,ro',hf,hki,B,hq,rq⟩
 simp only[List.cons.injEq,and_true]at hf
 have hlen:∀{K:D->Prop},bR (.ms q 0 c.arrays.length) h' K=K (.int .i64 (c.arrays.length:Int)):=fun {K}=>by rw[iJ,hq];simp[Slot.live,Slot.used]
 rw[hf,hlen,bK]
 by_cases hi:i<c.arrays.length
 case neg =>
  simp only[show ¬((i:Int)<(c.arrays.length:Int)) by omega,decide_false,↓ae,ai,true_and]
  rw[List.drop_of_length_le (by omega),List.take_of_length_le (by omega),List.append_nil]at hq
  exact⟨ro',B,hq,rq⟩
 have ha:=Lm fA c.arrays i hi
 have hn:=Jf fA c.arrays i
 obtain⟨a,hae⟩:∃a,a=c.arrays[i]:=⟨_,rfl⟩
 have hao:=hc.ar a (by rw[hae];exact List.getElem_mem hi)
 have ld:=fun {KH:HK}=>Ll hq ha (KH:=KH)
 rw[hn, <- hae]at ld
 simp only[show((i:Int)<(c.arrays.length:Int)) by omega,decide_true,↓af]
 rw[ld]
 refine B.EZ fun n5 h5 ro5 kp B=>?_
 have hq5:h5 q=.arr 4 (((c.arrays.take i).map fA++c.arrays.drop i).map bO.e):=by rw[(kp q (by rw[hq];simp) (by rw[rq];rfl)).1];exact hq
 have rq5:ro5 q=.ev:=by rw[(kp q (by rw[hq];simp) (by rw[rq];rfl)).2];exact rq
 refine B.HI 0 (cs':=[.str a.name,.int .i64 a.space,.int .i64 a.type,.int .i64 a.len]) rfl rfl rfl (by simp) fun h6 kp B=>?_
 have hq6:h6 q=.arr 4 (((c.arrays.take i).map fA++c.arrays.drop i).map bO.e):=by rw[(kp q (by rw[hq5];simp) (by rw[rq5];rfl)).1];exact hq5
 simp only[↓ba (B.used 0 rfl),Nat.zero_add,B.bY 0 (j:=3) rfl rfl rfl]
 have hl2:IntKind.i64.wrap (a.len.tdiv 2)=a.len / 2:=by
  rw[Int.tdiv_eq_ediv_of_nonneg (by have:=hao.2;omega)]
  exact wrap64 (by have:=hao.2;omega) (by have:=hao.2;omega)
 rw[kn,hl2]
 refine⟨by simp,?_⟩
 have hmx:∀{g:Heap}{K:HK},ab PP (.mx (.c (.int .i64 (a.len / 2))) (.c (.int .i64 1))) g K=K (.int .i64 (max (a.len / 2) 1)) g:=fun {g K}=>by
  rw[Jp]
  congr 2
  split<;>omega
 rw[hmx]
 simp only[↓ba (B.used 0 rfl),Nat.zero_add]
 refine B.FN 0 (j:=3) rfl (by simp) rfl fun h7 kp B=>?_
 have hq7:h7 q=.arr 4 (((c.arrays.take i).map fA++c.arrays.drop i).map bO.e):=by rw[(kp q (by rw[hq6];simp) (by rw[rq5];rfl)).1];exact hq6
 rw[B.db (s:=4) (d:=(fA a).e) 0 rfl rfl rfl]
 have st:=Lk (a:=fA a) hq7 (by rw[hn];exact hi) (KH:=fun _ h56=>vbin .add (.int .i64 (i:Int)) (.int .i64 1) fun a57=>aG [.ptr n1 0 0,.ptr n2 0 0,.ms q 0 c.arrays.length] [.ptr n1 0 0,.ptr n2 0 0,.ms q 0 c.arrays.length] /\
  ∃m,m<k/\∃(i:Nat) (ro':Ro),[a57]=[.int .i64 (i:Int)]/\m+i=c.arrays.length/\bH aC kY h56 ro' [(n2,.agg c0),(n1,c.e)]/\h56 q=.arr 4 (((c.arrays.take i).map fA++c.arrays.drop i).map bO.e)/\ro' q=.ev)
 rw[hn]at st
 refine st ?_
 rw[bp,GB (i:=i) (by omega)]
 refine⟨by simp,k-1,by omega,i+1,ro5,rfl,by omega,(B.step (Fr.av (by rw[rq5];simp) (by simp))).tail,?_,rq5⟩
 rw[ad,hae,Je]
theorem bH.re {h0 h h':Heap}{ro0 ro:Ro}{L:List (Nat×D)}(B:bH aC ro0 h ro L) (hk:∀p∈L,h' p.1=h p.1):bH aC ro0 h' ro L :=
 ⟨B.nd,fun p hp=>by obtain⟨a,b,c⟩:=B.at_ p hp;exact⟨by rw[hk p hp];exact a,b,c⟩,fun k hk=>absurd rfl hk⟩
theorem Qw {P:Program}{h:Heap}{KH:HK}{esz bytes:Nat}{z s d:D}{els:List D}(ho:Own esz h s els) (hd:aw d) (hc:d.cells.length=esz) (hb:(els.length+1)*bytes<=140737488355328) (hl:els.length+1<=9223372036854775807)
  (hk:∀v h',Own esz h' v (els++[d])->QA h h' s->KH v h'):ab P (.app (.c s) (.c (.sl [d])) esz bytes z) h KH:=by
 refine⟨fun e he=>by simp at he;subst he;exact hc,fun y hy=>by simp at hy;subst hy;exact hd,?_⟩
 rcases ho with⟨rfl,rfl⟩|⟨m,rfl,hm⟩
 ·exact⟨⟨by simpa using hb,by simp⟩,fun n t=>hk _ _ (Or.inr ⟨n,rfl,ad _ _ _⟩) fun k hk _=>aa _ _ (t.ne hk)⟩
 ·refine⟨els,hm,rfl,rfl,⟨by simpa using hb,by simpa using hl⟩,fun n t=>hk _ _ (Or.inr ⟨n,by simp,ad _ _ _⟩) fun k hkf hne=>?_⟩
  have h1:=t.ne hkf
  have h2:k≠m:=by rintro rfl;exact hne _ rfl
  rw[aa _ _ h1,aa _ _ h2]
theorem RW {esz:Nat}{h:Heap}{v:D}{els:List D}(ho:Own esz h v els){k:Nat}{d:D}(hb:h k=.box d):∀l,v≠.ms k 0 l:=by
 rintro l rfl
 rcases ho with⟨hc,-⟩|⟨q,hc,hq⟩
 ·cases hc
 ·cases hc;rw[hb]at hq;cases hq
theorem Nh {esz:Nat}{h:Heap}{v:D}{els:List D}(ho:Own esz h v els){k:Nat}{d:D}(hb:h k=.box d) (s:Slot):Own esz (ah h k s) v els:=by
 rcases ho with ho|⟨q,rfl,hq⟩
 ·exact Or.inl ho
 ·refine Or.inr ⟨q,rfl,?_⟩
  rw[aa _ _ (by rintro rfl;rw[hb]at hq;cases hq)];exact hq
theorem QO {h:Heap}{v:D}{w:List Int}(ho:Own 1 h v (wr w)):wG h v (words w):=by
 rcases ho with⟨rfl,he⟩|⟨q,rfl,hq⟩
 ·have:w=[]:=by cases w<;>first|rfl|(simp[wr]at he)
  subst this;exact gh
 ·exact dt hq (KO w)
def GX (g:Int) (zs:List Int):D:=.agg (.int .u8 g::zs.map (.int .i8))
theorem GW (g:Int) (zs:List Int):aw (GX g zs):=fun x hx=>by
 simp[GX]at hx
 rcases hx with rfl|⟨z,-,rfl⟩<;>rfl
theorem NC {g:Int}{zs:List Int}{i:Nat}(hi:i<zs.length):(GX g zs).cells[1+i]?=some (.int .i8 zs[i]):=by
 simp only[GX,ca]
 rw[Nat.add_comm,List.getElem?_cons_succ,List.getElem?_map,List.getElem?_eq_getElem hi];rfl
theorem Gt {P:Program}{h:Heap}{m l j:Nat}{a:Int}{v:D}(hm:h m=.box v) (h0:0<=a) (h1:a<(l:Int)){K:D->Prop}:aq P (.iadda (.c (.ptr m 0 j)) (.c (.int .i64 a)) l 1) h K=K (.ptr m 0 (j+a.toNat)):=by
 rw[DD,Ie,hm]
 simp[Slot.live,Slot.used,h0,h1]
theorem DV {a b:Int}(ha:0<=a) (hb:0<b):0<=a.tmod b/\a.tmod b<b:=by
 rw[Int.tmod_eq_emod_of_nonneg ha]
 exact⟨Int.emod_nonneg _ (by omega),Int.emod_lt_of_pos _ hb⟩
theorem MZ {c:Code}{g:Int}{zs:List Int}(hc:bj c) (hg:0<=g/\g<=255) (hz:zs.length=12):aF PP lA [c.e,GX g zs] (fun r=>∃l:dk,js c l/\r=l.e):=by
 refine fZ (aW y9 (aA _ _ _) rfl (ya _ _ _) ?_)
 (unfold sj;try dsimp only[xL,yL,xF,yF,xI,yI,xS,zI,zJ])
 refine bH.start.box (jG c).2 fun n1 h1 ro1 B=>?_
 refine B.box (GW g zs) fun n2 h2 ro2 B=>?_
 refine B.alloc fun n3 h3 ro3 B=>?_
 have hcg:=hc.group
 have hcp:=hc.params
 simp only[↓ba (B.used 1 rfl),Nat.zero_add,B.bY 1 (j:=0) rfl rfl rfl]
 obtain⟨t1,t2⟩:=DV hg.1 (show(0:Int)<3 by omega)
 rw[bJ]
 refine⟨by simp,?_⟩
 rw[cu,bp,wrap64 (n:=g.tmod 3) (by omega) (by omega),wrap64 (by omega) (by omega),cI rfl]
 obtain⟨b,hb⟩:∃b,b=1+g.tmod 3:=⟨_,rfl⟩
 rw[<- hb]
 refine B.alloc fun n4 h4 ro4 B=>?_
 refine B.lf 0 (cs':=[.int .i64 b,.nil]) rfl rfl rfl (by simp) fun h5 B=>?_
 refine⟨fun _ h'=>∃(ro':Ro) (b:Int),1<=b/\b<=3/\bH aC kY h' ro' [(n4,.agg [.int .i64 b,.nil]),(n3,.agg [.int .i64 0,.nil]),(n2,GX g zs),(n1,c.e)],?_,?_⟩
 ·rintro _ h' ⟨ro',b,b1,b2,B⟩
  refine⟨fun _ h'=>∃(ro':Ro) (v:D) (w:List Int),bH aC kY h' ro' [(n4,.agg [.int .i64 b,v]),(n3,.agg [.int .i64 0,.nil]),(n2,GX g zs),(n1,c.e)]/\Own 1 h' v (wr w)/\(w.length:Int)=c.params/\∀x∈w,gM x,?_,?_⟩
  ·rintro _ h' ⟨ro',v,w,B,O,hw,hI⟩
   have ov:=xa O
   rw[B.db (s:=2) 0 rfl rfl rfl,Go.Am.lf (s:=2) (cs':=[.int .i64 b,v]) (B.get 1 rfl) rfl rfl (by simp[ov])]
   have O:=Nh O (B.get 1 rfl) (.box (.agg [.int .i64 b,v]))
   have B:=B.av 1 rfl (.agg [.int .i64 b,v])
   rw[B.db (s:=2) 1 rfl rfl rfl]
   exact eh (by simp) (by simp) (.refl _) (BP.agg (.cons (aH rfl) (.cons (QO O) .nil))) ⟨⟨b,w⟩,⟨⟨b1,by show b<=64;omega⟩,hw,hI⟩,rfl⟩
  (unfold mz;try dsimp only[xL,yL,xF,yF,xI,yI,xS,zI,zJ])
  refine⟨fun k qs h'=>∃(i:Nat) (ro':Ro) (v:D) (w:List Int),qs=[.int .i64 (i:Int)]/\k+i=c.params.toNat/\w.length=i/\bH aC kY h' ro' [(n4,.agg [.int .i64 b,v]),(n3,.agg [.int .i64 0,.nil]),(n2,GX g zs),(n1,c.e)]/\Own 1 h' v (wr w)/\∀x∈w,gM x,
   c.params.toNat,⟨0,ro',.nil,[],rfl,by omega,rfl,B,Or.inl ⟨rfl,rfl⟩,by simp⟩,?_⟩
  rintro k f h' ⟨i,ro',v,w,hf,hki,hwl,B,O,hI⟩
  simp only[List.cons.injEq,and_true]at hf
  rw[hf]
  simp only[↓ba (B.used 3 rfl),Nat.zero_add,B.bY 3 (j:=4) rfl rfl rfl,↓bK]
  by_cases hi:(i:Int)<c.params
  case neg =>
   simp only[hi,decide_false,↓ae,ai,true_and]
   exact⟨ro',v,w,B,O,by omega,hI⟩
  have e8:((i:Int).tmod 8)=((i % 8:Nat):Int):=by rw[Int.tmod_eq_emod_of_nonneg (by omega)];rfl
  have h8:i % 8<zs.length:=by omega
  have hv:=xa O
  simp only[hi,decide_true,↓af,↓aE,B.used 0 rfl,B.used 2 rfl,Nat.zero_add,true_and,↓bL,B.bY 0 (j:=1) rfl rfl rfl,↓bJ]
  refine⟨by simp,?_⟩
  rw[e8,Gt (B.get 2 rfl) (by omega) (by omega)]
  simp only[Int.toNat_natCast,B.bY 2 (j:=1+i % 8) rfl (NC h8) rfl,↓pj,↓cu]
  refine Ok (by simp) rfl (fun y hy=>by simp at hy;subst hy;rfl) (fun y hy=>by simp at hy;subst hy;rfl) ?_
  refine Qw O (by simp) rfl (by rw[mO];omega) (by rw[mO];omega) fun v' h2 O2 kb=>?_
  have B:=B.re (h0:=aC) (h':=h2) fun p hp=>by
   have:=(B.at_ p hp).1
   exact kb p.1 (by rw[this];simp) (RW O this)
  have hv':=xa O2
  rw[Go.Am.HH (B.get 0 rfl) (by simp) hv']
  have O3:=Nh O2 (B.get 0 rfl) (.box (.agg ([D.int .i64 b,v].set 1 v')))
  have B:=B.av 0 rfl (.agg ([D.int .i64 b,v].set 1 v'))
  rw[bp,GB (i:=i) (by omega)]
  refine⟨by simp,k-1,by omega,i+1,ro',v',w++[pJ zs[i % 8]],rfl,by omega,by simp[hwl],B,by simpa[wr] using O3,fun x hx=>?_⟩
  rcases List.mem_append.1 hx with hx|hx
  ·exact hI x hx
  ·simp at hx;subst hx;exact dn _
 simp only[↓ba (B.used 3 rfl),Nat.zero_add,B.bY 3 (j:=0) rfl rfl rfl,↓qK]
 have hq:512<=(4096:Int).tdiv c.group/\(4096:Int).tdiv c.group<=4096:=by
  rw[Int.tdiv_eq_ediv_of_nonneg (by omega)]
  refine⟨?_,?_⟩
  ·exact(Int.le_ediv_iff_mul_le (by omega)).2 (by omega)
  ·exact Int.ediv_le_self _ (by omega)
 simp only[show(0:Int)<c.group by omega,decide_true,↓af,↓aE,B.used 0 rfl,B.used 3 rfl,Nat.zero_add,true_and,↓bL,B.bY 0 (j:=0) rfl rfl rfl,B.bY 3 (j:=0) rfl rfl rfl,↓kn]
 refine⟨by omega,?_⟩
 rw[wrap64 (by omega) (by omega)]
 have e1:∀{K:D->Prop},aq PP (.mn (.c (.int .i64 b)) (.c (.int .i64 ((4096:Int).tdiv c.group)))) h5 K=K (.int .i64 b):=fun {K}=>by
  show ab PP (.mn (.c (.int .i64 b)) (.c (.int .i64 ((4096:Int).tdiv c.group)))) h5 (fun d _=>K d)=_
  rw[P3,if_neg (by omega)]
 have e2:∀{K:D->Prop},aq PP (.mx (.c (.int .i64 b)) (.c (.int .i64 1))) h5 K=K (.int .i64 b):=fun {K}=>by
  rw[TY,Jp,if_neg (by omega)]
 rw[e1,e2]
 refine B.HH 0 rfl (by simp) rfl fun h6 B=>?_
 exact⟨by simp,ro4,b,by omega,by omega,B⟩
theorem wH {c:Code}(s:Nat):fY c.arrays s (iF c.arrays s):=by
 refine⟨by simp[iF],fun i a w ha hw=>?_⟩
 rw[iF,List.getElem?_map,ha]at hw
 cases hw
 refine⟨by simp[Cb],fun v hv=>?_⟩
 obtain⟨-,rfl⟩:=List.mem_replicate.1 hv
 exact⟨by omega,by omega⟩
theorem iw.row {h:Heap}{ro:Ro}{s:Nat}{d:D}{m:Mm}(x:iw h ro s d m){i:Nat}{w:List Int}(hw:m[i]?=some w) :
  ∃q,h q=.arr 1 (wr w)/\ro q=.row s i/\(∀{K:HK},ab PP (.iadd (.c d) (.c (.int .i64 (i:Int))) 1) h (fun a h1=>ab PP (.ld (.c a) 1 false) h1 K)=K (.ms q 0 w.length) h) /\
   ∀w':List Int,w'.length=w.length->iw (ah h q (.arr 1 (wr w'))) ro s d (m.set i w'):=by
 obtain⟨kk,els,rfl,y,yo⟩:=x
 have hlt:=(List.getElem?_eq_some_iff.1 hw).1
 have hl:=y.len
 have he:els[i]?=some (els[i]'(by omega)):=List.getElem?_eq_getElem (by omega)
 obtain⟨q,hq,hq1,hq2⟩:∃q,els[i]'(by omega)=.ms q 0 w.length/\h q=.arr 1 (wr w)/\ro q=.row s i:=by
  rcases y.el i _ w he hw with g|g
  ·obtain⟨q,l,e⟩:=yo _ (List.getElem_mem (h:=(by omega:i<els.length)))
   rw[e]at g;cases g
  ·exact g
 rw[hq]at he
 refine⟨q,hq1,hq2,fun {K}=>?_,fun w' hw'=>⟨kk,els,by simp,⟨?_,y.rk,by simp[hl],fun j e v hj hv=>?_⟩,yo⟩⟩
 ·rw[bF,y.hk,jE,y.hk]
  apply propext
  constructor
  ·rintro⟨-,-,-,-,h⟩
   have:=h (.ms q 0 w.length) (by rw[show 0+((i:Int)).toNat=i by omega];exact he)
   simpa[bk] using this
  ·intro hk
   refine⟨by omega,by omega,⟨_,rfl⟩,by simp;omega,fun e he'=>?_⟩
   rw[show 0+((i:Int)).toNat=i by omega,he]at he';cases he'
   simpa[bk] using hk
 ·rw[aa _ _ (by rintro rfl;rw[y.rk]at hq2;cases hq2)];exact y.hk
 ·by_cases e':i=j
  ·subst e'
   rw[List.getElem?_set_self hlt]at hv;cases hv
   rw[he]at hj;cases hj
   exact Or.inr ⟨q,by rw[hw'],ad _ _ _,hq2⟩
  ·rw[List.getElem?_set_ne e']at hv
   rcases y.el j e v hj hv with g|⟨p,g1,g2,g3⟩
   ·exact Or.inl g
   ·refine Or.inr ⟨p,g1,?_,g3⟩
    rw[aa _ _ (by rintro rfl;rw[hq2]at g3;cases g3;exact e' rfl)];exact g2
theorem Ts {h:Heap}{d r:D}{i:Nat}(hd:∃q l,d=D.ms q 0 l) (H:∀{K:HK},ab PP (.iadd (.c d) (.c (.int .i64 (i:Int))) 1) h (fun a h1=>ab PP (.ld (.c a) 1 false) h1 K)=K r h){K:D->Prop} :
  aq PP (.iadd (.c d) (.c (.int .i64 (i:Int))) 1) h (fun a=>aq PP (.ld (.c a) 1 false) h K)=K r:=by
 obtain⟨q,l,rfl⟩:=hd
 have:=H (K:=fun x _=>K x)
 rw[bF]at this
 rw[fh,bF]
 simp only[↓bL]
 exact this
theorem iw.ms {h:Heap}{ro:Ro}{s:Nat}{d:D}{m:Mm}(x:iw h ro s d m):∃q l,d=D.ms q 0 l:=by obtain⟨kk,els,rfl,y,yo⟩:=x;exact⟨_,_,rfl⟩
theorem iw.len {h:Heap}{ro:Ro}{s:Nat}{d:D}{m:Mm}(x:iw h ro s d m){K:D->Prop}:bR d h K=K (.int .i64 (m.length:Int)):=by
 obtain⟨kk,els,rfl,y,yo⟩:=x
 rw[iJ,y.hk];simp[Slot.live,Slot.used]
theorem fY.set {ar:List bO}{s:Nat}{m:Mm}(h:fY ar s m){i k:Nat}{w:List Int}{v:Int}(hw:m[i]?=some w) (hv:gM v):fY ar s (m.set i (w.set k v)):=by
 have:=Nb h (n:=i) (i:=k) hv
 unfold FT at this
 rw[List.getD_eq_getElem?_getD,hw,Option.getD_some]at this
 exact this
def Hz (zs:List Int) (i k:Nat):Int:=pJ (pJ (zs.getD (8+(i+k) % 4) 0)+pJ (((k:Int)*(i:Int)).tmod 5))
def rowF (zs:List Int) (i:Nat) (w:List Int):Nat->List Int
 | 0=>w
 | k+1=>(rowF zs i w k).set k (Hz zs i k)
def FU (zs:List Int) (m:Mm):Nat->Mm
 | 0=>m
 | i+1=>(FU zs m i).set i (rowF zs i ((FU zs m i).getD i []) ((FU zs m i).getD i []).length)
theorem Ej (zs:List Int) (i:Nat) (w:List Int):∀k,(rowF zs i w k).length=w.length
 | 0=>rfl
 | k+1=>by simp[rowF,Ej zs i w k]
theorem KQ (zs:List Int) (i k:Nat):gM (Hz zs i k):=dn _
theorem HP {zs:List Int}{i:Nat}{w:List Int}(h:∀v∈w,gM v):∀k,∀v,v∈rowF zs i w k->gM v
 | 0=>h
 | k+1=>Dz (HP h k) (KQ zs i k)
theorem fY.setRow {ar:List bO}{s:Nat}{m:Mm}(h:fY ar s m){i:Nat}{w w':List Int}(hw:m[i]?=some w) (hl:w'.length=w.length) (hI:∀v,v∈w'->gM v):fY ar s (m.set i w'):=by
 refine⟨by simp[h.len],fun j a v ha hv=>?_⟩
 by_cases e:i=j
 ·subst e
  rw[List.getElem?_set_self (List.getElem?_eq_some_iff.1 hw).1]at hv;cases hv
  exact⟨by rw[hl];exact(h.w i a w ha hw).1,hI⟩
 ·rw[List.getElem?_set_ne e]at hv;exact h.w j a v ha hv
theorem Jh {ar:List bO}{s:Nat}{zs:List Int}{m:Mm}(h:fY ar s m):∀i,fY ar s (FU zs m i)
 | 0=>h
 | i+1=>by
  have ih:=Jh (zs:=zs) h i
  simp only[FU]
  by_cases hi:i<(FU zs m i).length
  ·have hw:=List.getElem?_eq_getElem hi
   rw[List.getD_eq_getElem?_getD,hw,Option.getD_some]
   obtain⟨-,hI⟩:=ih.w i (ar[i]'(by rw[<- ih.len];exact hi)) _ (List.getElem?_eq_getElem _) hw
   exact ih.setRow hw (Ej _ _ _ _) (HP hI _)
  ·rw[List.set_eq_of_length_le (by omega)];exact ih
def PS (c:Code) (zs:List Int):Mm:=FU zs (iF c.arrays 1) c.arrays.length
theorem Nz (c:Code) (zs:List Int):fY c.arrays 1 (PS c zs):=Jh (wH 1) _
theorem MY {c:Code}{g:Int}{zs:List Int}(hc:bj c) (hz:zs.length=12):aF PP lz [c.e,GX g zs] (· = aR (PS c zs)):=by
 refine fZ (aW y8 (aA _ _ _) rfl (x0 _ _ _) ?_)
 (unfold si;try dsimp only[xL,yL,xF,yF,xI,yI,xS,zI,zJ])
 refine bH.start.box (jG c).2 fun n1 h1 ro1 B=>?_
 refine B.box (GW g zs) fun n2 h2 ro2 B=>?_
 simp only[↓ba (B.used 1 rfl),Nat.zero_add,B.bY 1 (j:=5) rfl rfl rfl]
 refine Kc (ro:=ro2) hc 1 1 fun d h3 ro3 x O=>?_
 have B:=B.step x.fr
 have hna:=hc.nar
 refine⟨fun _ h'=>∃(ro':Ro),iw h' ro' 1 d (PS c zs),?_,?_⟩
 ·rintro _ h' ⟨ro',O⟩
  have ht:∀ds,d≠.tup ds:=by obtain⟨k,els,rfl,-⟩:=O;simp
  obtain⟨h'',i,z⟩:=O.r.out
  exact eh ht (by simp[aR]) i z.d rfl
 (unfold mu;try dsimp only[xL,yL,xF,yF,xI,yI,xS,zI,zJ])
 refine⟨fun n qs h'=>∃(i:Nat) (ro':Ro),qs=[.int .i64 (i:Int)]/\n+i=c.arrays.length/\bH aC kY h' ro' [(n2,GX g zs),(n1,c.e)]/\iw h' ro' 1 d (FU zs (iF c.arrays 1) i),
  c.arrays.length,⟨0,ro3,rfl,by omega,B,O⟩,?_⟩
 rintro n f h' ⟨i,ro',hf,hni,B,O⟩
 simp only[List.cons.injEq,and_true]at hf
 obtain⟨m,hm⟩:∃m,m=FU zs (iF c.arrays 1) i:=⟨_,rfl⟩
 have W:fY c.arrays 1 m:=by rw[hm];exact Jh (wH 1) i
 rw[<- hm]at O
 have hml:=W.len
 rw[hf,O.len,bK]
 by_cases hi:i<m.length
 case neg =>
  simp only[show ¬((i:Int)<(m.length:Int)) by omega,decide_false,↓ae,ai,true_and]
  have:i=c.arrays.length:=by omega
  subst this
  rw[hm]at O
  exact⟨ro',O⟩
 have hw0:m[i]?=some m[i]:=List.getElem?_eq_getElem hi
 obtain⟨w0,hw0e⟩:∃w,w=m[i]:=⟨_,rfl⟩
 rw[<- hw0e]at hw0
 simp only[show((i:Int)<(m.length:Int)) by omega,decide_true,↓af]
 refine⟨fun _ h'=>∃(ro':Ro),bH aC kY h' ro' [(n2,GX g zs),(n1,c.e)]/\iw h' ro' 1 d (m.set i (rowF zs i w0 w0.length)),?_,?_⟩
 ·rintro _ h' ⟨ro',B,O⟩
  rw[bp,GB (i:=i) (by omega)]
  refine⟨by simp,n-1,by omega,i+1,ro',rfl,by omega,B,?_⟩
  simp only[FU]
  rw[<- hm,List.getD_eq_getElem?_getD,hw0,Option.getD_some]
  exact O
 (unfold my;try dsimp only[xL,yL,xF,yF,xI,yI,xS,zI,zJ])
 refine⟨fun n qs h'=>∃(k:Nat) (ro':Ro),qs=[.int .i64 (k:Int)]/\k<=w0.length/\n+k=w0.length/\bH aC kY h' ro' [(n2,GX g zs),(n1,c.e)]/\iw h' ro' 1 d (m.set i (rowF zs i w0 k)),
  w0.length,⟨0,ro',rfl,by omega,by omega,B,by
   have:m.set i w0=m:=by rw[hw0e];exact List.set_getElem_self _
   simp only[rowF];rw[this];exact O⟩,?_⟩
 have hic:i<c.arrays.length:=by omega
 clear O B
 rintro n f2 h' ⟨k,ro',hf2,hk8,hnk,B,O⟩
 simp only[List.cons.injEq,and_true]at hf2
 have hw:(m.set i (rowF zs i w0 k))[i]?=some (rowF zs i w0 k):=List.getElem?_set_self hi
 have hwl0:=Ej zs i w0 k
 obtain⟨w,hwe⟩:∃w,w=rowF zs i w0 k:=⟨_,rfl⟩
 rw[<- hwe]at hw hwl0 O
 obtain⟨hwl,-⟩:=W.w i c.arrays[i] w0 (List.getElem?_eq_getElem (by omega)) hw0
 have hal:=(hc.ar c.arrays[i] (List.getElem_mem _)).2
 have hw8:w.length<=8:=by rw[hwl0,hwl];unfold Cb;split<;>omega
 obtain⟨q,hq,rq,hrow,hput⟩:=O.row hw
 rw[hf,hf2]
 rw[hrow,iJ,hq,bK]
 refine⟨by simp[Slot.live,Slot.used],?_⟩
 by_cases hk:k<w.length
 case neg =>
  simp only[show ¬((k:Int)<(w.length:Int)) by omega,decide_false,↓ae,ai,true_and]
  have:k=w0.length:=by omega
  rw[hwe,this]at O
  exact⟨ro',B,O⟩
 simp only[show((k:Int)<(w.length:Int)) by omega,decide_true,↓af]
 rw[Ts O.ms hrow]
 have e4:((i:Int)+(k:Int)).tmod 4=(((i+k) % 4:Nat):Int):=by rw[Int.tmod_eq_emod_of_nonneg (by omega)];omega
 rw[bp,wrap64 (by omega) (by omega),bJ]
 refine⟨by simp,?_⟩
 rw[e4]
 simp only[↓aE,B.used 0 rfl,Nat.zero_add,true_and]
 rw[Gt (B.get 0 rfl) (by omega) (by omega)]
 have h8:8+(i+k) % 4<zs.length:=by omega
 have hat:=NC (g:=g) h8
 simp only[Int.toNat_natCast,B.bY 0 (j:=9+(i+k) % 4) rfl (by rw[show 9+(i+k) % 4=1+(8+(i+k) % 4) by omega];exact hat) rfl,↓bL,↓fh,↓pj,↓cu,↓gb,↓bJ]
 refine⟨by simp,?_⟩
 rw[bp]
 simp only[↓bF,hq,Slot.row]
 refine⟨by omega,by omega,⟨_,rfl⟩,?_⟩
 rw[dq,hq]
 refine⟨rfl,by simp,by simp[wr];omega,by simp,fun e he=>?_⟩
 have es:∀v:Int,setCells e 0 (D.int .i32 v).cells=.int .i32 v:=fun v=>by
  rw[DH,Option.map_eq_some_iff]at he
  obtain⟨z,-,rfl⟩:=he
  rfl
 rw[es,show 0+((k:Int)).toNat=k by omega,DG]
 rw[bp,GB (i:=k) (by omega)]
 refine⟨by simp,n-1,by omega,k+1,ro',rfl,by omega,by omega,B.step (Fr.av (by rw[rq];simp) (by simp)),?_⟩
 have X:=hput (w.set k (Hz zs i k)) (by simp)
 rw[List.set_set]at X
 simp only[rowF]
 rw[<- hwe]
 have hki:k*i<=8*8:=Nat.mul_le_mul (by omega) (by omega)
 have hki':((k:Int)*(i:Int))=((k*i:Nat):Int):=by simp
 have ew:IntKind.i32.wrap (IntKind.i32.wrap zs[8+(i+k) % 4]+IntKind.i32.wrap ((IntKind.i64.wrap ((k:Int)*(i:Int))).tmod 5))=Hz zs i k:=by
  rw[wrap64 (by omega) (by omega)]
  unfold Hz pJ
  rw[List.getD_eq_getElem?_getD,List.getElem?_eq_getElem h8,Option.getD_some]
 rw[ew]
 exact X
theorem Ol {c:Code}(h:Hs c):bj c where
 group:=by rcases h.group with h|h|h|h|h<;>omega
 sub:=by rcases h.sub with h|h|h|h<;>omega
 regs:=by have:=h.regs;have:=h.nl;omega
 slots:=h.slots
 params:=by have:=h.params;omega
 nar:=by rw[h.arrays];decide
 ar:=by
  rw[h.arrays]
  intro a ha
  simp only[uf,List.mem_cons,List.not_mem_nil,or_false]at ha
  rcases ha with rfl|rfl|rfl|rfl|rfl<;>exact⟨by simp,by simp,by simp⟩
 nb:=by have:=h.nb;omega
 xs:=fun b hb=>by
  obtain⟨hx,hl,ht⟩:=h.b b hb
  have hx:∀x∈b.i,zr c.regs x:=fun x hx'=>by obtain⟨i,hi⟩:=List.getElem?_of_mem hx';exact(hx i x hi).1
  refine⟨fun x hx'=>⟨hx x hx',fun ho=>?_,fun ho=>?_⟩,by omega,ht⟩
  ·have h5:c.arrays.length=5:=by rw[h.arrays];rfl
   have:∀n:Int,0<=n/\n<5->∃k:Nat,n=(k:Int)/\k<c.arrays.length:=fun n hn=>⟨n.toNat,by omega,by omega⟩
   cases hx x hx' with
   | load n d a h0 h1 h2=>exact this n h0
   | store n a b h0 h1 h2=>exact this n h0
   | atom s n a b hs h0 h1 h2=>exact this n ⟨h0.1,h0.2.1⟩
   | _=>simp at ho
  ·cases hx x hx' with
   | param n d h0 h1=>have:=h.params;exact⟨h0.1,by show n<c.params;omega⟩
   | _=>simp at ho
theorem Nr {c:Code}(h:bj c):bj (ma c) where
 group:=h.group
 sub:=h.sub
 regs:=h.regs
 slots:=h.slots
 params:=h.params
 nar:=by simpa[ma] using h.nar
 ar:=fun a ha=>by
  simp only[ma,List.mem_map]at ha
  obtain⟨b,hb,rfl⟩:=ha
  obtain⟨h1,h2,h3⟩:=h.ar b hb
  exact⟨h1,by simp only[fA];omega,by simp only[fA];omega⟩
 nb:=h.nb
 xs:=fun b hb=>by
  obtain⟨h1,h2,h3⟩:=h.xs b hb
  exact⟨fun x hx=>⟨(h1 x hx).ok,fun ho=>by obtain⟨k,k1,k2⟩:=(h1 x hx).n ho;exact⟨k,k1,by simpa[ma] using k2⟩,(h1 x hx).p⟩,h2,h3⟩
structure Q9 (c:Code) (l:dk) (it:It):Prop extends L0 c l it where
 ep:0<=it.epoch
 e2:it.at_=2->(dg c it.block).kind=3\/(dg c it.block).kind=4
 e3:it.at_=3->it.block=0/\(∀v∈it.regs,v=0)/\∀w∈it.priv,∀v∈w,v=0
structure Hn (c:Code) (l:dk) (r:pE):Prop where
 it:Q9 c l r.it
 g:fY c.arrays 1 r.g
 s:fY c.arrays 2 r.s
theorem Hk {c:Code}{l:dk}{id ep at_:Int}(hc:bj c) (hid:0<=id/\id<l.groups*c.group) (he:0<=ep) (ha:at_=1\/at_=3):Q9 c l (bD c id ep at_):=by
 have hr:=hc.regs
 refine⟨⟨hid,by show at_=1\/at_=2\/at_=3;omega,⟨Int.le_refl _,by have:=hc.nb;show(0:Int)<_;omega⟩,?_,fun v hv=>?_,wH 3⟩,he,fun h=>?_,fun _=>⟨rfl,fun v hv=>(List.mem_replicate.1 hv).2,fun w hw v hv=>?_⟩⟩
 ·simp[bD];omega
 ·obtain⟨-,rfl⟩:=List.mem_replicate.1 hv;exact⟨by omega,by omega⟩
 ·have:at_=2:=h
  omega
 ·simp only[bD,iF,List.mem_map]at hw
  obtain⟨a,-,rfl⟩:=hw
  exact(List.mem_replicate.1 hv).2
theorem Hx.to {N:Nat}{R:Int}{t:Term}(hN:1<=N) (h:Hx N R t):(0<=t.to0/\t.to0<(N:Int))/\(0<=t.to1/\t.to1<(N:Int)):=by
 cases h<;>simp<;>omega
theorem PW {c:Code}{l:dk}{it:It}(hc:bj c) (h:L0 c l it) (h1:it.at_=1) (he:0<=it.epoch):Q9 c l (aP c it):=by
 obtain⟨k,Q,hbk,hQ,hQm,ht,-⟩:=hc.OA h.block
 obtain⟨-,-,hT⟩:=hc.xs Q hQm
 obtain⟨t0,t1⟩:=hT.to hc.nb.1
 have base:∀b:Int,0<=b/\b<(c.b.length:Int)->Q9 c l { it with block:=b }:=fun b hb =>
  ⟨⟨h.id,h.at_,hb,h.len,h.regs,h.priv⟩,he,fun h2=>by have:it.at_=2:=h2;omega,fun h3=>by have:it.at_=3:=h3;omega⟩
 unfold aP
 rw[ht]
 simp only
 split
 ·exact base _ t0
 split
 ·split
  ·exact base _ t0
  ·exact base _ t1
 split
 ·exact Hk hc h.id he (Or.inr rfl)
 ·refine⟨⟨h.id,Or.inr (Or.inl rfl),h.block,h.len,h.regs,h.priv⟩,he,fun _=>?_,fun h3=>by cases h3⟩
  show(dg c it.block).kind=3\/(dg c it.block).kind=4
  rw[ht]
  rename_i n1 n2 n3 _
  rcases hT.ops.2 with h|h|h|h|h
  ·exact absurd h n1
  ·exact absurd h n2
  ·exact Or.inl h
  ·exact Or.inr h
  ·exact absurd h n3
theorem Nf {c:Code}{l:dk}{it:It}{v:Int}(hc:bj c) (h:Q9 c l it) (hv:gM v):Q9 c l (l7 c it v).1:=by
 by_cases ha:it.at_=2
 case neg=>rw[w9 ha];exact h
 obtain⟨k,Q,hbk,hQ,hQm,ht,-⟩:=hc.OA h.block
 obtain⟨-,-,hT⟩:=hc.xs Q hQm
 obtain⟨t0,t1⟩:=hT.to hc.nb.1
 rw[nu ha,ht]
 refine⟨⟨h.id,Or.inl rfl,t0,?_,?_,h.priv⟩,h.ep,fun h2=>(by cases h2),fun h3=>(by cases h3)⟩
 ·have:=h.len
  simp only
  split<;>simpa using this
 ·simp only
  split
  ·exact Dz h.regs hv
  ·exact h.regs
theorem I2 {c:Code}{l:dk}{it:It}{g s:Mm}{av:Int}(hc:bj c) (hl:js c l) (h:Q9 c l it) (hg:fY c.arrays 1 g) (hs:fY c.arrays 2 s):Hn c l (bS c l it g s av)/\(bS c l it g s av).ev.length<=20:=by
 unfold bS
 split
 ·exact⟨⟨h,hg,hs⟩,by simp⟩
 rename_i ha
 have ha:it.at_=1:=by omega
 obtain⟨k,Q,hbk,hQ,hQm,ht,hins⟩:=hc.OA h.block
 obtain⟨hxs,hxl,-⟩:=hc.xs Q hQm
 rw[hins]
 have w0:qA c (wF it g s):=GH h.toL0 hg hs
 cases e:runP c l it.id av it.block Q.i 0 (wF it g s) with
 | none=>exact⟨⟨h,hg,hs⟩,by simp⟩
 | some st =>
  obtain⟨w,e1⟩:=GJ hc hl _ _ _ _ hxs w0 e
  refine⟨⟨PW hc ⟨h.id,h.at_,h.block,w.len,w.regs,w.mem 3 (by omega) (by omega)⟩ ha h.ep,w.mem 1 (by omega) (by omega),w.mem 2 (by omega) (by omega)⟩,?_⟩
  have:(wF it g s).ev.length=0:=rfl
  simp only
  omega
abbrev sx (r:pE) (dE:D):List D:=[.int .i64 r.it.id,.int .i64 r.it.at_,.int .i64 r.it.block,.int .i64 r.it.epoch,words r.it.regs,aR r.it.priv,.sl [],aR r.g,aR r.s,dE,.int .i64 r.e]
theorem Ef {r:pE}{dE:D}(h:dE.one=true):∀x,x∈sx r dE->x.one=true:=fun x hx=>by
 simp[words,aR]at hx
 rcases hx with rfl|rfl|rfl|rfl|rfl|rfl|rfl|rfl|rfl|rfl|rfl<;>first|rfl|exact h
def Ra (dE:D) (ev:List Ev):Prop:=(dE=.nil/\ev=[])\/dE=.sl (ev.map Ev.e)
theorem Ra.one {dE:D}{ev:List Ev}(h:Ra dE ev):dE.one=true:=by rcases h with⟨rfl,-⟩|rfl<;>rfl
theorem Ra.f1 {h:Heap}{dE:D}{ev:List Ev}(x:Ra dE ev):wG h dE (.sl (ev.map Ev.e)):=by
 rcases x with⟨rfl,rfl⟩|rfl
 ·exact gh
 ·exact aH rfl
theorem Mu {h:Heap}{K:D->Prop}{r:pE}{dE:D}(x:Ra dE r.ev) (hK:K (eH r)):Fj K (.agg (sx r dE)) h :=
 eh (by simp) (by simp[eH]) (.refl _) (BP.agg (.cons (aH rfl) (.cons (aH rfl) (.cons (aH rfl) (.cons (aH rfl) (.cons (aH rfl) (.cons (aH rfl) (.cons (aH rfl) (.cons (aH rfl) (.cons (aH rfl) (.cons x.f1 (.cons (aH rfl) .nil)))))))))))) hK
theorem Ny (g s:Mm):wE (xf g s):=cT (by simp[aR])
def afterP (c:Code) (l:dk):Nat->Nat->pE->pE
 | 0,_,s=>{ s with ev:=[] }
 | n+1,i,s =>
  if s.it.at_=3 then { s with ev:=[] }
  else if s.it.at_=2 then afterP c l n (i+1) { s with it:=(l7 c s.it (pJ ((i:Int).tmod 3))).1 }
  else if(bS c l s.it s.g s.s i).e=0 then afterP c l n (i+1) (bS c l s.it s.g s.s i) else s
theorem bH.Tb {h0 h:Heap}{ro0 ro:Ro}{L:List (Nat×D)}{KH:HK}(B:bH h0 ro0 h ro L) (i:Nat){n s:Nat}{cs cs':List D}{d:D}(hd:d=.agg cs') (hi:L[i]?=some (n,.agg cs)) (hl:cs.length=s) (hl':cs'.length=s) (ho:∀x,x∈cs'->x.one=true)
  (hK:∀h',bH h0 ro0 h' ro (L.set i (n,.agg cs'))->KH .undef h'):ab PP (.st (.c (.ptr n 0 0)) (.c d) s) h KH:=by
 subst hd;exact B.lf i hi hl hl' ho hK
theorem E3 {c:Code}{l:dk}(hc:bj c) (hl:js c l):∀(n i:Nat) (s:pE),Hn c l s->Hn c l (afterP c l n i s)
 | 0,_,s,h=>⟨h.it,h.g,h.s⟩
 | n+1,i,s,h=>by
  simp only[afterP]
  split
  ·exact⟨h.it,h.g,h.s⟩
  split
  ·exact E3 hc hl n (i+1) _ ⟨Nf hc h.it (dn _),h.g,h.s⟩
  split
  ·exact E3 hc hl n (i+1) _ (I2 hc hl h.it h.g h.s).1
  ·exact h
def Ay (c:Code) (l:dk) (id n:Int) (m:Mm):pE:=afterP c l n.toNat 0 ⟨bD c id 0 1,m,iF c.arrays 2,[],0⟩
theorem OL {c:Code}{l:dk}{id n:Int}{m:Mm}(hc:bj c) (hl:js c l) (hid:0<=id/\id<l.groups*c.group) (hm:fY c.arrays 1 m):Hn c l (Ay c l id n m) :=
 E3 hc hl _ _ _ ⟨Hk hc hid (by omega) (Or.inl rfl),hm,wH 2⟩
theorem Pt {c:Code}{l:dk}{id n:Int}{m:Mm}(hc:bj c) (hl:js c l) (hid:0<=id/\id<l.groups*c.group) (hn:0<=n/\n<=12) (hm:fY c.arrays 1 m) :
  aF PP mR [c.e,l.e,.int .i64 id,.int .i64 n,aR m] (· = eH (Ay c l id n m)):=by
 refine fZ (aW AS (aA _ _ _) rfl (AB _ _ _ _ _ _) ?_)
 (unfold ui;try dsimp only[xL,yL,xF,yF,xI,yI,xS,zI,zJ])
 refine bH.start.box (jG c).2 fun n1 h1 ro1 B=>?_
 refine B.box (pc l) fun n2 h2 ro2 B=>?_
 refine B.alloc fun n3 h3 ro3 B=>?_
 simp only[↓bL,↓aE,B.used 2 rfl,Nat.zero_add,B.db (s:=8) 2 rfl rfl rfl,B.db (s:=2) 1 rfl rfl rfl,B.bY 2 (j:=5) rfl rfl rfl,true_and]
 refine bc (Ld hc hl) ⟨Code.bZ c,dk.bZ l,bf,trivial⟩ ?_
 rw[zK hid]
 have hf:∀{K:D->Prop},aq PP (.fld (.c (tH (bD c id 0 1,0))) 0 7 true) h3 K=K (bD c id 0 1).e:=fun {K}=>by
  rw[Oi]
  have:=NK (P:=PP) (h:=h3) (cs:=(bD c id 0 1).cs++[.int .i64 0]) (o:=0) (s:=7) (g:=true) (KH:=fun x _=>K x)
  rw[show(tH (bD c id 0 1,0))=.agg ((bD c id 0 1).cs++[.int .i64 0]) from rfl,this,cn]
  simp[It.cs,It.e]
 simp only[↓bL,↓aE,B.used 2 rfl,Nat.zero_add,B.db (s:=8) 2 rfl rfl rfl,B.db (s:=2) 1 rfl rfl rfl,B.bY 2 (j:=5) rfl rfl rfl,ai,true_and,hf]
 refine bc (I9 hc 2) ⟨eg,bf,trivial⟩ ?_
 rw[gZ rfl]
 refine B.alloc fun n4 h4 ro4 B=>?_
 simp only[↓bL,↓aE,B.used 3 rfl,Nat.zero_add,B.db (s:=8) 3 rfl rfl rfl,B.db (s:=2) 2 rfl rfl rfl,B.bY 3 (j:=5) rfl rfl rfl,ai,true_and]
 obtain⟨s0,hs0⟩:∃s0:pE,s0=⟨bD c id 0 1,m,iF c.arrays 2,[],0⟩:=⟨_,rfl⟩
 have v0:Hn c l s0:=by rw[hs0];exact⟨Hk hc hid (by omega) (Or.inl rfl),hm,wH 2⟩
 refine B.Tb 0 (cs':=sx s0 .nil) (by rw[hs0];rfl) rfl rfl rfl (Ef rfl) fun h5 B=>?_
 have B:bH aC kY h5 ro4 [(n4,.agg (sx s0 .nil)),(n3,.agg tA),(n2,l.e),(n1,c.e)]:=B
 refine⟨fun _ h'=>∃(ro':Ro) (s:pE) (dE:D),bH aC kY h' ro' [(n4,.agg (sx s dE)),(n3,.agg tA),(n2,l.e),(n1,c.e)]/\Hn c l s/\Ra dE s.ev/\Ay c l id n m={ s with ev:=[] },?_,?_⟩
 ·rintro _ h' ⟨ro',s,dE,B,V,E,P⟩
  simp only[↓ba (B.used 0 rfl),Nat.zero_add]
  refine B.HH 0 (j:=9) rfl (by simp) rfl fun h6 B=>?_
  have B:bH aC kY h6 ro' [(n4,.agg (sx { s with ev:=[] } .nil)),(n3,.agg tA),(n2,l.e),(n1,c.e)]:=B
  rw[B.db (s:=11) 0 rfl rfl rfl]
  refine B.lf 1 (cs':=sx { s with ev:=[] } .nil) rfl rfl rfl (Ef rfl) fun h7 B=>?_
  rw[B.db (s:=11) 1 rfl rfl rfl]
  exact Mu (Or.inl ⟨rfl,rfl⟩) (by rw[P])
 (unfold nI;try dsimp only[xL,yL,xF,yF,xI,yI,xS,zI,zJ])
 refine⟨fun k qs h'=>∃(i:Nat) (ro':Ro) (s:pE) (dE:D),qs=[.int .i64 (i:Int)]/\k+i=n.toNat/\bH aC kY h' ro' [(n4,.agg (sx s dE)),(n3,.agg tA),(n2,l.e),(n1,c.e)]/\Hn c l s/\Ra dE s.ev/\Ay c l id n m=afterP c l k i s,
  n.toNat,⟨0,ro4,s0,.nil,rfl,by omega,B,v0,Or.inl ⟨rfl,by rw[hs0]⟩,by rw[hs0];rfl⟩,?_⟩
 rintro k f h' ⟨i,ro',s,dE,hf,hki,B,V,E,P⟩
 simp only[List.cons.injEq,and_true]at hf
 rw[hf,bK]
 by_cases hi:(i:Int)<n
 case neg =>
  simp only[hi,decide_false,↓SY,↓gP,↓ae,ai,true_and]
  have:k=0:=by omega
  subst this
  exact⟨ro',s,dE,B,V,E,P⟩
 obtain⟨k,rfl⟩:∃k',k=k'+1:=⟨k-1,by omega⟩
 simp only[afterP]at P
 simp only[hi,decide_true,↓Hv,↓dh,↓ba (B.used 0 rfl),Nat.zero_add,B.bY 0 (j:=1) rfl rfl rfl,↓cq]
 by_cases h3:s.it.at_=3
 ·simp only[h3,decide_true,Bool.not_true,↓ae,ai,true_and]
  rw[if_pos h3]at P
  exact⟨ro',s,dE,B,V,E,P⟩
 rw[if_neg h3]at P
 simp only[h3,decide_false,Bool.not_false,↓af]
 refine⟨fun _ h'=>∃(ro':Ro) (s:pE) (dE:D),bH aC kY h' ro' [(n4,.agg (sx s dE)),(n3,.agg tA),(n2,l.e),(n1,c.e)]/\Hn c l s/\Ra dE s.ev/\Ay c l id n m=afterP c l k (i+1) s,?_,?_⟩
 ·rintro _ h' ⟨ro',s,dE,B,V,E,P⟩
  rw[bp,GB (i:=i) (by omega)]
  exact⟨by simp,k,by omega,i+1,ro',s,dE,rfl,by omega,B,V,E,P⟩
 simp only[↓ba (B.used 0 rfl),Nat.zero_add,B.bY 0 (j:=1) rfl rfl rfl,↓aM]
 have OX:∀{K:HK},ab PP (.ld (.c (.ptr n4 0 0)) 7 true) h' K=K s.it.e h':=fun {K}=>B.rD 0 (j:=0) (s:=7) (e:=s.it.e) rfl rfl rfl (Nat.le_of_ble_eq_true rfl)
 by_cases h2:s.it.at_=2
 ·simp only[h2,decide_true,↓af,B.db (s:=8) 3 rfl rfl rfl,↓ba (B.used 0 rfl),Nat.zero_add,OX,↓bJ]
  refine⟨by simp,?_⟩
  rw[cu]
  refine bc (MW hc V.it.toL0) ⟨Code.bZ c,It.bZ _,bf,trivial⟩ ?_
  have pv:=Nf hc V.it (dn ((i:Int).tmod 3))
  unfold pJ at pv
  obtain⟨p,hp⟩:∃p,p=l7 c s.it (IntKind.i32.wrap ((i:Int).tmod 3)):=⟨_,rfl⟩
  rw[<- hp]at pv ⊢
  rw[show tH p=.agg (p.1.cs++[.int .i64 p.2]) from rfl,NK,cn]
  refine⟨by simp[It.cs],?_⟩
  simp only[↓ba (B.used 0 rfl),Nat.zero_add]
  rw[dq,B.get 0 rfl]
  refine⟨by simp[It.cs],fun x hx=>?_,rfl,by simp,?_⟩
  ·exact pe p x (List.mem_of_mem_take (by simpa[tH] using hx))
  have B:=B.av 0 rfl (.agg (sx { s with it:=p.1 } dE))
  exact⟨by simp,ro',{ s with it:=p.1 },dE,B,⟨pv,V.g,V.s⟩,E,by rw[if_pos h2]at P;rw[P,hp]⟩
 simp only[h2,decide_false,↓ae,B.db (s:=8) 3 rfl rfl rfl,B.db (s:=2) 2 rfl rfl rfl,↓ba (B.used 0 rfl),Nat.zero_add,OX,B.bY 0 (j:=7) rfl rfl rfl,B.bY 0 (j:=8) rfl rfl rfl]
 rw[cI rfl]
 refine bc (MV (g:=s.g) (s:=s.s) hc hl V.it.toL0 V.g V.s) ⟨Code.bZ c,dk.bZ l,It.bZ _,Ny _ _,bf,trivial⟩ ?_
 obtain⟨V2,-⟩:=I2 (av:=(i:Int)) hc hl V.it V.g V.s
 obtain⟨q,hq⟩:∃q,q=bS c l s.it s.g s.s (i:Int):=⟨_,rfl⟩
 rw[<- hq]at V2 ⊢
 refine B.alloc fun n5 h6 ro6 B=>?_
 refine B.lf 0 (cs':=sx q (.sl (q.ev.map Ev.e))) rfl rfl rfl (Ef rfl) fun h7 B=>?_
 simp only[↓ba (B.used 0 rfl),Nat.zero_add,B.bY 0 (j:=10) rfl rfl rfl,↓cq]
 by_cases he:q.e=0
 case neg =>
  simp only[he,decide_false,Bool.not_false,↓af]
  rw[B.db (s:=11) 1 rfl rfl rfl]
  refine B.lf 2 (cs':=sx s dE) rfl rfl rfl (Ef E.one) fun h8 B=>?_
  rw[B.db (s:=11) 2 rfl rfl rfl]
  rw[if_neg h2, <- hq,if_neg he]at P
  exact Mu E (by rw[P])
 simp only[he,decide_true,Bool.not_true,↓ae]
 rw[B.db (s:=11) 0 rfl rfl rfl]
 refine B.lf 1 (cs':=sx q (.sl (q.ev.map Ev.e))) rfl rfl rfl (Ef rfl) fun h8 B=>?_
 rw[if_neg h2, <- hq,if_pos he]at P
 exact⟨by simp,ro6,q,_,B.tail,V2,Or.inr rfl,P⟩
abbrev Et (c:Code) (x y:D) (r:List D):List D:=[.int .i64 c.group,.int .i64 c.sub,.int .i64 c.regs,.int .i64 c.slots,.int .i64 c.params,.sl (c.arrays.map bO.e),.sl (c.loops.map Loop.e),.sl (c.b.map Block.e),x,y]++r
def Es (c:Code) (l:dk) (s:pE):D:=.agg (Et c (.int .i64 l.groups) (words l.args) (F9 s))
theorem Kh (c:Code) (l:dk) (s:pE):aw (Es c l s):=fun x hx=>by
 simp[Es,words,aR]at hx
 rcases hx with rfl|rfl|rfl|rfl|rfl|rfl|rfl|rfl|rfl|rfl|rfl|rfl|rfl|rfl|rfl|rfl|rfl|rfl|rfl|rfl|rfl<;>rfl
theorem PC (c:Code) (l:dk) (s:pE):wE (Es c l s):=cT (by simp[words,aR])
def eJ (g:Int) (zs:List Int) (id st:Int):D:=.agg (.int .u8 g::zs.map (.int .i8)++[.int .u8 id,.int .u8 st])
theorem Er (g:Int) (zs:List Int) (id st:Int):aw (eJ g zs id st):=fun x hx=>by
 simp[eJ]at hx
 rcases hx with rfl|⟨z,-,rfl⟩|rfl|rfl<;>rfl
theorem Ep {g:Int}{zs:List Int}{id st:Int}(hz:zs.length=12):D.agg (((eJ g zs id st).cells.drop 0).take 13)=GX g zs:=by
 simp only[eJ,ca,List.drop_zero,GX]
 congr 1
 rw[List.take_append_of_le_length (by simp[hz]),List.take_of_length_le (by simp[hz])]
theorem Gd {g:Int}{zs:List Int}{id st:Int}(hz:zs.length=12):(eJ g zs id st).cells[13]?=some (.int .u8 id):=by
 simp only[eJ,ca]
 rw[List.getElem?_append_right (by simp[hz])]
 simp[hz]
theorem Lg {g:Int}{zs:List Int}{id st:Int}(hz:zs.length=12):(eJ g zs id st).cells[14]?=some (.int .u8 st):=by
 simp only[eJ,ca]
 rw[List.getElem?_append_right (by simp[hz])]
 simp[hz]
structure Ho (g:Int) (zs:List Int) (id st:Int):Prop where
 g:0<=g/\g<=255
 z:zs.length=12
 id:0<=id/\id<=255
 st:0<=st/\st<=255
abbrev O0:List D:=[.int .i64 0,.int .i64 0,.int .i64 0,.int .i64 0,.nil,.nil,.nil,.nil,.nil,.nil,.int .i64 0]
abbrev Uk:List D:=[.int .i64 0,.int .i64 0,.int .i64 0,.int .i64 0,.int .i64 0,.nil,.nil,.nil,.int .i64 0,.nil,.int .i64 0,.int .i64 0,.int .i64 0,.int .i64 0,.nil,.nil,.nil,.nil,.nil,.nil,.int .i64 0]
theorem Ls {bs:List Nat}{g:Int}{zs:List Int}{id st:Int}(hb:∀b∈bs,b<=255) (hbl:bs.length<=9223372036854775807) (hp:Ho g zs id st) :
  aF PP lC [mP bs,eJ g zs id st] (fun r=>∃(c:Code) (l:dk) (s:pE),bj c/\c.b.length<=18/\js c l/\Hn c l s/\r=Es c l s):=by
 refine bg zk (aA _ _ _) rfl (yi _ _ _) ?_
 (unfold so;try dsimp only[xL,yL,xF,yF,xI,yI,xS,zI,zJ])
 have hz:=hp.z
 have rvd:(mP bs).vd=true/\aw (mP bs):=(cT (by simp[wM]):wE (mP bs)).pair
 refine bH.start.box rvd.2 fun n1 h1 ro1 B=>?_
 refine B.box (Er g zs id st) fun n2 h2 ro2 B=>?_
 refine B.alloc fun n3 h3 ro3 B=>?_
 rw[B.db (s:=1) 2 rfl rfl rfl]
 refine bE (SK hb hbl) (fun d hd=>by simp at hd;subst hd;exact rvd) ?_
 rintro _ ⟨c,hco,rfl⟩
 have hc:=Ol hco
 rw[cI rfl]
 refine B.alloc fun n4 h4 ro4 B=>?_
 refine B.lf 0 (cs':=Et c (.int .i64 0) .nil O0) rfl rfl rfl (by simp) fun h5 B=>?_
 refine⟨fun _ h'=>∃(ro':Ro) (c:Code),bj c/\c.b.length<=18/\bH aC kY h' ro' [(n4,.agg (Et c (.int .i64 0) .nil O0)),(n3,.agg Uk),(n2,eJ g zs id st),(n1,mP bs)],?_,?_⟩
 ·rintro _ h' ⟨ro',c,hc,hnb,B⟩
  clear hco
  have bY:∀{K:HK},ab PP (.ld (.c (.ptr n4 0 0)) 8 true) h' K=K c.e h':=fun {K}=>B.rD 0 (j:=0) (s:=8) (e:=c.e) rfl rfl rfl (Nat.le_of_ble_eq_true rfl)
  have ldr:∀{K:HK},ab PP (.ld (.c (.ptr n2 0 0)) 13 true) h' K=K (GX g zs) h':=fun {K}=>B.rD 2 (j:=0) (s:=13) rfl (Ep hz) rfl (by simp[eJ,hz])
  simp only[↓ba (B.used 0 rfl),↓ba (B.used 2 rfl),Nat.zero_add,bY,ldr]
  have rld:(GX g zs).vd=true/\aw (GX g zs):=⟨by simp[GX,D.vd,D.vone],GW g zs⟩
  refine bE (MZ hc hp.g hz) (fun d hd=>by simp at hd;rcases hd with rfl|rfl;exact jG c;exact rld) ?_
  rintro _ ⟨l,hl,rfl⟩
  obtain⟨g1,g2,g3⟩:=DA hc hl
  simp only[↓ba (B.used 0 rfl),Nat.zero_add]
  rw[dq,B.get 0 rfl]
  refine⟨rfl,pc l,rfl,by simp,?_⟩
  have B:bH aC kY _ ro' [(n4,.agg (Et c (.int .i64 l.groups) (words l.args) O0)),(n3,.agg Uk),(n2,eJ g zs id st),(n1,mP bs)]:=B.av 0 rfl (.agg (Et c (.int .i64 l.groups) (words l.args) O0))
  have eset:setCells (.agg (Et c (.int .i64 0) .nil O0)) 8 l.e.cells=.agg (Et c (.int .i64 l.groups) (words l.args) O0):=rfl
  rw[eset]
  generalize ah h' n4 (.box (.agg (Et c (.int .i64 l.groups) (words l.args) O0)))=h6 at B
  simp only[↓ba (B.used 2 rfl),↓ba (B.used 0 rfl),Nat.zero_add,Nat.add_zero,B.bY 2 (j:=13) rfl (Gd hz) rfl,↓cu,B.bY 0 (j:=8) rfl rfl rfl,B.bY 0 (j:=0) rfl rfl rfl,↓gb,↓bJ]
  have hid:=hp.id
  have hst:=hp.st
  rw[g1,wrap64 (n:=id) (by omega) (by omega)]
  refine⟨by omega,?_⟩
  have hidx:=DV hid.1 (show 0<l.groups*c.group by omega)
  obtain⟨t1,t2⟩:=DV hst.1 (show(0:Int)<13 by omega)
  have bY:∀{K:HK},ab PP (.ld (.c (.ptr n4 0 0)) 8 true) h6 K=K c.e h6:=fun {K}=>B.rD 0 (j:=0) (s:=8) (e:=c.e) rfl rfl rfl (Nat.le_of_ble_eq_true rfl)
  have ldl:∀{K:HK},ab PP (.ld (.c (.ptr n4 0 8)) 2 true) h6 K=K l.e h6:=fun {K}=>B.rD 0 (j:=8) (s:=2) (e:=l.e) rfl rfl rfl (Nat.le_of_ble_eq_true rfl)
  have ldr:∀{K:HK},ab PP (.ld (.c (.ptr n2 0 0)) 13 true) h6 K=K (GX g zs) h6:=fun {K}=>B.rD 2 (j:=0) (s:=13) rfl (Ep hz) rfl (by simp[eJ,hz])
  simp only[↓aE,B.used 0 rfl,B.used 2 rfl,Nat.zero_add,true_and,↓bL,bY,ldl,B.bY 2 (j:=14) rfl (Lg hz) rfl,↓bJ]
  refine⟨by simp,?_⟩
  simp only[↓pj,↓cu,↓aE,B.used 0 rfl,B.used 2 rfl,Nat.zero_add,true_and,↓bL,bY,ldr]
  rw[wrap64 (by omega) (by omega)]
  refine pk (MY (g:=g) hc hz) (fun d hd=>by simp[Arg.get]at hd;rcases hd with rfl|rfl;exact jG c;exact rld) ?_
  refine iK (Pt hc hl hidx ⟨t1,by omega⟩ (Nz c zs)) ⟨Code.bZ c,dk.bZ l,bf,bf,eg,trivial⟩ ?_
  obtain⟨s,hs⟩:∃s,s=Ay c l (id.tmod (l.groups*c.group)) (st.tmod 13) (PS c zs):=⟨_,rfl⟩
  have V:=OL (n:=st.tmod 13) hc hl hidx (Nz c zs)
  rw[<- hs]at V ⊢
  rw[dq,B.get 0 rfl]
  refine⟨rfl,lZ s,rfl,by simp,?_⟩
  have B:bH aC kY _ ro' [(n4,Es c l s),(n3,.agg Uk),(n2,eJ g zs id st),(n1,mP bs)]:=B.av 0 rfl (Es c l s)
  have eset:setCells (.agg (Et c (.int .i64 l.groups) (words l.args) O0)) 10 (eH s).cells=Es c l s:=rfl
  rw[eset]
  generalize ah h6 n4 (.box (Es c l s))=h7 at B
  rw[B.db (s:=21) 0 rfl rfl rfl]
  refine B.lf 1 (cs':=Et c (.int .i64 l.groups) (words l.args) (F9 s)) rfl rfl rfl (Kh c l s) fun h8 B=>?_
  rw[B.db (s:=21) 1 rfl rfl rfl]
  exact iG (PC c l s) ⟨c,l,s,hc,hnb,hl,V,rfl⟩
 simp only[↓ba (B.used 2 rfl),Nat.zero_add,B.bY 2 (j:=13) rfl (Gd hz) rfl,↓iz]
 by_cases h128:(128:Int)<=id
 case neg =>
  simp only[h128,decide_false,↓ae,ai,true_and]
  exact⟨ro4,c,hc,hco.nb.2,B⟩
 have bY:∀{K:HK},ab PP (.ld (.c (.ptr n4 0 0)) 8 true) h5 K=K c.e h5:=fun {K}=>B.rD 0 (j:=0) (s:=8) (e:=c.e) rfl rfl rfl (Nat.le_of_ble_eq_true rfl)
 simp only[h128,decide_true,↓af,↓ba (B.used 0 rfl),Nat.zero_add,bY]
 refine bc (MX hc) ⟨Code.bZ c,trivial⟩ ?_
 simp only[↓ba (B.used 0 rfl),Nat.zero_add]
 rw[dq,B.get 0 rfl]
 refine⟨rfl,(jG (ma c)).2,rfl,by simp,?_⟩
 exact⟨by simp,ro4,ma c,Nr hc,hco.nb.2,B.av 0 rfl (.agg (Et (ma c) (.int .i64 0) .nil O0))⟩
def fitsM (s:Int):List bO->Mm->Bool
 | [],[]=>true
 | a::r,w::m=>decide (a.sz s=(w.length:Int))&&fitsM s r m
 | _,_=>false
theorem Ar {s:Int}:∀{xs:List bO}{ms:Mm},fitsM s xs ms=true->xs.length=ms.length
 | [],[],_=>rfl
 | a::r,w::m,h=>by simp[fitsM]at h;simp[Ar h.2]
 | [],_::_,h=>by simp[fitsM]at h
 | _::_,[],h=>by simp[fitsM]at h
theorem tg {s:Int}:∀{xs:List bO}{ms:Mm},xs.length=ms.length->(fitsM s xs ms=true ↔ ∀(i:Nat) (a:bO) (w:List Int),xs[i]?=some a->ms[i]?=some w->a.sz s=(w.length:Int))
 | [],[],_=>by simp[fitsM]
 | a::r,w::m,h=>by
  simp only[List.length_cons,Nat.add_right_cancel_iff]at h
  simp only[fitsM,Bool.and_eq_true,decide_eq_true_eq,tg h]
  constructor
  ·rintro⟨h1,h2⟩ i a' w' ha hw
   cases i with
   | zero=>simp at ha hw;subst ha hw;exact h1
   | succ i=>exact h2 i a' w' (by simpa using ha) (by simpa using hw)
  ·intro h
   exact⟨h 0 a w rfl rfl,fun i a' w' ha hw=>h (i+1) a' w' (by simpa using ha) (by simpa using hw)⟩
theorem NV {s:Int}{xs:List bO}{ms:Mm}(h:xs.length≠ms.length):fitsM s xs ms=false:=by
 cases e:fitsM s xs ms with
 | false=>rfl
 | true=>exact absurd (Ar e) h
theorem NU {s:Int}{xs:List bO}{ms:Mm}(hl:xs.length=ms.length){i:Nat}{a:bO}{w:List Int}(ha:xs[i]?=some a) (hw:ms[i]?=some w) (h:a.sz s≠(w.length:Int)):fitsM s xs ms=false:=by
 cases e:fitsM s xs ms with
 | false=>rfl
 | true=>exact absurd ((tg hl).1 e i a w ha hw) h
theorem PB (a:bO) (w:List Int) (n:Nat) (s:Int){h:Heap}{K:HK}(hb:h n=.box (.int .i64 s)) (hk:∀h',Ext h h'->K (.bool (decide (a.sz s=(w.length:Int)))) h'):ag PP gI [a.e,words w,.ptr n 0 0] h K:=by
 refine aW tT (aA _ _ _) rfl (tN _ _ _ _) ?_
 (unfold nQ;try dsimp only[xL,yL,xF,yF,xI,yI,xS,zI,zJ])
 rw[cJ]
 refine⟨(bO.vd a).2,fun m t=>?_⟩
 have hne:n≠m:=t.ne (by rw[hb];simp)
 have hm:ah h m (.box a.e) m=.box (.agg [.str a.name,.int .i64 a.space,.int .i64 a.type,.int .i64 a.len]):=ad _ _ _
 have hn:ah h m (.box a.e) n=.box (.int .i64 s):=by rw[aa _ _ hne];exact hb
 have l4:∀{K:HK},ab PP (.ld (.c (.ptr m 0 0)) 4 true) (ah h m (.box a.e)) K=K a.e (ah h m (.box a.e)):=fun {K}=>db hm
 rw[l4,Hu hn rfl]
 refine bc (M3 a s) ⟨bO.bZ a,bf,trivial⟩ ?_
 rw[words,jf,List.length_map,aM]
 exact hk _ (Ext.new t _)
theorem SH:dW PP gI=true:=by kernel_rfl
theorem Qm:dW PP fN=true:=by kernel_rfl
theorem Qu {P:Program}{l:List bO}{k:Nat}{r:bO}(hr:l[k]?=some r){h:Heap}{KH:HK}:ab P (.iadd (.c (.sl (l.map bO.e))) (.c (.int .i64 (k:Int))) 4) h KH=KH (.vp r.e 0) h:=by
 have hk:=(List.getElem?_eq_some_iff.1 hr).1
 rw[im,Int.toNat_natCast,List.getElem?_map,hr,List.length_map]
 apply propext
 constructor
 ·rintro⟨-,-,h⟩;exact(h _ rfl).2
 ·intro hk';exact⟨by omega,by omega,fun d hd=>by cases hd;exact⟨rfl,hk'⟩⟩
theorem RU {xs:List bO}{ms:Mm}(hlx:xs.length<=1000000) (s:Int):aF PP mW [.sl (xs.map bO.e),.int .i64 s,aR ms] (· = .bool (fitsM s xs ms)):=by
 refine bg A7 (aA _ _ _) rfl (AO _ _ _ _) ?_
 (unfold uB;try dsimp only[xL,yL,xF,yF,xI,yI,xS,zI,zJ])
 rw[cJ]
 refine⟨jY.2,fun n t=>?_⟩
 have hb:ah aC n (.box (.int .i64 s)) n=.box (.int .i64 s):=ad _ _ _
 generalize ah aC n (.box (.int .i64 s))=h at hb
 rw[TJ]
 have hk:∀(h':Heap) (b:Bool),b=fitsM s xs ms->qH (· = .bool (fitsM s xs ms)) (.bool b) h':=fun h' b hb=>bM.mpr (by rw[hb])
 refine aW cE (aA _ _ _) rfl (cC _ _ _ _) ?_
 (unfold bA;try dsimp only[xL,yL,xF,yF,xI,yI,xS,zI,zJ])
 rw[jf,lD,cq,List.length_map]
 by_cases hl:xs.length=ms.length
 case neg =>
  simp only[show((xs.length:Int)=(ms.length:Int))=False from eq_false (by omega),decide_false,Bool.not_false,↓af]
  exact hk _ _ (NV hl).symm
 simp only[hl,decide_true,Bool.not_true,↓ae]
 refine⟨fun _ _=>fitsM s xs ms=true,fun _ h' h2=>hk _ _ h2.symm,?_⟩
 rw[jf,List.length_map]
 (unfold bt;try dsimp only[xL,yL,xF,yF,xI,yI,xS,zI,zJ])
 refine⟨fun k qs h'=>∃i:Nat,qs=[.int .i64 (i:Int)]/\k+i=xs.length/\h' n=.box (.int .i64 s)/\∀(j:Nat) (a:bO) (w:List Int),j<i->xs[j]?=some a->ms[j]?=some w->a.sz s=(w.length:Int),xs.length,⟨0,rfl,rfl,hb,fun j a w hj=>by omega⟩,?_⟩
 rintro k f h' ⟨i,hf,hki,hb,hall⟩
 simp only[List.cons.injEq,and_true]at hf
 rw[hf,bK]
 by_cases hi:i<xs.length
 case neg =>
  simp only[show ¬((i:Int)<(xs.length:Int)) by omega,decide_false,↓ae,ai,true_and]
  refine(tg hl).2 fun j a w ha hw=>hall j a w ?_ ha hw
  have:=(List.getElem?_eq_some_iff.1 ha).1
  omega
 have ha:xs[i]?=some xs[i]:=List.getElem?_eq_getElem hi
 have hw:ms[i]?=some (ms[i]'(by omega)):=List.getElem?_eq_getElem (by omega)
 obtain⟨a,hae⟩:∃a,a=xs[i]:=⟨_,rfl⟩
 obtain⟨w,hwe⟩:∃w,w=ms[i]'(by omega):=⟨_,rfl⟩
 rw[<- hae]at ha
 rw[<- hwe]at hw
 simp only[show((i:Int)<(xs.length:Int)) by omega,decide_true,↓af,↓Qu ha,↓KA]
 rw[bQ]
 intro m t2
 have hne:n≠m:=t2.ne (by rw[hb];simp)
 have es:setCells (.agg Ug) 0 a.e.cells=a.e:=rfl
 rw[dq,ad]
 refine⟨rfl,(bO.bZ a).one,rfl,by simp,?_⟩
 rw[hU,es]
 have hm:ah h' m (.box a.e) m=.box (.agg [.str a.name,.int .i64 a.space,.int .i64 a.type,.int .i64 a.len]):=ad _ _ _
 have hn:ah h' m (.box a.e) n=.box (.int .i64 s):=by rw[aa _ _ hne];exact hb
 generalize ah h' m (.box a.e)=h2 at hm hn
 have l4:∀{K:HK},ab PP (.ld (.c (.ptr m 0 0)) 4 true) h2 K=K a.e h2:=fun {K}=>db hm
 rw[xg hw,qF,l4,Kp]
 refine⟨SH,PB a w n s hn fun h3 x3=>?_⟩
 have hn3:h3 n=.box (.int .i64 s):=by rw[x3 n (by rw[hn];simp),hn]
 by_cases hsz:a.sz s=(w.length:Int)
 case neg =>
  simp only[hsz,decide_false,↓Np,↓af]
  exact hk _ _ (NU hl ha hw hsz).symm
 simp only[hsz,decide_true,↓HZ,↓ae]
 rw[bp,GB (i:=i) (by omega)]
 refine⟨by simp,k-1,by omega,i+1,rfl,by omega,hn3,fun j a' w' hj ha' hw'=>?_⟩
 rcases Nat.lt_or_ge j i with h3|h3
 ·exact hall j a' w' h3 ha' hw'
 ·have:j=i:=by omega
  subst this
  rw[ha]at ha';rw[hw]at hw'
  cases ha';cases hw'
  exact hsz
end Go.Am
namespace Go.Am
open Go Go.Proofs Go.Shelf
def lE:Ren where
 f:=fun x=>match x with
  | 4=>72
  | n=>n
 t:=fun x=>match x with
  | 22=>39
  | 25=>21
  | n=>n
 g:=fun n=>n
theorem QR:Lays8.n4 Try.prog lE where
 mixed:=by kernel_rfl
 f4:=⟨ "slices.Grow[[]int32,int32]",by decide,by kernel_rfl⟩
 t0:=Try.underlying0
 a0:=Try.isAgg0
 z0:=Try.sizeOf0
 v0:=Try.zeroValue0
 t3:=Try.underlying3
 a3:=Try.isAgg3
 z3:=Try.sizeOf3
 v3:=Try.zeroValue3
 t4:=Try.underlying4
 a4:=Try.isAgg4
 z4:=Try.sizeOf4
 v4:=Try.zeroValue4
 t9:=Try.underlying9
 a9:=Try.isAgg9
 z9:=Try.sizeOf9
 v9:=Try.zeroValue9
 t20:=Try.underlying20
 a20:=Try.isAgg20
 z20:=Try.sizeOf20
 v20:=Try.zeroValue20
 t22:=Try.underlying39
 a22:=Try.isAgg39
 z22:=Try.sizeOf39
 v22:=Try.zeroValue39
theorem LA:∃i0:TypeInfo,PP.info? (lE.t 25)=some i0/\i0.zero=some (.int .i32 0)/\i0.size=1/\i0.bytes=4:=by
 have hs:(PP.info? (lE.t 25)).map (·.size)=some 1:=by kernel_rfl
 have hb:(PP.info? (lE.t 25)).map (·.bytes)=some 4:=by kernel_rfl
 have hz:(PP.info? (lE.t 25)).bind (·.zero)=some (Value.int .i32 0):=by kernel_rfl
 cases e:PP.info? (lE.t 25) with
 | none=>rw[e]at hs;cases hs
 | some i0 =>
  rw[e]at hs hb hz
  exact⟨i0,rfl,by simpa using hz,by simpa using hs,by simpa using hb⟩
theorem Sp:lE.f 4=dJ:=by kernel_rfl
theorem RT {n:Nat}{h:Heap}{KH:HK}(hn:n<=1000000) (h0:n=0->KH .nil h) (hk:∀q,nT h q->KH (.ms q 0 0) (ah h q (.arr 1 []))):ag PP dJ [.nil,.int .i64 (n:Int)] h KH:=by
 intro c w vals hh hp hr hs hrel
 obtain⟨i0,hi,hz,hsz,hb⟩:=LA
 have e0:vals = #[.slice none 0 0,.int .i64 (n:Int)]:=by
  have r0:=hrel 0 .nil rfl
  have r1:=hrel 1 (.int .i64 (n:Int)) rfl
  apply Array.ext
  ·simpa using hs
  ·intro i h1 h2
   have:i=0\/i=1:=by simp at h2;omega
   rcases this with rfl|rfl
   ·have e:vals.getD 0 Go.undef=vals[0]:=by simp[Array.getD,h1]
    rw[e]at r0;show vals[0]=Value.slice none 0 0;generalize vals[0]=v at r0;cases r0;rfl
   ·have e:vals.getD 1 Go.undef=vals[1]:=by simp[Array.getD,h1]
    rw[e]at r1;show vals[1]=Value.int .i64 (n:Int);generalize vals[1]=v at r1;cases r1;rfl
 rw[e0, <- Sp]
 by_cases hn0:n=0
 ·subst hn0
  refine(Any8.slices_Grow_room QR none 0 0 0 w (Nat.le_refl _) (by omega) (by omega) (Nat.le_refl _)).mono ?_
  rintro e w' ⟨rfl,rfl⟩
  refine⟨_,.nil,c.ρ,c.h,rfl,?_,?_,WS.refl _,.nil,by rw[hh];exact h0 rfl⟩
  ·rw[<- hp];exact Ctx.le.refl _
  ·rw[<- hp];exact hr
 refine(Any8.slices_Grow_grow QR i0 _ hi hz (by omega) none 0 0 n [] w (Nat.le_refl _) (by omega) (by rw[hb];omega) (by omega) (by simp) (fun _=>rfl) (fun a ha=>by cases ha)).mono ?_
 rintro e w' ⟨rfl,rfl⟩
 obtain⟨q,htop⟩:=da hr
 have hq:=htop.free
 have hG:=grownCap_ge w (0+n) 0 (lE.t 25)
 have hG2:=grownCap_le_maxLen w (0+n) 0 (lE.t 25) (by unfold maxLen;omega)
 generalize grownCap w (0+n) 0 (lE.t 25)=G at hG hG2 ⊢
 obtain⟨cells,hcells⟩:∃cells:Array Value,cells=([]:List Value).toArray++Builtin.zeroCells (Value.int .i32 0).cells (0+n-0)++Builtin.zeroCells (Value.int .i32 0).cells (G-(0+n)):=⟨_,rfl⟩
 rw[<- hcells]
 have hsize:cells.size=G:=by
  have h1:(Value.int .i32 0).cells.size=1:=rfl
  rw[hcells];simp[Builtin.zeroCells,h1];omega
 have hst:=hO.new (c:=c) (s:=.arr 1 []) hq trivial (.cells cells (lE.t 25)) (hp':=(w.drew.alloc (.cells cells (lE.t 25))).heap) (by rw[hp];rfl)
 have hsl:cU ⟨ah c.ρ q (some c.hp.size),c.X,ah c.h q (.arr 1 []),(w.drew.alloc (.cells cells (lE.t 25))).heap⟩ q (.arr 1 []) :=
  xJ (hp:=w.heap) rfl (by simp[ah,hp]) (by omega) (by simp) (by simp) (fun i j d hd=>by simp[aU]at hd)
 refine⟨_,.ms q 0 0,ah c.ρ q (some c.hp.size),ah c.h q (.arr 1 []),rfl,hst.le,hst.heap hr (by simpa using hsl),⟨rfl,rfl,rfl⟩,?_,by rw[hh];exact hk q (by rw[<- hh];exact htop)⟩
 have:=au.ms (c:=⟨ah c.ρ q (some c.hp.size),c.X,ah c.h q (.arr 1 []),(w.drew.alloc (.cells cells (lE.t 25))).heap⟩) q 0 0 w.heap.size 1 G [] cells (lE.t 25) (0,0) (by simp[ah,Slot.row]) (by simp[ah,hp])
  (by simp) (gq _ _) (by simp[hsize]) (by omega) hG2
 simpa using this
theorem Qx {P:Program}{h:Heap}{KH:HK}{z s:D}{w u:List Int}(ho:Own 1 h s (wr w)) (hl:w.length+u.length<=1000000)
  (hk:∀v h',Own 1 h' v (wr (w++u))->KH v h'):ab P (.app (.c s) (.c (words u)) 1 4 z) h KH:=by
 refine⟨fun d hd=>?_,fun y hy=>?_,?_⟩
 ·simp only[words,List.mem_map]at hd;obtain⟨z,-,rfl⟩:=hd;rfl
 ·simp only[words,List.mem_map]at hy;obtain⟨z,-,rfl⟩:=hy;simp
 have e:wr (w++u)=wr w++wr u:=by simp[wr]
 rcases ho with⟨rfl,hw⟩|⟨m,rfl,hm⟩
 ·have hw:w=[]:=by cases w<;>first|rfl|(simp[wr]at hw)
  subst hw
  refine⟨⟨by simp at hl ⊢;omega,by simp at hl ⊢;omega⟩,fun n t=>hk _ _ (Or.inr ⟨n,?_,ad _ _ _⟩)⟩
  simp[wr]
 ·refine⟨wr w,hm,rfl,rfl,⟨by rw[mO];simp at hl ⊢;omega,by rw[mO];simp at hl ⊢;omega⟩,fun n t=>hk _ _ (Or.inr ⟨n,?_,?_⟩)⟩
  ·rw[e];simp[wr,words]
  ·rw[ad,e];rfl
theorem Nu {ws:Mm}{i:Nat}{w:List Int}(hw:ws[i]?=some w):(ws.take (i+1)).flatten=(ws.take i).flatten++w:=by
 rw[List.take_add_one,hw];simp
theorem TB {ws:Mm}:∀i,(ws.take i).flatten.length<=ws.flatten.length:=fun i=>by
 conv=>rhs;rw[<- List.take_append_drop i ws]
 rw[List.flatten_append,List.length_append];omega
theorem M4 {ws:Mm}(hl:ws.flatten.length<=1000000) (hn:ws.length<=1000000):aF PP bX [aR ws] (· = words ws.flatten):=by
 refine fZ (aW je (aA _ _ _) rfl (jd _ _) ?_)
 (unfold fR;try dsimp only[xL,yL,xF,yF,xI,yI,xS,zI,zJ])
 refine⟨fun qs h'=>qs=[.int .i64 (ws.flatten.length:Int)],?_,?_⟩
 ·rintro f h' hf
  simp only[List.cons.injEq,and_true]at hf
  rw[hf]
  have fin:∀(v:D) (h6:Heap),Own 1 h6 v (wr [])->∃(J7:HJ),(∀(f8:Nat->D) (h9:Heap),J7 [f8 6] h9->Fj (· = words ws.flatten) (f8 6) h9)/\bR (aR ws) h6 fun a10=>cD v h6 a10 (aR ws) J7:=by
   intro v h6 O
   refine⟨fun qs h'=>∃v,qs=[v]/\Own 1 h' v (wr ws.flatten),?_,?_⟩
   ·rintro f8 h9 ⟨v,hv,O⟩
    simp only[List.cons.injEq,and_true]at hv
    rw[hv]
    have ht:∀ds,v≠.tup ds:=by rcases O with⟨rfl,-⟩|⟨n,rfl,-⟩<;>simp
    exact eh ht (by simp[words]) (.refl _) (QO O).d rfl
   rw[lD]
   (unfold cD;try dsimp only[xL,yL,xF,yF,xI,yI,xS,zI,zJ])
   refine⟨fun k qs h'=>∃(i:Nat) (v:D),qs=[v,.int .i64 (i:Int)]/\k+i=ws.length/\Own 1 h' v (wr (ws.take i).flatten),ws.length,⟨0,v,rfl,rfl,by simpa using O⟩,?_⟩
   rintro k f h' ⟨i,v,hf,hki,O⟩
   simp only[List.cons.injEq,and_true]at hf
   obtain⟨hf1,hf2⟩:=hf
   rw[hf1,hf2,bK]
   by_cases hi:i<ws.length
   case neg =>
    simp only[show ¬((i:Int)<(ws.length:Int)) by omega,decide_false,↓ae,ai,true_and]
    rw[List.take_of_length_le (by omega)]at O
    exact⟨v,rfl,O⟩
   have hw:ws[i]?=some ws[i]:=List.getElem?_eq_getElem hi
   have ht:=Nu hw
   have hle:=TB (ws:=ws) (i+1)
   rw[ht,List.length_append]at hle
   simp only[show((i:Int)<(ws.length:Int)) by omega,decide_true,↓af,↓xg hw,↓qF]
   refine Qx O (by omega) fun v' h2 O2=>?_
   rw[bp,GB (i:=i) (by omega)]
   exact⟨by simp,k-1,by omega,i+1,v',rfl,by omega,by rw[ht];exact O2⟩
  exact RT hl (fun _=>fin _ _ (Or.inl ⟨rfl,rfl⟩)) fun q t=>fin _ _ (Or.inr ⟨q,rfl,ad _ _ _⟩)
 rw[lD]
 (unfold eT;try dsimp only[xL,yL,xF,yF,xI,yI,xS,zI,zJ])
 refine⟨fun k qs h'=>∃(i:Nat),qs=[.int .i64 ((ws.take i).flatten.length:Int),.int .i64 (i:Int)]/\k+i=ws.length,ws.length,⟨0,rfl,rfl⟩,?_⟩
 rintro k f h' ⟨i,hf,hki⟩
 simp only[List.cons.injEq,and_true]at hf
 obtain⟨hf1,hf2⟩:=hf
 rw[hf1,hf2,bK]
 by_cases hi:i<ws.length
 case neg =>
  simp only[show ¬((i:Int)<(ws.length:Int)) by omega,decide_false,↓ae,ai,true_and]
  rw[List.take_of_length_le (by omega)]
 have hw:ws[i]?=some ws[i]:=List.getElem?_eq_getElem hi
 have ht:=Nu hw
 have hle:=TB (ws:=ws) (i+1)
 rw[ht,List.length_append]at hle
 simp only[show((i:Int)<(ws.length:Int)) by omega,decide_true,↓af,↓xg hw,↓qF,↓lW]
 refine⟨fun qs _=>qs=[.int .i64 ((ws.take (i+1)).flatten.length:Int)],?_,?_⟩
 ·rintro f3 h3 hf3
  simp only[List.cons.injEq,and_true]at hf3
  rw[hf3,bp,GB (i:=i) (by omega)]
  exact⟨by simp,k-1,by omega,i+1,rfl,by omega⟩
 rw[bp,wrap64 (by omega) (by omega),bK]
 simp only[show ¬((((ws.take i).flatten.length:Int)+(ws[i].length:Int))<0) by omega,decide_false,↓ae,ai,true_and]
 rw[ht,List.length_append];simp
theorem Eo {w:List Int}(hl:w.length<=1000000){h:Heap}{KH:HK}(hk:∀h',KH (.bool (w.any (· ≠ 0))) h'):ag PP bG [words w,.fn fN [] []] h KH:=by
 refine aW gN (aA _ _ _) rfl (gL _ _ _) ?_
 (unfold dO;try dsimp only[xL,yL,xF,yF,xI,yI,xS,zI,zJ])
 refine aW ix (aA _ _ _) rfl (iu _ _ _) ?_
 (unfold eS;try dsimp only[xL,yL,xF,yF,xI,yI,xS,zI,zJ])
 refine⟨fun _ _=>w.any (· ≠ 0)=false,fun _ h' he=>?_,?_⟩
 ·show vbin .geq (.int .i64 (-1)) (.int .i64 0) _
  rw[iz]
  have:=hk h'
  have he:w.any (· ≠ 0)=false:=he
  rw[he]at this
  exact this
 rw[lW]
 (unfold dM;try dsimp only[xL,yL,xF,yF,xI,yI,xS,zI,zJ])
 refine⟨fun k qs h'=>∃(i:Nat),qs=[.int .i64 (i:Int)]/\k+i=w.length/\∀v,v∈w.take i->v=0,w.length,⟨0,rfl,rfl,by simp⟩,?_⟩
 rintro k f h' ⟨i,hf,hki,hall⟩
 simp only[List.cons.injEq,and_true]at hf
 rw[hf,bK]
 by_cases hi:i<w.length
 case neg =>
  simp only[show ¬((i:Int)<(w.length:Int)) by omega,decide_false,↓ae,ai,true_and]
  rw[List.take_of_length_le (by omega)]at hall
  simpa using hall
 have hv:w[i]?=some w[i]:=List.getElem?_eq_getElem hi
 simp only[show((i:Int)<(w.length:Int)) by omega,decide_true,↓af,↓Me hv,↓NH]
 rw[Kp]
 refine⟨Qm,?_⟩
 refine aW wC (aA _ _ _) rfl (wu _ _) ?_
 (unfold pU;try dsimp only[xL,yL,xF,yF,xI,yI,xS,zI,zJ])
 show vbin .neq (.int .i32 w[i]) (.int .i32 0) _
 rw[cq]
 by_cases h0:w[i]=0
 case neg =>
  simp only[h0,decide_false,Bool.not_false,↓af]
  rw[iz]
  have:=hk h'
  rw[show w.any (· ≠ 0)=true by simpa using ⟨w[i],List.getElem_mem _,h0⟩]at this
  simpa using this
 simp only[h0,decide_true,Bool.not_true,↓ae]
 rw[bp,GB (i:=i) (by omega)]
 refine⟨by simp,k-1,by omega,i+1,rfl,by omega,fun v hv'=>?_⟩
 rw[List.take_add_one,hv]at hv'
 rcases List.mem_append.1 hv' with hv'|hv'
 ·exact hall v hv'
 ·simp at hv';rw[hv',h0]
def mN (w:List Int):Bool:=w.all (· = 0)
theorem IU {w:List Int}:mN w=true ↔ ∀v∈w,v=0:=by simp[mN]
def ET (m:Mm):Bool:=m.all mN
theorem Jv {m:Mm}:ET m=true ↔ ∀w∈m,∀v∈w,v=0:=by simp[ET,mN]
structure KJ where
 id:Int
 at_:Int
 block:Int
 epoch:Int
 regs:List Int
 priv:Mm
 slots:List Int
abbrev KJ.cs (x:KJ):List D:=[.int .i64 x.id,.int .i64 x.at_,.int .i64 x.block,.int .i64 x.epoch,words x.regs,aR x.priv,words x.slots]
def KJ.e (x:KJ):D:=.agg x.cs
theorem KJ.bZ (x:KJ):wE x.e:=cT (by simp[words,aR])
structure U2 (x:KJ):Prop where
 r:x.regs.length<=1000
 s:x.slots.length<=1000
 p:x.priv.length<=1000
def It.g (x:It):KJ:=⟨x.id,x.at_,x.block,x.epoch,x.regs,x.priv,[]⟩
theorem It.Vt (x:It):x.g.e=x.e:=rfl
structure we (c:Code) (l:dk) (x:KJ):Prop where
 id:0<=x.id/\x.id<l.groups*c.group
 ep:0<=x.epoch
 bl:0<=x.block/\x.block<(c.b.length:Int)
 rg:(x.regs.length:Int)=c.regs
 sl:(x.slots.length:Int)=c.slots
 ft:fitsM 3 c.arrays x.priv=true
 a:x.at_=1\/(x.at_=2/\((dg c x.block).kind=3\/(dg c x.block).kind=4))\/(x.at_=3/\x.block=0/\mN x.regs=true/\mN x.slots=true/\ET x.priv=true)
noncomputable def qJ (c:Code) (l:dk) (x:KJ):Bool:=@decide (we c l x) (Classical.propDecidable _)
theorem zv {c:Code}{l:dk}{x:KJ}(h:¬we c l x):qJ c l x=false:=by unfold qJ;exact @decide_eq_false _ (Classical.propDecidable _) h
theorem oC {c:Code}{l:dk}{x:KJ}(h:we c l x):qJ c l x=true:=by unfold qJ;exact @decide_eq_true _ (Classical.propDecidable _) h
theorem F6 {c:Code}{l:dk}{x:KJ}{b:Bool}(h:b=true↔we c l x):qJ c l x=b:=by
 cases b with
 | true=>exact oC (h.1 rfl)
 | false=>exact zv fun k=>by cases h.2 k
theorem Sq {P:Program}{h:Heap}{KH:HK}{z x y:D}(hx:x.vone=true) (hy:y.vone=true) (hk:∀n,nT h n->KH (.ms n 0 2) (ah h n (.arr 1 [x,y]))):ab P (.bldS true 1 2 z [(0,.c x),(1,.c y)]) h KH:=by
 have cx:=gF (D.de hx)
 have cy:=gF (D.de hy)
 obtain⟨x1,x2,x3⟩:=DL (h:=h) (s9 hx)
 obtain⟨y1,y2,y3⟩:=DL (h:=h) (s9 hy)
 refine⟨fun p hp=>?_,fun _ p hp=>?_,fun n t=>?_⟩
 ·simp[Arg.get]at hp
  rcases hp with rfl|rfl
  ·exact⟨by simp,by simp[cx],fun d hd=>by rw[cx]at hd;simp at hd;subst hd;exact D.de hx⟩
  ·exact⟨by simp,by simp[cy],fun d hd=>by rw[cy]at hd;simp at hd;subst hd;exact D.de hy⟩
 ·simp[Arg.get]at hp
  rcases hp with rfl|rfl
  ·first|exact x3|exact⟨x3,by rw[x1];exact s9 hx⟩
  ·first|exact y3|exact⟨y3,by rw[y1];exact s9 hy⟩
 ·have:=hk n t
  simpa[Heap.freezeAll,setEls,Arg.get,x1,x2,y1,y2] using this
theorem Qy {P:Program}{h:Heap}{KH:HK}{z:D}{n:Nat}{ws m:Mm}(hn:h n=.arr 1 (ws.map words)) (hl:ws.length+m.length<=1000000)
  (hk:∀q h',h' q=.arr 1 ((ws++m).map words)->(∀k,h k≠.free->k≠n->h' k=h k)->h q=.free->KH (.ms q 0 (ws++m).length) h'):ab P (.app (.c (.ms n 0 ws.length)) (.c (aR m)) 1 24 z) h KH:=by
 refine⟨fun d hd=>?_,fun y hy=>?_,ws.map words,hn,rfl,by simp,⟨by simp;omega,by simp;omega⟩,fun q t=>?_⟩
 ·simp only[aR,List.mem_map]at hd;obtain⟨z,-,rfl⟩:=hd;rfl
 ·simp only[aR,List.mem_map]at hy;obtain⟨z,-,rfl⟩:=hy;simp[words]
 ·have:=hk q (ah (ah h n .dead) q (.arr 1 ((ws++m).map words))) (ad _ _ _) (fun k hk hkn=>by rw[aa _ _ (t.ne hk),aa _ _ hkn]) t.free
  simpa using this
theorem MK {P:Program}{f:FuncId}{n:Nat}{els:List D}{h:Heap}{KH:HK}{R:D->Prop}(hn:h n=.arr 1 els) (he:∀x∈els,∀y∈x.cells,y.vone=true)
  (hv:aF P f [.sl els] R) (hk:∀r h',R r->(∀k,k≠n->h' k=h k)->KH r h'):ag P f [.ms n 0 els.length] h KH:=by
 have hrow:(h n).row=some (1,els):=by rw[hn];rfl
 have e0:(D.ms n 0 els.length).fz h=.sl els:=by simp[D.fz,D.fzc,hrow]
 refine ag.mono ?_ (gA (K:=R) (by rw[List.map_cons,List.map_nil,e0];exact hv) (fun d hd=>?_))
 ·rintro r h' ⟨k1,k2,k3⟩
  refine hk r h' k1 fun k hkn=>?_
  by_cases hr:r.flat=true\/[D.ms n 0 els.length].flatMap D.nm=[]
  ·rw[k2 hr]
  ·rw[k3 hr]
   simp[D.nm,D.jA,Heap.freezeAll,Heap.freeze,hn,aa _ _ hkn]
 ·simp only[List.mem_singleton]at hd
  subst hd
  refine⟨by simp,?_,by rw[e0];rfl⟩
  intro x hx
  simp only[D.cells,List.mem_singleton]at hx
  subst hx
  exact⟨1,els,hrow,by simp,fun x hx y hy=>he x (by simpa using hx) y hy⟩
theorem TA (m:Mm):∀x,x∈m.map words->∀y∈x.cells,y.vone=true:=fun x hx y hy=>by
 simp only[List.mem_map]at hx
 obtain⟨z,-,rfl⟩:=hx
 simp[words]at hy;subst hy;rfl
theorem any_zero {w1 w2:List Int}{m:Mm}:((w1::w2::m).flatten.any (· ≠ 0)=false)↔mN w1=true/\mN w2=true/\ET m=true:=by
 simp only[List.any_eq_false,List.mem_flatten,List.mem_cons,IU,Jv]
 constructor
 ·intro h
  refine⟨fun v hv=>by simpa using h v ⟨w1,Or.inl rfl,hv⟩,fun v hv=>by simpa using h v ⟨w2,Or.inr (Or.inl rfl),hv⟩,fun w hw v hv=>by simpa using h v ⟨w,Or.inr (Or.inr hw),hv⟩⟩
 ·rintro⟨a,b,d⟩ v ⟨w,hw|hw|hw,hv⟩
  ·subst hw;simp[a v hv]
  ·subst hw;simp[b v hv]
  ·simp[d w hw v hv]
theorem Qe {c:Code}(hc:bj c){m:Mm}(h:fitsM 3 c.arrays m=true):m.length<=8/\(∀w∈m,w.length<=8)/\m.flatten.length<=64:=by
 have hl:=Ar h
 have hna:=hc.nar
 have hw:∀w∈m,w.length<=8:=fun w hw=>by
  obtain⟨i,hi⟩:=List.getElem?_of_mem hw
  have hlt:=(List.getElem?_eq_some_iff.1 hi).1
  have ha:c.arrays[i]?=some (c.arrays[i]'(by omega)):=List.getElem?_eq_getElem (by omega)
  have:=(tg hl).1 h i _ w ha hi
  have hao:=(hc.ar _ (List.mem_of_getElem? ha)).2
  unfold bO.sz at this
  split at this<;>omega
 refine⟨by omega,hw,?_⟩
 have:∀(m:Mm),(∀w∈m,w.length<=8)->m.flatten.length<=8*m.length:=by
  intro m
  induction m with
  | nil=>simp
  | cons a r ih =>
   intro h
   have:=ih fun w hw=>h w (by simp[hw])
   have:=h a (by simp)
   simp only[List.flatten_cons,List.length_append,List.length_cons]
   omega
 have:=this m hw
 omega
theorem Pz {c:Code}{l:dk}{x:KJ}(hc:bj c) (hl:js c l) (hb:U2 x):aF PP kQ [c.e,l.e,x.e] (· = .bool (qJ c l x)):=by
 refine bg Dl (aA _ _ _) rfl (C0 _ _ _ _) ?_
 (unfold yp;try dsimp only[xL,yL,xF,yF,xI,yI,xS,zI,zJ])
 refine bH.start.box (jG c).2 fun n1 h1 ro1 B=>?_
 refine B.box (pc l) fun n2 h2 ro2 B=>?_
 refine B.box x.bZ.one fun n3 h3 ro3 B=>?_
 obtain⟨g1,g2,g3⟩:=DA hc hl
 have u0:=B.used 0 rfl
 have u1:=B.used 1 rfl
 have u2:=B.used 2 rfl
 refine⟨fun _ _=>¬we c l x,fun _ h' hn=>bM.mpr (by rw[zv hn]),?_⟩
 simp only[↓ba u0,Nat.zero_add,B.bY 0 (j:=0) rfl rfl rfl,↓bK]
 by_cases i1:x.id<0
 ·simp only[i1,decide_true,↓L2,↓dh,↓af,ai,true_and]
  exact fun h=>by have:=h.id;omega
 simp only[i1,decide_false,↓G3,↓ba u0,↓ba u1,↓ba u2,Nat.zero_add,B.bY 0 (j:=0) rfl rfl rfl,B.bY 1 (j:=0) rfl rfl rfl,B.bY 2 (j:=0) rfl rfl rfl,↓gb,g1,↓iz,↓gP]
 by_cases i2:l.groups*c.group<=x.id
 ·simp only[i2,decide_true,↓L2,↓dh,↓af,ai,true_and]
  exact fun h=>by have:=h.id;omega
 simp only[i2,decide_false,↓G3,↓ba u0,Nat.zero_add,B.bY 0 (j:=3) rfl rfl rfl,↓bK,↓gP]
 by_cases i3:x.epoch<0
 ·simp only[i3,decide_true,↓af,ai,true_and]
  exact fun h=>by have:=h.ep;omega
 simp only[i3,decide_false,↓ae,↓ba u0,Nat.zero_add,B.bY 0 (j:=2) rfl rfl rfl,↓bK]
 by_cases i4:x.block<0
 ·simp only[i4,decide_true,↓L2,↓dh,↓af,ai,true_and]
  exact fun h=>by have:=h.bl;omega
 simp only[i4,decide_false,↓G3,↓ba u0,↓ba u2,Nat.zero_add,B.bY 0 (j:=2) rfl rfl rfl,B.bY 2 (j:=7) rfl rfl rfl,↓jf,List.length_map,↓iz,↓gP]
 by_cases i5:(c.b.length:Int)<=x.block
 ·simp only[i5,decide_true,↓af,ai,true_and]
  exact fun h=>by have:=h.bl;omega
 simp only[i5,decide_false,↓ae,↓ba u0,↓ba u2,Nat.zero_add,B.bY 0 (j:=4) rfl rfl rfl,B.bY 2 (j:=2) rfl rfl rfl,↓lW,↓cq]
 by_cases i6:(x.regs.length:Int)=c.regs
 case neg =>
  simp only[i6,decide_false,Bool.not_false,↓L2,↓dh,↓af,ai,true_and]
  exact fun h=>i6 h.rg
 simp only[i6,decide_true,Bool.not_true,↓G3,↓ba u0,↓ba u2,Nat.zero_add,B.bY 0 (j:=6) rfl rfl rfl,B.bY 2 (j:=3) rfl rfl rfl,↓lW,↓cq,↓gP]
 by_cases i7:(x.slots.length:Int)=c.slots
 case neg =>
  simp only[i7,decide_false,Bool.not_false,↓L2,↓dh,↓af,ai,true_and]
  exact fun h=>i7 h.sl
 simp only[i7,decide_true,Bool.not_true,↓G3,↓ba u0,↓ba u2,Nat.zero_add,B.bY 0 (j:=5) rfl rfl rfl,B.bY 2 (j:=5) rfl rfl rfl]
 have hna:=hc.nar
 refine bc (RU (by omega) 3) ⟨eg,bf,eg,trivial⟩ ?_
 by_cases i8:fitsM 3 c.arrays x.priv=true
 case neg =>
  have i8':fitsM 3 c.arrays x.priv=false:=by simpa using i8
  simp only[i8',↓G3,↓Np,↓gP,↓af,ai,true_and]
  exact fun h=>i8 h.ft
 simp only[i8,↓G3,↓HZ,↓gP,↓ae,↓ba u0,Nat.zero_add,B.bY 0 (j:=1) rfl rfl rfl,↓aM]
 have base:∀(P:Prop),(P->x.at_=1\/(x.at_=2/\((dg c x.block).kind=3\/(dg c x.block).kind=4))\/(x.at_=3/\x.block=0/\mN x.regs=true/\mN x.slots=true/\ET x.priv=true))->P->we c l x:=fun P hP p =>
  ⟨⟨by omega,by omega⟩,by omega,⟨by omega,by omega⟩,i6,i7,i8,hP p⟩
 by_cases a1:x.at_=1
 ·simp only[a1,decide_true,↓af]
  exact bM.mpr (by rw[oC (base True (fun _=>Or.inl a1) trivial)])
 simp only[a1,decide_false,↓ae,↓ba u0,Nat.zero_add,B.bY 0 (j:=1) rfl rfl rfl,↓aM]
 by_cases a2:x.at_=2
 ·obtain⟨k,Q,hbk,hQ,hQm,ht,-⟩:=hc.OA (b:=x.block) ⟨by omega,by omega⟩
  have hat:∀{g':Heap}{K:HK},ab PP (.iadd (.c (.sl (c.b.map Block.e))) (.c (.int .i64 x.block)) 14) g' K=K (.vp Q.e 0) g':=fun {g' K}=>by rw[hbk,rR hQ]
  have hkd:∀{g':Heap}{K:HK},ab PP (.ld (.c (.vp Q.e 1)) 1 false) g' K=K (.int .i64 Q.t.kind) g':=fun {g' K}=>by rw[gY,bk];rfl
  simp only[a2,decide_true,↓af,↓ba u0,↓ba u2,Nat.zero_add,B.bY 0 (j:=2) rfl rfl rfl,B.bY 2 (j:=7) rfl rfl rfl,hat,↓ig,Nat.add_zero,hkd,↓aM]
  by_cases k3:Q.t.kind=3
  ·simp only[k3,decide_true,↓L2,↓dh]
   exact bM.mpr (by rw[oC (base True (fun _=>Or.inr (Or.inl ⟨a2,Or.inl (by rw[ht];exact k3)⟩)) trivial)])
  simp only[k3,decide_false,↓G3,↓gP,↓aM]
  refine bM.mpr ?_
  rw[F6 (b:=decide (Q.t.kind=4))]
  simp only[decide_eq_true_eq]
  constructor
  ·exact base _ fun k4=>Or.inr (Or.inl ⟨a2,Or.inr (by rw[ht];exact k4)⟩)
  ·intro h
   rcases h.a with e|⟨-,e|e⟩|⟨e,-⟩
   ·exact absurd e a1
   ·rw[ht]at e;exact absurd e k3
   ·rw[ht]at e;exact e
   ·omega
 simp only[a2,decide_false,↓ae,↓ba u0,Nat.zero_add,B.bY 0 (j:=1) rfl rfl rfl,↓aM]
 by_cases a3:x.at_=3
 case neg =>
  simp only[a3,decide_false,↓ae,ai,true_and]
  intro h
  rcases h.a with e|⟨e,-⟩|⟨e,-⟩
  ·exact a1 e
  ·exact a2 e
  ·exact a3 e
 simp only[a3,decide_true,↓af,↓ba u0,Nat.zero_add,B.bY 0 (j:=4) rfl rfl rfl,B.bY 0 (j:=6) rfl rfl rfl]
 refine Sq rfl rfl fun n4 t4=>?_
 have f4:=t4.free
 have nb:∀p,p∈[(n3,x.e),(n2,l.e),(n1,c.e)]->p.1≠n4:=fun p hp e=>by
  have:=(B.at_ p hp).1;rw[e,f4]at this;cases this
 have B4:=B.re (h0:=aC) (h':=ah h3 n4 (.arr 1 [words x.regs,words x.slots])) fun p hp=>aa _ _ (nb p hp)
 have e4:ah h3 n4 (.arr 1 [words x.regs,words x.slots]) n4=.arr 1 ([x.regs,x.slots].map words):=ad _ _ _
 generalize ah h3 n4 (.arr 1 [words x.regs,words x.slots])=h4 at B4 e4
 simp only[↓ba (B4.used 0 rfl),Nat.zero_add,B4.bY 0 (j:=5) rfl rfl rfl]
 obtain⟨p1,p2,p3⟩:=Qe hc i8
 refine Qy (ws:=[x.regs,x.slots]) (m:=x.priv) e4 (by simp;omega) fun q h5 hq k5 fq=>?_
 have nf5:∀p,p∈[(n3,x.e),(n2,l.e),(n1,c.e)]->h4 p.1≠.free:=fun p hp=>by rw[(B4.at_ p hp).1];simp
 have B5:=B4.re (h0:=aC) (h':=h5) fun p hp=>k5 p.1 (nf5 p hp) (nb p hp)
 have nq:∀p,p∈[(n3,x.e),(n2,l.e),(n1,c.e)]->p.1≠q:=fun p hp e=>by
  have:=(B4.at_ p hp).1;rw[e,fq]at this;cases this
 have hr:=hb.r
 have hs:=hb.s
 have cc:=M4 (ws:=[x.regs,x.slots]++x.priv) (by simp at p3 ⊢;omega) (by simp;omega)
 have rc:=MK (P:=PP) (f:=bX) (R:=(· = words ([x.regs,x.slots]++x.priv).flatten)) hq (TA _) cc (KH:=fun a237 h238=>ab PP (.fadd (.c (.ptr n3 0 0)) 2) h238 fun a239 h240 =>
  ab PP (.ld (.c a239) 1 false) h240 fun a241 h242=>vbin .eql a241 (.int .i64 0) fun a243=>vguard a243 true (fun G244=>G244 a237 h242) h242 fun a245 h246=>vguard a243 true (fun G247=>G247 (.fn fN [] []) h246) h246 fun a248 h249 =>
  vguard a243 true (fun G250=>ag PP bG [a245,a248] h249 fun a253 h254=>G250 a253 h254) h249 fun a251 h252=>vguard a243 true (fun G255=>vun .not a251 fun a258=>G255 a258 h252) h252 fun a256 h257 =>
  ab PP (.pick (.c a243) (.c a256) (.c (.bool false))) h257 fun a259 h260=>qH (· = .bool (qJ c l x)) a259 h260) ?_
 ·rw[List.length_map]at rc
  exact rc
 rintro _ h6 rfl k6
 have B6:=B5.re (h0:=aC) (h':=h6) fun p hp=>k6 p.1 (nq p hp)
 simp only[↓ba (B6.used 0 rfl),Nat.zero_add,B6.bY 0 (j:=2) rfl rfl rfl,↓aM]
 by_cases b0:x.block=0
 case neg =>
  simp only[b0,decide_false,↓SY,↓gP]
  refine bM.mpr ?_
  rw[zv]
  intro h
  rcases h.a with e|⟨e,-⟩|⟨-,e,-⟩
  ·exact a1 e
  ·exact a2 e
  ·exact b0 e
 simp only[b0,decide_true,↓Hv]
 refine Eo (by simp at p3 ⊢;omega) fun h7=>?_
 have hv:qJ c l x = !(([x.regs,x.slots]++x.priv).flatten.any (· ≠ 0)):=by
  refine F6 ?_
  rw[Bool.not_eq_true',List.cons_append,List.cons_append,List.nil_append,any_zero]
  constructor
  ·exact base _ fun h=>Or.inr (Or.inr ⟨a3,b0,h⟩)
  ·intro h
   rcases h.a with e|⟨e,-⟩|⟨-,-,e⟩
   ·exact absurd e a1
   ·exact absurd e a2
   ·exact e
 cases e:([x.regs,x.slots]++x.priv).flatten.any (· ≠ 0) with
 | false =>
  rw[e]at hv
  simp only[↓Hv,↓Np,↓dh]
  exact bM.mpr (by rw[hv];rfl)
 | true =>
  rw[e]at hv
  simp only[↓Hv,↓HZ,↓dh]
  exact bM.mpr (by rw[hv];rfl)
section
variable {h0 h:Heap}{ro0 ro:Ro}{L:List (Nat×D)}{KH:HK}{c:Code}{l:dk}{s:pE}{n:Nat}
theorem bH.UF (B:bH h0 ro0 h ro L) (i:Nat) (hi:L[i]?=some (n,Es c l s)):ab PP (.ld (.c (.ptr n 0 0)) 8 true) h KH=KH c.e h:=B.rD i (j:=0) (s:=8) (e:=c.e) hi rfl rfl (Nat.le_of_ble_eq_true rfl)
theorem bH.Ud (B:bH h0 ro0 h ro L) (i:Nat) (hi:L[i]?=some (n,Es c l s)):ab PP (.ld (.c (.ptr n 0 8)) 2 true) h KH=KH l.e h:=B.rD i (j:=8) (s:=2) (e:=l.e) hi rfl rfl (Nat.le_of_ble_eq_true rfl)
theorem bH.UE (B:bH h0 ro0 h ro L) (i:Nat) (hi:L[i]?=some (n,Es c l s)):ab PP (.ld (.c (.ptr n 0 10)) 11 true) h KH=KH (eH s) h:=B.rD i (j:=10) (s:=11) (e:=eH s) hi rfl rfl (Nat.le_of_ble_eq_true rfl)
theorem bH.ite (B:bH h0 ro0 h ro L) (i:Nat){p:It×Int}(hi:L[i]?=some (n,tH p)):ab PP (.ld (.c (.ptr n 0 0)) 7 true) h KH=KH p.1.e h:=B.rD i (j:=0) (s:=7) (e:=p.1.e) hi rfl rfl (Nat.le_of_ble_eq_true rfl)
theorem bH.UN (B:bH h0 ro0 h ro L) (i:Nat){r:pE}(hi:L[i]?=some (n,eH r)):ab PP (.ld (.c (.ptr n 0 0)) 7 true) h KH=KH r.it.e h:=B.rD i (j:=0) (s:=7) (e:=r.it.e) hi rfl rfl (Nat.le_of_ble_eq_true rfl)
theorem bH.Rs (B:bH h0 ro0 h ro L) (i:Nat){sz:Nat}{d d':D}(hi:L[i]?=some (n,d)) (hd:d=.agg d.cells) (hd':d'=.agg d'.cells) (hl:d.cells.length=sz) (hl':d'.cells.length=sz) (ho:aw d')
  (hK:∀h',bH h0 ro0 h' ro (L.set i (n,d'))->KH .undef h'):ab PP (.st (.c (.ptr n 0 0)) (.c d') sz) h KH:=by
 rw[hd']at hK ⊢
 exact B.lf i (cs:=d.cells) (by rw[<- hd];exact hi) hl hl' ho hK
end
theorem EK {P:Program}{h:Heap}{KH:HK}{esz len:Nat}{z:D}{ps:List (Nat×Arg)}(hp:∀p∈ps,p.1<len/\(p.2.get []).cells.length=esz/\aw (p.2.get [])/\(p.2.get []).vd=true)
  (hk:∀n,nT h n->KH (.ms n 0 len) (ah h n (.arr esz (setEls (List.replicate len z) (ps.map fun p=>(p.1,p.2.get [])))))):ab P (.bldS true esz len z ps) h KH:=by
 have fz:∀p∈ps,(p.2.get []).fz h=p.2.get []/\(p.2.get []).nm=[]/\jP h (p.2.get []):=fun p hpm=>DL (hp p hpm).2.2.2
 refine⟨fun p hpm=>?_,fun _ p hpm=>?_,fun n t=>?_⟩
 ·simp only[List.mem_map]at hpm
  obtain⟨q,hq,rfl⟩:=hpm
  obtain⟨a1,a2,a3,-⟩:=hp q hq
  exact⟨a1,a2,a3⟩
 ·simp only[List.mem_map]at hpm
  obtain⟨q,hq,rfl⟩:=hpm
  first|exact(fz q hq).2.2|exact⟨(fz q hq).2.2,by rw[(fz q hq).1];exact(hp q hq).2.2.2⟩
 ·have e1:ps.flatMap (fun p=>(p.2.get []).nm)=[]:=by
   rw[List.flatMap_eq_nil_iff]
   exact fun p hpm=>(fz p hpm).2.1
  have e2:(ps.map fun p=>(p.1,if(true:Bool)=true then(p.2.get []).fz h else p.2.get []))=ps.map fun p=>(p.1,p.2.get []):=by
   refine List.map_congr_left fun p hpm=>?_
   simp only[if_true]
   rw[(fz p hpm).1]
  have:=hk n t
  rw[e1,e2]
  simpa[Heap.freezeAll] using this
theorem NN {P:Program}{h:Heap}{KH:HK}{esz:Nat}{z d d':D}(ho:aw d) (hl:d.cells.length=esz) (hf:jP h d) (he:d.fz h=d') (hv:d'.vd=true)
  (hk:∀n h',h n=.free->h' n=.arr esz [d']->(∀k,h k≠.free->(∀m∈d.nm,k≠m)->h' k=h k)->KH (.ms n 0 1) h'):ab P (.bldS true esz 1 z [(0,.c d)]) h KH:=by
 refine⟨fun p hpm=>?_,fun _ p hpm=>?_,fun n t=>?_⟩
 ·simp only[List.map_cons,List.map_nil,List.mem_singleton]at hpm
  subst hpm
  exact⟨Nat.one_pos,hl,ho⟩
 ·simp only[List.map_cons,List.map_nil,List.mem_singleton]at hpm
  subst hpm
  first|exact hf|exact⟨hf,by show(d.fz h).vd=true;rw[he];exact hv⟩
 ·have e:setEls (List.replicate 1 z) ([(0,Arg.c d)].map fun p=>(p.1,if(true:Bool)=true then(p.2.get []).fz h else p.2.get []))=[d']:=by
   show [d.fz h]=[d']
   rw[he]
  rw[e]
  refine hk n _ t.free (ad _ _ _) fun k hkf hm=>?_
  rw[aa _ _ (t.ne hkf)]
  simp only[if_true,List.flatMap_cons,List.flatMap_nil,List.append_nil]
  exact fO _ fun hmem=>hm k hmem rfl
theorem bH.Vh {h0 h:Heap}{ro0 ro:Ro}{L:List (Nat×D)}{KH:HK}(B:bH h0 ro0 h ro L) (i:Nat){n s:Nat}{cs cs':List D}{d:D}(hd:d=.agg cs') (hi:L[i]?=some (n,.agg cs)) (hl:cs.length=s) (hl':cs'.length=s) (ho:∀x,x∈cs'->x.one=true)
  (hK:bH h0 ro0 (ah h n (.box (.agg cs'))) ro (L.set i (n,.agg cs'))->KH .undef (ah h n (.box (.agg cs')))):ab PP (.st (.c (.ptr n 0 0)) (.c d) s) h KH:=by
 subst hd
 rw[Go.Am.lf (B.get i hi) hl hl' ho]
 exact hK (B.av i hi _)
def Iq (n:Int):bO:=⟨⟨#[97]⟩,1,1,n⟩
def DC:Block:=⟨[⟨5,1,0,fX 0,an,an,an⟩,⟨8,0,0,an,fX 0,Const 7,an⟩],⟨5,0,an,an,an,0,0⟩⟩
def la (n:Int):Code:=⟨4,1,1,0,0,[Iq n],[],[DC]⟩
theorem Kt {n:Int}:aF PP hZ [.int .i64 n] (· = (la n).e):=by
 refine fZ (aW wy (aA _ _ _) rfl (wi _ _) ?_)
 (unfold pQ;try dsimp only[xL,yL,xF,yF,xI,yI,xS,zI,zJ])
 refine bH.start.alloc fun n1 h1 ro1 B=>?_
 refine bc Ot ⟨bf,trivial⟩ ?_
 rw[cI rfl]
 refine bc Ot ⟨bf,trivial⟩ ?_
 refine bc Ov ⟨bf,trivial⟩ ?_
 rw[cI rfl]
 obtain⟨i0,hi0⟩:∃i:aN,i=⟨5,1,0,fX 0,an,an,an⟩:=⟨_,rfl⟩
 obtain⟨i1,hi1⟩:∃i:aN,i=⟨8,0,0,an,fX 0,Const 7,an⟩:=⟨_,rfl⟩
 have v15:∀i:aN,(i.e.cells.length=15)/\aw i.e/\i.e.vd=true:=fun i=>⟨rfl,(aN.bZ i).one,(aN.bZ i).pair.1⟩
 refine EK (fun p hp=>?_) fun n2 t2=>?_
 ·simp only[List.mem_cons,List.not_mem_nil,or_false]at hp
  rcases hp with rfl|rfl
  ·exact⟨by simp,v15 ⟨5,1,0,fX 0,an,an,an⟩⟩
  ·exact⟨by simp,v15 ⟨8,0,0,an,fX 0,Const 7,an⟩⟩
 have f2:=t2.free
 have B:=B.step (Fr.new (ro:=ro1) f2 .ev (s:=.arr 15 (DC.i.map aN.e)))
 have e2:ah h1 n2 (.arr 15 (DC.i.map aN.e)) n2=.arr 15 (DC.i.map aN.e):=ad _ _ _
 have es2:setEls (List.replicate 2 (.agg [(.int .i64 0),(.int .i64 0),(.int .i64 0),(.int .i64 0),(.int .i64 0),(.int .i32 0),(.int .i64 0),(.int .i64 0),(.int .i32 0),(.int .i64 0),(.int .i64 0),(.int .i32 0),(.int .i64 0),(.int .i64 0),(.int .i32 0)])) [(0,(⟨5,1,0,fX 0,an,an,an⟩:aN).e),(1,(⟨8,0,0,an,fX 0,Const 7,an⟩:aN).e)]=DC.i.map aN.e:=rfl
 show ab PP _ (ah h1 n2 (.arr 15 (DC.i.map aN.e))) _
 generalize ah h1 n2 (.arr 15 (DC.i.map aN.e))=h2 at B e2
 generalize ah ro1 n2 .ev=ro2 at B
 rw[cI rfl]
 refine EK (fun p hp=>?_) fun n3 t3=>?_
 ·simp only[List.mem_cons,List.not_mem_nil,or_false]at hp
  subst hp
  exact⟨by simp,rfl,(bO.bZ (Iq n)).one,(bO.bZ (Iq n)).pair.1⟩
 have f3:=t3.free
 have B:=B.step (Fr.new (ro:=ro2) f3 .ev (s:=.arr 4 ([Iq n].map bO.e)))
 have n32:n2≠n3:=t3.ne (by rw[e2];simp)
 have e2':ah h2 n3 (.arr 4 ([Iq n].map bO.e)) n2=.arr 15 (DC.i.map aN.e):=by rw[aa _ _ n32];exact e2
 have e3:ah h2 n3 (.arr 4 ([Iq n].map bO.e)) n3=.arr 4 ([Iq n].map bO.e):=ad _ _ _
 show ab PP _ (ah h2 n3 (.arr 4 ([Iq n].map bO.e))) _
 generalize ah h2 n3 (.arr 4 ([Iq n].map bO.e))=h3 at B e2' e3
 generalize ah ro2 n3 .ev=ro3 at B
 rw[cI rfl,cI rfl]
 have iv:∀x,x∈DC.i.map aN.e->∀y∈x.cells,y.vone=true:=fun x hx y hy=>by
  simp only[List.mem_map]at hx
  obtain⟨z,-,rfl⟩:=hx
  exact(aN.bZ z).pair.1 |> fun h=>by
   have:=List.all_eq_true.1 h y hy
   exact this
 have fi:=dt e2' iv
 have fb:OS h3 (.agg (.ms n2 0 (DC.i.map aN.e).length::DC.t.cs)) DC.e:=BP.agg (.cons fi (BP.Ty fun x hx=>by
  simp[DC,Term.cs,dX.cs,an]at hx
  rcases hx with rfl|rfl|rfl|rfl|rfl|rfl|rfl|rfl|rfl|rfl|rfl|rfl|rfl<;>rfl))
 have hfz:D.fz h3 (.agg (.ms n2 0 2::DC.t.cs))=DC.e:=by
  have hr:(h3 n2).row=some (15,DC.i.map aN.e):=by rw[e2'];rfl
  simp[D.fz,D.fzc,hr,DC,Term.cs,dX.cs,an,Block.e]
 refine NN (d:=.agg (.ms n2 0 2::DC.t.cs)) (d':=DC.e) fb.one rfl fb.ok hfz fb.v' fun n4 h4 f4 e4 k4=>?_
 have nm2:∀m,m∈D.nm (.agg (.ms n2 0 2::DC.t.cs))->m=n2:=fun m hm=>by
  simpa[D.nm,D.jA,DC,Term.cs,dX.cs,an] using hm
 have e3':h4 n3=.arr 4 ([Iq n].map bO.e):=by
  rw[k4 n3 (by rw[e3];simp) (fun m hm=>by rw[nm2 m hm];exact n32.symm)];exact e3
 have B:=B.re (h0:=aC) (h':=h4) fun p hp=>k4 p.1 (by rw[(B.at_ p hp).1];simp) fun m hm=>by
  rw[nm2 m hm]
  rintro e
  have:=(B.at_ p hp).1
  rw[e,e2']at this;cases this
 rw[cI rfl]
 have n1b:=B.get 0 rfl
 refine B.Vh 0 (cs':=[.int .i64 4,.int .i64 1,.int .i64 1,.int .i64 0,.int .i64 0,.ms n3 0 1,.nil,.ms n4 0 1]) rfl rfl rfl rfl (by simp) fun B5=>?_
 have n31:n3≠n1:=by rintro rfl;rw[e3']at n1b;cases n1b
 have n41:n4≠n1:=by rintro rfl;rw[e4]at n1b;cases n1b
 have e35:=aa h4 (.box (.agg [.int .i64 4,.int .i64 1,.int .i64 1,.int .i64 0,.int .i64 0,.ms n3 0 1,.nil,.ms n4 0 1])) n31
 have e45:=aa h4 (.box (.agg [.int .i64 4,.int .i64 1,.int .i64 1,.int .i64 0,.int .i64 0,.ms n3 0 1,.nil,.ms n4 0 1])) n41
 rw[e3']at e35
 rw[e4]at e45
 generalize ah h4 n1 (.box (.agg [.int .i64 4,.int .i64 1,.int .i64 1,.int .i64 0,.int .i64 0,.ms n3 0 1,.nil,.ms n4 0 1]))=h5 at B5 e35 e45
 rw[B5.db (s:=8) 0 rfl rfl rfl]
 have fa:=dt e35 (Q0 _)
 have fbk:=dt e45 (fun x hx y hy=>by
  simp only[List.mem_singleton]at hx
  subst hx
  have:=List.all_eq_true.1 (Block.bZ DC).pair.1 y hy
  exact this)
 exact eh (by simp) (by simp[Code.e]) (.refl _) (BP.agg (.cons (aH rfl) (.cons (aH rfl) (.cons (aH rfl) (.cons (aH rfl) (.cons (aH rfl) (.cons fa (.cons gh (.cons fbk .nil))))))))) rfl
end Go.Am
namespace Go.Am
open Go Go.Proofs
def L4:dk:=⟨1,[]⟩
def EP:D:=.agg [.int .i64 1,.nil]
theorem Gp {n:Int}(h:1<=n/\n<=8):bj (la n) where
 group:=by simp[la]
 sub:=by simp[la]
 regs:=by simp[la]
 slots:=rfl
 params:=by simp[la]
 nar:=by simp[la]
 ar:=fun a ha=>by
  simp[la]at ha
  subst ha
  exact⟨by simp[Iq],h⟩
 nb:=by simp[la]
 xs:=fun b hb=>by
  simp[la]at hb
  subst hb
  refine⟨fun x hx=>?_,by simp[DC],.exit⟩
  simp[DC]at hx
  rcases hx with rfl|rfl
  ·exact⟨.id 1 (fX 0) (by omega) ⟨0,by omega,by simp[la],rfl⟩,fun h=>by simp at h,fun h=>by simp at h⟩
  ·exact⟨.store 0 (fX 0) (Const 7) (by omega) ⟨0,by omega,by simp[la],rfl⟩ (Or.inr ⟨7,by omega,by omega,rfl⟩),fun _=>⟨0,rfl,by simp[la]⟩,fun h=>by simp at h⟩
theorem Io {n:Int}:js (la n) L4:=⟨by simp[L4],by simp[L4,la],fun v hv=>by simp[L4]at hv⟩
theorem Rd {xs ys:List D}(h:FX xs ys):Wk (.sl xs) (.sl ys):=.sl _ _ h.get.1 h.get.2
theorem Ip:Wk EP L4.e:=.OK (.cons (.refl _) (.cons .nil .nil))
def gV:It:=⟨2,1,0,0,[0],[[]]⟩
def As:Ev:=⟨2,0,2,0,0,1,0,2,7⟩
def Qh:pE:=⟨⟨2,3,0,0,[0],[[]]⟩,[[0,0,7,0]],[[]],[As],0⟩
def TV:pE:=⟨gV,[[0,0]],[[]],[],70⟩
def Qi (g:Mm):D:=.agg (gV.cs++[aR g,.sl [.nil],.nil,.int .i64 0])
theorem Oa (g:Mm):Wk (Qi g) (eH ⟨gV,g,[[]],[],0⟩) :=
 .OK (.cons (.refl _) (.cons (.refl _) (.cons (.refl _) (.cons (.refl _) (.cons (.refl _) (.cons (.refl _) (.cons (.refl _) (.cons (.refl _) (.cons (Rd (.cons .nil .nil)) (.cons .nil (.cons (.refl _) .nil)))))))))))
theorem Ju {n:Int}:L0 (la n) L4 gV where
 id:=by simp[gV,L4,la]
 at_:=by simp[gV]
 block:=by simp[gV,la]
 len:=by simp[gV,la]
 regs:=fun v hv=>by simp[gV]at hv;subst hv;exact⟨by omega,by omega⟩
 priv:=⟨by simp[gV,la],fun i a w ha hw=>by
  have hi:i=0:=by have:=(List.getElem?_eq_some_iff.1 ha).1;simp[la]at this;exact this
  subst hi
  simp[la,gV]at ha hw
  subst ha hw
  exact⟨by simp[Cb,Iq],by simp⟩⟩
theorem Hc {n:Int}{s:Nat}{w:List Int}(hl:w.length=Cb (Iq n) s) (hI:∀v∈w,gM v):fY (la n).arrays s [w]:=⟨by simp[la],fun i a v ha hv=>by
 have hi:i=0:=by have:=(List.getElem?_eq_some_iff.1 ha).1;simp[la]at this;exact this
 subst hi
 simp[la]at ha hv
 subst ha hv
 exact⟨hl,hI⟩⟩
theorem TQ:∀v:Int,v=0->gM v:=fun v h=>by subst h;exact⟨by omega,by omega⟩
theorem N2:bS (la 4) L4 gV [[0,0,0,0]] [[]] 0=Qh:=by kernel_rfl
theorem N8:bS (la 2) L4 gV [[0,0]] [[]] 0=TV:=by kernel_rfl
theorem QT {a b c d a' b' c' d':D}(h1:Wk a a') (h2:Wk b b') (h3:Wk c c') (h4:Wk d d'):FX [a,b,c,d] [a',b',c',d']:=.cons h1 (.cons h2 (.cons h3 (.cons h4 .nil)))
theorem N9:aF PP fU [(la 4).e,EP,.int .i64 2] (· = tH (gV,0)):=by
 have:=Kl (id:=2) (Gp (n:=4) (by omega)) Io
 have e:fV (la 4) L4 2=(gV,0):=by kernel_rfl
 rw[e]at this
 exact aF.arg (.cons (.refl _) (.cons Ip (.cons (.refl _) .nil))) this
theorem Sy:aF PP fU [(la 4).e,EP,.int .i64 4] (· = tH (oy,1)):=by
 have:=Kl (id:=4) (Gp (n:=4) (by omega)) Io
 have e:fV (la 4) L4 4=(oy,1):=by kernel_rfl
 rw[e]at this
 exact aF.arg (.cons (.refl _) (.cons Ip (.cons (.refl _) .nil))) this
theorem UU:aF PP cQ [(la 4).e,EP,Qi [[0,0,0,0]],.int .i64 0] (· = eH Qh):=by
 have:=An (av:=0) (r:=⟨gV,[[0,0,0,0]],[[]],[],0⟩) (Gp (n:=4) (by omega)) Io Ju (Hc (by simp[Cb,Iq]) (by simp;exact TQ 0 rfl)) (Hc (by simp[Cb,Iq]) (by simp))
 simp only[N2]at this
 exact aF.arg (QT (.refl _) Ip (Oa _) (.refl _)) this
theorem UT:aF PP cQ [(la 2).e,EP,Qi [[0,0]],.int .i64 0] (· = eH TV):=by
 have:=An (av:=0) (r:=⟨gV,[[0,0]],[[]],[],0⟩) (Gp (n:=2) (by omega)) Io Ju (Hc (by simp[Cb,Iq]) (by simp;exact TQ 0 rfl)) (Hc (by simp[Cb,Iq]) (by simp))
 simp only[N8]at this
 exact aF.arg (QT (.refl _) Ip (Oa _) (.refl _)) this
theorem TR:we (la 4) L4 Qh.it.g where
 id:=by decide
 ep:=by decide
 bl:=by decide
 rg:=by decide
 sl:=by decide
 ft:=by decide
 a:=Or.inr (Or.inr ⟨rfl,rfl,by decide,by decide,by decide⟩)
theorem N1:aF PP kQ [(la 4).e,EP,Qh.it.e] (· = .bool true):=by
 have:=Pz (x:=Qh.it.g) (Gp (n:=4) (by omega)) Io ⟨by decide,by decide,by decide⟩
 rw[oC TR,It.Vt]at this
 exact aF.arg (.cons (.refl _) (.cons Ip (.cons (.refl _) .nil))) this
theorem N0:aF PP cR [gV.e,(Const 9).e] (· = .int .i32 9):=RQ (it:=gV) (o:=Const 9) (fun h=>by have:(1:Int)=2:=h;omega)
theorem Qg:aF PP kO [(la 4).e,gV.e,.int .i32 1] (· = tH (gV,1)):=by
 have:=Sf (v:=1) (Gp (n:=4) (by omega)) (Ju (n:=4))
 have e:l7 (la 4) gV 1=(gV,1):=w9 (by simp[gV])
 rw[e]at this
 exact aF.arg (.cons (.refl _) (.cons (.refl _) (.cons (.refl _) .nil))) this
theorem TS:OY [[0,0,7,0]]:=⟨by simp,by simp⟩
theorem TU:OY [[0,0]]:=⟨by simp,by simp⟩
theorem uc {d:D}{n:Nat}:∀(ns:List Nat){h:Heap},h n=.box d->h.freezeAll ns n=.box d
 | [],_,hn=>hn
 | a::r,h,hn=>by
  simp only[Heap.freezeAll]
  refine uc r ?_
  unfold Heap.freeze
  cases he:h a<;>simp only[]<;>first|exact hn|(rw[aa _ _ (by rintro rfl;rw[hn]at he;cases he)];exact hn)
theorem EN {P:Program}{f:FuncId}{h:Heap}{ds ds':List D}{r:D}{KH:HK}(k:Hr h ds ds') (hv:aF P f ds' (· = r)) (hK:∀h',(∀n d,h n=.box d->h' n=.box d)->KH r h'):ag P f ds h KH:=by
 obtain⟨k1,k2,k3,-,k4⟩:=k.all
 refine ag.mono ?_ (gA (K:=(· = r)) (aF.arg k4 hv) fun d hd=>⟨k1 d hd,k2 d hd,k3 _ (List.mem_map.2 ⟨d,hd,rfl⟩)⟩)
 rintro r' h' ⟨rfl,q2,q3⟩
 by_cases hr:r'.flat=true\/ds.flatMap D.nm=[]
 ·rw[q2 hr];exact hK h fun n d hn=>hn
 ·rw[q3 hr];exact hK _ fun n d hn=>uc _ hn
theorem bH.bx {h h':Heap}{ro0 ro:Ro}{L:List (Nat×D)}(B:bH aC ro0 h ro L) (hk:∀n d,h n=.box d->h' n=.box d):bH aC ro0 h' ro L :=
 B.re (h0:=aC) fun p hp=>by rw[hk _ _ (B.at_ p hp).1,(B.at_ p hp).1]
theorem rK:wE EP:=cT (by simp)
theorem Vb (w:List Int):∀x,x∈w.map (D.int .i32)->∀y∈x.cells,y.vone=true:=fun x hx y hy=>by
 simp only[List.mem_map]at hx
 obtain⟨z,-,rfl⟩:=hx
 simp at hy;subst hy;rfl
theorem QZ {h:Heap}{KH:D->HK}{len:Nat}{z:D}{ps:List (Nat×Arg)}{w:List Int}(hlen:len=w.length) (hps:setEls (List.replicate len z) (ps.map fun p=>(p.1,p.2.get []))=w.map (D.int .i32))
  (hp:∀p∈ps,p.1<len/\(p.2.get []).cells.length=1/\aw (p.2.get [])/\(p.2.get []).vd=true)
  (hK:∀nb nc h3,h3 nb=.arr 1 [words w]->h3 nc=.arr 1 [.nil]->(∀n d,h n=.box d->h3 n=.box d)->KH (.ms nb 0 1) (.ms nc 0 1) h3) :
  ab PP (.bldS true 1 len z ps) h fun a h1=>ab PP (.bldS true 1 1 .nil [(0,.c a)]) h1 fun b h2=>ab PP (.bldS true 1 1 .nil [(0,.c .nil)]) h2 fun c h3=>KH b c h3:=by
 refine EK hp fun n6 t6=>?_
 rw[hps]
 have f6:=t6.free
 have e6:ah h n6 (.arr 1 (w.map (D.int .i32))) n6=.arr 1 (w.map (D.int .i32)):=ad _ _ _
 have k6:∀n d,h n=.box d->ah h n6 (.arr 1 (w.map (D.int .i32))) n=.box d:=fun n d hn=>by
  rw[aa _ _ (by rintro rfl;rw[hn]at f6;cases f6)];exact hn
 generalize ah h n6 (.arr 1 (w.map (D.int .i32)))=h1 at e6 k6
 have fi:=dt e6 (Vb w)
 rw[List.length_map]at fi
 subst hlen
 have hr:(h1 n6).row=some (1,w.map (D.int .i32)):=by rw[e6];rfl
 refine NN (d':=words w) fi.d.one rfl fi.d.ok (by simp only[D.fz,D.fzc,hr,List.drop_zero];rw[List.take_of_length_le (by simp)];rfl) rfl fun nb h2 fb eb kb=>?_
 refine EK (fun p hp=>?_) fun nc tc=>?_
 ·simp only[List.mem_singleton]at hp
  subst hp
  exact⟨by simp,rfl,by simp,rfl⟩
 have fc:=tc.free
 refine hK nb nc _ ?_ (ad _ _ _) fun n d hn=>?_
 ·rw[aa _ _ (by rintro rfl;rw[eb]at fc;cases fc)];exact eb
 ·have h1n:=k6 n d hn
  have h2n:h2 n=.box d:=by
   rw[kb n (by rw[h1n];simp) (fun m hm=>by
    simp[D.nm,D.jA]at hm
    subst hm
    rintro rfl
    rw[e6]at h1n;cases h1n)];exact h1n
  rw[aa _ _ (by rintro rfl;rw[h2n]at fc;cases fc)];exact h2n
theorem Hf {P:Program}{h:Heap}{K:D->Prop}{fz:Bool}{esz len:Nat}{z:D}{ps:List (Nat×Arg)}(hp:∀p∈ps,p.1<len/\(p.2.get []).cells.length=esz/\aw (p.2.get [])) (hv:∀p∈ps,∀y,y∈(p.2.get []).cells->y.vone=true) (hz:∀y∈z.cells,y.vone=true)
  (hk:K (.sl (setEls (List.replicate len z) (ps.map fun p=>(p.1,p.2.get []))))):aq P (.bldS fz esz len z ps) h K:=by
 refine⟨fun p hpm=>?_,fun p hpm=>?_,hz,hk⟩
 ·simp only[List.mem_map]at hpm
  obtain⟨q,hq,rfl⟩:=hpm
  exact hp q hq
 ·simp only[List.mem_map]at hpm
  obtain⟨q,hq,rfl⟩:=hpm
  exact hv q hq
theorem Ku {h:Heap}{nb nc:Nat}{w:List Int}(hb:h nb=.arr 1 [words w]) (hc:h nc=.arr 1 [.nil]):OS h (.agg (gV.cs++[.ms nb 0 1,.ms nc 0 1,.nil,.int .i64 0])) (Qi [w]):=by
 have f1:=dt hb (fun x hx y hy=>by simp at hx;subst hx;simp[words]at hy;subst hy;rfl)
 have f2:=dt hc (fun x hx y hy=>by simp at hx;subst hx;simp at hy;subst hy;rfl)
 exact BP.agg (.cons (aH rfl) (.cons (aH rfl) (.cons (aH rfl) (.cons (aH rfl) (.cons (aH rfl) (.cons (aH rfl) (.cons (aH rfl) (.cons f1 (.cons f2 (.cons (aH rfl) (.cons (aH rfl) .nil)))))))))))
theorem Iz:aF PP jl [] (· = .bool true):=by
 refine bg Fv (aA _ _ _) rfl (Fc _) ?_
 (unfold Bz;try dsimp only[xL,yL,xF,yF,xI,yI,xS,zI,zJ])
 refine bc (Kt (n:=4)) ⟨bf,trivial⟩ ?_
 refine bc (Kt (n:=2)) ⟨bf,trivial⟩ ?_
 rw[cI rfl]
 refine bH.start.alloc fun n1 h1 ro1 B=>?_
 refine B.alloc fun n2 h2 ro2 B=>?_
 refine B.alloc fun n3 h3 ro3 B=>?_
 refine B.Rs 2 (d':=(la 4).e) rfl rfl rfl rfl rfl (jG _).2 fun h4 B=>?_
 refine B.Rs 1 (d':=(la 2).e) rfl rfl rfl rfl rfl (jG _).2 fun h5 B=>?_
 refine B.Tb 0 (cs':=[.int .i64 1,.nil]) rfl rfl rfl rfl (by simp) fun h6 B=>?_
 have B:bH aC kY h6 ro3 [(n3,EP),(n2,(la 2).e),(n1,(la 4).e)]:=B
 rw[B.db (s:=8) 2 rfl rfl rfl,B.db (s:=2) 0 rfl rfl rfl]
 refine bc N9 ⟨Code.bZ _,rK,bf,trivial⟩ ?_
 refine B.alloc fun n4 h7 ro7 B=>?_
 refine B.Rs 0 (d':=tH (gV,0)) rfl rfl rfl rfl rfl (pe _) fun h8 B=>?_
 rw[B.db (s:=8) 3 rfl rfl rfl,B.db (s:=2) 1 rfl rfl rfl]
 refine bc Sy ⟨Code.bZ _,rK,bf,trivial⟩ ?_
 refine B.alloc fun n5 h9 ro9 B=>?_
 refine B.Rs 0 (d':=tH (oy,1)) rfl rfl rfl rfl rfl (pe _) fun h10 B=>?_
 have B:bH aC kY h10 ro9 [(n5,tH (oy,1)),(n4,tH (gV,0)),(n3,EP),(n2,(la 2).e),(n1,(la 4).e)]:=B
 simp only[↓ba (B.used 1 rfl),↓ba (B.used 0 rfl),Nat.zero_add,Nat.add_zero,B.bY (e:=.int .i64 0) 1 (j:=7) rfl rfl rfl,B.bY (e:=.int .i64 1) 0 (j:=7) rfl rfl rfl,B.bY (e:=.int .i64 1) 1 (j:=1) rfl rfl rfl,B.bY (e:=words [0]) 1 (j:=4) rfl rfl rfl,
  ↓cq,decide_true,Bool.not_true,↓G3,↓gP,↓lW,List.length_singleton,show(((1:Nat):Int)=1)=True from eq_true rfl,↓ae]
 rw[B.db (s:=8) 4 rfl rfl rfl,B.db (s:=2) 2 rfl rfl rfl]
 simp only[↓ba (B.used 1 rfl),Nat.zero_add,B.ite 1 rfl]
 refine QZ (w:=[0,0,0,0]) rfl rfl (fun p hp=>?_) fun nb nc h11 eb ec kb=>?_
 ·simp only[List.mem_cons,List.not_mem_nil,or_false]at hp
  rcases hp with rfl|rfl|rfl|rfl<;>exact⟨by simp,rfl,by simp,rfl⟩
 have B:=B.bx kb
 rw[cI rfl]
 refine EN (.cons (gg (Code.bZ _)) (.cons (gg rK) (.cons (Ku eb ec) (.cons (aH rfl).d .nil)))) UU fun h12 kb=>?_
 have B:=B.bx kb
 refine B.alloc fun n6 h13 ro13 B=>?_
 refine B.Rs 0 (d':=eH Qh) rfl rfl rfl rfl rfl (lZ Qh) fun h14 B=>?_
 have B:bH aC kY h14 ro13 [(n6,eH Qh),(n5,tH (oy,1)),(n4,tH (gV,0)),(n3,EP),(n2,(la 2).e),(n1,(la 4).e)]:=B
 rw[B.db (s:=8) 4 rfl rfl rfl,B.db (s:=2) 3 rfl rfl rfl]
 simp only[↓ba (B.used 2 rfl),Nat.zero_add,B.ite 2 rfl]
 refine QZ (w:=[0,0]) rfl rfl (fun p hp=>?_) fun nb nc h15 eb ec kb=>?_
 ·simp only[List.mem_cons,List.not_mem_nil,or_false]at hp
  rcases hp with rfl|rfl<;>exact⟨by simp,rfl,by simp,rfl⟩
 have B:=B.bx kb
 rw[cI rfl]
 refine EN (.cons (gg (Code.bZ _)) (.cons (gg rK) (.cons (Ku eb ec) (.cons (aH rfl).d .nil)))) UT fun h16 kb=>?_
 have B:=B.bx kb
 refine B.alloc fun n7 h17 ro17 B=>?_
 refine B.Rs 0 (d':=eH TV) rfl rfl rfl rfl rfl (lZ TV) fun h18 B=>?_
 have B:bH aC kY h18 ro17 [(n7,eH TV),(n6,eH Qh),(n5,tH (oy,1)),(n4,tH (gV,0)),(n3,EP),(n2,(la 2).e),(n1,(la 4).e)]:=B
 simp only[↓ba (B.used 1 rfl),↓ba (B.used 0 rfl),Nat.zero_add,Nat.add_zero,B.bY (e:=.int .i64 0) 1 (j:=10) rfl rfl rfl,B.bY (e:=.int .i64 70) 0 (j:=10) rfl rfl rfl,B.bY (e:=.sl [As.e]) 1 (j:=9) rfl rfl rfl,↓cq,decide_true,Bool.not_true,↓G3,↓gP]
 rw[cI rfl]
 refine EK (fun p hp=>?_) fun n8 t8=>?_
 ·simp only[List.mem_singleton]at hp
  subst hp
  exact⟨by simp,rfl,(Ev.bZ As).one,(Ev.bZ As).pair.1⟩
 have f8:=t8.free
 have e8:ah h18 n8 (.arr 9 ([As].map Ev.e)) n8=.arr 9 ([As].map Ev.e):=ad _ _ _
 have B:=B.bx (h':=ah h18 n8 (.arr 9 ([As].map Ev.e))) fun n d hn=>by rw[aa _ _ (by rintro rfl;rw[hn]at f8;cases f8)];exact hn
 show ag PP fB [.sl [As.e],.ms n8 0 1] (ah h18 n8 (.arr 9 ([As].map Ev.e))) _
 generalize ah h18 n8 (.arr 9 ([As].map Ev.e))=h19 at B e8
 have fe:=dt e8 (fun x hx y hy=>by
  simp only[List.map_cons,List.map_nil,List.mem_singleton]at hx
  subst hx
  exact List.all_eq_true.1 (Ev.bZ As).pair.1 y hy)
 refine EN (ds':=[.sl ([As].map Ev.e),.sl ([As].map Ev.e)]) (.cons (aH rfl).d (.cons fe.d .nil)) (MD (by simp)) fun h20 kb=>?_
 have B:=B.bx kb
 simp only[↓G3,↓HZ,↓gP,↓ba (B.used 0 rfl),↓ba (B.used 1 rfl),Nat.zero_add,Nat.add_zero,B.bY (e:=.sl []) 0 (j:=9) rfl rfl rfl,B.bY (e:=.int .i64 3) 1 (j:=1) rfl rfl rfl,↓jf,List.length_nil,show(((0:Nat):Int))=0 from rfl,↓cq,decide_true,Bool.not_true,↓ae]
 simp only[↓aE,B.used 1 rfl,Nat.zero_add,true_and,↓bL,B.bY (e:=aR [[0,0,7,0]]) 1 (j:=7) rfl rfl rfl]
 refine Hf (fun p hp=>?_) (fun p hp=>?_) (by simp) ?_
 ·simp only[List.mem_cons,List.not_mem_nil,or_false]at hp
  rcases hp with rfl|rfl|rfl|rfl<;>exact⟨by simp,rfl,by simp⟩
 ·simp only[List.mem_cons,List.not_mem_nil,or_false]at hp
  rcases hp with rfl|rfl|rfl|rfl<;>(intro y hy;simp at hy;subst hy;rfl)
 refine Hf (fun p hp=>?_) (fun p hp=>?_) (by simp) ?_
 ·simp only[List.mem_singleton]at hp
  subst hp
  exact⟨by simp,rfl,by simp⟩
 ·simp only[List.mem_singleton]at hp
  subst hp
  intro y hy;simp at hy;subst hy;rfl
 refine iK (Ga TS) ⟨eg,eg,trivial⟩ ?_
 simp only[↓EL,↓aE,B.used 0 rfl,Nat.zero_add,true_and,↓bL,B.bY (e:=aR [[0,0]]) 0 (j:=7) rfl rfl rfl]
 refine Hf (fun p hp=>?_) (fun p hp=>?_) (by simp) ?_
 ·simp only[List.mem_cons,List.not_mem_nil,or_false]at hp
  rcases hp with rfl|rfl<;>exact⟨by simp,rfl,by simp⟩
 ·simp only[List.mem_cons,List.not_mem_nil,or_false]at hp
  rcases hp with rfl|rfl<;>(intro y hy;simp at hy;subst hy;rfl)
 try simp only[↓EL]
 refine Hf (fun p hp=>?_) (fun p hp=>?_) (by simp) ?_
 ·simp only[List.mem_singleton]at hp
  subst hp
  exact⟨by simp,rfl,by simp⟩
 ·simp only[List.mem_singleton]at hp
  subst hp
  intro y hy;simp at hy;subst hy;rfl
 try simp only[↓EL]
 refine iK (Ga TU) ⟨eg,eg,trivial⟩ ?_
 simp only[↓EL,↓m7,↓dh,↓aE,B.used 1 rfl,Nat.zero_add,true_and,↓bL,B.db (s:=8) 6 rfl rfl rfl,B.db (s:=2) 4 rfl rfl rfl,B.UN 1 rfl]
 refine iK N1 ⟨Code.bZ _,rK,It.bZ _,trivial⟩ ?_
 simp only[↓EL,↓m7,↓dh,↓aE,B.used 3 rfl,Nat.zero_add,true_and,↓bL,B.ite 3 rfl]
 refine iK Ov ⟨bf,trivial⟩ ?_
 try simp only[↓EL]
 refine iK N0 ⟨It.bZ _,dX.bZ _,trivial⟩ ?_
 simp only[↓EL,↓aM,decide_true,↓m7,↓dh,↓aE,B.used 3 rfl,Nat.zero_add,true_and,↓bL,B.db (s:=8) 6 rfl rfl rfl,B.ite 3 rfl]
 refine iK Qg ⟨Code.bZ _,It.bZ _,bf,trivial⟩ ?_
 have hfl:∀{K:D->Prop},aq PP (.fld (.c (tH (gV,1))) 7 1 false) h20 K=K (.int .i64 1):=fun {K}=>by
  rw[Oi]
  have:=NK (P:=PP) (h:=h20) (cs:=gV.cs++[.int .i64 1]) (o:=7) (s:=1) (g:=false) (KH:=fun x _=>K x)
  rw[show(tH (gV,1))=.agg (gV.cs++[.int .i64 1]) from rfl,this,bk]
  rfl
 simp only[↓EL,hfl,↓aM,decide_true,↓m7,↓dh]
 exact bM.mpr rfl
theorem Sg {c:Code}{l:dk}{it:It}(hc:bj c) (h:L0 c l it):U3 it:=⟨by have:=h.len;have:=hc.regs;omega,h.priv.b hc⟩
theorem Kb (bs:List Nat):wE (mP bs):=cT (by simp[wM])
theorem Lf (g:Int) (zs:List Int) (id st:Int):wE (eJ g zs id st):=cT (by
 intro x hx
 simp at hx
 rcases hx with rfl|⟨z,-,rfl⟩|rfl|rfl<;>rfl)
end Go.Am
namespace Go.Am
open Go Go.Proofs
set_option maxRecDepth 100000
theorem Ur:Try.prog.underlying 22=some (.slice 5):=by kernel_rfl
theorem Un:Try.prog.underlying 5=some (.int .u8):=by kernel_rfl
theorem Uq:Try.prog.underlying 25=some (.int .i8):=by kernel_rfl
theorem Up:Try.prog.underlying 26=some (.array 8 25):=by kernel_rfl
theorem Uo:Try.prog.underlying 27=some (.array 4 25):=by kernel_rfl
theorem t24:structL Try.prog 24=some [(22,0)]:=by kernel_rfl
theorem t31:structL Try.prog 31=some [(29,0),(5,13),(5,14)]:=by kernel_rfl
theorem t29:structL Try.prog 29=some [(5,0),(26,1),(27,9)]:=by kernel_rfl
theorem Vf:Try.prog.cellsOf 24=1:=by kernel_rfl
theorem z22:Try.prog.cellsOf 22=1:=by kernel_rfl
theorem Vc:Try.prog.cellsOf 31=15:=by kernel_rfl
theorem Vd:Try.prog.cellsOf 29=13:=by kernel_rfl
theorem z5:Try.prog.cellsOf 5=1:=by kernel_rfl
theorem U5:Try.prog.cellsOf 26=8:=by kernel_rfl
theorem U4:Try.prog.cellsOf 27=4:=by kernel_rfl
theorem Ve:Try.prog.cellsOf 25=1:=by kernel_rfl
theorem z3:Try.prog.cellsOf 3=1:=by kernel_rfl
theorem QH:IntKind.u8.min=0:=rfl
theorem S6:IntKind.u8.max=255:=rfl
theorem RK {m:Nat}{ds:List D}(h:HasTy Try.prog (m+3) 24 ds):∃bs:List Nat,mkElem Try.prog 24 ds=mP bs/\(∀b∈bs,b<=255)/\bs.length<=9223372036854775807:=by
 obtain⟨k1,k2⟩:=ph t24 h
 rw[Vf]at k1
 have q:=k2 (22,0) (by simp)
 simp only[z22,List.drop_zero]at q
 match ds,k1 with
 | [d],_ =>
  obtain⟨xs,h1,h2,h3⟩:=Jo Ur Un q
  simp at h1
  subst h1
  refine⟨xs.map Int.toNat,?_,fun b hb=>?_,by unfold maxLen at h2;simp;omega⟩
  ·rw[Gg t24,mP,wM,List.map_map]
   congr 3
   refine List.map_congr_left fun x hx=>?_
   have:=h3 x hx
   rw[QH]at this
   show D.int .u8 x=D.int .u8 ((x.toNat:Nat):Int)
   rw[Int.toNat_of_nonneg this.1]
  ·simp only[List.mem_map]at hb
   obtain⟨x,hx,rfl⟩:=hb
   have:=h3 x hx
   rw[QH,S6]at this
   omega
theorem KB {m n:Nat}{t:TypeId}{ds:List D}(hu:Try.prog.underlying t=some (.array n 25)) (hn:Try.prog.cellsOf t=n) (h:HasTy Try.prog (m+2) t ds):∃zs:List Int,ds=zs.map (.int .i8)/\zs.length=n:=by
 obtain⟨k1,k2⟩:=Ic hu h
 rw[hn]at k1
 simp only[Ve,Nat.mul_one]at k2
 have:∀d∈ds,∃z,d=D.int .i8 z:=fun d hd=>by
  obtain⟨i,hi⟩:=List.getElem?_of_mem hd
  have hlt:=(List.getElem?_eq_some_iff.1 hi).1
  obtain⟨z,hz,-,-⟩:=Ao Uq (k2 i (by omega))
  rw[List.drop_eq_getElem_cons hlt,List.take_succ_cons,List.take_zero]at hz
  rw[List.getElem?_eq_getElem hlt]at hi
  cases hi
  exact⟨z,by simpa using hz⟩
 clear k2 h hu hn
 subst k1
 induction ds with
 | nil=>exact⟨[],rfl,rfl⟩
 | cons d r ih =>
  obtain⟨z,rfl⟩:=this d (by simp)
  obtain⟨zs,h1,h2⟩:=ih fun x hx=>this x (by simp[hx])
  exact⟨z::zs,by rw[List.map_cons, <- h1],by simp[h2]⟩
theorem JX {m:Nat}{ds:List D}(h:HasTy Try.prog (m+1) 5 ds):∃g:Int,ds=[.int .u8 g]/\0<=g/\g<=255:=by
 obtain⟨g,h1,h2,h3⟩:=Ao Un h
 exact⟨g,h1,h2,h3⟩
theorem Nd {m:Nat}{ds:List D}(h:HasTy Try.prog (m+4) 31 ds):∃(g:Int) (zs:List Int) (id st:Int),mkElem Try.prog 31 ds=eJ g zs id st/\Ho g zs id st:=by
 obtain⟨k1,k2⟩:=ph t31 h
 rw[Vc]at k1
 have q0:=k2 (29,0) (by simp)
 have q1:=k2 (5,13) (by simp)
 have q2:=k2 (5,14) (by simp)
 simp only[Vd,z5,List.drop_zero]at q0 q1 q2
 obtain⟨-,e⟩:=ph t29 q0
 have e0:=e (5,0) (by simp)
 have e1:=e (26,1) (by simp)
 have e2:=e (27,9) (by simp)
 simp only[z5,U5,U4,List.drop_zero]at e0 e1 e2
 obtain⟨g,hg,g1,g2⟩:=JX e0
 obtain⟨id,hid,id1,id2⟩:=JX q1
 obtain⟨st,hst,SW,st2⟩:=JX q2
 obtain⟨z1,hz1,l1⟩:=KB Up U5 e1
 obtain⟨z2,hz2,l2⟩:=KB Uo U4 e2
 refine⟨g,z1++z2,id,st,?_,⟨⟨g1,g2⟩,by simp[l1,l2],⟨id1,id2⟩,⟨SW,st2⟩⟩⟩
 rw[Gg t31,eJ]
 congr 1
 match ds,k1 with
 | [d0,d1,d2,d3,d4,d5,d6,d7,d8,d9,d10,d11,d12,d13,d14],_ =>
  simp at hg hid hst hz1 hz2
  simp[<- hz1, <- hz2,hg,hid,hst]
end Go.Am
namespace Go.Am
open Go
end Go.Am
namespace Go.Am
open Go Go.Proofs
set_option maxRecDepth 100000
end Go.Am
namespace Go.Am
open Go
def ON (h:Heap) (ro:Ro) (d:D) (m:Mm):Prop:=∃k,d=.ms k 0 m.length/\h k=.arr 1 (m.map words)/\ro k=.mem 3
theorem ON.aD {h h':Heap}{ro ro':Ro}(k:cv h ro h' ro'){d:D}{m:Mm}(x:ON h ro d m):ON h' ro' d m:=by
 obtain⟨q,h1,h2,h3⟩:=x
 obtain⟨k1,k2⟩:=k q (bU h2) (by rw[h3];rfl)
 exact⟨q,h1,by rw[k1];exact h2,by rw[k2];exact h3⟩
theorem ON.f1 {h:Heap}{ro:Ro}{d:D}{m:Mm}(x:ON h ro d m):wG h d (aR m):=by
 obtain⟨q,rfl,h2,-⟩:=x
 have:=dt h2 (TA m)
 rw[List.length_map]at this;exact this
theorem nU.f1 {h:Heap}{ro:Ro}{d:D}{w:List Int}(x:nU h ro d w):wG h d (words w):=by
 obtain⟨q,rfl,h2,-⟩:=x
 have:=dt h2 (KO w)
 rw[mO]at this;exact this
theorem SU.f1 {h:Heap}{ro:Ro}{d:D}(x:SU h ro d):wG h d (words []):=by
 obtain⟨q,rfl,h2,-⟩:=x
 exact dt (els:=[]) h2 (by simp)
theorem FX.app:∀{xs ys us vs:List D},FX xs ys->FX us vs->FX (xs++us) (ys++vs)
 | [],[],_,_,.nil,k=>k
 | _::_,_::_,_,_,.cons h r,k=>.cons h (FX.app r k)
end Go.Am
namespace Go.Am
open Go Go.Proofs
set_option maxRecDepth 100000
end Go.Am
namespace Go.Am
open Go
theorem iw.at {h:Heap}{ro:Ro}{s:Nat}{d:D}{m:Mm}(x:iw h ro s d m){k:Nat}{w:List Int}(hk:m[k]?=some w) :
  ∃kk q,(∀(K:HK),ab PP (.iadd (.c d) (.c (.int .i64 (k:Int))) 1) h K=K (.ptr kk k 0) h)/\(∀(K:HK),ab PP (.ld (.c (.ptr kk k 0)) 1 false) h K=K (.ms q 0 w.length) h) /\
   h q=.arr 1 (wr w)/\ro q=.row s k/\∀i v,iw (ah h q (.arr 1 (wr (w.set i v)))) ro s d (m.set k (w.set i v)):=by
 obtain⟨kk,els,rfl,y,yo⟩:=x
 have hlt:=(List.getElem?_eq_some_iff.1 hk).1
 have hl:=y.len
 have he:els[k]?=some (els[k]'(by omega)):=List.getElem?_eq_getElem (by omega)
 obtain⟨q,hq,hq1,hq2⟩:∃q,els[k]'(by omega)=.ms q 0 w.length/\h q=.arr 1 (wr w)/\ro q=.row s k:=by
  rcases y.el k _ w he hk with g|g
  ·obtain⟨q,l,e⟩:=yo _ (List.getElem_mem (h:=(by omega:k<els.length)))
   rw[e]at g;cases g
  ·exact g
 rw[hq]at he
 refine⟨kk,q,fun K=>?_,fun K=>?_,hq1,hq2,fun i v=>?_⟩
 ·simp only[↓bF,y.hk,Slot.row]
  apply propext
  constructor
  ·rintro⟨-,-,-,h⟩;simpa using h
  ·intro h;exact⟨by omega,by omega,⟨_,rfl⟩,by simpa using h⟩
 ·rw[jE,y.hk]
  apply propext
  constructor
  ·rintro⟨-,h⟩
   exact h _ he
  ·intro h
   refine⟨by first|omega|(simp;omega),fun e he'=>?_⟩
   rw[he]at he';cases he'
   exact h
 ·have kq:kk≠q:=by rintro rfl;have:=y.rk;rw[hq2]at this;cases this
  refine⟨kk,els,by simp,⟨by rw[aa _ _ kq];exact y.hk,y.rk,by simp;exact hl,fun j e w' hj hw'=>?_⟩,yo⟩
  by_cases ej:j=k
  ·subst ej
   rw[he]at hj;cases hj
   rw[List.getElem?_set_self hlt]at hw';cases hw'
   exact Or.inr ⟨q,by simp,ad _ _ _,hq2⟩
  ·rw[List.getElem?_set_ne (Ne.symm ej)]at hw'
   rcases y.el j e w' hj hw' with g|⟨q',g1,g2,g3⟩
   ·exact Or.inl g
   ·exact Or.inr ⟨q',g1,by rw[aa _ _ (by rintro rfl;rw[hq2]at g3;cases g3;exact ej rfl)];exact g2,g3⟩
def Vu (e:Ev) (w:Int):Int:=if e.kind=3 then jZ e.op w e.v else e.v
def QE (m:Mm) (n i:Nat):Int:=(m.getD n []).getD i 0
def U8 (e:Ev) (m:Mm):Mm:=if e.kind=1 then m else FT m e.arr.toNat e.i.toNat (Vu e (QE m e.arr.toNat e.i.toNat))
def Qj (c:Code) (e:Ev) (g s:Mm):Mm×Mm :=
 if e.kind=4 then(g,s) else if bh c e.arr.toNat=2 then(g,U8 e s) else(U8 e g,s)
structure VA (c:Code) (e:Ev) (g s:Mm) (n i:Nat) (r:bO):Prop where
 ea:e.arr=(n:Int)
 ei:e.i=(i:Int)
 hr:c.arrays[n]?=some r
 hi:(i:Int)<r.len
 sp:r.space=1\/r.space=2
 v:gM e.v
 k:(e.kind=1/\e.v=QE (if r.space=2 then s else g) n i)\/e.kind=2\/(e.kind=3/\10<=e.op/\e.op<=29)
def T9 (c:Code) (e:Ev) (g s:Mm):Prop:=e.kind=4\/∃n i r,VA c e g s n i r
inductive Tr (c:Code) (id av block:Int):Int->Mm->Mm->List Ev->Mm->Mm->Prop where
 | nil (last:Int) (g s:Mm):Tr c id av block last g s [] g s
 | cons {last:Int}{g s:Mm}{e:Ev}{r:List Ev}{g' s':Mm}(h1:e.item=id) (h2:e.av=av) (h3:e.block=block) (h4:last<e.at_) (ok:T9 c e g s)
   (t:Tr c id av block e.at_ (Qj c e g s).1 (Qj c e g s).2 r g' s'):Tr c id av block last g s (e::r) g' s'
section
variable {c:Code}{l:dk}{id av block:Int}
theorem Tr.snoc {last k:Int}{g s g1 s1:Mm}{es:List Ev}{e:Ev}(t:Tr c id av block last g s es g1 s1) (hl:last<k) (ha:∀x∈es,x.at_<k) (h1:e.item=id) (h2:e.av=av) (h3:e.block=block) (h4:e.at_=k) (ok:T9 c e g1 s1) :
  Tr c id av block last g s (es++[e]) (Qj c e g1 s1).1 (Qj c e g1 s1).2:=by
 induction t with
 | nil last g s=>exact .cons h1 h2 h3 (by omega) ok (.nil _ _ _)
 | cons a1 a2 a3 a4 ok' t ih=>exact .cons a1 a2 a3 a4 ok' (ih (ha _ (List.mem_cons_self ..)) (fun x hx=>ha x (List.mem_cons_of_mem _ hx)) ok)
end
end Go.Am
namespace Go.Am
open Go
end Go.Am
namespace Go.Am
open Go Go.Proofs
set_option maxRecDepth 100000
end Go.Am
namespace Go.Am
open Go
theorem oe.at {h:Heap}{ro:Ro}{s:Nat}{d:D}{m:Mm}(x:oe h ro s d m){k:Nat}{w:List Int}(hk:m[k]?=some w) :
  ∃kk e,(∀(K:HK),ab PP (.iadd (.c d) (.c (.int .i64 (k:Int))) 1) h K=K (.ptr kk k 0) h)/\(∀(K:HK),ab PP (.ld (.c (.ptr kk k 0)) 1 false) h K=K e h)/\na h ro (.row s k) e w:=by
 obtain⟨kk,els,rfl,y⟩:=x
 have hlt:=(List.getElem?_eq_some_iff.1 hk).1
 have hl:=y.len
 have he:els[k]?=some (els[k]'(by omega)):=List.getElem?_eq_getElem (by omega)
 have hr:=y.el k _ w he hk
 have hc:(els[k]'(by omega)).cells=[els[k]'(by omega)]:=by
  rcases hr with e|⟨q,e,-⟩<;>rw[e]<;>rfl
 refine⟨kk,els[k]'(by omega),fun K=>?_,fun K=>?_,hr⟩
 ·simp only[↓bF,y.hk,Slot.row]
  apply propext
  constructor
  ·rintro⟨-,-,-,h⟩;simpa using h
  ·intro h;exact⟨by omega,by omega,⟨_,rfl⟩,by simpa using h⟩
 ·rw[jE,y.hk]
  apply propext
  constructor
  ·rintro⟨-,h⟩
   have:=h _ he
   simpa only[↓bk,hc,List.getElem?_cons_zero] using this
  ·intro h
   refine⟨by first|omega|(simp;omega),fun e he'=>?_⟩
   rw[he]at he';cases he'
   simpa only[↓bk,hc,List.getElem?_cons_zero] using h
theorem oe.len {h:Heap}{ro:Ro}{s:Nat}{d:D}{m:Mm}(x:oe h ro s d m){K:D->Prop}:bR d h K=K (.int .i64 (m.length:Int)):=by
 obtain⟨kk,els,rfl,y⟩:=x
 rw[iJ,y.hk]
 exact propext ⟨fun h=>h.2,fun h=>⟨rfl,h⟩⟩
theorem na.len {h:Heap}{ro:Ro}{r:lV}{d:D}{w:List Int}(x:na h ro r d w){K:D->Prop}:bR d h K=K (.int .i64 (w.length:Int)):=by
 rcases x with rfl|⟨q,rfl,h2,-⟩
 ·exact lW
 ·rw[iJ,h2]
  exact propext ⟨fun h=>h.2,fun h=>⟨rfl,h⟩⟩
theorem Lx {P:Program}{f:FuncId}{h h'':Heap}{ds ds':List D}{r:D}{KH:HK}(i:Gy h h'') (k:Hr h'' ds ds') (hv:aF P f ds' (· = r)) (hK:KH r h''/\KH r (h''.freezeAll (ds.flatMap D.nm))):ag P f ds h KH:=by
 obtain⟨k1,k2,k3,-,k4⟩:=k.all
 refine LW i (ag.mono ?_ (gA (K:=(· = r)) (aF.arg k4 hv) fun d hd=>⟨k1 d hd,k2 d hd,k3 _ (List.mem_map.2 ⟨d,hd,rfl⟩)⟩))
 rintro r' h' ⟨rfl,q2,q3⟩
 by_cases hb:r'.flat=true\/ds.flatMap D.nm=[]
 ·rw[q2 hb];exact hK.1
 ·rw[q3 hb];exact hK.2
section
variable {c:Code}{l:dk}{id av block:Int}
end
end Go.Am
namespace Go.Am
open Go
theorem S8 {z:Int}{n:Nat}(hz:0<=z) (hn:0<n):∃k:Nat,z.tmod (n:Int)=(k:Int)/\k<n:=by
 refine⟨(z.tmod (n:Int)).toNat,?_,?_⟩
 ·have:=Int.tmod_nonneg (n:Int) hz;omega
 ·have:=Int.tmod_lt_of_pos z (show 0<(n:Int) by omega)
  have:=Int.tmod_nonneg (n:Int) hz;omega
theorem Qb {h:Heap}{n m:Nat}{d:D}(hn:h n=.box d):h.freeze m n=.box d:=by
 unfold Heap.freeze
 cases hm:h m<;>simp only<;>try exact hn
 by_cases he:n=m
 ·subst he;rw[hm]at hn;cases hn
 ·rw[aa _ _ he];exact hn
theorem Ks {n:Nat}{d:D}:∀(ns:List Nat){h:Heap},h n=.box d->h.freezeAll ns n=.box d
 | [],_,hn=>hn
 | _::r,_,hn=>Ks r (Qb hn)
theorem Gk {P:Program}{f:FuncId}{h h'':Heap}{ds ds':List D}{r:D}{KH:HK}(i:Gy h h'') (k:Hr h'' ds ds') (hv:aF P f ds' (· = r))
  (hK:∀h3,(∀p d,h'' p=.box d->h3 p=.box d)->(∀k,(h3 k).row=(h'' k).row)->KH r h3):ag P f ds h KH :=
 Lx i k hv ⟨hK _ (fun _ _ h=>h) fun _=>rfl,hK _ (fun _ _ h=>Ks _ h) fun k=>ij _ k⟩
end Go.Am
