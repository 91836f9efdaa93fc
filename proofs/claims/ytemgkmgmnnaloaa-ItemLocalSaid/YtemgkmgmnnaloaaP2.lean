/- What the functions of this chapter give, on plain data. No condition. -/
import Derived.Shelf.Spec.SlicesGrow
import Derived.Test.YtemgkmgmnnaloaaP1
set_option linter.unnecessarySimpa false
set_option linter.defProp false
set_option linter.unusedSectionVars false
set_option linter.unusedSimpArgs false
set_option linter.unusedVariables false
namespace Go.Am
open Go
structure eM (h:Heap) (c:Code) (l:dA) (it:It) (g s:Mm):Prop where
 b0:h 0=.box c.e
 b1:h 1=.box l.e
 b2:h 2=.box (.agg it.cs)
 b3:h 3=.box (aP g)
 b4:h 4=.box (aP s)
 b5:h 5=.box (.agg [.int .i64 0,.int .i64 0,.int .i64 0,.int .i64 0,.nil,.nil,.nil])
 b6:h 6=.box .nil
 b7:h 7=.box .nil
 b8:h 8=.box .nil
 b9:h 9=.box (.int .i64 0)
theorem eM.aA {h h':Heap}{c:Code}{l:dA}{it:It}{g s:Mm}(b:eM h c l it g s) (k:∀j,j<10->h' j=h j):eM h' c l it g s :=
  ⟨by rw[k 0 (by omega)];exact b.b0,by rw[k 1 (by omega)];exact b.b1,by rw[k 2 (by omega)];exact b.b2,by rw[k 3 (by omega)];exact b.b3,by rw[k 4 (by omega)];exact b.b4,
   by rw[k 5 (by omega)];exact b.b5,by rw[k 6 (by omega)];exact b.b6,by rw[k 7 (by omega)];exact b.b7,by rw[k 8 (by omega)];exact b.b8,by rw[k 9 (by omega)];exact b.b9⟩
theorem eM.nf {h:Heap}{c:Code}{l:dA}{it:It}{g s:Mm}(b:eM h c l it g s){j:Nat}(hj:j<10):h j≠.free:=by
 have:j=0\/j=1\/j=2\/j=3\/j=4\/j=5\/j=6\/j=7\/j=8\/j=9:=by omega
 rcases this with rfl|rfl|rfl|rfl|rfl|rfl|rfl|rfl|rfl|rfl
 ·rw[b.b0];simp
 ·rw[b.b1];simp
 ·rw[b.b2];simp
 ·rw[b.b3];simp
 ·rw[b.b4];simp
 ·rw[b.b5];simp
 ·rw[b.b6];simp
 ·rw[b.b7];simp
 ·rw[b.b8];simp
 ·rw[b.b9];simp
section
variable {h:Heap}{c:Code}{l:dA}{it:It}{g s:Mm}{K:D->Prop}
theorem eM.lc (b:eM h c l it g s):aq PP (.ld (.c (.ptr 0 0 0)) 8 true) h K=K c.e:=by rw[bL];exact dt b.b0
theorem eM.ll (b:eM h c l it g s):aq PP (.ld (.c (.ptr 1 0 0)) 2 true) h K=K l.e:=by rw[bL];exact dt b.b1
theorem eM.li (b:eM h c l it g s):aq PP (.ld (.c (.ptr 2 0 0)) 7 true) h K=K it.e:=by rw[bL];exact dt b.b2
theorem Hy {n:Nat}{d:D}(a:h n=.box d) (hd:d.cells=[d]){KH:HK}:ab PP (.ld (.c (.ptr n 0 0)) 1 false) h KH=KH d h:=by
 rw[jH,a];simp[bj,hd]
theorem Qm {n:Nat}{d:D}(a:h n=.box d) (hd:d.cells=[d]):aq PP (.ld (.c (.ptr n 0 0)) 1 false) h K=K d:=by rw[bL,Hy a hd]
theorem eM.lg (b:eM h c l it g s):aq PP (.ld (.c (.ptr 3 0 0)) 1 false) h K=K (aP g):=Qm b.b3 rfl
theorem eM.ls (b:eM h c l it g s):aq PP (.ld (.c (.ptr 4 0 0)) 1 false) h K=K (aP s):=Qm b.b4 rfl
theorem SY {n:Nat}{d d':D}(a:h n=.box d) (hd:d.cells=[d]) (hd':d'.cells=[d']) (ho:d'.one=true){KH:HK}:ab PP (.st (.c (.ptr n 0 0)) (.c d') 1) h KH=KH .undef (ah h n (.box d')):=by
 have e:setCells d 0 d'.cells=d':=by
  rw[hd']
  cases d with
  | agg cs =>
   exfalso
   have h0:cs=[D.agg cs]:=hd
   have:=congrArg (fun x:List D=>SizeOf.sizeOf x) h0
   simp at this
   omega
  | _=>rfl
 rw[du,a]
 apply propext
 constructor
 ·rintro⟨-,-,-,-,h⟩;rw[e]at h;exact h
 ·intro h;exact⟨by rw[hd'];rfl,fun x hx=>by rw[hd']at hx;simp at hx;subst hx;exact ho,rfl,by rw[hd];simp,by rw[e];exact h⟩
end
theorem NL (it:It):aB it.e:=it.cu.one
theorem Sz {h:Heap}{dI dG dS dE:D}{cs:List D}(hI:dI=.agg cs) (hcs:cs.length=7) (oI:aB dI) (b5:h 5=.box (.agg [.int .i64 0,.int .i64 0,.int .i64 0,.int .i64 0,.nil,.nil,.nil])) (b6:h 6=.box .nil) (b7:h 7=.box .nil) (b8:h 8=.box .nil) (b9:h 9=.box (.int .i64 0))
  (hG:dG.cells=[dG]/\dG.one=true) (hS:dS.cells=[dS]/\dS.one=true) (hE:dE.cells=[dE]/\dE.one=true) {n:Int}{R1 R2 R3 R4 R5:Heap->Prop}
  (hR:∀h',(∀k,k≠5->k≠6->k≠7->k≠8->k≠9->h' k=h k)->R1 h'/\R2 h'/\R3 h'/\R4 h'/\R5 h') {KH:HK}
  (hK:∀h',(∀k,k≠5->k≠6->k≠7->k≠8->k≠9->h' k=h k)->KH (.tup [dI,dG,dS,dE,.int .i64 n]) h') :
  ab PP (.st (.c (.ptr 5 0 0)) (.c dI) 7) h fun _ h1=>R1 h1/\ab PP (.st (.c (.ptr 6 0 0)) (.c dG) 1) h1 fun _ h2=>R2 h2/\ab PP (.st (.c (.ptr 7 0 0)) (.c dS) 1) h2 fun _ h3=>R3 h3 /\
  ab PP (.st (.c (.ptr 8 0 0)) (.c dE) 1) h3 fun _ h4=>R4 h4/\ab PP (.st (.c (.ptr 9 0 0)) (.c (.int .i64 n)) 1) h4 fun _ h5=>R5 h5 /\
  ab PP (.ld (.c (.ptr 5 0 0)) 7 true) h5 fun a _=>ab PP (.ld (.c (.ptr 6 0 0)) 1 false) h5 fun b _=>ab PP (.ld (.c (.ptr 7 0 0)) 1 false) h5 fun c _=>ab PP (.ld (.c (.ptr 8 0 0)) 1 false) h5 fun d _ =>
  ab PP (.ld (.c (.ptr 9 0 0)) 1 false) h5 fun e _=>KH (.tup [a,b,c,d,e]) h5:=by
 subst hI
 rw[du,b5]
 refine⟨hcs,oI,rfl,by simp[hcs],?_⟩
 have es:setCells (.agg [.int .i64 0,.int .i64 0,.int .i64 0,.int .i64 0,.nil,.nil,.nil]) 0 (D.agg cs).cells=.agg cs:=by
  simp only[setCells,bX,List.take_zero,List.nil_append,hcs];simp
 rw[es]
 obtain⟨h1,e1⟩:∃h1,h1=ah h 5 (.box (.agg cs)):=⟨_,rfl⟩
 rw[<- e1]
 have q1:∀k,k≠5->h1 k=h k:=fun k hk=>by rw[e1,aa _ _ hk]
 have p5:h1 5=.box (.agg cs):=by rw[e1,ad]
 refine⟨(hR h1 fun k a _ _ _ _=>q1 k a).1,?_⟩
 rw[SY (by rw[q1 6 (by omega)];exact b6) rfl hG.1 hG.2]
 obtain⟨h2,e2⟩:∃h2,h2=ah h1 6 (.box dG):=⟨_,rfl⟩
 rw[<- e2]
 have q2:∀k,k≠6->h2 k=h1 k:=fun k hk=>by rw[e2,aa _ _ hk]
 refine⟨(hR h2 fun k a b _ _ _=>by rw[q2 k b,q1 k a]).2.1,?_⟩
 rw[SY (by rw[q2 7 (by omega),q1 7 (by omega)];exact b7) rfl hS.1 hS.2]
 obtain⟨h3,e3⟩:∃h3,h3=ah h2 7 (.box dS):=⟨_,rfl⟩
 rw[<- e3]
 have q3:∀k,k≠7->h3 k=h2 k:=fun k hk=>by rw[e3,aa _ _ hk]
 refine⟨(hR h3 fun k a b c _ _=>by rw[q3 k c,q2 k b,q1 k a]).2.2.1,?_⟩
 rw[SY (by rw[q3 8 (by omega),q2 8 (by omega),q1 8 (by omega)];exact b8) rfl hE.1 hE.2]
 obtain⟨h4,e4⟩:∃h4,h4=ah h3 8 (.box dE):=⟨_,rfl⟩
 rw[<- e4]
 have q4:∀k,k≠8->h4 k=h3 k:=fun k hk=>by rw[e4,aa _ _ hk]
 refine⟨(hR h4 fun k a b c d _=>by rw[q4 k d,q3 k c,q2 k b,q1 k a]).2.2.2.1,?_⟩
 rw[SY (by rw[q4 9 (by omega),q3 9 (by omega),q2 9 (by omega),q1 9 (by omega)];exact b9) rfl rfl rfl]
 obtain⟨h5,e5⟩:∃h5,h5=ah h4 9 (.box (.int .i64 n)):=⟨_,rfl⟩
 rw[<- e5]
 have q5:∀k,k≠9->h5 k=h4 k:=fun k hk=>by rw[e5,aa _ _ hk]
 have al:∀k,k≠5->k≠6->k≠7->k≠8->k≠9->h5 k=h k:=fun k a b c d e=>by rw[q5 k e,q4 k d,q3 k c,q2 k b,q1 k a]
 refine⟨(hR h5 al).2.2.2.2,?_⟩
 have l5:∀{KH:HK},ab PP (.ld (.c (.ptr 5 0 0)) 7 true) h5 KH=KH (.agg cs) h5:=fun {KH}=>by
  rw[<- hcs];exact dt (by rw[q5 5 (by omega),q4 5 (by omega),q3 5 (by omega),q2 5 (by omega)];exact p5)
 rw[l5,Hy (d:=dG) (by rw[q5 6 (by omega),q4 6 (by omega),q3 6 (by omega),e2,ad]) hG.1,Hy (d:=dS) (by rw[q5 7 (by omega),q4 7 (by omega),e3,ad]) hS.1,Hy (d:=dE) (by rw[q5 8 (by omega),e4,ad]) hE.1,
  Hy (d:=.int .i64 n) (by rw[e5,ad]) rfl]
 exact hK h5 al
end Go.Am
namespace Go.Am
open Go
def Rp (r:qL):D:=.tup [r.it.e,aP r.g,aP r.s,.sl (r.ev.map Ev.e),.int .i64 r.e]
theorem oY {m:Mm}:(aP m).cells=[aP m]/\(aP m).one=true:=⟨rfl,rfl⟩
theorem Sa {d:D}(h:d.one=true):d.cells=[d]/\d.one=true:=⟨gM h,h⟩
theorem Kn {P:Program}{xs:List aQ}{k:Nat}{x:aQ}(hx:xs[k]?=some x){h:Heap}{KH:HK}:ab P (.iadd (.c (.sl (xs.map aQ.e))) (.c (.int .i64 (k:Int))) 15) h KH=KH (.vp x.e 0) h:=by
 have hk:=(List.getElem?_eq_some_iff.1 hx).1
 rw[iA,Int.toNat_natCast,List.getElem?_map,hx,List.length_map]
 apply propext
 constructor
 ·rintro⟨-,-,h⟩;exact(h _ rfl).2
 ·intro hk';exact⟨by omega,by omega,fun d hd=>by cases hd;exact⟨rfl,hk'⟩⟩
theorem Km {P:Program}{x:aQ}{h:Heap}{KH:HK}:ab P (.ld (.c (.vp x.e 0)) 15 true) h KH=KH x.e h:=by
 rw[iI,cF]
 have e:(x.e.cells.drop 0).take 15=x.cs:=rfl
 have l:x.e.cells.length=15:=rfl
 rw[e,l];simp[aQ.e]
theorem HS {c:Code}{l:dA}{it:It}{g s:Mm}{aw n:Int}{h:Heap}(hs:dC c l it g s aw=⟨it,g,s,[],n⟩):Fp (· = Rp (dC c l it g s aw)) (.tup [it.e,aP g,aP s,.nil,.int .i64 n]) h:=by
 refine nD (.refl h) (.cons (gT it.cu) (.cons (aG rfl).d (.cons (aG rfl).d (.cons fK.d (.cons (aG rfl).d .nil))))) ?_
 rw[hs];rfl
theorem TP {h:Heap}{dI dG dS dE:D}{cs:List D}(hI:dI=.agg cs) (hcs:cs.length=7) (oI:aB dI) (b5:h 5=.box (.agg [.int .i64 0,.int .i64 0,.int .i64 0,.int .i64 0,.nil,.nil,.nil])) (b6:h 6=.box .nil) (b7:h 7=.box .nil) (b8:h 8=.box .nil) (b9:h 9=.box (.int .i64 0))
  (hG:dG.cells=[dG]/\dG.one=true) (hS:dS.cells=[dS]/\dS.one=true) (hE:dE.cells=[dE]/\dE.one=true) {n:Int}{R1 R2 R3:Heap->Prop}
  (hR:∀h',(∀k,k≠5->k≠6->k≠7->k≠8->k≠9->h' k=h k)->R1 h'/\R2 h'/\R3 h') {KH:HK}
  (hK:∀h',(∀k,k≠5->k≠6->k≠7->k≠8->k≠9->h' k=h k)->KH (.tup [dI,dG,dS,dE,.int .i64 n]) h') :
  ab PP (.st (.c (.ptr 5 0 0)) (.c dI) 7) h fun _ h1=>R1 h1/\ab PP (.st (.c (.ptr 6 0 0)) (.c dG) 1) h1 fun _ h2=>R2 h2/\ab PP (.st (.c (.ptr 7 0 0)) (.c dS) 1) h2 fun _ h3=>R3 h3 /\
  ab PP (.st (.c (.ptr 8 0 0)) (.c dE) 1) h3 fun _ h4=>ab PP (.st (.c (.ptr 9 0 0)) (.c (.int .i64 n)) 1) h4 fun _ h5 =>
  ab PP (.ld (.c (.ptr 5 0 0)) 7 true) h5 fun a _=>ab PP (.ld (.c (.ptr 6 0 0)) 1 false) h5 fun b _=>ab PP (.ld (.c (.ptr 7 0 0)) 1 false) h5 fun c _=>ab PP (.ld (.c (.ptr 8 0 0)) 1 false) h5 fun d _ =>
  ab PP (.ld (.c (.ptr 9 0 0)) 1 false) h5 fun e _=>KH (.tup [a,b,c,d,e]) h5:=by
 have:=Sz (h:=h) (n:=n) (R1:=R1) (R2:=R2) (R3:=R3) (R4:=fun _=>True) (R5:=fun _=>True) hI hcs oI b5 b6 b7 b8 b9 hG hS hE (fun h' hk=>⟨(hR h' hk).1,(hR h' hk).2.1,(hR h' hk).2.2,trivial,trivial⟩) hK
 simp only[true_and]at this
 exact this
theorem TO {h:Heap}{dI dG dS dE:D}{cs:List D}(hI:dI=.agg cs) (hcs:cs.length=7) (oI:aB dI) (b5:h 5=.box (.agg [.int .i64 0,.int .i64 0,.int .i64 0,.int .i64 0,.nil,.nil,.nil])) (b6:h 6=.box .nil) (b7:h 7=.box .nil) (b8:h 8=.box .nil) (b9:h 9=.box (.int .i64 0))
  (hG:dG.cells=[dG]/\dG.one=true) (hS:dS.cells=[dS]/\dS.one=true) (hE:dE.cells=[dE]/\dE.one=true) {n:Int}{KH:HK}(hK:∀h',KH (.tup [dI,dG,dS,dE,.int .i64 n]) h') :
  ab PP (.st (.c (.ptr 5 0 0)) (.c dI) 7) h fun _ h1=>ab PP (.st (.c (.ptr 6 0 0)) (.c dG) 1) h1 fun _ h2=>ab PP (.st (.c (.ptr 7 0 0)) (.c dS) 1) h2 fun _ h3 =>
  ab PP (.st (.c (.ptr 8 0 0)) (.c dE) 1) h3 fun _ h4=>ab PP (.st (.c (.ptr 9 0 0)) (.c (.int .i64 n)) 1) h4 fun _ h5 =>
  ab PP (.ld (.c (.ptr 5 0 0)) 7 true) h5 fun a _=>ab PP (.ld (.c (.ptr 6 0 0)) 1 false) h5 fun b _=>ab PP (.ld (.c (.ptr 7 0 0)) 1 false) h5 fun c _=>ab PP (.ld (.c (.ptr 8 0 0)) 1 false) h5 fun d _ =>
  ab PP (.ld (.c (.ptr 9 0 0)) 1 false) h5 fun e _=>KH (.tup [a,b,c,d,e]) h5:=by
 have:=Sz (h:=h) (n:=n) (R1:=fun _=>True) (R2:=fun _=>True) (R3:=fun _=>True) (R4:=fun _=>True) (R5:=fun _=>True) hI hcs oI b5 b6 b7 b8 b9 hG hS hE (fun h' hk=>⟨trivial,trivial,trivial,trivial,trivial⟩) (fun h' _=>hK h')
 simp only[true_and]at this
 exact this
theorem RW {h:Heap}{c:Code}{it:It}{st:St}{dR dP dL:D}(hR:uc h dR (words st.regs)) (hP:uc h dP (aP (st.mem 3))) (hL:uc h dL (.sl [])) :
  O0 h (Ad c { it with regs:=st.regs,priv:=st.mem 3 } dR dP dL) (aT c { it with regs:=st.regs,priv:=st.mem 3 }).e:=by
 obtain⟨it1,h1⟩:∃it1:It,it1={ it with regs:=st.regs,priv:=st.mem 3 }:=⟨_,rfl⟩
 rw[<- h1]
 have r1:it1.regs=st.regs:=by rw[h1]
 have p1:it1.priv=st.mem 3:=by rw[h1]
 unfold Ad
 by_cases h5:(fO c it1.block).kind=5
 ·rw[if_pos h5]
  have:aT c it1=bE c it1.id it1.epoch 3:=by simp[aT,h5]
  rw[this];exact gT (It.cu _)
 ·rw[if_neg h5]
  have e:(aT c it1).regs=st.regs/\(aT c it1).priv=st.mem 3:=by
   rw[<- r1, <- p1]
   simp only[aT]
   split
   ·exact⟨rfl,rfl⟩
   ·split
    ·exact⟨rfl,rfl⟩
    ·first|exact⟨rfl,rfl⟩|(rw[if_neg h5];exact⟨rfl,rfl⟩)
  have:(aT c it1).e=.agg [.int .i64 (aT c it1).id,.int .i64 (aT c it1).at_,.int .i64 (aT c it1).block,.int .i64 (aT c it1).epoch,words st.regs,aP (st.mem 3),.sl []]:=by rw[<- e.1, <- e.2];rfl
  rw[this]
  exact(A4.cons (aG rfl) (.cons (aG rfl) (.cons (aG rfl) (.cons (aG rfl) (.cons hR (.cons hP (.cons hL .nil))))))).agg
theorem HY {c:Code}{it:It}{dR dP dL:D}(oR:dR.one=true) (oP:dP.one=true) (oL:dL.one=true):∃cs,Ad c it dR dP dL=.agg cs/\cs.length=7/\aB (Ad c it dR dP dL):=by
 unfold Ad
 split
 ·exact⟨_,rfl,rfl,(It.cu _).one⟩
 ·refine⟨_,rfl,rfl,fun z hz=>?_⟩
  simp[rM]at hz
  rcases hz with rfl|rfl|rfl|rfl|rfl|rfl|rfl<;>first|rfl|assumption
theorem Nc {h:Heap}{ro:Ro}{KH:HK}(hK:∀(dL:D) (h':Heap) (ro':Ro),(∀k,h k≠.free->h' k=h k/\ro' k=ro k)->JO h' ro' dL->KH dL h'):ag PP aR [.sl []] h KH:=by
 refine Nd (hK .nil h ro (fun k _=>⟨rfl,rfl⟩) (Or.inl rfl)) fun q h' hq hq2 hk=>?_
 refine hK (.ms q 0 0) h' (ah ro q .sl) (fun k hf=>⟨hk k hf,?_⟩) (Or.inr (Or.inr ⟨q,rfl,hq2,ad _ _ _⟩))
 rw[aa _ _ (by rintro rfl;exact hf hq)]
theorem RQ {c:Code}{l:dA}{it:It}{g s:Mm}{aw:Int}(hc:bh c) (hl:jw c l) (hi:OU c l it) (hg:gg c.arrays 1 g) (hs:gg c.arrays 2 s) :
  aF PP rC [c.e,l.e,it.e,aP g,aP s,.int .i64 aw] (· = Rp (dC c l it g s aw)):=by
 refine gh (ON FF (aC _ _ _) K1 rfl (Fl _ _ _ _ _ _ _) ?_)
 (unfold BR;try dsimp only[xL,yL,xF,yF,xI,yI,xS,zI,zJ])
 rw[cZ,kA OX (Code.on c),kA (by simp) (dA.on l),kA (by simp) (show it.e.cells.all D.one=true from rfl),kA (by simp) (show(aP g).cells.all D.one=true from rfl),kA (by simp) (show(aP s).cells.all D.one=true from rfl),
  ir (by simp),ir (by simp),ir (by simp),ir (by simp),ir (by simp)]
 simp only[List.nil_append,List.length_nil,List.length_singleton,List.cons_append,List.length_cons,Nat.zero_add,Nat.reduceAdd]
 obtain⟨H,hH⟩:∃H,H=LH.h [Slot.box c.e,.box l.e,.box it.e,.box (aP g),.box (aP s),.box (.agg [.int .i64 0,.int .i64 0,.int .i64 0,.int .i64 0,.nil,.nil,.nil]),.box .nil,.box .nil,.box .nil,.box (.int .i64 0)]:=⟨_,rfl⟩
 rw[<- hH]
 have B:eM H c l it g s:=by rw[hH];exact⟨rfl,rfl,rfl,rfl,rfl,rfl,rfl,rfl,rfl,rfl⟩
 have Hfree:∀k,10<=k->H k=.free:=fun k hk=>by rw[hH];exact LH.Sn (by simpa using hk)
 clear hH
 have u2:(H 2).used=true:=by rw[B.b2];rfl
 simp only[↓bf u2,Nat.zero_add,↓eV B.b2 (j:=1) rfl,↓ck,true_and]
 by_cases ha:it.at_=1
 case neg =>
  simp only[ha,decide_false,Bool.not_false,↓af,B.li,B.lg,B.ls]
  refine Sz (cs:=it.cs) rfl rfl (NL it) B.b5 B.b6 B.b7 B.b8 B.b9 oY oY ⟨rfl,rfl⟩ (fun h' hk=>?_) fun h' hk=>?_
  ·have e3:h' 3=.box (aP g):=by rw[hk 3 (by omega) (by omega) (by omega) (by omega) (by omega)];exact B.b3
   have e4:h' 4=.box (aP s):=by rw[hk 4 (by omega) (by omega) (by omega) (by omega) (by omega)];exact B.b4
   have:((aq PP (.ld (.c (.ptr 3 0 0)) 1 false) h' fun a=>aH [a] [aP g])/\(aq PP (.ld (.c (.ptr 4 0 0)) 1 false) h' fun a=>aH [a] [aP s])/\True):=⟨by rw[Qm e3 rfl];simp,by rw[Qm e4 rfl];simp,trivial⟩
   exact⟨this,this,this,this,this⟩
  ·exact HS (by simp[dC,ha])
 simp only[ha,decide_true,Bool.not_true,↓ae,B.lc,B.ll,B.li,B.lg,B.ls]
 obtain⟨ro0,hro0⟩:∃ro0:Ro,ro0=fun _=>mc.no:=⟨_,rfl⟩
 have r0:∀k,ro0 k=.no:=fun k=>by rw[hro0]
 clear hro0 Hfree u2
 have mw:∀{m:Mm}{sp:Nat},gg c.arrays sp m->m.length<=8:=fun hm=>by rw[hm.len];exact hc.nar
 have mk:∀{h:Heap}{ro:Ro}{sp q:Nat}{m:Mm},h q=.arr 1 (m.map words)->ro q=.mem sp->om h ro sp m q (m.map words):=fun {h ro sp q m} h1 h2 =>
  ⟨h1,h2,by simp,fun i e w he hw=>by
   rw[List.getElem?_map,hw]at he
   cases he
   exact Or.inl rfl⟩
 refine GS (by have:=mw hg;omega) fun q1 f1=>?_
 have B1:eM (ah H q1 (.arr 1 (g.map words))) c l it g s:=B.aA fun j hj=>aa _ _ (by rintro rfl;exact B.nf hj f1)
 have R1:∀k,k<10->ah ro0 q1 (.mem 1) k=.no:=fun k hk=>by rw[aa _ _ (by rintro rfl;exact B.nf hk f1)];exact r0 k
 have M1:om (ah H q1 (.arr 1 (g.map words))) (ah ro0 q1 (.mem 1)) 1 g q1 (g.map words):=mk (ad _ _ _) (ad _ _ _)
 generalize ah H q1 (.arr 1 (g.map words))=h1 at B1 M1
 generalize ah ro0 q1 (.mem 1)=ro1 at R1 M1
 clear B r0
 simp only[B1.lc,B1.ll,B1.li,B1.ls,ai,true_and,and_true]
 refine GS (by have:=mw hs;omega) fun q2 f2=>?_
 have B2:eM (ah h1 q2 (.arr 1 (s.map words))) c l it g s:=B1.aA fun j hj=>aa _ _ (by rintro rfl;exact B1.nf hj f2)
 have R2:∀k,k<10->ah ro1 q2 (.mem 2) k=.no:=fun k hk=>by rw[aa _ _ (by rintro rfl;exact B1.nf hk f2)];exact R1 k hk
 have M12:=M1.aA (cD.new f2 (.mem 2) (s:=.arr 1 (s.map words)))
 have M2:om (ah h1 q2 (.arr 1 (s.map words))) (ah ro1 q2 (.mem 2)) 2 s q2 (s.map words):=mk (ad _ _ _) (ad _ _ _)
 generalize ah h1 q2 (.arr 1 (s.map words))=h2 at B2 M2 M12
 generalize ah ro1 q2 (.mem 2)=ro2 at R2 M2 M12
 clear B1 R1 M1
 simp only[B2.lc,B2.ll,B2.li,ai,true_and,and_true]
 show ∀nm,nZ h2 nm->_
 intro nm t3
 have f3:=t3.free
 have B3:eM (ah h2 nm (.map (.pair .i64) [])) c l it g s:=B2.aA fun j hj=>aa _ _ (by rintro rfl;exact B2.nf hj f3)
 have R3:∀k,k<10->ah ro2 nm .map k=.no:=fun k hk=>by rw[aa _ _ (by rintro rfl;exact B2.nf hk f3)];exact R2 k hk
 have M13:=M12.aA (cD.new f3 .map (s:=.map (.pair .i64) []))
 have M23:=M2.aA (cD.new f3 .map (s:=.map (.pair .i64) []))
 have N3:ah h2 nm (.map (.pair .i64) []) nm=.map (.pair .i64) []:=ad _ _ _
 have N3r:ah ro2 nm .map nm=.map:=ad _ _ _
 generalize ah h2 nm (.map (.pair .i64) [])=h3 at B3 M13 M23 N3
 generalize ah ro2 nm .map=ro3 at R3 M13 M23 N3r
 clear B2 R2 M12 M2 t3
 simp only[B3.lc,B3.ll,B3.li,B3.lg,B3.ls,ai,true_and,and_true]
 rw[jJ rfl,cJ]
 have e21:D.agg (fillD [.int .i64 0,.int .i64 0,.int .i64 0,.int .i64 0,.int .i64 0,.nil,.nil,.nil,.int .i64 0,.nil,.int .i64 0,.int .i64 0,.int .i64 0,.int .i64 0,.nil,.nil,.nil,.nil,.nil,.nil,.nilmap]
   ([(0,8,Arg.c c.e),(8,2,.c l.e),(10,7,.c it.e),(17,1,.c (.ms q1 0 g.length)),(18,1,.c (.ms q2 0 s.length)),(20,1,.c (.mp nm))].map fun p=>(p.1,p.2.1,(p.2.2.get []).cells))) =
   .agg (jn c l it (words it.regs) (aP it.priv) (.sl []) (.ms q1 0 g.length) (.ms q2 0 s.length) .nil nm):=rfl
 rw[e21]
 refine⟨fun z hz=>?_,fun n t4=>?_⟩
 ·simp[jn]at hz
  rcases hz with rfl|rfl|rfl|rfl|rfl|rfl|rfl|rfl|rfl|rfl|rfl|rfl|rfl|rfl|rfl|rfl|rfl|rfl|rfl|rfl|rfl<;>rfl
 have f4:=t4.free
 obtain⟨bx,hbx⟩:∃bx,bx=Slot.box (.agg (jn c l it (words it.regs) (aP it.priv) (.sl []) (.ms q1 0 g.length) (.ms q2 0 s.length) .nil nm)):=⟨_,rfl⟩
 rw[<- hbx]
 have B4:eM (ah h3 n bx) c l it g s:=B3.aA fun j hj=>aa _ _ (by rintro rfl;exact B3.nf hj f4)
 have R4:∀k,k<10->ah ro3 n .box k=.no:=fun k hk=>by rw[aa _ _ (by rintro rfl;exact B3.nf hk f4)];exact R3 k hk
 have M14:=M13.aA (cD.new f4 .box (s:=bx))
 have M24:=M23.aA (cD.new f4 .box (s:=bx))
 have nn4:nm≠n:=t4.ne (by rw[N3];simp)
 have N4:ah h3 n bx nm=.map (.pair .i64) []:=by rw[aa _ _ nn4];exact N3
 have N4r:ah ro3 n .box nm=.map:=by rw[aa _ _ nn4];exact N3r
 have X4:ah h3 n bx n=bx:=ad _ _ _
 have X4r:ah ro3 n .box n=.box:=ad _ _ _
 generalize ah h3 n bx=h4 at B4 M14 M24 N4 X4
 generalize ah ro3 n .box=ro4 at R4 M14 M24 N4r X4r
 clear B3 R3 M13 M23 N3 N3r t4 e21
 have u24:(h4 2).used=true:=by rw[B4.b2];rfl
 simp only[↓aE,u24,Nat.zero_add,↓cf B4.b2 (j:=4) rfl,↓cf B4.b2 (j:=5) rfl,↓cf B4.b2 (j:=6) rfl,true_and]
 have hrl:=hi.len
 have hrr:=hc.regs
 refine GU (w:=it.regs) (by rintro h;rw[h]at hrl;simp at hrl;omega) (by omega) fun q5 h5 f5 a5 k5=>?_
 have B5:eM h5 c l it g s:=B4.aA fun j hj=>k5 j (B4.nf hj)
 have R5:∀k,k<10->ah ro4 q5 .regs k=.no:=fun k hk=>by rw[aa _ _ (by rintro rfl;exact B4.nf hk f5)];exact R4 k hk
 have K5:cD h4 ro4 h5 (ah ro4 q5 .regs):=cD.UE f5 k5 _
 have M15:=M14.aA K5
 have M25:=M24.aA K5
 have nq5:∀k,h4 k≠.free->k≠q5:=by rintro k hk rfl;exact hk f5
 have N5:h5 nm=.map (.pair .i64) []:=by rw[k5 nm (by rw[N4];simp)];exact N4
 have X5:h5 n=bx:=by rw[k5 n (by rw[X4,hbx];simp)];exact X4
 have N5r:ah ro4 q5 .regs nm=.map:=by rw[aa _ _ (nq5 nm (by rw[N4];simp))];exact N4r
 have X5r:ah ro4 q5 .regs n=.box:=by rw[aa _ _ (nq5 n (by rw[X4,hbx];simp))];exact X4r
 have G5:nv h5 (ah ro4 q5 .regs) (.ms q5 0 it.regs.length) it.regs:=⟨q5,rfl,a5,ad _ _ _⟩
 generalize ah ro4 q5 .regs=ro5 at R5 M15 M25 N5r X5r G5
 clear K5 B4 R4 M14 M24 N4 N4r X4 X4r u24 k5 a5 nq5
 have u25:(h5 2).used=true:=by rw[B5.b2];rfl
 simp only[↓aE,u25,Nat.zero_add,↓cf B5.b2 (j:=5) rfl,↓cf B5.b2 (j:=6) rfl,ai,true_and,and_true]
 refine Nc (ro:=ro5) fun dL h6 ro6 k6 L6=>?_
 have B6:eM h6 c l it g s:=B5.aA fun j hj=>(k6 j (B5.nf hj)).1
 have R6:∀k,k<10->ro6 k=.no:=fun k hk=>by rw[(k6 k (B5.nf hk)).2];exact R5 k hk
 have K6:cD h5 ro5 h6 ro6:=fun k hf _=>k6 k hf
 have M16:=M15.aA K6
 have M26:=M25.aA K6
 have G6:=G5.aA K6
 obtain⟨a6,b6⟩:=k6 nm (by rw[N5];simp)
 have N6:h6 nm=.map (.pair .i64) []:=by rw[a6];exact N5
 have N6r:ro6 nm=.map:=by rw[b6];exact N5r
 obtain⟨c6,d6⟩:=k6 n (by rw[X5,hbx];simp)
 have X6:h6 n=bx:=by rw[c6];exact X5
 have X6r:ro6 n=.box:=by rw[d6];exact X5r
 clear B5 R5 M15 M25 N5 N5r X5 X5r G5 K6 k6 a6 b6 c6 d6 u25
 have u26:(h6 2).used=true:=by rw[B6.b2];rfl
 simp only[u26,↓cf B6.b2 (j:=5) rfl,ai,true_and]
 refine GS (by have:=mw hi.priv;omega) fun q7 f7=>?_
 have B7:eM (ah h6 q7 (.arr 1 (it.priv.map words))) c l it g s:=B6.aA fun j hj=>aa _ _ (by rintro rfl;exact B6.nf hj f7)
 have R7:∀k,k<10->ah ro6 q7 (.mem 3) k=.no:=fun k hk=>by rw[aa _ _ (by rintro rfl;exact B6.nf hk f7)];exact R6 k hk
 have K7:cD h6 ro6 (ah h6 q7 (.arr 1 (it.priv.map words))) (ah ro6 q7 (.mem 3)):=cD.new f7 _
 have M17:=M16.aA K7
 have M27:=M26.aA K7
 have G7:=G6.aA K7
 have L7:=L6.aA K7
 have M37:om (ah h6 q7 (.arr 1 (it.priv.map words))) (ah ro6 q7 (.mem 3)) 3 it.priv q7 (it.priv.map words):=mk (ad _ _ _) (ad _ _ _)
 have nm7:nm≠q7:=by rintro rfl;rw[N6]at f7;cases f7
 have nn7:n≠q7:=by rintro rfl;rw[X6,hbx]at f7;cases f7
 have N7:ah h6 q7 (.arr 1 (it.priv.map words)) nm=.map (.pair .i64) []:=by rw[aa _ _ nm7];exact N6
 have X7:ah h6 q7 (.arr 1 (it.priv.map words)) n=bx:=by rw[aa _ _ nn7];exact X6
 have N7r:ah ro6 q7 (.mem 3) nm=.map:=by rw[aa _ _ nm7];exact N6r
 have X7r:ah ro6 q7 (.mem 3) n=.box:=by rw[aa _ _ nn7];exact X6r
 generalize ah h6 q7 (.arr 1 (it.priv.map words))=h7 at B7 M17 M27 M37 G7 L7 N7 X7
 generalize ah ro6 q7 (.mem 3)=ro7 at R7 M17 M27 M37 G7 L7 N7r X7r
 clear B6 R6 M16 M26 G6 L6 N6 X6 N6r X6r K7 u26
 rw[hbx]at X7
 have oL:=L7.one
 have u7:(h7 n).used=true:=by rw[X7];rfl
 have set3:∀{KH:HK},(∀h',dZ h' ro7 n c l it (.ms q5 0 it.regs.length) dL .nil (fun k=>if k=1 then .ms q1 0 g.length else if k=2 then .ms q2 0 s.length else .ms q7 0 it.priv.length) nm [] (zY it g s)->eM h' c l it g s->KH .undef h') ->
   (h7 n).used=true/\(h7 n).used=true/\(h7 n).used=true/\ab PP (.st (.c (.ptr n 0 (10+4))) (.c (.ms q5 0 it.regs.length)) 1) h7 fun _ h8=>(h8 n).used=true/\(h8 n).used=true/\(h8 n).used=true /\
    ab PP (.st (.c (.ptr n 0 (10+6))) (.c dL) 1) h8 fun _ h9=>(h9 n).used=true/\(h9 n).used=true/\(h9 n).used=true/\ab PP (.st (.c (.ptr n 0 (10+5))) (.c (.ms q7 0 it.priv.length)) 1) h9 KH:=by
  intro KH hK
  refine⟨u7,u7,u7,?_⟩
  rw[du,X7]
  refine⟨rfl,by simp,rfl,by simp[jn],?_⟩
  refine⟨by rw[ad];rfl,by rw[ad];rfl,by rw[ad];rfl,?_⟩
  have cL:dL.cells=[dL]:=gM oL
  rw[du,ad]
  refine⟨by rw[cL];rfl,fun z hz=>by rw[cL]at hz;simp at hz;subst hz;exact oL,rfl,by simp[jn,setCells],?_⟩
  refine⟨by rw[ad];rfl,by rw[ad];rfl,by rw[ad];rfl,?_⟩
  rw[du,ad]
  refine⟨rfl,by simp,rfl,by simp[jn,setCells,cL],?_⟩
  rw[gk,gk,cL]
  have e:setCells (setCells (setCells (.agg (jn c l it (words it.regs) (aP it.priv) (.sl []) (.ms q1 0 g.length) (.ms q2 0 s.length) .nil nm)) (10+4) (D.ms q5 0 it.regs.length).cells) (10+6) [dL]) (10+5) (D.ms q7 0 it.priv.length).cells =
    .agg (jn c l it (.ms q5 0 it.regs.length) (.ms q7 0 it.priv.length) dL (.ms q1 0 g.length) (.ms q2 0 s.length) .nil nm):=rfl
  rw[e]
  have kb:(ro7 n).core=false:=by rw[X7r];rfl
  have nmn:nm≠n:=by rintro rfl;rw[N7r]at X7r;cases X7r
  have KK:cD h7 ro7 (ah h7 n (.box (.agg (jn c l it (.ms q5 0 it.regs.length) (.ms q7 0 it.priv.length) dL (.ms q1 0 g.length) (.ms q2 0 s.length) .nil nm)))) ro7:=cD.aw kb
  refine hK _ ⟨ad _ _ _,X7r,⟨G7.aA KK,fun k k1 k2=>?_,Or.inl ⟨rfl,rfl⟩,L7.aA KK⟩,by rw[aa _ _ nmn];exact N7,N7r,by simp,by simp,fun sp i k els e w s1 s2 hd hk he hw=>?_⟩ (B7.aA fun j hj=>aa _ _ (by rintro rfl;rw[R7 j hj]at X7r;cases X7r))
  ·have:k=1\/k=2\/k=3:=by omega
   rcases this with rfl|rfl|rfl
   ·exact⟨q1,_,rfl,M17.aA KK⟩
   ·exact⟨q2,_,rfl,M27.aA KK⟩
   ·exact⟨q7,_,rfl,M37.aA KK⟩
  ·refine⟨fun _=>?_,fun hne=>absurd rfl hne⟩
   have:sp=1\/sp=2\/sp=3:=by omega
   rcases this with rfl|rfl|rfl
   ·simp only[if_true,D.ms.injEq,true_and]at hd
    obtain⟨rfl,-⟩:=hd
    rw[(M17.aA KK).hk]at hk
    simp only[Slot.arr.injEq,true_and]at hk
    subst hk
    have hw':g[i]?=some w:=hw
    rw[List.getElem?_map,hw']at he
    exact(by simpa using he.symm)
   ·simp only[show ¬(2:Nat)=1 by omega,if_true,if_false,D.ms.injEq,true_and]at hd
    obtain⟨rfl,-⟩:=hd
    rw[(M27.aA KK).hk]at hk
    simp only[Slot.arr.injEq,true_and]at hk
    subst hk
    have hw':s[i]?=some w:=hw
    rw[List.getElem?_map,hw']at he
    exact(by simpa using he.symm)
   ·simp only[show ¬(3:Nat)=1 by omega,show ¬(3:Nat)=2 by omega,if_false,D.ms.injEq,true_and]at hd
    obtain⟨rfl,-⟩:=hd
    rw[(M37.aA KK).hk]at hk
    simp only[Slot.arr.injEq,true_and]at hk
    subst hk
    have hw':it.priv[i]?=some w:=hw
    rw[List.getElem?_map,hw']at he
    exact(by simpa using he.symm)
 refine set3 fun h8 X8 B8=>?_
 clear set3 B7 M17 M27 M37 G7 L7 N7 X7 N7r X7r u7 mk
 generalize (fun k=>if k=1 then D.ms q1 0 g.length else if k=2 then .ms q2 0 s.length else .ms q7 0 it.priv.length)=dm0 at X8
 have R8:=R7
 obtain⟨k,B,hbk,hB,hBm,-,hins⟩:=hc.OB hi.block
 obtain⟨hxs,hxl,-⟩:=hc.xs B hBm
 have sP:dC c l it g s aw=match runP c l it.id aw it.block B.i 0 (zY it g s) with
   | none=>⟨it,g,s,[],70⟩
   | some st=>⟨aT c { it with regs:=st.regs,priv:=st.mem 3 },st.mem 1,st.mem 2,st.ev,0⟩:=by
  unfold dC
  rw[if_neg (by simp[ha]),hins]
  cases runP c l it.id aw it.block B.i 0 (zY it g s)<;>rfl
 have w0:oC c (zY it g s):=GO hi hg hs
 have n10:∀{ro:Ro},(∀k,k<10->ro k=.no)->ro n=.box->n≠5/\n≠6/\n≠7/\n≠8/\n≠9:=fun {ro} hr hn=>by
  refine⟨?_,?_,?_,?_,?_⟩<;>rintro rfl<;>rw[hr _ (by omega)]at hn<;>cases hn
 refine⟨fun _ h'=>∃(ro':Ro) (st':St),eM h' c l it g s/\(∀k,k<10->ro' k=.no)/\JP h' ro' n c l it st'/\oC c st'/\runP c l it.id aw it.block B.i 0 (zY it g s)=some st',?_,?_⟩
 ·rintro _ h9 ⟨ro9,st9,B9,R9,⟨dR,dL9,dE,dm,nm9,ents,X9⟩,W9,P9⟩
  rw[P9]at sP
  simp only[X9.used,↓cf X9.box (j:=17) rfl,↓cf X9.box (j:=18) rfl,↓cf X9.box (j:=19) rfl,true_and]
  refine Py X9 hc W9 hi.block fun h' ro' it' F X=>?_
  have R':∀k,k<10->ro' k=.no:=fun k hk=>by rw[(F k (B9.nf hk)).1];exact R9 k hk
  have B':eM h' c l it g s:=B9.aA fun j hj=>(F j (B9.nf hj)).2.2 (R9 j hj)
  obtain⟨o5,o6,o7,o8,o9⟩:=n10 R' X.rb
  have o1:=(X.sr.mem 1 (by omega) (by omega)).one
  have o2:=(X.sr.mem 2 (by omega) (by omega)).one
  have o3:=(X.sr.mem 3 (by omega) (by omega)).one
  obtain⟨cs,e1,e2,e3⟩:=HY (c:=c) (it:={ it with regs:=st9.regs,priv:=st9.mem 3 }) X.sr.regs.one o3 X.sr.sl.one
  simp only[X.used,↓cf X.box (j:=17) rfl,↓cf X.box (j:=18) rfl,↓cf X.box (j:=19) rfl,ai,true_and,and_true]
  refine TP e1 e2 e3 B'.b5 B'.b6 B'.b7 B'.b8 B'.b9 (Sa o1) (Sa o2) (Sa X.sr.ev.one) (fun h'' hk=>?_) fun h'' hk=>?_
  ·have hb:h'' n=.box (.agg (jn c l it' dR (dm 3) dL9 (dm 1) (dm 2) dE nm9)):=by rw[hk n o5 o6 o7 o8 o9];exact X.box
   have hu:(h'' n).used=true:=by rw[hb];rfl
   simp only[hu,↓cf hb (j:=17) rfl,↓cf hb (j:=18) rfl,↓cf hb (j:=19) rfl,ai,true_and,and_true]
  ·have kk:cD h' ro' h'' ro':=fun k _ hcore=>by
    have ne:∀j,j<10->k≠j:=fun j hj=>by rintro rfl;rw[R' _ hj]at hcore;cases hcore
    exact⟨hk k (ne 5 (by omega)) (ne 6 (by omega)) (ne 7 (by omega)) (ne 8 (by omega)) (ne 9 (by omega)),rfl⟩
   obtain⟨h3,i1,i2,i3,i4,i5,-⟩:=(X.sr.aA kk).out
   refine nD i1 (.cons (RW i2 (i5 3 (by omega) (by omega)) i4) (.cons (i5 1 (by omega) (by omega)).d (.cons (i5 2 (by omega) (by omega)).d (.cons i3.d (.cons (aG rfl).d .nil))))) ?_
   rw[sP];rfl
 have u0:(h8 0).used=true:=by rw[B8.b0];rfl
 have u2:(h8 2).used=true:=by rw[B8.b2];rfl
 have eb:∀{K:HK},ab PP (.ld (.c (.ptr 0 0 7)) 1 false) h8 K=K (.sl (c.b.map Block.e)) h8:=fun {K}=>eV (cs:=[.int .i64 c.group,.int .i64 c.sub,.int .i64 c.regs,.int .i64 c.slots,.int .i64 c.params,.sl (c.arrays.map bO.e),.sl (c.loops.map Loop.e),.sl (c.b.map Block.e)]) B8.b0 rfl
 have hat:∀{K:HK},ab PP (.iadd (.c (.sl (c.b.map Block.e))) (.c (.int .i64 it.block)) 14) h8 K=K (.vp B.e 0) h8:=fun {K}=>by rw[hbk,wz hB]
 simp only[↓bf u0,↓bf u2,Nat.zero_add,eb,↓eV B8.b2 (j:=2) rfl,true_and,hat,↓iu,↓QY,↓lz,List.length_map]
 (unfold sE;try dsimp only[xL,yL,xF,yF,xI,yI,xS,zI,zJ])
 refine⟨fun m qs h'=>∃(i:Nat) (ro':Ro) (st':St),qs=[.int .i64 (i:Int)]/\m+i=B.i.length/\eM h' c l it g s/\(∀k,k<10->ro' k=.no)/\JP h' ro' n c l it st'/\oC c st'/\st'.ev.length<=i /\
   runP c l it.id aw it.block (B.i.drop i) i st'=runP c l it.id aw it.block B.i 0 (zY it g s),B.i.length,⟨0,ro7,zY it g s,rfl,by omega,B8,R8,⟨_,_,_,_,_,_,X8⟩,w0,by simp[zY],by simp⟩,?_⟩
 rintro m f h' ⟨i,ro',st',hf,hmi,B',R',X',W',E',P'⟩
 simp only[List.cons.injEq,and_true]at hf
 rw[hf,bM]
 by_cases hlt:i<B.i.length
 case neg =>
  simp only[show ¬((i:Int)<(B.i.length:Int)) by omega,decide_false,↓ae,ai,true_and]
  rw[List.drop_of_length_le (by omega)]at P'
  exact⟨ro',st',B',R',X',W',P'.symm⟩
 have hx:B.i[i]?=some B.i[i]:=List.getElem?_eq_getElem hlt
 simp only[show((i:Int)<(B.i.length:Int)) by omega,decide_true,↓af,↓Kn hx,↓Km]
 rw[bS]
 intro p tp
 rw[du,ad]
 refine⟨rfl,(aQ.cu _).one,rfl,Nat.le_refl _,?_⟩
 rw[gk]
 have es:setCells (.agg [(.int .i64 0),(.int .i64 0),(.int .i64 0),(.int .i64 0),(.int .i64 0),(.int .i32 0),(.int .i64 0),(.int .i64 0),(.int .i32 0),(.int .i64 0),(.int .i64 0),(.int .i32 0),(.int .i64 0),(.int .i64 0),(.int .i32 0)]) 0 (aQ.e B.i[i]).cells=.agg (aQ.cs B.i[i]):=rfl
 rw[es]
 obtain⟨dR,dL9,dE,dm,nm9,ents,X'⟩:=X'
 have Xn:=X'.new tp.free (.box (.agg (aQ.cs B.i[i])))
 have fp:=tp.free
 have Bn:eM (ah h' p (.box (.agg (aQ.cs B.i[i])))) c l it g s:=B'.aA fun j hj=>aa _ _ (by rintro rfl;exact B'.nf hj fp)
 have Rn:∀k,k<10->ah ro' p .no k=.no:=fun k hk=>by
  by_cases e:k=p
  ·rw[e,ad]
  ·rw[aa _ _ e];exact R' k hk
 have pb:ah h' p (.box (.agg (aQ.cs B.i[i]))) p=.box (.agg (aQ.cs B.i[i])):=ad _ _ _
 generalize ah h' p (.box (.agg (aQ.cs B.i[i])))=hn at Xn Bn pb
 generalize ah ro' p .no=ron at Xn Rn
 clear X' B' R'
 have un2:(hn 2).used=true:=by rw[Bn.b2];rfl
 have l15:∀{K:HK},ab PP (.ld (.c (.ptr p 0 0)) 15 true) hn K=K (aQ.e B.i[i]) hn:=fun {K}=>by rw[rL pb (by simp[aQ.cs])];rfl
 simp only[l15,↓bf un2,Nat.zero_add,↓eV Bn.b2 (j:=0) rfl,↓eV Bn.b2 (j:=2) rfl,true_and]
 rw[cI rfl]
 have ee:D.agg (fillD [.int .i64 0,.int .i64 0,.int .i64 0,.int .i64 0,.int .i64 0,.int .i64 0,.int .i64 0,.int .i64 0,.int .i32 0]
   ([(2,1,Arg.c (.int .i64 it.id)),(3,1,.c (.int .i64 aw)),(4,1,.c (.int .i64 it.block)),(5,1,.c (.int .i64 (i:Int)))].map fun p=>(p.1,p.2.1,(p.2.2.get []).cells)))=(TX it.id aw it.block (i:Int)).e:=rfl
 rw[ee]
 have P2:runP c l it.id aw it.block (B.i.drop i) i st'=(cO c l it.id B.i[i] (TX it.id aw it.block i) st').bind (runP c l it.id aw it.block (B.i.drop (i+1)) (i+1)):=by
  rw[List.drop_eq_getElem_cons hlt];rfl
 have iok:=hxs _ (List.getElem_mem hlt)
 refine UA ⟨_,_,_,_,_,_,Xn⟩ hc hl hi.id W' (by omega) iok (fun st2 h2 ro2 hst F2 X2=>?_) (fun h2 ro2 hst F2=>?_)
 ·obtain⟨w2,l2⟩:=rN hc hl W' iok hst
  rw[hst]at P2
  rw[bm,Gc (i:=i) (by omega)]
  refine⟨by simp,m-1,by omega,i+1,ro2,st2,rfl,by omega,Bn.aA fun j hj=>(F2 j (Bn.nf hj)).2.2 (Rn j hj),fun k hk=>by rw[(F2 k (Bn.nf hk)).1];exact Rn k hk,X2,w2,by omega,?_⟩
  rw[<- P',P2];rfl
 ·have B2:eM h2 c l it g s:=Bn.aA fun j hj=>(F2 j (Bn.nf hj)).2.2 (Rn j hj)
  rw[hst]at P2
  rw[<- P',P2]at sP
  refine I2 ?_
  have i7:∀{K:HK},ab PP (.ld (.c (.ptr 2 0 0)) 7 true) h2 K=K it.e h2:=fun {K}=>dt B2.b2
  rw[i7,Hy B2.b3 rfl,Hy B2.b4 rfl]
  refine TO (cs:=it.cs) rfl rfl (NL it) B2.b5 B2.b6 B2.b7 B2.b8 B2.b9 oY oY ⟨rfl,rfl⟩ fun h'=>?_
  exact HS sP
def fB (h:Heap) (ro:Ro) (h':Heap) (ro':Ro):Prop:=∀k,h k≠.free->h' k=h k/\ro' k=ro k
theorem fB.refl {h:Heap}{ro:Ro}:fB h ro h ro:=fun _ _=>⟨rfl,rfl⟩
theorem fB.trans {h1 h2 h3:Heap}{r1 r2 r3:Ro}(a:fB h1 r1 h2 r2) (b:fB h2 r2 h3 r3):fB h1 r1 h3 r3:=fun k hk=>by
 obtain⟨a1,a2⟩:=a k hk
 obtain⟨b1,b2⟩:=b k (by rw[a1];exact hk)
 exact⟨b1.trans a1,b2.trans a2⟩
theorem fB.aA {h h':Heap}{ro ro':Ro}(a:fB h ro h' ro'):cD h ro h' ro':=fun k hk _=>a k hk
theorem fB.new {h:Heap}{ro:Ro}{n:Nat}(hn:h n=.free) (r:mc) (s:Slot):fB h ro (ah h n s) (ah ro n r):=fun k hk=>by
 have:k≠n:=by rintro rfl;exact hk hn
 rw[aa _ _ this,aa _ _ this];exact⟨rfl,rfl⟩
theorem fB.free {h h':Heap}{ro ro':Ro}(a:fB h ro h' ro'){k:Nat}(hk:h' k=.free):h k=.free:=by
 cases e:h k<;>first|rfl|(exfalso;have:=(a k (by rw[e];simp)).1;rw[hk,e]at this;cases this)
theorem fB.fr {h h':Heap}{ro ro':Ro}(a:fB h ro h' ro'):Fr ro h ro' h':=fun k hk=>⟨(a k hk).2,by rw[(a k hk).1];exact hk,fun _=>(a k hk).1⟩
theorem fB.box {h h':Heap}{ro ro':Ro}(a:fB h ro h' ro'){k:Nat}{d:D}(hk:h k=.box d):h' k=.box d:=by rw[(a k (by rw[hk];simp)).1];exact hk
theorem Gr {P:Program}{h:Heap}{KH:HK}{esz bytes m:Nat}{z z' d:D}{els:List D}(hm:h m=.arr esz els) (h2:aB d) (h3:d.cells.length=esz) (hb:(els.length+1)*bytes<=140737488355328) (hl:els.length+1<=9223372036854775807)
  (hk:∀n h',h n=.free->h' n=.arr esz (els++[d])->(∀k,h k≠.free->k≠m->h' k=h k)->KH (.ms n 0 (els.length+1)) h'):ab P (.bldS false esz 1 z [(0,.c d)]) h fun x h1=>ab P (.app (.c (.ms m 0 els.length)) (.c x) esz bytes z') h1 KH:=by
 refine⟨fun p hp=>by simp[Arg.get]at hp;subst hp;exact⟨Nat.one_pos,h3,h2⟩,fun h=>(by cases h),fun n1 t1=>?_⟩
 have hne:m≠n1:=t1.ne (by rw[hm];simp)
 have hse:setEls (List.replicate 1 z) ([(0,Arg.c d)].map fun p=>(p.1,if(false:Bool)=true then(p.2.get []).fz h else p.2.get []))=[d]:=rfl
 rw[hse]
 simp only[Bool.false_eq_true,if_false]
 have hx:((ah h n1 (.arr esz [d])) n1).row=some (esz,[d]):=by rw[ad];rfl
 refine⟨[d],hx,by simp,?_⟩
 simp only[List.drop_zero,List.take_succ_cons,List.take_zero]
 refine⟨fun y hy=>by simp at hy;subst hy;exact h2,?_⟩
 refine⟨els,by rw[aa _ _ hne];exact hm,rfl,rfl,⟨by simpa using hb,by simpa using hl⟩,fun n t=>?_⟩
 have hn:=t.free
 have hnm:n≠n1:=by rintro rfl;rw[ad]at hn;cases hn
 rw[aa _ _ hnm]at hn
 have:=hk n
 simp only[List.length_cons,List.length_nil,Nat.zero_add]
 refine this _ hn (ad _ _ _) fun k hk1 hk2=>?_
 have e1:k≠n:=by rintro rfl;exact hk1 hn
 have e2:k≠n1:=t1.ne hk1
 rw[aa _ _ e1,aa _ _ hk2,aa _ _ e2]
theorem OK {P:Program}{h:Heap}{KH:HK}{z':D}{n:Nat}{w:List Int}(hl:w.length<=1000000) (hn:h n=.arr 1 [])
  (hk:∀m h',h m=.free->h' m=.arr 1 (wr w)->(∀k,h k≠.free->k≠n->h' k=h k)->KH (.ms m 0 w.length) h'):ab P (.app (.c (.ms n 0 0)) (.c (words w)) 1 4 z') h KH:=by
 refine⟨fun d hd=>?_,fun y hy=>?_,[],hn,rfl,rfl,⟨?_,?_⟩,fun m t2=>?_⟩
 ·simp only[words,List.mem_map]at hd;obtain⟨z,-,rfl⟩:=hd;rfl
 ·simp only[words,List.mem_map]at hy;obtain⟨z,-,rfl⟩:=hy;simp
 ·simp;omega
 ·simp;omega
 ·have:=hk m (ah (ah h n .dead) m (.arr 1 (wr w))) t2.free (ad _ _ _) fun k hk hkn=>by
   rw[aa _ _ (t2.ne hk),aa _ _ hkn]
  simpa[wr,words] using this
theorem LY {P:Program}{h:Heap}{KH:HK}{z z':D}{fz:Bool}{w:List Int}(hl:w.length<=1000000)
  (hk:∀n h',h n=.free->h' n=.arr 1 (wr w)->(∀k,h k≠.free->h' k=h k)->KH (.ms n 0 w.length) h'):ab P (.bldS fz 1 0 z []) h fun x h1=>ab P (.app (.c x) (.c (words w)) 1 4 z') h1 KH:=by
 refine rP fun n t=>OK hl (ad _ _ _) fun m h' hm hm2 hk2=>?_
 have hmn:m≠n:=by rintro rfl;rw[ad]at hm;cases hm
 refine hk m h' (by rw[aa _ _ hmn]at hm;exact hm) hm2 fun k hkf=>?_
 have hkn:=t.ne hkf
 rw[hk2 k (by rw[aa _ _ hkn];exact hkf) hkn,aa _ _ hkn]
theorem H3 {h0 h2 h4:Heap}{ro0:Ro}{s q n2 n4:Nat}{m:Mm}{w:List Int}{els:List D}(y:om h0 ro0 s m q els) (f2:h0 n2=.free) (a2:h2 n2=.arr 1 (wr w)) (k2:∀k,h0 k≠.free->h2 k=h0 k)
  (f4:h2 n4=.free) (a4:h4 n4=.arr 1 (els++[.ms n2 0 w.length])) (k4:∀k,h2 k≠.free->k≠q->h4 k=h2 k) :
  om h4 (ah (ah ro0 n2 (.row s m.length)) n4 (.mem s)) s (m++[w]) n4 (els++[.ms n2 0 w.length]):=by
 have n24:n2≠n4:=by rintro rfl;rw[a2]at f4;cases f4
 have n2q:n2≠q:=by rintro rfl;rw[y.hk]at f2;cases f2
 have n4f:h0 n4=.free:=by
  cases e:h0 n4<;>first|rfl|(exfalso;have:=k2 n4 (by rw[e];simp);rw[f4,e]at this;cases this)
 refine⟨a4,ad _ _ _,by simp[y.len],fun i e v he hv=>?_⟩
 rcases Nat.lt_or_ge i els.length with hi|hi
 ·rw[List.getElem?_append_left hi]at he
  rw[List.getElem?_append_left (by rw[<- y.len];exact hi)]at hv
  rcases y.el i e v he hv with g|⟨p,g1,g2,g3⟩
  ·exact Or.inl g
  ·have pf:h0 p≠.free:=bZ g2
   have p2:p≠n2:=by rintro rfl;exact pf f2
   have p4:p≠n4:=by rintro rfl;exact pf n4f
   have pq:p≠q:=by rintro rfl;have:=y.rk;rw[g3]at this;cases this
   refine Or.inr ⟨p,g1,?_,by rw[aa _ _ p4,aa _ _ p2];exact g3⟩
   rw[k4 p (by rw[k2 p pf];exact pf) pq,k2 p pf];exact g2
 ·have hie:i=els.length:=by
   have:=(List.getElem?_eq_some_iff.1 he).1
   simp at this;omega
  subst hie
  rw[List.getElem?_append_right (Nat.le_refl _),Nat.sub_self]at he
  rw[y.len,List.getElem?_append_right (Nat.le_refl _),Nat.sub_self]at hv
  simp at he hv
  subst he hv
  exact Or.inr ⟨n2,rfl,by rw[k4 n2 (by rw[a2];simp) n2q];exact a2,by rw[aa _ _ n24,ad,y.len]⟩
theorem xr {h h0 h2 h4:Heap}{ro ro0:Ro}{q n2 n4:Nat}{r2 r4:mc}(x:fB h ro h0 ro0) (hq:h q=.free) (f2:h0 n2=.free) (k2:∀k,h0 k≠.free->h2 k=h0 k) (f4:h2 n4=.free) (k4:∀k,h2 k≠.free->k≠q->h4 k=h2 k) :
  fB h ro h4 (ah (ah ro0 n2 r2) n4 r4)/\h n4=.free:=by
 have n4f:h0 n4=.free:=by
  cases e:h0 n4<;>first|rfl|(exfalso;have:=k2 n4 (by rw[e];simp);rw[f4,e]at this;cases this)
 refine⟨fun k hk=>?_,x.free n4f⟩
 obtain⟨x1,x2⟩:=x k hk
 have kf:h0 k≠.free:=by rw[x1];exact hk
 have e2:k≠n2:=by rintro rfl;exact kf f2
 have e4:k≠n4:=by rintro rfl;exact kf n4f
 have eq:k≠q:=by rintro rfl;exact hk hq
 exact⟨by rw[k4 k (by rw[k2 k kf];exact kf) eq,k2 k kf,x1],by rw[aa _ _ e4,aa _ _ e2,x2]⟩
def Df (els:List D):Prop:=∀e∈els,∃q l,e=D.ms q 0 l
theorem Df.nil:Df []:=fun _ h=>by cases h
theorem Df.snoc {els:List D}(h:Df els) (q l:Nat):Df (els++[.ms q 0 l]):=fun e he=>by
 rcases List.mem_append.1 he with he|he
 ·exact h e he
 ·simp at he;exact⟨q,l,he⟩
def gu (h:Heap) (ro:Ro) (s:Nat) (d:D) (m:Mm):Prop:=∃k els,d=.ms k 0 m.length/\om h ro s m k els/\Df els
theorem gu.r {h:Heap}{ro:Ro}{s:Nat}{d:D}{m:Mm}(x:gu h ro s d m):me h ro s d m:=by
 obtain⟨k,els,h1,h2,-⟩:=x
 exact⟨k,els,h1,h2⟩
theorem gu.aA {h h':Heap}{ro ro':Ro}(k:cD h ro h' ro'){s:Nat}{d:D}{m:Mm}(x:gu h ro s d m):gu h' ro' s d m:=by
 obtain⟨q,els,h1,h2,h3⟩:=x
 exact⟨q,els,h1,h2.aA k,h3⟩
theorem gu.one {h:Heap}{ro:Ro}{s:Nat}{d:D}{m:Mm}(x:gu h ro s d m):d.one=true:=x.r.one
structure OO (m:Mm):Prop where
 len:m.length<=1000
 w:∀w∈m,w.length<=1000
theorem gg.b {c:Code}{s:Nat}{m:Mm}(hc:bh c) (h:gg c.arrays s m):OO m:=by
 refine⟨by have:=hc.nar;rw[h.len];omega,fun w hw=>?_⟩
 obtain⟨i,hi⟩:=List.getElem?_of_mem hw
 have hlt:=(List.getElem?_eq_some_iff.1 hi).1
 rw[h.len]at hlt
 have hg:=List.getElem?_eq_getElem hlt
 have:=(h.w i _ w hg hi).1
 have ho:=hc.ar _ (List.getElem_mem hlt)
 rw[this];unfold zG
 have:=ho.2.2
 split<;>omega
theorem my {P:Program}{m:Mm}{i:Nat}{w:List Int}(hw:m[i]?=some w){h:Heap}{KH:HK}:ab P (.iadd (.c (aP m)) (.c (.int .i64 (i:Int))) 1) h KH=KH (.vp (words w) 0) h:=by
 have hk:=(List.getElem?_eq_some_iff.1 hw).1
 rw[aP,iA,Int.toNat_natCast,List.getElem?_map,hw,List.length_map]
 apply propext
 constructor
 ·rintro⟨-,-,h⟩;exact(h _ rfl).2
 ·intro hk';exact⟨by omega,by omega,fun d hd=>by cases hd;exact⟨rfl,hk'⟩⟩
theorem jB {P:Program}{w:List Int}{h:Heap}{KH:HK}:ab P (.ld (.c (.vp (words w) 0)) 1 false) h KH=KH (words w) h:=by rw[iI,bj];rfl
theorem Ey {h:Heap}{ro:Ro}{m:Mm}(hm:OO m) (s:Nat){KH:HK}(hK:∀d h' ro',fB h ro h' ro'->gu h' ro' s d m->KH d h'):ag PP fJ [aP m] h KH:=by
 refine aU Dn (aC _ _ _) rfl (C4 _ _) ?_
 (unfold yn;try dsimp only[xL,yL,xF,yF,xI,yI,xS,zI,zJ])
 refine rP fun n0 t0=>?_
 refine⟨fun qs h'=>∃d ro',qs=[d]/\fB h ro h' ro'/\gu h' ro' s d m,?_,?_⟩
 ·rintro f h' ⟨d,ro',hf,x,y⟩
  simp only[List.cons.injEq,and_true]at hf
  rw[hf];exact hK d h' ro' x y
 (unfold pR;try dsimp only[xL,yL,xF,yF,xI,yI,xS,zI,zJ])
 refine⟨fun k qs h'=>∃(i q:Nat) (els:List D) (ro':Ro),qs=[.ms q 0 i,.int .i64 (i:Int)]/\k+i=m.length/\fB h ro h' ro'/\h q=.free/\om h' ro' s (m.take i) q els/\Df els,m.length,
  ⟨0,n0,[],ah ro n0 (.mem s),rfl,by omega,fB.new t0.free _ _,t0.free,⟨ad _ _ _,ad _ _ _,by simp,fun i e w he=>(by simp at he)⟩,Df.nil⟩,?_⟩
 rintro k f h' ⟨i,q,els,ro',hf,hki,x,hq,y,yo⟩
 simp only[List.cons.injEq,and_true]at hf
 obtain⟨hf1,hf2⟩:=hf
 rw[hf1,hf2,iX,bM]
 have hml:=hm.len
 by_cases hi:i<m.length
 case neg =>
  simp only[show ¬((i:Int)<(m.length:Int)) by omega,decide_false,↓ae,ai,true_and]
  rw[List.take_of_length_le (by omega)]at y
  have:i=m.length:=by omega
  subst this
  exact⟨_,ro',rfl,x,q,els,rfl,y,yo⟩
 have hw:m[i]?=some m[i]:=List.getElem?_eq_getElem hi
 simp only[show((i:Int)<(m.length:Int)) by omega,decide_true,↓af,↓my hw,↓jB]
 refine LY (by have:=hm.w _ (List.getElem_mem hi);omega) fun n2 h2 f2 a2 k2=>?_
 have hel:els.length=i:=by have:=y.len;rw[List.length_take]at this;omega
 have hq2:h2 q=.arr 1 els:=by rw[k2 q (bZ y.hk)];exact y.hk
 have app:=Gr (P:=PP) (esz:=1) (bytes:=24) (z:=.nil) (z':=.nil) (d:=.ms n2 0 (List.length m[i])) (KH:=fun a23 h24=>vbin .add (.int .i64 (i:Int)) (.int .i64 1) fun a25 =>
  aH [aP m] [aP m]/\∃m',m'<k/\∃(i q:Nat) (els:List D) (ro':Ro),[a23,a25]=[.ms q 0 i,.int .i64 (i:Int)]/\m'+i=m.length/\fB h ro h24 ro'/\h q=.free/\om h24 ro' s (m.take i) q els/\Df els)
  hq2 (by simp) rfl (by omega) (by omega) fun n4 h4 f4 a4 k4=>?_
 ·rw[hel]at app
  exact app
 ·obtain⟨e1,e2⟩:=xr (r2:=.row s (m.take i).length) (r4:=.mem s) x hq f2 k2 f4 k4
  have ym:=H3 y f2 a2 k2 f4 a4 k4
  rw[bm,Gc (i:=i) (by omega)]
  refine⟨by simp,k-1,by omega,i+1,n4,els++[.ms n2 0 (List.length m[i])],_,by rw[hel],by omega,e1,e2,?_,yo.snoc _ _⟩
  rw[List.take_add_one,hw]
  exact ym
theorem OZ {P:Program}{h:Heap}{n:Nat}{cs:List D}(a:h n=.box (.agg cs)) (hl:cs.length=7){KH:HK}:ab P (.ld (.c (.ptr n 0 0)) 7 true) h KH=KH (.agg cs) h:=by rw[<- hl];exact dt a
theorem AA {P:Program}{h:Heap}{n:Nat}{cs:List D}(a:h n=.box (.agg cs)) (hl:cs.length=11){KH:HK}:ab P (.ld (.c (.ptr n 0 0)) 11 true) h KH=KH (.agg cs) h:=by rw[<- hl];exact dt a
theorem m7 {P:Program}{h:Heap}{n s:Nat}{cs cs':List D}(a:h n=.box (.agg cs)) (hl:cs.length=s) (hl':cs'.length=s) (ho:∀x,x∈cs'->x.one=true){KH:HK} :
  ab P (.st (.c (.ptr n 0 0)) (.c (.agg cs')) s) h KH=KH .undef (ah h n (.box (.agg cs'))):=by
 have e:setCells (.agg cs) 0 (D.agg cs').cells=.agg cs':=by
  simp only[setCells,bX,List.take_zero,List.nil_append]
  rw[List.drop_of_length_le (by omega),List.append_nil]
 rw[du,a]
 apply propext
 constructor
 ·rintro⟨-,-,-,-,h⟩;rw[e]at h;exact h
 ·intro h;exact⟨hl',ho,rfl,by simp[hl],by rw[e];exact h⟩
theorem IP {P:Program}{h:Heap}{n j:Nat}{cs:List D}{d:D}(a:h n=.box (.agg cs)) (hj:j<cs.length) (ho:d.one=true){KH:HK} :
  ab P (.st (.c (.ptr n 0 j)) (.c d) 1) h KH=KH .undef (ah h n (.box (.agg (cs.set j d)))):=by
 have hc:=gM ho
 have e:setCells (.agg cs) j d.cells=.agg (cs.set j d):=by
  rw[hc]
  simp only[setCells,List.length_singleton]
  rw[List.set_eq_take_append_cons_drop,if_pos hj]
  simp
 rw[du,a]
 apply propext
 constructor
 ·rintro⟨-,-,-,-,h⟩;rw[e]at h;exact h
 ·intro h
  refine⟨by rw[hc];rfl,fun x hx=>?_,rfl,?_,by rw[e];exact h⟩
  ·rw[hc]at hx;simp at hx;subst hx;exact ho
  ·show j+1<=cs.length;omega
abbrev EK:List D:=[.int .i64 0,.int .i64 0,.int .i64 0,.int .i64 0,.nil,.nil,.nil]
def SU (h:Heap) (ro:Ro) (d:D):Prop:=∃k,d=.ms k 0 0/\h k=.arr 1 []/\ro k=.sl
theorem SU.aA {h h':Heap}{ro ro':Ro}(k:cD h ro h' ro'){d:D}(x:SU h ro d):SU h' ro' d:=by
 obtain⟨q,h1,h2,h3⟩:=x
 obtain⟨k1,k2⟩:=k q (bZ h2) (by rw[h3];rfl)
 exact⟨q,h1,by rw[k1];exact h2,by rw[k2];exact h3⟩
theorem Lf {h:Heap}{ro:Ro}{it:It}(hr:it.regs.length<=1000) (hp:OO it.priv){KH:HK}
  (hK:∀dR dP dL h' ro',fB h ro h' ro'->nv h' ro' dR it.regs->gu h' ro' 3 dP it.priv->SU h' ro' dL->KH (rM it dR dP dL) h'):ag PP gO [it.e] h KH:=by
 refine aU Di (aC _ _ _) rfl (CZ _ _) ?_
 (unfold yg;try dsimp only[xL,yL,xF,yF,xI,yI,xS,zI,zJ])
 rw[cJ]
 refine⟨it.cu.one,fun a ta=>?_⟩
 rw[bS]
 intro b tb
 have hab:a≠b:=tb.ne (by rw[ad];simp)
 have x1:fB h ro (ah (ah h a (.box it.e)) b (.box (.agg EK))) (ah (ah ro a .no) b .no):=(fB.new ta.free .no _).trans (fB.new tb.free .no _)
 have a1:ah (ah h a (.box it.e)) b (.box (.agg EK)) a=.box (.agg it.cs):=by rw[aa _ _ hab,ad];rfl
 have b1:ah (ah h a (.box it.e)) b (.box (.agg EK)) b=.box (.agg EK):=ad _ _ _
 have haf:h a=.free:=ta.free
 have hbf:h b=.free:=by have:=tb.free;rw[aa _ _ hab.symm]at this;exact this
 generalize ah (ah h a (.box it.e)) b (.box (.agg EK))=h1 at x1 a1 b1
 have ra:ah (ah ro a .no) b .no a=.no:=by rw[aa _ _ hab,ad]
 have rb:ah (ah ro a .no) b .no b=.no:=ad _ _ _
 generalize ah (ah ro a .no) b .no=ro1 at x1 ra rb
 have bnf:∀{g:Heap}{n:Nat}{s:Slot},g b=.box (.agg EK)->g n=.free->ah g n s b=.box (.agg EK):=fun {g n s} h1 h2=>by rw[aa _ _ (by rintro rfl;rw[h1]at h2;cases h2)];exact h1
 refine rP fun n2 t2=>?_
 have x2:fB h1 ro1 (ah h1 n2 (.arr 1 [])) (ah ro1 n2 .no):=fB.new t2.free .no _
 have a2:=x2.box a1
 have u2:(ah h1 n2 (.arr 1 []) a).used=true:=by rw[a2];rfl
 simp only[↓bf u2,Nat.zero_add,↓eV a2 (j:=4) rfl,true_and]
 refine OK (w:=it.regs) (by omega) (ad _ _ _) fun q3 h3 f3 g3 k3=>?_
 have x3:fB h1 ro1 h3 (ah ro1 q3 .regs):=fun k hk=>by
  have hk2:=t2.ne hk
  have hq:k≠q3:=by rintro rfl;rw[aa _ _ hk2]at f3;exact hk f3
  exact⟨by rw[k3 k (by rw[aa _ _ hk2];exact hk) hk2,aa _ _ hk2],aa _ _ hq⟩
 have R3:nv h3 (ah ro1 q3 .regs) (.ms q3 0 it.regs.length) it.regs:=⟨q3,rfl,g3,ad _ _ _⟩
 have a3:=x3.box a1
 have b3:=x3.box b1
 have ra3:ah ro1 q3 .regs a=.no:=by rw[(x3 a (by rw[a1];simp)).2];exact ra
 have rb3:ah ro1 q3 .regs b=.no:=by rw[(x3 b (by rw[b1];simp)).2];exact rb
 have X3:=x1.trans x3
 generalize ah ro1 q3 .regs=ro3 at x3 R3 X3 ra3 rb3
 have u3:(h3 a).used=true:=by rw[a3];rfl
 simp only[↓bf u3,Nat.zero_add,true_and]
 rw[IP a3 (by simp[It.cs]) rfl]
 have fr4:fB h ro (ah h3 a (.box (.agg (it.cs.set 4 (.ms q3 0 it.regs.length))))) ro3:=fun k hk=>by
  have:k≠a:=by rintro rfl;exact hk haf
  rw[aa _ _ this];exact X3 k hk
 have R4:=R3.aA (cD.aw (s:=.box (.agg (it.cs.set 4 (.ms q3 0 it.regs.length)))) (by rw[ra3];rfl))
 have a4:ah h3 a (.box (.agg (it.cs.set 4 (.ms q3 0 it.regs.length)))) a=.box (.agg [.int .i64 it.id,.int .i64 it.at_,.int .i64 it.block,.int .i64 it.epoch,.ms q3 0 it.regs.length,aP it.priv,.sl []]):=ad _ _ _
 have b4:ah h3 a (.box (.agg (it.cs.set 4 (.ms q3 0 it.regs.length)))) b=.box (.agg EK):=by rw[aa _ _ hab.symm];exact b3
 generalize ah h3 a (.box (.agg (it.cs.set 4 (.ms q3 0 it.regs.length))))=h4 at fr4 R4 a4 b4
 clear x1 a1 b1 ra rb x2 a2 u2 x3 a3 b3 X3 R3 u3 f3 g3 k3 t2
 have u4:(h4 a).used=true:=by rw[a4];rfl
 simp only[↓bf u4,Nat.zero_add,↓eV a4 (j:=5) rfl,true_and]
 refine Ey (ro:=ro3) hp 3 fun dP h5 ro5 x5 M5=>?_
 have a5:=x5.box a4
 have b5:=x5.box b4
 have ra5:ro5 a=.no:=by rw[(x5 a (by rw[a4];simp)).2];exact ra3
 have rb5:ro5 b=.no:=by rw[(x5 b (by rw[b4];simp)).2];exact rb3
 have fr5:=fr4.trans x5
 have R5:=R4.aA x5.aA
 have u5:(h5 a).used=true:=by rw[a5];rfl
 have oP:=M5.one
 simp only[↓bf u5,Nat.zero_add,true_and]
 rw[IP a5 (by simp) oP]
 have fr6:fB h ro (ah h5 a (.box (.agg ([.int .i64 it.id,.int .i64 it.at_,.int .i64 it.block,.int .i64 it.epoch,.ms q3 0 it.regs.length,aP it.priv,.sl []].set 5 dP)))) ro5:=fun k hk=>by
  have:k≠a:=by rintro rfl;exact hk haf
  rw[aa _ _ this];exact fr5 k hk
 have kt:cD h5 ro5 (ah h5 a (.box (.agg ([.int .i64 it.id,.int .i64 it.at_,.int .i64 it.block,.int .i64 it.epoch,.ms q3 0 it.regs.length,aP it.priv,.sl []].set 5 dP)))) ro5:=cD.aw (by rw[ra5];rfl)
 have R6:=R5.aA kt
 have M6:=M5.aA kt
 have a6:ah h5 a (.box (.agg ([.int .i64 it.id,.int .i64 it.at_,.int .i64 it.block,.int .i64 it.epoch,.ms q3 0 it.regs.length,aP it.priv,.sl []].set 5 dP))) a=.box (.agg [.int .i64 it.id,.int .i64 it.at_,.int .i64 it.block,.int .i64 it.epoch,.ms q3 0 it.regs.length,dP,.sl []]):=ad _ _ _
 have b6:ah h5 a (.box (.agg ([.int .i64 it.id,.int .i64 it.at_,.int .i64 it.block,.int .i64 it.epoch,.ms q3 0 it.regs.length,aP it.priv,.sl []].set 5 dP))) b=.box (.agg EK):=by rw[aa _ _ hab.symm];exact b5
 generalize ah h5 a (.box (.agg ([.int .i64 it.id,.int .i64 it.at_,.int .i64 it.block,.int .i64 it.epoch,.ms q3 0 it.regs.length,aP it.priv,.sl []].set 5 dP)))=h6 at fr6 R6 M6 a6 b6
 clear fr4 R4 a4 b4 u4 x5 M5 a5 b5 fr5 R5 u5 kt ra3 rb3
 refine rP fun n7 t7=>?_
 have f7:=t7.free
 have a7:ah h6 n7 (.arr 1 []) a=.box (.agg [.int .i64 it.id,.int .i64 it.at_,.int .i64 it.block,.int .i64 it.epoch,.ms q3 0 it.regs.length,dP,.sl []]):=by rw[aa _ _ (by rintro rfl;rw[a6]at f7;cases f7)];exact a6
 have u7:(ah h6 n7 (.arr 1 []) a).used=true:=by rw[a7];rfl
 simp only[↓bf u7,Nat.zero_add,↓eV a7 (j:=6) rfl,true_and]
 refine OK (w:=[]) (by simp) (ad _ _ _) fun q8 h8 f8 g8 k8=>?_
 have x8:fB h6 ro5 h8 (ah ro5 q8 .sl):=fun k hk=>by
  have hk2:=t7.ne hk
  have hq:k≠q8:=by rintro rfl;rw[aa _ _ hk2]at f8;exact hk f8
  exact⟨by rw[k8 k (by rw[aa _ _ hk2];exact hk) hk2,aa _ _ hk2],aa _ _ hq⟩
 have L8:SU h8 (ah ro5 q8 .sl) (.ms q8 0 0):=⟨q8,rfl,g8,ad _ _ _⟩
 have R8:=R6.aA x8.aA
 have M8:=M6.aA x8.aA
 have a8:=x8.box a6
 have b8:=x8.box b6
 have fr8:=fr6.trans x8
 have ra8:ah ro5 q8 .sl a=.no:=by rw[(x8 a (by rw[a6];simp)).2];exact ra5
 have rb8:ah ro5 q8 .sl b=.no:=by rw[(x8 b (by rw[b6];simp)).2];exact rb5
 generalize ah ro5 q8 .sl=ro8 at x8 L8 R8 M8 fr8 ra8 rb8
 clear fr6 R6 M6 a6 b6 a7 u7 x8 ra5 rb5 f8 g8 k8 t7 f7
 have u8:(h8 a).used=true:=by rw[a8];rfl
 simp only[↓bf u8,Nat.zero_add,List.length_nil,true_and]
 rw[IP a8 (by simp) rfl]
 have b9:ah h8 a (.box (.agg ([.int .i64 it.id,.int .i64 it.at_,.int .i64 it.block,.int .i64 it.epoch,.ms q3 0 it.regs.length,dP,.sl []].set 6 (.ms q8 0 0)))) b=.box (.agg EK):=by rw[aa _ _ hab.symm];exact b8
 have a9:ah h8 a (.box (.agg ([.int .i64 it.id,.int .i64 it.at_,.int .i64 it.block,.int .i64 it.epoch,.ms q3 0 it.regs.length,dP,.sl []].set 6 (.ms q8 0 0)))) a=.box (.agg [.int .i64 it.id,.int .i64 it.at_,.int .i64 it.block,.int .i64 it.epoch,.ms q3 0 it.regs.length,dP,.ms q8 0 0]):=ad _ _ _
 have kt9:cD h8 ro8 (ah h8 a (.box (.agg ([.int .i64 it.id,.int .i64 it.at_,.int .i64 it.block,.int .i64 it.epoch,.ms q3 0 it.regs.length,dP,.sl []].set 6 (.ms q8 0 0))))) ro8:=cD.aw (by rw[ra8];rfl)
 have fr9:fB h ro (ah h8 a (.box (.agg ([.int .i64 it.id,.int .i64 it.at_,.int .i64 it.block,.int .i64 it.epoch,.ms q3 0 it.regs.length,dP,.sl []].set 6 (.ms q8 0 0))))) ro8:=fun k hk=>by
  have:k≠a:=by rintro rfl;exact hk haf
  rw[aa _ _ this];exact fr8 k hk
 have R9:=R8.aA kt9
 have M9:=M8.aA kt9
 have L9:=L8.aA kt9
 generalize ah h8 a (.box (.agg ([.int .i64 it.id,.int .i64 it.at_,.int .i64 it.block,.int .i64 it.epoch,.ms q3 0 it.regs.length,dP,.sl []].set 6 (.ms q8 0 0))))=h9 at b9 a9 kt9 fr9 R9 M9 L9
 rw[OZ a9 rfl,m7 (s:=7) (cs':=[.int .i64 it.id,.int .i64 it.at_,.int .i64 it.block,.int .i64 it.epoch,.ms q3 0 it.regs.length,dP,.ms q8 0 0]) b9 rfl rfl (by simp[oP])]
 have kt10:cD h9 ro8 (ah h9 b (.box (.agg [.int .i64 it.id,.int .i64 it.at_,.int .i64 it.block,.int .i64 it.epoch,.ms q3 0 it.regs.length,dP,.ms q8 0 0]))) ro8:=cD.aw (by rw[rb8];rfl)
 rw[OZ (ad _ _ _) rfl]
 refine hK _ dP _ _ ro8 (fun k hk=>?_) (R9.aA kt10) (M9.aA kt10) (L9.aA kt10)
 have:k≠b:=by rintro rfl;exact hk hbf
 rw[aa _ _ this];exact fr9 k hk
theorem Ew {h:Heap}{ro:Ro}{it:It}(hr:it.regs.length<=1000) (hp:OO it.priv){KH:HK}
  (hK:∀dR dP dL h' ro',fB h ro h' ro'->nv h' ro' dR it.regs->gu h' ro' 3 dP it.priv->JO h' ro' dL->KH (rM it dR dP dL) h'):ag PP gO [it.e] h KH :=
 Lf hr hp fun dR dP dL h' ro' a b c d=>hK dR dP dL h' ro' a b c (Or.inr (Or.inr d))
structure kr (h:Heap) (ro:Ro) (dR dE dL:D) (dm:Nat->D) (st:St):Prop where
 regs:nv h ro dR st.regs
 mem:∀s,1<=s->s<=3->gu h ro s (dm s) (st.mem s)
 ev:Ma h ro dE st.ev
 sl:JO h ro dL
section
variable {h:Heap}{ro:Ro}{dR dE dL:D}{dm:Nat->D}{st:St}
theorem kr.r (x:kr h ro dR dE dL dm st):JM h ro dR dE dL dm st:=⟨x.regs,fun s h1 h2=>(x.mem s h1 h2).r,x.ev,x.sl⟩
theorem kr.aA {h':Heap}{ro':Ro}(k:cD h ro h' ro') (x:kr h ro dR dE dL dm st):kr h' ro' dR dE dL dm st :=
 ⟨x.regs.aA k,fun s h1 h2=>(x.mem s h1 h2).aA k,x.ev.aA k,x.sl.aA k⟩
theorem gu.de {E:mc->Prop}{h h':Heap}{ro ro':Ro}(k:kL E h ro h' ro'){s:Nat}(hr:E (.mem s)) (hr2:∀i,E (.row s i)){d:D}{m:Mm}(x:gu h ro s d m):gu h' ro' s d m:=by
 obtain⟨q,els,h1,h2,h3⟩:=x
 exact⟨q,els,h1,h2.de k hr hr2,h3⟩
theorem kr.ext {h':Heap}(e:Ext h h') (x:kr h ro dR dE dL dm st):kr h' ro dR dE dL dm st:=x.aA (cD.ext e)
theorem kr.store (x:kr h ro dR dE dL dm st){s k i:Nat}(hs:1<=s/\s<=3){w:List Int}(hk:(st.mem s)[k]?=some w) (hi:i<w.length){v:Int}{kk':IntKind}{KH:HK}
  (hK:∀h',Fr ro h ro h'->kr h' ro dR dE dL dm (st.put s k i v)->KH .undef h') :
  ab PP (.iadd (.c (dm s)) (.c (.int .i64 (k:Int))) 1) h fun a h1=>ab PP (.ld (.c a) 1 false) h1 fun b h2=>ab PP (.iadd (.c b) (.c (.int kk' (i:Int))) 1) h2 fun e h3=>ab PP (.st (.c e) (.c (.int .i32 v)) 1) h3 KH:=by
 obtain⟨kk,els,hd,y,yo⟩:=x.mem s hs.1 hs.2
 have hlt:=(List.getElem?_eq_some_iff.1 hk).1
 have hl:=y.len
 have he:els[k]?=some (els[k]'(by omega)):=List.getElem?_eq_getElem (by omega)
 obtain⟨q,hq,hq1,hq2⟩:∃q,els[k]'(by omega)=.ms q 0 w.length/\h q=.arr 1 (wr w)/\ro q=.row s k:=by
  rcases y.el k _ w he hk with g|g
  ·obtain⟨q,l,e⟩:=yo _ (List.getElem_mem (h:=(by omega:k<els.length)))
   rw[e]at g;cases g
  ·exact g
 rw[hq]at he
 rw[hd]
 simp only[↓bG,y.hk,Slot.row]
 refine⟨by omega,by omega,⟨_,rfl⟩,?_⟩
 rw[jH,y.hk]
 refine⟨by simp;omega,fun e he'=>?_⟩
 rw[show 0+((k:Int)).toNat=k by omega,he]at he';cases he'
 simp only[↓bj,E0,List.getElem?_cons_zero,↓bG,hq1,Slot.row]
 refine⟨by omega,by omega,⟨_,rfl⟩,?_⟩
 rw[du,hq1]
 refine⟨rfl,by simp,by simp[wr];omega,by simp,fun d hd'=>?_⟩
 have e:setCells d 0 (D.int .i32 v).cells=.int .i32 v:=by
  rw[zF,Option.map_eq_some_iff]at hd'
  obtain⟨z,-,rfl⟩:=hd'
  rfl
 rw[e,show 0+((i:Int)).toNat=i by omega,zE]
 have hp:st.put s k i v={ st with mem:=ah st.mem s ((st.mem s).set k (w.set i v)) }:=by
  simp only[St.put,iy,List.getD_eq_getElem?_getD,hk,Option.getD_some]
 have hne:∀k',ro k'≠.row s k->k'≠q:=by rintro k' hr rfl;exact hr hq2
 have X:=x.r.MO (w':=w.set i v) hs hd y.hk he hk hq1 hq2 (by simp)
 refine hK _ (Fr.aw (by rw[hq2];simp) (by simp)) ?_
 rw[hp]
 refine⟨X.regs,fun s' s1 s2=>?_,X.ev,X.sl⟩
 obtain⟨k0,els0,g1,g2,g3⟩:=x.mem s' s1 s2
 have hk0:k0≠q:=hne k0 (by rw[g2.rk];simp)
 obtain⟨k1,els1,f1,f2⟩:=X.mem s' s1 s2
 have hlen:(ah st.mem s ((st.mem s).set k (w.set i v)) s').length=(st.mem s').length:=by
  by_cases es:s'=s
  ·subst es;simp
  ·simp[aa _ _ es]
 have f1':=f1
 rw[g1]at f1'
 simp only[D.ms.injEq,true_and]at f1'
 obtain⟨rfl,-⟩:=f1'
 refine⟨k0,els1,f1,f2,?_⟩
 have:=f2.hk
 rw[aa _ _ hk0,g2.hk]at this
 cases this
 exact g3
theorem kr.J8 (x:kr h ro dR dE dL dm st){i:Nat}{v:Int}(hi:i<st.regs.length){KH:HK}
  (hK:∀h',Fr ro h ro h'->kr h' ro dR dE dL dm (st.pN i v)->KH .undef h'):ab PP (.iadd (.c dR) (.c (.int .i64 (i:Int))) 1) h fun a h1=>ab PP (.st (.c a) (.c (.int .i32 v)) 1) h1 KH:=by
 refine MU x.r hi fun q hq y=>hK _ (Fr.aw (by rw[hq];simp) (by simp)) ?_
 refine⟨y.regs,fun s s1 s2=>(x.mem s s1 s2).de (E:=fun r=>r≠.regs) (fun k _ hr=>?_) (by simp) (by simp),y.ev,y.sl⟩
 rw[aa _ _ (by rintro rfl;exact hr hq)];exact⟨rfl,rfl⟩
theorem Oh {evs:List Ev}{e:Ev}{z z':D}(x:Ma h ro dE evs) (hl:evs.length<=1000000){KH:HK}
  (hK:∀dE' h' ro',Fr ro h ro' h'->kL (fun r=>r≠.ev) h ro h' ro'->Ma h' ro' dE' (evs++[e])->KH dE' h') :
  ab PP (.bldS true 9 1 z [(0,.c e.e)]) h fun y h1=>ab PP (.app (.c dE) (.c y) 9 72 z') h1 KH:=by
 refine NU e.cu.vd e.cu.one rfl fun n5 t=>?_
 have hx:((ah h n5 (.arr 9 [e.e])) n5).row=some (9,[e.e]):=by rw[ad];rfl
 refine⟨[e.e],hx,by simp,?_⟩
 simp only[List.drop_zero,List.take_succ_cons,List.take_zero]
 refine⟨fun y hy=>by simp at hy;subst hy;exact e.cu.one,?_⟩
 have fin:∀(q:Nat) (h':Heap),h q=.free->h' q=.arr 9 ((evs++[e]).map Ev.e)->(∀k,h k≠.free->ro k≠.ev->h' k=h k)->(∀k,h k≠.free->h' k≠.free)->KH (.ms q 0 (evs.length+1)) h':=by
  intro q h' hq hq2 hk hf
  have neq:∀k,h k≠.free->k≠q:=by rintro k hk rfl;exact hk hq
  refine hK _ h' (ah ro q .ev) (fun k hk'=>⟨aa _ _ (neq k hk'),hf k hk',fun hr=>hk k hk' (by rw[hr];simp)⟩) (fun k hk' hr=>⟨hk k hk' hr,aa _ _ (neq k hk')⟩) (Or.inr ⟨q,by simp,hq2,ad _ _ _⟩)
 rcases x with⟨rfl,rfl⟩|⟨q0,rfl,g1,g2⟩
 ·refine⟨⟨by simp,by simp⟩,fun q t2=>?_⟩
  have hf:=t2.free
  have hq5:q≠n5:=by rintro rfl;rw[ad]at hf;cases hf
  refine fin q _ (by rw[aa _ _ hq5]at hf;exact hf) (by rw[ad];rfl) (fun k hk _=>?_) fun k hk=>?_
  all_goals
   have h5:=t.ne hk
   have h6:k≠q:=t2.ne (by rw[aa _ _ h5];exact hk)
   rw[aa _ _ h6,aa _ _ h5]
  exact hk
 ·have hq05:q0≠n5:=t.ne (bZ g1)
  refine⟨_,by rw[aa _ _ hq05];exact g1,rfl,by simp,⟨by simp;omega,by simp;omega⟩,fun q t2=>?_⟩
  have hf:=t2.free
  have hq5:q≠n5:=by rintro rfl;rw[ad]at hf;cases hf
  refine fin q _ (by rw[aa _ _ hq5]at hf;exact hf) (by rw[ad];simp) (fun k hk hr=>?_) fun k hk=>?_
  ·have h5:=t.ne hk
   have h6:k≠q:=t2.ne (by rw[aa _ _ h5];exact hk)
   have h0:k≠q0:=by rintro rfl;exact hr g2
   rw[aa _ _ h6,aa _ _ h0,aa _ _ h5]
  ·have h5:=t.ne hk
   have h6:k≠q:=t2.ne (by rw[aa _ _ h5];exact hk)
   rw[aa _ _ h6]
   by_cases e0:k=q0
   ·rw[e0,ad];simp
   ·rw[aa _ _ e0,aa _ _ h5];exact hk
abbrev ez (it:It) (dR dL dE:D) (dm:Nat->D) (e:Int):List D :=
 [.int .i64 it.id,.int .i64 it.at_,.int .i64 it.block,.int .i64 it.epoch,dR,dm 3,dL,dm 1,dm 2,dE,.int .i64 e]
theorem kr.dN (x:kr h ro dR dE dL dm st) (it:It) (e:Int):∀d,d∈ez it dR dL dE dm e->d.one=true:=by
 have o1:=(x.mem 1 (by omega) (by omega)).one
 have o2:=(x.mem 2 (by omega) (by omega)).one
 have o3:=(x.mem 3 (by omega) (by omega)).one
 have oR:=x.regs.one
 have oL:=x.sl.one
 have oE:=x.ev.one
 intro d hd
 simp at hd
 rcases hd with rfl|rfl|rfl|rfl|rfl|rfl|rfl|rfl|rfl|rfl|rfl<;>first|rfl|assumption
theorem Tu (x:kr h ro dR dE dL dm st){c:Code}{it:It}{e:Int}(hc:bh c) (hw:oC c st){k i:Nat}{r:bO}(hk:k<c.arrays.length) (hr:c.arrays[k]?=some r) (hi:(i:Int)<iC c k){KH:HK}
  (hK:∀h',Ext h h'->KH (.int .i32 (st.word (bg c k) k i)) h'):ag PP rl [.agg (ez it dR dL dE dm e),r.e,.int .i64 (k:Int),.int .i64 (i:Int)] h KH:=by
 refine aU Fx (aC _ _ _) rfl (Fc _ _ _ _ _) ?_
 (unfold BK;try dsimp only[xL,yL,xF,yF,xI,yI,xS,zI,zJ])
 rw[cJ]
 refine⟨x.dN it e,fun a ta=>?_⟩
 rw[cJ]
 refine⟨(bO.cu r).one,fun b tb=>?_⟩
 have hab:a≠b:=tb.ne (by rw[ad];simp)
 have ex:Ext h (ah (ah h a (.box (.agg (ez it dR dL dE dm e)))) b (.box r.e)):=(Ext.new ta _).trans (Ext.new tb _)
 have a1:ah (ah h a (.box (.agg (ez it dR dL dE dm e)))) b (.box r.e) a=.box (.agg (ez it dR dL dE dm e)):=by rw[aa _ _ hab,ad]
 have b1:ah (ah h a (.box (.agg (ez it dR dL dE dm e)))) b (.box r.e) b=.box (.agg [.str r.name,.int .i64 r.space,.int .i64 r.type,.int .i64 r.len]):=ad _ _ _
 generalize ah (ah h a (.box (.agg (ez it dR dL dE dm e)))) b (.box r.e)=h1 at ex a1 b1
 have y:=x.ext ex
 have ua:(h1 a).used=true:=by rw[a1];rfl
 have ub:(h1 b).used=true:=by rw[b1];rfl
 obtain⟨w,g1,g2,-⟩:=DA hc hw hk hi
 obtain⟨r',hr',ho⟩:=hc.at hk
 rw[hr]at hr';cases hr'
 have hs:=dn hr
 simp only[↓bf ua,↓bf ub,Nat.zero_add,↓eV b1 (j:=1) rfl,↓aN,true_and]
 rcases ho.1 with h1'|h1'|h1'
 ·have e1:bg c k=1:=by rw[hs,h1'];rfl
  rw[e1]at g1 g2 hK
  simp only[h1',decide_true,↓af,↓eV a1 (j:=7) rfl]
  exact G0 (y.mem 1 (by omega) (by omega)).r g1 g2 (hK h1 ex)
 ·have e1:bg c k=2:=by rw[hs,h1'];rfl
  rw[e1]at g1 g2 hK
  simp only[h1',Int.reduceEq,decide_false,decide_true,↓af,↓ae,↓eV a1 (j:=8) rfl]
  exact G0 (y.mem 2 (by omega) (by omega)).r g1 g2 (hK h1 ex)
 ·have e1:bg c k=3:=by rw[hs,h1'];rfl
  rw[e1]at g1 g2 hK
  simp only[h1',Int.reduceEq,decide_false,↓ae,↓eV a1 (j:=5) rfl]
  exact G0 (y.mem 3 (by omega) (by omega)).r g1 g2 (hK h1 ex)
theorem QP (x:kr h ro dR dE dL dm st){c:Code}{it:It}{e:Int}(hc:bh c) (hw:oC c st){k i:Nat}{r:bO}(hk:k<c.arrays.length) (hr:c.arrays[k]?=some r) (hi:(i:Int)<iC c k){v:Int}{KH:HK}
  (hK:∀h',Fr ro h ro h'->kr h' ro dR dE dL dm (st.put (bg c k) k i v)->KH (.tup []) h'):ag PP mm [.agg (ez it dR dL dE dm e),r.e,.int .i64 (k:Int),.int .i64 (i:Int),.int .i32 v] h KH:=by
 refine aU Fw (aC _ _ _) rfl (Fb _ _ _ _ _ _) ?_
 (unfold BJ;try dsimp only[xL,yL,xF,yF,xI,yI,xS,zI,zJ])
 rw[cJ]
 refine⟨x.dN it e,fun a ta=>?_⟩
 rw[cJ]
 refine⟨(bO.cu r).one,fun b tb=>?_⟩
 have hab:a≠b:=tb.ne (by rw[ad];simp)
 have ex:Ext h (ah (ah h a (.box (.agg (ez it dR dL dE dm e)))) b (.box r.e)):=(Ext.new ta _).trans (Ext.new tb _)
 have a1:ah (ah h a (.box (.agg (ez it dR dL dE dm e)))) b (.box r.e) a=.box (.agg (ez it dR dL dE dm e)):=by rw[aa _ _ hab,ad]
 have b1:ah (ah h a (.box (.agg (ez it dR dL dE dm e)))) b (.box r.e) b=.box (.agg [.str r.name,.int .i64 r.space,.int .i64 r.type,.int .i64 r.len]):=ad _ _ _
 generalize ah (ah h a (.box (.agg (ez it dR dL dE dm e)))) b (.box r.e)=h1 at ex a1 b1
 have y:=x.ext ex
 have ua:(h1 a).used=true:=by rw[a1];rfl
 have ub:(h1 b).used=true:=by rw[b1];rfl
 obtain⟨w,g1,g2,g3⟩:=DA hc hw hk hi
 obtain⟨r',hr',ho⟩:=hc.at hk
 rw[hr]at hr';cases hr'
 have hs:=dn hr
 simp only[↓bf ua,↓bf ub,Nat.zero_add,↓eV b1 (j:=1) rfl,↓aN,true_and]
 rcases ho.1 with h1'|h1'|h1'
 ·have e1:bg c k=1:=by rw[hs,h1'];rfl
  rw[e1]at g1 g2 hK
  simp only[h1',decide_true,↓af,↓eV a1 (j:=7) rfl]
  exact y.store (by omega) g1 g3 fun h' f z=>hK h' ((Fr.ext ex).trans f) z
 ·have e1:bg c k=2:=by rw[hs,h1'];rfl
  rw[e1]at g1 g2 hK
  simp only[h1',Int.reduceEq,decide_false,decide_true,↓af,↓ae,↓eV a1 (j:=8) rfl]
  exact y.store (by omega) g1 g3 fun h' f z=>hK h' ((Fr.ext ex).trans f) z
 ·have e1:bg c k=3:=by rw[hs,h1'];rfl
  rw[e1]at g1 g2 hK
  simp only[h1',Int.reduceEq,decide_false,↓ae,↓eV a1 (j:=5) rfl]
  exact y.store (by omega) g1 g3 fun h' f z=>hK h' ((Fr.ext ex).trans f) z
theorem zZ (x:kr h ro dR dE dL dm st){it:It}{o:et}(ho:wK st.regs.length o){KH:HK}(hK:∀h',Ext h h'->kr h' ro dR dE dL dm st->KH (.int .i32 (aV st.regs o)) h') :
  ag PP cj [rM it dR (dm 3) dL,o.e] h KH:=Pt (by simp[(x.mem 3 (by omega) (by omega)).one,x.sl.one]) x.regs.row ho fun h' e=>hK h' e (x.ext e)
theorem MV (x:kr h ro dR dE dL dm st){c:Code}{l:dA}{it:It}(hc:bh c) (hl:jw c l) (hid:0<=it.id/\it.id<l.groups*c.group) (hw:oC c st){xi:aQ}(hx:lZ c xi) (hop:xi.op<=6){KH:HK}
  (hK:∀h',Ext h h'->KH (.int .i32 (gA c l it.id xi st.regs)) h'):ag PP lD [c.e,l.e,rM it dR (dm 3) dL,xi.e] h KH:=by
 refine aU y8 (aC _ _ _) rfl (ya _ _ _ _ _) ?_
 (unfold si;try dsimp only[xL,yL,xF,yF,xI,yI,xS,zI,zJ])
 have oI:∀d,d∈(rM it dR (dm 3) dL).cells->d.one=true:=fun d hd=>by
  simp[rM]at hd
  have o3:=(x.mem 3 (by omega) (by omega)).one
  have oR:=x.regs.one
  have oL:=x.sl.one
  rcases hd with rfl|rfl|rfl|rfl|rfl|rfl|rfl<;>first|rfl|assumption
 rw[cJ]
 refine⟨(jK c).2,fun n1 t1=>?_⟩
 rw[cJ]
 refine⟨List.all_eq_true.1 (dA.on l),fun n2 t2=>?_⟩
 rw[cJ]
 refine⟨oI,fun n3 t3=>?_⟩
 rw[cJ]
 refine⟨xi.cu.one,fun n4 t4=>?_⟩
 have ne12:n1≠n2:=t2.ne (by rw[ad];simp)
 have ne13:n1≠n3:=t3.ne (by rw[aa _ _ ne12,ad];simp)
 have ne23:n2≠n3:=t3.ne (by rw[ad];simp)
 have ne14:n1≠n4:=t4.ne (by rw[aa _ _ ne13,aa _ _ ne12,ad];simp)
 have ne24:n2≠n4:=t4.ne (by rw[aa _ _ ne23,ad];simp)
 have ne34:n3≠n4:=t4.ne (by rw[ad];simp)
 obtain⟨h1,hh1⟩:∃h1,h1=ah (ah (ah (ah h n1 (.box c.e)) n2 (.box l.e)) n3 (.box (rM it dR (dm 3) dL))) n4 (.box xi.e):=⟨_,rfl⟩
 rw[<- hh1]
 have ex:Ext h h1:=by rw[hh1];exact((Ext.new t1 _).trans (Ext.new t2 _)).trans ((Ext.new t3 _).trans (Ext.new t4 _))
 have b1:h1 n1=.box c.e:=by rw[hh1,aa _ _ ne14,aa _ _ ne13,aa _ _ ne12,ad]
 have b2:h1 n2=.box (.agg [.int .i64 l.groups,words l.args]):=by rw[hh1,aa _ _ ne24,aa _ _ ne23,ad];rfl
 have b3:h1 n3=.box (.agg [.int .i64 it.id,.int .i64 it.at_,.int .i64 it.block,.int .i64 it.epoch,dR,dm 3,dL]):=by rw[hh1,aa _ _ ne34,ad];rfl
 have b4:h1 n4=.box (.agg xi.cs):=by rw[hh1,ad];rfl
 have y:=x.ext ex
 clear hh1 t1 t2 t3 t4
 obtain⟨oa,ob,oc⟩:=hx.ops
 have va:=fun {o:et}(ho:jb c.regs o)=>ic hw.regs ho
 have i7:∀{g:Heap}{K:D->Prop},g n3=.box (.agg [.int .i64 it.id,.int .i64 it.at_,.int .i64 it.block,.int .i64 it.epoch,dR,dm 3,dL])->aq PP (.ld (.c (.ptr n3 0 0)) 7 true) g K=K (rM it dR (dm 3) dL):=fun {g K} hg=>by rw[bL];exact dt hg
 have i7':∀{g:Heap}{K:HK},g n3=.box (.agg [.int .i64 it.id,.int .i64 it.at_,.int .i64 it.block,.int .i64 it.epoch,dR,dm 3,dL])->ab PP (.ld (.c (.ptr n3 0 0)) 7 true) g K=K (rM it dR (dm 3) dL) g:=fun {g K} hg=>dt hg
 have i3:∀{g:Heap}{K:D->Prop}{j:Nat},g n4=.box (.agg xi.cs)->j+3<=15->aq PP (.ld (.c (.ptr n4 0 j)) 3 true) g K=K (.agg ((xi.cs.drop j).take 3)):=fun {g K j} hm hj=>by rw[bL,rL hm (by simp[aQ.cs];omega)]
 have i3':∀{g:Heap}{K:HK}{j:Nat},g n4=.box (.agg xi.cs)->j+3<=15->ab PP (.ld (.c (.ptr n4 0 j)) 3 true) g K=K (.agg ((xi.cs.drop j).take 3)) g:=fun {g K j} hm hj=>by rw[rL hm (by simp[aQ.cs];omega)]
 have u4:(h1 n4).used=true:=by rw[b4];rfl
 simp only[↓aE,u4,Nat.zero_add,i7 b3,↓i3 b4 (j:=6) (by omega),↓i3 b4 (j:=9) (by omega),true_and]
 refine zZ y (o:=xi.a) (by rw[hw.len];exact oa) fun h2 e2 y2=>?_
 have c3:h2 n3=.box (.agg [.int .i64 it.id,.int .i64 it.at_,.int .i64 it.block,.int .i64 it.epoch,dR,dm 3,dL]):=by rw[e2 n3 (by rw[b3];simp)];exact b3
 have c4:h2 n4=.box (.agg xi.cs):=by rw[e2 n4 (by rw[b4];simp)];exact b4
 have u42:(h2 n4).used=true:=by rw[c4];rfl
 simp only[↓aE,u42,Nat.zero_add,i7 c3,↓i3 c4 (j:=9) (by omega),ai,true_and,and_true]
 refine zZ y2 (o:=xi.b) (by rw[hw.len];exact ob) fun h3 e3 y3=>?_
 have ex3:=(ex.trans e2).trans e3
 have d1:h3 n1=.box c.e:=by rw[e3 n1 (by rw[e2 n1 (by rw[b1];simp),b1];simp),e2 n1 (by rw[b1];simp)];exact b1
 have d2:h3 n2=.box (.agg [.int .i64 l.groups,words l.args]):=by rw[e3 n2 (by rw[e2 n2 (by rw[b2];simp),b2];simp),e2 n2 (by rw[b2];simp)];exact b2
 have d3:h3 n3=.box (.agg [.int .i64 it.id,.int .i64 it.at_,.int .i64 it.block,.int .i64 it.epoch,dR,dm 3,dL]):=by rw[e3 n3 (by rw[c3];simp)];exact c3
 have d4:h3 n4=.box (.agg xi.cs):=by rw[e3 n4 (by rw[c4];simp)];exact c4
 have v4:(h3 n4).used=true:=by rw[d4];rfl
 have v3:(h3 n3).used=true:=by rw[d3];rfl
 have v2:(h3 n2).used=true:=by rw[d2];rfl
 clear b1 b2 b3 b4 c3 c4 u4 u42 y y2 e2 e3 ex
 have fl:∀{v e:Int}{g:Heap}{K:HK},ab PP (.fld (.c (nO v e)) 0 1 false) g K=K (.int .i32 v) g:=fun {v e g K}=>rfl
 simp only[↓bf v4,Nat.zero_add,↓eV d4 (j:=0) rfl,↓eV d4 (j:=1) rfl,↓aN,true_and]
 obtain⟨hx,-,hxp⟩:=hx
 cases hx with
 | mov d a h1' h2 =>
  simp only[Int.reduceEq,decide_false,↓ae]
  have:=hK h3 ex3
  simpa[gA] using this
 | un s d a h0 h1' h2 =>
  simp only[decide_true,↓af]
  refine bF (RL h0 (va h2)) (dN rfl) ?_
  rintro _ rfl
  rw[fl]
  have:=hK h3 ex3
  simpa[gA] using this
 | bin s d a b h0 h1' h2 h3' =>
  simp only[Int.reduceEq,decide_false,↓ae,decide_true,↓af]
  refine bF (Kd h0 (va h2) (va h3')) (dN rfl) ?_
  rintro _ rfl
  rw[fl]
  have:=hK h3 ex3
  simpa[gA] using this
 | sel d a b cc h1' h2 h3' h4 =>
  simp only[Int.reduceEq,decide_false,↓ae,decide_true,↓af,↓ck]
  by_cases hz:aV st.regs a=0
  ·simp only[hz,decide_true,Bool.not_true,↓ae,i7' d3,↓bf v4,Nat.zero_add,↓i3' d4 (j:=12) (by omega),true_and]
   refine zZ y3 (o:=cc) (by rw[hw.len];exact h4.r) fun h' e _=>?_
   have:=hK h' (ex3.trans e)
   simpa[gA,hz] using this
  ·simp only[hz,decide_false,Bool.not_false,↓af]
   have:=hK h3 ex3
   simpa[gA,hz] using this
 | id s d h0 h1' =>
  simp only[Int.reduceEq,decide_false,↓ae,decide_true,↓af]
  have e8:∀{K:HK},ab PP (.ld (.c (.ptr n1 0 0)) 8 true) h3 K=K c.e h3:=fun {K}=>dt d1
  have e2:∀{K:HK},ab PP (.ld (.c (.ptr n2 0 0)) 2 true) h3 K=K l.e h3:=fun {K}=>dt d2
  simp only[e8,e2,↓bf v3,↓bf v4,Nat.zero_add,↓eV d3 (j:=0) rfl,↓eV d4 (j:=1) rfl,true_and]
  refine bF (RM (hc.l1 hl hid) h0) ?_ ?_
  ·intro z hz
   simp at hz
   rcases hz with rfl|rfl|rfl|rfl
   ·exact jK c
   ·exact⟨rfl,List.all_eq_true.1 (dA.on l)⟩
   ·exact kh
   ·exact kh
  ·rintro _ rfl
   rw[fl]
   have:=hK h3 ex3
   simpa[gA] using this
 | param k d h0 h1' =>
  simp only[Int.reduceEq,decide_false,↓ae,decide_true,↓af]
  simp only[↓bf v2,↓bf v4,Nat.zero_add,↓eV d2 (j:=1) rfl,↓eV d4 (j:=2) rfl,true_and]
  have hla:=hl.a
  have hxp:=hxp rfl
  simp only at hxp
  obtain⟨i,rfl⟩:∃i:Nat,k=(i:Int):=⟨k.toNat,by omega⟩
  have hi:l.args[i]?=some (l.args.getD i 0):=by rw[List.getD_eq_getElem?_getD,List.getElem?_eq_getElem (by omega)];rfl
  have:=I3 (P:=PP) (h:=h3) (Or.inl rfl) hi (KH:=fun a86 h87=>KH a86 h87) (by have:=hK h3 ex3;simpa[gA] using this)
  exact this
 | load _ _ _ _ _ _=>simp at hop
 | store _ _ _ _ _ _=>simp at hop
 | atom _ _ _ _ _ _ _ _=>simp at hop
 | fence _ _=>simp at hop
end
end Go.Am
namespace Go.Am
open Go
structure bN (h0:Heap) (ro0:Ro) (h:Heap) (ro:Ro) (L:List (Nat×D)):Prop where
 nd:(L.map Prod.fst).Nodup
 at_:∀p∈L,h p.1=.box p.2/\ro p.1=.no/\h0 p.1=.free
 fr:Fr ro0 h0 ro h
theorem bN.nil {h:Heap}{ro:Ro}:bN h ro h ro []:=⟨.nil,fun _ h=>(by cases h),Fr.refl⟩
section
variable {h0 h:Heap}{ro0 ro:Ro}{L:List (Nat×D)}
theorem bN.push (B:bN h0 ro0 h ro L){n:Nat}(hn:h n=.free) (d:D):bN h0 ro0 (ah h n (.box d)) (ah ro n .no) ((n,d)::L):=by
 have ne:∀p∈L,p.1≠n:=fun p hp e=>by have:=(B.at_ p hp).1;rw[e,hn]at this;cases this
 have f0:h0 n=.free:=by
  cases e:h0 n<;>first|rfl|(exfalso;have:=(B.fr n (by rw[e];simp)).2.1;exact this hn)
 refine⟨?_,fun p hp=>?_,B.fr.trans (Fr.new hn _)⟩
 ·simp only[List.map_cons,List.nodup_cons]
  refine⟨fun hm=>?_,B.nd⟩
  obtain⟨p,hp,e⟩:=List.mem_map.1 hm
  exact ne p hp e
 ·rcases List.mem_cons.1 hp with rfl|hp
  ·exact⟨ad _ _ _,ad _ _ _,f0⟩
  ·obtain⟨a,b,c⟩:=B.at_ p hp
   exact⟨by rw[aa _ _ (ne p hp)];exact a,by rw[aa _ _ (ne p hp)];exact b,c⟩
theorem bN.step (B:bN h0 ro0 h ro L){h':Heap}{ro':Ro}(F:Fr ro h ro' h'):bN h0 ro0 h' ro' L :=
 ⟨B.nd,fun p hp=>by
  obtain⟨a,b,c⟩:=B.at_ p hp
  obtain⟨f1,-,f3⟩:=F p.1 (by rw[a];simp)
  exact⟨by rw[f3 b];exact a,by rw[f1];exact b,c⟩,B.fr.trans F⟩
theorem bN.get (B:bN h0 ro0 h ro L) (i:Nat){n:Nat}{d:D}(hi:L[i]?=some (n,d)):h n=.box d:=(B.at_ _ (List.mem_of_getElem? hi)).1
theorem bN.rn (B:bN h0 ro0 h ro L) (i:Nat){n:Nat}{d:D}(hi:L[i]?=some (n,d)):ro n=.no:=(B.at_ _ (List.mem_of_getElem? hi)).2.1
theorem bN.used (B:bN h0 ro0 h ro L) (i:Nat){n:Nat}{d:D}(hi:L[i]?=some (n,d)):(h n).used=true:=by rw[B.get i hi];rfl
theorem bN.aw (B:bN h0 ro0 h ro L) (i:Nat){n:Nat}{d:D}(hi:L[i]?=some (n,d)) (d':D):bN h0 ro0 (ah h n (.box d')) ro (L.set i (n,d')):=by
 have hlt:=(List.getElem?_eq_some_iff.1 hi).1
 have hm:(L.set i (n,d')).map Prod.fst=L.map Prod.fst:=by
  rw[List.map_set]
  refine List.ext_getElem? fun j=>?_
  rw[List.getElem?_set]
  split
  ·rename_i e
   subst e
   rw[List.getElem?_map,hi,if_pos (by simpa using hlt)];rfl
  ·rfl
 refine⟨by rw[hm];exact B.nd,fun p hp=>?_,B.fr.IZ (B.at_ _ (List.mem_of_getElem? hi)).2.2⟩
 obtain⟨j,hj⟩:=List.getElem?_of_mem hp
 by_cases e:j=i
 ·subst e
  rw[List.getElem?_set_self hlt]at hj
  cases hj
  exact⟨ad _ _ _,B.rn _ hi,(B.at_ _ (List.mem_of_getElem? hi)).2.2⟩
 ·rw[List.getElem?_set_ne (Ne.symm e)]at hj
  have hpl:=List.mem_of_getElem? hj
  obtain⟨a,b,c⟩:=B.at_ p hpl
  have:p.1≠n:=by
   intro hpn
   have g1:(L.map Prod.fst)[j]?=some n:=by rw[List.getElem?_map,hj];simp[hpn]
   have g2:(L.map Prod.fst)[i]?=some n:=by rw[List.getElem?_map,hi];rfl
   have hjl:j<(L.map Prod.fst).length:=(List.getElem?_eq_some_iff.1 g1).1
   exact e ((List.getElem?_inj hjl B.nd).1 (g1.trans g2.symm))
  exact⟨by rw[aa _ _ this];exact a,b,c⟩
end
theorem kr.new {h:Heap}{ro:Ro}{dR dE dL:D}{dm:Nat->D}{st:St}(x:kr h ro dR dE dL dm st){n:Nat}(hn:h n=.free) (s:Slot):kr (ah h n s) (ah ro n .no) dR dE dL dm st:=x.aA (cD.new hn _)
theorem kr.aw {h:Heap}{ro:Ro}{dR dE dL:D}{dm:Nat->D}{st:St}(x:kr h ro dR dE dL dm st){n:Nat}(hn:ro n=.no) (s:Slot):kr (ah h n s) ro dR dE dL dm st:=x.aA (cD.aw (by rw[hn];rfl))
abbrev tJ:List D:=[.int .i64 0,.int .i64 0,.int .i64 0,.int .i64 0,.nil,.nil,.nil,.nil,.nil,.nil,.int .i64 0]
abbrev Uh:List D:=[.str ⟨#[]⟩,.int .i64 0,.int .i64 0,.int .i64 0]
theorem Pk {it:It}{dR dL dE:D}{dm:Nat->D}{e e':Int}:(ez it dR dL dE dm e).set 10 (.int .i64 e')=ez it dR dL dE dm e':=rfl
theorem bN.ev {h0 h:Heap}{ro0 ro:Ro}{L:List (Nat×D)}(B:bN h0 ro0 h ro L) (i:Nat){n:Nat}{e e':Ev}(hi:L[i]?=some (n,e.e)){j:Nat}{d:D}(hd:d.one=true) (hs:setCells e.e j d.cells=e'.e) (hj:j+1<=9){KH:HK}
  (hK:bN h0 ro0 (ah h n (.box e'.e)) ro (L.set i (n,e'.e))->KH .undef (ah h n (.box e'.e))):ab PP (.st (.c (.ptr n 0 j)) (.c d) 1) h KH :=
 U4 (B.get i hi) hd hs hj (gM hd) (hK (B.aw i hi e'.e))
section
variable {h:Heap}{ro:Ro}{dR dE dL:D}{dm:Nat->D}{st:St}
theorem MX (x:kr h ro dR dE dL dm st){c:Code}{l:dA}{it:It}(hc:bh c) (hw:oC c st) (hev:st.ev.length<=900000){xi:aQ}(hx:lZ c xi) (hop:xi.op=7\/xi.op=8\/xi.op=9){e:Ev}{KH:HK}
  (hK:∀st' h' ro' dE',cO c l it.id xi e st=some st'->Fr ro h ro' h'->kr h' ro' dR dE' dL dm st'->KH (.agg (ez it dR dL dE' dm 0)) h')
  (hN:∀h' ro',cO c l it.id xi e st=none->Fr ro h ro' h'->kr h' ro' dR dE dL dm st->KH (.agg (ez it dR dL dE dm 70)) h') :
  ag PP lE [c.e,.agg (ez it dR dL dE dm 0),xi.e,e.e] h KH:=by
 refine aU y9 (aC _ _ _) rfl (yb _ _ _ _ _) ?_
 (unfold sj;try dsimp only[xL,yL,xF,yF,xI,yI,xS,zI,zJ])
 have B0:bN h ro h ro []:=bN.nil
 obtain⟨k,k1,k2,k3,k4⟩:=hx.acc hop
 obtain⟨r,hr,hro⟩:=hc.at k2
 have ha:=ic hw.regs k3
 have wa:IntKind.i64.wrap (aV st.regs xi.a)=aV st.regs xi.a:=vF ha
 have hlen:=lx hr
 rw[cJ]
 refine⟨(jK c).2,fun n5 t=>?_⟩
 have x1:=x.new t.free (.box c.e)
 have B1:=B0.push t.free c.e
 generalize ah h n5 (.box c.e)=h1 at x1 B1
 generalize ah ro n5 .no=ro1 at x1 B1
 rw[cJ]
 refine⟨x1.dN it 0,fun n7 t=>?_⟩
 have x2:=x1.new t.free (.box (.agg (ez it dR dL dE dm 0)))
 have B2:=B1.push t.free (.agg (ez it dR dL dE dm 0))
 generalize ah h1 n7 (.box (.agg (ez it dR dL dE dm 0)))=h2 at x2 B2
 generalize ah ro1 n7 .no=ro2 at x2 B2
 rw[cJ]
 refine⟨xi.cu.one,fun n9 t=>?_⟩
 have x3:=x2.new t.free (.box xi.e)
 have B3:=B2.push t.free xi.e
 generalize ah h2 n9 (.box xi.e)=h3 at x3 B3
 generalize ah ro2 n9 .no=ro3 at x3 B3
 rw[cJ]
 refine⟨e.cu.one,fun n11 t=>?_⟩
 have x4:=x3.new t.free (.box e.e)
 have B4:=B3.push t.free e.e
 generalize ah h3 n11 (.box e.e)=h4 at x4 B4
 generalize ah ro3 n11 .no=ro4 at x4 B4
 rw[bS]
 intro n13 t
 have x5:=x4.new t.free (.box (.agg tJ))
 have B5:=B4.push t.free (.agg tJ)
 generalize ah h4 n13 (.box (.agg tJ))=h5 at x5 B5
 generalize ah ro4 n13 .no=ro5 at x5 B5
 have arrs:∀{g:Heap}{K:HK},g n5=.box c.e->ab PP (.ld (.c (.ptr n5 0 5)) 1 false) g K=K (.sl (c.arrays.map bO.e)) g:=fun {g K} hg=>eV (cs:=[.int .i64 c.group,.int .i64 c.sub,.int .i64 c.regs,.int .i64 c.slots,.int .i64 c.params,.sl (c.arrays.map bO.e),.sl (c.loops.map Loop.e),.sl (c.b.map Block.e)]) hg rfl
 have ld4:∀{g:Heap}{K:HK},ab PP (.ld (.c (.vp r.e 0)) 4 true) g K=K r.e g:=fun {g K}=>by
  rw[iI,cF]
  have e1:(r.e.cells.drop 0).take 4=[.str r.name,.int .i64 r.space,.int .i64 r.type,.int .i64 r.len]:=rfl
  have e2:r.e.cells.length=4:=rfl
  rw[e1,e2];simp[bO.e]
 simp only[↓bf (B5.used 4 rfl),Nat.zero_add,arrs (B5.get 4 rfl),↓bf (B5.used 2 rfl),↓eV (cs:=xi.cs) (B5.get 2 rfl) (j:=2) rfl,true_and]
 rw[k1]
 simp only[↓AJ hr,ld4]
 rw[bS]
 intro n27 t
 have x6:=x5.new t.free (.box (.agg Uh))
 have B6:=B5.push t.free (.agg Uh)
 generalize ah h5 n27 (.box (.agg Uh))=h6 at x6 B6
 generalize ah ro5 n27 .no=ro6 at x6 B6
 clear x1 x2 x3 x4 x5 B0 B1 B2 B3 B4 B5
 have re:r.e=.agg [.str r.name,.int .i64 r.space,.int .i64 r.type,.int .i64 r.len]:=rfl
 rw[re,m7 (s:=4) (cs':=[.str r.name,.int .i64 r.space,.int .i64 r.type,.int .i64 r.len]) (B6.get 0 rfl) rfl rfl (by simp), <- re]
 have x7:=x6.aw (B6.rn 0 rfl) (.box r.e)
 have B7:=B6.aw 0 rfl r.e
 generalize ah h6 n27 (.box r.e)=h7 at x7 B7
 clear x6 B6
 simp only[List.set_cons_zero]at B7
 have s7:∀{g:Heap}{dE':D}{K:HK},g n7=.box (.agg (ez it dR dL dE' dm 0))->ab PP (.ld (.c (.ptr n7 0 0)) 7 true) g K=K (rM it dR (dm 3) dL) g:=fun {g dE' K} hg=>by rw[rL hg (by simp)];rfl
 have s7d:∀{g:Heap}{K:D->Prop},g n7=.box (.agg (ez it dR dL dE dm 0))->aq PP (.ld (.c (.ptr n7 0 0)) 7 true) g K=K (rM it dR (dm 3) dL):=fun {g K} hg=>by rw[bL,s7 hg]
 have i3:∀{g:Heap}{K:HK}{j:Nat},g n9=.box xi.e->j+3<=15->ab PP (.ld (.c (.ptr n9 0 j)) 3 true) g K=K (.agg ((xi.cs.drop j).take 3)) g:=fun {g K j} hm hj=>by rw[rL (cs:=xi.cs) hm (by simp[aQ.cs];omega)]
 have i3d:∀{g:Heap}{K:D->Prop}{j:Nat},g n9=.box xi.e->j+3<=15->aq PP (.ld (.c (.ptr n9 0 j)) 3 true) g K=K (.agg ((xi.cs.drop j).take 3)):=fun {g K j} hm hj=>by rw[bL,i3 hm hj]
 simp only[↓bf (B7.used 4 rfl),↓bf (B7.used 3 rfl),Nat.zero_add,s7 (B7.get 4 rfl),↓i3 (B7.get 3 rfl) (j:=6) (by omega),true_and]
 obtain⟨oa,ob,oc⟩:=hx.ops
 refine zZ x7 (o:=xi.a) (by rw[hw.len];exact oa) fun h8 e8 x8=>?_
 have B8:=B7.step (Fr.ext (ro:=ro6) e8)
 clear x7 B7 e8
 simp only[↓bY,wa,↓bM]
 have l3:∀{g:Heap}{K:HK},g n27=.box r.e->ab PP (.ld (.c (.ptr n27 0 3)) 1 false) g K=K (.int .i64 r.len) g:=fun {g K} hg=>eV (cs:=[.str r.name,.int .i64 r.space,.int .i64 r.type,.int .i64 r.len]) hg rfl
 have out:cO c l it.id xi e st=none->ab PP (.fadd (.c (.ptr n7 0 0)) 10) h8 fun a63 h64=>ab PP (.st (.c a63) (.c (.int .i64 70)) 1) h64 fun a65 h66=>ab PP (.ld (.c (.ptr n7 0 0)) 11 true) h66 fun a67 h68 =>
   ab PP (.st (.c (.ptr n13 0 0)) (.c a67) 11) h68 fun a69 h70=>ab PP (.ld (.c (.ptr n13 0 0)) 11 true) h70 fun a71 _=>KH a71 h70:=by
  intro hnone
  simp only[↓bf (B8.used 4 rfl),Nat.zero_add,true_and]
  rw[IP (cs:=ez it dR dL dE dm 0) (B8.get 4 rfl) (by simp) rfl,Pk]
  have x9:=x8.aw (B8.rn 4 rfl) (.box (.agg (ez it dR dL dE dm 70)))
  have B9:=B8.aw 4 rfl (.agg (ez it dR dL dE dm 70))
  generalize ah h8 n7 (.box (.agg (ez it dR dL dE dm 70)))=h9 at x9 B9
  rw[AA (cs:=ez it dR dL dE dm 70) (B9.get 4 rfl) rfl,m7 (s:=11) (cs:=tJ) (cs':=ez it dR dL dE dm 70) (B9.get 1 rfl) rfl rfl (x8.dN it 70),AA (cs:=ez it dR dL dE dm 70) (ad _ _ _) rfl]
  have B10:=B9.aw 1 rfl (.agg (ez it dR dL dE dm 70))
  exact hN _ ro6 hnone B10.fr (x9.aw (B9.rn 1 rfl) _)
 have iN:¬(0<=aV st.regs xi.a/\aV st.regs xi.a<iC c k)->cO c l it.id xi e st=none:=by
  intro hout
  unfold cO
  rcases hop with h7|h8|h9
  ·rw[if_pos h7,k1];exact if_neg hout
  ·rw[if_neg (by omega),if_pos h8,k1];exact if_neg hout
  ·rw[if_neg (by omega),if_neg (by omega),if_pos h9,k1];exact if_neg hout
 by_cases h0:aV st.regs xi.a<0
 ·simp only[h0,decide_true,↓gS,↓eD]
  exact out (iN (by omega))
 simp only[h0,decide_false,↓F0,↓bf (B8.used 0 rfl),Nat.zero_add,l3 (B8.get 0 rfl),↓iG,true_and,↓fF]
 by_cases h1':r.len<=aV st.regs xi.a
 ·simp only[h1',decide_true,↓af]
  exact out (iN (by omega))
 simp only[h1',decide_false,↓ae]
 clear out iN
 have hin:0<=aV st.regs xi.a/\aV st.regs xi.a<iC c k:=⟨by omega,by omega⟩
 obtain⟨i,hi⟩:∃i:Nat,aV st.regs xi.a=(i:Int):=⟨(aV st.regs xi.a).toNat,by omega⟩
 have iS:cO c l it.id xi e st=if xi.op=7 then some ((st.tell c (Oi e xi (aV st.regs xi.a) (st.word (bg c k) k i))).pN xi.d.n.toNat (st.word (bg c k) k i))
   else if xi.op=8 then some ((st.put (bg c k) k i (aV st.regs xi.b)).tell c (AG e xi (aV st.regs xi.a) (aV st.regs xi.b)))
   else some ((st.put (bg c k) k i (lb xi.sub (st.word (bg c k) k i) (aV st.regs xi.b))).tell c (LK e xi (aV st.regs xi.a) (aV st.regs xi.b))):=by
  unfold cO
  rcases hop with h7|h8|h9
  ·rw[if_pos h7,if_pos h7,k1,Int.toNat_natCast,if_pos hin,hi];rfl
  ·rw[if_neg (by omega),if_pos h8,k1,Int.toNat_natCast,if_pos hin,if_neg (by omega),if_pos h8,hi];rfl
  ·rw[if_neg (by omega),if_neg (by omega),if_pos h9,k1,Int.toNat_natCast,if_pos hin,if_neg (by omega),if_neg (by omega),hi];rfl
 have d11:∀{g:Heap}{K:D->Prop}{dE':D},g n7=.box (.agg (ez it dR dL dE' dm 0))->aq PP (.ld (.c (.ptr n7 0 0)) 11 true) g K=K (.agg (ez it dR dL dE' dm 0)):=fun {g K dE'} hg=>by rw[bL,AA hg rfl]
 have h11:∀{g:Heap}{K:HK}{dE':D},g n7=.box (.agg (ez it dR dL dE' dm 0))->ab PP (.ld (.c (.ptr n7 0 0)) 11 true) g K=K (.agg (ez it dR dL dE' dm 0)) g:=fun {g K dE'} hg=>AA hg rfl
 have d4:∀{g:Heap}{K:D->Prop},g n27=.box r.e->aq PP (.ld (.c (.ptr n27 0 0)) 4 true) g K=K r.e:=fun {g K} hg=>by rw[bL];exact dt (cs:=[.str r.name,.int .i64 r.space,.int .i64 r.type,.int .i64 r.len]) hg
 have h4':∀{g:Heap}{K:HK},g n27=.box r.e->ab PP (.ld (.c (.ptr n27 0 0)) 4 true) g K=K r.e g:=fun {g K} hg=>dt (cs:=[.str r.name,.int .i64 r.space,.int .i64 r.type,.int .i64 r.len]) hg
 have dx:∀{g:Heap}{K:D->Prop}{j:Nat}{d:D},g n9=.box xi.e->xi.cs[j]?=some d->aq PP (.ld (.c (.ptr n9 0 j)) 1 false) g K=K d:=fun {g K j d} hg hj=>OY (cs:=xi.cs) hg hj
 have hx1:∀{g:Heap}{K:HK}{j:Nat}{d:D},g n9=.box xi.e->xi.cs[j]?=some d->ab PP (.ld (.c (.ptr n9 0 j)) 1 false) g K=K d g:=fun {g K j d} hg hj=>eV (cs:=xi.cs) hg hj
 simp only[↓aE,B8.used 4 rfl,B8.used 3 rfl,Nat.zero_add,s7d (B8.get 4 rfl),↓i3d (B8.get 3 rfl) (j:=9) (by omega),d11 (B8.get 4 rfl),d4 (B8.get 0 rfl),dx (B8.get 3 rfl) (j:=2) rfl,true_and]
 refine zZ x8 (o:=xi.b) (by rw[hw.len];exact ob) fun h9 e9 x9=>?_
 have B9:=B8.step (Fr.ext (ro:=ro6) e9)
 clear x8 B8 e9
 simp only[↓aE,B9.used 4 rfl,B9.used 3 rfl,Nat.zero_add,d11 (B9.get 4 rfl),d4 (B9.get 0 rfl),dx (B9.get 3 rfl) (j:=2) rfl,ai,true_and,and_true]
 rw[k1,hi]
 refine Tu x9 hc hw k2 hr (by rw[<- hi];exact hin.2) fun h10 e10=>?_
 have x10:=x9.ext e10
 have B10:=B9.step (Fr.ext (ro:=ro6) e10)
 clear x9 B9 e10
 simp only[↓bf (B10.used 2 rfl),Nat.zero_add,true_and]
 refine B10.ev 2 (e:=e) (e':={ e with kind:=2 }) rfl rfl rfl (by omega) fun B11=>?_
 have x11:=x10.aw (B10.rn 2 rfl) (.box ({ e with kind:=2 }:Ev).e)
 generalize ah h10 n11 (.box ({ e with kind:=2 }:Ev).e)=h11x at x11 B11
 simp only[List.set_cons_zero,List.set_cons_succ]at B11
 clear x10 B10
 simp only[↓bf (B11.used 2 rfl),↓bf (B11.used 3 rfl),Nat.zero_add,hx1 (B11.get 3 rfl) (j:=2) rfl,true_and]
 refine B11.ev 2 (e:={ e with kind:=2 }) (e':={ e with kind:=2,arr:=xi.n }) rfl rfl rfl (by omega) fun B12=>?_
 have x12:=x11.aw (B11.rn 2 rfl) (.box ({ e with kind:=2,arr:=xi.n }:Ev).e)
 generalize ah h11x n11 (.box ({ e with kind:=2,arr:=xi.n }:Ev).e)=h12 at x12 B12
 simp only[List.set_cons_zero,List.set_cons_succ]at B12
 clear x11 B11
 simp only[↓bf (B12.used 2 rfl),Nat.zero_add,true_and]
 refine B12.ev 2 (e:={ e with kind:=2,arr:=xi.n }) (e':={ e with kind:=2,arr:=xi.n,i:=(i:Int) }) rfl rfl rfl (by omega) fun B13=>?_
 have x13:=x12.aw (B12.rn 2 rfl) (.box ({ e with kind:=2,arr:=xi.n,i:=(i:Int) }:Ev).e)
 generalize ah h12 n11 (.box ({ e with kind:=2,arr:=xi.n,i:=(i:Int) }:Ev).e)=h13 at x13 B13
 simp only[List.set_cons_zero,List.set_cons_succ]at B13
 clear x12 B12
 simp only[↓bf (B13.used 2 rfl),Nat.zero_add,true_and]
 refine B13.ev 2 (e:={ e with kind:=2,arr:=xi.n,i:=(i:Int) }) (e':=AG e xi (i:Int) (aV st.regs xi.b)) rfl rfl rfl (by omega) fun B14=>?_
 have x14:=x13.aw (B13.rn 2 rfl) (.box (AG e xi (i:Int) (aV st.regs xi.b)).e)
 generalize ah h13 n11 (.box (AG e xi (i:Int) (aV st.regs xi.b)).e)=h14 at x14 B14
 simp only[List.set_cons_zero,List.set_cons_succ]at B14
 clear x13 B13
 rw[hi]at iS
 have wI:gX (st.word (bg c k) k i):=St.ny hw (ja hc k2) hc _
 obtain⟨Bx,hBx⟩:∃Bx:Heap->Ro->Ev->D->Prop,Bx=fun g ro' e' dE'=>bN h ro g ro' [(n27,r.e),(n13,.agg tJ),(n11,e'.e),(n9,xi.e),(n7,.agg (ez it dR dL dE' dm 0)),(n5,c.e)]:=⟨_,rfl⟩
 refine⟨fun _ g=>∃ro' s1 e1,Bx g ro' e1 dE/\kr g ro' dR dE dL dm s1/\(xi.op=7->s1=st.pN xi.d.n.toNat (st.word (bg c k) k i)/\e1=Oi e xi i (st.word (bg c k) k i))/\(xi.op≠7->s1=st/\e1=AG e xi i (aV st.regs xi.b)),?_,?_⟩
 ·rintro _ g1 ⟨ro1',s1,e1,Y1,y1,p7,pn7⟩
  refine⟨fun _ g=>∃ro' s1 e1,Bx g ro' e1 dE/\kr g ro' dR dE dL dm s1/\(xi.op=7->s1=st.pN xi.d.n.toNat (st.word (bg c k) k i)/\e1=Oi e xi i (st.word (bg c k) k i))/\(xi.op=8->s1=st.put (bg c k) k i (aV st.regs xi.b)/\e1=AG e xi i (aV st.regs xi.b))/\(xi.op=9->s1=st/\e1=AG e xi i (aV st.regs xi.b)),?_,?_⟩
  ·rintro _ g2 ⟨ro2',s2,e2,Y2,y2,q7,q8,q9⟩
   refine⟨fun _ g=>∃ro' s1 e1,Bx g ro' e1 dE/\kr g ro' dR dE dL dm s1/\cO c l it.id xi e st=some (s1.tell c e1)/\e1.kind≠4/\e1.arr=xi.n/\s1.ev=st.ev,?_,?_⟩
   ·rintro _ g3 ⟨ro3',s3,e3,Y3,y3,i3',kd3,ar3,ev3⟩
    rw[hBx]at Y3
    refine⟨fun _ g=>∃ro' dE' st',Bx g ro' e3 dE'/\kr g ro' dR dE' dL dm st'/\cO c l it.id xi e st=some st',?_,?_⟩
    ·rintro _ g4 ⟨ro4',dE4,st4,Y4,y4,i4⟩
     rw[hBx]at Y4
     rw[h11 (Y4.get 4 rfl),m7 (s:=11) (cs:=tJ) (cs':=ez it dR dL dE4 dm 0) (Y4.get 1 rfl) rfl rfl (y4.dN it 0),AA (cs:=ez it dR dL dE4 dm 0) (ad _ _ _) rfl]
     exact hK st4 _ ro4' dE4 i4 (Y4.aw 1 rfl (.agg (ez it dR dL dE4 dm 0))).fr (y4.aw (Y4.rn 1 rfl) _)
    ·have l1:∀{g:Heap}{K:HK},g n27=.box r.e->ab PP (.ld (.c (.ptr n27 0 1)) 1 false) g K=K (.int .i64 r.space) g:=fun {g K} hg=>eV (cs:=[.str r.name,.int .i64 r.space,.int .i64 r.type,.int .i64 r.len]) hg rfl
     simp only[↓bf (Y3.used 0 rfl),Nat.zero_add,l1 (Y3.get 0 rfl),↓ck,true_and]
     have hsp:(bg c e3.arr.toNat=3)↔r.space=3:=by
      rw[ar3,k1,Int.toNat_natCast,dn hr]
      rcases hro.1 with h|h|h<;>rw[h]<;>simp
     by_cases h3s:r.space=3
     ·simp only[h3s,decide_true,Bool.not_true,↓ae,ai,true_and]
      refine⟨ro3',dE,s3,by rw[hBx];exact Y3,y3,?_⟩
      rw[i3']
      simp only[St.tell]
      rw[if_pos ⟨kd3,hsp.2 h3s⟩]
     ·have l9:∀{g:Heap}{K:HK},g n11=.box e3.e->ab PP (.ld (.c (.ptr n11 0 0)) 9 true) g K=K e3.e g:=fun {g K} hg=>dt (cs:=e3.cs) hg
      simp only[h3s,decide_false,Bool.not_false,↓af,↓bf (Y3.used 4 rfl),Nat.zero_add,↓eV (cs:=ez it dR dL dE dm 0) (Y3.get 4 rfl) (j:=9) rfl,l9 (Y3.get 2 rfl),true_and]
      refine Oh y3.ev (by rw[ev3];omega) fun dE' g4 ro4' F4 K4 E4=>?_
      have Y4:=Y3.step F4
      have y4:kr g4 ro4' dR dE' dL dm { s3 with ev:=s3.ev++[e3] }:=⟨y3.regs.de K4 (by simp),fun s a b=>(y3.mem s a b).de K4 (by simp) (by simp),E4,y3.sl.de K4 (by simp)⟩
      simp only[↓bf (Y4.used 4 rfl),Nat.zero_add,true_and]
      have oE:=E4.one
      rw[IP (cs:=ez it dR dL dE dm 0) (Y4.get 4 rfl) (by simp) oE]
      have es:(ez it dR dL dE dm 0).set 9 dE'=ez it dR dL dE' dm 0:=rfl
      rw[es]
      refine⟨ro4',dE',_,?_,y4.aw (Y4.rn 4 rfl) _,?_⟩
      ·rw[hBx];exact Y4.aw 4 rfl (.agg (ez it dR dL dE' dm 0))
      ·rw[i3']
       simp only[St.tell]
       rw[if_neg (fun hh=>h3s (hsp.1 hh.2))]
   ·rw[hBx]at Y2
    simp only[↓bf (Y2.used 3 rfl),Nat.zero_add,hx1 (Y2.get 3 rfl) (j:=0) rfl,↓aN,true_and]
    by_cases h9:xi.op=9
    ·obtain⟨rfl,rfl⟩:=q9 h9
     have hs9:=hx.GA h9
     simp only[h9,decide_true,↓af,↓bf (Y2.used 2 rfl),Nat.zero_add,true_and]
     refine Y2.ev 2 (e:=AG e xi i (aV s2.regs xi.b)) (e':={ (AG e xi i (aV s2.regs xi.b)) with kind:=3 }) rfl rfl rfl (by omega) fun Y3=>?_
     have y3:=y2.aw (Y2.rn 2 rfl) (.box ({ (AG e xi i (aV s2.regs xi.b)) with kind:=3 }:Ev).e)
     generalize ah g2 n11 (.box ({ (AG e xi i (aV s2.regs xi.b)) with kind:=3 }:Ev).e)=g3 at y3 Y3
     simp only[List.set_cons_zero,List.set_cons_succ]at Y3
     simp only[↓bf (Y3.used 2 rfl),↓bf (Y3.used 3 rfl),Nat.zero_add,hx1 (Y3.get 3 rfl) (j:=1) rfl,true_and]
     refine Y3.ev 2 (e:={ (AG e xi i (aV s2.regs xi.b)) with kind:=3 }) (e':=LK e xi i (aV s2.regs xi.b)) rfl rfl rfl (by omega) fun Y4=>?_
     have y4:=y3.aw (Y3.rn 2 rfl) (.box (LK e xi i (aV s2.regs xi.b)).e)
     generalize ah g3 n11 (.box (LK e xi i (aV s2.regs xi.b)).e)=g4 at y4 Y4
     simp only[List.set_cons_zero,List.set_cons_succ]at Y4
     simp only[↓aE,Y4.used 3 rfl,Nat.zero_add,d11 (Y4.get 4 rfl),d4 (Y4.get 0 rfl),dx (Y4.get 3 rfl) (j:=2) rfl,dx (Y4.get 3 rfl) (j:=1) rfl,true_and]
     refine bF (Kd hs9 wI (ic hw.regs (k4 (by omega)))) (dN rfl) ?_
     rintro _ rfl
     have fl:∀{v e:Int}{g:Heap}{K:D->Prop},aq PP (.fld (.c (nO v e)) 0 1 false) g K=K (.int .i32 v):=fun {v e g K}=>rfl
     simp only[↓aE,Y4.used 3 rfl,Nat.zero_add,d11 (Y4.get 4 rfl),d4 (Y4.get 0 rfl),dx (Y4.get 3 rfl) (j:=2) rfl,ai,true_and,and_true,fl]
     rw[k1]
     refine QP y4 hc hw k2 hr (by rw[<- hi];exact hin.2) fun g5 F5 y5=>?_
     refine⟨ro2',_,_,by rw[hBx];exact Y4.step F5,y5,?_,by simp[LK],k1,rfl⟩
     rw[iS,if_neg (by omega),if_neg (by omega)]
    ·simp only[h9,decide_false,↓ae,ai,true_and]
     refine⟨ro2',s2,e2,by rw[hBx];exact Y2,y2,?_⟩
     rcases hop with h7|h8|h9'
     ·obtain⟨rfl,rfl⟩:=q7 h7
      exact⟨by rw[iS,if_pos h7];rfl,by simp[Oi],rfl,rfl⟩
     ·obtain⟨rfl,rfl⟩:=q8 h8
      exact⟨by rw[iS,if_neg (by omega),if_pos h8],by simp[AG],rfl,rfl⟩
     ·exact absurd h9' h9
  ·rw[hBx]at Y1
   simp only[↓bf (Y1.used 3 rfl),Nat.zero_add,hx1 (Y1.get 3 rfl) (j:=0) rfl,↓aN,true_and]
   by_cases h8:xi.op=8
   ·obtain⟨rfl,rfl⟩:=pn7 (by omega)
    simp only[h8,decide_true,↓af,h11 (Y1.get 4 rfl),h4' (Y1.get 0 rfl),↓bf (Y1.used 3 rfl),Nat.zero_add,hx1 (Y1.get 3 rfl) (j:=2) rfl,true_and]
    rw[k1]
    refine QP y1 hc hw k2 hr (by rw[<- hi];exact hin.2) fun g2 F2 y2=>?_
    exact⟨ro1',_,_,by rw[hBx];exact Y1.step F2,y2,fun h=>by omega,fun _=>⟨rfl,rfl⟩,fun h=>by omega⟩
   ·simp only[h8,decide_false,↓ae,ai,true_and]
    exact⟨ro1',s1,e1,by rw[hBx];exact Y1,y1,p7,fun h=>h.elim,fun h=>pn7 (by omega)⟩
 ·simp only[↓bf (B14.used 3 rfl),Nat.zero_add,hx1 (B14.get 3 rfl) (j:=0) rfl,↓aN,true_and]
  by_cases h7:xi.op=7
  ·simp only[h7,decide_true,↓af,↓bf (B14.used 2 rfl),Nat.zero_add,true_and]
   refine B14.ev 2 (e:=AG e xi i (aV st.regs xi.b)) (e':={ (AG e xi i (aV st.regs xi.b)) with kind:=1 }) rfl rfl rfl (by omega) fun Y3=>?_
   have y3:=x14.aw (B14.rn 2 rfl) (.box ({ (AG e xi i (aV st.regs xi.b)) with kind:=1 }:Ev).e)
   generalize ah h14 n11 (.box ({ (AG e xi i (aV st.regs xi.b)) with kind:=1 }:Ev).e)=g3 at y3 Y3
   simp only[List.set_cons_zero,List.set_cons_succ]at Y3
   simp only[↓bf (Y3.used 2 rfl),Nat.zero_add,true_and]
   refine Y3.ev 2 (e:={ (AG e xi i (aV st.regs xi.b)) with kind:=1 }) (e':=Oi e xi i (st.word (bg c k) k i)) rfl rfl rfl (by omega) fun Y4=>?_
   have y4:=y3.aw (Y3.rn 2 rfl) (.box (Oi e xi i (st.word (bg c k) k i)).e)
   generalize ah g3 n11 (.box (Oi e xi i (st.word (bg c k) k i)).e)=g4 at y4 Y4
   simp only[List.set_cons_zero,List.set_cons_succ]at Y4
   obtain⟨q,q0,q1,hd⟩:=hx.pN (by omega)
   obtain⟨j,rfl⟩:∃j:Nat,q=(j:Int):=⟨q.toNat,by omega⟩
   have hdn:xi.cs[4]?=some (.int .i64 (j:Int)):=by simp[aQ.cs,hd,gf]
   have e6:xi.d.n.toNat=j:=by rw[hd];rfl
   simp only[↓bf (Y4.used 4 rfl),↓bf (Y4.used 3 rfl),Nat.zero_add,Nat.reduceAdd,↓eV (cs:=ez it dR dL dE dm 0) (Y4.get 4 rfl) (j:=4) rfl,hx1 (Y4.get 3 rfl) hdn,true_and]
   refine y4.J8 (by have:=hw.len;omega) fun g5 F5 y5=>?_
   refine⟨ro6,_,_,by rw[hBx];exact Y4.step F5,y5,fun _=>⟨by rw[e6],rfl⟩,fun h=>absurd rfl h⟩
  ·simp only[h7,decide_false,↓ae,ai,true_and]
   exact⟨ro6,st,_,by rw[hBx];exact B14,x14,fun h=>h.elim,fun _=>⟨rfl,rfl⟩⟩
end
end Go.Am
namespace Go.Am
open Go
section
variable {h:Heap}{ro:Ro}{dR dE dL:D}{dm:Nat->D}{st:St}
theorem FY (x:kr h ro dR dE dL dm st){c:Code}{l:dA}{it:It}(hc:bh c) (hl:jw c l) (hid:0<=it.id/\it.id<l.groups*c.group) (hw:oC c st) (hev:st.ev.length<=900000){xi:aQ}(hx:lZ c xi){e:Ev}{KH:HK}
  (hK:∀st' h' ro' dE',cO c l it.id xi e st=some st'->Fr ro h ro' h'->kr h' ro' dR dE' dL dm st'->KH (.agg (ez it dR dL dE' dm 0)) h')
  (hN:∀h' ro',cO c l it.id xi e st=none->Fr ro h ro' h'->kr h' ro' dR dE dL dm st->KH (.agg (ez it dR dL dE dm 70)) h') :
  ag PP hY [c.e,l.e,.agg (ez it dR dL dE dm 0),xi.e,e.e] h KH:=by
 refine aU pI (aC _ _ _) rfl (pD _ _ _ _ _ _) ?_
 (unfold kD;try dsimp only[xL,yL,xF,yF,xI,yI,xS,zI,zJ])
 have B0:bN h ro h ro []:=bN.nil
 rw[cJ]
 refine⟨(jK c).2,fun n6 t=>?_⟩
 have x1:=x.new t.free (.box c.e)
 have B1:=B0.push t.free c.e
 generalize ah h n6 (.box c.e)=h1 at x1 B1
 generalize ah ro n6 .no=ro1 at x1 B1
 rw[cJ]
 refine⟨List.all_eq_true.1 (dA.on l),fun n8 t=>?_⟩
 have x2:=x1.new t.free (.box l.e)
 have B2:=B1.push t.free l.e
 generalize ah h1 n8 (.box l.e)=h2 at x2 B2
 generalize ah ro1 n8 .no=ro2 at x2 B2
 rw[cJ]
 refine⟨x2.dN it 0,fun n10 t=>?_⟩
 have x3:=x2.new t.free (.box (.agg (ez it dR dL dE dm 0)))
 have B3:=B2.push t.free (.agg (ez it dR dL dE dm 0))
 generalize ah h2 n10 (.box (.agg (ez it dR dL dE dm 0)))=h3 at x3 B3
 generalize ah ro2 n10 .no=ro3 at x3 B3
 rw[cJ]
 refine⟨xi.cu.one,fun n12 t=>?_⟩
 have x4:=x3.new t.free (.box xi.e)
 have B4:=B3.push t.free xi.e
 generalize ah h3 n12 (.box xi.e)=h4 at x4 B4
 generalize ah ro3 n12 .no=ro4 at x4 B4
 rw[cJ]
 refine⟨e.cu.one,fun n14 t=>?_⟩
 have x5:=x4.new t.free (.box e.e)
 have B5:=B4.push t.free e.e
 generalize ah h4 n14 (.box e.e)=h5 at x5 B5
 generalize ah ro4 n14 .no=ro5 at x5 B5
 rw[bS]
 intro n16 t
 have x6:=x5.new t.free (.box (.agg tJ))
 have B6:=B5.push t.free (.agg tJ)
 generalize ah h5 n16 (.box (.agg tJ))=h6 at x6 B6
 generalize ah ro5 n16 .no=ro6 at x6 B6
 clear x1 x2 x3 x4 x5 B0 B1 B2 B3 B4 B5
 have h8:∀{g:Heap}{K:HK},g n6=.box c.e->ab PP (.ld (.c (.ptr n6 0 0)) 8 true) g K=K c.e g:=fun {g K} hg=>dt hg
 have d8:∀{g:Heap}{K:D->Prop},g n6=.box c.e->aq PP (.ld (.c (.ptr n6 0 0)) 8 true) g K=K c.e:=fun {g K} hg=>by rw[bL];exact dt hg
 have d2:∀{g:Heap}{K:D->Prop},g n8=.box l.e->aq PP (.ld (.c (.ptr n8 0 0)) 2 true) g K=K l.e:=fun {g K} hg=>by rw[bL];exact dt hg
 have h11:∀{g:Heap}{K:HK}{dE':D},g n10=.box (.agg (ez it dR dL dE' dm 0))->ab PP (.ld (.c (.ptr n10 0 0)) 11 true) g K=K (.agg (ez it dR dL dE' dm 0)) g:=fun {g K dE'} hg=>AA hg rfl
 have d7:∀{g:Heap}{K:D->Prop},g n10=.box (.agg (ez it dR dL dE dm 0))->aq PP (.ld (.c (.ptr n10 0 0)) 7 true) g K=K (rM it dR (dm 3) dL):=fun {g K} hg=>by rw[bL,rL hg (by simp)];rfl
 have h15:∀{g:Heap}{K:HK},g n12=.box xi.e->ab PP (.ld (.c (.ptr n12 0 0)) 15 true) g K=K xi.e g:=fun {g K} hg=>dt hg
 have d15:∀{g:Heap}{K:D->Prop},g n12=.box xi.e->aq PP (.ld (.c (.ptr n12 0 0)) 15 true) g K=K xi.e:=fun {g K} hg=>by rw[bL];exact dt hg
 have hx1:∀{g:Heap}{K:HK}{j:Nat}{d:D},g n12=.box xi.e->xi.cs[j]?=some d->ab PP (.ld (.c (.ptr n12 0 j)) 1 false) g K=K d g:=fun {g K j d} hg hj=>eV (cs:=xi.cs) hg hj
 have dx1:∀{g:Heap}{K:D->Prop}{j:Nat}{d:D},g n12=.box xi.e->xi.cs[j]?=some d->aq PP (.ld (.c (.ptr n12 0 j)) 1 false) g K=K d:=fun {g K j d} hg hj=>cf (cs:=xi.cs) hg hj
 have h9:∀{g:Heap}{K:HK}{e':Ev},g n14=.box e'.e->ab PP (.ld (.c (.ptr n14 0 0)) 9 true) g K=K e'.e g:=fun {g K e'} hg=>dt (cs:=e'.cs) hg
 have fin:∀{g:Heap}{ro':Ro}{dE':D}{e':Ev}{n:Int}{st':St},bN h ro g ro' [(n16,.agg tJ),(n14,e'.e),(n12,xi.e),(n10,.agg (ez it dR dL dE' dm 0)),(n8,l.e),(n6,c.e)]->kr g ro' dR dE' dL dm st'->(∀h' ro',Fr ro h ro' h'->kr h' ro' dR dE' dL dm st'->KH (.agg (ez it dR dL dE' dm n)) h') ->
   ab PP (.st (.c (.ptr n16 0 0)) (.c (.agg (ez it dR dL dE' dm n))) 11) g fun _ h'=>ab PP (.ld (.c (.ptr n16 0 0)) 11 true) h' fun a _=>KH a h':=by
  intro g ro' dE' e' n st' Y y k
  rw[m7 (s:=11) (cs:=tJ) (cs':=ez it dR dL dE' dm n) (Y.get 0 rfl) rfl rfl (y.dN it n),AA (cs:=ez it dR dL dE' dm n) (ad _ _ _) rfl]
  exact k _ ro' (Y.aw 0 rfl (.agg (ez it dR dL dE' dm n))).fr (y.aw (Y.rn 0 rfl) _)
 simp only[↓bf (B6.used 2 rfl),Nat.zero_add,hx1 (B6.get 2 rfl) (j:=0) rfl,true_and]
 refine⟨fun qs g=>qs=[.bool (decide (xi.op=7\/xi.op=8\/xi.op=9))]/\g=h6,?_,?_⟩
 ·rintro f g ⟨hf,rfl⟩
  simp only[List.cons.injEq,and_true]at hf
  rw[hf]
  by_cases hop:xi.op=7\/xi.op=8\/xi.op=9
  ·simp only[hop,decide_true,↓af,h8 (B6.get 5 rfl),h11 (B6.get 3 rfl),h15 (B6.get 2 rfl),h9 (B6.get 1 rfl)]
   refine MX (l:=l) x6 hc hw hev hx hop (fun st' h' ro' dE' hst F y=>?_) (fun h' ro' hst F y=>?_)
   ·have Y:=B6.step F
    rw[m7 (s:=11) (cs:=tJ) (cs':=ez it dR dL dE' dm 0) (Y.get 0 rfl) rfl rfl (y.dN it 0),AA (cs:=ez it dR dL dE' dm 0) (ad _ _ _) rfl]
    exact hK st' _ ro' dE' hst (Y.aw 0 rfl (.agg (ez it dR dL dE' dm 0))).fr (y.aw (Y.rn 0 rfl) _)
   ·have Y:=B6.step F
    exact fin Y y fun h'' ro'' F' y'=>hN h'' ro'' hst F' y'
  simp only[hop,decide_false,↓ae,↓aN]
  by_cases h10:xi.op=10
  ·simp only[h10,decide_true,↓af,↓bf (B6.used 1 rfl),Nat.zero_add,true_and]
   refine B6.ev 1 (e:=e) (e':={ e with kind:=4 }) rfl rfl rfl (by omega) fun B7=>?_
   have x7:=x6.aw (B6.rn 1 rfl) (.box ({ e with kind:=4 }:Ev).e)
   generalize ah g n14 (.box ({ e with kind:=4 }:Ev).e)=h7 at x7 B7
   simp only[List.set_cons_zero,List.set_cons_succ]at B7
   simp only[↓bf (B7.used 2 rfl),↓bf (B7.used 1 rfl),Nat.zero_add,hx1 (B7.get 2 rfl) (j:=1) rfl,true_and]
   refine B7.ev 1 (e:={ e with kind:=4 }) (e':=EX e xi) rfl rfl rfl (by omega) fun B8=>?_
   have x8:=x7.aw (B7.rn 1 rfl) (.box (EX e xi).e)
   generalize ah h7 n14 (.box (EX e xi).e)=h8x at x8 B8
   simp only[List.set_cons_zero,List.set_cons_succ]at B8
   simp only[↓bf (B8.used 3 rfl),Nat.zero_add,↓eV (cs:=ez it dR dL dE dm 0) (B8.get 3 rfl) (j:=9) rfl,h9 (B8.get 1 rfl),true_and]
   refine Oh x8.ev (by omega) fun dE' g4 ro4' F4 K4 E4=>?_
   have Y4:=B8.step F4
   have y4:kr g4 ro4' dR dE' dL dm { st with ev:=st.ev++[EX e xi] }:=⟨x8.regs.de K4 (by simp),fun s a b=>(x8.mem s a b).de K4 (by simp) (by simp),E4,x8.sl.de K4 (by simp)⟩
   simp only[↓bf (Y4.used 3 rfl),Nat.zero_add,true_and]
   rw[IP (cs:=ez it dR dL dE dm 0) (Y4.get 3 rfl) (by simp) E4.one]
   have es:(ez it dR dL dE dm 0).set 9 dE'=ez it dR dL dE' dm 0:=rfl
   rw[es]
   have Y5:=Y4.aw 3 rfl (.agg (ez it dR dL dE' dm 0))
   have y5:=y4.aw (Y4.rn 3 rfl) (.box (.agg (ez it dR dL dE' dm 0)))
   generalize ah g4 n10 (.box (.agg (ez it dR dL dE' dm 0)))=g5 at Y5 y5
   simp only[List.set_cons_zero,List.set_cons_succ]at Y5
   rw[h11 (Y5.get 3 rfl)]
   refine fin Y5 y5 fun h'' ro'' F' y'=>hK _ h'' ro'' dE' ?_ F' y'
   unfold cO
   rw[if_neg (by omega),if_neg (by omega),if_neg (by omega),if_pos h10]
   simp[St.tell,EX]
  ·have h6o:xi.op<=6:=by have:=hx.Ty;omega
   obtain⟨q,q0,q1,hd⟩:=hx.pN (by omega)
   obtain⟨j,rfl⟩:∃j:Nat,q=(j:Int):=⟨q.toNat,by omega⟩
   have hdn:xi.cs[4]?=some (.int .i64 (j:Int)):=by simp[aQ.cs,hd,gf]
   have e6:xi.d.n.toNat=j:=by rw[hd];rfl
   simp only[h10,decide_false,↓ae,show ¬xi.op=12 by omega,↓aE,B6.used 3 rfl,B6.used 2 rfl,Nat.zero_add,Nat.reduceAdd,↓cf (cs:=ez it dR dL dE dm 0) (B6.get 3 rfl) (j:=4) rfl,dx1 (B6.get 2 rfl) hdn,d8 (B6.get 5 rfl),d2 (B6.get 4 rfl),d7 (B6.get 3 rfl),d15 (B6.get 2 rfl),true_and]
   refine MV x6 hc hl hid hw hx h6o fun h7 e7=>?_
   have x7:=x6.ext e7
   have B7:=B6.step (Fr.ext (ro:=ro6) e7)
   simp only[↓aE,B7.used 3 rfl,B7.used 2 rfl,Nat.zero_add,Nat.reduceAdd,↓cf (cs:=ez it dR dL dE dm 0) (B7.get 3 rfl) (j:=4) rfl,dx1 (B7.get 2 rfl) hdn,ai,true_and,and_true]
   rw[dW]
   have rs:=x7.J8 (i:=j) (v:=gA c l it.id xi st.regs) (by have:=hw.len;omega) (KH:=fun _ h8=>ab PP (.ld (.c (.ptr n10 0 0)) 11 true) h8 fun a h9=>ab PP (.st (.c (.ptr n16 0 0)) (.c a) 11) h9 fun _ h10=>ab PP (.ld (.c (.ptr n16 0 0)) 11 true) h10 fun b _=>KH b h10) fun h8 F8 x8=>?_
   ·obtain⟨q,rfl,g2,g3⟩:=x7.regs
    rw[bG]at rs ⊢
    exact rs
   ·have B8:=B7.step F8
    rw[h11 (B8.get 3 rfl)]
    refine fin B8 x8 fun h'' ro'' F' y'=>hK _ h'' ro'' dE ?_ F' y'
    unfold cO
    rw[if_neg (by omega),if_neg (by omega),if_neg (by omega),if_neg (by omega),e6]
 ·by_cases h7:xi.op=7
  ·simp only[↓aN,h7,decide_true,↓af,ai,true_and]
   simp
  ·by_cases h8':xi.op=8
   ·simp only[↓aN,h7,h8',Int.reduceEq,decide_true,decide_false,↓af,↓ae,ai,true_and]
    simp
   ·simp only[↓aN,h7,h8',decide_false,↓ae,ai,true_and]
    simp
end
end Go.Am
namespace Go.Am
open Go
theorem KA {P:Program}{r:bO}{g:Heap}{K:HK}:ab P (.ld (.c (.vp r.e 0)) 4 true) g K=K r.e g:=by
 rw[iI,cF]
 have e1:(r.e.cells.drop 0).take 4=[.str r.name,.int .i64 r.space,.int .i64 r.type,.int .i64 r.len]:=rfl
 have e2:r.e.cells.length=4:=rfl
 rw[e1,e2];simp[bO.e]
theorem RG (n:Nat):List.replicate n (D.int .i32 0)=wr (List.replicate n 0):=by simp[wr]
theorem Kc {h:Heap}{ro:Ro}{c:Code}(hc:bh c) (sp:Int) (s:Nat){KH:HK}(hK:∀d h' ro',fB h ro h' ro'->gu h' ro' s d (iO c.arrays sp)->KH d h'):ag PP fI [.sl (c.arrays.map bO.e),.int .i64 sp] h KH:=by
 refine aU Dl (aC _ _ _) rfl (C2 _ _ _) ?_
 (unfold yi;try dsimp only[xL,yL,xF,yF,xI,yI,xS,zI,zJ])
 obtain⟨m,hm⟩:∃m:Mm,m=iO c.arrays sp:=⟨_,rfl⟩
 have hml:m.length=c.arrays.length:=by rw[hm];simp[iO]
 have hna:=hc.nar
 rw[<- hm]at hK
 refine rP fun n0 t0=>?_
 refine⟨fun qs h'=>∃d ro',qs=[d]/\fB h ro h' ro'/\gu h' ro' s d m,?_,?_⟩
 ·rintro f h' ⟨d,ro',hf,x,y⟩
  simp only[List.cons.injEq,and_true]at hf
  rw[hf];exact hK d h' ro' x y
 (unfold pP;try dsimp only[xL,yL,xF,yF,xI,yI,xS,zI,zJ])
 refine⟨fun k qs h'=>∃(i q:Nat) (els:List D) (ro':Ro),qs=[.ms q 0 i,.int .i64 (i:Int)]/\k+i=c.arrays.length/\fB h ro h' ro'/\h q=.free/\om h' ro' s (m.take i) q els/\Df els,c.arrays.length,
  ⟨0,n0,[],ah ro n0 (.mem s),rfl,by omega,fB.new t0.free _ _,t0.free,⟨ad _ _ _,ad _ _ _,by simp,fun i e w he=>(by simp at he)⟩,Df.nil⟩,?_⟩
 rintro k f h' ⟨i,q,els,ro',hf,hki,x,hq,y,yo⟩
 simp only[List.cons.injEq,and_true]at hf
 obtain⟨hf1,hf2⟩:=hf
 rw[hf1,hf2,lz,List.length_map,bM]
 by_cases hi:i<c.arrays.length
 case neg =>
  simp only[show ¬((i:Int)<(c.arrays.length:Int)) by omega,decide_false,↓ae,ai,true_and]
  rw[List.take_of_length_le (by omega)]at y
  have:i=m.length:=by omega
  subst this
  exact⟨_,ro',rfl,x,q,els,rfl,y,yo⟩
 have ha:c.arrays[i]?=some c.arrays[i]:=List.getElem?_eq_getElem hi
 obtain⟨a,hae⟩:∃a,a=c.arrays[i]:=⟨_,rfl⟩
 rw[<- hae]at ha
 have hao:=hc.ar a (List.mem_of_getElem? ha)
 have hw:m[i]?=some (List.replicate (nx sp a) 0):=by rw[hm,iO,List.getElem?_map,ha];rfl
 have hz:a.sz sp=(nx sp a:Int)/\nx sp a<=8:=by
  have:=hao.2
  unfold bO.sz nx
  split<;>omega
 simp only[show((i:Int)<(c.arrays.length:Int)) by omega,decide_true,↓af,↓AJ ha,↓KA]
 refine bF (Pw a sp) (fun d hd=>?_) ?_
 ·simp only[List.mem_cons,List.not_mem_nil,or_false]at hd
  rcases hd with rfl|rfl
  ·exact bO.vd a
  ·exact kh
 rintro _ rfl
 rw[hz.1,Qb]
 refine⟨by omega,by omega,by omega,by omega,fun n2 t2=>?_⟩
 have a2:ah h' n2 (.arr 1 (List.replicate ((nx sp a:Int)).toNat (D.int .i32 0))) n2=.arr 1 (wr (List.replicate (nx sp a) 0)):=by rw[ad,Int.toNat_natCast,RG]
 have f2:=t2.free
 have k2:∀k,h' k≠.free->ah h' n2 (.arr 1 (List.replicate ((nx sp a:Int)).toNat (D.int .i32 0))) k=h' k:=fun k hk=>aa _ _ (t2.ne hk)
 generalize ah h' n2 (.arr 1 (List.replicate ((nx sp a:Int)).toNat (D.int .i32 0)))=h2 at a2 k2
 have hel:els.length=i:=by have:=y.len;rw[List.length_take]at this;omega
 have hq2:h2 q=.arr 1 els:=by rw[k2 q (bZ y.hk)];exact y.hk
 have app:=Gr (P:=PP) (esz:=1) (bytes:=24) (z:=.nil) (z':=.nil) (d:=.ms n2 0 (List.replicate (nx sp a) (0:Int)).length) (KH:=fun a23 h24=>vbin .add (.int .i64 (i:Int)) (.int .i64 1) fun a25 =>
  aH [.sl (c.arrays.map bO.e),.int .i64 sp] [.sl (c.arrays.map bO.e),.int .i64 sp]/\∃m',m'<k/\∃(i q:Nat) (els:List D) (ro':Ro),[a23,a25]=[.ms q 0 i,.int .i64 (i:Int)]/\m'+i=c.arrays.length/\fB h ro h24 ro'/\h q=.free/\om h24 ro' s (m.take i) q els/\Df els)
  hq2 (by simp) rfl (by omega) (by omega) fun n4 h4 f4 a4 k4=>?_
 ·rw[hel]at app
  simp only[List.length_replicate]at app
  rw[Int.toNat_natCast]
  exact app
 ·obtain⟨e1,e2⟩:=xr (r2:=.row s (m.take i).length) (r4:=.mem s) x hq f2 k2 f4 k4
  have ym:=H3 y f2 a2 k2 f4 a4 k4
  rw[bm,Gc (i:=i) (by omega)]
  refine⟨by simp,k-1,by omega,i+1,n4,els++[.ms n2 0 (List.replicate (nx sp a) (0:Int)).length],_,by rw[hel],by omega,e1,e2,?_,yo.snoc _ _⟩
  rw[List.take_add_one,hw]
  exact ym
theorem me.out {h:Heap}{ro:Ro}{s:Nat}{d:D}{m:Mm}(x:me h ro s d m):∃h'',Fs h h''/\uc h'' d (aP m):=by
 obtain⟨k,els,rfl,y⟩:=x
 obtain⟨p1,p2,-⟩:=y.IQ
 refine⟨dk h k 1 els,.step y.hk p1 (.refl _),?_⟩
 have:=cA (h:=dk h k 1 els) (n:=k) (e:=1) (els:=m.map words) (by rw[iH,p2]) (fun z hz w hw=>by
  simp only[List.mem_map]at hz
  obtain⟨z,-,rfl⟩:=hz
  simp[words]at hw;subst hw;rfl)
 rw[List.length_map]at this
 exact this
theorem I8 {c:Code}(hc:bh c) (sp:Int):aF PP fI [.sl (c.arrays.map bO.e),.int .i64 sp] (· = aP (iO c.arrays sp)):=by
 refine gh (Kc (ro:=fun _=>.no) hc sp 1 fun d h' ro' _ y=>?_)
 have ht:∀ds,d≠.tup ds:=by obtain⟨k,els,rfl,-⟩:=y;simp
 obtain⟨h'',i,z⟩:=y.r.out
 exact eF ht (by simp[aP]) i z.d rfl
section
variable {h:Heap}{ro:Ro}{dR dE dL:D}{dm:Nat->D}{st:St}
theorem Hb (x:kr h ro dR dE dL dm st) (it:It):∀d,d∈[D.int .i64 it.id,.int .i64 it.at_,.int .i64 it.block,.int .i64 it.epoch,dR,dm 3,dL]->d.one=true:=fun d hd=>by
 simp at hd
 have o3:=(x.mem 3 (by omega) (by omega)).one
 have oR:=x.regs.one
 have oL:=x.sl.one
 rcases hd with rfl|rfl|rfl|rfl|rfl|rfl|rfl<;>first|rfl|assumption
abbrev Ua:List D:=[(.int .i64 0),(.int .i64 0),(.int .i64 0),(.int .i64 0),(.int .i32 0),(.int .i64 0),(.int .i64 0),(.int .i32 0),(.int .i64 0),(.int .i64 0),(.int .i32 0),(.int .i64 0),(.int .i64 0)]
abbrev lL (it:It) (dR dP dL:D):List D:=[.int .i64 it.id,.int .i64 it.at_,.int .i64 it.block,.int .i64 it.epoch,dR,dP,dL]
theorem EN {P:Program}{n i j l s:Nat}{k:IntKind}{a:Int}{h:Heap}{KH:HK}:ab P (.iadda (.c (.ptr n i j)) (.c (.int k a)) l s) h KH=(0<=a/\a<l/\(h n).live=true/\KH (.ptr n i (j+a.toNat*s)) h):=rfl
theorem H9 {P:Program}{n j i:Nat}{a:Int}{d:D}{h:Heap}(ha:a=(i:Int)) (hi:i<2) (hb:h n=.box d){KH:HK}:ab P (.iadda (.c (.ptr n 0 j)) (.c (.int .i64 a)) 2 1) h KH=KH (.ptr n 0 (j+i)) h:=by
 subst ha
 rw[EN,hb]
 apply propext
 constructor
 ·rintro⟨-,-,-,h⟩;simpa using h
 ·intro h;exact⟨by omega,by omega,rfl,by simpa using h⟩
theorem Pr (x:kr h ro dR dE dL dm st){c:Code}{it:It}(hc:bh c) (hw:oC c st) (hb:0<=it.block/\it.block<(c.b.length:Int)){KH:HK}
  (hK:∀h' ro',Fr ro h ro' h'->kr h' ro' dR dE dL dm st->KH (Ad c { it with regs:=st.regs,priv:=st.mem 3 } dR (dm 3) dL) h'):ag PP m8 [c.e,rM it dR (dm 3) dL] h KH:=by
 refine aU A6 (aC _ _ _) rfl (AM _ _ _) ?_
 (unfold uy;try dsimp only[xL,yL,xF,yF,xI,yI,xS,zI,zJ])
 obtain⟨k,B,hbk,hB,hBm,ht,hi⟩:=hc.OB hb
 obtain⟨-,-,hT⟩:=hc.xs B hBm
 obtain⟨ho,hkd⟩:=hT.ops
 have B0:bN h ro h ro []:=bN.nil
 rw[cJ]
 refine⟨(jK c).2,fun n3 t=>?_⟩
 have x1:=x.new t.free (.box c.e)
 have B1:=B0.push t.free c.e
 generalize ah h n3 (.box c.e)=h1 at x1 B1
 generalize ah ro n3 .no=ro1 at x1 B1
 rw[cJ]
 refine⟨Hb x it,fun n5 t=>?_⟩
 have x2:=x1.new t.free (.box (rM it dR (dm 3) dL))
 have B2:=B1.push t.free (rM it dR (dm 3) dL)
 generalize ah h1 n5 (.box (rM it dR (dm 3) dL))=h2 at x2 B2
 generalize ah ro1 n5 .no=ro2 at x2 B2
 rw[bS]
 intro n7 t
 have x3:=x2.new t.free (.box (.agg EK))
 have B3:=B2.push t.free (.agg EK)
 generalize ah h2 n7 (.box (.agg EK))=h3 at x3 B3
 generalize ah ro2 n7 .no=ro3 at x3 B3
 have eb:∀{g:Heap}{K:HK},g n3=.box c.e->ab PP (.ld (.c (.ptr n3 0 7)) 1 false) g K=K (.sl (c.b.map Block.e)) g:=fun {g K} hg=>eV (cs:=[.int .i64 c.group,.int .i64 c.sub,.int .i64 c.regs,.int .i64 c.slots,.int .i64 c.params,.sl (c.arrays.map bO.e),.sl (c.loops.map Loop.e),.sl (c.b.map Block.e)]) hg rfl
 have hat:∀{g:Heap}{K:HK},ab PP (.iadd (.c (.sl (c.b.map Block.e))) (.c (.int .i64 it.block)) 14) g K=K (.vp B.e 0) g:=fun {g K}=>by rw[hbk,wz hB]
 simp only[↓bf (B3.used 2 rfl),↓bf (B3.used 1 rfl),Nat.zero_add,eb (B3.get 2 rfl),↓eV (cs:=lL it dR (dm 3) dL) (B3.get 1 rfl) (j:=2) rfl,hat,↓iu,↓Ky,true_and]
 rw[bS]
 intro n23 t
 have x4:=x3.new t.free (.box (.agg Ua))
 have B4:=B3.push t.free (.agg Ua)
 generalize ah h3 n23 (.box (.agg Ua))=h4 at x4 B4
 generalize ah ro3 n23 .no=ro4 at x4 B4
 have te:B.t.e=.agg B.t.cs:=rfl
 rw[te,m7 (s:=13) (cs:=Ua) (cs':=B.t.cs) (B4.get 0 rfl) rfl rfl (by simp[Term.cs])]
 have x5:=x4.aw (B4.rn 0 rfl) (.box (.agg B.t.cs))
 have B5:=B4.aw 0 rfl (.agg B.t.cs)
 generalize ah h4 n23 (.box (.agg B.t.cs))=h5 at x5 B5
 simp only[List.set_cons_zero]at B5
 clear x1 x2 x3 x4 B0 B1 B2 B3 B4
 obtain⟨it1,hit1⟩:∃it1:It,it1={ it with regs:=st.regs,priv:=st.mem 3 }:=⟨_,rfl⟩
 rw[<- hit1]at hK
 have tt:fO c it1.block=B.t:=by rw[hit1];exact ht
 have ei:∀{b:Int},rM it dR (dm 3) dL=rM it1 dR (dm 3) dL:=fun {b}=>by rw[hit1];rfl
 refine⟨fun _ g=>(fO c it1.block).kind≠5/\∃ro',bN h ro g ro' [(n23,.agg B.t.cs),(n7,.agg EK),(n5,rM (aT c it1) dR (dm 3) dL),(n3,c.e)]/\kr g ro' dR dE dL dm st,?_,?_⟩
 ·rintro _ g ⟨h5',ro',Y,y⟩
  rw[OZ (cs:=lL (aT c it1) dR (dm 3) dL) (Y.get 2 rfl) rfl,m7 (s:=7) (cs:=EK) (cs':=lL (aT c it1) dR (dm 3) dL) (Y.get 1 rfl) rfl rfl (Hb x _),OZ (cs:=lL (aT c it1) dR (dm 3) dL) (ad _ _ _) rfl]
  have:=hK _ ro' (Y.aw 1 rfl (.agg (lL (aT c it1) dR (dm 3) dL))).fr (y.aw (Y.rn 1 rfl) _)
  simp only[Ad,h5',if_false]at this
  exact this
 have Hy:∀{g:Heap}{j:Nat}{d:D}{K:HK},g n23=.box (.agg B.t.cs)->B.t.cs[j]?=some d->ab PP (.ld (.c (.ptr n23 0 j)) 1 false) g K=K d g:=fun a b=>eV a b
 have setc:∀{g:Heap}{ro':Ro}{cs:List D}{j:Nat}{d:D}{it':It}{Q:Heap->Prop},bN h ro g ro' [(n23,.agg B.t.cs),(n7,.agg EK),(n5,.agg cs),(n3,c.e)]->kr g ro' dR dE dL dm st->j<cs.length->d.one=true->cs.set j d=lL it' dR (dm 3) dL ->
   (∀g',bN h ro g' ro' [(n23,.agg B.t.cs),(n7,.agg EK),(n5,rM it' dR (dm 3) dL),(n3,c.e)]->kr g' ro' dR dE dL dm st->Q g')->ab PP (.st (.c (.ptr n5 0 j)) (.c d) 1) g fun _ g'=>Q g':=by
  intro g ro' cs j d it' Q Y y hj hd hs hQ
  rw[IP (cs:=cs) (Y.get 2 rfl) hj hd,hs]
  exact hQ _ (Y.aw 2 rfl (.agg (lL it' dR (dm 3) dL))) (y.aw (Y.rn 2 rfl) _)
 simp only[↓bf (B5.used 0 rfl),Nat.zero_add,Hy (B5.get 0 rfl) (j:=0) rfl,↓aN,true_and]
 rcases hkd with h0|h0|h0|h0|h0
 ·simp only[h0,decide_true,↓af,↓bf (B5.used 0 rfl),Nat.zero_add,true_and]
  rw[H9 (a:=0) (i:=0) rfl (by omega) (B5.get 0 rfl),Hy (B5.get 0 rfl) (j:=11) rfl]
  simp only[↓bf (B5.used 2 rfl),Nat.zero_add,ai,true_and]
  have el:aT c it1={ it1 with block:=B.t.to0 }:=by simp[aT,tt,h0]
  refine setc (cs:=lL it dR (dm 3) dL) (it':=aT c it1) B5 x5 (by simp) rfl (by rw[el,hit1];rfl) fun g' Y y=>⟨by rw[tt,h0];simp,ro4,Y,y⟩
 ·simp only[h0,Int.reduceEq,decide_false,decide_true,↓af,↓ae,↓bf (B5.used 0 rfl),Nat.zero_add,true_and]
  rw[H9 (a:=1) (i:=1) rfl (by omega) (B5.get 0 rfl),Hy (B5.get 0 rfl) (j:=12) rfl]
  simp only[↓bf (B5.used 2 rfl),Nat.zero_add,true_and]
  refine setc (cs:=lL it dR (dm 3) dL) (it':={ it with block:=B.t.to1 }) B5 x5 (by simp) rfl rfl fun g6 Y6 y6=>?_
  have l3:∀{g:Heap}{K:HK},g n23=.box (.agg B.t.cs)->ab PP (.ld (.c (.ptr n23 0 5)) 3 true) g K=K B.t.a.e g:=fun {g K} hg=>by rw[rL hg (by simp[Term.cs])];rfl
  rw[OZ (cs:=lL { it with block:=B.t.to1 } dR (dm 3) dL) (Y6.get 2 rfl) rfl]
  simp only[↓bf (Y6.used 0 rfl),Nat.zero_add,l3 (Y6.get 0 rfl),true_and]
  refine zZ y6 (it:={ it with block:=B.t.to1 }) (o:=B.t.a) (by rw[hw.len];exact ho) fun g7 e7 y7=>?_
  have Y7:=Y6.step (Fr.ext (ro:=ro4) e7)
  rw[ck]
  by_cases hz:aV st.regs B.t.a=0
  ·simp only[hz,decide_true,Bool.not_true,↓ae,ai,true_and]
   have el:aT c it1={ it1 with block:=B.t.to1 }:=by simp[aT,tt,h0];rw[hit1];simp[hz]
   refine⟨by rw[tt,h0];simp,ro4,?_,y7⟩
   rw[el,hit1];exact Y7
  ·simp only[hz,decide_false,Bool.not_false,↓af,↓bf (Y7.used 0 rfl),Nat.zero_add,true_and]
   rw[H9 (a:=0) (i:=0) rfl (by omega) (Y7.get 0 rfl),Hy (Y7.get 0 rfl) (j:=11) rfl]
   simp only[↓bf (Y7.used 2 rfl),Nat.zero_add,ai,true_and]
   have el:aT c it1={ it1 with block:=B.t.to0 }:=by simp[aT,tt,h0];rw[hit1];simp[hz]
   refine setc (cs:=lL { it with block:=B.t.to1 } dR (dm 3) dL) (it':=aT c it1) Y7 y7 (by simp) rfl (by rw[el,hit1];rfl) fun g' Y y=>⟨by rw[tt,h0];simp,ro4,Y,y⟩
 ·simp only[h0,Int.reduceEq,decide_false,↓ae,↓bf (B5.used 2 rfl),Nat.zero_add,ai,true_and]
  have el:aT c it1={ it1 with at_:=2 }:=by simp[aT,tt,h0]
  refine setc (cs:=lL it dR (dm 3) dL) (it':=aT c it1) B5 x5 (by simp) rfl (by rw[el,hit1];rfl) fun g' Y y=>⟨by rw[tt,h0];simp,ro4,Y,y⟩
 ·simp only[h0,Int.reduceEq,decide_false,↓ae,↓bf (B5.used 2 rfl),Nat.zero_add,ai,true_and]
  have el:aT c it1={ it1 with at_:=2 }:=by simp[aT,tt,h0]
  refine setc (cs:=lL it dR (dm 3) dL) (it':=aT c it1) B5 x5 (by simp) rfl (by rw[el,hit1];rfl) fun g' Y y=>⟨by rw[tt,h0];simp,ro4,Y,y⟩
 ·have c0:=B5.get 3 rfl
  have hr:=hc.regs
  have hs:=hc.slots
  have dcc:∀{K:D->Prop}{j:Nat}{d:D},([.int .i64 c.group,.int .i64 c.sub,.int .i64 c.regs,.int .i64 c.slots,.int .i64 c.params,.sl (c.arrays.map bO.e),.sl (c.loops.map Loop.e),.sl (c.b.map Block.e)]:List D)[j]?=some d->aq PP (.ld (.c (.ptr n3 0 j)) 1 false) h5 K=K d:=fun {K j d} hj=>cf (cs:=[.int .i64 c.group,.int .i64 c.sub,.int .i64 c.regs,.int .i64 c.slots,.int .i64 c.params,.sl (c.arrays.map bO.e),.sl (c.loops.map Loop.e),.sl (c.b.map Block.e)]) c0 hj
  have hmk:∀{K:D->Prop}{n:Int},0<=n->n<=1000->K (words (List.replicate n.toNat 0))->aq PP (.mk 1 4 (.int .i32 0) (.c (.int .i64 n)) (.c (.int .i64 n))) h5 K:=fun {K n} a1 a2 hk =>
   ⟨⟨a1,by omega,by omega,by omega⟩,⟨rfl,by simp⟩,by rw[Aa];exact hk⟩
  simp only[h0,Int.reduceEq,decide_false,decide_true,↓af,↓ae,↓aE,B5.used 2 rfl,B5.used 3 rfl,Nat.zero_add,↓cf (cs:=lL it dR (dm 3) dL) (B5.get 2 rfl) (j:=0) rfl,↓cf (cs:=lL it dR (dm 3) dL) (B5.get 2 rfl) (j:=3) rfl,dcc (j:=2) rfl,true_and]
  refine hmk (by omega) (by omega) ?_
  simp only[↓aE,B5.used 3 rfl,Nat.zero_add,dcc (j:=5) rfl,true_and]
  refine po (I8 hc 3) ?_ ?_
  ·intro z hz
   simp[Arg.get]at hz
   rcases hz with rfl|rfl
   ·exact T5 rfl
   ·exact kh
  simp only[↓aE,B5.used 3 rfl,Nat.zero_add,dcc (j:=3) rfl,true_and]
  refine hmk (by omega) (by omega) ?_
  rw[jJ rfl]
  have e:(D.agg (fillD [.int .i64 0,.int .i64 0,.int .i64 0,.int .i64 0,.nil,.nil,.nil] ([(0,1,Arg.c (D.int .i64 it.id)),(1,1,.c (.int .i64 3)),(3,1,.c (.int .i64 it.epoch)),(4,1,.c (words (List.replicate c.regs.toNat 0))),(5,1,.c (aP (iO c.arrays 3))),(6,1,.c (words (List.replicate c.slots.toNat 0)))].map fun p=>(p.1,p.2.1,(p.2.2.get []).cells))))=.agg (bE c it.id it.epoch 3).cs:=by
   rw[hs];rfl
  rw[e,m7 (s:=7) (cs:=EK) (cs':=(bE c it.id it.epoch 3).cs) (B5.get 1 rfl) rfl rfl (by simp[It.cs,words,aP]),OZ (cs:=(bE c it.id it.epoch 3).cs) (ad _ _ _) rfl]
  have:=hK _ ro4 (B5.aw 1 rfl (.agg (bE c it.id it.epoch 3).cs)).fr (x5.aw (B5.rn 1 rfl) _)
  simp only[Ad,tt,h0,if_true]at this
  rw[hit1]at this
  exact this
end
end Go.Am
namespace Go.Am
open Go
def gI (r:qL):D:=.agg [.int .i64 r.it.id,.int .i64 r.it.at_,.int .i64 r.it.block,.int .i64 r.it.epoch,words r.it.regs,aP r.it.priv,.sl [],aP r.g,aP r.s,.sl (r.ev.map Ev.e),.int .i64 r.e]
def xt (g s:Mm):D:=.agg [aP g,aP s]
theorem Jh {c:Code}{it1:It}(h5:(fO c it1.block).kind≠5):(aT c it1).regs=it1.regs/\(aT c it1).priv=it1.priv:=by
 simp only[aT]
 split
 ·exact⟨rfl,rfl⟩
 ·split
  ·exact⟨rfl,rfl⟩
  ·first|exact⟨rfl,rfl⟩|(rw[if_neg h5];exact⟨rfl,rfl⟩)
theorem Sx {h:Heap}{c:Code}{it:It}{st:St}{dR dP dL dG dS dE:D}{r:qL}(hr:r.it=aT c { it with regs:=st.regs,priv:=st.mem 3 }/\r.g=st.mem 1/\r.s=st.mem 2/\r.ev=st.ev/\r.e=0)
  (hR:uc h dR (words st.regs)) (hP:uc h dP (aP (st.mem 3))) (hL:uc h dL (.sl [])) (hG:uc h dG (aP (st.mem 1))) (hS:uc h dS (aP (st.mem 2))) (hE:uc h dE (.sl (st.ev.map Ev.e))) :
  O0 h (.agg ((Ad c { it with regs:=st.regs,priv:=st.mem 3 } dR dP dL).cells++[dG,dS,dE,.int .i64 0])) (gI r):=by
 obtain⟨r1,r2,r3,r4,r5⟩:=hr
 obtain⟨it1,h1⟩:∃it1:It,it1={ it with regs:=st.regs,priv:=st.mem 3 }:=⟨_,rfl⟩
 rw[<- h1]at r1 ⊢
 have p1:it1.regs=st.regs:=by rw[h1]
 have p2:it1.priv=st.mem 3:=by rw[h1]
 have e:gI r=.agg [.int .i64 (aT c it1).id,.int .i64 (aT c it1).at_,.int .i64 (aT c it1).block,.int .i64 (aT c it1).epoch,words (aT c it1).regs,aP (aT c it1).priv,.sl [],aP (st.mem 1),aP (st.mem 2),.sl (st.ev.map Ev.e),.int .i64 0]:=by
  rw[gI,r1,r2,r3,r4,r5]
 rw[e]
 unfold Ad
 by_cases h5:(fO c it1.block).kind=5
 ·rw[if_pos h5]
  have el:aT c it1=bE c it1.id it1.epoch 3:=by simp[aT,h5]
  rw[el]
  exact(A4.cons (aG rfl) (.cons (aG rfl) (.cons (aG rfl) (.cons (aG rfl) (.cons (aG rfl) (.cons (aG rfl) (.cons (aG rfl) (.cons hG (.cons hS (.cons hE (.cons (aG rfl) .nil))))))))))).agg
 ·rw[if_neg h5]
  obtain⟨l1,l2⟩:=Jh h5
  rw[l1,l2,p1,p2]
  exact(A4.cons (aG rfl) (.cons (aG rfl) (.cons (aG rfl) (.cons (aG rfl) (.cons hR (.cons hP (.cons hL (.cons hG (.cons hS (.cons hE (.cons (aG rfl) .nil))))))))))).agg
theorem Qe {h:Heap}{it:It}{g s:Mm}{n:Int}{r:qL}(hr:r=⟨it,g,s,[],n⟩):O0 h (.agg (it.cs++[aP g,aP s,.nil,.int .i64 n])) (gI r):=by
 subst hr
 exact(A4.cons (aG rfl) (.cons (aG rfl) (.cons (aG rfl) (.cons (aG rfl) (.cons (aG rfl) (.cons (aG rfl) (.cons (aG rfl) (.cons (aG rfl) (.cons (aG rfl) (.cons fK (.cons (aG rfl) .nil))))))))))).agg
theorem MY {c:Code}{l:dA}{it:It}{g s:Mm}{aw:Int}(hc:bh c) (hl:jw c l) (hi:OU c l it) (hg:gg c.arrays 1 g) (hs:gg c.arrays 2 s) :
  aF PP lF [c.e,l.e,it.e,xt g s,.int .i64 aw] (· = gI (dC c l it g s aw)):=by
 refine gh (aU zc (aC _ _ _) rfl (yc _ _ _ _ _ _) ?_)
 (unfold sk;try dsimp only[xL,yL,xF,yF,xI,yI,xS,zI,zJ])
 obtain⟨ro,hro⟩:∃ro:Ro,ro=fun _=>mc.no:=⟨_,rfl⟩
 have B0:bN aM ro aM ro []:=bN.nil
 rw[cJ]
 refine⟨(jK c).2,fun n6 t=>?_⟩
 have B1:=B0.push t.free c.e
 generalize ah aM n6 (.box c.e)=h1 at B1
 generalize ah ro n6 .no=ro1 at B1
 rw[cJ]
 refine⟨List.all_eq_true.1 (dA.on l),fun n8 t=>?_⟩
 have B2:=B1.push t.free l.e
 generalize ah h1 n8 (.box l.e)=h2 at B2
 generalize ah ro1 n8 .no=ro2 at B2
 rw[cJ]
 refine⟨it.cu.one,fun n10 t=>?_⟩
 have B3:=B2.push t.free it.e
 generalize ah h2 n10 (.box it.e)=h3 at B3
 generalize ah ro2 n10 .no=ro3 at B3
 rw[cJ]
 refine⟨(by simp[xt,aP]:aB (xt g s)),fun n12 t=>?_⟩
 have B4:=B3.push t.free (xt g s)
 generalize ah h3 n12 (.box (xt g s))=h4 at B4
 generalize ah ro3 n12 .no=ro4 at B4
 rw[bS]
 intro n14 t
 have B5:=B4.push t.free (.agg tJ)
 generalize ah h4 n14 (.box (.agg tJ))=h5 at B5
 generalize ah ro4 n14 .no=ro5 at B5
 clear B0 B1 B2 B3 B4
 have g7:∀{g':Heap}{K:HK},g' n10=.box it.e->ab PP (.ld (.c (.ptr n10 0 0)) 7 true) g' K=K it.e g':=fun {g' K} hg'=>OZ (cs:=it.cs) hg' rfl
 have d7:∀{g':Heap}{K:D->Prop},g' n10=.box it.e->aq PP (.ld (.c (.ptr n10 0 0)) 7 true) g' K=K it.e:=fun {g' K} hg'=>by rw[bL];exact g7 hg'
 have ia:∀{g':Heap}{K:HK}{a:Int}{i:Nat},a=(i:Int)->i<2->g' n12=.box (xt g s)->ab PP (.iadda (.c (.ptr n12 0 0)) (.c (.int .i64 a)) 2 1) g' K=K (.ptr n12 0 i) g':=fun {g' K a i} ha hi' hb=>by rw[H9 ha hi' hb,Nat.zero_add]
 have dia:∀{g':Heap}{K:D->Prop}{a:Int}{i:Nat},a=(i:Int)->i<2->g' n12=.box (xt g s)->aq PP (.iadda (.c (.ptr n12 0 0)) (.c (.int .i64 a)) 2 1) g' K=K (.ptr n12 0 i):=fun {g' K a i} ha hi' hb=>by rw[pn,ia ha hi' hb]
 have m0:∀{g':Heap}{K:HK},g' n12=.box (xt g s)->ab PP (.ld (.c (.ptr n12 0 0)) 1 false) g' K=K (aP g) g':=fun {g' K} hg'=>eV (cs:=[aP g,aP s]) hg' rfl
 have m1:∀{g':Heap}{K:HK},g' n12=.box (xt g s)->ab PP (.ld (.c (.ptr n12 0 1)) 1 false) g' K=K (aP s) g':=fun {g' K} hg'=>eV (cs:=[aP g,aP s]) hg' rfl
 have dm0:∀{g':Heap}{K:D->Prop},g' n12=.box (xt g s)->aq PP (.ld (.c (.ptr n12 0 0)) 1 false) g' K=K (aP g):=fun {g' K} hg'=>cf (cs:=[aP g,aP s]) hg' rfl
 have dm1:∀{g':Heap}{K:D->Prop},g' n12=.box (xt g s)->aq PP (.ld (.c (.ptr n12 0 1)) 1 false) g' K=K (aP s):=fun {g' K} hg'=>cf (cs:=[aP g,aP s]) hg' rfl
 rw[g7 (B5.get 2 rfl),ia (a:=0) (i:=0) rfl (by omega) (B5.get 1 rfl),m0 (B5.get 1 rfl),ia (a:=1) (i:=1) rfl (by omega) (B5.get 1 rfl),m1 (B5.get 1 rfl),cI rfl]
 have e1:D.agg (fillD tJ ([(0,7,Arg.c it.e),(7,1,.c (aP g)),(8,1,.c (aP s))].map fun p=>(p.1,p.2.1,(p.2.2.get []).cells)))=.agg (it.cs++[aP g,aP s,.nil,.int .i64 0]):=rfl
 rw[e1,bS]
 intro n28 t
 have B6:=B5.push t.free (.agg tJ)
 generalize ah h5 n28 (.box (.agg tJ))=h6 at B6
 generalize ah ro5 n28 .no=ro6 at B6
 rw[m7 (s:=11) (cs:=tJ) (cs':=it.cs++[aP g,aP s,.nil,.int .i64 0]) (B6.get 0 rfl) rfl rfl (by simp[It.cs,words,aP])]
 have B7:=B6.aw 0 rfl (.agg (it.cs++[aP g,aP s,.nil,.int .i64 0]))
 generalize ah h6 n28 (.box (.agg (it.cs++[aP g,aP s,.nil,.int .i64 0])))=h7 at B7
 simp only[List.set_cons_zero]at B7
 clear B5 B6
 have same:∀{g':Heap}{ro':Ro}{n:Int}{L:List (Nat×D)},bN aM ro g' ro' ((n28,.agg (it.cs++[aP g,aP s,.nil,.int .i64 0]))::(n14,.agg tJ)::L)->dC c l it g s aw=⟨it,g,s,[],n⟩ ->
   ab PP (.fadd (.c (.ptr n28 0 0)) 10) g' fun a37 h38=>ab PP (.st (.c a37) (.c (.int .i64 n)) 1) h38 fun _ h40=>ab PP (.ld (.c (.ptr n28 0 0)) 11 true) h40 fun a41 h42 =>
   ab PP (.st (.c (.ptr n14 0 0)) (.c a41) 11) h42 fun _ h44=>ab PP (.ld (.c (.ptr n14 0 0)) 11 true) h44 fun a45 _=>Fp (· = gI (dC c l it g s aw)) a45 h44:=by
  intro g' ro' n L Y hst
  simp only[↓bf (Y.used 0 rfl),Nat.zero_add,true_and]
  rw[IP (cs:=it.cs++[aP g,aP s,.nil,.int .i64 0]) (Y.get 0 rfl) (by simp[It.cs]) rfl]
  have es:(it.cs++[aP g,aP s,.nil,.int .i64 0]).set 10 (.int .i64 n)=it.cs++[aP g,aP s,.nil,.int .i64 n]:=rfl
  rw[es]
  have Y2:=Y.aw 0 rfl (.agg (it.cs++[aP g,aP s,.nil,.int .i64 n]))
  rw[AA (cs:=it.cs++[aP g,aP s,.nil,.int .i64 n]) (Y2.get 0 rfl) rfl,m7 (s:=11) (cs:=tJ) (cs':=it.cs++[aP g,aP s,.nil,.int .i64 n]) (Y2.get 1 rfl) rfl rfl (by simp[It.cs,words,aP]),AA (cs:=it.cs++[aP g,aP s,.nil,.int .i64 n]) (ad _ _ _) rfl]
  exact eF (by simp) (by simp[gI]) (.refl _) (Qe hst) rfl
 simp only[↓bf (B7.used 3 rfl),Nat.zero_add,↓eV (cs:=it.cs) (B7.get 3 rfl) (j:=1) rfl,↓ck,true_and]
 by_cases ha:it.at_=1
 case neg =>
  simp only[ha,decide_false,Bool.not_false,↓af]
  exact same B7 (by simp[dC,ha])
 simp only[ha,decide_true,Bool.not_true,↓ae,d7 (B7.get 3 rfl),dia (a:=0) (i:=0) rfl (by omega) (B7.get 2 rfl),dm0 (B7.get 2 rfl),dia (a:=1) (i:=1) rfl (by omega) (B7.get 2 rfl),dm1 (B7.get 2 rfl)]
 have hrl:=hi.len
 have hrr:=hc.regs
 refine Ew (ro:=ro6) (it:=it) (by omega) (hi.priv.b hc) fun dR dP dL h8 ro8 x8 R8 P8 L8=>?_
 have B8:=B7.step x8.fr
 simp only[dia (a:=0) (i:=0) rfl (by omega) (B8.get 2 rfl),dm0 (B8.get 2 rfl),dia (a:=1) (i:=1) rfl (by omega) (B8.get 2 rfl),dm1 (B8.get 2 rfl),ai,true_and,and_true]
 refine Ey (ro:=ro8) (hg.b hc) 1 fun dG h9 ro9 x9 G9=>?_
 have B9:=B8.step x9.fr
 have R9:=R8.aA x9.aA
 have P9:=P8.aA x9.aA
 have L9:=L8.aA x9.aA
 simp only[dia (a:=1) (i:=1) rfl (by omega) (B9.get 2 rfl),dm1 (B9.get 2 rfl),ai,true_and,and_true]
 refine Ey (ro:=ro9) (hs.b hc) 2 fun dS h10 ro10 x10 S10=>?_
 have B10:=B9.step x10.fr
 have R10:=R9.aA x10.aA
 have P10:=P9.aA x10.aA
 have L10:=L9.aA x10.aA
 have G10:=G9.aA x10.aA
 clear B7 B8 B9 R8 P8 L8 R9 P9 L9 G9 x8 x9 x10
 obtain⟨dm,hdm1,hdm2,hdm3⟩:∃dm:Nat->D,dm 1=dG/\dm 2=dS/\dm 3=dP:=⟨fun k=>if k=1 then dG else if k=2 then dS else dP,rfl,rfl,rfl⟩
 subst hdm1 hdm2 hdm3
 have X10:kr h10 ro10 dR .nil dL dm (zY it g s):=⟨R10,fun k k1 k2=>by
  have:k=1\/k=2\/k=3:=by omega
  rcases this with rfl|rfl|rfl
  ·exact G10
  ·exact S10
  ·exact P10,Or.inl ⟨rfl,rfl⟩,L10⟩
 clear R10 P10 L10 G10 S10
 have cG:=gM (X10.mem 1 (by omega) (by omega)).one
 have cS:=gM (X10.mem 2 (by omega) (by omega)).one
 have oG:=(X10.mem 1 (by omega) (by omega)).one
 have oS:=(X10.mem 2 (by omega) (by omega)).one
 have oI:=Hb X10 it
 rw[Iq,kC]
 refine⟨fun p hp=>?_,?_⟩
 ·simp only[List.map_cons,List.map_nil,List.mem_cons,List.not_mem_nil,or_false,NS]at hp
  rcases hp with rfl|rfl|rfl
  ·exact⟨rfl,by simp,oI⟩
  ·exact⟨by simp only[cG];rfl,by simp,fun d hd=>by simp only[cG]at hd;simp at hd;subst hd;exact oG⟩
  ·exact⟨by simp only[cS];rfl,by simp,fun d hd=>by simp only[cS]at hd;simp at hd;subst hd;exact oS⟩
 have e2:D.agg (fillD tJ ([(0,7,Arg.c (rM it dR (dm 3) dL)),(7,1,.c (dm 1)),(8,1,.c (dm 2))].map fun p=>(p.1,p.2.1,(p.2.2.get []).cells)))=.agg (ez it dR dL .nil dm 0):=by
  simp[fillD,cG,cS,rM]
 rw[e2,bS]
 intro n64 t
 have B11:=B10.push t.free (.agg tJ)
 have X11:=X10.new t.free (.box (.agg tJ))
 generalize ah h10 n64 (.box (.agg tJ))=h11 at B11 X11
 generalize ah ro10 n64 .no=ro11 at B11 X11
 clear B10 X10 e2
 simp only[d7 (B11.get 4 rfl),dia (a:=0) (i:=0) rfl (by omega) (B11.get 3 rfl),dm0 (B11.get 3 rfl),dia (a:=1) (i:=1) rfl (by omega) (B11.get 3 rfl),dm1 (B11.get 3 rfl),ai,true_and,and_true]
 rw[m7 (s:=11) (cs:=tJ) (cs':=ez it dR dL .nil dm 0) (B11.get 0 rfl) rfl rfl (X11.dN it 0)]
 have B12:=B11.aw 0 rfl (.agg (ez it dR dL .nil dm 0))
 have X12:=X11.aw (B11.rn 0 rfl) (.box (.agg (ez it dR dL .nil dm 0)))
 generalize ah h11 n64 (.box (.agg (ez it dR dL .nil dm 0)))=h12 at B12 X12
 simp only[List.set_cons_zero]at B12
 clear B11 X11
 obtain⟨k,B,hbk,hB,hBm,-,hins⟩:=hc.OB hi.block
 obtain⟨hxs,hxl,-⟩:=hc.xs B hBm
 have sP:dC c l it g s aw=match runP c l it.id aw it.block B.i 0 (zY it g s) with
   | none=>⟨it,g,s,[],70⟩
   | some st=>⟨aT c { it with regs:=st.regs,priv:=st.mem 3 },st.mem 1,st.mem 2,st.ev,0⟩:=by
  unfold dC
  rw[if_neg (by simp[ha]),hins]
  cases runP c l it.id aw it.block B.i 0 (zY it g s)<;>rfl
 have w0:oC c (zY it g s):=GO hi hg hs
 have eb:∀{g':Heap}{K:HK},g' n6=.box c.e->ab PP (.ld (.c (.ptr n6 0 7)) 1 false) g' K=K (.sl (c.b.map Block.e)) g':=fun {g' K} hg'=>eV (cs:=[.int .i64 c.group,.int .i64 c.sub,.int .i64 c.regs,.int .i64 c.slots,.int .i64 c.params,.sl (c.arrays.map bO.e),.sl (c.loops.map Loop.e),.sl (c.b.map Block.e)]) hg' rfl
 have hat:∀{g':Heap}{K:HK},ab PP (.iadd (.c (.sl (c.b.map Block.e))) (.c (.int .i64 it.block)) 14) g' K=K (.vp B.e 0) g':=fun {g' K}=>by rw[hbk,wz hB]
 simp only[↓bf (B12.used 6 rfl),↓bf (B12.used 4 rfl),Nat.zero_add,eb (B12.get 6 rfl),↓eV (cs:=it.cs) (B12.get 4 rfl) (j:=2) rfl,hat,↓iu,↓QY,true_and]
 have h8:∀{g':Heap}{K:HK},g' n6=.box c.e->ab PP (.ld (.c (.ptr n6 0 0)) 8 true) g' K=K c.e g':=fun {g' K} hg'=>dt hg'
 have d8:∀{g':Heap}{K:D->Prop},g' n6=.box c.e->aq PP (.ld (.c (.ptr n6 0 0)) 8 true) g' K=K c.e:=fun {g' K} hg'=>by rw[bL];exact dt hg'
 have d2:∀{g':Heap}{K:D->Prop},g' n8=.box l.e->aq PP (.ld (.c (.ptr n8 0 0)) 2 true) g' K=K l.e:=fun {g' K} hg'=>by rw[bL];exact dt hg'
 obtain⟨Lb,hLb⟩:∃Lb:List (Nat×D),Lb=[(n28,.agg (it.cs++[aP g,aP s,.nil,.int .i64 0])),(n14,.agg tJ),(n12,xt g s),(n10,it.e),(n8,l.e),(n6,c.e)]:=⟨_,rfl⟩
 refine⟨fun _ g'=>∃(ro':Ro) (st':St) (dE:D),bN aM ro g' ro' ((n64,.agg (ez it dR dL dE dm 0))::Lb)/\kr g' ro' dR dE dL dm st'/\oC c st'/\runP c l it.id aw it.block B.i 0 (zY it g s)=some st',?_,?_⟩
 ·rintro _ g' ⟨ro',st',dE,Y,y,W,P⟩
  rw[hLb]at Y
  rw[P]at sP
  have s7:∀{g':Heap}{K:HK},g' n64=.box (.agg (ez it dR dL dE dm 0))->ab PP (.ld (.c (.ptr n64 0 0)) 7 true) g' K=K (rM it dR (dm 3) dL) g':=fun {g' K} hg'=>by rw[rL hg' (by simp)];rfl
  simp only[h8 (Y.get 6 rfl),↓bf (Y.used 0 rfl),Nat.zero_add,s7 (Y.get 0 rfl),true_and]
  refine Pr y hc W hi.block fun g2 ro2 F z=>?_
  have Z:=Y.step F
  have o3:=(z.mem 3 (by omega) (by omega)).one
  have o1:=(z.mem 1 (by omega) (by omega)).one
  have o2:=(z.mem 2 (by omega) (by omega)).one
  have oE:=z.ev.one
  obtain⟨cs,q1,q2,q3⟩:=HY (c:=c) (it:={ it with regs:=st'.regs,priv:=st'.mem 3 }) z.regs.one o3 z.sl.one
  have fzo:=fun(h'':Heap)=>Sx (h:=h'') (c:=c) (it:=it) (st:=st') (dR:=dR) (dP:=dm 3) (dL:=dL) (dG:=dm 1) (dS:=dm 2) (dE:=dE) (r:=dC c l it g s aw) (by rw[sP];exact⟨rfl,rfl,rfl,rfl,rfl⟩)
  rw[q1]at q3 fzo ⊢
  simp only[↓bf (Z.used 0 rfl),Nat.zero_add,true_and]
  rw[du,Z.get 0 rfl]
  have es:setCells (.agg (ez it dR dL dE dm 0)) 0 (D.agg cs).cells=.agg (cs++[dm 1,dm 2,dE,.int .i64 0]):=by
   simp only[setCells,bX,List.take_zero,List.nil_append,q2];rfl
  refine⟨q2,q3,rfl,by simp,?_⟩
  rw[es]
  have Z2:=Z.aw 0 rfl (.agg (cs++[dm 1,dm 2,dE,.int .i64 0]))
  have z2:=z.aw (Z.rn 0 rfl) (.box (.agg (cs++[dm 1,dm 2,dE,.int .i64 0])))
  have l11:(cs++[dm 1,dm 2,dE,D.int .i64 0]).length=11:=by simp[q2]
  have oA:∀d,d∈cs++[dm 1,dm 2,dE,D.int .i64 0]->d.one=true:=fun d hd=>by
   rcases List.mem_append.1 hd with hd|hd
   ·exact q3 d hd
   ·simp at hd;rcases hd with rfl|rfl|rfl|rfl<;>first|rfl|assumption
  rw[AA (cs:=cs++[dm 1,dm 2,dE,.int .i64 0]) (Z2.get 0 rfl) l11,m7 (s:=11) (cs:=tJ) (cs':=cs++[dm 1,dm 2,dE,.int .i64 0]) (Z2.get 2 rfl) rfl l11 oA,AA (cs:=cs++[dm 1,dm 2,dE,.int .i64 0]) (ad _ _ _) l11]
  obtain⟨h3,i1,i2,i3,i4,i5,-⟩:=(z2.aw (Z2.rn 2 rfl) (.box (.agg (cs++[dm 1,dm 2,dE,.int .i64 0])))).r.out
  exact eF (by simp) (by simp[gI]) i1 (fzo h3 i2 (i5 3 (by omega) (by omega)) i4 (i5 1 (by omega) (by omega)) (i5 2 (by omega) (by omega)) i3) rfl
 (unfold mE;try dsimp only[xL,yL,xF,yF,xI,yI,xS,zI,zJ])
 refine⟨fun m qs g'=>∃(i:Nat) (ro':Ro) (st':St) (dE:D),qs=[.int .i64 (i:Int)]/\m+i=B.i.length/\bN aM ro g' ro' ((n64,.agg (ez it dR dL dE dm 0))::Lb)/\kr g' ro' dR dE dL dm st'/\oC c st'/\st'.ev.length<=i /\
   runP c l it.id aw it.block (B.i.drop i) i st'=runP c l it.id aw it.block B.i 0 (zY it g s),B.i.length,⟨0,ro11,zY it g s,.nil,rfl,by omega,by rw[hLb];exact B12,X12,w0,by simp[zY],by simp⟩,?_⟩
 rintro m f g' ⟨i,ro',st',dE,hf,hmi,Y,y,W,E,P⟩
 rw[hLb]at Y
 simp only[List.cons.injEq,and_true]at hf
 rw[hf,lz,List.length_map,bM]
 by_cases hlt:i<B.i.length
 case neg =>
  simp only[show ¬((i:Int)<(B.i.length:Int)) by omega,decide_false,↓ae,ai,true_and]
  rw[List.drop_of_length_le (by omega)]at P
  exact⟨ro',st',dE,by rw[hLb];exact Y,y,W,P.symm⟩
 have hx:B.i[i]?=some B.i[i]:=List.getElem?_eq_getElem hlt
 have cu:∀{K:D->Prop},aq PP (.iadd (.c (.sl (B.i.map aQ.e))) (.c (.int .i64 (i:Int))) 15) g' K=K (.vp (aQ.e B.i[i]) 0):=fun {K}=>by rw[dW,Kn hx]
 have dld:∀{K:D->Prop},aq PP (.ld (.c (.vp (aQ.e B.i[i]) 0)) 15 true) g' K=K (aQ.e B.i[i]):=fun {K}=>by rw[bL,Km]
 have d11:∀{K:D->Prop},aq PP (.ld (.c (.ptr n64 0 0)) 11 true) g' K=K (.agg (ez it dR dL dE dm 0)):=fun {K}=>by rw[bL,AA (Y.get 0 rfl) rfl]
 simp only[show((i:Int)<(B.i.length:Int)) by omega,decide_true,↓af,d8 (Y.get 6 rfl),d2 (Y.get 5 rfl),d11,cu,dld,↓aE,Y.used 4 rfl,Nat.zero_add,↓cf (cs:=it.cs) (Y.get 4 rfl) (j:=0) rfl,↓cf (cs:=it.cs) (Y.get 4 rfl) (j:=2) rfl,true_and]
 rw[jJ rfl]
 have ee:D.agg (fillD [.int .i64 0,.int .i64 0,.int .i64 0,.int .i64 0,.int .i64 0,.int .i64 0,.int .i64 0,.int .i64 0,.int .i32 0]
   ([(2,1,Arg.c (.int .i64 it.id)),(3,1,.c (.int .i64 aw)),(4,1,.c (.int .i64 it.block)),(5,1,.c (.int .i64 (i:Int)))].map fun p=>(p.1,p.2.1,(p.2.2.get []).cells)))=(TX it.id aw it.block (i:Int)).e:=rfl
 rw[ee]
 have P2:runP c l it.id aw it.block (B.i.drop i) i st'=(cO c l it.id B.i[i] (TX it.id aw it.block i) st').bind (runP c l it.id aw it.block (B.i.drop (i+1)) (i+1)):=by
  rw[List.drop_eq_getElem_cons hlt];rfl
 have iok:=hxs _ (List.getElem_mem hlt)
 refine FY y hc hl hi.id W (by omega) iok (fun st2 h2 ro2 dE2 hst F2 y2=>?_) (fun h2 ro2 hst F2 y2=>?_)
 ·obtain⟨w2,l2⟩:=rN hc hl W iok hst
  rw[hst]at P2
  have Y2:=Y.step F2
  rw[m7 (s:=11) (cs:=ez it dR dL dE dm 0) (cs':=ez it dR dL dE2 dm 0) (Y2.get 0 rfl) rfl rfl (y2.dN it 0)]
  have Y3:=Y2.aw 0 rfl (.agg (ez it dR dL dE2 dm 0))
  have y3:=y2.aw (Y2.rn 0 rfl) (.box (.agg (ez it dR dL dE2 dm 0)))
  generalize ah h2 n64 (.box (.agg (ez it dR dL dE2 dm 0)))=h3 at Y3 y3
  simp only[List.set_cons_zero]at Y3
  simp only[↓bf (Y3.used 0 rfl),Nat.zero_add,↓eV (cs:=ez it dR dL dE2 dm 0) (Y3.get 0 rfl) (j:=10) rfl,↓ck,decide_true,Bool.not_true,↓ae,true_and]
  rw[bm,Gc (i:=i) (by omega)]
  refine⟨by simp,m-1,by omega,i+1,ro2,st2,dE2,rfl,by omega,by rw[hLb];exact Y3,y3,w2,by omega,?_⟩
  rw[<- P,P2];rfl
 ·rw[hst]at P2
  rw[<- P,P2]at sP
  have Y2:=Y.step F2
  rw[m7 (s:=11) (cs:=ez it dR dL dE dm 0) (cs':=ez it dR dL dE dm 70) (Y2.get 0 rfl) rfl rfl (y2.dN it 70)]
  have Y3:=Y2.aw 0 rfl (.agg (ez it dR dL dE dm 70))
  generalize ah h2 n64 (.box (.agg (ez it dR dL dE dm 70)))=h3 at Y3
  simp only[List.set_cons_zero]at Y3
  simp only[↓bf (Y3.used 0 rfl),Nat.zero_add,↓eV (cs:=ez it dR dL dE dm 70) (Y3.get 0 rfl) (j:=10) rfl,↓ck,Int.reduceEq,decide_false,Bool.not_false,↓af,true_and]
  have Y4:bN aM ro h3 ro2 [(n28,.agg (it.cs++[aP g,aP s,.nil,.int .i64 0])),(n14,.agg tJ),(n12,xt g s),(n10,it.e),(n8,l.e),(n6,c.e)]:=⟨(List.nodup_cons.1 Y3.nd).2,fun p hp=>Y3.at_ p (List.mem_cons_of_mem _ hp),Y3.fr⟩
  exact same Y4 sP
theorem GI {P:Program}{w:List Int}{i:Nat}{v:Int}(hv:w[i]?=some v){h:Heap}{KH:HK}:ab P (.iadd (.c (words w)) (.c (.int .i64 (i:Int))) 1) h KH=KH (.vp (.int .i32 v) 0) h:=by
 have hk:=(List.getElem?_eq_some_iff.1 hv).1
 rw[words,iA,Int.toNat_natCast,List.getElem?_map,hv,List.length_map]
 apply propext
 constructor
 ·rintro⟨-,-,h⟩;exact(h _ rfl).2
 ·intro hk';exact⟨by omega,by omega,fun d hd=>by cases hd;exact⟨rfl,hk'⟩⟩
theorem kQ {w:List Int}{h:Heap}{K:D->Prop}:bP (words w) h K=K (.int .i64 (w.length:Int)):=by simp[words,lz]
theorem Hc {P:Program}{k:IntKind}{n:Int}{h:Heap}{KH:HK}:ab P (.ld (.c (.vp (.int k n) 0)) 1 false) h KH=KH (.int k n) h:=by rw[iI,bj];rfl
theorem Re (w:List Int):(words w).vd=true/\aB (words w):=T5 rfl
theorem DE {w:List Int}(hl:w.length<=1000000):aF PP eJ [words w,words w] (· = .bool true):=by
 refine bb s9 (aC _ _ _) rfl (su _ _ _) ?_
 (unfold mH;try dsimp only[xL,yL,xF,yF,xI,yI,xS,zI,zJ])
 simp only[kQ,↓ck,decide_true,Bool.not_true,↓ae]
 refine⟨fun _ _=>True,fun _ _ _=>bH.mpr rfl,?_⟩
 (unfold jP;try dsimp only[xL,yL,xF,yF,xI,yI,xS,zI,zJ])
 refine⟨fun k qs _=>∃i:Nat,qs=[.int .i64 (i:Int)]/\k+i=w.length,w.length,⟨0,rfl,by omega⟩,?_⟩
 rintro k f h ⟨i,hf,hki⟩
 simp only[List.cons.injEq,and_true]at hf
 rw[hf,kQ,bM]
 by_cases hi:i<w.length
 case neg=>simp only[show ¬((i:Int)<(w.length:Int)) by omega,decide_false,↓ae,ai,true_and]
 have hv:=List.getElem?_eq_getElem hi
 simp only[show((i:Int)<(w.length:Int)) by omega,decide_true,↓af,↓dW,↓bL,↓GI hv,↓Hc,↓ck,Bool.not_true,↓ae]
 rw[bm,Gc (i:=i) (by omega)]
 exact⟨by simp,k-1,by omega,i+1,rfl,by omega⟩
theorem JZ {m:Mm}(hm:OO m):aF PP dp [aP m,aP m] (· = .bool true):=by
 refine bb qg (aC _ _ _) rfl (pQ _ _ _) ?_
 (unfold pH;try dsimp only[xL,yL,xF,yF,xI,yI,xS,zI,zJ])
 have hml:=hm.len
 simp only[iX,↓ck,decide_true,Bool.not_true,↓ae]
 refine⟨fun _ _=>True,fun _ _ _=>bH.mpr rfl,?_⟩
 (unfold ko;try dsimp only[xL,yL,xF,yF,xI,yI,xS,zI,zJ])
 refine⟨fun k qs _=>∃i:Nat,qs=[.int .i64 (i:Int)]/\k+i=m.length,m.length,⟨0,rfl,by omega⟩,?_⟩
 rintro k f h ⟨i,hf,hki⟩
 simp only[List.cons.injEq,and_true]at hf
 rw[hf,iX,bM]
 by_cases hi:i<m.length
 case neg=>simp only[show ¬((i:Int)<(m.length:Int)) by omega,decide_false,↓ae,ai,true_and]
 have hv:=List.getElem?_eq_getElem hi
 simp only[show((i:Int)<(m.length:Int)) by omega,decide_true,↓af,↓dW,↓bL,↓my hv,↓jB]
 refine po (DE (by have:=hm.w _ (List.getElem_mem hi);omega)) ?_ ?_
 ·intro z hz
  simp[Arg.get]at hz
  subst hz
  exact Re _
 simp only[↓Ae,↓ae]
 rw[bm,Gc (i:=i) (by omega)]
 exact⟨by simp,k-1,by omega,i+1,rfl,by omega⟩
theorem Hk {P:Program}{w:List Ev}{i:Nat}{v:Ev}(hv:w[i]?=some v){h:Heap}{KH:HK}:ab P (.iadd (.c (.sl (w.map Ev.e))) (.c (.int .i64 (i:Int))) 9) h KH=KH (.vp v.e 0) h:=by
 have hk:=(List.getElem?_eq_some_iff.1 hv).1
 rw[iA,Int.toNat_natCast,List.getElem?_map,hv,List.length_map]
 apply propext
 constructor
 ·rintro⟨-,-,h⟩;exact(h _ rfl).2
 ·intro hk';exact⟨by omega,by omega,fun d hd=>by cases hd;exact⟨rfl,hk'⟩⟩
theorem TW {P:Program}{v:Ev}{h:Heap}{KH:HK}:ab P (.ld (.c (.vp v.e 0)) 9 true) h KH=KH v.e h:=by
 rw[iI,cF]
 have e1:(v.e.cells.drop 0).take 9=v.cs:=rfl
 have e2:v.e.cells.length=9:=rfl
 rw[e1,e2];simp[Ev.e]
theorem SB {P:Program}{v w:Ev}{h:Heap}{KH:HK}:ab P (.eqv true true [.i,.i,.i,.i,.i,.i,.i,.i,.i] (.c v.e) (.c w.e)) h KH=KH (.bool (!decide (v=w))) h:=by
 rw[Ic]
 have e:eqCells [.i,.i,.i,.i,.i,.i,.i,.i,.i] v.e.cells w.e.cells=some (decide (v=w)):=by
  obtain⟨a1,a2,a3,a4,a5,a6,a7,a8,a9⟩:=v
  obtain⟨b1,b2,b3,b4,b5,b6,b7,b8,b9⟩:=w
  simp[eqCells,Ev.e,Ev.cs,Ev.mk.injEq]
 unfold veqv
 rw[e]
 simp[Ev.e]
theorem HN {w:List Ev}(hl:w.length<=1000000):aF PP dU [.sl (w.map Ev.e),.sl (w.map Ev.e)] (· = .bool true):=by
 refine bb qH (aC _ _ _) rfl (qD _ _ _) ?_
 (unfold lQ;try dsimp only[xL,yL,xF,yF,xI,yI,xS,zI,zJ])
 simp only[lz,List.length_map,↓ck,decide_true,Bool.not_true,↓ae]
 refine⟨fun _ _=>True,fun _ _ _=>bH.mpr rfl,?_⟩
 (unfold jk;try dsimp only[xL,yL,xF,yF,xI,yI,xS,zI,zJ])
 refine⟨fun k qs _=>∃i:Nat,qs=[.int .i64 (i:Int)]/\k+i=w.length,w.length,⟨0,rfl,by omega⟩,?_⟩
 rintro k f h ⟨i,hf,hki⟩
 simp only[List.cons.injEq,and_true]at hf
 rw[hf,lz,List.length_map,bM]
 by_cases hi:i<w.length
 case neg=>simp only[show ¬((i:Int)<(w.length:Int)) by omega,decide_false,↓ae,ai,true_and]
 have hv:=List.getElem?_eq_getElem hi
 simp only[show((i:Int)<(w.length:Int)) by omega,decide_true,↓af,↓dW,↓bL,↓Hk hv,↓TW,↓QX,↓SB,Bool.not_true,↓ae]
 rw[bm,Gc (i:=i) (by omega)]
 exact⟨by simp,k-1,by omega,i+1,rfl,by omega⟩
structure U0 (it:It):Prop where
 r:it.regs.length<=1000
 p:OO it.priv
theorem MF {it:It}(hb:U0 it):aF PP kU [it.e,it.e] (· = .bool true):=by
 refine bb Dh (aC _ _ _) rfl (CY _ _ _) ?_
 (unfold yd;try dsimp only[xL,yL,xF,yF,xI,yI,xS,zI,zJ])
 rw[cZ,kA OX (show it.e.cells.all D.one=true from rfl),kA (by simp) (show it.e.cells.all D.one=true from rfl)]
 obtain⟨H,hH⟩:∃H,H=LH.h ([]++[Slot.box it.e]++[.box it.e]):=⟨_,rfl⟩
 rw[<- hH]
 have b0:H 0=.box (.agg it.cs):=by rw[hH];rfl
 have b1:H 1=.box (.agg it.cs):=by rw[hH];rfl
 have u0:(H 0).used=true:=by rw[b0];rfl
 have u1:(H 1).used=true:=by rw[b1];rfl
 have hr:=hb.r
 simp only[List.length_nil,List.nil_append,List.length_singleton,↓bf u0,↓bf u1,Nat.zero_add,↓eV b0 (j:=0) rfl,↓eV b1 (j:=0) rfl,↓eV b0 (j:=1) rfl,↓eV b1 (j:=1) rfl,↓eV b0 (j:=2) rfl,↓eV b1 (j:=2) rfl,↓eV b0 (j:=3) rfl,↓eV b1 (j:=3) rfl,↓eV b0 (j:=4) rfl,↓eV b1 (j:=4) rfl,↓aN,decide_true,↓Kp,↓eD,true_and]
 refine bc (DE (by omega)) ⟨Gd,Gd,trivial⟩ ?_
 simp only[↓eD,↓Kp,↓bf u0,↓bf u1,Nat.zero_add,↓eV b0 (j:=5) rfl,↓eV b1 (j:=5) rfl,true_and]
 refine bc (JZ hb.p) ⟨eR,eR,trivial⟩ ?_
 simp only[↓eD,↓Kp,↓bf u0,↓bf u1,Nat.zero_add,↓eV b0 (j:=6) rfl,↓eV b1 (j:=6) rfl,true_and]
 refine bc (DE (w:=[]) (by simp)) ⟨eR,eR,trivial⟩ ?_
 exact bH.mpr rfl
structure Vz (r:qL):Prop where
 it:U0 r.it
 g:OO r.g
 s:OO r.s
 ev:r.ev.length<=1000000
abbrev Br (r:qL):List D:=[.int .i64 r.it.id,.int .i64 r.it.at_,.int .i64 r.it.block,.int .i64 r.it.epoch,words r.it.regs,aP r.it.priv,.sl [],aP r.g,aP r.s,.sl (r.ev.map Ev.e),.int .i64 r.e]
theorem Rm (r:qL):(gI r).cells.all D.one=true:=rfl
theorem qL.cu (r:qL):wT (gI r):=cV (by simp[words,aP])
theorem Ow {n:Int}:aF PP mo [.int .i64 n] (· = (gf n).e):=by
 refine bb FA (aC _ _ _) rfl (Fg _ _) ?_
 (unfold BM;try dsimp only[xL,yL,xF,yF,xI,yI,xS,zI,zJ])
 rw[cZ]
 simp[ir,kC,h_stp,h_ldp,la,xO,D2,fL,fillD,cF]
 exact iP (et.cu ⟨2,n,0⟩) rfl
theorem Oy {v:Int}:aF PP mq [.int .i32 v] (· = (Const v).e):=by
 refine bb FB (aC _ _ _) rfl (Fh _ _) ?_
 (unfold BN;try dsimp only[xL,yL,xF,yF,xI,yI,xS,zI,zJ])
 rw[cZ]
 simp[ir,kC,h_stp,h_ldp,la,xO,D2,fL,fillD,cF]
 exact iP (et.cu ⟨1,0,v⟩) rfl
theorem RP {it:It}{o:et}(ho:wK it.regs.length o):aF PP cU [it.e,o.e] (· = .int .i32 (aV it.regs o)):=by
 refine gh (Kg (KH:=Fp (· = .int .i32 (aV it.regs o))) (h:=aM) (dR:=words it.regs) (by rfl) (Or.inl rfl) ho fun h' _=>?_)
 exact eF (by simp) (by simp) (.refl _) (aG rfl).d rfl
section
variable {h0 h:Heap}{ro0 ro:Ro}{L:List (Nat×D)}{KH:HK}
theorem bN.box (B:bN h0 ro0 h ro L){d:D}(ho:aB d) (hK:∀n h' ro',bN h0 ro0 h' ro' ((n,d)::L)->KH (.ptr n 0 0) h'):ab PP (.box (.c d)) h KH:=by
 rw[cJ]
 exact⟨ho,fun n t=>hK n _ _ (B.push t.free d)⟩
theorem bN.alloc (B:bN h0 ro0 h ro L){d:D}(hK:∀n h' ro',bN h0 ro0 h' ro' ((n,d)::L)->KH (.ptr n 0 0) h'):ab PP (.alloc d) h KH:=by
 rw[bS]
 exact fun n t=>hK n _ _ (B.push t.free d)
theorem bN.m7 (B:bN h0 ro0 h ro L) (i:Nat){n s:Nat}{cs cs':List D}(hi:L[i]?=some (n,.agg cs)) (hl:cs.length=s) (hl':cs'.length=s) (ho:∀x,x∈cs'->x.one=true)
  (hK:∀h',bN h0 ro0 h' ro (L.set i (n,.agg cs'))->KH .undef h'):ab PP (.st (.c (.ptr n 0 0)) (.c (.agg cs')) s) h KH:=by
 rw[Go.Am.m7 (B.get i hi) hl hl' ho]
 exact hK _ (B.aw i hi _)
theorem bN.IP (B:bN h0 ro0 h ro L) (i:Nat){n j:Nat}{cs:List D}{d:D}(hi:L[i]?=some (n,.agg cs)) (hj:j<cs.length) (ho:d.one=true)
  (hK:∀h',bN h0 ro0 h' ro (L.set i (n,.agg (cs.set j d)))->KH .undef h'):ab PP (.st (.c (.ptr n 0 j)) (.c d) 1) h KH:=by
 rw[Go.Am.IP (B.get i hi) hj ho]
 exact hK _ (B.aw i hi _)
theorem bN.dt (B:bN h0 ro0 h ro L) (i:Nat){n s:Nat}{d:D}(hi:L[i]?=some (n,d)) (hd:d=.agg d.cells) (hl:d.cells.length=s):ab PP (.ld (.c (.ptr n 0 0)) s true) h KH=KH d h:=by
 have:=B.get i hi
 rw[hd]at this
 rw[<- hl,Go.Am.dt this, <- hd]
theorem bN.rL (B:bN h0 ro0 h ro L) (i:Nat){n j s:Nat}{d e:D}(hi:L[i]?=some (n,d)) (he:D.agg ((d.cells.drop j).take s)=e) (hd:d=.agg d.cells) (hl:j+s<=d.cells.length):ab PP (.ld (.c (.ptr n 0 j)) s true) h KH=KH e h:=by
 have:=B.get i hi
 rw[hd]at this
 rw[Go.Am.rL this hl, <- he]
theorem bN.cM (B:bN h0 ro0 h ro L) (i:Nat){n j:Nat}{d e:D}(hi:L[i]?=some (n,d)) (he:d.cells[j]?=some e) (hd:d=.agg d.cells):ab PP (.ld (.c (.ptr n 0 j)) 1 false) h KH=KH e h:=by
 have:=B.get i hi
 rw[hd]at this
 exact eV this he
end
abbrev tq:Ro:=fun _=>mc.no
theorem bN.start:bN aM tq aM tq []:=bN.nil
theorem pe (l:dA):aB l.e:=List.all_eq_true.1 (dA.on l)
theorem dA.cu (l:dA):wT l.e:=cV (by simp[words])
theorem mg (r:qL):aB (gI r):=List.all_eq_true.1 (Rm r)
theorem G8 {c:Code}{l:dA}{r:qL}{aw:Int}(hc:bh c) (hl:jw c l) (hi:OU c l r.it) (hg:gg c.arrays 1 r.g) (hs:gg c.arrays 2 r.s) :
  aF PP eK [c.e,l.e,gI r,.int .i64 aw] (· = gI (dC c l r.it r.g r.s aw)):=by
 refine bb Ds (aC _ _ _) rfl (C8 _ _ _ _ _) ?_
 (unfold yu;try dsimp only[xL,yL,xF,yF,xI,yI,xS,zI,zJ])
 refine bN.start.box (jK c).2 fun n1 h1 ro1 B=>?_
 refine B.box (pe l) fun n2 h2 ro2 B=>?_
 refine B.box (mg r) fun n3 h3 ro3 B=>?_
 refine B.alloc fun n4 h4 ro4 B=>?_
 have u:=B.used 1 rfl
 simp only[B.dt (s:=8) 3 rfl rfl rfl,B.dt (s:=2) 2 rfl rfl rfl,↓bf u,Nat.zero_add,B.rL 1 (j:=0) (s:=7) (e:=r.it.e) rfl rfl rfl (Nat.le_of_ble_eq_true rfl),B.cM 1 (j:=7) rfl rfl rfl,B.cM 1 (j:=8) rfl rfl rfl]
 refine bc (RQ hc hl hi hg hs) ⟨Code.cu c,dA.cu l,It.cu _,eR,eR,ba,trivial⟩ ?_
 simp only[Rp,h_ext,List.getElem?_cons_succ,List.getElem?_cons_zero]
 refine B.alloc fun n5 h5 ro5 B=>?_
 obtain⟨q,hq⟩:∃q,q=dC c l r.it r.g r.s aw:=⟨_,rfl⟩
 rw[<- hq]
 refine B.m7 0 (cs':=q.it.cs) rfl rfl rfl (It.cu _).one fun h6 B=>?_
 rw[B.dt (s:=7) 0 rfl rfl rfl,cI rfl]
 refine B.m7 1 (cs':=Br q) rfl rfl rfl (mg q) fun h7 B=>?_
 rw[B.dt (s:=11) 1 rfl rfl rfl]
 exact iP (qL.cu q) rfl
def oD:It:=⟨0,0,0,0,[],[]⟩
def ga (c:Code) (l:dA) (id:Int):It×Int:=if id<0\/id≥l.groups*c.group then(oD,1) else(bE c id 0 1,0)
theorem zX {c:Code}{l:dA}{id:Int}(h:0<=id/\id<l.groups*c.group):ga c l id=(bE c id 0 1,0):=if_neg (by omega)
def tS (p:It×Int):D:=.agg (p.1.cs++[.int .i64 p.2])
theorem ph (p:It×Int):aB (tS p):=fun x hx=>by simp[tS,It.cs,words,aP]at hx;rcases hx with rfl|rfl|rfl|rfl|rfl|rfl|rfl|rfl<;>rfl
theorem DI (p:It×Int):wT (tS p):=cV (by simp[It.cs,words,aP])
theorem DK {c:Code}{l:dA}(hc:bh c) (hl:jw c l):IntKind.i64.wrap (l.groups*c.group)=l.groups*c.group/\1<=l.groups*c.group/\l.groups*c.group<=512:=by
 have h1:=hl.n
 have h2:=hc.group
 have p1:1*1<=l.groups*c.group:=Int.mul_le_mul h1.1 h2.1 (by omega) (by omega)
 have p2:l.groups*c.group<=64*8:=Int.mul_le_mul h1.2 h2.2 (by omega) (by omega)
 exact⟨wrap64 (by omega) (by omega),by omega,by omega⟩
abbrev P1:List D:=[.int .i64 0,.int .i64 0,.int .i64 0,.int .i64 0,.nil,.nil,.nil,.int .i64 0]
theorem PB {c:Code}{l:dA}{id:Int}(hc:bh c) (hl:jw c l):aF PP oW [c.e,l.e,.int .i64 id] (· = .tup [(ga c l id).1.e,.int .i64 (ga c l id).2]):=by
 refine gh (aU Dy (aC _ _ _) rfl (De _ _ _ _) ?_)
 (unfold yB;try dsimp only[xL,yL,xF,yF,xI,yI,xS,zI,zJ])
 refine bN.start.box (jK c).2 fun n1 h1 ro1 B=>?_
 refine B.box (pe l) fun n2 h2 ro2 B=>?_
 refine B.alloc fun n3 h3 ro3 B=>?_
 have u1:=B.used 1 rfl
 have u2:=B.used 2 rfl
 obtain⟨g1,g2,g3⟩:=DK hc hl
 rw[bM]
 have bad:∀{L:List (Nat×D)}{ro:Ro},ga c l id=(oD,1)->bN aM tq h3 ro ((n3,.agg EK)::L) ->
   ab PP (.bld EK []) h3 fun a44 h45=>ab PP (.st (.c (.ptr n3 0 0)) (.c a44) 7) h45 fun _ h47=>ab PP (.ld (.c (.ptr n3 0 0)) 7 true) h47 fun a48 _ =>
    Fp (· = .tup [(ga c l id).1.e,.int .i64 (ga c l id).2]) (.tup [a48,.int .i64 1]) h47:=by
  intro L ro hp B
  rw[cI rfl]
  refine B.m7 0 (cs':=EK) rfl rfl rfl (by simp) fun h4 B=>?_
  rw[B.dt (s:=7) 0 rfl rfl rfl]
  rw[hp]
  refine nD (.refl _) (.cons (A4.agg (.cons (aG rfl) (.cons (aG rfl) (.cons (aG rfl) (.cons (aG rfl) (.cons fK (.cons fK (.cons fK .nil)))))))) (.cons (aG rfl).d .nil)) rfl
 by_cases h1:id<0
 ·simp only[h1,decide_true,↓L4,↓eD,↓af]
  exact bad (by simp[ga,h1]) B
 simp only[h1,decide_false,↓F0,↓bf u1,↓bf u2,Nat.zero_add,B.cM 1 (j:=0) rfl rfl rfl,B.cM 2 (j:=0) rfl rfl rfl]
 simp only[↓fF]
 rw[gj,g1,iG]
 by_cases h2:id≥l.groups*c.group
 ·simp only[h2,decide_true,↓af]
  exact bad (by simp[ga,h2]) B
 simp only[h2,decide_false,↓ae,B.dt (s:=8) 2 rfl rfl rfl]
 refine bc (Kf hc) ⟨Code.cu c,ba,ba,ba,trivial⟩ ?_
 refine B.m7 0 (cs':=(bE c id 0 1).cs) rfl rfl rfl (It.cu _).one fun h4 B=>?_
 rw[B.dt (s:=7) 0 rfl rfl rfl]
 refine nD (.refl _) (.cons (gT (It.cu _)) (.cons (aG rfl).d .nil)) ?_
 rw[zX ⟨by omega,by omega⟩];rfl
theorem Kl {c:Code}{l:dA}{id:Int}(hc:bh c) (hl:jw c l):aF PP fZ [c.e,l.e,.int .i64 id] (· = tS (ga c l id)):=by
 refine bb Bh (aC _ _ _) rfl (AX _ _ _ _) ?_
 (unfold uJ;try dsimp only[xL,yL,xF,yF,xI,yI,xS,zI,zJ])
 refine bN.start.box (jK c).2 fun n1 h1 ro1 B=>?_
 refine B.box (pe l) fun n2 h2 ro2 B=>?_
 refine B.alloc fun n3 h3 ro3 B=>?_
 rw[B.dt (s:=8) 2 rfl rfl rfl,B.dt (s:=2) 1 rfl rfl rfl]
 refine bc (PB hc hl) ⟨Code.cu c,dA.cu l,ba,trivial⟩ ?_
 simp only[h_ext,List.getElem?_cons_succ,List.getElem?_cons_zero]
 generalize ga c l id=p
 refine B.alloc fun n5 h5 ro5 B=>?_
 refine B.m7 0 (cs':=p.1.cs) rfl rfl rfl (It.cu _).one fun h6 B=>?_
 rw[B.dt (s:=7) 0 rfl rfl rfl,cI rfl]
 refine B.m7 1 (cs':=p.1.cs++[.int .i64 p.2]) rfl rfl rfl (fun x hx=>ph p x hx) fun h7 B=>?_
 rw[B.dt (s:=8) 1 rfl rfl rfl]
 exact iP (DI p) rfl
theorem Le {c:Code}{l:dA}{id:Int}(hc:bh c) (hl:jw c l):aF PP jY [c.e,l.e,.int .i64 id] (· = tS (ga c l id)):=by
 refine gh (aU wL (aC _ _ _) rfl (wC _ _ _ _) ?_)
 (unfold pO;try dsimp only[xL,yL,xF,yF,xI,yI,xS,zI,zJ])
 refine bN.start.box (jK c).2 fun n1 h1 ro1 B=>?_
 refine B.box (pe l) fun n2 h2 ro2 B=>?_
 refine B.alloc fun n3 h3 ro3 B=>?_
 have u1:=B.used 1 rfl
 have u2:=B.used 2 rfl
 obtain⟨g1,g2,g3⟩:=DK hc hl
 have hcr:=hc.regs
 have hcs:=hc.slots
 rw[bM]
 have bad:∀{L:List (Nat×D)}{ro:Ro},ga c l id=(oD,1)->bN aM tq h3 ro ((n3,.agg P1)::L) ->
   ab PP (.bld P1 [(7,1,(.c (.int .i64 1)))]) h3 fun a44 h45=>ab PP (.st (.c (.ptr n3 0 0)) (.c a44) 8) h45 fun _ h47=>ab PP (.ld (.c (.ptr n3 0 0)) 8 true) h47 fun a48 _ =>
    Fp (· = tS (ga c l id)) a48 h47:=by
  intro L ro hp B
  rw[cI rfl]
  refine B.m7 0 (cs':=[.int .i64 0,.int .i64 0,.int .i64 0,.int .i64 0,.nil,.nil,.nil,.int .i64 1]) rfl rfl rfl (by simp) fun h4 B=>?_
  rw[B.dt (s:=8) 0 rfl rfl rfl]
  rw[hp]
  exact eF (by simp) (by simp[tS]) (.refl _) (A4.agg (.cons (aG rfl) (.cons (aG rfl) (.cons (aG rfl) (.cons (aG rfl) (.cons fK (.cons fK (.cons fK (.cons (aG rfl) .nil))))))))) rfl
 by_cases h1:id<0
 ·simp only[h1,decide_true,↓L4,↓eD,↓af]
  exact bad (by simp[ga,h1]) B
 simp only[h1,decide_false,↓F0,↓bf u1,↓bf u2,Nat.zero_add,B.cM 1 (j:=0) rfl rfl rfl,B.cM 2 (j:=0) rfl rfl rfl]
 simp only[↓fF]
 rw[gj,g1,iG]
 by_cases h2:id≥l.groups*c.group
 ·simp only[h2,decide_true,↓af]
  exact bad (by simp[ga,h2]) B
 have hmk:∀{K:D->Prop}{n:Int},0<=n->n<=1000->K (words (List.replicate n.toNat 0))->aq PP (.mk 1 4 (.int .i32 0) (.c (.int .i64 n)) (.c (.int .i64 n))) h3 K:=fun {K n} a1 a2 hk =>
  ⟨⟨a1,by omega,by omega,by omega⟩,⟨rfl,by simp⟩,by rw[Aa];exact hk⟩
 simp only[h2,decide_false,↓ae,↓aE,u2,Nat.zero_add,↓bL,B.cM 2 (j:=2) rfl rfl rfl,true_and]
 refine hmk (by omega) (by omega) ?_
 simp only[↓aE,u2,Nat.zero_add,↓bL,B.cM 2 (j:=5) rfl rfl rfl,true_and]
 refine gH (I8 hc 3) ⟨eR,ba,trivial⟩ ?_
 simp only[↓aE,u2,Nat.zero_add,↓bL,B.cM 2 (j:=3) rfl rfl rfl,true_and]
 refine hmk (by omega) (by omega) ?_
 rw[jJ rfl,jJ rfl]
 have e:∀d:D,d=tS (bE c id 0 1,0)->ab PP (.st (.c (.ptr n3 0 0)) (.c d) 8) h3 fun _ h61=>ab PP (.ld (.c (.ptr n3 0 0)) 8 true) h61 fun a62 _=>Fp (· = tS (ga c l id)) a62 h61:=by
  rintro _ rfl
  refine B.m7 0 (cs':=(bE c id 0 1).cs++[.int .i64 0]) rfl rfl rfl (fun x hx=>ph (bE c id 0 1,0) x hx) fun h4 B=>?_
  rw[B.dt (s:=8) 0 rfl rfl rfl]
  refine eF (by simp) (by simp[tS]) (.refl _) (gT (DI (bE c id 0 1,0))) ?_
  exact congrArg tS (zX ⟨by omega,by omega⟩).symm
 exact e _ (by rw[hcs];rfl)
end Go.Am
namespace Go.Am
open Go
section
variable {h0 h:Heap}{ro0 ro:Ro}{L:List (Nat×D)}{KH:HK}
theorem bN.AK (B:bN h0 ro0 h ro L){d:D}(hK:∀n h' ro',cD h ro h' ro'->bN h0 ro0 h' ro' ((n,d)::L)->KH (.ptr n 0 0) h'):ab PP (.alloc d) h KH:=by
 rw[bS]
 exact fun n t=>hK n _ _ (cD.new t.free _) (B.push t.free d)
theorem bN.GN (B:bN h0 ro0 h ro L) (i:Nat){n s:Nat}{cs cs':List D}(hi:L[i]?=some (n,.agg cs)) (hl:cs.length=s) (hl':cs'.length=s) (ho:∀x,x∈cs'->x.one=true)
  (hK:∀h',cD h ro h' ro->bN h0 ro0 h' ro (L.set i (n,.agg cs'))->KH .undef h'):ab PP (.st (.c (.ptr n 0 0)) (.c (.agg cs')) s) h KH:=by
 rw[Go.Am.m7 (B.get i hi) hl hl' ho]
 exact hK _ (cD.aw (by rw[B.rn i hi];rfl)) (B.aw i hi _)
theorem bN.K9 (B:bN h0 ro0 h ro L) (i:Nat){n j:Nat}{cs:List D}{d:D}(hi:L[i]?=some (n,.agg cs)) (hj:j<cs.length) (ho:d.one=true)
  (hK:∀h',cD h ro h' ro->bN h0 ro0 h' ro (L.set i (n,.agg (cs.set j d)))->KH .undef h'):ab PP (.st (.c (.ptr n 0 j)) (.c d) 1) h KH:=by
 rw[Go.Am.IP (B.get i hi) hj ho]
 exact hK _ (cD.aw (by rw[B.rn i hi];rfl)) (B.aw i hi _)
theorem bN.Ue (B:bN h0 ro0 h ro L) (i:Nat){n j:Nat}{a:Int}{d:D}(hi:L[i]?=some (n,d)) (ha:0<=a/\a<2):ab PP (.iadda (.c (.ptr n 0 j)) (.c (.int .i64 a)) 2 1) h KH=KH (.ptr n 0 (j+a.toNat)) h :=
 H9 (i:=a.toNat) (by omega) (by omega) (B.get i hi)
theorem ML {q i:Nat}{w:List Int}{v:Int}(hq:h q=.arr 1 (wr w)) (hi:i<w.length) (hK:KH .undef (ah h q (.arr 1 (wr (w.set i v))))) :
  ab PP (.iadd (.c (.ms q 0 w.length)) (.c (.int .i64 (i:Int))) 1) h fun a h1=>ab PP (.st (.c a) (.c (.int .i32 v)) 1) h1 KH:=by
 simp only[↓bG,hq,Slot.row]
 refine⟨by omega,by omega,⟨_,rfl⟩,?_⟩
 rw[du,hq]
 refine⟨rfl,by simp,by simp[wr];omega,by simp,fun d hd=>?_⟩
 have e:setCells d 0 (D.int .i32 v).cells=.int .i32 v:=by
  rw[zF,Option.map_eq_some_iff]at hd
  obtain⟨z,-,rfl⟩:=hd
  rfl
 rw[e,show 0+((i:Int)).toNat=i by omega,zE]
 exact hK
end
theorem nu.f1 {h:Heap}{ro:Ro}{r:mc}{d:D}{w:List Int}(x:nu h ro r d w):uc h d (words w):=by
 rcases x with rfl|⟨q,rfl,h2,-⟩
 ·exact aG rfl
 ·have:=cA h2 (IT w)
  rw[ly]at this;exact this
theorem nu.one {h:Heap}{ro:Ro}{r:mc}{d:D}{w:List Int}(x:nu h ro r d w):d.one=true:=by rcases x with rfl|⟨q,rfl,-,-⟩<;>rfl
theorem HA.dst {N:Nat}{R:Int}{t:Term}(h:HA N R t) (h4:t.kind=4):∃r:Nat,t.d.n=(r:Int)/\(r:Int)<R:=by
 cases h with
 | collect s d a b t hs hd ha hb h =>
  obtain⟨r,r1,r2,rfl⟩:=hd
  exact⟨r.toNat,(by show r=_;omega),by omega⟩
 | _=>simp at h4
theorem xm {c:Code}{it:It}{v:Int}(h:it.at_≠2):mi c it v=(it,1):=if_pos h
theorem nE {c:Code}{it:It}{v:Int}(h:it.at_=2):mi c it v=(⟨it.id,1,(fO c it.block).to0,it.epoch,if(fO c it.block).kind=4 then it.regs.set (fO c it.block).d.n.toNat v else it.regs,it.priv⟩,0):=by
 unfold mi;rw[if_neg (by simp[h])]
theorem RR {c:Code}{l:dA}{it:It}{v:Int}(hc:bh c) (hi:OU c l it):aF PP rD [c.e,it.e,.int .i32 v] (· = .tup [(mi c it v).1.e,.int .i64 (mi c it v).2]):=by
 refine gh (aU FG (aC _ _ _) rfl (Fm _ _ _ _) ?_)
 (unfold BS;try dsimp only[xL,yL,xF,yF,xI,yI,xS,zI,zJ])
 refine bN.start.box (jK c).2 fun n1 h1 ro1 B=>?_
 refine B.box it.cu.one fun n2 h2 ro2 B=>?_
 refine B.alloc fun n3 h3 ro3 B=>?_
 have u1:=B.used 1 rfl
 have u2:=B.used 2 rfl
 simp only[↓bf u1,Nat.zero_add,B.cM 1 (j:=1) rfl rfl rfl,↓ck]
 by_cases ha:it.at_=2
 case neg =>
  simp only[ha,decide_false,Bool.not_false,↓af,B.dt (s:=7) 1 rfl rfl rfl]
  refine B.m7 0 (cs':=it.cs) rfl rfl rfl (It.cu _).one fun h4 B=>?_
  rw[B.dt (s:=7) 0 rfl rfl rfl,xm ha]
  exact nD (.refl _) (.cons (gT (It.cu _)) (.cons (aG rfl).d .nil)) rfl
 obtain⟨k,Q,hbk,hQ,hQm,ht,-⟩:=hc.OB hi.block
 obtain⟨-,-,hT⟩:=hc.xs Q hQm
 have hat:∀{g':Heap}{K:HK},ab PP (.iadd (.c (.sl (c.b.map Block.e))) (.c (.int .i64 it.block)) 14) g' K=K (.vp Q.e 0) g':=fun {g' K}=>by rw[hbk,wz hQ]
 simp only[ha,decide_true,Bool.not_true,↓ae,↓bf u1,↓bf u2,Nat.zero_add,B.cM 2 (j:=7) rfl rfl rfl,B.cM 1 (j:=2) rfl rfl rfl,hat,↓iu,↓Ky]
 refine B.alloc fun n4 h4 ro4 B=>?_
 refine B.m7 0 (cs':=Q.t.cs) rfl rfl rfl (Term.cu _).one fun h5 B=>?_
 have u1:=B.used 2 rfl
 have u0:=B.used 0 rfl
 simp only[↓aE,u1,u0,Nat.zero_add,Nat.add_zero,true_and,↓pn,B.Ue 0 (j:=11) (a:=0) rfl ⟨by omega,by omega⟩,↓bL,Int.toNat_zero,B.cM 0 (j:=11) rfl rfl rfl]
 refine B.IP 2 (cs:=it.cs) rfl (by simp[It.cs]) rfl fun h6 B=>?_
 simp only[B.Ue 0 (j:=11) (a:=0) rfl ⟨by omega,by omega⟩,↓bL,Int.toNat_zero,Nat.add_zero,B.cM 0 (j:=11) rfl rfl rfl,ai,true_and,and_true]
 refine B.IP 2 (cs:=it.cs.set 1 (.int .i64 1)) rfl (by simp[It.cs]) rfl fun h7 B=>?_
 simp only[B.Ue 0 (j:=11) (a:=0) rfl ⟨by omega,by omega⟩,↓bL,Int.toNat_zero,Nat.add_zero,B.cM 0 (j:=11) rfl rfl rfl,ai,true_and,and_true]
 have B:bN aM tq h7 ro4 [(n4,Q.t.e),(n3,.agg EK),(n2,.agg [.int .i64 it.id,.int .i64 1,.int .i64 Q.t.to0,.int .i64 it.epoch,words it.regs,aP it.priv,.sl []]),(n1,c.e)]:=B
 refine⟨fun _ h'=>∃(ro':Ro) (dR:D) (w:List Int),bN aM tq h' ro' [(n4,Q.t.e),(n3,.agg EK),(n2,.agg [.int .i64 it.id,.int .i64 1,.int .i64 Q.t.to0,.int .i64 it.epoch,dR,aP it.priv,.sl []]),(n1,c.e)]/\nu h' ro' .regs dR w /\
  mi c it v=(⟨it.id,1,Q.t.to0,it.epoch,w,it.priv⟩,0),?_,?_⟩
 ·rintro _ h' ⟨ro',dR,w,B,R,hp⟩
  have oR:=R.one
  rw[B.dt (s:=7) 2 rfl rfl rfl]
  refine B.GN 1 (cs':=[.int .i64 it.id,.int .i64 1,.int .i64 Q.t.to0,.int .i64 it.epoch,dR,aP it.priv,.sl []]) rfl rfl rfl (by simp[oR,aP]) fun h8 kp B=>?_
  rw[B.dt (s:=7) 1 rfl rfl rfl,hp]
  have R:=R.aA kp rfl
  exact nD (.refl _) (.cons (A4.agg (.cons (aG rfl) (.cons (aG rfl) (.cons (aG rfl) (.cons (aG rfl) (.cons R.f1 (.cons (aG rfl) (.cons (aG rfl) .nil)))))))) (.cons (aG rfl).d .nil)) rfl
 have u0:=B.used 0 rfl
 have u1:=B.used 2 rfl
 simp only[↓bf u0,Nat.zero_add,B.cM 0 (j:=0) rfl rfl rfl,↓aN]
 by_cases h4:Q.t.kind=4
 case neg =>
  simp only[h4,decide_false,↓ae,ai,true_and]
  exact⟨ro4,words it.regs,it.regs,B,Or.inl rfl,by rw[nE ha,ht,if_neg h4]⟩
 obtain⟨r,hr1,hr2⟩:=hT.dst h4
 have hrl:=hi.len
 have hcr:=hc.regs
 simp only[h4,decide_true,↓af,↓bf u1,Nat.zero_add,B.cM 2 (j:=4) rfl rfl rfl]
 refine GU (w:=it.regs) (by rintro e;rw[e]at hrl;simp at hrl;omega) (by omega) fun q h8 hq hq2 hk8=>?_
 have x8:fB h7 ro4 h8 (ah ro4 q .regs):=fun k hk=>⟨hk8 k hk,aa _ _ (by rintro rfl;exact hk hq)⟩
 have B:=B.step x8.fr
 have rq:ah ro4 q .regs q=.regs:=ad _ _ _
 generalize ah ro4 q .regs=ro8 at B rq x8
 simp only[↓bf (B.used 2 rfl),Nat.zero_add]
 refine B.K9 2 (j:=4) rfl (by simp) rfl fun h9 kp B=>?_
 have hq9:h9 q=.arr 1 (wr it.regs):=by rw[(kp q (by rw[hq2];simp) (by rw[rq];rfl)).1];exact hq2
 simp only[↓bf (B.used 2 rfl),↓bf (B.used 0 rfl),Nat.zero_add,Nat.reduceAdd,B.cM 2 (j:=4) rfl rfl rfl,B.cM 0 (j:=3) rfl rfl rfl,hr1]
 refine ML (w:=it.regs) hq9 (by omega) ?_
 refine⟨ro8,.ms q 0 it.regs.length,it.regs.set r v,B.step (Fr.aw (by rw[rq];simp) (by simp)),Or.inr ⟨q,by simp,ad _ _ _,rq⟩,?_⟩
 rw[nE ha,ht,if_pos h4,hr1];rfl
theorem Sf {c:Code}{l:dA}{it:It}{v:Int}(hc:bh c) (hi:OU c l it):aF PP kW [c.e,it.e,.int .i32 v] (· = tS (mi c it v)):=by
 refine bb Dt (aC _ _ _) rfl (C9 _ _ _ _) ?_
 (unfold yw;try dsimp only[xL,yL,xF,yF,xI,yI,xS,zI,zJ])
 refine bN.start.box (jK c).2 fun n1 h1 ro1 B=>?_
 refine B.box it.cu.one fun n2 h2 ro2 B=>?_
 refine B.alloc fun n3 h3 ro3 B=>?_
 rw[B.dt (s:=8) 2 rfl rfl rfl,B.dt (s:=7) 1 rfl rfl rfl]
 refine bc (RR hc hi) ⟨Code.cu c,It.cu it,ba,trivial⟩ ?_
 simp only[h_ext,List.getElem?_cons_succ,List.getElem?_cons_zero]
 generalize mi c it v=p
 refine B.alloc fun n5 h5 ro5 B=>?_
 refine B.m7 0 (cs':=p.1.cs) rfl rfl rfl (It.cu _).one fun h6 B=>?_
 rw[B.dt (s:=7) 0 rfl rfl rfl,cI rfl]
 refine B.m7 1 (cs':=p.1.cs++[.int .i64 p.2]) rfl rfl rfl (fun x hx=>ph p x hx) fun h7 B=>?_
 rw[B.dt (s:=8) 1 rfl rfl rfl]
 exact iP (DI p) rfl
theorem TF {h:Heap}{ro:Ro}{dR dP dL:D}{w:List Int}{m:Mm}(R:nv h ro dR w) (P:me h ro 3 dP m) (S:JO h ro dL):∃h'',Fs h h''/\uc h'' dR (words w)/\uc h'' dP (aP m)/\uc h'' dL (.sl []):=by
 obtain⟨k,els,rfl,y⟩:=P
 obtain⟨p1,p2,p3⟩:=y.IQ
 have far:∀j,(ro j=.regs\/ro j=.sl)->dk h k 1 els j=h j:=fun j hj=>p3 j (fun i e=>by rw[e]at hj;simp at hj) (by rintro rfl;rw[y.rk]at hj;simp at hj)
 refine⟨dk h k 1 els,.step y.hk p1 (.refl _),?_,?_,?_⟩
 ·obtain⟨q,rfl,g1,g2⟩:=R
  have:=cA (h:=dk h k 1 els) (n:=q) (e:=1) (els:=wr w) (by rw[far q (Or.inl g2)];exact g1) (IT _)
  rw[ly]at this
  exact this
 ·have:=cA (h:=dk h k 1 els) (n:=k) (e:=1) (els:=m.map words) (by rw[iH,p2]) (fun z hz w hw=>by
   simp only[List.mem_map]at hz
   obtain⟨z,-,rfl⟩:=hz
   simp[words]at hw;subst hw;rfl)
  rw[List.length_map]at this
  exact this
 ·rcases S with rfl|rfl|⟨q,rfl,g1,g2⟩
  ·exact fK
  ·exact aG rfl
  ·exact cA (els:=[]) (by rw[far q (Or.inr g2)];exact g1) (by simp)
theorem MZ {c:Code}{l:dA}{it:It}{v:Int}(hc:bh c) (hi:OU c l it):aF PP lG [c.e,it.e,.int .i32 v] (· = tS (mi c it v)):=by
 refine gh (aU zf (aC _ _ _) rfl (ye _ _ _ _) ?_)
 (unfold so;try dsimp only[xL,yL,xF,yF,xI,yI,xS,zI,zJ])
 refine bN.start.box (jK c).2 fun n1 h1 ro1 B=>?_
 refine B.box it.cu.one fun n2 h2 ro2 B=>?_
 refine B.alloc fun n3 h3 ro3 B=>?_
 have u1:=B.used 1 rfl
 have u2:=B.used 2 rfl
 simp only[↓bf u1,Nat.zero_add,B.cM 1 (j:=1) rfl rfl rfl,↓ck]
 by_cases ha:it.at_=2
 case neg =>
  simp only[ha,decide_false,Bool.not_false,↓af,B.dt (s:=7) 1 rfl rfl rfl]
  rw[cI rfl]
  refine B.m7 0 (cs':=it.cs++[.int .i64 1]) rfl rfl rfl (fun x hx=>ph (it,1) x hx) fun h4 B=>?_
  rw[B.dt (s:=8) 0 rfl rfl rfl,xm ha]
  exact eF (by simp) (by simp[tS]) (.refl _) (gT (DI (it,1))) rfl
 obtain⟨k,Q,hbk,hQ,hQm,ht,-⟩:=hc.OB hi.block
 obtain⟨-,-,hT⟩:=hc.xs Q hQm
 have hat:∀{g':Heap}{K:HK},ab PP (.iadd (.c (.sl (c.b.map Block.e))) (.c (.int .i64 it.block)) 14) g' K=K (.vp Q.e 0) g':=fun {g' K}=>by rw[hbk,wz hQ]
 simp only[ha,decide_true,Bool.not_true,↓ae,↓bf u1,↓bf u2,Nat.zero_add,B.cM 2 (j:=7) rfl rfl rfl,B.cM 1 (j:=2) rfl rfl rfl,hat,↓iu,↓Ky]
 refine B.alloc fun n4 h4 ro4 B=>?_
 refine B.m7 0 (cs':=Q.t.cs) rfl rfl rfl (Term.cu _).one fun h5 B=>?_
 rw[B.dt (s:=7) 2 rfl rfl rfl]
 have hrl:=hi.len
 have hcr:=hc.regs
 refine Ew (ro:=ro4) (it:=it) (by omega) (hi.priv.b hc) fun dR dP dL h6 ro6 x6 R6 P6 L6=>?_
 have B:=B.step x6.fr
 have oR:=R6.one
 have oP:=P6.one
 have oL:=L6.one
 refine B.AK fun n5 h7 ro7 kp B=>?_
 have R7:=R6.aA kp
 have P7:=P6.aA kp
 have L7:=L6.aA kp
 refine B.GN 0 (cs':=lL it dR dP dL) rfl rfl rfl (by simp[oR,oP,oL]) fun h8 kp B=>?_
 have R8:=R7.aA kp
 have P8:=P7.aA kp
 have L8:=L7.aA kp
 have B:bN aM tq h8 ro7 [(n5,.agg (lL it dR dP dL)),(n4,Q.t.e),(n3,.agg P1),(n2,it.e),(n1,c.e)]:=B
 refine⟨fun _ h'=>∃(ro':Ro) (w:List Int),bN aM tq h' ro' [(n5,.agg (lL it dR dP dL)),(n4,Q.t.e),(n3,.agg P1),(n2,it.e),(n1,c.e)]/\nv h' ro' dR w/\me h' ro' 3 dP it.priv/\JO h' ro' dL /\
  mi c it v=(⟨it.id,1,Q.t.to0,it.epoch,w,it.priv⟩,0),?_,?_⟩
 ·rintro _ h' ⟨ro',w,B,R,P,S,hp⟩
  simp only[↓bf (B.used 0 rfl),Nat.zero_add]
  refine B.K9 0 (j:=1) rfl (by simp) rfl fun h9 kp B=>?_
  have R:=R.aA kp
  have P:=P.aA kp
  have S:=S.aA kp
  simp only[↓bf (B.used 1 rfl),Nat.zero_add,B.Ue 1 (j:=11) (a:=0) rfl ⟨by omega,by omega⟩,Int.toNat_zero,Nat.add_zero,B.cM 1 (j:=11) rfl rfl rfl,↓bf (B.used 0 rfl)]
  refine B.K9 0 (j:=2) rfl (by simp) rfl fun h10 kp B=>?_
  have R:=R.aA kp
  have P:=P.aA kp
  have S:=S.aA kp
  rw[B.dt (s:=7) (d:=.agg [.int .i64 it.id,.int .i64 1,.int .i64 Q.t.to0,.int .i64 it.epoch,dR,dP,dL]) 0 rfl rfl rfl,kC]
  refine⟨fun p hp=>?_,?_⟩
  ·simp only[List.map_cons,List.map_nil,List.mem_cons,List.not_mem_nil,or_false,NS]at hp
   subst hp
   exact⟨rfl,by simp,by simp[oR,oP,oL]⟩
  refine B.GN 2 (cs':=[.int .i64 it.id,.int .i64 1,.int .i64 Q.t.to0,.int .i64 it.epoch,dR,dP,dL,.int .i64 0]) rfl rfl rfl (by simp[oR,oP,oL]) fun h11 kp B=>?_
  have R:=R.aA kp
  have P:=P.aA kp
  have S:=S.aA kp
  rw[B.dt (s:=8) 2 rfl rfl rfl,hp]
  obtain⟨h12,i1,i2,i3,i4⟩:=TF R P S
  exact eF (by simp) (by simp[tS]) i1 (A4.agg (.cons (aG rfl) (.cons (aG rfl) (.cons (aG rfl) (.cons (aG rfl) (.cons i2 (.cons i3 (.cons i4 (.cons (aG rfl) .nil))))))))) rfl
 simp only[↓bf (B.used 1 rfl),Nat.zero_add,B.cM 1 (j:=0) rfl rfl rfl,↓aN]
 by_cases h4:Q.t.kind=4
 case neg =>
  simp only[h4,decide_false,↓ae,ai,true_and]
  exact⟨ro7,it.regs,B,R8,P8.r,L8,by rw[nE ha,ht,if_neg h4]⟩
 obtain⟨r,hr1,hr2⟩:=hT.dst h4
 simp only[h4,decide_true,↓af,↓bf (B.used 0 rfl),↓bf (B.used 1 rfl),Nat.zero_add,Nat.reduceAdd,B.cM 0 (j:=4) rfl rfl rfl,B.cM 1 (j:=3) rfl rfl rfl,hr1]
 obtain⟨q,rfl,hq2,rq⟩:=R8
 refine ML (w:=it.regs) hq2 (by omega) ?_
 have kq:kL (fun r=>r≠.regs) h8 ro7 (ah h8 q (.arr 1 (wr (it.regs.set r v)))) ro7:=fun k _ hr=>by
  rw[aa _ _ (by rintro rfl;exact hr rq)];exact⟨rfl,rfl⟩
 refine⟨ai.symm ▸ trivial,ro7,it.regs.set r v,B.step (Fr.aw (by rw[rq];simp) (by simp)),⟨q,by simp,ad _ _ _,rq⟩,(P8.de kq (by simp) (by simp)).r,?_,?_⟩
 ·rcases L8 with rfl|rfl|⟨p,rfl,g1,g2⟩
  ·exact Or.inl rfl
  ·exact Or.inr (Or.inl rfl)
  ·exact Or.inr (Or.inr ⟨p,rfl,by rw[aa _ _ (by rintro rfl;rw[rq]at g2;cases g2)];exact g1,g2⟩)
 rw[nE ha,ht,if_pos h4,hr1];rfl
end Go.Am
namespace Go.Am
open Go
theorem bN.tail {h0 h:Heap}{ro0 ro:Ro}{L:List (Nat×D)}{p:Nat×D}(B:bN h0 ro0 h ro (p::L)):bN h0 ro0 h ro L :=
 ⟨(List.nodup_cons.1 B.nd).2,fun x hx=>B.at_ x (List.mem_cons_of_mem _ hx),B.fr⟩
def fH (a:bO):bO:={ a with len:=max (a.len / 2) 1 }
def ml (c:Code):Code:={ c with arrays:=c.arrays.map fH }
theorem Jc {α:Type}(f:α->α) (l:List α) (i:Nat) (h:i<l.length):((l.take i).map f++l.drop i).set i (f l[i])=(l.take (i+1)).map f++l.drop (i+1):=by
 have e:(l.take i).length=i:=List.length_take_of_le (by omega)
 rw[List.drop_eq_getElem_cons h,List.set_append_right _ _ (by rw[List.length_map,e];exact Nat.le_refl _),List.length_map,e,Nat.sub_self,List.set_cons_zero,List.take_add_one,List.getElem?_eq_getElem h]
 simp only[Option.toList_some,List.map_append,List.map_cons,List.map_nil,List.append_assoc,List.singleton_append]
theorem Lo {α:Type}(f:α->α) (l:List α) (i:Nat) (h:i<l.length):((l.take i).map f++l.drop i)[i]?=some l[i]:=by
 have e:(l.take i).length=i:=List.length_take_of_le (by omega)
 rw[List.getElem?_append_right (by rw[List.length_map,e];exact Nat.le_refl _),List.length_map,e,Nat.sub_self,List.getElem?_drop]
 simp[List.getElem?_eq_getElem h]
theorem Jd {α:Type}(f:α->α) (l:List α) (i:Nat):((l.take i).map f++l.drop i).length=l.length:=by simp;omega
abbrev c0:List D:=[.int .i64 0,.int .i64 0,.int .i64 0,.int .i64 0,.int .i64 0,.nil,.nil,.nil]
theorem Q0 (l:List bO):∀x,x∈l.map bO.e->∀y∈x.cells,y.vone=true:=fun x hx y hy=>by
 simp only[List.mem_map]at hx
 obtain⟨z,-,rfl⟩:=hx
 simp[bO.e]at hy
 rcases hy with rfl|rfl|rfl|rfl<;>rfl
theorem Ln {h:Heap}{q i:Nat}{l:List bO}{a:bO}(hq:h q=.arr 4 (l.map bO.e)) (ha:l[i]?=some a){KH:HK} :
  ab PP (.iadd (.c (.ms q 0 l.length)) (.c (.int .i64 (i:Int))) 4) h (fun x h1=>ab PP (.ld (.c x) 4 true) h1 KH)=KH a.e h:=by
 have hi:=(List.getElem?_eq_some_iff.1 ha).1
 rw[bG,hq,jH,hq]
 apply propext
 constructor
 ·rintro⟨-,-,-,-,h⟩
  have:=h a.e (by rw[show 0+((i:Int)).toNat=i by omega,List.getElem?_map,ha];rfl)
  simpa[cF,bO.e] using this
 ·intro hk
  refine⟨by omega,by omega,⟨_,rfl⟩,by simp;omega,fun d hd=>?_⟩
  rw[show 0+((i:Int)).toNat=i by omega,List.getElem?_map,ha]at hd
  cases hd
  simpa[cF,bO.e] using hk
theorem Lm {h:Heap}{q i:Nat}{l:List bO}{a:bO}(hq:h q=.arr 4 (l.map bO.e)) (hi:i<l.length){KH:HK}(hK:KH .undef (ah h q (.arr 4 ((l.set i a).map bO.e)))) :
  ab PP (.iadd (.c (.ms q 0 l.length)) (.c (.int .i64 (i:Int))) 4) h (fun x h1=>ab PP (.st (.c x) (.c a.e) 4) h1 KH):=by
 simp only[↓bG,hq,Slot.row]
 refine⟨by omega,by omega,⟨_,rfl⟩,?_⟩
 rw[du,hq]
 refine⟨rfl,(bO.cu a).one,by simp;omega,by simp,fun d hd=>?_⟩
 rw[show 0+((i:Int)).toNat=i by omega]at hd ⊢
 rw[List.getElem?_map,Option.map_eq_some_iff]at hd
 obtain⟨b,-,rfl⟩:=hd
 have e:setCells b.e 0 a.e.cells=a.e:=rfl
 rw[e, <- List.map_set]
 exact hK
theorem M0 {c:Code}(hc:bh c):aF PP lH [c.e] (· = (ml c).e):=by
 refine gh (aU zg (aC _ _ _) rfl (yf _ _) ?_)
 (unfold sq;try dsimp only[xL,yL,xF,yF,xI,yI,xS,zI,zJ])
 refine bN.start.box (jK c).2 fun n1 h1 ro1 B=>?_
 refine B.alloc fun n2 h2 ro2 B=>?_
 refine rP fun n3 t3=>?_
 have hnf:=t3.free
 have B:=B.step (Fr.new (ro:=ro2) hnf .ev (s:=.arr 4 []))
 simp only[↓bf (B.used 1 rfl),Nat.zero_add,B.cM 1 (j:=5) rfl rfl rfl]
 have hna:=hc.nar
 have h3:ah h2 n3 (.arr 4 []) n3=.arr 4 []:=ad _ _ _
 have r3:ah ro2 n3 .ev n3=.ev:=ad _ _ _
 generalize ah h2 n3 (.arr 4 [])=hA at B h3
 generalize ah ro2 n3 .ev=roA at B r3
 refine⟨fun y hy=>?_,fun y hy=>?_,[],h3,rfl,rfl,⟨?_,?_⟩,fun q t=>?_⟩
 ·simp only[List.mem_map]at hy;obtain⟨z,-,rfl⟩:=hy;rfl
 ·simp only[List.mem_map]at hy;obtain⟨z,-,rfl⟩:=hy;exact(bO.cu z).one
 ·simp;omega
 ·simp;omega
 have hqn:=t.free
 have nq:q≠n3:=by rintro rfl;rw[h3]at hqn;cases hqn
 have B:=(B.step (Fr.aw (n:=n3) (s:=.dead) (by rw[r3];simp) (by simp))).step (Fr.new (by rw[aa _ _ nq];exact hqn) .ev (s:=.arr 4 ([]++c.arrays.map bO.e)))
 have hq:ah (ah hA n3 .dead) q (.arr 4 ([]++c.arrays.map bO.e)) q=.arr 4 (c.arrays.map bO.e):=ad _ _ _
 have rq:ah roA q .ev q=.ev:=ad _ _ _
 generalize ah (ah hA n3 .dead) q (.arr 4 ([]++c.arrays.map bO.e))=hB at B hq
 generalize ah roA q .ev=roB at B rq
 simp only[List.length_nil,List.length_map,Nat.zero_add]
 refine⟨fun _ h'=>∃ro',bN aM tq h' ro' [(n2,.agg c0),(n1,c.e)]/\h' q=.arr 4 ((c.arrays.map fH).map bO.e)/\ro' q=.ev,?_,?_⟩
 ·rintro _ h' ⟨ro',B,hq,rq⟩
  simp only[↓bf (B.used 1 rfl),Nat.zero_add]
  refine B.K9 1 (j:=5) rfl (by simp) rfl fun h4 kp B=>?_
  have hq:h4 q=.arr 4 ((c.arrays.map fH).map bO.e):=by rw[(kp q (by rw[hq];simp) (by rw[rq];rfl)).1];exact hq
  rw[B.dt (s:=8) (d:=.agg [.int .i64 c.group,.int .i64 c.sub,.int .i64 c.regs,.int .i64 c.slots,.int .i64 c.params,.ms q 0 c.arrays.length,.sl (c.loops.map Loop.e),.sl (c.b.map Block.e)]) 1 rfl rfl rfl]
  refine B.GN 0 (cs':=[.int .i64 c.group,.int .i64 c.sub,.int .i64 c.regs,.int .i64 c.slots,.int .i64 c.params,.ms q 0 c.arrays.length,.sl (c.loops.map Loop.e),.sl (c.b.map Block.e)]) rfl rfl rfl (by simp) fun h5 kp B=>?_
  have hq:h5 q=.arr 4 ((c.arrays.map fH).map bO.e):=by rw[(kp q (by rw[hq];simp) (by rw[rq];rfl)).1];exact hq
  rw[B.dt (s:=8) 0 rfl rfl rfl]
  have fq:=cA hq (Q0 _)
  simp only[List.length_map]at fq
  exact eF (by simp) (by simp[Code.e]) (.refl _) (A4.agg (.cons (aG rfl) (.cons (aG rfl) (.cons (aG rfl) (.cons (aG rfl) (.cons (aG rfl) (.cons fq (.cons (aG rfl) (.cons (aG rfl) .nil))))))))) rfl
 (unfold mF;try dsimp only[xL,yL,xF,yF,xI,yI,xS,zI,zJ])
 refine⟨fun k qs h'=>∃(i:Nat) (ro':Ro),qs=[.int .i64 (i:Int)]/\k+i=c.arrays.length/\bN aM tq h' ro' [(n2,.agg c0),(n1,c.e)]/\h' q=.arr 4 (((c.arrays.take i).map fH++c.arrays.drop i).map bO.e)/\ro' q=.ev,
  c.arrays.length,⟨0,roB,rfl,by omega,B,by simpa using hq,rq⟩,?_⟩
 rintro k f h' ⟨i,ro',hf,hki,B,hq,rq⟩
 simp only[List.cons.injEq,and_true]at hf
 have hlen:∀{K:D->Prop},bP (.ms q 0 c.arrays.length) h' K=K (.int .i64 (c.arrays.length:Int)):=fun {K}=>by rw[il,hq];simp[Slot.live,Slot.used]
 rw[hf,hlen,bM]
 by_cases hi:i<c.arrays.length
 case neg =>
  simp only[show ¬((i:Int)<(c.arrays.length:Int)) by omega,decide_false,↓ae,ai,true_and]
  rw[List.drop_of_length_le (by omega),List.take_of_length_le (by omega),List.append_nil]at hq
  exact⟨ro',B,hq,rq⟩
 have ha:=Lo fH c.arrays i hi
 have hn:=Jd fH c.arrays i
 obtain⟨a,hae⟩:∃a,a=c.arrays[i]:=⟨_,rfl⟩
 have hao:=hc.ar a (by rw[hae];exact List.getElem_mem hi)
 have ld:=fun {KH:HK}=>Ln hq ha (KH:=KH)
 rw[hn, <- hae]at ld
 simp only[show((i:Int)<(c.arrays.length:Int)) by omega,decide_true,↓af]
 rw[ld]
 refine B.AK fun n5 h5 ro5 kp B=>?_
 have hq5:h5 q=.arr 4 (((c.arrays.take i).map fH++c.arrays.drop i).map bO.e):=by rw[(kp q (by rw[hq];simp) (by rw[rq];rfl)).1];exact hq
 have rq5:ro5 q=.ev:=by rw[(kp q (by rw[hq];simp) (by rw[rq];rfl)).2];exact rq
 refine B.GN 0 (cs':=[.str a.name,.int .i64 a.space,.int .i64 a.type,.int .i64 a.len]) rfl rfl rfl (by simp) fun h6 kp B=>?_
 have hq6:h6 q=.arr 4 (((c.arrays.take i).map fH++c.arrays.drop i).map bO.e):=by rw[(kp q (by rw[hq5];simp) (by rw[rq5];rfl)).1];exact hq5
 simp only[↓bf (B.used 0 rfl),Nat.zero_add,B.cM 0 (j:=3) rfl rfl rfl]
 have hl2:IntKind.i64.wrap (a.len.tdiv 2)=a.len / 2:=by
  rw[Int.tdiv_eq_ediv_of_nonneg (by have:=hao.2;omega)]
  exact wrap64 (by have:=hao.2;omega) (by have:=hao.2;omega)
 rw[ky,hl2]
 refine⟨by simp,?_⟩
 have hmx:∀{g:Heap}{K:HK},ab PP (.mx (.c (.int .i64 (a.len / 2))) (.c (.int .i64 1))) g K=K (.int .i64 (max (a.len / 2) 1)) g:=fun {g K}=>by
  rw[Jo]
  congr 2
  split<;>omega
 rw[hmx]
 simp only[↓bf (B.used 0 rfl),Nat.zero_add]
 refine B.K9 0 (j:=3) rfl (by simp) rfl fun h7 kp B=>?_
 have hq7:h7 q=.arr 4 (((c.arrays.take i).map fH++c.arrays.drop i).map bO.e):=by rw[(kp q (by rw[hq6];simp) (by rw[rq5];rfl)).1];exact hq6
 rw[B.dt (s:=4) (d:=(fH a).e) 0 rfl rfl rfl]
 have st:=Lm (a:=fH a) hq7 (by rw[hn];exact hi) (KH:=fun _ h56=>vbin .add (.int .i64 (i:Int)) (.int .i64 1) fun a57=>aH [.ptr n1 0 0,.ptr n2 0 0,.ms q 0 c.arrays.length] [.ptr n1 0 0,.ptr n2 0 0,.ms q 0 c.arrays.length] /\
  ∃m,m<k/\∃(i:Nat) (ro':Ro),[a57]=[.int .i64 (i:Int)]/\m+i=c.arrays.length/\bN aM tq h56 ro' [(n2,.agg c0),(n1,c.e)]/\h56 q=.arr 4 (((c.arrays.take i).map fH++c.arrays.drop i).map bO.e)/\ro' q=.ev)
 rw[hn]at st
 refine st ?_
 rw[bm,Gc (i:=i) (by omega)]
 refine⟨by simp,k-1,by omega,i+1,ro5,rfl,by omega,(B.step (Fr.aw (by rw[rq5];simp) (by simp))).tail,?_,rq5⟩
 rw[ad,hae,Jc]
theorem bN.re {h0 h h':Heap}{ro0 ro:Ro}{L:List (Nat×D)}(B:bN aM ro0 h ro L) (hk:∀p∈L,h' p.1=h p.1):bN aM ro0 h' ro L :=
 ⟨B.nd,fun p hp=>by obtain⟨a,b,c⟩:=B.at_ p hp;exact⟨by rw[hk p hp];exact a,b,c⟩,fun k hk=>absurd rfl hk⟩
theorem Qz {P:Program}{h:Heap}{KH:HK}{esz bytes:Nat}{z s d:D}{els:List D}(ho:Own esz h s els) (hd:aB d) (hc:d.cells.length=esz) (hb:(els.length+1)*bytes<=140737488355328) (hl:els.length+1<=9223372036854775807)
  (hk:∀v h',Own esz h' v (els++[d])->QD h h' s->KH v h'):ab P (.app (.c s) (.c (.sl [d])) esz bytes z) h KH:=by
 refine⟨fun e he=>by simp at he;subst he;exact hc,fun y hy=>by simp at hy;subst hy;exact hd,?_⟩
 rcases ho with⟨rfl,rfl⟩|⟨m,rfl,hm⟩
 ·exact⟨⟨by simpa using hb,by simp⟩,fun n t=>hk _ _ (Or.inr ⟨n,rfl,ad _ _ _⟩) fun k hk _=>aa _ _ (t.ne hk)⟩
 ·refine⟨els,hm,rfl,rfl,⟨by simpa using hb,by simpa using hl⟩,fun n t=>hk _ _ (Or.inr ⟨n,by simp,ad _ _ _⟩) fun k hkf hne=>?_⟩
  have h1:=t.ne hkf
  have h2:k≠m:=by rintro rfl;exact hne _ rfl
  rw[aa _ _ h1,aa _ _ h2]
theorem RU {esz:Nat}{h:Heap}{v:D}{els:List D}(ho:Own esz h v els){k:Nat}{d:D}(hb:h k=.box d):∀l,v≠.ms k 0 l:=by
 rintro l rfl
 rcases ho with⟨hc,-⟩|⟨q,hc,hq⟩
 ·cases hc
 ·cases hc;rw[hb]at hq;cases hq
theorem Nk {esz:Nat}{h:Heap}{v:D}{els:List D}(ho:Own esz h v els){k:Nat}{d:D}(hb:h k=.box d) (s:Slot):Own esz (ah h k s) v els:=by
 rcases ho with ho|⟨q,rfl,hq⟩
 ·exact Or.inl ho
 ·refine Or.inr ⟨q,rfl,?_⟩
  rw[aa _ _ (by rintro rfl;rw[hb]at hq;cases hq)];exact hq
theorem QR {h:Heap}{v:D}{w:List Int}(ho:Own 1 h v (wr w)):uc h v (words w):=by
 rcases ho with⟨rfl,he⟩|⟨q,rfl,hq⟩
 ·have:w=[]:=by cases w<;>first|rfl|(simp[wr]at he)
  subst this;exact fK
 ·exact cA hq (IT w)
def G4 (g:Int) (zs:List Int):D:=.agg (.int .u8 g::zs.map (.int .i8))
theorem G3 (g:Int) (zs:List Int):aB (G4 g zs):=fun x hx=>by
 simp[G4]at hx
 rcases hx with rfl|⟨z,-,rfl⟩<;>rfl
theorem NG {g:Int}{zs:List Int}{i:Nat}(hi:i<zs.length):(G4 g zs).cells[1+i]?=some (.int .i8 zs[i]):=by
 simp only[G4,bX]
 rw[Nat.add_comm,List.getElem?_cons_succ,List.getElem?_map,List.getElem?_eq_getElem hi];rfl
theorem Gy {P:Program}{h:Heap}{m l j:Nat}{a:Int}{v:D}(hm:h m=.box v) (h0:0<=a) (h1:a<(l:Int)){K:D->Prop}:aq P (.iadda (.c (.ptr m 0 j)) (.c (.int .i64 a)) l 1) h K=K (.ptr m 0 (j+a.toNat)):=by
 rw[pn,EN,hm]
 simp[Slot.live,Slot.used,h0,h1]
theorem D3 {a b:Int}(ha:0<=a) (hb:0<b):0<=a.tmod b/\a.tmod b<b:=by
 rw[Int.tmod_eq_emod_of_nonneg ha]
 exact⟨Int.emod_nonneg _ (by omega),Int.emod_lt_of_pos _ hb⟩
theorem M4 {c:Code}{g:Int}{zs:List Int}(hc:bh c) (hg:0<=g/\g<=255) (hz:zs.length=12):aF PP lJ [c.e,G4 g zs] (fun r=>∃l:dA,jw c l/\r=l.e):=by
 refine gh (aU zm (aC _ _ _) rfl (yk _ _ _) ?_)
 (unfold sy;try dsimp only[xL,yL,xF,yF,xI,yI,xS,zI,zJ])
 refine bN.start.box (jK c).2 fun n1 h1 ro1 B=>?_
 refine B.box (G3 g zs) fun n2 h2 ro2 B=>?_
 refine B.alloc fun n3 h3 ro3 B=>?_
 have hcg:=hc.group
 have hcp:=hc.params
 simp only[↓bf (B.used 1 rfl),Nat.zero_add,B.cM 1 (j:=0) rfl rfl rfl]
 obtain⟨t1,t2⟩:=D3 hg.1 (show(0:Int)<3 by omega)
 rw[bJ]
 refine⟨by simp,?_⟩
 rw[bY,bm,wrap64 (n:=g.tmod 3) (by omega) (by omega),wrap64 (by omega) (by omega),cI rfl]
 obtain⟨b,hb⟩:∃b,b=1+g.tmod 3:=⟨_,rfl⟩
 rw[<- hb]
 refine B.alloc fun n4 h4 ro4 B=>?_
 refine B.m7 0 (cs':=[.int .i64 b,.nil]) rfl rfl rfl (by simp) fun h5 B=>?_
 refine⟨fun _ h'=>∃(ro':Ro) (b:Int),1<=b/\b<=3/\bN aM tq h' ro' [(n4,.agg [.int .i64 b,.nil]),(n3,.agg [.int .i64 0,.nil]),(n2,G4 g zs),(n1,c.e)],?_,?_⟩
 ·rintro _ h' ⟨ro',b,b1,b2,B⟩
  refine⟨fun _ h'=>∃(ro':Ro) (v:D) (w:List Int),bN aM tq h' ro' [(n4,.agg [.int .i64 b,v]),(n3,.agg [.int .i64 0,.nil]),(n2,G4 g zs),(n1,c.e)]/\Own 1 h' v (wr w)/\(w.length:Int)=c.params/\∀x∈w,gX x,?_,?_⟩
  ·rintro _ h' ⟨ro',v,w,B,O,hw,hI⟩
   have ov:=xn O
   rw[B.dt (s:=2) 0 rfl rfl rfl,Go.Am.m7 (s:=2) (cs':=[.int .i64 b,v]) (B.get 1 rfl) rfl rfl (by simp[ov])]
   have O:=Nk O (B.get 1 rfl) (.box (.agg [.int .i64 b,v]))
   have B:=B.aw 1 rfl (.agg [.int .i64 b,v])
   rw[B.dt (s:=2) 1 rfl rfl rfl]
   exact eF (by simp) (by simp) (.refl _) (A4.agg (.cons (aG rfl) (.cons (QR O) .nil))) ⟨⟨b,w⟩,⟨⟨b1,by show b<=64;omega⟩,hw,hI⟩,rfl⟩
  (unfold mK;try dsimp only[xL,yL,xF,yF,xI,yI,xS,zI,zJ])
  refine⟨fun k qs h'=>∃(i:Nat) (ro':Ro) (v:D) (w:List Int),qs=[.int .i64 (i:Int)]/\k+i=c.params.toNat/\w.length=i/\bN aM tq h' ro' [(n4,.agg [.int .i64 b,v]),(n3,.agg [.int .i64 0,.nil]),(n2,G4 g zs),(n1,c.e)]/\Own 1 h' v (wr w)/\∀x∈w,gX x,
   c.params.toNat,⟨0,ro',.nil,[],rfl,by omega,rfl,B,Or.inl ⟨rfl,rfl⟩,by simp⟩,?_⟩
  rintro k f h' ⟨i,ro',v,w,hf,hki,hwl,B,O,hI⟩
  simp only[List.cons.injEq,and_true]at hf
  rw[hf]
  simp only[↓bf (B.used 3 rfl),Nat.zero_add,B.cM 3 (j:=4) rfl rfl rfl,↓bM]
  by_cases hi:(i:Int)<c.params
  case neg =>
   simp only[hi,decide_false,↓ae,ai,true_and]
   exact⟨ro',v,w,B,O,by omega,hI⟩
  have e8:((i:Int).tmod 8)=((i % 8:Nat):Int):=by rw[Int.tmod_eq_emod_of_nonneg (by omega)];rfl
  have h8:i % 8<zs.length:=by omega
  have hv:=xn O
  simp only[hi,decide_true,↓af,↓aE,B.used 0 rfl,B.used 2 rfl,Nat.zero_add,true_and,↓bL,B.cM 0 (j:=1) rfl rfl rfl,↓bJ]
  refine⟨by simp,?_⟩
  rw[e8,Gy (B.get 2 rfl) (by omega) (by omega)]
  simp only[Int.toNat_natCast,B.cM 2 (j:=1+i % 8) rfl (NG h8) rfl,↓lP,↓bY]
  refine On (by simp) rfl (fun y hy=>by simp at hy;subst hy;rfl) (fun y hy=>by simp at hy;subst hy;rfl) ?_
  refine Qz O (by simp) rfl (by rw[ly];omega) (by rw[ly];omega) fun v' h2 O2 kb=>?_
  have B:=B.re (h0:=aM) (h':=h2) fun p hp=>by
   have:=(B.at_ p hp).1
   exact kb p.1 (by rw[this];simp) (RU O this)
  have hv':=xn O2
  rw[Go.Am.IP (B.get 0 rfl) (by simp) hv']
  have O3:=Nk O2 (B.get 0 rfl) (.box (.agg ([D.int .i64 b,v].set 1 v')))
  have B:=B.aw 0 rfl (.agg ([D.int .i64 b,v].set 1 v'))
  rw[bm,Gc (i:=i) (by omega)]
  refine⟨by simp,k-1,by omega,i+1,ro',v',w++[oF zs[i % 8]],rfl,by omega,by simp[hwl],B,by simpa[wr] using O3,fun x hx=>?_⟩
  rcases List.mem_append.1 hx with hx|hx
  ·exact hI x hx
  ·simp at hx;subst hx;exact cP _
 simp only[↓bf (B.used 3 rfl),Nat.zero_add,B.cM 3 (j:=0) rfl rfl rfl,↓qR]
 have hq:512<=(4096:Int).tdiv c.group/\(4096:Int).tdiv c.group<=4096:=by
  rw[Int.tdiv_eq_ediv_of_nonneg (by omega)]
  refine⟨?_,?_⟩
  ·exact(Int.le_ediv_iff_mul_le (by omega)).2 (by omega)
  ·exact Int.ediv_le_self _ (by omega)
 simp only[show(0:Int)<c.group by omega,decide_true,↓af,↓aE,B.used 0 rfl,B.used 3 rfl,Nat.zero_add,true_and,↓bL,B.cM 0 (j:=0) rfl rfl rfl,B.cM 3 (j:=0) rfl rfl rfl,↓ky]
 refine⟨by omega,?_⟩
 rw[wrap64 (by omega) (by omega)]
 have e1:∀{K:D->Prop},aq PP (.mn (.c (.int .i64 b)) (.c (.int .i64 ((4096:Int).tdiv c.group)))) h5 K=K (.int .i64 b):=fun {K}=>by
  show ab PP (.mn (.c (.int .i64 b)) (.c (.int .i64 ((4096:Int).tdiv c.group)))) h5 (fun d _=>K d)=_
  rw[Qa,if_neg (by omega)]
 have e2:∀{K:D->Prop},aq PP (.mx (.c (.int .i64 b)) (.c (.int .i64 1))) h5 K=K (.int .i64 b):=fun {K}=>by
  rw[TZ,Jo,if_neg (by omega)]
 rw[e1,e2]
 refine B.IP 0 rfl (by simp) rfl fun h6 B=>?_
 exact⟨by simp,ro4,b,by omega,by omega,B⟩
theorem wU {c:Code}(s:Nat):gg c.arrays s (iO c.arrays s):=by
 refine⟨by simp[iO],fun i a w ha hw=>?_⟩
 rw[iO,List.getElem?_map,ha]at hw
 cases hw
 refine⟨by simp[zG],fun v hv=>?_⟩
 obtain⟨-,rfl⟩:=List.mem_replicate.1 hv
 exact⟨by omega,by omega⟩
theorem gu.row {h:Heap}{ro:Ro}{s:Nat}{d:D}{m:Mm}(x:gu h ro s d m){i:Nat}{w:List Int}(hw:m[i]?=some w) :
  ∃q,h q=.arr 1 (wr w)/\ro q=.row s i/\(∀{K:HK},ab PP (.iadd (.c d) (.c (.int .i64 (i:Int))) 1) h (fun a h1=>ab PP (.ld (.c a) 1 false) h1 K)=K (.ms q 0 w.length) h) /\
   ∀w':List Int,w'.length=w.length->gu (ah h q (.arr 1 (wr w'))) ro s d (m.set i w'):=by
 obtain⟨kk,els,rfl,y,yo⟩:=x
 have hlt:=(List.getElem?_eq_some_iff.1 hw).1
 have hl:=y.len
 have he:els[i]?=some (els[i]'(by omega)):=List.getElem?_eq_getElem (by omega)
 obtain⟨q,hq,hq1,hq2⟩:∃q,els[i]'(by omega)=.ms q 0 w.length/\h q=.arr 1 (wr w)/\ro q=.row s i:=by
  rcases y.el i _ w he hw with g|g
  ·obtain⟨q,l,e⟩:=yo _ (List.getElem_mem (h:=(by omega:i<els.length)))
   rw[e]at g;cases g
  ·exact g
 rw[hq]at he
 refine⟨q,hq1,hq2,fun {K}=>?_,fun w' hw'=>⟨kk,els,by simp,⟨?_,y.rk,by simp[hl],fun j e v hj hv=>?_⟩,yo⟩⟩
 ·rw[bG,y.hk,jH,y.hk]
  apply propext
  constructor
  ·rintro⟨-,-,-,-,h⟩
   have:=h (.ms q 0 w.length) (by rw[show 0+((i:Int)).toNat=i by omega];exact he)
   simpa[bj] using this
  ·intro hk
   refine⟨by omega,by omega,⟨_,rfl⟩,by simp;omega,fun e he'=>?_⟩
   rw[show 0+((i:Int)).toNat=i by omega,he]at he';cases he'
   simpa[bj] using hk
 ·rw[aa _ _ (by rintro rfl;rw[y.rk]at hq2;cases hq2)];exact y.hk
 ·by_cases e':i=j
  ·subst e'
   rw[List.getElem?_set_self hlt]at hv;cases hv
   rw[he]at hj;cases hj
   exact Or.inr ⟨q,by rw[hw'],ad _ _ _,hq2⟩
  ·rw[List.getElem?_set_ne e']at hv
   rcases y.el j e v hj hv with g|⟨p,g1,g2,g3⟩
   ·exact Or.inl g
   ·refine Or.inr ⟨p,g1,?_,g3⟩
    rw[aa _ _ (by rintro rfl;rw[hq2]at g3;cases g3;exact e' rfl)];exact g2
theorem Tq {h:Heap}{d r:D}{i:Nat}(hd:∃q l,d=D.ms q 0 l) (H:∀{K:HK},ab PP (.iadd (.c d) (.c (.int .i64 (i:Int))) 1) h (fun a h1=>ab PP (.ld (.c a) 1 false) h1 K)=K r h){K:D->Prop} :
  aq PP (.iadd (.c d) (.c (.int .i64 (i:Int))) 1) h (fun a=>aq PP (.ld (.c a) 1 false) h K)=K r:=by
 obtain⟨q,l,rfl⟩:=hd
 have:=H (K:=fun x _=>K x)
 rw[bG]at this
 rw[dW,bG]
 simp only[↓bL]
 exact this
theorem gu.ms {h:Heap}{ro:Ro}{s:Nat}{d:D}{m:Mm}(x:gu h ro s d m):∃q l,d=D.ms q 0 l:=by obtain⟨kk,els,rfl,y,yo⟩:=x;exact⟨_,_,rfl⟩
theorem gu.len {h:Heap}{ro:Ro}{s:Nat}{d:D}{m:Mm}(x:gu h ro s d m){K:D->Prop}:bP d h K=K (.int .i64 (m.length:Int)):=by
 obtain⟨kk,els,rfl,y,yo⟩:=x
 rw[il,y.hk];simp[Slot.live,Slot.used]
theorem gg.set {ar:List bO}{s:Nat}{m:Mm}(h:gg ar s m){i k:Nat}{w:List Int}{v:Int}(hw:m[i]?=some w) (hv:gX v):gg ar s (m.set i (w.set k v)):=by
 have:=GV h (n:=i) (i:=k) hv
 unfold iy at this
 rw[List.getD_eq_getElem?_getD,hw,Option.getD_some]at this
 exact this
def HC (zs:List Int) (i k:Nat):Int:=oF (oF (zs.getD (8+(i+k) % 4) 0)+oF (((k:Int)*(i:Int)).tmod 5))
def rowF (zs:List Int) (i:Nat) (w:List Int):Nat->List Int
 | 0=>w
 | k+1=>(rowF zs i w k).set k (HC zs i k)
def FZ (zs:List Int) (m:Mm):Nat->Mm
 | 0=>m
 | i+1=>(FZ zs m i).set i (rowF zs i ((FZ zs m i).getD i []) ((FZ zs m i).getD i []).length)
theorem Ep (zs:List Int) (i:Nat) (w:List Int):∀k,(rowF zs i w k).length=w.length
 | 0=>rfl
 | k+1=>by simp[rowF,Ep zs i w k]
theorem KM (zs:List Int) (i k:Nat):gX (HC zs i k):=cP _
theorem HQ {zs:List Int}{i:Nat}{w:List Int}(h:∀v∈w,gX v):∀k,∀v,v∈rowF zs i w k->gX v
 | 0=>h
 | k+1=>DJ (HQ h k) (KM zs i k)
theorem gg.setRow {ar:List bO}{s:Nat}{m:Mm}(h:gg ar s m){i:Nat}{w w':List Int}(hw:m[i]?=some w) (hl:w'.length=w.length) (hI:∀v,v∈w'->gX v):gg ar s (m.set i w'):=by
 refine⟨by simp[h.len],fun j a v ha hv=>?_⟩
 by_cases e:i=j
 ·subst e
  rw[List.getElem?_set_self (List.getElem?_eq_some_iff.1 hw).1]at hv;cases hv
  exact⟨by rw[hl];exact(h.w i a w ha hw).1,hI⟩
 ·rw[List.getElem?_set_ne e]at hv;exact h.w j a v ha hv
theorem Jf {ar:List bO}{s:Nat}{zs:List Int}{m:Mm}(h:gg ar s m):∀i,gg ar s (FZ zs m i)
 | 0=>h
 | i+1=>by
  have ih:=Jf (zs:=zs) h i
  simp only[FZ]
  by_cases hi:i<(FZ zs m i).length
  ·have hw:=List.getElem?_eq_getElem hi
   rw[List.getD_eq_getElem?_getD,hw,Option.getD_some]
   obtain⟨-,hI⟩:=ih.w i (ar[i]'(by rw[<- ih.len];exact hi)) _ (List.getElem?_eq_getElem _) hw
   exact ih.setRow hw (Ep _ _ _ _) (HQ hI _)
  ·rw[List.set_eq_of_length_le (by omega)];exact ih
def PU (c:Code) (zs:List Int):Mm:=FZ zs (iO c.arrays 1) c.arrays.length
theorem NC (c:Code) (zs:List Int):gg c.arrays 1 (PU c zs):=Jf (wU 1) _
theorem M3 {c:Code}{g:Int}{zs:List Int}(hc:bh c) (hz:zs.length=12):aF PP lI [c.e,G4 g zs] (· = aP (PU c zs)):=by
 refine gh (aU zl (aC _ _ _) rfl (yj _ _ _) ?_)
 (unfold sw;try dsimp only[xL,yL,xF,yF,xI,yI,xS,zI,zJ])
 refine bN.start.box (jK c).2 fun n1 h1 ro1 B=>?_
 refine B.box (G3 g zs) fun n2 h2 ro2 B=>?_
 simp only[↓bf (B.used 1 rfl),Nat.zero_add,B.cM 1 (j:=5) rfl rfl rfl]
 refine Kc (ro:=ro2) hc 1 1 fun d h3 ro3 x O=>?_
 have B:=B.step x.fr
 have hna:=hc.nar
 refine⟨fun _ h'=>∃(ro':Ro),gu h' ro' 1 d (PU c zs),?_,?_⟩
 ·rintro _ h' ⟨ro',O⟩
  have ht:∀ds,d≠.tup ds:=by obtain⟨k,els,rfl,-⟩:=O;simp
  obtain⟨h'',i,z⟩:=O.r.out
  exact eF ht (by simp[aP]) i z.d rfl
 (unfold mI;try dsimp only[xL,yL,xF,yF,xI,yI,xS,zI,zJ])
 refine⟨fun n qs h'=>∃(i:Nat) (ro':Ro),qs=[.int .i64 (i:Int)]/\n+i=c.arrays.length/\bN aM tq h' ro' [(n2,G4 g zs),(n1,c.e)]/\gu h' ro' 1 d (FZ zs (iO c.arrays 1) i),
  c.arrays.length,⟨0,ro3,rfl,by omega,B,O⟩,?_⟩
 rintro n f h' ⟨i,ro',hf,hni,B,O⟩
 simp only[List.cons.injEq,and_true]at hf
 obtain⟨m,hm⟩:∃m,m=FZ zs (iO c.arrays 1) i:=⟨_,rfl⟩
 have W:gg c.arrays 1 m:=by rw[hm];exact Jf (wU 1) i
 rw[<- hm]at O
 have hml:=W.len
 rw[hf,O.len,bM]
 by_cases hi:i<m.length
 case neg =>
  simp only[show ¬((i:Int)<(m.length:Int)) by omega,decide_false,↓ae,ai,true_and]
  have:i=c.arrays.length:=by omega
  subst this
  rw[hm]at O
  exact⟨ro',O⟩
 have hw0:m[i]?=some m[i]:=List.getElem?_eq_getElem hi
 obtain⟨w0,hw0e⟩:∃w,w=m[i]:=⟨_,rfl⟩
 rw[<- hw0e]at hw0
 simp only[show((i:Int)<(m.length:Int)) by omega,decide_true,↓af]
 refine⟨fun _ h'=>∃(ro':Ro),bN aM tq h' ro' [(n2,G4 g zs),(n1,c.e)]/\gu h' ro' 1 d (m.set i (rowF zs i w0 w0.length)),?_,?_⟩
 ·rintro _ h' ⟨ro',B,O⟩
  rw[bm,Gc (i:=i) (by omega)]
  refine⟨by simp,n-1,by omega,i+1,ro',rfl,by omega,B,?_⟩
  simp only[FZ]
  rw[<- hm,List.getD_eq_getElem?_getD,hw0,Option.getD_some]
  exact O
 (unfold mJ;try dsimp only[xL,yL,xF,yF,xI,yI,xS,zI,zJ])
 refine⟨fun n qs h'=>∃(k:Nat) (ro':Ro),qs=[.int .i64 (k:Int)]/\k<=w0.length/\n+k=w0.length/\bN aM tq h' ro' [(n2,G4 g zs),(n1,c.e)]/\gu h' ro' 1 d (m.set i (rowF zs i w0 k)),
  w0.length,⟨0,ro',rfl,by omega,by omega,B,by
   have:m.set i w0=m:=by rw[hw0e];exact List.set_getElem_self _
   simp only[rowF];rw[this];exact O⟩,?_⟩
 have hic:i<c.arrays.length:=by omega
 clear O B
 rintro n f2 h' ⟨k,ro',hf2,hk8,hnk,B,O⟩
 simp only[List.cons.injEq,and_true]at hf2
 have hw:(m.set i (rowF zs i w0 k))[i]?=some (rowF zs i w0 k):=List.getElem?_set_self hi
 have hwl0:=Ep zs i w0 k
 obtain⟨w,hwe⟩:∃w,w=rowF zs i w0 k:=⟨_,rfl⟩
 rw[<- hwe]at hw hwl0 O
 obtain⟨hwl,-⟩:=W.w i c.arrays[i] w0 (List.getElem?_eq_getElem (by omega)) hw0
 have hal:=(hc.ar c.arrays[i] (List.getElem_mem _)).2
 have hw8:w.length<=8:=by rw[hwl0,hwl];unfold zG;split<;>omega
 obtain⟨q,hq,rq,hrow,hput⟩:=O.row hw
 rw[hf,hf2]
 rw[hrow,il,hq,bM]
 refine⟨by simp[Slot.live,Slot.used],?_⟩
 by_cases hk:k<w.length
 case neg =>
  simp only[show ¬((k:Int)<(w.length:Int)) by omega,decide_false,↓ae,ai,true_and]
  have:k=w0.length:=by omega
  rw[hwe,this]at O
  exact⟨ro',B,O⟩
 simp only[show((k:Int)<(w.length:Int)) by omega,decide_true,↓af]
 rw[Tq O.ms hrow]
 have e4:((i:Int)+(k:Int)).tmod 4=(((i+k) % 4:Nat):Int):=by rw[Int.tmod_eq_emod_of_nonneg (by omega)];omega
 rw[bm,wrap64 (by omega) (by omega),bJ]
 refine⟨by simp,?_⟩
 rw[e4]
 simp only[↓aE,B.used 0 rfl,Nat.zero_add,true_and]
 rw[Gy (B.get 0 rfl) (by omega) (by omega)]
 have h8:8+(i+k) % 4<zs.length:=by omega
 have hat:=NG (g:=g) h8
 simp only[Int.toNat_natCast,B.cM 0 (j:=9+(i+k) % 4) rfl (by rw[show 9+(i+k) % 4=1+(8+(i+k) % 4) by omega];exact hat) rfl,↓bL,↓dW,↓lP,↓bY,↓gj,↓bJ]
 refine⟨by simp,?_⟩
 rw[bm]
 simp only[↓bG,hq,Slot.row]
 refine⟨by omega,by omega,⟨_,rfl⟩,?_⟩
 rw[du,hq]
 refine⟨rfl,by simp,by simp[wr];omega,by simp,fun e he=>?_⟩
 have es:∀v:Int,setCells e 0 (D.int .i32 v).cells=.int .i32 v:=fun v=>by
  rw[zF,Option.map_eq_some_iff]at he
  obtain⟨z,-,rfl⟩:=he
  rfl
 rw[es,show 0+((k:Int)).toNat=k by omega,zE]
 rw[bm,Gc (i:=k) (by omega)]
 refine⟨by simp,n-1,by omega,k+1,ro',rfl,by omega,by omega,B.step (Fr.aw (by rw[rq];simp) (by simp)),?_⟩
 have X:=hput (w.set k (HC zs i k)) (by simp)
 rw[List.set_set]at X
 simp only[rowF]
 rw[<- hwe]
 have hki:k*i<=8*8:=Nat.mul_le_mul (by omega) (by omega)
 have hki':((k:Int)*(i:Int))=((k*i:Nat):Int):=by simp
 have ew:IntKind.i32.wrap (IntKind.i32.wrap zs[8+(i+k) % 4]+IntKind.i32.wrap ((IntKind.i64.wrap ((k:Int)*(i:Int))).tmod 5))=HC zs i k:=by
  rw[wrap64 (by omega) (by omega)]
  unfold HC oF
  rw[List.getD_eq_getElem?_getD,List.getElem?_eq_getElem h8,Option.getD_some]
 rw[ew]
 exact X
theorem Oo {c:Code}(h:Hw c):bh c where
 group:=by rcases h.group with h|h|h|h|h<;>omega
 sub:=by rcases h.sub with h|h|h|h<;>omega
 regs:=by have:=h.regs;have:=h.nl;omega
 slots:=h.slots
 params:=by have:=h.params;omega
 nar:=by rw[h.arrays];decide
 ar:=by
  rw[h.arrays]
  intro a ha
  simp only[uw,List.mem_cons,List.not_mem_nil,or_false]at ha
  rcases ha with rfl|rfl|rfl|rfl|rfl<;>exact⟨by simp,by simp,by simp⟩
 nb:=by have:=h.nb;omega
 xs:=fun b hb=>by
  obtain⟨hx,hl,ht⟩:=h.b b hb
  have hx:∀x∈b.i,zD c.regs x:=fun x hx'=>by obtain⟨i,hi⟩:=List.getElem?_of_mem hx';exact(hx i x hi).1
  refine⟨fun x hx'=>⟨hx x hx',fun ho=>?_,fun ho=>?_⟩,by omega,ht⟩
  ·have h5:c.arrays.length=5:=by rw[h.arrays];rfl
   have:∀n:Int,0<=n/\n<5->∃k:Nat,n=(k:Int)/\k<c.arrays.length:=fun n hn=>⟨n.toNat,by omega,by omega⟩
   cases hx x hx' with
   | load n d a h0 h1 h2=>exact this n h0
   | store n a b h0 h1 h2=>exact this n h0
   | atom s n a b hs h0 h1 h2=>exact this n ⟨h0.1,h0.2.1⟩
   | _=>simp at ho
  ·cases hx x hx' with
   | param n d h0 h1=>have:=h.params;exact⟨h0.1,by show n<c.params;omega⟩
   | _=>simp at ho
theorem Nu {c:Code}(h:bh c):bh (ml c) where
 group:=h.group
 sub:=h.sub
 regs:=h.regs
 slots:=h.slots
 params:=h.params
 nar:=by simpa[ml] using h.nar
 ar:=fun a ha=>by
  simp only[ml,List.mem_map]at ha
  obtain⟨b,hb,rfl⟩:=ha
  obtain⟨h1,h2,h3⟩:=h.ar b hb
  exact⟨h1,by simp only[fH];omega,by simp only[fH];omega⟩
 nb:=h.nb
 xs:=fun b hb=>by
  obtain⟨h1,h2,h3⟩:=h.xs b hb
  exact⟨fun x hx=>⟨(h1 x hx).ok,fun ho=>by obtain⟨k,k1,k2⟩:=(h1 x hx).n ho;exact⟨k,k1,by simpa[ml] using k2⟩,(h1 x hx).p⟩,h2,h3⟩
structure Q9 (c:Code) (l:dA) (it:It):Prop extends OU c l it where
 ep:0<=it.epoch
 e2:it.at_=2->(fO c it.block).kind=3\/(fO c it.block).kind=4
 e3:it.at_=3->it.block=0/\(∀v∈it.regs,v=0)/\∀w∈it.priv,∀v∈w,v=0
structure F9 (c:Code) (l:dA) (r:qL):Prop where
 it:Q9 c l r.it
 g:gg c.arrays 1 r.g
 s:gg c.arrays 2 r.s
theorem Hs {c:Code}{l:dA}{id ep at_:Int}(hc:bh c) (hid:0<=id/\id<l.groups*c.group) (he:0<=ep) (ha:at_=1\/at_=3):Q9 c l (bE c id ep at_):=by
 have hr:=hc.regs
 refine⟨⟨hid,by show at_=1\/at_=2\/at_=3;omega,⟨Int.le_refl _,by have:=hc.nb;show(0:Int)<_;omega⟩,?_,fun v hv=>?_,wU 3⟩,he,fun h=>?_,fun _=>⟨rfl,fun v hv=>(List.mem_replicate.1 hv).2,fun w hw v hv=>?_⟩⟩
 ·simp[bE];omega
 ·obtain⟨-,rfl⟩:=List.mem_replicate.1 hv;exact⟨by omega,by omega⟩
 ·have:at_=2:=h
  omega
 ·simp only[bE,iO,List.mem_map]at hw
  obtain⟨a,-,rfl⟩:=hw
  exact(List.mem_replicate.1 hv).2
theorem HA.to {N:Nat}{R:Int}{t:Term}(hN:1<=N) (h:HA N R t):(0<=t.to0/\t.to0<(N:Int))/\(0<=t.to1/\t.to1<(N:Int)):=by
 cases h<;>simp<;>omega
theorem PY {c:Code}{l:dA}{it:It}(hc:bh c) (h:OU c l it) (h1:it.at_=1) (he:0<=it.epoch):Q9 c l (aT c it):=by
 obtain⟨k,Q,hbk,hQ,hQm,ht,-⟩:=hc.OB h.block
 obtain⟨-,-,hT⟩:=hc.xs Q hQm
 obtain⟨t0,t1⟩:=hT.to hc.nb.1
 have base:∀b:Int,0<=b/\b<(c.b.length:Int)->Q9 c l { it with block:=b }:=fun b hb =>
  ⟨⟨h.id,h.at_,hb,h.len,h.regs,h.priv⟩,he,fun h2=>by have:it.at_=2:=h2;omega,fun h3=>by have:it.at_=3:=h3;omega⟩
 unfold aT
 rw[ht]
 simp only
 split
 ·exact base _ t0
 split
 ·split
  ·exact base _ t0
  ·exact base _ t1
 split
 ·exact Hs hc h.id he (Or.inr rfl)
 ·refine⟨⟨h.id,Or.inr (Or.inl rfl),h.block,h.len,h.regs,h.priv⟩,he,fun _=>?_,fun h3=>by cases h3⟩
  show(fO c it.block).kind=3\/(fO c it.block).kind=4
  rw[ht]
  rename_i n1 n2 n3 _
  rcases hT.ops.2 with h|h|h|h|h
  ·exact absurd h n1
  ·exact absurd h n2
  ·exact Or.inl h
  ·exact Or.inr h
  ·exact absurd h n3
theorem Ni {c:Code}{l:dA}{it:It}{v:Int}(hc:bh c) (h:Q9 c l it) (hv:gX v):Q9 c l (mi c it v).1:=by
 by_cases ha:it.at_=2
 case neg=>rw[xm ha];exact h
 obtain⟨k,Q,hbk,hQ,hQm,ht,-⟩:=hc.OB h.block
 obtain⟨-,-,hT⟩:=hc.xs Q hQm
 obtain⟨t0,t1⟩:=hT.to hc.nb.1
 rw[nE ha,ht]
 refine⟨⟨h.id,Or.inl rfl,t0,?_,?_,h.priv⟩,h.ep,fun h2=>(by cases h2),fun h3=>(by cases h3)⟩
 ·have:=h.len
  simp only
  split<;>simpa using this
 ·simp only
  split
  ·exact DJ h.regs hv
  ·exact h.regs
theorem I1 {c:Code}{l:dA}{it:It}{g s:Mm}{aw:Int}(hc:bh c) (hl:jw c l) (h:Q9 c l it) (hg:gg c.arrays 1 g) (hs:gg c.arrays 2 s):F9 c l (dC c l it g s aw)/\(dC c l it g s aw).ev.length<=20:=by
 unfold dC
 split
 ·exact⟨⟨h,hg,hs⟩,by simp⟩
 rename_i ha
 have ha:it.at_=1:=by omega
 obtain⟨k,Q,hbk,hQ,hQm,ht,hins⟩:=hc.OB h.block
 obtain⟨hxs,hxl,-⟩:=hc.xs Q hQm
 rw[hins]
 have w0:oC c (zY it g s):=GO h.toOU hg hs
 cases e:runP c l it.id aw it.block Q.i 0 (zY it g s) with
 | none=>exact⟨⟨h,hg,hs⟩,by simp⟩
 | some st =>
  obtain⟨w,e1⟩:=J3 hc hl _ _ _ _ hxs w0 e
  refine⟨⟨PY hc ⟨h.id,h.at_,h.block,w.len,w.regs,w.mem 3 (by omega) (by omega)⟩ ha h.ep,w.mem 1 (by omega) (by omega),w.mem 2 (by omega) (by omega)⟩,?_⟩
  have:(zY it g s).ev.length=0:=rfl
  simp only
  omega
abbrev sx (r:qL) (dE:D):List D:=[.int .i64 r.it.id,.int .i64 r.it.at_,.int .i64 r.it.block,.int .i64 r.it.epoch,words r.it.regs,aP r.it.priv,.sl [],aP r.g,aP r.s,dE,.int .i64 r.e]
theorem Em {r:qL}{dE:D}(h:dE.one=true):∀x,x∈sx r dE->x.one=true:=fun x hx=>by
 simp[words,aP]at hx
 rcases hx with rfl|rfl|rfl|rfl|rfl|rfl|rfl|rfl|rfl|rfl|rfl<;>first|rfl|exact h
def Ra (dE:D) (ev:List Ev):Prop:=(dE=.nil/\ev=[])\/dE=.sl (ev.map Ev.e)
theorem Ra.one {dE:D}{ev:List Ev}(h:Ra dE ev):dE.one=true:=by rcases h with⟨rfl,-⟩|rfl<;>rfl
theorem Ra.f1 {h:Heap}{dE:D}{ev:List Ev}(x:Ra dE ev):uc h dE (.sl (ev.map Ev.e)):=by
 rcases x with⟨rfl,rfl⟩|rfl
 ·exact fK
 ·exact aG rfl
theorem Mv {h:Heap}{K:D->Prop}{r:qL}{dE:D}(x:Ra dE r.ev) (hK:K (gI r)):Fp K (.agg (sx r dE)) h :=
 eF (by simp) (by simp[gI]) (.refl _) (A4.agg (.cons (aG rfl) (.cons (aG rfl) (.cons (aG rfl) (.cons (aG rfl) (.cons (aG rfl) (.cons (aG rfl) (.cons (aG rfl) (.cons (aG rfl) (.cons (aG rfl) (.cons x.f1 (.cons (aG rfl) .nil)))))))))))) hK
theorem NB (g s:Mm):wT (xt g s):=cV (by simp[aP])
def afterP (c:Code) (l:dA):Nat->Nat->qL->qL
 | 0,_,s=>{ s with ev:=[] }
 | n+1,i,s =>
  if s.it.at_=3 then { s with ev:=[] }
  else if s.it.at_=2 then afterP c l n (i+1) { s with it:=(mi c s.it (oF ((i:Int).tmod 3))).1 }
  else if(dC c l s.it s.g s.s i).e=0 then afterP c l n (i+1) (dC c l s.it s.g s.s i) else s
theorem bN.Ta {h0 h:Heap}{ro0 ro:Ro}{L:List (Nat×D)}{KH:HK}(B:bN h0 ro0 h ro L) (i:Nat){n s:Nat}{cs cs':List D}{d:D}(hd:d=.agg cs') (hi:L[i]?=some (n,.agg cs)) (hl:cs.length=s) (hl':cs'.length=s) (ho:∀x,x∈cs'->x.one=true)
  (hK:∀h',bN h0 ro0 h' ro (L.set i (n,.agg cs'))->KH .undef h'):ab PP (.st (.c (.ptr n 0 0)) (.c d) s) h KH:=by
 subst hd;exact B.m7 i hi hl hl' ho hK
theorem E9 {c:Code}{l:dA}(hc:bh c) (hl:jw c l):∀(n i:Nat) (s:qL),F9 c l s->F9 c l (afterP c l n i s)
 | 0,_,s,h=>⟨h.it,h.g,h.s⟩
 | n+1,i,s,h=>by
  simp only[afterP]
  split
  ·exact⟨h.it,h.g,h.s⟩
  split
  ·exact E9 hc hl n (i+1) _ ⟨Ni hc h.it (cP _),h.g,h.s⟩
  split
  ·exact E9 hc hl n (i+1) _ (I1 hc hl h.it h.g h.s).1
  ·exact h
def AL (c:Code) (l:dA) (id n:Int) (m:Mm):qL:=afterP c l n.toNat 0 ⟨bE c id 0 1,m,iO c.arrays 2,[],0⟩
theorem OM {c:Code}{l:dA}{id n:Int}{m:Mm}(hc:bh c) (hl:jw c l) (hid:0<=id/\id<l.groups*c.group) (hm:gg c.arrays 1 m):F9 c l (AL c l id n m) :=
 E9 hc hl _ _ _ ⟨Hs hc hid (by omega) (Or.inl rfl),hm,wU 2⟩
theorem Pu {c:Code}{l:dA}{id n:Int}{m:Mm}(hc:bh c) (hl:jw c l) (hid:0<=id/\id<l.groups*c.group) (hn:0<=n/\n<=12) (hm:gg c.arrays 1 m) :
  aF PP m9 [c.e,l.e,.int .i64 id,.int .i64 n,aP m] (· = gI (AL c l id n m)):=by
 refine gh (aU A8 (aC _ _ _) rfl (AO _ _ _ _ _ _) ?_)
 (unfold uA;try dsimp only[xL,yL,xF,yF,xI,yI,xS,zI,zJ])
 refine bN.start.box (jK c).2 fun n1 h1 ro1 B=>?_
 refine B.box (pe l) fun n2 h2 ro2 B=>?_
 refine B.alloc fun n3 h3 ro3 B=>?_
 simp only[↓bL,↓aE,B.used 2 rfl,Nat.zero_add,B.dt (s:=8) 2 rfl rfl rfl,B.dt (s:=2) 1 rfl rfl rfl,B.cM 2 (j:=5) rfl rfl rfl,true_and]
 refine bc (Le hc hl) ⟨Code.cu c,dA.cu l,ba,trivial⟩ ?_
 rw[zX hid]
 have hf:∀{K:D->Prop},aq PP (.fld (.c (tS (bE c id 0 1,0))) 0 7 true) h3 K=K (bE c id 0 1).e:=fun {K}=>by
  rw[Om]
  have:=NQ (P:=PP) (h:=h3) (cs:=(bE c id 0 1).cs++[.int .i64 0]) (o:=0) (s:=7) (g:=true) (KH:=fun x _=>K x)
  rw[show(tS (bE c id 0 1,0))=.agg ((bE c id 0 1).cs++[.int .i64 0]) from rfl,this,cF]
  simp[It.cs,It.e]
 simp only[↓bL,↓aE,B.used 2 rfl,Nat.zero_add,B.dt (s:=8) 2 rfl rfl rfl,B.dt (s:=2) 1 rfl rfl rfl,B.cM 2 (j:=5) rfl rfl rfl,ai,true_and,hf]
 refine bc (I8 hc 2) ⟨eR,ba,trivial⟩ ?_
 rw[jJ rfl]
 refine B.alloc fun n4 h4 ro4 B=>?_
 simp only[↓bL,↓aE,B.used 3 rfl,Nat.zero_add,B.dt (s:=8) 3 rfl rfl rfl,B.dt (s:=2) 2 rfl rfl rfl,B.cM 3 (j:=5) rfl rfl rfl,ai,true_and]
 obtain⟨s0,hs0⟩:∃s0:qL,s0=⟨bE c id 0 1,m,iO c.arrays 2,[],0⟩:=⟨_,rfl⟩
 have v0:F9 c l s0:=by rw[hs0];exact⟨Hs hc hid (by omega) (Or.inl rfl),hm,wU 2⟩
 refine B.Ta 0 (cs':=sx s0 .nil) (by rw[hs0];rfl) rfl rfl rfl (Em rfl) fun h5 B=>?_
 have B:bN aM tq h5 ro4 [(n4,.agg (sx s0 .nil)),(n3,.agg tJ),(n2,l.e),(n1,c.e)]:=B
 refine⟨fun _ h'=>∃(ro':Ro) (s:qL) (dE:D),bN aM tq h' ro' [(n4,.agg (sx s dE)),(n3,.agg tJ),(n2,l.e),(n1,c.e)]/\F9 c l s/\Ra dE s.ev/\AL c l id n m={ s with ev:=[] },?_,?_⟩
 ·rintro _ h' ⟨ro',s,dE,B,V,E,P⟩
  simp only[↓bf (B.used 0 rfl),Nat.zero_add]
  refine B.IP 0 (j:=9) rfl (by simp) rfl fun h6 B=>?_
  have B:bN aM tq h6 ro' [(n4,.agg (sx { s with ev:=[] } .nil)),(n3,.agg tJ),(n2,l.e),(n1,c.e)]:=B
  rw[B.dt (s:=11) 0 rfl rfl rfl]
  refine B.m7 1 (cs':=sx { s with ev:=[] } .nil) rfl rfl rfl (Em rfl) fun h7 B=>?_
  rw[B.dt (s:=11) 1 rfl rfl rfl]
  exact Mv (Or.inl ⟨rfl,rfl⟩) (by rw[P])
 (unfold nQ;try dsimp only[xL,yL,xF,yF,xI,yI,xS,zI,zJ])
 refine⟨fun k qs h'=>∃(i:Nat) (ro':Ro) (s:qL) (dE:D),qs=[.int .i64 (i:Int)]/\k+i=n.toNat/\bN aM tq h' ro' [(n4,.agg (sx s dE)),(n3,.agg tJ),(n2,l.e),(n1,c.e)]/\F9 c l s/\Ra dE s.ev/\AL c l id n m=afterP c l k i s,
  n.toNat,⟨0,ro4,s0,.nil,rfl,by omega,B,v0,Or.inl ⟨rfl,by rw[hs0]⟩,by rw[hs0];rfl⟩,?_⟩
 rintro k f h' ⟨i,ro',s,dE,hf,hki,B,V,E,P⟩
 simp only[List.cons.injEq,and_true]at hf
 rw[hf,bM]
 by_cases hi:(i:Int)<n
 case neg =>
  simp only[hi,decide_false,↓Sr,↓fF,↓ae,ai,true_and]
  have:k=0:=by omega
  subst this
  exact⟨ro',s,dE,B,V,E,P⟩
 obtain⟨k,rfl⟩:∃k',k=k'+1:=⟨k-1,by omega⟩
 simp only[afterP]at P
 simp only[hi,decide_true,↓Kp,↓eD,↓bf (B.used 0 rfl),Nat.zero_add,B.cM 0 (j:=1) rfl rfl rfl,↓ck]
 by_cases h3:s.it.at_=3
 ·simp only[h3,decide_true,Bool.not_true,↓ae,ai,true_and]
  rw[if_pos h3]at P
  exact⟨ro',s,dE,B,V,E,P⟩
 rw[if_neg h3]at P
 simp only[h3,decide_false,Bool.not_false,↓af]
 refine⟨fun _ h'=>∃(ro':Ro) (s:qL) (dE:D),bN aM tq h' ro' [(n4,.agg (sx s dE)),(n3,.agg tJ),(n2,l.e),(n1,c.e)]/\F9 c l s/\Ra dE s.ev/\AL c l id n m=afterP c l k (i+1) s,?_,?_⟩
 ·rintro _ h' ⟨ro',s,dE,B,V,E,P⟩
  rw[bm,Gc (i:=i) (by omega)]
  exact⟨by simp,k,by omega,i+1,ro',s,dE,rfl,by omega,B,V,E,P⟩
 simp only[↓bf (B.used 0 rfl),Nat.zero_add,B.cM 0 (j:=1) rfl rfl rfl,↓aN]
 have OZ:∀{K:HK},ab PP (.ld (.c (.ptr n4 0 0)) 7 true) h' K=K s.it.e h':=fun {K}=>B.rL 0 (j:=0) (s:=7) (e:=s.it.e) rfl rfl rfl (Nat.le_of_ble_eq_true rfl)
 by_cases h2:s.it.at_=2
 ·simp only[h2,decide_true,↓af,B.dt (s:=8) 3 rfl rfl rfl,↓bf (B.used 0 rfl),Nat.zero_add,OZ,↓bJ]
  refine⟨by simp,?_⟩
  rw[bY]
  refine bc (MZ hc V.it.toOU) ⟨Code.cu c,It.cu _,ba,trivial⟩ ?_
  have pv:=Ni hc V.it (cP ((i:Int).tmod 3))
  unfold oF at pv
  obtain⟨p,hp⟩:∃p,p=mi c s.it (IntKind.i32.wrap ((i:Int).tmod 3)):=⟨_,rfl⟩
  rw[<- hp]at pv ⊢
  rw[show tS p=.agg (p.1.cs++[.int .i64 p.2]) from rfl,NQ,cF]
  refine⟨by simp[It.cs],?_⟩
  simp only[↓bf (B.used 0 rfl),Nat.zero_add]
  rw[du,B.get 0 rfl]
  refine⟨by simp[It.cs],fun x hx=>?_,rfl,by simp,?_⟩
  ·exact ph p x (List.mem_of_mem_take (by simpa[tS] using hx))
  have B:=B.aw 0 rfl (.agg (sx { s with it:=p.1 } dE))
  exact⟨by simp,ro',{ s with it:=p.1 },dE,B,⟨pv,V.g,V.s⟩,E,by rw[if_pos h2]at P;rw[P,hp]⟩
 simp only[h2,decide_false,↓ae,B.dt (s:=8) 3 rfl rfl rfl,B.dt (s:=2) 2 rfl rfl rfl,↓bf (B.used 0 rfl),Nat.zero_add,OZ,B.cM 0 (j:=7) rfl rfl rfl,B.cM 0 (j:=8) rfl rfl rfl]
 rw[cI rfl]
 refine bc (MY (g:=s.g) (s:=s.s) hc hl V.it.toOU V.g V.s) ⟨Code.cu c,dA.cu l,It.cu _,NB _ _,ba,trivial⟩ ?_
 obtain⟨V2,-⟩:=I1 (aw:=(i:Int)) hc hl V.it V.g V.s
 obtain⟨q,hq⟩:∃q,q=dC c l s.it s.g s.s (i:Int):=⟨_,rfl⟩
 rw[<- hq]at V2 ⊢
 refine B.alloc fun n5 h6 ro6 B=>?_
 refine B.m7 0 (cs':=sx q (.sl (q.ev.map Ev.e))) rfl rfl rfl (Em rfl) fun h7 B=>?_
 simp only[↓bf (B.used 0 rfl),Nat.zero_add,B.cM 0 (j:=10) rfl rfl rfl,↓ck]
 by_cases he:q.e=0
 case neg =>
  simp only[he,decide_false,Bool.not_false,↓af]
  rw[B.dt (s:=11) 1 rfl rfl rfl]
  refine B.m7 2 (cs':=sx s dE) rfl rfl rfl (Em E.one) fun h8 B=>?_
  rw[B.dt (s:=11) 2 rfl rfl rfl]
  rw[if_neg h2, <- hq,if_neg he]at P
  exact Mv E (by rw[P])
 simp only[he,decide_true,Bool.not_true,↓ae]
 rw[B.dt (s:=11) 0 rfl rfl rfl]
 refine B.m7 1 (cs':=sx q (.sl (q.ev.map Ev.e))) rfl rfl rfl (Em rfl) fun h8 B=>?_
 rw[if_neg h2, <- hq,if_pos he]at P
 exact⟨by simp,ro6,q,_,B.tail,V2,Or.inr rfl,P⟩
abbrev EC (c:Code) (x y:D) (r:List D):List D:=[.int .i64 c.group,.int .i64 c.sub,.int .i64 c.regs,.int .i64 c.slots,.int .i64 c.params,.sl (c.arrays.map bO.e),.sl (c.loops.map Loop.e),.sl (c.b.map Block.e),x,y]++r
def GX (c:Code) (l:dA) (s:qL):D:=.agg (EC c (.int .i64 l.groups) (words l.args) (Br s))
theorem Kh (c:Code) (l:dA) (s:qL):aB (GX c l s):=fun x hx=>by
 simp[GX,words,aP]at hx
 rcases hx with rfl|rfl|rfl|rfl|rfl|rfl|rfl|rfl|rfl|rfl|rfl|rfl|rfl|rfl|rfl|rfl|rfl|rfl|rfl|rfl|rfl<;>rfl
theorem PD (c:Code) (l:dA) (s:qL):wT (GX c l s):=cV (by simp[words,aP])
def dh (g:Int) (zs:List Int) (id st:Int):D:=.agg (.int .u8 g::zs.map (.int .i8)++[.int .u8 id,.int .u8 st])
theorem EB (g:Int) (zs:List Int) (id st:Int):aB (dh g zs id st):=fun x hx=>by
 simp[dh]at hx
 rcases hx with rfl|⟨z,-,rfl⟩|rfl|rfl<;>rfl
theorem EA {g:Int}{zs:List Int}{id st:Int}(hz:zs.length=12):D.agg (((dh g zs id st).cells.drop 0).take 13)=G4 g zs:=by
 simp only[dh,bX,List.drop_zero,G4]
 congr 1
 rw[List.take_append_of_le_length (by simp[hz]),List.take_of_length_le (by simp[hz])]
theorem Gj {g:Int}{zs:List Int}{id st:Int}(hz:zs.length=12):(dh g zs id st).cells[13]?=some (.int .u8 id):=by
 simp only[dh,bX]
 rw[List.getElem?_append_right (by simp[hz])]
 simp[hz]
theorem Lj {g:Int}{zs:List Int}{id st:Int}(hz:zs.length=12):(dh g zs id st).cells[14]?=some (.int .u8 st):=by
 simp only[dh,bX]
 rw[List.getElem?_append_right (by simp[hz])]
 simp[hz]
structure DO (g:Int) (zs:List Int) (id st:Int):Prop where
 g:0<=g/\g<=255
 z:zs.length=12
 id:0<=id/\id<=255
 st:0<=st/\st<=255
abbrev O4:List D:=[.int .i64 0,.int .i64 0,.int .i64 0,.int .i64 0,.nil,.nil,.nil,.nil,.nil,.nil,.int .i64 0]
abbrev Uk:List D:=[.int .i64 0,.int .i64 0,.int .i64 0,.int .i64 0,.int .i64 0,.nil,.nil,.nil,.int .i64 0,.nil,.int .i64 0,.int .i64 0,.int .i64 0,.int .i64 0,.nil,.nil,.nil,.nil,.nil,.nil,.int .i64 0]
theorem Lw {bs:List Nat}{g:Int}{zs:List Int}{id st:Int}(hb:∀b∈bs,b<=255) (hbl:bs.length<=9223372036854775807) (hp:DO g zs id st) :
  aF PP iW [jX bs,dh g zs id st] (fun r=>∃(c:Code) (l:dA) (s:qL),bh c/\c.b.length<=18/\jw c l/\F9 c l s/\r=GX c l s):=by
 refine bb zv (aC _ _ _) rfl (yv _ _ _) ?_
 (unfold sB;try dsimp only[xL,yL,xF,yF,xI,yI,xS,zI,zJ])
 have hz:=hp.z
 have rvd:(jX bs).vd=true/\aB (jX bs):=(cV (by simp[wX]):wT (jX bs)).pair
 refine bN.start.box rvd.2 fun n1 h1 ro1 B=>?_
 refine B.box (EB g zs id st) fun n2 h2 ro2 B=>?_
 refine B.alloc fun n3 h3 ro3 B=>?_
 rw[B.dt (s:=1) 2 rfl rfl rfl]
 refine bF (SK hb hbl) (fun d hd=>by simp at hd;subst hd;exact rvd) ?_
 rintro _ ⟨c,hco,rfl⟩
 have hc:=Oo hco
 rw[cI rfl]
 refine B.alloc fun n4 h4 ro4 B=>?_
 refine B.m7 0 (cs':=EC c (.int .i64 0) .nil O4) rfl rfl rfl (by simp) fun h5 B=>?_
 refine⟨fun _ h'=>∃(ro':Ro) (c:Code),bh c/\c.b.length<=18/\bN aM tq h' ro' [(n4,.agg (EC c (.int .i64 0) .nil O4)),(n3,.agg Uk),(n2,dh g zs id st),(n1,jX bs)],?_,?_⟩
 ·rintro _ h' ⟨ro',c,hc,hnb,B⟩
  clear hco
  have cM:∀{K:HK},ab PP (.ld (.c (.ptr n4 0 0)) 8 true) h' K=K c.e h':=fun {K}=>B.rL 0 (j:=0) (s:=8) (e:=c.e) rfl rfl rfl (Nat.le_of_ble_eq_true rfl)
  have ldr:∀{K:HK},ab PP (.ld (.c (.ptr n2 0 0)) 13 true) h' K=K (G4 g zs) h':=fun {K}=>B.rL 2 (j:=0) (s:=13) rfl (EA hz) rfl (by simp[dh,hz])
  simp only[↓bf (B.used 0 rfl),↓bf (B.used 2 rfl),Nat.zero_add,cM,ldr]
  have rld:(G4 g zs).vd=true/\aB (G4 g zs):=⟨by simp[G4,D.vd,D.vone],G3 g zs⟩
  refine bF (M4 hc hp.g hz) (fun d hd=>by simp at hd;rcases hd with rfl|rfl;exact jK c;exact rld) ?_
  rintro _ ⟨l,hl,rfl⟩
  obtain⟨g1,g2,g3⟩:=DK hc hl
  simp only[↓bf (B.used 0 rfl),Nat.zero_add]
  rw[du,B.get 0 rfl]
  refine⟨rfl,pe l,rfl,by simp,?_⟩
  have B:bN aM tq _ ro' [(n4,.agg (EC c (.int .i64 l.groups) (words l.args) O4)),(n3,.agg Uk),(n2,dh g zs id st),(n1,jX bs)]:=B.aw 0 rfl (.agg (EC c (.int .i64 l.groups) (words l.args) O4))
  have eset:setCells (.agg (EC c (.int .i64 0) .nil O4)) 8 l.e.cells=.agg (EC c (.int .i64 l.groups) (words l.args) O4):=rfl
  rw[eset]
  generalize ah h' n4 (.box (.agg (EC c (.int .i64 l.groups) (words l.args) O4)))=h6 at B
  simp only[↓bf (B.used 2 rfl),↓bf (B.used 0 rfl),Nat.zero_add,Nat.add_zero,B.cM 2 (j:=13) rfl (Gj hz) rfl,↓bY,B.cM 0 (j:=8) rfl rfl rfl,B.cM 0 (j:=0) rfl rfl rfl,↓gj,↓bJ]
  have hid:=hp.id
  have hst:=hp.st
  rw[g1,wrap64 (n:=id) (by omega) (by omega)]
  refine⟨by omega,?_⟩
  have hidx:=D3 hid.1 (show 0<l.groups*c.group by omega)
  obtain⟨t1,t2⟩:=D3 hst.1 (show(0:Int)<13 by omega)
  have cM:∀{K:HK},ab PP (.ld (.c (.ptr n4 0 0)) 8 true) h6 K=K c.e h6:=fun {K}=>B.rL 0 (j:=0) (s:=8) (e:=c.e) rfl rfl rfl (Nat.le_of_ble_eq_true rfl)
  have ldl:∀{K:HK},ab PP (.ld (.c (.ptr n4 0 8)) 2 true) h6 K=K l.e h6:=fun {K}=>B.rL 0 (j:=8) (s:=2) (e:=l.e) rfl rfl rfl (Nat.le_of_ble_eq_true rfl)
  have ldr:∀{K:HK},ab PP (.ld (.c (.ptr n2 0 0)) 13 true) h6 K=K (G4 g zs) h6:=fun {K}=>B.rL 2 (j:=0) (s:=13) rfl (EA hz) rfl (by simp[dh,hz])
  simp only[↓aE,B.used 0 rfl,B.used 2 rfl,Nat.zero_add,true_and,↓bL,cM,ldl,B.cM 2 (j:=14) rfl (Lj hz) rfl,↓bJ]
  refine⟨by simp,?_⟩
  simp only[↓lP,↓bY,↓aE,B.used 0 rfl,B.used 2 rfl,Nat.zero_add,true_and,↓bL,cM,ldr]
  rw[wrap64 (by omega) (by omega)]
  refine po (M3 (g:=g) hc hz) (fun d hd=>by simp[Arg.get]at hd;rcases hd with rfl|rfl;exact jK c;exact rld) ?_
  refine gH (Pu hc hl hidx ⟨t1,by omega⟩ (NC c zs)) ⟨Code.cu c,dA.cu l,ba,ba,eR,trivial⟩ ?_
  obtain⟨s,hs⟩:∃s,s=AL c l (id.tmod (l.groups*c.group)) (st.tmod 13) (PU c zs):=⟨_,rfl⟩
  have V:=OM (n:=st.tmod 13) hc hl hidx (NC c zs)
  rw[<- hs]at V ⊢
  rw[du,B.get 0 rfl]
  refine⟨rfl,mg s,rfl,by simp,?_⟩
  have B:bN aM tq _ ro' [(n4,GX c l s),(n3,.agg Uk),(n2,dh g zs id st),(n1,jX bs)]:=B.aw 0 rfl (GX c l s)
  have eset:setCells (.agg (EC c (.int .i64 l.groups) (words l.args) O4)) 10 (gI s).cells=GX c l s:=rfl
  rw[eset]
  generalize ah h6 n4 (.box (GX c l s))=h7 at B
  rw[B.dt (s:=21) 0 rfl rfl rfl]
  refine B.m7 1 (cs':=EC c (.int .i64 l.groups) (words l.args) (Br s)) rfl rfl rfl (Kh c l s) fun h8 B=>?_
  rw[B.dt (s:=21) 1 rfl rfl rfl]
  exact iP (PD c l s) ⟨c,l,s,hc,hnb,hl,V,rfl⟩
 simp only[↓bf (B.used 2 rfl),Nat.zero_add,B.cM 2 (j:=13) rfl (Gj hz) rfl,↓iG]
 by_cases h128:(128:Int)<=id
 case neg =>
  simp only[h128,decide_false,↓ae,ai,true_and]
  exact⟨ro4,c,hc,hco.nb.2,B⟩
 have cM:∀{K:HK},ab PP (.ld (.c (.ptr n4 0 0)) 8 true) h5 K=K c.e h5:=fun {K}=>B.rL 0 (j:=0) (s:=8) (e:=c.e) rfl rfl rfl (Nat.le_of_ble_eq_true rfl)
 simp only[h128,decide_true,↓af,↓bf (B.used 0 rfl),Nat.zero_add,cM]
 refine bc (M0 hc) ⟨Code.cu c,trivial⟩ ?_
 simp only[↓bf (B.used 0 rfl),Nat.zero_add]
 rw[du,B.get 0 rfl]
 refine⟨rfl,(jK (ml c)).2,rfl,by simp,?_⟩
 exact⟨by simp,ro4,ml c,Nu hc,hco.nb.2,B.aw 0 rfl (.agg (EC (ml c) (.int .i64 0) .nil O4))⟩
theorem NJ {bs:List Nat}{g:Int}{zs:List Int}{id st:Int}(hb:∀b∈bs,b<=255) (hbl:bs.length<=9223372036854775807) (hp:DO g zs id st) :
  aF PP iW [jX bs,dh g zs id st] (fun r=>∃(c:Code) (l:dA) (s:qL),bh c/\jw c l/\F9 c l s/\r=GX c l s) :=
 aF.mono (fun _ ⟨c,l,s,h1,_,h2,h3,h4⟩=>⟨c,l,s,h1,h2,h3,h4⟩) (Lw hb hbl hp)
def fitsM (s:Int):List bO->Mm->Bool
 | [],[]=>true
 | a::r,w::m=>decide (a.sz s=(w.length:Int))&&fitsM s r m
 | _,_=>false
theorem AE {s:Int}:∀{xs:List bO}{ms:Mm},fitsM s xs ms=true->xs.length=ms.length
 | [],[],_=>rfl
 | a::r,w::m,h=>by simp[fitsM]at h;simp[AE h.2]
 | [],_::_,h=>by simp[fitsM]at h
 | _::_,[],h=>by simp[fitsM]at h
theorem tv {s:Int}:∀{xs:List bO}{ms:Mm},xs.length=ms.length->(fitsM s xs ms=true ↔ ∀(i:Nat) (a:bO) (w:List Int),xs[i]?=some a->ms[i]?=some w->a.sz s=(w.length:Int))
 | [],[],_=>by simp[fitsM]
 | a::r,w::m,h=>by
  simp only[List.length_cons,Nat.add_right_cancel_iff]at h
  simp only[fitsM,Bool.and_eq_true,decide_eq_true_eq,tv h]
  constructor
  ·rintro⟨h1,h2⟩ i a' w' ha hw
   cases i with
   | zero=>simp at ha hw;subst ha hw;exact h1
   | succ i=>exact h2 i a' w' (by simpa using ha) (by simpa using hw)
  ·intro h
   exact⟨h 0 a w rfl rfl,fun i a' w' ha hw=>h (i+1) a' w' (by simpa using ha) (by simpa using hw)⟩
theorem N1 {s:Int}{xs:List bO}{ms:Mm}(h:xs.length≠ms.length):fitsM s xs ms=false:=by
 cases e:fitsM s xs ms with
 | false=>rfl
 | true=>exact absurd (AE e) h
theorem N0 {s:Int}{xs:List bO}{ms:Mm}(hl:xs.length=ms.length){i:Nat}{a:bO}{w:List Int}(ha:xs[i]?=some a) (hw:ms[i]?=some w) (h:a.sz s≠(w.length:Int)):fitsM s xs ms=false:=by
 cases e:fitsM s xs ms with
 | false=>rfl
 | true=>exact absurd ((tv hl).1 e i a w ha hw) h
theorem PC (a:bO) (w:List Int) (n:Nat) (s:Int){h:Heap}{K:HK}(hb:h n=.box (.int .i64 s)) (hk:∀h',Ext h h'->K (.bool (decide (a.sz s=(w.length:Int)))) h'):ag PP gQ [a.e,words w,.ptr n 0 0] h K:=by
 refine aU ug (aC _ _ _) rfl (tX _ _ _ _) ?_
 (unfold nW;try dsimp only[xL,yL,xF,yF,xI,yI,xS,zI,zJ])
 rw[cJ]
 refine⟨(bO.vd a).2,fun m t=>?_⟩
 have hne:n≠m:=t.ne (by rw[hb];simp)
 have hm:ah h m (.box a.e) m=.box (.agg [.str a.name,.int .i64 a.space,.int .i64 a.type,.int .i64 a.len]):=ad _ _ _
 have hn:ah h m (.box a.e) n=.box (.int .i64 s):=by rw[aa _ _ hne];exact hb
 have l4:∀{K:HK},ab PP (.ld (.c (.ptr m 0 0)) 4 true) (ah h m (.box a.e)) K=K a.e (ah h m (.box a.e)):=fun {K}=>dt hm
 rw[l4,Hy hn rfl]
 refine bc (Na a s) ⟨bO.cu a,ba,trivial⟩ ?_
 rw[words,lz,List.length_map,aN]
 exact hk _ (Ext.new t _)
theorem SH:er PP gQ=true:=by kernel_rfl
theorem Qp:er PP fT=true:=by kernel_rfl
theorem Qx {P:Program}{l:List bO}{k:Nat}{r:bO}(hr:l[k]?=some r){h:Heap}{KH:HK}:ab P (.iadd (.c (.sl (l.map bO.e))) (.c (.int .i64 (k:Int))) 4) h KH=KH (.vp r.e 0) h:=by
 have hk:=(List.getElem?_eq_some_iff.1 hr).1
 rw[iA,Int.toNat_natCast,List.getElem?_map,hr,List.length_map]
 apply propext
 constructor
 ·rintro⟨-,-,h⟩;exact(h _ rfl).2
 ·intro hk';exact⟨by omega,by omega,fun d hd=>by cases hd;exact⟨rfl,hk'⟩⟩
theorem RT {xs:List bO}{ms:Mm}(hlx:xs.length<=1000000) (s:Int):aF PP nj [.sl (xs.map bO.e),.int .i64 s,aP ms] (· = .bool (fitsM s xs ms)):=by
 refine bb Bk (aC _ _ _) rfl (A0 _ _ _ _) ?_
 (unfold uM;try dsimp only[xL,yL,xF,yF,xI,yI,xS,zI,zJ])
 rw[cJ]
 refine⟨kh.2,fun n t=>?_⟩
 have hb:ah aM n (.box (.int .i64 s)) n=.box (.int .i64 s):=ad _ _ _
 generalize ah aM n (.box (.int .i64 s))=h at hb
 rw[TJ]
 have hk:∀(h':Heap) (b:Bool),b=fitsM s xs ms->qN (· = .bool (fitsM s xs ms)) (.bool b) h':=fun h' b hb=>bH.mpr (by rw[hb])
 refine aU cE (aC _ _ _) rfl (cB _ _ _ _) ?_
 (unfold bB;try dsimp only[xL,yL,xF,yF,xI,yI,xS,zI,zJ])
 rw[lz,iX,ck,List.length_map]
 by_cases hl:xs.length=ms.length
 case neg =>
  simp only[show((xs.length:Int)=(ms.length:Int))=False from eq_false (by omega),decide_false,Bool.not_false,↓af]
  exact hk _ _ (N1 hl).symm
 simp only[hl,decide_true,Bool.not_true,↓ae]
 refine⟨fun _ _=>fitsM s xs ms=true,fun _ h' h2=>hk _ _ h2.symm,?_⟩
 rw[lz,List.length_map]
 (unfold bu;try dsimp only[xL,yL,xF,yF,xI,yI,xS,zI,zJ])
 refine⟨fun k qs h'=>∃i:Nat,qs=[.int .i64 (i:Int)]/\k+i=xs.length/\h' n=.box (.int .i64 s)/\∀(j:Nat) (a:bO) (w:List Int),j<i->xs[j]?=some a->ms[j]?=some w->a.sz s=(w.length:Int),xs.length,⟨0,rfl,rfl,hb,fun j a w hj=>by omega⟩,?_⟩
 rintro k f h' ⟨i,hf,hki,hb,hall⟩
 simp only[List.cons.injEq,and_true]at hf
 rw[hf,bM]
 by_cases hi:i<xs.length
 case neg =>
  simp only[show ¬((i:Int)<(xs.length:Int)) by omega,decide_false,↓ae,ai,true_and]
  refine(tv hl).2 fun j a w ha hw=>hall j a w ?_ ha hw
  have:=(List.getElem?_eq_some_iff.1 ha).1
  omega
 have ha:xs[i]?=some xs[i]:=List.getElem?_eq_getElem hi
 have hw:ms[i]?=some (ms[i]'(by omega)):=List.getElem?_eq_getElem (by omega)
 obtain⟨a,hae⟩:∃a,a=xs[i]:=⟨_,rfl⟩
 obtain⟨w,hwe⟩:∃w,w=ms[i]'(by omega):=⟨_,rfl⟩
 rw[<- hae]at ha
 rw[<- hwe]at hw
 simp only[show((i:Int)<(xs.length:Int)) by omega,decide_true,↓af,↓Qx ha,↓KA]
 rw[bS]
 intro m t2
 have hne:n≠m:=t2.ne (by rw[hb];simp)
 have es:setCells (.agg Uh) 0 a.e.cells=a.e:=rfl
 rw[du,ad]
 refine⟨rfl,(bO.cu a).one,rfl,by simp,?_⟩
 rw[gk,es]
 have hm:ah h' m (.box a.e) m=.box (.agg [.str a.name,.int .i64 a.space,.int .i64 a.type,.int .i64 a.len]):=ad _ _ _
 have hn:ah h' m (.box a.e) n=.box (.int .i64 s):=by rw[aa _ _ hne];exact hb
 generalize ah h' m (.box a.e)=h2 at hm hn
 have l4:∀{K:HK},ab PP (.ld (.c (.ptr m 0 0)) 4 true) h2 K=K a.e h2:=fun {K}=>dt hm
 rw[my hw,jB,l4,Ko]
 refine⟨SH,PC a w n s hn fun h3 x3=>?_⟩
 have hn3:h3 n=.box (.int .i64 s):=by rw[x3 n (by rw[hn];simp),hn]
 by_cases hsz:a.sz s=(w.length:Int)
 case neg =>
  simp only[hsz,decide_false,↓Ns,↓af]
  exact hk _ _ (N0 hl ha hw hsz).symm
 simp only[hsz,decide_true,↓Ae,↓ae]
 rw[bm,Gc (i:=i) (by omega)]
 refine⟨by simp,k-1,by omega,i+1,rfl,by omega,hn3,fun j a' w' hj ha' hw'=>?_⟩
 rcases Nat.lt_or_ge j i with h3|h3
 ·exact hall j a' w' h3 ha' hw'
 ·have:j=i:=by omega
  subst this
  rw[ha]at ha';rw[hw]at hw'
  cases ha';cases hw'
  exact hsz
end Go.Am
namespace Go.Am
open Go Go.Proofs Go.Shelf
def lM:Ren where
 f:=fun x=>match x with
  | 4=>72
  | n=>n
 t:=fun x=>match x with
  | 22=>39
  | 25=>21
  | n=>n
 g:=fun n=>n
theorem QT:Lays8.n4 Try.prog lM where
 mixed:=by kernel_rfl
 f4:=⟨ "slices.Grow[[]int32,int32]",by decide,by kernel_rfl⟩
 t0:=Try.underlying0
 a0:=Try.isAgg0
 z0:=Try.sizeOf0
 v0:=Try.zeroValue0
 t3:=Try.underlying3
 a3:=Try.isAgg3
 z3:=Try.sizeOf3
 v3:=Try.zeroValue3
 t4:=Try.underlying4
 a4:=Try.isAgg4
 z4:=Try.sizeOf4
 v4:=Try.zeroValue4
 t9:=Try.underlying9
 a9:=Try.isAgg9
 z9:=Try.sizeOf9
 v9:=Try.zeroValue9
 t20:=Try.underlying20
 a20:=Try.isAgg20
 z20:=Try.sizeOf20
 v20:=Try.zeroValue20
 t22:=Try.underlying39
 a22:=Try.isAgg39
 z22:=Try.sizeOf39
 v22:=Try.zeroValue39
theorem LG:∃i0:TypeInfo,PP.info? (lM.t 25)=some i0/\i0.zero=some (.int .i32 0)/\i0.size=1/\i0.bytes=4:=by
 have hs:(PP.info? (lM.t 25)).map (·.size)=some 1:=by kernel_rfl
 have hb:(PP.info? (lM.t 25)).map (·.bytes)=some 4:=by kernel_rfl
 have hz:(PP.info? (lM.t 25)).bind (·.zero)=some (Value.int .i32 0):=by kernel_rfl
 cases e:PP.info? (lM.t 25) with
 | none=>rw[e]at hs;cases hs
 | some i0 =>
  rw[e]at hs hb hz
  exact⟨i0,rfl,by simpa using hz,by simpa using hs,by simpa using hb⟩
theorem Sq:lM.f 4=dT:=by kernel_rfl
theorem RS {n:Nat}{h:Heap}{KH:HK}(hn:n<=1000000) (h0:n=0->KH .nil h) (hk:∀q,nZ h q->KH (.ms q 0 0) (ah h q (.arr 1 []))):ag PP dT [.nil,.int .i64 (n:Int)] h KH:=by
 intro c w vals hh hp hr hs hrel
 obtain⟨i0,hi,hz,hsz,hb⟩:=LG
 have e0:vals = #[.slice none 0 0,.int .i64 (n:Int)]:=by
  have r0:=hrel 0 .nil rfl
  have r1:=hrel 1 (.int .i64 (n:Int)) rfl
  apply Array.ext
  ·simpa using hs
  ·intro i h1 h2
   have:i=0\/i=1:=by simp at h2;omega
   rcases this with rfl|rfl
   ·have e:vals.getD 0 Go.undef=vals[0]:=by simp[Array.getD,h1]
    rw[e]at r0;show vals[0]=Value.slice none 0 0;generalize vals[0]=v at r0;cases r0;rfl
   ·have e:vals.getD 1 Go.undef=vals[1]:=by simp[Array.getD,h1]
    rw[e]at r1;show vals[1]=Value.int .i64 (n:Int);generalize vals[1]=v at r1;cases r1;rfl
 rw[e0, <- Sq]
 by_cases hn0:n=0
 ·subst hn0
  refine(Any8.slices_Grow_room QT none 0 0 0 w (Nat.le_refl _) (by omega) (by omega) (Nat.le_refl _)).mono ?_
  rintro e w' ⟨rfl,rfl⟩
  refine⟨_,.nil,c.ρ,c.h,rfl,?_,?_,WS.refl _,.nil,by rw[hh];exact h0 rfl⟩
  ·rw[<- hp];exact Ctx.le.refl _
  ·rw[<- hp];exact hr
 refine(Any8.slices_Grow_grow QT i0 _ hi hz (by omega) none 0 0 n [] w (Nat.le_refl _) (by omega) (by rw[hb];omega) (by omega) (by simp) (fun _=>rfl) (fun a ha=>by cases ha)).mono ?_
 rintro e w' ⟨rfl,rfl⟩
 obtain⟨q,htop⟩:=dj hr
 have hq:=htop.free
 have hG:=grownCap_ge w (0+n) 0 (lM.t 25)
 have hG2:=grownCap_le_maxLen w (0+n) 0 (lM.t 25) (by unfold maxLen;omega)
 generalize grownCap w (0+n) 0 (lM.t 25)=G at hG hG2 ⊢
 obtain⟨cells,hcells⟩:∃cells:Array Value,cells=([]:List Value).toArray++Builtin.zeroCells (Value.int .i32 0).cells (0+n-0)++Builtin.zeroCells (Value.int .i32 0).cells (G-(0+n)):=⟨_,rfl⟩
 rw[<- hcells]
 have hsize:cells.size=G:=by
  have h1:(Value.int .i32 0).cells.size=1:=rfl
  rw[hcells];simp[Builtin.zeroCells,h1];omega
 have hst:=ik.new (c:=c) (s:=.arr 1 []) hq trivial (.cells cells (lM.t 25)) (hp':=(w.drew.alloc (.cells cells (lM.t 25))).heap) (by rw[hp];rfl)
 have hsl:cW ⟨ah c.ρ q (some c.hp.size),c.X,ah c.h q (.arr 1 []),(w.drew.alloc (.cells cells (lM.t 25))).heap⟩ q (.arr 1 []) :=
  xW (hp:=w.heap) rfl (by simp[ah,hp]) (by omega) (by simp) (by simp) (fun i j d hd=>by simp[aW]at hd)
 refine⟨_,.ms q 0 0,ah c.ρ q (some c.hp.size),ah c.h q (.arr 1 []),rfl,hst.le,hst.heap hr (by simpa using hsl),⟨rfl,rfl,rfl⟩,?_,by rw[hh];exact hk q (by rw[<- hh];exact htop)⟩
 have:=av.ms (c:=⟨ah c.ρ q (some c.hp.size),c.X,ah c.h q (.arr 1 []),(w.drew.alloc (.cells cells (lM.t 25))).heap⟩) q 0 0 w.heap.size 1 G [] cells (lM.t 25) (0,0) (by simp[ah,Slot.row]) (by simp[ah,hp])
  (by simp) (gz _ _) (by simp[hsize]) (by omega) hG2
 simpa using this
theorem QA {P:Program}{h:Heap}{KH:HK}{z s:D}{w u:List Int}(ho:Own 1 h s (wr w)) (hl:w.length+u.length<=1000000)
  (hk:∀v h',Own 1 h' v (wr (w++u))->KH v h'):ab P (.app (.c s) (.c (words u)) 1 4 z) h KH:=by
 refine⟨fun d hd=>?_,fun y hy=>?_,?_⟩
 ·simp only[words,List.mem_map]at hd;obtain⟨z,-,rfl⟩:=hd;rfl
 ·simp only[words,List.mem_map]at hy;obtain⟨z,-,rfl⟩:=hy;simp
 have e:wr (w++u)=wr w++wr u:=by simp[wr]
 rcases ho with⟨rfl,hw⟩|⟨m,rfl,hm⟩
 ·have hw:w=[]:=by cases w<;>first|rfl|(simp[wr]at hw)
  subst hw
  refine⟨⟨by simp at hl ⊢;omega,by simp at hl ⊢;omega⟩,fun n t=>hk _ _ (Or.inr ⟨n,?_,ad _ _ _⟩)⟩
  simp[wr]
 ·refine⟨wr w,hm,rfl,rfl,⟨by rw[ly];simp at hl ⊢;omega,by rw[ly];simp at hl ⊢;omega⟩,fun n t=>hk _ _ (Or.inr ⟨n,?_,?_⟩)⟩
  ·rw[e];simp[wr,words]
  ·rw[ad,e];rfl
theorem Nx {ws:Mm}{i:Nat}{w:List Int}(hw:ws[i]?=some w):(ws.take (i+1)).flatten=(ws.take i).flatten++w:=by
 rw[List.take_add_one,hw];simp
theorem TB {ws:Mm}:∀i,(ws.take i).flatten.length<=ws.flatten.length:=fun i=>by
 conv=>rhs;rw[<- List.take_append_drop i ws]
 rw[List.flatten_append,List.length_append];omega
theorem Nb {ws:Mm}(hl:ws.flatten.length<=1000000) (hn:ws.length<=1000000):aF PP bW [aP ws] (· = words ws.flatten):=by
 refine gh (aU jj (aC _ _ _) rfl (ji _ _) ?_)
 (unfold fW;try dsimp only[xL,yL,xF,yF,xI,yI,xS,zI,zJ])
 refine⟨fun qs h'=>qs=[.int .i64 (ws.flatten.length:Int)],?_,?_⟩
 ·rintro f h' hf
  simp only[List.cons.injEq,and_true]at hf
  rw[hf]
  have fin:∀(v:D) (h6:Heap),Own 1 h6 v (wr [])->∃(J7:HJ),(∀(f8:Nat->D) (h9:Heap),J7 [f8 6] h9->Fp (· = words ws.flatten) (f8 6) h9)/\bP (aP ws) h6 fun a10=>cC v h6 a10 (aP ws) J7:=by
   intro v h6 O
   refine⟨fun qs h'=>∃v,qs=[v]/\Own 1 h' v (wr ws.flatten),?_,?_⟩
   ·rintro f8 h9 ⟨v,hv,O⟩
    simp only[List.cons.injEq,and_true]at hv
    rw[hv]
    have ht:∀ds,v≠.tup ds:=by rcases O with⟨rfl,-⟩|⟨n,rfl,-⟩<;>simp
    exact eF ht (by simp[words]) (.refl _) (QR O).d rfl
   rw[iX]
   (unfold cC;try dsimp only[xL,yL,xF,yF,xI,yI,xS,zI,zJ])
   refine⟨fun k qs h'=>∃(i:Nat) (v:D),qs=[v,.int .i64 (i:Int)]/\k+i=ws.length/\Own 1 h' v (wr (ws.take i).flatten),ws.length,⟨0,v,rfl,rfl,by simpa using O⟩,?_⟩
   rintro k f h' ⟨i,v,hf,hki,O⟩
   simp only[List.cons.injEq,and_true]at hf
   obtain⟨hf1,hf2⟩:=hf
   rw[hf1,hf2,bM]
   by_cases hi:i<ws.length
   case neg =>
    simp only[show ¬((i:Int)<(ws.length:Int)) by omega,decide_false,↓ae,ai,true_and]
    rw[List.take_of_length_le (by omega)]at O
    exact⟨v,rfl,O⟩
   have hw:ws[i]?=some ws[i]:=List.getElem?_eq_getElem hi
   have ht:=Nx hw
   have hle:=TB (ws:=ws) (i+1)
   rw[ht,List.length_append]at hle
   simp only[show((i:Int)<(ws.length:Int)) by omega,decide_true,↓af,↓my hw,↓jB]
   refine QA O (by omega) fun v' h2 O2=>?_
   rw[bm,Gc (i:=i) (by omega)]
   exact⟨by simp,k-1,by omega,i+1,v',rfl,by omega,by rw[ht];exact O2⟩
  exact RS hl (fun _=>fin _ _ (Or.inl ⟨rfl,rfl⟩)) fun q t=>fin _ _ (Or.inr ⟨q,rfl,ad _ _ _⟩)
 rw[iX]
 (unfold eX;try dsimp only[xL,yL,xF,yF,xI,yI,xS,zI,zJ])
 refine⟨fun k qs h'=>∃(i:Nat),qs=[.int .i64 ((ws.take i).flatten.length:Int),.int .i64 (i:Int)]/\k+i=ws.length,ws.length,⟨0,rfl,rfl⟩,?_⟩
 rintro k f h' ⟨i,hf,hki⟩
 simp only[List.cons.injEq,and_true]at hf
 obtain⟨hf1,hf2⟩:=hf
 rw[hf1,hf2,bM]
 by_cases hi:i<ws.length
 case neg =>
  simp only[show ¬((i:Int)<(ws.length:Int)) by omega,decide_false,↓ae,ai,true_and]
  rw[List.take_of_length_le (by omega)]
 have hw:ws[i]?=some ws[i]:=List.getElem?_eq_getElem hi
 have ht:=Nx hw
 have hle:=TB (ws:=ws) (i+1)
 rw[ht,List.length_append]at hle
 simp only[show((i:Int)<(ws.length:Int)) by omega,decide_true,↓af,↓my hw,↓jB,↓kQ]
 refine⟨fun qs _=>qs=[.int .i64 ((ws.take (i+1)).flatten.length:Int)],?_,?_⟩
 ·rintro f3 h3 hf3
  simp only[List.cons.injEq,and_true]at hf3
  rw[hf3,bm,Gc (i:=i) (by omega)]
  exact⟨by simp,k-1,by omega,i+1,rfl,by omega⟩
 rw[bm,wrap64 (by omega) (by omega),bM]
 simp only[show ¬((((ws.take i).flatten.length:Int)+(ws[i].length:Int))<0) by omega,decide_false,↓ae,ai,true_and]
 rw[ht,List.length_append];simp
theorem Ez {w:List Int}(hl:w.length<=1000000){h:Heap}{KH:HK}(hk:∀h',KH (.bool (w.any (· ≠ 0))) h'):ag PP bI [words w,.fn fT [] []] h KH:=by
 refine aU gY (aC _ _ _) rfl (gW _ _ _) ?_
 (unfold dY;try dsimp only[xL,yL,xF,yF,xI,yI,xS,zI,zJ])
 refine aU iE (aC _ _ _) rfl (iD _ _ _) ?_
 (unfold eW;try dsimp only[xL,yL,xF,yF,xI,yI,xS,zI,zJ])
 refine⟨fun _ _=>w.any (· ≠ 0)=false,fun _ h' he=>?_,?_⟩
 ·show vbin .geq (.int .i64 (-1)) (.int .i64 0) _
  rw[iG]
  have:=hk h'
  have he:w.any (· ≠ 0)=false:=he
  rw[he]at this
  exact this
 rw[kQ]
 (unfold dX;try dsimp only[xL,yL,xF,yF,xI,yI,xS,zI,zJ])
 refine⟨fun k qs h'=>∃(i:Nat),qs=[.int .i64 (i:Int)]/\k+i=w.length/\∀v,v∈w.take i->v=0,w.length,⟨0,rfl,rfl,by simp⟩,?_⟩
 rintro k f h' ⟨i,hf,hki,hall⟩
 simp only[List.cons.injEq,and_true]at hf
 rw[hf,bM]
 by_cases hi:i<w.length
 case neg =>
  simp only[show ¬((i:Int)<(w.length:Int)) by omega,decide_false,↓ae,ai,true_and]
  rw[List.take_of_length_le (by omega)]at hall
  simpa using hall
 have hv:w[i]?=some w[i]:=List.getElem?_eq_getElem hi
 simp only[show((i:Int)<(w.length:Int)) by omega,decide_true,↓af,↓GI hv,↓Hc]
 rw[Ko]
 refine⟨Qp,?_⟩
 refine aU wR (aC _ _ _) rfl (wJ _ _) ?_
 (unfold pY;try dsimp only[xL,yL,xF,yF,xI,yI,xS,zI,zJ])
 show vbin .neq (.int .i32 w[i]) (.int .i32 0) _
 rw[ck]
 by_cases h0:w[i]=0
 case neg =>
  simp only[h0,decide_false,Bool.not_false,↓af]
  rw[iG]
  have:=hk h'
  rw[show w.any (· ≠ 0)=true by simpa using ⟨w[i],List.getElem_mem _,h0⟩]at this
  simpa using this
 simp only[h0,decide_true,Bool.not_true,↓ae]
 rw[bm,Gc (i:=i) (by omega)]
 refine⟨by simp,k-1,by omega,i+1,rfl,by omega,fun v hv'=>?_⟩
 rw[List.take_add_one,hv]at hv'
 rcases List.mem_append.1 hv' with hv'|hv'
 ·exact hall v hv'
 ·simp at hv';rw[hv',h0]
def m6 (w:List Int):Bool:=w.all (· = 0)
theorem IS {w:List Int}:m6 w=true ↔ ∀v∈w,v=0:=by simp[m6]
def EZ (m:Mm):Bool:=m.all m6
theorem Ju {m:Mm}:EZ m=true ↔ ∀w∈m,∀v∈w,v=0:=by simp[EZ,m6]
structure KI where
 id:Int
 at_:Int
 block:Int
 epoch:Int
 regs:List Int
 priv:Mm
 slots:List Int
abbrev KI.cs (x:KI):List D:=[.int .i64 x.id,.int .i64 x.at_,.int .i64 x.block,.int .i64 x.epoch,words x.regs,aP x.priv,words x.slots]
def KI.e (x:KI):D:=.agg x.cs
theorem KI.cu (x:KI):wT x.e:=cV (by simp[words,aP])
structure UZ (x:KI):Prop where
 r:x.regs.length<=1000
 s:x.slots.length<=1000
 p:x.priv.length<=1000
def It.g (x:It):KI:=⟨x.id,x.at_,x.block,x.epoch,x.regs,x.priv,[]⟩
theorem It.Vw (x:It):x.g.e=x.e:=rfl
structure wB (c:Code) (l:dA) (x:KI):Prop where
 id:0<=x.id/\x.id<l.groups*c.group
 ep:0<=x.epoch
 bl:0<=x.block/\x.block<(c.b.length:Int)
 rg:(x.regs.length:Int)=c.regs
 sl:(x.slots.length:Int)=c.slots
 ft:fitsM 3 c.arrays x.priv=true
 a:x.at_=1\/(x.at_=2/\((fO c x.block).kind=3\/(fO c x.block).kind=4))\/(x.at_=3/\x.block=0/\m6 x.regs=true/\m6 x.slots=true/\EZ x.priv=true)
noncomputable def qP (c:Code) (l:dA) (x:KI):Bool:=@decide (wB c l x) (Classical.propDecidable _)
theorem zH {c:Code}{l:dA}{x:KI}(h:¬wB c l x):qP c l x=false:=by unfold qP;exact @decide_eq_false _ (Classical.propDecidable _) h
theorem oJ {c:Code}{l:dA}{x:KI}(h:wB c l x):qP c l x=true:=by unfold qP;exact @decide_eq_true _ (Classical.propDecidable _) h
theorem Gf {c:Code}{l:dA}{x:KI}{b:Bool}(h:b=true↔wB c l x):qP c l x=b:=by
 cases b with
 | true=>exact oJ (h.1 rfl)
 | false=>exact zH fun k=>by cases h.2 k
theorem Ss {P:Program}{h:Heap}{KH:HK}{z x y:D}(hx:x.vone=true) (hy:y.vone=true) (hk:∀n,nZ h n->KH (.ms n 0 2) (ah h n (.arr 1 [x,y]))):ab P (.bldS true 1 2 z [(0,.c x),(1,.c y)]) h KH:=by
 have cx:=gM (D.dO hx)
 have cy:=gM (D.dO hy)
 obtain⟨x1,x2,x3⟩:=DS (h:=h) (tk hx)
 obtain⟨y1,y2,y3⟩:=DS (h:=h) (tk hy)
 refine⟨fun p hp=>?_,fun _ p hp=>?_,fun n t=>?_⟩
 ·simp[Arg.get]at hp
  rcases hp with rfl|rfl
  ·exact⟨by simp,by simp[cx],fun d hd=>by rw[cx]at hd;simp at hd;subst hd;exact D.dO hx⟩
  ·exact⟨by simp,by simp[cy],fun d hd=>by rw[cy]at hd;simp at hd;subst hd;exact D.dO hy⟩
 ·simp[Arg.get]at hp
  rcases hp with rfl|rfl
  ·first|exact x3|exact⟨x3,by rw[x1];exact tk hx⟩
  ·first|exact y3|exact⟨y3,by rw[y1];exact tk hy⟩
 ·have:=hk n t
  simpa[Heap.freezeAll,setEls,Arg.get,x1,x2,y1,y2] using this
theorem QB {P:Program}{h:Heap}{KH:HK}{z:D}{n:Nat}{ws m:Mm}(hn:h n=.arr 1 (ws.map words)) (hl:ws.length+m.length<=1000000)
  (hk:∀q h',h' q=.arr 1 ((ws++m).map words)->(∀k,h k≠.free->k≠n->h' k=h k)->h q=.free->KH (.ms q 0 (ws++m).length) h'):ab P (.app (.c (.ms n 0 ws.length)) (.c (aP m)) 1 24 z) h KH:=by
 refine⟨fun d hd=>?_,fun y hy=>?_,ws.map words,hn,rfl,by simp,⟨by simp;omega,by simp;omega⟩,fun q t=>?_⟩
 ·simp only[aP,List.mem_map]at hd;obtain⟨z,-,rfl⟩:=hd;rfl
 ·simp only[aP,List.mem_map]at hy;obtain⟨z,-,rfl⟩:=hy;simp[words]
 ·have:=hk q (ah (ah h n .dead) q (.arr 1 ((ws++m).map words))) (ad _ _ _) (fun k hk hkn=>by rw[aa _ _ (t.ne hk),aa _ _ hkn]) t.free
  simpa using this
theorem MM {P:Program}{f:FuncId}{n:Nat}{els:List D}{h:Heap}{KH:HK}{R:D->Prop}(hn:h n=.arr 1 els) (he:∀x∈els,∀y∈x.cells,y.vone=true)
  (hv:aF P f [.sl els] R) (hk:∀r h',R r->(∀k,k≠n->h' k=h k)->KH r h'):ag P f [.ms n 0 els.length] h KH:=by
 have hrow:(h n).row=some (1,els):=by rw[hn];rfl
 have e0:(D.ms n 0 els.length).fz h=.sl els:=by simp[D.fz,D.fzc,hrow]
 refine ag.mono ?_ (fx (K:=R) (by rw[List.map_cons,List.map_nil,e0];exact hv) (fun d hd=>?_))
 ·rintro r h' ⟨k1,k2,k3⟩
  refine hk r h' k1 fun k hkn=>?_
  by_cases hr:r.flat=true\/[D.ms n 0 els.length].flatMap D.nm=[]
  ·rw[k2 hr]
  ·rw[k3 hr]
   simp[D.nm,D.jE,Heap.freezeAll,Heap.freeze,hn,aa _ _ hkn]
 ·simp only[List.mem_singleton]at hd
  subst hd
  refine⟨by simp,?_,by rw[e0];rfl⟩
  intro x hx
  simp only[D.cells,List.mem_singleton]at hx
  subst hx
  exact⟨1,els,hrow,by simp,fun x hx y hy=>he x (by simpa using hx) y hy⟩
theorem PS (m:Mm):∀x,x∈m.map words->∀y∈x.cells,y.vone=true:=fun x hx y hy=>by
 simp only[List.mem_map]at hx
 obtain⟨z,-,rfl⟩:=hx
 simp[words]at hy;subst hy;rfl
theorem any_zero {w1 w2:List Int}{m:Mm}:((w1::w2::m).flatten.any (· ≠ 0)=false)↔m6 w1=true/\m6 w2=true/\EZ m=true:=by
 simp only[List.any_eq_false,List.mem_flatten,List.mem_cons,IS,Ju]
 constructor
 ·intro h
  refine⟨fun v hv=>by simpa using h v ⟨w1,Or.inl rfl,hv⟩,fun v hv=>by simpa using h v ⟨w2,Or.inr (Or.inl rfl),hv⟩,fun w hw v hv=>by simpa using h v ⟨w,Or.inr (Or.inr hw),hv⟩⟩
 ·rintro⟨a,b,d⟩ v ⟨w,hw|hw|hw,hv⟩
  ·subst hw;simp[a v hv]
  ·subst hw;simp[b v hv]
  ·simp[d w hw v hv]
theorem Qh {c:Code}(hc:bh c){m:Mm}(h:fitsM 3 c.arrays m=true):m.length<=8/\(∀w∈m,w.length<=8)/\m.flatten.length<=64:=by
 have hl:=AE h
 have hna:=hc.nar
 have hw:∀w∈m,w.length<=8:=fun w hw=>by
  obtain⟨i,hi⟩:=List.getElem?_of_mem hw
  have hlt:=(List.getElem?_eq_some_iff.1 hi).1
  have ha:c.arrays[i]?=some (c.arrays[i]'(by omega)):=List.getElem?_eq_getElem (by omega)
  have:=(tv hl).1 h i _ w ha hi
  have hao:=(hc.ar _ (List.mem_of_getElem? ha)).2
  unfold bO.sz at this
  split at this<;>omega
 refine⟨by omega,hw,?_⟩
 have:∀(m:Mm),(∀w∈m,w.length<=8)->m.flatten.length<=8*m.length:=by
  intro m
  induction m with
  | nil=>simp
  | cons a r ih =>
   intro h
   have:=ih fun w hw=>h w (by simp[hw])
   have:=h a (by simp)
   simp only[List.flatten_cons,List.length_append,List.length_cons]
   omega
 have:=this m hw
 omega
theorem PA {c:Code}{l:dA}{x:KI}(hc:bh c) (hl:jw c l) (hb:UZ x):aF PP kY [c.e,l.e,x.e] (· = .bool (qP c l x)):=by
 refine bb Dx (aC _ _ _) rfl (Dd _ _ _ _) ?_
 (unfold yA;try dsimp only[xL,yL,xF,yF,xI,yI,xS,zI,zJ])
 refine bN.start.box (jK c).2 fun n1 h1 ro1 B=>?_
 refine B.box (pe l) fun n2 h2 ro2 B=>?_
 refine B.box x.cu.one fun n3 h3 ro3 B=>?_
 obtain⟨g1,g2,g3⟩:=DK hc hl
 have u0:=B.used 0 rfl
 have u1:=B.used 1 rfl
 have u2:=B.used 2 rfl
 refine⟨fun _ _=>¬wB c l x,fun _ h' hn=>bH.mpr (by rw[zH hn]),?_⟩
 simp only[↓bf u0,Nat.zero_add,B.cM 0 (j:=0) rfl rfl rfl,↓bM]
 by_cases i1:x.id<0
 ·simp only[i1,decide_true,↓L4,↓eD,↓af,ai,true_and]
  exact fun h=>by have:=h.id;omega
 simp only[i1,decide_false,↓F0,↓bf u0,↓bf u1,↓bf u2,Nat.zero_add,B.cM 0 (j:=0) rfl rfl rfl,B.cM 1 (j:=0) rfl rfl rfl,B.cM 2 (j:=0) rfl rfl rfl,↓gj,g1,↓iG,↓fF]
 by_cases i2:l.groups*c.group<=x.id
 ·simp only[i2,decide_true,↓L4,↓eD,↓af,ai,true_and]
  exact fun h=>by have:=h.id;omega
 simp only[i2,decide_false,↓F0,↓bf u0,Nat.zero_add,B.cM 0 (j:=3) rfl rfl rfl,↓bM,↓fF]
 by_cases i3:x.epoch<0
 ·simp only[i3,decide_true,↓af,ai,true_and]
  exact fun h=>by have:=h.ep;omega
 simp only[i3,decide_false,↓ae,↓bf u0,Nat.zero_add,B.cM 0 (j:=2) rfl rfl rfl,↓bM]
 by_cases i4:x.block<0
 ·simp only[i4,decide_true,↓L4,↓eD,↓af,ai,true_and]
  exact fun h=>by have:=h.bl;omega
 simp only[i4,decide_false,↓F0,↓bf u0,↓bf u2,Nat.zero_add,B.cM 0 (j:=2) rfl rfl rfl,B.cM 2 (j:=7) rfl rfl rfl,↓lz,List.length_map,↓iG,↓fF]
 by_cases i5:(c.b.length:Int)<=x.block
 ·simp only[i5,decide_true,↓af,ai,true_and]
  exact fun h=>by have:=h.bl;omega
 simp only[i5,decide_false,↓ae,↓bf u0,↓bf u2,Nat.zero_add,B.cM 0 (j:=4) rfl rfl rfl,B.cM 2 (j:=2) rfl rfl rfl,↓kQ,↓ck]
 by_cases i6:(x.regs.length:Int)=c.regs
 case neg =>
  simp only[i6,decide_false,Bool.not_false,↓L4,↓eD,↓af,ai,true_and]
  exact fun h=>i6 h.rg
 simp only[i6,decide_true,Bool.not_true,↓F0,↓bf u0,↓bf u2,Nat.zero_add,B.cM 0 (j:=6) rfl rfl rfl,B.cM 2 (j:=3) rfl rfl rfl,↓kQ,↓ck,↓fF]
 by_cases i7:(x.slots.length:Int)=c.slots
 case neg =>
  simp only[i7,decide_false,Bool.not_false,↓L4,↓eD,↓af,ai,true_and]
  exact fun h=>i7 h.sl
 simp only[i7,decide_true,Bool.not_true,↓F0,↓bf u0,↓bf u2,Nat.zero_add,B.cM 0 (j:=5) rfl rfl rfl,B.cM 2 (j:=5) rfl rfl rfl]
 have hna:=hc.nar
 refine bc (RT (by omega) 3) ⟨eR,ba,eR,trivial⟩ ?_
 by_cases i8:fitsM 3 c.arrays x.priv=true
 case neg =>
  have i8':fitsM 3 c.arrays x.priv=false:=by simpa using i8
  simp only[i8',↓F0,↓Ns,↓fF,↓af,ai,true_and]
  exact fun h=>i8 h.ft
 simp only[i8,↓F0,↓Ae,↓fF,↓ae,↓bf u0,Nat.zero_add,B.cM 0 (j:=1) rfl rfl rfl,↓aN]
 have base:∀(P:Prop),(P->x.at_=1\/(x.at_=2/\((fO c x.block).kind=3\/(fO c x.block).kind=4))\/(x.at_=3/\x.block=0/\m6 x.regs=true/\m6 x.slots=true/\EZ x.priv=true))->P->wB c l x:=fun P hP p =>
  ⟨⟨by omega,by omega⟩,by omega,⟨by omega,by omega⟩,i6,i7,i8,hP p⟩
 by_cases a1:x.at_=1
 ·simp only[a1,decide_true,↓af]
  exact bH.mpr (by rw[oJ (base True (fun _=>Or.inl a1) trivial)])
 simp only[a1,decide_false,↓ae,↓bf u0,Nat.zero_add,B.cM 0 (j:=1) rfl rfl rfl,↓aN]
 by_cases a2:x.at_=2
 ·obtain⟨k,Q,hbk,hQ,hQm,ht,-⟩:=hc.OB (b:=x.block) ⟨by omega,by omega⟩
  have hat:∀{g':Heap}{K:HK},ab PP (.iadd (.c (.sl (c.b.map Block.e))) (.c (.int .i64 x.block)) 14) g' K=K (.vp Q.e 0) g':=fun {g' K}=>by rw[hbk,wz hQ]
  have hkd:∀{g':Heap}{K:HK},ab PP (.ld (.c (.vp Q.e 1)) 1 false) g' K=K (.int .i64 Q.t.kind) g':=fun {g' K}=>by rw[iI,bj];rfl
  simp only[a2,decide_true,↓af,↓bf u0,↓bf u2,Nat.zero_add,B.cM 0 (j:=2) rfl rfl rfl,B.cM 2 (j:=7) rfl rfl rfl,hat,↓iu,Nat.add_zero,hkd,↓aN]
  by_cases k3:Q.t.kind=3
  ·simp only[k3,decide_true,↓L4,↓eD]
   exact bH.mpr (by rw[oJ (base True (fun _=>Or.inr (Or.inl ⟨a2,Or.inl (by rw[ht];exact k3)⟩)) trivial)])
  simp only[k3,decide_false,↓F0,↓fF,↓aN]
  refine bH.mpr ?_
  rw[Gf (b:=decide (Q.t.kind=4))]
  simp only[decide_eq_true_eq]
  constructor
  ·exact base _ fun k4=>Or.inr (Or.inl ⟨a2,Or.inr (by rw[ht];exact k4)⟩)
  ·intro h
   rcases h.a with e|⟨-,e|e⟩|⟨e,-⟩
   ·exact absurd e a1
   ·rw[ht]at e;exact absurd e k3
   ·rw[ht]at e;exact e
   ·omega
 simp only[a2,decide_false,↓ae,↓bf u0,Nat.zero_add,B.cM 0 (j:=1) rfl rfl rfl,↓aN]
 by_cases a3:x.at_=3
 case neg =>
  simp only[a3,decide_false,↓ae,ai,true_and]
  intro h
  rcases h.a with e|⟨e,-⟩|⟨e,-⟩
  ·exact a1 e
  ·exact a2 e
  ·exact a3 e
 simp only[a3,decide_true,↓af,↓bf u0,Nat.zero_add,B.cM 0 (j:=4) rfl rfl rfl,B.cM 0 (j:=6) rfl rfl rfl]
 refine Ss rfl rfl fun n4 t4=>?_
 have f4:=t4.free
 have nb:∀p,p∈[(n3,x.e),(n2,l.e),(n1,c.e)]->p.1≠n4:=fun p hp e=>by
  have:=(B.at_ p hp).1;rw[e,f4]at this;cases this
 have B4:=B.re (h0:=aM) (h':=ah h3 n4 (.arr 1 [words x.regs,words x.slots])) fun p hp=>aa _ _ (nb p hp)
 have e4:ah h3 n4 (.arr 1 [words x.regs,words x.slots]) n4=.arr 1 ([x.regs,x.slots].map words):=ad _ _ _
 generalize ah h3 n4 (.arr 1 [words x.regs,words x.slots])=h4 at B4 e4
 simp only[↓bf (B4.used 0 rfl),Nat.zero_add,B4.cM 0 (j:=5) rfl rfl rfl]
 obtain⟨p1,p2,p3⟩:=Qh hc i8
 refine QB (ws:=[x.regs,x.slots]) (m:=x.priv) e4 (by simp;omega) fun q h5 hq k5 fq=>?_
 have nf5:∀p,p∈[(n3,x.e),(n2,l.e),(n1,c.e)]->h4 p.1≠.free:=fun p hp=>by rw[(B4.at_ p hp).1];simp
 have B5:=B4.re (h0:=aM) (h':=h5) fun p hp=>k5 p.1 (nf5 p hp) (nb p hp)
 have nq:∀p,p∈[(n3,x.e),(n2,l.e),(n1,c.e)]->p.1≠q:=fun p hp e=>by
  have:=(B4.at_ p hp).1;rw[e,fq]at this;cases this
 have hr:=hb.r
 have hs:=hb.s
 have cc:=Nb (ws:=[x.regs,x.slots]++x.priv) (by simp at p3 ⊢;omega) (by simp;omega)
 have rc:=MM (P:=PP) (f:=bW) (R:=(· = words ([x.regs,x.slots]++x.priv).flatten)) hq (PS _) cc (KH:=fun a237 h238=>ab PP (.fadd (.c (.ptr n3 0 0)) 2) h238 fun a239 h240 =>
  ab PP (.ld (.c a239) 1 false) h240 fun a241 h242=>vbin .eql a241 (.int .i64 0) fun a243=>vguard a243 true (fun G244=>G244 a237 h242) h242 fun a245 h246=>vguard a243 true (fun G247=>G247 (.fn fT [] []) h246) h246 fun a248 h249 =>
  vguard a243 true (fun G250=>ag PP bI [a245,a248] h249 fun a253 h254=>G250 a253 h254) h249 fun a251 h252=>vguard a243 true (fun G255=>vun .not a251 fun a258=>G255 a258 h252) h252 fun a256 h257 =>
  ab PP (.pick (.c a243) (.c a256) (.c (.bool false))) h257 fun a259 h260=>qN (· = .bool (qP c l x)) a259 h260) ?_
 ·rw[List.length_map]at rc
  exact rc
 rintro _ h6 rfl k6
 have B6:=B5.re (h0:=aM) (h':=h6) fun p hp=>k6 p.1 (nq p hp)
 simp only[↓bf (B6.used 0 rfl),Nat.zero_add,B6.cM 0 (j:=2) rfl rfl rfl,↓aN]
 by_cases b0:x.block=0
 case neg =>
  simp only[b0,decide_false,↓Sr,↓fF]
  refine bH.mpr ?_
  rw[zH]
  intro h
  rcases h.a with e|⟨e,-⟩|⟨-,e,-⟩
  ·exact a1 e
  ·exact a2 e
  ·exact b0 e
 simp only[b0,decide_true,↓Kp]
 refine Ez (by simp at p3 ⊢;omega) fun h7=>?_
 have hv:qP c l x = !(([x.regs,x.slots]++x.priv).flatten.any (· ≠ 0)):=by
  refine Gf ?_
  rw[Bool.not_eq_true',List.cons_append,List.cons_append,List.nil_append,any_zero]
  constructor
  ·exact base _ fun h=>Or.inr (Or.inr ⟨a3,b0,h⟩)
  ·intro h
   rcases h.a with e|⟨e,-⟩|⟨-,-,e⟩
   ·exact absurd e a1
   ·exact absurd e a2
   ·exact e
 cases e:([x.regs,x.slots]++x.priv).flatten.any (· ≠ 0) with
 | false =>
  rw[e]at hv
  simp only[↓Kp,↓Ns,↓eD]
  exact bH.mpr (by rw[hv];rfl)
 | true =>
  rw[e]at hv
  simp only[↓Kp,↓Ae,↓eD]
  exact bH.mpr (by rw[hv];rfl)
section
variable {h0 h:Heap}{ro0 ro:Ro}{L:List (Nat×D)}{KH:HK}{c:Code}{l:dA}{s:qL}{n:Nat}
theorem bN.U7 (B:bN h0 ro0 h ro L) (i:Nat) (hi:L[i]?=some (n,GX c l s)):ab PP (.ld (.c (.ptr n 0 0)) 8 true) h KH=KH c.e h:=B.rL i (j:=0) (s:=8) (e:=c.e) hi rfl rfl (Nat.le_of_ble_eq_true rfl)
theorem bN.U6 (B:bN h0 ro0 h ro L) (i:Nat) (hi:L[i]?=some (n,GX c l s)):ab PP (.ld (.c (.ptr n 0 8)) 2 true) h KH=KH l.e h:=B.rL i (j:=8) (s:=2) (e:=l.e) hi rfl rfl (Nat.le_of_ble_eq_true rfl)
theorem bN.U5 (B:bN h0 ro0 h ro L) (i:Nat) (hi:L[i]?=some (n,GX c l s)):ab PP (.ld (.c (.ptr n 0 10)) 11 true) h KH=KH (gI s) h:=B.rL i (j:=10) (s:=11) (e:=gI s) hi rfl rfl (Nat.le_of_ble_eq_true rfl)
theorem bN.Uc (B:bN h0 ro0 h ro L) (i:Nat) (hi:L[i]?=some (n,GX c l s)):ab PP (.ld (.c (.ptr n 0 10)) 7 true) h KH=KH s.it.e h:=B.rL i (j:=10) (s:=7) (e:=s.it.e) hi rfl rfl (Nat.le_of_ble_eq_true rfl)
theorem bN.ite (B:bN h0 ro0 h ro L) (i:Nat){p:It×Int}(hi:L[i]?=some (n,tS p)):ab PP (.ld (.c (.ptr n 0 0)) 7 true) h KH=KH p.1.e h:=B.rL i (j:=0) (s:=7) (e:=p.1.e) hi rfl rfl (Nat.le_of_ble_eq_true rfl)
theorem bN.UL (B:bN h0 ro0 h ro L) (i:Nat){r:qL}(hi:L[i]?=some (n,gI r)):ab PP (.ld (.c (.ptr n 0 0)) 7 true) h KH=KH r.it.e h:=B.rL i (j:=0) (s:=7) (e:=r.it.e) hi rfl rfl (Nat.le_of_ble_eq_true rfl)
theorem bN.Rr (B:bN h0 ro0 h ro L) (i:Nat){sz:Nat}{d d':D}(hi:L[i]?=some (n,d)) (hd:d=.agg d.cells) (hd':d'=.agg d'.cells) (hl:d.cells.length=sz) (hl':d'.cells.length=sz) (ho:aB d')
  (hK:∀h',bN h0 ro0 h' ro (L.set i (n,d'))->KH .undef h'):ab PP (.st (.c (.ptr n 0 0)) (.c d') sz) h KH:=by
 rw[hd']at hK ⊢
 exact B.m7 i (cs:=d.cells) (by rw[<- hd];exact hi) hl hl' ho hK
end
theorem ER {P:Program}{h:Heap}{KH:HK}{esz len:Nat}{z:D}{ps:List (Nat×Arg)}(hp:∀p∈ps,p.1<len/\(p.2.get []).cells.length=esz/\aB (p.2.get [])/\(p.2.get []).vd=true)
  (hk:∀n,nZ h n->KH (.ms n 0 len) (ah h n (.arr esz (setEls (List.replicate len z) (ps.map fun p=>(p.1,p.2.get [])))))):ab P (.bldS true esz len z ps) h KH:=by
 have fz:∀p∈ps,(p.2.get []).fz h=p.2.get []/\(p.2.get []).nm=[]/\jR h (p.2.get []):=fun p hpm=>DS (hp p hpm).2.2.2
 refine⟨fun p hpm=>?_,fun _ p hpm=>?_,fun n t=>?_⟩
 ·simp only[List.mem_map]at hpm
  obtain⟨q,hq,rfl⟩:=hpm
  obtain⟨a1,a2,a3,-⟩:=hp q hq
  exact⟨a1,a2,a3⟩
 ·simp only[List.mem_map]at hpm
  obtain⟨q,hq,rfl⟩:=hpm
  first|exact(fz q hq).2.2|exact⟨(fz q hq).2.2,by rw[(fz q hq).1];exact(hp q hq).2.2.2⟩
 ·have e1:ps.flatMap (fun p=>(p.2.get []).nm)=[]:=by
   rw[List.flatMap_eq_nil_iff]
   exact fun p hpm=>(fz p hpm).2.1
  have e2:(ps.map fun p=>(p.1,if(true:Bool)=true then(p.2.get []).fz h else p.2.get []))=ps.map fun p=>(p.1,p.2.get []):=by
   refine List.map_congr_left fun p hpm=>?_
   simp only[if_true]
   rw[(fz p hpm).1]
  have:=hk n t
  rw[e1,e2]
  simpa[Heap.freezeAll] using this
theorem NT {P:Program}{h:Heap}{KH:HK}{esz:Nat}{z d d':D}(ho:aB d) (hl:d.cells.length=esz) (hf:jR h d) (he:d.fz h=d') (hv:d'.vd=true)
  (hk:∀n h',h n=.free->h' n=.arr esz [d']->(∀k,h k≠.free->(∀m∈d.nm,k≠m)->h' k=h k)->KH (.ms n 0 1) h'):ab P (.bldS true esz 1 z [(0,.c d)]) h KH:=by
 refine⟨fun p hpm=>?_,fun _ p hpm=>?_,fun n t=>?_⟩
 ·simp only[List.map_cons,List.map_nil,List.mem_singleton]at hpm
  subst hpm
  exact⟨Nat.one_pos,hl,ho⟩
 ·simp only[List.map_cons,List.map_nil,List.mem_singleton]at hpm
  subst hpm
  first|exact hf|exact⟨hf,by show(d.fz h).vd=true;rw[he];exact hv⟩
 ·have e:setEls (List.replicate 1 z) ([(0,Arg.c d)].map fun p=>(p.1,if(true:Bool)=true then(p.2.get []).fz h else p.2.get []))=[d']:=by
   show [d.fz h]=[d']
   rw[he]
  rw[e]
  refine hk n _ t.free (ad _ _ _) fun k hkf hm=>?_
  rw[aa _ _ (t.ne hkf)]
  simp only[if_true,List.flatMap_cons,List.flatMap_nil,List.append_nil]
  exact fU _ fun hmem=>hm k hmem rfl
theorem bN.Vk {h0 h:Heap}{ro0 ro:Ro}{L:List (Nat×D)}{KH:HK}(B:bN h0 ro0 h ro L) (i:Nat){n s:Nat}{cs cs':List D}{d:D}(hd:d=.agg cs') (hi:L[i]?=some (n,.agg cs)) (hl:cs.length=s) (hl':cs'.length=s) (ho:∀x,x∈cs'->x.one=true)
  (hK:bN h0 ro0 (ah h n (.box (.agg cs'))) ro (L.set i (n,.agg cs'))->KH .undef (ah h n (.box (.agg cs')))):ab PP (.st (.c (.ptr n 0 0)) (.c d) s) h KH:=by
 subst hd
 rw[Go.Am.m7 (B.get i hi) hl hl' ho]
 exact hK (B.aw i hi _)
def Io (n:Int):bO:=⟨⟨#[97]⟩,1,1,n⟩
def DM:Block:=⟨[⟨5,1,0,gf 0,au,au,au⟩,⟨8,0,0,au,gf 0,Const 7,au⟩],⟨5,0,au,au,au,0,0⟩⟩
def lu (n:Int):Code:=⟨4,1,1,0,0,[Io n],[],[DM]⟩
theorem Kt {n:Int}:aF PP iq [.int .i64 n] (· = (lu n).e):=by
 refine gh (aU wN (aC _ _ _) rfl (wE _ _) ?_)
 (unfold pU;try dsimp only[xL,yL,xF,yF,xI,yI,xS,zI,zJ])
 refine bN.start.alloc fun n1 h1 ro1 B=>?_
 refine bc Ow ⟨ba,trivial⟩ ?_
 rw[cI rfl]
 refine bc Ow ⟨ba,trivial⟩ ?_
 refine bc Oy ⟨ba,trivial⟩ ?_
 rw[cI rfl]
 obtain⟨i0,hi0⟩:∃i:aQ,i=⟨5,1,0,gf 0,au,au,au⟩:=⟨_,rfl⟩
 obtain⟨i1,hi1⟩:∃i:aQ,i=⟨8,0,0,au,gf 0,Const 7,au⟩:=⟨_,rfl⟩
 have v15:∀i:aQ,(i.e.cells.length=15)/\aB i.e/\i.e.vd=true:=fun i=>⟨rfl,(aQ.cu i).one,(aQ.cu i).pair.1⟩
 refine ER (fun p hp=>?_) fun n2 t2=>?_
 ·simp only[List.mem_cons,List.not_mem_nil,or_false]at hp
  rcases hp with rfl|rfl
  ·exact⟨by simp,v15 ⟨5,1,0,gf 0,au,au,au⟩⟩
  ·exact⟨by simp,v15 ⟨8,0,0,au,gf 0,Const 7,au⟩⟩
 have f2:=t2.free
 have B:=B.step (Fr.new (ro:=ro1) f2 .ev (s:=.arr 15 (DM.i.map aQ.e)))
 have e2:ah h1 n2 (.arr 15 (DM.i.map aQ.e)) n2=.arr 15 (DM.i.map aQ.e):=ad _ _ _
 have es2:setEls (List.replicate 2 (.agg [(.int .i64 0),(.int .i64 0),(.int .i64 0),(.int .i64 0),(.int .i64 0),(.int .i32 0),(.int .i64 0),(.int .i64 0),(.int .i32 0),(.int .i64 0),(.int .i64 0),(.int .i32 0),(.int .i64 0),(.int .i64 0),(.int .i32 0)])) [(0,(⟨5,1,0,gf 0,au,au,au⟩:aQ).e),(1,(⟨8,0,0,au,gf 0,Const 7,au⟩:aQ).e)]=DM.i.map aQ.e:=rfl
 show ab PP _ (ah h1 n2 (.arr 15 (DM.i.map aQ.e))) _
 generalize ah h1 n2 (.arr 15 (DM.i.map aQ.e))=h2 at B e2
 generalize ah ro1 n2 .ev=ro2 at B
 rw[cI rfl]
 refine ER (fun p hp=>?_) fun n3 t3=>?_
 ·simp only[List.mem_cons,List.not_mem_nil,or_false]at hp
  subst hp
  exact⟨by simp,rfl,(bO.cu (Io n)).one,(bO.cu (Io n)).pair.1⟩
 have f3:=t3.free
 have B:=B.step (Fr.new (ro:=ro2) f3 .ev (s:=.arr 4 ([Io n].map bO.e)))
 have n32:n2≠n3:=t3.ne (by rw[e2];simp)
 have e2':ah h2 n3 (.arr 4 ([Io n].map bO.e)) n2=.arr 15 (DM.i.map aQ.e):=by rw[aa _ _ n32];exact e2
 have e3:ah h2 n3 (.arr 4 ([Io n].map bO.e)) n3=.arr 4 ([Io n].map bO.e):=ad _ _ _
 show ab PP _ (ah h2 n3 (.arr 4 ([Io n].map bO.e))) _
 generalize ah h2 n3 (.arr 4 ([Io n].map bO.e))=h3 at B e2' e3
 generalize ah ro2 n3 .ev=ro3 at B
 rw[cI rfl,cI rfl]
 have iv:∀x,x∈DM.i.map aQ.e->∀y∈x.cells,y.vone=true:=fun x hx y hy=>by
  simp only[List.mem_map]at hx
  obtain⟨z,-,rfl⟩:=hx
  exact(aQ.cu z).pair.1 |> fun h=>by
   have:=List.all_eq_true.1 h y hy
   exact this
 have fi:=cA e2' iv
 have fb:O0 h3 (.agg (.ms n2 0 (DM.i.map aQ.e).length::DM.t.cs)) DM.e:=A4.agg (.cons fi (A4.Tz fun x hx=>by
  simp[DM,Term.cs,et.cs,au]at hx
  rcases hx with rfl|rfl|rfl|rfl|rfl|rfl|rfl|rfl|rfl|rfl|rfl|rfl|rfl<;>rfl))
 have hfz:D.fz h3 (.agg (.ms n2 0 2::DM.t.cs))=DM.e:=by
  have hr:(h3 n2).row=some (15,DM.i.map aQ.e):=by rw[e2'];rfl
  simp[D.fz,D.fzc,hr,DM,Term.cs,et.cs,au,Block.e]
 refine NT (d:=.agg (.ms n2 0 2::DM.t.cs)) (d':=DM.e) fb.one rfl fb.ok hfz fb.v' fun n4 h4 f4 e4 k4=>?_
 have nm2:∀m,m∈D.nm (.agg (.ms n2 0 2::DM.t.cs))->m=n2:=fun m hm=>by
  simpa[D.nm,D.jE,DM,Term.cs,et.cs,au] using hm
 have e3':h4 n3=.arr 4 ([Io n].map bO.e):=by
  rw[k4 n3 (by rw[e3];simp) (fun m hm=>by rw[nm2 m hm];exact n32.symm)];exact e3
 have B:=B.re (h0:=aM) (h':=h4) fun p hp=>k4 p.1 (by rw[(B.at_ p hp).1];simp) fun m hm=>by
  rw[nm2 m hm]
  rintro e
  have:=(B.at_ p hp).1
  rw[e,e2']at this;cases this
 rw[cI rfl]
 have n1b:=B.get 0 rfl
 refine B.Vk 0 (cs':=[.int .i64 4,.int .i64 1,.int .i64 1,.int .i64 0,.int .i64 0,.ms n3 0 1,.nil,.ms n4 0 1]) rfl rfl rfl rfl (by simp) fun B5=>?_
 have n31:n3≠n1:=by rintro rfl;rw[e3']at n1b;cases n1b
 have n41:n4≠n1:=by rintro rfl;rw[e4]at n1b;cases n1b
 have e35:=aa h4 (.box (.agg [.int .i64 4,.int .i64 1,.int .i64 1,.int .i64 0,.int .i64 0,.ms n3 0 1,.nil,.ms n4 0 1])) n31
 have e45:=aa h4 (.box (.agg [.int .i64 4,.int .i64 1,.int .i64 1,.int .i64 0,.int .i64 0,.ms n3 0 1,.nil,.ms n4 0 1])) n41
 rw[e3']at e35
 rw[e4]at e45
 generalize ah h4 n1 (.box (.agg [.int .i64 4,.int .i64 1,.int .i64 1,.int .i64 0,.int .i64 0,.ms n3 0 1,.nil,.ms n4 0 1]))=h5 at B5 e35 e45
 rw[B5.dt (s:=8) 0 rfl rfl rfl]
 have fa:=cA e35 (Q0 _)
 have fbk:=cA e45 (fun x hx y hy=>by
  simp only[List.mem_singleton]at hx
  subst hx
  have:=List.all_eq_true.1 (Block.cu DM).pair.1 y hy
  exact this)
 exact eF (by simp) (by simp[Code.e]) (.refl _) (A4.agg (.cons (aG rfl) (.cons (aG rfl) (.cons (aG rfl) (.cons (aG rfl) (.cons (aG rfl) (.cons fa (.cons fK (.cons fbk .nil))))))))) rfl
end Go.Am
namespace Go.Am
open Go Go.Proofs
def L5:dA:=⟨1,[]⟩
def EW:D:=.agg [.int .i64 1,.nil]
theorem Gu {n:Int}(h:1<=n/\n<=8):bh (lu n) where
 group:=by simp[lu]
 sub:=by simp[lu]
 regs:=by simp[lu]
 slots:=rfl
 params:=by simp[lu]
 nar:=by simp[lu]
 ar:=fun a ha=>by
  simp[lu]at ha
  subst ha
  exact⟨by simp[Io],h⟩
 nb:=by simp[lu]
 xs:=fun b hb=>by
  simp[lu]at hb
  subst hb
  refine⟨fun x hx=>?_,by simp[DM],.exit⟩
  simp[DM]at hx
  rcases hx with rfl|rfl
  ·exact⟨.id 1 (gf 0) (by omega) ⟨0,by omega,by simp[lu],rfl⟩,fun h=>by simp at h,fun h=>by simp at h⟩
  ·exact⟨.store 0 (gf 0) (Const 7) (by omega) ⟨0,by omega,by simp[lu],rfl⟩ (Or.inr ⟨7,by omega,by omega,rfl⟩),fun _=>⟨0,rfl,by simp[lu]⟩,fun h=>by simp at h⟩
theorem Il {n:Int}:jw (lu n) L5:=⟨by simp[L5],by simp[L5,lu],fun v hv=>by simp[L5]at hv⟩
theorem Rd {xs ys:List D}(h:F6 xs ys):Wk (.sl xs) (.sl ys):=.sl _ _ h.get.1 h.get.2
theorem Im:Wk EW L5.e:=.OL (.cons (.refl _) (.cons .nil .nil))
def hZ:It:=⟨2,1,0,0,[0],[[]]⟩
def AF:Ev:=⟨2,0,2,0,0,1,0,2,7⟩
def Qk:qL:=⟨⟨2,3,0,0,[0],[[]]⟩,[[0,0,7,0]],[[]],[AF],0⟩
def TV:qL:=⟨hZ,[[0,0]],[[]],[],70⟩
def Ql (g:Mm):D:=.agg (hZ.cs++[aP g,.sl [.nil],.nil,.int .i64 0])
theorem Og (g:Mm):Wk (Ql g) (gI ⟨hZ,g,[[]],[],0⟩) :=
 .OL (.cons (.refl _) (.cons (.refl _) (.cons (.refl _) (.cons (.refl _) (.cons (.refl _) (.cons (.refl _) (.cons (.refl _) (.cons (.refl _) (.cons (Rd (.cons .nil .nil)) (.cons .nil (.cons (.refl _) .nil)))))))))))
theorem Jt {n:Int}:OU (lu n) L5 hZ where
 id:=by simp[hZ,L5,lu]
 at_:=by simp[hZ]
 block:=by simp[hZ,lu]
 len:=by simp[hZ,lu]
 regs:=fun v hv=>by simp[hZ]at hv;subst hv;exact⟨by omega,by omega⟩
 priv:=⟨by simp[hZ,lu],fun i a w ha hw=>by
  have hi:i=0:=by have:=(List.getElem?_eq_some_iff.1 ha).1;simp[lu]at this;exact this
  subst hi
  simp[lu,hZ]at ha hw
  subst ha hw
  exact⟨by simp[zG,Io],by simp⟩⟩
theorem Hj {n:Int}{s:Nat}{w:List Int}(hl:w.length=zG (Io n) s) (hI:∀v∈w,gX v):gg (lu n).arrays s [w]:=⟨by simp[lu],fun i a v ha hv=>by
 have hi:i=0:=by have:=(List.getElem?_eq_some_iff.1 ha).1;simp[lu]at this;exact this
 subst hi
 simp[lu]at ha hv
 subst ha hv
 exact⟨hl,hI⟩⟩
theorem TQ:∀v:Int,v=0->gX v:=fun v h=>by subst h;exact⟨by omega,by omega⟩
theorem Od:dC (lu 4) L5 hZ [[0,0,0,0]] [[]] 0=Qk:=by kernel_rfl
theorem Oe:dC (lu 2) L5 hZ [[0,0]] [[]] 0=TV:=by kernel_rfl
theorem QV {a b c d a' b' c' d':D}(h1:Wk a a') (h2:Wk b b') (h3:Wk c c') (h4:Wk d d'):F6 [a,b,c,d] [a',b',c',d']:=.cons h1 (.cons h2 (.cons h3 (.cons h4 .nil)))
theorem Of:aF PP fZ [(lu 4).e,EW,.int .i64 2] (· = tS (hZ,0)):=by
 have:=Kl (id:=2) (Gu (n:=4) (by omega)) Il
 have e:ga (lu 4) L5 2=(hZ,0):=by kernel_rfl
 rw[e]at this
 exact aF.arg (.cons (.refl _) (.cons Im (.cons (.refl _) .nil))) this
theorem SA:aF PP fZ [(lu 4).e,EW,.int .i64 4] (· = tS (oD,1)):=by
 have:=Kl (id:=4) (Gu (n:=4) (by omega)) Il
 have e:ga (lu 4) L5 4=(oD,1):=by kernel_rfl
 rw[e]at this
 exact aF.arg (.cons (.refl _) (.cons Im (.cons (.refl _) .nil))) this
theorem UR:aF PP eK [(lu 4).e,EW,Ql [[0,0,0,0]],.int .i64 0] (· = gI Qk):=by
 have:=G8 (aw:=0) (r:=⟨hZ,[[0,0,0,0]],[[]],[],0⟩) (Gu (n:=4) (by omega)) Il Jt (Hj (by simp[zG,Io]) (by simp;exact TQ 0 rfl)) (Hj (by simp[zG,Io]) (by simp))
 simp only[Od]at this
 exact aF.arg (QV (.refl _) Im (Og _) (.refl _)) this
theorem UQ:aF PP eK [(lu 2).e,EW,Ql [[0,0]],.int .i64 0] (· = gI TV):=by
 have:=G8 (aw:=0) (r:=⟨hZ,[[0,0]],[[]],[],0⟩) (Gu (n:=2) (by omega)) Il Jt (Hj (by simp[zG,Io]) (by simp;exact TQ 0 rfl)) (Hj (by simp[zG,Io]) (by simp))
 simp only[Oe]at this
 exact aF.arg (QV (.refl _) Im (Og _) (.refl _)) this
theorem TR:wB (lu 4) L5 Qk.it.g where
 id:=by decide
 ep:=by decide
 bl:=by decide
 rg:=by decide
 sl:=by decide
 ft:=by decide
 a:=Or.inr (Or.inr ⟨rfl,rfl,by decide,by decide,by decide⟩)
theorem Oc:aF PP kY [(lu 4).e,EW,Qk.it.e] (· = .bool true):=by
 have:=PA (x:=Qk.it.g) (Gu (n:=4) (by omega)) Il ⟨by decide,by decide,by decide⟩
 rw[oJ TR,It.Vw]at this
 exact aF.arg (.cons (.refl _) (.cons Im (.cons (.refl _) .nil))) this
theorem Ob:aF PP cU [hZ.e,(Const 9).e] (· = .int .i32 9):=RP (it:=hZ) (o:=Const 9) (fun h=>by have:(1:Int)=2:=h;omega)
theorem Qj:aF PP kW [(lu 4).e,hZ.e,.int .i32 1] (· = tS (hZ,1)):=by
 have:=Sf (v:=1) (Gu (n:=4) (by omega)) (Jt (n:=4))
 have e:mi (lu 4) hZ 1=(hZ,1):=xm (by simp[hZ])
 rw[e]at this
 exact aF.arg (.cons (.refl _) (.cons (.refl _) (.cons (.refl _) .nil))) this
theorem TS:OO [[0,0,7,0]]:=⟨by simp,by simp⟩
theorem TU:OO [[0,0]]:=⟨by simp,by simp⟩
theorem ur {d:D}{n:Nat}:∀(ns:List Nat){h:Heap},h n=.box d->h.freezeAll ns n=.box d
 | [],_,hn=>hn
 | a::r,h,hn=>by
  simp only[Heap.freezeAll]
  refine ur r ?_
  unfold Heap.freeze
  cases he:h a<;>simp only[]<;>first|exact hn|(rw[aa _ _ (by rintro rfl;rw[hn]at he;cases he)];exact hn)
theorem EU {P:Program}{f:FuncId}{h:Heap}{ds ds':List D}{r:D}{KH:HK}(k:Fu h ds ds') (hv:aF P f ds' (· = r)) (hK:∀h',(∀n d,h n=.box d->h' n=.box d)->KH r h'):ag P f ds h KH:=by
 obtain⟨k1,k2,k3,-,k4⟩:=k.all
 refine ag.mono ?_ (fx (K:=(· = r)) (aF.arg k4 hv) fun d hd=>⟨k1 d hd,k2 d hd,k3 _ (List.mem_map.2 ⟨d,hd,rfl⟩)⟩)
 rintro r' h' ⟨rfl,q2,q3⟩
 by_cases hr:r'.flat=true\/ds.flatMap D.nm=[]
 ·rw[q2 hr];exact hK h fun n d hn=>hn
 ·rw[q3 hr];exact hK _ fun n d hn=>ur _ hn
theorem bN.bx {h h':Heap}{ro0 ro:Ro}{L:List (Nat×D)}(B:bN aM ro0 h ro L) (hk:∀n d,h n=.box d->h' n=.box d):bN aM ro0 h' ro L :=
 B.re (h0:=aM) fun p hp=>by rw[hk _ _ (B.at_ p hp).1,(B.at_ p hp).1]
theorem rT:wT EW:=cV (by simp)
theorem Vd (w:List Int):∀x,x∈w.map (D.int .i32)->∀y∈x.cells,y.vone=true:=fun x hx y hy=>by
 simp only[List.mem_map]at hx
 obtain⟨z,-,rfl⟩:=hx
 simp at hy;subst hy;rfl
theorem QZ {h:Heap}{KH:D->HK}{len:Nat}{z:D}{ps:List (Nat×Arg)}{w:List Int}(hlen:len=w.length) (hps:setEls (List.replicate len z) (ps.map fun p=>(p.1,p.2.get []))=w.map (D.int .i32))
  (hp:∀p∈ps,p.1<len/\(p.2.get []).cells.length=1/\aB (p.2.get [])/\(p.2.get []).vd=true)
  (hK:∀nb nc h3,h3 nb=.arr 1 [words w]->h3 nc=.arr 1 [.nil]->(∀n d,h n=.box d->h3 n=.box d)->KH (.ms nb 0 1) (.ms nc 0 1) h3) :
  ab PP (.bldS true 1 len z ps) h fun a h1=>ab PP (.bldS true 1 1 .nil [(0,.c a)]) h1 fun b h2=>ab PP (.bldS true 1 1 .nil [(0,.c .nil)]) h2 fun c h3=>KH b c h3:=by
 refine ER hp fun n6 t6=>?_
 rw[hps]
 have f6:=t6.free
 have e6:ah h n6 (.arr 1 (w.map (D.int .i32))) n6=.arr 1 (w.map (D.int .i32)):=ad _ _ _
 have k6:∀n d,h n=.box d->ah h n6 (.arr 1 (w.map (D.int .i32))) n=.box d:=fun n d hn=>by
  rw[aa _ _ (by rintro rfl;rw[hn]at f6;cases f6)];exact hn
 generalize ah h n6 (.arr 1 (w.map (D.int .i32)))=h1 at e6 k6
 have fi:=cA e6 (Vd w)
 rw[List.length_map]at fi
 subst hlen
 have hr:(h1 n6).row=some (1,w.map (D.int .i32)):=by rw[e6];rfl
 refine NT (d':=words w) fi.d.one rfl fi.d.ok (by simp only[D.fz,D.fzc,hr,List.drop_zero];rw[List.take_of_length_le (by simp)];rfl) rfl fun nb h2 fb eb kb=>?_
 refine ER (fun p hp=>?_) fun nc tc=>?_
 ·simp only[List.mem_singleton]at hp
  subst hp
  exact⟨by simp,rfl,by simp,rfl⟩
 have fc:=tc.free
 refine hK nb nc _ ?_ (ad _ _ _) fun n d hn=>?_
 ·rw[aa _ _ (by rintro rfl;rw[eb]at fc;cases fc)];exact eb
 ·have h1n:=k6 n d hn
  have h2n:h2 n=.box d:=by
   rw[kb n (by rw[h1n];simp) (fun m hm=>by
    simp[D.nm,D.jE]at hm
    subst hm
    rintro rfl
    rw[e6]at h1n;cases h1n)];exact h1n
  rw[aa _ _ (by rintro rfl;rw[h2n]at fc;cases fc)];exact h2n
theorem Hm {P:Program}{h:Heap}{K:D->Prop}{fz:Bool}{esz len:Nat}{z:D}{ps:List (Nat×Arg)}(hp:∀p∈ps,p.1<len/\(p.2.get []).cells.length=esz/\aB (p.2.get [])) (hv:∀p∈ps,∀y,y∈(p.2.get []).cells->y.vone=true) (hz:∀y∈z.cells,y.vone=true)
  (hk:K (.sl (setEls (List.replicate len z) (ps.map fun p=>(p.1,p.2.get []))))):aq P (.bldS fz esz len z ps) h K:=by
 refine⟨fun p hpm=>?_,fun p hpm=>?_,hz,hk⟩
 ·simp only[List.mem_map]at hpm
  obtain⟨q,hq,rfl⟩:=hpm
  exact hp q hq
 ·simp only[List.mem_map]at hpm
  obtain⟨q,hq,rfl⟩:=hpm
  exact hv q hq
theorem Ku {h:Heap}{nb nc:Nat}{w:List Int}(hb:h nb=.arr 1 [words w]) (hc:h nc=.arr 1 [.nil]):O0 h (.agg (hZ.cs++[.ms nb 0 1,.ms nc 0 1,.nil,.int .i64 0])) (Ql [w]):=by
 have f1:=cA hb (fun x hx y hy=>by simp at hx;subst hx;simp[words]at hy;subst hy;rfl)
 have f2:=cA hc (fun x hx y hy=>by simp at hx;subst hx;simp at hy;subst hy;rfl)
 exact A4.agg (.cons (aG rfl) (.cons (aG rfl) (.cons (aG rfl) (.cons (aG rfl) (.cons (aG rfl) (.cons (aG rfl) (.cons (aG rfl) (.cons f1 (.cons f2 (.cons (aG rfl) (.cons (aG rfl) .nil)))))))))))
theorem Iw:aF PP jq [] (· = .bool true):=by
 refine bb FC (aC _ _ _) rfl (Fi _) ?_
 (unfold BO;try dsimp only[xL,yL,xF,yF,xI,yI,xS,zI,zJ])
 refine bc (Kt (n:=4)) ⟨ba,trivial⟩ ?_
 refine bc (Kt (n:=2)) ⟨ba,trivial⟩ ?_
 rw[cI rfl]
 refine bN.start.alloc fun n1 h1 ro1 B=>?_
 refine B.alloc fun n2 h2 ro2 B=>?_
 refine B.alloc fun n3 h3 ro3 B=>?_
 refine B.Rr 2 (d':=(lu 4).e) rfl rfl rfl rfl rfl (jK _).2 fun h4 B=>?_
 refine B.Rr 1 (d':=(lu 2).e) rfl rfl rfl rfl rfl (jK _).2 fun h5 B=>?_
 refine B.Ta 0 (cs':=[.int .i64 1,.nil]) rfl rfl rfl rfl (by simp) fun h6 B=>?_
 have B:bN aM tq h6 ro3 [(n3,EW),(n2,(lu 2).e),(n1,(lu 4).e)]:=B
 rw[B.dt (s:=8) 2 rfl rfl rfl,B.dt (s:=2) 0 rfl rfl rfl]
 refine bc Of ⟨Code.cu _,rT,ba,trivial⟩ ?_
 refine B.alloc fun n4 h7 ro7 B=>?_
 refine B.Rr 0 (d':=tS (hZ,0)) rfl rfl rfl rfl rfl (ph _) fun h8 B=>?_
 rw[B.dt (s:=8) 3 rfl rfl rfl,B.dt (s:=2) 1 rfl rfl rfl]
 refine bc SA ⟨Code.cu _,rT,ba,trivial⟩ ?_
 refine B.alloc fun n5 h9 ro9 B=>?_
 refine B.Rr 0 (d':=tS (oD,1)) rfl rfl rfl rfl rfl (ph _) fun h10 B=>?_
 have B:bN aM tq h10 ro9 [(n5,tS (oD,1)),(n4,tS (hZ,0)),(n3,EW),(n2,(lu 2).e),(n1,(lu 4).e)]:=B
 simp only[↓bf (B.used 1 rfl),↓bf (B.used 0 rfl),Nat.zero_add,Nat.add_zero,B.cM (e:=.int .i64 0) 1 (j:=7) rfl rfl rfl,B.cM (e:=.int .i64 1) 0 (j:=7) rfl rfl rfl,B.cM (e:=.int .i64 1) 1 (j:=1) rfl rfl rfl,B.cM (e:=words [0]) 1 (j:=4) rfl rfl rfl,
  ↓ck,decide_true,Bool.not_true,↓F0,↓fF,↓kQ,List.length_singleton,show(((1:Nat):Int)=1)=True from eq_true rfl,↓ae]
 rw[B.dt (s:=8) 4 rfl rfl rfl,B.dt (s:=2) 2 rfl rfl rfl]
 simp only[↓bf (B.used 1 rfl),Nat.zero_add,B.ite 1 rfl]
 refine QZ (w:=[0,0,0,0]) rfl rfl (fun p hp=>?_) fun nb nc h11 eb ec kb=>?_
 ·simp only[List.mem_cons,List.not_mem_nil,or_false]at hp
  rcases hp with rfl|rfl|rfl|rfl<;>exact⟨by simp,rfl,by simp,rfl⟩
 have B:=B.bx kb
 rw[cI rfl]
 refine EU (.cons (gT (Code.cu _)) (.cons (gT rT) (.cons (Ku eb ec) (.cons (aG rfl).d .nil)))) UR fun h12 kb=>?_
 have B:=B.bx kb
 refine B.alloc fun n6 h13 ro13 B=>?_
 refine B.Rr 0 (d':=gI Qk) rfl rfl rfl rfl rfl (mg Qk) fun h14 B=>?_
 have B:bN aM tq h14 ro13 [(n6,gI Qk),(n5,tS (oD,1)),(n4,tS (hZ,0)),(n3,EW),(n2,(lu 2).e),(n1,(lu 4).e)]:=B
 rw[B.dt (s:=8) 4 rfl rfl rfl,B.dt (s:=2) 3 rfl rfl rfl]
 simp only[↓bf (B.used 2 rfl),Nat.zero_add,B.ite 2 rfl]
 refine QZ (w:=[0,0]) rfl rfl (fun p hp=>?_) fun nb nc h15 eb ec kb=>?_
 ·simp only[List.mem_cons,List.not_mem_nil,or_false]at hp
  rcases hp with rfl|rfl<;>exact⟨by simp,rfl,by simp,rfl⟩
 have B:=B.bx kb
 rw[cI rfl]
 refine EU (.cons (gT (Code.cu _)) (.cons (gT rT) (.cons (Ku eb ec) (.cons (aG rfl).d .nil)))) UQ fun h16 kb=>?_
 have B:=B.bx kb
 refine B.alloc fun n7 h17 ro17 B=>?_
 refine B.Rr 0 (d':=gI TV) rfl rfl rfl rfl rfl (mg TV) fun h18 B=>?_
 have B:bN aM tq h18 ro17 [(n7,gI TV),(n6,gI Qk),(n5,tS (oD,1)),(n4,tS (hZ,0)),(n3,EW),(n2,(lu 2).e),(n1,(lu 4).e)]:=B
 simp only[↓bf (B.used 1 rfl),↓bf (B.used 0 rfl),Nat.zero_add,Nat.add_zero,B.cM (e:=.int .i64 0) 1 (j:=10) rfl rfl rfl,B.cM (e:=.int .i64 70) 0 (j:=10) rfl rfl rfl,B.cM (e:=.sl [AF.e]) 1 (j:=9) rfl rfl rfl,↓ck,decide_true,Bool.not_true,↓F0,↓fF]
 rw[cI rfl]
 refine ER (fun p hp=>?_) fun n8 t8=>?_
 ·simp only[List.mem_singleton]at hp
  subst hp
  exact⟨by simp,rfl,(Ev.cu AF).one,(Ev.cu AF).pair.1⟩
 have f8:=t8.free
 have e8:ah h18 n8 (.arr 9 ([AF].map Ev.e)) n8=.arr 9 ([AF].map Ev.e):=ad _ _ _
 have B:=B.bx (h':=ah h18 n8 (.arr 9 ([AF].map Ev.e))) fun n d hn=>by rw[aa _ _ (by rintro rfl;rw[hn]at f8;cases f8)];exact hn
 show ag PP dU [.sl [AF.e],.ms n8 0 1] (ah h18 n8 (.arr 9 ([AF].map Ev.e))) _
 generalize ah h18 n8 (.arr 9 ([AF].map Ev.e))=h19 at B e8
 have fe:=cA e8 (fun x hx y hy=>by
  simp only[List.map_cons,List.map_nil,List.mem_singleton]at hx
  subst hx
  exact List.all_eq_true.1 (Ev.cu AF).pair.1 y hy)
 refine EU (ds':=[.sl ([AF].map Ev.e),.sl ([AF].map Ev.e)]) (.cons (aG rfl).d (.cons fe.d .nil)) (HN (by simp)) fun h20 kb=>?_
 have B:=B.bx kb
 simp only[↓F0,↓Ae,↓fF,↓bf (B.used 0 rfl),↓bf (B.used 1 rfl),Nat.zero_add,Nat.add_zero,B.cM (e:=.sl []) 0 (j:=9) rfl rfl rfl,B.cM (e:=.int .i64 3) 1 (j:=1) rfl rfl rfl,↓lz,List.length_nil,show(((0:Nat):Int))=0 from rfl,↓ck,decide_true,Bool.not_true,↓ae]
 simp only[↓aE,B.used 1 rfl,Nat.zero_add,true_and,↓bL,B.cM (e:=aP [[0,0,7,0]]) 1 (j:=7) rfl rfl rfl]
 refine Hm (fun p hp=>?_) (fun p hp=>?_) (by simp) ?_
 ·simp only[List.mem_cons,List.not_mem_nil,or_false]at hp
  rcases hp with rfl|rfl|rfl|rfl<;>exact⟨by simp,rfl,by simp⟩
 ·simp only[List.mem_cons,List.not_mem_nil,or_false]at hp
  rcases hp with rfl|rfl|rfl|rfl<;>(intro y hy;simp at hy;subst hy;rfl)
 refine Hm (fun p hp=>?_) (fun p hp=>?_) (by simp) ?_
 ·simp only[List.mem_singleton]at hp
  subst hp
  exact⟨by simp,rfl,by simp⟩
 ·simp only[List.mem_singleton]at hp
  subst hp
  intro y hy;simp at hy;subst hy;rfl
 refine gH (JZ TS) ⟨eR,eR,trivial⟩ ?_
 simp only[↓ES,↓aE,B.used 0 rfl,Nat.zero_add,true_and,↓bL,B.cM (e:=aP [[0,0]]) 0 (j:=7) rfl rfl rfl]
 refine Hm (fun p hp=>?_) (fun p hp=>?_) (by simp) ?_
 ·simp only[List.mem_cons,List.not_mem_nil,or_false]at hp
  rcases hp with rfl|rfl<;>exact⟨by simp,rfl,by simp⟩
 ·simp only[List.mem_cons,List.not_mem_nil,or_false]at hp
  rcases hp with rfl|rfl<;>(intro y hy;simp at hy;subst hy;rfl)
 try simp only[↓ES]
 refine Hm (fun p hp=>?_) (fun p hp=>?_) (by simp) ?_
 ·simp only[List.mem_singleton]at hp
  subst hp
  exact⟨by simp,rfl,by simp⟩
 ·simp only[List.mem_singleton]at hp
  subst hp
  intro y hy;simp at hy;subst hy;rfl
 try simp only[↓ES]
 refine gH (JZ TU) ⟨eR,eR,trivial⟩ ?_
 simp only[↓ES,↓kj,↓eD,↓aE,B.used 1 rfl,Nat.zero_add,true_and,↓bL,B.dt (s:=8) 6 rfl rfl rfl,B.dt (s:=2) 4 rfl rfl rfl,B.UL 1 rfl]
 refine gH Oc ⟨Code.cu _,rT,It.cu _,trivial⟩ ?_
 simp only[↓ES,↓kj,↓eD,↓aE,B.used 3 rfl,Nat.zero_add,true_and,↓bL,B.ite 3 rfl]
 refine gH Oy ⟨ba,trivial⟩ ?_
 try simp only[↓ES]
 refine gH Ob ⟨It.cu _,et.cu _,trivial⟩ ?_
 simp only[↓ES,↓aN,decide_true,↓kj,↓eD,↓aE,B.used 3 rfl,Nat.zero_add,true_and,↓bL,B.dt (s:=8) 6 rfl rfl rfl,B.ite 3 rfl]
 refine gH Qj ⟨Code.cu _,It.cu _,ba,trivial⟩ ?_
 have hfl:∀{K:D->Prop},aq PP (.fld (.c (tS (hZ,1))) 7 1 false) h20 K=K (.int .i64 1):=fun {K}=>by
  rw[Om]
  have:=NQ (P:=PP) (h:=h20) (cs:=hZ.cs++[.int .i64 1]) (o:=7) (s:=1) (g:=false) (KH:=fun x _=>K x)
  rw[show(tS (hZ,1))=.agg (hZ.cs++[.int .i64 1]) from rfl,this,bj]
  rfl
 simp only[↓ES,hfl,↓aN,decide_true,↓kj,↓eD]
 exact bH.mpr rfl
theorem NK {c:Code}{l:dA}{it:It}(hc:bh c) (h:OU c l it):U0 it:=⟨by have:=h.len;have:=hc.regs;omega,h.priv.b hc⟩
theorem Kb (bs:List Nat):wT (jX bs):=cV (by simp[wX])
theorem Li (g:Int) (zs:List Int) (id st:Int):wT (dh g zs id st):=cV (by
 intro x hx
 simp at hx
 rcases hx with rfl|⟨z,-,rfl⟩|rfl|rfl<;>rfl)
end Go.Am
namespace Go.Am
open Go Go.Proofs
set_option maxRecDepth 100000
theorem Ur:Try.prog.underlying 22=some (.slice 5):=by kernel_rfl
theorem U3:Try.prog.underlying 5=some (.int .u8):=by kernel_rfl
theorem Uq:Try.prog.underlying 25=some (.int .i8):=by kernel_rfl
theorem Up:Try.prog.underlying 26=some (.array 8 25):=by kernel_rfl
theorem Uo:Try.prog.underlying 27=some (.array 4 25):=by kernel_rfl
theorem Un:Try.prog.underlying 3=some (.int .i64):=by kernel_rfl
theorem t24:structL Try.prog 24=some [(22,0)]:=by kernel_rfl
theorem t31:structL Try.prog 31=some [(29,0),(5,13),(5,14)]:=by kernel_rfl
theorem t29:structL Try.prog 29=some [(5,0),(26,1),(27,9)]:=by kernel_rfl
theorem Vi:Try.prog.cellsOf 24=1:=by kernel_rfl
theorem z22:Try.prog.cellsOf 22=1:=by kernel_rfl
theorem Vf:Try.prog.cellsOf 31=15:=by kernel_rfl
theorem Vg:Try.prog.cellsOf 29=13:=by kernel_rfl
theorem z5:Try.prog.cellsOf 5=1:=by kernel_rfl
theorem U2:Try.prog.cellsOf 26=8:=by kernel_rfl
theorem U1:Try.prog.cellsOf 27=4:=by kernel_rfl
theorem Vh:Try.prog.cellsOf 25=1:=by kernel_rfl
theorem z3:Try.prog.cellsOf 3=1:=by kernel_rfl
theorem QJ:IntKind.u8.min=0:=rfl
theorem S6:IntKind.u8.max=255:=rfl
theorem RJ {m:Nat}{ds:List D}(h:HasTy Try.prog (m+3) 24 ds):∃bs:List Nat,mkElem Try.prog 24 ds=jX bs/\(∀b∈bs,b<=255)/\bs.length<=9223372036854775807:=by
 obtain⟨k1,k2⟩:=pk t24 h
 rw[Vi]at k1
 have q:=k2 (22,0) (by simp)
 simp only[z22,List.drop_zero]at q
 match ds,k1 with
 | [d],_ =>
  obtain⟨xs,h1,h2,h3⟩:=Jn Ur U3 q
  simp at h1
  subst h1
  refine⟨xs.map Int.toNat,?_,fun b hb=>?_,by unfold maxLen at h2;simp;omega⟩
  ·rw[Gm t24,jX,wX,List.map_map]
   congr 3
   refine List.map_congr_left fun x hx=>?_
   have:=h3 x hx
   rw[QJ]at this
   show D.int .u8 x=D.int .u8 ((x.toNat:Nat):Int)
   rw[Int.toNat_of_nonneg this.1]
  ·simp only[List.mem_map]at hb
   obtain⟨x,hx,rfl⟩:=hb
   have:=h3 x hx
   rw[QJ,S6]at this
   omega
theorem KB {m n:Nat}{t:TypeId}{ds:List D}(hu:Try.prog.underlying t=some (.array n 25)) (hn:Try.prog.cellsOf t=n) (h:HasTy Try.prog (m+2) t ds):∃zs:List Int,ds=zs.map (.int .i8)/\zs.length=n:=by
 obtain⟨k1,k2⟩:=BA hu h
 rw[hn]at k1
 simp only[Vh,Nat.mul_one]at k2
 have:∀d∈ds,∃z,d=D.int .i8 z:=fun d hd=>by
  obtain⟨i,hi⟩:=List.getElem?_of_mem hd
  have hlt:=(List.getElem?_eq_some_iff.1 hi).1
  obtain⟨z,hz,-,-⟩:=lq Uq (k2 i (by omega))
  rw[List.drop_eq_getElem_cons hlt,List.take_succ_cons,List.take_zero]at hz
  rw[List.getElem?_eq_getElem hlt]at hi
  cases hi
  exact⟨z,by simpa using hz⟩
 clear k2 h hu hn
 subst k1
 induction ds with
 | nil=>exact⟨[],rfl,rfl⟩
 | cons d r ih =>
  obtain⟨z,rfl⟩:=this d (by simp)
  obtain⟨zs,h1,h2⟩:=ih fun x hx=>this x (by simp[hx])
  exact⟨z::zs,by rw[List.map_cons, <- h1],by simp[h2]⟩
theorem Mp {m:Nat}{ds:List D}(h:HasTy Try.prog (m+1) 5 ds):∃g:Int,ds=[.int .u8 g]/\0<=g/\g<=255:=by
 obtain⟨g,h1,h2,h3⟩:=lq U3 h
 exact⟨g,h1,h2,h3⟩
theorem Nh {m:Nat}{ds:List D}(h:HasTy Try.prog (m+4) 31 ds):∃(g:Int) (zs:List Int) (id st:Int),mkElem Try.prog 31 ds=dh g zs id st/\DO g zs id st:=by
 obtain⟨k1,k2⟩:=pk t31 h
 rw[Vf]at k1
 have q0:=k2 (29,0) (by simp)
 have q1:=k2 (5,13) (by simp)
 have q2:=k2 (5,14) (by simp)
 simp only[Vg,z5,List.drop_zero]at q0 q1 q2
 obtain⟨-,e⟩:=pk t29 q0
 have e0:=e (5,0) (by simp)
 have e1:=e (26,1) (by simp)
 have e2:=e (27,9) (by simp)
 simp only[z5,U2,U1,List.drop_zero]at e0 e1 e2
 obtain⟨g,hg,g1,g2⟩:=Mp e0
 obtain⟨id,hid,id1,id2⟩:=Mp q1
 obtain⟨st,hst,SY,st2⟩:=Mp q2
 obtain⟨z1,hz1,l1⟩:=KB Up U2 e1
 obtain⟨z2,hz2,l2⟩:=KB Uo U1 e2
 refine⟨g,z1++z2,id,st,?_,⟨⟨g1,g2⟩,by simp[l1,l2],⟨id1,id2⟩,⟨SY,st2⟩⟩⟩
 rw[Gm t31,dh]
 congr 1
 match ds,k1 with
 | [d0,d1,d2,d3,d4,d5,d6,d7,d8,d9,d10,d11,d12,d13,d14],_ =>
  simp at hg hid hst hz1 hz2
  simp[<- hz1, <- hz2,hg,hid,hst]
end Go.Am
namespace Go.Am
open Go
theorem NN {P:Program}{f:FuncId}{h h'':Heap}{ds ds':List D}{r:D}{KH:HK}(i:Fs h h'') (k:Fu h'' ds ds') (hv:aF P f ds' (· = r)) (hfl:r.flat=true) (hK:KH r h''):ag P f ds h KH:=by
 obtain⟨k1,k2,k3,-,k4⟩:=k.all
 refine GD i (ag.mono ?_ (fx (K:=(· = r)) (aF.arg k4 hv) fun d hd=>⟨k1 d hd,k2 d hd,k3 _ (List.mem_map.2 ⟨d,hd,rfl⟩)⟩))
 rintro r' h' ⟨rfl,q2,-⟩
 rw[q2 (Or.inl hfl)];exact hK
end Go.Am
namespace Go.Am
open Go Go.Proofs
set_option maxRecDepth 100000
end Go.Am
namespace Go.Am
open Go
theorem Qn {P:Program}{f:FuncId}{xs:List Arg}{h:Heap}{K:D->Prop}{ds':List D}{r:D}(k:Fu h (xs.map (·.get [])) ds') (hv:aF P f ds' (· = r)) (hfl:r.flat=true) (hK:K r):aq P (.call f xs) h K:=by
 obtain⟨k1,k2,k3,-,k4⟩:=k.all
 refine⟨r,?_,fun d hd=>⟨k1 d hd,k2 d hd,k3 _ (List.mem_map.2 ⟨d,hd,rfl⟩)⟩,Or.inl hfl,hK⟩
 have:=aF.arg k4 hv
 rw[List.map_map]at this
 exact this
def OP (h:Heap) (ro:Ro) (d:D) (m:Mm):Prop:=∃k,d=.ms k 0 m.length/\h k=.arr 1 (m.map words)/\ro k=.mem 3
theorem OP.aA {h h':Heap}{ro ro':Ro}(k:cD h ro h' ro'){d:D}{m:Mm}(x:OP h ro d m):OP h' ro' d m:=by
 obtain⟨q,h1,h2,h3⟩:=x
 obtain⟨k1,k2⟩:=k q (bZ h2) (by rw[h3];rfl)
 exact⟨q,h1,by rw[k1];exact h2,by rw[k2];exact h3⟩
theorem OP.f1 {h:Heap}{ro:Ro}{d:D}{m:Mm}(x:OP h ro d m):uc h d (aP m):=by
 obtain⟨q,rfl,h2,-⟩:=x
 have:=cA h2 (PS m)
 rw[List.length_map]at this;exact this
theorem nv.f1 {h:Heap}{ro:Ro}{d:D}{w:List Int}(x:nv h ro d w):uc h d (words w):=by
 obtain⟨q,rfl,h2,-⟩:=x
 have:=cA h2 (IT w)
 rw[ly]at this;exact this
theorem SU.f1 {h:Heap}{ro:Ro}{d:D}(x:SU h ro d):uc h d (words []):=by
 obtain⟨q,rfl,h2,-⟩:=x
 exact cA (els:=[]) h2 (by simp)
theorem F6.app:∀{xs ys us vs:List D},F6 xs ys->F6 us vs->F6 (xs++us) (ys++vs)
 | [],[],_,_,.nil,k=>k
 | _::_,_::_,_,_,.cons h r,k=>.cons h (F6.app r k)
end Go.Am
namespace Go.Am
open Go Go.Proofs
set_option maxRecDepth 100000
end Go.Am
namespace Go.Am
open Go
theorem gu.at {h:Heap}{ro:Ro}{s:Nat}{d:D}{m:Mm}(x:gu h ro s d m){k:Nat}{w:List Int}(hk:m[k]?=some w) :
  ∃kk q,(∀(K:HK),ab PP (.iadd (.c d) (.c (.int .i64 (k:Int))) 1) h K=K (.ptr kk k 0) h)/\(∀(K:HK),ab PP (.ld (.c (.ptr kk k 0)) 1 false) h K=K (.ms q 0 w.length) h) /\
   h q=.arr 1 (wr w)/\ro q=.row s k/\∀i v,gu (ah h q (.arr 1 (wr (w.set i v)))) ro s d (m.set k (w.set i v)):=by
 obtain⟨kk,els,rfl,y,yo⟩:=x
 have hlt:=(List.getElem?_eq_some_iff.1 hk).1
 have hl:=y.len
 have he:els[k]?=some (els[k]'(by omega)):=List.getElem?_eq_getElem (by omega)
 obtain⟨q,hq,hq1,hq2⟩:∃q,els[k]'(by omega)=.ms q 0 w.length/\h q=.arr 1 (wr w)/\ro q=.row s k:=by
  rcases y.el k _ w he hk with g|g
  ·obtain⟨q,l,e⟩:=yo _ (List.getElem_mem (h:=(by omega:k<els.length)))
   rw[e]at g;cases g
  ·exact g
 rw[hq]at he
 refine⟨kk,q,fun K=>?_,fun K=>?_,hq1,hq2,fun i v=>?_⟩
 ·simp only[↓bG,y.hk,Slot.row]
  apply propext
  constructor
  ·rintro⟨-,-,-,h⟩;simpa using h
  ·intro h;exact⟨by omega,by omega,⟨_,rfl⟩,by simpa using h⟩
 ·rw[jH,y.hk]
  apply propext
  constructor
  ·rintro⟨-,h⟩
   exact h _ he
  ·intro h
   refine⟨by first|omega|(simp;omega),fun e he'=>?_⟩
   rw[he]at he';cases he'
   exact h
 ·have kq:kk≠q:=by rintro rfl;have:=y.rk;rw[hq2]at this;cases this
  refine⟨kk,els,by simp,⟨by rw[aa _ _ kq];exact y.hk,y.rk,by simp;exact hl,fun j e w' hj hw'=>?_⟩,yo⟩
  by_cases ej:j=k
  ·subst ej
   rw[he]at hj;cases hj
   rw[List.getElem?_set_self hlt]at hw';cases hw'
   exact Or.inr ⟨q,by simp,ad _ _ _,hq2⟩
  ·rw[List.getElem?_set_ne (Ne.symm ej)]at hw'
   rcases y.el j e w' hj hw' with g|⟨q',g1,g2,g3⟩
   ·exact Or.inl g
   ·exact Or.inr ⟨q',g1,by rw[aa _ _ (by rintro rfl;rw[hq2]at g3;cases g3;exact ej rfl)];exact g2,g3⟩
theorem MN {P:Program}{h:Heap}{q i:Nat}{w:List Int}(hq:h q=.arr 1 (wr w)) (hi:i<w.length){K:HK}:ab P (.iadd (.c (.ms q 0 w.length)) (.c (.int .i64 (i:Int))) 1) h K=K (.ptr q i 0) h:=by
 simp only[↓bG,hq,Slot.row]
 apply propext
 constructor
 ·rintro⟨-,-,-,h⟩;simpa using h
 ·intro h;exact⟨by omega,by omega,⟨_,rfl⟩,by simpa using h⟩
theorem J4 {P:Program}{h:Heap}{q i:Nat}{w:List Int}{v:Int}(hq:h q=.arr 1 (wr w)) (hi:i<w.length){K:HK}(hK:K .undef (ah h q (.arr 1 (wr (w.set i v))))):ab P (.st (.c (.ptr q i 0)) (.c (.int .i32 v)) 1) h K:=by
 rw[du,hq]
 refine⟨rfl,by simp,by simp[wr];omega,by simp,fun d hd=>?_⟩
 have e:setCells d 0 (D.int .i32 v).cells=.int .i32 v:=by
  rw[zF,Option.map_eq_some_iff]at hd
  obtain⟨z,-,rfl⟩:=hd
  rfl
 rw[e,zE]
 exact hK
def U9 (e:Ev) (w:Int):Int:=if e.kind=3 then lb e.op w e.v else e.v
def qM (m:Mm) (n i:Nat):Int:=(m.getD n []).getD i 0
def Ug (e:Ev) (m:Mm):Mm:=if e.kind=1 then m else iy m e.arr.toNat e.i.toNat (U9 e (qM m e.arr.toNat e.i.toNat))
def F1 (c:Code) (e:Ev) (g s:Mm):Mm×Mm :=
 if e.kind=4 then(g,s) else if bg c e.arr.toNat=2 then(g,Ug e s) else(Ug e g,s)
structure VB (c:Code) (e:Ev) (g s:Mm) (n i:Nat) (r:bO):Prop where
 ea:e.arr=(n:Int)
 ei:e.i=(i:Int)
 hr:c.arrays[n]?=some r
 hi:(i:Int)<r.len
 sp:r.space=1\/r.space=2
 v:gX e.v
 k:(e.kind=1/\e.v=qM (if r.space=2 then s else g) n i)\/e.kind=2\/(e.kind=3/\10<=e.op/\e.op<=29)
def SX (c:Code) (e:Ev) (g s:Mm):Prop:=e.kind=4\/∃n i r,VB c e g s n i r
inductive Tr (c:Code) (id aw block:Int):Int->Mm->Mm->List Ev->Mm->Mm->Prop where
 | nil (last:Int) (g s:Mm):Tr c id aw block last g s [] g s
 | cons {last:Int}{g s:Mm}{e:Ev}{r:List Ev}{g' s':Mm}(h1:e.item=id) (h2:e.aw=aw) (h3:e.block=block) (h4:last<e.at_) (ok:SX c e g s)
   (t:Tr c id aw block e.at_ (F1 c e g s).1 (F1 c e g s).2 r g' s'):Tr c id aw block last g s (e::r) g' s'
section
variable {c:Code}{l:dA}{id aw block:Int}
theorem Tr.snoc {last k:Int}{g s g1 s1:Mm}{es:List Ev}{e:Ev}(t:Tr c id aw block last g s es g1 s1) (hl:last<k) (ha:∀x∈es,x.at_<k) (h1:e.item=id) (h2:e.aw=aw) (h3:e.block=block) (h4:e.at_=k) (ok:SX c e g1 s1) :
  Tr c id aw block last g s (es++[e]) (F1 c e g1 s1).1 (F1 c e g1 s1).2:=by
 induction t with
 | nil last g s=>exact .cons h1 h2 h3 (by omega) ok (.nil _ _ _)
 | cons a1 a2 a3 a4 ok' t ih=>exact .cons a1 a2 a3 a4 ok' (ih (ha _ (List.mem_cons_self ..)) (fun x hx=>ha x (List.mem_cons_of_mem _ hx)) ok)
theorem QW {e:Ev}{m:Mm}(h:e.kind=1):Ug e m=m:=if_pos h
theorem SC {e:Ev}{g s:Mm}(h:e.kind=1):F1 c e g s=(g,s):=by unfold F1;rw[QW h,QW h];split<;>(try split)<;>rfl
theorem NO {x:aQ}{e0:Ev}{st st':St}(hc:bh c) (hw:oC c st) (hx:lZ c x) (h:cO c l id x e0 st=some st') :
  (st'.ev=st.ev/\st'.mem 1=st.mem 1/\st'.mem 2=st.mem 2) \/
  ∃e,st'.ev=st.ev++[e]/\e.item=e0.item/\e.aw=e0.aw/\e.block=e0.block/\e.at_=e0.at_/\SX c e (st.mem 1) (st.mem 2)/\F1 c e (st.mem 1) (st.mem 2)=(st'.mem 1,st'.mem 2):=by
 unfold cO at h
 have put:∀(k i:Nat) (r:bO) (e:Ev) (v:Int),c.arrays[k]?=some r->e.arr=(k:Int)->e.i=(i:Int)->e.kind≠4->e.kind≠1->v=U9 e (st.word (bg c k) k i)->(r.space=1\/r.space=2) ->
   F1 c e (st.mem 1) (st.mem 2)=((st.put (bg c k) k i v).mem 1,(st.put (bg c k) k i v).mem 2):=fun k i r e v hr e1 e2 k4 k1 hv hs=>by
  unfold F1 Ug
  rw[if_neg k4,e1,e2,if_neg k1,if_neg k1,Int.toNat_natCast,Int.toNat_natCast,dn hr]
  rw[dn hr]at hv
  rcases hs with hs|hs
  ·rw[hs,if_neg (by decide)]
   rw[hs]at hv
   simp[St.put,qM,St.word,hv,ah]
  ·rw[hs,if_pos (by decide)]
   rw[hs]at hv
   simp[St.put,qM,St.word,hv,ah]
 have tell3:∀(s1:St) (e:Ev) (k:Nat) (r:bO),c.arrays[k]?=some r->e.arr=(k:Int)->e.kind≠4->r.space=3->s1.tell c e=s1:=fun s1 e k r hr e1 k4 hs=>by
  unfold St.tell;rw[if_pos ⟨k4,by rw[e1,Int.toNat_natCast,dn hr,hs];rfl⟩]
 have tell1:∀(s1:St) (e:Ev) (k:Nat) (r:bO),c.arrays[k]?=some r->e.arr=(k:Int)->r.space=1\/r.space=2->(s1.tell c e)={ s1 with ev:=s1.ev++[e] }:=fun s1 e k r hr e1 hs=>by
  unfold St.tell
  rw[if_neg]
  rintro⟨-,h⟩
  rw[e1,Int.toNat_natCast,dn hr]at h
  omega
 by_cases h7:x.op=7
 ·rw[if_pos h7]at h
  split at h
  ·rename_i hin
   obtain⟨k,h1,h2,h3,-⟩:=hx.acc (Or.inl h7)
   obtain⟨r,hr,ho⟩:=hc.at h2
   cases h
   rw[h1,Int.toNat_natCast]at hin ⊢
   rw[lx hr]at hin
   by_cases s3:r.space=3
   ·left
    rw[tell3 _ _ k r hr h1 (by show(1:Int)≠4;omega) s3]
    exact⟨rfl,rfl,rfl⟩
   right
   have hs:r.space=1\/r.space=2:=by rcases ho.1 with h|h|h<;>omega
   rw[tell1 _ _ k r hr h1 hs]
   refine⟨_,rfl,rfl,rfl,rfl,rfl,Or.inr ⟨k,(aV st.regs x.a).toNat,r,h1,(by show aV st.regs x.a=_;omega),hr,by omega,hs,?_,Or.inl ⟨rfl,?_⟩⟩,SC rfl⟩
   ·exact St.ny hw (ja hc h2) hc _
   ·show St.word st (bg c k) k _=_
    rw[dn hr]
    rcases hs with hs|hs
    ·rw[if_neg (by omega),hs];rfl
    ·rw[if_pos hs,hs];rfl
  ·cases h
 rw[if_neg h7]at h
 by_cases h8:x.op=8
 ·rw[if_pos h8]at h
  split at h
  ·rename_i hin
   obtain⟨k,h1,h2,h3,h4⟩:=hx.acc (Or.inr (Or.inl h8))
   obtain⟨r,hr,ho⟩:=hc.at h2
   cases h
   rw[h1,Int.toNat_natCast]at hin ⊢
   rw[lx hr]at hin
   by_cases s3:r.space=3
   ·left
    rw[tell3 _ _ k r hr h1 (by show(2:Int)≠4;omega) s3,dn hr,s3]
    exact⟨rfl,by simp[St.put,ah],by simp[St.put,ah]⟩
   right
   have hs:r.space=1\/r.space=2:=by rcases ho.1 with h|h|h<;>omega
   rw[tell1 _ _ k r hr h1 hs]
   refine⟨_,rfl,rfl,rfl,rfl,rfl,Or.inr ⟨k,(aV st.regs x.a).toNat,r,h1,(by show aV st.regs x.a=_;omega),hr,by omega,hs,?_,Or.inr (Or.inl rfl)⟩,?_⟩
   ·exact ic hw.regs (h4 h7)
   ·exact put k _ r _ _ hr h1 (by show aV st.regs x.a=_;omega) (by show(2:Int)≠4;omega) (by show(2:Int)≠1;omega) rfl hs
  ·cases h
 rw[if_neg h8]at h
 by_cases h9:x.op=9
 ·rw[if_pos h9]at h
  split at h
  ·rename_i hin
   obtain⟨k,h1,h2,h3,h4⟩:=hx.acc (Or.inr (Or.inr h9))
   obtain⟨r,hr,ho⟩:=hc.at h2
   cases h
   rw[h1,Int.toNat_natCast]at hin ⊢
   rw[lx hr]at hin
   by_cases s3:r.space=3
   ·left
    rw[tell3 _ _ k r hr h1 (by show(3:Int)≠4;omega) s3,dn hr,s3]
    exact⟨rfl,by simp[St.put,ah],by simp[St.put,ah]⟩
   right
   have hs:r.space=1\/r.space=2:=by rcases ho.1 with h|h|h<;>omega
   rw[tell1 _ _ k r hr h1 hs]
   refine⟨_,rfl,rfl,rfl,rfl,rfl,Or.inr ⟨k,(aV st.regs x.a).toNat,r,h1,(by show aV st.regs x.a=_;omega),hr,by omega,hs,?_,Or.inr (Or.inr ⟨rfl,hx.GA h9⟩)⟩,?_⟩
   ·exact ic hw.regs (h4 h7)
   ·exact put k _ r _ _ hr h1 (by show aV st.regs x.a=_;omega) (by show(3:Int)≠4;omega) (by show(3:Int)≠1;omega) rfl hs
  ·cases h
 rw[if_neg h9]at h
 by_cases h10:x.op=10
 ·rw[if_pos h10]at h
  cases h
  right
  have e:st.tell c (EX e0 x)={ st with ev:=st.ev++[EX e0 x] }:=by unfold St.tell;rw[if_neg (fun h=>h.1 rfl)]
  rw[e]
  exact⟨_,rfl,rfl,rfl,rfl,rfl,Or.inl rfl,by unfold F1;rw[if_pos (show(EX e0 x).kind=4 from rfl)]⟩
 rw[if_neg h10]at h
 cases h
 exact Or.inl ⟨rfl,rfl,rfl⟩
end
end Go.Am
namespace Go.Am
open Go
end Go.Am
namespace Go.Am
open Go Go.Proofs
set_option maxRecDepth 100000
end Go.Am
