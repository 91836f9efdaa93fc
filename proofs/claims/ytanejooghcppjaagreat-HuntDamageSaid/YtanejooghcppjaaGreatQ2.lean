/- What the functions of this chapter give, on plain data. No condition. -/
import Derived.KernelRfl
import Derived.Test.YtanejooghcppjaaGreatQ1
set_option linter.unnecessarySimpa false
set_option linter.defProp false
set_option linter.unusedSectionVars false
set_option linter.unusedSimpArgs false
set_option linter.unusedVariables false
namespace Go.Am
open Go
def L9 (c:Code) (l:bG) (m:Mm):Option fU×Int:=if pv c l≠0 then(none,pv c l) else if fitsM 1 c.arrays m=true then(huntP c l m,if(huntP c l m).isSome then 0 else 4) else(none,1)
def huD (r:Option fU×Int):D:=.tup [match r.1 with
 | none=>.agg wz
 | some w=>.agg w.cs,.int .i64 r.2]
theorem WB:∀x∈wz,x.vone=true:=λ x hx=>by simp[wz]at hx;rcases hx with rfl|rfl|rfl<;>rfl
theorem JN:∀x∈wz,x.one=true:=λ x hx=>D.cu (WB x hx)
def I2 (n50 n47 n10 n8 n6 n4:Nat) (c:Code) (l:bG) (m:Mm) (e:Int) (cs:List D):LSq :=
 [(n10,.box (.int .i64 e)),(n8,.box (.agg cs)),(n50,.box (.agg (v8 l m).cs)),(n47,.box (.agg (gM c l))),(n6,.box (.agg [.int .i64 l.groups,words l.args])),(n4,.box c.e)]
section
variable {c:Code}{l:bG}{m:Mm}{h:Heap}{L:LSq}{KH:HKq}{K:D->Prop}
theorem JM {g:Nat}(hc:ba c) (hg:g<=1000) (hK:KH (.sl (kK (bQ c g))) h):ag PP bT [.agg (gM c l),.int .i64 (g:Int)] h KH:=by
 refine bk (Yr hc hg) (λ d hd=>by
  simp at hd;rcases hd with rfl|rfl
  ·exact GC.pair
  ·exact dT) ?_
 rintro _ rfl;exact hK
theorem uU {g:Nat}{id:Int}{s:pC}{x:Gr}(hc:ba c) (hs:Wp c l s) (hx:x∈s.gs) (hxg:x.id=(g:Int)) (hid:id∈bQ c g):(s.gs.find? (Ec id)).isSome=true:=by
 grind [bQ,U2]
theorem BU {g:Nat}(hc:ba c):(bQ c g).length<=100:=by
 have hg:=hc.group;grind [bQ]
theorem U6 {n50 n47 n10 n8 n6 n4:Nat}{e:Int}{o:Option fU}{w:List D}{X:LSq}(hh:L9 c l m=(o,e)) (hw:w=match o with|none=>wz|some w=>w.cs) (V:Vs h (I2 n50 n47 n10 n8 n6 n4 c l m e w++X)) :
  ab PP (.ld (.c (.ptr n8 0 0)) 9 true) h λ a25 _=>ab PP (.ld (.c (.ptr n10 0 0)) 1 false) h λ a26 _=>HA (· = huD (L9 c l m)) (.tup [a25,a26]) h:=by
 have u:w.length=9:=by rw[hw];cases o<;>rfl
 have E:∀x∈w,x.vone=true:=by
  rw[hw]
  cases o with
  | none=>exact WB
  | some w' =>
   intro x hx;have:=w'.bR.vd;grind [D.vd]
 unfold I2 at V;simp only[List.cons_append,List.nil_append]at V;rw[V.eR 1 (s:=9) rfl u,Go.Am.ub (V.get 0 _ _ rfl) rfl];refine eE (.refl _) (.cons (Iv.XE E).agg (.cons (bD rfl).d .nil)) ?_;grind [huD]
theorem aa0 (hc:cE c) (hlw:pv c l=0->bY c l) (hmw:pv c l=0->fitsM 1 c.arrays m=true->cq c.arrays 1 m):aV PP zS [c.e,l.e,aZ m] (· = huD (L9 c l m)):=by
 have hg:=hc.group;refine ju (aI LK (aC _ _ _) rfl (Lw _ _ _ _) ?_);dsimp only[Il,xB,xF,xL,xS,yL];refine Vs.nil.box (kL c).2 λ n4 h5 Q=>?_
 refine Q.box (jA l) λ n6 h7 Z=>?_
 refine Z.alloc λ n8 h9 V9=>?_
 refine V9.alloc λ u e0 O=>?_
 have g4:e0 n4=.box c.e:=O.get 3 _ _ rfl;unfold Code.e at g4;have g6:e0 n6=.box (.agg [.int .i64 l.groups,words l.args]):=O.get 2 _ _ rfl;rw[ml (d:=c.e) g4 (by show 0+8<=8;omega) rfl,ml (d:=l.e) g6 (by show 0+2<=2;omega) rfl];refine bk (Ng hc) VI ?_;rintro _ rfl
 have fail:∀{h':Heap}{e:Int},Vs h' [(u,.box (.int .i64 0)),(n8,.box (.agg wz)),(n6,.box l.e),(n4,.box c.e)]->L9 c l m=(none,e) ->
   ab PP (.st (.c (.ptr n8 0 0)) (.c (.agg wz)) 9) h' λ m5 k8=>ab PP (.st (.c (.ptr u 0 0)) (.c (.int .i64 e)) 1) k8 λ m3 c9=>ab PP (.ld (.c (.ptr n8 0 0)) 9 true) c9 λ e5 _=>ab PP (.ld (.c (.ptr u 0 0)) 1 false) c9 λ e1 _ =>
   HA (· = huD (L9 c l m)) (.tup [e5,e1]) c9:=by
  intro h' e E hh;refine E.eU 1 rfl rfl (cs':=wz) rfl JN λ h3 V3=>?_
  simp only[List.set_cons_zero,List.set_cons_succ]at V3;refine V3.zo 0 rfl rfl rfl λ h5 Q=>?_
  simp only[List.set_cons_zero]at Q;rw[Q.eR 1 (s:=9) rfl rfl,Go.Am.ub (Q.get 0 _ _ rfl) rfl];refine eE (.refl _) (.cons (Iv.XE WB).agg (.cons (bD rfl).d .nil)) ?_;rw[hh];rfl
 by_cases h0:pv c l=0
 case neg =>
  simp (disch:=omega) only[↓cS,↓gS];exact fail O (by unfold L9;rw[if_pos h0])
 have hl:=hlw h0;have hn:=hl.n;simp (disch:=omega) only[↓cS,↓gS,↓kn g4,↓cT g4 (j:=5) rfl]
 refine bk (Un (ms:=m) (by have:=hc.nar;omega) 1) (λ d hd=>by
  simp at hd;rcases hd with rfl|rfl|rfl
  ·exact bd3 rfl
  ·exact dT
  ·exact mO _) ?_
 rintro _ rfl;cases k3:fitsM 1 c.arrays m
 ·simp only[↓gS];exact fail O (by grind [L9])
 have hm:=hmw h0 k3;have hh:L9 c l m=(huntP c l m,if(huntP c l m).isSome then 0 else 4):=by grind [L9]
 simp only[↓gS];have e4:∀{K:D->Prop},an PP (.ld (.c (.ptr n4 0 0)) 8 true) e0 K=K c.e:=gI g4 (by show 0+8<=8;omega) rfl
 have e6:∀{h':Heap}{X:LSq}{K:D->Prop},Vs h' (X++[(u,.box (.int .i64 0)),(n8,.box (.agg wz)),(n6,.box l.e),(n4,.box c.e)])->an PP (.ld (.c (.ptr n6 0 0)) 2 true) h' K=K l.e:=λ E =>
  gI (cs:=[.int .i64 l.groups,words l.args]) (E.mem (show(n6,Slot.box l.e)∈_ by simp)) (by show 0+2<=2;omega) rfl
 rw[e4,e6 (X:=[]) O,lS rfl,e6 (X:=[]) O,lS rfl];refine O.alloc λ n47 m1 g0=>?_
 rw[e6 (X:=[_]) g0];refine⟨⟨by simp,trivial⟩,?_⟩;refine g0.alloc λ n50 m0 e9=>?_
 rw[e6 (X:=[_,_]) e9];refine⟨⟨by simp,trivial⟩,?_⟩;refine e9.eU 1 rfl rfl (cs':=gM c l) rfl lh λ l9 a7=>?_
 simp only[List.set_cons_zero,List.set_cons_succ]at a7;rw[e6 (X:=[_,_]) a7];refine⟨⟨by simp,trivial⟩,?_⟩;refine a7.eU 0 rfl rfl (cs':=(v8 l m).cs) rfl (v8 l m).bR.one λ k7 a6=>?_
 simp only[List.set_cons_zero,List.set_cons_succ]at a6;rw[e6 (X:=[_,_]) a6];refine⟨⟨by simp,trivial⟩,?_⟩
 have VH:Vs k7 (I2 n50 n47 u n8 n6 n4 c l m 0 wz++[]):=by
  unfold I2;simp only[List.cons_append,List.nil_append];refine a6.perm ?_;exact(List.perm_append_comm (l₁:=[(n50,Slot.box (.agg (v8 l m).cs)),(n47,.box (.agg (gM c l)))]) (l₂:=[(u,.box (.int .i64 0)),(n8,.box (.agg wz))])).append_right [(n6,.box l.e),(n4,.box c.e)]
 clear a6 a7 e9 g0 O V9 Z Q e4 e6 g4 g6;obtain⟨G,hG⟩:∃G:Nat,l.groups=(G:Int):=⟨l.groups.toNat,by omega⟩;obtain⟨f1,j4⟩:∃f1,f1=λ g:Nat=>(fI c l m g).findSome? λ s=>jQ c l s (v8 l m) (bQ c g) (bQ c g):=⟨_,rfl⟩
 obtain⟨f2,j2⟩:∃f2,f2=λ(g:Nat)=>((List.range G).drop (g+1)).findSome? λ(k:Nat)=>jQ c l (iQ c m g k) (v8 l m) (bQ c g) (bQ c k):=⟨_,rfl⟩
 have T:huntP c l m=match (List.range G).findSome? f1 with
   | some w=>some w
   | none=>(List.range G).findSome? f2:=by
  unfold huntP;rw[hG,aT,j4,j2];grind
 have j6:∀{h':Heap}{X:LSq}{w2:fU},huntP c l m=some w2->Vs h' (I2 n50 n47 u n8 n6 n4 c l m 0 w2.cs++X) ->
   ab PP (.ld (.c (.ptr n8 0 0)) 9 true) h' λ e5 _=>ab PP (.ld (.c (.ptr u 0 0)) 1 false) h' λ e1 _=>HA (· = huD (L9 c l m)) (.tup [e5,e1]) h':=λ hw E =>
  U6 (by rw[hh,hw]) rfl E
 have I:∀{h':Heap}{A X:LSq}{cs:List D},Vs h' (A++(I2 n50 n47 u n8 n6 n4 c l m 0 cs++X)) ->
   ((∀{K:D->Prop},an PP (.ld (.c (.ptr n47 0 0)) 10 true) h' K=K (.agg (gM c l)))/\(∀{K:D->Prop},an PP (.ld (.c (.ptr n50 0 0)) 9 true) h' K=K (.agg (v8 l m).cs))/\(∀{KH:HKq},ab PP (.ld (.c (.ptr n47 0 0)) 10 true) h' KH=KH (.agg (gM c l)) h') /\
   (∀{KH:HKq},(ab PP (.fadd (.c (.ptr n6 0 0)) 0) h' λ a h1=>ab PP (.ld (.c a) 1 false) h1 KH)=KH (.int .i64 (G:Int)) h')):=by
  intro h' A X cs E;have q1:h' n47=.box (.agg (gM c l)):=E.mem (by unfold I2;simp);have q2:h' n50=.box (.agg (v8 l m).cs):=E.mem (by unfold I2;simp);have q3:h' n6=.box (.agg [.int .i64 l.groups,words l.args]):=E.mem (by unfold I2;simp);exact⟨λ {K}=>gI q1 (by show 0+10<=10;omega) rfl,λ {K}=>gI q2 (by show 0+9<=9;omega) rfl,λ {K}=>ml q1 (by show 0+10<=10;omega) rfl,λ {KH}=>by rw[kn q3,cT q3 (j:=0) rfl,hG]⟩
 refine⟨λ _ h'=>(List.range G).findSome? f1=none/\∃X,Vs h' (I2 n50 n47 u n8 n6 n4 c l m 0 wz++X),?_,?_⟩
 ·
  rintro _ l8 ⟨h8,X,e8⟩;rw[h8]at T;simp only at T;refine⟨λ _ h'=>(List.range G).findSome? f2=none/\∃X,Vs h' (I2 n50 n47 u n8 n6 n4 c l m 0 wz++X),?_,?_⟩
  ·rintro _ l4 ⟨g9,X,e7⟩;rw[g9]at T;unfold I2 at e7;simp only[List.cons_append,List.nil_append]at e7;refine e7.eU 1 rfl rfl (cs':=wz) rfl JN λ h3 V3=>?_
   simp only[List.set_cons_zero,List.set_cons_succ]at V3;refine V3.zo 0 rfl rfl rfl λ h5 Q=>?_
   simp only[List.set_cons_zero]at Q;exact U6 (o:=none) (n50:=n50) (n47:=n47) (n6:=n6) (n4:=n4) (X:=X) (by rw[hh,T];rfl) rfl Q
  rw[(I (A:=[]) e8).2.2.2];unfold AU;refine⟨λ b x h'=>∃(g:Nat),x=[.int .i64 (g:Int)]/\b+g=G/\((List.range G).take g).findSome? f2=none/\∃X,Vs h' (I2 n50 n47 u n8 n6 n4 c l m 0 wz++X),G,⟨0,rfl,by omega,rfl,X,e8⟩,?_⟩;clear e8 X;rintro b f h1 ⟨g,hx,k4,c6,X,V⟩;simp only[av,and_true]at hx;simp only[hx];by_cases c8:g<G
  case neg =>
   grind [HZ,ah,ae]
  have a2:(List.range G)[g]?=some g:=List.getElem?_range c8;rw[DY (by omega),ai];refine⟨λ _ h'=>f2 g=none/\∃X,Vs h' (I2 n50 n47 u n8 n6 n4 c l m 0 wz++X),?_,?_⟩
  ·rintro _ h2 ⟨c7,X2,V2⟩;simp (disch:=omega) only[↓cS,ae,true_and];exact⟨G-(g+1),by omega,g+1,by simp,by omega,KO c6 a2 c7,X2,V2⟩
  simp (disch:=omega) only[↓cS];obtain⟨f3,j1⟩:∃f3,f3=λ(k:Nat)=>jQ c l (iQ c m g k) (v8 l m) (bQ c g) (bQ c k):=⟨_,rfl⟩
  have k9:f2 g=((List.range G).drop (g+1)).findSome? f3:=by rw[j2,j1]
  dsimp only[AV,xF,xL,xS,yL];refine⟨λ b x h'=>∃(j:Nat),x=[.int .i64 ((g:Int)+1+(j:Int))]/\b+j=G-(g+1)/\(((List.range G).drop (g+1)).take j).findSome? f3=none/\∃X,Vs h' (I2 n50 n47 u n8 n6 n4 c l m 0 wz++X),G-(g+1),⟨0,by simp,by omega,rfl,X,V⟩,?_⟩;clear V X;rintro b2 f4 h2 ⟨j,g3,l3,g8,X,V⟩;simp only[av,and_true]at g3;simp only[g3,hx];rw[(I (A:=[]) V).2.2.2];by_cases hj:g+1+j<G
  case neg =>
   grind [HZ,ah,List.take_of_length_le,ae]
  have j0:((List.range G).drop (g+1))[j]?=some (g+1+j):=by grind
  have k2:(g:Int)+1+(j:Int)=((g+1+j:Nat):Int):=by omega
  rw[DY (by omega),ai,k2];obtain⟨d1,d2,-,-⟩:=I (A:=[]) V;simp only[d1,d2]
  refine bk (RK (m:=m) hc hl h0 (g:=(g:Int)) (k:=((g+1+j:Nat):Int)) ⟨by omega,by omega⟩ ⟨by omega,by omega⟩) (λ d hd=>by
   simp at hd;rcases hd with rfl|rfl|rfl|rfl
   ·exact GC.pair
   ·exact mO _
   ·exact dT
   ·exact dT) ?_
  rintro _ rfl;simp only[d1,d2,ae,and_self,true_and];refine JM hc.toba (by omega) ?_;simp only[d1,d2,ae,and_self,true_and];refine JM hc.toba (by omega) ?_;simp only[d1,d2,ae,and_self,true_and];have c4:=Ft (m:=m) hc hl hm (g:=(g:Int)) (k:=((g+1+j:Nat):Int)) ⟨by omega,by omega⟩ ⟨by omega,by omega⟩;refine RX hc.toba hl c4 V (Or.inl ⟨rfl,λ k=>rfl⟩) (λ id S=>?_) ⟨BU hc.toba,BU hc.toba⟩ (λ c5 h3 V3=>?_) λ w2 g7 h3 V3=>?_
  ·rw[List.mem_append]at S;rcases S with S|S
   ·exact uU (x:=cw c (g:Int)) hc.toba c4.toWp (by simp[iQ]) rfl S
   ·exact uU (x:=cw c ((g+1+j:Nat):Int)) hc.toba c4.toWp (by simp[iQ]) rfl S
  ·simp only[↓xy,↓h_ext,List.getElem?_cons_zero,List.getElem?_cons_succ];refine V3.alloc λ g2 h4 V4=>?_
   obtain⟨d1,d2,-,-⟩:=I (A:=[_]) V4;simp only[d1,d2,ae,and_self,true_and];refine V4.eU 0 rfl rfl (cs':=wz) rfl JN λ h5 Q=>?_
   simp only[List.set_cons_zero]at Q;simp (disch:=omega) only[↓gS,↓cS,ae,true_and];exact⟨G-(g+1)-(j+1),by omega,j+1,by simp;omega,by omega,KO g8 j0 (by rw[j1];exact c5),X,Q.pop⟩
  ·simp only[↓xy,↓h_ext,List.getElem?_cons_zero,List.getElem?_cons_succ];refine V3.alloc λ g2 h4 V4=>?_
   obtain⟨d1,d2,-,-⟩:=I (A:=[_]) V4;simp only[d1,d2,ae,and_self,true_and];refine V4.eU 0 rfl rfl (cs':=w2.cs) rfl w2.bR.one λ h5 Q=>?_
   simp only[List.set_cons_zero]at Q;simp only[↓gS];rw[Q.eR 0 (s:=9) rfl rfl];unfold I2 at Q;simp only[List.cons_append,List.nil_append]at Q;refine Q.eU 2 rfl rfl (cs':=w2.cs) rfl w2.bR.one λ h6 V6=>?_
   simp only[List.set_cons_zero,List.set_cons_succ]at V6;refine V6.zo 1 rfl rfl rfl λ h7 Z=>?_
   simp only[List.set_cons_zero,List.set_cons_succ]at Z;refine j6 (w2:=w2) (X:=X) ?_ Z.pop;grind [MC]
 rw[(I (A:=[]) VH).2.2.2];dsimp only[AT,xL,xS];refine⟨λ b x h'=>∃(g:Nat),x=[.int .i64 (g:Int)]/\b+g=G/\((List.range G).take g).findSome? f1=none/\∃X,Vs h' (I2 n50 n47 u n8 n6 n4 c l m 0 wz++X),G,⟨0,rfl,by omega,rfl,[],VH⟩,?_⟩;clear VH;rintro b f h1 ⟨g,hx,k4,c6,X,V⟩;simp only[av,and_true]at hx;simp only[hx];by_cases c8:g<G
 case neg =>
  grind [HZ,ah,ae]
 have a2:(List.range G)[g]?=some g:=List.getElem?_range c8;have j3:f1 g=(fI c l m g).findSome? λ s=>jQ c l s (v8 l m) (bQ c g) (bQ c g):=by rw[j4]
 rw[DY (by omega),ai];refine⟨λ _ h'=>f1 g=none/\∃X,Vs h' (I2 n50 n47 u n8 n6 n4 c l m 0 wz++X),?_,?_⟩
 ·rintro _ h2 ⟨c7,X2,V2⟩;simp (disch:=omega) only[↓cS,ae,true_and];exact⟨G-(g+1),by omega,g+1,by simp,by omega,KO c6 a2 c7,X2,V2⟩
 refine V.alloc λ H l2 c2=>?_
 refine c2.zo 0 rfl rfl rfl λ l0 U=>?_
 simp only[List.set_cons_zero]at U;rw[(I (A:=[_]) U).2.2.1,Go.Am.ub (U.get 0 _ _ rfl) rfl];refine Px (c:=c) (l:=l) (m:=m) (g:=(g:Int)) U λ m4 m6 m8 j5 c1=>?_
 refine⟨rfl,VO,λ nk B ht hB g7 _ k1 k6 k5=>?_⟩;have a8:=c1.push ht.free (s:=.lp .ready B) (by simp)
 have j7:Vs (ak j5 nk (.lp .ready B)) ((m6,.box (aZ m))::(m4,.box (.agg (gM c l)))::(m8,.box (.int .i64 (g:Int)))::((nk,.lp .ready B)::(H,.box (.int .i64 (g:Int)))::(I2 n50 n47 u n8 n6 n4 c l m 0 wz++X))) :=
  a8.perm ((List.perm_middle (l₁:=[_,_,_])).symm:List.Perm _ _)
 clear a8 c1 U c2 V;have g5:=BP hc hl hm (g:=g) (by omega)
 have round:∀(N:LSq) (s:pC) (md:D) (h':Heap) (a1:HKq),s∈fI c l m g->EH N md s.made->Vs h' (N++((nk,.lp .ready B)::(H,.box (.int .i64 (g:Int)))::(I2 n50 n47 u n8 n6 n4 c l m 0 wz++X))) ->
   (jQ c l s (v8 l m) (bQ c g) (bQ c g)=none->∀W,Vs W (((nk,.lp .ready B)::(H,.box (.int .i64 (g:Int)))::(I2 n50 n47 u n8 n6 n4 c l m 0 wz++X))++N)->a1 (.bool true) W) ->
   (∀w2,jQ c l s (v8 l m) (bQ c g) (bQ c g)=some w2->∀W,Vs W ((nk,.lp (.done .ret) B)::(I2 n50 n47 u n8 n6 n4 c l m 0 w2.cs++(X++N)))->a1 (.bool false) W) ->
   ab PP (.callv (.c (.yld nk)) [.c (.agg (lE s md))]) h' a1:=by
  intro N s md h' a1 hs a5 E hN hS;obtain⟨q1,y,q2,q3⟩:=g5 s hs;have V1:=E.perm List.perm_append_comm;rw[Mz];refine⟨⟨_,_,V1.get 0 _ _ rfl⟩,?_⟩;refine mU (e:=[(2,aZ m),(4,.ptr n6 0 0),(6,.ptr n8 0 0),(7,.ptr u 0 0),(9,.ptr n47 0 0),(10,.ptr n50 0 0),(11,.ptr H 0 0),(39,.int .i64 (G:Int)),(40,.int .i64 (g:Int))]) (V1.get 0 _ _ rfl) g7 k6 k5 (by simp) k1 rfl hB ?_;rw[show([Arg.c (D.agg (lE s md))].map λ x=>x.get [])=[.agg (lE s md)] from rfl, <- FV];dsimp only[AS,xL,xS,yL];refine V1.alloc λ n1 h2 V2=>?_
  refine V2.eU 0 rfl rfl (cs':=lE s md) rfl (su a5) λ h3 V3=>?_
  simp only[List.set_cons_zero]at V3;refine⟨rfl,V3.get 1 _ _ rfl,?_⟩;have V4:=V3.aM 1 rfl (s':=.lp .busy B) (by simp);simp only[List.cons_append,List.set_cons_zero,List.set_cons_succ,List.append_assoc]at V4;generalize ak h3 nk (Slot.lp .busy B)=h4 at V4
  have rd:∀{h':Heap}{a:Nat×Slot}{cs:List D},Vs h' (a::(n1,.box (.agg (lE s md)))::(nk,.lp .busy B)::(H,.box (.int .i64 (g:Int)))::(I2 n50 n47 u n8 n6 n4 c l m 0 cs++(X++N))) ->
    ((∀{K:D->Prop},an PP (.ld (.c (.ptr n47 0 0)) 10 true) h' K=K (.agg (gM c l)))/\(∀{K:D->Prop},an PP (.ld (.c (.ptr n50 0 0)) 9 true) h' K=K (.agg (v8 l m).cs))/\(∀{K:D->Prop},an PP (.ld (.c (.ptr n1 0 0)) 3 true) h' K=K (.agg (lE s md)))/\(∀{K:D->Prop},an PP (.ld (.c (.ptr H 0 0)) 1 false) h' K=K (.int .i64 (g:Int)))):=λ E =>
   ⟨(I (A:=[_,_,_,_]) E).1,(I (A:=[_,_,_,_]) E).2.1,λ {K}=>gI (E.get 1 _ _ rfl) (by show 0+3<=3;omega) rfl,λ {K}=>sj (E.get 3 _ _ rfl) rfl⟩
  have d1:∀{K:D->Prop},an PP (.ld (.c (.ptr n47 0 0)) 10 true) h4 K=K (.agg (gM c l)):=(I (A:=[_,_,_]) V4).1;have d2:∀{K:D->Prop},an PP (.ld (.c (.ptr n50 0 0)) 9 true) h4 K=K (.agg (v8 l m).cs):=(I (A:=[_,_,_]) V4).2.1;have d3:∀{K:D->Prop},an PP (.ld (.c (.ptr n1 0 0)) 3 true) h4 K=K (.agg (lE s md)):=λ {K}=>gI (V4.get 0 _ _ rfl) (by show 0+3<=3;omega) rfl
  have d4:∀{K:D->Prop},an PP (.ld (.c (.ptr H 0 0)) 1 false) h4 K=K (.int .i64 (g:Int)):=λ {K}=>sj (V4.get 2 _ _ rfl) rfl
  simp only[d1,d2,d3,d4];refine JM hc.toba (by omega) ?_;simp only[d1,d2,d3,d4,ae,and_self,true_and];refine JM hc.toba (by omega) ?_;simp only[d1,d2,d3,d4,ae,and_self,true_and];refine RX hc.toba hl q1 V4 (a5.mono λ x hx=>by simp[hx]) (λ id S=>?_) ⟨BU hc.toba,BU hc.toba⟩ (λ c5 h5 Q=>?_) λ w2 j9 h5 Q=>?_
  ·rw[List.mem_append,or_self]at S;exact uU (x:=y) hc.toba q1.toWp (by rw[q2];simp) q3 S
  ·simp only[↓xy,↓h_ext,List.getElem?_cons_zero,List.getElem?_cons_succ];refine Q.alloc λ j8 h6 V6=>?_
   obtain⟨d1,d2,d3,d4⟩:=rd V6;simp only[d1,d2,d3,d4,ae,and_self,true_and];refine V6.eU 0 rfl rfl (cs':=wz) rfl JN λ h7 Z=>?_
   simp only[List.set_cons_zero]at Z;simp only[↓gS];have V8:=Z.pop.pop;refine⟨V8.get 0 _ _ rfl,hN c5 _ ?_⟩;have V9:=V8.aM 0 rfl (s':=.lp .ready B) (by simp);grind
  ·simp only[↓xy,↓h_ext,List.getElem?_cons_zero,List.getElem?_cons_succ];refine Q.alloc λ j8 h6 V6=>?_
   obtain⟨d1,d2,d3,d4⟩:=rd V6;simp only[d1,d2,d3,d4,ae,and_self,true_and];refine V6.eU 0 rfl rfl (cs':=w2.cs) rfl w2.bR.one λ h7 Z=>?_
   simp only[List.set_cons_zero]at Z;simp only[↓gS];rw[Z.eR 0 (s:=9) rfl rfl];unfold I2 at Z;simp only[List.cons_append,List.nil_append]at Z;refine Z.eU 5 rfl rfl (cs':=w2.cs) rfl w2.bR.one λ h9 V9=>?_
   simp only[List.set_cons_zero,List.set_cons_succ]at V9;refine V9.zo 4 rfl rfl rfl λ m2 g1=>?_
   simp only[List.set_cons_zero,List.set_cons_succ]at g1;refine⟨g1.get 2 _ _ rfl,hS w2 j9 _ ?_⟩;have O:=g1.aM 2 rfl (s':=.lp (.done .ret) B) (by simp);simp only[List.set_cons_zero,List.set_cons_succ]at O;exact O.pop.pop.sub ((List.sublist_cons_self _ _).cons_cons _)
 refine Lj (fq:=λ s=>jQ c l s (v8 l m) (bQ c g) (bQ c g)) (Lq:=λ w2 h'=>∃Y,Vs h' ((nk,.lp (.done .ret) B)::(I2 n50 n47 u n8 n6 n4 c l m 0 w2.cs++Y))) hc hl h0 hm (by omega) j7 ?_ ?_ ?_ ?_
 ·intro N s md h' a1 hs a5 E hw hk;refine round N s md h' a1 hs a5 E (λ _ W V2=>hk W (V2.perm List.perm_append_comm)) λ w2 c3=>?_
  rw[hw]at c3;cases c3
 ·grind
 ·intro k0 h' E;show ct _ _ _ _ _
  unfold ct;rw[E.get 0 _ _ rfl];simp only[ae,true_and];have V2:=E.aM 0 rfl (s':=.dead) (by simp);simp only[List.set_cons_zero]at V2;exact⟨by rw[j3];exact k0,X,V2.pop.pop⟩
 ·rintro w2 c3 h' ⟨Y,E⟩;show ct _ _ _ _ _
  unfold ct;rw[E.get 0 _ _ rfl];refine Or.inl ⟨trivial,?_⟩;have V2:=(E.aM 0 rfl (s':=.dead) (by simp)).pop;grind [MC]
end
end Go.Am
namespace Go.Am
open Go
def YV (r:Option fU×Int):List D:=(match r.1 with
 | none=>wz
 | some w=>w.cs)++[.int .i64 r.2]
def rpC (o:Option (List Ev×List Ev)):List D:=match o with
 | none=>[.nil,.nil]
 | some (a,b)=>[.sl (a.map Ev.e),.sl (b.map Ev.e)]
theorem YZ (o:Option (List Ev×List Ev)):∀x,x∈rpC o->x.vone=true:=by
 cases o with
 | none=>intro x hx;simp[rpC]at hx;rcases hx with rfl|rfl<;>rfl
 | some q=>intro x hx;simp[rpC]at hx;rcases hx with rfl|rfl<;>rfl
theorem abY (o:Option (List Ev×List Ev)):rpD o=.agg (rpC o)/\(rpC o).length=2:=by cases o<;>exact⟨rfl,rfl⟩
theorem HQ (r:Option fU×Int):∀x,x∈YV r->x.vone=true:=by
 intro x hx;unfold YV at hx;rw[List.mem_append]at hx;rcases hx with hx|hx
 ·cases h:r.1 with
  | none=>rw[h]at hx;exact WB x hx
  | some w =>
   rw[h]at hx;have:=w.bR.vd;grind [D.vd]
 ·simp at hx;subst hx;rfl
section
variable {c:Code}{l:bG}{m:Mm}{w:fU}{h:Heap}{L:LSq}{KH:HKq}{K:D->Prop}
theorem acF {bs:List Nat}(hb:∀b∈bs,b<=255) (hbl:bs.length<=9223372036854775807):aV PP zP [Cv bs] (λ r=>∃c,HM c/\r=.tup [c.e,.bool (decide (c.group<=4))]):=by
 refine bt LD (aC _ _ _) rfl (Lp _ _) ?_;dsimp only[Ig,xB,xL,xS,yF,yL];refine Vs.nil.box (d:=.agg [EG bs]) (λ x hx=>by simp at hx;subst hx;rfl) λ V h3 U=>?_
 refine U.alloc λ n4 W I=>?_
 rw[I.eR 1 (s:=1) rfl rfl,show D.agg [EG bs]=Cv bs from rfl];refine bk (aaZ hb hbl) (λ d hd=>by simp at hd;subst hd;exact⟨rfl,λ x hx=>by simp[Cv]at hx;subst hx;rfl⟩) ?_;rintro _ ⟨c,hc,rfl⟩;refine I.alloc λ O T H=>?_
 refine H.eU 0 (cs':=c.e.cells) rfl rfl rfl (λ x hx=>(kL c).2 x hx) λ S E=>?_
 simp only[List.set_cons_zero]at E;have u:=E.get 0 _ _ rfl;rw[E.yY 0 (s:=8) rfl rfl];simp only[↓et u,↓aX u (j:=0) rfl];rw[Oe];refine E.eU 1 (s:=8) (cs':=c.e.cells) rfl rfl rfl (λ x hx=>(kL c).2 x hx) λ Q G=>?_
 simp only[List.set_cons_zero,List.set_cons_succ]at G;have u:=G.get 0 _ _ rfl;simp only[↓aX u (j:=0) rfl];refine⟨⟨by simp,trivial⟩,?_⟩;rw[G.eR 1 (s:=8) rfl rfl];refine EJ (λ d hd=>?_) ⟨c,hc,rfl⟩;simp at hd;rcases hd with rfl|rfl
 ·exact kL c
 ·exact⟨rfl,by simp⟩
theorem K1 (hc:cE c) (hlw:pv c l=0->bY c l) (hmw:pv c l=0->fitsM 1 c.arrays m=true->cq c.arrays 1 m):aV PP cO [c.e,l.e,aZ m] (· = .agg (YV (L9 c l m))):=by
 refine bt Gm (aC _ _ _) rfl (FL _ _ _ _) ?_;dsimp only[AD,xB,xL,xS];refine Vs.nil.box (kL c).2 λ n4 h5 Z=>?_
 refine Z.box (jA l) λ n6 h7 W=>?_
 refine W.alloc λ n8 H Q=>?_
 have V:∀{KH:HKq},ab PP (.ld (.c (.ptr n4 0 0)) 8 true) H KH=KH c.e H:=Q.eR 2 (s:=8) rfl rfl;have U:∀{KH:HKq},ab PP (.ld (.c (.ptr n6 0 0)) 2 true) H KH=KH l.e H:=Q.eR 1 (s:=2) rfl rfl;rw[V,U]
 refine bk (aa0 hc hlw hmw) (λ d hd=>by
  simp at hd;rcases hd with rfl|rfl|rfl
  ·exact kL c
  ·exact⟨rfl,jA l⟩
  ·exact mO _) ?_
 rintro _ rfl;generalize L9 c l m=r;obtain⟨o,e⟩:=r;unfold huD;simp only[↓h_ext,List.getElem?_cons_zero,List.getElem?_cons_succ];refine Q.alloc λ S T G=>?_
 cases o with
 | none =>
  simp only;refine G.eU 0 rfl rfl rfl JN λ O u=>?_
  simp only[List.set_cons_zero]at u;rw[u.eR 0 (s:=9) rfl rfl,fF rfl];refine u.eU 1 (cs':=YV (none,e)) rfl rfl rfl (λ x hx=>D.cu (HQ _ x hx)) λ I E=>?_
  simp only[List.set_cons_zero,List.set_cons_succ]at E;rw[E.eR 1 (s:=10) rfl rfl];exact so (cF (HQ _)).pair rfl
 | some w =>
  simp only;refine G.eU 0 rfl rfl rfl (fU.bR _).one λ O u=>?_
  simp only[List.set_cons_zero]at u;rw[u.eR 0 (s:=9) rfl rfl,fF rfl];refine u.eU 1 (cs':=YV (some w,e)) rfl rfl rfl (λ x hx=>D.cu (HQ _ x hx)) λ I E=>?_
  simp only[List.set_cons_zero,List.set_cons_succ]at E;rw[E.eR 1 (s:=10) rfl rfl];exact so (cF (HQ _)).pair rfl
theorem Pb (hc:cE c) (hl:bY c w.l) (h0:pv c w.l=0) (hm:cq c.arrays 1 w.g):aV PP ig [c.e,.agg w.cs] (· = .agg (rpC (nw c w)++[.int .i64 (oj c w)])):=by
 refine bt Gn (aC _ _ _) rfl (FM _ _ _) ?_;dsimp only[AE,xB,xL,xS];refine Vs.nil.box (kL c).2 λ Q h4 Z=>?_
 refine Z.box w.bR.one λ n5 h6 W=>?_
 refine W.alloc λ n7 O H=>?_
 have e3:∀{KH:HKq},ab PP (.ld (.c (.ptr Q 0 0)) 8 true) O KH=KH c.e O:=H.eR 2 (s:=8) rfl rfl;rw[e3,H.eR 1 (s:=9) rfl rfl]
 refine bk (VV hc hl h0 hm) (λ d hd=>by
  simp at hd;rcases hd with rfl|rfl
  ·exact kL c
  ·exact w.bR.pair) ?_
 rintro _ rfl;generalize oj c w=e;generalize nw c w=o;rw[(abY o).1];simp only[↓h_ext,List.getElem?_cons_zero,List.getElem?_cons_succ];refine H.alloc λ S V I=>?_
 have u:∀x,x∈rpC o++[.int .i64 e]->x.vone=true:=λ x hx=>by
  rw[List.mem_append]at hx;rcases hx with hx|hx
  ·exact YZ o x hx
  ·simp at hx;subst hx;rfl
 cases o
 all_goals
  refine I.eU 0 rfl rfl rfl (λ x hx=>D.cu (YZ _ x hx)) λ U E=>?_
  simp only[List.set_cons_zero]at E;rw[E.eR 0 (s:=2) rfl rfl,fF rfl];refine E.eU 1 rfl rfl rfl (λ x hx=>D.cu (u x hx)) λ T G=>?_
  simp only[List.set_cons_zero,List.set_cons_succ]at G;rw[G.eR 1 (s:=3) rfl rfl];exact so (cF u).pair rfl
theorem MH {P:Program}{xs:List Ev}{k:Nat}{x:Ev}(hx:xs[k]?=some x){h:Heap}{KH:HKq}:ab P (.iadd (.c (.sl (xs.map Ev.e))) (.c (.int .i64 (k:Int))) 9) h KH=KH (.vp x.e 0) h :=
 yA (by omega) (by grind) rfl
theorem S9 {e:Ev}:aV PP qO [e.e] (· = .bool (bU e)):=by
 refine bt Gf (aC _ _ _) rfl (FE _ _) ?_;dsimp only[Av,xB,xF,xL,xP];refine Vs.nil.box e.bR.one λ n h V=>?_
 have a0:h n=.box (.agg e.cs):=V.get 0 _ _ rfl;rw[V.fa 0 rfl,cT a0 (j:=0) rfl];by_cases h1:1<=e.kind
 ·simp (disch:=omega) only[↓cS,↓gS,↓kn a0,↓cT a0 (j:=0) rfl];by_cases h3:e.kind<=3
  ·simp (disch:=omega) only[↓cS,↓gS];grind [bO,bU]
  ·simp (disch:=omega) only[↓cS,↓gS];grind [bO,bU]
 ·simp (disch:=omega) only[↓cS,↓gS];grind [bO,bU]
def qH (ar i:Int) (e:Ev):Bool:=bU e&&decide (e.arr=ar)&&decide (e.i=i)
theorem RI {T:List Ev}{ar ix:Int}(hl:T.length<=1000000):aV PP nS [.sl (T.map Ev.e),.int .i64 ar,.int .i64 ix] (· = .sl ((T.filter (qH ar ix)).map Ev.e)):=by
 refine ju (aI HE (aC _ _ _) rfl (Hr _ _ _ _) ?_);unfold Db;refine KL λ n t=>?_
 have V0:=Vs.nil.push t.free (s:=.arr 9 []) (by simp);refine⟨λ q h'=>∃v,q=[v]/\QG 9 h' [] v ((T.filter (qH ar ix)).map Ev.e),?_,?_⟩
 ·rintro f U ⟨v,hq,q⟩;simp only[av,and_true]at hq;rw[hq]
  have V:LN U v (.sl ((T.filter (qH ar ix)).map Ev.e)):=by
   rcases q with⟨rfl,h0,-⟩|⟨m,rfl,V'⟩
   ·rw[h0];exact jB
   ·exact fT (V'.get 0 _ _ rfl) (Vt _)
  have ht:∀ds,v≠.tup ds:=by
   rcases q with⟨rfl,-⟩|⟨m,rfl,-⟩<;>simp
  exact uF ht (by simp) (.refl _) V.d rfl
 dsimp only[vk,xF,xI,xL,xP];refine⟨λ b q h'=>∃(i:Nat) (v:D),q=[v,.int .i64 (i:Int)]/\b+i=T.length/\QG 9 h' [] v (((T.take i).filter (qH ar ix)).map Ev.e),T.length,⟨0,_,rfl,by omega,Or.inr ⟨n,rfl,V0⟩⟩,?_⟩;rintro b f h1 ⟨i,v,hq,S,q⟩;simp only[av,and_true]at hq;obtain⟨E,hq2⟩:=hq;simp only[E,hq2];rw[gd,aE];by_cases hi:i<T.length
 case neg =>
  rw[HZ (by omega),ah];grind [List.take_of_length_le,ae]
 obtain⟨e,he⟩:∃e,T[i]?=some e:=⟨_,aG hi⟩;rw[DY (by omega),ai];refine⟨λ q h'=>∃v,q=[v]/\QG 9 h' [] v (((T.take (i+1)).filter (qH ar ix)).map Ev.e),?_,?_⟩
 ·rintro f2 h2 ⟨v2,hq,H⟩;simp only[av,and_true]at hq;rw[hq];simp (disch:=omega) only[↓cS,ae,true_and];exact⟨T.length-(i+1),by omega,i+1,v2,by simp,by omega,H⟩
 have G:((T.take (i+1)).filter (qH ar ix)).map Ev.e=((T.take i).filter (qH ar ix)).map Ev.e++if qH ar ix e then [e.e] else []:=by
  grind [List.take_add_one]
 have Q:((T.take i).filter (qH ar ix)).length<=T.length:=Nat.le_trans (List.length_filter_le _ _) (by rw[List.length_take];omega);have Z:∀{h:Heap}{KH:HKq},ab PP (.ld (.c (.vp e.e 6)) 1 false) h KH=KH (.int .i64 e.arr) h:=λ {h KH}=>L8 rfl
 have W:∀{h:Heap}{KH:HKq},ab PP (.ld (.c (.vp e.e 7)) 1 false) h KH=KH (.int .i64 e.i) h:=λ {h KH}=>L8 rfl
 have O:∀{h:Heap}{KH:HKq},ab PP (.ld (.c (.vp e.e 0)) 9 true) h KH=KH e.e h:=λ {h KH}=>SI (cs:=e.cs) rfl
 have I:∀{h:Heap}{j:Nat}{KH:HKq},ab PP (.fadd (.c (.vp e.e 0)) j) h KH=KH (.vp e.e j) h:=λ {h j KH}=>fav
 have u:∀{h:Heap}{KH:HKq},ab PP (.iadd (.c (.sl (T.map Ev.e))) (.c (.int .i64 (i:Int))) 9) h KH=KH (.vp e.e 0) h:=λ {h KH}=>MH he
 rw[u,O];refine bk S9 acy ?_;rintro _ rfl
 have no:qH ar ix e=false->∃v',[v]=[v']/\QG 9 h1 [] v' (((T.take (i+1)).filter (qH ar ix)).map Ev.e):=λ h=>by
  grind
 cases ha:bU e
 ·simp only[↓gS,ae,true_and];exact no (by simp[qH,ha])
 simp only[↓gS,u,I,Z];by_cases h1:e.arr=ar
 case neg =>
  simp (disch:=omega) only[↓cS,↓gS,ae,true_and];grind [qH]
 simp (disch:=omega) only[↓cS,↓gS,u,I,W];by_cases h2:e.i=ix
 case neg =>
  simp (disch:=omega) only[↓cS,↓gS,ae,true_and];grind [qH]
 simp (disch:=omega) only[↓cS,↓gS,u,O];have ht:qH ar ix e=true:=by simp[qH,ha,h1,h2]
 rw[ht]at G;refine q.push e.bR rfl (by rw[aE];omega) (by rw[aE];omega) λ v2 h2 H=>?_
 grind [ae]
end
end Go.Am
namespace Go.Am
open Go
section
variable {c:Code}{l:bG}{m:Mm}{s:pC}{w:fU}
structure YH (w:fU) (a:Bool) (x y:List Ev) (p q:Ev):Prop where
 hx:∀v∈x,v.item=w.it a
 hy:∀v∈y,v.item=w.it !a
 hp:p∈x
 hq:q∈y
 pa:bU p=true
 qa:bU q=true
 pt:mD w p=true
 qt:mD w q=true
 cf:KV p q=true
 n:(x++y).length<=8000
theorem Wj {r:Et}{nth:Int}(h:(J0 c l s r nth).2=true):Tl s (J0 c l s r nth).1 nth∈(J0 c l s r nth).1.ev/\bU (Tl s (J0 c l s r nth).1 nth)=true:=by
 have h2:=Qj _ _ _ h;have E:(J0 c l s r nth).1.it.id=r.it.id:=Qk _ _ _;unfold Tl;rw[E];obtain⟨e,he⟩:=Option.isSome_iff_exists.1 h2;have u:kU (J0 c l s r nth).1.ev (s.made r.it.id) nth=some e:=he;rw[u,Option.getD_some];unfold kU at u;split at u
 ·cases u
 ·have:=aK u;grind
theorem YR {r:Et}{nth:Int}{id:Int}(hc:ba c) (hl:bY c l) (wr:QP c l r) (hi:r.it.id=id) (he:r.ev=[]):(∀v,v∈(J0 c l s r nth).1.ev->v.item=id)/\(J0 c l s r nth).1.ev.length<=4000/\QP c l (J0 c l s r nth).1:=by
 refine⟨λ v u=>(Ql hc hl _ _ _ wr hi (λ v u=>by rw[he]at u;cases u) v u).item,?_,(KG hc hl _ _ _ wr).1⟩;have:=(KG (en:=λ ev=>(kU ev (s.made r.it.id) nth).isSome) hc hl 200 0 r wr).2;rw[he]at this;simp at this;exact this
theorem SC {a:Bool}{T:List Ev}(hc:ba c) (hl:bY c l) (hs:zf c l s) (hf:∀b,(s.gs.find? (Ec (w.it b))).isSome=true) (h:qM c l s w a=some T) :
  ∃x y p q,T=x++y/\YH w a x y p q:=by
 unfold qM at h;split at h
 ·rename_i hh;obtain⟨h1,h2,h3,h4,h5⟩:=hh;cases h;obtain⟨E,H,O⟩:=uE hs hc (hf a);obtain⟨u,G,I⟩:=uE hs hc (hf !a);obtain⟨k1,k2,Q⟩:=YR (s:=s) (nth:=w.nth a) hc hl E H O
  have S:QP c l (OA c l s w a):=by
   refine⟨u.it,Q.g,?_⟩;show cq c.arrays 2 (if s.gs.length=1 then(Cw c l s w a).1.sh else(gf s (w.it !a)).sh)
   split
   ·exact Q.sh
   ·exact u.sh
  obtain⟨j1,j2,j3⟩:=YR (s:=s) (nth:=w.nth !a) hc hl S G I;obtain⟨Z,W⟩:=Wj h1;obtain⟨V,U⟩:=Wj h2;refine⟨_,_,_,_,rfl,k1,j1,Z,V,W,U,h3,h4,h5,?_⟩;grind [Cw,GY]
 ·cases h
def Jf (w:fU) (a:Bool) (T:List Ev):Prop:=∃x y p q,T=x++y/\YH w a x y p q
theorem Mg {A B:List Ev}(hc:ba c) (hl:bY c l) (hs:zf c l s) (hf:∀b,(s.gs.find? (Ec (w.it b))).isSome=true) (h:worksP c l s w=some (A,B)):Jf w false A/\Jf w true B:=by
 grind [worksP,SC,Jf]
theorem Vu {id:Int}(hc:ba c) (h:0<=id) (h2:id<l.groups*c.group):0<=id.tdiv c.group/\id.tdiv c.group<l.groups:=by
 have hg:=hc.group;rw[Int.tdiv_eq_ediv_of_nonneg h];exact⟨Int.ediv_nonneg h (by omega),Int.ediv_lt_of_lt_mul (by omega) h2⟩
theorem Ub {A B:List Ev}(hc:cE c) (hl:bY c w.l) (hm:cq c.arrays 1 w.g) (hp:IS c w) (h:mE c w=some (A,B)):Jf w false A/\Jf w true B:=by
 obtain⟨⟨G,E,a3,a4,Q⟩,-,-,-⟩:=hp;obtain⟨d1,d2⟩:=Vu hc.toba G a3;obtain⟨O,e2⟩:=Vu hc.toba E a4;unfold mE at h;split at h
 ·rename_i hd;obtain⟨s,hs,hw⟩:=List.exists_of_findSome?_eq_some h;obtain⟨u,y,I,H⟩:=BP hc hl hm (g:=(w.i0.tdiv c.group).toNat) (by omega) s hs;refine Mg hc.toba hl u (λ b=>?_) hw;have hy:y∈s.gs:=by rw[I];simp
  cases b
  ·exact ot hc.toba u.toWp hy G (by rw[H];show _=w.i0.tdiv c.group;omega)
  ·exact ot hc.toba u.toWp hy E (by rw[H];show _=w.i1.tdiv c.group;omega)
 ·have u:=Ft hc hl hm ⟨d1,d2⟩ ⟨O,e2⟩;refine Mg hc.toba hl u (λ b=>?_) h;cases b
  ·exact ot hc.toba u.toWp (x:=cw c (w.i0.tdiv c.group)) (by simp[iQ]) G rfl
  ·exact ot hc.toba u.toWp (x:=cw c (w.i1.tdiv c.group)) (by simp[iQ]) E rfl
theorem Sv {A B:List Ev}(hc:cE c) (hl:bY c w.l) (hm:cq c.arrays 1 w.g) (h:nw c w=some (A,B)):Jf w false A/\Jf w true B:=by
 grind [nw,Ub]
theorem Uc:(oj c w=0/\∃A B,nw c w=some (A,B))\/((oj c w=4\/oj c w=1)/\nw c w=none):=by
 unfold oj nw;split
 ·cases h:mE c w with
  | none=>grind
  | some q=>grind
 grind
structure Wu (c:Code) (l:bG) (m:Mm) (w:fU):Prop where
 l:w.l=l
 g:w.g=m
 p:IS c w
 r:(mE c w).isSome=true
theorem OG {g:Nat}{id:Int}(hc:ba c) (h:id∈bQ c g):0<=id/\id.tdiv c.group=(g:Int)/\id<((g:Int)+1)*c.group:=by
 have hg:=hc.group;unfold bQ at h;obtain⟨i,hi,rfl⟩:=List.mem_map.1 h;rw[List.mem_range]at hi;have h0:0<=(g:Int)*c.group:=Int.mul_nonneg (by omega) (by omega);refine⟨by omega,?_,by rw[Int.add_mul];omega⟩;rw[Int.tdiv_eq_ediv_of_nonneg (by omega),Int.add_comm,Int.add_mul_ediv_right _ _ (by omega),Int.ediv_eq_zero_of_lt (by omega) (by omega)];omega
theorem abe {id:Int}(hc:ba c) (hl:bY c l) (hs:zf c l s) (hf:(s.gs.find? (Ec id)).isSome=true){v:Ev}(hv:v∈iz c l s id) :
  (0<=v.arr/\v.arr<(c.arrays.length:Int))/\(0<=v.i/\v.i<kg c v.arr.toNat)/\(LZ c v.arr=1\/LZ c v.arr=2):=by
 obtain⟨q,qa⟩:=(NM hc hl hs hf).1 v hv;obtain⟨k,I,H⟩:=q.arr qa;obtain⟨G,E,u⟩:=q.x qa;refine⟨by omega,⟨G,E⟩,?_⟩;obtain⟨r,hr,ho⟩:=hc.at H;have:v.arr.toNat=k:=by omega
 rw[this,qW hr]at u;unfold LZ;rw[this,hr];simp only[Option.map_some,Option.getD_some];rcases ho.1 with h|h|h
 ·exact Or.inl h
 ·exact Or.inr h
 grind
theorem SA {w':fU}{one two:List Int}(h:jQ c l s w one two=some w') :
  ∃a b p q,∃(n k:Nat),a∈one/\b∈two/\a<b/\p∈iz c l s a/\q∈iz c l s b/\(s.gs.length=2->LZ c p.arr=1) /\
   w'={ w with i0:=a,i1:=b,n0:=s.made a+(n:Int),n1:=s.made b+(k:Int),ar:=p.arr,ix:=p.i }/\(worksP c l s w').isSome=true:=by
 unfold jQ at h;obtain⟨a,ha,h⟩:=List.exists_of_findSome?_eq_some h;obtain⟨b,hb,h⟩:=List.exists_of_findSome?_eq_some h;split at h
 ·cases h
 rename_i u;obtain⟨p,hp,h⟩:=List.exists_of_findSome?_eq_some h;obtain⟨q,hq,h⟩:=List.exists_of_findSome?_eq_some h;grind [yp,List.getElem_mem]
theorem Qe {w:fU}(hc:cE c) (hl:bY c l) (hm:cq c.arrays 1 m) (h:huntP c l m=some w):Wu c l m w:=by
 have hg:=hc.group;have hn:=hl.n
 have u:∀{x:Int}{g:Nat},(g:Int)<l.groups->x<((g:Int)+1)*c.group->x<l.groups*c.group:=λ {x g} h1 h2 =>
  Int.lt_of_lt_of_le h2 (Int.mul_le_mul_of_nonneg_right (by omega) (by omega))
 have fin:∀{s:pC}{g k:Nat}{w:fU},(g:Int)<l.groups->(k:Int)<l.groups->zf c l s->(∀id,id∈bQ c g\/id∈bQ c k->(s.gs.find? (Ec id)).isSome=true) ->
   (s.gs.length=2\/g=k)->jQ c l s (v8 l m) (bQ c g) (bQ c k)=some w ->
   w.l=l/\w.g=m/\IS c w/\w.i0.tdiv c.group=(g:Int)/\w.i1.tdiv c.group=(k:Int)/\(worksP c l s w).isSome=true:=by
  intro s g k w W S hs hf a5 h;obtain⟨a,b,p,q,n,j,h1,h2,h3,h4,h5,h6,rfl,h8⟩:=SA h;obtain⟨a1,a2,a3⟩:=OG hc.toba h1;obtain⟨b1,b2,b3⟩:=OG hc.toba h2;obtain⟨Z,x2,x3⟩:=abe hc.toba hl hs (hf a (Or.inl h1)) h4;refine⟨rfl,rfl,⟨⟨a1,b1,u W a3,u S b3,by show a≠b;omega⟩,⟨?_,?_,Z.1,Z.2⟩,x2,?_⟩,a2,b2,h8⟩
  ·have:=(hs.made a).1;grind
  ·have:=(hs.made b).1;grind
  grind
 unfold huntP at h
 cases e:(List.range l.groups.toNat).findSome? λ g=>(fI c l m g).findSome? λ s=>jQ c l s (v8 l m) (bQ c g) (bQ c g) with
 | some w' =>
  rw[e]at h;cases h;obtain⟨g,E,e⟩:=List.exists_of_findSome?_eq_some e;obtain⟨s,hs,e⟩:=List.exists_of_findSome?_eq_some e;rw[List.mem_range]at E;obtain⟨G,y,q2,q3⟩:=BP hc hl hm (g:=g) (by omega) s hs;have hy:y∈s.gs:=by rw[q2];simp
  obtain⟨Q,O,I,r4,r5,r6⟩:=fin (by omega) (by omega) G (λ id H=>uU hc.toba G.toWp hy q3 (by grind)) (Or.inr rfl) e;refine⟨Q,O,I,?_⟩;grind [mE,List.findSome?_isSome_iff]
 | none =>
  rw[e]at h;simp only at h;obtain⟨g,E,e⟩:=List.exists_of_findSome?_eq_some h;obtain⟨k,T,e⟩:=List.exists_of_findSome?_eq_some e;rw[List.mem_range]at E;obtain⟨i,V,U⟩:=List.mem_iff_getElem.1 T;rw[List.length_drop,List.length_range]at V;rw[List.getElem_drop,List.getElem_range]at U;have G:=Ft hc hl hm (g:=(g:Int)) (k:=(k:Int)) (by omega) (by omega)
  obtain⟨Q,O,I,r4,r5,r6⟩:=fin (by omega) (by omega) G (λ id H=>by
   rcases H with h|h
   ·exact uU hc.toba G.toWp (x:=cw c (g:Int)) (by simp[iQ]) rfl h
   ·exact uU hc.toba G.toWp (x:=cw c (k:Int)) (by simp[iQ]) rfl h) (Or.inl rfl) e
  refine⟨Q,O,I,?_⟩;unfold mE;grind
end
end Go.Am
namespace Go.Am
open Go
def fU.aM (w:fU):fU:={ w with i0:=w.i1,i1:=w.i0,n0:=w.n1,n1:=w.n0 }
section
variable {c:Code}{l:bG}{m:Mm}{s s':pC}{w:fU}{a:Bool}
structure ad6 (s s':pC):Prop where
 made:s'.made=s.made
 n:s'.gs.length=s.gs.length
 r:∀id,gf s' id=gf s id
theorem U7 (hc:cE c) (hl:bY c l) (h0:pv c l=0) (hm:cq c.arrays 1 m):L9 c l m=(none,4)\/∃w,L9 c l m=(some w,0)/\Wu c l m w:=by
 unfold L9;rw[if_neg (by rw[h0];simp),if_pos (Rv (λ a ha=>(hc.ar a ha).2.1) hm)]
 cases h:huntP c l m with
 | none=>exact Or.inl rfl
 | some w=>exact Or.inr ⟨w,rfl,Qe hc hl hm h⟩
theorem YH.ne {x y:List Ev}{p q:Ev}(o:YH w a x y p q):1<=x.length/\1<=y.length:=by
 have h1:=List.length_pos_of_mem o.hp;have h2:=List.length_pos_of_mem o.hq;omega
theorem Ju {x:List Ev}{p:Ev}(hp:p∈x) (ha:bU p=true) (ht:mD w p=true):p∈x.filter (qH w.ar w.ix):=by
 rw[List.mem_filter];refine⟨hp,?_⟩;simp only[mD,Bool.and_eq_true]at ht;simp only[qH,Bool.and_eq_true,ha];exact⟨⟨trivial,ht.1⟩,ht.2⟩
end
end Go.Am
namespace Go.Am
open Go
theorem VF {c:Code}(h:HM c):cE c:={ toba:=VE h,sub4:=h.sub,dvd:=h.dvd }
theorem aaV {c:Code}{l:bG}(hc:ba c) (hl:bY c l):pv c l=0:=by
 have hg:=hc.group;have hn:=hl.n
 have hq:l.groups<=(4096:Int).tdiv c.group:=by
  rw[Int.tdiv_eq_ediv_of_nonneg (by omega)];exact(Int.le_ediv_iff_mul_le (by omega)).2 (Int.le_trans (Int.mul_le_mul hn.2 hg.2 (by omega) (by omega)) (by omega))
 unfold pv;rw[if_pos ⟨hn.1,hq,hl.a⟩]
def XX (zs:List Int) (i:Nat):Int:=qF (zs.getD (i % 8) 0)
def UY (c:Code) (g:Int) (zs:List Int):bG:=⟨1+g.tmod 3,(List.range c.params.toNat).map (XX zs)⟩
theorem aas {c:Code}{g:Int}{zs:List Int}(hc:ba c) (hg:0<=g/\g<=255):bY c (UY c g zs):=by
 have hp:=hc.params;obtain⟨t1,t2⟩:=Oi hg.1 (show(0:Int)<3 by omega);refine⟨⟨by show 1<=1+g.tmod 3;omega,by show 1+g.tmod 3<=64;omega⟩,by simp[UY];omega,λ v u=>?_⟩;simp only[UY,List.mem_map]at u;obtain⟨i,-,rfl⟩:=u;exact dW _
theorem Sy {c:Code}{g:Int}{zs:List Int}(hc:ba c) (hg:0<=g/\g<=255) (hz:zs.length=12):aV PP qQ [c.e,Mv g zs] (· = (UY c g zs).e):=by
 refine ju (aI Gj (aC _ _ _) rfl (FI _ _ _) ?_);dsimp only[Ay,xB,xC,xF,xL,xS,yF,yL];refine lC.start.box (kL c).2 λ n1 h1 Z B=>?_
 refine B.box (Np g zs) λ H h2 W B=>?_
 refine B.alloc λ G h3 V B=>?_
 have a6:=hc.group;have a5:=hc.params;simp only[↓jc (B.used 1 rfl),Nat.zero_add,B.zp 1 (j:=0) rfl rfl rfl];obtain⟨t1,t2⟩:=Oi hg.1 (show(0:Int)<3 by omega);rw[cy];refine⟨by simp,?_⟩;rw[eZ,ca,wrap64 (n:=g.tmod 3) (by omega) (by omega),wrap64 (by omega) (by omega),fF rfl];obtain⟨b,hb⟩:∃b,b=1+g.tmod 3:=⟨_,rfl⟩;rw[<- hb];refine B.alloc λ n4 h4 E B=>?_
 refine B.eU 0 (cs':=[.int .i64 b,.nil]) rfl rfl rfl (by simp) λ Q B=>?_
 refine⟨λ _ h'=>∃(u:Ro),lC bP UG h' u [(n4,.agg [.int .i64 b,.nil]),(G,.agg [.int .i64 0,.nil]),(H,Mv g zs),(n1,c.e)],?_,?_⟩
 ·rintro _ h' ⟨u,B⟩;refine⟨λ _ h'=>∃(u:Ro) (v:D) (w:List Int),lC bP UG h' u [(n4,.agg [.int .i64 b,v]),(G,.agg [.int .i64 0,.nil]),(H,Mv g zs),(n1,c.e)]/\Own 1 h' v (wr w)/\w=(List.range c.params.toNat).map (XX zs),?_,?_⟩
  ·rintro _ h' ⟨u,v,w,B,O,rfl⟩;have ov:=E5 O;rw[B.eR (s:=2) 0 rfl rfl rfl,Go.Am.eU (s:=2) (cs':=[.int .i64 b,v]) (B.get 1 rfl) rfl rfl (by simp[ov])];have O:=Ux O (B.get 1 rfl) (.box (.agg [.int .i64 b,v]));have B:=B.aM 1 rfl (.agg [.int .i64 b,v]);rw[B.eR (s:=2) 1 rfl rfl rfl];exact uF (by simp) (by simp) (.refl _) (Iv.agg (.cons (bD rfl) (.cons (ab5 O) .nil))) (by rw[hb];rfl)
  dsimp only[sK,xF,xL,xS,yC,yF,yJ,yL]
  refine⟨λ k qs h'=>∃(i:Nat) (u:Ro) (v:D) (w:List Int),qs=[.int .i64 (i:Int)]/\k+i=c.params.toNat/\w=(List.range i).map (XX zs)/\lC bP UG h' u [(n4,.agg [.int .i64 b,v]),(G,.agg [.int .i64 0,.nil]),(H,Mv g zs),(n1,c.e)]/\Own 1 h' v (wr w),
   c.params.toNat,⟨0,u,.nil,[],rfl,by omega,rfl,B,Or.inl ⟨rfl,rfl⟩⟩,?_⟩
  rintro k f h' ⟨i,u,v,w,S,a2,hw,B,O⟩;have a1:w.length=i:=by rw[hw];simp
  simp only[av,and_true]at S;rw[S];simp only[↓jc (B.used 3 rfl),Nat.zero_add,B.zp 3 (j:=4) rfl rfl rfl,↓fK];by_cases hi:(i:Int)<c.params
  case neg =>
   simp only[hi,decide_false,↓ah,ae,true_and];exact⟨u,v,w,B,O,by rw[hw,show i=c.params.toNat by omega]⟩
  have e8:((i:Int).tmod 8)=((i % 8:Nat):Int):=by rw[Int.tmod_eq_emod_of_nonneg (by omega)];rfl
  have T:i % 8<zs.length:=by omega
  have hv:=E5 O;simp only[hi,decide_true,↓ai,↓bw,B.used 0 rfl,B.used 2 rfl,Nat.zero_add,true_and,↓fB,B.zp 0 (j:=1) rfl rfl rfl,↓cy];refine⟨by simp,?_⟩;rw[e8,lT (B.get 2 rfl) (by omega) (by omega)];simp only[aT,B.zp 2 (j:=1+i % 8) rfl (UT T) rfl,↓Ag,↓eZ];refine KU (by simp) rfl (λ y hy=>by simp at hy;subst hy;rfl) (λ y hy=>by simp at hy;subst hy;rfl) ?_;refine YC O (by simp) rfl (by rw[GA];omega) (by rw[GA];omega) λ v' h2 U kb=>?_
  have B:=B.re (h0:=bP) (h':=h2) λ p hp=>by
   have:=(B.at_ p hp).1;exact kb p.1 (by rw[this];simp) (aab O this)
  have I:=E5 U;rw[Go.Am.DO (B.get 0 rfl) (by simp) I];have O3:=Ux U (B.get 0 rfl) (.box (.agg ([D.int .i64 b,v].set 1 v')));have B:=B.aM 0 rfl (.agg ([D.int .i64 b,v].set 1 v'));rw[ca,show IntKind.i64.wrap ((i:Int)+1)=((i+1:Nat):Int) by rw[wrap64 (by omega) (by omega)];rfl];refine⟨by simp,k-1,by omega,i+1,u,v',w++[qF zs[i % 8]],rfl,by omega,by rw[hw,List.range_succ,List.map_append];simp[XX,aG T],B,by simpa[wr] using O3⟩
 simp only[↓jc (B.used 3 rfl),Nat.zero_add,B.zp 3 (j:=0) rfl rfl rfl,↓zy]
 have hq:512<=(4096:Int).tdiv c.group/\(4096:Int).tdiv c.group<=4096:=by
  rw[Int.tdiv_eq_ediv_of_nonneg (by omega)];refine⟨?_,?_⟩
  ·exact(Int.le_ediv_iff_mul_le (by omega)).2 (by omega)
  ·exact Int.ediv_le_self _ (by omega)
 simp only[show(0:Int)<c.group by omega,decide_true,↓ai,↓bw,B.used 0 rfl,B.used 3 rfl,Nat.zero_add,true_and,↓fB,B.zp 0 (j:=0) rfl rfl rfl,B.zp 3 (j:=0) rfl rfl rfl,↓ss];refine⟨by omega,?_⟩;rw[wrap64 (by omega) (by omega)]
 have e1:∀{K:D->Prop},an PP (.mn (.c (.int .i64 b)) (.c (.int .i64 ((4096:Int).tdiv c.group)))) Q K=K (.int .i64 b):=λ {K}=>by
  show ab PP (.mn (.c (.int .i64 b)) (.c (.int .i64 ((4096:Int).tdiv c.group)))) Q (λ d _=>K d)=_
  rw[SR,if_neg (by omega)]
 have e2:∀{K:D->Prop},an PP (.mx (.c (.int .i64 b)) (.c (.int .i64 1))) Q K=K (.int .i64 b):=λ {K}=>by
  rw[acA,Yb,if_neg (by omega)]
 rw[e1,e2];refine B.DO 0 rfl (by simp) rfl λ h6 B=>?_
 exact⟨by simp,E,B⟩
section
variable {w:fU}{h:Heap}{L:LSq}{K:D->Prop}{KH:HKq}
theorem Pq {α:Type}{f:α->Bool}{xs:List α}{i:Nat}{x:α}(hx:xs[i]?=some x):(xs.take (i+1)).any f=((xs.take i).any f||f x):=by
 rw[List.take_add_one,hx];simp
end
end Go.Am
namespace Go.Am
open Go
section
variable {c:Code}{l:bG}{m:Mm}{w:fU}{h:Heap}{L:LSq}{K:D->Prop}{KH:HKq}
theorem RA {T:List Ev}{a b:Int}:∀d,d∈[D.sl (T.map Ev.e),.int .i64 a,.int .i64 b]->d.vd=true/\aD d:=λ d hd=>by
 simp at hd;rcases hd with rfl|rfl|rfl
 ·exact aaN.pair
 ·exact bh.pair
 ·exact bh.pair
theorem US {g:Int}{zs:List Int}:xt (Mv g zs):=⟨by simp[Mv,D.vd,D.vone],Np g zs⟩
theorem Pz (hc:cE c) (hl:bY c w.l) (hm:cq c.arrays 1 w.g) (hK:KH (.agg (rpC (nw c w)++[.int .i64 (oj c w)])) h):ag PP ig [c.e,.agg w.cs] h KH:=by
 refine bk (Pb hc hl (aaV hc.toba hl) hm) (λ d hd=>by
  simp only[List.mem_cons,List.not_mem_nil,or_false]at hd;rcases hd with rfl|rfl
  ·exact kL c
  ·exact w.bR.pair) ?_
 rintro _ rfl;exact hK
theorem Jf.n {a:Bool}{T:List Ev}(o:Jf w a T):T.length<=8000:=by
 obtain⟨x,y,p,q,rfl,o⟩:=o;exact o.n
end
end Go.Am
namespace Go.Am
open Go
theorem aci {a:Int}:ibits .and .i64 a 1=a % 2:=by
 show IntKind.i64.wrap ((BitVec.ofInt 64 a &&& BitVec.ofInt 64 1).toNat:Int)=_
 rw[BitVec.toNat_and,BitVec.toNat_ofInt,show(BitVec.ofInt 64 1).toNat=2 ^ 1-1 from rfl,Nat.and_two_pow_sub_one_eq_mod];have:(((a % ((2 ^ 64:Nat):Int)).toNat % 2 ^ 1:Nat):Int)=a % 2:=by omega
 rw[this,wrap64 (by omega) (by omega)]
theorem ach {a:Int}:ibits .and .i64 a 3=a % 4:=by
 show IntKind.i64.wrap ((BitVec.ofInt 64 a &&& BitVec.ofInt 64 3).toNat:Int)=_
 rw[BitVec.toNat_and,BitVec.toNat_ofInt,show(BitVec.ofInt 64 3).toNat=2 ^ 2-1 from rfl,Nat.and_two_pow_sub_one_eq_mod];have:(((a % ((2 ^ 64:Nat):Int)).toNat % 2 ^ 2:Nat):Int)=a % 4:=by omega
 rw[this,wrap64 (by omega) (by omega)]
section
variable {c:Code}{l:bG}{m:Mm}{w:fU}{h:Heap}{L:LSq}{K:D->Prop}{KH:HKq}
def si (a:Int) (e:Ev):Bool:=decide (e.item=a)
theorem aaP {P:List Ev}{n48:Nat}{a10 a65 a163:D}{J:HJq}(g48:h n48=.box (.agg w.cs)) (hl:P.length<=1000000) (hJ:J [.bool (P.any (si w.i0)),.bool (P.any (si w.i1))] h) :
  js h (.sl (P.map Ev.e)) (.ptr n48 0 0) a10 a65 a163 J:=by
 dsimp only[js,yF,yI,yJ,yL,yP];refine⟨λ n q h'=>∃k:Nat,q=[.bool ((P.take k).any (si w.i0)),.bool ((P.take k).any (si w.i1)),.int .i64 (k:Int)]/\n+k=P.length/\h'=h,P.length,⟨0,by simp,by omega,rfl⟩,?_⟩;rintro n f h' ⟨k,hq,Q,rfl⟩;simp only[av,and_true]at hq;obtain⟨H,G,E⟩:=hq;simp only[H,G,E];rw[gd,aE];by_cases hk:k<P.length
 case neg =>
  rw[HZ (by omega),ah];rw[List.take_of_length_le (by omega)];simp only[ae,true_and];exact hJ
 obtain⟨e,he⟩:∃g,P[k]?=some g:=⟨_,aG hk⟩;rw[DY (by omega),ai]
 have fin:∀r s,r=(P.take (k+1)).any (si w.i0)->s=(P.take (k+1)).any (si w.i1)->∃m,m<n/\∃k':Nat,[D.bool r,D.bool s,.int .i64 ((k:Int)+1)]=[.bool ((P.take k').any (si w.i0)),.bool ((P.take k').any (si w.i1)),.int .i64 (k':Int)]/\m+k'=P.length/\True:=λ r s hr hs =>
  ⟨P.length-(k+1),by omega,k+1,by rw[hr,hs];rfl,by omega,trivial⟩
 rw[Pq he,Pq he]at fin;generalize (P.take k).any (si w.i0)=u at fin ⊢;generalize (P.take k).any (si w.i1)=s1 at fin ⊢;have i1:∀{K:D->Prop},an PP (.iadd (.c (.sl (P.map Ev.e))) (.c (.int .i64 (k:Int))) 9) h' K=K (.vp e.e 0):=λ {K}=>by rw[eD,MH he]
 have i2:∀{K:D->Prop},an PP (.fadd (.c (.vp e.e 0)) 2) h' K=K (.vp e.e 2):=λ {K}=>by rw[qo]
 have l1:∀{K:D->Prop},an PP (.ld (.c (.vp e.e 2)) 1 false) h' K=K (.int .i64 e.item):=λ {K}=>by rw[fB];exact L8 rfl
 have O:∀{K:D->Prop},an PP (.iadda (.c (.ptr n48 0 3)) (.c (.int .i64 0)) 2 1) h' K=K (.ptr n48 0 3):=λ {K}=>by rw[jC];exact oq (i:=0) rfl (by omega) g48
 have I:∀{K:D->Prop},an PP (.iadda (.c (.ptr n48 0 3)) (.c (.int .i64 1)) 2 1) h' K=K (.ptr n48 0 4):=λ {K}=>by rw[jC];exact oq (i:=1) rfl (by omega) g48
 cases u<;>cases s1<;>simp (disch:=omega) only[↓gS,i1,i2,l1,↓et g48,O,I,↓aX g48 (j:=3) rfl,↓aX g48 (j:=4) rfl,↓bZ,↓Ma,↓O1,↓cS,ae,true_and]
 ·exact fin (decide (e.item=w.i0)) (decide (e.item=w.i1)) (by simp[si]) (by simp[si])
 ·exact fin (decide (e.item=w.i0)) true (by simp[si]) (by simp[si])
 ·exact fin true (decide (e.item=w.i1)) (by simp[si]) (by simp[si])
 ·exact fin true true (by simp[si]) (by simp[si])
theorem Ym {T:List Ev}(o:Jf w false T):(T.filter (qH w.ar w.ix)).any (si w.i0)=true/\(T.filter (qH w.ar w.ix)).any (si w.i1)=true:=by
 obtain⟨x,y,p,q,rfl,o⟩:=o;rw[List.any_eq_true,List.any_eq_true];exact⟨⟨p,Ju (List.mem_append_left _ o.hp) o.pa o.pt,by simp[si,o.hx p o.hp,fU.it]⟩,⟨q,Ju (List.mem_append_right _ o.hq) o.qa o.qt,by simp[si,o.hy q o.hq,fU.it]⟩⟩
theorem Yl {T:List Ev}{a:Bool}(o:Jf w a T):2<=(T.filter (qH w.ar w.ix)).length:=by
 obtain⟨x,y,p,q,rfl,o⟩:=o;rw[List.filter_append,List.length_append];have h1:=List.length_pos_of_mem (Ju o.hp o.pa o.pt);have h2:=List.length_pos_of_mem (Ju o.hq o.qa o.qt);omega
theorem O5 {T:List Ev}{a:Bool}(o:Jf w a T):∃e,T[0]?=some e/\e.item=w.it a:=by
 obtain⟨x,y,p,q,rfl,o⟩:=o;have h1:=List.length_pos_of_mem o.hp;refine⟨x[0],?_,o.hx _ (List.getElem_mem _)⟩;rw[List.getElem?_append_left h1,aG h1]
theorem QT {n48 k:Nat}{v:Int}(V:Vs h ((n48,.box (.agg w.cs))::L)) (hk:3<=k/\k<9) (hK:∀w' h',w'.l=w.l->w'.g=w.g->Vs h' ((n48,Slot.box (.agg (fU.cs w')))::L)->KH .undef h'):ab PP (.st (.c (.ptr n48 0 k)) (.c (.int .i64 v)) 1) h KH:=by
 refine V.DO 0 (cs:=w.cs) rfl (by show k<9;omega) rfl λ h' u=>?_
 simp only[List.set_cons_zero]at u;rcases (show k=3\/k=4\/k=5\/k=6\/k=7\/k=8 by omega) with rfl|rfl|rfl|rfl|rfl|rfl
 ·exact hK { w with i0:=v } h' rfl rfl u
 ·exact hK { w with i1:=v } h' rfl rfl u
 ·exact hK { w with n0:=v } h' rfl rfl u
 ·exact hK { w with n1:=v } h' rfl rfl u
 ·exact hK { w with ar:=v } h' rfl rfl u
 ·exact hK { w with ix:=v } h' rfl rfl u
def z3D (a b d:Int):D:=.agg [.int .i64 a,.int .i64 b,.int .i64 d]
theorem Zr {a b d:Int}:xt (z3D a b d):=cF (by simp)
theorem VW (hex:aV PP kz [] (· = .bool true)){bs:List Nat}{g z0 z1 z2:Int}{zs:List Int}(hb:∀b∈bs,b<=255) (hbl:bs.length<=9223372036854775807) (hg:0<=g/\g<=255) (hz:zs.length=12) :
  aV PP qS [Cv bs,Mv g zs,z3D z0 z1 z2] (· = .bool true):=by
 refine bt zl (aC _ _ _) rfl (y9 _ _ _ _) ?_;dsimp only[rh,xB,xF,xJ,xL,xP,xS,yF,yI,yJ,yL,yP];have c5:xt (Cv bs):=cF (by simp[EG]);refine Vs.nil.box c5.one λ n4 h5 V5=>?_
 refine V5.box US.one λ n6 h7 V7=>?_
 refine V7.box Zr.one λ n8 h9 V9=>?_
 refine bk hex (λ d hd=>by cases hd) ?_;rintro _ rfl;rw[XF,ah,V9.eR 2 (s:=1) rfl rfl];refine bk (acF hb hbl) (λ d hd=>by simp at hd;subst hd;exact c5.pair) ?_;rintro _ ⟨c,g1,rfl⟩;have hc:=VF g1;simp only[↓gS];refine V9.alloc λ a7 h8 g6=>?_
 refine g6.eU 0 (s:=8) (cs':=c.e.cells) rfl rfl rfl (λ x hx=>(kL c).2 x hx) λ e0 a5=>?_
 simp only[List.set_cons_zero]at a5;by_cases h4:c.group<=4
 case neg =>
  simp only[h4,decide_false,↓gS];exact bO ▸ rfl
 simp only[h4,decide_true,↓gS];have hl:=aas (zs:=zs) hc.toba hg;have hm:=aap c zs;have c3:∀{K:D->Prop},an PP (.ld (.c (.ptr a7 0 0)) 8 true) e0 K=K c.e:=λ {K}=>a5.yY 0 (s:=8) rfl rfl
 have e6:∀{K:D->Prop},an PP (.ld (.c (.ptr n6 0 0)) 13 true) e0 K=K (Mv g zs):=λ {K}=>a5.yY 2 (s:=13) rfl (by simp[hz])
 simp only[c3,e6]
 have p2:∀d,d∈[c.e,Mv g zs]->d.vd=true/\aD d:=λ d hd=>by
  simp only[List.mem_cons,List.not_mem_nil,or_false]at hd;rcases hd with rfl|rfl
  ·exact kL c
  ·exact US.pair
 refine Ai (Sy hc.toba hg hz) p2 ?_;refine Ai (Uj hc.toba hz) p2 ?_;generalize UY c g zs=l at hl;generalize XN c zs=m at hm;have h0:=aaV hc.toba hl
 refine Ah (K1 hc (λ _=>hl) (λ _ _=>hm)) (λ d hd=>by
  simp only[List.mem_cons,List.not_mem_nil,or_false]at hd;rcases hd with rfl|rfl|rfl
  ·exact kL c
  ·exact(bG.bR l).pair
  ·exact mO _) ?_
 refine a5.alloc λ c6 h6 e5=>?_
 rcases U7 hc hl h0 hm with hu|⟨w,hu,fw⟩
 ·rw[hu];refine e5.eU 0 (s:=10) (cs':=YV (none,4)) rfl rfl rfl (λ x hx=>D.cu (HQ _ x hx)) λ c9 T=>?_
  simp only[List.set_cons_zero]at T;have S:=T.get 0 _ _ rfl;simp (disch:=omega) only[↓kn S,↓cT S (j:=9) rfl,↓cS,↓gS];exact bO ▸ rfl
 rw[hu];refine e5.eU 0 (s:=10) (cs':=w.cs++[.int .i64 0]) rfl rfl rfl (λ x hx=>D.cu (HQ (some w,0) x hx)) λ c9 T=>?_
 simp only[List.set_cons_zero]at T;have c1:bY c w.l:=by rw[fw.l];exact hl
 have a8:cq c.arrays 1 w.g:=by rw[fw.g];exact hm
 have S:=T.get 0 _ _ rfl;have Z:=T.get 2 _ _ rfl
 have a6:∀{h:Heap},h n8=.box (z3D z0 z1 z2)->(∀{K:D->Prop},an PP (.iadda (.c (.ptr n8 0 0)) (.c (.int .i64 1)) 3 1) h K=K (.ptr n8 0 1))/\(∀{K:D->Prop},an PP (.iadda (.c (.ptr n8 0 0)) (.c (.int .i64 2)) 3 1) h K=K (.ptr n8 0 2))/\(∀{K:D->Prop},an PP (.iadda (.c (.ptr n8 0 0)) (.c (.int .i64 0)) 3 1) h K=K (.ptr n8 0 0)) /\
   (∀{K:D->Prop},an PP (.ld (.c (.ptr n8 0 1)) 1 false) h K=K (.int .i64 z1))/\(∀{K:D->Prop},an PP (.ld (.c (.ptr n8 0 2)) 1 false) h K=K (.int .i64 z2))/\(∀{K:D->Prop},an PP (.ld (.c (.ptr n8 0 0)) 1 false) h K=K (.int .i64 z0)):=λ g =>
  ⟨λ {K}=>lT g (by omega) (by omega),λ {K}=>lT g (by omega) (by omega),λ {K}=>lT g (by omega) (by omega),λ {K}=>aX g rfl,λ {K}=>aX g rfl,λ {K}=>aX g rfl⟩
 obtain⟨y1,y2,y3,y4,y5,y6⟩:=a6 Z;have g5:∀{K:D->Prop},an PP (.ld (.c (.ptr c6 0 0)) 9 true) c9 K=K (.agg w.cs):=λ {K}=>gI S (Nat.le_of_ble_eq_true rfl) rfl
 simp (disch:=omega) only[↓kn S,↓cT S (j:=9) rfl,↓cS,↓gS,↓et S,↓g5,↓y1,↓y4,↓Mj,aci];refine T.alloc λ G g9 e4=>?_
 have Z:=e4.get 3 _ _ rfl;obtain⟨y1,y2,y3,y4,y5,y6⟩:=a6 Z;refine⟨⟨by simp only[↓y1,ae],by simp only[↓y4,ae],trivial⟩,?_⟩;refine e4.eU 0 (s:=9) (cs':=w.cs) rfl rfl rfl w.bR.one λ I O=>?_
 simp only[List.set_cons_zero]at O;have Z:=O.get 3 _ _ rfl;obtain⟨y1,y2,y3,y4,y5,y6⟩:=a6 Z;refine⟨⟨by simp only[↓y1,ae],by simp only[↓y4,ae],trivial⟩,?_⟩;obtain⟨L,hL⟩:∃L,L=[(c6,Slot.box (.agg (w.cs++[.int .i64 0]))),(a7,.box (.agg c.e.cells)),(n8,.box (z3D z0 z1 z2)),(n6,.box (Mv g zs)),(n4,.box (Cv bs))]:=⟨_,rfl⟩;have O:Vs I ((G,.box (.agg w.cs))::L):=by rw[hL];exact O
 refine⟨λ _ h'=>∃w':fU,w'.l=w.l/\w'.g=w.g/\Vs h' ((G,.box (.agg w'.cs))::L),?_,?_⟩
 ·rintro f c8 ⟨w',e7,e8,c4⟩;rw[<- e7]at c1;rw[<- e8]at a8;have c3:∀{KH:HKq},ab PP (.ld (.c (.ptr a7 0 0)) 8 true) c8 KH=KH c.e c8:=λ {K}=>c4.eR 2 (s:=8) (by rw[hL];rfl) rfl
  rw[c3,c4.eR 0 (s:=9) rfl rfl];refine Pz hc c1 a8 ?_;refine c4.alloc λ H g7 e1=>?_
  rcases Uc (c:=c) (w:=w') with⟨r0,A,B,hr⟩|⟨r0,hr⟩
  ·rw[r0,hr];obtain⟨oA,oB⟩:=Sv hc c1 a8 hr;refine e1.eU 0 (s:=3) (cs':=[.sl (A.map Ev.e),.sl (B.map Ev.e),.int .i64 0]) rfl rfl rfl (λ x hx=>by simp at hx;rcases hx with rfl|rfl|rfl<;>rfl) λ W Q=>?_
   simp only[List.set_cons_zero]at Q;have E:=Q.get 0 _ _ rfl;have u:=Q.get 1 _ _ rfl;have hA:=oA.n;have hB:=oB.n
   have i0:∀{h:Heap},Vs h ((H,Slot.box (.agg [.sl (A.map Ev.e),.sl (B.map Ev.e),.int .i64 0]))::(G,.box (.agg w'.cs))::L)->h H=.box (.agg [.sl (A.map Ev.e),.sl (B.map Ev.e),.int .i64 0])/\h G=.box (.agg w'.cs) /\
     (∀{j:Nat}{K:D->Prop},an PP (.iadda (.c (.ptr H 0 j)) (.c (.int .i64 0)) 2 1) h K=K (.ptr H 0 j))/\(∀{j:Nat}{K:D->Prop},an PP (.iadda (.c (.ptr H 0 j)) (.c (.int .i64 1)) 2 1) h K=K (.ptr H 0 (j+1))) /\
     (∀{j:Nat}{K:D->Prop},an PP (.iadda (.c (.ptr G 0 j)) (.c (.int .i64 0)) 2 1) h K=K (.ptr G 0 j))/\(∀{j:Nat}{K:D->Prop},an PP (.iadda (.c (.ptr G 0 j)) (.c (.int .i64 1)) 2 1) h K=K (.ptr G 0 (j+1))):=λ V=>by
    have E:=V.get 0 _ _ rfl;have u:=V.get 1 _ _ rfl
    exact⟨E,u,λ {j K}=>by rw[jC];exact oq (i:=0) rfl (by omega) E,λ {j K}=>by rw[jC];exact oq (i:=1) rfl (by omega) E,
     λ {j K}=>by rw[jC];exact oq (i:=0) rfl (by omega) u,λ {j K}=>by rw[jC];exact oq (i:=1) rfl (by omega) u⟩
   obtain⟨-,-,u0,u1,t0,t1⟩:=i0 Q;simp (disch:=omega) only[↓kn E,↓cT E (j:=2) rfl,↓cS,↓gS,↓et E,↓u0,↓aX E (j:=0) rfl,↓et u,↓aX u (j:=7) rfl,↓aX u (j:=8) rfl];refine Ah (RI (by omega)) RA ?_;simp only[↓et E,↓u1,↓aX E (j:=1) rfl,↓et u,↓aX u (j:=7) rfl,↓aX u (j:=8) rfl,Nat.zero_add];refine Ah (RI (by omega)) RA ?_;have f1:=List.length_filter_le (qH w'.ar w'.ix) A;have f2:=List.length_filter_le (qH w'.ar w'.ix) B;have hQ:=Yl oB;obtain⟨q1,q2⟩:=Ym oA;obtain⟨ea,ha,g4⟩:=O5 oA;obtain⟨eb,g2,g3⟩:=O5 oB;refine⟨λ q h'=>q=[.bool true,.bool true]/\Vs h' ((H,Slot.box (.agg [.sl (A.map Ev.e),.sl (B.map Ev.e),.int .i64 0]))::(G,.box (.agg w'.cs))::L),?_,aaP u (by omega) (by rw[q1,q2];exact⟨rfl,Q⟩)⟩;rintro f2 U ⟨hq,V⟩;simp only[av,and_true]at hq;obtain⟨E,u,u0,u1,t0,t1⟩:=i0 V;rw[hq.1,hq.2];have a1:∀{K:D->Prop},an PP (.iadd (.c (.sl (A.map Ev.e))) (.c (.int .i64 0)) 9) U K=K (.vp ea.e 0):=λ {K}=>by rw[eD];exact MH (k:=0) ha
   have a2:∀{K:D->Prop},an PP (.iadd (.c (.sl (B.map Ev.e))) (.c (.int .i64 0)) 9) U K=K (.vp eb.e 0):=λ {K}=>by rw[eD];exact MH (k:=0) g2
   have i2:∀{e:Ev}{K:D->Prop},an PP (.fadd (.c (.vp e.e 0)) 2) U K=K (.vp e.e 2):=λ {e K}=>by rw[qo]
   have l1:∀{e:Ev}{K:D->Prop},an PP (.ld (.c (.vp e.e 2)) 1 false) U K=K (.int .i64 e.item):=λ {e K}=>by rw[fB];exact L8 rfl
   have b1:ea.item=w'.i0:=g4;have b2:eb.item=w'.i1:=g3;simp (disch:=omega) only[↓gS,↓cS,↓Ma,↓gd,aE,↓et E,↓u0,↓u1,↓aX E (j:=0) rfl,↓aX E (j:=1) rfl,↓et u,↓t0,↓t1,↓aX u (j:=3) rfl,↓aX u (j:=4) rfl,Nat.zero_add,Nat.reduceAdd,↓a1,↓a2,↓i2,↓l1,b1,b2];exact bO ▸ rfl
  ·rw[hr];refine e1.eU 0 (s:=3) (cs':=[.nil,.nil,.int .i64 (oj c w')]) rfl rfl rfl (λ x hx=>by simp at hx;rcases hx with rfl|rfl<;>rfl) λ W Q=>?_
   simp only[List.set_cons_zero]at Q;have E:=Q.get 0 _ _ rfl;have i0:∀{j:Nat}{KH:HKq},ab PP (.iadda (.c (.ptr H 0 j)) (.c (.int .i64 0)) 2 1) W KH=KH (.ptr H 0 j) W:=λ {j KH}=>oq (i:=0) rfl (by omega) E
   have i1:∀{j:Nat}{KH:HKq},ab PP (.iadda (.c (.ptr H 0 j)) (.c (.int .i64 1)) 2 1) W KH=KH (.ptr H 0 (j+1)) W:=λ {j KH}=>oq (i:=1) rfl (by omega) E
   generalize oj c w'=e at r0 E;rcases r0 with rfl|rfl<;>simp (disch:=omega) only[↓kn E,↓cT E (j:=2) rfl,↓cT E (j:=0) rfl,↓cT E (j:=1) rfl,↓i0,↓i1,↓zw,↓cS,↓gS,Int.add_zero,Nat.zero_add]
   all_goals exact bO ▸ rfl
 ·have i8:∀{KH:HKq},ab PP (.iadda (.c (.ptr n8 0 0)) (.c (.int .i64 0)) 3 1) I KH=KH (.ptr n8 0 0) I:=λ {KH}=>by rw[Aa,Z];simp[Slot.live,Slot.used]
  have i82:∀{KH:HKq},ab PP (.iadda (.c (.ptr n8 0 0)) (.c (.int .i64 2)) 3 1) I KH=KH (.ptr n8 0 2) I:=λ {KH}=>by rw[Aa,Z];simp[Slot.live,Slot.used]
  have l8:∀{KH:HKq},ab PP (.ld (.c (.ptr n8 0 0)) 1 false) I KH=KH (.int .i64 z0) I:=λ {KH}=>cT Z rfl
  have c7:∀{KH:HKq},ab PP (.ld (.c (.ptr n8 0 2)) 1 false) I KH=KH (.int .i64 z2) I:=λ {KH}=>cT Z rfl
  have u:=O.get 0 _ _ rfl;obtain⟨k,hk,c2⟩:∃k:Nat,z1 % 2=(k:Int)/\k<2:=⟨(z1 % 2).toNat,by omega,by omega⟩;have j3:∀{j:Nat}{K:D->Prop},an PP (.iadda (.c (.ptr G 0 j)) (.c (.int .i64 (k:Int))) 2 1) I K=K (.ptr G 0 (j+k)):=λ {j K}=>by rw[jC];exact oq rfl c2 u
  obtain⟨v3,g0⟩:∃v,w.cs[3+k]?=some (.int .i64 v):=by
   match k,c2 with
   | 0,_=>exact⟨_,rfl⟩
   | 1,_=>exact⟨_,rfl⟩
  obtain⟨v5,e9⟩:∃v,w.cs[5+k]?=some (.int .i64 v):=by
   match k,c2 with
   | 0,_=>exact⟨_,rfl⟩
   | 1,_=>exact⟨_,rfl⟩
  rw[hk,i8,l8,Mj,ach];have fin:∀{w':fU}{h':Heap},w'.l=w.l->w'.g=w.g->Vs h' ((G,Slot.box (.agg w'.cs))::L)->∃w':fU,w'.l=w.l/\w'.g=w.g/\Vs h' ((G,.box (.agg w'.cs))::L):=λ a b d=>⟨_,a,b,d⟩
  rcases (show z0 % 4=0\/z0 % 4=1\/z0 % 4=2\/z0 % 4=3 by omega) with hz|hz|hz|hz<;>rw[hz]
  ·simp (disch:=omega) only[↓cS,↓gS,↓et u,↓j3,↓aX u g0,↓y2,↓y5,↓ca];refine QT O (by omega) λ w' h' a b d=>?_
   simp only[ae,true_and];exact fin a b d
  ·simp (disch:=omega) only[↓cS,↓gS,↓et u,↓j3,↓aX u e9,↓y2,↓y5,↓ca];refine QT O (by omega) λ w' h' a b d=>?_
   simp only[ae,true_and];exact fin a b d
  ·simp (disch:=omega) only[↓cS,↓gS,↓kn u,↓cT u (j:=7) rfl,↓i82,↓c7,↓ca];refine QT O (by omega) λ w' h' a b d=>?_
   simp only[ae,true_and];exact fin a b d
  ·simp (disch:=omega) only[↓cS,↓gS,↓kn u,↓cT u (j:=8) rfl,↓i82,↓c7,↓ca];refine QT O (by omega) λ w' h' a b d=>?_
   simp only[ae,true_and];exact fin a b d
end
end Go.Am
namespace Go.Am
open Go Go.Proofs
def Rz:Term:=⟨5,0,aF,aF,aF,0,0⟩
def GR (sp:Int):fv:=⟨⟨#[97]⟩,sp,1,8⟩
def nL (g sp:Int) (is:List aW):Code:=⟨g,1,4,0,0,[GR sp],[],[⟨is,Rz⟩]⟩
def X1 (s d:Int):aW:=⟨5,s,0,kG d,aF,aF,aF⟩
def M8 (at_:fQ):aW:=⟨8,0,0,aF,at_,kG 0,aF⟩
def lM:Code:=nL 2 1 [X1 1 0,M8 (Const 0)]
def L4:Code:=nL 2 1 [X1 1 0,M8 (kG 0)]
def l1:bG:=⟨1,[]⟩
def m8:Mm:=[[0,0,0,0,0,0,0,0]]
def w0:fU:=⟨l1,m8,0,1,0,0,0,0⟩
theorem Xc:L9 lM l1 m8=(some w0,0):=by kernel_rfl
theorem aaa:L9 L4 l1 m8=(none,4):=by kernel_rfl
theorem Xe:L9 lM ⟨0,[]⟩ m8=(none,40):=by kernel_rfl
theorem Xd:L9 lM l1 []=(none,1):=by kernel_rfl
theorem W8:(nw lM w0).map (λ q=>(q.1.map Ev.item,q.2.map Ev.item))=some ([0,1],[1,0]):=by kernel_rfl
theorem Xb:oj lM w0=0:=by kernel_rfl
theorem Xa:oj lM { w0 with n0:=1 }=4:=by kernel_rfl
theorem YU {g sp:Int}{is:List aW}(hg:g=1\/g=2\/g=4\/g=8) (hs:sp=1\/sp=2) (hi:∀x∈is,Eu 4 x/\x.n=0/\x.op≠6) (hl:is.length<=20):cE (nL g sp is) where
 group:=by show 1<=g/\g<=8;omega
 sub:=⟨Int.le_refl _,by show(1:Int)<=8;omega⟩
 regs:=⟨by show(1:Int)<=4;omega,by show(4:Int)<=12;omega⟩
 slots:=rfl
 params:=⟨Int.le_refl _,by show(0:Int)<=8;omega⟩
 nar:=by show 1<=8;omega
 ar:=λ a ha=>by
  simp only[nL,List.mem_singleton]at ha;subst ha;exact⟨by show sp=1\/sp=2\/sp=3;omega,by show(1:Int)<=8;omega,Int.le_refl _⟩
 nb:=by show 1<=1/\1<=100;omega
 xs:=λ b hb=>by
  simp only[nL,List.mem_singleton]at hb;subst hb;refine⟨λ x hx=>?_,hl,.exit⟩;obtain⟨h1,h2,h3⟩:=hi x hx;exact⟨h1,λ _=>⟨0,h2,by show 0<1;omega⟩,λ h=>absurd h h3⟩
 sub4:=Or.inl rfl
 dvd:=Int.tmod_one g
theorem Y6 {s d:Int}(h1:1<=s/\s<=7) (hd:0<=d/\d<4):Eu 4 (X1 s d)/\(X1 s d).n=0/\(X1 s d).op≠6 :=
 ⟨.id s (kG d) h1 ⟨d,hd.1,hd.2,rfl⟩,rfl,by show(5:Int)≠6;omega⟩
theorem TV {a:fQ}(h:jH 4 a):Eu 4 (M8 a)/\(M8 a).n=0/\(M8 a).op≠6 :=
 ⟨.store 0 a (kG 0) ⟨Int.le_refl _,by omega⟩ h (Or.inl ⟨0,by omega,by omega,rfl⟩),rfl,by show(8:Int)≠6;omega⟩
theorem GW:cE lM:=YU (Or.inr (Or.inl rfl)) (Or.inl rfl) (λ x hx=>by
 simp only[List.mem_cons,List.not_mem_nil,or_false]at hx;rcases hx with rfl|rfl
 ·exact Y6 (by omega) (by omega)
 ·exact TV (Or.inr ⟨0,by omega,by omega,rfl⟩)) (by simp)
theorem ab4:cE L4:=YU (Or.inr (Or.inl rfl)) (Or.inl rfl) (λ x hx=>by
 simp only[List.mem_cons,List.not_mem_nil,or_false]at hx;rcases hx with rfl|rfl
 ·exact Y6 (by omega) (by omega)
 ·exact TV (Or.inl ⟨0,by omega,by omega,rfl⟩)) (by simp)
theorem SL {g sp:Int}{is:List aW}:bY (nL g sp is) l1:=⟨by show(1:Int)<=1/\(1:Int)<=64;omega,rfl,λ v u=>by cases u⟩
theorem XR {g:Int}{is:List aW}:cq (nL g 1 is).arrays 1 m8:=⟨rfl,λ i a w h1 h2=>by
 match i with
 | 0 =>
  cases h1;cases h2;exact⟨rfl,λ v u=>by simp at u;subst u;exact⟨by omega,by omega⟩⟩
 | i+1=>cases h1⟩
section
variable {h:Heap}{L:LSq}{K:D->Prop}{KH:HKq}
theorem VC {P:Program}{f:FuncId}{d1 r:D}(hv:aV P f [d1] (· = r)) (hds:∀d,d∈[d1]->d.vd=true/\aD d) (hk:K r):an P (.call f [.c d1]) h K:=ud hv hds hk
theorem Zg {s d:Int}:aV PP wH [.int .i64 s,.int .i64 d] (· = (X1 s d).e):=by
 refine bt Md (aC _ _ _) rfl (Mc _ _ _) ?_;dsimp only[Lo,xL,xS];refine Vs.nil.alloc λ E h4 u=>?_
 refine bk u4 (λ x hx=>by simp at hx;subst hx;exact bh.pair) ?_;rintro _ rfl;rw[fF rfl];refine u.eU 0 (s:=15) (cs':=(X1 s d).cs) rfl rfl rfl (aW.bR _).one λ h V=>?_
 simp only[List.set_cons_zero]at V;rw[V.eR 0 (s:=15) rfl rfl];exact so (aW.bR _).pair rfl
theorem VR {a:fQ}:aV PP nT [a.e] (· = (M8 a).e):=by
 refine bt HF (aC _ _ _) rfl (Hs _ _) ?_;dsimp only[Dc,xB,xL,xS,yL];refine Vs.nil.box (fQ.bR a).one λ E h3 H=>?_
 refine H.alloc λ n4 G u=>?_
 have e:∀{K:D->Prop},an PP (.ld (.c (.ptr E 0 0)) 3 true) G K=K a.e:=λ {K}=>u.yY 1 (s:=3) rfl rfl
 rw[e];refine VC u4 (λ x hx=>by simp at hx;subst hx;exact bh.pair) ?_;rw[lS rfl];refine u.eU 0 (s:=15) (cs':=(M8 a).cs) rfl rfl rfl (aW.bR _).one λ h V=>?_
 simp only[List.set_cons_zero]at V;rw[V.eR 0 (s:=15) rfl rfl];exact so (aW.bR _).pair rfl
theorem Zi {fz:Bool}{z d:D}{e:Nat}(V:Vs h L) (hd:xt d) (hl:d.cells.length=e) (hK:∀n h',Vs h' ((n,.arr e [d])::L)->KH (.ms n 0 1) h'):ab PP (.bldS fz e 1 z [(0,.c d)]) h KH:=by
 obtain⟨f1,f2,f3⟩:=zt (h:=h) hd.pair.1;refine⟨λ p hp=>?_,λ _ p hp=>?_,λ n t=>?_⟩
 ·simp[Arg.get]at hp;subst hp;exact⟨by show 0<1;omega,hl,hd.pair.2⟩
 ·simp[Arg.get]at hp;subst hp;exact f3
 have:=hK n _ (V.push t.free (s:=.arr e [d]) (by simp));cases fz<;>simpa[Arg.get,setEls,f1,f2,Heap.freezeAll] using this
theorem Zh {fz:Bool}{z d d':D}{e:Nat}(V:Vs h L) (hd:xt d) (hd':xt d') (hl:d.cells.length=e) (hl':d'.cells.length=e) (hK:∀n h',Vs h' ((n,.arr e [d,d'])::L)->KH (.ms n 0 2) h'):ab PP (.bldS fz e 2 z [(0,.c d),(1,.c d')]) h KH:=by
 obtain⟨f1,f2,f3⟩:=zt (h:=h) hd.pair.1;obtain⟨G,E,u⟩:=zt (h:=h) hd'.pair.1;refine⟨λ p hp=>?_,λ _ p hp=>?_,λ n t=>?_⟩
 ·simp[Arg.get]at hp;rcases hp with rfl|rfl
  ·exact⟨by show 0<2;omega,hl,hd.pair.2⟩
  ·exact⟨by show 1<2;omega,hl',hd'.pair.2⟩
 ·simp[Arg.get]at hp;rcases hp with rfl|rfl
  ·exact f3
  ·exact u
 have:=hK n _ (V.push t.free (s:=.arr e [d,d']) (by simp));cases fz<;>simpa[Arg.get,setEls,f1,f2,G,E,Heap.freezeAll,List.replicate] using this
theorem acJ {fz:Bool}{z d:D}(V:Vs h L) (hd:xt d) (hl:d.cells.length=1) (hK:∀n h',Vs h' ((n,.arr 1 (List.replicate 8 d))::L)->KH (.ms n 0 8) h'):ab PP (.bldS fz 1 8 z [(0,.c d),(1,.c d),(2,.c d),(3,.c d),(4,.c d),(5,.c d),(6,.c d),(7,.c d)]) h KH:=by
 obtain⟨f1,f2,f3⟩:=zt (h:=h) hd.pair.1;refine⟨λ p hp=>?_,λ _ p hp=>?_,λ n t=>?_⟩
 ·simp[Arg.get]at hp;rcases hp with rfl|rfl|rfl|rfl|rfl|rfl|rfl|rfl<;>exact⟨by simp,hl,hd.pair.2⟩
 ·simp[Arg.get]at hp;rcases hp with rfl|rfl|rfl|rfl|rfl|rfl|rfl|rfl<;>exact f3
 have:=hK n _ (V.push t.free (s:=.arr 1 (List.replicate 8 d)) (by simp));cases fz<;>simpa[Arg.get,setEls,f1,f2,Heap.freezeAll,List.replicate] using this
theorem Yf {n e:Nat}{els:List D}(hr:(h n).row=some (e,els)) (hv:∀x∈els,∀y∈x.cells,y.vone=true):LN h (.ms n 0 els.length) (.sl els):=by
 refine⟨rfl,⟨e,els,hr,by simp,λ x hx=>hv x (List.mem_of_mem_drop (List.mem_of_mem_take hx))⟩,?_,?_⟩
 ·simp[D.fzc,hr,D.vone]
 ·simp only[D.fzc,hr,List.drop_zero];rw[List.take_of_length_le (Nat.le_refl _)];exact .refl _
theorem Vz {d:D}(hd:xt d):Wz h d d:=by
 obtain⟨f1,f2,f3⟩:=zt (h:=h) hd.pair.1;exact⟨hd.pair.2,f3,by rw[f1];exact hd.pair.1,hd.pair.1,by rw[f1];exact .refl d⟩
theorem Vy {d:D}(hd:xt d):d.nm=[]:=(zt (h:=bP) hd.pair.1).2.1
theorem Vs.acr {n:Nat}{s:Slot}(V:Vs h ((n,s)::L)):Vs (h.freezeAll [n]) L:=by
 refine V.pop.Rq λ k t hk=>cx _ ?_
 obtain⟨i,hi⟩:=hk;have nd:=(Vs.iff.1 V).2;rw[List.map_cons,List.nodup_cons]at nd;simp only[List.mem_singleton];rintro rfl;exact nd.1 (List.mem_map.2 ⟨_,aK hi,rfl⟩)
theorem acI {z:D}{n1:Nat}{els:List D}(V:Vs h ((n1,.arr 1 els)::L)) (hv:∀x∈els,∀y∈x.cells,y.vone=true) (hK:∀n h',Vs h' ((n,.arr 1 [.sl els])::L)->KH (.ms n 0 1) h'):ab PP (.bldS true 1 1 z [(0,.c (.ms n1 0 els.length))]) h KH:=by
 have g:=V.get 0 _ _ rfl;have f:=(fT g hv).d;have hr:(h n1).row=some (1,els):=by rw[g];rfl
 refine⟨λ p hp=>?_,λ _ p hp=>?_,λ n t=>?_⟩
 ·simp[Arg.get]at hp;subst hp;exact⟨by show 0<1;omega,rfl,f.one⟩
 ·simp[Arg.get]at hp;subst hp;exact f.ok
 have e:(D.ms n1 0 els.length).fz h=.sl els:=by
  show D.fzc h (.ms n1 0 els.length)=_
  simp only[D.fzc,hr,List.drop_zero];rw[List.take_of_length_le (Nat.le_refl _)]
 have u:(h.freezeAll [n1]) n=.free:=by
  rw[cx]
  ·exact t.free
  ·simp only[List.mem_singleton];rintro rfl;have:=t.free;rw[g]at this;cases this
 have:=hK n _ (V.acr.push u (s:=.arr 1 [.sl els]) (by simp));simpa[Arg.get,setEls,e,D.nm,D.nR] using this
theorem VS {g sp:Int}{is:List aW}:aV PP jR [.int .i64 g,.int .i64 sp,.sl (is.map aW.e)] (· = (nL g sp is).e):=by
 refine ju (aI Gl (aC _ _ _) rfl (FK _ _ _ _) ?_);dsimp only[AB,xL,xS];refine Vs.nil.alloc λ n4 S O=>?_
 rw[fF rfl];refine Zi (d:=(GR sp).e) O (cF (by simp[GR,D.vone])) rfl λ n8 Q I=>?_
 rw[fF rfl,fF rfl];refine Zi (d:=(⟨is,Rz⟩:Block).e) I (Block.bR _) rfl λ n14 H E=>?_
 rw[fF rfl];refine E.eU 2 (s:=8) (cs':=[.int .i64 g,.int .i64 1,.int .i64 4,.int .i64 0,.int .i64 0,.ms n8 0 1,.nil,.ms n14 0 1]) rfl rfl rfl (λ x hx=>by simp at hx;rcases hx with rfl|rfl|rfl|rfl|rfl|rfl|rfl<;>rfl) λ G u=>?_
 simp only[List.set_cons_zero,List.set_cons_succ]at u;rw[u.eR 2 (s:=8) rfl rfl];refine uF (by simp) (by simp) (.refl _) (Iv.agg (.cons (bD rfl) (.cons (bD rfl) (.cons (bD rfl) (.cons (bD rfl) (.cons (bD rfl) (.cons (fT (els:=[(GR sp).e]) (u.get 1 _ _ rfl) ?_) (.cons jB (.cons (fT (els:=[(⟨is,Rz⟩:Block).e]) (u.get 0 _ _ rfl) ?_) .nil))))))))) rfl
 ·intro x hx;simp only[List.mem_singleton]at hx;subst hx;have:xt (GR sp).e:=cF (by simp[GR,D.vone]);have:=this.vd;simp only[fv.e,D.vd,List.all_eq_true]at this;exact this
 ·intro x hx;simp only[List.mem_singleton]at hx;subst hx;have:=(Block.bR ⟨is,Rz⟩).vd;simp only[Block.e,D.vd,List.all_eq_true]at this;exact this
theorem Py {n:Nat}{g sp:Int}{is:List aW}(V:Vs h ((n,.arr 15 (is.map aW.e))::L)) (hK:∀h',Vs h' L->KH (nL g sp is).e h'):ag PP jR [.int .i64 g,.int .i64 sp,.ms n 0 (is.map aW.e).length] h KH:=by
 have f:LN h (.ms n 0 (is.map aW.e).length) (.sl (is.map aW.e)):=fT (V.get 0 _ _ rfl) λ x hx=>by
  obtain⟨i,-,rfl⟩:=List.mem_map.1 hx;have:=(aW.bR i).vd;simp only[aW.e,D.vd,List.all_eq_true]at this;exact this
 refine BV (.refl h) (.cons (bD rfl).d (.cons (bD rfl).d (.cons f.d .nil))) VS ⟨hK h V.pop,?_⟩;exact hK _ V.acr
theorem WD {m:Mm}:∀x,x∈m.map words->∀y∈x.cells,y.vone=true:=λ x hx y hy=>by
 obtain⟨w,-,rfl⟩:=List.mem_map.1 hx;simp[words,D.cells]at hy;subst hy;rfl
theorem PT {α:Type}:∀{l:List α}{i:Nat}{x:α},l[i]?=some x->l.set i x=l
 | a::r,0,x,h=>by simp at h;simp[h]
 | a::r,i+1,x,h=>by simp at h;simp[PT h]
 | [],i,x,h=>by simp at h
theorem Vs.adI {n e i:Nat}{s:Slot}{els:List D}(V:Vs h L) (hi:L[i]?=some (n,s)) (hs:s.row=some (e,els)):∃s',s'.row=some (e,els)/\Vs (h.freezeAll [n]) (L.set i (n,s')):=by
 have g:=V.get i _ _ hi;refine⟨.frz e els,rfl,?_⟩
 cases s with
 | arr a b =>
  cases hs;have:h.freezeAll [n]=ak h n (.frz e els):=by simp[Heap.freezeAll,Heap.freeze,g]
  rw[this];exact V.aM i hi (by simp)
 | frz a b =>
  cases hs;have u:h.freezeAll [n]=h:=by simp[Heap.freezeAll,Heap.freeze,g]
  rw[u,PT hi];exact V
 | _=>cases hs
theorem Hn {c:Code}{l:bG}{m:Mm}{n i:Nat}{s:Slot}{ld:D}(hc:cE c) (hlw:pv c l=0->bY c l) (hmw:pv c l=0->fitsM 1 c.arrays m=true->cq c.arrays 1 m) (V:Vs h L) (hi:L[i]?=some (n,s)) (hs:s.row=some (1,m.map words)) (fl:∀h,Wz h ld l.e) (hnm:ld.nm=[])
  (hK:∀s' h',s'.row=some (1,m.map words)->Vs h' (L.set i (n,s'))->KH (.agg (YV (L9 c l m))) h'):ag PP cO [c.e,ld,.ms n 0 (m.map words).length] h KH:=by
 have g:=V.get i _ _ hi;have e2:L.set i (n,s)=L:=PT hi;refine BV (.refl h) (.cons (Vz (Code.bR c)) (.cons (fl h) (.cons (Yf (by rw[g];exact hs) WD).d .nil))) (K1 hc hlw hmw) ⟨hK s h hs (by rw[e2];exact V),?_⟩;rw[List.flatMap_cons,List.flatMap_cons,List.flatMap_cons,List.flatMap_nil,Vy (Code.bR c),hnm];obtain⟨s',h1,h2⟩:=V.adI hi hs;exact hK s' _ h1 h2
theorem Tm {c:Code}{l:bG}{ld:D}(hc:cE c) (hlw:pv c l=0->bY c l) (hmw:pv c l=0->fitsM 1 c.arrays []=true->cq c.arrays 1 []) (V:Vs h L) (fl:∀h,Wz h ld l.e) (hnm:ld.nm=[])
  (hK:∀h',Vs h' L->KH (.agg (YV (L9 c l []))) h'):ag PP cO [c.e,ld,.nil] h KH:=by
 refine BV (.refl h) (.cons (Vz (Code.bR c)) (.cons (fl h) (.cons jB.d .nil))) (K1 hc hlw hmw) ⟨hK h V,?_⟩;rw[List.flatMap_cons,List.flatMap_cons,List.flatMap_cons,List.flatMap_nil,Vy (Code.bR c),hnm];exact hK _ V
end
end Go.Am
namespace Go.Am
open Go
theorem Nr {g:Int}(h:Heap):Wz h (.agg [.int .i64 g,.nil]) (⟨g,[]⟩:bG).e:=Iv.agg (.cons (bD rfl) (.cons jB .nil))
theorem Yk {d:D}(hd:xt d):∀x,x∈[d]->x.vd=true/\aD x:=λ x hx=>by
 rw[List.mem_singleton]at hx;subst hx;exact hd.pair
theorem aaO {d e:D}(hd:xt d) (he:xt e):∀x,x∈[d,e]->x.vd=true/\aD x:=λ x hx=>by
 simp only[List.mem_cons,List.not_mem_nil,or_false]at hx;rcases hx with rfl|rfl
 ·exact hd.pair
 ·exact he.pair
theorem Vg {P:Program}{h:Heap}{KH:HKq}{cs:List D}{o s:Nat}{d:D}(hd:cs[o]?=some d):ab P (.fld (.c (.agg cs)) o s false) h KH=KH d h:=by
 show vpart cs o s false (KH · h)=_
 unfold vpart;rw[hd];rfl
theorem Uh:∃A B,nw lM w0=some (A,B)/\A.map Ev.item=[0,1]/\B.map Ev.item=[1,0]:=by
 have h:=W8
 cases e:nw lM w0 with
 | none=>rw[e]at h;cases h
 | some q =>
  rw[e]at h;simp only[Option.map_some,Option.some.injEq,Prod.mk.injEq]at h;exact⟨q.1,q.2,rfl,h.1,h.2⟩
theorem OH {A:List Ev}{a b:Int}(h:A.map Ev.item=[a,b]):∃x y:Ev,A=[x,y]/\x.item=a:=by
 match A,h with
 | [x,y],h =>
  simp only[List.map_cons,List.map_nil,av,and_true]at h;exact⟨x,y,rfl,h.1⟩
theorem ND:aV PP kz [] (· = .bool true):=by
 refine bt Bw (aC _ _ _) rfl (AF _) ?_;dsimp only[sM,xF,xJ,xL,xP,xS,yF,yI,yJ,yL,yP];refine bk Zg (aaO bh bh) ?_;rintro _ rfl;refine bk wX (Yk bh) ?_;rintro _ rfl;refine bk (VR (a:=Const 0)) (Yk (fQ.bR _)) ?_;rintro _ rfl;refine Zh Vs.nil (aW.bR _) (aW.bR _) rfl rfl λ n7 h8 V8=>?_
 refine Py (is:=[X1 1 0,M8 (Const 0)]) V8 λ m4 j3=>?_
 refine j3.alloc λ T m3 j2=>?_
 refine j2.eU 0 (s:=8) (cs':=lM.e.cells) rfl rfl rfl (Code.bR lM).one λ m2 g2=>?_
 simp only[List.set_cons_zero]at g2;refine bk Zg (aaO bh bh) ?_;rintro _ rfl;refine bk u4 (Yk bh) ?_;rintro _ rfl;refine bk (VR (a:=kG 0)) (Yk (fQ.bR _)) ?_;rintro _ rfl;refine Zh g2 (aW.bR _) (aW.bR _) rfl rfl λ j8 m1 h9=>?_
 refine Py (is:=[X1 1 0,M8 (kG 0)]) h9 λ m0 h7=>?_
 refine h7.alloc λ a2 l4 h6=>?_
 refine h6.eU 0 (s:=8) (cs':=L4.e.cells) rfl rfl rfl (Code.bR L4).one λ l3 e9=>?_
 simp only[List.set_cons_zero]at e9;rw[fF rfl];refine acJ e9 bh rfl λ j7 l2 h5=>?_
 refine acI (els:=List.replicate 8 (.int .i32 0)) h5 (λ x hx y hy=>by
  rw[List.eq_of_mem_replicate hx]at hy;simp[D.cells]at hy;subst hy
  rfl) λ a6 k9 g9=>?_
 refine g9.alloc λ S k8 g8=>?_
 refine g8.eU 0 (s:=2) (cs':=[.int .i64 1,.nil]) rfl rfl rfl (λ x hx=>by simp at hx;rcases hx with rfl|rfl<;>rfl) λ k7 a5=>?_
 simp only[List.set_cons_zero]at a5
 have c6:∀{X:LSq}{h:Heap}{s:Slot}{K:D->Prop},Vs h (X++[(S,.box (.agg [.int .i64 1,.nil])),(a6,s),(a2,.box (.agg L4.e.cells)),(T,.box (.agg lM.e.cells))])->an PP (.ld (.c (.ptr T 0 0)) 8 true) h K=K lM.e:=λ {X h s K} V =>
  V.yY (X.length+3) (s:=8) (by rw[List.getElem?_append_right (by omega),Nat.add_sub_cancel_left];rfl) rfl
 have c5:∀{X:LSq}{h:Heap}{s:Slot}{K:D->Prop},Vs h (X++[(S,.box (.agg [.int .i64 1,.nil])),(a6,s),(a2,.box (.agg L4.e.cells)),(T,.box (.agg lM.e.cells))])->an PP (.ld (.c (.ptr a2 0 0)) 8 true) h K=K L4.e:=λ {X h s K} V =>
  V.yY (X.length+2) (s:=8) (by rw[List.getElem?_append_right (by omega),Nat.add_sub_cancel_left];rfl) rfl
 have Q:∀{X:LSq}{h:Heap}{s:Slot}{K:D->Prop},Vs h (X++[(S,.box (.agg [.int .i64 1,.nil])),(a6,s),(a2,.box (.agg L4.e.cells)),(T,.box (.agg lM.e.cells))])->an PP (.ld (.c (.ptr S 0 0)) 2 true) h K=K (.agg [.int .i64 1,.nil]):=λ {X h s K} V =>
  V.yY (X.length+0) (s:=2) (by rw[List.getElem?_append_right (by omega),Nat.add_sub_cancel_left];rfl) rfl
 have e4:∀{X:LSq}{h:Heap}{s:Slot}{KH:HKq},Vs h (X++[(S,.box (.agg [.int .i64 1,.nil])),(a6,s),(a2,.box (.agg L4.e.cells)),(T,.box (.agg lM.e.cells))])->ab PP (.ld (.c (.ptr T 0 0)) 8 true) h KH=KH lM.e h:=λ {X h s K} V =>
  V.eR (X.length+3) (s:=8) (by rw[List.getElem?_append_right (by omega),Nat.add_sub_cancel_left];rfl) rfl
 have g7:∀{X:LSq}{h:Heap}{s:Slot}{KH:HKq},Vs h (X++[(S,.box (.agg [.int .i64 1,.nil])),(a6,s),(a2,.box (.agg L4.e.cells)),(T,.box (.agg lM.e.cells))])->ab PP (.ld (.c (.ptr S 0 0)) 2 true) h KH=KH (.agg [.int .i64 1,.nil]) h:=λ {X h s K} V =>
  V.eR (X.length+0) (s:=2) (by rw[List.getElem?_append_right (by omega),Nat.add_sub_cancel_left];rfl) rfl
 rw[c6 (X:=[]) a5,Q (X:=[]) a5,c5 (X:=[]) a5,Q (X:=[]) a5];refine Hn (l:=l1) (m:=m8) GW (λ _=>SL) (λ _ _=>XR) a5 (i:=1) rfl rfl Nr rfl λ s1 k6 g6 c7=>?_
 rw[Xc];simp only[List.set_cons_zero,List.set_cons_succ]at c7;refine⟨⟨by rw[c5 (X:=[]) c7];exact ae ▸ trivial,by rw[Q (X:=[]) c7];exact ae ▸ trivial,trivial⟩,?_⟩;refine Hn (l:=l1) (m:=m8) ab4 (λ _=>SL) (λ _ _=>XR) c7 (i:=1) rfl g6 Nr rfl λ s2 k5 g5 e8=>?_
 rw[aaa];simp only[List.set_cons_zero,List.set_cons_succ]at e8;refine e8.alloc λ H k4 c1=>?_
 refine⟨⟨by rw[c6 (X:=[_]) c1];exact ae ▸ trivial,by rw[Q (X:=[_]) c1];exact ae ▸ trivial,by rw[c5 (X:=[_]) c1];exact ae ▸ trivial,by rw[Q (X:=[_]) c1];exact ae ▸ trivial,trivial⟩,?_⟩;refine c1.alloc λ g3 k3 a8=>?_
 refine⟨⟨by rw[c6 (X:=[_,_]) a8];exact ae ▸ trivial,by rw[Q (X:=[_,_]) a8];exact ae ▸ trivial,by rw[c5 (X:=[_,_]) a8];exact ae ▸ trivial,by rw[Q (X:=[_,_]) a8];exact ae ▸ trivial,trivial⟩,?_⟩;refine a8.eU 1 (s:=10) (cs':=w0.cs++[.int .i64 0]) rfl rfl rfl (λ x hx=>D.cu (HQ (some w0,0) x hx)) λ k2 e7=>?_
 simp only[List.set_cons_zero,List.set_cons_succ]at e7;refine e7.eU 0 (s:=10) (cs':=wz++[.int .i64 4]) rfl rfl rfl (λ x hx=>D.cu (HQ (none,4) x hx)) λ G a7=>?_
 simp only[List.set_cons_zero,List.set_cons_succ]at a7;have u:=a7.get 1 _ _ rfl;have e5:=a7.get 0 _ _ rfl;have i0:∀{KH:HKq},ab PP (.iadda (.c (.ptr H 0 3)) (.c (.int .i64 0)) 2 1) G KH=KH (.ptr H 0 3) G:=λ {KH}=>oq (i:=0) rfl (by omega) u
 have i1:∀{KH:HKq},ab PP (.iadda (.c (.ptr H 0 3)) (.c (.int .i64 1)) 2 1) G KH=KH (.ptr H 0 4) G:=λ {KH}=>oq (i:=1) rfl (by omega) u
 have l0:∀{KH:HKq},ab PP (.ld (.c (.ptr H 0 3)) 1 false) G KH=KH (.int .i64 0) G:=λ {KH}=>cT u rfl
 have g4:∀{KH:HKq},ab PP (.ld (.c (.ptr H 0 4)) 1 false) G KH=KH (.int .i64 1) G:=λ {KH}=>cT u rfl
 have l5:∀{KH:HKq},ab PP (.ld (.c (.ptr H 0 5)) 2 true) G KH=KH (.agg [.int .i64 0,.int .i64 0]) G:=λ {KH}=>ml u (Nat.le_of_ble_eq_true rfl) rfl
 have l8:∀{KH:HKq},ab PP (.ld (.c (.ptr H 0 8)) 1 false) G KH=KH (.int .i64 0) G:=λ {KH}=>cT u rfl
 have l9:∀{KH:HKq},ab PP (.ld (.c (.ptr H 0 9)) 1 false) G KH=KH (.int .i64 0) G:=λ {KH}=>cT u rfl
 have m9:∀{KH:HKq},ab PP (.ld (.c (.ptr g3 0 9)) 1 false) G KH=KH (.int .i64 4) G:=λ {KH}=>cT e5 rfl
 have ev:∀{KH:HKq},ab PP (.eqv true true [.i,.i] (.c (.agg [.int .i64 0,.int .i64 0])) (.c (.agg [.int .i64 0,.int .i64 0]))) G KH=KH (.bool false) G:=λ {KH}=>by
  rw[MB];simp[veqv,eqCells,D.isAgg]
 simp (disch:=omega) only[↓kn u,↓kn e5,↓i0,↓i1,↓l0,↓g4,↓l5,↓l8,↓l9,↓m9,↓ev,↓cS,↓gS,↓e4 (X:=[_,_]) a7,Int.zero_add];refine Hn (l:=⟨0,[]⟩) (m:=m8) GW (λ h=>absurd h (by decide)) (λ h=>absurd h (by decide)) a7 (i:=3) rfl g5 Nr rfl λ s3 j6 j9 a1=>?_
 rw[Xe,Vg (d:=.int .i64 40) rfl];simp only[List.set_cons_zero,List.set_cons_succ]at a1;simp (disch:=omega) only[↓cS,↓gS,↓e4 (X:=[_,_]) a1,↓g7 (X:=[_,_]) a1];refine Tm (l:=l1) GW (λ _=>SL) (λ _ h=>absurd h (by decide)) a1 Nr rfl λ e0 c4=>?_
 rw[Xd,Vg (d:=.int .i64 1) rfl];have u:=c4.get 1 _ _ rfl;have e1:∀{KH:HKq},ab PP (.ld (.c (.ptr H 0 0)) 9 true) e0 KH=KH (.agg w0.cs) e0:=λ {KH}=>ml u (Nat.le_of_ble_eq_true rfl) rfl
 simp (disch:=omega) only[↓cS,↓gS,↓e4 (X:=[_,_]) c4,↓kn u,↓e1];refine Pz GW SL XR ?_;obtain⟨A,B,hr,hA,hB⟩:=Uh;obtain⟨x0,x1,rfl,hx⟩:=OH hA;obtain⟨y0,y1,rfl,hy⟩:=OH hB;rw[Xb,hr];refine c4.alloc λ W j5 g1=>?_
 refine g1.eU 0 (s:=3) (cs':=[.sl ([x0,x1].map Ev.e),.sl ([y0,y1].map Ev.e),.int .i64 0]) rfl rfl rfl (λ x hx=>by simp at hx;rcases hx with rfl|rfl|rfl<;>rfl) λ c9 c3=>?_
 simp only[List.set_cons_zero]at c3;have u:=c3.get 2 _ _ rfl;have e1:∀{KH:HKq},ab PP (.ld (.c (.ptr H 0 0)) 9 true) c9 KH=KH (.agg w0.cs) c9:=λ {KH}=>ml u (Nat.le_of_ble_eq_true rfl) rfl
 rw[kn u,e1];refine c3.alloc λ U j4 g0=>?_
 refine g0.eU 0 (s:=9) (cs':=w0.cs) rfl rfl rfl w0.bR.one λ c8 c2=>?_
 simp only[List.set_cons_zero]at c2;have Z:=c2.get 0 _ _ rfl;have i5:∀{KH:HKq},ab PP (.iadda (.c (.ptr U 0 5)) (.c (.int .i64 0)) 2 1) c8 KH=KH (.ptr U 0 5) c8:=λ {KH}=>oq (i:=0) rfl (by omega) Z
 rw[kn Z,i5];refine c2.DO 0 (cs:=w0.cs) rfl (Nat.le_of_ble_eq_true rfl) rfl λ E O=>?_
 simp only[List.set_cons_zero]at O;have Z:E U=.box (.agg ({ w0 with n0:=1 }:fU).cs):=O.get 0 _ _ rfl;have I:=O.get 1 _ _ rfl;have u:=O.get 3 _ _ rfl;have j0:∀{j:Nat}{K:D->Prop},an PP (.iadda (.c (.ptr W 0 j)) (.c (.int .i64 0)) 2 1) E K=K (.ptr W 0 j):=λ {j K}=>by rw[jC];exact oq (i:=0) rfl (by omega) I
 have j1:∀{j:Nat}{K:D->Prop},an PP (.iadda (.c (.ptr W 0 j)) (.c (.int .i64 1)) 2 1) E K=K (.ptr W 0 (j+1)):=λ {j K}=>by rw[jC];exact oq (i:=1) rfl (by omega) I
 have k0:∀{j:Nat}{K:D->Prop},an PP (.iadda (.c (.ptr H 0 j)) (.c (.int .i64 0)) 2 1) E K=K (.ptr H 0 j):=λ {j K}=>by rw[jC];exact oq (i:=0) rfl (by omega) u
 have k1:∀{j:Nat}{K:D->Prop},an PP (.iadda (.c (.ptr H 0 j)) (.c (.int .i64 1)) 2 1) E K=K (.ptr H 0 (j+1)):=λ {j K}=>by rw[jC];exact oq (i:=1) rfl (by omega) u
 have q3:∀{K:D->Prop},an PP (.ld (.c (.ptr H 0 3)) 1 false) E K=K (.int .i64 0):=λ {K}=>aX u rfl
 have q4:∀{K:D->Prop},an PP (.ld (.c (.ptr H 0 4)) 1 false) E K=K (.int .i64 1):=λ {K}=>aX u rfl
 have a0:∀{K:D->Prop},an PP (.iadd (.c (.sl ([x0,x1].map Ev.e))) (.c (.int .i64 0)) 9) E K=K (.vp x0.e 0):=λ {K}=>by rw[eD];exact MH (xs:=[x0,x1]) (k:=0) rfl
 have b0:∀{K:D->Prop},an PP (.iadd (.c (.sl ([y0,y1].map Ev.e))) (.c (.int .i64 0)) 9) E K=K (.vp y0.e 0):=λ {K}=>by rw[eD];exact MH (xs:=[y0,y1]) (k:=0) rfl
 have i2:∀{e:Ev}{K:D->Prop},an PP (.fadd (.c (.vp e.e 0)) 2) E K=K (.vp e.e 2):=λ {e K}=>by rw[qo]
 have li:∀{e:Ev}{K:D->Prop},an PP (.ld (.c (.vp e.e 2)) 1 false) E K=K (.int .i64 e.item):=λ {e K}=>by rw[fB];exact L8 rfl
 have e6:∀{K:D->Prop},an PP (.ld (.c (.ptr U 0 0)) 9 true) E K=K (.agg ({ w0 with n0:=1 }:fU).cs):=λ {K}=>gI Z (Nat.le_of_ble_eq_true rfl) rfl
 simp (disch:=omega) only[↓et I,↓aX I (j:=2) rfl,↓aX I (j:=0) rfl,↓aX I (j:=1) rfl,↓j0,↓j1,↓k0,↓k1,↓q3,↓q4,↓a0,↓b0,↓i2,↓li,hx,hy,↓et u,↓gd,aE,List.length_cons,List.length_nil,↓cS,↓gS,↓Ma,Nat.zero_add,Nat.reduceAdd,↓e6,↓c6 (X:=[_,_,_,_]) O];have wd:xt (.agg ({ w0 with n0:=1 }:fU).cs):=fU.bR _;refine Ai (Pb (w:={ w0 with n0:=1 }) GW SL (aaV GW.toba SL) XR) (aaO (Code.bR lM) wd) ?_;rw[Zf,Vg (d:=.int .i64 4) (by rw[Xa];generalize nw lM { w0 with n0:=1 }=o;cases o<;>rfl),eqT rfl];exact bO ▸ rfl
end Go.Am
namespace Go.Am
open Go Go.Proofs
set_option maxRecDepth 100000
theorem adf:Tryz.prog.underlying 22=some (.slice 5):=by kernel_rfl
theorem u5_:Tryz.prog.underlying 5=some (.int .u8):=by kernel_rfl
theorem ade:Tryz.prog.underlying 25=some (.int .i8):=by kernel_rfl
theorem adb:Tryz.prog.underlying 26=some (.array 8 25):=by kernel_rfl
theorem ada:Tryz.prog.underlying 27=some (.array 4 25):=by kernel_rfl
theorem u3_:Tryz.prog.underlying 3=some (.int .i64):=by kernel_rfl
theorem t24:structL Tryz.prog 24=some [(22,0)]:=by kernel_rfl
theorem t29:structL Tryz.prog 29=some [(5,0),(26,1),(27,9)]:=by kernel_rfl
theorem z24:Tryz.prog.cellsOf 24=1:=by kernel_rfl
theorem z22:Tryz.prog.cellsOf 22=1:=by kernel_rfl
theorem z29:Tryz.prog.cellsOf 29=13:=by kernel_rfl
theorem z5:Tryz.prog.cellsOf 5=1:=by kernel_rfl
theorem z26:Tryz.prog.cellsOf 26=8:=by kernel_rfl
theorem z27:Tryz.prog.cellsOf 27=4:=by kernel_rfl
theorem z25:Tryz.prog.cellsOf 25=1:=by kernel_rfl
theorem z3:Tryz.prog.cellsOf 3=1:=by kernel_rfl
theorem abB:Tryz.prog.underlying 64=some (.array 3 3):=by kernel_rfl
theorem z64:Tryz.prog.cellsOf 64=3:=by kernel_rfl
theorem YQ:IntKind.u8.min=0:=rfl
theorem abz:IntKind.u8.max=255:=rfl
theorem Z4 {m:Nat}{ds:List D}(h:HasTy Tryz.prog (m+3) 24 ds):∃bs:List Nat,mkElem Tryz.prog 24 ds=Cv bs/\(∀b∈bs,b<=255)/\bs.length<=9223372036854775807:=by
 obtain⟨u,E⟩:=Fs t24 h;rw[z24]at u;have q:=E (22,0) (by simp);simp only[z22,List.drop_zero]at q
 match ds,u with
 | [d],_ =>
  obtain⟨xs,h1,h2,h3⟩:=Qg adf u5_ q;simp at h1;subst h1;refine⟨xs.map Int.toNat,?_,λ b hb=>?_,by unfold maxLen at h2;simp;omega⟩
  ·rw[Mt t24,Cv,EG,List.map_map];congr 3;refine List.map_congr_left λ x hx=>?_
   have:=h3 x hx;rw[YQ]at this;show D.int .u8 x=D.int .u8 ((x.toNat:Nat):Int)
   rw[Int.toNat_of_nonneg this.1]
  ·simp only[List.mem_map]at hb;obtain⟨x,hx,rfl⟩:=hb;have:=h3 x hx;rw[YQ,abz]at this;omega
theorem RR {m n:Nat}{t:TypeId}{ds:List D}(hu:Tryz.prog.underlying t=some (.array n 25)) (hn:Tryz.prog.cellsOf t=n) (h:HasTy Tryz.prog (m+2) t ds):∃zs:List Int,ds=zs.map (.int .i8)/\zs.length=n:=by
 obtain⟨G,E⟩:=H0 hu h;rw[hn]at G;simp only[z25,Nat.mul_one]at E
 have:∀d∈ds,∃z,d=D.int .i8 z:=λ d hd=>by
  obtain⟨i,hi⟩:=db hd;have u:=(aq.1 hi).1;obtain⟨z,H,-,-⟩:=qD ade (E i (by omega));rw[List.drop_eq_getElem_cons u,List.take_succ_cons,List.take_zero]at H;rw[aG u]at hi;cases hi;exact⟨z,by simpa using H⟩
 clear E h hu hn;subst G
 induction ds with
 | nil=>exact⟨[],rfl,rfl⟩
 | cons d r I =>
  obtain⟨z,rfl⟩:=this d (by simp);obtain⟨zs,h1,h2⟩:=I λ x hx=>this x (by simp[hx])
  exact⟨z::zs,by rw[List.map_cons, <- h1],by simp[h2]⟩
theorem abA {m:Nat}{ds:List D}(h:HasTy Tryz.prog (m+1) 5 ds):∃g:Int,ds=[.int .u8 g]/\0<=g/\g<=255:=by
 obtain⟨g,h1,h2,h3⟩:=qD u5_ h;exact⟨g,h1,h2,h3⟩
theorem ab9 {m:Nat}{ds:List D}(h:HasTy Tryz.prog (m+3) 29 ds):∃(g:Int) (zs:List Int),mkElem Tryz.prog 29 ds=Mv g zs/\(0<=g/\g<=255)/\zs.length=12:=by
 obtain⟨G,e⟩:=Fs t29 h;rw[z29]at G;have I:=e (5,0) (by simp);have H:=e (26,1) (by simp);have e2:=e (27,9) (by simp);simp only[z5,z26,z27,List.drop_zero]at I H e2;obtain⟨g,hg,U,T⟩:=abA I;obtain⟨Q,E,l1⟩:=RR adb z26 H;obtain⟨O,u,S⟩:=RR ada z27 e2;refine⟨g,Q++O,?_,⟨U,T⟩,by simp[l1,S]⟩;rw[Mt t29,Mv];congr 1
 match ds,G with
 | [d0,d1,d2,d3,d4,d5,d6,d7,d8,d9,d10,d11,d12],_ =>
  simp at hg E u;simp[<- E, <- u,hg]
theorem ZE {m:Nat}{ds:List D}(h:HasTy Tryz.prog (m+2) 64 ds):∃a b c:Int,mkElem Tryz.prog 64 ds=z3D a b c:=by
 obtain⟨E,u⟩:=H0 abB h;rw[z64]at E;simp only[z3,Nat.mul_one]at u;obtain⟨a,ha,-,-⟩:=qD u3_ (u 0 (by omega));obtain⟨b,hb,-,-⟩:=qD u3_ (u 1 (by omega));obtain⟨c,hc,-,-⟩:=qD u3_ (u 2 (by omega));rw[UJ abB]
 match ds,E with
 | [d0,d1,d2],_ =>
  simp at ha hb hc;exact⟨a,b,c,by rw[ha,hb,hc];rfl⟩
theorem SK (xs:List D) (h:Ly Tryz.prog 12 Tryz.f4.params.toList xs):aV Tryz.prog 4 xs (· = .bool true):=by
 have hp:Tryz.f4.params.toList=[24,29,64]:=by kernel_rfl
 rw[hp]at h;obtain⟨I,T,rfl,h1,H,S,rfl,h2,G,Q,rfl,h3,rfl⟩:=h;obtain⟨bs,E,b1,b2⟩:=Z4 h1;obtain⟨g,O,e2,hg,u⟩:=ab9 h2;obtain⟨a,b,c,e3⟩:=ZE h3;show aV Tryz.prog 4 [mkElem Tryz.prog 24 I,mkElem Tryz.prog 29 H,mkElem Tryz.prog 64 G] _
 rw[E,e2,e3];exact VW ND b1 b2 hg u
end Go.Am
