/- What the functions of this chapter give, on plain data. No condition. -/
import Derived.Test.YtemgkmgmnnaloaaP2
set_option linter.unnecessarySimpa false
set_option linter.defProp false
set_option linter.unusedSectionVars false
set_option linter.unusedSimpArgs false
set_option linter.unusedVariables false
namespace Go.Am
open Go
theorem Ol {P:Program}{b:Bool}{h:Heap}{K:D->Prop}(hk:K (.bool true)):aq P (.eqv false false [.b] (.c (.bool b)) (.c (.bool b))) h K:=by
 rw[N9,Gm]
 refine⟨rfl,rfl,?_⟩
 simpa[veqv,eqCells] using hk
abbrev tW (x:IL) (dR dP dL:D):List D:=[.int .i64 x.id,.int .i64 x.at_,.int .i64 x.block,.int .i64 x.epoch,dR,dP,dL]
theorem xK {h h':Heap}{q e:Nat}{els:List D}{n:Nat}(kb:DT h h' (.ms q 0 n)){k:Nat}(hk:h k≠.free) (hne:k≠q):h' k=h k :=
 kb k hk fun l e=>by cases e;exact hne rfl
theorem EH {h:Heap}{v d:D}{els:List D}{n:Nat}{s:Slot}(o:Own 1 h v els) (hn:h n=.box d):Own 1 (ah h n s) v els:=by
 rcases o with o|⟨k,o1,o2⟩
 ·exact Or.inl o
 ·exact Or.inr ⟨k,o1,by rw[aa _ _ (by rintro rfl;rw[hn]at o2;cases o2)];exact o2⟩
theorem Lt {bs:List Nat}{g:Int}{zs:List Int}{id st a b:Int}(hb:∀b∈bs,b<=255) (hbl:bs.length<=9223372036854775807) (hp:Ho g zs id st) :
  aD PP mc [kJ bs,dj g zs id st,.agg [.int .i64 a,.int .i64 b]] (· = .bool true):=by
 refine bf sU (aB _ _ _) rfl (sf _ _ _ _) ?_
 (unfold mB;try dsimp only[xL,yL,xF,yF,xI,yI,xS,zI,zJ])
 have hz:=hp.z
 refine bJ.start.box (Kd bs).one fun n1 h1 ro1 B=>?_
 refine B.box (EF g zs id st) fun n2 h2 ro2 B=>?_
 refine B.box (by simp) fun n3 h3 ro3 B=>?_
 refine ba Iq trivial ?_
 simp only[↓xg,↓ae]
 rw[B.dq (s:=1) 2 rfl rfl rfl,B.dq (s:=15) 1 rfl rfl (by simp[dj,hz])]
 refine bF (Nz hb hbl hp) (fun d hd=>by simp at hd;rcases hd with rfl|rfl;exact(Kd bs).pair;exact(Li g zs id st).pair) ?_
 rintro _ ⟨c,l,s,hc,hl,V,rfl⟩
 refine B.alloc fun n4 h4 ro4 B=>?_
 refine B.OJ 0 (d':=Gg c l s) rfl rfl rfl rfl rfl (Kk c l s) fun h5 B=>?_
 have B:bJ aG qO h5 ro4 [(n4,Gg c l s),(n3,.agg [.int .i64 a,.int .i64 b]),(n2,dj g zs id st),(n1,kJ bs)]:=B
 simp only[↓bc (B.used 0 rfl),Nat.zero_add,B.QI 0 rfl,B.RH 0 rfl,B.UU 0 rfl]
 refine ba (Jh hc hl V.it.toOO V.g V.s) ⟨Code.bR c,de.bR l,th.bR s,bb,trivial⟩ ?_
 obtain⟨V2,hev⟩:=IW (av:=0) hc hl V.it V.g V.s
 obtain⟨q,hq⟩:∃q,q=fS c l s.it s.g s.s 0:=⟨_,rfl⟩
 rw[<- hq]at V2 hev ⊢
 refine B.alloc fun n5 h6 ro6 B=>?_
 refine B.OJ 0 (d':=gK q) rfl rfl rfl rfl rfl (sZ q) fun h7 B=>?_
 have B:bJ aG qO h7 ro6 [(n5,gK q),(n4,Gg c l s),(n3,.agg [.int .i64 a,.int .i64 b]),(n2,dj g zs id st),(n1,kJ bs)]:=B
 simp only[↓bc (B.used 1 rfl),Nat.zero_add,Nat.add_zero,B.QI 1 rfl,B.Ui 1 rfl,B.RY 2 (j:=0) (a:=1) rfl ⟨by omega,by omega⟩,show((1:Int)).toNat=1 from rfl,B.bY 2 (j:=1) rfl rfl rfl,↓bW]
 refine ba (NA (v:=IntKind.i32.wrap b) hc V.it.toOO) ⟨Code.bR c,It.bR _,bb,trivial⟩ ?_
 have Vp:=I8 hc V.it (cV b)
 obtain⟨p,hp2⟩:∃p,p=kn c s.it (IntKind.i32.wrap b):=⟨_,rfl⟩
 have hp3:(kn c s.it (oq b))=p:=hp2.symm
 rw[hp3]at Vp
 rw[<- hp2]
 refine B.alloc fun n6 h8 ro8 B=>?_
 refine B.OJ 0 (d':=oj p) rfl rfl rfl rfl rfl (kU p) fun h9 B=>?_
 have B:bJ aG qO h9 ro8 [(n6,oj p),(n5,gK q),(n4,Gg c l s),(n3,.agg [.int .i64 a,.int .i64 b]),(n2,dj g zs id st),(n1,kJ bs)]:=B
 simp only[↓bc (B.used 2 rfl),Nat.zero_add,Nat.add_zero,B.QI 2 rfl,B.RH 2 rfl,B.bY 2 (j:=10) rfl rfl rfl]
 refine ba (G0 (id:=s.it.id) hc hl) ⟨Code.bR c,de.bR l,bb,trivial⟩ ?_
 rw[s8 V.it.id]
 have Vt:LZ c l (bu c s.it.id 0 1):=DR hc V.it.id (by omega) (Or.inl rfl)
 obtain⟨t,ht⟩:∃t:It×Int,t=(bu c s.it.id 0 1,0):=⟨_,rfl⟩
 have Vt:LZ c l t.1:=by rw[ht];exact Vt
 have ht2:t.2=0:=by rw[ht]
 rw[<- ht]
 clear ht
 refine B.alloc fun n7 h10 ro10 B=>?_
 refine B.OJ 0 (d':=oj t) rfl rfl rfl rfl rfl (kU t) fun h11 B=>?_
 have B:bJ aG qO h11 ro10 [(n7,oj t),(n6,oj p),(n5,gK q),(n4,Gg c l s),(n3,.agg [.int .i64 a,.int .i64 b]),(n2,dj g zs id st),(n1,kJ bs)]:=B
 have u3:=B.used 3 rfl
 have u2:=B.used 2 rfl
 have u1:=B.used 1 rfl
 have u0:=B.used 0 rfl
 simp only[↓bc u3,Nat.zero_add,Nat.add_zero,B.QI 3 rfl,B.RH 3 rfl,B.Ui 3 rfl]
 refine ba (OV hc hl V.it) ⟨Code.bR c,de.bR l,It.bR _,trivial⟩ ?_
 simp only[↓xg,↓rl,↓bc u3,↓bc u2,Nat.zero_add,Nat.add_zero,B.QI 3 rfl,B.RH 3 rfl,B.UI 2 rfl]
 refine ba (OV hc hl V2.it) ⟨Code.bR c,de.bR l,It.bR _,trivial⟩ ?_
 simp only[↓xg,↓rl,↓cq,↓bc u3,↓bc u1,Nat.zero_add,Nat.add_zero,B.QI 3 rfl,B.RH 3 rfl,B.ite 1 rfl]
 refine ba (OV hc hl Vp) ⟨Code.bR c,de.bR l,It.bR _,trivial⟩ ?_
 simp only[↓xg,↓rl,↓cq,↓bc u3,↓bc u0,Nat.zero_add,Nat.add_zero,B.QI 3 rfl,B.RH 3 rfl,B.ite 0 rfl]
 refine ba (OV hc hl Vt) ⟨Code.bR c,de.bR l,It.bR _,trivial⟩ ?_
 simp only[↓xg,↓rl,↓cq,↓bc u3,↓bc u0,Nat.zero_add,Nat.add_zero,B.bY 0 (j:=7) rfl rfl rfl,ht2,↓cf,decide_true,Bool.not_true,↓ae,B.Ui 3 rfl]
 have hrl:=V.it.len
 have hcr:=hc.regs
 have hpb:=V.it.priv.b hc
 have hpl:=hpb.len
 refine JQ (Ge (ro:=ro10) (it:=s.it) (by omega) hpb fun dR dP dL h12 ro12 x12 R P L=>?_)
 have B:=B.step x12.fr
 obtain⟨kP,els,rfl,y,-⟩:=P
 obtain⟨p1,p2,p3⟩:=y.Jo
 have far:∀j,(ro12 j=.regs\/ro12 j=.sl\/ro12 j=.no)->dh h12 kP 1 els j=h12 j:=fun j hj=>p3 j (fun i e=>by rw[e]at hj;simp at hj) (by rintro rfl;rw[y.rk]at hj;simp at hj)
 refine⟨dh h12 kP 1 els,.step y.hk p1 (.refl _),?_⟩
 have B:=B.re (h0:=aG) (h':=dh h12 kP 1 els) fun x hx=>far x.1 (Or.inr (Or.inr (B.at_ x hx).2.1))
 have P:IK (dh h12 kP 1 els) ro12 (.ms kP 0 s.it.priv.length) s.it.priv:=⟨kP,rfl,by rw[jj,p2],y.rk⟩
 have R:lN (dh h12 kP 1 els) ro12 dR s.it.regs:=by
  obtain⟨k,e1,e2,e3⟩:=R
  exact⟨k,e1,by rw[far k (Or.inl e3)];exact e2,e3⟩
 have L:OM (dh h12 kP 1 els) ro12 dL:=by
  obtain⟨k,e1,e2,e3⟩:=L
  exact⟨k,e1,by rw[far k (Or.inr (Or.inl e3))];exact e2,e3⟩
 generalize dh h12 kP 1 els=h13 at B P R L
 generalize D.ms kP 0 s.it.priv.length=dP at P
 clear far p1 p2 p3 y x12
 have oR:=R.f1.one
 have oP:=P.f1.one
 have oL:=L.f1.one
 refine B.JO fun n8 h14 ro14 kp B=>?_
 have R:=R.aw kp
 have P:=P.aw kp
 have L:=L.aw kp
 refine B.Lc 0 (cs':=oX s.it dR dP dL) rfl rfl rfl (by simp[oR,oP,oL]) fun h15 kp B=>?_
 have R:=R.aw kp
 have P:=P.aw kp
 have L:=L.aw kp
 obtain⟨L0,hL0⟩:∃L0:List (Nat×D),L0=[(n7,oj t),(n6,oj p),(n5,gK q),(n4,Gg c l s),(n3,.agg [.int .i64 a,.int .i64 b]),(n2,dj g zs id st),(n1,kJ bs)]:=⟨_,rfl⟩
 have B:bJ aG qO h15 ro14 ((n8,.agg (tW s.it.g dR dP dL))::L0):=by rw[hL0];exact B
 have e4:L0[3]?=some (n4,Gg c l s):=by rw[hL0];rfl
 have e3:L0[4]?=some (n3,.agg [.int .i64 a,.int .i64 b]):=by rw[hL0];rfl
 have x4:∀{d:D},((n8,d)::L0)[4]?=some (n4,Gg c l s):=e4
 have x5:∀{d:D},((n8,d)::L0)[5]?=some (n3,.agg [.int .i64 a,.int .i64 b]):=e3
 have hb0:Qv s.it.g:=⟨by show s.it.regs.length<=1000;omega,by show 0<=1000;omega,hpl⟩
 refine⟨fun _ h'=>∃(ro':Ro) (x:IL) (dR dP dL:D),bJ aG qO h' ro' ((n8,.agg (tW x dR dP dL))::L0)/\sE h' dR (words x.regs)/\sE h' dP (aO x.priv)/\sE h' dL (words x.slots)/\Qv x,?_,?_⟩
 ·rintro _ h' ⟨ro',x,dR,dP,dL,B,f1,f2,f3,hb⟩
  have fz:Hr h' [c.e,l.e,.agg (tW x dR dP dL)] [c.e,l.e,x.e]:=.cons (gY (Code.bR c)) (.cons (gY (de.bR l)) (.cons (Cb.agg (.cons (aM rfl) (.cons (aM rfl) (.cons (aM rfl) (.cons (aM rfl) (.cons f1 (.cons f2 (.cons f3 .nil)))))))) .nil))
  simp only[↓aJ,B.used 4 x4,Nat.zero_add,true_and,↓bN,B.QI 4 x4,B.RH 4 x4,B.dq (s:=7) 0 rfl rfl rfl]
  refine Kx fz (GO hc hl hb) rfl ?_
  refine Kx fz (Pl hc hl hb) rfl ?_
  refine Ol ?_
  simp only[↓CW,↓lI,↓cv]
  exact aQ.mpr rfl
 clear u0 u1 u2 u3
 have u0:=B.used 0 rfl
 have ld0:∀{K:HK},(ab PP (.iadda (.c (.ptr n3 0 0)) (.c (.int .i64 0)) 2 1) h15 fun a h=>ab PP (.ld (.c a) 1 false) h K)=K (.int .i64 a) h15:=fun {K}=>by
  rw[B.RY 5 (j:=0) (a:=0) x5 ⟨by omega,by omega⟩];exact B.bY 5 (j:=0) x5 rfl rfl
 have CV:∀{K:HK},(ab PP (.iadda (.c (.ptr n3 0 0)) (.c (.int .i64 1)) 2 1) h15 fun a h=>ab PP (.ld (.c a) 1 false) h K)=K (.int .i64 b) h15:=fun {K}=>by
  rw[B.RY 5 (j:=0) (a:=1) x5 ⟨by omega,by omega⟩];exact B.bY 5 (j:=1) x5 rfl rfl
 have un:∀p,p∈((n8,D.agg (tW s.it.g dR dP dL))::L0)->h15 p.1≠.free/\ro14 p.1=.no:=fun p hp=>⟨by rw[(B.at_ p hp).1];simp,(B.at_ p hp).2.1⟩
 rw[ld0]
 rw[Mi]
 generalize ibits .and .i64 a 7=z
 rw[aE]
 by_cases z0:z=0
 ·simp only[z0,decide_true,↓af,↓bc u0,Nat.zero_add,B.bY 0 (j:=0) rfl rfl rfl,CV,↓bj]
  refine B.Et 0 (j:=0) rfl (by simp) rfl fun h16 kp B=>?_
  exact⟨ai.symm ▸ trivial,ro14,⟨IntKind.i64.wrap (s.it.id+b),s.it.at_,s.it.block,s.it.epoch,s.it.regs,s.it.priv,[]⟩,dR,dP,dL,B,(R.aw kp).f1,(P.aw kp).f1,(L.aw kp).f1,⟨hb0.r,hb0.s,hb0.p⟩⟩
 simp only[z0,decide_false,↓ae,↓aE]
 by_cases z1:z=1
 ·simp only[z1,decide_true,↓af,↓bc u0,Nat.zero_add,CV,↓Mi]
  refine B.Et 0 (j:=1) rfl (by simp) rfl fun h16 kp B=>?_
  exact⟨ai.symm ▸ trivial,ro14,⟨s.it.id,ibits .and .i64 b 7,s.it.block,s.it.epoch,s.it.regs,s.it.priv,[]⟩,dR,dP,dL,B,(R.aw kp).f1,(P.aw kp).f1,(L.aw kp).f1,⟨hb0.r,hb0.s,hb0.p⟩⟩
 simp only[z1,decide_false,↓ae,↓aE]
 by_cases z2:z=2
 ·simp only[z2,decide_true,↓af,↓bc u0,Nat.zero_add,B.bY 0 (j:=2) rfl rfl rfl,CV,↓bj]
  refine B.Et 0 (j:=2) rfl (by simp) rfl fun h16 kp B=>?_
  exact⟨ai.symm ▸ trivial,ro14,⟨s.it.id,s.it.at_,IntKind.i64.wrap (s.it.block+b),s.it.epoch,s.it.regs,s.it.priv,[]⟩,dR,dP,dL,B,(R.aw kp).f1,(P.aw kp).f1,(L.aw kp).f1,⟨hb0.r,hb0.s,hb0.p⟩⟩
 simp only[z2,decide_false,↓ae,↓aE]
 by_cases z3:z=3
 ·simp only[z3,decide_true,↓af,↓bc u0,Nat.zero_add,B.bY 0 (j:=3) rfl rfl rfl,CV,↓bj]
  refine B.Et 0 (j:=3) rfl (by simp) rfl fun h16 kp B=>?_
  exact⟨ai.symm ▸ trivial,ro14,⟨s.it.id,s.it.at_,s.it.block,IntKind.i64.wrap (s.it.epoch+b),s.it.regs,s.it.priv,[]⟩,dR,dP,dL,B,(R.aw kp).f1,(P.aw kp).f1,(L.aw kp).f1,⟨hb0.r,hb0.s,hb0.p⟩⟩
 simp only[z3,decide_false,↓ae,↓aE]
 by_cases z4:z=4
 ·simp only[z4,decide_true,↓af,↓bc u0,Nat.zero_add,B.bY 0 (j:=4) rfl rfl rfl,CV,↓bW]
  obtain⟨kR,rfl,r2,r3⟩:=R
  refine EW (els:=wr s.it.regs) (Or.inr ⟨kR,by rw[ja],r2⟩) rfl (by simp) rfl (by rw[ja];omega) (by rw[ja];omega) fun v h16 Ov kb=>?_
  have B:=B.re (h0:=aG) (h':=h16) fun x hx=>xK (e:=0) (els:=[]) kb (un x hx).1 (by intro e;have:=(un x hx).2;rw[e,r3]at this;cases this)
  have P:IK h16 ro14 dP s.it.priv:=by
   obtain⟨k,e1,e2,e3⟩:=P
   exact⟨k,e1,by rw[xK (e:=0) (els:=[]) kb (by rw[e2];simp) (by rintro rfl;rw[r3]at e3;cases e3)];exact e2,e3⟩
  have L:OM h16 ro14 dL:=by
   obtain⟨k,e1,e2,e3⟩:=L
   exact⟨k,e1,by rw[xK (e:=0) (els:=[]) kb (by rw[e2];simp) (by rintro rfl;rw[r3]at e3;cases e3)];exact e2,e3⟩
  have hw:wr s.it.regs++[.int .i32 (IntKind.i32.wrap b)]=wr (s.it.regs++[IntKind.i32.wrap b]):=by simp[wr]
  rw[hw]at Ov
  simp only[↓bc (B.used 0 rfl),Nat.zero_add]
  have O2:=EH (s:=.box (.agg ((tW s.it.g (.ms kR 0 s.it.regs.length) dP dL).set 4 v))) Ov (B.get 0 rfl)
  rw[Go.Am.GI (B.get 0 rfl) (by simp) (GS Ov).one]
  have kp:bX h16 ro14 (ah h16 n8 (.box (.agg ((tW s.it.g (.ms kR 0 s.it.regs.length) dP dL).set 4 v)))) ro14:=bX.av (by rw[(un _ (List.mem_cons_self ..)).2];rfl)
  exact⟨ai.symm ▸ trivial,ro14,⟨s.it.id,s.it.at_,s.it.block,s.it.epoch,s.it.regs++[IntKind.i32.wrap b],s.it.priv,[]⟩,v,dP,dL,B.av 0 rfl _,GS O2,(P.aw kp).f1,(L.aw kp).f1,⟨by simp;omega,hb0.s,hb0.p⟩⟩
 simp only[z4,decide_false,↓ae,↓aE]
 by_cases z5:z=5
 ·simp only[z5,decide_true,↓af,↓bc u0,Nat.zero_add,B.bY 0 (j:=6) rfl rfl rfl,CV,↓bW]
  obtain⟨kL,rfl,r2,r3⟩:=L
  refine EW (els:=[]) (Or.inr ⟨kL,rfl,r2⟩) rfl (by simp) rfl (by simp) (by simp) fun v h16 Ov kb=>?_
  have B:=B.re (h0:=aG) (h':=h16) fun x hx=>xK (e:=0) (els:=[]) kb (un x hx).1 (by intro e;have:=(un x hx).2;rw[e,r3]at this;cases this)
  have P:IK h16 ro14 dP s.it.priv:=by
   obtain⟨k,e1,e2,e3⟩:=P
   exact⟨k,e1,by rw[xK (e:=0) (els:=[]) kb (by rw[e2];simp) (by rintro rfl;rw[r3]at e3;cases e3)];exact e2,e3⟩
  have R:lN h16 ro14 dR s.it.regs:=by
   obtain⟨k,e1,e2,e3⟩:=R
   exact⟨k,e1,by rw[xK (e:=0) (els:=[]) kb (by rw[e2];simp) (by rintro rfl;rw[r3]at e3;cases e3)];exact e2,e3⟩
  have Ov:Own 1 h16 v (wr [IntKind.i32.wrap b]):=Ov
  simp only[↓bc (B.used 0 rfl),Nat.zero_add]
  have O2:=EH (s:=.box (.agg ((tW s.it.g dR dP (.ms kL 0 0)).set 6 v))) Ov (B.get 0 rfl)
  rw[Go.Am.GI (B.get 0 rfl) (by simp) (GS Ov).one]
  have kp:bX h16 ro14 (ah h16 n8 (.box (.agg ((tW s.it.g dR dP (.ms kL 0 0)).set 6 v)))) ro14:=bX.av (by rw[(un _ (List.mem_cons_self ..)).2];rfl)
  exact⟨ai.symm ▸ trivial,ro14,⟨s.it.id,s.it.at_,s.it.block,s.it.epoch,s.it.regs,s.it.priv,[IntKind.i32.wrap b]⟩,dR,dP,v,B.av 0 rfl _,(R.aw kp).f1,(P.aw kp).f1,GS O2,⟨hb0.r,by simp,hb0.p⟩⟩
 simp only[z5,decide_false,↓ae,↓aE]
 by_cases z6:z=6
 ·simp only[z6,decide_true,↓af,↓bc u0,Nat.zero_add,B.bY 0 (j:=5) rfl rfl rfl]
  obtain⟨kP,rfl,r2,r3⟩:=P
  refine EW (els:=s.it.priv.map words) (Or.inr ⟨kP,by rw[List.length_map],r2⟩) rfl (by simp) rfl (by rw[List.length_map];omega) (by rw[List.length_map];omega) fun v h16 Ov kb=>?_
  have B:=B.re (h0:=aG) (h':=h16) fun x hx=>xK (e:=0) (els:=[]) kb (un x hx).1 (by intro e;have:=(un x hx).2;rw[e,r3]at this;cases this)
  have R:lN h16 ro14 dR s.it.regs:=by
   obtain⟨k,e1,e2,e3⟩:=R
   exact⟨k,e1,by rw[xK (e:=0) (els:=[]) kb (by rw[e2];simp) (by rintro rfl;rw[r3]at e3;cases e3)];exact e2,e3⟩
  have L:OM h16 ro14 dL:=by
   obtain⟨k,e1,e2,e3⟩:=L
   exact⟨k,e1,by rw[xK (e:=0) (els:=[]) kb (by rw[e2];simp) (by rintro rfl;rw[r3]at e3;cases e3)];exact e2,e3⟩
  have fm:∀{h':Heap},Own 1 h' v (s.it.priv.map words++[.nil])->sE h' v (aO (s.it.priv++[[]])):=fun {h'} o=>by
   rcases o with⟨-,o⟩|⟨n,rfl,o2⟩
   ·simp at o
   ·refine P1 (els':=(s.it.priv++[[]]).map words) o2 (fun x hx y hy=>?_) ?_
    ·rcases List.mem_append.1 hx with hx|hx
     ·exact RR _ x hx y hy
     ·simp at hx;subst hx;simp[D.cells]at hy;subst hy;rfl
    ·rw[List.map_append]
     exact DS.app DS.rfl (.cons .nil .nil)
  simp only[↓bc (B.used 0 rfl),Nat.zero_add]
  have O2:=EH (s:=.box (.agg ((tW s.it.g dR (.ms kP 0 s.it.priv.length) dL).set 5 v))) Ov (B.get 0 rfl)
  rw[Go.Am.GI (B.get 0 rfl) (by simp) (fm Ov).one]
  have kp:bX h16 ro14 (ah h16 n8 (.box (.agg ((tW s.it.g dR (.ms kP 0 s.it.priv.length) dL).set 5 v)))) ro14:=bX.av (by rw[(un _ (List.mem_cons_self ..)).2];rfl)
  exact⟨ai.symm ▸ trivial,ro14,⟨s.it.id,s.it.at_,s.it.block,s.it.epoch,s.it.regs,s.it.priv++[[]],[]⟩,dR,v,dL,B.av 0 rfl _,(R.aw kp).f1,fm O2,(L.aw kp).f1,⟨hb0.r,hb0.s,by have:=hc.nar;have:=V.it.priv.len;simp;omega⟩⟩
 simp only[z6,decide_false,↓ae,↓bc u0,Nat.zero_add]
 refine B.Et 0 (j:=1) rfl (by simp) rfl fun h16 kp B=>?_
 have R:=R.aw kp
 have P:=P.aw kp
 have L:=L.aw kp
 simp only[↓bc (B.used 0 rfl),Nat.zero_add]
 refine B.Et 0 (j:=2) rfl (by simp) rfl fun h17 kp B=>?_
 exact⟨ai.symm ▸ trivial,ro14,⟨s.it.id,3,0,s.it.epoch,s.it.regs,s.it.priv,[]⟩,dR,dP,dL,B,(R.aw kp).f1,(P.aw kp).f1,(L.aw kp).f1,⟨hb0.r,hb0.s,hb0.p⟩⟩
end Go.Am
namespace Go.Am
open Go Go.Proofs
set_option maxRecDepth 100000
theorem Tk (xs:List D) (h:Fv Try.prog 12 Try.f4.params.toList xs):aD Try.prog 4 xs (· = .bool true):=by
 have hp:Try.f4.params.toList=[24,31,32]:=by kernel_rfl
 rw[hp]at h
 obtain⟨c1,r1,rfl,h1,c2,r2,rfl,h2,c3,r3,rfl,h3,rfl⟩:=h
 obtain⟨bs,e1,b1,b2⟩:=Ru h1
 obtain⟨g,zs,id,st,e2,P⟩:=M4 h2
 obtain⟨a,b,e3⟩:=Pu h3
 show aD Try.prog 4 [mkElem Try.prog 24 c1,mkElem Try.prog 31 c2,mkElem Try.prog 32 c3] _
 rw[e1,e2,e3]
 exact Lt b1 b2 P
end Go.Am
namespace Go.Am
open Go
theorem ik.at {h:Heap}{ro:Ro}{s:Nat}{d:D}{m:Mm}(x:ik h ro s d m){k:Nat}{w:List Int}(hk:m[k]?=some w) :
  ∃kk q,(∀(K:HK),ab PP (.iadd (.c d) (.c (.int .i64 (k:Int))) 1) h K=K (.ptr kk k 0) h)/\(∀(K:HK),ab PP (.ld (.c (.ptr kk k 0)) 1 false) h K=K (.ms q 0 w.length) h) /\
   h q=.arr 1 (wr w)/\ro q=.row s k/\∀i v,ik (ah h q (.arr 1 (wr (w.set i v)))) ro s d (m.set k (w.set i v)):=by
 obtain⟨kk,els,rfl,y,yo⟩:=x
 have hlt:=(List.getElem?_eq_some_iff.1 hk).1
 have hl:=y.len
 have he:els[k]?=some (els[k]'(by omega)):=List.getElem?_eq_getElem (by omega)
 obtain⟨q,hq,hq1,hq2⟩:∃q,els[k]'(by omega)=.ms q 0 w.length/\h q=.arr 1 (wr w)/\ro q=.row s k:=by
  rcases y.el k _ w he hk with g|g
  ·obtain⟨q,l,e⟩:=yo _ (List.getElem_mem (h:=(by omega:k<els.length)))
   rw[e]at g;cases g
  ·exact g
 rw[hq]at he
 refine⟨kk,q,fun K=>?_,fun K=>?_,hq1,hq2,fun i v=>?_⟩
 ·simp only[↓bM,y.hk,Slot.row]
  apply propext
  constructor
  ·rintro⟨-,-,-,h⟩;simpa using h
  ·intro h;exact⟨by omega,by omega,⟨_,rfl⟩,by simpa using h⟩
 ·rw[kV,y.hk]
  apply propext
  constructor
  ·rintro⟨-,h⟩
   exact h _ he
  ·intro h
   refine⟨by first|omega|(simp;omega),fun e he'=>?_⟩
   rw[he]at he';cases he'
   exact h
 ·have kq:kk≠q:=by rintro rfl;have:=y.rk;rw[hq2]at this;cases this
  refine⟨kk,els,by simp,⟨by rw[aa _ _ kq];exact y.hk,y.rk,by simp;exact hl,fun j e w' hj hw'=>?_⟩,yo⟩
  by_cases ej:j=k
  ·subst ej
   rw[he]at hj;cases hj
   rw[List.getElem?_set_self hlt]at hw';cases hw'
   exact Or.inr ⟨q,by simp,ad _ _ _,hq2⟩
  ·rw[List.getElem?_set_ne (Ne.symm ej)]at hw'
   rcases y.el j e w' hj hw' with g|⟨q',g1,g2,g3⟩
   ·exact Or.inl g
   ·exact Or.inr ⟨q',g1,by rw[aa _ _ (by rintro rfl;rw[hq2]at g3;cases g3;exact ej rfl)];exact g2,g3⟩
def U8 (e:Ev) (w:Int):Int:=if e.kind=3 then kW e.op w e.v else e.v
def Qx (m:Mm) (n i:Nat):Int:=(m.getD n []).getD i 0
def UJ (e:Ev) (m:Mm):Mm:=if e.kind=1 then m else HM m e.arr.toNat e.i.toNat (U8 e (Qx m e.arr.toNat e.i.toNat))
def Qc (c:Code) (e:Ev) (g s:Mm):Mm×Mm :=
 if e.kind=4 then(g,s) else if br c e.arr.toNat=2 then(g,UJ e s) else(UJ e g,s)
structure Ve (c:Code) (e:Ev) (g s:Mm) (n i:Nat) (r:bK):Prop where
 ea:e.arr=(n:Int)
 ei:e.i=(i:Int)
 hr:c.arrays[n]?=some r
 hi:(i:Int)<r.len
 sp:r.space=1\/r.space=2
 v:gE e.v
 k:(e.kind=1/\e.v=Qx (if r.space=2 then s else g) n i)\/e.kind=2\/(e.kind=3/\10<=e.op/\e.op<=29)
def TR (c:Code) (e:Ev) (g s:Mm):Prop:=e.kind=4\/∃n i r,Ve c e g s n i r
inductive Tr (c:Code) (id av block:Int):Int->Mm->Mm->List Ev->Mm->Mm->Prop where
 | nil (last:Int) (g s:Mm):Tr c id av block last g s [] g s
 | cons {last:Int}{g s:Mm}{e:Ev}{r:List Ev}{g' s':Mm}(h1:e.item=id) (h2:e.av=av) (h3:e.block=block) (h4:last<e.at_) (ok:TR c e g s)
   (t:Tr c id av block e.at_ (Qc c e g s).1 (Qc c e g s).2 r g' s'):Tr c id av block last g s (e::r) g' s'
section
variable {c:Code}{l:de}{id av block:Int}
theorem Tr.snoc {last k:Int}{g s g1 s1:Mm}{es:List Ev}{e:Ev}(t:Tr c id av block last g s es g1 s1) (hl:last<k) (ha:∀x∈es,x.at_<k) (h1:e.item=id) (h2:e.av=av) (h3:e.block=block) (h4:e.at_=k) (ok:TR c e g1 s1) :
  Tr c id av block last g s (es++[e]) (Qc c e g1 s1).1 (Qc c e g1 s1).2:=by
 induction t with
 | nil last g s=>exact .cons h1 h2 h3 (by omega) ok (.nil _ _ _)
 | cons a1 a2 a3 a4 ok' t ih=>exact .cons a1 a2 a3 a4 ok' (ih (ha _ (List.mem_cons_self ..)) (fun x hx=>ha x (List.mem_cons_of_mem _ hx)) ok)
end
end Go.Am
namespace Go.Am
open Go
end Go.Am
namespace Go.Am
open Go Go.Proofs
set_option maxRecDepth 100000
end Go.Am
