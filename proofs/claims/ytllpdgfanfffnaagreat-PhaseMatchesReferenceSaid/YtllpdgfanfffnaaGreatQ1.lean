/- What the functions of this chapter give, on plain data. No condition. -/
import Derived.Test.YtllpdgfanfffnaaGreatP3
set_option linter.unnecessarySimpa false
set_option linter.defProp false
set_option linter.unusedSectionVars false
set_option linter.unusedSimpArgs false
set_option linter.unusedVariables false
namespace Go.Am
open Go Go.Proofs
theorem Bz {l:List Int}{k:Int}(hl:l.length<=1000000):aK PP cJ [.sl (aQ l),.int .i64 k] (· = .bool (decide (k∈l))):=by
 refine aZ yu (aG _ _ _) rfl (xR _ _ _) ?_;unfold xT;refine⟨λ _ _=>k∉l,λ f h I=>?_,?_⟩
 ·rw[bb];simp[I]
 dsimp only[pR,xI,xL];refine⟨λ m q _=>∃i:Nat,i<=l.length/\m=l.length-i/\q=[.int .i64 (i:Int)]/\k∉l.take i,_,⟨0,by omega,rfl,rfl,by simp⟩,?_⟩;rintro m f h ⟨i,hi,hm,H,hn⟩;simp only[ah,and_true]at H;rw[xi,H];by_cases G:i<l.length
 ·obtain⟨b,hb⟩:∃b,l[i]?=some b:=⟨l[i],aq G⟩;rw[fY (by omega),af];refine iDi hb ?_;simp only[bq];by_cases he:b=k
  ·grind [af,bb]
  ·simp only[he,decide_false,↓ae];rw[bB (by omega) (by omega)];simp only[aa,true_and];refine⟨_,by omega,i+1,by omega,rfl,by simp,?_⟩;grind [List.take_add_one]
 grind [fU,ae,aa]
theorem adz {b:Bool}{x y:D}{h:Heap}{K:D->Prop}:au PP (.pick (.c (.bool b)) (.c x) (.c y)) h K=K (if b=true then x else y):=by rw[jL,cq]
def gE:=And.intro (@Nh)<|And.intro (@S3)<|And.intro (@SZ)<|And.intro (@S4)<|And.intro (@VT)<|And.intro (@adz)<|And.intro (@af) (@ae)
theorem Oq {c:Code}{l:List Int}(hnb:c.b.length<=1000) (hl:l.length<=1000000):aK PP kI [c.e,.sl (aQ l)] (· = .bool (decide (Kv c.b.length l))):=by
 refine aZ Eg (aG _ _ _) rfl (Dt _ _ _) ?_;dsimp only[xG,xB];refine Vs.nil.box c.b9.one λ n4 Q V=>?_
 refine⟨λ _ h=>h=Q/\Kv c.b.length l,?_,?_⟩
 ·grind [bb]
 dsimp only[qt,yF,yI,yL,yP];refine⟨λ m q h=>Q=h/\∃i:Nat,i<=l.length/\m=l.length-i/\q=[.int .i64 (i:Int)]/\Kv c.b.length (l.take i),_,⟨rfl,0,by omega,rfl,rfl,⟨by simp,by simp⟩⟩,?_⟩;rintro m f h6 ⟨e6,i,hi,hm,hq,I⟩;subst e6;simp only[ah,and_true]at hq;rw[xi,hq];by_cases a1:i<l.length
 ·obtain⟨b,hb⟩:∃b,l[i]?=some b:=⟨l[i],aq a1⟩
  have bad:¬Kv c.b.length (l.take (i+1))->ky (λ x=>x=.bool (decide (Kv c.b.length l))) (.bool false) Q:=λ hn=>by
   grind [bb,NF]
  have Z:∀{K:D->Prop}{j:Nat}{a:Int},l[j]?=some a->au PP (.iadd (.c (.sl (aQ l))) (.c (.int .i64 (j:Int))) 1) Q K=K (.vp (.int .i64 a) 0):=λ {K j a} ha=>by rw[gJ,WW ha]
  have dl:∀{K:D->Prop}{a:Int},au PP (.ld (.c (.vp (.int .i64 a) 0)) 1 false) Q K=K (.int .i64 a):=λ {K a}=>sw rfl
  rw[fY (by omega),af];simp only[↓Z hb,↓dl];by_cases h0:b<0
  ·rw[fY h0];simp only[gE,if_true,if_false,aC];exact bad λ h=>by have:=((jn hb).1 h).2.1;omega
  ·rw[fU (by omega)];simp only[gE,↓Z hb,↓dl,↓V.lH 0 rfl,Nat.zero_add,↓V.gw 0 (j:=7) rfl rfl,bD,aH];by_cases h1:(c.b.length:Int)<=b
   ·rw[geT h1];simp only[gE,if_true,if_false,aC];grind [jn]
   ·rw[geF (by omega)];simp only[gE,if_true,if_false,aC];have H:Kv c.b.length (l.take (i+1))->∃m,m<l.length-i/\∃G:Nat,G<=l.length/\m=l.length-G/\[D.int .i64 ((i:Int)+1)]=[.int .i64 (G:Int)]/\Kv c.b.length (l.take G):=λ h=>⟨_,by omega,i+1,by omega,rfl,by simp,h⟩
    cases i with
    | zero =>
     rw[WZ (by omega)];simp only[gE,if_true,if_false,aC];rw[bB (by omega) (by omega)];simp only[aa,true_and];subst hm;exact H ((jn hb).2 ⟨I,⟨by omega,by omega⟩,λ j a hj=>by omega⟩)
    | succ j =>
     obtain⟨a,ha⟩:∃a,l[j]?=some a:=⟨l[j]'(by omega),aq _⟩;rw[Yt (by omega)];simp only[gE,if_true,if_false,aC];rw[KG (by omega) (by omega)];have e1:(((j+1:Nat):Int)-1)=(j:Int):=by omega
     simp only[gE,e1,↓Z ha,↓Z hb,↓dl];by_cases a2:b<=a
     ·rw[geT a2];simp only[gE,if_true,if_false,aC];grind [jn]
     ·rw[geF (by omega)];simp only[gE,if_true,if_false,aC];rw[bB (by omega) (by omega)];simp only[aa,true_and];subst hm
      exact H ((jn hb).2 ⟨I,⟨by omega,by omega⟩,λ j' a' hj a6=>by
       grind⟩)
 ·have:i=l.length:=by omega
  subst this;rw[fU (by omega),ae];grind [aa]
end Go.Am
namespace Go.Am
open Go Go.Proofs
def ClB (c:Code) (S l:List Int) (b:Int):Prop:=∀B,c.b[b.toNat]?=some B->∀t,t∈bf B.t->(t:Int)∈(if B.t.kind=3 then S else l)
noncomputable def clB (c:Code) (S l:List Int):Bool:=@decide (Rk c S l) (Classical.propDecidable _)
theorem QY {c:Code}{S l:List Int}:clB c S l=true↔Rk c S l:=by grind [clB]
theorem YC {c:Code}{S l:List Int}(h:¬Rk c S l):clB c S l=false:=by grind [clB]
theorem Vf {c:Code}{S l:List Int}(hc:bp c) (hS:S.length<=1000000) (hl:l.length<=1000000) (hr:∀b∈l,0<=b/\b<(c.b.length:Int)):aK PP pe [c.e,.sl (aQ l),.sl (aQ S)] (· = .bool (clB c S l)):=by
 have c3:=hc.nb;refine aZ Ef (aG _ _ _) rfl (Ds _ _ _ _) ?_;dsimp only[xE,xB];refine Vs.nil.box c.b9.one λ n4 h5 V=>?_
 refine⟨λ _ _=>Rk c S l,λ f h Q=>by rw[bb,QY.2 Q],?_⟩;have bad:∀h,¬Rk c S l->ky (λ x=>x=.bool (clB c S l)) (.bool false) h:=λ h hn=>by rw[bb,YC hn]
 dsimp only[qp,xL,xS,yF,yI,yL];refine⟨λ m q h=>∃(i:Nat) (L:LSq),Vs h (L++[(n4,.box c.e)])/\i<=l.length/\m=l.length-i/\q=[.int .i64 (i:Int)]/\∀(x:Nat) (b:Int),x<i->l[x]?=some b->ClB c S l b,_,⟨0,[],V,by omega,rfl,rfl,λ x b hx=>by omega⟩,?_⟩;rintro m f h ⟨i,L,V1,hi,hm,hq,b3⟩;simp only[ah,and_true]at hq;rw[xi,hq];by_cases b4:i<l.length
 case neg =>
  have:i=l.length:=by omega
  subst this;rw[fU (by omega),ae];simp only[aa,true_and]
  exact λ b hb=>by
   obtain⟨x,hx⟩:=ba hb;exact b3 x b (ar.1 hx).1 hx
 rw[fY (by omega),af];obtain⟨b,hb⟩:∃b,l[i]?=some b:=⟨l[i],aq b4⟩;obtain⟨b0,b1⟩:=hr b (ak hb);obtain⟨B,hB⟩:∃B,c.b[b.toNat]?=some B:=⟨c.b[b.toNat]'(by omega),aq _⟩;have b5:=hc.t B (ak hB);have eb:b=((b.toNat:Nat):Int):=by omega
 refine⟨λ _ h'=>(∃L',Vs h' (L'++[(n4,.box c.e)]))/\ClB c S l b,?_,?_⟩
 ·rintro f2 h2 ⟨⟨L',V2⟩,c1⟩;rw[bB (by omega) (by omega)];simp only[aa,true_and];refine⟨_,by omega,i+1,L',V2,by omega,rfl,by simp,λ x b' hx h1=>?_⟩;grind
 have m4:(n4,Slot.box c.e)∈L++[(n4,.box c.e)]:=by simp
 obtain⟨k4,a7⟩:=ba m4;have da:au PP (.iadd (.c (.sl (aQ l))) (.c (.int .i64 (i:Int))) 1) h=λ K=>K (.vp (.int .i64 b) 0):=by funext K;rw[gJ,WW hb]
 have dl:∀{K:D->Prop}{a:Int},au PP (.ld (.c (.vp (.int .i64 a) 0)) 1 false) h K=K (.int .i64 a):=λ {K a}=>sw rfl
 have di:∀{K:D->Prop},au PP (.iadd (.c (.sl (c.b.map Block.e))) (.c (.int .i64 b)) 14) h K=K (.vp B.e 0):=λ {K}=>by rw[eb];exact Ly hB
 simp only[↓V1.lH k4 a7,Nat.zero_add,↓V1.gw k4 (j:=7) a7 rfl,da,↓dl,↓di,↓Xk,↓Of];refine V1.alloc λ n26 c7 b7=>?_
 refine b7.mY (cs':=B.t.cs) 0 rfl rfl rfl B.t.b9.one λ I H=>?_
 simp only[List.set_cons_zero]at H;rw[H.fV 0 (s:=13) rfl rfl];refine aW (MQ b5) (λ d hd=>by simp at hd;subst hd;exact B.t.b9.pair) ?_;rintro _ rfl;dsimp only[qq,xF,xI,xL,xP]
 refine⟨λ m q h=>I=h/\∃y:Nat,y<=(bf B.t).length/\m=(bf B.t).length-y/\q=[.int .i64 (y:Int)]/\∀(x t:Nat),x<y->(bf B.t)[x]?=some t->(t:Int)∈(if B.t.kind=3 then S else l),_,
  ⟨rfl,0,by omega,rfl,rfl,λ x t hx=>by omega⟩,?_⟩
 rintro m4 f4 h4 ⟨e4,y,hy,c4,a2,c0⟩;subst e4;simp only[ah,and_true]at a2;have c5:(bf B.t).length<=2:=by grind [bf]
 rw[po,a2];by_cases a6:y<(bf B.t).length
 case neg =>
  have:y=(bf B.t).length:=by omega
  subst this;rw[fU (by omega),ae];simp only[aa,true_and];refine⟨⟨(n26,.box (.agg B.t.cs))::L,H⟩,λ B' c6 t ht=>?_⟩;grind [List.getElem?_of_mem]
 rw[fY (by omega),af];obtain⟨t,ht⟩:∃t,(bf B.t)[y]?=some t:=⟨(bf B.t)[y],aq a6⟩;have a1:∀(w:List Int),∀d,d∈[.sl (aQ w),nD t]->d.vd=true/\aL d:=λ w=>ip w (t:Int)
 have lt:∀{KH:HKq},ab PP (.iadd (.c (.sl (aR (bf B.t)))) (.c (.int .i64 (y:Int))) 1) I KH=KH (.vp (nD t) 0) I:=λ {KH}=>iN (esz:=1) (d:=nD t) (by omega) (by rw[aE];exact fC ht) rfl
 have Z:∀{KH:HKq},ab PP (.ld (.c (.vp (nD t) 0)) 1 false) I KH=KH (nD t) I:=λ {KH}=>ni rfl
 have a8:aK PP cJ [.sl (aQ S),nD t] (· = .bool (decide ((t:Int)∈S))):=Bz hS;have b2:aK PP cJ [.sl (aQ l),nD t] (· = .bool (decide ((t:Int)∈l))):=Bz hl;have no:¬(t:Int)∈(if B.t.kind=3 then S else l)->¬Rk c S l:=λ hn hh=>hn (hh b (ak hb) B hB t (ak ht))
 have yes:(t:Int)∈(if B.t.kind=3 then S else l)->∀(x t:Nat),x<y+1->(bf B.t)[x]?=some t->(t:Int)∈(if B.t.kind=3 then S else l):=λ c2 x t' hx h1=>by
  grind
 simp only[↓H.fa 0 rfl,Nat.zero_add,↓H.bI 0 (j:=0) rfl (show B.t.cs[0]?=some (.int .i64 B.t.kind) from rfl),bq];by_cases Q:B.t.kind=3
 ·simp only[if_pos Q]at no yes;simp only[Q,decide_true,↓gS,↓lt,↓Z];refine aW a8 (a1 S) ?_;rintro _ rfl;by_cases G:(t:Int)∈S
  ·simp only[G,decide_true,↓gS,Bool.not_true,↓H.fa 0 rfl,Nat.zero_add,↓H.bI 0 (j:=0) rfl (show B.t.cs[0]?=some (.int .i64 B.t.kind) from rfl),kA,Q];rw[bB (by omega) (by omega)];simp only[aa,true_and];exact⟨_,by omega,y+1,by omega,rfl,by simp,by simpa[Q] using yes G⟩
  ·simp only[G,decide_false,↓gS,Bool.not_false];exact bad _ (no G)
 ·simp only[if_neg Q]at no yes;simp only[Q,decide_false,↓gS,↓H.fa 0 rfl,Nat.zero_add,↓H.bI 0 (j:=0) rfl (show B.t.cs[0]?=some (.int .i64 B.t.kind) from rfl),kA,Bool.not_false,↓lt,↓Z];refine aW b2 (a1 l) ?_;rintro _ rfl;by_cases G:(t:Int)∈l
  ·simp only[G,decide_true,↓gS,Bool.not_true];rw[bB (by omega) (by omega)];simp only[aa,true_and];exact⟨_,by omega,y+1,by omega,rfl,by simp,by simpa[Q] using yes G⟩
  ·simp only[G,decide_false,↓gS,Bool.not_false];exact bad _ (no G)
end Go.Am
namespace Go.Am
open Go Go.Proofs
theorem Su {c:Code}{S:List Int}{R:List (List Int)}(hc:bp c) (hS:S.length<=1000000) (hR:R.length<=1000000) (hRl:∀l∈R,l.length<=1000000) :
  aK PP jo [c.e,jz S R] (λ r=>∃e:Int,r=.int .i64 e/\(e=0\/e=100)/\(e=0↔OY c S R)):=by
 have b4:=hc.nb;have b3:kx (jz S R):=bw (by simp)
 have bad:∀h:Heap,¬OY c S R->ky (λ r=>∃e:Int,r=.int .i64 e/\(e=0\/e=100)/\(e=0↔OY c S R)) (.int .i64 100) h:=λ h hn=>by
  grind [bC]
 refine aZ F3 (aG _ _ _) rfl (FG _ _ _) ?_;dsimp only[zS,xB,xF,xL,xP];refine Vs.nil.box c.b9.one λ n3 h4 V1=>?_
 refine V1.box b3.one λ n5 G V=>?_
 have l3:∀{K:HKq},ab PP (.ld (.c (.ptr n3 0 0)) 8 true) G K=K c.e G:=λ {K}=>V.fV 1 (s:=8) rfl rfl
 have a6:∀{K:D->Prop},au PP (.ld (.c (.ptr n3 0 0)) 8 true) G K=K c.e:=λ {K}=>V.Bv 1 (s:=8) rfl rfl
 have H:∀{K:HKq},ab PP (.ld (.c (.ptr n5 0 0)) 1 false) G K=K (.sl (aQ S)) G:=λ {K}=>V.bI 0 (j:=0) rfl rfl
 have a7:∀{K:HKq},ab PP (.ld (.c (.ptr n5 0 1)) 1 false) G K=K (.sl (R.map λ l=>.sl (aQ l))) G:=λ {K}=>V.bI 0 (j:=1) rfl rfl
 have d50:∀{K:D->Prop},au PP (.ld (.c (.ptr n5 0 0)) 1 false) G K=K (.sl (aQ S)):=λ {K}=>V.gw 0 (j:=0) rfl rfl
 have d51:∀{K:D->Prop},au PP (.ld (.c (.ptr n5 0 1)) 1 false) G K=K (.sl (R.map λ l=>.sl (aQ l))):=λ {K}=>V.gw 0 (j:=1) rfl rfl
 have p1:∀(l:List Int),∀d,d∈[c.e,.sl (aQ l)]->d.vd=true/\aL d:=λ l d hd=>by simp at hd;rcases hd with rfl|rfl;exact c.b9.pair;exact Io.pair
 have p2:∀(l s:List Int),∀d,d∈[c.e,.sl (aQ l),.sl (aQ s)]->d.vd=true/\aL d:=λ l s d hd=>by grind
 simp only[↓l3,↓V.fa 0 rfl,Nat.zero_add,↓H];refine aW (Oq (by omega) hS) (p1 S) ?_;rintro _ rfl;have Q:∀{l:List Int}{w:Int},Hx c.b.length l w=true↔Kv c.b.length l/\w∈l:=by intro l w;simp[Hx]
 by_cases o0:Kv c.b.length S
 case neg =>
  simp only[o0,decide_false,↓gS,Bool.not_false];exact bad _ λ h=>o0 (Q.1 h.1).1
 simp only[o0,decide_true,↓gS,Bool.not_true,↓V.fa 0 rfl,Nat.zero_add,↓H];refine aW (Bz (k:=0) hS) (ip S 0) ?_;rintro _ rfl;by_cases m0:(0:Int)∈S
 case neg =>
  simp only[m0,decide_false,↓gS,Bool.not_false];exact bad _ λ h=>m0 (Q.1 h.1).2
 simp only[m0,decide_true,↓gS,Bool.not_true,↓V.fa 0 rfl,Nat.zero_add,↓H,↓a7,bD,aH,gO];by_cases hlen:R.length=S.length
 case neg =>
  rw[Zv (by omega)];simp only[↓gS];exact bad _ λ h=>hlen h.2.1
 rw[Ik (by omega)];simp only[↓gS];have b2:Hx c.b.length S 0=true:=Q.2 ⟨o0,m0⟩;refine⟨λ _ h=>OY c S R,?_,?_⟩
 ·grind [bC]
 dsimp only[sH,xF,xL,yF,yI,yL,yP]
 refine⟨λ m q h=>G=h/\∃i:Nat,i<=R.length/\m=R.length-i/\q=[.int .i64 (i:Int)]/\∀(j:Nat) (l:List Int) (s:Int),j<i->R[j]?=some l->S[j]?=some s->Hx c.b.length l s=true/\Rk c S l,_,
  ⟨rfl,0,by omega,rfl,rfl,λ j l s hj=>by omega⟩,?_⟩
 rintro m f h ⟨e6,i,hi,hm,hq,a8⟩;subst e6;simp only[ah,and_true]at hq;simp only[hq,↓V.fa 0 rfl,Nat.zero_add,↓H,xi];by_cases b1:i<S.length
 case neg =>
  have:i=R.length:=by omega
  subst this;rw[fU (by omega),ae];simp only[aa,true_and];exact⟨b2,hlen,λ j l s h1 h2=>a8 j l s (ar.1 h1).1 h1 h2⟩
 rw[fY (by omega),af];obtain⟨l,hl⟩:∃l,R[i]?=some l:=⟨R[i],aq (by omega)⟩;obtain⟨s,hs⟩:∃s,S[i]?=some s:=⟨S[i],aq b1⟩;have a1:=hRl l (ak hl)
 have no:(Hx c.b.length l s=true->¬Rk c S l)->¬OY c S R:=λ hn h=>by
  obtain⟨h1,h2⟩:=h.2.2 i l s hl hs;exact hn h1 h2
 have Z:∀{K:D->Prop},au PP (.iadd (.c (.sl (R.map λ l=>.sl (aQ l)))) (.c (.int .i64 (i:Int))) 1) G K=K (.vp (.sl (aQ l)) 0):=λ {K}=>by
  rw[gJ,iN (esz:=1) (d:=.sl (aQ l)) (by omega) (by grind) rfl]
 have I:∀{K:D->Prop},au PP (.ld (.c (.vp (.sl (aQ l)) 0)) 1 false) G K=K (.sl (aQ l)):=λ {K}=>sw rfl
 have ds:∀{K:D->Prop},au PP (.iadd (.c (.sl (aQ S))) (.c (.int .i64 (i:Int))) 1) G K=K (.vp (.int .i64 s) 0):=λ {K}=>by rw[gJ,WW hs]
 have a2:∀{K:D->Prop},au PP (.ld (.c (.vp (.int .i64 s) 0)) 1 false) G K=K (.int .i64 s):=λ {K}=>sw rfl
 simp only[↓a6,↓V.lH 0 rfl,Nat.zero_add,↓d51,↓d50,↓Z,↓I,↓ds,↓a2];refine db (Oq (by omega) a1) (p1 l) ?_;by_cases o1:Kv c.b.length l
 case neg =>
  simp only[o1,decide_false,cw,Bool.not_false,gE,if_true];grind
 simp only[o1,decide_true,cw,Bool.not_true,gE,↓V.lH 0 rfl,Nat.zero_add,↓d51,↓d50,↓Z,↓I,↓ds,↓a2];refine db (Bz a1) (ip l s) ?_;by_cases m1:s∈l
 case neg =>
  simp only[m1,decide_false,cw,Bool.not_false,gE,if_true,aC,if_false];grind
 simp only[m1,decide_true,cw,Bool.not_true,gE,aC,if_false,↓a6,↓V.lH 0 rfl,Nat.zero_add,↓d51,↓d50,↓Z,↓I];refine db (Vf hc hS a1 o1.2) (p2 l S) ?_;by_cases cl:Rk c S l
 case neg =>
  simp only[YC cl,cw,Bool.not_false,gE,if_true,aC,if_false];exact bad _ (no λ _=>cl)
 simp only[QY.2 cl,cw,Bool.not_true,gE,aC,if_false];rw[bB (by omega) (by omega)];simp only[aa,true_and];refine⟨_,by omega,i+1,by omega,rfl,by simp,λ j l' s' hj h1 h2=>?_⟩;grind
end Go.Am
namespace Go.Am
open Go Go.Proofs
def RX (w:D) (R:List D) (X:LSq):Prop:=(w=.nil/\R=[]/\X=[])\/∃m,w=.ms m 0 R.length/\X=[(m,.arr 1 R)]
theorem Un {l:List Int}:∀e,e∈aQ l->e.cells.length=1:=λ e he=>by simp only[aQ,List.mem_map]at he;obtain⟨k,-,rfl⟩:=he;rfl
theorem ub {l:List Int}:∀y,y∈aQ l->aL y:=λ y hy=>by simp only[aQ,List.mem_map]at hy;obtain⟨k,-,rfl⟩:=hy;exact aI.one
theorem Jw {l:List Int}:∀x,x∈aQ l->∀y∈x.cells,y.vone=true:=λ x hx y hy=>by simp only[aQ,List.mem_map]at hx;obtain⟨k,-,rfl⟩:=hx;simp[D.cells]at hy;subst hy;rfl
theorem Vs.aaR {h:Heap}{L L':LSq}(V:Vs h L){L'':LSq}(p:L'.Perm L'') (s:L''.Sublist L):Vs h L':=by
 grind [Vs.iff]
def cW (A:List (Nat×List Int)):List D:=A.map λ p=>.ms p.1 0 p.2.length
def kn (A:List (Nat×List Int)):LSq:=A.map λ p=>(p.1,.arr 1 (aQ p.2))
def uf (n1 n2:Nat) (S:List Int) (A:List (Nat×List Int)):LSq:=(n1,.arr 1 (aQ S))::(n2,.arr 1 (cW A))::kn A
theorem Ja {A:List (Nat×List Int)}:∀x,x∈cW A->x.one=true:=λ x hx=>by
 simp only[cW,List.mem_map]at hx;obtain⟨p,-,rfl⟩:=hx;rfl
theorem Wr {A:List (Nat×List Int)}:(cW A).flatMap D.nm=A.map Prod.fst:=by
 induction A with
 | nil=>rfl
 | cons a r G=>rw[cW,List.map_cons,List.flatMap_cons, <- cW,G];rfl
theorem RX.app {h:Heap}{w x z:D}{R ys:List D}{X Y:LSq}{bytes:Nat}{KH:HKq}(r:RX w R X) (V:Vs h (X++Y)) (hx:∀{K:List D->Prop},K ys->velems 1 x h K) (hy:∀y∈ys,aL y) (hb:(R.length+ys.length)*bytes<=140737488355328) (hl:R.length+ys.length<=9223372036854775807)
  (hK:∀m h',Vs h' ((m,.arr 1 (R++ys))::Y)->KH (.ms m 0 (R.length+ys.length)) h'):ab PP (.app (.c w) (.c x) 1 bytes z) h KH:=by
 rcases r with⟨rfl,rfl,rfl⟩|⟨m,rfl,rfl⟩
 ·rw[Ln];refine hx ⟨hy,⟨by simpa using hb,by simpa using hl⟩,λ n t=>?_⟩;have:=hK n _ (V.push t.free (s:=.arr 1 ys) (by simp));simpa using this
 ·exact V.rH hx hy hb hl hK
theorem YL {h:Heap}{L:LSq}{z:D}{m len:Nat}{KH:HKq}(V:Vs h L) (hK:∀n h',Vs h' ((n,.arr 1 [.ms m 0 len])::L)->KH (.ms n 0 1) h'):ab PP (.bldS false 1 1 z [(0,.c (.ms m 0 len))]) h KH:=by
 refine⟨λ p hp=>by simp[Arg.get]at hp;subst hp;exact⟨Nat.one_pos,rfl,by simp⟩,λ G=>(by cases G),λ n t=>?_⟩;have:=hK n _ (V.push t.free (s:=.arr 1 [.ms m 0 len]) (by simp));grind [Arg.get,setEls]
theorem IE {h:Heap}{n len off:Nat}{els ys:List D}{K:List D->Prop}(hn:(h n).row=some (1,els)) (ho:off+len<=els.length) (e:(els.drop off).take len=ys) (hk:K ys):velems 1 (.ms n off len) h K:=⟨els,hn,ho,by rw[e];exact hk⟩
theorem X4 {S:List Int}{R:List (List Int)}{h:Heap}{L:LSq}{KH:HKq}(V0:Vs h L) (hS:S.length<=1000) (hR:R.length<=1000) (hl:∀l∈R,l.length<=1000) (hne:R≠[])
  (hK:∀h' n1 n2 A,A.map Prod.snd=R->Vs h' (uf n1 n2 S A++L)->KH (.agg [.ms n1 0 S.length,.ms n2 0 A.length]) h'):ag PP tN [jz S R] h KH:=by
 have c1:kx (jz S R):=bw (by simp);refine aY HY (aG _ _ _) rfl (HE _ _) ?_;dsimp only[Dx,xB,xF,xL,xS];refine V0.box c1.one λ n2 h3 I=>?_
 refine I.alloc λ n4 h5 V2=>?_
 refine V2.Db λ n6 h7 H=>?_
 have b1:∀{KH:HKq},ab PP (.ld (.c (.ptr n2 0 0)) 1 false) h7 KH=KH (.sl (aQ S)) h7:=λ {KH}=>H.bI 2 (j:=0) (cs:=[.sl (aQ S),.sl (R.map λ l=>.sl (aQ l))]) rfl rfl
 simp only[↓H.fa 2 rfl,Nat.zero_add,↓b1];have c4:∀l:List Int,(aQ l).length=l.length:=λ l=>by simp[aQ]
 refine H.rH (els:=[]) (ys:=aQ S) (λ hk=>⟨Un,hk⟩) ub (by simp[aQ];omega) (by simp[aQ];omega) λ n1 e1 V4=>?_
 rw[List.nil_append]at V4;rw[show([]:List D).length+(aQ S).length=S.length by simp[aQ]];refine YM ⟨rfl,rfl⟩ ?_;refine V4.alloc λ n16 e0 V5=>?_
 refine V5.mY (cs':=[.ms n1 0 S.length,.nil]) 0 rfl rfl rfl (λ y hy=>by simp at hy;rcases hy with rfl|rfl<;>rfl) λ c0 V6=>?_
 let B:D->LSq:=λ w=>[(n16,.box (.agg [.ms n1 0 S.length,w])),(n1,.arr 1 (aQ S)),(n4,.box (.agg [.nil,.nil])),(n2,.box (jz S R))]
 replace V6:Vs c0 (B .nil++L):=V6;refine⟨λ _ h=>∃(A:List (Nat×List Int)) (w:D) (X:LSq),A.map Prod.snd=R/\RX w (cW A) X/\Vs h (B w++(X++(kn A++L))),?_,?_⟩
 ·rintro f h2 ⟨A,w,X,hA,x,V⟩;have hw:w.one=true:=by rcases x with⟨rfl,-⟩|⟨m,rfl,-⟩<;>rfl
  rw[V.fV 0 (s:=2) rfl rfl];refine V.mY (cs':=[.ms n1 0 S.length,w]) 2 rfl rfl rfl (λ y hy=>by simp at hy;rcases hy with rfl|rfl;rfl;exact hw) λ c8 V'=>?_
  rw[V'.fV 2 (s:=2) rfl rfl];rcases x with⟨rfl,e,-⟩|⟨m,rfl,rfl⟩
  ·exfalso;have:A=[]:=by simpa[cW] using e
   grind
  ·rw[show(cW A).length=A.length by simp[cW]];refine hK _ n1 m A hA (V'.aaR (L'':=(n1,.arr 1 (aQ S))::(m,.arr 1 (cW A))::(kn A++L)) (List.Perm.refl _) ?_);exact .cons _ (.cons_cons _ (.cons _ (.cons _ (.cons_cons _ (.refl _)))))
 dsimp only[uN,xF,xL,xS,yF,yI,yL]
 refine⟨λ m q h=>∃(i:Nat) (A:List (Nat×List Int)) (w:D) (X:LSq),q=[.int .i64 (i:Int)]/\i<=R.length/\m=R.length-i/\A.map Prod.snd=R.take i/\RX w (cW A) X/\Vs h (B w++(X++(kn A++L))),_,
  ⟨0,[],.nil,[],rfl,by omega,rfl,by simp,Or.inl ⟨rfl,rfl,rfl⟩,by simpa[kn] using V6⟩,?_⟩
 rintro m f h2 ⟨i,A,w,X,hq,hi,hm,hA,x,V⟩;simp only[ah,and_true]at hq;have lR:∀{h:Heap}{KH:HKq}{w:D}{Y:LSq},Vs h (B w++Y)->ab PP (.ld (.c (.ptr n2 0 1)) 1 false) h KH=KH (.sl (R.map λ l=>.sl (aQ l))) h:=λ V=>V.bI 3 (j:=1) (cs:=[.sl (aQ S),.sl (R.map λ l=>.sl (aQ l))]) rfl rfl
 simp only[hq,↓V.fa 3 rfl,Nat.zero_add,↓lR V,bD,aH];by_cases b2:i<R.length
 case neg =>
  grind [fU,ae,aa]
 rw[fY (by omega),af];obtain⟨l,b3⟩:∃l,R[i]?=some l:=⟨R[i],aq b2⟩;have c5:=hl l (ak b3);have b4:A.length=i:=by have:=congrArg List.length hA;simp at this;omega
 have Q:(cW A).length=i:=by simp[cW,b4]
 have dR:∀{h:Heap}{K:D->Prop}{w:D}{Y:LSq},Vs h (B w++Y)->au PP (.ld (.c (.ptr n2 0 1)) 1 false) h K=K (.sl (R.map λ l=>.sl (aQ l))):=λ V=>by rw[mc,lR V]
 have dw:∀{h:Heap}{K:D->Prop}{w:D}{Y:LSq},Vs h (B w++Y)->au PP (.ld (.c (.ptr n16 0 1)) 1 false) h K=K w:=λ V=>V.gw 0 (j:=1) rfl rfl
 have a2:∀{h:Heap}{K:D->Prop}{w:D}{Y:LSq},Vs h (B w++Y)->au PP (.fadd (.c (.ptr n16 0 0)) 1) h K=K (.ptr n16 0 1):=λ V=>V.lH 0 rfl
 have c3:∀{h:Heap}{K:D->Prop}{w:D}{Y:LSq},Vs h (B w++Y)->au PP (.fadd (.c (.ptr n2 0 0)) 1) h K=K (.ptr n2 0 1):=λ V=>V.lH 3 rfl
 have di:∀{h:Heap}{K:D->Prop},au PP (.iadd (.c (.sl (R.map λ l=>.sl (aQ l)))) (.c (.int .i64 (i:Int))) 1) h K=K (.vp (.sl (aQ l)) 0):=λ {h K}=>by
  rw[gJ,iN (esz:=1) (d:=.sl (aQ l)) (by omega) (by grind) rfl]
 have c2:∀{h:Heap}{K:D->Prop},au PP (.ld (.c (.vp (.sl (aQ l)) 0)) 1 false) h K=K (.sl (aQ l)):=λ {h K}=>sw rfl
 simp only[↓a2 V,↓c3 V,↓dw V,↓dR V,↓di,↓c2];refine V.Db λ a8 b7 I=>?_
 replace I:Vs b7 ((a8,.arr 1 [])::(B w++(X++(kn A++L)))):=I;have e4:=I.pop;refine⟨by grind [aa],?_⟩;refine I.rH (els:=[]) (ys:=aQ l) (λ hk=>⟨Un,hk⟩) ub (by simp[aQ];omega) (by simp[aQ];omega) λ G c7 V2=>?_
 rw[List.nil_append]at V2;rw[show([]:List D).length+(aQ l).length=l.length by simp[aQ]];have e3:=V2.pop;refine⟨by grind [aa],?_⟩;refine YL V2 λ a7 a1 H=>?_
 have e2:=H.pop.pop;refine⟨by grind [aa],?_⟩;have Z:(a1 a7).row=some (1,[.ms G 0 l.length]):=by rw[H.get 0 _ _ rfl];rfl
 have V4:Vs a1 (X++((G,.arr 1 (aQ l))::(B w++(kn A++L)))):=H.pop.perm (by
  grind [List.perm_append_comm_assoc])
 refine x.app V4 (ys:=[.ms G 0 l.length]) (λ hk=>IE Z (by simp) rfl hk) (λ y hy=>by simp at hy;subst hy;simp) (by rw[Q];simp;omega) (by rw[Q];simp;omega) λ m' b5 V5=>?_
 have eR:cW A++[.ms G 0 l.length]=cW (A++[(G,l)]):=by simp[cW]
 rw[eR]at V5;have eL:(cW A).length+[D.ms G 0 l.length].length=(cW (A++[(G,l)])).length:=by simp[cW]
 rw[eL]
 have a6:Vs b5 (B w++([(m',.arr 1 (cW (A++[(G,l)])))]++(kn (A++[(G,l)])++L))):=V5.perm (by
  have e:kn (A++[(G,l)])=kn A++[(G,.arr 1 (aQ l))]:=by simp[kn]
  rw[e];refine .trans ?_ (List.perm_middle (l₁:=B w)).symm;refine .cons _ ?_;rw[List.append_assoc];refine .trans ?_ (List.Perm.append_left (B w) (List.perm_middle (l₁:=kn A)).symm)
  exact List.perm_middle.symm)
 simp only[↓a2 a6];refine a6.Yg 0 (j:=1) rfl (by simp) rfl λ c6 V7=>?_
 rw[bB (by omega) (by omega)];simp only[aa,true_and];refine⟨_,by omega,i+1,A++[(G,l)],_,_,by simp,by omega,rfl,?_,Or.inr ⟨m',rfl,rfl⟩,V7⟩;grind [List.take_add_one]
def del {α:Type}(l:List α) (i:Nat):List α:=l.take i++l.drop (i+1)
theorem Iv {α:Type}{l:List α}{i:Nat}(h:i<l.length):(del l i).length=l.length-1:=by simp[del];omega
section
variable {h:Heap}{L:LSq}{K:D->Prop}{KH:HKq}
theorem UN {m len i esz:Nat}{els:List D}(hr:(h m).row=some (esz,els)) (hi:i<=len):au PP (.mZ (.c (.ms m 0 len)) none (some (.c (.int .i64 (i:Int)))) (some (.c (.int .i64 (i:Int)))) esz) h K=K (.ms m 0 i):=by
 grind [JH,yT,rQ,rP]
theorem JD {m len i esz:Nat}{els:List D}(hr:(h m).row=some (esz,els)) (hi:i<=len):au PP (.mZ (.c (.ms m 0 len)) (some (.c (.int .i64 (i:Int)))) none none esz) h K=K (.ms m i (len-i)):=by
 grind [JH,yT,rQ,rP]
theorem Vs.ab0 {m i bytes len len':Nat}{els:List D}{z:D}(V:Vs h ((m,.arr 1 els)::L)) (hlen:els.length=len) (hlen':len'=len-1) (hi:i<len) (h1:∀y∈els,aL y) (hb:len*bytes<=140737488355328) (hl:len<=1000000)
  (hK:∀n h',Vs h' ((n,.arr 1 (del els i))::L)->KH (.ms n 0 len') h'):ab PP (.app (.c (.ms m 0 i)) (.c (.ms m (i+1) (len-(i+1)))) 1 bytes z) h KH:=by
 subst hlen hlen';have hm:=V.get 0 _ _ rfl;have hr:(h m).row=some (1,els):=by rw[hm];rfl
 rw[Ln];refine IE (ys:=els.drop (i+1)) hr (by omega) (List.take_of_length_le (by simp)) ⟨λ y hy=>h1 y (List.mem_of_mem_drop hy),els.take i,⟨els.drop i,by rw[List.take_append_drop];exact hm⟩,by simp;omega,⟨?_,by simp;omega⟩,λ n t=>⟨?_,λ h0=>absurd rfl h0⟩⟩
 ·refine Nat.le_trans (Nat.mul_le_mul_right _ ?_) hb;simp;omega
 ·have G:i+(els.drop (i+1)).length=els.length-1:=by simp;omega
  rw[G,List.drop_zero];have I:=V.bK 0 rfl (s':=.dead) (by simp);have H:=I.push (n:=n) (by rw[an _ _ (t.ne (by rw[hm];simp)).symm];exact t.free) (s:=.arr 1 (del els i)) (by simp);exact hK n _ (H.aaR (List.Perm.refl _) (.cons_cons _ (.cons _ (.refl _))))
theorem Vs.adL {m bytes len len':Nat}{els:List D}{z d:D}(V:Vs h ((m,.arr 1 els)::L)) (hlen:els.length=len) (hlen':len'=len+1) (hd:aL d) (hc:d.cells.length=1) (hb:(len+1)*bytes<=140737488355328) (hl:len+1<=1000000)
  (hK:∀n h',Vs h' ((n,.arr 1 (els++[d]))::L)->KH (.ms n 0 len') h'):ab PP (.app (.c (.ms m 0 len)) (.c (.sl [d])) 1 bytes z) h KH:=by
 subst hlen hlen';exact V.rH (ys:=[d]) (λ G=>⟨λ e he=>by grind,G⟩) (λ y hy=>by grind) (by simpa using hb) (by simp;omega) λ n h' H=>hK n h' H
theorem Cm {A:List (Nat×List Int)}{i m:Nat}{l:List Int}(h:A[i]?=some (m,l)):(cW A)[i]?=some (.ms m 0 l.length):=by simp[cW,h]
theorem TH {A:List (Nat×List Int)}{i m:Nat}{l:List Int}:(cW A).set i (.ms m 0 l.length)=cW (A.set i (m,l)):=by simp[cW,List.map_set]
theorem JQ {A:List (Nat×List Int)}{i m:Nat}{l:List Int}(h:A[i]?=some (m,l)):kn A=kn (A.take i)++(m,.arr 1 (aQ l))::kn (A.drop (i+1)):=by
 grind [List.take_append_drop,List.drop_eq_getElem_cons,kn]
theorem Xq {nb n1 n2 i m:Nat}{bx:Slot}{S l:List Int}{A:List (Nat×List Int)}(V:Vs h ((nb,bx)::(uf n1 n2 S A++L))) (hA:A[i]?=some (m,l)) :
  Vs h ((m,.arr 1 (aQ l))::(nb,bx)::(n1,.arr 1 (aQ S))::(n2,.arr 1 (cW A))::(kn (A.take i)++(kn (A.drop (i+1))++L))):=by
 refine V.perm ?_;rw[uf,JQ hA];grind [List.perm_middle]
theorem JI {nb n1 n2 i m:Nat}{bx:Slot}{S l:List Int}{A:List (Nat×List Int)}(hi:i<A.length) (V:Vs h ((m,.arr 1 (aQ l))::(nb,bx)::(n1,.arr 1 (aQ S))::(n2,.arr 1 ((cW A).set i (.ms m 0 l.length)))::(kn (A.take i)++(kn (A.drop (i+1))++L)))) :
  Vs h ((nb,bx)::(uf n1 n2 S (A.set i (m,l))++L)):=by
 have hA:(A.set i (m,l))[i]?=some (m,l):=by simp[hi]
 refine V.perm (List.Perm.symm ?_);rw[uf,JQ hA,TH];grind [List.take_set_of_le,List.drop_set_of_lt,List.perm_middle]
theorem Oc {nb n1 n2 i m:Nat}{S l:List Int}{A:List (Nat×List Int)}{w:D}{KK:Heap->Prop}(hi:i<A.length)
  (V:Vs h ((m,.arr 1 (aQ l))::(nb,.box (.agg [w,.ms n2 0 A.length]))::(n1,.arr 1 (aQ S))::(n2,.arr 1 (cW A))::(kn (A.take i)++(kn (A.drop (i+1))++L))))
  (hK:∀h',Vs h' ((nb,.box (.agg [w,.ms n2 0 A.length]))::(uf n1 n2 S (A.set i (m,l))++L))->KK h') :
  ((au PP (.ld (.c (.ptr nb 0 1)) 1 false) h λ a=>aD [a] [.ms n2 0 A.length])/\(au PP (.iadd (.c (.ms n2 0 A.length)) (.c (.int .i64 (i:Int))) 1) h λ a=>aD [a] [.ptr n2 i 0])/\True) /\
  ab PP (.st (.c (.ptr n2 i 0)) (.c (.ms m 0 l.length)) 1) h λ _ h' =>
   ((au PP (.ld (.c (.ptr nb 0 1)) 1 false) h' λ a=>aD [a] [.ms n2 0 A.length])/\(au PP (.iadd (.c (.ms n2 0 A.length)) (.c (.int .i64 (i:Int))) 1) h' λ a=>aD [a] [.ptr n2 i 0])/\True)/\KK h':=by
 have H:(cW A).length=A.length:=by simp[cW]
 have G:∀{h:Heap}{els:List D}{X:LSq}{x y:Nat×Slot},Vs h (x::(nb,.box (.agg [w,.ms n2 0 A.length]))::y::(n2,.arr 1 els)::X) ->
   ((au PP (.ld (.c (.ptr nb 0 1)) 1 false) h λ a=>aD [a] [.ms n2 0 A.length])/\(au PP (.iadd (.c (.ms n2 0 A.length)) (.c (.int .i64 (i:Int))) 1) h λ a=>aD [a] [.ptr n2 i 0])/\True):=λ V=>by
  refine⟨?_,?_,trivial⟩
  ·rw[V.gw 1 (j:=1) rfl rfl,aa];trivial
  ·rw[V.Bw 3 rfl (by omega) (by omega),aE,aa];trivial
 refine⟨G V,?_⟩;refine V.wA 3 (j:=i) rfl (by omega) rfl Ja λ h' I=>?_
 grind [JI]
end
end Go.Am
namespace Go.Am
open Go Go.Proofs
theorem Vs.RB {h:Heap}{L:LSq}(V:Vs h L) (i:Nat){n o k esz:Nat}{els:List D}(hi:L[i]?=some (n,.arr esz els)){K:D->Prop}:aM (.ms n o k) h K=K (.int .i64 (k:Int)):=by
 have hs:(h n).live=true:=by rw[V.get i _ _ hi];rfl
 rw[bH,hs];simp
theorem Rf {f:FuncId}{l:List Int}{ds:List D}{h:Heap}{L:LSq}{m len:Nat}{r:D}{KH:HKq}(V:Vs h ((m,.arr 1 (aQ l))::L)) (hlen:len=l.length) (hds:∀d∈ds,kx d) (hv:aK PP f (.sl (aQ l)::ds) (· = r)) (hf:r.flat=true) (hK:KH r h) :
  ag PP f (.ms m 0 len::ds) h KH:=by
 subst hlen;have hr:(h m).row=some (1,aQ l):=by rw[V.get 0 _ _ rfl];rfl
 have G:(D.ms m 0 l.length).fz h=.sl (aQ l):=by
  grind [D.fz,D.fzc,List.take_of_length_le,aQ]
 have H:∀d∈ds,d.fz h=d:=λ d hd=>(jj (h:=h) (hds d hd).pair.1).1
 refine ag.mono ?_ (dQ (K:=(· = r)) ?_ ?_)
 ·grind
 ·simp only[List.map_cons,G];rw[List.map_congr_left H,List.map_id'];exact hv
 ·intro d hd;rcases List.mem_cons.1 hd with rfl|hd
  ·refine⟨by simp,?_,by rw[G];rfl⟩;intro x hx;simp only[D.cells,List.mem_singleton]at hx;subst hx;exact⟨1,aQ l,hr,by simp[aQ],λ x hx y hy=>Jw x (List.mem_of_mem_drop (List.mem_of_mem_take hx)) y hy⟩
  ·obtain⟨Q,Z,I⟩:=jj (h:=h) (hds d hd).pair.1;exact⟨(hds d hd).pair.2,I,by rw[Q];exact(hds d hd).pair.1⟩
theorem VH {l:List Int}{k:Int}{m len:Nat}{h:Heap}{L:LSq}{KH:HKq}(V:Vs h ((m,.arr 1 (aQ l))::L)) (hlen:len=l.length) (hl:l.length<=100000) (hK1:KH (.ms m 0 len) h)
  (hK2:∀h' n T,T.length=len+1->Vs h' ((n,.arr 1 (aQ T))::(m,.arr 1 (aQ l))::L)->KH (.ms n 0 T.length) h'):ag PP gH [.ms m 0 len,.int .i64 k] h KH:=by
 refine aY tx (aG _ _ _) rfl (sS _ _ _) ?_;unfold rI;refine Rf V hlen (λ d hd=>by grind [aI]) (Bz (k:=k) (by omega)) rfl ?_;by_cases G:k∈l
 ·grind [af]
 simp only[G,decide_false,↓ae];refine⟨λ q h'=>h=h'/\∃i:Nat,q=[.int .i64 (i:Int)]/\i<=len,?_,?_⟩
 ·rintro f _ ⟨rfl,i,I,hi⟩;simp only[ah,and_true]at I;have row:∀{h:Heap}{x:Nat×Slot},Vs h (x::(m,.arr 1 (aQ l))::L)->(h m).row=some (1,aQ l):=λ V=>by rw[V.get 1 _ _ rfl];rfl
  have H:(h m).row=some (1,aQ l):=by rw[V.get 0 _ _ rfl];rfl
  have Q:∀{h:Heap}{K:D->Prop},(h m).row=some (1,aQ l)->au PP (.mZ (.c (.ms m 0 len)) none (some (.c (.int .i64 (i:Int)))) none 1) h K=K (.ms m 0 i):=λ {h K} hr=>by
   grind [JH,yT,rQ,rP]
  have dp:∀{h:Heap}{K:D->Prop},(h m).row=some (1,aQ l)->au PP (.mZ (.c (.ms m 0 len)) (some (.c (.int .i64 (i:Int)))) none none 1) h K=K (.ms m i (len-i)):=λ hr=>JD hr hi
  have one:∀{h:Heap}{K:D->Prop},K (.sl (aQ [k]))->au PP (.bldS false 1 1 (.int .i64 0) [(0,.c (.int .i64 k))]) h K:=λ {h K} G =>
   ⟨λ p hp=>by simp[Arg.get]at hp;subst hp;exact⟨Nat.one_pos,rfl,aI.one⟩,λ p hp=>by simp[Arg.get]at hp;subst hp;intro y hy;simp[D.cells]at hy;subst hy;rfl,λ y hy=>by simp[D.cells]at hy;subst hy;rfl,G⟩
  simp only[I,↓Q H,↓dp H];refine one ?_;refine V.Db λ n11 b1 V1=>?_
  simp only[↓Q (row V1),↓dp (row V1),aa,true_and];have Z:∀l:List Int,(aQ l).length=l.length:=λ l=>gO
  have ld:=Z (l.drop i);have lt:=Z (l.take i);refine V1.rH (els:=[]) (ys:=aQ (l.take i)) (λ G=>IE (row V1) (by rw[Z];omega) (by simp[aQ,List.map_take]) G) ub (by simp[aQ];omega) (by simp[aQ];omega) λ m1 a8 V2=>?_
  rw[List.nil_append]at V2;rw[show([]:List D).length+(aQ (l.take i)).length=(aQ (l.take i)).length from Nat.zero_add _];simp only[↓Q (row V2),↓dp (row V2),aa,true_and];refine V2.rH (ys:=aQ [k]) (λ G=>⟨Un,G⟩) ub (by simp[aQ];omega) (by simp[aQ];omega) λ m2 a7 V3=>?_
  rw[show(aQ (l.take i)).length+(aQ [k]).length=(aQ (l.take i)++aQ [k]).length by simp];simp only[↓Q (row V3),↓dp (row V3),aa,true_and];refine V3.rH (ys:=aQ (l.drop i)) (λ G=>IE (row V3) (by rw[Z];omega) (by grind [aQ,List.map_drop]) G) ub (by simp[aQ];omega) (by simp[aQ];omega) λ m3 a6 V4=>?_
  have e3:aQ (l.take i)++aQ [k]++aQ (l.drop i)=aQ (l.take i++[k]++l.drop i):=by simp[aQ]
  grind
 dsimp only[ml,xI,xL,xP];refine⟨λ m' q h'=>h=h'/\∃i:Nat,i<=len/\m'=len-i/\q=[.int .i64 (i:Int)],_,⟨rfl,0,by omega,rfl,rfl⟩,?_⟩;rintro m' f _ ⟨rfl,i,hi,hm,I⟩;simp only[ah,and_true]at I;rw[V.RB 0 rfl,I];by_cases a2:i<len
 ·obtain⟨b,hb⟩:∃b,l[i]?=some b:=⟨l[i]'(by omega),aq _⟩;have lv:∀{KH:HKq},ab PP (.ld (.c (.ptr m i 0)) 1 false) h KH=KH (.int .i64 b) h:=λ {KH}=>V.yQ 0 rfl (by rw[aQ,List.getElem?_map,hb];rfl) rfl
  rw[fY (by omega)];simp only[↓gS,↓V.ia 0 rfl (show(0:Int)<=(i:Int) by omega) (show(i:Int)<((len:Nat):Int) by omega),aE,↓lv];by_cases a1:b<k
  ·rw[fY a1];simp only[↓gS];rw[bB (by omega) (by omega)];simp only[aa,true_and];exact⟨_,by omega,i+1,by omega,rfl,by simp⟩
  ·rw[fU (by omega)];simp only[↓gS,aa,true_and];exact⟨i,rfl,hi⟩
 ·rw[fU (by omega)];simp only[↓gS,aa,true_and];exact⟨i,rfl,hi⟩
end Go.Am
namespace Go.Am
open Go Go.Proofs
theorem Oh {h:Heap}{L:LSq}{n1 n2:Nat}{S:List Int}{A:List (Nat×List Int)}(V:Vs h (uf n1 n2 S A++L)) :
  ∃h'',P1 h h''/\iM (.agg [.ms n1 0 S.length,.ms n2 0 A.length])/\ti h'' (.agg [.ms n1 0 S.length,.ms n2 0 A.length])/\((D.agg [.ms n1 0 S.length,.ms n2 0 A.length]).fzt h'').M8=true/\(D.agg [.ms n1 0 S.length,.ms n2 0 A.length]).fzt h''=jz S (A.map Prod.snd)/\Vs h'' L:=by
 have V0:=V;rw[Vs.iff]at V0;obtain⟨W,nd⟩:=V0;have g1:=(W n1 (.arr 1 (aQ S)) (by simp[uf])).1;have g2:=(W n2 (.arr 1 (cW A)) (by simp[uf])).1;have gA:∀p∈A,h p.1=.arr 1 (aQ p.2):=λ p hp=>(W p.1 (.arr 1 (aQ p.2)) (by grind [uf,kn])).1
 simp only[uf,kn,List.cons_append,List.map_cons,List.map_append,List.map_map,List.nodup_cons,List.mem_cons,List.mem_append,not_or]at nd;obtain⟨⟨n12,Q,a7⟩,⟨G,a6⟩,I⟩:=nd;have a1:List.map (Prod.fst ∘ λ p:Nat×List Int=>(p.1,Slot.arr 1 (aQ p.2))) A=A.map Prod.fst:=List.map_congr_left λ _ _=>rfl
 rw[a1]at Q G I;have H:=Wr (A:=A)
 have Z:∀p∈A,(D.ms p.1 0 p.2.length).fz h=.sl (aQ p.2):=λ p hp=>by
  have:(h p.1).row=some (1,aQ p.2):=by rw[gA p hp];rfl
  grind [D.fz,D.fzc,List.take_of_length_le,aQ]
 have hd:Rj h n2 1 (cW A):=by
  refine⟨by rw[H];exact G,λ e he=>?_⟩;simp only[cW,List.mem_map]at he;obtain⟨p,hp,rfl⟩:=he;refine⟨by simp,?_,λ y hy=>?_⟩
  ·intro x hx;simp only[D.cells,List.mem_singleton]at hx;subst hx;exact⟨1,aQ p.2,by rw[gA p hp];rfl,by simp[aQ],λ x hx y hy=>Jw x (List.mem_of_mem_drop (List.mem_of_mem_take hx)) y hy⟩
  ·rw[Z p hp]at hy;simp[D.cells]at hy;subst hy;rfl
 have i1:P1 h (zg h n2 1 (cW A)):=.step g2 hd (.refl _)
 have k2:zg h n2 1 (cW A) n2=.arr 1 ((A.map Prod.snd).map λ l=>.sl (aQ l)):=by
  rw[Lm];congr 1;grind [cW,List.map_congr_left]
 have kO:∀k,k≠n2->k∉A.map Prod.fst->zg h n2 1 (cW A) k=h k:=λ k h1 h2=>Jv h1 (by rw[H];exact h2)
 have VL:Vs (zg h n2 1 (cW A)) L:=by
  have a2:Vs h L:=V.JV;refine a2.QC λ k s ⟨i,hi⟩=>kO k (λ e=>?_) (λ e=>?_)
  ·grind
  grind
 have k1:zg h n2 1 (cW A) n1=.arr 1 (aQ S):=by grind
 refine⟨_,i1,by intro x hx;simp[D.cells]at hx;rcases hx with rfl|rfl<;>rfl,?_,?_⟩
 ·intro x hx;simp only[D.cells,List.mem_cons,List.not_mem_nil,or_false]at hx;rcases hx with rfl|rfl
  ·exact⟨1,_,by rw[k1];rfl,by simp[aQ],λ x hx y hy=>Jw x (List.mem_of_mem_drop (List.mem_of_mem_take hx)) y hy⟩
  ·refine⟨1,_,by rw[k2];rfl,by simp,λ x hx y hy=>?_⟩;have hx:=List.mem_of_mem_drop (List.mem_of_mem_take hx);simp only[List.mem_map]at hx;obtain⟨l,-,rfl⟩:=hx;simp[D.cells]at hy;subst hy;rfl
 ·have e:(D.agg [.ms n1 0 S.length,.ms n2 0 A.length]).fzt (zg h n2 1 (cW A))=jz S (A.map Prod.snd):=by
   have r1:(zg h n2 1 (cW A) n1).row=some (1,aQ S):=by rw[k1];rfl
   have r2:(zg h n2 1 (cW A) n2).row=some (1,(A.map Prod.snd).map λ l=>.sl (aQ l)):=by rw[k2];rfl
   show D.agg [D.fzc _ _,D.fzc _ _]=_
   grind [D.fzc,jz,List.take_of_length_le,aQ]
  grind [jz,D.M8,D.vd,D.vone]
structure OV (n:Nat) (S:List Int) (R:List (List Int)):Prop where
 s:S.length<=n
 r:R.length<=n
 l:∀l∈R,l.length<=n
 ne:R≠[]
theorem OV.up {n:Nat}{S:List Int}{R:List (List Int)}(b:OV n S R){m:Nat}(h:n<=m):OV m S R:=⟨by have:=b.s;omega,by have:=b.r;omega,λ l hl=>by have:=b.l l hl;omega,b.ne⟩
theorem OV.set {n:Nat}{S:List Int}{R:List (List Int)}(b:OV n S R){k:Nat}{x:List Int}(hx:x.length<=n+1):OV (n+1) S (R.set k x):=by
 have b':=b.up (Nat.le_succ n);refine⟨b'.s,by simpa using b'.r,λ l hl=>?_,by simpa using b.ne⟩;rcases List.mem_or_eq_of_mem_set hl with h|h
 ·exact b'.l l h
 ·subst h;exact hx
def Z3 (p i j:Nat) (b:Int):D:=.agg [.int .u8 (p:Int),.int .u8 (i:Int),.int .u8 (j:Int),.int .i64 b]
end Go.Am
namespace Go.Am
open Go Go.Proofs
theorem P4 {x:Nat}(h:x<=255):IntKind.i64.wrap (x:Int)=x:=wrap64 (by omega) (by omega)
theorem aaV {α:Type}{l:List α}{i:Nat}{a:α}(h:l[i]?=some a):l.set i a=l:=Wi h
section
variable {h:Heap}{L:LSq}{K:D->Prop}{KH:HKq}
theorem YI {z:D}{k:Int}(V:Vs h L) (hK:∀n h',Vs h' ((n,.arr 1 (aQ [k]))::L)->KH (.ms n 0 1) h'):ab PP (.bldS false 1 1 z [(0,.c (.int .i64 k))]) h KH:=by
 refine⟨λ p hp=>by simp[Arg.get]at hp;subst hp;exact⟨Nat.one_pos,rfl,aI.one⟩,λ G=>(by cases G),λ n t=>?_⟩;have:=hK n _ (V.push t.free (s:=.arr 1 (aQ [k])) (by simp));grind [Arg.get,setEls,aQ]
def ChS (n n3:Nat) (L0:LSq) (h:Heap):Prop:=∃n1 n2 S A,OV n S (A.map Prod.snd)/\Vs h ((n3,.box (.agg [.ms n1 0 S.length,.ms n2 0 A.length]))::(uf n1 n2 S A++L0))
end
theorem mF {n n3 n1 n2:Nat}{S:List Int}{A:List (Nat×List Int)}{L0:LSq}{h:Heap}(b:OV n S (A.map Prod.snd)) (V:Vs h ((n3,.box (.agg [.ms n1 0 S.length,.ms n2 0 A.length]))::(uf n1 n2 S A++L0))):ChS n n3 L0 h:=⟨n1,n2,S,A,b,V⟩
theorem LD {n p i j:Nat}{b:Int}{S:List Int}{R:List (List Int)}(hn:n<=900) (hb:OV n S R) (hi:i<=255) (hj:j<=255):aK PP jC [jz S R,Z3 p i j b] (λ r=>∃S' R',OV (n+1) S' R'/\r=jz S' R'):=by
 have hs:=hb.s;have hr:=hb.r;have hl:=hb.l;have e4:kx (jz S R):=bw (by simp);have e6:kx (Z3 p i j b):=bw (by simp);refine EJ (aY zA (aG _ _ _) rfl (zo _ _ _) ?_);dsimp only[sY,xB,xC,xF,xI,xL,xP,xS,yC,yF,yI,yL];refine Vs.nil.box e4.one λ I h4 V4=>?_
 refine V4.box e6.one λ n5 h6 V6=>?_
 refine V6.alloc λ n7 h8 V8=>?_
 rw[V8.fV 2 (s:=2) (cs:=[.sl (aQ S),.sl (R.map λ l=>.sl (aQ l))]) rfl rfl];refine X4 V8 (by omega) (by omega) (λ l hx=>by have:=hl l hx;omega) hb.ne λ e0 n1 n2 A hA e9=>?_
 subst hA
 let L0:LSq:=[(n7,.box (.agg [.nil,.nil])),(n5,.box (Z3 p i j b))]
 have c6:Vs e0 ((I,.box (jz S (A.map Prod.snd)))::(uf n1 n2 S A++L0)):=e9.perm (by
  have e:uf n1 n2 S A++[(n7,Slot.box (.agg [.nil,.nil])),(n5,.box (Z3 p i j b)),(I,.box (jz S (A.map Prod.snd)))]=(uf n1 n2 S A++L0)++[(I,.box (jz S (A.map Prod.snd)))]:=by simp[L0]
  rw[e];exact List.perm_append_comm)
 refine c6.mY (cs:=[.sl (aQ S),.sl ((A.map Prod.snd).map λ l=>.sl (aQ l))]) (cs':=[.ms n1 0 S.length,.ms n2 0 A.length]) 0 rfl rfl rfl (λ y hy=>by simp at hy;rcases hy with rfl|rfl<;>rfl) λ H G=>?_
 replace G:Vs H ((I,.box (.agg [.ms n1 0 S.length,.ms n2 0 A.length]))::(n1,.arr 1 (aQ S))::(n2,.arr 1 (cW A))::(kn A++L0)):=G
 have fin:∀h,ChS (n+1) I L0 h->ab PP (.ld (.c (.ptr I 0 0)) 2 true) h λ e7 c8=>ab PP (.st (.c (.ptr n7 0 0)) (.c e7) 2) c8 λ j7 c2=>ab PP (.ld (.c (.ptr n7 0 0)) 2 true) c2 λ r _=>∃a1,P1 c2 a1/\iM r/\ti a1 r/\(r.fzt a1).M8=true/\∃S' R',OV (n+1) S' R'/\r.fzt a1=jz S' R':=by
  rintro h ⟨m1,m2,S',A',hB,V⟩;rw[V.fV 0 (s:=2) rfl rfl];have Z:Vs h ((n7,.box (.agg [.nil,.nil]))::(I,.box (.agg [.ms m1 0 S'.length,.ms m2 0 A'.length]))::(uf m1 m2 S' A'++[(n5,.box (Z3 p i j b))])):=V.perm ((List.Perm.cons _ List.perm_middle).trans (.swap _ _ _));refine Z.mY (cs':=[.ms m1 0 S'.length,.ms m2 0 A'.length]) 0 rfl rfl rfl (λ y hy=>by simp at hy;rcases hy with rfl|rfl<;>rfl) λ c2 c3=>?_
  simp only[List.set_cons_zero]at c3;rw[c3.fV 0 (s:=2) rfl rfl];obtain⟨a1,g1,g2,g3,g4,g5,-⟩:=Oh c3.pop.pop;grind
 have j5:=hb;have lS:(aQ S).length=S.length:=gO;have lA:(cW A).length=A.length:=by simp[cW]
 have j6:A.length<=n:=by simpa using hr
 have c1:0<A.length:=by
  rcases Nat.eq_zero_or_pos A.length with h|h
  ·exact absurd (by grind) hb.ne
  ·exact h
 have m5:(n5,Slot.box (Z3 p i j b))∈(I,Slot.box (.agg [.ms n1 0 S.length,.ms n2 0 A.length]))::(n1,.arr 1 (aQ S))::(n2,.arr 1 (cW A))::(kn A++L0):=by simp[L0]
 obtain⟨k5,b3⟩:=ba m5;have f5:∀{o:Nat}{KH:HKq},ab PP (.fadd (.c (.ptr n5 0 0)) o) H KH=KH (.ptr n5 0 o) H:=λ {o KH}=>G.fa k5 b3
 have l5:∀{o:Nat}{e:D}{KH:HKq},[D.int .u8 (p:Int),.int .u8 (i:Int),.int .u8 (j:Int),.int .i64 b][o]?=some e->ab PP (.ld (.c (.ptr n5 0 o)) 1 false) H KH=KH e H:=λ {o e KH} he=>G.bI k5 b3 he
 have d5:∀{o:Nat}{K:D->Prop},au PP (.fadd (.c (.ptr n5 0 0)) o) H K=K (.ptr n5 0 o):=λ {o K}=>G.lH k5 b3
 have e5:∀{o:Nat}{e:D}{K:D->Prop},[D.int .u8 (p:Int),.int .u8 (i:Int),.int .u8 (j:Int),.int .i64 b][o]?=some e->au PP (.ld (.c (.ptr n5 0 o)) 1 false) H K=K e:=λ {o e K} he=>G.gw k5 b3 he
 have f3:∀{o:Nat}{KH:HKq},ab PP (.fadd (.c (.ptr I 0 0)) o) H KH=KH (.ptr I 0 o) H:=λ {o KH}=>G.fa 0 rfl
 have g3:∀{o:Nat}{K:D->Prop},au PP (.fadd (.c (.ptr I 0 0)) o) H K=K (.ptr I 0 o):=λ {o K}=>G.lH 0 rfl
 have b7:∀{KH:HKq},ab PP (.ld (.c (.ptr I 0 0)) 1 false) H KH=KH (.ms n1 0 S.length) H:=λ {KH}=>G.bI 0 (j:=0) rfl rfl
 have b1:∀{KH:HKq},ab PP (.ld (.c (.ptr I 0 1)) 1 false) H KH=KH (.ms n2 0 A.length) H:=λ {KH}=>G.bI 0 (j:=1) rfl rfl
 have d30:∀{K:D->Prop},au PP (.ld (.c (.ptr I 0 0)) 1 false) H K=K (.ms n1 0 S.length):=λ {K}=>G.gw 0 (j:=0) rfl rfl
 have d31:∀{K:D->Prop},au PP (.ld (.c (.ptr I 0 1)) 1 false) H K=K (.ms n2 0 A.length):=λ {K}=>G.gw 0 (j:=1) rfl rfl
 simp only[↓f3,↓b7,G.RB 1 rfl];by_cases h0:S.length=0
 ·rw[eqT (by omega)];simp only[↓gS];exact fin _ (mF (hb.up (Nat.le_succ n)) G)
 rw[eqF (by omega)];simp only[↓gS,↓f3,↓b1,G.RB 2 rfl];rw[eqF (by omega)];simp only[↓gS,↓f5,↓l5 (o:=1) rfl,jb,P4 hi,↓f3,↓b7,G.RB 1 rfl];rw[Hm (by omega)];simp only[↓f5,↓l5 (o:=1) rfl,jb,P4 hi,↓f3,↓b1,G.RB 2 rfl];rw[Hm (by omega)];have e1:((i:Int).tmod (S.length:Int))=((i % S.length:Nat):Int):=by grind
 have e2:((i:Int).tmod (A.length:Int))=((i % A.length:Nat):Int):=by grind
 rw[e1,e2];have b2:i % S.length<S.length:=Nat.mod_lt _ (by omega);have a7:i % A.length<A.length:=Nat.mod_lt _ c1;generalize i % S.length=x at b2;generalize i % A.length=k at a7;obtain⟨⟨m,l⟩,a8⟩:∃q,A[k]?=some q:=⟨A[k],aq a7⟩;have j4:l.length<=n:=hl l (List.mem_map.2 ⟨_,ak a8,rfl⟩);have lL:(aQ l).length=l.length:=gO;have Q:=Xq G a8;have ia:∀{KH:HKq},ab PP (.iadd (.c (.ms n2 0 A.length)) (.c (.int .i64 (k:Int))) 1) H KH=KH (.ptr n2 k 0) H:=λ {KH}=>by rw[G.ia 2 rfl (by omega) (by omega),aE]
 have Bw:∀{K:D->Prop},au PP (.iadd (.c (.ms n2 0 A.length)) (.c (.int .i64 (k:Int))) 1) H K=K (.ptr n2 k 0):=λ {K}=>by rw[G.Bw 2 rfl (by omega) (by omega),aE]
 have le:∀{KH:HKq},ab PP (.ld (.c (.ptr n2 k 0)) 1 false) H KH=KH (.ms m 0 l.length) H:=λ {KH}=>G.yQ 2 rfl (Cm a8) rfl
 have b4:∀{K:D->Prop},au PP (.ld (.c (.ptr n2 k 0)) 1 false) H K=K (.ms m 0 l.length):=λ {K}=>G.Fy 2 rfl (Cm a8) rfl
 have r1:(H n1).row=some (1,aQ S):=by rw[G.get 1 _ _ rfl];rfl
 have rm:(H m).row=some (1,aQ l):=by rw[Q.get 0 _ _ rfl];rfl
 simp only[↓f3,↓b1,↓ia,↓le,Q.RB 0 rfl];refine⟨λ _ h=>ChS (n+1) I L0 h,λ f h hh=>fin h hh,?_⟩;simp only[↓f5,↓l5 (o:=0) rfl];rw[cY];refine⟨by omega,?_⟩;generalize (p:Int).tmod 7=q;rw[bq];by_cases q0:q=0
 ·simp only[q0,decide_true,↓af,↓f3,↓b7,↓f5,↓l5 (o:=3) rfl,↓G.ia 1 rfl (show(0:Int)<=(x:Int) by omega) (show(x:Int)<(S.length:Int) by omega),aE];refine G.wA 1 (j:=x) rfl (by omega) rfl (λ y hy=>by simp only[aQ,List.mem_map]at hy;obtain⟨_,-,rfl⟩:=hy;rfl) λ h' Z=>?_
  simp only[aa,true_and];have e:(aQ S).set x (.int .i64 b)=aQ (S.set x b):=by simp[aQ,List.map_set]
  simp only[List.set_cons_succ,List.set_cons_zero,e]at Z;have c0:(S.set x b).length=S.length:=by simp
  rw[<- c0]at Z;exact mF ⟨by grind,(hb.up (Nat.le_succ n)).r,(hb.up (Nat.le_succ n)).l,hb.ne⟩ Z
 simp only[q0,decide_false,↓ae];rw[bq];by_cases q1:q=1
 ·simp only[q1,decide_true,↓af,↓g3,↓d30,↓UN r1 (show x<=S.length by omega)];rw[bB (by omega) (by omega),show((x:Int)+1)=((x+1:Nat):Int) by omega,JD r1 (by omega)]
  try simp only[↓g3]
  refine G.swap.ab0 lS (Iv b2) b2 ub (by omega) (by omega) λ c4 j1 V8=>?_
  have ed:del (aQ S) x=aQ (del S x):=by simp[del,aQ,List.map_take,List.map_drop]
  rw[ed]at V8;have e8:=V8.swap;refine e8.Yg 0 (j:=0) rfl (by simp) rfl λ c5 V9=>?_
  replace V9:Vs c5 ((I,.box (.agg [.ms c4 0 (del S x).length,.ms n2 0 A.length]))::(uf c4 n2 (del S x) A++L0)):=V9;simp only[aa,true_and];exact mF ⟨by rw[Iv b2];omega,(hb.up (Nat.le_succ n)).r,(hb.up (Nat.le_succ n)).l,hb.ne⟩ V9
 simp only[q1,decide_false,↓ae];have same:ChS (n+1) I L0 H:=mF (hb.up (Nat.le_succ n)) G
 have put:∀{m':Nat}{l':List Int},l'.length<=n+1->OV (n+1) S ((A.set k (m',l')).map Prod.snd):=λ c0=>by
  rw[List.map_set];exact hb.set c0
 have g0:∀{q:Nat×List Int},(A.set k q).length=A.length:=by simp
 rw[bq];by_cases q2:q=2
 ·simp only[q2,decide_true,↓af];by_cases a6:0<l.length
  ·rw[Yt (by omega),af];simp only[↓g3,↓d31,↓Bw,↓b4,↓d5,↓e5 (o:=2) rfl,C6,P4 hj];rw[Hm (by omega)];have e3:((j:Int).tmod (l.length:Int))=((j % l.length:Nat):Int):=by grind
   rw[e3];have a2:j % l.length<l.length:=Nat.mod_lt _ a6;generalize j % l.length=y at a2;simp only[↓d5,↓e5 (o:=3) rfl,↓Q.Bw 0 rfl (show(0:Int)<=(y:Int) by omega) (show(y:Int)<(l.length:Int) by omega),aE];refine Q.wA 0 (j:=y) rfl (by omega) rfl (λ y hy=>by simp only[aQ,List.mem_map]at hy;obtain⟨_,-,rfl⟩:=hy;rfl) λ h' Z=>?_
   have e:(aQ l).set y (.int .i64 b)=aQ (l.set y b):=by simp[aQ,List.map_set]
   grind [aaV,List.length_set,Cm,JI,aa,mF]
  grind [WZ,ae,aa]
 simp only[q2,decide_false,↓ae];rw[bq];by_cases q3:q=3
 ·simp only[q3,decide_true,↓af];by_cases a6:0<l.length
  ·rw[Yt (by omega),af];simp only[↓f5,↓l5 (o:=2) rfl,jb,P4 hj];rw[Hm (by omega)];have e3:((j:Int).tmod (l.length:Int))=((j % l.length:Nat):Int):=by grind
   rw[e3];have a2:j % l.length<l.length:=Nat.mod_lt _ a6;generalize j % l.length=y at a2;simp only[↓g3,↓d31,↓Bw,↓b4,↓UN rm (show y<=l.length by omega)];rw[bB (by omega) (by omega),show((y:Int)+1)=((y+1:Nat):Int) by omega,JD rm (by omega)]
   try simp only[↓Bw]
   refine Q.ab0 lL (Iv a2) a2 ub (by omega) (by omega) λ m' j0 V9=>?_
   have ed:del (aQ l) y=aQ (del l y):=by simp[del,aQ,List.map_take,List.map_drop]
   rw[ed]at V9;refine Oc a7 V9 λ h9 j8=>?_
   grind [aa,mF,Iv]
  grind [WZ,ae,aa]
 simp only[q3,decide_false,↓ae];rw[bq];by_cases q4:q=4
 ·simp only[q4,decide_true,↓af,↓g3,↓d31,↓Bw,↓b4,↓d5,↓e5 (o:=3) rfl];rw[P8];have lk:(cW A).length=A.length:=lA;refine VH Q rfl (by omega) ?_ λ h' n' T hT Z=>?_
  ·simp only[↓g3,↓d31,aa,true_and,↓Bw];refine G.wA 2 (j:=k) rfl (by omega) rfl Ja λ h' Z=>?_
   simp only[List.set_cons_succ,List.set_cons_zero,aaV (Cm a8)]at Z;exact mF (hb.up (Nat.le_succ n)) Z
  ·simp only[↓Z.lH 2 rfl,Nat.zero_add,↓Z.gw 2 (j:=1) rfl rfl,aa,true_and,↓Z.Bw 4 rfl (show(0:Int)<=(k:Int) by omega) (show(k:Int)<(A.length:Int) by omega),aE];refine Z.wA 4 (j:=k) rfl (by omega) rfl Ja λ a1 c7=>?_
   simp only[List.set_cons_succ,List.set_cons_zero]at c7;have V3:=JI a7 c7.swap.pop;grind [mF]
 simp only[q4,decide_false,↓ae];rw[bq];by_cases q5:q=5
 ·simp only[q5,decide_true,↓af,↓f3,↓b1];refine YI G λ a h7 V1=>?_
  refine YL V1 λ c b5 V2=>?_
  have rc:(b5 c).row=some (1,[.ms a 0 1]):=by rw[V2.get 0 _ _ rfl];rfl
  have V3:Vs b5 ((n2,.arr 1 (cW A))::(I,.box (.agg [.ms n1 0 S.length,.ms n2 0 A.length]))::(n1,.arr 1 (aQ S))::(kn A++((a,.arr 1 (aQ [0]))::L0))):=by
   refine(V2.pop.perm ?_);refine .trans ?_ (.trans (.cons _ (.swap _ _ _)) (.swap _ _ _));refine .trans (.swap _ _ _) (.cons _ (.trans (.swap _ _ _) (.cons _ (.trans (.swap _ _ _) (.cons _ List.perm_middle.symm)))))
  rw[<- lA];refine V3.rH (ys:=[.ms a 0 1]) (λ hk=>IE rc (by simp) rfl hk) (λ y hy=>by simp at hy;subst hy;simp) (by rw[lA];simp;omega) (by rw[lA];simp;omega) λ n' h5 V4=>?_
  simp only[↓V4.fa 1 rfl,Nat.zero_add];refine V4.Yg 1 (j:=1) rfl (by simp) rfl λ g8 V5=>?_
  have e1:cW A++[.ms a 0 1]=cW (A++[(a,[0])]):=by simp[cW]
  have e2:(cW A).length+[D.ms a 0 1].length=(A++[(a,([0]:List Int))]).length:=by simp[cW]
  rw[e1,e2]at V5;have e3:kn A++((a,Slot.arr 1 (aQ [0]))::L0)=kn (A++[(a,([0]:List Int))])++L0:=by simp[kn]
  rw[e3]at V5;simp only[aa,true_and]
  have hp:OV (n+1) S ((A++[(a,([0]:List Int))]).map Prod.snd):=⟨by omega,by simp;omega,λ y hy=>by
   grind,by simp⟩
  refine mF (n1:=n1) (n2:=n') hp (V5.perm ?_);exact .trans (.swap _ _ _) (.cons _ (.swap _ _ _))
 simp only[q5,decide_false,↓ae,↓g3,↓d31,↓Bw,↓b4,↓d5,↓e5 (o:=3) rfl];refine UW (λ y hy=>by simp[D.cells]at hy;subst hy;rfl) aI.one rfl (λ y hy=>by simp[D.cells]at hy;subst hy;rfl) ?_
 try simp only[↓Bw]
 refine Q.adL (d:=.int .i64 b) (len':=(l++[b]).length) lL (by simp) aI.one rfl (by omega) (by omega) λ j3 g7 V9=>?_
 rw[show aQ l++[.int .i64 b]=aQ (l++[b]) by simp[aQ]]at V9;refine Oc a7 V9 λ g6 j2=>?_
 grind [aa,mF]
end Go.Am
namespace Go.Am
open Go Go.Proofs
def B9 (R:List (List Int)) (a b:Int):Bool:=R.any λ l=>decide (a∈l)&&decide (b∈l)
theorem PJ {S:List Int}{R:List (List Int)}{a b:Int}(hl:R.length<=1000000) (hls:∀l∈R,l.length<=1000000):aK PP bM [jz S R,.int .i64 a,.int .i64 b] (· = .bool (B9 R a b)):=by
 have dx:kx (jz S R):=bw (by simp);refine aZ zz (aG _ _ _) rfl (zn _ _ _ _) ?_;dsimp only[sT,xB,xF,xL];refine Vs.nil.box dx.one λ n4 h5 V1=>?_
 refine V1.box (aI (k:=.i64) (n:=a)).one λ n6 h7 V2=>?_
 refine V2.box (aI (k:=.i64) (n:=b)).one λ n8 H I=>?_
 simp only[↓I.fa 2 rfl,Nat.zero_add,↓I.bI 2 (j:=1) (cs:=[.sl (aQ S),.sl (R.map λ l=>.sl (aQ l))]) rfl rfl];refine J3 (g:=λ l=>.sl (aQ l)) (p:=λ l=>decide (a∈l)&&decide (b∈l)) (λ _=>rfl) hl (λ l Q KH V=>?_) ?_
 ·refine⟨by kernel_rfl,?_⟩;have G:=hls l Q;refine aY uA (aG _ _ _) rfl (uw _ _ _ _) ?_;dsimp only[oj,xL,xP];have l6:∀{K:HKq},ab PP (.ld (.c (.ptr n6 0 0)) 1 false) H K=K (.int .i64 a) H:=λ {K}=>I.Im 1 rfl rfl
  have Z:∀{K:HKq},ab PP (.ld (.c (.ptr n8 0 0)) 1 false) H K=K (.int .i64 b) H:=λ {K}=>I.Im 0 rfl rfl
  show ab PP (.ld (.c (.ptr n6 0 0)) 1 false) H _
  rw[l6];refine aW (mI G) (ip l a) ?_;rintro _ rfl;cases ha:decide (a∈l)
  ·simp only[↓gS];rw[ha]at V;exact V
  ·simp only[↓gS,Arg.get,↓Z];refine aW (mI G) (ip l b) ?_;grind
 ·rw[bb];rfl
theorem Q5 {S:List Int}{R:List (List Int)}{a b:Int}(hl:R.length<=1000000) (hls:∀l∈R,l.length<=1000000):aK PP dG [jz S R,.int .i64 a,.int .i64 b] (· = .bool (B9 R a b)):=by
 have dx:kx (jz S R):=bw (by simp);refine aZ zv (aG _ _ _) rfl (zj _ _ _ _) ?_;dsimp only[sF,xB];refine Vs.nil.box dx.one λ n4 G V=>?_
 refine⟨λ _ _=>B9 R a b=false,λ f h hk=>by rw[bb,hk],?_⟩;dsimp only[nZ,xF,xI,xL,xP];refine⟨λ m q h=>G=h/\∃i:Nat,i<=R.length/\m=R.length-i/\q=[.int .i64 (i:Int)]/\B9 (R.take i) a b=false,_,⟨rfl,0,by omega,rfl,rfl,rfl⟩,?_⟩;rintro m f _ ⟨rfl,i,hi,hm,hq,hn⟩;simp only[ah,and_true]at hq;have Z:∀{K:HKq},ab PP (.ld (.c (.ptr n4 0 1)) 1 false) G K=K (.sl (R.map λ l=>.sl (aQ l))) G:=λ {K}=>V.bI 0 (j:=1) rfl rfl
 simp only[hq,↓V.fa 0 rfl,Nat.zero_add,↓Z,bD,aH];by_cases a1:i<R.length
 case neg =>
  have:i=R.length:=by omega
  subst this;rw[fU (by omega),ae];grind [aa]
 rw[fY (by omega),af];obtain⟨l,Q⟩:∃l,R[i]?=some l:=⟨R[i],aq a1⟩;have I:=hls l (ak Q)
 have li:∀{K:HKq},ab PP (.iadd (.c (.sl (R.map λ l=>.sl (aQ l)))) (.c (.int .i64 (i:Int))) 1) G K=K (.vp (.sl (aQ l)) 0) G:=λ {K} =>
  iN (esz:=1) (by omega) (by grind) rfl
 have lv:∀{K:HKq},ab PP (.ld (.c (.vp (.sl (aQ l)) 0)) 1 false) G K=K (.sl (aQ l)) G:=λ {K}=>ni rfl
 have H:(decide (a∈l)&&decide (b∈l))=false->B9 (R.take (i+1)) a b=false:=λ h=>by
  grind [B9,List.take_add_one]
 have yes:(decide (a∈l)&&decide (b∈l))=true->B9 R a b=true:=λ h=>List.any_eq_true.2 ⟨l,ak Q,h⟩
 simp only[↓V.fa 0 rfl,Nat.zero_add,↓Z,↓li,↓lv];refine aW (Bz I) (ip l a) ?_;rintro _ rfl;cases ha:decide (a∈l)
 ·simp only[↓gS];rw[bB (by omega) (by omega)];simp only[aa,true_and];exact⟨_,by omega,i+1,by omega,rfl,by simp,H (by rw[ha];rfl)⟩
 ·simp only[↓gS,↓V.fa 0 rfl,Nat.zero_add,↓Z,↓li,↓lv];refine aW (Bz I) (ip l b) ?_;rintro _ rfl;cases hb:decide (b∈l)
  ·simp only[↓gS];rw[bB (by omega) (by omega)];simp only[aa,true_and];exact⟨_,by omega,i+1,by omega,rfl,by simp,H (by rw[ha,hb];rfl)⟩
  ·simp only[↓gS];grind [bb]
end Go.Am
namespace Go.Am
open Go Go.Proofs
def VJ (c:Code) (U:List Bool) (b:Nat):Prop:=hasB (b8 c) b=true/\((rG c b).t.kind=3\/(rG c b).t.kind=4)/\hasB U b=false
noncomputable def Pg (c:Code) (U R:List Bool):Int:=if rC c U R then @ite _ (∃b,b<c.b.length/\VJ c U b) (Classical.propDecidable _) 90 0 else 100
theorem Uc {c:Code}{U R:List Bool}(h:rC c U R=false):Pg c U R=100:=by unfold Pg;rw[h];rfl
theorem Ud {c:Code}{U R:List Bool}(h:rC c U R=true) (hn:∀b,b<c.b.length->¬VJ c U b):Pg c U R=0:=by
 grind [Pg]
theorem Ml {c:Code}{U R:List Bool}{b:Nat}(h:rC c U R=true) (hb:b<c.b.length) (hm:VJ c U b):Pg c U R=90:=by
 unfold Pg;rw[h,if_pos rfl,if_pos ⟨b,hb,hm⟩]
theorem aco {h:Heap}{L:LSq}{KH:HKq}{z:D}{a b:Int}(V:Vs h L) (hK:∀n h',Vs h' ((n,.arr 1 (aQ [a,b]))::L)->KH (.ms n 0 2) h'):ab PP (.bldS true 1 2 z [(0,.c (.int .i64 a)),(1,.c (.int .i64 b))]) h KH :=
 V.acj aI aI rfl rfl hK
theorem Q3 {c:Code}{U R:List Bool}(h:rC c U R=true):U.length=c.b.length:=by
 grind [rC]
theorem MR {c:Code}(hc:cR c){vU vR:D}{U R:List Bool}(wU:CD vU U) (wR:CD vR R):aK PP bY [c.e,.agg [vU,vR]] (· = .int .i64 (Pg c U R)):=by
 have c0:=hc.g.nb;have dU:kx (.agg [vU,vR]):=bw (λ y hy=>by simp at hy;rcases hy with rfl|rfl;rcases wU with rfl|⟨rfl,-⟩<;>rfl;rcases wR with rfl|⟨rfl,-⟩<;>rfl);refine aZ Gc (aG _ _ _) rfl (FR _ _ _) ?_;dsimp only[Aa,xB,xL];refine Vs.nil.box c.b9.one λ H h4 V4=>?_
 refine V4.box dU.one λ n5 h6 V=>?_
 rw[V.fV 1 (s:=8) rfl rfl,V.fV 0 (s:=2) rfl rfl];refine aW (Vg hc wU wR) (λ d hd=>by simp at hd;rcases hd with rfl|rfl;exact c.b9.pair;exact dU.pair) ?_;rintro _ rfl;cases hk:rC c U R
 ·grind [Zv,af,bC,Uc]
 have b5:=Q3 hk;have eU:=wU.sl (by omega);subst eU;rw[if_pos rfl,Ik rfl,ae];refine⟨λ _ _=>∀b,b<c.b.length->¬VJ c U b,λ f h hn=>by rw[bC,Ud hk hn],?_⟩;rw[V.fV 1 (s:=8) rfl rfl];refine aW (Vh hc.g) (λ d hd=>by simp at hd;subst hd;exact c.b9.pair) ?_;rintro _ rfl;rw[acr,gV];dsimp only[sU,xF,xI,xL,xP];refine⟨λ m q h=>∃(i:Nat) (L:LSq),Vs h (L++[(n5,.box (.agg [.sl (bL U),vR])),(H,.box c.e)])/\i<=c.b.length/\m=c.b.length-i/\q=[.int .i64 (i:Int)]/\∀b,b<i->¬VJ c U b,_,⟨0,[],V,by omega,rfl,rfl,λ b hb=>by omega⟩,?_⟩;rintro m f h ⟨i,L,V1,hi,hm,hq,b7⟩;simp only[ah,and_true]at hq;rw[hq];by_cases a1:i<c.b.length
 case neg =>
  have:i=c.b.length:=by omega
  subst this;rw[fU (by omega),ae];grind [aa]
 rw[fY (by omega),af];have hB:c.b[i]?=some c.b[i]:=aq a1;generalize c.b[i]=B at hB;have b2:=gK hB;have m3:(H,Slot.box c.e)∈L++[(n5,.box (.agg [.sl (bL U),vR])),(H,.box c.e)]:=by simp
 have m5:(n5,Slot.box (.agg [.sl (bL U),vR]))∈L++[(n5,.box (.agg [.sl (bL U),vR])),(H,.box c.e)]:=by simp
 have lr:∀{h:Heap}{KH:HKq},ab PP (.iadd (.c (.sl (bL (b8 c)))) (.c (.int .i64 (i:Int))) 1) h KH=KH (.vp (.bool (hasB (b8 c) i)) 0) h:=λ {h KH} =>
  iN (esz:=1) (by omega) (by grind [cr,bo,gV]) rfl
 have lb:∀{x:Bool}{h:Heap}{KH:HKq},ab PP (.ld (.c (.vp (.bool x) 0)) 1 false) h KH=KH (.bool x) h:=λ {x h KH}=>ni rfl
 simp only[↓lr,↓lb];refine aco V1 λ n31 G Z=>?_
 have a8:(H,Slot.box c.e)∈(n31,Slot.arr 1 (aQ [3,4]))::(L++[(n5,.box (.agg [.sl (bL U),vR])),(H,.box c.e)]):=List.mem_cons_of_mem _ m3;have a7:(n5,Slot.box (.agg [.sl (bL U),vR]))∈(n31,Slot.arr 1 (aQ [3,4]))::(L++[(n5,.box (.agg [.sl (bL U),vR])),(H,.box c.e)]):=List.mem_cons_of_mem _ m5;obtain⟨k3,a6⟩:=ba a8;obtain⟨k5,a2⟩:=ba a7;have b3:∀{KH:HKq},ab PP (.fadd (.c (.vp B.e 1)) 0) G KH=KH (.vp B.e 1) G:=λ {KH}=>rfl
 have b1:∀{KH:HKq},ab PP (.ld (.c (.vp B.e 1)) 1 false) G KH=KH (.int .i64 B.t.kind) G:=λ {KH}=>Fo rfl
 have lu:∀{h:Heap}{KH:HKq},ab PP (.iadd (.c (.sl (bL U))) (.c (.int .i64 (i:Int))) 1) h KH=KH (.vp (.bool (hasB U i)) 0) h:=λ {h KH} =>
  iN (esz:=1) (by omega) (by grind [cr,bo]) rfl
 simp only[↓Z.fa k3 a6,Nat.zero_add,↓Z.bI k3 (j:=7) a6 rfl,↓rE hB,↓KM,↓b3,↓b1];refine Rf Z rfl (λ d hd=>by grind [aI]) (mI (k:=B.t.kind) (by simp)) rfl ?_
 have Q:¬VJ c U i->vbin .add (.int .i64 (i:Int)) (.int .i64 1) λ b4=>aD [D.ptr H 0 0,.ptr n5 0 0,.sl (bL (b8 c)),.int .i64 ((c.b.length:Nat):Int)] [D.ptr H 0 0,.ptr n5 0 0,.sl (bL (b8 c)),.int .i64 ((c.b.length:Nat):Int)]/\∃m',m'<m/\∃(i:Nat) (L:LSq),Vs G (L++[(n5,.box (.agg [.sl (bL U),vR])),(H,.box c.e)])/\i<=c.b.length/\m'=c.b.length-i/\[b4]=[.int .i64 (i:Int)]/\∀b,b<i->¬VJ c U b:=λ hn=>by
  rw[bB (by omega) (by omega)];simp only[aa,true_and];refine⟨_,by omega,i+1,(n31,.arr 1 (aQ [3,4]))::L,Z,by omega,rfl,by simp,λ b hb=>?_⟩;grind
 cases hr:hasB (b8 c) i
 ·simp only[↓gS];exact Q λ h=>by rw[h.1]at hr;cases hr
 by_cases I:B.t.kind∈[(3:Int),4]
 case neg =>
  simp only[I,decide_false,↓gS];exact Q λ h=>I (by have:=h.2.1;grind)
 simp only[I,decide_true,↓gS,↓Z.fa k5 a2,Nat.zero_add,↓Z.bI k5 (j:=0) a2 rfl,↓lu,↓lb];cases hu:hasB U i
 ·simp only[↓gS,Bool.not_false];rw[bC,Ml hk a1 ⟨hr,by rw[b2];simpa using I,hu⟩]
 ·simp only[↓gS,Bool.not_true];exact Q λ h=>by rw[h.2.2]at hu;cases hu
end Go.Am
namespace Go.Am
open Go Go.Proofs
theorem Ss {c:Code}(hc:cR c) (hD:Kj c){vU vR:D}{U R:List Bool}(wU:CD vU U) (wR:CD vR R):aK PP gG [c.e,.agg [vU,vR]] (· = .int .i64 (Pg c U R)):=by
 have b1:=hc.g.nb;have dU:kx (.agg [vU,vR]):=bw (λ y hy=>by simp at hy;rcases hy with rfl|rfl;rcases wU with rfl|⟨rfl,-⟩<;>rfl;rcases wR with rfl|⟨rfl,-⟩<;>rfl);refine aZ F0 (aG _ _ _) rfl (FF _ _ _) ?_;dsimp only[zR,xB,xL];refine Vs.nil.box c.b9.one λ n3 h4 V4=>?_
 refine V4.box dU.one λ n5 H V=>?_
 rw[V.fV 1 (s:=8) rfl rfl,V.fV 0 (s:=2) rfl rfl];refine aW (Sv hc hD wU wR) (λ d hd=>by simp at hd;rcases hd with rfl|rfl;exact c.b9.pair;exact dU.pair) ?_;rintro _ rfl;cases hk:rC c U R
 ·grind [Zv,af,bC,Uc]
 have a7:=Q3 hk;have eU:=wU.sl (by omega);subst eU;rw[if_pos rfl,Ik rfl,ae,V.fV 1 (s:=8) rfl rfl];refine aW (xt hc.g) (λ d hd=>by simp at hd;subst hd;exact c.b9.pair) ?_;rintro _ ⟨S,rfl,hS,hP⟩;have eS:=tI hS hP;subst eS;refine⟨λ _ _=>∀b,b<c.b.length->¬VJ c U b,λ f h hn=>by rw[bC,Ud hk hn],?_⟩;dsimp only[sG,xF,xI,xL,xP];refine⟨λ m q h=>H=h/\∃i:Nat,i<=c.b.length/\m=c.b.length-i/\q=[.int .i64 (i:Int)]/\∀b,b<i->¬VJ c U b,_,⟨rfl,0,by omega,rfl,rfl,λ b hb=>by omega⟩,?_⟩;rintro m f _ ⟨rfl,i,hi,hm,hq,a8⟩;simp only[ah,and_true]at hq;have Z:∀{KH:HKq},ab PP (.ld (.c (.ptr n3 0 7)) 1 false) H KH=KH (.sl (c.b.map Block.e)) H:=λ {KH}=>V.bI 1 (j:=7) rfl rfl
 simp only[hq,↓V.fa 1 rfl,Nat.zero_add,↓Z,bD,aH];by_cases I:i<c.b.length
 case neg =>
  have:i=c.b.length:=by omega
  subst this;rw[fU (by omega),ae];grind [aa]
 rw[fY (by omega),af];have hB:c.b[i]?=some c.b[i]:=aq I;generalize c.b[i]=B at hB;have Q:=gK hB
 have lr:∀{h:Heap}{KH:HKq},ab PP (.iadd (.c (.sl (bL (b8 c)))) (.c (.int .i64 (i:Int))) 1) h KH=KH (.vp (.bool (hasB (b8 c) i)) 0) h:=λ {h KH} =>
  iN (esz:=1) (by omega) (by grind [cr,bo]) rfl
 have lb:∀{x:Bool}{h:Heap}{KH:HKq},ab PP (.ld (.c (.vp (.bool x) 0)) 1 false) h KH=KH (.bool x) h:=λ {x h KH}=>ni rfl
 have a2:∀{KH:HKq},ab PP (.fadd (.c (.vp B.e 1)) 0) H KH=KH (.vp B.e 1) H:=λ {KH}=>rfl
 have a1:∀{KH:HKq},ab PP (.ld (.c (.vp B.e 1)) 1 false) H KH=KH (.int .i64 B.t.kind) H:=λ {KH}=>Fo rfl
 have lu:∀{h:Heap}{KH:HKq},ab PP (.iadd (.c (.sl (bL U))) (.c (.int .i64 (i:Int))) 1) h KH=KH (.vp (.bool (hasB U i)) 0) h:=λ {h KH} =>
  iN (esz:=1) (by omega) (by grind [cr,bo]) rfl
 simp only[↓V.fa 1 rfl,Nat.zero_add,↓Z,↓rE hB,↓KM,↓a2,↓a1,↓lr,↓lb]
 have G:¬VJ c U i->vbin .add (.int .i64 (i:Int)) (.int .i64 1) λ a6=>aD [D.ptr n3 0 0,.ptr n5 0 0,.sl (bL (b8 c))] [D.ptr n3 0 0,.ptr n5 0 0,.sl (bL (b8 c))]/\∃m',m'<m/\True/\∃(i:Nat),i<=c.b.length/\m'=c.b.length-i/\[a6]=[.int .i64 (i:Int)]/\∀b,b<i->¬VJ c U b:=λ hn=>by
  rw[bB (by omega) (by omega)];simp only[aa,true_and];refine⟨_,by omega,i+1,by omega,rfl,by simp,λ b hb=>?_⟩;grind
 cases hr:hasB (b8 c) i
 ·simp only[↓gS];exact G λ h=>by rw[h.1]at hr;cases hr
 simp only[↓gS];have rest:B.t.kind=3\/B.t.kind=4->ab PP (.fadd (.c (.ptr n5 0 0)) 0) H (λ b3 b2=>True)->True:=λ _ _=>trivial
 by_cases k3:B.t.kind=3
 ·simp only[k3,bq,decide_true,↓gS,↓V.fa 0 rfl,Nat.zero_add,↓V.bI 0 (j:=0) rfl rfl,↓lu,↓lb];cases hu:hasB U i
  ·simp only[↓gS,Bool.not_false];rw[bC,Ml hk I ⟨hr,by rw[Q];exact Or.inl k3,hu⟩]
  ·simp only[↓gS,Bool.not_true];exact G λ h=>by rw[h.2.2]at hu;cases hu
 simp only[k3,bq,decide_false,↓gS];by_cases k4:B.t.kind=4
 ·simp only[k4,bq,decide_true,↓gS,↓V.fa 0 rfl,Nat.zero_add,↓V.bI 0 (j:=0) rfl rfl,↓lu,↓lb];cases hu:hasB U i
  ·simp only[↓gS,Bool.not_false];rw[bC,Ml hk I ⟨hr,by rw[Q];exact Or.inr k4,hu⟩]
  ·simp only[↓gS,Bool.not_true];exact G λ h=>by rw[h.2.2]at hu;cases hu
 simp only[k4,bq,decide_false,↓gS];exact G λ h=>by have:=h.2.1;rw[Q]at this;omega
theorem Q6 (l:List Int) (hl:l.length<=1000000):aK PP iD [.sl (aQ l),.sl (aQ l)] (· = .bool true):=by
 refine aZ zy (aG _ _ _) rfl (zm _ _ _) ?_;unfold sO;rw[xi,xi,Ik rfl,ae];refine⟨λ _ _=>True,λ f h _=>by rw[bb],?_⟩;dsimp only[oi,yI,yL];refine⟨λ m q h=>gY=h/\∃i:Nat,i<=l.length/\m=l.length-i/\q=[.int .i64 (i:Int)],_,⟨rfl,0,by omega,rfl,rfl⟩,?_⟩;rintro m f _ ⟨rfl,i,hi,hm,H⟩;simp only[ah,and_true]at H;rw[xi,H];by_cases G:i<l.length
 ·obtain⟨b,hb⟩:∃b,l[i]?=some b:=⟨l[i],aq G⟩;have I:∀{K:D->Prop},au PP (.iadd (.c (.sl (aQ l))) (.c (.int .i64 (i:Int))) 1) gY K=K (.vp (.int .i64 b) 0):=λ {K}=>by rw[gJ,WW hb]
  have dl:∀{K:D->Prop}{a:Int},au PP (.ld (.c (.vp (.int .i64 a) 0)) 1 false) gY K=K (.int .i64 a):=λ {K a}=>sw rfl
  rw[fY (by omega),af];simp only[↓I,↓dl];rw[Ik rfl,ae,bB (by omega) (by omega)];simp only[aa,true_and];exact⟨_,by omega,i+1,by omega,rfl,by simp⟩
 grind [fU,ae,aa]
theorem Ot {S:List Int}{R:List (List Int)}(hS:S.length<=1000000) (hR:R.length<=1000000) (hl:∀l∈R,l.length<=1000000):aK PP iC [jz S R,jz S R] (· = .bool true):=by
 have I:kx (jz S R):=bw (by simp);refine aZ HV (aG _ _ _) rfl (HB _ _ _) ?_;dsimp only[Du,xB,xF,xL,xP];refine Vs.nil.box I.one λ Q h4 V4=>?_
 refine V4.box I.one λ n5 G V=>?_
 have a2:∀{K:HKq},ab PP (.ld (.c (.ptr Q 0 0)) 1 false) G K=K (.sl (aQ S)) G:=λ {K}=>V.bI 1 (j:=0) rfl rfl
 have a1:∀{K:HKq},ab PP (.ld (.c (.ptr n5 0 0)) 1 false) G K=K (.sl (aQ S)) G:=λ {K}=>V.bI 0 (j:=0) rfl rfl
 have H:∀{K:HKq},ab PP (.ld (.c (.ptr Q 0 1)) 1 false) G K=K (.sl (R.map λ l=>.sl (aQ l))) G:=λ {K}=>V.bI 1 (j:=1) rfl rfl
 have Z:∀{K:HKq},ab PP (.ld (.c (.ptr n5 0 1)) 1 false) G K=K (.sl (R.map λ l=>.sl (aQ l))) G:=λ {K}=>V.bI 0 (j:=1) rfl rfl
 have d31:∀{K:D->Prop},au PP (.ld (.c (.ptr Q 0 1)) 1 false) G K=K (.sl (R.map λ l=>.sl (aQ l))):=λ {K}=>V.gw 1 (j:=1) rfl rfl
 have d51:∀{K:D->Prop},au PP (.ld (.c (.ptr n5 0 1)) 1 false) G K=K (.sl (R.map λ l=>.sl (aQ l))):=λ {K}=>V.gw 0 (j:=1) rfl rfl
 have p2:∀(l:List Int),∀d,d∈[.sl (aQ l),.sl (aQ l)]->d.vd=true/\aL d:=λ l d hd=>by simp at hd;subst hd;exact Io.pair
 simp only[↓V.fa 1 rfl,↓V.fa 0 rfl,Nat.zero_add,↓a2,↓a1];refine aW (Q6 S hS) (p2 S) ?_;rintro _ rfl;simp only[↓gS,Bool.not_true,↓V.fa 1 rfl,↓V.fa 0 rfl,Nat.zero_add,↓H,↓Z,bD,aH];rw[Ik rfl];simp only[↓gS];refine⟨λ _ _=>True,λ f h _=>by rw[bb],?_⟩;dsimp only[uH,xF,xL,yF,yI,yL];refine⟨λ m q h=>G=h/\∃i:Nat,i<=R.length/\m=R.length-i/\q=[.int .i64 (i:Int)],_,⟨rfl,0,by omega,rfl,rfl⟩,?_⟩;rintro m f _ ⟨rfl,i,hi,hm,hq⟩;simp only[ah,and_true]at hq;simp only[hq,↓V.fa 1 rfl,Nat.zero_add,↓H,bD,aH];by_cases a6:i<R.length
 ·obtain⟨l,a7⟩:∃l,R[i]?=some l:=⟨R[i],aq a6⟩
  have di:∀{K:D->Prop},au PP (.iadd (.c (.sl (R.map λ l=>.sl (aQ l)))) (.c (.int .i64 (i:Int))) 1) G K=K (.vp (.sl (aQ l)) 0):=λ {K}=>by
   rw[gJ,iN (esz:=1) (d:=.sl (aQ l)) (by omega) (by grind) rfl]
  have dl:∀{K:D->Prop},au PP (.ld (.c (.vp (.sl (aQ l)) 0)) 1 false) G K=K (.sl (aQ l)):=λ {K}=>sw rfl
  rw[fY (by omega),af];simp only[↓V.lH 1 rfl,↓V.lH 0 rfl,Nat.zero_add,↓d31,↓d51,↓di,↓dl];refine db (Q6 l (hl l (ak a7))) (p2 l) ?_;rw[cw,Bool.not_true,ae,bB (by omega) (by omega)];simp only[aa,true_and];exact⟨_,by omega,i+1,by omega,rfl,by simp⟩
 grind [fU,ae,aa]
end Go.Am
namespace Go.Am
open Go Go.Proofs
theorem SG {P:Program}{f:FuncId}{ds:List D}{h:Heap}{K:HKq}(h1:∀d∈ds,aL d/\nN h d) (hc:ag P f (ds.map (D.fz h)) (h.freezeAll (ds.flatMap D.nm)) K):ag P f ds h K:=by
 intro c w vals hh hp hr hs hrel;subst hh;obtain⟨g1,g2⟩:=dP hr (ds.flatMap D.nm);refine(hc ⟨c.ρ,c.X,c.h.freezeAll (ds.flatMap D.nm),c.hp⟩ w vals rfl hp g2 (by simpa using hs) λ i d hd=>?_).mono ?_
 ·grind [Ft,fq]
 ·rintro e w' ⟨v,r,ρ,h',Z,V,Q,I,H,G⟩;exact⟨v,r,ρ,h',Z,g1.trans V,Q,I,H,G⟩
theorem XY {c:Code}(hc:cR c) (hD:Kj c){nr:Nat}(hr:c.regs=(nr:Int)){a b d:Nat}{m:Nat}{dd:D}(hw:Wk dd c.e) (hdd:kx dd){h:Heap}{L:LSq}{KH:HKq}(V:Vs h ((m,.arr 1 [.int .u8 (a:Int),.int .u8 (b:Int),.int .u8 (d:Int)])::L))
  (hK:∀nU nR U R X h',U.length=c.b.length->R.length=nr->Vs h' ((nR,.arr 1 (bL R))::(nU,.arr 1 (bL U))::(X++L))->KH (.agg [.ms nU 0 c.b.length,.ms nR 0 nr]) h'):ag PP oK [dd,.ms m 0 3] h KH:=by
 have hn:=V.get 0 _ _ rfl;have G:(h m).row=some (1,[.int .u8 (a:Int),.int .u8 (b:Int),.int .u8 (d:Int)]):=by rw[hn];rfl
 have Z:(D.ms m 0 3).fz h=rW [a,b,d]:=by simp[D.fz,D.fzc,G,rW]
 have Q:[dd,D.ms m 0 3].map (D.fz h)=[dd,rW [a,b,d]]:=by rw[List.map_cons,(jj hdd.pair.1).1,List.map_cons,Z];rfl
 refine SG (λ x hx=>?_) ?_
 ·simp only[List.mem_cons,List.not_mem_nil,or_false]at hx;rcases hx with rfl|rfl
  ·exact⟨hdd.one,(jj hdd.pair.1).2.2⟩
  ·refine⟨by simp,?_⟩;intro y hy;simp only[D.cells,List.mem_singleton]at hy;subst hy;exact⟨1,_,G,by simp,λ x hx y hy=>by simp at hx;rcases hx with rfl|rfl|rfl<;>(simp[D.cells]at hy;subst hy;rfl)⟩
 ·rw[Q]
  have H:[dd,D.ms m 0 3].flatMap D.nm=[m]:=by
   have:=(jj (h:=h) hdd.pair.1).2.1;simp only[List.flatMap_cons,this,List.flatMap_nil,List.nil_append,List.append_nil];rfl
  rw[H]
  have V':Vs (h.freezeAll [m]) L:=V.pop.QC λ k s ⟨i,hi⟩=>jG [m] (by
   simp only[List.mem_singleton]
   exact λ e=>V.ne (i+1) 0 k m s _ (by simpa using hi) rfl (by omega) e)
  exact ag.arg (.cons hw (.cons (.refl _) .nil)) (aar hc hD hr (by simp) V' λ nU nR U R X h' h1 h2 _ _ _ I=>hK nU nR U R X h' h1 h2 I)
end Go.Am
namespace Go.Am
open Go Go.Proofs
noncomputable def Q0 (c:Code) (S:List Int) (R:List (List Int)):Int:=@ite _ (OY c S R) (Classical.propDecidable _) 0 100
theorem QZ {c:Code}{S:List Int}{R:List (List Int)}{r:D}(h:∃e:Int,r=.int .i64 e/\(e=0\/e=100)/\(e=0↔OY c S R)):r=.int .i64 (Q0 c S R):=by
 grind [Q0]
def Y3 (l:List Nat):List Int:=l.map λ n:Nat=>(n:Int)
theorem Pc (c:Code):RE c=jz (Y3 (jT c)) ((Wt c).map Y3):=by
 grind [Y3,List.map_congr_left,Yq,Wv,jz]
theorem abl {c:Code}(hc:bp c):OV 20 (Y3 (jT c)) ((Wt c).map Y3):=by
 have G:=hc.nb;have h1:(jT c).length<=c.b.length:=oM;refine⟨by simp[Y3];omega,by simp[Wt];omega,λ l hl=>?_,?_⟩
 ·grind [Wt,rl,oM,Y3]
 ·intro h;have h0:(0:Nat)∈jT c:=dj.2 ⟨by omega,.zero⟩;have:(jT c).length=0:=by have:=congrArg List.length h;simpa[Wt] using this
  grind
theorem ack {h:Heap}{L:LSq}(V:Vs h L){z:D}{i j k:Nat}{KH:HKq}(hK:∀m h',Vs h' ((m,.arr 1 [.int .u8 (i:Int),.int .u8 (j:Int),.int .u8 (k:Int)])::L)->KH (.ms m 0 3) h'):ab PP (.bldS true 1 3 z [(0,.c (.int .u8 (i:Int))),(1,.c (.int .u8 (j:Int))),(2,.c (.int .u8 (k:Int)))]) h KH:=by
 refine⟨λ p hp=>?_,λ G p hp=>?_,λ n t=>?_⟩
 ·simp[Arg.get]at hp;rcases hp with rfl|rfl|rfl
  ·exact⟨by show 0<3;omega,rfl,aI.one⟩
  ·exact⟨by show 1<3;omega,rfl,aI.one⟩
  ·exact⟨by show 2<3;omega,rfl,aI.one⟩
 ·simp[Arg.get]at hp;rcases hp with rfl|rfl|rfl<;>(intro x hx;simp[D.cells]at hx;subst hx;trivial)
 ·have:KH (.ms n 0 3) (aF h n (.arr 1 [.int .u8 (i:Int),.int .u8 (j:Int),.int .u8 (k:Int)])):=hK _ _ (V.push t.free (by simp));grind [Arg.get,setEls,D.fz,D.fzc,D.nm,D.lG,Heap.freezeAll]
theorem Vs.iaQ {h:Heap}{L:LSq}{KH:HKq}(V:Vs h L) (i:Nat){n l s:Nat}{a:Nat}{d:D}(hi:L[i]?=some (n,.box d)) (h1:a<l):ab PP (.iadda (.c (.ptr n 0 0)) (.c (.int .i64 (a:Int))) l s) h KH=KH (.ptr n 0 (a*s)) h:=by
 rw[NU,V.get i _ _ hi];apply propext;constructor
 ·grind
 ·intro G;exact⟨by omega,by omega,rfl,by simpa using G⟩
theorem Vs.iaZ {h:Heap}{L:LSq}{KH:HKq}(V:Vs h L) (i:Nat){n l s:Nat}{d:D}(hi:L[i]?=some (n,.box d)) (h1:0<l):ab PP (.iadda (.c (.ptr n 0 0)) (.c (.int .i64 0)) l s) h KH=KH (.ptr n 0 0) h:=by
 have:=V.iaQ i (a:=0) (s:=s) (KH:=KH) hi h1;grind
theorem Vs.iaU {h:Heap}{L:LSq}{KH:HKq}(V:Vs h L) (i:Nat){n l s:Nat}{d:D}(hi:L[i]?=some (n,.box d)) (h1:1<l):ab PP (.iadda (.c (.ptr n 0 0)) (.c (.int .i64 1)) l s) h KH=KH (.ptr n 0 s) h:=by
 have:=V.iaQ i (a:=1) (s:=s) (KH:=KH) hi h1;grind
theorem Vs.abX {h:Heap}{L:LSq}{K:D->Prop}(V:Vs h L) (i:Nat){n l s:Nat}{d:D}(hi:L[i]?=some (n,.box d)) (h1:0<l):au PP (.iadda (.c (.ptr n 0 0)) (.c (.int .i64 0)) l s) h K=K (.ptr n 0 0):=V.iaZ i hi h1 (KH:=λ d _=>K d)
theorem Vs.fa' {h:Heap}{L:LSq}{KH:HKq}(V:Vs h L) (i:Nat){n j o:Nat}{d:D}(hi:L[i]?=some (n,.box d)):ab PP (.fadd (.c (.ptr n 0 j)) o) h KH=KH (.ptr n 0 (j+o)) h:=by
 have:=V.get i n _ hi;rw[kX,this];apply propext;exact⟨λ H=>H.2,λ G=>⟨rfl,G⟩⟩
theorem Vs.ldS {h:Heap}{L:LSq}{KH:HKq}(V:Vs h L) (i:Nat){n j s:Nat}{cs ds:List D}(hi:L[i]?=some (n,.box (.agg cs))) (hj:j+s<=cs.length) (hd:(cs.drop j).take s=ds):ab PP (.ld (.c (.ptr n 0 j)) s true) h KH=KH (.agg ds) h:=by
 rw[RK (V.get i _ _ hi) hj,hd]
def Sk (p0 i0 j0:Nat) (b0:Int) (p1 i1 j1:Nat) (b1:Int):List D:=[.int .u8 (p0:Int),.int .u8 (i0:Int),.int .u8 (j0:Int),.int .i64 b0,.int .u8 (p1:Int),.int .u8 (i1:Int),.int .u8 (j1:Int),.int .i64 b1]
end Go.Am
namespace Go.Am
open Go Go.Proofs
theorem WU (hex:aK PP iE [] (· = .bool true)){bs:List Nat}{xs:List (Nat×Nat×Nat)}{p0 i0 j0 p1 i1 j1:Nat}{b0 b1:Int}(hb:∀b∈bs,b<=255) (hl:bs.length<=9223372036854775807) (hxb:∀p∈xs,p.1<=255/\p.2.1<=255/\p.2.2<=255) (hx:xs.length<=9223372036854775807)
  (hi0:i0<=255) (hj0:j0<=255) (hi1:i1<=255) (hj1:j1<=255):aK PP fX [Cq bs,Tp xs,.agg (Sk p0 i0 j0 b0 p1 i1 j1 b1)] (· = .bool true):=by
 have dz:kx (.agg (Sk p0 i0 j0 b0 p1 i1 j1 b1)):=bw (by simp[Sk]);refine aZ ku (aG _ _ _) rfl (kp _ _ _ _) ?_;dsimp only[fO,xB,yC,yF,yJ,yL];refine Vs.nil.box (bw (by simp[rW]):kx (Cq bs)).one λ n4 h5 V5=>?_
 refine V5.box dz.one λ n6 h7 V7=>?_
 refine aW hex (λ d hd=>by cases hd) ?_;rintro _ rfl;rw[cw,Bool.not_true,ae];have dr:au PP (.ld (.c (.ptr n4 0 0)) 1 true) h7=λ K=>K (Cq bs):=by funext K;exact V7.Bv 1 (s:=1) (cs:=[rW bs]) rfl rfl
 simp only[dr,↓V7.abX 0 rfl (show 0<2 by omega),↓V7.lH 0 rfl,Nat.zero_add,↓V7.gw 0 (j:=3) (e:=.int .i64 b0) rfl rfl,C6];refine aW (Z8 hb hl) (λ d hd=>by simp at hd;subst hd;exact(bw (by simp[rW]):kx (Cq bs)).pair) ?_;rintro _ ⟨c0,h6,rfl⟩;simp only[↓V7.abX 0 rfl (show 0<2 by omega),↓V7.lH 0 rfl,Nat.zero_add,↓V7.gw 0 (j:=3) (e:=.int .i64 b0) rfl rfl,C6,aa,true_and];refine aW (Vm h6) (λ d hd=>by simp at hd;rcases hd with rfl|rfl;exact c0.b9.pair;exact aI.pair) ?_;rintro _ rfl;refine aW (Vl hxb hx) (λ d hd=>by simp at hd;subst hd;exact FA.pair) ?_;rintro _ ⟨ts,l0,rfl⟩;have hc:nQ (xw c0 (IntKind.u32.wrap b0)):=XM h6;generalize xw c0 (IntKind.u32.wrap b0)=c at hc;have dN:kx (cN ts):=bw (by simp[D.vone])
 have l2:∀{K:D->Prop},K (.sl [c.e,cN ts])->au PP (.bldS false 8 2 (.agg [(.int .i64 0),(.int .i64 0),(.int .i64 0),(.int .i64 0),(.int .i64 0),.nil,.nil,.nil]) [(0,.c c.e),(1,.c (cN ts))]) h7 K:=λ {K} hk=>by
  refine⟨λ p hp=>?_,λ p hp=>?_,λ y hy=>?_,by grind [Arg.get,setEls]⟩
  ·simp[Arg.get]at hp;rcases hp with rfl|rfl
   ·exact⟨by show 0<2;omega,rfl,c.b9.one⟩
   ·exact⟨by show 1<2;omega,rfl,dN.one⟩
  ·simp[Arg.get]at hp;rcases hp with rfl|rfl
   ·intro y hy;simp only[Code.e,D.cells,List.mem_cons,List.not_mem_nil,or_false]at hy;rcases hy with rfl|rfl|rfl|rfl|rfl|rfl|rfl|rfl<;>rfl
   ·intro y hy;simp only[cN,D.cells,List.mem_cons,List.not_mem_nil,or_false]at hy;rcases hy with rfl|rfl|rfl|rfl|rfl|rfl|rfl|rfl<;>rfl
  ·simp[D.cells]at hy;rcases hy with rfl|rfl<;>rfl
 refine l2 ?_;refine⟨λ _ _=>True,λ f h' _=>by rw[bb],?_⟩;dsimp only[er,xF,xI,xJ,xL,xS,yL,yP];refine⟨λ m q h'=>∃(i:Nat) (L:LSq),q=[nD i]/\i<=2/\m=2-i/\(n6,Slot.box (.agg (Sk p0 i0 j0 b0 p1 i1 j1 b1)))∈L/\Vs h' L,_,⟨0,_,rfl,by omega,rfl,List.mem_cons_self,V7⟩,?_⟩;rintro m f h1 ⟨i,L,hq,hi,hm,m6,V1⟩;simp only[ah,and_true]at hq;rw[hq];by_cases g2:¬i<2
 ·rw[nD,fU (by omega),ae];grind [aa]
 replace g2:i<2:=Decidable.not_not.1 g2;rw[nD,fY (by omega),af]
 obtain⟨c',ds,bl,Q,hw,I,G,m0,l4,l1⟩:∃(c':Code) (ds bl:List D),cR c'/\Wk (.agg ds) c'.e/\kx (.agg ds)/\ds.length=8/\([c.e,cN ts]:List D)[i]?=some (.agg ds)/\ds[7]?=some (.sl bl)/\bl.length=c'.b.length:=by
  match i,g2 with
  | 0,_=>exact⟨c,_,_,hc.u,.refl _,c.b9,rfl,rfl,rfl,by simp⟩
  | 1,_=>exact⟨cT ts,_,_,l0,adC,dN,rfl,rfl,rfl,by simp[cT]⟩
 have n3:=Q.g.nb;have n1:=Q.rg;obtain⟨nr,g1⟩:∃nr:Nat,c'.regs=(nr:Int):=⟨c'.regs.toNat,by omega⟩;have hone:∀x∈ds,x.one=true:=λ y hy=>I.one y hy
 refine⟨λ _ h'=>∃L,(n6,Slot.box (.agg (Sk p0 i0 j0 b0 p1 i1 j1 b1)))∈L/\Vs h' L,?_,?_⟩
 ·rintro f2 h2 ⟨L2,k8,V2⟩;rw[bB (by omega) (by omega)];simp only[aa,true_and];exact⟨_,by omega,i+1,L2,rfl,by omega,rfl,k8,V2⟩
 rw[iN (esz:=8) (d:=.agg ds) (by omega) (by grind) G,NM G];have up:∀{L':LSq}{x:Nat×Slot},(n6,Slot.box (.agg (Sk p0 i0 j0 b0 p1 i1 j1 b1)))∈L'->(n6,Slot.box (.agg (Sk p0 i0 j0 b0 p1 i1 j1 b1)))∈x::L':=λ h=>List.mem_cons_of_mem _ h
 have w1:OS [.agg ds] [c'.e]:=.cons hw .nil;have pd:∀d,d∈[D.agg ds]->d.vd=true/\aL d:=λ d hd=>by simp at hd;subst hd;exact I.pair
 refine V1.alloc λ n36 q7 k1=>?_
 refine k1.mY 0 rfl rfl G hone λ q5 c6=>?_
 simp only[List.set_cons_zero]at c6;rw[c6.fV 0 (s:=8) rfl G];refine ag.arg w1 ?_;refine PX Q.g c6 λ hD=>?_
 refine aW (PL Q.g) (λ d hd=>by simp at hd;subst hd;exact c'.b9.pair) ?_;rintro _ rfl;obtain⟨S,R,h8,a8⟩:∃S R,RE c'=jz S R/\OV 20 S R:=⟨_,_,Pc c',abl Q.g⟩;have e2:∀{S:List Int}{R:List (List Int)}(x:D),x∈[D.sl (aQ S),.sl (R.map λ l=>.sl (aQ l))]->x.one=true:=λ x hx=>by simp at hx;rcases hx with rfl|rfl<;>rfl
 rw[h8];refine c6.alloc λ g5 q4 k0=>?_
 refine k0.mY (cs':=[.sl (aQ S),.sl (R.map λ l=>.sl (aQ l))]) 0 rfl rfl rfl e2 λ q3 e5=>?_
 simp only[List.set_cons_zero]at e5;rw[e5.fV 1 (s:=8) rfl G];refine aW (aK.arg w1 (Vk Q.g)) pd ?_;rintro _ rfl;rw[h8];refine e5.alloc λ c4 q2 j9=>?_
 refine j9.mY (cs':=[.sl (aQ S),.sl (R.map λ l=>.sl (aQ l))]) 0 rfl rfl rfl e2 λ q1 b5=>?_
 simp only[List.set_cons_zero]at b5;rw[b5.fV 0 (s:=2) rfl rfl];obtain⟨k6,a6⟩:=ba (show(n6,Slot.box (.agg (Sk p0 i0 j0 b0 p1 i1 j1 b1)))∈_ from up (x:=(c4,.box (.agg [.sl (aQ S),.sl (R.map λ l=>.sl (aQ l))]))) (up (x:=(g5,.box (.agg [.sl (aQ S),.sl (R.map λ l=>.sl (aQ l))]))) (up (x:=(n36,.box (.agg ds))) m6)));rw[b5.iaZ k6 a6 (by omega),b5.ldS k6 (ds:=[.int .u8 (p0:Int),.int .u8 (i0:Int),.int .u8 (j0:Int),.int .i64 b0]) a6 (by simp[Sk]) rfl];have h9:∀{p i j:Nat}{b:Int},kx (Z3 p i j b):=bw (by simp);have c5:∀{S:List Int}{R:List (List Int)},kx (jz S R):=bw (by simp);refine aW (LD (n:=20) (p:=p0) (b:=b0) (by omega) a8 hi0 hj0) (λ d hd=>by simp only[List.mem_cons,List.not_mem_nil,or_false]at hd;rcases hd with rfl|rfl;exact c5.pair;exact h9.pair) ?_;rintro _ ⟨S1,R1,g3,rfl⟩;refine b5.alloc λ k7 q0 j8=>?_
 refine j8.mY (cs':=[.sl (aQ S1),.sl (R1.map λ l=>.sl (aQ l))]) 0 rfl rfl rfl e2 λ p4 b4=>?_
 simp only[List.set_cons_zero]at b4;rw[b4.fV 0 (s:=2) rfl rfl,b4.iaU (k6+1) (by simpa using a6) (by omega),b4.ldS (k6+1) (ds:=[.int .u8 (p1:Int),.int .u8 (i1:Int),.int .u8 (j1:Int),.int .i64 b1]) (by simpa using a6) (by simp[Sk]) rfl];refine aW (LD (n:=21) (p:=p1) (b:=b1) (by omega) g3 hi1 hj1) (λ d hd=>by simp only[List.mem_cons,List.not_mem_nil,or_false]at hd;rcases hd with rfl|rfl;exact c5.pair;exact h9.pair) ?_;rintro _ ⟨S2,R2,b3,rfl⟩;refine b4.alloc λ e1 p3 j7=>?_
 refine j7.mY (cs':=[.sl (aQ S2),.sl (R2.map λ l=>.sl (aQ l))]) 0 rfl rfl rfl e2 λ p2 e4=>?_
 simp only[List.set_cons_zero]at e4;rw[e4.fV 4 (s:=8) rfl G];refine ag.arg w1 ?_;refine J2 Q hD g1 e4 λ nU nR X o3 j6=>?_
 have lU:(Hy c' (iB c')).length=c'.b.length:=CW;have lR:(Gx c' (iB c')).length=nr:=by rw[CX];omega
 refine j6.alloc λ k5 o2 j5=>?_
 refine j5.mY (cs':=[.ms nU 0 c'.b.length,.ms nR 0 nr]) 0 rfl rfl rfl (λ x hx=>by simp at hx;rcases hx with rfl|rfl<;>rfl) λ l8 g4=>?_
 simp only[List.set_cons_zero]at g4;obtain⟨M,hM,a1⟩:∃M,M=_/\Vs l8 M:=⟨_,rfl,g4⟩;have q6:(n6,Slot.box (.agg (Sk p0 i0 j0 b0 p1 i1 j1 b1)))∈M:=by simp[hM,m6]
 have H:(n36,Slot.box (.agg ds))∈M:=by simp[hM]
 have g0:(g5,Slot.box (.agg [.sl (aQ S),.sl (R.map λ l=>.sl (aQ l))]))∈M:=by simp[hM]
 have c1:(c4,Slot.box (.agg [.sl (aQ S),.sl (R.map λ l=>.sl (aQ l))]))∈M:=by simp[hM]
 have e0:(k7,Slot.box (.agg [.sl (aQ S1),.sl (R1.map λ l=>.sl (aQ l))]))∈M:=by simp[hM]
 have b2:(e1,Slot.box (.agg [.sl (aQ S2),.sl (R2.map λ l=>.sl (aQ l))]))∈M:=by simp[hM]
 have c8:(k5,Slot.box (.agg [.ms nU 0 c'.b.length,.ms nR 0 nr]))∈M:=by simp[hM]
 have qU:(nU,Slot.arr 1 (bL (Hy c' (iB c'))))∈M:=by simp[hM]
 have qR:(nR,Slot.arr 1 (bL (Gx c' (iB c'))))∈M:=by simp[hM]
 clear hM g4 j5 j6 e4 j7 b4 j8 b5 j9 e5 k0 c6 k1;rw[a1.Jr H G];obtain⟨a7,Z⟩:=ba q6;simp only[↓a1.iaZ a7 Z (show 0<2 by omega),↓a1.iaU a7 Z (show 1<2 by omega),↓a1.fa a7 Z,↓a1.fa' a7 Z,↓a1.bI a7 (j:=1) (e:=.int .u8 (i0:Int)) Z rfl,↓a1.bI a7 (j:=2) (e:=.int .u8 (j0:Int)) Z rfl,↓a1.bI a7 (j:=4+1) (e:=.int .u8 (i1:Int)) Z rfl];refine ack a1 λ l9 n0 e9=>?_
 refine XY Q hD g1 hw I e9 λ c2 c3 UL RL X2 m5 l5 l6 e8=>?_
 refine e8.alloc λ g6 m3 e7=>?_
 refine e7.mY (cs':=[.ms c2 0 c'.b.length,.ms c3 0 nr]) 0 rfl rfl rfl (λ x hx=>by simp at hx;rcases hx with rfl|rfl<;>rfl) λ a2 c7=>?_
 simp only[List.set_cons_zero]at c7;obtain⟨N,hN,V⟩:∃M,M=_/\Vs a2 M:=⟨_,rfl,c7⟩;have ins:∀{x},x∈M->x∈N:=λ hx=>by simp[hN,hx]
 have e6:(g6,Slot.box (.agg [.ms c2 0 c'.b.length,.ms c3 0 nr]))∈N:=by simp[hN]
 have k3:(c2,Slot.arr 1 (bL UL))∈N:=by simp[hN]
 have k4:(c3,Slot.arr 1 (bL RL))∈N:=by simp[hN]
 replace q6:=ins q6;replace H:=ins H;replace g0:=ins g0;replace c1:=ins c1;replace e0:=ins e0;replace b2:=ins b2;replace c8:=ins c8;replace qU:=ins qU;replace qR:=ins qR;clear hN c7 e7 e8 e9 a1 ins
 have dl:∀{n s:Nat}{cs:List D}{K:D->Prop},(n,Slot.box (.agg cs))∈N->cs.length=s->au PP (.ld (.c (.ptr n 0 0)) s true) a2 K=K (.agg cs):=λ {n s cs K} hm hl=>by
  obtain⟨k,hk⟩:=ba hm;exact V.Bv k hk hl
 refine⟨λ q h=>q=[.ptr n6 0 0,.bool true,.sl [c.e,cN ts],.int .i64 (i:Int),.ptr n36 0 0,.ptr c4 0 0,.ptr e1 0 0]/\a2=h,?_,?_⟩
 ·rintro f3 h3 ⟨hf,e3⟩;subst e3;simp only[ah,and_true]at hf;obtain⟨f5,f7,f8,f9,f10,f12,f14⟩:=hf;have k2:∀{KH:HKq},ab PP (.ld (.c (.ptr n36 0 7)) 1 false) a2 KH=KH (.sl bl) a2:=λ {KH}=>V.Hw H l4
  obtain⟨k9,g8⟩:=ba H;obtain⟨k6,a6⟩:=ba q6;have m1:=b3.s;have m2:=b3.r;have t1:∀(a b:Int),aK PP bM [jz S2 R2,.int .i64 a,.int .i64 b] (· = .bool (B9 R2 a b)):=λ a b=>PJ (by omega) (λ l hl=>by have:=b3.l l hl;omega)
  have t2:∀(a b:Int),aK PP dG [jz S2 R2,.int .i64 a,.int .i64 b] (· = .bool (B9 R2 a b)):=λ a b=>Q5 (by omega) (λ l hl=>by have:=b3.l l hl;omega)
  have l3:=a8.r;have t3:∀(a b:Int),aK PP bM [jz S R,.int .i64 a,.int .i64 b] (· = .bool (B9 R a b)):=λ a b=>PJ (by omega) (λ l hl=>by have:=a8.l l hl;omega)
  have t4:∀(a b:Int),aK PP dG [jz S R,.int .i64 a,.int .i64 b] (· = .bool (B9 R a b)):=λ a b=>Q5 (by omega) (λ l hl=>by have:=a8.l l hl;omega)
  have pT:∀{S:List Int}{R:List (List Int)}(a b:Int),∀d,d∈[jz S R,.int .i64 a,.int .i64 b]->d.vd=true/\aL d:=λ a b d hd=>by simp only[List.mem_cons,List.not_mem_nil,or_false]at hd;rcases hd with rfl|rfl|rfl;exact c5.pair;exact aI.pair;exact aI.pair
  dsimp only[et,xF,xJ,xL,yL,yP];rw[f5,f7,f8,f9,f10,f12,f14];refine⟨λ m q h=>a2=h/\∃k:Nat,k<=c'.b.length+2/\m=c'.b.length+2-k/\q=[.int .i64 ((k:Int)-1)],_,⟨rfl,0,by omega,rfl,rfl⟩,?_⟩;rintro m4 f4 _ ⟨rfl,k,hk,o0,g7⟩;simp only[ah,and_true]at g7;rw[g7];simp only[↓V.fa k9 g8,Nat.zero_add,↓k2,bD,l1];by_cases hle:((k:Int)-1)<=(c'.b.length:Int)
  case neg =>
   rw[Nn,decide_eq_false hle,ae];grind [nD,aa]
  rw[Nn,decide_eq_true hle,af];simp only[↓V.iaU k6 a6 (show 1<2 by omega),↓V.fa' k6 a6,↓V.bI k6 (j:=4+3) (e:=.int .i64 b1) a6 rfl];rw[cY];refine⟨by decide,?_⟩;generalize b1.tmod 20=w
  have ka:∀a:Int,a=(k:Int)-1->vbin .add (.int .i64 a) (.int .i64 1) λ j4=>aD [D.ptr n6 0 0,.bool true,.sl [c.e,cN ts],.int .i64 (i:Int),.ptr n36 0 0,.ptr c4 0 0,.ptr e1 0 0] [D.ptr n6 0 0,.bool true,.sl [c.e,cN ts],.int .i64 (i:Int),.ptr n36 0 0,.ptr c4 0 0,.ptr e1 0 0]/\∃m,m<m4/\True/\∃k:Nat,k<=c'.b.length+2/\m=c'.b.length+2-k/\[j4]=[.int .i64 ((k:Int)-1)]:=λ a ha=>by
   rw[bB (by omega) (by omega)];simp only[aa,true_and];exact⟨_,by omega,k+1,by omega,rfl,by simp;omega⟩
  replace ka:=ka _ rfl;generalize ((k:Int)-1)=a at ka;rw[dl (s:=2) b2 rfl];refine db (t1 a w) (pT a w) ?_;rw[dl (s:=2) b2 rfl];refine db (t2 a w) (pT a w) ?_;rw[eqB,decide_eq_true rfl,Bool.not_true];simp only[Nh];rw[dl (s:=2) c1 rfl];refine db (t3 a w) (pT a w) ?_;rw[dl (s:=2) c1 rfl];refine db (t4 a w) (pT a w) ?_;rw[eqB,decide_eq_true rfl,Bool.not_true];simp only[gE,aC,if_false];exact ka
 have b7:∀{x:D},OS [.agg ds,x] [c'.e,x]:=acU hw;have pC:∀{S:List Int}{R:List (List Int)},∀d,d∈[D.agg ds,jz S R]->d.vd=true/\aL d:=λ d hd=>by simp only[List.mem_cons,List.not_mem_nil,or_false]at hd;rcases hd with rfl|rfl;exact I.pair;exact c5.pair
 have cP:∀{S:List Int}{R:List (List Int)}{n:Nat},n<=100->OV n S R->aK PP bZ [.agg ds,jz S R] (· = .int .i64 (Q0 c' S R)):=λ hn hb=>aK.arg b7 (aK.mono (λ r=>QZ) (MT Q.g (by have:=hb.s;omega) (by have:=hb.r;omega) (λ l hl=>by have:=hb.l l hl;omega)))
 have cQ:∀{S:List Int}{R:List (List Int)}{n:Nat},n<=100->OV n S R->aK PP jo [.agg ds,jz S R] (· = .int .i64 (Q0 c' S R)):=λ hn hb=>aK.arg b7 (aK.mono (λ r=>QZ) (Su Q.g (by have:=hb.s;omega) (by have:=hb.r;omega) (λ l hl=>by have:=hb.l l hl;omega)))
 have mP:∀{U R:List Bool}{a b:D},CD a U->CD b R->aK PP bY [.agg ds,.agg [a,b]] (· = .int .i64 (Pg c' U R)):=λ wa wb=>aK.arg b7 (MR Q wa wb)
 have mQ:∀{U R:List Bool}{a b:D},CD a U->CD b R->aK PP gG [.agg ds,.agg [a,b]] (· = .int .i64 (Pg c' U R)):=λ wa wb=>aK.arg b7 (Ss Q hD wa wb)
 have o1:=a8.s;have l3:=a8.r;rw[dl (s:=2) g0 rfl,dl (s:=2) c1 rfl];refine db (Ot (S:=S) (R:=R) (by omega) (by omega) (λ l hl=>by have:=a8.l l hl;omega)) (λ d hd=>by simp only[List.map_cons,List.map_nil,Arg.get,List.mem_cons,List.not_mem_nil,or_false]at hd;rcases hd with rfl|rfl<;>exact c5.pair) ?_;rw[cw,Bool.not_true];simp only[Nh];rw[dl H G,dl (s:=2) e0 rfl];refine db (cP (by omega) g3) pC ?_;rw[dl H G,dl (s:=2) e0 rfl];refine db (cQ (by omega) g3) pC ?_;rw[Ik rfl];simp only[gE,aC,if_false];rw[dl H G,dl (s:=2) b2 rfl];refine db (cP (by omega) b3) pC ?_;rw[dl H G,dl (s:=2) b2 rfl];refine db (cQ (by omega) b3) pC ?_;rw[Ik rfl];simp only[gE,aC,if_false];have bU:BW N (.ms nU 0 c'.b.length) (Hy c' (iB c')):=Or.inr ⟨nU,by rw[lU],qU⟩;have bR:BW N (.ms nR 0 nr) (Gx c' (iB c')):=Or.inr ⟨nR,by rw[lR],qR⟩;have j2:BW N (.ms c2 0 c'.b.length) UL:=Or.inr ⟨c2,by rw[l5],k3⟩;have j3:BW N (.ms c3 0 nr) RL:=Or.inr ⟨c3,by rw[l6],k4⟩;rw[dl H G,dl (s:=2) c8 rfl];refine Iw I V bU bR (mP (Or.inl rfl) (Or.inl rfl)) rfl ?_;rw[dl H G,dl (s:=2) c8 rfl];refine Iw I V bU bR (mQ (Or.inl rfl) (Or.inl rfl)) rfl ?_;rw[Ik rfl];simp only[gE,aC,if_false];rw[dl H G,dl (s:=2) e6 rfl];refine Iw I V j2 j3 (mP (Or.inl rfl) (Or.inl rfl)) rfl ?_;rw[dl H G,dl (s:=2) e6 rfl];refine Iw I V j2 j3 (mQ (Or.inl rfl) (Or.inl rfl)) rfl ?_;rw[Ik rfl];simp only[gE,aC,if_false];have aP:aK PP gZ [.agg ds,.bool true] (· = uE (List.replicate c'.b.length true) (List.replicate nr true)):=aK.arg b7 (acf g1 ⟨by omega,by omega⟩);have pA:∀d,d∈[D.agg ds,.bool true]->d.vd=true/\aL d:=λ d hd=>by simp at hd;rcases hd with rfl|rfl;exact I.pair;exact C5.pair
 have pM:∀{U R:List Bool},∀d,d∈[D.agg ds,uE U R]->d.vd=true/\aL d:=λ d hd=>by simp only[List.mem_cons,List.not_mem_nil,or_false]at hd;rcases hd with rfl|rfl;exact I.pair;exact ML.pair
 rw[dl H G,dl H G];refine db aP pA ?_;refine db (mP (Or.inl rfl) (Or.inl rfl)) pM ?_;rw[dl H G,dl H G];refine db aP pA ?_;refine db (mQ (Or.inl rfl) (Or.inl rfl)) pM ?_;rw[Ik rfl];simp only[gE,aC,if_false,aa,true_and]
end Go.Am
namespace Go.Am
open Go Go.Proofs
def qf (k:Int):Block:=⟨[],⟨k,0,aj,aj,aj,1,0⟩⟩
def np (op:Int):Block:=⟨[⟨5,op,0,gT 0,aj,aj,aj⟩],⟨2,0,aj,gT 0,aj,2,3⟩⟩
def ue:Block:=⟨[],⟨3,0,aj,aj,aj,1,0⟩⟩
def su:Block:=⟨[],⟨5,0,aj,aj,aj,0,0⟩⟩
def ql (op k:Int):Code:=⟨4,1,1,0,0,[],[],[qf k,np op,ue,su]⟩
def vV (B:Block):D:=.agg (.nil::B.t.cs)
def BZ (op k:Int):D:=.agg [.int .i64 4,.int .i64 1,.int .i64 1,.int .i64 0,.int .i64 0,.nil,.nil,.sl [vV (qf k),(np op).e,vV ue,vV su]]
theorem yU {op k:Int}:kx (BZ op k):=bw (by simp[D.vone])
theorem abP {op k:Int}:Wk (BZ op k) (ql op k).e:=by
 have nb:∀t:Term,Wk (.agg (.nil::t.cs)) (.agg (.sl []::t.cs)):=λ t=>.agg _ _ rfl λ i x y h1 h2=>by
  cases i with
  | zero=>cases h1;cases h2;exact .nil
  | succ i=>rw[List.getElem?_cons_succ]at h1 h2;rw[h1]at h2;cases h2;exact .refl _
 refine .agg _ _ rfl λ i x y h1 h2=>?_
 match i with
 | 0|1|2|3|4=>cases h1;cases h2;exact .refl _
 | 5|6=>cases h1;cases h2;exact .nil
 | 7 =>
  cases h1;cases h2;refine .sl _ _ rfl λ i x y h1 h2=>?_
  match i with
  | 1=>cases h1;cases h2;exact .refl _
  | 0|2|3=>cases h1;cases h2;exact nb _
  | i+4=>cases h1
 | i+8=>cases h1
theorem QR {op k:Int}:OS [BZ op k] [(ql op k).e]:=.cons abP .nil
theorem QQ {op k:Int}{d:D}:OS [BZ op k,d] [(ql op k).e,d]:=.cons abP (.cons (.refl _) .nil)
section
variable {op k:Int}
theorem UG:oS 1 (gT 0):=⟨0,by omega,by omega,rfl⟩
theorem Yz (ho:1<=op/\op<=7) (hk:k=1\/k=3):cR (ql op k):=by
 refine⟨⟨⟨by show 1<=4;omega,by show 4<=20;omega⟩,λ B hB=>?_⟩,λ B hB x hx=>?_,λ B hB=>?_,⟨by show(1:Int)<=1;omega,by show(1:Int)<=_;decide⟩⟩
 ·simp only[ql,List.mem_cons,List.not_mem_nil,or_false]at hB;rcases hB with rfl|rfl|rfl|rfl
  ·rcases hk with rfl|rfl
   ·exact .jump 1 (by show 1<4;omega)
   ·exact .barrier 1 (by show 1<4;omega)
  ·exact .branch _ 2 3 UG (by show 2<4;omega) (by show 3<4;omega)
  ·exact .barrier 1 (by show 1<4;omega)
  ·exact .exit
 ·simp only[ql,List.mem_cons,List.not_mem_nil,or_false]at hB;rcases hB with rfl|rfl|rfl|rfl
  ·simp[qf]at hx
  ·simp only[np,List.mem_cons,List.not_mem_nil,or_false]at hx;subst hx;exact .id op _ ho UG
  ·simp[ue]at hx
  ·simp[su]at hx
 grind [ql,qf,np,ue,su]
theorem abT {B:Block}{b:Nat}(h:(ql op k).b[b]?=some B):(b=0/\B=qf k)\/(b=1/\B=np op)\/(b=2/\B=ue)\/(b=3/\B=su):=by
 match b with
 | 0=>cases h;exact Or.inl ⟨rfl,rfl⟩
 | 1=>cases h;exact Or.inr (Or.inl ⟨rfl,rfl⟩)
 | 2=>cases h;exact Or.inr (Or.inr (Or.inl ⟨rfl,rfl⟩))
 | 3=>cases h;exact Or.inr (Or.inr (Or.inr ⟨rfl,rfl⟩))
 | b+4=>cases h
theorem N9 (hk:k=1\/k=3):bf (qf k).t=[1]:=by rcases hk with rfl|rfl<;>rfl
theorem abR:bf (np op).t=[2,3]:=rfl
theorem Yy:bf ue.t=[1]:=rfl
theorem abQ:bf su.t=[]:=rfl
theorem YA (hk:k=1\/k=3):edg (ql op k) 0=[1]:=(jr (B:=qf k) rfl).trans (N9 hk)
theorem UH:edg (ql op k) 1=[2,3]:=rfl
theorem abS:edg (ql op k) 2=[1]:=rfl
theorem ud (hk:k=1\/k=3){b:Nat}(hb:b<4):Path (edg (ql op k)) 0 b:=by
 have G:Path (edg (ql op k)) 0 1:=.step .refl (by rw[YA hk];simp)
 match b,hb with
 | 0,_=>exact .refl
 | 1,_=>exact G
 | 2,_=>exact .step G (by rw[UH];simp)
 | 3,_=>exact .step G (by rw[UH];simp)
theorem Qw {E:Nat->List Nat}{s:Nat}{p:Nat->Prop}(h0:p s) (hs:∀a,p a->∀b,b∈E a->p b){k:Nat}(h:Path E s k):p k:=by
 induction h with
 | refl=>exact h0
 | step _ hb G=>exact hs _ G _ hb
theorem Mo {N:Nat}{p:Nat->Prop}{l:List Nat}(hi:l.Pairwise (· < ·)) (h:∀k,k∈l↔k<N/\p k):Mp N p=l:=Ms yO hi λ k=>by rw[dj,h k]
theorem in1:inE (ql op k) 1=[2,3]:=rfl
theorem in2:inE (ql op k) 2=[]:=rfl
theorem in3:inE (ql op k) 3=[]:=rfl
theorem abg:rl (ql op k) 1=[1,2,3]:=by
 refine Mo (by decide) λ b=>⟨λ hb=>?_,λ hb=>?_⟩
 ·simp only[List.mem_cons,List.not_mem_nil,or_false]at hb;rcases hb with rfl|rfl|rfl
  ·exact⟨by show 1<4;omega,.refl⟩
  ·exact⟨by show 2<4;omega,.step .refl (by rw[in1];simp)⟩
  ·exact⟨by show 3<4;omega,.step .refl (by rw[in1];simp)⟩
 ·refine Qw (E:=inE (ql op k)) (s:=1) (p:=λ b=>b∈[1,2,3]) (by simp) (λ a ha b hb=>?_) hb.2;grind [in1,in2,in3]
theorem ac6:rl (ql op 1) 0=[0,1,2,3]:=by
 have h1:Path (inE (ql op 1)) 0 1:=.step .refl (show 1∈inE (ql op 1) 0 from List.mem_cons_self);refine Mo (by decide) λ b=>⟨λ hb=>?_,λ hb=>?_⟩
 ·simp only[List.mem_cons,List.not_mem_nil,or_false]at hb;rcases hb with rfl|rfl|rfl|rfl
  ·exact⟨by show 0<4;omega,.refl⟩
  ·exact⟨by show 1<4;omega,h1⟩
  ·exact⟨by show 2<4;omega,.step h1 (by rw[in1];simp)⟩
  ·exact⟨by show 3<4;omega,.step h1 (by rw[in1];simp)⟩
 ·have:=hb.1;have:b<4:=this;simp;omega
theorem ac5:rl (ql op 3) 0=[0]:=by
 refine Mo (by decide) λ b=>⟨λ hb=>?_,λ hb=>?_⟩
 ·simp only[List.mem_cons,List.not_mem_nil,or_false]at hb;subst hb;exact⟨by show 0<4;omega,.refl⟩
 ·refine Qw (E:=inE (ql op 3)) (s:=0) (p:=λ b=>b∈[0]) (by simp) (λ a ha b hb=>?_) hb.2;simp only[List.mem_cons,List.not_mem_nil,or_false]at ha;subst ha;have:inE (ql op 3) 0=[]:=rfl;rw[this]at hb;cases hb
theorem Yf (hk:k=1\/k=3):jT (ql op k)=[0,1]:=by
 have G:∀a b,b∈lJ (ql op k) a->b=1:=λ a b hb=>by
  grind [lJ,ql,N9,np,Yy,su]
 have h1:St (ql op k) 1:=by
  rcases hk with rfl|rfl
  ·exact .step (a:=2) .zero (.step (.step .refl (show 1∈inE (ql op 1) 0 from List.mem_cons_self)) (show 2∈inE (ql op 1) 1 by rw[in1];simp)) (show 1∈lJ (ql op 1) 2 from List.mem_cons_self)
  ·exact .step (a:=0) .zero .refl (show 1∈lJ (ql op 3) 0 from List.mem_cons_self)
 refine Mo (by decide) λ b=>⟨λ hb=>?_,λ hb=>?_⟩
 ·simp only[List.mem_cons,List.not_mem_nil,or_false]at hb;rcases hb with rfl|rfl
  ·exact⟨by show 0<4;omega,.zero⟩
  ·exact⟨by show 1<4;omega,h1⟩
 ·cases hb.2 with
  | zero=>simp
  | step _ _ ht=>rw[G _ _ ht];simp
theorem ac8:RE (ql op 1)=jz [0,1] [[0,1,2,3],[1,2,3]]:=by
 rw[Pc,Wt,Yf (Or.inl rfl)];simp only[List.map_cons,List.map_nil,ac6,abg];rfl
theorem ac7:RE (ql op 3)=jz [0,1] [[0],[1,2,3]]:=by
 rw[Pc,Wt,Yf (Or.inr rfl)];simp only[List.map_cons,List.map_nil,ac5,abg];rfl
theorem Xr (hk:k=1\/k=3):Rk (ql op k) [0,1] [1,2,3]:=λ b hb B hB t ht=>by
 grind [abR,np,Yy,abQ,ql]
theorem ab9:OY (ql op 1) [0,1] [[0,1,2,3],[1,2,3]]:=by
 refine⟨show Hx 4 [0,1] 0=true by decide,rfl,λ j l s hl hs=>?_⟩
 match j with
 | 0 =>
  cases hl;cases hs;refine⟨show Hx 4 [0,1,2,3] 0=true by decide,λ b hb B hB t ht=>?_⟩;simp only[List.mem_cons,List.not_mem_nil,or_false]at hb;rcases hb with rfl|hb
  ·grind [N9,ql]
  ·have:=Xr (op:=op) (k:=1) (Or.inl rfl) b (by simpa using hb) B hB t ht;grind
 | 1=>cases hl;cases hs;exact⟨show Hx 4 [1,2,3] 1=true by decide,Xr (Or.inl rfl)⟩
 | j+2=>cases hl
theorem ab8:OY (ql op 3) [0,1] [[0,1,2,3],[1,2,3]]:=by
 refine⟨show Hx 4 [0,1] 0=true by decide,rfl,λ j l s hl hs=>?_⟩
 match j with
 | 0 =>
  cases hl;cases hs;refine⟨show Hx 4 [0,1,2,3] 0=true by decide,λ b hb B hB t ht=>?_⟩;simp only[List.mem_cons,List.not_mem_nil,or_false]at hb;rcases hb with rfl|hb
  ·grind [N9,ql]
  ·have:=Xr (op:=op) (k:=3) (Or.inr rfl) b (by simpa using hb) B hB t ht;grind
 | 1=>cases hl;cases hs;exact⟨show Hx 4 [1,2,3] 1=true by decide,Xr (Or.inr rfl)⟩
 | j+2=>cases hl
theorem ab7:¬OY (ql op 1) [0,1] [[0],[1,2,3]]:=λ h=>by
 have:=(h.2.2 0 [0] 0 rfl rfl).2 0 (by simp) (qf 1) rfl 1 (by rw[N9 (Or.inl rfl)];simp);simp[qf]at this
theorem aca:¬OY (ql op k) [] []:=λ h=>by have:=h.1;simp[Hx]at this
end
end Go.Am
namespace Go.Am
open Go Go.Proofs
abbrev ea:Code:=ql 3 1
abbrev eb:Code:=ql 2 3
theorem JC:cR ea:=Yz ⟨by omega,by omega⟩ (Or.inl rfl)
theorem Gy:cR eb:=Yz ⟨by omega,by omega⟩ (Or.inr rfl)
theorem YD {c:Code}(hc:cR c):rC c (Hy c (iB c)) (Gx c (iB c))=true:=Z2 CW (by rw[CX];have:=hc.rg;omega) (QL hc)
theorem ZP {f:Fa}(hf:f.rG=true->Path (edg ea) 0 f.n.toNat):Gf (iB ea) f:=by
 refine aaz JC.g (λ b B x hB hx h0=>?_) (λ b B hB=>?_) hf
 ·rcases abT hB with⟨-,rfl⟩|⟨-,rfl⟩|⟨-,rfl⟩|⟨-,rfl⟩
  ·simp[qf]at hx
  ·simp only[np,List.mem_cons,List.not_mem_nil,or_false]at hx;subst hx;decide
  ·simp[ue]at hx
  ·simp[su]at hx
 ·rcases abT hB with⟨-,rfl⟩|⟨-,rfl⟩|⟨-,rfl⟩|⟨-,rfl⟩<;>decide
theorem adj:Pg ea (Hy ea (iB ea)) (Gx ea (iB ea))=0:=by
 refine Ud (YD JC) λ b hb h=>?_
 have:=(Mw (c:=ea) (rs:=iB ea) hb).2 (ZP λ _=>ud (Or.inl rfl) hb);rw[h.2.2]at this;cases this
theorem adh:Pg ea [] []=100:=Uc rfl
def ebF:List (List Nat):=[[1],[2,3],[1],[4],[]]
theorem ZO {b:Nat}(hb:b<4):Path (edg eb) b 3:=by
 have G:Path (edg eb) 1 3:=.step .refl (by rw[UH];simp)
 match b,hb with
 | 0,_=>exact Path.trans (.step .refl (show 1∈edg eb 0 by rw[YA (Or.inr rfl)];simp)) G
 | 1,_=>exact G
 | 2,_=>exact Path.trans (.step .refl (show 1∈edg eb 2 by rw[abS];simp)) G
 | 3,_=>exact .refl
theorem Xg {O O':List Nat}{at' U:List Int}(Dd:AN eb O O' at' U):eg eb (ec eb O)=ebF:=by
 have hc:=Gy.g;have hp:=@AN.path eb O O' at' U hc Dd;have h4:3∈O:=hp.2 (ud (Or.inr rfl) (by omega));have I:zM eb 3=true:=by decide
 have Q:ec eb O=O.filter (zM eb):=Lt λ y hy=>by
  have G:y<4:=Dd.b.lt y hy;refine⟨3,List.mem_filter.2 ⟨h4,I⟩,?_⟩;have:gL (gI eb)=edg eb:=funext λ b=>nj
  rw[this];exact ZO G
 refine pz (by rw[bQ];rfl) λ b hb=>?_
 have H:b<5:=by rw[bQ]at hb;exact hb
 rw[jF,Q];have nx:∀b,zM eb b=false->¬b∈O.filter (zM eb):=λ b hx h=>by grind
 match b,H with
 | 0,_=>rw[if_pos (by decide),if_neg (by decide),if_neg (nx 0 (by decide))];decide
 | 1,_=>rw[if_pos (by decide),if_neg (by decide),if_neg (nx 1 (by decide))];decide
 | 2,_=>rw[if_pos (by decide),if_neg (by decide),if_neg (nx 2 (by decide))];decide
 | 3,_=>rw[if_pos (by decide),if_pos (by decide)];decide
 | 4,_=>rw[if_neg (by decide)];decide
theorem abV (hD:Kj eb):ZQ eb 1 2:=by
 obtain⟨O,O',at',U,G⟩:=hD;rw[<- Oe Gy.g G (show 1<4 by omega) (show 2<4 by omega)];unfold Bx;rw[Xg G,(cV (c:=eb) (show 1<4 by omega)).2 (ud (Or.inr rfl) (by omega)),(cV (c:=eb) (show 2<4 by omega)).2 (ud (Or.inr rfl) (by omega))];decide
theorem ady (hD:Kj eb):¬Gf (iB eb) (wC 2):=λ h=>by
 have h0:=(Gf.closed _ _ (oF.2 (.dep (b:=2) (a:=1) (A:=np 2) (by show 2<4;omega) (ud (Or.inr rfl) (by omega)) (abV hD) rfl)) h).2 (zE 0) (by simp[C3,de,np,gT,zE]);have hr:mH 1 ⟨5,2,0,gT 0,aj,aj,aj⟩∈iB eb:=oF.2 (.inst (b:=1) (B:=np 2) rfl (ud (Or.inr rfl) (by omega)) (by simp[np]) (by decide));have:=(Gf.closed _ _ hr h0).1;have e:(mH 1 ⟨5,2,0,gT 0,aj,aj,aj⟩).never=true:=by decide
 rw[e]at this;cases this
theorem adi (hD:Kj eb):Pg eb (Hy eb (iB eb)) (Gx eb (iB eb))=90:=by
 refine Ml (b:=2) (YD Gy) (show 2<4 by omega) ⟨(cV (c:=eb) (show 2<4 by omega)).2 (ud (Or.inr rfl) (by omega)),Or.inl rfl,?_⟩;grind [hasB,Hy,ady]
end Go.Am
namespace Go.Am
open Go Go.Proofs
theorem LF {c:Code}(hc:cR c) (hD:Kj c):aK PP gg [c.e] (· = uE (Hy c (iB c)) (Gx c (iB c))):=by
 have a1:=hc.rg;obtain⟨G,I⟩:∃G:Nat,c.regs=(G:Int):=⟨c.regs.toNat,by omega⟩;refine EJ (J2 hc hD I Vs.nil λ nU H X h' V=>⟨h',.refl _,?_⟩);have Q:(Hy c (iB c)).length=c.b.length:=CW;have Z:(Gx c (iB c)).length=G:=by rw[CX];omega
 obtain⟨f1,f2,f3⟩:=fzU (U:=Hy c (iB c)) (R:=Gx c (iB c)) V (vU:=.ms nU 0 c.b.length) (vR:=.ms H 0 G) (Or.inr ⟨nU,by rw[Q],by simp⟩) (Or.inr ⟨H,by rw[Z],by simp⟩);have e:(D.agg [.ms nU 0 c.b.length,.ms H 0 G]).fzt h'=uE (Hy c (iB c)) (Gx c (iB c)):=f1;exact⟨f2,f3,by rw[e];exact ML.pair.1,e⟩
theorem Vs.acp {h:Heap}{L:LSq}{KH:HKq}{w:Nat}{els:List D}{t:Term}{z:D}{d0 d2 d3:List D}(V:Vs h ((w,.arr 15 els)::L)) (hv:∀x∈els,∀y∈x.cells,y.vone=true) (h0:kx (.agg d0)) (h2:kx (.agg d2)) (h3:kx (.agg d3)) (l0:d0.length=14) (l2:d2.length=14) (l3:d3.length=14)
  (hK:∀n h',Vs h' ((n,.arr 14 [.agg d0,.agg (.sl els::t.cs),.agg d2,.agg d3])::L)->KH (.ms n 0 4) h'):ab PP (.bldS true 14 4 z [(0,.c (.agg d0)),(1,.c (.agg (.ms w 0 els.length::t.cs))),(2,.c (.agg d2)),(3,.c (.agg d3))]) h KH:=by
 have hw:=V.get 0 _ _ rfl;have G:(h w).row=some (15,els):=by rw[hw];rfl
 obtain⟨f0,I,k0⟩:=jj (h:=h) h0.pair.1;obtain⟨f2,n2,Z⟩:=jj (h:=h) h2.pair.1;obtain⟨f3,H,Q⟩:=jj (h:=h) h3.pair.1;refine⟨λ p hp=>?_,λ _ p hp=>?_,λ n t0=>?_⟩
 ·simp[Arg.get]at hp;rcases hp with rfl|rfl|rfl|rfl
  ·exact⟨by show 0<4;omega,l0,h0.one⟩
  ·exact⟨by show 1<4;omega,rfl,λ x hx=>by simp[D.cells,Term.cs]at hx;rcases hx with rfl|rfl|rfl|rfl|rfl|rfl|rfl|rfl|rfl|rfl|rfl|rfl|rfl|rfl<;>rfl⟩
  ·exact⟨by show 2<4;omega,l2,h2.one⟩
  ·exact⟨by show 3<4;omega,l3,h3.one⟩
 ·simp[Arg.get]at hp;rcases hp with rfl|rfl|rfl|rfl
  ·exact k0
  ·intro x hx;simp only[D.cells,Term.cs,List.mem_cons,List.not_mem_nil,or_false]at hx;rcases hx with rfl|rfl|rfl|rfl|rfl|rfl|rfl|rfl|rfl|rfl|rfl|rfl|rfl|rfl
   ·exact⟨15,els,G,by simp,λ x hx y hy=>hv x (by simpa using hx) y hy⟩
   all_goals trivial
  ·exact Z
  ·exact Q
 ·have kU:(aF h w (.frz 15 els)) n=.free:=by
   have:n≠w:=by rintro rfl;rw[t0.free]at hw;cases hw
   rw[an _ _ this];exact t0.free
  have V1:=(V.bK 0 (s':=.frz 15 els) rfl (by simp)).pop;have:=hK n _ (V1.push kU (s:=.arr 14 [.agg d0,.agg (.sl els::t.cs),.agg d2,.agg d3]) (by simp));have fm:(D.agg (.ms w 0 els.length::t.cs)).fz h=.agg (.sl els::t.cs):=by simp[D.fz,D.fzc,G,Term.cs]
  have nm:(D.agg (.ms w 0 els.length::t.cs)).nm=[w]:=by simp[D.nm,D.lG,Term.cs]
  simpa[Arg.get,Heap.freezeAll,Heap.freeze,hw,setEls,f0,f2,f3,fm,nm,I,n2,H,List.replicate] using this
end Go.Am
namespace Go.Am
open Go Go.Proofs
section
variable {h:Heap}{L:LSq}{KH:HKq}{z:D}
theorem YH {a b:Int}(V:Vs h L) (hK:∀n h',Vs h' ((n,.arr 1 (aQ [a,b]))::L)->KH (.ms n 0 2) h'):ab PP (.bldS false 1 2 z [(0,.c (.int .i64 a)),(1,.c (.int .i64 b))]) h KH:=by
 refine⟨λ p hp=>by simp[Arg.get]at hp;rcases hp with rfl|rfl;exact⟨by show 0<2;omega,rfl,aI.one⟩;exact⟨by show 1<2;omega,rfl,aI.one⟩,λ G=>(by cases G),λ n t=>?_⟩;have:=hK n _ (V.push t.free (s:=.arr 1 (aQ [a,b])) (by simp));grind [Arg.get,setEls,aQ]
theorem YG {a b c:Int}(V:Vs h L) (hK:∀n h',Vs h' ((n,.arr 1 (aQ [a,b,c]))::L)->KH (.ms n 0 3) h'):ab PP (.bldS false 1 3 z [(0,.c (.int .i64 a)),(1,.c (.int .i64 b)),(2,.c (.int .i64 c))]) h KH:=by
 refine⟨λ p hp=>by simp[Arg.get]at hp;rcases hp with rfl|rfl|rfl;exact⟨by show 0<3;omega,rfl,aI.one⟩;exact⟨by show 1<3;omega,rfl,aI.one⟩;exact⟨by show 2<3;omega,rfl,aI.one⟩,λ G=>(by cases G),λ n t=>?_⟩;have:=hK n _ (V.push t.free (s:=.arr 1 (aQ [a,b,c])) (by simp));simpa[Arg.get,setEls,aQ,List.replicate] using this
theorem acn {a b c d:Int}(V:Vs h L) (hK:∀n h',Vs h' ((n,.arr 1 (aQ [a,b,c,d]))::L)->KH (.ms n 0 4) h'):ab PP (.bldS false 1 4 z [(0,.c (.int .i64 a)),(1,.c (.int .i64 b)),(2,.c (.int .i64 c)),(3,.c (.int .i64 d))]) h KH:=by
 refine⟨λ p hp=>by simp[Arg.get]at hp;rcases hp with rfl|rfl|rfl|rfl;exact⟨by show 0<4;omega,rfl,aI.one⟩;exact⟨by show 1<4;omega,rfl,aI.one⟩;exact⟨by show 2<4;omega,rfl,aI.one⟩;exact⟨by show 3<4;omega,rfl,aI.one⟩,λ G=>(by cases G),λ n t=>?_⟩;have:=hK n _ (V.push t.free (s:=.arr 1 (aQ [a,b,c,d])) (by simp));simpa[Arg.get,setEls,aQ,List.replicate] using this
theorem YK {m1 l1 m2 l2:Nat}(V:Vs h L) (hK:∀n h',Vs h' ((n,.arr 1 [.ms m1 0 l1,.ms m2 0 l2])::L)->KH (.ms n 0 2) h'):ab PP (.bldS false 1 2 z [(0,.c (.ms m1 0 l1)),(1,.c (.ms m2 0 l2))]) h KH:=by
 refine⟨λ p hp=>by simp[Arg.get]at hp;rcases hp with rfl|rfl;exact⟨by show 0<2;omega,rfl,by simp⟩;exact⟨by show 1<2;omega,rfl,by simp⟩,λ G=>(by cases G),λ n t=>?_⟩;have:=hK n _ (V.push t.free (s:=.arr 1 [.ms m1 0 l1,.ms m2 0 l2]) (by simp));grind [Arg.get,setEls]
theorem LO {f:FuncId}{x r:D}{n1 n2:Nat}{S:List Int}{A:List (Nat×List Int)}(V:Vs h (uf n1 n2 S A++L)) (hx:kx x) (hv:aK PP f [x,jz S (A.map Prod.snd)] (· = r)) (hf:r.flat=true) (hK:∀h',Vs h' L->KH r h'):ag PP f [x,.agg [.ms n1 0 S.length,.ms n2 0 A.length]] h KH:=by
 obtain⟨h2,i1,Q,I,H,G,Z⟩:=Oh V;refine SF i1 ?_;obtain⟨f1,-,f3⟩:=jj (h:=h2) hx.pair.1;refine ag.mono ?_ (dQ (K:=(· = r)) ?_ ?_)
 ·grind
 ·have e:(D.agg [.ms n1 0 S.length,.ms n2 0 A.length]).fz h2=jz S (A.map Prod.snd):=G;grind
 ·intro d hd;simp only[List.mem_cons,List.not_mem_nil,or_false]at hd;rcases hd with rfl|rfl
  ·exact⟨hx.one,f3,by rw[f1];exact hx.pair.1⟩
  ·exact⟨Q,I,H⟩
end
theorem GC {op:Int}{b:Bool}:aK PP jB [.int .i64 op,.bool b] (· = BZ op (if b then 3 else 1)):=by
 refine aZ BV (aG _ _ _) rfl (BI _ _ _) ?_;dsimp only[uW,xF,xI,xL,xS];have pr:∀d,d∈[D.int .i64 0]->d.vd=true/\aL d:=λ d hd=>by simp at hd;subst hd;exact aI.pair
 refine Vs.nil.alloc λ n3 h4 V4=>?_
 rw[cx rfl,cx rfl,cx rfl];refine aW uD pr ?_;rintro _ rfl;rw[cx rfl];have a1:∀{h:Heap}{L:LSq}{KH:HKq}{z:D}{x:bj},Vs h L->(∀n h',Vs h' ((n,.arr 15 [x.e])::L)->KH (.ms n 0 1) h')->ab PP (.bldS true 15 1 z [(0,.c x.e)]) h KH:=λ V hK=>V.aaf (bj.b9 _) rfl hK
 refine a1 (x:=⟨5,op,0,gT 0,aj,aj,aj⟩) V4 λ n15 b5 b1=>?_
 refine aW uD pr ?_;rintro _ rfl;rw[cx rfl,cx rfl,cx rfl,cx rfl,cx rfl,cx rfl,cx rfl,cx rfl];refine b1.acp (els:=[bj.e ⟨5,op,0,gT 0,aj,aj,aj⟩]) (t:=(np op).t) (d0:=.nil::(qf 1).t.cs) (d2:=.nil::ue.t.cs) (d3:=.nil::su.t.cs) (λ x hx y hy=>?_) (bw (by simp[Term.cs])) (bw (by simp[Term.cs])) (bw (by simp[Term.cs])) rfl rfl rfl λ n35 b4 a8=>?_
 ·simp only[List.mem_singleton]at hx;subst hx;exact QG (l:=[⟨5,op,0,gT 0,aj,aj,aj⟩]) _ (by simp) y hy
 rw[cx rfl];refine a8.alloc λ n39 b3 a7=>?_
 refine a7.mY (cs':=[.int .i64 4,.int .i64 1,.int .i64 1,.int .i64 0,.int .i64 0,.nil,.nil,.ms n35 0 4]) 0 rfl rfl rfl (λ y hy=>by simp at hy;rcases hy with rfl|rfl|rfl|rfl|rfl<;>rfl) λ b2 H=>?_
 simp only[List.set_cons_zero]at H
 have fin:∀(h:Heap) (k:Int),Vs h [(n39,.box (.agg [.int .i64 4,.int .i64 1,.int .i64 1,.int .i64 0,.int .i64 0,.nil,.nil,.ms n35 0 4])),(n35,.arr 14 [vV (qf k),(np op).e,vV ue,vV su]),(n3,.box (.agg [.int .i64 0,.int .i64 0,.int .i64 0,.int .i64 0,.int .i64 0,.nil,.nil,.nil]))] ->
   ab PP (.ld (.c (.ptr n39 0 0)) 8 true) h λ a46 I=>ab PP (.st (.c (.ptr n3 0 0)) (.c a46) 8) I λ a2 G=>ab PP (.ld (.c (.ptr n3 0 0)) 8 true) G λ Q _=>ky (· = BZ op k) Q G:=λ h k V=>by
  rw[V.fV 0 (s:=8) rfl rfl];refine V.mY (cs':=[.int .i64 4,.int .i64 1,.int .i64 1,.int .i64 0,.int .i64 0,.nil,.nil,.ms n35 0 4]) 2 rfl rfl rfl (λ y hy=>by simp at hy;rcases hy with rfl|rfl|rfl|rfl|rfl<;>rfl) λ G Z=>?_
  simp only[List.set_cons_zero,List.set_cons_succ]at Z;rw[Z.fV 2 (s:=8) rfl rfl];have hr:(G n35).row=some (14,[vV (qf k),(np op).e,vV ue,vV su]):=by rw[Z.get 1 _ _ rfl];rfl
  have e:(D.agg [.int .i64 4,.int .i64 1,.int .i64 1,.int .i64 0,.int .i64 0,.nil,.nil,.ms n35 0 4]).fz G=BZ op k:=by simp[D.fz,D.fzc,hr,BZ]
  have vn:∀x,x∈[vV (qf k),(np op).e,vV ue,vV su]->∀y∈x.cells,y.vone=true:=λ x hx y hy=>by
   simp only[List.mem_cons,List.not_mem_nil,or_false]at hx;rcases hx with rfl|rfl|rfl|rfl<;>(simp[vV,Block.e,D.cells,Term.cs]at hy;rcases hy with rfl|rfl|rfl|rfl|rfl|rfl|rfl|rfl|rfl|rfl|rfl|rfl|rfl|rfl<;>rfl)
  refine⟨λ y hy=>by simp[D.cells]at hy;rcases hy with rfl|rfl|rfl|rfl|rfl<;>rfl,λ y hy=>?_,?_,?_⟩
  ·simp only[D.cells,List.mem_cons,List.not_mem_nil,or_false]at hy;rcases hy with rfl|rfl|rfl|rfl|rfl|rfl|rfl|rfl
   all_goals first|trivial|exact⟨14,_,hr,by simp,λ x hx y hy=>vn x (by simpa using hx) y hy⟩
  ·show((D.agg _).fz G).vd=true
   rw[e];exact yU.pair.1
  ·exact e
 refine⟨λ _ h=>∃L,h=L/\ab PP (.ld (.c (.ptr n39 0 0)) 8 true) h λ a46 I=>ab PP (.st (.c (.ptr n3 0 0)) (.c a46) 8) I λ a2 G=>ab PP (.ld (.c (.ptr n3 0 0)) 8 true) G λ Q _=>ky (· = BZ op (if b=true then 3 else 1)) Q G,λ f h ⟨_,_,hh⟩=>hh,?_⟩;cases b
 ·rw[ae];simp only[aa,true_and];exact⟨_,rfl,fin _ 1 H⟩
 ·rw[af];simp only[↓H.fa 0 rfl,Nat.zero_add,↓H.bI 0 (j:=7) rfl rfl];rw[H.ia 1 rfl (by omega) (by omega),show((0:Int)).toNat=0 from rfl,H.fa 1 rfl,kX,H.get 1 _ _ rfl];refine⟨rfl,?_⟩;rw[Nat.add_zero,kW,H.get 1 _ _ rfl];refine⟨rfl,λ x hx=>by simp[D.cells]at hx;subst hx;rfl,by simp,by omega,λ y hy=>?_⟩;simp only[List.getElem?_cons_zero,Option.some.injEq]at hy;subst hy;simp only[aa,true_and];have a6:=H.bK 1 (s':=.arr 14 [vV (qf 3),(np op).e,vV ue,vV su]) rfl (by simp);exact⟨_,rfl,fin _ 3 a6⟩
end Go.Am
namespace Go.Am
open Go Go.Proofs
theorem MP:aK PP iE [] (· = .bool true):=by
 refine aZ yz (aG _ _ _) rfl (xX _) ?_;dsimp only[qA,xL,xP,xS,yL,yP];have c4:∀{a b:D},∀d,d∈[D.int .i64 3,.bool false]->d.vd=true/\aL d:=λ d hd=>by simp at hd;rcases hd with rfl|rfl;exact aI.pair;exact C5.pair
 have c3:∀d,d∈[D.int .i64 2,.bool true]->d.vd=true/\aL d:=λ d hd=>by simp at hd;rcases hd with rfl|rfl;exact aI.pair;exact C5.pair
 have c0:∀{op k:Int},∀y,y∈[D.int .i64 4,.int .i64 1,.int .i64 1,.int .i64 0,.int .i64 0,.nil,.nil,.sl [vV (qf k),(np op).e,vV ue,vV su]]->y.one=true:=λ y hy=>by simp at hy;rcases hy with rfl|rfl|rfl|rfl|rfl<;>rfl
 refine aW (GC (op:=3) (b:=false)) (c4 (a:=.nil) (b:=.nil)) ?_;rintro _ rfl;refine Vs.nil.alloc λ n3 h4 V4=>?_
 refine V4.mY (cs':=[.int .i64 4,.int .i64 1,.int .i64 1,.int .i64 0,.int .i64 0,.nil,.nil,.sl [vV (qf 1),(np 3).e,vV ue,vV su]]) 0 rfl rfl rfl c0 λ h6 V6=>?_
 simp only[List.set_cons_zero]at V6;refine aW (GC (op:=2) (b:=true)) c3 ?_;rintro _ rfl;refine V6.alloc λ n9 h5 c8=>?_
 refine c8.mY (cs':=[.int .i64 4,.int .i64 1,.int .i64 1,.int .i64 0,.int .i64 0,.nil,.nil,.sl [vV (qf 3),(np 2).e,vV ue,vV su]]) 0 rfl rfl rfl c0 λ c2 I=>?_
 replace I:Vs c2 [(n9,.box (BZ 2 3)),(n3,.box (BZ 3 1))]:=I;have p1:∀{op k:Int},∀d,d∈[BZ op k]->d.vd=true/\aL d:=λ d hd=>by simp only[List.mem_singleton]at hd;subst hd;exact yU.pair
 rw[I.fV 1 (s:=8) (cs:=[.int .i64 4,.int .i64 1,.int .i64 1,.int .i64 0,.int .i64 0,.nil,.nil,.sl [vV (qf 1),(np 3).e,vV ue,vV su]]) rfl rfl];refine ag.arg (ds':=[ea.e]) QR ?_;refine PX JC.g I λ c1=>?_
 refine aW (PL JC.g) (λ d hd=>by simp only[List.mem_singleton]at hd;subst hd;exact ea.b9.pair) ?_;rintro _ rfl;rw[ac8];have d2:∀{S:List Int}{R:List (List Int)}(x:D),x∈[D.sl (aQ S),.sl (R.map λ l=>.sl (aQ l))]->x.one=true:=λ x hx=>by simp at hx;rcases hx with rfl|rfl<;>rfl
 have a1:∀{S:List Int}{R:List (List Int)},kx (jz S R):=bw (by simp);refine I.alloc λ n17 g8 c7=>?_
 refine c7.mY (cs':=[.sl (aQ [0,1]),.sl ([[0,1,2,3],[1,2,3]].map λ l=>.sl (aQ l))]) 0 rfl rfl rfl d2 λ g7 a2=>?_
 simp only[List.set_cons_zero]at a2;rw[a2.fV 1 (s:=8) (cs:=[.int .i64 4,.int .i64 1,.int .i64 1,.int .i64 0,.int .i64 0,.nil,.nil,.sl [vV (qf 3),(np 2).e,vV ue,vV su]]) rfl rfl];refine ag.arg (ds':=[eb.e]) QR ?_;refine PX Gy.g a2 λ b7=>?_
 refine aW (PL Gy.g) (λ d hd=>by simp only[List.mem_singleton]at hd;subst hd;exact eb.b9.pair) ?_;rintro _ rfl;rw[ac7];refine a2.alloc λ n25 g6 c6=>?_
 refine c6.mY (cs':=[.sl (aQ [0,1]),.sl ([[0],[1,2,3]].map λ l=>.sl (aQ l))]) 0 rfl rfl rfl d2 λ H G=>?_
 replace G:Vs H [(n25,.box (jz [0,1] [[0],[1,2,3]])),(n17,.box (jz [0,1] [[0,1,2,3],[1,2,3]])),(n9,.box (BZ 2 3)),(n3,.box (BZ 3 1))]:=G;have l3:∀{KH:HKq},ab PP (.ld (.c (.ptr n3 0 0)) 8 true) H KH=KH (BZ 3 1) H:=λ {KH}=>G.fV 3 (s:=8) (cs:=[.int .i64 4,.int .i64 1,.int .i64 1,.int .i64 0,.int .i64 0,.nil,.nil,.sl [vV (qf 1),(np 3).e,vV ue,vV su]]) rfl rfl
 have l9:∀{KH:HKq},ab PP (.ld (.c (.ptr n9 0 0)) 8 true) H KH=KH (BZ 2 3) H:=λ {KH}=>G.fV 2 (s:=8) (cs:=[.int .i64 4,.int .i64 1,.int .i64 1,.int .i64 0,.int .i64 0,.nil,.nil,.sl [vV (qf 3),(np 2).e,vV ue,vV su]]) rfl rfl
 have Z:∀{h:Heap}{L:LSq}{KH:HKq},Vs h L->(n17,Slot.box (jz [0,1] [[0,1,2,3],[1,2,3]]))∈L->ab PP (.ld (.c (.ptr n17 0 0)) 2 true) h KH=KH (jz [0,1] [[0,1,2,3],[1,2,3]]) h:=λ V hm=>V.Jr (cs:=[.sl (aQ [0,1]),.sl ([[0,1,2,3],[1,2,3]].map λ l=>.sl (aQ l))]) hm rfl
 have a8:∀{h:Heap}{L:LSq}{KH:HKq},Vs h L->(n25,Slot.box (jz [0,1] [[0],[1,2,3]]))∈L->ab PP (.ld (.c (.ptr n25 0 0)) 2 true) h KH=KH (jz [0,1] [[0],[1,2,3]]) h:=λ V hm=>V.Jr (cs:=[.sl (aQ [0,1]),.sl ([[0],[1,2,3]].map λ l=>.sl (aQ l))]) hm rfl
 have e3:∀{K:D->Prop},au PP (.ld (.c (.ptr n3 0 0)) 8 true) H K=K (BZ 3 1):=λ {K}=>by rw[mc,l3]
 have e9:∀{K:D->Prop},au PP (.ld (.c (.ptr n9 0 0)) 8 true) H K=K (BZ 2 3):=λ {K}=>by rw[mc,l9]
 have pC:∀{op k:Int}{S:List Int}{R:List (List Int)},∀d,d∈[BZ op k,jz S R]->d.vd=true/\aL d:=λ d hd=>by simp only[List.mem_cons,List.not_mem_nil,or_false]at hd;rcases hd with rfl|rfl;exact yU.pair;exact a1.pair
 have b1:∀{S:List Int}{R:List (List Int)},S.length<=100->R.length<=100->(∀l∈R,l.length<=100)->aK PP bZ [BZ 3 1,jz S R] (· = .int .i64 (Q0 ea S R)):=λ h1 h2 h3=>aK.arg QQ (aK.mono (λ r=>QZ) (MT JC.g (by omega) (by omega) λ l hl=>by have:=h3 l hl;omega))
 have c5:∀{S:List Int}{R:List (List Int)},S.length<=100->R.length<=100->(∀l∈R,l.length<=100)->aK PP bZ [BZ 2 3,jz S R] (· = .int .i64 (Q0 eb S R)):=λ h1 h2 h3=>aK.arg QQ (aK.mono (λ r=>QZ) (MT Gy.g (by omega) (by omega) λ l hl=>by have:=h3 l hl;omega))
 have r1:Q0 ea [0,1] [[0,1,2,3],[1,2,3]]=0:=by unfold Q0;rw[if_pos ab9]
 have r2:Q0 eb [0,1] [[0,1,2,3],[1,2,3]]=0:=by unfold Q0;rw[if_pos ab8]
 have r3:Q0 ea [0,1] [[0],[1,2,3]]=100:=by unfold Q0;rw[if_neg ab7]
 have r4:Q0 ea [] []=100:=by unfold Q0;rw[if_neg aca]
 have Q:(n17,Slot.box (jz [0,1] [[0,1,2,3],[1,2,3]]))∈[(n25,Slot.box (jz [0,1] [[0],[1,2,3]])),(n17,.box (jz [0,1] [[0,1,2,3],[1,2,3]])),(n9,.box (BZ 2 3)),(n3,.box (BZ 3 1))]:=by simp
 have a7:(n25,Slot.box (jz [0,1] [[0],[1,2,3]]))∈[(n25,Slot.box (jz [0,1] [[0],[1,2,3]])),(n17,.box (jz [0,1] [[0,1,2,3],[1,2,3]])),(n9,.box (BZ 2 3)),(n3,.box (BZ 3 1))]:=by simp
 simp only[↓l3,↓Z G Q];refine aW (b1 (by simp) (by simp) (by simp)) pC ?_;rintro _ rfl;rw[r1,Ik rfl];simp only[↓gS,↓l9,↓Z G Q];refine aW (c5 (by simp) (by simp) (by simp)) pC ?_;rintro _ rfl;rw[r2,Ik rfl];simp only[↓gS,↓l3,↓a8 G a7];refine aW (b1 (by simp) (by simp) (by simp)) pC ?_;rintro _ rfl;rw[r3,Ik rfl];simp only[↓gS,↓l3]
 have w0:OS [BZ 3 1,.agg [.nil,.nil]] [BZ 3 1,jz [] []]:=.cons (.refl _) (.cons (.agg _ _ rfl λ i x y h1 h2=>by
  match i with
  | 0|1=>cases h1;cases h2;exact .nil
  | i+2=>cases h1) .nil)
 refine aW (aK.arg w0 (b1 (S:=[]) (R:=[]) (by simp) (by simp) (by simp))) (λ d hd=>by simp only[List.mem_cons,List.not_mem_nil,or_false]at hd;rcases hd with rfl|rfl;exact yU.pair;exact(bw (by simp[D.vone]):kx (.agg [.nil,.nil])).pair) ?_;rintro _ rfl;rw[r4,Ik rfl];simp only[↓gS];have mA:∀{U R:List Bool}{a b:D},CD a U->CD b R->aK PP bY [BZ 3 1,.agg [a,b]] (· = .int .i64 (Pg ea U R)):=λ wa wb=>aK.arg QQ (MR JC wa wb)
 have mB:∀{U R:List Bool}{a b:D},CD a U->CD b R->aK PP bY [BZ 2 3,.agg [a,b]] (· = .int .i64 (Pg eb U R)):=λ wa wb=>aK.arg QQ (MR Gy wa wb)
 have pM:∀{op k:Int}{U R:List Bool},∀d,d∈[BZ op k,uE U R]->d.vd=true/\aL d:=λ d hd=>by simp only[List.mem_cons,List.not_mem_nil,or_false]at hd;rcases hd with rfl|rfl;exact yU.pair;exact ML.pair
 rw[e3,e3];refine db (aK.arg QR (LF JC c1)) p1 ?_;refine db (mA (Or.inl rfl) (Or.inl rfl)) pM ?_;rw[adj,Ik rfl];simp only[Nh];rw[e9,e9];refine db (aK.arg QR (LF Gy b7)) p1 ?_;refine db (mB (Or.inl rfl) (Or.inl rfl)) pM ?_;rw[adi b7,Ik rfl];simp only[gE,aC,if_false];rw[e3,nY rfl];refine db (mA (U:=[]) (R:=[]) (Or.inr ⟨rfl,rfl⟩) (Or.inr ⟨rfl,rfl⟩)) (λ d hd=>by simp only[List.map_cons,List.map_nil,Arg.get,List.mem_cons,List.not_mem_nil,or_false]at hd;rcases hd with rfl|rfl;exact yU.pair;exact(bw (by simp[D.vone]):kx (.agg [.nil,.nil])).pair) ?_;rw[adh,Ik rfl];simp only[gE,aC,if_false];rw[Z G Q];refine YH G λ e4 g5 V1=>?_
 refine acn V1 λ b5 g4 V2=>?_
 refine YG V2 λ b4 g3 V3=>?_
 refine YK V3 λ e2 g2 V4=>?_
 rw[cx rfl];have sm:∀{S:List Int}{R:List (List Int)},S.length<=100->R.length<=100->(∀l∈R,l.length<=100)->aK PP iC [jz S R,jz S R] (· = .bool true):=λ h1 h2 h3=>Ot (by omega) (by omega) λ l hl=>by have:=h3 l hl;omega
 have pm:∀{a b c d:Nat×Slot}{L:LSq},(d::c::b::a::L).Perm (a::d::b::c::L):=λ {a b c d L}=>by
  exact(List.perm_middle (l₁:=[d,c,b])).trans (.cons _ (.cons _ (.swap _ _ _)))
 refine LO (S:=[0,1]) (A:=[(b5,[0,1,2,3]),(b4,[1,2,3])]) (V4.perm pm) a1 (sm (by simp) (by simp) (by simp)) rfl λ g1 a6=>?_
 simp only[↓gS,↓a8 a6 a7];refine YH a6 λ e1 g0 V5=>?_
 try simp only[↓gS]
 refine YI V5 λ b3 e8 V6=>?_
 try simp only[↓gS]
 refine YG V6 λ b2 e7 V7=>?_
 try simp only[↓gS]
 refine YK V7 λ e0 e6 V8=>?_
 try simp only[↓gS]
 try rw[cx rfl]
 try simp only[↓gS]
 refine LO (S:=[0,1]) (A:=[(b3,[0]),(b2,[1,2,3])]) (V8.perm pm) a1 (sm (by simp) (by simp) (by simp)) rfl λ e5 V9=>?_
 have tg:∀{S:List Int}{R:List (List Int)}(a b:Int),R.length<=100->(∀l∈R,l.length<=100)->aK PP bM [jz S R,.int .i64 a,.int .i64 b] (· = .bool (B9 R a b)):=λ a b h2 h3=>PJ (by omega) λ l hl=>by have:=h3 l hl;omega
 have pT:∀{S:List Int}{R:List (List Int)}(a b:Int),∀d,d∈[jz S R,.int .i64 a,.int .i64 b]->d.vd=true/\aL d:=λ a b d hd=>by simp only[List.mem_cons,List.not_mem_nil,or_false]at hd;rcases hd with rfl|rfl|rfl;exact a1.pair;exact aI.pair;exact aI.pair
 simp only[↓gS,↓Z V9 Q];refine aW (tg 0 3 (by simp) (by simp)) (pT 0 3) ?_;rintro _ rfl;rw[show B9 [[0,1,2,3],[1,2,3]] 0 3=true by decide];simp only[↓gS,↓a8 V9 a7];refine aW (tg 0 3 (by simp) (by simp)) (pT 0 3) ?_;rintro _ rfl;rw[show B9 [[0],[1,2,3]] 0 3=false by decide];simp only[↓gS,Bool.not_false];rw[bb]
end Go.Am
namespace Go.Am
open Go Go.Proofs
set_option maxRecDepth 100000
theorem acY:Tryz.prog.underlying 22=some (.slice 5):=by kernel_rfl
theorem u5_:Tryz.prog.underlying 5=some (.int .u8):=by kernel_rfl
theorem t24:structL Tryz.prog 24=some [(22,0)]:=by kernel_rfl
theorem z24:Tryz.prog.cellsOf 24=1:=by kernel_rfl
theorem z22:Tryz.prog.cellsOf 22=1:=by kernel_rfl
theorem z5:Tryz.prog.cellsOf 5=1:=by kernel_rfl
theorem Td:IntKind.u8.min=0:=rfl
theorem Ye:IntKind.u8.max=255:=rfl
theorem aaN {m:Nat}{ds:List D}(h:HasTy Tryz.prog (m+2) 22 ds):∃bs:List Nat,ds=[rW bs]/\(∀b∈bs,b<=255)/\bs.length<=9223372036854775807:=by
 obtain⟨xs,h1,h2,h3⟩:=Pm acY u5_ h;refine⟨xs.map Int.toNat,?_,λ b hb=>?_,by unfold maxLen at h2;simp;omega⟩
 ·rw[h1,rW,List.map_map];congr 2;refine List.map_congr_left λ x hx=>?_
  have:=h3 x hx;rw[Td]at this;show D.int .u8 x=D.int .u8 ((x.toNat:Nat):Int)
  rw[Int.toNat_of_nonneg this.1]
 ·simp only[List.mem_map]at hb;obtain⟨x,hx,rfl⟩:=hb;have:=h3 x hx;rw[Td,Ye]at this;omega
theorem Zo {m:Nat}{ds:List D}(h:HasTy Tryz.prog (m+3) 24 ds):∃bs:List Nat,mkElem Tryz.prog 24 ds=Cq bs/\(∀b∈bs,b<=255)/\bs.length<=9223372036854775807:=by
 obtain⟨H,Q⟩:=CV t24 h;rw[z24]at H;have q:=Q (22,0) (by simp);simp only[z22,List.drop_zero]at q
 match ds,H with
 | [d],_ =>
  obtain⟨bs,I,hb,G⟩:=aaN q;simp at I;subst I;exact⟨bs,by rw[RG t24,Cq],hb,G⟩
theorem EK {m:Nat}{ds:List D}(h:HasTy Tryz.prog (m+1) 5 ds):∃x:Nat,ds=[.int .u8 (x:Int)]/\x<=255:=by
 obtain⟨g,h1,h2,h3⟩:=Fp u5_ h;rw[Td]at h2;rw[Ye]at h3;exact⟨g.toNat,by rw[h1,Int.toNat_of_nonneg h2],by omega⟩
theorem aaQ:Tryz.prog.underlying 26=some (.slice 87):=by kernel_rfl
theorem aaO:Tryz.prog.underlying 87=some (.array 3 5):=by kernel_rfl
theorem z87:Tryz.prog.cellsOf 87=3:=by kernel_rfl
theorem Y4 {m:Nat}{ds:List D}(h:HasTy Tryz.prog (m+2) 87 ds):∃p:Nat×Nat×Nat,mkElem Tryz.prog 87 ds=SO p/\p.1<=255/\p.2.1<=255/\p.2.2<=255:=by
 obtain⟨H,G⟩:=Gw aaO h;rw[z87]at H;simp only[z5,Nat.mul_one]at G;obtain⟨a,ha,Q⟩:=EK (G 0 (by omega));obtain⟨b,hb,I⟩:=EK (G 1 (by omega));obtain⟨c,hc,lc⟩:=EK (G 2 (by omega));rw[NH aaO]
 match ds,H with
 | [d0,d1,d2],_ =>
  simp at ha hb hc;exact⟨(a,b,c),by rw[ha,hb,hc,SO],Q,I,lc⟩
theorem To {m:Nat}{ds:List D}(h:HasTy Tryz.prog (m+3) 26 ds):∃xs:List (Nat×Nat×Nat),ds=[Tp xs]/\(∀p∈xs,p.1<=255/\p.2.1<=255/\p.2.2<=255)/\xs.length<=9223372036854775807:=by
 obtain⟨xs,h1,h2,h3⟩:=Gv aaQ h
 have:∃ys:List (Nat×Nat×Nat),xs.map (mkElem Tryz.prog 87)=ys.map SO/\ys.length=xs.length/\∀p∈ys,p.1<=255/\p.2.1<=255/\p.2.2<=255:=by
  clear h1 h2
  induction xs with
  | nil=>exact⟨[],rfl,rfl,λ x hx=>by cases hx⟩
  | cons x r V =>
   obtain⟨ys,Q,I,H⟩:=V λ x hx=>h3 x (List.mem_cons_of_mem _ hx)
   obtain⟨p,hp,G⟩:=Y4 (h3 x List.mem_cons_self);refine⟨p::ys,by simp only[List.map_cons,Q,hp],by simp[I],λ y hy=>?_⟩;rcases List.mem_cons.1 hy with rfl|hy
   ·exact G
   ·exact H y hy
 obtain⟨ys,Q,I,H⟩:=this;exact⟨ys,by rw[h1,Q,Tp],H,by rw[I];unfold maxLen at h2;omega⟩
theorem u3_:Tryz.prog.underlying 3=some (.int .i64):=by kernel_rfl
theorem aaP:Tryz.prog.underlying 29=some (.array 2 28):=by kernel_rfl
theorem t28:structL Tryz.prog 28=some [(5,0),(5,1),(5,2),(3,3)]:=by kernel_rfl
theorem z28:Tryz.prog.cellsOf 28=4:=by kernel_rfl
theorem z29:Tryz.prog.cellsOf 29=8:=by kernel_rfl
theorem z3:Tryz.prog.cellsOf 3=1:=by kernel_rfl
theorem YE {m:Nat}{ds:List D}(h:HasTy Tryz.prog (m+2) 28 ds):∃(p i j:Nat) (b:Int),ds=[.int .u8 (p:Int),.int .u8 (i:Int),.int .u8 (j:Int),.int .i64 b]/\i<=255/\j<=255:=by
 obtain⟨Z,G⟩:=CV t28 h;rw[z28]at Z;have V:=G (5,0) (by simp);have Q:=G (5,1) (by simp);have I:=G (5,2) (by simp);have H:=G (3,3) (by simp);simp only[z5,z3]at V Q I H;obtain⟨p,hp,-⟩:=EK V;obtain⟨i,hi,li⟩:=EK Q;obtain⟨j,hj,lj⟩:=EK I;obtain⟨b,hb,-,-⟩:=Fp u3_ H
 match ds,Z with
 | [d0,d1,d2,d3],_ =>
  simp at hp hi hj hb;exact⟨p,i,j,b,by rw[hp,hi,hj,hb],li,lj⟩
theorem Z4 {m:Nat}{ds:List D}(h:HasTy Tryz.prog (m+3) 29 ds):∃(p0 i0 j0 p1 i1 j1:Nat) (b0 b1:Int),mkElem Tryz.prog 29 ds=.agg (Sk p0 i0 j0 b0 p1 i1 j1 b1)/\i0<=255/\j0<=255/\i1<=255/\j1<=255:=by
 obtain⟨Q,G⟩:=Gw aaP h;rw[z29]at Q;simp only[z28]at G;have I:=G 0 (by omega);have H:=G 1 (by omega)
 match ds,Q with
 | [d0,d1,d2,d3,d4,d5,d6,d7],_ =>
  simp at I H;obtain⟨p0,i0,j0,b0,Z,l0,m0⟩:=YE I;obtain⟨p1,i1,j1,b1,V,l1,m1⟩:=YE H;simp only[ah,and_true]at Z V;obtain⟨a0,a1,a2,a3⟩:=Z;obtain⟨a4,a5,a6,a7⟩:=V;exact⟨p0,i0,j0,p1,i1,j1,b0,b1,by rw[NH aaP,a0,a1,a2,a3,a4,a5,a6,a7,Sk],l0,m0,l1,m1⟩
theorem abw (xs:List D) (h:Ki Tryz.prog 12 Tryz.f3.params.toList xs):aK Tryz.prog 3 xs (· = .bool true):=by
 have hp:Tryz.f3.params.toList=[24,26,29]:=by kernel_rfl
 rw[hp]at h;obtain⟨c1,r1,rfl,h1,c2,r2,rfl,h2,c3,r3,rfl,h3,rfl⟩:=h;obtain⟨bs,e1,b1,b2⟩:=Zo h1;obtain⟨ys,rfl,hy,G⟩:=To h2;obtain⟨p0,i0,j0,p1,i1,j1,x0,x1,Z,V,I,Q,H⟩:=Z4 h3;have e2:mkElem Tryz.prog 26 [Tp ys]=Tp ys:=Ua aaQ _;show aK Tryz.prog 3 [mkElem Tryz.prog 24 c1,mkElem Tryz.prog 26 [Tp ys],mkElem Tryz.prog 29 c3] _
 rw[e1,e2,Z];exact WU MP b1 b2 hy G V I Q H
end Go.Am
